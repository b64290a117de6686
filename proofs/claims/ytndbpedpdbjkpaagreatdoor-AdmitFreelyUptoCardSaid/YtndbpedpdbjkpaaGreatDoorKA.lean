/- What the laws lean on: W, R, Open, Names; what is used. Its conditions: none. -/
import Derived.Calls
import Derived.Scope
import Derived.Below
import Derived.Deep.Quiet
import Derived.StillTail
import Derived.Laws.Strings
import Derived.KernelRfl
import Derived.Laws.AppendOwn
import Derived.IntWalk
import Derived.ProofKit
import Derived.OpenShut
import Derived.Stop.LaidErr
import Derived.Lib.LaidTab
import Derived.Deep.DeepHandedRow
import Derived.Test.YtndbpedpdbjkpaaGreatDoorRows
open Go.IntKind (i64)
open Go.Proofs.Tryz (prog)
set_option linter.unusedVariables false
set_option linter.unusedSimpArgs false
namespace Go.Pk
theorem dFx {p : Prop} {_ : Decidable p} : decide p = false <-> Not p := decide_eq_false_iff_not
theorem dTx {p : Prop} [Decidable p] : (decide p = true) = p := decide_eq_true_eq
open Go.RowKit (Below)
def mkS (l : List UInt8) : ByteArray := ⟨l.toArray⟩
def toL (b : ByteArray) : List UInt8 := b.data.toList
@[simp] theorem toL_mkS (l : List UInt8) : toL (mkS l) = l := rfl
inductive S0 where
 | int (k : IntKind) | bool | str | slice | ptr | map | any
inductive Sh where
 | one (s : S0)
 | agg (l : List S0)
def ex0 : S0 -> (Value -> Prop) -> Prop
 | .int k, K => ∃ n : Int, K (.int k n)
 | .bool, K => ∃ b : Bool, K (.bool b)
 | .str, K => ∃ l : List UInt8, K (.string (mkS l))
 | .slice, K => ∃ (a : Option Addr) (n c : Nat), K (.slice a n c)
 | .ptr, K => ∃ a : Option Addr, K (.pointer a)
 | .map, K => ∃ r : Option Nat, K (.map r)
 | .any, K => ∃ v : Value, K v
def exL0 : List S0 -> (List Value -> Prop) -> Prop
 | [], K => K []
 | s :: l, K => ex0 s fun v => exL0 l fun vs => K (v :: vs)
def exS : Sh -> (Value -> Prop) -> Prop
 | .one s, K => ex0 s K
 | .agg l, K => exL0 l fun vs => K (.agg vs.toArray)
def exL : List Sh -> (List Value -> Prop) -> Prop
 | [], K => K []
 | s :: l, K => exS s fun v => exL l fun vs => K (v :: vs)
def exR : List Sh -> (Value -> Prop) -> Prop
 | [s], K => exS s K
 | l, K => exL l fun vs => K (.tuple vs.toArray)
theorem qrJ {s : S0} {K : Value -> Prop} (h : ex0 s K) : ∃ v, K v := by
 cases s <;> simp only [ex0] at h <;> (first | (obtain ⟨_, h⟩ := h; exact ⟨_, h⟩) | (obtain ⟨_, _, _, h⟩ := h; exact ⟨_, h⟩))
theorem qqg : ∀ {l : List S0} {K : List Value -> Prop}, exL0 l K -> ∃ v, K v
 | [], _, h => ⟨_, h⟩
 | _ :: _, _, h => let ⟨_, h1⟩ := qrJ h; let ⟨_, h2⟩ := qqg h1; ⟨_, h2⟩
theorem qpT {s : Sh} {K : Value -> Prop} (h : exS s K) : ∃ v, K v := by
 cases s with
 | one s => exact qrJ h
 | agg l => obtain ⟨v, h⟩ := qqg h; exact ⟨_, h⟩
theorem qsG : ∀ {l : List Sh} {K : List Value -> Prop}, exL l K -> ∃ v, K v
 | [], _, h => ⟨_, h⟩
 | _ :: _, _, h => let ⟨_, h1⟩ := qpT h; let ⟨_, h2⟩ := qsG h1; ⟨_, h2⟩
theorem qlI {l : List Sh} {K : Value -> Prop} (h : exR l K) : ∃ v, K v := by
 unfold exR at h
 split at h
 · exact qpT h
 · obtain ⟨v, h⟩ := qsG h; exact ⟨_, h⟩
def all0 : S0 -> (Value -> Prop) -> Prop
 | .int k, K => ∀ n : Int, K (.int k n)
 | .bool, K => ∀ b : Bool, K (.bool b)
 | .str, K => ∀ l : List UInt8, K (.string (mkS l))
 | .slice, K => ∀ (a : Option Addr) (n c : Nat), K (.slice a n c)
 | .ptr, K => ∀ a : Option Addr, K (.pointer a)
 | .map, K => ∀ r : Option Nat, K (.map r)
 | .any, K => ∀ v : Value, K v
def qrw : List S0 -> (List Value -> Prop) -> Prop
 | [], K => K []
 | s :: l, K => all0 s fun v => qrw l fun vs => K (v :: vs)
def allS : Sh -> (Value -> Prop) -> Prop
 | .one s, K => all0 s K
 | .agg l, K => qrw l fun vs => K (.agg vs.toArray)
def allL : List Sh -> (List Value -> Prop) -> Prop
 | [], K => K []
 | s :: l, K => allS s fun v => allL l fun vs => K (v :: vs)
def F0 (s : S0) (T : Type) : Type := match s with
 | .int _ => Int -> T
 | .bool => Bool -> T
 | .str => List UInt8 -> T
 | .slice => Option Addr -> Nat -> Nat -> T
 | .ptr => Option Addr -> T
 | .map => Option Nat -> T
 | .any => Value -> T
def FL0 : List S0 -> Type -> Type
 | [], T => T
 | s :: l, T => F0 s (FL0 l T)
def FSh : Sh -> Type -> Type
 | .one s, T => F0 s T
 | .agg l, T => FL0 l T
def FL : List Sh -> Type -> Type
 | [], T => T
 | s :: l, T => FSh s (FL l T)
abbrev FP (l : List Sh) : Type := FL l (World -> Prop)
def dF0 {T : Type} (d : T) : (s : S0) -> F0 s T
 | .int _ => fun _ => d
 | .bool => fun _ => d
 | .str => fun _ => d
 | .slice => fun _ _ _ => d
 | .ptr => fun _ => d
 | .map => fun _ => d
 | .any => fun _ => d
def dL0 {T : Type} (d : T) : (l : List S0) -> FL0 l T
 | [] => d
 | s :: l => dF0 (dL0 d l) s
def dS {T : Type} (d : T) : (s : Sh) -> FSh s T
 | .one s => dF0 d s
 | .agg l => dL0 d l
def dL {T : Type} (d : T) : (l : List Sh) -> FL l T
 | [] => d
 | s :: l => dS (dL d l) s
def ap0 {T : Type} (d : T) : (s : S0) -> F0 s T -> Value -> T
 | .int k, f, .int k' n => if k = k' then f n else d
 | .bool, f, .bool b => f b
 | .str, f, .string b => f (toL b)
 | .slice, f, .slice a n c => f a n c
 | .ptr, f, .pointer a => f a
 | .map, f, .map r => f r
 | .any, f, v => f v
 | _, _, _ => d
def apL0 {T : Type} (d : T) : (l : List S0) -> FL0 l T -> List Value -> T
 | [], f, [] => f
 | s :: l, f, v :: vs => apL0 d l (ap0 (dL0 d l) s f v) vs
 | _, _, _ => d
def apS {T : Type} (d : T) : (s : Sh) -> FSh s T -> Value -> T
 | .one s, f, v => ap0 d s f v
 | .agg l, f, .agg cs => apL0 d l f cs.toList
 | _, _, _ => d
def apL {T : Type} (d : T) : (l : List Sh) -> FL l T -> List Value -> T
 | [], f, [] => f
 | s :: l, f, v :: vs => apL d l (apS (dL d l) s f v) vs
 | _, _, _ => d
abbrev ap (l : List Sh) (f : FP l) (vs : List Value) : World -> Prop := apL (fun _ => False) l f vs
theorem qso {T : Type} {d : T} {s : S0} {f : F0 s T} {K : T -> Value -> Prop} (h : all0 s fun v => K (ap0 d s f v) v) (hd : ∀ v, K d v) : ∀ v, K (ap0 d s f v) v := by
 intro v
 cases s <;> cases v <;> (first | exact hd _ | exact h _ | exact h _ _ _ | skip)
 case int.int k k' n =>
   by_cases e : k = k'
   · subst e; exact h n
   · simp only [ap0, if_neg e]; exact hd _
theorem quI {T : Type} {d : T} (s : S0) (v : Value) : ap0 d s (dF0 d s) v = d := by
 cases s
 case int k =>
   cases v
   case int k' n =>
     by_cases e : k = k'
     · subst e; simp only [ap0, if_true]; rfl
     · simp only [ap0, if_neg e]
   all_goals rfl
 all_goals (cases v <;> rfl)
theorem qrv {T : Type} {d : T} : ∀ (l : List S0) (vs : List Value), apL0 d l (dL0 d l) vs = d
 | [], [] => rfl
 | [], _ :: _ => rfl
 | _ :: _, [] => rfl
 | s :: l, v :: vs => by
   have h : apL0 d (s :: l) (dL0 d (s :: l)) (v :: vs) = apL0 d l (ap0 (dL0 d l) s (dF0 (dL0 d l) s) v) vs := rfl
   rw [h, quI]; exact qrv l vs
theorem qva {T : Type} {d : T} (s : Sh) (v : Value) : apS d s (dS d s) v = d := by
 cases s with
 | one s => exact quI s v
 | agg l =>
   cases v
   case agg cs => exact qrv _ _
   all_goals rfl
theorem quU {T : Type} {d : T} : ∀ (l : List Sh) (vs : List Value), apL d l (dL d l) vs = d
 | [], [] => rfl
 | [], _ :: _ => rfl
 | _ :: _, [] => rfl
 | s :: l, v :: vs => by
   have h : apL d (s :: l) (dL d (s :: l)) (v :: vs) = apL d l (apS (dL d l) s (dS (dL d l) s) v) vs := rfl
   rw [h, qva]; exact quU l vs
theorem qqG {K : List Value -> Prop} : ∀ (l : List S0), (∀ vs, K vs) -> qrw l K := by
 intro l
 induction l generalizing K with
 | nil => intro h; exact h _
 | cons s l ih => intro h; cases s <;> (first | exact fun _ => ih fun _ => h _ | exact fun _ _ _ => ih fun _ => h _)
theorem qtZ {K : List Value -> Prop} : ∀ (l : List Sh), (∀ vs, K vs) -> allL l K := by
 intro l
 induction l generalizing K with
 | nil => intro h; exact h _
 | cons s l ih =>
   intro h
   cases s with
   | one s => cases s <;> (first | exact fun _ => ih fun _ => h _ | exact fun _ _ _ => ih fun _ => h _)
   | agg s => exact qqG s fun _ => ih fun _ => h _
theorem qqJ {T : Type} {d : T} : ∀ {l : List S0} {f : FL0 l T} {K : T -> List Value -> Prop}, (qrw l fun vs => K (apL0 d l f vs) vs) -> (∀ vs, K d vs) -> ∀ vs, K (apL0 d l f vs) vs
 | [], f, K, h, hd, vs => by cases vs with
   | nil => exact h
   | cons => exact hd _
 | s :: l, f, K, h, hd, vs => by
   cases vs with
   | nil => exact hd _
   | cons v vs =>
     have h1 := qso (d := dL0 d l) (s := s) (f := f) (K := fun g v => qrw l fun vs => K (apL0 d l g vs) (v :: vs)) h
       (fun v => by simp only [qrv]; exact qqG l fun _ => hd _) v
     exact qqJ (f := ap0 (dL0 d l) s f v) (K := fun t vs => K t (v :: vs)) h1 (fun _ => hd _) vs
theorem qtP {T : Type} {d : T} {s : Sh} {f : FSh s T} {K : T -> Value -> Prop} (h : allS s fun v => K (apS d s f v) v) (hd : ∀ v, K d v) : ∀ v, K (apS d s f v) v := by
 intro v
 cases s with
 | one s => exact qso (K := K) h hd v
 | agg l =>
   cases v <;> (first | exact hd _ | skip)
   case agg cs =>
     have := qqJ (d := d) (l := l) (f := f) (K := fun t vs => K t (.agg vs.toArray)) h (fun _ => hd _) cs.toList
     simpa [apS] using this
theorem qrQ {T : Type} {d : T} : ∀ {l : List Sh} {f : FL l T} {K : T -> List Value -> Prop}, (allL l fun vs => K (apL d l f vs) vs) -> (∀ vs, K d vs) -> ∀ vs, K (apL d l f vs) vs
 | [], f, K, h, hd, vs => by cases vs with
   | nil => exact h
   | cons => exact hd _
 | s :: l, f, K, h, hd, vs => by
   cases vs with
   | nil => exact hd _
   | cons v vs =>
     have h1 := qtP (d := dL d l) (s := s) (f := f) (K := fun g v => allL l fun vs => K (apL d l g vs) (v :: vs)) h
       (fun v => by simp only [quU]; exact qtZ l fun _ => hd _) v
     exact qrQ (f := apS (dL d l) s f v) (K := fun t vs => K t (v :: vs)) h1 (fun _ => hd _) vs
inductive PV where
 | val (v : Value)
 | part (c : Prop) (v : Value)
def qub (op : BinOp) (k : IntKind) (a b : Int) : Option PV :=
 match op with
 | .add => some (.val (.int k (k.wrap (a + b))))
 | .sub => some (.val (.int k (k.wrap (a - b))))
 | .mul => some (.val (.int k (k.wrap (a * b))))
 | .quo => some (.part (b ≠ 0) (.int k (k.wrap (a.tdiv b))))
 | .rem => some (.part (b ≠ 0) (.int k (a.tmod b)))
 | .and => some (.val (.int k (k.wrap ((BitVec.ofInt k.bits a &&& BitVec.ofInt k.bits b).toNat : Nat))))
 | .or => some (.val (.int k (k.wrap ((BitVec.ofInt k.bits a ||| BitVec.ofInt k.bits b).toNat : Nat))))
 | .xor => some (.val (.int k (k.wrap ((BitVec.ofInt k.bits a ^^^ BitVec.ofInt k.bits b).toNat : Nat))))
 | .eql => some (.val (.bool (a == b)))
 | .neq => some (.val (.bool (a != b)))
 | .lss => some (.val (.bool (decide (a < b))))
 | .leq => some (.val (.bool (decide (a <= b))))
 | .gtr => some (.val (.bool (decide (a > b))))
 | .geq => some (.val (.bool (decide (a >= b))))
 | _ => none
def qtX (op : BinOp) (x y : List UInt8) : Option PV :=
 match op with
 | .add => some (.part (((x.length + y.length : Nat) : Int) <= i64.max) (.string (mkS (x ++ y))))
 | .eql => some (.val (.bool (x == y)))
 | .neq => some (.val (.bool (!(x == y))))
 | .lss => some (.val (.bool (Op.bytesLess x y)))
 | .leq => some (.val (.bool (Op.bytesLess x y || x == y)))
 | .gtr => some (.val (.bool (!(Op.bytesLess x y || x == y))))
 | .geq => some (.val (.bool (!Op.bytesLess x y)))
 | _ => none
def binV (P : Program) (op : BinOp) (t : TypeId) (x y : Value) : Option PV :=
 match x, y with
 | .int k a, .int k' b =>
   match op with
   | .shl => some (.part (0 <= b) (.int k (k.wrap (a * 2 ^ (min b.toNat k.bits)))))
   | .shr => some (.part (0 <= b) (.int k (a.fdiv (2 ^ (min b.toNat k.bits)))))
   | op => if k = k' then qub op k a b else none
 | .string a, .string b => qtX op (toL a) (toL b)
 | .bool a, .bool b =>
   match P.underlying t, op with
   | some .bool, .eql => some (.val (.bool (a == b)))
   | some .bool, .neq => some (.val (.bool (!(a == b))))
   | _, _ => none
 | .pointer a, .pointer none =>
   match P.underlying t, op with
   | some (.pointer _), .eql => some (.val (.bool a.isNone))
   | some (.pointer _), .neq => some (.val (.bool (!a.isNone)))
   | _, _ => none
 | _, _ => none
def unV (op : UnOp) (x : Value) : Option PV :=
 match op, x with
 | .neg, .int k n => some (.val (.int k (k.wrap (0 - n))))
 | .not, .bool b => some (.val (.bool (!b)))
 | _, _ => none
def qo7 (P : Program) (t : TypeId) (cs : Array Value) (off : Nat) : Option Value :=
 match P.underlying t with
 | some (.struct _) | some (.array _ _) => (P.info? t).map fun i => .agg (cs.extract off (off + i.size))
 | some _ => cs[off]?
 | none => none
def qhl (d : Nat) : Option Value -> Option Nat
 | none => some d
 | some (.int _ n) => some n.toNat
 | _ => none
def qgB (lo hi : Option Value) (y : Nat) (d : Nat) : Prop :=
 match lo, hi with
 | none, none => True
 | some (.int _ l), none => 0 <= l /\ l <= (d : Int)
 | none, some (.int _ h) => 0 <= h /\ h <= (y : Int)
 | some (.int _ l), some (.int _ h) => (0 <= h /\ h <= (y : Int)) /\ 0 <= l /\ l <= (h.toNat : Int)
 | _, _ => False
def cutS (l : List UInt8) (lo hi : Option Value) : List UInt8 :=
 match lo, hi with
 | some (.int _ a), none => l.drop a.toNat
 | none, some (.int _ b) => l.take b.toNat
 | some (.int _ a), some (.int _ b) => (l.take b.toNat).drop a.toNat
 | _, _ => l
def qrX (P : Program) (t : TypeId) (x : Value) (lo hi : Option Value) : Option PV :=
 match P.underlying t, x with
 | some .string, .string s => some (.part (qgB lo hi (toL s).length (toL s).length) (.string (mkS (cutS (toL s) lo hi))))
 | some (.slice e), .slice a n c =>
   match P.info? e with
   | some i =>
     match lo, qhl n hi with
     | none, some h => some (.part (qgB lo hi c n) (.slice a h c))
     | some (.int _ l), some h => some (.part (qgB lo hi c n) (.slice (if c = l.toNat then a else a.map (·.add (l.toNat * i.size))) (h - l.toNat) (c - l.toNat)))
     | _, _ => none
   | none => none
 | some (.array n e), .pointer (some a) =>
   match P.info? e with
   | some i =>
     match lo, qhl n hi with
     | none, some h => some (.part (qgB lo hi n n) (.slice (some a) h n))
     | some (.int _ l), some h => some (.part (qgB lo hi n n) (.slice (some (if n = l.toNat then a else a.add (l.toNat * i.size))) (h - l.toNat) (n - l.toNat)))
     | _, _ => none
   | none => none
 | _, _ => none
def lenV (P : Program) (t : TypeId) (x : Value) : Option PV :=
 match P.underlying t, x with
 | some .string, .string s => some (.val (.int .i64 ((toL s).length : Nat)))
 | some (.slice _), .slice _ n _ => some (.val (.int .i64 (n : Nat)))
 | some (.array n _), _ => some (.val (.int .i64 (n : Nat)))
 | _, _ => none
def capV (P : Program) (t : TypeId) (x : Value) : Option PV :=
 match P.underlying t, x with
 | some (.slice _), .slice _ _ n => some (.val (.int .i64 (n : Nat)))
 | _, _ => none
def bigT (P : Program) (t : TypeId) : Bool := match P.info? t with | some i => Nat.ble 12 i.size | none => false
def bigB (P : Program) (t : TypeId) (ps : List Nat) : Bool :=
 match P.underlying t with
 | some (.struct fs) => ps.any fun p => match fs[p]? with | some fd => bigT P fd.type | none => false
 | some (.array _ e) => bigT P e
 | some (.slice e) => bigT P e
 | _ => false
def pv (P : Program) (ρ : Operand -> Value) (op : Op) : Option PV :=
 match op with
 | .move x => some (.val (ρ x))
 | .assign x => some (.val (ρ x))
 | .pick c a b => match ρ c, ρ a, ρ b with
   | .bool t, .bool x, .bool y => some (.val (.bool (cond t x y)))
   | .bool t, x, y => some (.val (match t with | true => x | false => y))
   | _, _, _ => none
 | .binOp op t x y _ => if bigT P t = true then none else binV P op t (ρ x) (ρ y)
 | .unOp op _ x => unV op (ρ x)
 | .convert s d x => match P.underlying s, P.underlying d, ρ x with
   | some (.int _), some (.int k), .int _ n => some (.val (.int k (k.wrap n)))
   | some .string, some .string, .string b => some (.val (.string b))
   | _, _, _ => none
 | .extract t i => match ρ t with
   | .tuple vs => (vs[i]?).map .val
   | _ => none
 | .field t x f => if bigT P t = true then none else match P.underlying t, ρ x with
   | some (.struct fs), .agg cs => (fs[f]?).bind fun fd => (qo7 P fd.type cs fd.offset).map .val
   | _, _ => none
 | .fieldAddr t x f => match P.underlying t, ρ x with
   | some (.struct fs), .pointer a => match fs[f]? with
     | some fd => match P.info? fd.type with
       | some i => if i.size = 0 then none else some (.part (a.isSome = true) (.pointer (a.map (·.add fd.offset))))
       | none => none
     | none => none
   | _, _ => none
 | .indexAddr t x i => match P.underlying t, ρ x, ρ i with
   | some (.slice e), .slice b n _, .int _ j => match P.info? e with
     | some ti => some (.part ((0 <= j /\ j < (n : Int)) /\ b.isSome = true) (.pointer (b.map (·.add (j.toNat * ti.size)))))
     | none => none
   | some (.array n e), .pointer a, .int _ j => match P.info? e with
     | some ti => some (.part ((0 <= j /\ j < (n : Int)) /\ a.isSome = true) (.pointer (a.map (·.add (j.toNat * ti.size)))))
     | none => none
   | _, _, _ => none
 | .index t x i => match P.underlying t, ρ x, ρ i with
   | some .string, .string s, .int _ j => some (.part (0 <= j /\ j < ((toL s).length : Int)) (.int .u8 (((toL s)[j.toNat]?.getD 0).toNat : Nat)))
   | _, _, _ => none
 | .slice t x lo hi none => qrX P t (ρ x) (lo.map ρ) (hi.map ρ)
 | .nilCheck x => match ρ x with
   | .pointer a => some (.part (a.isSome = true) (.pointer a))
   | .func (.func f) first captured => some (.val (.func (.func f) first captured))
   | _ => none
 | .makeFunc fn first captured => some (.val (.func fn (first.map ρ) (captured.map ρ)))
 | .makeInterface t x => match P.underlying t with
   | some (.interface _) | none => none
   | some _ => some (.val (.iface t (ρ x)))
 | .build t parts => if bigB P t (parts.toList.map (·.1)) = true then none else match (P.info? t).bind (·.zero), P.underlying t with
   | some z, some (.struct fs) =>
     match fs.toList.mapM (fun f => (P.info? f.type).map fun i => (f.offset, i.size)) with
     | some places => (Instr.fill (places[·]?) z.cells (parts.toList.map fun p => (p.1, ρ p.2))).map fun cs => .val (.agg cs)
     | none => none
   | some z, some (.array _ e) =>
     match P.info? e with
     | some i => (Instr.fill (fun j => some (j * i.size, i.size)) z.cells (parts.toList.map fun p => (p.1, ρ p.2))).map fun cs => .val (.agg cs)
     | none => none
   | _, _ => none
 | .call { callee := .builtin .len, args, argTypes } => match args.toList, argTypes.toList with
   | [x], [t] => lenV P t (ρ x)
   | _, _ => none
 | .call { callee := .builtin .cap, args, argTypes } => match args.toList, argTypes.toList with
   | [x], [t] => capV P t (ρ x)
   | _, _ => none
 | _ => none
def PV.ok (P : Program) (s : Sem Value) : PV -> Prop
 | .val v => ∀ w, s.run P w = .ok v w
 | .part c v => c -> ∀ w, s.run P w = .ok v w
theorem zz {P : Program} {t : TypeId} {d : TypeDesc} (h : P.underlying t = some d) (w : World) : (underlying t).run P w = .ok d w := by
 simp [underlying, h]
theorem qfo {P : Program} {t : TypeId} {d : TypeInfo} (h : P.info? t = some d) (w : World) : (typeInfo t).run P w = .ok d w := by
 simp [typeInfo, h]
theorem qaU {P : Program} {t : TypeId} {d : TypeInfo} (h : P.info? t = some d) (w : World) : (sizeOf t).run P w = .ok d.size w := by
 simp [sizeOf, qfo h]
theorem qfQ (b : ByteArray) : (toL b).length = b.size := by cases b; rfl
theorem qrn (b : ByteArray) : b.toList = toL b := ByteArray.toList_eq b
theorem qfU {P : Program} {t : TypeId} (hu : P.underlying t = some .bool) (d : Nat) (a b : Bool) (w : World) :
   (Op.equalIn (d + 1) t (.bool a) (.bool b)).run P w = .ok (a == b) w := by
 simp [Op.equalIn, zz hu]
theorem qf6 {P : Program} {t e : TypeId} (hu : P.underlying t = some (.pointer e)) (d : Nat) (a : Option Addr) (w : World) :
   (Op.equalIn (d + 1) t (.pointer a) (.pointer none)).run P w = .ok a.isNone w := by
 cases a <;> simp [Op.equalIn, zz hu]
theorem binV_int {P : Program} {op : BinOp} {t : TypeId} {k : IntKind} {a b : Int} {r : PV} (h : qub op k a b = some r) : r.ok P (binOp op t (.int k a) (.int k b)) := by
 cases op
 all_goals simp only [qub, Option.some.injEq, reduceCtorEq] at h
 all_goals (try subst h)
 case quo => intro hc w; simp [binOp, Op.intDiv, hc]
 case rem => intro hc w; simp [binOp, Op.intDiv, hc]
 all_goals (intro w; simp [binOp, Op.intArith, Op.intBits, Op.intCmp])
theorem binV_str {P : Program} {op : BinOp} {t : TypeId} {a b : ByteArray} {r : PV} (h : qtX op (toL a) (toL b) = some r) : r.ok P (binOp op t (.string a) (.string b)) := by
 cases op
 all_goals simp only [qtX, Option.some.injEq, reduceCtorEq] at h
 all_goals (try subst h)
 case add =>
   intro hc w
   have hn : ¬ (((a.size + b.size : Nat) : Int) > i64.max) := by
     rw [qfQ, qfQ] at hc; omega
   have e : mkS (toL a ++ toL b) = a ++ b := by
     cases a; cases b; simp [mkS, toL]; rfl
   simp only [binOp, Op.stringOp, if_neg hn, e, Sem.run_pure]
 all_goals (intro w; simp [binOp, Op.stringOp, qrn])
theorem qut {P : Program} {op : BinOp} {t : TypeId} {x y : Value} {r : PV} (h : binV P op t x y = some r) : r.ok P (binOp op t x y) /\ (∀ xo yo w, (eqGuard op t xo yo x y).run P w = .ok () w) := by
 unfold binV at h
 split at h
 · rename_i k a k' b
   refine ⟨?_, fun _ _ _ => by cases op <;> rfl⟩
   split at h
   · simp only [Option.some.injEq] at h; subst h
     intro hc w
     have hn : ¬ b < 0 := by omega
     simp [binOp, Op.shift, hn]
   · simp only [Option.some.injEq] at h; subst h
     intro hc w
     have hn : ¬ b < 0 := by omega
     simp [binOp, Op.shift, hn]
   · split at h
     · rename_i hk; subst hk; exact binV_int h
     · cases h
 · exact ⟨binV_str h, fun _ _ _ => by cases op <;> rfl⟩
 · rename_i a b
   refine ⟨?_, fun _ _ _ => by cases op <;> rfl⟩
   split at h
   · rename_i hu; simp only [Option.some.injEq] at h; subst h; intro w
     show ((do pure (.bool (<- Op.equalIn (9999 + 1) t (.bool a) (.bool b))) : Sem Value)).run P w = _
     rw [Sem.run_bind, qfU hu]; rfl
   · rename_i hu; simp only [Option.some.injEq] at h; subst h; intro w
     show ((do pure (.bool (!(<- Op.equalIn (9999 + 1) t (.bool a) (.bool b)))) : Sem Value)).run P w = _
     rw [Sem.run_bind, qfU hu]; rfl
   · cases h
 · rename_i a
   refine ⟨?_, fun _ _ _ => by cases op <;> rfl⟩
   split at h
   · rename_i hu; simp only [Option.some.injEq] at h; subst h; intro w
     show ((do pure (.bool (<- Op.equalIn (9999 + 1) t (.pointer a) (.pointer none))) : Sem Value)).run P w = _
     rw [Sem.run_bind, qf6 hu]; rfl
   · rename_i hu; simp only [Option.some.injEq] at h; subst h; intro w
     show ((do pure (.bool (!(<- Op.equalIn (9999 + 1) t (.pointer a) (.pointer none)))) : Sem Value)).run P w = _
     rw [Sem.run_bind, qf6 hu]; rfl
   · cases h
 · cases h
def aggD : TypeDesc -> Bool
 | .struct _ | .array _ _ => true
 | _ => false
theorem qgg {P : Program} {t : TypeId} {d : TypeDesc} (h : P.underlying t = some d) (w : World) : (isAgg t).run P w = .ok (aggD d) w := by
 unfold isAgg
 rw [Sem.run_bind, zz h]
 cases d <;> rfl
theorem qja {P : Program} {t : TypeId} {cs : Array Value} {off : Nat} {v : Value} (h : qo7 P t cs off = some v) (w : World) : (part t cs off).run P w = .ok v w := by
 unfold qo7 at h
 unfold part
 split at h
 · rename_i hu
   cases hi : P.info? t with
   | none => simp [hi] at h
   | some i => simp [hi] at h; subst h; simp [qgg hu, aggD, qaU hi]
 · rename_i hu
   cases hi : P.info? t with
   | none => simp [hi] at h
   | some i => simp [hi] at h; subst h; simp [qgg hu, aggD, qaU hi]
 · rename_i d n1 n2 hu
   have e : aggD d = false := by cases d <;> simp_all [aggD]
   rw [Sem.run_bind, qgg hu, e]
   simp [h]
 · cases h
theorem qug {P : Program} {t ty : TypeId} {x : Value} {r : PV} (h : lenV P t x = some r) : r.ok P (Builtin.len_ #[t] ty #[x]) := by
 unfold lenV at h
 split at h
 · rename_i hu; simp only [Option.some.injEq] at h; subst h; intro w; simp [Builtin.len_, zz hu, qfQ, goInt]
 · rename_i hu; simp only [Option.some.injEq] at h; subst h; intro w; simp [Builtin.len_, zz hu, goInt]
 · rename_i hu; simp only [Option.some.injEq] at h; subst h; intro w; simp [Builtin.len_, zz hu, goInt]
 · cases h
theorem qt4 {P : Program} {t ty : TypeId} {x : Value} {r : PV} (h : capV P t x = some r) : r.ok P (Builtin.cap_ #[t] ty #[x]) := by
 unfold capV at h
 split at h
 · rename_i hu; simp only [Option.some.injEq] at h; subst h; intro w; simp [Builtin.cap_, zz hu, goInt]
 · cases h
theorem qfj (P : Program) (k : IntKind) (n : Int) (w : World) : (asIntOf (.int k n)).run P w = .ok (k, n) w := rfl
theorem qiU {P : Program} {k : IntKind} {n : Int} {y : Nat} {code : BoundsCode} (h : 0 <= n /\ n <= (y : Int)) (w : World) : (Instr.sliceBound (.int k n) y code).run P w = .ok n.toNat w := by
 simp [Instr.sliceBound, qfj, h]
theorem qjU {P : Program} {isSlice : Bool} {len cap : Nat} {lo hi : Option Value} (h : qgB lo hi cap len)
   (hlo : ∀ v, lo = some v -> ∃ k n, v = .int k n) (hhi : ∀ v, hi = some v -> ∃ k n, v = .int k n) (w : World) :
   ∃ l m, qhl 0 lo = some l /\ qhl len hi = some m /\ (Instr.sliceBounds isSlice len cap lo hi none).run P w = .ok (l, m, cap) w := by
 cases lo with
 | none =>
   cases hi with
   | none => exact ⟨0, len, rfl, rfl, by simp [Instr.sliceBounds]⟩
   | some b =>
     obtain ⟨k, n, rfl⟩ := hhi b rfl
     have h' : 0 <= n /\ n <= (cap : Int) := h
     exact ⟨0, n.toNat, rfl, rfl, by simp [Instr.sliceBounds, qiU h']⟩
 | some a =>
   obtain ⟨k, n, rfl⟩ := hlo a rfl
   cases hi with
   | none =>
     have h' : 0 <= n /\ n <= (len : Int) := h
     exact ⟨n.toNat, len, rfl, rfl, by simp [Instr.sliceBounds, qiU h']⟩
   | some b =>
     obtain ⟨k', m, rfl⟩ := hhi b rfl
     have h' : (0 <= m /\ m <= (cap : Int)) /\ 0 <= n /\ n <= (m.toNat : Int) := h
     exact ⟨n.toNat, m.toNat, rfl, rfl, by simp [Instr.sliceBounds, qiU h'.1, qiU h'.2]⟩
theorem jK {lo hi : Option Value} {y d : Nat} (h : qgB lo hi y d) : (∀ v, lo = some v -> ∃ k n, v = .int k n) /\ (∀ v, hi = some v -> ∃ k n, v = .int k n) := by
 unfold qgB at h
 split at h
 · exact ⟨fun v hv => (by cases hv), fun v hv => (by cases hv)⟩
 · exact ⟨fun v hv => (by cases hv; exact ⟨_, _, rfl⟩), fun v hv => (by cases hv)⟩
 · exact ⟨fun v hv => (by cases hv), fun v hv => (by cases hv; exact ⟨_, _, rfl⟩)⟩
 · exact ⟨fun v hv => (by cases hv; exact ⟨_, _, rfl⟩), fun v hv => (by cases hv; exact ⟨_, _, rfl⟩)⟩
 · cases h
theorem addr_add0 (a : Addr) : a.add 0 = a := by simp [Addr.add]
theorem qfz (s : ByteArray) (l h : Nat) : s.extract l h = mkS (((toL s).take h).drop l) := by
 apply ByteArray.ext
 apply Array.ext'
 simp [mkS, toL, ByteArray.data_extract, List.drop_take]
theorem sliceV_ok {P : Program} {t : TypeId} {x : Value} {lo hi : Option Value} {r : PV} (h : qrX P t x lo hi = some r) : r.ok P (Instr.sliceAt t x lo hi none) := by
 unfold qrX at h
 split at h
 · rename_i s hu
   simp only [Option.some.injEq] at h; subst h
   intro hc w
   have hc' : qgB lo hi s.size s.size := by rw [qfQ] at hc; exact hc
   obtain ⟨l, m, e1, e2, hr⟩ := qjU (P := P) (isSlice := false) hc' (jK hc').1 (jK hc').2 w
   simp only [Instr.sliceAt, Instr.slice, Sem.run_bind, zz hu, Result.andThen_ok, Option.isSome_none, Bool.false_eq_true, if_false, hr, Sem.run_pure]
   congr 2
   cases lo with
   | none =>
     cases hi with
     | none =>
       simp [qhl] at e1 e2; subst e1 e2
       rw [qfz]
       simp [cutS, <- qfQ]
     | some b =>
       obtain ⟨k', n, rfl⟩ := (jK hc').2 b rfl
       simp [qhl] at e1 e2; subst e1 e2
       have h' : 0 <= n /\ n <= (s.size : Int) := hc'
       rw [qfz]
       simp [cutS]
   | some a =>
     obtain ⟨k, n, rfl⟩ := (jK hc').1 a rfl
     cases hi with
     | none =>
       simp [qhl] at e1 e2; subst e1 e2
       have h' : 0 <= n /\ n <= (s.size : Int) := hc'
       rw [qfz]
       simp [cutS, <- qfQ]
     | some b =>
       obtain ⟨k', m', rfl⟩ := (jK hc').2 b rfl
       simp [qhl] at e1 e2; subst e1 e2
       have h' : (0 <= m' /\ m' <= (s.size : Int)) /\ 0 <= n /\ n <= (m'.toNat : Int) := hc'
       rw [qfz]
       simp [cutS]
 · rename_i e a n c hu
   cases hi' : P.info? e with
   | none => simp [hi'] at h
   | some i =>
     simp only [hi'] at h
     have key : ∀ {v} (hc : qgB lo hi c n), (∀ l m, qhl 0 lo = some l -> qhl n hi = some m -> v = Value.slice (if c = l then a else a.map (·.add (l * i.size))) (m - l) (c - l)) ->
         ∀ w, (Instr.sliceAt t (.slice a n c) lo hi none).run P w = .ok v w := by
       intro v hc hv w
       obtain ⟨l, m, e1, e2, hr⟩ := qjU (P := P) (isSlice := true) hc (jK hc).1 (jK hc).2 w
       simp only [Instr.sliceAt, Instr.slice, Sem.run_bind, zz hu, Result.andThen_ok, hr, qaU hi', Sem.run_pure]
       rw [hv l m e1 e2]
     split at h
     · rename_i hh he
       simp only [Option.some.injEq] at h; subst h
       intro hc; exact key hc fun l m e1 e2 => by
         rw [he] at e2; simp [qhl] at e1 e2; subst e1 e2
         simp
         intro _
         cases a <;> simp [addr_add0]
     · rename_i k l hh he
       simp only [Option.some.injEq] at h; subst h
       intro hc; exact key hc fun l m e1 e2 => by rw [he] at e2; simp [qhl] at e1 e2; subst e1 e2; rfl
     · cases h
 · rename_i n e a hu
   cases hi' : P.info? e with
   | none => simp [hi'] at h
   | some i =>
     simp only [hi'] at h
     have key : ∀ {v} (hc : qgB lo hi n n), (∀ l m, qhl 0 lo = some l -> qhl n hi = some m -> v = Value.slice (some (if n = l then a else a.add (l * i.size))) (m - l) (n - l)) ->
         ∀ w, (Instr.sliceAt t (.pointer (some a)) lo hi none).run P w = .ok v w := by
       intro v hc hv w
       obtain ⟨l, m, e1, e2, hr⟩ := qjU (P := P) (isSlice := false) hc (jK hc).1 (jK hc).2 w
       simp only [Instr.sliceAt, Sem.run_bind, zz hu, Result.andThen_ok, hr, qaU hi', Sem.run_pure, Instr.sureAddr]
       rw [hv l m e1 e2]
     split at h
     · rename_i hh he
       simp only [Option.some.injEq] at h; subst h
       intro hc; exact key hc fun l m e1 e2 => by
         rw [he] at e2; simp [qhl] at e1 e2; subst e1 e2
         simp [addr_add0]
     · rename_i k l hh he
       simp only [Option.some.injEq] at h; subst h
       intro hc; exact key hc fun l m e1 e2 => by rw [he] at e2; simp [qhl] at e1 e2; subst e1 e2; rfl
     · cases h
 · cases h
def vN (s : Sem Value) : Sem Next := do pure (.value (<- s))
def uN (s : Sem Unit) : Sem Next := do s; pure .skip
theorem run_vN {P : Program} {s : Sem Value} {v : Value} {w w' : World} (h : s.run P w = .ok v w') : (vN s).run P w = .ok (.value v) w' := by
 simp [vN, h]
theorem quA {P : Program} {s : Sem Unit} {w w' : World} (h : s.run P w = .ok () w') : (uN s).run P w = .ok .skip w' := by
 simp [uN, h]
def PV.cond : PV -> Prop
 | .val _ => True
 | .part c _ => c
def PV.value : PV -> Value
 | .val v => v
 | .part _ v => v
theorem PV.ok.run {P : Program} {s : Sem Value} {r : PV} (h : r.ok P s) (hc : r.cond) (w : World) : s.run P w = .ok r.value w := by
 cases r with
 | val v => exact h w
 | part c v => exact h hc w
theorem qcu (P : Program) (a : Addr) (w : World) : (Instr.sureAddr (.pointer (some a))).run P w = .ok a w := rfl
theorem qo6 {P : Program} {t : TypeId} {fs : Array Field} {f : Nat} {fd : Field} {i : TypeInfo} (hu : P.underlying t = some (.struct fs)) (hf : fs[f]? = some fd)
   (hi : P.info? fd.type = some i) (h0 : ¬ i.size = 0) (a : Addr) (w : World) : (Instr.fieldAt t (.pointer (some a)) f).run P w = .ok (.pointer (some (a.add fd.offset))) w := by
 simp [Instr.fieldAt, zz hu, hf, qcu, fieldPlace, qaU hi, h0]
theorem qon {P : Program} {t e : TypeId} {ti : TypeInfo} (hu : P.underlying t = some (.slice e)) (hi : P.info? e = some ti) (a : Addr) (n c : Nat) (k : IntKind) (j : Int)
   (h : 0 <= j /\ j < (n : Int)) (w : World) : (Instr.indexAt t (.slice (some a) n c) (.int k j)).run P w = .ok (.pointer (some (a.add (j.toNat * ti.size)))) w := by
 simp [Instr.indexAt, qfj, zz hu, qaU hi, h]
theorem qnu {P : Program} {t e : TypeId} {n : Nat} {ti : TypeInfo} (hu : P.underlying t = some (.array n e)) (hi : P.info? e = some ti) (a : Addr) (k : IntKind) (j : Int)
   (h : 0 <= j /\ j < (n : Int)) (w : World) : (Instr.indexAt t (.pointer (some a)) (.int k j)).run P w = .ok (.pointer (some (a.add (j.toNat * ti.size)))) w := by
 simp [Instr.indexAt, qfj, zz hu, qaU hi, qcu, h]
theorem qr8 {P : Program} {t : TypeId} (hu : P.underlying t = some .string) (s : ByteArray) (k : IntKind) (j : Int)
   (h : 0 <= j /\ j < ((toL s).length : Int)) (w : World) : (Instr.index t (.string s) (.int k j)).run P w = .ok (.int .u8 (((toL s)[j.toNat]?.getD 0).toNat : Nat)) w := by
 have hl : j.toNat < s.size := by have := qfQ s; omega
 have e : s[j.toNat]? = some s[j.toNat] := ByteArray.getElem?_lt' s _ hl
 have e2 : (toL s)[j.toNat]? = some s[j.toNat] := by
   have : j.toNat < (toL s).length := by omega
   rw [List.getElem?_eq_getElem this]; rfl
 simp [Instr.index, qfj, zz hu, h.1, e, e2]
theorem qpu {P : Program} {t : TypeId} {fs : Array Field} {i : TypeInfo} {z : Value} {places : List (Nat × Nat)} {ps : Array (Nat × Value)} {cs : Array Value}
   (hi : P.info? t = some i) (hz : i.zero = some z) (hu : P.underlying t = some (.struct fs)) (hp : fs.toList.mapM (fun f => (P.info? f.type).map fun i => (f.offset, i.size)) = some places)
   (hc : Instr.fill (places[·]?) z.cells ps.toList = some cs) (w : World) : (Instr.build t ps).run P w = .ok (.agg cs) w := by
 have hm : ∀ (l : List Field) (pl : List (Nat × Nat)), l.mapM (fun f => (P.info? f.type).map fun i => (f.offset, i.size)) = some pl ->
     (l.mapM (fun f => do pure (f.offset, <- sizeOf f.type) : Field -> Sem (Nat × Nat))).run P w = .ok pl w := by
   intro l
   induction l with
   | nil => intro pl h; simp at h; subst h; rfl
   | cons f l ih =>
     intro pl h
     rw [List.mapM_cons] at h
     cases hf : P.info? f.type with
     | none => simp [hf] at h
     | some i =>
       cases hl : l.mapM (fun f => (P.info? f.type).map fun i => (f.offset, i.size)) with
       | none => simp [hf, hl] at h
       | some pl' =>
         simp [hf, hl] at h; subst h
         rw [List.mapM_cons]
         simp only [Sem.run_bind, qaU hf, Result.andThen_ok, Sem.run_pure, ih _ hl]
 have hm' : (fs.mapM (fun f => do pure (f.offset, <- sizeOf f.type) : Field -> Sem (Nat × Nat))).run P w = .ok places.toArray w := by
   rw [Array.mapM_eq_mapM_toList, Sem.run_map, hm _ _ hp]; rfl
 simp only [Instr.build, zeroValue, Sem.run_bind, qfo hi, Result.andThen_ok, hz, Sem.run_pure, zz hu, hm']
 have e : (fun x : Nat => places.toArray[x]?) = (places[·]?) := by funext x; simp
 rw [e, hc]
 rfl
theorem pv_ok {P : Program} {ρ : Operand -> Value} {o : Oper} {r : PV} (h : pv P ρ o.op = some r) (hc : r.cond) (w : World) : (execOp ρ o).run P w = .ok (.value r.value) w := by
 unfold execOp
 generalize o.op = op at h
 unfold pv at h
 split at h
 · simp only [Option.some.injEq] at h; subst h; rfl
 · simp only [Option.some.injEq] at h; subst h; rfl
 · rename_i c a b
   split at h
   · rename_i t x y ht hx hy; simp only [Option.some.injEq] at h; subst h
     cases t <;> simp [ht, hx, hy, asBool, PV.value]
   · rename_i t ht _; simp only [Option.some.injEq] at h; subst h
     cases t <;> simp [ht, asBool, PV.value]
   · cases h
 · rename_i op t x y _
   split at h
   · cases h
   obtain ⟨h1, h2⟩ := qut h
   refine run_vN ?_
   rw [Sem.run_bind, h2]
   exact h1.run hc w
 · rename_i op t x
   unfold unV at h
   split at h
   · rename_i hx; simp only [Option.some.injEq] at h; subst h; simp [hx, Op.unary, Op.intArith, PV.value]
   · rename_i hx; simp only [Option.some.injEq] at h; subst h; simp [hx, Op.unary, PV.value]
   · cases h
 · rename_i s d x
   split at h
   · rename_i hs hd hx; simp only [Option.some.injEq] at h; subst h; refine run_vN ?_; simp [hx, convert, zz hs, zz hd, Conv.intToInt, PV.value]
   · rename_i hs hd hx; simp only [Option.some.injEq] at h; subst h; refine run_vN ?_; simp [hx, convert, zz hs, zz hd, PV.value]
   · cases h
 · rename_i t i
   split at h
   · rename_i vs hv
     cases hi : vs[i]? with
     | none => simp [hi] at h
     | some v => simp [hi] at h; subst h; refine run_vN ?_; simp [hv, Instr.extract, hi, PV.value]
   · cases h
 · rename_i t x f
   split at h
   · cases h
   split at h
   · rename_i fs cs hu hx
     cases hf : fs[f]? with
     | none => simp [hf] at h
     | some fd =>
       simp only [hf, Option.bind_some] at h
       cases hp : qo7 P fd.type cs fd.offset with
       | none => simp [hp] at h
       | some v => simp [hp] at h; subst h; refine run_vN ?_; simp [hx, Instr.field, zz hu, hf, asAgg, qja hp, PV.value]
   · cases h
 · rename_i t x f
   split at h
   · rename_i fs a hu hx
     split at h
     · rename_i fd hf
       split at h
       · rename_i i hi
         split at h
         · cases h
         · rename_i h0; simp only [Option.some.injEq] at h; subst h
           cases a with
           | none => cases hc
           | some a => refine run_vN ?_; rw [hx]; exact qo6 hu hf hi h0 a w
       · cases h
     · cases h
   · cases h
 · rename_i t x i
   split at h
   · rename_i e b n c k j hu hx hj
     split at h
     · rename_i ti hi; simp only [Option.some.injEq] at h; subst h
       cases b with
       | none => cases hc.2
       | some a => refine run_vN ?_; rw [hx, hj]; exact qon hu hi a n c k j hc.1 w
     · cases h
   · rename_i n e a k j hu hx hj
     split at h
     · rename_i ti hi; simp only [Option.some.injEq] at h; subst h
       cases a with
       | none => cases hc.2
       | some a => refine run_vN ?_; rw [hx, hj]; exact qnu hu hi a k j hc.1 w
     · cases h
   · cases h
 · rename_i t x i
   split at h
   · rename_i s k j hu hx hj; simp only [Option.some.injEq] at h; subst h
     refine run_vN ?_; rw [hx, hj]; exact qr8 hu s k j hc w
   · cases h
 · rename_i t x lo hi
   refine run_vN ?_
   exact (sliceV_ok h).run hc w
 · rename_i x
   split at h
   · rename_i a hx; simp only [Option.some.injEq] at h; subst h
     cases a with
     | none => cases hc
     | some a => simp [hx, PV.value]
   · rename_i hx; simp only [Option.some.injEq] at h; subst h; simp [hx, PV.value]
   · cases h
 · simp only [Option.some.injEq] at h; subst h; rfl
 · rename_i t x
   split at h
   · cases h
   · cases h
   · rename_i d n1 hu
     simp only [Option.some.injEq] at h; subst h
     refine run_vN ?_
     unfold Instr.makeInterface
     rw [Sem.run_bind, zz hu]
     cases d <;> first | rfl | exact absurd rfl (n1 _)
 · rename_i t parts
   split at h
   · cases h
   split at h
   · rename_i z fs hz hu
     split at h
     · rename_i places hp
       cases hi : P.info? t with
       | none => simp [hi] at hz
       | some i =>
         simp [hi] at hz
         cases hf : Instr.fill (places[·]?) z.cells (parts.toList.map fun p => (p.1, ρ p.2)) with
         | none => simp [hf] at h
         | some cs =>
           simp [hf] at h; subst h
           refine run_vN ?_
           exact qpu hi hz hu hp (by simpa using hf) w
     · cases h
   · rename_i z n e hz hu
     split at h
     · rename_i ie hie
       cases hi : P.info? t with
       | none => simp [hi] at hz
       | some i =>
         simp [hi] at hz
         cases hf : Instr.fill (fun j => some (j * ie.size, ie.size)) z.cells (parts.toList.map fun p => (p.1, ρ p.2)) with
         | none => simp [hf] at h
         | some cs =>
           simp [hf] at h; subst h
           refine run_vN ?_
           simp only [Instr.build, zeroValue, Sem.run_bind, qfo hi, Result.andThen_ok, hz, Sem.run_pure, zz hu, qaU hie]
           have e2 : (parts.map fun p => (p.1, ρ p.2)).toList = parts.toList.map fun p => (p.1, ρ p.2) := by simp
           rw [e2, hf]; rfl
     · cases h
   · cases h
 · rename_i args argTypes
   split at h
   · rename_i x t hx ht
     have e1 : args = #[x] := by rw [<- Array.toArray_toList (xs := args), hx]
     have e2 : argTypes = #[t] := by rw [<- Array.toArray_toList (xs := argTypes), ht]
     subst e1 e2
     simp only [resolve, invoke, builtin, Sem.run_bind, Sem.run_pure, Result.andThen_ok, List.map_toArray, List.map_cons, List.map_nil, (qug h).run hc w]
   · cases h
 · rename_i args argTypes
   split at h
   · rename_i x t hx ht
     have e1 : args = #[x] := by rw [<- Array.toArray_toList (xs := args), hx]
     have e2 : argTypes = #[t] := by rw [<- Array.toArray_toList (xs := argTypes), ht]
     subst e1 e2
     simp only [resolve, invoke, builtin, Sem.run_bind, Sem.run_pure, Result.andThen_ok, List.map_toArray, List.map_cons, List.map_nil, (qt4 h).run hc w]
   · cases h
 · cases h
def qsj (b : Nat) : Value := .pointer (some ⟨b, 0, none⟩)
def alV (P : Program) (ρ : Operand -> Value) (op : Op) : Option (Obj × (Nat -> Value)) :=
 match op with
 | .alloc e => match (P.info? e).bind (·.zero) with
   | some z => some (.cells z.cells e, qsj)
   | none => none
 | .box e x => some (.cells (ρ x).cells e, qsj)
 | .buildSlice t len parts => if bigB P t (parts.toList.map (·.1)) && !parts.isEmpty then none else match P.underlying t with
   | some (.slice e) => match P.info? e with
     | some i => match i.zero with
       | some z => if len * i.size > 2 ^ 24 then none else
         match Instr.fill (fun j => some (j * i.size, i.size)) ((Array.range (len * i.size)).map ((if len * i.size = 0 then #[] else z.cells)[· % (if len * i.size = 0 then #[] else z.cells).size]!)) (parts.toList.map fun p => (p.1, ρ p.2)) with
         | some cs => some (.cells cs e, fun b => .slice (some ⟨b, 0, none⟩) len len)
         | none => none
       | none => none
     | none => none
   | _ => none
 | .makeMap _ none => some (.map #[] 0, fun b => .map (some b))
 | _ => none
theorem alV_ok {P : Program} {ρ : Operand -> Value} {o : Oper} {obj : Obj} {mk : Nat -> Value} (h : alV P ρ o.op = some (obj, mk)) (w : World) :
   (execOp ρ o).run P w = .ok (.value (mk w.heap.size)) (w.alloc obj) := by
 unfold execOp
 generalize o.op = op at h
 unfold alV at h
 split at h
 · rename_i e
   cases hi : P.info? e with
   | none => simp [hi] at h
   | some i =>
     cases hz : i.zero with
     | none => simp [hi, hz] at h
     | some z =>
       simp [hi, hz] at h
       obtain ⟨rfl, rfl⟩ := h
       refine run_vN ?_
       simp only [Instr.alloc, zeroValue, Sem.run_bind, qfo hi, Result.andThen_ok, hz, Sem.run_pure]
       rfl
 · simp only [Option.some.injEq, Prod.mk.injEq] at h
   obtain ⟨rfl, rfl⟩ := h
   rfl
 · rename_i t len parts
   split at h
   · cases h
   split at h
   · rename_i e hu
     split at h
     · rename_i i hi
       split at h
       · rename_i z hz
         split at h
         · cases h
         · rename_i hlen
           split at h
           · rename_i cs hf
             simp only [Option.some.injEq, Prod.mk.injEq] at h
             obtain ⟨rfl, rfl⟩ := h
             refine run_vN ?_
             have e2 : (parts.map fun p => (p.1, ρ p.2)).toList = parts.toList.map fun p => (p.1, ρ p.2) := by simp
             simp only [Instr.buildSlice, Sem.run_bind, zz hu, Result.andThen_ok, qaU hi, if_neg hlen]
             by_cases h0 : len * i.size = 0
             · simp only [h0, if_true] at hf
               simp only [h0, if_true, pure_bind, e2, hf]
               rfl
             · simp only [if_neg h0] at hf
               simp only [if_neg h0, zeroValue, Sem.run_bind, qfo hi, hz, Sem.run_pure, Result.andThen_ok, e2, hf]
               rfl
           · cases h
       · cases h
     · cases h
   · cases h
 · simp only [Option.some.injEq, Prod.mk.injEq] at h
   obtain ⟨rfl, rfl⟩ := h
   rfl
 · cases h
inductive RW where
 | rd (s : Sem Value)
 | wr (s : Sem Value)
 | st (s : Sem Unit)
def isSl (P : Program) (t : TypeId) : Bool := match P.underlying t with | some (.slice _) => true | _ => false
def semV (P : Program) (ρ : Operand -> Value) (o : Oper) : Option RW :=
 match o.op with
 | .load t x => some (.rd (Instr.loadAt t (ρ x)))
 | .index t x i => some (.rd (Instr.index t (ρ x) (ρ i)))
 | .lookup t x i ok => some (.rd (Instr.lookup t (ρ x) (ρ i) ok))
 | .convert s d x => if isSl P d then some (.wr (convert s d (ρ x))) else some (.rd (convert s d (ρ x)))
 | .binOp op t x y _ => some (.rd (do eqGuard op t x y (ρ x) (ρ y); binOp op t (ρ x) (ρ y)))
 | .typeAssert x a b ok => some (.rd (Instr.typeAssert (ρ x) a b ok))
 | .makeSlice t l c => some (.wr (Instr.makeSlice t (ρ l) (ρ c)))
 | .range t x => some (.wr (Instr.range t (ρ x)))
 | .next it b => some (.wr (Instr.next (ρ it) b o.type))
 | .store t x v => some (.st (Instr.storeAt t (ρ x) (ρ v)))
 | .mapUpdate t m k v => some (.st (Instr.mapUpdate t (ρ m) (ρ k) (ρ v)))
 | .insert t m k v => some (.st (Instr.mapUpdate t (ρ m) (ρ k) (ρ v)))
 | .call { callee := .builtin .len, args, argTypes } => some (.rd (Builtin.len_ argTypes o.type (args.map ρ)))
 | .call { callee := .builtin .min, args, argTypes } => some (.rd (Builtin.min_ argTypes o.type (args.map ρ)))
 | .call { callee := .builtin .max, args, argTypes } => some (.rd (Builtin.max_ argTypes o.type (args.map ρ)))
 | .call { callee := .builtin .append, args, argTypes } => some (.wr (Builtin.append_ argTypes o.type (args.map ρ)))
 | .call { callee := .builtin .copy, args, argTypes } => some (.wr (Builtin.copy_ argTypes o.type (args.map ρ)))
 | .call { callee := .builtin .delete, args, argTypes } => some (.wr (Builtin.delete_ argTypes o.type (args.map ρ)))
 | .call { callee := .builtin .clear, args, argTypes } => some (.wr (Builtin.clear_ argTypes o.type (args.map ρ)))
 | .field t x f => if bigT P t = true then some (.rd (Instr.field t (ρ x) f)) else none
 | .build t parts => if bigB P t (parts.toList.map (·.1)) = true then some (.rd (Instr.build t (parts.map fun p => (p.1, ρ p.2)))) else none
 | .buildSlice t len parts => if bigB P t (parts.toList.map (·.1)) && !parts.isEmpty then some (.wr (Instr.buildSlice t len (parts.map fun p => (p.1, ρ p.2)))) else none
 | _ => none
def RW.next : RW -> Sem Next
 | .rd s => vN s
 | .wr s => vN s
 | .st s => uN s
theorem qnx {P : Program} {ρ : Operand -> Value} {o : Oper} {r : RW} (h : semV P ρ o = some r) : execOp ρ o = r.next := by
 unfold semV at h
 unfold execOp
 split at h
 case h_4 => split at h <;> (simp only [Option.some.injEq] at h; subst h; simp only [*]; rfl)
 case h_20 => split at h <;> first | (cases h; done) | (simp only [Option.some.injEq] at h; subst h; simp only [*]; rfl)
 case h_21 => split at h <;> first | (cases h; done) | (simp only [Option.some.injEq] at h; subst h; simp only [*]; rfl)
 case h_22 => split at h <;> first | (cases h; done) | (simp only [Option.some.injEq] at h; subst h; simp only [*]; rfl)
 case h_23 => cases h
 all_goals (simp only [Option.some.injEq] at h; subst h; simp only [*]; rfl)
def callable (P : Program) (f : FuncId) : Bool :=
 match P.funcs[f]? with
 | some fn => fn.body.isSome && !(fn.name == "runtime.NumGoroutine")
 | none => false
def qsR (P : Program) (ρ : Operand -> Value) (op : Op) : Option (FuncId × Array Value) :=
 match op with
 | .call { callee := .value f, args, .. } => match ρ f with
   | .func (.func f) first captured => if callable P f then some (f, (first.toList ++ (args.toList.map ρ ++ captured.toList)).toArray) else none
   | _ => none
 | _ => none
theorem callV_ok {P : Program} {ρ : Operand -> Value} {o : Oper} {f : FuncId} {args : Array Value} (h : qsR P ρ o.op = some (f, args)) (w : World) :
   (execOp ρ o).run P w = .ok (.enter f args) w := by
 unfold execOp
 generalize o.op = op at h
 unfold qsR at h
 split at h
 · rename_i g asv _
   split at h
   · rename_i f' first captured hf
     split at h
     · rename_i hc
       simp only [Option.some.injEq, Prod.mk.injEq] at h
       obtain ⟨rfl, rfl⟩ := h
       unfold callable at hc
       split at hc
       · rename_i fn hfn
         simp only [Bool.and_eq_true, Bool.not_eq_true'] at hc
         simp only [resolve, hf, Deferred.ofValue, Sem.run_bind, Sem.run_pure, Result.andThen_ok, invoke, callFunc, run_program, hfn, hc.2, Bool.false_eq_true, if_false]
         have : fn.body.isNone = false := by cases hb : fn.body <;> simp_all
         simp only [this, Bool.false_eq_true, if_false, Sem.run_pure]
         congr 2
         apply Array.ext'
         simp
       · cases hc
     · cases h
   · cases h
 · cases h
def s0V : Value -> S0
 | .int k _ => .int k
 | .bool _ => .bool
 | .string _ => .str
 | .slice _ _ _ => .slice
 | .pointer _ => .ptr
 | .map _ => .map
 | _ => .any
def shV : Value -> Sh
 | .agg cs => if Nat.ble 12 cs.size = true then .one .any else .agg (cs.toList.map s0V)
 | v => .one (s0V v)
def shT (P : Program) (t : TypeId) : List Sh :=
 match (P.info? t).bind (·.zero) with
 | some (.tuple vs) => vs.toList.map shV
 | some v => [shV v]
 | none => [.one .any]
abbrev Fr := List (Nat × Value)
def getF : Fr -> Nat -> Value
 | [], _ => undef
 | (k, v) :: r, t => bif Nat.beq k t then v else getF r t
def putF (n : Nat) (fr : Fr) (d : Option Tmp) (v : Value) : Fr := match d with
 | none => fr
 | some t => bif Nat.ble (t + 1) n then (t, v) :: fr else fr
def evF (fr : Fr) : Operand -> Value
 | .tmp t => getF fr t
 | .const v => v
 | .global g => .pointer (some ⟨g, 0, none⟩)
 | .func f => .func (.func f) #[] #[]
structure Rep (n : Nat) (fr : Fr) (a : Act) : Prop where
 size : a.tmps.size = n
 defers : a.defers = []
 get : ∀ t, a.tmps.getD t undef = getF fr t
theorem Rep.eval {n : Nat} {fr : Fr} {a : Act} (h : Rep n fr a) : a.eval = evF fr := by
 funext x
 cases x <;> first | rfl | exact h.get _
theorem Rep.put {n : Nat} {fr : Fr} {a : Act} (h : Rep n fr a) (d : Option Tmp) (v : Value) : Rep n (putF n fr d v) (a.put d v) := by
 cases d with
 | none => exact h
 | some t =>
   refine ⟨by simp [Act.put, h.size], h.defers, fun i => ?_⟩
   have hg := h.get i
   have hs := h.size
   simp only [Act.put, putF]
   cases hb : Nat.ble (t + 1) n with
   | true =>
     have hlt : t < a.tmps.size := by have h1 : t + 1 <= n := Nat.le_of_ble_eq_true hb; rw [hs]; exact h1
     simp only [cond_true, getF]
     by_cases e : t = i
     · subst e
       simp [hlt]
     · have hne : Nat.beq t i = false := by cases hb : Nat.beq t i <;> first | rfl | exact absurd (Nat.eq_of_beq_eq_true hb) e
       rw [hne, cond_false, <- hg]
       simp [Array.getD_eq_getD_getElem?, Array.getElem?_setIfInBounds_ne e]
   | false =>
     have hlt : ¬ t < a.tmps.size := by
       intro hlt
       have : Nat.ble (t + 1) n = true := Nat.ble_eq_true_of_le (by rw [hs] at hlt; exact hlt)
       rw [this] at hb; cases hb
     simp only [cond_false]
     rw [<- hg]
     have : a.tmps.setIfInBounds t v = a.tmps := by
       simp [Array.setIfInBounds, hlt]
     rw [this]
def nmOf : Op -> Nat
 | .binOp .quo .. => 2
 | .binOp .rem .. => 2
 | .binOp .. => 1
 | .slice .. => 1
 | _ => 0
def nmK (op : Op) (v : Value) (K : Value -> Prop) : Prop := match nmOf op, v with
 | 1, .string s => ∀ l : List UInt8, l = toL s -> K (.string (mkS l))
 | 2, .int k n => ∀ m : Int, m = n -> K (.int k m)
 | _, v => K v
theorem nmK_ok {op : Op} {v : Value} {K : Value -> Prop} (h : nmK op v K) : K v := by
 unfold nmK at h
 split at h
 · exact h _ rfl
 · exact h _ rfl
 · exact h
def WOp (P : Program) (n : Nat) (o : Oper) (a : Fr) (K : Fr -> World -> Prop) (w : World) : Prop :=
 match pv P (evF a) o.op with
 | some (.val v) => nmK o.op v fun v => K (putF n a o.dst v) w
 | some (.part c v) => c /\ nmK o.op v fun v => K (putF n a o.dst v) w
 | none => match alV P (evF a) o.op with
   | some (obj, mk) => ∀ (b : Nat) (w' : World), b = w.heap.size -> w' = w.alloc obj -> K (putF n a o.dst (mk b)) w'
   | none => match semV P (evF a) o with
     | some (.rd s) => exR (shT P o.type) fun v => s.run P w = .ok v w /\ K (putF n a o.dst v) w
     | some (.wr s) => ∃ w' : World, exR (shT P o.type) fun v => s.run P w = .ok v w' /\ K (putF n a o.dst v) w'
     | some (.st s) => ∃ w' : World, s.run P w = .ok () w' /\ K (putF n a o.dst undef) w'
     | none => match qsR P (evF a) o.op with
       | some (f, args) => Calls P f args w fun e w' => exR (shT P o.type) fun v => e = .returned v /\ K (putF n a o.dst v) w'
       | none => False
theorem qtz {P : Program} {n : Nat} {o : Oper} {fr : Fr} {a : Act} {K : Fr -> World -> Prop} {K' : Act -> World -> Prop} {Q : Exit -> Act -> World -> Prop} {w : World} (hr : Rep n fr a) (h : WOp P n o fr K w)
   (hk : ∀ v w', K (putF n fr o.dst v) w' -> K' (a.put o.dst v) w') : o.wp P a w K' Q := by
 unfold WOp at h
 rw [<- hr.eval] at h
 unfold Oper.wp
 split at h
 · rename_i v hp; rw [pv_ok hp trivial]; exact hk _ _ (nmK_ok h)
 · rename_i c v hp; rw [pv_ok hp h.1]; exact hk _ _ (nmK_ok h.2)
 · split at h
   · rename_i obj mk hm; rw [alV_ok hm]; exact hk _ _ (h _ _ rfl rfl)
   · split at h
     · rename_i s hs; obtain ⟨v, hv, h⟩ := qlI h; rw [qnx hs, RW.next, run_vN hv]; exact hk _ _ h
     · rename_i s hs; obtain ⟨w', h⟩ := h; obtain ⟨v, hv, h⟩ := qlI h; rw [qnx hs, RW.next, run_vN hv]; exact hk _ _ h
     · rename_i s hs; obtain ⟨w', hv, h⟩ := h; rw [qnx hs, RW.next, quA hv]; exact hk _ _ h
     · split at h
       · rename_i f args hc
         rw [callV_ok hc]
         exact h.mono fun e w' he => by
           obtain ⟨v, hv, h⟩ := qlI he
           subst hv
           exact hk _ _ h
       · cases h
def BCase (b : Bool) (X Y : Prop) : Prop := match b with | true => X | false => Y
theorem BCase.of {b : Bool} {X Y : Prop} (hx : b = true -> X) (hy : b = false -> Y) : BCase b X Y := by
 cases b
 · exact hy rfl
 · exact hx rfl
theorem BCase.yes {b : Bool} {X Y : Prop} (hb : b = true) (hx : X) : BCase b X Y := by subst hb; exact hx
theorem BCase.no {b : Bool} {X Y : Prop} (hb : b = false) (hy : Y) : BCase b X Y := by subst hb; exact hy
theorem Rep.again {n : Nat} {fr : Fr} {a : Act} (h : Rep n fr a) {t : Tmp} {v : Value} (hv : getF fr t = v) : Rep n (putF n fr (some t) v) a := by
 refine ⟨h.size, h.defers, fun i => ?_⟩
 rw [h.get i]
 simp only [putF]
 cases hb : Nat.ble (t + 1) n with
 | false => rfl
 | true =>
   simp only [cond_true, getF]
   cases he : Nat.beq t i with
   | false => rfl
   | true => rw [<- Nat.eq_of_beq_eq_true he]; exact hv
def WG (n : Nat) (ops : Array Oper) (g : Option (Nat × Bool)) (a : Fr) (yes no : Fr -> Prop) : Prop :=
 match g with
 | none => yes a
 | some (j, want) => match (ops[j]?).bind (·.dst) with
   | none => no a
   | some t => match getF a t with
     | .bool b =>
       BCase b (match want with | true => yes (putF n a (some t) (.bool true)) | false => no (putF n a (some t) (.bool true)))
         (match want with | true => no (putF n a (some t) (.bool false)) | false => yes (putF n a (some t) (.bool false)))
     | _ => no a
theorem qth {n : Nat} {ops : Array Oper} {o : Oper} {fr : Fr} {a : Act} {yes no : Fr -> Prop} (hr : Rep n fr a) (h : WG n ops o.guard fr yes no) :
   ∃ fr', Rep n fr' a /\ ((Region.wanted o (yielded ops a.tmps) = true /\ yes fr') \/ (Region.wanted o (yielded ops a.tmps) = false /\ no fr')) := by
 unfold WG at h
 unfold Region.wanted yielded
 split at h
 · rename_i hg; rw [hg]; exact ⟨fr, hr, .inl ⟨rfl, h⟩⟩
 · rename_i j want hg
   rw [hg]
   simp only
   split at h
   · rename_i hd; rw [hd]; exact ⟨fr, hr, .inr ⟨rfl, h⟩⟩
   · rename_i t hd
     rw [hd]
     simp only [Option.bind_some]
     have hget := hr.get t
     split at h
     · rename_i b hb
       rw [hb] at hget
       have hs : a.tmps[t]? = some (.bool b) := by
         rw [Array.getD_eq_getD_getElem?] at hget
         cases ha : a.tmps[t]? with
         | none => rw [ha] at hget; simp [undef] at hget
         | some v => rw [ha] at hget; simp at hget; rw [hget]
       rw [hs]
       refine ⟨_, hr.again hb, ?_⟩
       cases b <;> cases want <;> simp [BCase] at h <;> simp [h]
     · rename_i n1
       refine ⟨fr, hr, .inr ⟨?_, h⟩⟩
       split
       · rename_i b hb
         rw [Array.getD_eq_getD_getElem?, hb] at hget
         exact absurd hget.symm (n1 b)
       · rfl
def dsts (l : List Oper) : List Tmp := l.filterMap (·.dst)
structure Agree (S : List Tmp) (a a' : Act) : Prop where
 tmps : ∀ i, i ∉ S -> a'.tmps.getD i undef = a.tmps.getD i undef
theorem Agree.refl (S : List Tmp) (a : Act) : Agree S a a := ⟨fun _ _ => rfl⟩
theorem Agree.mono {S S' : List Tmp} {a a' : Act} (h : Agree S a a') (hs : ∀ t, t ∈ S -> t ∈ S') : Agree S' a a' :=
 ⟨fun i hi => h.tmps i fun hm => hi (hs i hm)⟩
theorem Agree.trans {S : List Tmp} {a b c : Act} (h : Agree S a b) (k : Agree S b c) : Agree S a c :=
 ⟨fun i hi => (k.tmps i hi).trans (h.tmps i hi)⟩
theorem Agree.put {S : List Tmp} (a : Act) (d : Option Tmp) (v : Value) (h : ∀ t, d = some t -> t ∈ S) : Agree S a (a.put d v) := by
 cases d with
 | none => exact Agree.refl _ _
 | some t =>
   refine ⟨fun i hi => ?_⟩
   have : t ≠ i := fun e => hi (e ▸ h t rfl)
   simp [Act.put, Array.getD_eq_getD_getElem?, Array.getElem?_setIfInBounds_ne this]
def WO (P : Program) (n : Nat) (ops : Array Oper) : List Oper -> (Fr -> World -> Prop) -> Fr -> World -> Prop
 | [], K, a, w => K a w
 | o :: rest, K, a, w => WG n ops o.guard a (fun a => WOp P n o a (WO P n ops rest K) w) (fun a => WO P n ops rest K (putF n a o.dst undef) w)
theorem qkK {o : Oper} {rest : List Oper} : ∀ t, t ∈ dsts rest -> t ∈ dsts (o :: rest) := by
 intro t ht
 simp only [dsts, List.mem_filterMap] at ht ⊢
 obtain ⟨x, hx, e⟩ := ht
 exact ⟨x, List.mem_cons_of_mem _ hx, e⟩
theorem qjc {o : Oper} {rest : List Oper} : ∀ t, o.dst = some t -> t ∈ dsts (o :: rest) := by
 intro t ht
 simp only [dsts, List.mem_filterMap]
 exact ⟨o, List.mem_cons_self, ht⟩
theorem qsN {P : Program} {n : Nat} {ops : Array Oper} {Q : Exit -> Act -> World -> Prop} : ∀ {l : List Oper} {K : Fr -> World -> Prop} {fr : Fr} {a : Act} {w : World}, Rep n fr a -> WO P n ops l K fr w ->
   (∀ fr' a' w', Rep n fr' a' -> Agree (dsts l) a a' -> K fr' w' -> Q .normal a' w') -> wpList P ops Q l a w
 | [], K, fr, a, w, hr, h, hk => hk _ _ _ hr (Agree.refl _ _) h
 | o :: rest, K, fr, a, w, hr, h, hk => by
   unfold wpList
   obtain ⟨fr', hr', ⟨hw, h⟩ | ⟨hw, h⟩⟩ := qth hr h
   · rw [if_pos hw]
     exact .inl (qtz hr' h fun v w' h' => qsN (hr'.put o.dst v) h' fun f' a' w'' hf ha hk' => hk f' a' w'' hf ((Agree.put a o.dst v qjc).trans (ha.mono qkK)) hk')
   · rw [if_neg (by simp [hw])]
     exact qsN (hr'.put o.dst _) h fun f' a' w'' hf ha hk' => hk f' a' w'' hf ((Agree.put a o.dst _ qjc).trans (ha.mono qkK)) hk'
def WQOp (P : Program) (n : Nat) (w0 : World) (o : Oper) (a : Fr) (K : Fr -> Prop) : Prop :=
 match pv P (evF a) o.op with
 | some (.val v) => nmK o.op v fun v => K (putF n a o.dst v)
 | some (.part c v) => c /\ nmK o.op v fun v => K (putF n a o.dst v)
 | none => match semV P (evF a) o with
   | some (.rd s) => exR (shT P o.type) fun v => (∀ w1, Below w0.heap.size w0 w1 -> s.run P w1 = .ok v w1) /\ K (putF n a o.dst v)
   | some _ => False
   | none => match qsR P (evF a) o.op with
     | some (f, args) => exR (shT P o.type) fun v => (∀ w1, Below w0.heap.size w0 w1 -> Calls P f args w1 fun e w2 => e = .returned v /\ Below w0.heap.size w1 w2) /\ K (putF n a o.dst v)
     | none => False
theorem quy {P : Program} {n : Nat} {w0 : World} {o : Oper} {fr : Fr} {a : Act} {K : Fr -> Prop} {K' : Act -> Prop} (hr : Rep n fr a) (h : WQOp P n w0 o fr K) (hk : ∀ v, K (putF n fr o.dst v) -> K' (a.put o.dst v)) :
   o.quiet P a (Below w0.heap.size w0) K' := by
 unfold WQOp at h
 rw [<- hr.eval] at h
 unfold Oper.quiet Oper.quietAt
 split at h
 · rename_i v hp; exact ⟨v, fun w _ => by rw [pv_ok hp trivial]; exact ⟨rfl, rfl⟩, hk _ (nmK_ok h)⟩
 · rename_i c v hp; exact ⟨v, fun w _ => by rw [pv_ok hp h.1]; exact ⟨rfl, rfl⟩, hk _ (nmK_ok h.2)⟩
 · split at h
   · rename_i s hs; obtain ⟨v, hv, h⟩ := qlI h
     exact ⟨v, fun w hw => by rw [qnx hs, RW.next, run_vN (hv w hw)]; exact ⟨rfl, rfl⟩, hk _ h⟩
   · cases h
   · split at h
     · rename_i f args hc
       obtain ⟨v, hv, h⟩ := qlI h
       exact ⟨v, fun w hw => by rw [callV_ok hc]; exact ⟨rfl, (hv w hw).mono fun e w2 he => ⟨he.1, hw.trans he.2⟩⟩, hk _ h⟩
     · cases h
def WQ (P : Program) (n : Nat) (w0 : World) (ops : Array Oper) : List Oper -> (Fr -> Prop) -> Fr -> Prop
 | [], K, a => K a
 | o :: rest, K, a => WG n ops o.guard a (fun a => WQOp P n w0 o a (WQ P n w0 ops rest K)) (fun a => WQ P n w0 ops rest K (putF n a o.dst undef))
theorem qts {P : Program} {n : Nat} {w0 : World} {ops : Array Oper} {Q : Act -> Prop} : ∀ {l : List Oper} {K : Fr -> Prop} {fr : Fr} {a : Act}, Rep n fr a -> WQ P n w0 ops l K fr ->
   (∀ fr' a', Rep n fr' a' -> Agree (dsts l) a a' -> K fr' -> Q a') -> wpQuiet P ops (Below w0.heap.size w0) Q l a
 | [], K, fr, a, hr, h, hk => hk _ _ hr (Agree.refl _ _) h
 | o :: rest, K, fr, a, hr, h, hk => by
   unfold wpQuiet
   obtain ⟨fr', hr', ⟨hw, h⟩ | ⟨hw, h⟩⟩ := qth hr h
   · rw [if_pos hw]
     exact quy hr' h fun v h' => qts (hr'.put o.dst v) h' fun f' a' hf ha hk' => hk f' a' hf ((Agree.put a o.dst v qjc).trans (ha.mono qkK)) hk'
   · rw [if_neg (by simp [hw])]
     exact qts (hr'.put o.dst _) h fun f' a' hf ha hk' => hk f' a' hf ((Agree.put a o.dst _ qjc).trans (ha.mono qkK)) hk'
section
variable {P : Program} {ops : Array Oper} {md : Region.Mode} {C : World -> Prop}
def qmb (P : Program) (md : Region.Mode) (ops : Array Oper) (C : World -> Prop) (n : Nat) (L : Array Bool -> Act -> Prop) : Nat -> Array Bool -> Act -> Prop
 | 0, listed, a => L listed a
 | f + 1, listed, a => Region.ready md ops listed ≠ [] /\ ∀ i ∈ Region.ready md ops listed, i < n /\ qOp P ops C i (qmb P md ops C n L f (listed.setIfInBounds i true)) a
theorem qhr {n g : Nat} {L : Array Bool -> Act -> Prop} {Q' : Exit -> Act -> World -> Prop} (hL : ∀ listed a w, C w -> L listed a -> wpAny P md ops Q' g listed a w) :
   ∀ (f : Nat) (listed : Array Bool) (a : Act) (w : World), C w -> qmb P md ops C n L f listed a -> wpAny P md ops Q' (f + g) listed a w
 | 0, listed, a, w, hw, h => by rw [Nat.zero_add]; exact hL _ _ _ hw h
 | f + 1, listed, a, w, hw, h => by
   rw [show f + 1 + g = (f + g) + 1 by omega]
   exact ⟨fun h0 => absurd h0 h.1, fun i hi => wpOp_of_qOp hw (fun a' w' hw' h' => qhr hL f _ a' w' hw' h') (h.2 i hi).2⟩
theorem qnA {n i : Nat} {oi : Oper} {v : Value} {L : Array Bool -> Act -> Prop} (hi : ops[i]? = some oi) (hsel : ∀ (j : Nat) (o : Oper) cs b, ops[j]? = some o -> o.op ≠ .select cs b)
   (hs : Region.sinkB md ops n = true) (hc : Region.chainB md ops n = true) (hn : n < ops.size) (hin : i < n)
   (hdone : ∀ listed a, L listed a -> ∀ j ∈ Region.ready md ops listed, n <= j) :
   ∀ (f : Nat) (listed : Array Bool) (a : Act), HeadInv md ops n listed ->
     (∀ j oj, ops[j]? = some oj -> j ≠ i -> listed.getD j true = false -> (∀ e ∈ oj.after, Region.binds md e = true -> e.on ≠ i) -> oi.apart ops oj = true) ->
     i ∈ Region.ready md ops listed -> YieldsIn P ops C oi v a ->
     qmb P md ops C n L f (listed.setIfInBounds i true) (a.put oi.dst v) -> qmb P md ops C n L (f + 1) listed a := by
 intro f
 induction f with
 | zero =>
   intro listed a inv _ hr hy H
   have hun := (mem_ready.1 hr).1
   refine ⟨fun h => (by rw [h] at hr; cases hr), fun j hj => ?_⟩
   have hjn : j < n := by
     rcases Nat.lt_or_ge j n with h | h
     · exact h
     · exact absurd hj (tail_waits hs hc hn inv _ i rfl hin hun j h)
   refine ⟨hjn, ?_⟩
   by_cases hji : j = i
   · subst hji; exact hy.qOp hi H
   · have := hdone _ _ H j (ready_mono hj hji)
     omega
 | succ f ih =>
   intro listed a inv hfree hr hy H
   have hun := (mem_ready.1 hr).1
   refine ⟨fun h => (by rw [h] at hr; cases hr), fun j hj => ?_⟩
   have hjn : j < n := by
     rcases Nat.lt_or_ge j n with h | h
     · exact h
     · exact absurd hj (tail_waits hs hc hn inv _ i rfl hin hun j h)
   refine ⟨hjn, ?_⟩
   by_cases hji : j = i
   · subst hji; exact hy.qOp hi H
   · have h1 := (H.2 j (ready_mono hj hji)).2
     obtain ⟨hjun, oj, hoj, hall⟩ := mem_ready.1 hj
     have hnot : ∀ e ∈ oj.after, Region.binds md e = true -> e.on ≠ i := fun e he hb heq => by
       have h1 := hall e he hb
       rw [heq, getD_both hun] at h1
       cases h1
     have h2 := qOp_put hoj (hfree j oj hoj hji hjun hnot) (fun cs b => hsel i oi cs b hi) (fun cs b => hsel j oj cs b hoj) hy h1
     have hfree' : ∀ k ok, ops[k]? = some ok -> k ≠ i -> (listed.setIfInBounds j true).getD k true = false ->
         (∀ e ∈ ok.after, Region.binds md e = true -> e.on ≠ i) -> oi.apart ops ok = true := fun k ok hk hki hun hno => by
       refine hfree k ok hk hki ?_ hno
       by_cases hjk : j = k
       · subst hjk; exact hjun
       · rw [getD_set_ne true hjk] at hun; exact hun
     refine qOp_mono (fun a' h3 => ih (listed.setIfInBounds j true) a' (inv.set hj hjn) hfree' (ready_mono hr (Ne.symm hji)) h3.1 ?_) h2
     rw [Array.setIfInBounds_comm _ _ hji]
     exact h3.2
theorem qlE {n g : Nat} {Lq : Act -> Prop} (hsel : Region.noSelect ops = true) (hs : Region.sinkB md ops n = true) (hc : Region.chainB md ops n = true) (hn : n < ops.size) :
   ∀ (l : List Oper) (k : Nat) (listed : Array Bool) (a : Act), (∀ j, j < l.length -> l[j]? = ops[k + j]?) -> k + l.length = n -> HeadInv md ops n listed ->
   Region.lexHead md ops g l.length k listed = true -> wpQuiet P ops C Lq l a ->
   qmb P md ops C n (fun listed' a' => Region.seqB md ops g n listed' = true /\ Lq a') l.length listed a
 | [], k, listed, a, _, hk, _, hB, h => by
   have : k = n := by simpa using hk
   subst this
   exact ⟨by simpa [Region.lexHead] using hB, h⟩
 | o :: l, k, listed, a, hl, hk, inv, hB, h => by
   have h0 : ops[k]? = some o := by simpa using (hl 0 (by simp)).symm
   simp only [List.length_cons, Region.lexHead, Bool.and_eq_true] at hB
   obtain ⟨⟨hr, hf⟩, hB'⟩ := hB
   have hkn : k < n := by simp only [List.length_cons] at hk; omega
   have hr' : k ∈ Region.ready md ops listed := by simpa using hr
   have hst : qOp P ops C k (wpQuiet P ops C Lq l) a := by unfold qOp; simp only [h0]; exact h
   obtain ⟨v, hy, hK⟩ := yieldsIn_of_qOp h0 hst
   exact qnA h0 (Region.noSelect_spec hsel) hs hc hn hkn (fun listed' a' hL => seqB_ready hL.1) l.length listed a inv (Region.free_spec h0 hf) hr' hy
     (qlE hsel hs hc hn l (k + 1) _ _ (fun j hj => by have := hl (j + 1) (by simp; omega); simpa [Nat.add_assoc, Nat.add_comm 1 j] using this) (by simp only [List.length_cons] at hk; omega) (inv.set hr' hkn) hB' hK)
theorem qhm {id : Nat} {Q : Exit -> Act -> World -> Prop} {a : Act} {w : World} (n : Nat) (hm : P.follows .mixedOrders = true) (hB : Region.lexTailB .any ops n = true) (hC : C { w with drawn := w.drawn + 1 })
   (h : wpQuiet P ops C (fun a' => ∀ w', C w' -> wpList P ops Q (ops.toList.drop n) a' w') (ops.toList.take n) a) : (Code.region id ops true).wp P Q a w := by
 simp only [Region.lexTailB, Bool.and_eq_true, dTx] at hB
 obtain ⟨⟨⟨⟨hsel, hn⟩, hs⟩, hc⟩, hlex⟩ := hB
 have htl : (ops.toList.take n).length = n := by simp; omega
 have hdl : (ops.toList.drop n).length = ops.size - n := by simp
 have inv0 : HeadInv .any ops n (Array.replicate ops.size false) :=
   ⟨by simp, fun j oj _ hl => (by rw [getD_replicate_false] at hl; cases hl), fun t _ ht => getD_in (by simpa using ht) (getD_replicate_false _ _)⟩
 have H := qlE (C := C) (md := .any) (g := ops.size - n) hsel hs hc hn (ops.toList.take n) 0 _ a (fun j hj => by
   have hj' : j < n := by rw [htl] at hj; exact hj
   simp [hj']) (by simpa using htl) inv0 (by rw [htl]; exact hlex) h
 refine wp_region_any hm ?_
 have := qhr (Q' := Q) (g := ops.size - n) (fun listed a' w' hw' hL => by
   have := wpAny_of_seq (md := .any) (Q' := Q) (ops.toList.drop n) n listed a' w' (fun j => by simp [List.getElem?_drop]) (by rw [hdl]; exact hL.1) (hL.2 w' hw')
   rwa [hdl] at this) _ _ _ _ hC H
 rw [htl, show n + (ops.size - n) = ops.size by omega] at this
 exact this
end
def qtV (f : Nat -> Prop) : List Nat -> Prop
 | [] => True
 | [i] => f i
 | i :: l => f i /\ qtV f l
theorem qoF {f : Nat -> Prop} : ∀ {l : List Nat}, qtV f l -> ∀ i ∈ l, f i
 | [], _, _, h => by cases h
 | [j], h, i, hi => by simp at hi; subst hi; exact h
 | j :: k :: l, h, i, hi => by
   rcases List.mem_cons.1 hi with rfl | hi
   · exact h.1
   · exact qoF h.2 i hi
def takes (P : Program) (ops : Array Oper) (listed : Array Bool) (a : Fr) (i : Nat) : Bool := match ops[i]? with
 | some o => (pv P (evF a) o.op).isSome && Region.free .any ops listed i
 | none => false
def WPV (r : Option PV) (K : Value -> Prop) : Prop := match r with
 | some (.val v) => K v
 | some (.part c v) => c /\ K v
 | none => False
def WA (P : Program) (n : Nat) (ops : Array Oper) (K : Fr -> World -> Prop) : Nat -> Array Bool -> Fr -> World -> Prop
 | 0, listed, a, w => match Region.ready .any ops listed with
   | [] => K a w
   | _ => False
 | fuel + 1, listed, a, w => match Region.ready .any ops listed with
   | [] => K a w
   | l => match l.find? (takes P ops listed a) with
     | some i => match ops[i]? with
       | none => False
       | some o => WG n ops o.guard a (fun a => WPV (pv P (evF a) o.op) fun v => nmK o.op v fun v => WA P n ops K fuel (listed.setIfInBounds i true) (putF n a o.dst v) w) (fun a => WA P n ops K fuel (listed.setIfInBounds i true) (putF n a o.dst undef) w)
     | none => qtV (fun i => match ops[i]? with
       | none => False
       | some o => WG n ops o.guard a (fun a => WOp P n o a (WA P n ops K fuel (listed.setIfInBounds i true)) w) (fun a => WA P n ops K fuel (listed.setIfInBounds i true) (putF n a o.dst undef) w)) l
theorem qjg {ops : Array Oper} {i : Nat} {o : Oper} (h : ops[i]? = some o) : ∀ t, o.dst = some t -> t ∈ dsts ops.toList := by
 intro t ht
 simp only [dsts, List.mem_filterMap]
 exact ⟨o, by have := Array.mem_of_getElem? h; simpa using this, ht⟩
def qu7 (N : Act -> World -> Prop) : Exit -> Act -> World -> Prop
 | .normal, a, w => N a w
 | _, _, _ => False
theorem qrb {P : Program} {n : Nat} {ops : Array Oper} {K : Fr -> World -> Prop} {N : Act -> World -> Prop} (hs : Region.noSelect ops = true) : ∀ {fuel : Nat} {listed : Array Bool} {fr : Fr} {a : Act} {w : World}, Rep n fr a -> WA P n ops K fuel listed fr w ->
   (∀ fr' a' w', Rep n fr' a' -> Agree (dsts ops.toList) a a' -> K fr' w' -> N a' w') -> wpAny P .any ops (qu7 N) fuel listed a w
 | 0, listed, fr, a, w, hr, h, hk => by
   unfold WA at h
   unfold wpAny
   split at h
   · rename_i hrd; exact ⟨hrd, hk _ _ _ hr (Agree.refl _ _) h⟩
   · cases h
 | fuel + 1, listed, fr, a, w, hr, h, hk => by
   unfold WA at h
   split at h
   · rename_i hrd
     unfold wpAny
     refine ⟨fun _ => hk _ _ _ hr (Agree.refl _ _) h, fun i hi => ?_⟩
     rw [hrd] at hi; cases hi
   · rename_i n1
     split at h
     · rename_i i hf
       have hmem := List.mem_of_find?_eq_some hf
       have ht := List.find?_some hf
       split at h
       · cases h
       · rename_i o ho
         simp only [takes, ho, Bool.and_eq_true] at ht
         obtain ⟨fr', hr', ⟨hw, h⟩ | ⟨hw, h⟩⟩ := qth hr h
         · unfold WPV at h
           rw [<- hr'.eval] at h
           split at h
           · rename_i v hp
             exact wpAny_take ho hs ht.2 (by simpa using hmem) (fun c a w hq => hq.elim) (.inl ⟨hw, fun w => pv_ok hp trivial w⟩)
               (qrb hs (hr'.put o.dst v) (nmK_ok h) fun f' a' w'' hf ha hk' => hk f' a' w'' hf ((Agree.put a o.dst v (qjg ho)).trans ha) hk')
           · rename_i c v hp
             exact wpAny_take ho hs ht.2 (by simpa using hmem) (fun c a w hq => hq.elim) (.inl ⟨hw, fun w => pv_ok hp h.1 w⟩)
               (qrb hs (hr'.put o.dst v) (nmK_ok h.2) fun f' a' w'' hf ha hk' => hk f' a' w'' hf ((Agree.put a o.dst v (qjg ho)).trans ha) hk')
           · cases h
         · exact wpAny_take ho hs ht.2 (by simpa using hmem) (fun c a w hq => hq.elim) (.inr ⟨hw, rfl⟩)
             (qrb hs (hr'.put o.dst _) h fun f' a' w'' hf ha hk' => hk f' a' w'' hf ((Agree.put a o.dst _ (qjg ho)).trans ha) hk')
     · unfold wpAny
       refine ⟨fun hrd => absurd hrd n1, fun i hi => ?_⟩
       have h1 := qoF h i hi
       unfold wpOp
       split at h1
       · cases h1
       · rename_i o ho
         rw [ho]
         simp only
         obtain ⟨fr', hr', ⟨hw, h⟩ | ⟨hw, h⟩⟩ := qth hr h1
         · rw [if_pos hw]
           exact .inl (qtz hr' h fun v w' h' => qrb hs (hr'.put o.dst v) h' fun f' a' w'' hf ha hk' => hk f' a' w'' hf ((Agree.put a o.dst v (qjg ho)).trans ha) hk')
         · rw [if_neg (by simp [hw])]
           exact qrb hs (hr'.put o.dst _) h fun f' a' w'' hf ha hk' => hk f' a' w'' hf ((Agree.put a o.dst _ (qjg ho)).trans ha) hk'
def know (n : Nat) (a : Fr) (c : Operand) (b : Bool) : Fr := match c with
 | .tmp t => putF n a (some t) (.bool b)
 | _ => a
theorem qqC {n : Nat} {fr : Fr} {a : Act} {c : Operand} {b : Bool} (hr : Rep n fr a) (h : evF fr c = .bool b) : Rep n (know n fr c b) a := by
 cases c with
 | tmp t => exact hr.again h
 | _ => exact hr
def writes : Code -> List Tmp
 | .region _ ops _ => dsts ops.toList
 | .seq a b => writes a ++ writes b
 | .cond _ a b => writes a ++ writes b
 | .block _ c | .loop c | .scope c => writes c
 | .rangeFunc _ ps a b => ps.toList ++ writes a ++ writes b
 | _ => []
def csize : Code -> Nat
 | .seq a b => csize a + csize b + 1
 | .cond _ a b => csize a + csize b + 1
 | .block _ c | .loop c | .scope c => csize c + 1
 | .rangeFunc _ _ a b => csize a + csize b + 1
 | _ => 1
abbrev Ann := List (Nat × List (Tmp × Sh))
def Ann.at (l : Ann) (p : Nat) : Option (List (Tmp × Sh)) := match l with
 | [] => none
 | (k, x) :: r => bif Nat.beq k p then some x else Ann.at r p
def reads (a : Fr) : List (Tmp × Sh) -> List Value
 | [] => []
 | (t, _) :: l => getF a t :: reads a l
def shapes : List (Tmp × Sh) -> List Sh
 | [] => []
 | (_, s) :: l => s :: shapes l
def slots : List (Tmp × Sh) -> List Tmp
 | [] => []
 | (t, _) :: l => t :: slots l
def puts (n : Nat) (a : Fr) : List Tmp -> List Value -> Fr
 | t :: l, v :: vs => puts n (putF n a (some t) v) l vs
 | _, _ => a
def allJ : List Tmp -> (List Value -> Prop) -> Prop
 | [], K => K []
 | _ :: l, K => ∀ v : Value, allJ l fun vs => K (v :: vs)
theorem qt6 {K : List Value -> Prop} : ∀ (l : List Tmp), (∀ vs, K vs) -> allJ l K := by
 intro l
 induction l generalizing K with
 | nil => intro h; exact h _
 | cons s l ih => intro h; exact fun _ => ih fun _ => h _
theorem qqF {f : Tmp -> Value} : ∀ {l : List Tmp} {K : List Value -> Prop}, allJ l K -> K (l.map f)
 | [], _, h => h
 | _ :: l, K, h => qqF (l := l) (h _)
def hasT : List Tmp -> Tmp -> Bool
 | [], _ => false
 | k :: l, t => bif Nat.beq k t then true else hasT l t
theorem qqu : ∀ {l : List Tmp} {t : Tmp}, hasT l t = true -> t ∈ l
 | k :: l, t, h => by
   simp only [hasT] at h
   cases hb : Nat.beq k t with
   | true => rw [Nat.eq_of_beq_eq_true hb]; exact List.mem_cons_self
   | false => rw [hb] at h; exact List.mem_cons_of_mem _ (qqu h)
def junk (S L : List Tmp) : List Tmp := match S with
 | [] => []
 | t :: S => bif hasT L t then junk S L else t :: junk S (t :: L)
theorem qoo : ∀ {S L : List Tmp} {t : Tmp}, t ∈ S -> t ∈ L \/ t ∈ junk S L
 | s :: S, L, t, h => by
   unfold junk
   cases hs : hasT L s with
   | true =>
     simp only [cond_true]
     rcases List.mem_cons.1 h with rfl | h
     · exact .inl (qqu hs)
     · exact qoo h
   | false =>
     simp only [cond_false]
     rcases List.mem_cons.1 h with rfl | h
     · exact .inr List.mem_cons_self
     · rcases qoo (L := s :: L) h with h | h
       · rcases List.mem_cons.1 h with rfl | h
         · exact .inr List.mem_cons_self
         · exact .inl h
       · exact .inr (List.mem_cons_of_mem _ h)
theorem qn7 {n : Nat} {f : Tmp -> Value} (hf : ∀ t, ¬ t < n -> f t = undef) : ∀ (l : List Tmp) (fr : Fr), (∀ t, ¬ t < n -> getF fr t = undef) -> ∀ i, getF (puts n fr l (l.map f)) i = if i ∈ l then f i else getF fr i
 | [], fr, _, i => by simp [puts]
 | t :: l, fr, hn, i => by
   simp only [List.map_cons, puts]
   have hn' : ∀ j, ¬ j < n -> getF (putF n fr (some t) (f t)) j = undef := by
     intro j hj
     simp only [putF]
     cases hb : Nat.ble (t + 1) n with
     | false => exact hn j hj
     | true =>
       simp only [cond_true, getF]
       cases he : Nat.beq t j with
       | false => exact hn j hj
       | true => rw [<- Nat.eq_of_beq_eq_true he] at hj; exact hf t hj
   rw [qn7 hf l _ hn' i]
   by_cases hi : i ∈ l
   · simp [hi]
   · by_cases ht : i = t
     · subst ht
       simp only [hi, if_false, List.mem_cons, true_or, if_true, putF]
       cases hb : Nat.ble (i + 1) n with
       | true =>
         have : Nat.beq i i = true := Nat.beq_refl i
         simp only [cond_true, getF, this]
       | false =>
         have hlt : ¬ i < n := by
           intro hlt
           have : Nat.ble (i + 1) n = true := Nat.ble_eq_true_of_le (by omega)
           rw [this] at hb; cases hb
         simp only [cond_false]
         rw [hn i hlt, hf i hlt]
     · have ht' : Nat.beq t i = false := by cases hb : Nat.beq t i <;> first | rfl | exact absurd (Nat.eq_of_beq_eq_true hb).symm ht
       simp only [hi, List.mem_cons, ht, or_false, if_false, putF]
       cases hb : Nat.ble (t + 1) n <;> simp [getF, ht']
theorem Rep.beyond {n : Nat} {fr : Fr} {a : Act} (h : Rep n fr a) (t : Nat) (ht : ¬ t < n) : getF fr t = undef := by
 rw [<- h.get t]
 have : ¬ t < a.tmps.size := by rw [h.size]; exact ht
 simp [Array.getD, this]
theorem qro {n : Nat} {fr fb : Fr} {a b : Act} {S L : List Tmp} (hr : Rep n fr a) (hb : Rep n fb b) (h : Agree S a b) :
   Rep n (puts n (puts n fr (junk S L) ((junk S L).map fun t => getF fb t)) L (L.map fun t => getF fb t)) b := by
 refine ⟨hb.size, hb.defers, fun i => ?_⟩
 have h1 := qn7 (f := fun t => getF fb t) (fun t ht => hb.beyond t ht) (junk S L) fr hr.beyond
 rw [qn7 (f := fun t => getF fb t) (fun t ht => hb.beyond t ht) L _ (fun t ht => by rw [h1 t]; split <;> first | exact hb.beyond t ht | exact hr.beyond t ht), h1]
 by_cases c1 : i ∈ L
 · simp [c1, hb.get]
 · by_cases c2 : i ∈ junk S L
   · simp [c1, c2, hb.get]
   · rw [if_neg c1, if_neg c2]
     rw [h.tmps i fun hS => ?_, hr.get]
     rcases qoo (L := L) hS with h' | h'
     · exact c1 h'
     · exact c2 h'
theorem qql (b : Fr) : ∀ l : List (Tmp × Sh), reads b l = (slots l).map fun t => getF b t
 | [] => rfl
 | (t, _) :: l => by simp only [reads, slots, List.map_cons, qql b l]
def quietable (ops : Array Oper) : Bool := ops.all fun o => match o.op with
 | .alloc _ | .box _ _ | .buildSlice _ _ _ | .makeMap _ _ | .makeSlice _ _ _ | .range _ _ | .next _ _ | .store _ _ _ | .mapUpdate _ _ _ _ | .insert _ _ _ _ => false
 | .call { callee := .builtin b, .. } => match b with | .len | .cap | .min | .max => true | _ => false
 | _ => true
def W (P : Program) (n : Nat) (ann : Ann) : Nat -> Code -> (Exit -> Fr -> World -> Prop) -> Fr -> World -> Prop
 | _, .skip, Q, a, w => Q .normal a w
 | p, .region _ ops draw, Q, a, w =>
   match draw with
   | false => WO P n ops ops.toList (Q .normal) a w
   | true => match quietable ops && Region.lexB .any ops && (ann.at (1000000 + p)).isNone with
     | true => WQ P n w ops ops.toList (fun a' => ∀ w' : World, Below w.heap.size w w' -> Q .normal a' w') a
     | false => match ann.at (2000000 + p) with
       | some ((h, _) :: _) => match Region.lexTailB .any ops h with
         | true => WQ P n w ops (ops.toList.take h) (fun a' => ∀ w' : World, Below w.heap.size w w' -> WO P n ops (ops.toList.drop h) (Q .normal) a' w') a
         | false => False
       | _ => match Region.noSelect ops with
         | true => WA P n ops (Q .normal) ops.size (Array.replicate ops.size false) a w.drew
         | false => False
 | p, .seq x y, Q, a, w =>
   match ann.at p with
   | none => W P n ann (p + 1) x (fun e a' w' => match e with | .normal => W P n ann (p + 1 + csize x) y Q a' w' | e => Q e a' w') a w
   | some live => ∃ J : FP (shapes live), W P n ann (p + 1) x (fun e a' w' => match e with | .normal => ap (shapes live) J (reads a' live) w' | e => Q e a' w') a w /\
       allL (shapes live) fun vs => allJ (junk (writes x) (slots live)) fun us => ∀ w' : World, ap (shapes live) J vs w' ->
         W P n ann (p + 1 + csize x) y Q (puts n (puts n a (junk (writes x) (slots live)) us) (slots live) vs) w'
 | p, .cond c x y, Q, a, w =>
   match evF a c with
   | .bool b => BCase b (W P n ann (p + 1) x Q (know n a c true) w) (W P n ann (p + 1 + csize x) y Q (know n a c false) w)
   | _ => False
 | p, .block id c, Q, a, w => W P n ann (p + 1) c (fun e a' w' => match e with | .exit id' => bif Nat.beq id' id then Q .normal a' w' else Q (.exit id') a' w' | e => Q e a' w') a w
 | p, .loop c, Q, a, w =>
   match ann.at p with
   | none => False
   | some live => ∃ I : Nat -> FP (shapes live), (∃ m : Nat, ap (shapes live) (I m) (reads a live) w) /\
       ∀ m : Nat, allL (shapes live) fun vs => allJ (junk (writes c) (slots live)) fun us => ∀ w' : World, ap (shapes live) (I m) vs w' ->
         W P n ann (p + 1) c (fun e a' w'' => match e with | .normal => ∃ m' : Nat, m' < m /\ ap (shapes live) (I m') (reads a' live) w'' | e => Q e a' w'') (puts n (puts n a (junk (writes c) (slots live)) us) (slots live) vs) w'
 | p, .scope c, Q, a, w => W P n ann (p + 1) c (fun e a' w' => match e with | .goto _ => False | e => Q e a' w') a w
 | _, .exit id, Q, a, w => Q (.exit id) a w
 | _, .goto l, Q, a, w => Q (.goto l) a w
 | _, .label _, Q, a, w => Q .normal a w
 | _, .ret, Q, a, w => Q .ret a w
 | _, .rangeFunc _ _ _ _, _, _, _ => False
 | _, .refuse _, _, _, _ => False
theorem qq9 {P : Program} {c : Code} {Q : Exit -> Act -> World -> Prop} {a : Act} {w : World} (I : Nat -> Act -> World -> Prop) (h₀ : ∃ m, I m a w)
   (round : ∀ m a w, I m a w -> c.wp P (Exit.then (fun a' w' => ∃ m', m' < m /\ I m' a' w') Q) a w) : (Code.loop c).wp P Q a w := by
 obtain ⟨m₀, h₀⟩ := h₀
 intro b k cs
 have key : ∀ m a w, I m a w -> ∃ e a' w', Q e a' w' /\ Arrives P (lone (b.at a (.code c :: .inLoop c :: k)) cs w) b k cs e a' w' := by
   intro m
   induction m using Nat.strongRecOn with
   | _ m ih =>
     intro a w hI
     obtain ⟨e, a₁, w₁, hq, harr⟩ := round m a w hI b (.inLoop c :: k) cs
     cases e with
     | normal =>
       obtain ⟨m', hlt, hI₁⟩ := hq
       obtain ⟨e₂, a₂, w₂, hq₂, harr₂⟩ := ih m' hlt a₁ w₁ hI₁
       exact ⟨e₂, a₂, w₂, hq₂, .of_steps (Steps.trans harr (.one step_inLoop)) harr₂⟩
     | exit id => exact ⟨_, a₁, w₁, hq, .pass (x := .inLoop c) rfl (fun _ _ => .inl (by simp)) harr⟩
     | goto l => exact ⟨_, a₁, w₁, hq, .pass (x := .inLoop c) rfl (fun _ _ => .inl (by simp)) harr⟩
     | ret => exact ⟨_, a₁, w₁, hq, .pass (x := .inLoop c) rfl (fun _ _ => .inl (by simp)) harr⟩
     | panic ch => exact ⟨_, a₁, w₁, hq, .pass (x := .inLoop c) rfl (fun _ _ => .inl (by simp)) harr⟩
     | outgrown => exact ⟨_, a₁, w₁, hq, .pass (x := .inLoop c) rfl (fun _ _ => .inl (by simp)) harr⟩
 obtain ⟨e, a', w', hq, harr⟩ := key m₀ a w h₀
 exact ⟨e, a', w', hq, .of_steps (.one step_loop) harr⟩
theorem told {n : Nat} {live : List (Tmp × Sh)} {f : FP (shapes live)} {S : List Tmp} {K : Fr -> World -> Prop} {fr fb : Fr} {a b : Act}
   (h : allL (shapes live) fun vs => allJ (junk S (slots live)) fun us => ∀ w' : World, ap (shapes live) f vs w' -> K (puts n (puts n fr (junk S (slots live)) us) (slots live) vs) w')
   {w' : World} (hr : Rep n fr a) (hfb : Rep n fb b) (hb : Agree S a b) (hf : ap (shapes live) f (reads fb live) w') : ∃ fr', Rep n fr' b /\ K fr' w' := by
 have h1 := qrQ (d := fun _ => False) (f := f) (K := fun t vs => allJ (junk S (slots live)) fun us => ∀ w' : World, t w' -> K (puts n (puts n fr (junk S (slots live)) us) (slots live) vs) w') h
   (fun vs => qt6 _ fun us w' hf => hf.elim) (reads fb live)
 have h2 := qqF (f := fun t => getF fb t) h1 w' hf
 rw [qql] at h2
 exact ⟨_, qro hr hfb hb, h2⟩
theorem W_ok {P : Program} (hm : P.follows .mixedOrders = true) (n : Nat) (ann : Ann) : ∀ (c : Code) (p : Nat) (Q : Exit -> Fr -> World -> Prop) (fr : Fr) (a : Act) (w : World), Rep n fr a -> W P n ann p c Q fr w ->
   ∀ Q' : Exit -> Act -> World -> Prop, (∀ e fr' a' w', Rep n fr' a' -> Agree (writes c) a a' -> Q e fr' w' -> Q' e a' w') -> c.wp P Q' a w := by
 intro c
 induction c with
 | skip => intro p Q fr a w hr h Q' hq; exact wp_skip (hq _ _ _ _ hr (Agree.refl _ _) h)
 | region id ops draw =>
   intro p Q fr a w hr h Q' hq
   cases draw with
   | false => exact wp_region_list (qsN hr h fun f' a' w' hf ha hk => hq _ _ _ _ hf ha hk)
   | true =>
     simp only [W] at h
     split at h
     · rename_i hb
       simp only [Bool.and_eq_true] at hb
       exact wp_region_quiet (C := Below w.heap.size w) hm hb.1.2 ((Below.refl _ w).drew) (qts hr h fun f' a' hf ha hk w' hw' => hq _ _ _ _ hf ha (hk w' hw'))
     · split at h
       · split at h
         · rename_i k _ _ _ _ hs
           have hsub1 : ∀ t, t ∈ dsts (ops.toList.take k) -> t ∈ dsts ops.toList := fun t ht => by
             simp only [dsts, List.mem_filterMap] at ht ⊢
             obtain ⟨x, hx, e⟩ := ht
             exact ⟨x, List.mem_of_mem_take hx, e⟩
           have hsub2 : ∀ t, t ∈ dsts (ops.toList.drop k) -> t ∈ dsts ops.toList := fun t ht => by
             simp only [dsts, List.mem_filterMap] at ht ⊢
             obtain ⟨x, hx, e⟩ := ht
             exact ⟨x, List.mem_of_mem_drop hx, e⟩
           exact qhm (C := Below w.heap.size w) k hm hs ((Below.refl _ w).drew) (qts hr h fun f' a' hf ha hk w' hw' =>
             qsN hf (hk w' hw') fun f'' a'' w'' hf' ha' hk' => hq _ _ _ _ hf' ((ha.mono hsub1).trans (ha'.mono hsub2)) hk')
         · cases h
       split at h
       · rename_i hs
         exact Code.wp_mono (fun e a w q => by cases e <;> first | exact q | exact q.elim) (wp_region_any hm (qrb (N := Q' .normal) hs hr h fun f' a' w' hf ha hk => hq _ _ _ _ hf ha hk))
       · cases h
 | seq x y ihx ihy =>
   intro p Q fr a w hr h Q' hq
   refine wp_seq ?_
   simp only [W] at h
   split at h
   · refine ihx _ _ _ _ _ hr h _ fun e f' a' w' hf ha he => ?_
     cases e with
     | normal => exact ihy _ _ _ _ _ hf he _ fun e f'' a'' w'' hf' ha' he' => hq _ _ _ _ hf' ((ha.mono fun t ht => List.mem_append_left _ ht).trans (ha'.mono fun t ht => List.mem_append_right _ ht)) he'
     | _ => exact hq _ _ _ _ hf (ha.mono fun t ht => List.mem_append_left _ ht) he
   · rename_i live _
     obtain ⟨J, h1, h2⟩ := h
     refine ihx _ _ _ _ _ hr h1 _ fun e f' a' w' hf ha he => ?_
     cases e with
     | normal =>
       obtain ⟨fr3, hr3, h3⟩ := told (K := fun b w' => W P n ann (p + 1 + csize x) y Q b w') h2 hr hf ha he
       exact ihy _ _ _ _ _ hr3 h3 _ fun e f'' a'' w'' hf' ha' he' => hq _ _ _ _ hf' ((ha.mono fun t ht => List.mem_append_left _ ht).trans (ha'.mono fun t ht => List.mem_append_right _ ht)) he'
     | _ => exact hq _ _ _ _ hf (ha.mono fun t ht => List.mem_append_left _ ht) he
 | cond c x y ihx ihy =>
   intro p Q fr a w hr h Q' hq
   simp only [W] at h
   split at h
   · rename_i b hb
     have hb' : a.eval c = .bool b := by rw [hr.eval]; exact hb
     refine wp_cond_split hb' (fun e => ?_) (fun e => ?_)
     · subst e
       exact ihx _ _ _ _ _ (qqC hr hb) h _ fun e f' a' w' hf ha he => hq _ _ _ _ hf (ha.mono fun t ht => List.mem_append_left _ ht) he
     · subst e
       exact ihy _ _ _ _ _ (qqC hr hb) h _ fun e f' a' w' hf ha he => hq _ _ _ _ hf (ha.mono fun t ht => List.mem_append_right _ ht) he
   · cases h
 | block id c ih =>
   intro p Q fr a w hr h Q' hq
   refine wp_block (ih _ _ _ _ _ hr h _ fun e f' a' w' hf ha he => ?_)
   cases e with
   | exit id' =>
     simp only [Exit.inBlock] at he ⊢
     cases hb : Nat.beq id' id with
     | true => rw [if_pos (Nat.eq_of_beq_eq_true hb)]; rw [hb] at he; exact hq _ _ _ _ hf ha he
     | false =>
       rw [if_neg (fun e => by rw [e, Nat.beq_refl] at hb; cases hb)]
       rw [hb] at he; exact hq _ _ _ _ hf ha he
   | _ => exact hq _ _ _ _ hf ha he
 | loop c ih =>
   intro p Q fr a w hr h Q' hq
   simp only [W] at h
   split at h
   · cases h
   · rename_i live _
     obtain ⟨I, ⟨m0, h0⟩, h⟩ := h
     refine qq9 (fun m b w' => ∃ fb, Rep n fb b /\ Agree (writes c) a b /\ ap (shapes live) (I m) (reads fb live) w') ⟨m0, fr, hr, Agree.refl _ _, h0⟩ fun m b w' ⟨fb, hfb, hb, hI⟩ => ?_
     obtain ⟨fr3, hr3, h3⟩ := told (K := fun b w' => W P n ann (p + 1) c (fun e a' w'' => match e with | .normal => ∃ m' : Nat, m' < m /\ ap (shapes live) (I m') (reads a' live) w'' | e => Q e a' w'') b w') (h m) hr hfb hb hI
     refine ih _ _ _ _ _ hr3 h3 _ fun e f' a' w'' hf ha he => ?_
     cases e with
     | normal => obtain ⟨m', hlt, hI'⟩ := he; exact ⟨m', hlt, f', hf, hb.trans ha, hI'⟩
     | _ => exact hq _ _ _ _ hf (hb.trans ha) he
 | scope c ih =>
   intro p Q fr a w hr h Q' hq
   refine wp_scope_straight (ih _ _ _ _ _ hr h _ fun e f' a' w' hf ha he => ?_)
   cases e with
   | goto l => exact he.elim
   | _ => exact hq _ _ _ _ hf ha he
 | exit id => intro p Q fr a w hr h Q' hq; exact wp_exit (hq _ _ _ _ hr (Agree.refl _ _) h)
 | goto l => intro p Q fr a w hr h Q' hq; exact wp_goto (hq _ _ _ _ hr (Agree.refl _ _) h)
 | label l => intro p Q fr a w hr h Q' hq; exact wp_label (hq _ _ _ _ hr (Agree.refl _ _) h)
 | ret => intro p Q fr a w hr h Q' hq; exact wp_ret (hq _ _ _ _ hr (Agree.refl _ _) h)
 | rangeFunc f ps x y ihx ihy => intro p Q fr a w hr h; exact h.elim
 | refuse => intro p Q fr a w hr h; exact h.elim
def Ret (K : Value -> World -> Prop) : Ending -> World -> Prop := fun e w => ∃ v, e = .returned v /\ K v w
def tmpR : List ResultVar -> Option (List Tmp)
 | [] => some []
 | .tmp t :: l => (tmpR l).map (t :: ·)
 | .cell _ _ :: _ => none
def shZ (P : Program) (t : TypeId) : Sh := match (P.info? t).bind (·.zero) with | some v => shV v | none => .one .any
def qpi (l : List Value) : Value := match l with | [v] => v | l => .tuple l.toArray
def qrc (ρ : Tmp -> Value) (r : ResultVar) : Sem Value := match r with
 | .tmp t => pure (ρ t)
 | .cell a t => do loadVar t (<- asAddr (ρ a))
def resF (rs : Array ResultVar) (ρ : Tmp -> Value) : Sem Value := do
 let vs <- rs.mapM (qrc ρ)
 pure (if h : vs.size = 1 then vs[0] else .tuple vs)
def qC (t : TypeId) (v : Value) : Sem Value := do loadVar t (<- asAddr v)
def WR (P : Program) (ρ : Tmp -> Value) (w : World) : List ResultVar -> (List Value -> Prop) -> Prop
 | [], k => k []
 | .tmp t :: rs, k => WR P ρ w rs fun vs => k (ρ t :: vs)
 | .cell a t :: rs, k => exS (shZ P t) fun v => (qC t (ρ a)).run P w = .ok v w /\ WR P ρ w rs fun vs => k (v :: vs)
theorem qtK {P : Program} {ρ : Tmp -> Value} {w : World} : ∀ (rs : List ResultVar) (k : List Value -> Prop), WR P ρ w rs k -> ∃ vs, (rs.mapM (qrc ρ)).run P w = .ok vs w /\ k vs
 | [], k, h => ⟨[], rfl, h⟩
 | .tmp t :: rs, k, h => by
   obtain ⟨vs, h1, h2⟩ := qtK rs _ h
   refine ⟨_, ?_, h2⟩
   rw [List.mapM_cons]
   have e : qrc ρ (.tmp t) = pure (ρ t) := rfl
   simp only [e, Sem.run_bind, Sem.run_pure, Result.andThen_ok, h1]
 | .cell a t :: rs, k, h => by
   obtain ⟨v, h0, h⟩ := qpT h
   obtain ⟨vs, h1, h2⟩ := qtK rs _ h
   refine ⟨_, ?_, h2⟩
   rw [List.mapM_cons]
   have e : qrc ρ (.cell a t) = qC t (ρ a) := rfl
   simp only [e, Sem.run_bind, Sem.run_pure, Result.andThen_ok, h0, h1]
def WB (P : Program) (fn : Func) (K : Value -> World -> Prop) : Exit -> Fr -> World -> Prop
 | .normal, a, w | .ret, a, w => match tmpR fn.results.toList with
     | some l => K (qpi (l.map fun t => getF a t)) w
     | none => WR P (getF a) w fn.results.toList fun vs => K (qpi vs) w
 | _, _, _ => False
theorem qrj (fn : Func) (tmps : Array Value) : results fn tmps = resF fn.results fun t => tmps.getD t undef := rfl
theorem qpM {P : Program} {rs : Array ResultVar} {l : List Tmp} (h : tmpR rs.toList = some l) (ρ : Tmp -> Value) (w : World) :
   (resF rs ρ).run P w = .ok (qpi (l.map ρ)) w := by
 have hm : ∀ (rs : List ResultVar) (l : List Tmp), tmpR rs = some l -> (rs.mapM (qrc ρ)).run P w = .ok (l.map ρ) w := by
   intro rs
   induction rs with
   | nil => intro l h; simp [tmpR] at h; subst h; rfl
   | cons r rs ih =>
     intro l h
     cases r with
     | tmp t =>
       cases hr : tmpR rs with
       | none => simp [tmpR, hr] at h
       | some l' =>
         simp [tmpR, hr] at h; subst h
         rw [List.mapM_cons]
         have e : qrc ρ (.tmp t) = pure (ρ t) := rfl
         simp only [e, Sem.run_bind, Sem.run_pure, Result.andThen_ok, ih _ hr, List.map_cons]
     | cell a t => simp [tmpR] at h
 unfold resF
 rw [Sem.run_bind, Array.mapM_eq_mapM_toList, Sem.run_map, hm _ _ h]
 simp only [Result.andThen_ok, Sem.run_pure]
 congr 1
 generalize (l.map ρ) = vs
 match vs with
 | [] => rfl
 | [v] => rfl
 | v :: u :: vs => simp [qpi]
def qnr : Nat -> List Value -> Fr
 | _, [] => []
 | i, v :: vs => (i, v) :: qnr (i + 1) vs
theorem qni : ∀ (vs : List Value) (i j : Nat), getF (qnr i vs) j = if i <= j then (vs[j - i]?).getD undef else undef
 | [], i, j => by simp [qnr, getF]
 | v :: vs, i, j => by
   simp only [qnr, getF]
   cases hb : Nat.beq i j with
   | true => have := Nat.eq_of_beq_eq_true hb; subst this; simp
   | false =>
     have hne : i ≠ j := fun e => by rw [e, Nat.beq_refl] at hb; cases hb
     rw [cond_false, qni vs (i + 1) j]
     by_cases hij : i <= j
     · have h1 : i + 1 <= j := by omega
       have h2 : j - i = (j - (i + 1)) + 1 := by omega
       rw [if_pos h1, if_pos hij, h2]; simp
     · have h1 : ¬ i + 1 <= j := by omega
       rw [if_neg h1, if_neg hij]
theorem qo {P : Program} (hm : P.follows .mixedOrders = true) {f : FuncId} {fn : Func} {c : Code} (hf : P.funcs[f]? = some fn) (hb : fn.body = some c) (ann : Ann) (args : List Value) (hn : args.length <= fn.ntmps)
   {w : World} {K : Value -> World -> Prop} (V : Prop) (he : W P fn.ntmps ann 0 c (WB P fn K) (qnr 0 args) w = V) (h : V) : Calls P f args.toArray w (Ret K) := by
 refine calls_of_wp hf hb ?_
 have hr : Rep fn.ntmps (qnr 0 args) { tmps := args.toArray ++ Array.replicate (fn.ntmps - args.toArray.size) undef, defers := [] } := by
   refine ⟨by simp; omega, rfl, fun t => ?_⟩
   rw [qni]
   simp only [Nat.zero_le, if_true, Nat.sub_zero, Array.getD_eq_getD_getElem?, Array.getElem?_append, List.size_toArray, List.getElem?_toArray]
   by_cases ht : t < args.length
   · simp [ht]
   · simp only [if_neg ht]
     rw [List.getElem?_eq_none (by omega : args.length <= t)]
     simp only [Array.getElem?_replicate]
     split <;> rfl
 refine W_ok hm _ ann c 0 _ _ _ _ hr (he ▸ h) _ fun e fr' a' w' hr' _ he => ?_
 have key : ∀ {a : Act} {fr : Fr} {w : World}, Rep fn.ntmps fr a -> (match tmpR fn.results.toList with
     | some l => K (qpi (l.map fun t => getF fr t)) w
     | none => WR P (getF fr) w fn.results.toList fun vs => K (qpi vs) w) -> a.defers = [] /\ ∃ v, (results fn a.tmps).run P w = .ok v w /\ Ret K (.returned v) w := by
   intro a fr w hr h
   have e : (fun t => a.tmps.getD t undef) = getF fr := funext hr.get
   refine ⟨hr.defers, ?_⟩
   rw [qrj, e]
   split at h
   · rename_i l hl; exact ⟨_, qpM hl _ _, _, rfl, h⟩
   · obtain ⟨vs, hv, h⟩ := qtK _ _ h
     refine ⟨qpi vs, ?_, _, rfl, h⟩
     unfold resF
     rw [Sem.run_bind, Array.mapM_eq_mapM_toList, Sem.run_map, hv]
     simp only [Result.andThen_ok, Sem.run_pure]
     congr 1
     match vs with
     | [] => rfl
     | [v] => rfl
     | v :: u :: vs => simp [qpi]
 cases e with
 | normal => exact key hr' he
 | ret => exact key hr' he
 | _ => exact he.elim
theorem callK {P : Program} {f : FuncId} {args : Array Value} {w : World} {K : Value -> World -> Prop} {R : Ending -> World -> Prop} (h : Calls P f args w (Ret K)) (hk : ∀ v w', K v w' -> R (.returned v) w') :
   Calls P f args w R := h.mono fun e w' ⟨v, he, hv⟩ => by subst he; exact hk v w' hv
def qA (s : List UInt8) (j : Int) : Int := ((s[j.toNat]?.getD 0).toNat : Nat)
def qn (a : Option Addr) (j : Int) (size : Nat) : Option Addr := a.map (·.add (j.toNat * size))
def qlN (a : Option Addr) (c l size : Nat) : Option Addr := if c = l then a else a.map (·.add (l * size))
def AllJ : Nat -> Prop -> Prop
 | 0, X => X
 | k + 1, X => ∀ _ : Value, AllJ k X
theorem AllJ.of {X : Prop} (h : X) : ∀ k, AllJ k X
 | 0 => h
 | k + 1 => fun _ => AllJ.of h k
def qr (fn : Func) : Code := fn.body.getD .skip
end Go.Pk
namespace Go.Pk
open Go.RowKit (Below)
abbrev Bl := Nat -> Prop
structure Keep (A : Bl) (w w' : World) : Prop where
 size : w.heap.size <= w'.heap.size
 block : ∀ b, b < w.heap.size -> A b -> w'.heap[b]? = w.heap[b]?
theorem Keep.refl (A : Bl) (w : World) : Keep A w w := ⟨Nat.le_refl _, fun _ _ _ => rfl⟩
theorem Keep.trans {A : Bl} {a b c : World} (h : Keep A a b) (k : Keep A b c) : Keep A a c :=
 ⟨Nat.le_trans h.size k.size, fun i hi ha => (k.block i (Nat.lt_of_lt_of_le hi h.size) ha).trans (h.block i hi ha)⟩
theorem Keep.mono {A A' : Bl} {w w' : World} (h : Keep A w w') (ha : ∀ b, A' b -> A b) : Keep A' w w' := ⟨h.size, fun b hb hab => h.block b hb (ha b hab)⟩
theorem qne {w w' : World} (h : Below w.heap.size w w') (A : Bl) : Keep A w w' := ⟨h.size, fun b hb _ => h.block b hb⟩
theorem qby {w w' : World} {row : Option Nat} (h : w.grownBy w' row) {A : Bl} (ha : ∀ b, A b -> some b ≠ row) : Keep A w w' := ⟨h.size, fun b hb hab => h.block b hb (ha b hab)⟩
theorem zV (w : World) : Below w.heap.size w w.drew := (Below.refl _ w).drew
theorem qf (w : World) (o : Obj) : Below w.heap.size w (w.alloc o) := (Below.refl _ w).alloc (Nat.le_refl _) o
theorem qb {B : Nat} {a b c : World} (h : Below B a b) (k : Below b.heap.size b c) (hB : B <= b.heap.size) : Below B a c := h.trans (k.mono hB)
structure Ty (α : Type) where
 k : Nat
 pos : 0 < k
 rep : World -> Bl -> List Value -> α -> Prop
 len : ∀ {w A vs x}, rep w A vs x -> vs.length = k
 one : ∀ {w A vs x}, rep w A vs x -> ∀ v ∈ vs, v.oneCell' = true
 keep : ∀ {w w' A vs x}, rep w A vs x -> Keep A w w' -> rep w' A vs x
 mono : ∀ {w A A' vs x}, rep w A vs x -> (∀ b, b < w.heap.size -> A b -> A' b) -> rep w A' vs x
def Ty.enc {α : Type} (e : α -> Value) (h1 : ∀ x, (e x).oneCell' = true) (p : α -> Prop) : Ty α where
 k := 1
 pos := by decide
 rep := fun _ _ vs x => vs = [e x] /\ p x
 len := fun h => by rw [h.1]; rfl
 one := fun {_ _ _ x} h v hv => by rw [h.1] at hv; simp at hv; rw [hv]; exact h1 x
 keep := fun h _ => h
 mono := fun h _ => h
def tInt (k : IntKind) (p : Int -> Prop) : Ty Int := Ty.enc (fun n => .int k n) (fun _ => rfl) p
def tI64 : Ty Int := tInt .i64 fun _ => True
def tU8 : Ty UInt8 := Ty.enc (fun c => .int .u8 (c.toNat : Nat)) (fun _ => rfl) fun _ => True
def tStr (p : List UInt8 -> Prop) : Ty (List UInt8) := Ty.enc (fun s => .string (mkS s)) (fun _ => rfl) p
abbrev tS : Ty (List UInt8) := tStr fun _ => True
def NoB : Bl := fun _ => False
structure TF (P : Program) (t : TypeId) (k bytes : Nat) (z : Value) : Prop where
 info : ∃ i, P.info? t = some i /\ i.size = k /\ i.bytes = bytes /\ i.zero = some z
 cells : z.cells.size = k
 und : ∃ d, P.underlying t = some d /\ (aggD d = true \/ k = 1 /\ aggD d = false)
theorem TF.of {P : Program} {t : TypeId} {k bytes : Nat} {z : Value} (h1 : (P.info? t).map (fun i => (i.size, i.bytes, i.zero)) = some (k, bytes, some z)) (h2 : z.cells.size = k) (b : Bool)
   (h3 : (P.underlying t).map aggD = some b) (h4 : b = true \/ k = 1) : TF P t k bytes z := by
 cases hi : P.info? t with
 | none => rw [hi] at h1; cases h1
 | some i =>
   rw [hi] at h1
   simp only [Option.map_some, Option.some.injEq, Prod.mk.injEq] at h1
   cases hu : P.underlying t with
   | none => rw [hu] at h3; cases h3
   | some d =>
     rw [hu] at h3
     simp only [Option.map_some, Option.some.injEq] at h3
     refine ⟨⟨i, hi, h1.1, h1.2.1, h1.2.2⟩, h2, d, hu, ?_⟩
     cases b with
     | true => exact .inl h3
     | false => exact .inr ⟨h4.resolve_left (by simp), h3⟩
structure RepL {α : Type} (T : Ty α) (w : World) (A : Bl) (l : List Value) (xs : List α) : Prop where
 len : l.length = xs.length * T.k
 rep : ∀ i (h : i < xs.length), T.rep w A ((l.drop (i * T.k)).take T.k) xs[i]
theorem RepL.nil {α : Type} (T : Ty α) (w : World) (A : Bl) : RepL T w A [] ([] : List α) := ⟨by simp, fun i h => by cases h⟩
theorem RepL.one {α : Type} {T : Ty α} {w : World} {A : Bl} {vs : List Value} {x : α} (h : T.rep w A vs x) : RepL T w A vs [x] := by
 have hl := T.len h
 refine ⟨by simp [hl], fun i hi => ?_⟩
 have : i = 0 := by simpa using hi
 subst this
 simp only [Nat.zero_mul, List.drop_zero, List.getElem_cons_zero]
 rw [List.take_of_length_le (by omega)]; exact h
theorem RepL.append {α : Type} {T : Ty α} {w : World} {A : Bl} {l m : List Value} {xs ys : List α} (h : RepL T w A l xs) (k : RepL T w A m ys) : RepL T w A (l ++ m) (xs ++ ys) := by
 refine ⟨by rw [List.length_append, List.length_append, h.len, k.len, Nat.add_mul], fun i hi => ?_⟩
 by_cases c : i < xs.length
 · rw [List.getElem_append_left c]
   have h1 := h.rep i c
   have h2 : i * T.k + T.k <= l.length := by
     have := Nat.mul_le_mul_right T.k (show i + 1 <= xs.length from c)
     rw [Nat.add_mul, Nat.one_mul] at this
     rw [h.len]; exact this
   rw [List.drop_append_of_le_length (by omega), List.take_append_of_le_length (by rw [List.length_drop]; omega)]
   exact h1
 · have hi' : i - xs.length < ys.length := by simp at hi; omega
   rw [List.getElem_append_right (by omega)]
   have h1 := k.rep (i - xs.length) hi'
   have h2 : i * T.k = l.length + (i - xs.length) * T.k := by
     rw [h.len, <- Nat.add_mul]; congr 1; omega
   rw [h2, List.drop_length_add_append]
   exact h1
theorem RepL.keep {α : Type} {T : Ty α} {w w' : World} {A : Bl} {l : List Value} {xs : List α} (h : RepL T w A l xs) (hk : Keep A w w') : RepL T w' A l xs := ⟨h.len, fun i hi => T.keep (h.rep i hi) hk⟩
theorem RepL.mono {α : Type} {T : Ty α} {w : World} {A A' : Bl} {l : List Value} {xs : List α} (h : RepL T w A l xs) (ha : ∀ b, b < w.heap.size -> A b -> A' b) : RepL T w A' l xs := ⟨h.len, fun i hi => T.mono (h.rep i hi) ha⟩
theorem RepL.ones {α : Type} {T : Ty α} {w : World} {A : Bl} : ∀ {xs : List α} {l : List Value}, RepL T w A l xs -> ∀ v ∈ l, v.oneCell' = true
 | [], l, h, v, hv => by have := h.len; simp at this; subst this; cases hv
 | x :: xs, l, h, v, hv => by
   have hl := h.len
   have hk := T.pos
   have h1 := h.rep 0 (by simp)
   rw [Nat.zero_mul, List.drop_zero] at h1
   have h2 : RepL T w A (l.drop T.k) xs := by
     refine ⟨by rw [List.length_drop, hl]; simp [Nat.add_mul], fun i hi => ?_⟩
     have := h.rep (i + 1) (by simp; omega)
     simp only [List.getElem_cons_succ] at this
     rw [List.drop_drop]
     rw [Nat.add_mul, Nat.one_mul, Nat.add_comm] at this
     exact this
   rw [<- List.take_append_drop T.k l] at hv
   rcases List.mem_append.1 hv with hv | hv
   · exact T.one h1 v hv
   · exact RepL.ones h2 v hv
theorem RepL.set {α : Type} {T : Ty α} {w : World} {A : Bl} {l : List Value} {xs : List α} (h : RepL T w A l xs) {i : Nat} (hi : i < xs.length) {vs : List Value} {x : α} (hx : T.rep w A vs x) :
   RepL T w A (l.take (i * T.k) ++ vs ++ l.drop (i * T.k + vs.length)) (xs.set i x) := by
 have hv := T.len hx
 have hb : i * T.k + T.k <= l.length := by
   have := Nat.mul_le_mul_right T.k (show i + 1 <= xs.length from hi)
   rw [Nat.add_mul, Nat.one_mul] at this
   rw [h.len]; exact this
 refine ⟨?_, fun j hj => ?_⟩
 · rw [List.length_set, <- h.len, List.length_append, List.length_append, List.length_take, List.length_drop, hv]; omega
 · have hj' : j < xs.length := by simpa using hj
   have key : (l.take (i * T.k) ++ vs ++ l.drop (i * T.k + vs.length)) = l.take (i * T.k) ++ (vs ++ l.drop (i * T.k + vs.length)) := List.append_assoc _ _ _
   have htl : (l.take (i * T.k)).length = i * T.k := by rw [List.length_take]; omega
   by_cases c1 : j < i
   · have h1 := h.rep j hj'
     have h2 : j * T.k + T.k <= i * T.k := by
       have := Nat.mul_le_mul_right T.k (show j + 1 <= i from c1)
       rwa [Nat.add_mul, Nat.one_mul] at this
     rw [List.getElem_set_ne (by omega), key, List.drop_append_of_le_length (by omega), List.take_append_of_le_length (by rw [List.length_drop]; omega)]
     rw [List.drop_take, List.take_take]
     rw [show min T.k (i * T.k - j * T.k) = T.k by omega]
     exact h1
   · by_cases c2 : j = i
     · subst c2
       rw [List.getElem_set_self, key, List.drop_left' htl, <- hv, List.take_left]
       exact hx
     · have h1 := h.rep j hj'
       have h2 : i * T.k + T.k <= j * T.k := by
         have := Nat.mul_le_mul_right T.k (show i + 1 <= j by omega)
         rwa [Nat.add_mul, Nat.one_mul] at this
       rw [List.getElem_set_ne (by omega)]
       have e1 : (l.take (i * T.k) ++ vs ++ l.drop (i * T.k + vs.length)).drop (j * T.k) = l.drop (j * T.k) := by
         have e2 : j * T.k = (l.take (i * T.k) ++ vs).length + (j * T.k - (i * T.k + T.k)) := by rw [List.length_append, htl, hv]; omega
         rw [e2, List.drop_length_add_append, List.drop_drop]
         congr 1
         omega
       rw [e1]; exact h1
def At {α : Type} (T : Ty α) (w : World) (A : Bl) (b off : Nat) (xs : List α) : Prop :=
 ∃ l : List Value, RepL T w A l xs /\ ∀ j, j < l.length -> w.cell? ⟨b, off + j, none⟩ = l[j]?
def Sl {α : Type} (T : Ty α) (w : World) (A : Bl) (a : Option Addr) (n c : Nat) (xs : List α) : Prop :=
 n = xs.length /\ n <= c /\ c <= maxLen /\ (xs = [] \/ ∃ b off, a = some ⟨b, off, none⟩ /\ b < w.heap.size /\ A b /\ At T w A b off xs)
theorem qlj {w w' : World} {b : Nat} (h : w'.heap[b]? = w.heap[b]?) (o : Nat) : w'.cell? ⟨b, o, none⟩ = w.cell? ⟨b, o, none⟩ := by simp [World.cell?, h]
theorem At.keep {α : Type} {T : Ty α} {w w' : World} {A : Bl} {b off : Nat} {xs : List α} (h : At T w A b off xs) (hb : b < w.heap.size) (ha : A b) (hk : Keep A w w') : At T w' A b off xs := by
 obtain ⟨l, h1, h2⟩ := h
 exact ⟨l, h1.keep hk, fun j hj => by rw [qlj (hk.block b hb ha)]; exact h2 j hj⟩
theorem Sl.keep {α : Type} {T : Ty α} {w w' : World} {A : Bl} {a : Option Addr} {n c : Nat} {xs : List α} (h : Sl T w A a n c xs) (hk : Keep A w w') : Sl T w' A a n c xs := by
 obtain ⟨h1, h2, h3, h4⟩ := h
 refine ⟨h1, h2, h3, ?_⟩
 rcases h4 with h4 | ⟨b, off, e, hb, ha, h4⟩
 · exact .inl h4
 · exact .inr ⟨b, off, e, Nat.lt_of_lt_of_le hb hk.size, ha, h4.keep hb ha hk⟩
theorem Sl.below {α : Type} {T : Ty α} {w w' : World} {A : Bl} {a : Option Addr} {n c : Nat} {xs : List α} (h : Sl T w A a n c xs) (hk : Below w.heap.size w w') : Sl T w' A a n c xs := h.keep (qne hk A)
theorem Sl.mono {α : Type} {T : Ty α} {w : World} {A A' : Bl} {a : Option Addr} {n c : Nat} {xs : List α} (h : Sl T w A a n c xs) (ha : ∀ b, b < w.heap.size -> A b -> A' b) : Sl T w A' a n c xs := by
 obtain ⟨h1, h2, h3, h4⟩ := h
 refine ⟨h1, h2, h3, ?_⟩
 rcases h4 with h4 | ⟨b, off, e, hb, hab, h4⟩
 · exact .inl h4
 · obtain ⟨l, h5, h6⟩ := h4
   exact .inr ⟨b, off, e, hb, ha b hb hab, l, h5.mono ha, h6⟩
theorem Sl.len {α : Type} {T : Ty α} {w : World} {A : Bl} {a : Option Addr} {n c : Nat} {xs : List α} (h : Sl T w A a n c xs) : n = xs.length := h.1
theorem Sl.le {α : Type} {T : Ty α} {w : World} {A : Bl} {a : Option Addr} {n c : Nat} {xs : List α} (h : Sl T w A a n c xs) : xs.length <= 9223372036854775807 := by
 have h1 := h.1; have h2 := h.2.1; have h3 := h.2.2.1; unfold maxLen at h3; omega
theorem Sl.nil {α : Type} (T : Ty α) (w : World) (A : Bl) (a : Option Addr) (c : Nat) (hc : c <= maxLen) : Sl T w A a 0 c ([] : List α) := ⟨rfl, Nat.zero_le _, hc, .inl rfl⟩
theorem Sl.isSome {α : Type} {T : Ty α} {w : World} {A : Bl} {a : Option Addr} {n c : Nat} {xs : List α} (h : Sl T w A a n c xs) {i : Nat} (hi : i < xs.length) : Option.isSome a = true := by
 rcases h.2.2.2 with h4 | ⟨b, off, e, _⟩
 · subst h4; cases hi
 · rw [e]; rfl
theorem jZ (b o j : Nat) : (⟨b, o, none⟩ : Addr).add j = ⟨b, o + j, none⟩ := by
 unfold Addr.add; split <;> simp_all
theorem loadVar_one {P : Program} {t : TypeId} {d : TypeDesc} (hu : P.underlying t = some d) (ha : aggD d = false) {w : World} {p : Addr} {v : Value} (hc : w.cell? p = some v) :
   (loadVar t p).run P w = .ok v w := by
 unfold loadVar
 rw [Sem.run_bind, qgg hu, ha]
 simp [hc]
theorem qoK {P : Program} {w : World} {b off : Nat} {vs : List Value} (h : ∀ j, j < vs.length -> w.cell? ⟨b, off + j, none⟩ = vs[j]?) : (loadCells ⟨b, off, none⟩ vs.length).run P w = .ok vs.toArray w :=
 run_loadCells_list (P := P) w ⟨b, off, none⟩ vs fun j v hv => by
   rw [jZ, h j (by have := (List.getElem?_eq_some_iff.1 hv).1; exact this)]; exact hv
theorem qma {P : Program} {t : TypeId} {d : TypeDesc} {i : TypeInfo} (hu : P.underlying t = some d) (ha : aggD d = true) (hi : P.info? t = some i) {w : World} {b off : Nat} {vs : List Value} (hl : vs.length = i.size)
   (h : ∀ j, j < vs.length -> w.cell? ⟨b, off + j, none⟩ = vs[j]?) : (loadVar t ⟨b, off, none⟩).run P w = .ok (.agg vs.toArray) w := by
 unfold loadVar
 rw [Sem.run_bind, qgg hu, ha]
 have := qoK (P := P) h
 rw [hl] at this
 simp [qaU hi, this]
theorem qdA (b off : Nat) (i : Int) (k : Nat) : qn (some ⟨b, off, none⟩) i k = some ⟨b, off + i.toNat * k, none⟩ := by
 simp [qn, jZ]
theorem At.elem {α : Type} {T : Ty α} {w : World} {A : Bl} {b off : Nat} {xs : List α} (h : At T w A b off xs) {i : Nat} (hi : i < xs.length) :
   ∃ vs, T.rep w A vs xs[i] /\ ∀ j, j < T.k -> w.cell? ⟨b, off + i * T.k + j, none⟩ = vs[j]? := by
 obtain ⟨l, h1, h2⟩ := h
 have hb : i * T.k + T.k <= l.length := by
   have := Nat.mul_le_mul_right T.k (show i + 1 <= xs.length from hi)
   rw [Nat.add_mul, Nat.one_mul] at this
   rw [h1.len]; exact this
 refine ⟨_, h1.rep i hi, fun j hj => ?_⟩
 rw [Nat.add_assoc, h2 _ (by omega), List.getElem?_take, if_pos hj, List.getElem?_drop]
theorem Sl.load1 {α : Type} {T : Ty α} {P : Program} {t : TypeId} {d : TypeDesc} (hu : P.underlying t = some d) (ha : aggD d = false) (hk : T.k = 1)
   {w : World} {A : Bl} {a : Option Addr} {n c : Nat} {xs : List α} (h : Sl T w A a n c xs) {i : Int} (hi : i.toNat < xs.length) :
   ∃ v, (Instr.loadAt t (.pointer (qn a i 1))).run P w = .ok v w /\ T.rep w A [v] xs[i.toNat] := by
 rcases h.2.2.2 with h4 | ⟨b, off, e, hb, hab, h4⟩
 · subst h4; cases hi
 · obtain ⟨vs, h5, h6⟩ := h4.elem hi
   have hl := T.len h5
   rw [hk] at hl
   match vs, hl with
   | [v], _ =>
     refine ⟨v, ?_, h5⟩
     have h7 := h6 0 (by rw [hk]; decide)
     rw [hk] at h7
     rw [e, qdA]
     show (do loadVar t (<- Instr.sureAddr (.pointer (some _)))).run P w = _
     rw [Sem.run_bind, qcu]
     exact loadVar_one hu ha (by simpa using h7)
theorem Sl.loadA {α : Type} {T : Ty α} {P : Program} {t : TypeId} {d : TypeDesc} {ti : TypeInfo} (hu : P.underlying t = some d) (ha : aggD d = true) (hi' : P.info? t = some ti) {k : Nat} (hk : T.k = k) (hs : ti.size = k)
   {w : World} {A : Bl} {a : Option Addr} {n c : Nat} {xs : List α} (h : Sl T w A a n c xs) {i : Int} (hi : i.toNat < xs.length) :
   ∃ vs, (Instr.loadAt t (.pointer (qn a i k))).run P w = .ok (.agg vs.toArray) w /\ T.rep w A vs xs[i.toNat] := by
 subst hk
 rcases h.2.2.2 with h4 | ⟨b, off, e, hb, hab, h4⟩
 · subst h4; cases hi
 · obtain ⟨vs, h5, h6⟩ := h4.elem hi
   have hl := T.len h5
   refine ⟨vs, ?_, h5⟩
   rw [e, qdA]
   show (do loadVar t (<- Instr.sureAddr (.pointer (some _)))).run P w = _
   rw [Sem.run_bind, qcu]
   exact qma hu ha hi' (by omega) fun j hj => h6 j (by omega)
def ownB (a : Option Addr) : Option Nat := a.map (·.block)
def Ow {α : Type} (T : Ty α) (t : TypeId) (w : World) (A : Bl) (a : Option Addr) (n c : Nat) (xs : List α) : Prop :=
 n = xs.length /\ n <= c /\ c <= maxLen /\ ((a = none /\ c = 0 /\ xs = []) \/
   ∃ g cur fr, a = some ⟨g, 0, none⟩ /\ w.heap[g]? = some (.cells cur t fr) /\ (∀ i, i < cur.size -> ¬ (fr.1 <= i /\ i < fr.2)) /\ cur.size = c * T.k /\ RepL T w A (cur.toList.take (n * T.k)) xs)
theorem Ow.nil {α : Type} (T : Ty α) (t : TypeId) (w : World) (A : Bl) : Ow T t w A none 0 0 ([] : List α) := ⟨rfl, Nat.le_refl _, Nat.zero_le _, .inl ⟨rfl, rfl, rfl⟩⟩
theorem Ow.len {α : Type} {T : Ty α} {t : TypeId} {w : World} {A : Bl} {a : Option Addr} {n c : Nat} {xs : List α} (h : Ow T t w A a n c xs) : n = xs.length := h.1
theorem Ow.le {α : Type} {T : Ty α} {t : TypeId} {w : World} {A : Bl} {a : Option Addr} {n c : Nat} {xs : List α} (h : Ow T t w A a n c xs) : xs.length <= 9223372036854775807 := by
 have h1 := h.1; have h2 := h.2.1; have h3 := h.2.2.1; unfold maxLen at h3; omega
theorem Ow.lt {α : Type} {T : Ty α} {t : TypeId} {w : World} {A : Bl} {a : Option Addr} {n c : Nat} {xs : List α} (h : Ow T t w A a n c xs) : ∀ g, ownB a = some g -> g < w.heap.size := by
 intro g hg
 rcases h.2.2.2 with ⟨e, _⟩ | ⟨g', cur, fr, e, hh, _⟩
 · rw [e] at hg; cases hg
 · rw [e] at hg; simp [ownB] at hg; subst hg; exact (Array.getElem?_eq_some_iff.1 hh).1
theorem Ow.keep {α : Type} {T : Ty α} {t : TypeId} {w w' : World} {A : Bl} {a : Option Addr} {n c : Nat} {xs : List α} (h : Ow T t w A a n c xs) (hk : Keep (fun b => A b \/ some b = ownB a) w w') : Ow T t w' A a n c xs := by
 have hlt := h.lt
 obtain ⟨h1, h2, h3, h4⟩ := h
 refine ⟨h1, h2, h3, ?_⟩
 rcases h4 with h4 | ⟨g, cur, fr, e, hh, hf, hs, h4⟩
 · exact .inl h4
 · refine .inr ⟨g, cur, fr, e, ?_, hf, hs, h4.keep (hk.mono fun _ h => .inl h)⟩
   rw [hk.block g (hlt g (by rw [e]; rfl)) (.inr (by rw [e]; rfl))]; exact hh
theorem Ow.below {α : Type} {T : Ty α} {t : TypeId} {w w' : World} {A : Bl} {a : Option Addr} {n c : Nat} {xs : List α} (h : Ow T t w A a n c xs) (hk : Below w.heap.size w w') : Ow T t w' A a n c xs := h.keep (qne hk _)
theorem Ow.mono {α : Type} {T : Ty α} {t : TypeId} {w : World} {A A' : Bl} {a : Option Addr} {n c : Nat} {xs : List α} (h : Ow T t w A a n c xs) (ha : ∀ b, b < w.heap.size -> A b -> A' b) : Ow T t w A' a n c xs := by
 obtain ⟨h1, h2, h3, h4⟩ := h
 refine ⟨h1, h2, h3, ?_⟩
 rcases h4 with h4 | ⟨g, cur, fr, e, hh, hf, hs, h4⟩
 · exact .inl h4
 · exact .inr ⟨g, cur, fr, e, hh, hf, hs, h4.mono ha⟩
theorem Ow.sl {α : Type} {T : Ty α} {t : TypeId} {w : World} {A A' : Bl} {a : Option Addr} {n c : Nat} {xs : List α} (h : Ow T t w A a n c xs) (hA : ∀ b, b < w.heap.size -> A b -> A' b) (hg : ∀ g, ownB a = some g -> A' g) :
   Sl T w A' a n c xs := by
 have hlt := h.lt
 obtain ⟨h1, h2, h3, h4⟩ := h
 refine ⟨h1, h2, h3, ?_⟩
 rcases h4 with ⟨_, _, h4⟩ | ⟨g, cur, fr, e, hh, hf, hs, h4⟩
 · exact .inl h4
 · refine .inr ⟨g, 0, e, hlt g (by rw [e]; rfl), hg g (by rw [e]; rfl), _, h4.mono hA, fun j hj => ?_⟩
   rw [List.length_take] at hj
   rw [cell_of_row w g _ cur t fr hh, Nat.zero_add, List.getElem?_take, if_pos (by omega)]
   simp
abbrev AllB : Bl := fun _ => True
theorem Ow.all {α : Type} {T : Ty α} {t : TypeId} {w : World} {A : Bl} {a : Option Addr} {n c : Nat} {xs : List α} (h : Ow T t w A a n c xs) : Sl T w AllB a n c xs := h.sl (fun _ _ _ => trivial) (fun _ _ => trivial)
def qb9 (B : Nat) (a : Option Addr) : Prop := ∀ g, ownB a = some g -> B <= g
theorem qb9.none (B : Nat) : qb9 B none := fun _ h => by cases h
theorem qb9.mono {B B' : Nat} {a : Option Addr} (h : qb9 B a) (hb : B' <= B) : qb9 B' a := fun g hg => Nat.le_trans hb (h g hg)
theorem qpO (w : World) (g : Nat) (cs : Array Value) : (w.setRow g cs).heap.size = w.heap.size := by simp [World.setRow]
theorem qa4 (w : World) (g : Nat) (cs : Array Value) : w.grownBy (w.setRow g cs) (some g) :=
 ⟨rfl, rfl, rfl, by rw [qpO]; exact Nat.le_refl _, fun k _ hk => setRow_other w g k cs fun e => hk (by rw [e])⟩
theorem qkH {w : World} {g : Nat} {cur : Array Value} {t : TypeId} {fr : Nat × Nat} (hg : w.heap[g]? = some (.cells cur t fr)) (o : Nat) : w.cell? ⟨g, o, none⟩ = cur[o]? := cell_of_row w g o cur t fr hg
theorem qrd {w : World} {g o : Nat} {cur : Array Value} {t : TypeId} {fr : Nat × Nat} (hg : w.heap[g]? = some (.cells cur t fr)) (hf : ¬ (fr.1 <= o /\ o < fr.2)) : w.frozen? ⟨g, o, none⟩ = false := by
 obtain ⟨lo, hi⟩ := fr
 simp only [World.frozen?, hg]
 simpa using hf
theorem qoe {P : Program} {w : World} {g o : Nat} {cur : Array Value} {t : TypeId} {fr : Nat × Nat} (hg : w.heap[g]? = some (.cells cur t fr)) (ho : o < cur.size) (hf : ¬ (fr.1 <= o /\ o < fr.2))
   {v : Value} (h1 : v.oneCell' = true) : (store ⟨g, o, none⟩ v).run P w = .ok () (w.setRow g (cur.setIfInBounds o v)) := by
 rw [run_store P w _ v .plain h1, qkH hg, qrd hg hf, Array.getElem?_eq_getElem ho]
 simp only [Bool.false_eq_true, if_false]
 congr 1
 obtain ⟨heap, tape, drawn, os, output⟩ := w
 simp only [World.setCell, World.setRow]
 congr 1
 apply Array.ext_getElem?
 intro k
 rw [Array.getElem?_modify, Array.getElem?_modify]
 by_cases hk : g = k
 · subst hk
   simp only [if_true]
   have hg' : heap[g]? = some (.cells cur t fr) := hg
   rw [hg']
   rfl
 · simp only [if_neg hk]
theorem qcG {P : Program} (g o : Nat) (t : TypeId) (fr : Nat × Nat) : ∀ (vs : List Value) (i : Nat) (cur : Array Value) (w : World), w.heap[g]? = some (.cells cur t fr) -> o + i + vs.length <= cur.size ->
   (∀ j, j < cur.size -> ¬ (fr.1 <= j /\ j < fr.2)) -> (∀ v ∈ vs, v.oneCell' = true) ->
   (storeCells ⟨g, o, none⟩ vs i).run P w = .ok () (w.setRow g (cur.toList.take (o + i) ++ vs ++ cur.toList.drop (o + i + vs.length)).toArray)
 | [], i, cur, w, hg, _, _, _ => by
   simp only [storeCells, List.append_nil, List.length_nil, Nat.add_zero, List.take_append_drop, Array.toArray_toList]
   rw [setRow_self w g cur t fr hg]
   rfl
 | v :: rest, i, cur, w, hg, hl, hf, h1 => by
   have hi : o + i < cur.size := by simp at hl; omega
   simp only [storeCells, Sem.run_bind, jZ]
   rw [qoe hg hi (hf _ hi) (h1 v List.mem_cons_self), Result.andThen_ok]
   rw [qcG g o t fr rest (i + 1) (cur.setIfInBounds (o + i) v) _ (setRow_heap w g cur _ t fr hg) (by simp at hl ⊢; omega)
     (fun j hj => hf j (by simpa using hj)) (fun u hu => h1 u (List.mem_cons_of_mem _ hu))]
   congr 1
   have e2 : ∀ (a b : Array Value), (w.setRow g a).setRow g b = w.setRow g b := by
     intro a b
     obtain ⟨heap, tape, drawn, os, output⟩ := w
     simp only [World.setRow]
     congr 1
     apply Array.ext_getElem?
     intro k
     rw [Array.getElem?_modify, Array.getElem?_modify, Array.getElem?_modify]
     by_cases hk : g = k
     · subst hk
       have hg' : heap[g]? = some (.cells cur t fr) := hg
       simp [hg']
     · simp only [if_neg hk]
   rw [e2]
   congr 1
   apply Array.ext'
   simp only [Array.toList_setIfInBounds, List.length_cons]
   apply List.ext_getElem?
   intro k
   have hlen : cur.toList.length = cur.size := by simp
   simp only [List.getElem?_append, List.length_append, List.length_take, List.length_set, List.getElem?_take, List.getElem?_drop, List.length_cons, hlen, List.getElem?_set]
   by_cases c1 : k < o + i
   · have : ¬ o + i = k := by omega
     simp [c1, this, show k < min (o + (i + 1)) cur.size by omega, show k < min (o + i) cur.size by omega, show k < o + (i + 1) by omega,
       show k < min (o + (i + 1)) cur.size + rest.length by omega, show k < min (o + i) cur.size + (rest.length + 1) by omega]
   · by_cases c2 : k = o + i
     · subst c2
       have e3 : min (o + i) cur.size = o + i := by omega
       have e4 : min (o + (i + 1)) cur.size = o + i + 1 := by omega
       simp [e3, e4, hi, show o + i < o + i + 1 + rest.length by omega, show o + i < o + (i + 1) by omega]
     · have e3 : min (o + i) cur.size = o + i := by omega
       have e4 : min (o + (i + 1)) cur.size = o + i + 1 := by omega
       by_cases c3 : k < o + i + 1 + rest.length
       · have e5 : k - (o + i) = (k - (o + i + 1)) + 1 := by omega
         simp [e3, e4, c3, show k < o + i + (rest.length + 1) by omega, show ¬ k < o + i + 1 by omega, show ¬ k < o + i by omega, e5]
       · have e6 : ¬ o + i = o + (i + 1) + rest.length + (k - (o + i + 1 + rest.length)) := by omega
         have e7 : o + (i + 1) + rest.length + (k - (o + i + 1 + rest.length)) = o + i + (rest.length + 1) + (k - (o + i + (rest.length + 1))) := by omega
         simp [e3, e4, c3, show ¬ k < o + i + (rest.length + 1) by omega, e7]
         intro h; omega
def Src {α : Type} (T : Ty α) (w : World) (A : Bl) (y : Option Addr) (m : Nat) (ys : List α) : Prop :=
 m = ys.length /\ (ys = [] \/ ∃ b off, y = some ⟨b, off, none⟩ /\ At T w A b off ys)
def Flat {α : Type} (T : Ty α) : Prop := ∀ w A w' A' vs x, T.rep w A vs x -> T.rep w' A' vs x
theorem RepL.flat {α : Type} {T : Ty α} (hf : Flat T) {w w' : World} {A A' : Bl} {l : List Value} {xs : List α} (h : RepL T w A l xs) : RepL T w' A' l xs := ⟨h.len, fun i hi => hf _ _ _ _ _ _ (h.rep i hi)⟩
theorem Sl.flat {α : Type} {T : Ty α} (hf : Flat T) {w : World} {A A' : Bl} {a : Option Addr} {n c : Nat} {xs : List α} (h : Sl T w A a n c xs) : Src T w A' a n xs := by
 obtain ⟨h1, h2, h3, h4⟩ := h
 refine ⟨h1, ?_⟩
 rcases h4 with h4 | ⟨b, off, e, hb, hab, l, h5, h6⟩
 · exact .inl h4
 · exact .inr ⟨b, off, e, l, h5.flat hf, h6⟩
theorem Src.new1F {α : Type} {T : Ty α} (hf : Flat T) {w : World} {A : Bl} {vs : List Value} {x : α} {t : TypeId} {b : Nat} {w' : World} (hb : b = w.heap.size) (hw : w' = w.alloc (.cells vs.toArray t)) (h : T.rep w A vs x) :
   Src T w' A (some ⟨b, 0, none⟩) 1 [x] := by
 subst hb hw
 refine ⟨rfl, .inr ⟨_, 0, rfl, vs, RepL.one (hf _ _ _ _ _ _ h), fun j hj => ?_⟩⟩
 rw [qkH (heap_alloc_new w _), Nat.zero_add]
 simp
theorem qlF {w : World} {b off : Nat} {l : List Value} (h : ∀ j, j < l.length -> w.cell? ⟨b, off + j, none⟩ = l[j]?) : ∀ j v, l[j]? = some v -> w.cell? ((⟨b, off, none⟩ : Addr).add j) = some v := fun j v hv => by
 rw [jZ, h j (List.getElem?_eq_some_iff.1 hv).1]; exact hv
theorem qjR {α : Type} {T : Ty α} {P : Program} {st t ty : TypeId} {bytes : Nat} {z : Value} (hu : P.underlying st = some (.slice t)) (tf : TF P t T.k bytes z) (hb0 : 0 < bytes)
   {w : World} {A : Bl} {a : Option Addr} {n c : Nat} {xs : List α} (ho : Ow T t w A a n c xs) (hA : ∀ g, ownB a = some g -> ¬ A g)
   {y : Option Addr} {m cm : Nat} {ys : List α} (hs : Src T w A y m ys) (hbound : (xs.length + ys.length) * bytes <= 140737488355328) :
   ∃ (w' : World) (a' : Option Addr) (n' c' : Nat), (Builtin.append_ #[st, st] ty #[.slice a n c, .slice y m cm]).run P w = .ok (.slice a' n' c') w' /\ Ow T t w' A a' n' c' (xs ++ ys) /\ w.grownBy w' (ownB a) /\
     (∀ g, ownB a' = some g -> ownB a = some g \/ w.heap.size <= g) := by
 obtain ⟨i, hi, hsz, hby, hz⟩ := tf.info
 have hzc := tf.cells
 have hpos := T.pos
 obtain ⟨hn, hnc, hcm, ho4⟩ := ho
 obtain ⟨hm, hs2⟩ := hs
 subst hn hm
 have hsum : xs.length + ys.length <= 140737488355328 := Nat.le_trans (Nat.le_mul_of_pos_right _ hb0) hbound
 have hml : xs.length + ys.length <= maxLen := by unfold maxLen; omega
 have hkeepA : ∀ {w'}, w.grownBy w' (ownB a) -> Keep A w w' := fun hg => qby hg fun b hb e => hA b e.symm hb
 rcases ho4 with ⟨rfl, rfl, rfl⟩ | ⟨g, cur, fr, rfl, hg, hf, hcs, hrep⟩
 · -- a nil slice
   rcases hs2 with rfl | ⟨b, off, rfl, l, hl, hcl⟩
   · refine ⟨w, none, 0, 0, ?_, Ow.nil T t w A, ⟨rfl, rfl, rfl, Nat.le_refl _, fun _ _ _ => rfl⟩, fun g h => by cases h⟩
     have hfc : (Builtin.firstCells i.size 0 (.slice y 0 cm)).run P w = .ok #[] w := by
       cases y with
       | none => rfl
       | some y => simp [Builtin.firstCells, loadCells, loadCellsFrom]
     simp [Builtin.append_, zz hu, qaU hi, Builtin.lenOf, hfc]
   · by_cases h0 : ys.length = 0
     · have : ys = [] := List.eq_nil_of_length_eq_zero h0
       subst this
       refine ⟨w, none, 0, 0, ?_, Ow.nil T t w A, ⟨rfl, rfl, rfl, Nat.le_refl _, fun _ _ _ => rfl⟩, fun g h => by cases h⟩
       simp [Builtin.append_, zz hu, qaU hi, Builtin.lenOf, Builtin.firstCells, loadCells, loadCellsFrom]
     · have hr := run_append_nil (P := P) w st ty t i z hu hi hz ⟨b, off, none⟩ ys.length cm l (by rw [hl.len, hsz]) (qlF hcl) (by omega) (by simp at hsum; omega) (by rw [hby]; simp at hbound; omega)
       refine ⟨_, _, _, _, hr, ?_, ⟨rfl, rfl, rfl, by simp, fun k hk _ => heap_alloc_old w.drew _ k hk⟩, fun g h => .inr (by simp [ownB] at h; omega)⟩
       have hge := grownCap_ge w ys.length 0 t
       have hcm' : grownCap w ys.length 0 t <= maxLen := grownCap_le_maxLen w ys.length 0 t (by simp at hml; exact hml)
       refine ⟨by simp, hge, hcm', .inr ⟨_, _, (0, 0), rfl, heap_alloc_new w.drew _, fun i _ => by simp, ?_, ?_⟩⟩
       · simp only [Array.size_append, List.size_toArray, size_zeroCells, hzc, hl.len, <- Nat.add_mul]
         congr 1; omega
       · rw [List.nil_append]
         simp only [Array.toList_append]
         rw [<- hl.len, List.take_left]
         exact hl.keep ⟨by simp, fun k hk _ => heap_alloc_old w.drew _ k hk⟩
 · have hlt : g < w.heap.size := (Array.getElem?_eq_some_iff.1 hg).1
   have hxl : (cur.toList.take (xs.length * T.k)).length = xs.length * T.k := hrep.len
   -- the appended cells
   obtain ⟨l, hl, hfirst⟩ : ∃ l, RepL T w A l ys /\ (Builtin.firstCells i.size ys.length (.slice y ys.length cm)).run P w = .ok l.toArray w := by
     rcases hs2 with rfl | ⟨b, off, rfl, l, hl, hcl⟩
     · refine ⟨[], RepL.nil T w A, ?_⟩
       cases y with
       | none => rfl
       | some y => simp [Builtin.firstCells, loadCells, loadCellsFrom]
     · exact ⟨l, hl, run_firstCells_some (P := P) w i.size ys.length ⟨b, off, none⟩ _ _ l (by rw [hl.len, hsz]) (qlF hcl)⟩
   have hlapp : ((cur.toList.take (xs.length * T.k)) ++ l).length = (xs.length + ys.length) * T.k := by rw [List.length_append, hxl, hl.len, Nat.add_mul]
   by_cases hroom : xs.length + ys.length <= c
   · have hfit : xs.length * T.k + l.length <= cur.size := by rw [hl.len, hcs, <- Nat.add_mul]; exact Nat.mul_le_mul_right _ hroom
     have hst := qcG (P := P) g (xs.length * T.k) t fr l 0 cur w hg (by simpa using hfit) hf hl.ones
     simp only [Nat.add_zero] at hst
     refine ⟨w.setRow g (cur.toList.take (xs.length * T.k) ++ l ++ cur.toList.drop (xs.length * T.k + l.length)).toArray, some ⟨g, 0, none⟩, xs.length + ys.length, c, ?_, ?_, qa4 w g _, fun g' h => .inl h⟩
     · have hadd : (⟨g, 0, none⟩ : Addr).add (xs.length * i.size) = ⟨g, xs.length * T.k, none⟩ := by rw [jZ, hsz, Nat.zero_add]
       simp only [Builtin.append_, Sem.run_bind, zz hu, qaU hi, Builtin.lenOf, Sem.run_pure, Result.andThen_ok, hroom, List.getElem?_toArray, List.getElem?_cons_zero, List.getElem?_cons_succ, if_true, Bool.false_eq_true, if_false, Bool.not_false, hfirst, hadd, hst]
     · refine ⟨by simp, hroom, hcm, .inr ⟨g, _, fr, rfl, setRow_heap w g cur _ t fr hg, ?_, ?_, ?_⟩⟩
       · intro j hj
         refine hf j ?_
         simp at hj; omega
       · simp; omega
       · have e : ((cur.toList.take (xs.length * T.k) ++ l ++ cur.toList.drop (xs.length * T.k + l.length)).toArray).toList.take ((xs.length + ys.length) * T.k) = cur.toList.take (xs.length * T.k) ++ l := by
           rw [<- hlapp]; simp only []; exact List.take_left
         rw [e]
         exact (hrep.append hl).keep (hkeepA (qa4 w g _))
   · have holds : ∀ j v, (cur.toList.take (xs.length * T.k))[j]? = some v -> w.cell? ((⟨g, 0, none⟩ : Addr).add j) = some v := fun j v hv => by
       rw [jZ, Nat.zero_add, qkH hg]
       rw [List.getElem?_take] at hv
       split at hv
       · simpa using hv
       · cases hv
     have hne : ys ≠ [] := by
       intro e; subst e; simp at hroom; omega
     rcases hs2 with rfl | ⟨b, off, rfl, l', hl', hcl⟩
     · exact absurd rfl hne
     · have hr := run_append_grow (P := P) w st ty t i z hu hi hz ⟨g, 0, none⟩ xs.length c (cur.toList.take (xs.length * T.k)) (by rw [hxl, hsz]) holds ⟨b, off, none⟩ ys.length cm l' (by rw [hl'.len, hsz]) (qlF hcl)
         (by omega) (by omega) (growslice_fits (by omega) (by rw [hby]; exact hbound))
       refine ⟨_, _, _, _, hr, ?_, ⟨rfl, rfl, rfl, by simp, fun k hk _ => heap_alloc_old w.drew _ k hk⟩, fun g' h => .inr (by simp [ownB] at h; omega)⟩
       have hge := grownCap_ge w (xs.length + ys.length) c t
       have hcm' : grownCap w (xs.length + ys.length) c t <= maxLen := grownCap_le_maxLen w _ c t hml
       have hlapp' : ((cur.toList.take (xs.length * T.k)) ++ l').length = (xs.length + ys.length) * T.k := by rw [List.length_append, hxl, hl'.len, Nat.add_mul]
       refine ⟨by simp, hge, hcm', .inr ⟨_, _, (0, 0), rfl, heap_alloc_new w.drew _, fun i _ => by simp, ?_, ?_⟩⟩
       · simp only [Array.size_append, List.size_toArray, size_zeroCells, hzc, hxl, hl'.len, <- Nat.add_mul]
         congr 1; omega
       · simp only [Array.toList_append]
         rw [<- hlapp', List.take_left]
         exact (hrep.append hl').keep ⟨by simp, fun k hk _ => heap_alloc_old w.drew _ k hk⟩
theorem qdy {P : Program} {t u : TypeId} {ti : TypeInfo} (hi : P.info? t = some ti) {w : World} {g o : Nat} {cur : Array Value} {fr : Nat × Nat} (hg : w.heap[g]? = some (.cells cur u fr))
   (hf : ∀ i, i < cur.size -> ¬ (fr.1 <= i /\ i < fr.2)) {v : Value} (hs : v.cells.size = ti.size) (hfit : o + ti.size <= cur.size) (h1 : ∀ c ∈ v.cells.toList, c.oneCell' = true) :
   (Instr.storeAt t (.pointer (some ⟨g, o, none⟩)) v).run P w = .ok () (w.setRow g (cur.toList.take o ++ v.cells.toList ++ cur.toList.drop (o + v.cells.size)).toArray) := by
 show (do storeVar t (<- Instr.sureAddr (.pointer (some ⟨g, o, none⟩))) v).run P w = _
 rw [Sem.run_bind, qcu, Result.andThen_ok]
 unfold storeVar
 rw [Sem.run_bind, qaU hi, Result.andThen_ok, if_neg (by simp [hs])]
 have := qcG (P := P) g o u fr v.cells.toList 0 cur w hg (by simp; omega) hf h1
 simpa using this
theorem Ow.store {α : Type} {T : Ty α} {P : Program} {t : TypeId} {bytes : Nat} {z : Value} (tf : TF P t T.k bytes z) {w : World} {A : Bl} {a : Option Addr} {n c : Nat} {xs : List α} (ho : Ow T t w A a n c xs) (hA : ∀ g, ownB a = some g -> ¬ A g)
   {i : Int} (hi : i.toNat < xs.length) {k : Nat} (hk : T.k = k) {v : Value} {x : α} (hv : T.rep w A v.cells.toList x) :
   ∃ w', (Instr.storeAt t (.pointer (qn a i k)) v).run P w = .ok () w' /\ Ow T t w' A a n c (xs.set i.toNat x) /\ w.grownBy w' (ownB a) := by
 subst hk
 obtain ⟨ti, hti, hsz, _, _⟩ := tf.info
 have hvl := T.len hv
 have hA' := hA
 obtain ⟨hn, hnc, hcm, ho4⟩ := ho
 rcases ho4 with ⟨_, _, rfl⟩ | ⟨g, cur, fr, rfl, hg, hf, hcs, hrep⟩
 · cases hi
 · subst hn
   have hb : i.toNat * T.k + T.k <= xs.length * T.k := by
     have := Nat.mul_le_mul_right T.k (show i.toNat + 1 <= xs.length from hi)
     rwa [Nat.add_mul, Nat.one_mul] at this
   have hb2 : xs.length * T.k <= cur.size := by rw [hcs]; exact Nat.mul_le_mul_right _ hnc
   have hvs : v.cells.size = T.k := by simpa using hvl
   rw [qdA, Nat.zero_add]
   refine ⟨_, qdy hti hg hf (by rw [hvs, hsz]) (by rw [hsz]; omega) (T.one hv), ?_, qa4 w g _⟩
   refine ⟨by simp, hnc, hcm, .inr ⟨g, _, fr, rfl, setRow_heap w g cur _ t fr hg, ?_, ?_, ?_⟩⟩
   · intro j hj
     refine hf j ?_
     simp at hj; omega
   · simp; omega
   · have h1 := (hrep.set hi hv).keep (qby (qa4 w g (cur.toList.take (i.toNat * T.k) ++ v.cells.toList ++ cur.toList.drop (i.toNat * T.k + v.cells.size)).toArray) fun b hb e => hA g rfl (by cases e; exact hb))
     have e : ((cur.toList.take (i.toNat * T.k) ++ v.cells.toList ++ cur.toList.drop (i.toNat * T.k + v.cells.size)).toArray).toList.take (xs.length * T.k) =
         (cur.toList.take (xs.length * T.k)).take (i.toNat * T.k) ++ v.cells.toList ++ (cur.toList.take (xs.length * T.k)).drop (i.toNat * T.k + v.cells.toList.length) := by
       simp only []
       have e1 : (cur.toList.take (xs.length * T.k)).take (i.toNat * T.k) = cur.toList.take (i.toNat * T.k) := by rw [List.take_take]; congr 1; omega
       rw [e1, List.take_append, List.drop_take]
       have e2 : (cur.toList.take (i.toNat * T.k) ++ v.cells.toList).length = i.toNat * T.k + T.k := by simp [hvs]; omega
       rw [e2, List.take_of_length_le (by rw [e2]; omega)]
       congr 2
       rw [hvl]
     rw [e]; exact h1
theorem qcT {w w' : World} (hos : w'.os = w.os) (ht : w'.tape = w.tape) (ho : w'.output = w.output) (hs : w.heap.size <= w'.heap.size) (hb : ∀ k, k < w.heap.size -> w'.heap[k]? = w.heap[k]?) : Below w.heap.size w w' := ⟨hos, ht, ho, hs, hb⟩
theorem qbD {α : Type} {e : α -> Value} {h1 : ∀ x, (e x).oneCell' = true} {p : α -> Prop} {w : World} {A : Bl} {xs : List α} (hp : ∀ x ∈ xs, p x) : RepL (Ty.enc e h1 p) w A (xs.map e) xs := by
 refine ⟨by simp [Ty.enc], fun i hi => ?_⟩
 have : ((xs.map e).drop (i * 1)).take 1 = [e xs[i]] := by
   rw [Nat.mul_one, <- List.map_drop, List.drop_eq_getElem_cons hi]; rfl
 exact ⟨this, hp _ (List.getElem_mem hi)⟩
theorem qd0 {α : Type} {e : α -> Value} {h1 : ∀ x, (e x).oneCell' = true} {p : α -> Prop} {w : World} {A : Bl} : ∀ {l : List Value} {xs : List α}, RepL (Ty.enc e h1 p) w A l xs -> l = xs.map e := by
 intro l xs h
 have hl : l.length = xs.length := by have := h.len; simpa [Ty.enc] using this
 apply List.ext_getElem (by simp [hl])
 intro i h1 h2
 have hi : i < xs.length := by omega
 have h3 : ((l.drop (i * 1)).take 1) = [e xs[i]] := (h.rep i hi).1
 have h4 : ((l.drop (i * 1)).take 1)[0]? = some (e xs[i]) := by rw [h3]; rfl
 rw [Nat.mul_one, List.getElem?_take, if_pos (by decide), List.getElem?_drop, Nat.add_zero, List.getElem?_eq_getElem h1] at h4
 rw [List.getElem_map]; exact Option.some.inj h4
theorem qgX {P : Program} {s d t : TypeId} (hs : P.underlying s = some .string) (hd : P.underlying d = some (.slice t)) (ht : P.underlying t = some (.int .u8)) (w : World) (l : List UInt8) (hl : l.length <= 9223372036854775807) (A : Bl) :
   ∃ (w' : World) (a : Option Addr) (n c : Nat), (convert s d (.string (mkS l))).run P w = .ok (.slice a n c) w' /\ Ow tU8 t w' A a n c l /\ Below w.heap.size w w' /\ qb9 w.heap.size a := by
 have hcap : ∃ cap, l.length <= cap /\ cap <= maxLen /\ (choose (.appendCap l.length 0 t)).run P w = .ok cap w.drew := by
   refine ⟨_, grownCap_ge w l.length 0 t, grownCap_le_maxLen w l.length 0 t (by unfold maxLen; omega), ?_⟩
   rw [run_choose]; rfl
 obtain ⟨cap, h1, h2, hch⟩ := hcap
 have hsz : (mkS l).size = l.length := rfl
 generalize hcs : (mkS l).data.map (fun b => Value.int .u8 (b.toNat : Nat)) ++ Array.replicate (cap - l.length) (Value.int .u8 0) = cs
 have hcss : cs.size = cap := by rw [<- hcs]; simp [mkS]; omega
 have hmark : (markStringish ⟨w.heap.size, 0, none⟩).run P (w.drew.alloc (.cells cs t)) = .ok () ((w.drew.alloc (.cells cs t)).freeze ⟨w.heap.size, cs.size, none⟩ 1) := by
   unfold markStringish
   have : (w.drew.alloc (.cells cs t)).shape? w.heap.size = some (t, cs.size) := by
     unfold World.shape?
     have := heap_alloc_new w.drew (.cells cs t)
     rw [show w.drew.heap.size = w.heap.size from rfl] at this
     rw [this]
   simp [this]
 refine ⟨(w.drew.alloc (.cells cs t)).freeze ⟨w.heap.size, cs.size, none⟩ 1, some ⟨w.heap.size, 0, none⟩, l.length, cap, ?_, ?_, ?_, fun g hg => by simp [ownB] at hg; omega⟩
 · simp only [convert, Sem.run_bind, zz hs, zz hd, Result.andThen_ok, zz ht, Conv.stringToBytes, hsz, hch]
   show ((newRow t _).run P w.drew).andThen _ = _
   rw [hcs]
   simp only [newRow, Sem.run_bind, run_newObj, Result.andThen_ok, Sem.run_pure, World.alloc_eq]
   rw [show w.drew.heap.size = w.heap.size from rfl, hmark]
   rfl
 · have hheap : ((w.drew.alloc (.cells cs t)).freeze ⟨w.heap.size, cs.size, none⟩ 1).heap[w.heap.size]? = some (.cells cs t (cs.size, cs.size + 1)) := by
     have := heap_alloc_new w.drew (.cells cs t)
     rw [show w.drew.heap.size = w.heap.size from rfl] at this
     simp only [World.freeze, if_neg (show ¬ (1 : Nat) = 0 by decide), Array.getElem?_modify, if_true, this]
     rfl
   refine ⟨rfl, h1, h2, .inr ⟨_, _, _, rfl, hheap, fun i hi => by omega, by rw [hcss]; exact (Nat.mul_one cap).symm, ?_⟩⟩
   have e : cs.toList.take (l.length * tU8.k) = l.map fun c => Value.int .u8 (c.toNat : Nat) := by
     rw [<- hcs]
     simp [mkS, tU8, Ty.enc]
   rw [e]
   exact qbD fun _ _ => trivial
 · refine qcT rfl rfl rfl (by simp [World.freeze]) fun k hk => ?_
   simp only [World.freeze, if_neg (show ¬ (1 : Nat) = 0 by decide), Array.getElem?_modify]
   rw [if_neg (show ¬ w.heap.size = k by omega)]
   exact heap_alloc_old w.drew _ k hk
theorem qeX {P : Program} {s d t : TypeId} (hs : P.underlying s = some (.slice t)) (hd : P.underlying d = some .string) (ht : P.underlying t = some (.int .u8)) {w : World} {A : Bl} {a : Option Addr} {n c : Nat} {xs : List UInt8} (h : Sl tU8 w A a n c xs) :
   (convert s d (.slice a n c)).run P w = .ok (.string (mkS xs)) w := by
 have conv : (convert s d (.slice a n c)).run P w = (Conv.bytesToString (.slice a n c)).run P w := by
   cases a <;> simp [convert, zz hs, zz hd, zz ht]
 rw [conv]
 obtain ⟨hn, _, _, h4⟩ := h
 have loop : ∀ (msg : String) (l : List UInt8) (acc : List UInt8), (do
     let r <- forIn (l.map fun c => Value.int .u8 (c.toNat : Nat)) (mkS acc) fun c r => do
       let .int .u8 n := c | stuck msg
       pure (ForInStep.yield (r.push (UInt8.ofNat n.toNat)))
     pure (Value.string r) : Sem Value).run P w = .ok (.string (mkS (acc ++ l))) w := by
   intro msg l
   induction l with
   | nil => intro acc; simp
   | cons x l ih =>
     intro acc
     have e1 : (mkS acc).push x = mkS (acc ++ [x]) := by simp [mkS, ByteArray.push]
     have := ih (acc ++ [x])
     simp only [List.map_cons, List.forIn_cons, bind_assoc, pure_bind, Int.toNat_natCast, UInt8.ofNat_toNat, e1]
     rw [this]; simp
 cases a with
 | none =>
   have : xs = [] := by
     rcases h4 with h4 | ⟨b, off, e, _⟩
     · exact h4
     · cases e
   subst this
   simp [Conv.bytesToString]; rfl
 | some p =>
   have hcells : (loadCells p n).run P w = .ok (xs.map fun c => Value.int .u8 (c.toNat : Nat)).toArray w := by
     rcases h4 with h4 | ⟨b, off, e, hb, hab, l, h5, h6⟩
     · subst h4; subst hn; simp [loadCells, loadCellsFrom]
     · cases e
       have := qoK (P := P) h6
       rw [h5.len] at this
       rw [qd0 h5] at this
       rw [hn]
       simpa [tU8, Ty.enc] using this
   have key : ∃ msg : String, (Conv.bytesToString (.slice (some p) n c)).run P w = ((loadCells p n).run P w).andThen fun cs w' => (do
     let r <- forIn cs (mkS []) fun c r => do
       let .int .u8 n := c | stuck msg
       pure (ForInStep.yield (r.push (UInt8.ofNat n.toNat)))
     pure (Value.string r) : Sem Value).run P w' := by
     constructor
     unfold Conv.bytesToString
     simp only [Sem.run_bind]
     rfl
   obtain ⟨msg, key⟩ := key
   rw [key, hcells, Result.andThen_ok]
   have := loop msg xs []
   rw [List.nil_append] at this
   rw [<- this]
   simp only [List.forIn_toArray]
theorem wrap_i64 {n : Int} (h1 : -9223372036854775808 <= n) (h2 : n <= 9223372036854775807) : i64.wrap n = n := IntWalk.i64_in n ⟨h1, h2⟩
theorem qcc {n : Int} (h1 : 0 <= n) (h2 : n <= 255) : IntKind.u8.wrap n = n := IntWalk.u8_in n ⟨h1, h2⟩
theorem qbc (c : UInt8) : (0 : Int) <= (c.toNat : Nat) /\ ((c.toNat : Nat) : Int) <= 255 := by
 have := c.toNat_lt; omega
theorem qe7 {s : List UInt8} {i : Int} (h : i.toNat < s.length) : qA s i = ((s[i.toNat]).toNat : Nat) := by
 simp [qA, h]
theorem qo4 {a b : UInt8} (h : ((a.toNat : Nat) : Int) = ((b.toNat : Nat) : Int)) : a = b := UInt8.toNat_inj.1 (by omega)
theorem qgz {w : World} {A : Bl} {n : Int} {c : UInt8} (h : n = ((c.toNat : Nat) : Int)) : tU8.rep w A [.int .u8 n] c := ⟨by rw [h], trivial⟩
theorem qtY {w : World} {A : Bl} {n : Int} : tI64.rep w A [.int .i64 n] n := ⟨rfl, trivial⟩
theorem qfI {w : World} {A : Bl} {p : List UInt8 -> Prop} {s : List UInt8} (h : p s) : (tStr p).rep w A [.string (mkS s)] s := ⟨rfl, h⟩
theorem qnk {w : World} {A : Bl} {v : Value} {c : UInt8} (h : tU8.rep w A [v] c) : v = .int .u8 (c.toNat : Nat) := by have := h.1; simpa using this
theorem qsu {w : World} {A : Bl} {v : Value} {n : Int} (h : tI64.rep w A [v] n) : v = .int .i64 n := by have := h.1; simpa using this
theorem qfw {w : World} {A : Bl} {p : List UInt8 -> Prop} {v : Value} {s : List UInt8} (h : (tStr p).rep w A [v] s) : v = .string (mkS s) /\ p s := ⟨by have := h.1; simpa using this, h.2⟩
theorem qb9.app {B : Nat} {w : World} {a a' : Option Addr} (hf : qb9 B a) (hB : B <= w.heap.size) (h : ∀ g, ownB a' = some g -> ownB a = some g \/ w.heap.size <= g) : qb9 B a' := fun g hg => by
 rcases h g hg with h | h
 · exact hf g h
 · exact Nat.le_trans hB h
theorem qoi : Flat tI64 := fun _ _ _ _ _ _ h => h
theorem qgA : Flat tU8 := fun _ _ _ _ _ _ h => h
theorem jY (p : List UInt8 -> Prop) : Flat (tStr p) := fun _ _ _ _ _ _ h => h
theorem Ow.newF {α : Type} {T : Ty α} (hf : Flat T) {w w' : World} {A : Bl} {t : TypeId} {l : List Value} {xs : List α} {b : Nat} (hb : b = w.heap.size) (hw : w' = w.alloc (.cells l.toArray t)) (h : RepL T w A l xs) (hm : xs.length <= maxLen) :
   Ow T t w' A (some ⟨b, 0, none⟩) xs.length xs.length xs := by
 subst hb hw
 refine ⟨rfl, Nat.le_refl _, hm, .inr ⟨_, l.toArray, (0, 0), rfl, heap_alloc_new w _, ?_, by simpa using h.len, ?_⟩⟩
 · intro i hi; simp
 · rw [<- h.len]; simp; exact h.flat hf
theorem fresh_new {w : World} {b : Nat} (hb : b = w.heap.size) : qb9 w.heap.size (some ⟨b, 0, none⟩) := fun g hg => by simp [ownB] at hg; omega
end Go.Pk
namespace Go.Pk
theorem j1 {H : Type} {enc : TypeId × Value -> H} {C : Checked} {os : Os} {f : FuncId} {fn : Func} {s : OpenSpec} {conds : List PathCond} {apart : Bool} {laid : List (String × DataW Unit)} (modest : Bool) (w0 : World) (args : Array Value) (hos : w0.os = os)
   (hsh : (w0.forCall (fun _ _ => 0) ⟨#[], args, []⟩).Shaped C.prog)
   (hok : Input.okWideB C.prog (w0.forCall (fun _ _ => 0) ⟨#[], args, []⟩) f ⟨#[], args, []⟩ = true)
   (hrow : s.preRow enc C.prog fn conds apart laid (w0.forCall (fun _ _ => 0) ⟨#[], args, []⟩).memory args) :
   ∃ (w : World) (tape : Tape) (i : Input), w.os = os /\ (w.forCall tape i).Shaped C.prog /\ i.vars = [] /\ Input.okWide C.prog (w.forCall tape i) .any w.heap.size f i /\
     s.preRow enc C.prog fn conds apart laid (w.forCall tape i).memory i.args /\ ({ modest := modest } : Assume).holds C.prog (lone (Frame.enter C.prog f i.args .normal) [] (w.forCall tape i)) :=
 ⟨w0, fun _ _ => 0, ⟨#[], args, []⟩, hos, hsh, (Input.okWide_of_okWideB (base := 0) hok).1, (Input.okWide_of_okWideB hok).2, hrow, by
   simp only [Assume.holds]
   exact ⟨by simp, by simp, fun _ => Modest.zero, by simp, by simp⟩⟩
end Go.Pk
namespace Go.Proofs.YtndbpedpdbjkpaaGreatDoor
open Go.Pk
abbrev zT : Nat := 34
abbrev qp : Nat := 35
abbrev qae : Nat := 36
abbrev qh : Nat := 37
abbrev qdi : Nat := 40
abbrev qck : Nat := 56
abbrev jh : Nat := 62
abbrev jk : Nat := 64
abbrev qdl : Nat := 66
abbrev jJ : Nat := 67
abbrev qds : Nat := 68
abbrev zA : Nat := 69
abbrev qh4 : Nat := 70
abbrev qif : Nat := 77
abbrev qh0 : Nat := 78
abbrev qcS : Nat := 79
abbrev qfL : Nat := 80
abbrev qcy : Nat := 81
abbrev qfP : Nat := 82
abbrev qeK : Nat := 83
abbrev qeI : Nat := 84
abbrev qd5 : Nat := 85
abbrev qei : Nat := 86
abbrev qab : Nat := 89
abbrev qeJ : Nat := 105
abbrev zO : Nat := 110
abbrev qjM : Nat := 111
abbrev jg : Nat := 112
abbrev qbw : Nat := 113
abbrev qjH : Nat := 114
abbrev qfN : Nat := 115
abbrev qaS : Nat := 117
abbrev jj : Nat := 118
abbrev qii : Nat := 119
abbrev qk5 : Nat := 120
abbrev qcm : Nat := 121
abbrev qay : Nat := 122
abbrev qkW : Nat := 123
abbrev ju : Nat := 124
abbrev qga : Nat := 125
abbrev qf5 : Nat := 129
abbrev qgH : Nat := 130
abbrev qcs : Nat := 135
abbrev qbg : Nat := 136
abbrev qet : Nat := 137
abbrev qfx : Nat := 138
abbrev qfv : Nat := 139
abbrev qa3 : Nat := 140
abbrev qdd : Nat := 141
abbrev qbH : Nat := 142
abbrev zB : Nat := 143
abbrev zb : Nat := 144
abbrev qd7 : Nat := 145
abbrev qa6 : Nat := 146
abbrev qeC : Nat := 147
abbrev qhZ : Nat := 148
abbrev qic : Nat := 149
abbrev qeF : Nat := 150
abbrev jm : Nat := 151
abbrev qeS : Nat := 152
abbrev qfC : Nat := 153
abbrev qdL : Nat := 179
abbrev qiL : Nat := 182
abbrev qg8 : Nat := 183
abbrev qh6 : Nat := 184
abbrev qmf : Nat := 185
abbrev qdh : Nat := 186
abbrev qaV : Nat := 187
abbrev jT : Nat := 188
abbrev qfJ : Nat := 189
abbrev qeZ : Nat := 192
abbrev qfk : Nat := 193
abbrev qgs : Nat := 194
abbrev qce : Nat := 195
abbrev qb2 : Nat := 200
abbrev qfp : Nat := 201
abbrev qdc : Nat := 202
abbrev qgf : Nat := 203
abbrev qcU : Nat := 204
abbrev qdI : Nat := 205
abbrev qg5 : Nat := 206
abbrev qbL : Nat := 207
abbrev qjL : Nat := 208
abbrev qeM : Nat := 209
abbrev qdw : Nat := 210
abbrev qbP : Nat := 211
abbrev qdp : Nat := 212
abbrev qfm : Nat := 238
abbrev qgt : Nat := 241
abbrev qbC : Nat := 243
abbrev qcd : Nat := 247
abbrev qir : Nat := 248
abbrev qaf : Nat := 252
abbrev qa5 : Nat := 253
abbrev qdv : Nat := 254
abbrev qdJ : Nat := 255
abbrev qcQ : Nat := 256
abbrev qH : Nat := 257
abbrev qec : Nat := 258
abbrev qaq : Nat := 259
abbrev qbU : Nat := 260
abbrev qci : Nat := 261
abbrev qcZ : Nat := 262
abbrev qdM : Nat := 276
abbrev qbs : Nat := 277
abbrev qeB : Nat := 279
abbrev qfy : Nat := 280
abbrev qgh : Nat := 281
abbrev qhc : Nat := 282
abbrev qez : Nat := 283
abbrev qgO : Nat := 284
abbrev qaA : Nat := 285
abbrev qe4 : Nat := 290
abbrev qdO : Nat := 291
abbrev qc1 : Nat := 292
abbrev j3 : Nat := 293
abbrev qgP : Nat := 295
abbrev qcA : Nat := 296
abbrev qea : Nat := 297
abbrev qeq : Nat := 298
abbrev qkz : Nat := 300
abbrev qaW : Nat := 304
abbrev qaL : Nat := 305
abbrev qgI : Nat := 306
abbrev qcx : Nat := 307
abbrev qgo : Nat := 308
abbrev qfu : Nat := 309
abbrev qbQ : Nat := 312
abbrev qmG : Nat := 313
abbrev qik : Nat := 314
abbrev qZ : Nat := 2
abbrev qx : Nat := 3
abbrev qy : Nat := 4
abbrev qw : Nat := 5
abbrev qe : Nat := 9
abbrev qjt : Nat := 24
abbrev qk : Nat := 32
abbrev qc : Nat := 34
abbrev qD : Nat := 38
abbrev qE : Nat := 39
abbrev ql : Nat := 59
abbrev qg : Nat := 61
abbrev qd : Nat := 63
abbrev qa : Nat := 67
abbrev qX : Nat := 125
abbrev zh : Nat := 126
abbrev qq : Nat := 128
abbrev qny : Nat := 144
abbrev zP : Nat := 188
abbrev qt : Nat := 189
abbrev qao : Nat := 228
abbrev qa9 : Nat := 231
abbrev qG : Nat := 232
abbrev qq7 : Nat := 243
abbrev je : Nat := 300
abbrev qns : Nat := 317
abbrev qQ : Nat := 321
abbrev jx : Nat := 323
abbrev qdR : Nat := 329
abbrev qfF : Nat := 335
theorem un_int64 : prog.underlying qZ = some (.int .i64) := by kernel_rfl
theorem qew : TF prog qZ 1 8 (.int .i64 (0 : Int)) := TF.of (by kernel_rfl) (by kernel_rfl) false (by kernel_rfl) (.inr rfl)
theorem qN : prog.underlying qx = some (.int .i64) := by kernel_rfl
theorem qbr : TF prog qx 1 8 (.int .i64 (0 : Int)) := TF.of (by kernel_rfl) (by kernel_rfl) false (by kernel_rfl) (.inr rfl)
theorem un_bool : prog.underlying qy = some (.bool) := by kernel_rfl
theorem qca : TF prog qy 1 1 (.bool false) := TF.of (by kernel_rfl) (by kernel_rfl) false (by kernel_rfl) (.inr rfl)
theorem un_uint8 : prog.underlying qw = some (.int .u8) := by kernel_rfl
theorem qeu : TF prog qw 1 1 (.int .u8 (0 : Int)) := TF.of (by kernel_rfl) (by kernel_rfl) false (by kernel_rfl) (.inr rfl)
theorem un_string : prog.underlying qe = some (.string) := by kernel_rfl
theorem zl : TF prog qe 1 16 (.string (mkS [])) := TF.of (by kernel_rfl) (by kernel_rfl) false (by kernel_rfl) (.inr rfl)
theorem qsp : prog.underlying qjt = some (.slice qx) := by kernel_rfl
abbrev qY : Array Value := #[.int .u8 (0 : Int), .int .u8 (0 : Int), .int .u8 (0 : Int), .int .u8 (0 : Int), .int .u8 (0 : Int), .int .u8 (0 : Int), .int .u8 (0 : Int), .int .u8 (0 : Int), .int .u8 (0 : Int), .int .u8 (0 : Int), .int .u8 (0 : Int), .int .u8 (0 : Int), .int .u8 (0 : Int), .int .u8 (0 : Int), .int .u8 (0 : Int), .int .u8 (0 : Int)]
theorem qpQ : TF prog qk 16 16 (.agg #[.int .u8 (0 : Int), .int .u8 (0 : Int), .int .u8 (0 : Int), .int .u8 (0 : Int), .int .u8 (0 : Int), .int .u8 (0 : Int), .int .u8 (0 : Int), .int .u8 (0 : Int), .int .u8 (0 : Int), .int .u8 (0 : Int), .int .u8 (0 : Int), .int .u8 (0 : Int), .int .u8 (0 : Int), .int .u8 (0 : Int), .int .u8 (0 : Int), .int .u8 (0 : Int)]) := TF.of (by kernel_rfl) (by kernel_rfl) true (by kernel_rfl) (.inl rfl)
abbrev qK : Array Value := #[.int .i64 (0 : Int), .string (mkS []), .int .u8 (0 : Int), .int .u8 (0 : Int), .int .u8 (0 : Int), .int .u8 (0 : Int), .int .u8 (0 : Int), .int .u8 (0 : Int), .int .u8 (0 : Int), .int .u8 (0 : Int), .int .u8 (0 : Int), .int .u8 (0 : Int), .int .u8 (0 : Int), .int .u8 (0 : Int), .int .u8 (0 : Int), .int .u8 (0 : Int), .int .u8 (0 : Int), .int .u8 (0 : Int)]
theorem qp4 : TF prog qc 18 40 (.agg #[.int .i64 (0 : Int), .string (mkS []), .int .u8 (0 : Int), .int .u8 (0 : Int), .int .u8 (0 : Int), .int .u8 (0 : Int), .int .u8 (0 : Int), .int .u8 (0 : Int), .int .u8 (0 : Int), .int .u8 (0 : Int), .int .u8 (0 : Int), .int .u8 (0 : Int), .int .u8 (0 : Int), .int .u8 (0 : Int), .int .u8 (0 : Int), .int .u8 (0 : Int), .int .u8 (0 : Int), .int .u8 (0 : Int)]) := TF.of (by kernel_rfl) (by kernel_rfl) true (by kernel_rfl) (.inl rfl)
theorem qa2 : prog.underlying qD = some (.slice qe) := by kernel_rfl
theorem qj6 : TF prog qD 1 24 (.slice none 0 0) := TF.of (by kernel_rfl) (by kernel_rfl) false (by kernel_rfl) (.inr rfl)
theorem zQ : prog.underlying qE = some (.slice qw) := by kernel_rfl
theorem qlr : TF prog ql 2 24 (.agg #[.int .i64 (0 : Int), .string (mkS [])]) := TF.of (by kernel_rfl) (by kernel_rfl) true (by kernel_rfl) (.inl rfl)
abbrev z7 : Array Value := #[.bool false, .int .i64 (0 : Int), .string (mkS []), .int .u8 (0 : Int), .int .u8 (0 : Int), .int .u8 (0 : Int), .int .u8 (0 : Int), .int .u8 (0 : Int), .int .u8 (0 : Int), .int .u8 (0 : Int), .int .u8 (0 : Int), .int .u8 (0 : Int), .int .u8 (0 : Int), .int .u8 (0 : Int), .int .u8 (0 : Int), .int .u8 (0 : Int), .int .u8 (0 : Int), .int .u8 (0 : Int), .int .u8 (0 : Int), .int .i64 (0 : Int), .string (mkS [])]
theorem qri : TF prog qg 21 72 (.agg #[.bool false, .int .i64 (0 : Int), .string (mkS []), .int .u8 (0 : Int), .int .u8 (0 : Int), .int .u8 (0 : Int), .int .u8 (0 : Int), .int .u8 (0 : Int), .int .u8 (0 : Int), .int .u8 (0 : Int), .int .u8 (0 : Int), .int .u8 (0 : Int), .int .u8 (0 : Int), .int .u8 (0 : Int), .int .u8 (0 : Int), .int .u8 (0 : Int), .int .u8 (0 : Int), .int .u8 (0 : Int), .int .u8 (0 : Int), .int .i64 (0 : Int), .string (mkS [])]) := TF.of (by kernel_rfl) (by kernel_rfl) true (by kernel_rfl) (.inl rfl)
theorem qjk : TF prog qd 11 112 (.agg #[.string (mkS []), .string (mkS []), .string (mkS []), .string (mkS []), .bool false, .int .i64 (0 : Int), .bool false, .int .i64 (0 : Int), .bool false, .bool false, .int .i64 (0 : Int)]) := TF.of (by kernel_rfl) (by kernel_rfl) true (by kernel_rfl) (.inl rfl)
abbrev qj : Array Value := #[.string (mkS []), .string (mkS []), .int .i64 (0 : Int), .string (mkS []), .int .u8 (0 : Int), .int .u8 (0 : Int), .int .u8 (0 : Int), .int .u8 (0 : Int), .int .u8 (0 : Int), .int .u8 (0 : Int), .int .u8 (0 : Int), .int .u8 (0 : Int), .int .u8 (0 : Int), .int .u8 (0 : Int), .int .u8 (0 : Int), .int .u8 (0 : Int), .int .u8 (0 : Int), .int .u8 (0 : Int), .int .u8 (0 : Int), .int .u8 (0 : Int), .bool false, .string (mkS []), .bool false, .bool false, .int .i64 (0 : Int), .int .i64 (0 : Int), .int .i64 (0 : Int), .int .i64 (0 : Int), .int .i64 (0 : Int)]
theorem qnU : TF prog qa 29 144 (.agg #[.string (mkS []), .string (mkS []), .int .i64 (0 : Int), .string (mkS []), .int .u8 (0 : Int), .int .u8 (0 : Int), .int .u8 (0 : Int), .int .u8 (0 : Int), .int .u8 (0 : Int), .int .u8 (0 : Int), .int .u8 (0 : Int), .int .u8 (0 : Int), .int .u8 (0 : Int), .int .u8 (0 : Int), .int .u8 (0 : Int), .int .u8 (0 : Int), .int .u8 (0 : Int), .int .u8 (0 : Int), .int .u8 (0 : Int), .int .u8 (0 : Int), .bool false, .string (mkS []), .bool false, .bool false, .int .i64 (0 : Int), .int .i64 (0 : Int), .int .i64 (0 : Int), .int .i64 (0 : Int), .int .i64 (0 : Int)]) := TF.of (by kernel_rfl) (by kernel_rfl) true (by kernel_rfl) (.inl rfl)
theorem qU : prog.underlying qX = some (.map zP qx) := by kernel_rfl
theorem qai : prog.underlying zh = some (.slice qt) := by kernel_rfl
theorem qk6 : TF prog zh 1 24 (.slice none 0 0) := TF.of (by kernel_rfl) (by kernel_rfl) false (by kernel_rfl) (.inr rfl)
theorem qmx : TF prog zP 2 24 (.agg #[.int .i64 (0 : Int), .string (mkS [])]) := TF.of (by kernel_rfl) (by kernel_rfl) true (by kernel_rfl) (.inl rfl)
theorem qoP : TF prog qt 4 4 (.agg #[.bool false, .bool false, .bool false, .bool false]) := TF.of (by kernel_rfl) (by kernel_rfl) true (by kernel_rfl) (.inl rfl)
theorem qgq : prog.underlying qao = some (.slice qa9) := by kernel_rfl
theorem qk4 : prog.underlying qa9 = some (.int .u16) := by kernel_rfl
theorem qpj : TF prog qa9 1 2 (.int .u16 (0 : Int)) := TF.of (by kernel_rfl) (by kernel_rfl) false (by kernel_rfl) (.inr rfl)
theorem qmV : TF prog qG 8 16 (.agg #[.int .u16 (0 : Int), .int .u16 (0 : Int), .int .u16 (0 : Int), .int .u16 (0 : Int), .int .u16 (0 : Int), .int .u16 (0 : Int), .int .u16 (0 : Int), .int .u16 (0 : Int)]) := TF.of (by kernel_rfl) (by kernel_rfl) true (by kernel_rfl) (.inl rfl)
theorem qmZ : prog.underlying je = some (.array 4 qe) := by kernel_rfl
theorem qhx : TF prog je 4 64 (.agg #[.string (mkS []), .string (mkS []), .string (mkS []), .string (mkS [])]) := TF.of (by kernel_rfl) (by kernel_rfl) true (by kernel_rfl) (.inl rfl)
abbrev qnO : Array Value := #[.int .u8 (0 : Int), .int .u8 (0 : Int), .int .u8 (0 : Int), .int .u8 (0 : Int), .int .u8 (0 : Int), .int .u8 (0 : Int), .int .u8 (0 : Int), .int .u8 (0 : Int), .int .u8 (0 : Int), .int .u8 (0 : Int), .int .u8 (0 : Int), .int .u8 (0 : Int), .int .u8 (0 : Int), .int .u8 (0 : Int), .int .u8 (0 : Int), .int .u8 (0 : Int), .int .u8 (0 : Int), .int .u8 (0 : Int), .int .u8 (0 : Int), .int .u8 (0 : Int), .int .u8 (0 : Int), .int .u8 (0 : Int), .int .u8 (0 : Int), .int .u8 (0 : Int)]
theorem qh2 : prog.underlying qQ = some (.array 3 qx) := by kernel_rfl
theorem qd2 : TF prog qQ 3 24 (.agg #[.int .i64 (0 : Int), .int .i64 (0 : Int), .int .i64 (0 : Int)]) := TF.of (by kernel_rfl) (by kernel_rfl) true (by kernel_rfl) (.inl rfl)
abbrev qoz : Array Value := #[.int .u8 (0 : Int), .int .u8 (0 : Int), .int .u8 (0 : Int), .int .u8 (0 : Int), .int .u8 (0 : Int), .int .u8 (0 : Int), .int .u8 (0 : Int), .int .u8 (0 : Int), .int .u8 (0 : Int), .int .u8 (0 : Int), .int .u8 (0 : Int), .int .u8 (0 : Int), .int .u8 (0 : Int), .int .u8 (0 : Int), .int .u8 (0 : Int), .int .u8 (0 : Int), .int .u8 (0 : Int), .int .u8 (0 : Int), .int .u8 (0 : Int), .int .u8 (0 : Int), .int .u8 (0 : Int), .int .u8 (0 : Int), .int .u8 (0 : Int), .int .u8 (0 : Int), .int .u8 (0 : Int), .int .u8 (0 : Int), .int .u8 (0 : Int), .int .u8 (0 : Int), .int .u8 (0 : Int), .int .u8 (0 : Int), .int .u8 (0 : Int), .int .u8 (0 : Int), .int .u8 (0 : Int), .int .u8 (0 : Int), .int .u8 (0 : Int), .int .u8 (0 : Int), .int .u8 (0 : Int), .int .u8 (0 : Int), .int .u8 (0 : Int), .int .u8 (0 : Int), .int .u8 (0 : Int), .int .u8 (0 : Int), .int .u8 (0 : Int), .int .u8 (0 : Int), .int .u8 (0 : Int), .int .u8 (0 : Int), .int .u8 (0 : Int), .int .u8 (0 : Int), .int .u8 (0 : Int), .int .u8 (0 : Int), .int .u8 (0 : Int), .int .u8 (0 : Int), .int .u8 (0 : Int), .int .u8 (0 : Int), .int .u8 (0 : Int), .int .u8 (0 : Int), .int .u8 (0 : Int), .int .u8 (0 : Int), .int .u8 (0 : Int), .int .u8 (0 : Int), .int .u8 (0 : Int), .int .u8 (0 : Int), .int .u8 (0 : Int), .int .u8 (0 : Int), .int .u8 (0 : Int)]
abbrev qpA : Array Value := #[.int .i64 (0 : Int), .int .i64 (0 : Int), .int .i64 (0 : Int), .int .i64 (0 : Int), .int .i64 (0 : Int), .int .i64 (0 : Int), .int .i64 (0 : Int), .int .i64 (0 : Int), .int .i64 (0 : Int), .int .i64 (0 : Int), .int .i64 (0 : Int), .int .i64 (0 : Int)]
theorem qo8 : TF prog qfF 12 96 (.agg #[.int .i64 (0 : Int), .int .i64 (0 : Int), .int .i64 (0 : Int), .int .i64 (0 : Int), .int .i64 (0 : Int), .int .i64 (0 : Int), .int .i64 (0 : Int), .int .i64 (0 : Int), .int .i64 (0 : Int), .int .i64 (0 : Int), .int .i64 (0 : Int), .int .i64 (0 : Int)]) := TF.of (by kernel_rfl) (by kernel_rfl) true (by kernel_rfl) (.inl rfl)
end Go.Proofs.YtndbpedpdbjkpaaGreatDoor
