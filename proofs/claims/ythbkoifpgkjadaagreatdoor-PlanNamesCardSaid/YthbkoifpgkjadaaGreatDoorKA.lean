/- What the laws lean on: W; what is used. Its conditions: none. -/
import Derived.Test.YthbkoifpgkjadaaGreatDoorProg
import Derived.Calls
import Derived.Scope
import Derived.Below
import Derived.Deep.Quiet
import Derived.OrdersHeld
import Derived.StillTail
import Derived.Laws.Strings
import Derived.KernelRfl
set_option linter.unusedVariables false
set_option linter.unusedSimpArgs false
set_option linter.unusedSectionVars false
set_option maxRecDepth 100000
open Go.IntKind (i64)
namespace Go.Pk
open Go.RowKit (Below)
open Go.Proofs
theorem dFx {p:Prop}{_:Decidable p} :decide p=false <->Not p:=decide_eq_false_iff_not
theorem dTx {p:Prop}[Decidable p]:(decide p=true)=p:=decide_eq_true_eq
def mkS (l:List UInt8):ByteArray:=⟨l.toArray⟩
def toL (b:ByteArray):List UInt8:=b.data.toList
@[simp] theorem toL_mkS (l:List UInt8):toL (mkS l)=l:=rfl
inductive S0 where
 | int (k:IntKind)|bool|str|slice|ptr|map|any
inductive Sh where
 | one (s:S0)
 | agg (l:List S0)
def ex0:S0->(Value->Prop)->Prop
 | .int k,K=>∃n:Int,K (.int k n)
 | .bool,K=>∃b:Bool,K (.bool b)
 | .str,K=>∃l:List UInt8,K (.string (mkS l))
 | .slice,K=>∃(a:Option Addr) (n c:Nat),K (.slice a n c)
 | .ptr,K=>∃a:Option Addr,K (.pointer a)
 | .map,K=>∃r:Option Nat,K (.map r)
 | .any,K=>∃v:Value,K v
def WK:List S0->(List Value->Prop)->Prop
 | [],K=>K []
 | s::l,K=>ex0 s λv=>WK l λvs=>K (v::vs)
def exS:Sh->(Value->Prop)->Prop
 | .one s,K=>ex0 s K
 | .agg l,K=>WK l λvs=>K (.agg vs.toArray)
def exL:List Sh->(List Value->Prop)->Prop
 | [],K=>K []
 | s::l,K=>exS s λv=>exL l λvs=>K (v::vs)
def exR:List Sh->(Value->Prop)->Prop
 | [s],K=>exS s K
 | l,K=>exL l λvs=>K (.tuple vs.toArray)
theorem NR {s:S0}{K:Value->Prop}(h:ex0 s K):∃v,K v:=by
 cases s <;> simp only[ex0]at h <;> (first|(obtain⟨_,h⟩:=h;exact⟨_,h⟩)|(obtain⟨_,_,_,h⟩:=h;exact⟨_,h⟩))
theorem KF:∀{l:List S0} {K:List Value->Prop},WK l K->∃v,K v
 | [],_,h=>⟨_,h⟩
 | _::_,_,h=>let⟨_,h1⟩:=NR h;let⟨_,h2⟩:=KF h1;⟨_,h2⟩
theorem JC {s:Sh}{K:Value->Prop}(h:exS s K):∃v,K v:=by
 cases s with
 | one s=>exact NR h
 | agg l=>obtain⟨v,h⟩:=KF h;exact⟨_,h⟩
theorem NT:∀{l:List Sh} {K:List Value->Prop},exL l K->∃v,K v
 | [],_,h=>⟨_,h⟩
 | _::_,_,h=>let⟨_,h1⟩:=JC h;let⟨_,h2⟩:=NT h1;⟨_,h2⟩
theorem kF {l:List Sh}{K:Value->Prop}(h:exR l K):∃v,K v:=by
 unfold exR at h
 split at h
 · exact JC h
 · obtain⟨v,h⟩:=NT h;exact⟨_,h⟩
def UM:S0->(Value->Prop)->Prop
 | .int k,K=>∀n:Int,K (.int k n)
 | .bool,K=>∀b:Bool,K (.bool b)
 | .str,K=>∀l:List UInt8,K (.string (mkS l))
 | .slice,K=>∀(a:Option Addr) (n c:Nat),K (.slice a n c)
 | .ptr,K=>∀a:Option Addr,K (.pointer a)
 | .map,K=>∀r:Option Nat,K (.map r)
 | .any,K=>∀v:Value,K v
def M9:List S0->(List Value->Prop)->Prop
 | [],K=>K []
 | s::l,K=>UM s λv=>M9 l λvs=>K (v::vs)
def Xm:Sh->(Value->Prop)->Prop
 | .one s,K=>UM s K
 | .agg l,K=>M9 l λvs=>K (.agg vs.toArray)
def PY:List Sh->(List Value->Prop)->Prop
 | [],K=>K []
 | s::l,K=>Xm s λv=>PY l λvs=>K (v::vs)
def F0 (s:S0)(T:Type):Type:=match s with
 | .int _=>Int->T
 | .bool=>Bool->T
 | .str=>List UInt8->T
 | .slice=>Option Addr->Nat->Nat->T
 | .ptr=>Option Addr->T
 | .map=>Option Nat->T
 | .any=>Value->T
def FL0:List S0->Type->Type
 | [],T=>T
 | s::l,T=>F0 s (FL0 l T)
def FSh:Sh->Type->Type
 | .one s,T=>F0 s T
 | .agg l,T=>FL0 l T
def FL:List Sh->Type->Type
 | [],T=>T
 | s::l,T=>FSh s (FL l T)
abbrev FP (l:List Sh):Type:=FL l (World->Prop)
def dF0 {T:Type}(d:T):(s:S0)->F0 s T
 | .int _=>λ_=>d
 | .bool=>λ_=>d
 | .str=>λ_=>d
 | .slice=>λ_ _ _=>d
 | .ptr=>λ_=>d
 | .map=>λ_=>d
 | .any=>λ_=>d
def dL0 {T:Type}(d:T):(l:List S0)->FL0 l T
 | []=>d
 | s::l=>dF0 (dL0 d l) s
def dS {T:Type}(d:T):(s:Sh)->FSh s T
 | .one s=>dF0 d s
 | .agg l=>dL0 d l
def dL {T:Type}(d:T):(l:List Sh)->FL l T
 | []=>d
 | s::l=>dS (dL d l) s
def ap0 {T:Type}(d:T):(s:S0)->F0 s T->Value->T
 | .int k,f,.int k' n=>if k=k' then f n else d
 | .bool,f,.bool b=>f b
 | .str,f,.string b=>f (toL b)
 | .slice,f,.slice a n c=>f a n c
 | .ptr,f,.pointer a=>f a
 | .map,f,.map r=>f r
 | .any,f,v=>f v
 | _,_,_=>d
def R1 {T:Type}(d:T):(l:List S0)->FL0 l T->List Value->T
 | [],f,[]=>f
 | s::l,f,v::vs=>R1 d l (ap0 (dL0 d l) s f v) vs
 | _,_,_=>d
def apS {T:Type}(d:T):(s:Sh)->FSh s T->Value->T
 | .one s,f,v=>ap0 d s f v
 | .agg l,f,.agg cs=>R1 d l f cs.toList
 | _,_,_=>d
def apL {T:Type}(d:T):(l:List Sh)->FL l T->List Value->T
 | [],f,[]=>f
 | s::l,f,v::vs=>apL d l (apS (dL d l) s f v) vs
 | _,_,_=>d
abbrev ap (l:List Sh)(f:FP l)(vs:List Value):World->Prop:=apL (λ_=>False) l f vs
theorem Ji {T:Type}{d:T}{s:S0}{f:F0 s T}{K:T->Value->Prop}(h:UM s λv=>K (ap0 d s f v) v)(hd:∀v,K d v):∀v,K (ap0 d s f v) v:=by
 intro v
 cases s <;> cases v <;> (first|exact hd _|exact h _|exact h _ _ _|skip)
 case int.int k k' n=>
   by_cases e:k=k'
   · subst e;exact h n
   · simp only[ap0,if_neg e];exact hd _
theorem U2 {T:Type}{d:T}(s:S0)(v:Value):ap0 d s (dF0 d s) v=d:=by
 cases s
 case int k=>
   cases v
   case int k' n=>
     by_cases e:k=k'
     · subst e;simp only[ap0,if_true];rfl
     · simp only[ap0,if_neg e]
   all_goals rfl
 all_goals(cases v <;> rfl)
theorem Na {T:Type}{d:T} :∀(l:List S0) (vs:List Value),R1 d l (dL0 d l) vs=d
 | [],[]=>rfl
 | [],_::_=>rfl
 | _::_,[]=>rfl
 | s::l,v::vs=>by
   have h:R1 d (s::l) (dL0 d (s::l)) (v::vs)=R1 d l (ap0 (dL0 d l) s (dF0 (dL0 d l) s) v) vs:=rfl
   rw[h,U2];exact Na l vs
theorem Wv {T:Type}{d:T}(s:Sh)(v:Value):apS d s (dS d s) v=d:=by
 cases s with
 | one s=>exact U2 s v
 | agg l=>
   cases v
   case agg cs=>exact Na _ _
   all_goals rfl
theorem U3 {T:Type}{d:T} :∀(l:List Sh) (vs:List Value),apL d l (dL d l) vs=d
 | [],[]=>rfl
 | [],_::_=>rfl
 | _::_,[]=>rfl
 | s::l,v::vs=>by
   have h:apL d (s::l) (dL d (s::l)) (v::vs)=apL d l (apS (dL d l) s (dS (dL d l) s) v) vs:=rfl
   rw[h,Wv];exact U3 l vs
theorem Kp {K:List Value->Prop} :∀(l:List S0),(∀vs,K vs)->M9 l K:=by
 intro l
 induction l generalizing K with
 | nil=>intro h;exact h _
 | cons s l ih=>intro h;cases s <;> (first|exact λ_=>ih λ_=>h _|exact λ_ _ _=>ih λ_=>h _)
theorem SL {K:List Value->Prop} :∀(l:List Sh),(∀vs,K vs)->PY l K:=by
 intro l
 induction l generalizing K with
 | nil=>intro h;exact h _
 | cons s l ih=>
   intro h
   cases s with
   | one s=>cases s <;> (first|exact λ_=>ih λ_=>h _|exact λ_ _ _=>ih λ_=>h _)
   | agg s=>exact Kp s λ_=>ih λ_=>h _
theorem Ko {T:Type}{d:T} :∀{l:List S0} {f:FL0 l T} {K:T->List Value->Prop},(M9 l λvs=>K (R1 d l f vs) vs)->(∀vs,K d vs)->∀vs,K (R1 d l f vs) vs
 | [],f,K,h,hd,vs=>by cases vs with
   | nil=>exact h
   | cons=>exact hd _
 | s::l,f,K,h,hd,vs=>by
   cases vs with
   | nil=>exact hd _
   | cons v vs=>
     have h1:=Ji (d:=dL0 d l) (s:=s) (f:=f) (K:=λg v=>M9 l λvs=>K (R1 d l g vs) (v::vs)) h
       (λv=>by simp only[Na];exact Kp l λ_=>hd _) v
     exact Ko (f:=ap0 (dL0 d l) s f v) (K:=λt vs=>K t (v::vs)) h1 (λ_=>hd _) vs
theorem SM {T:Type}{d:T}{s:Sh}{f:FSh s T}{K:T->Value->Prop}(h:Xm s λv=>K (apS d s f v) v)(hd:∀v,K d v):∀v,K (apS d s f v) v:=by
 intro v
 cases s with
 | one s=>exact Ji (K:=K) h hd v
 | agg l=>
   cases v <;> (first|exact hd _|skip)
   case agg cs=>
     have:=Ko (d:=d) (l:=l) (f:=f) (K:=λt vs=>K t (.agg vs.toArray)) h (λ_=>hd _) cs.toList
     simpa[apS]using this
theorem Jj {T:Type}{d:T} :∀{l:List Sh} {f:FL l T} {K:T->List Value->Prop},(PY l λvs=>K (apL d l f vs) vs)->(∀vs,K d vs)->∀vs,K (apL d l f vs) vs
 | [],f,K,h,hd,vs=>by cases vs with
   | nil=>exact h
   | cons=>exact hd _
 | s::l,f,K,h,hd,vs=>by
   cases vs with
   | nil=>exact hd _
   | cons v vs=>
     have h1:=SM (d:=dL d l) (s:=s) (f:=f) (K:=λg v=>PY l λvs=>K (apL d l g vs) (v::vs)) h
       (λv=>by simp only[U3];exact SL l λ_=>hd _) v
     exact Jj (f:=apS (dL d l) s f v) (K:=λt vs=>K t (v::vs)) h1 (λ_=>hd _) vs
inductive PV where
 | val (v:Value)
 | part (c:Prop) (v:Value)
def Tw (op:BinOp)(k:IntKind)(a b:Int):Option PV:=
 match op with
 | .add=>some (.val (.int k (k.wrap (a+b))))
 | .sub=>some (.val (.int k (k.wrap (a-b))))
 | .mul=>some (.val (.int k (k.wrap (a*b))))
 | .quo=>some (.part (b≠0) (.int k (k.wrap (a.tdiv b))))
 | .rem=>some (.part (b≠0) (.int k (a.tmod b)))
 | .and=>some (.val (.int k (k.wrap ((BitVec.ofInt k.bits a &&& BitVec.ofInt k.bits b).toNat:Nat))))
 | .or=>some (.val (.int k (k.wrap ((BitVec.ofInt k.bits a ||| BitVec.ofInt k.bits b).toNat:Nat))))
 | .xor=>some (.val (.int k (k.wrap ((BitVec.ofInt k.bits a ^^^ BitVec.ofInt k.bits b).toNat:Nat))))
 | .eql=>some (.val (.bool (a==b)))
 | .neq=>some (.val (.bool (a !=b)))
 | .lss=>some (.val (.bool (decide (a<b))))
 | .leq=>some (.val (.bool (decide (a <=b))))
 | .gtr=>some (.val (.bool (decide (a>b))))
 | .geq=>some (.val (.bool (decide (a >=b))))
 | _=>none
def Uh (op:BinOp)(x y:List UInt8):Option PV:=
 match op with
 | .add=>some (.part (((x.length+y.length:Nat):Int) <=i64.max) (.string (mkS (x++y))))
 | .eql=>some (.val (.bool (x==y)))
 | .neq=>some (.val (.bool (!(x==y))))
 | .lss=>some (.val (.bool (Op.bytesLess x y)))
 | .leq=>some (.val (.bool (Op.bytesLess x y || x==y)))
 | .gtr=>some (.val (.bool (!(Op.bytesLess x y || x==y))))
 | .geq=>some (.val (.bool (!Op.bytesLess x y)))
 | _=>none
def Ww (P:Program)(op:BinOp)(t:TypeId)(x y:Value):Option PV:=
 match x,y with
 | .int k a,.int k' b=>
   match op with
   | .shl=>some (.part (0 <=b) (.int k (k.wrap (a*2 ^ (min b.toNat k.bits)))))
   | .shr=>some (.part (0 <=b) (.int k (a.fdiv (2 ^ (min b.toNat k.bits)))))
   | op=>if k=k' then Tw op k a b else none
 | .string a,.string b=>Uh op (toL a) (toL b)
 | .bool a,.bool b=>
   match P.underlying t,op with
   | some .bool,.eql=>some (.val (.bool (a==b)))
   | some .bool,.neq=>some (.val (.bool (!(a==b))))
   | _,_=>none
 | .pointer a,.pointer none=>
   match P.underlying t,op with
   | some (.pointer _),.eql=>some (.val (.bool a.isNone))
   | some (.pointer _),.neq=>some (.val (.bool (!a.isNone)))
   | _,_=>none
 | _,_=>none
def unV (op:UnOp)(x:Value):Option PV:=
 match op,x with
 | .neg,.int k n=>some (.val (.int k (k.wrap (0-n))))
 | .not,.bool b=>some (.val (.bool (!b)))
 | _,_=>none
def H7 (P:Program)(t:TypeId)(cs:Array Value)(off:Nat):Option Value:=
 match P.underlying t with
 | some (.struct _)|some (.array _ _)=>(P.info? t).map λi=>.agg (cs.extract off (off+i.size))
 | some _=>cs[off]?
 | none=>none
def uf (d:Nat):Option Value->Option Nat
 | none=>some d
 | some (.int _ n)=>some n.toNat
 | _=>none
def intOf (d:Nat):Option Value->Option Int
 | none=>some d
 | some (.int _ n)=>some n
 | _=>none
def sR (lo hi:Option Value)(y:Nat)(d:Nat):Prop:=
 match lo,hi with
 | none,none=>True
 | some (.int _ l),none=>0 <=l/\l <=(d:Int)
 | none,some (.int _ h)=>0 <=h/\h <=(y:Int)
 | some (.int _ l),some (.int _ h)=>(0 <=h/\h <=(y:Int))/\0 <=l/\l <=(h.toNat:Int)
 | _,_=>False
def Vb (l:List UInt8)(lo hi:Option Value):List UInt8:=
 match lo,hi with
 | some (.int _ a),none=>l.drop a.toNat
 | none,some (.int _ b)=>l.take b.toNat
 | some (.int _ a),some (.int _ b)=>(l.take b.toNat).drop a.toNat
 | _,_=>l
def O3 (P:Program)(t:TypeId)(x:Value)(lo hi:Option Value):Option PV:=
 match P.underlying t,x with
 | some .string,.string s=>some (.part (sR lo hi (toL s).length (toL s).length) (.string (mkS (Vb (toL s) lo hi))))
 | some (.slice e),.slice a n c=>
   match P.info? e with
   | some i=>
     match lo,uf n hi with
     | none,some h=>some (.part (sR lo hi c n) (.slice a h c))
     | some (.int _ l),some h=>some (.part (sR lo hi c n) (.slice (if c=l.toNat then a else a.map (·.add (l.toNat*i.size))) (h-l.toNat) (c-l.toNat)))
     | _,_=>none
   | none=>none
 | some (.array n e),.pointer (some a)=>
   match P.info? e with
   | some i=>
     match lo,uf n hi with
     | none,some h=>some (.part (sR lo hi n n) (.slice (some a) h n))
     | some (.int _ l),some h=>some (.part (sR lo hi n n) (.slice (some (if n=l.toNat then a else a.add (l.toNat*i.size))) (h-l.toNat) (n-l.toNat)))
     | _,_=>none
   | none=>none
 | _,_=>none
def WX (P:Program)(t:TypeId)(x:Value):Option PV:=
 match P.underlying t,x with
 | some .string,.string s=>some (.val (.int .i64 ((toL s).length:Nat)))
 | some (.slice _),.slice _ n _=>some (.val (.int .i64 (n:Nat)))
 | some (.array n _),_=>some (.val (.int .i64 (n:Nat)))
 | _,_=>none
def Wx (P:Program)(t:TypeId)(x:Value):Option PV:=
 match P.underlying t,x with
 | some (.slice _),.slice _ _ n=>some (.val (.int .i64 (n:Nat)))
 | _,_=>none
def UN (P:Program)(t:TypeId):Bool:=match P.info? t with|some i=>Nat.ble 12 i.size|none=>false
def V0 (P:Program)(t:TypeId)(ps:List Nat):Bool:=
 match P.underlying t with
 | some (.struct fs)=>ps.any λp=>match fs[p]? with|some fd=>UN P fd.type|none=>false
 | some (.array _ e)=>UN P e
 | some (.slice e)=>UN P e
 | _=>false
def pv (P:Program)(ρ:Operand->Value)(op:Op):Option PV:=
 match op with
 | .move x=>some (.val (ρ x))
 | .assign x=>some (.val (ρ x))
 | .pick c a b=>match ρ c,ρ a,ρ b with
   | .bool t,.bool x,.bool y=>some (.val (.bool (cond t x y)))
   | .bool t,x,y=>some (.val (match t with|true=>x|false=>y))
   | _,_,_=>none
 | .binOp op t x y _=>if UN P t=true then none else Ww P op t (ρ x) (ρ y)
 | .unOp op _ x=>unV op (ρ x)
 | .convert s d x=>match P.underlying s,P.underlying d,ρ x with
   | some (.int _),some (.int k),.int _ n=>some (.val (.int k (k.wrap n)))
   | some .string,some .string,.string b=>some (.val (.string b))
   | _,_,_=>none
 | .extract t i=>match ρ t with
   | .tuple vs=>(vs[i]?).map .val
   | _=>none
 | .field t x f=>if UN P t=true then none else match P.underlying t,ρ x with
   | some (.struct fs),.agg cs=>(fs[f]?).bind λfd=>(H7 P fd.type cs fd.offset).map .val
   | _,_=>none
 | .fieldAddr t x f=>match P.underlying t,ρ x with
   | some (.struct fs),.pointer a=>match fs[f]? with
     | some fd=>match P.info? fd.type with
       | some i=>if i.size=0 then none else some (.part (a.isSome=true) (.pointer (a.map (·.add fd.offset))))
       | none=>none
     | none=>none
   | _,_=>none
 | .indexAddr t x i=>match P.underlying t,ρ x,ρ i with
   | some (.slice e),.slice b n _,.int _ j=>match P.info? e with
     | some ti=>some (.part ((0 <=j/\j<(n:Int))/\b.isSome=true) (.pointer (b.map (·.add (j.toNat*ti.size)))))
     | none=>none
   | some (.array n e),.pointer a,.int _ j=>match P.info? e with
     | some ti=>some (.part ((0 <=j/\j<(n:Int))/\a.isSome=true) (.pointer (a.map (·.add (j.toNat*ti.size)))))
     | none=>none
   | _,_,_=>none
 | .index t x i=>match P.underlying t,ρ x,ρ i with
   | some .string,.string s,.int _ j=>some (.part (0 <=j/\j<((toL s).length:Int)) (.int .u8 (((toL s)[j.toNat]?.getD 0).toNat:Nat)))
   | _,_,_=>none
 | .slice t x lo hi none=>O3 P t (ρ x) (lo.map ρ) (hi.map ρ)
 | .nilCheck x=>match ρ x with
   | .pointer a=>some (.part (a.isSome=true) (.pointer a))
   | .func (.func f) first captured=>some (.val (.func (.func f) first captured))
   | _=>none
 | .makeFunc fn first captured=>some (.val (.func fn (first.map ρ) (captured.map ρ)))
 | .makeInterface t x=>match P.underlying t with
   | some (.interface _)|none=>none
   | some _=>some (.val (.iface t (ρ x)))
 | .build t parts=>if V0 P t (parts.toList.map (·.1))=true then none else match(P.info? t).bind (·.zero),P.underlying t with
   | some z,some (.struct fs)=>
     match fs.toList.mapM (λf=>(P.info? f.type).map λi=>(f.offset,i.size))with
     | some places=>(Instr.fill (places[·]?) z.cells (parts.toList.map λp=>(p.1,ρ p.2))).map λcs=>.val (.agg cs)
     | none=>none
   | some z,some (.array _ e)=>
     match P.info? e with
     | some i=>(Instr.fill (λj=>some (j*i.size,i.size)) z.cells (parts.toList.map λp=>(p.1,ρ p.2))).map λcs=>.val (.agg cs)
     | none=>none
   | _,_=>none
 | .call { callee:=.builtin .len,args,argTypes } =>match args.toList,argTypes.toList with
   | [x],[t]=>WX P t (ρ x)
   | _,_=>none
 | .call { callee:=.builtin .cap,args,argTypes } =>match args.toList,argTypes.toList with
   | [x],[t]=>Wx P t (ρ x)
   | _,_=>none
 | _=>none
def PV.ok (P:Program)(s:Sem Value):PV->Prop
 | .val v=>∀w,s.run P w=.ok v w
 | .part c v=>c->∀w,s.run P w=.ok v w
theorem bK {P:Program}{t:TypeId}{d:TypeDesc}(h:P.underlying t=some d)(w:World):(underlying t).run P w=.ok d w:=by
 simp[underlying,h]
theorem jj {P:Program}{t:TypeId}{d:TypeInfo}(h:P.info? t=some d)(w:World):(typeInfo t).run P w=.ok d w:=by
 simp[typeInfo,h]
theorem fJ {P:Program}{t:TypeId}{d:TypeInfo}(h:P.info? t=some d)(w:World):(sizeOf t).run P w=.ok d.size w:=by
 simp[sizeOf,jj h]
theorem qU (b:ByteArray):(toL b).length=b.size:=by cases b;rfl
theorem My (b:ByteArray):b.toList=toL b:=ByteArray.toList_eq b
theorem run_equalIn_bool {P:Program}{t:TypeId}(hu:P.underlying t=some .bool)(d:Nat)(a b:Bool)(w:World):
   (Op.equalIn (d+1) t (.bool a) (.bool b)).run P w=.ok (a==b) w:=by
 simp[Op.equalIn,bK hu]
theorem sJ {P:Program}{t e:TypeId}(hu:P.underlying t=some (.pointer e))(d:Nat)(a:Option Addr)(w:World):
   (Op.equalIn (d+1) t (.pointer a) (.pointer none)).run P w=.ok a.isNone w:=by
 cases a <;> simp[Op.equalIn,bK hu]
theorem P2 {P:Program}{op:BinOp}{t:TypeId}{k:IntKind}{a b:Int}{r:PV}(h:Tw op k a b=some r):r.ok P (binOp op t (.int k a) (.int k b)):=by
 cases op
 all_goals simp only[Tw,Option.some.injEq,reduceCtorEq]at h
 all_goals(try subst h)
 case quo=>intro hc w;simp[binOp,Op.intDiv,hc]
 case rem=>intro hc w;simp[binOp,Op.intDiv,hc]
 all_goals(intro w;simp[binOp,Op.intArith,Op.intBits,Op.intCmp])
theorem P3 {P:Program}{op:BinOp}{t:TypeId}{a b:ByteArray}{r:PV}(h:Uh op (toL a) (toL b)=some r):r.ok P (binOp op t (.string a) (.string b)):=by
 cases op
 all_goals simp only[Uh,Option.some.injEq,reduceCtorEq]at h
 all_goals(try subst h)
 case add=>
   intro hc w
   have hn: ¬ (((a.size+b.size:Nat):Int)>i64.max):=by
     rw[qU,qU]at hc;omega
   have e:mkS (toL a++toL b)=a++b:=by
     cases a;cases b;simp[mkS,toL];rfl
   simp only[binOp,Op.stringOp,if_neg hn,e,Sem.run_pure]
 all_goals(intro w;simp[binOp,Op.stringOp,My])
theorem SN {P:Program}{op:BinOp}{t:TypeId}{x y:Value}{r:PV}(h:Ww P op t x y=some r):r.ok P (binOp op t x y)/\(∀xo yo w,(eqGuard op t xo yo x y).run P w=.ok () w):=by
 unfold Ww at h
 split at h
 · rename_i k a k' b
   refine⟨?_,λ_ _ _=>by cases op <;> rfl⟩
   split at h
   · simp only[Option.some.injEq]at h;subst h
     intro hc w
     have hn: ¬ b<0:=by omega
     simp[binOp,Op.shift,hn]
   · simp only[Option.some.injEq]at h;subst h
     intro hc w
     have hn: ¬ b<0:=by omega
     simp[binOp,Op.shift,hn]
   · split at h
     · rename_i hk;subst hk;exact P2 h
     · cases h
 · exact⟨P3 h,λ_ _ _=>by cases op <;> rfl⟩
 · rename_i a b
   refine⟨?_,λ_ _ _=>by cases op <;> rfl⟩
   split at h
   · rename_i hu;simp only[Option.some.injEq]at h;subst h;intro w
     show((do pure (.bool (<- Op.equalIn (9999+1) t (.bool a) (.bool b))):Sem Value)).run P w=_
     rw[Sem.run_bind,run_equalIn_bool hu];rfl
   · rename_i hu;simp only[Option.some.injEq]at h;subst h;intro w
     show((do pure (.bool (!(<- Op.equalIn (9999+1) t (.bool a) (.bool b)))):Sem Value)).run P w=_
     rw[Sem.run_bind,run_equalIn_bool hu];rfl
   · cases h
 · rename_i a
   refine⟨?_,λ_ _ _=>by cases op <;> rfl⟩
   split at h
   · rename_i hu;simp only[Option.some.injEq]at h;subst h;intro w
     show((do pure (.bool (<- Op.equalIn (9999+1) t (.pointer a) (.pointer none))):Sem Value)).run P w=_
     rw[Sem.run_bind,sJ hu];rfl
   · rename_i hu;simp only[Option.some.injEq]at h;subst h;intro w
     show((do pure (.bool (!(<- Op.equalIn (9999+1) t (.pointer a) (.pointer none)))):Sem Value)).run P w=_
     rw[Sem.run_bind,sJ hu];rfl
   · cases h
 · cases h
def Et:TypeDesc->Bool
 | .struct _|.array _ _=>true
 | _=>false
theorem sL {P:Program}{t:TypeId}{d:TypeDesc}(h:P.underlying t=some d)(w:World):(isAgg t).run P w=.ok (Et d) w:=by
 unfold isAgg
 rw[Sem.run_bind,bK h]
 cases d <;> rfl
theorem wQ {P:Program}{t:TypeId}{cs:Array Value}{off:Nat}{v:Value}(h:H7 P t cs off=some v)(w:World):(part t cs off).run P w=.ok v w:=by
 unfold H7 at h
 unfold part
 split at h
 · rename_i hu
   cases hi:P.info? t with
   | none=>simp[hi]at h
   | some i=>simp[hi]at h;subst h;simp[sL hu,Et,fJ hi]
 · rename_i hu
   cases hi:P.info? t with
   | none=>simp[hi]at h
   | some i=>simp[hi]at h;subst h;simp[sL hu,Et,fJ hi]
 · rename_i d n1 n2 hu
   have e:Et d=false:=by cases d <;> simp_all [Et]
   rw[Sem.run_bind,sL hu,e]
   simp[h]
 · cases h
theorem TB {P:Program}{t ty:TypeId}{x:Value}{r:PV}(h:WX P t x=some r):r.ok P (Builtin.len_ #[t] ty #[x]):=by
 unfold WX at h
 split at h
 · rename_i hu;simp only[Option.some.injEq]at h;subst h;intro w;simp[Builtin.len_,bK hu,qU,goInt]
 · rename_i hu;simp only[Option.some.injEq]at h;subst h;intro w;simp[Builtin.len_,bK hu,goInt]
 · rename_i hu;simp only[Option.some.injEq]at h;subst h;intro w;simp[Builtin.len_,bK hu,goInt]
 · cases h
theorem SV {P:Program}{t ty:TypeId}{x:Value}{r:PV}(h:Wx P t x=some r):r.ok P (Builtin.cap_ #[t] ty #[x]):=by
 unfold Wx at h
 split at h
 · rename_i hu;simp only[Option.some.injEq]at h;subst h;intro w;simp[Builtin.cap_,bK hu,goInt]
 · cases h
theorem nu (P:Program)(k:IntKind)(n:Int)(w:World):(asIntOf (.int k n)).run P w=.ok (k,n) w:=rfl
theorem wT {P:Program}{k:IntKind}{n:Int}{y:Nat}{code:BoundsCode}(h:0 <=n/\n <=(y:Int))(w:World):(Instr.sliceBound (.int k n) y code).run P w=.ok n.toNat w:=by
 simp[Instr.sliceBound,nu,h]
theorem yp {P:Program}{isSlice:Bool}{len cap:Nat}{lo hi:Option Value}(h:sR lo hi cap len)
   (hlo:∀v,lo=some v->∃k n,v=.int k n) (hhi:∀v,hi=some v->∃k n,v=.int k n) (w:World):
   ∃l m,uf 0 lo=some l/\uf len hi=some m/\(Instr.sliceBounds isSlice len cap lo hi none).run P w=.ok (l,m,cap) w:=by
 cases lo with
 | none=>
   cases hi with
   | none=>exact⟨0,len,rfl,rfl,by simp[Instr.sliceBounds]⟩
   | some b=>
     obtain⟨k,n,rfl⟩:=hhi b rfl
     have h':0 <=n/\n <=(cap:Int):=h
     exact⟨0,n.toNat,rfl,rfl,by simp[Instr.sliceBounds,wT h']⟩
 | some a=>
   obtain⟨k,n,rfl⟩:=hlo a rfl
   cases hi with
   | none=>
     have h':0 <=n/\n <=(len:Int):=h
     exact⟨n.toNat,len,rfl,rfl,by simp[Instr.sliceBounds,wT h']⟩
   | some b=>
     obtain⟨k',m,rfl⟩:=hhi b rfl
     have h':(0 <=m/\m <=(cap:Int))/\0 <=n/\n <=(m.toNat:Int):=h
     exact⟨n.toNat,m.toNat,rfl,rfl,by simp[Instr.sliceBounds,wT h'.1,wT h'.2]⟩
theorem dO {lo hi:Option Value}{y d:Nat}(h:sR lo hi y d):(∀v,lo=some v->∃k n,v=.int k n)/\(∀v,hi=some v->∃k n,v=.int k n):=by
 unfold sR at h
 split at h
 · exact⟨λv hv=>(by cases hv),λv hv=>(by cases hv)⟩
 · exact⟨λv hv=>(by cases hv;exact⟨_,_,rfl⟩),λv hv=>(by cases hv)⟩
 · exact⟨λv hv=>(by cases hv),λv hv=>(by cases hv;exact⟨_,_,rfl⟩)⟩
 · exact⟨λv hv=>(by cases hv;exact⟨_,_,rfl⟩),λv hv=>(by cases hv;exact⟨_,_,rfl⟩)⟩
 · cases h
theorem Bf (a:Addr):a.add 0=a:=by simp[Addr.add]
theorem qn (s:ByteArray)(l h:Nat):s.extract l h=mkS (((toL s).take h).drop l):=by
 apply ByteArray.ext
 apply Array.ext'
 simp[mkS,toL,ByteArray.data_extract,List.drop_take]
theorem O4 {P:Program}{t:TypeId}{x:Value}{lo hi:Option Value}{r:PV}(h:O3 P t x lo hi=some r):r.ok P (Instr.sliceAt t x lo hi none):=by
 unfold O3 at h
 split at h
 · rename_i s hu
   simp only[Option.some.injEq]at h;subst h
   intro hc w
   have hc':sR lo hi s.size s.size:=by rw[qU]at hc;exact hc
   obtain⟨l,m,e1,e2,hr⟩:=yp (P:=P) (isSlice:=false) hc' (dO hc').1 (dO hc').2 w
   simp only[Instr.sliceAt,Instr.slice,Sem.run_bind,bK hu,Result.andThen_ok,Option.isSome_none,Bool.false_eq_true,if_false,hr,Sem.run_pure]
   congr 2
   cases lo with
   | none=>
     cases hi with
     | none=>
       simp[uf]at e1 e2;subst e1 e2
       rw[qn]
       simp[Vb,<- qU]
     | some b=>
       obtain⟨k',n,rfl⟩:=(dO hc').2 b rfl
       simp[uf]at e1 e2;subst e1 e2
       have h':0 <=n/\n <=(s.size:Int):=hc'
       rw[qn]
       simp[Vb]
   | some a=>
     obtain⟨k,n,rfl⟩:=(dO hc').1 a rfl
     cases hi with
     | none=>
       simp[uf]at e1 e2;subst e1 e2
       have h':0 <=n/\n <=(s.size:Int):=hc'
       rw[qn]
       simp[Vb,<- qU]
     | some b=>
       obtain⟨k',m',rfl⟩:=(dO hc').2 b rfl
       simp[uf]at e1 e2;subst e1 e2
       have h':(0 <=m'/\m' <=(s.size:Int))/\0 <=n/\n <=(m'.toNat:Int):=hc'
       rw[qn]
       simp[Vb]
 · rename_i e a n c hu
   cases hi':P.info? e with
   | none=>simp[hi']at h
   | some i=>
     simp only[hi']at h
     have key:∀{v} (hc:sR lo hi c n),(∀l m,uf 0 lo=some l->uf n hi=some m->v=Value.slice (if c=l then a else a.map (·.add (l*i.size))) (m-l) (c-l))->
         ∀w,(Instr.sliceAt t (.slice a n c) lo hi none).run P w=.ok v w:=by
       intro v hc hv w
       obtain⟨l,m,e1,e2,hr⟩:=yp (P:=P) (isSlice:=true) hc (dO hc).1 (dO hc).2 w
       simp only[Instr.sliceAt,Instr.slice,Sem.run_bind,bK hu,Result.andThen_ok,hr,fJ hi',Sem.run_pure]
       rw[hv l m e1 e2]
     split at h
     · rename_i hh he
       simp only[Option.some.injEq]at h;subst h
       intro hc;exact key hc λl m e1 e2=>by
         rw[he]at e2;simp[uf]at e1 e2;subst e1 e2
         simp
         intro _
         cases a <;> simp[Bf]
     · rename_i k l hh he
       simp only[Option.some.injEq]at h;subst h
       intro hc;exact key hc λl m e1 e2=>by rw[he]at e2;simp[uf]at e1 e2;subst e1 e2;rfl
     · cases h
 · rename_i n e a hu
   cases hi':P.info? e with
   | none=>simp[hi']at h
   | some i=>
     simp only[hi']at h
     have key:∀{v} (hc:sR lo hi n n),(∀l m,uf 0 lo=some l->uf n hi=some m->v=Value.slice (some (if n=l then a else a.add (l*i.size))) (m-l) (n-l))->
         ∀w,(Instr.sliceAt t (.pointer (some a)) lo hi none).run P w=.ok v w:=by
       intro v hc hv w
       obtain⟨l,m,e1,e2,hr⟩:=yp (P:=P) (isSlice:=false) hc (dO hc).1 (dO hc).2 w
       simp only[Instr.sliceAt,Sem.run_bind,bK hu,Result.andThen_ok,hr,fJ hi',Sem.run_pure,Instr.sureAddr]
       rw[hv l m e1 e2]
     split at h
     · rename_i hh he
       simp only[Option.some.injEq]at h;subst h
       intro hc;exact key hc λl m e1 e2=>by
         rw[he]at e2;simp[uf]at e1 e2;subst e1 e2
         simp[Bf]
     · rename_i k l hh he
       simp only[Option.some.injEq]at h;subst h
       intro hc;exact key hc λl m e1 e2=>by rw[he]at e2;simp[uf]at e1 e2;subst e1 e2;rfl
     · cases h
 · cases h
def vN (s:Sem Value):Sem Next:=do pure (.value (<- s))
def uN (s:Sem Unit):Sem Next:=do s;pure .skip
theorem iO {P:Program}{s:Sem Value}{v:Value}{w w':World}(h:s.run P w=.ok v w'):(vN s).run P w=.ok (.value v) w':=by
 simp[vN,h]
theorem VJ {P:Program}{s:Sem Unit}{w w':World}(h:s.run P w=.ok () w'):(uN s).run P w=.ok .skip w':=by
 simp[uN,h]
def PV.cond:PV->Prop
 | .val _=>True
 | .part c _=>c
def PV.value:PV->Value
 | .val v=>v
 | .part _ v=>v
theorem PV.ok.run {P:Program}{s:Sem Value}{r:PV}(h:r.ok P s)(hc:r.cond)(w:World):s.run P w=.ok r.value w:=by
 cases r with
 | val v=>exact h w
 | part c v=>exact h hc w
theorem gk (P:Program)(a:Addr)(w:World):(Instr.sureAddr (.pointer (some a))).run P w=.ok a w:=rfl
theorem Hw {P:Program}{t:TypeId}{fs:Array Field}{f:Nat}{fd:Field}{i:TypeInfo}(hu:P.underlying t=some (.struct fs))(hf:fs[f]? =some fd)
   (hi:P.info? fd.type=some i) (h0: ¬ i.size=0) (a:Addr) (w:World):(Instr.fieldAt t (.pointer (some a)) f).run P w=.ok (.pointer (some (a.add fd.offset))) w:=by
 simp[Instr.fieldAt,bK hu,hf,gk,fieldPlace,fJ hi,h0]
theorem FU {P:Program}{t e:TypeId}{ti:TypeInfo}(hu:P.underlying t=some (.slice e))(hi:P.info? e=some ti)(a:Addr)(n c:Nat)(k:IntKind)(j:Int)
   (h:0 <=j/\j<(n:Int)) (w:World):(Instr.indexAt t (.slice (some a) n c) (.int k j)).run P w=.ok (.pointer (some (a.add (j.toNat*ti.size)))) w:=by
 simp[Instr.indexAt,nu,bK hu,fJ hi,h]
theorem FT {P:Program}{t e:TypeId}{n:Nat}{ti:TypeInfo}(hu:P.underlying t=some (.array n e))(hi:P.info? e=some ti)(a:Addr)(k:IntKind)(j:Int)
   (h:0 <=j/\j<(n:Int)) (w:World):(Instr.indexAt t (.pointer (some a)) (.int k j)).run P w=.ok (.pointer (some (a.add (j.toNat*ti.size)))) w:=by
 simp[Instr.indexAt,nu,bK hu,fJ hi,gk,h]
theorem Oh {P:Program}{t:TypeId}(hu:P.underlying t=some .string)(s:ByteArray)(k:IntKind)(j:Int)
   (h:0 <=j/\j<((toL s).length:Int)) (w:World):(Instr.index t (.string s) (.int k j)).run P w=.ok (.int .u8 (((toL s)[j.toNat]?.getD 0).toNat:Nat)) w:=by
 have hl:j.toNat<s.size:=by have:=qU s;omega
 have e:s[j.toNat]? =some s[j.toNat]:=ByteArray.getElem?_lt' s _ hl
 have e2:(toL s)[j.toNat]? =some s[j.toNat]:=by
   have:j.toNat<(toL s).length:=by omega
   rw[List.getElem?_eq_getElem this];rfl
 simp[Instr.index,nu,bK hu,h.1,e,e2]
theorem Ha {P:Program}{t:TypeId}{fs:Array Field}{i:TypeInfo}{z:Value}{places:List (Nat×Nat)}{ps:Array (Nat×Value)}{cs:Array Value}
   (hi:P.info? t=some i) (hz:i.zero=some z) (hu:P.underlying t=some (.struct fs)) (hp:fs.toList.mapM (λf=>(P.info? f.type).map λi=>(f.offset,i.size))=some places)
   (hc:Instr.fill (places[·]?) z.cells ps.toList=some cs) (w:World):(Instr.build t ps).run P w=.ok (.agg cs) w:=by
 have hm:∀(l:List Field) (pl:List (Nat×Nat)),l.mapM (λf=>(P.info? f.type).map λi=>(f.offset,i.size))=some pl->
     (l.mapM (λf=>do pure (f.offset,<- sizeOf f.type):Field->Sem (Nat×Nat))).run P w=.ok pl w:=by
   intro l
   induction l with
   | nil=>intro pl h;simp at h;subst h;rfl
   | cons f l ih=>
     intro pl h
     rw[List.mapM_cons]at h
     cases hf:P.info? f.type with
     | none=>simp[hf]at h
     | some i=>
       cases hl:l.mapM (λf=>(P.info? f.type).map λi=>(f.offset,i.size))with
       | none=>simp[hf,hl]at h
       | some pl'=>
         simp[hf,hl]at h;subst h
         rw[List.mapM_cons]
         simp only[Sem.run_bind,fJ hf,Result.andThen_ok,Sem.run_pure,ih _ hl]
 have hm':(fs.mapM (λf=>do pure (f.offset,<- sizeOf f.type):Field->Sem (Nat×Nat))).run P w=.ok places.toArray w:=by
   rw[Array.mapM_eq_mapM_toList,Sem.run_map,hm _ _ hp];rfl
 simp only[Instr.build,zeroValue,Sem.run_bind,jj hi,Result.andThen_ok,hz,Sem.run_pure,bK hu,hm']
 have e:(λx:Nat=>places.toArray[x]?)=(places[·]?):=by funext x;simp
 rw[e,hc]
 rfl
theorem CA {P:Program}{ρ:Operand->Value}{o:Oper}{r:PV}(h:pv P ρ o.op=some r)(hc:r.cond)(w:World):(execOp ρ o).run P w=.ok (.value r.value) w:=by
 unfold execOp
 generalize o.op=op at h
 unfold pv at h
 split at h
 · simp only[Option.some.injEq]at h;subst h;rfl
 · simp only[Option.some.injEq]at h;subst h;rfl
 · rename_i c a b
   split at h
   · rename_i t x y ht hx hy;simp only[Option.some.injEq]at h;subst h
     cases t <;> simp[ht,hx,hy,asBool,PV.value]
   · rename_i t ht _;simp only[Option.some.injEq]at h;subst h
     cases t <;> simp[ht,asBool,PV.value]
   · cases h
 · rename_i op t x y _
   split at h
   · cases h
   obtain⟨h1,h2⟩:=SN h
   refine iO ?_
   rw[Sem.run_bind,h2]
   exact h1.run hc w
 · rename_i op t x
   unfold unV at h
   split at h
   · rename_i hx;simp only[Option.some.injEq]at h;subst h;simp[hx,Op.unary,Op.intArith,PV.value]
   · rename_i hx;simp only[Option.some.injEq]at h;subst h;simp[hx,Op.unary,PV.value]
   · cases h
 · rename_i s d x
   split at h
   · rename_i hs hd hx;simp only[Option.some.injEq]at h;subst h;refine iO ?_;simp[hx,convert,bK hs,bK hd,Conv.intToInt,PV.value]
   · rename_i hs hd hx;simp only[Option.some.injEq]at h;subst h;refine iO ?_;simp[hx,convert,bK hs,bK hd,PV.value]
   · cases h
 · rename_i t i
   split at h
   · rename_i vs hv
     cases hi:vs[i]? with
     | none=>simp[hi]at h
     | some v=>simp[hi]at h;subst h;refine iO ?_;simp[hv,Instr.extract,hi,PV.value]
   · cases h
 · rename_i t x f
   split at h
   · cases h
   split at h
   · rename_i fs cs hu hx
     cases hf:fs[f]? with
     | none=>simp[hf]at h
     | some fd=>
       simp only[hf,Option.bind_some]at h
       cases hp:H7 P fd.type cs fd.offset with
       | none=>simp[hp]at h
       | some v=>simp[hp]at h;subst h;refine iO ?_;simp[hx,Instr.field,bK hu,hf,asAgg,wQ hp,PV.value]
   · cases h
 · rename_i t x f
   split at h
   · rename_i fs a hu hx
     split at h
     · rename_i fd hf
       split at h
       · rename_i i hi
         split at h
         · cases h
         · rename_i h0;simp only[Option.some.injEq]at h;subst h
           cases a with
           | none=>cases hc
           | some a=>refine iO ?_;rw[hx];exact Hw hu hf hi h0 a w
       · cases h
     · cases h
   · cases h
 · rename_i t x i
   split at h
   · rename_i e b n c k j hu hx hj
     split at h
     · rename_i ti hi;simp only[Option.some.injEq]at h;subst h
       cases b with
       | none=>cases hc.2
       | some a=>refine iO ?_;rw[hx,hj];exact FU hu hi a n c k j hc.1 w
     · cases h
   · rename_i n e a k j hu hx hj
     split at h
     · rename_i ti hi;simp only[Option.some.injEq]at h;subst h
       cases a with
       | none=>cases hc.2
       | some a=>refine iO ?_;rw[hx,hj];exact FT hu hi a k j hc.1 w
     · cases h
   · cases h
 · rename_i t x i
   split at h
   · rename_i s k j hu hx hj;simp only[Option.some.injEq]at h;subst h
     refine iO ?_;rw[hx,hj];exact Oh hu s k j hc w
   · cases h
 · rename_i t x lo hi
   refine iO ?_
   exact(O4 h).run hc w
 · rename_i x
   split at h
   · rename_i a hx;simp only[Option.some.injEq]at h;subst h
     cases a with
     | none=>cases hc
     | some a=>simp[hx,PV.value]
   · rename_i hx;simp only[Option.some.injEq]at h;subst h;simp[hx,PV.value]
   · cases h
 · simp only[Option.some.injEq]at h;subst h;rfl
 · rename_i t x
   split at h
   · cases h
   · cases h
   · rename_i d n1 hu
     simp only[Option.some.injEq]at h;subst h
     refine iO ?_
     unfold Instr.makeInterface
     rw[Sem.run_bind,bK hu]
     cases d <;> first|rfl|exact absurd rfl (n1 _)
 · rename_i t parts
   split at h
   · cases h
   split at h
   · rename_i z fs hz hu
     split at h
     · rename_i places hp
       cases hi:P.info? t with
       | none=>simp[hi]at hz
       | some i=>
         simp[hi]at hz
         cases hf:Instr.fill (places[·]?) z.cells (parts.toList.map λp=>(p.1,ρ p.2))with
         | none=>simp[hf]at h
         | some cs=>
           simp[hf]at h;subst h
           refine iO ?_
           exact Ha hi hz hu hp (by simpa using hf) w
     · cases h
   · rename_i z n e hz hu
     split at h
     · rename_i ie hie
       cases hi:P.info? t with
       | none=>simp[hi]at hz
       | some i=>
         simp[hi]at hz
         cases hf:Instr.fill (λj=>some (j*ie.size,ie.size)) z.cells (parts.toList.map λp=>(p.1,ρ p.2))with
         | none=>simp[hf]at h
         | some cs=>
           simp[hf]at h;subst h
           refine iO ?_
           simp only[Instr.build,zeroValue,Sem.run_bind,jj hi,Result.andThen_ok,hz,Sem.run_pure,bK hu,fJ hie]
           have e2:(parts.map λp=>(p.1,ρ p.2)).toList=parts.toList.map λp=>(p.1,ρ p.2):=by simp
           rw[e2,hf];rfl
     · cases h
   · cases h
 · rename_i args argTypes
   split at h
   · rename_i x t hx ht
     have e1:args= #[x]:=by rw[<- Array.toArray_toList (xs:=args),hx]
     have e2:argTypes= #[t]:=by rw[<- Array.toArray_toList (xs:=argTypes),ht]
     subst e1 e2
     simp only[resolve,invoke,builtin,Sem.run_bind,Sem.run_pure,Result.andThen_ok,List.map_toArray,List.map_cons,List.map_nil,(TB h).run hc w]
   · cases h
 · rename_i args argTypes
   split at h
   · rename_i x t hx ht
     have e1:args= #[x]:=by rw[<- Array.toArray_toList (xs:=args),hx]
     have e2:argTypes= #[t]:=by rw[<- Array.toArray_toList (xs:=argTypes),ht]
     subst e1 e2
     simp only[resolve,invoke,builtin,Sem.run_bind,Sem.run_pure,Result.andThen_ok,List.map_toArray,List.map_cons,List.map_nil,(SV h).run hc w]
   · cases h
 · cases h
def Nq (b:Nat):Value:=.pointer (some ⟨b,0,none⟩)
def alV (P:Program)(ρ:Operand->Value)(op:Op):Option (Obj×(Nat->Value)):=
 match op with
 | .alloc e=>match(P.info? e).bind (·.zero)with
   | some z=>some (.cells z.cells e,Nq)
   | none=>none
 | .box e x=>some (.cells (ρ x).cells e,Nq)
 | .buildSlice t len parts=>if V0 P t (parts.toList.map (·.1)) && !parts.isEmpty then none else match P.underlying t with
   | some (.slice e)=>match P.info? e with
     | some i=>match i.zero with
       | some z=>if len*i.size>2 ^ 24 then none else
         match Instr.fill (λj=>some (j*i.size,i.size)) ((Array.range (len*i.size)).map ((if len*i.size=0 then #[]else z.cells)[· % (if len*i.size=0 then #[]else z.cells).size]!)) (parts.toList.map λp=>(p.1,ρ p.2))with
         | some cs=>some (.cells cs e,λb=>.slice (some ⟨b,0,none⟩) len len)
         | none=>none
       | none=>none
     | none=>none
   | _=>none
 | .makeMap _ none=>some (.map #[] 0,λb=>.map (some b))
 | _=>none
theorem M8 {P:Program}{ρ:Operand->Value}{o:Oper}{obj:Obj}{mk:Nat->Value}(h:alV P ρ o.op=some (obj,mk))(w:World):
   (execOp ρ o).run P w=.ok (.value (mk w.heap.size)) (w.alloc obj):=by
 unfold execOp
 generalize o.op=op at h
 unfold alV at h
 split at h
 · rename_i e
   cases hi:P.info? e with
   | none=>simp[hi]at h
   | some i=>
     cases hz:i.zero with
     | none=>simp[hi,hz]at h
     | some z=>
       simp[hi,hz]at h
       obtain⟨rfl,rfl⟩:=h
       refine iO ?_
       simp only[Instr.alloc,zeroValue,Sem.run_bind,jj hi,Result.andThen_ok,hz,Sem.run_pure]
       rfl
 · simp only[Option.some.injEq,Prod.mk.injEq]at h
   obtain⟨rfl,rfl⟩:=h
   rfl
 · rename_i t len parts
   split at h
   · cases h
   split at h
   · rename_i e hu
     split at h
     · rename_i i hi
       split at h
       · rename_i z hz
         split at h
         · cases h
         · rename_i hlen
           split at h
           · rename_i cs hf
             simp only[Option.some.injEq,Prod.mk.injEq]at h
             obtain⟨rfl,rfl⟩:=h
             refine iO ?_
             have e2:(parts.map λp=>(p.1,ρ p.2)).toList=parts.toList.map λp=>(p.1,ρ p.2):=by simp
             simp only[Instr.buildSlice,Sem.run_bind,bK hu,Result.andThen_ok,fJ hi,if_neg hlen]
             by_cases h0:len*i.size=0
             · simp only[h0,if_true]at hf
               simp only[h0,if_true,pure_bind,e2,hf]
               rfl
             · simp only[if_neg h0]at hf
               simp only[if_neg h0,zeroValue,Sem.run_bind,jj hi,hz,Sem.run_pure,Result.andThen_ok,e2,hf]
               rfl
           · cases h
       · cases h
     · cases h
   · cases h
 · simp only[Option.some.injEq,Prod.mk.injEq]at h
   obtain⟨rfl,rfl⟩:=h
   rfl
 · cases h
inductive RW where
 | rd (s:Sem Value)
 | wr (s:Sem Value)
 | st (s:Sem Unit)
def XD (P:Program)(t:TypeId):Bool:=match P.underlying t with|some (.slice _)=>true|_=>false
def Uf (P:Program)(ρ:Operand->Value)(o:Oper):Option RW:=
 match o.op with
 | .load t x=>some (.rd (Instr.loadAt t (ρ x)))
 | .index t x i=>some (.rd (Instr.index t (ρ x) (ρ i)))
 | .lookup t x i ok=>some (.rd (Instr.lookup t (ρ x) (ρ i) ok))
 | .convert s d x=>if XD P d then some (.wr (convert s d (ρ x)))else some (.rd (convert s d (ρ x)))
 | .binOp op t x y _=>some (.rd (do eqGuard op t x y (ρ x) (ρ y);binOp op t (ρ x) (ρ y)))
 | .typeAssert x a b ok=>some (.rd (Instr.typeAssert (ρ x) a b ok))
 | .makeSlice t l c=>some (.wr (Instr.makeSlice t (ρ l) (ρ c)))
 | .range t x=>some (.wr (Instr.range t (ρ x)))
 | .next it b=>some (.wr (Instr.next (ρ it) b o.type))
 | .store t x v=>some (.st (Instr.storeAt t (ρ x) (ρ v)))
 | .mapUpdate t m k v=>some (.st (Instr.mapUpdate t (ρ m) (ρ k) (ρ v)))
 | .insert t m k v=>some (.st (Instr.mapUpdate t (ρ m) (ρ k) (ρ v)))
 | .call { callee:=.builtin .len,args,argTypes } =>some (.rd (Builtin.len_ argTypes o.type (args.map ρ)))
 | .call { callee:=.builtin .min,args,argTypes } =>some (.rd (Builtin.min_ argTypes o.type (args.map ρ)))
 | .call { callee:=.builtin .max,args,argTypes } =>some (.rd (Builtin.max_ argTypes o.type (args.map ρ)))
 | .call { callee:=.builtin .append,args,argTypes } =>some (.wr (Builtin.append_ argTypes o.type (args.map ρ)))
 | .call { callee:=.builtin .copy,args,argTypes } =>some (.wr (Builtin.copy_ argTypes o.type (args.map ρ)))
 | .call { callee:=.builtin .delete,args,argTypes } =>some (.wr (Builtin.delete_ argTypes o.type (args.map ρ)))
 | .call { callee:=.builtin .clear,args,argTypes } =>some (.wr (Builtin.clear_ argTypes o.type (args.map ρ)))
 | .field t x f=>if UN P t=true then some (.rd (Instr.field t (ρ x) f))else none
 | .build t parts=>if V0 P t (parts.toList.map (·.1))=true then some (.rd (Instr.build t (parts.map λp=>(p.1,ρ p.2))))else none
 | .buildSlice t len parts=>if V0 P t (parts.toList.map (·.1)) && !parts.isEmpty then some (.wr (Instr.buildSlice t len (parts.map λp=>(p.1,ρ p.2))))else none
 | .entry it=>some (.rd (Instr.entry (ρ it)))
 | .mapEntry t m k=>some (.wr (Instr.mapEntry t (ρ m) (ρ k)))
 | .entryStore t m k v=>some (.st (Instr.entryStore t (ρ m) (ρ k) (ρ v)))
 | _=>none
def TT (P:Program)(ρ:Operand->Value)(o:Oper):Option (Sem Value):=match o.op with
 | .next it b=>some (Instr.next (ρ it) b o.type)
 | _=>none
def RW.next:RW->Sem Next
 | .rd s=>vN s
 | .wr s=>vN s
 | .st s=>uN s
theorem yI {P:Program}{ρ:Operand->Value}{o:Oper}{r:RW}(h:Uf P ρ o=some r):execOp ρ o=r.next:=by
 unfold Uf at h
 unfold execOp
 split at h
 case h_4=>split at h <;> (simp only[Option.some.injEq]at h;subst h;simp only[*];rfl)
 case h_20=>split at h <;> first|(cases h;done)|(simp only[Option.some.injEq]at h;subst h;simp only[*];rfl)
 case h_21=>split at h <;> first|(cases h;done)|(simp only[Option.some.injEq]at h;subst h;simp only[*];rfl)
 case h_22=>split at h <;> first|(cases h;done)|(simp only[Option.some.injEq]at h;subst h;simp only[*];rfl)
 case h_26=>cases h
 all_goals(simp only[Option.some.injEq]at h;subst h;simp only[*];rfl)
theorem K2 {P:Program}{ρ:Operand->Value}{o:Oper}{s:Sem Value}(h:TT P ρ o=some s):execOp ρ o=vN s:=by
 unfold TT at h
 unfold execOp
 split at h
 · simp only[Option.some.injEq]at h;subst h;simp only[*];rfl
 · cases h
def kW (P:Program)(f:FuncId):Bool:=
 match P.funcs[f]? with
 | some fn=>fn.body.isSome && !(fn.name== "runtime.NumGoroutine")
 | none=>false
def vY (P:Program)(ρ:Operand->Value)(op:Op):Option (FuncId×Array Value):=
 match op with
 | .call { callee:=.value f,args,.. } =>match ρ f with
   | .func (.func f) first captured=>if kW P f then some (f,(first.toList++(args.toList.map ρ++captured.toList)).toArray)else none
   | _=>none
 | _=>none
theorem tN {P:Program}{ρ:Operand->Value}{o:Oper}{f:FuncId}{args:Array Value}(h:vY P ρ o.op=some (f,args))(w:World):
   (execOp ρ o).run P w=.ok (.enter f args) w:=by
 unfold execOp
 generalize o.op=op at h
 unfold vY at h
 split at h
 · rename_i g asv _
   split at h
   · rename_i f' first captured hf
     split at h
     · rename_i hc
       simp only[Option.some.injEq,Prod.mk.injEq]at h
       obtain⟨rfl,rfl⟩:=h
       unfold kW at hc
       split at hc
       · rename_i fn hfn
         simp only[Bool.and_eq_true,Bool.not_eq_true']at hc
         simp only[resolve,hf,Deferred.ofValue,Sem.run_bind,Sem.run_pure,Result.andThen_ok,invoke,callFunc,run_program,hfn,hc.2,Bool.false_eq_true,if_false]
         have:fn.body.isNone=false:=by cases hb:fn.body <;> simp_all
         simp only[this,Bool.false_eq_true,if_false,Sem.run_pure]
         congr 2
         apply Array.ext'
         simp
       · cases hc
     · cases h
   · cases h
 · cases h
def WP (P:Program)(ρ:Operand->Value)(op:Op):Option (FuncId×Value×Option TypeId×List Value):=
 match op with
 | .call { callee:=.invoke r name,args,.. } =>match ρ r with
   | .iface t v=>match P.info? t with
     | some ti=>match ti.methods.toList.find? (λm=>m.name==name)with
       | some m=>match m.path.toList,m.func,P.underlying t,v with
         | [],some (f,true),some (.pointer _),v=>if kW P f then some (f,v,none,args.toList.map ρ)else none
         | [],some (f,false),some (.pointer e),.pointer (some a)=>if kW P f then some (f,.pointer (some a),some e,args.toList.map ρ)else none
         | _,_,_,_=>none
       | none=>none
     | none=>none
   | _=>none
 | _=>none
def Ub (v:Value):Option TypeId->Sem Value
 | none=>pure v
 | some e=>Instr.loadAt e v
theorem Br {P:Program}{f:FuncId}{args:Array Value}(hc:kW P f=true)(w:World):(callFunc f args).run P w=.ok (.enter f args) w:=by
 unfold kW at hc
 split at hc
 · rename_i fn hfn
   simp only[Bool.and_eq_true,Bool.not_eq_true']at hc
   have:fn.body.isNone=false:=by cases hb:fn.body <;> simp_all
   simp only[callFunc,Sem.run_bind,run_program,Result.andThen_ok,hfn,hc.2,Bool.false_eq_true,if_false,this,Sem.run_pure]
 · cases hc
theorem OI (ts:Array TypeId)(t:TypeId)(a:Addr)(x y:String):Builtin.ssaWrapNilChk_ ts t #[.pointer (some a),strVal x,strVal y]=pure (.pointer (some a)):=rfl
theorem EF {P:Program}{t:TypeId}{v:Value}{name:String}{args:Array Value}{f:FuncId}{r:Value}{w:World}(h:(method (P.types.size+Made.depth) t v name).run P w=.ok (f,r) w):
   (invoke (.fn (.method name) #[]) (#[.iface t v]++args)).run P w=(callFunc f (r::args.toList).toArray).run P w:=by
 have h0:(#[Value.iface t v]++args)[0]? =some (.iface t v):=by simp[Array.getElem?_append]
 have h1:(#[Value.iface t v]++args).extract 1 (#[Value.iface t v]++args).size=args:=by
   apply Array.ext'
   simp
 have h2: #[r]++args=(r::args.toList).toArray:=by
   apply Array.ext'
   simp
 unfold invoke
 simp only[h0,h1,callMethod,Sem.run_bind,run_program,Result.andThen_ok,h,h2]
theorem Oj {P:Program}{ρ:Operand->Value}{o:Oper}{f:FuncId}{v x:Value}{e:Option TypeId}{args:List Value}(h:WP P ρ o.op=some (f,v,e,args)){w:World}(hx:(Ub v e).run P w=.ok x w):
   (execOp ρ o).run P w=.ok (.enter f (x::args).toArray) w:=by
 unfold execOp
 generalize o.op=op at h
 unfold WP at h
 split at h
 · rename_i r name asv _
   split at h
   · rename_i t v' hr
     split at h
     · rename_i ti hti
       split at h
       · rename_i m hm
         have hm':ti.methods.find? (λm=>m.name==name)=some m:=by rw[<- Array.find?_toList];exact hm
         have hfuel:∃k,P.types.size+Made.depth=k+1:=⟨P.types.size+(Made.depth-1),by unfold Made.depth;omega⟩
         obtain⟨k,hk⟩:=hfuel
         split at h
         · rename_i n1 n2 hp hf hu
           split at h
           · rename_i hc
             simp only[Option.some.injEq,Prod.mk.injEq]at h
             obtain⟨rfl,rfl,rfl,rfl⟩:=h
             simp only[Ub,Sem.run_pure,Result.ok.injEq,and_true]at hx
             subst hx
             simp only[resolve,hr,Sem.run_bind,Sem.run_pure,Result.andThen_ok]
             rw[EF (f:=n1) (r:=_) (by
               rw[hk]
               simp[method,jj hti,hm',Array.toList_eq_nil_iff.1 hp,hf,follow,receiverAt,bK hu,Place.get];try rfl),Br hc]
             simp
           · cases h
         · rename_i n1 n2 a hp hf hu
           split at h
           · rename_i hc
             simp only[Option.some.injEq,Prod.mk.injEq]at h
             obtain⟨rfl,rfl,rfl,rfl⟩:=h
             have hx:(loadVar n2 a).run P w=.ok x w:=by
               have:=hx
               simpa only[Ub,Instr.loadAt,Instr.sureAddr,Sem.run_bind,Sem.run_pure,Result.andThen_ok]using this
             simp only[resolve,hr,Sem.run_bind,Sem.run_pure,Result.andThen_ok]
             rw[EF (f:=n1) (r:=x) (by
               rw[hk]
               simp[method,jj hti,hm',Array.toList_eq_nil_iff.1 hp,hf,follow,receiverAt,bK hu,Place.get,OI,asAddr,hx]),Br hc]
             simp
           · cases h
         · cases h
       · cases h
     · cases h
   · cases h
 · cases h
def s0V:Value->S0
 | .int k _=>.int k
 | .bool _=>.bool
 | .string _=>.str
 | .slice _ _ _=>.slice
 | .pointer _=>.ptr
 | .map _=>.map
 | _=>.any
def shV:Value->Sh
 | .agg cs=>if Nat.ble 12 cs.size=true then .one .any else .agg (cs.toList.map s0V)
 | v=>.one (s0V v)
def shT (P:Program)(t:TypeId):List Sh:=
 match(P.info? t).bind (·.zero)with
 | some (.tuple vs)=>vs.toList.map shV
 | some v=>[shV v]
 | none=>[.one .any]
abbrev Fr:=List (Nat×Value)
def ij:Fr->Nat->Value
 | [],_=>undef
 | (k,v)::r,t=>bif Nat.beq k t then v else ij r t
def jf (n:Nat)(fr:Fr)(d:Option Tmp)(v:Value):Fr:=match d with
 | none=>fr
 | some t=>bif Nat.ble (t+1) n then(t,v)::fr else fr
def evF (fr:Fr):Operand->Value
 | .tmp t=>ij fr t
 | .const v=>v
 | .global g=>.pointer (some ⟨g,0,none⟩)
 | .func f=>.func (.func f) #[] #[]
structure Rep (n:Nat)(fr:Fr)(a:Act):Prop where
 size:a.tmps.size=n
 get:∀t,a.tmps.getD t undef=ij fr t
theorem Rep.eval {n:Nat}{fr:Fr}{a:Act}(h:Rep n fr a):a.eval=evF fr:=by
 funext x
 cases x <;> first|rfl|exact h.get _
theorem Rep.put {n:Nat}{fr:Fr}{a:Act}(h:Rep n fr a)(d:Option Tmp)(v:Value):Rep n (jf n fr d v) (a.put d v):=by
 cases d with
 | none=>exact h
 | some t=>
   refine⟨by simp[Act.put,h.size],λi=>?_⟩
   have hg:=h.get i
   have hs:=h.size
   simp only[Act.put,jf]
   cases hb:Nat.ble (t+1) n with
   | true=>
     have hlt:t<a.tmps.size:=by have h1:t+1 <=n:=Nat.le_of_ble_eq_true hb;rw[hs];exact h1
     simp only[cond_true,ij]
     by_cases e:t=i
     · subst e
       simp[hlt]
     · have hne:Nat.beq t i=false:=by cases hb:Nat.beq t i <;> first|rfl|exact absurd (Nat.eq_of_beq_eq_true hb) e
       rw[hne,cond_false,<- hg]
       simp[Array.getD_eq_getD_getElem?,Array.getElem?_setIfInBounds_ne e]
   | false=>
     have hlt: ¬ t<a.tmps.size:=by
       intro hlt
       have:Nat.ble (t+1) n=true:=Nat.ble_eq_true_of_le (by rw[hs]at hlt;exact hlt)
       rw[this]at hb;cases hb
     simp only[cond_false]
     rw[<- hg]
     have:a.tmps.setIfInBounds t v=a.tmps:=by
       simp[Array.setIfInBounds,hlt]
     rw[this]
def XF:Op->Nat
 | .binOp .quo .. =>2
 | .binOp .rem .. =>2
 | .binOp .. =>1
 | .slice .. =>1
 | _=>0
def nmK (op:Op)(v:Value)(K:Value->Prop):Prop:=match XF op,v with
 | 1,.string s=>∀l:List UInt8,l=toL s->K (.string (mkS l))
 | 2,.int k n=>∀m:Int,m=n->K (.int k m)
 | _,v=>K v
theorem sC {op:Op}{v:Value}{K:Value->Prop}(h:nmK op v K):K v:=by
 unfold nmK at h
 split at h
 · exact h _ rfl
 · exact h _ rfl
 · exact h
def Wj (P:Program)(o:Oper):List Sh:=match o.op with
 | .range .. =>[.one .ptr]
 | .entry _=>[.one .any,.one .any]
 | .mapEntry .. =>[.one .any,.one (.int .i64)]
 | _=>shT P o.type
def WOp (P:Program)(n:Nat)(o:Oper)(a:Fr)(K:Fr->World->Prop)(w:World):Prop:=
 match pv P (evF a) o.op with
 | some (.val v)=>nmK o.op v λv=>K (jf n a o.dst v) w
 | some (.part c v)=>c/\nmK o.op v λv=>K (jf n a o.dst v) w
 | none=>match alV P (evF a) o.op with
   | some (obj,mk)=>∀(b:Nat) (w':World),b=w.heap.size->w'=w.alloc obj->K (jf n a o.dst (mk b)) w'
   | none=>match TT P (evF a) o with
    | some s=>(∃w':World,s.run P w=.ok (.tuple #[.bool false]) w'/\K (jf n a o.dst (.tuple #[.bool false])) w')\/(∃(w':World) (k v:Value),s.run P w=.ok (.tuple #[.bool true,k,v]) w'/\K (jf n a o.dst (.tuple #[.bool true,k,v])) w')
    | none=>match Uf P (evF a) o with
     | some (.rd s)=>exR (Wj P o) λv=>s.run P w=.ok v w/\K (jf n a o.dst v) w
     | some (.wr s)=>∃w':World,exR (Wj P o) λv=>s.run P w=.ok v w'/\K (jf n a o.dst v) w'
     | some (.st s)=>∃w':World,s.run P w=.ok () w'/\K (jf n a o.dst undef) w'
     | none=>match vY P (evF a) o.op with
       | some (f,args)=>Calls P f args w λe w'=>exR (shT P o.type) λv=>e=.returned v/\K (jf n a o.dst v) w'
       | none=>match WP P (evF a) o.op with
         | some (f,x,none,args)=>Calls P f (x::args).toArray w λe w'=>exR (shT P o.type) λv=>e=.returned v/\K (jf n a o.dst v) w'
         | some (f,p,some t,args)=>exR (shT P t) λx=>(Instr.loadAt t p).run P w=.ok x w/\Calls P f (x::args).toArray w λe w'=>exR (shT P o.type) λv=>e=.returned v/\K (jf n a o.dst v) w'
         | none=>False
theorem G1 {P:Program}{n:Nat}{o:Oper}{fr:Fr}{a:Act}{K:Fr->World->Prop}{K':Act->World->Prop}{Q:Exit->Act->World->Prop}{w:World}(hr:Rep n fr a)(h:WOp P n o fr K w)
   (hk:∀v w',K (jf n fr o.dst v) w'->K' (a.put o.dst v) w'):o.wp P a w K' Q:=by
 unfold WOp at h
 rw[<- hr.eval]at h
 unfold Oper.wp
 split at h
 · rename_i v hp;rw[CA hp trivial];exact hk _ _ (sC h)
 · rename_i c v hp;rw[CA hp h.1];exact hk _ _ (sC h.2)
 · split at h
   · rename_i obj mk hm;rw[M8 hm];exact hk _ _ (h _ _ rfl rfl)
   · split at h
     · rename_i s hs
       rcases h with⟨w',hv,h⟩|⟨w',k,v,hv,h⟩
       · rw[K2 hs,iO hv];exact hk _ _ h
       · rw[K2 hs,iO hv];exact hk _ _ h
     · split at h
       · rename_i s hs;obtain⟨v,hv,h⟩:=kF h;rw[yI hs,RW.next,iO hv];exact hk _ _ h
       · rename_i s hs;obtain⟨w',h⟩:=h;obtain⟨v,hv,h⟩:=kF h;rw[yI hs,RW.next,iO hv];exact hk _ _ h
       · rename_i s hs;obtain⟨w',hv,h⟩:=h;rw[yI hs,RW.next,VJ hv];exact hk _ _ h
       · split at h
         · rename_i f args hc
           rw[tN hc]
           exact h.mono λe w' he=>by
             obtain⟨v,hv,h⟩:=kF he
             subst hv
             exact hk _ _ h
         · split at h
           · rename_i f x args hc
             rw[Oj hc (x:=x) rfl]
             exact h.mono λe w' he=>by
               obtain⟨v,hv,h⟩:=kF he
               subst hv
               exact hk _ _ h
           · rename_i f p t args hc
             obtain⟨x,hx,h⟩:=kF h
             rw[Oj hc (x:=x) hx]
             exact h.mono λe w' he=>by
               obtain⟨v,hv,h⟩:=kF he
               subst hv
               exact hk _ _ h
           · cases h
def ae (b:Bool)(X Y:Prop):Prop:=match b with|true=>X|false=>Y
theorem ae.of {b:Bool}{X Y:Prop}(hx:b=true->X)(hy:b=false->Y):ae b X Y:=by
 cases b
 · exact hy rfl
 · exact hx rfl
theorem ae.yes {b:Bool}{X Y:Prop}(hb:b=true)(hx:X):ae b X Y:=by subst hb;exact hx
theorem ae.no {b:Bool}{X Y:Prop}(hb:b=false)(hy:Y):ae b X Y:=by subst hb;exact hy
theorem Rep.again {n:Nat}{fr:Fr}{a:Act}(h:Rep n fr a){t:Tmp}{v:Value}(hv:ij fr t=v):Rep n (jf n fr (some t) v) a:=by
 refine⟨h.size,λi=>?_⟩
 rw[h.get i]
 simp only[jf]
 cases hb:Nat.ble (t+1) n with
 | false=>rfl
 | true=>
   simp only[cond_true,ij]
   cases he:Nat.beq t i with
   | false=>rfl
   | true=>rw[<- Nat.eq_of_beq_eq_true he];exact hv
def WG (n:Nat)(ops:Array Oper)(g:Option (Nat×Bool))(a:Fr)(yes no:Fr->Prop):Prop:=
 match g with
 | none=>yes a
 | some (j,want)=>match(ops[j]?).bind (·.dst)with
   | none=>no a
   | some t=>match ij a t with
     | .bool b=>
       ae b (match want with|true=>yes (jf n a (some t) (.bool true))|false=>no (jf n a (some t) (.bool true)))
         (match want with|true=>no (jf n a (some t) (.bool false))|false=>yes (jf n a (some t) (.bool false)))
     | _=>no a
theorem GZ {n:Nat}{ops:Array Oper}{o:Oper}{fr:Fr}{a:Act}{yes no:Fr->Prop}(hr:Rep n fr a)(h:WG n ops o.guard fr yes no):
   ∃fr',Rep n fr' a/\((Region.wanted o (yielded ops a.tmps)=true/\yes fr')\/(Region.wanted o (yielded ops a.tmps)=false/\no fr')):=by
 unfold WG at h
 unfold Region.wanted yielded
 split at h
 · rename_i hg;rw[hg];exact⟨fr,hr,.inl ⟨rfl,h⟩⟩
 · rename_i j want hg
   rw[hg]
   simp only
   split at h
   · rename_i hd;rw[hd];exact⟨fr,hr,.inr ⟨rfl,h⟩⟩
   · rename_i t hd
     rw[hd]
     simp only[Option.bind_some]
     have hget:=hr.get t
     split at h
     · rename_i b hb
       rw[hb]at hget
       have hs:a.tmps[t]? =some (.bool b):=by
         rw[Array.getD_eq_getD_getElem?]at hget
         cases ha:a.tmps[t]? with
         | none=>rw[ha]at hget;simp[undef]at hget
         | some v=>rw[ha]at hget;simp at hget;rw[hget]
       rw[hs]
       refine⟨_,hr.again hb,?_⟩
       cases b <;> cases want <;> simp[ae]at h <;> simp[h]
     · rename_i n1
       refine⟨fr,hr,.inr ⟨?_,h⟩⟩
       split
       · rename_i b hb
         rw[Array.getD_eq_getD_getElem?,hb]at hget
         exact absurd hget.symm (n1 b)
       · rfl
def zc (l:List Oper):List Tmp:=l.filterMap (·.dst)
structure cG (S:List Tmp)(a a':Act):Prop where
 tmps:∀i,i ∉ S->a'.tmps.getD i undef=a.tmps.getD i undef
 defers:a'.defers=a.defers
theorem cG.refl (S:List Tmp)(a:Act):cG S a a:=⟨λ_ _=>rfl,rfl⟩
theorem cG.mono {S S':List Tmp}{a a':Act}(h:cG S a a')(hs:∀t,t∈S->t∈S'):cG S' a a':=
 ⟨λi hi=>h.tmps i λhm=>hi (hs i hm),h.defers⟩
theorem cG.trans {S:List Tmp}{a b c:Act}(h:cG S a b)(k:cG S b c):cG S a c:=
 ⟨λi hi=>(k.tmps i hi).trans (h.tmps i hi),k.defers.trans h.defers⟩
theorem cG.put {S:List Tmp}(a:Act)(d:Option Tmp)(v:Value)(h:∀t,d=some t->t∈S):cG S a (a.put d v):=by
 cases d with
 | none=>exact cG.refl _ _
 | some t=>
   refine⟨λi hi=>?_,rfl⟩
   have:t≠i:=λe=>hi (e▸h t rfl)
   simp[Act.put,Array.getD_eq_getD_getElem?,Array.getElem?_setIfInBounds_ne this]
def WO (P:Program)(n:Nat)(ops:Array Oper):List Oper->(Fr->World->Prop)->Fr->World->Prop
 | [],K,a,w=>K a w
 | o::rest,K,a,w=>WG n ops o.guard a (λa=>WOp P n o a (WO P n ops rest K) w) (λa=>WO P n ops rest K (jf n a o.dst undef) w)
theorem nU {o:Oper}{rest:List Oper} :∀t,t∈zc rest->t∈zc (o::rest):=by
 intro t ht
 simp only[zc,List.mem_filterMap]at ht ⊢
 obtain⟨x,hx,e⟩:=ht
 exact⟨x,List.mem_cons_of_mem _ hx,e⟩
theorem lj {o:Oper}{rest:List Oper} :∀t,o.dst=some t->t∈zc (o::rest):=by
 intro t ht
 simp only[zc,List.mem_filterMap]
 exact⟨o,List.mem_cons_self,ht⟩
theorem PR {P:Program}{n:Nat}{ops:Array Oper}{Q:Exit->Act->World->Prop} :∀{l:List Oper} {K:Fr->World->Prop} {fr:Fr} {a:Act} {w:World},Rep n fr a->WO P n ops l K fr w->
   (∀fr' a' w',Rep n fr' a'->cG (zc l) a a'->K fr' w'->Q .normal a' w')->wpList P ops Q l a w
 | [],K,fr,a,w,hr,h,hk=>hk _ _ _ hr (cG.refl _ _) h
 | o::rest,K,fr,a,w,hr,h,hk=>by
   unfold wpList
   obtain⟨fr',hr',⟨hw,h⟩|⟨hw,h⟩⟩:=GZ hr h
   · rw[if_pos hw]
     exact .inl (G1 hr' h λv w' h'=>PR (hr'.put o.dst v) h' λf' a' w'' hf ha hk'=>hk f' a' w'' hf ((cG.put a o.dst v lj).trans (ha.mono nU)) hk')
   · rw[if_neg (by simp[hw])]
     exact PR (hr'.put o.dst _) h λf' a' w'' hf ha hk'=>hk f' a' w'' hf ((cG.put a o.dst _ lj).trans (ha.mono nU)) hk'
def We (ops:Array Oper):List Oper->Nat->Bool
 | [],_=>true
 | o::l,k=>(o.after.toList.all λe=> !Region.binds .any e || Nat.blt e.on k)&&((l.all λoj=>(oj.after.toList.any λe=>Region.binds .any e&&Nat.beq e.on k) || o.apart ops oj)&&We ops l (k+1))
def WY (ops:Array Oper):Bool:=Region.noSelect ops&&We ops ops.toList 0
theorem HY {ops:Array Oper} :∀(l:List Oper) (k:Nat) (listed:Array Bool),(∀j,l[j]? =ops[k+j]?)->k+l.length=ops.size->(∀j d,j<ops.size->listed.getD j d=decide (j<k))->listed.size=ops.size->We ops l k=true->
   Region.lexFrom .any ops l.length k listed=true
 | [],k,listed,hl,hk,hg,hs,_=>by
   simp only[List.length_nil,Region.lexFrom,List.isEmpty_iff]
   unfold Region.ready
   rw[List.filter_eq_nil_iff]
   intro i hi
   rw[List.mem_range]at hi
   simp only[List.length_nil]at hk
   rw[hg i true hi,decide_eq_true (by omega)]
   simp
 | o::l,k,listed,hl,hk,hg,hs,h=>by
   unfold We at h
   simp only[Bool.and_eq_true,List.all_eq_true]at h
   obtain⟨h1,h2,h3⟩:=h
   have h0:ops[k]? =some o:=by simpa using(hl 0).symm
   simp only[List.length_cons]at hk
   have hkn:k<ops.size:=by omega
   simp only[List.length_cons,Region.lexFrom,Bool.and_eq_true]
   refine⟨⟨?_,?_⟩,?_⟩
   · rw[List.contains_iff_mem,mem_ready]
     refine⟨by rw[hg k true hkn];simp,o,h0,λe he hb=>?_⟩
     have:=h1 e (by simpa using he)
     rw[hb,Bool.not_true,Bool.false_or,Nat.blt_eq]at this
     rw[hg e.on false (by omega)]
     exact decide_eq_true this
   · unfold Region.free
     rw[h0]
     simp only[List.all_eq_true,List.mem_range]
     intro j hj
     rcases Nat.lt_trichotomy j k with hjk|hjk|hjk
     · rw[hg j true hj,decide_eq_true hjk];simp
     · subst hjk;simp
     · have e:l[j-k-1]? =ops[j]? :=by
         have:=hl (j-k)
         rw[show j-k=(j-k-1)+1 by omega,List.getElem?_cons_succ]at this
         rw[this];congr 1;omega
       cases hoj:ops[j]? with
       | none=>simp
       | some oj=>
         rw[hoj]at e
         have:=h2 oj (List.mem_of_getElem? e)
         simp only[Bool.or_eq_true,List.any_eq_true,Bool.and_eq_true]at this
         simp only[Bool.or_eq_true]
         right
         rcases this with⟨e',he',hb,hon⟩|h4
         · left
           rw[Array.any_eq_true']
           exact⟨e',by simpa using he',by simp[hb,Nat.eq_of_beq_eq_true hon]⟩
         · exact .inr h4
   · refine HY l (k+1) _ (λj=>?_) (by omega) (λj d hj=>?_) (by simpa using hs) h3
     · have:=hl (j+1)
       rw[List.getElem?_cons_succ]at this
       rw[this];congr 1;omega
     · by_cases e:k=j
       · subst e
         simp[hs,hkn]
       · rw[getD_set_ne d e,hg j d hj]
         congr 1
         rw[eq_iff_iff]
         omega
theorem TE {ops:Array Oper}(h:WY ops=true):Region.lexB .any ops=true:=by
 unfold WY at h
 rw[Bool.and_eq_true]at h
 unfold Region.lexB
 rw[Bool.and_eq_true]
 refine⟨h.1,?_⟩
 have:=HY (ops:=ops) ops.toList 0 (Array.replicate ops.size false) (λj=>by simp) (by simp) (λj d hj=>by simp[hj]) (by simp) h.2
 simpa using this
def Wp (P:Program)(n:Nat)(w0:World)(o:Oper)(a:Fr)(K:Fr->Prop):Prop:=
 match pv P (evF a) o.op with
 | some (.val v)=>nmK o.op v λv=>K (jf n a o.dst v)
 | some (.part c v)=>c/\nmK o.op v λv=>K (jf n a o.dst v)
 | none=>match Uf P (evF a) o with
   | some (.rd s)=>exR (shT P o.type) λv=>(∀w1,Below w0.heap.size w0 w1->s.run P w1=.ok v w1)/\K (jf n a o.dst v)
   | some _=>False
   | none=>match vY P (evF a) o.op with
     | some (f,args)=>exR (shT P o.type) λv=>(∀w1,Below w0.heap.size w0 w1->Calls P f args w1 λe w2=>e=.returned v/\Below w0.heap.size w1 w2)/\K (jf n a o.dst v)
     | none=>False
theorem SB {P:Program}{n:Nat}{w0:World}{o:Oper}{fr:Fr}{a:Act}{K:Fr->Prop}{K':Act->Prop}(hr:Rep n fr a)(h:Wp P n w0 o fr K)(hk:∀v,K (jf n fr o.dst v)->K' (a.put o.dst v)):
   o.quiet P a (Below w0.heap.size w0) K':=by
 unfold Wp at h
 rw[<- hr.eval]at h
 unfold Oper.quiet Oper.quietAt
 split at h
 · rename_i v hp;exact⟨v,λw _=>by rw[CA hp trivial];exact⟨rfl,rfl⟩,hk _ (sC h)⟩
 · rename_i c v hp;exact⟨v,λw _=>by rw[CA hp h.1];exact⟨rfl,rfl⟩,hk _ (sC h.2)⟩
 · split at h
   · rename_i s hs;obtain⟨v,hv,h⟩:=kF h
     exact⟨v,λw hw=>by rw[yI hs,RW.next,iO (hv w hw)];exact⟨rfl,rfl⟩,hk _ h⟩
   · cases h
   · split at h
     · rename_i f args hc
       obtain⟨v,hv,h⟩:=kF h
       exact⟨v,λw hw=>by rw[tN hc];exact⟨rfl,(hv w hw).mono λe w2 he=>⟨he.1,hw.trans he.2⟩⟩,hk _ h⟩
     · cases h
def WQ (P:Program)(n:Nat)(w0:World)(ops:Array Oper):List Oper->(Fr->Prop)->Fr->Prop
 | [],K,a=>K a
 | o::rest,K,a=>WG n ops o.guard a (λa=>Wp P n w0 o a (WQ P n w0 ops rest K)) (λa=>WQ P n w0 ops rest K (jf n a o.dst undef))
theorem PT {P:Program}{n:Nat}{w0:World}{ops:Array Oper}{Q:Act->Prop} :∀{l:List Oper} {K:Fr->Prop} {fr:Fr} {a:Act},Rep n fr a->WQ P n w0 ops l K fr->
   (∀fr' a',Rep n fr' a'->cG (zc l) a a'->K fr'->Q a')->wpQuiet P ops (Below w0.heap.size w0) Q l a
 | [],K,fr,a,hr,h,hk=>hk _ _ hr (cG.refl _ _) h
 | o::rest,K,fr,a,hr,h,hk=>by
   unfold wpQuiet
   obtain⟨fr',hr',⟨hw,h⟩|⟨hw,h⟩⟩:=GZ hr h
   · rw[if_pos hw]
     exact SB hr' h λv h'=>PT (hr'.put o.dst v) h' λf' a' hf ha hk'=>hk f' a' hf ((cG.put a o.dst v lj).trans (ha.mono nU)) hk'
   · rw[if_neg (by simp[hw])]
     exact PT (hr'.put o.dst _) h λf' a' hf ha hk'=>hk f' a' hf ((cG.put a o.dst _ lj).trans (ha.mono nU)) hk'
section
variable {P:Program} {ops:Array Oper} {md:Region.Mode} {C:World->Prop}
def Dk (P:Program)(md:Region.Mode)(ops:Array Oper)(C:World->Prop)(n:Nat)(L:Array Bool->Act->Prop):Nat->Array Bool->Act->Prop
 | 0,listed,a=>L listed a
 | f+1,listed,a=>Region.ready md ops listed≠[]/\∀i∈Region.ready md ops listed,i<n/\qOp P ops C i (Dk P md ops C n L f (listed.setIfInBounds i true)) a
theorem uZ {n g:Nat}{L:Array Bool->Act->Prop}{Q':Exit->Act->World->Prop}(hL:∀listed a w,C w->L listed a->wpAny P md ops Q' g listed a w):
   ∀(f:Nat) (listed:Array Bool) (a:Act) (w:World),C w->Dk P md ops C n L f listed a->wpAny P md ops Q' (f+g) listed a w
 | 0,listed,a,w,hw,h=>by rw[Nat.zero_add];exact hL _ _ _ hw h
 | f+1,listed,a,w,hw,h=>by
   rw[show f+1+g=(f+g)+1 by omega]
   exact⟨λh0=>absurd h0 h.1,λi hi=>wpOp_of_qOp hw (λa' w' hw' h'=>uZ hL f _ a' w' hw' h') (h.2 i hi).2⟩
theorem GQ {n i:Nat}{oi:Oper}{v:Value}{L:Array Bool->Act->Prop}(hi:ops[i]? =some oi)(hsel:∀(j:Nat) (o:Oper) cs b,ops[j]? =some o->o.op≠.select cs b)
   (hs:Region.sinkB md ops n=true) (hc:Region.chainB md ops n=true) (hn:n<ops.size) (hin:i<n)
   (hdone:∀listed a,L listed a->∀j∈Region.ready md ops listed,n <=j):
   ∀(f:Nat) (listed:Array Bool) (a:Act),HeadInv md ops n listed->
     (∀j oj,ops[j]? =some oj->j≠i->listed.getD j true=false->(∀e∈oj.after,Region.binds md e=true->e.on≠i)->oi.apart ops oj=true)->
     i∈Region.ready md ops listed->YieldsIn P ops C oi v a->
     Dk P md ops C n L f (listed.setIfInBounds i true) (a.put oi.dst v)->Dk P md ops C n L (f+1) listed a:=by
 intro f
 induction f with
 | zero=>
   intro listed a inv _ hr hy H
   have hun:=(mem_ready.1 hr).1
   refine⟨λh=>(by rw[h]at hr;cases hr),λj hj=>?_⟩
   have hjn:j<n:=by
     rcases Nat.lt_or_ge j n with h|h
     · exact h
     · exact absurd hj (tail_waits hs hc hn inv _ i rfl hin hun j h)
   refine⟨hjn,?_⟩
   by_cases hji:j=i
   · subst hji;exact hy.qOp hi H
   · have:=hdone _ _ H j (ready_mono hj hji)
     omega
 | succ f ih=>
   intro listed a inv hfree hr hy H
   have hun:=(mem_ready.1 hr).1
   refine⟨λh=>(by rw[h]at hr;cases hr),λj hj=>?_⟩
   have hjn:j<n:=by
     rcases Nat.lt_or_ge j n with h|h
     · exact h
     · exact absurd hj (tail_waits hs hc hn inv _ i rfl hin hun j h)
   refine⟨hjn,?_⟩
   by_cases hji:j=i
   · subst hji;exact hy.qOp hi H
   · have h1:=(H.2 j (ready_mono hj hji)).2
     obtain⟨hjun,oj,hoj,hall⟩:=mem_ready.1 hj
     have hnot:∀e∈oj.after,Region.binds md e=true->e.on≠i:=λe he hb heq=>by
       have h1:=hall e he hb
       rw[heq,getD_both hun]at h1
       cases h1
     have h2:=qOp_put hoj (hfree j oj hoj hji hjun hnot) (λcs b=>hsel i oi cs b hi) (λcs b=>hsel j oj cs b hoj) hy h1
     have hfree':∀k ok,ops[k]? =some ok->k≠i->(listed.setIfInBounds j true).getD k true=false->
         (∀e∈ok.after,Region.binds md e=true->e.on≠i)->oi.apart ops ok=true:=λk ok hk hki hun hno=>by
       refine hfree k ok hk hki ?_ hno
       by_cases hjk:j=k
       · subst hjk;exact hjun
       · rw[getD_set_ne true hjk]at hun;exact hun
     refine qOp_mono (λa' h3=>ih (listed.setIfInBounds j true) a' (inv.set hj hjn) hfree' (ready_mono hr (Ne.symm hji)) h3.1 ?_) h2
     rw[Array.setIfInBounds_comm _ _ hji]
     exact h3.2
theorem Dl {n g:Nat}{Lq:Act->Prop}(hsel:Region.noSelect ops=true)(hs:Region.sinkB md ops n=true)(hc:Region.chainB md ops n=true)(hn:n<ops.size):
   ∀(l:List Oper) (k:Nat) (listed:Array Bool) (a:Act),(∀j,j<l.length->l[j]? =ops[k+j]?)->k+l.length=n->HeadInv md ops n listed->
   Region.lexHead md ops g l.length k listed=true->wpQuiet P ops C Lq l a->
   Dk P md ops C n (λlisted' a'=>Region.seqB md ops g n listed'=true/\Lq a') l.length listed a
 | [],k,listed,a,_,hk,_,hB,h=>by
   have:k=n:=by simpa using hk
   subst this
   exact⟨by simpa[Region.lexHead]using hB,h⟩
 | o::l,k,listed,a,hl,hk,inv,hB,h=>by
   have h0:ops[k]? =some o:=by simpa using(hl 0 (by simp)).symm
   simp only[List.length_cons,Region.lexHead,Bool.and_eq_true]at hB
   obtain⟨⟨hr,hf⟩,hB'⟩:=hB
   have hkn:k<n:=by simp only[List.length_cons]at hk;omega
   have hr':k∈Region.ready md ops listed:=by simpa using hr
   have hst:qOp P ops C k (wpQuiet P ops C Lq l) a:=by unfold qOp;simp only[h0];exact h
   obtain⟨v,hy,hK⟩:=yieldsIn_of_qOp h0 hst
   exact GQ h0 (Region.noSelect_spec hsel) hs hc hn hkn (λlisted' a' hL=>seqB_ready hL.1) l.length listed a inv (Region.free_spec h0 hf) hr' hy
     (Dl hsel hs hc hn l (k+1) _ _ (λj hj=>by have:=hl (j+1) (by simp;omega);simpa[Nat.add_assoc,Nat.add_comm 1 j]using this) (by simp only[List.length_cons]at hk;omega) (inv.set hr' hkn) hB' hK)
theorem uo {id:Nat}{Q:Exit->Act->World->Prop}{a:Act}{w:World}(n:Nat)(hm:P.follows .mixedOrders=true)(hB:Region.lexTailB .any ops n=true)(hC:C { w with drawn:=w.drawn+1 })
   (h:wpQuiet P ops C (λa'=>∀w',C w'->wpList P ops Q (ops.toList.drop n) a' w') (ops.toList.take n) a):(Code.region id ops true).wp P Q a w:=by
 simp only[Region.lexTailB,Bool.and_eq_true,dTx]at hB
 obtain⟨⟨⟨⟨hsel,hn⟩,hs⟩,hc⟩,hlex⟩:=hB
 have htl:(ops.toList.take n).length=n:=by simp;omega
 have hdl:(ops.toList.drop n).length=ops.size-n:=by simp
 have inv0:HeadInv .any ops n (Array.replicate ops.size false):=
   ⟨by simp,λj oj _ hl=>(by rw[getD_replicate_false]at hl;cases hl),λt _ ht=>getD_in (by simpa using ht) (getD_replicate_false _ _)⟩
 have H:=Dl (C:=C) (md:=.any) (g:=ops.size-n) hsel hs hc hn (ops.toList.take n) 0 _ a (λj hj=>by
   have hj':j<n:=by rw[htl]at hj;exact hj
   simp[hj']) (by simpa using htl) inv0 (by rw[htl];exact hlex) h
 refine wp_region_any hm ?_
 have:=uZ (Q':=Q) (g:=ops.size-n) (λlisted a' w' hw' hL=>by
   have:=wpAny_of_seq (md:=.any) (Q':=Q) (ops.toList.drop n) n listed a' w' (λj=>by simp[List.getElem?_drop]) (by rw[hdl];exact hL.1) (hL.2 w' hw')
   rwa [hdl]at this) _ _ _ _ hC H
 rw[htl,show n+(ops.size-n)=ops.size by omega]at this
 exact this
end
inductive Fa where
 | al (i k:Nat) (o:Obj)
 | rl (i:Nat) (φ:World->Prop)
abbrev Al:=List Fa
def Fa.tag:Fa->Nat
 | .al i _ _=>i
 | .rl i _=>i
def Fa.at:Fa->World->Prop
 | .al _ k o,w=>w.heap[k]? =some o
 | .rl _ φ,w=>φ w
def Fa.new:Fa->Nat->Prop
 | .al _ k' _,k=>k≠k'
 | .rl _ _,_=>True
def Fa.firm:Fa->Prop
 | .al _ _ _=>True
 | .rl _ φ=>∀u u':World,φ u->Below u.heap.size u u'->φ u'
def Q5:Al->Nat->Prop->Prop
 | [],_,X=>X
 | .al _ k' _::r,k,X=>k≠k'->Q5 r k X
 | .rl _ _::r,k,X=>Q5 r k X
def zd:Al->World->Prop->Prop
 | [],_,X=>X
 | .al _ k o::r,w,X=>w.heap[k]? =some o->zd r w X
 | .rl _ φ::r,w,X=>φ w->zd r w X
theorem F4 {X:Prop} :∀{al:Al} {k:Nat},Q5 al k X->(∀p∈al,p.new k)->X
 | [],_,h,_=>h
 | .al _ _ _::_,_,h,hk=>F4 (h (hk _ List.mem_cons_self)) λq hq=>hk q (List.mem_cons_of_mem _ hq)
 | .rl _ _::r,_,h,hk=>F4 (al:=r) h λq hq=>hk q (List.mem_cons_of_mem _ hq)
theorem nh {X:Prop} :∀{al:Al} {w:World},zd al w X->(∀p∈al,p.at w)->X
 | [],_,h,_=>h
 | .al _ _ _::_,_,h,hk=>nh (h (hk _ List.mem_cons_self)) λq hq=>hk q (List.mem_cons_of_mem _ hq)
 | .rl _ _::_,_,h,hk=>nh (h (hk _ List.mem_cons_self)) λq hq=>hk q (List.mem_cons_of_mem _ hq)
def Xq:Op->Bool
 | .alloc _|.box _ _|.buildSlice _ _ _|.makeMap _ _=>true
 | _=>false
theorem PW {P:Program}{ρ:Operand->Value}{op:Op}{r:Obj×(Nat->Value)}(h:alV P ρ op=some r):Xq op=true:=by
 unfold alV at h
 split at h <;> first|rfl|cases h
theorem M7 {P:Program}{ρ ρ':Operand->Value}{op:Op}(h:∀x∈op.operands,ρ x=ρ' x):alV P ρ op=alV P ρ' op:=by
 cases op <;> simp only[Op.operands]at h <;> try rfl
 case box e x=>simp only[alV];rw[h x (by simp)]
 case makeMap t r=>cases r <;> rfl
 case buildSlice t n ps=>
   have e:(ps.toList.map λp=>(p.1,ρ p.2))=ps.toList.map λp=>(p.1,ρ' p.2):=
     List.map_congr_left λp hp=>by rw[h p.2 (List.mem_toArray.2 (List.mem_map.2 ⟨p,hp,rfl⟩))]
   simp only[alV]
   rw[e]
theorem Jq {P:Program}{ρ ρ':Operand->Value}{op:Op}(h:∀x∈op.operands,ρ x=ρ' x):vY P ρ op=vY P ρ' op:=by
 cases op <;> simp only[Op.operands]at h <;> try rfl
 case call c=>
   simp only[vY]
   obtain⟨callee,args,argTypes⟩:=c
   cases callee with
   | value f=>
     have hf:ρ f=ρ' f:=h f (by simp[Call.operands])
     have ha:args.toList.map ρ=args.toList.map ρ':=List.map_congr_left λx hx=>h x (by simp[Call.operands];right;simpa using hx)
     simp only[hf,ha]
   | _=>rfl
section
variable {P:Program} {ops:Array Oper} {md:Region.Mode} {w0:World}
def Be (w0:World)(al:Al)(w:World):Prop:=Below w0.heap.size w0 w/\∀p∈al,p.firm/\p.at w
theorem Fa.keep {p:Fa}{w w':World}(hf:p.firm)(h:p.at w)(hb:Below w.heap.size w w'):p.at w':=by
 cases p with
 | al i k o=>
   have hlt:k<w.heap.size:=by
     rcases Nat.lt_or_ge k w.heap.size with h'|h'
     · exact h'
     · have h1:w.heap[k]? =some o:=h
       rw[Array.getElem?_eq_none h']at h1;cases h1
   exact(hb.block _ hlt).trans h
 | rl i φ=>exact hf _ _ h hb
theorem Be.step {al:Al}{w w':World}(h:Be w0 al w)(hb:Below w.heap.size w w'):Be w0 al w':=
 ⟨h.1.trans (hb.mono h.1.size),λp hp=>⟨(h.2 p hp).1,Fa.keep (h.2 p hp).1 (h.2 p hp).2 hb⟩⟩
theorem Be.fresh {al:Al}{w:World}(h:Be w0 al w):∀p∈al,p.new w.heap.size:=by
 intro p hp
 have h1:=(h.2 p hp).2
 cases p with
 | al i k o=>
   intro e
   have h1:w.heap[k]? =some o:=h1
   rw[<- e,Array.getElem?_eq_none (Nat.le_refl _)]at h1
   cases h1
 | rl i φ=>trivial
theorem Be.alloc {al:Al}{w:World}(h:Be w0 al w)(i:Nat)(obj:Obj):Be w0 (.al i w.heap.size obj::al) (w.alloc obj):=by
 have h1:=h.step ((Below.refl w.heap.size w).alloc (Nat.le_refl _) obj)
 refine⟨h1.1,λp hp=>?_⟩
 rcases List.mem_cons.1 hp with rfl|hp
 · refine⟨trivial,?_⟩
   show(w.heap.push obj)[w.heap.size]? =some obj
   simp
 · exact h1.2 p hp
theorem Be.rel {al:Al}{w w':World}(h:Be w0 al w)(hb:Below w.heap.size w w'){i:Nat}{φ:World->Prop}(hf:∀u u':World,φ u->Below u.heap.size u u'->φ u')(hw:φ w'):Be w0 (.rl i φ::al) w':=by
 have h1:=h.step hb
 refine⟨h1.1,λp hp=>?_⟩
 rcases List.mem_cons.1 hp with rfl|hp
 · exact⟨hf,hw⟩
 · exact h1.2 p hp
theorem Hv (al:Al)(n:Nat):∃k,n <=k/\∀p∈al,p.new k:=by
 have key:∀al:Al,∃m,∀k,m <=k->∀p∈al,p.new k:=by
   intro al
   induction al with
   | nil=>exact⟨0,λk _ p hp=>by cases hp⟩
   | cons q r ih=>
     obtain⟨m,hm⟩:=ih
     cases q with
     | al i k o=>
       refine⟨max m (k+1),λk' hk p hp=>?_⟩
       rcases List.mem_cons.1 hp with rfl|hp
       · show k'≠k
         omega
       · exact hm k' (by omega) p hp
     | rl i φ=>
       refine⟨m,λk' hk p hp=>?_⟩
       rcases List.mem_cons.1 hp with rfl|hp
       · trivial
       · exact hm k' hk p hp
 obtain⟨m,hm⟩:=key al
 exact⟨max m n,by omega,hm _ (by omega)⟩
def mi (ops:Array Oper)(i:Nat):Nat->Nat->Bool
 | 0,_=>false
 | f+1,j=>match ops[j]? with
   | none=>false
   | some oj=>oj.after.any λe=>Region.binds .any e&&(Nat.beq e.on i || mi ops i f e.on)
def Fs (ops:Array Oper)(al:Al)(j:Nat)(w:World):Prop:=∀p∈al,mi ops p.tag 6 j=true->p.at w
theorem Be.fs {al:Al}{w:World}(h:Be w0 al w)(j:Nat):Fs ops al j w:=λp hp _=>(h.2 p hp).2
theorem Fs.sub {al al':Al}{j:Nat}{w:World}(hs:∀p∈al,p∈al')(h:Fs ops al' j w):Fs ops al j w:=λp hp hw=>h p (hs p hp) hw
def Sn (P:Program)(o:Oper)(a:Act)(w0:World)(F:World->Prop)(v:Value):Prop:=∀w,Below w0.heap.size w0 w->F w->(execOp a.eval o).run P w=.ok (.value v) w
def R4 (P:Program)(o:Oper)(a:Act)(w0:World)(F:World->Prop)(v:Value):Prop:=
 ∃f args,vY P a.eval o.op=some (f,args)/\∀w,Below w0.heap.size w0 w->F w->Calls P f args w λe w'=>e=.returned v/\Below w.heap.size w w'
def Xt (P:Program)(o:Oper)(a:Act)(w0:World)(F:World->Prop)(p:Value->Prop)(Φ:Value->World->Prop):Prop:=
 ∃f args,vY P a.eval o.op=some (f,args)/\∀w,Below w0.heap.size w0 w->F w->Calls P f args w λe w'=>∃v,e=.returned v/\p v/\Φ v w'/\Below w.heap.size w w'
def YS (P:Program)(ops:Array Oper)(w0:World)(r:Nat->Bool)(al:Al)(i:Nat)(o:Oper)(v:Value)(a:Act):Prop:=
 Yields P ops o v a\/(r i=true/\Region.wanted o (yielded ops a.tmps)=true/\(Sn P o a w0 (Fs ops al i) v\/R4 P o a w0 (Fs ops al i) v))
def NS (P:Program)(ops:Array Oper)(o:Oper)(obj:Obj)(mk:Nat->Value)(a:Act):Prop:=
 Region.wanted o (yielded ops a.tmps)=true/\alV P a.eval o.op=some (obj,mk)
def LS (P:Program)(ops:Array Oper)(w0:World)(al:Al)(i:Nat)(o:Oper)(p:Value->Prop)(Φ:Value->World->Prop)(a:Act):Prop:=
 Region.wanted o (yielded ops a.tmps)=true/\(∃v,p v)/\(∀v u u',Φ v u->Below u.heap.size u u'->Φ v u')/\Xt P o a w0 (Fs ops al i) p Φ
def sOp (P:Program)(ops:Array Oper)(w0:World)(r:Nat->Bool)(i:Nat)(next:Al->Act->Prop)(al:Al)(a:Act):Prop:=match ops[i]? with
 | none=>False
 | some o=>(∃v,YS P ops w0 r al i o v a/\next al (a.put o.dst v))\/
   (∃obj mk,NS P ops o obj mk a/\∀k,w0.heap.size <=k->(∀p∈al,p.new k)->next (.al i k obj::al) (a.put o.dst (mk k)))\/
   (r i=true/\∃p Φ,LS P ops w0 al i o p Φ a/\∀v,p v->next (.rl i (Φ v)::al) (a.put o.dst v))
theorem Ki {r:Nat->Bool}{i:Nat}{a:Act}{al:Al}{K:Al->Act->Prop}{K':Act->World->Prop}{Q':Exit->Act->World->Prop}{w:World}(hw:Be w0 al w)
   (h:∀al' a' w',Be w0 al' w'->K al' a'->K' a' w') (hh:sOp P ops w0 r i K al a):wpOp P ops Q' i K' a w:=by
 unfold sOp at hh
 unfold wpOp
 split at hh
 · exact hh.elim
 · rename_i o ho
   rw[ho]
   simp only
   rcases hh with⟨v,((⟨hwt,h1⟩|⟨hwt,rfl⟩)|⟨_,hwt,h1⟩),h2⟩|⟨obj,mk,⟨hwt,h1⟩,h2⟩|⟨_,p,Φ,⟨hwt,_,hf,f,args,hc,h1⟩,h2⟩
   · rw[if_pos hwt]
     refine .inl ?_
     unfold Oper.wp
     rw[h1 w];exact h _ _ _ hw h2
   · rw[if_neg (by simp[hwt])]
     exact h _ _ _ hw h2
   · rw[if_pos hwt]
     refine .inl ?_
     unfold Oper.wp
     rcases h1 with h1|⟨f,args,hc,h1⟩
     · rw[h1 w hw.1 (hw.fs i)];exact h _ _ _ hw h2
     · rw[tN hc]
       exact(h1 w hw.1 (hw.fs i)).mono λe w' ⟨he,hb⟩=>by subst he;exact h _ _ _ (hw.step hb) h2
   · rw[if_pos hwt]
     refine .inl ?_
     unfold Oper.wp
     rw[M8 h1]
     exact h _ _ _ (hw.alloc i obj) (h2 _ hw.1.size hw.fresh)
   · rw[if_pos hwt]
     refine .inl ?_
     unfold Oper.wp
     rw[tN hc]
     exact(h1 w hw.1 (hw.fs i)).mono λe w' ⟨v,he,hp,hΦ,hb⟩=>by subst he;exact h _ _ _ (hw.rel hb (hf v) hΦ) (h2 v hp)
theorem SF (o:Oper)(a:Act)(dst:Option Tmp)(v:Value)(h:∀d,dst=some d->d ∉ o.looksAt ops):alV P (a.put dst v).eval o.op=alV P a.eval o.op:=
 M7 λx hx=>Act.eval_put λd hd hxd=>h d hd (by
   subst hxd
   exact List.mem_append_left _ (List.mem_filterMap.2 ⟨.tmp d,by simpa using hx,rfl⟩))
theorem Hb (o:Oper)(a:Act)(dst:Option Tmp)(v:Value)(h:∀d,dst=some d->d ∉ o.looksAt ops):vY P (a.put dst v).eval o.op=vY P a.eval o.op:=
 Jq λx hx=>Act.eval_put λd hd hxd=>h d hd (by
   subst hxd
   exact List.mem_append_left _ (List.mem_filterMap.2 ⟨.tmp d,by simpa using hx,rfl⟩))
theorem G2 {r:Nat->Bool}{al:Al}{i:Nat}{o:Oper}(hs:∀cs b,o.op≠.select cs b)(a:Act)(dst:Option Tmp)(u:Value)(h:∀d,dst=some d->d ∉ o.looksAt ops){v:Value} :
   YS P ops w0 r al i o v (a.put dst u) ↔ YS P ops w0 r al i o v a:=by
 unfold YS Yields Sn R4
 rw[wanted_put o a dst u h,execOp_put o hs a dst u h,Hb o a dst u h]
theorem GW {o:Oper}(a:Act)(dst:Option Tmp)(u:Value)(h:∀d,dst=some d->d ∉ o.looksAt ops){obj:Obj}{mk:Nat->Value} :
   NS P ops o obj mk (a.put dst u) ↔ NS P ops o obj mk a:=by
 unfold NS
 rw[wanted_put o a dst u h,SF o a dst u h]
theorem RT {al:Al}{i:Nat}{o:Oper}(a:Act)(dst:Option Tmp)(u:Value)(h:∀d,dst=some d->d ∉ o.looksAt ops){p:Value->Prop}{Φ:Value->World->Prop} :
   LS P ops w0 al i o p Φ (a.put dst u) ↔ LS P ops w0 al i o p Φ a:=by
 unfold LS Xt
 rw[wanted_put o a dst u h,Hb o a dst u h]
theorem RX {r:Nat->Bool}{al al':Al}{i:Nat}{o:Oper}{v:Value}{a:Act}(hs:∀p∈al,mi ops p.tag 6 i=true->p∈al')(h:YS P ops w0 r al i o v a):YS P ops w0 r al' i o v a:=by
 rcases h with h|⟨h0,h1,h|⟨f,args,h2,h3⟩⟩
 · exact .inl h
 · exact .inr ⟨h0,h1,.inl λw hb hf=>h w hb λp hp hw=>hf p (hs p hp hw) hw⟩
 · exact .inr ⟨h0,h1,.inr ⟨f,args,h2,λw hb hf=>h3 w hb λp hp hw=>hf p (hs p hp hw) hw⟩⟩
theorem RU {al al':Al}{i:Nat}{o:Oper}{p:Value->Prop}{Φ:Value->World->Prop}{a:Act}(hs:∀p∈al,mi ops p.tag 6 i=true->p∈al')(h:LS P ops w0 al i o p Φ a):LS P ops w0 al' i o p Φ a:=by
 obtain⟨h0,h1,hf,f,args,h2,h3⟩:=h
 exact⟨h0,h1,hf,f,args,h2,λw hb hF=>h3 w hb λp hp hw=>hF p (hs p hp hw) hw⟩
end
section
variable {P:Program} {ops:Array Oper} {w0:World} {N:Act->World->Prop} {hd r:Nat->Bool} {g:Nat}
def DK (N:Act->World->Prop):Exit->Act->World->Prop
 | .normal,a,w=>N a w
 | _,_,_=>False
def wpAnyS (P:Program)(ops:Array Oper)(w0:World)(N:Act->World->Prop)(hd r:Nat->Bool)(g:Nat):Nat->Array Bool->Al->Act->Prop
 | 0,listed,al,a=>(∀j,hd j=true->listed.getD j true=true)/\∀w,Be w0 al w->wpAny P .any ops (DK N) g listed a w
 | f+1,listed,al,a=>Region.ready .any ops listed≠[]/\∀i∈Region.ready .any ops listed,
   (hd i=true/\sOp P ops w0 r i (wpAnyS P ops w0 N hd r g f (listed.setIfInBounds i true)) al a)\/
   (hd i=false/\∀w,Be w0 al w->wpOp P ops (DK N) i (wpAny P .any ops (DK N) (f+g) (listed.setIfInBounds i true)) a w)
theorem pq:∀(f:Nat) (listed:Array Bool) (al:Al) (a:Act) (w:World),Be w0 al w->wpAnyS P ops w0 N hd r g f listed al a->wpAny P .any ops (DK N) (f+g) listed a w
 | 0,listed,al,a,w,hw,h=>by rw[Nat.zero_add];exact h.2 _ hw
 | f+1,listed,al,a,w,hw,h=>by
   rw[show f+1+g=(f+g)+1 by omega]
   refine⟨λh0=>absurd h0 h.1,λi hi=>?_⟩
   rcases h.2 i hi with⟨_,h1⟩|⟨_,h1⟩
   · exact Ki hw (λal' a' w' hw' h'=>pq f _ al' a' w' hw' h') h1
   · exact h1 w hw
theorem Be.al {al al':Al}{w:World}(hm:∀p,p∈al ↔ p∈al')(h:Be w0 al' w):Be w0 al w:=⟨h.1,λp hp=>h.2 p ((hm p).1 hp)⟩
theorem xO:∀(f:Nat) (listed:Array Bool) (al al':Al) (a:Act),(∀p,p∈al ↔ p∈al')->wpAnyS P ops w0 N hd r g f listed al a->wpAnyS P ops w0 N hd r g f listed al' a
 | 0,_,_,_,_,hm,h=>⟨h.1,λw hw=>h.2 w (hw.al hm)⟩
 | f+1,listed,al,al',a,hm,h=>by
   refine⟨h.1,λi hi=>?_⟩
   rcases h.2 i hi with⟨hh,h1⟩|⟨hh,h1⟩
   · refine .inl ⟨hh,?_⟩
     unfold sOp at*
     split
     · simp_all
     · rename_i o ho
       simp only[ho]at h1
       rcases h1 with⟨v,h1,h2⟩|⟨obj,mk,h1,h2⟩|⟨h0,p,Φ,h1,h2⟩
       · exact .inl ⟨v,RX (λp hp _=>(hm p).1 hp) h1,xO f _ _ _ _ hm h2⟩
       · exact .inr (.inl ⟨obj,mk,h1,λk hk hf=>xO f _ _ _ _ (λp=>by simp only[List.mem_cons,hm p]) (h2 k hk λp hp=>hf p ((hm p).1 hp))⟩)
       · exact .inr (.inr ⟨h0,p,Φ,RU (λp hp _=>(hm p).1 hp) h1,λv hv=>xO f _ _ _ _ (λp=>by simp only[List.mem_cons,hm p]) (h2 v hv)⟩)
   · exact .inr ⟨hh,λw hw=>h1 w (hw.al hm)⟩
structure ClI (ops:Array Oper)(listed:Array Bool):Prop where
 size:listed.size=ops.size
 closed:∀j oj,ops[j]? =some oj->listed.getD j false=true->∀e∈oj.after,Region.binds .any e=true->listed.getD e.on false=true
theorem ClI.set {i:Nat}{listed:Array Bool}(inv:ClI ops listed)(hi:i∈Region.ready .any ops listed):ClI ops (listed.setIfInBounds i true):=by
 obtain⟨_,oi,hoi,hall⟩:=mem_ready.1 hi
 refine⟨by simp[inv.size],λj oj hj hl e he hb=>?_⟩
 by_cases hij:i=j
 · subst hij
   have:oj=oi:=Option.some.inj (hj.symm.trans hoi)
   subst this
   exact getD_set_true (hall e he hb)
 · rw[getD_set_ne false hij]at hl
   exact getD_set_true (inv.closed j oj hj hl e he hb)
theorem Dg {i:Nat}{listed:Array Bool}(inv:ClI ops listed)(hun:listed.getD i true=false):
   ∀(f j:Nat) (oj:Oper),ops[j]? =some oj->mi ops i f j=true->(∀e∈oj.after,Region.binds .any e=true->listed.getD e.on false=true)->False
 | 0,_,_,_,h,_=>by cases h
 | f+1,j,oj,hj,h,hall=>by
   simp only[mi,hj]at h
   obtain⟨e,he,hb⟩:=Array.any_eq_true'.1 h
   simp only[Bool.and_eq_true,Bool.or_eq_true]at hb
   have hl:=hall e he hb.1
   rcases hb.2 with hb2|hb2
   · rw[Nat.eq_of_beq_eq_true hb2,getD_both hun]at hl;cases hl
   · cases ho:ops[e.on]? with
     | none=>cases f <;> simp[mi,ho]at hb2
     | some oe=>exact Dg inv hun f e.on oe ho hb2 λe' he' hb'=>inv.closed e.on oe ho hl e' he' hb'
theorem Pv {i j:Nat}{listed:Array Bool}(inv:ClI ops listed)(hun:listed.getD i true=false)(hj:j∈Region.ready .any ops listed):mi ops i 6 j=false:=by
 obtain⟨_,oj,hoj,hall⟩:=mem_ready.1 hj
 cases h:mi ops i 6 j with
 | false=>rfl
 | true=>exact(Dg inv hun _ j oj hoj h hall).elim
def LM (ops:Array Oper)(hd:Nat->Bool)(i:Nat):Bool:=(List.range ops.size).all λj=>hd j || mi ops i 6 j
theorem tQ {i j:Nat}{listed:Array Bool}(hc:LM ops hd i=true)(inv:ClI ops listed)(hun:listed.getD i true=false)(hj:j∈Region.ready .any ops listed):hd j=true:=by
 obtain⟨_,oj,hoj,hall⟩:=mem_ready.1 hj
 have h1:=List.all_eq_true.1 hc j (List.mem_range.2 (Array.getElem?_eq_some_iff.1 hoj).1)
 rcases Bool.or_eq_true _ _▸h1 with h1|h1
 · exact h1
 · exact(Dg inv hun _ j oj hoj h1 hall).elim
theorem xP {i:Nat}{oi:Oper}{v:Value}(hi:ops[i]? =some oi)(hs:Region.noSelect ops=true)(hdi:hd i=true):
   ∀(f:Nat) (listed:Array Bool) (al:Al) (a:Act),ClI ops listed->
     (∀j oj,ops[j]? =some oj->j≠i->listed.getD j true=false->(∀e∈oj.after,Region.binds .any e=true->e.on≠i)->oi.apart ops oj=true)->
     i∈Region.ready .any ops listed->YS P ops w0 r al i oi v a->(LM ops hd i=true\/Yields P ops oi v a)->
     wpAnyS P ops w0 N hd r g f (listed.setIfInBounds i true) al (a.put oi.dst v)->wpAnyS P ops w0 N hd r g (f+1) listed al a:=by
 have hsel:=Region.noSelect_spec hs
 intro f
 induction f with
 | zero=>
   intro listed al a inv hfree hr hy hco H
   have hun:=(mem_ready.1 hr).1
   refine⟨λh=>(by rw[h]at hr;cases hr),λj hj=>?_⟩
   by_cases hji:j=i
   · subst hji
     refine .inl ⟨hdi,?_⟩
     unfold sOp
     simp only[hi]
     exact .inl ⟨v,hy,H⟩
   · cases hdj:hd j with
     | true=>
       have h1:=H.1 j hdj
       rw[getD_set_ne true (Ne.symm hji),(mem_ready.1 hj).1]at h1
       cases h1
     | false=>
       rcases hco with hc|hY
       · rw[tQ hc inv hun hj]at hdj;cases hdj
       · refine .inr ⟨rfl,λw hw=>?_⟩
         have:=wpAny_first hi hsel (Q:=DK N) (λc a w h=>h.elim) (0+g) listed a w hfree hr hY (by rw[Nat.zero_add];exact H.2 w hw)
         exact this.2 j hj
 | succ f ih=>
   intro listed al a inv hfree hr hy hco H
   have hun:=(mem_ready.1 hr).1
   refine⟨λh=>(by rw[h]at hr;cases hr),λj hj=>?_⟩
   by_cases hji:j=i
   · subst hji
     refine .inl ⟨hdi,?_⟩
     unfold sOp
     simp only[hi]
     exact .inl ⟨v,hy,H⟩
   · cases hdj:hd j with
     | false=>
       rcases hco with hc|hY
       · rw[tQ hc inv hun hj]at hdj;cases hdj
       · refine .inr ⟨rfl,λw hw=>?_⟩
         have:=wpAny_first hi hsel (Q:=DK N) (λc a w h=>h.elim) (f+1+g) listed a w hfree hr hY (pq _ _ _ _ _ hw H)
         exact this.2 j hj
     | true=>
       have h1:sOp P ops w0 r j (wpAnyS P ops w0 N hd r g f ((listed.setIfInBounds i true).setIfInBounds j true)) al (a.put oi.dst v):=by
         rcases H.2 j (ready_mono hj hji)with⟨_,h1⟩|⟨h1,_⟩
         · exact h1
         · rw[hdj]at h1;cases h1
       obtain⟨hjun,oj,hoj,hall⟩:=mem_ready.1 hj
       have hnot:∀e∈oj.after,Region.binds .any e=true->e.on≠i:=λe he hb heq=>by
         have h1:=hall e he hb
         rw[heq,getD_both hun]at h1
         cases h1
       obtain⟨a1,a2,a3⟩:=Oper.apart_spec (hfree j oj hoj hji hjun hnot)
       have hfree':∀k ok,ops[k]? =some ok->k≠i->(listed.setIfInBounds j true).getD k true=false->
           (∀e∈ok.after,Region.binds .any e=true->e.on≠i)->oi.apart ops ok=true:=λk ok hk hki hun hno=>by
         refine hfree k ok hk hki ?_ hno
         by_cases hjk:j=k
         · subst hjk;exact hjun
         · rw[getD_set_ne true hjk]at hun;exact hun
       have keep:∀u,LM ops hd i=true\/Yields P ops oi v (a.put oj.dst u):=λu=>by
         rcases hco with hc|hY
         · exact .inl hc
         · exact .inr (hY.of_same (execOp_put oi (λcs b=>hsel i oi cs b hi) a oj.dst u a3) (wanted_put oi a oj.dst u a3))
       have go:∀al' u,(∀p∈al,p∈al')->wpAnyS P ops w0 N hd r g f ((listed.setIfInBounds i true).setIfInBounds j true) al' ((a.put oi.dst v).put oj.dst u)->
           wpAnyS P ops w0 N hd r g (f+1) (listed.setIfInBounds j true) al' (a.put oj.dst u):=λal' u hsub h=>by
         refine ih (listed.setIfInBounds j true) al' _ (inv.set hj) hfree' (ready_mono hr (Ne.symm hji)) (RX (λp hp _=>hsub p hp) ((G2 (λcs b=>hsel i oi cs b hi) a oj.dst u a3).2 hy)) (keep u) ?_
         rw[<- Act.put_comm a v u a2,Array.setIfInBounds_comm _ _ hji]
         exact h
       refine .inl ⟨rfl,?_⟩
       unfold sOp at h1 ⊢
       simp only[hoj]at h1 ⊢
       rcases h1 with⟨u,h1,h2⟩|⟨obj,mk,h1,h2⟩|⟨h0,p,Φ,h1,h2⟩
       · exact .inl ⟨u,(G2 (λcs b=>hsel j oj cs b hoj) a oi.dst v a1).1 h1,go _ _ (λp hp=>hp) h2⟩
       · exact .inr (.inl ⟨obj,mk,(GW a oi.dst v a1).1 h1,λk hk hf=>go _ _ (λp hp=>List.mem_cons_of_mem _ hp) (h2 k hk hf)⟩)
       · exact .inr (.inr ⟨h0,p,Φ,(RT a oi.dst v a1).1 h1,λv' hv=>go _ _ (λp hp=>List.mem_cons_of_mem _ hp) (h2 v' hv)⟩)
theorem Lw {o:Oper}{v u:Value}{a:Act}(w0:World)(h:Yields P ops o v a)(h':Yields P ops o u a):v=u:=by
 rcases h with⟨hw,h⟩|⟨hw,rfl⟩
 · rcases h' with⟨_,h'⟩|⟨hw',_⟩
   · have e:=(h w0).symm.trans (h' w0)
     simp only[Result.ok.injEq,Next.value.injEq]at e
     exact e.1
   · rw[hw]at hw';cases hw'
 · rcases h' with⟨hw',_⟩|⟨_,rfl⟩
   · rw[hw]at hw';cases hw'
   · rfl
theorem G3 {o:Oper}{v:Value}{a:Act}{obj:Obj}{mk:Nat->Value}(w0:World)(h:Yields P ops o v a)(h':NS P ops o obj mk a):False:=by
 obtain⟨hw',h'⟩:=h'
 rcases h with⟨hw,h⟩|⟨hw,rfl⟩
 · have e:=(h w0).symm.trans (M8 h' w0)
   simp only[Result.ok.injEq,Next.value.injEq]at e
   have e2:w0.heap.size=(w0.alloc obj).heap.size:=congrArg (λw:World=>w.heap.size) e.2
   rw[World.size_alloc]at e2
   omega
 · rw[hw]at hw';cases hw'
theorem SE {al:Al}{i:Nat}{o:Oper}{v:Value}{a:Act}(hr:r i=false)(h:YS P ops w0 r al i o v a):Yields P ops o v a:=by
 rcases h with h|⟨h,_⟩
 · exact h
 · rw[hr]at h;cases h
theorem xQ {X:Type}{i:Nat}{oi:Oper}(fa:X->Fa)(val:X->Value)(ok:X->Al->Prop)(S:Al->Act->Prop)
   (hi:ops[i]? =some oi) (hs:Region.noSelect ops=true) (hdi:hd i=true) (hco:LM ops hd i=true) (htag:∀x,(fa x).tag=i)
   (hex:∀al,∃x,ok x al)
   (hok:∀x j k o al,ok x (.al j k o::al)->ok x al/\(fa x).new k)
   (hS:∀al a next,S al a->(∀x,ok x al->next (fa x::al) (a.put oi.dst (val x)))->sOp P ops w0 r i next al a)
   (hput:∀al al' a dst u,(∀d,dst=some d->d ∉ oi.looksAt ops)->(∀p∈al,p∈al')->S al a->S al' (a.put dst u)):
   ∀(f:Nat) (listed:Array Bool) (al:Al) (a:Act),ClI ops listed->
     (∀j oj,ops[j]? =some oj->j≠i->listed.getD j true=false->(∀e∈oj.after,Region.binds .any e=true->e.on≠i)->oi.apart ops oj=true)->
     (∀j oj,ops[j]? =some oj->j≠i->hd j=true->listed.getD j true=false->(∀e∈oj.after,Region.binds .any e=true->e.on≠i)->mi ops i 6 j=false->r j=false)->
     i∈Region.ready .any ops listed->S al a->
     (∀x,ok x al->wpAnyS P ops w0 N hd r g f (listed.setIfInBounds i true) (fa x::al) (a.put oi.dst (val x)))->wpAnyS P ops w0 N hd r g (f+1) listed al a:=by
 have hsel:=Region.noSelect_spec hs
 intro f
 induction f with
 | zero=>
   intro listed al a inv _ _ hr hy H
   have hun:=(mem_ready.1 hr).1
   refine⟨λh=>(by rw[h]at hr;cases hr),λj hj=>.inl ?_⟩
   have hdj:=tQ hco inv hun hj
   by_cases hji:j=i
   · subst hji
     exact⟨hdi,hS _ _ _ hy H⟩
   · obtain⟨x,hx⟩:=hex al
     have h1:=(H x hx).1 j hdj
     rw[getD_set_ne true (Ne.symm hji),(mem_ready.1 hj).1]at h1
     cases h1
 | succ f ih=>
   intro listed al a inv hfree hnc hr hy H
   have hun:=(mem_ready.1 hr).1
   refine⟨λh=>(by rw[h]at hr;cases hr),λj hj=>.inl ?_⟩
   have hdj:=tQ hco inv hun hj
   refine⟨hdj,?_⟩
   by_cases hji:j=i
   · subst hji
     exact hS _ _ _ hy H
   · have hwj:=Pv inv hun hj
     obtain⟨hjun,oj,hoj,hall⟩:=mem_ready.1 hj
     have hnot:∀e∈oj.after,Region.binds .any e=true->e.on≠i:=λe he hb heq=>by
       have h1:=hall e he hb
       rw[heq,getD_both hun]at h1
       cases h1
     obtain⟨a1,a2,a3⟩:=Oper.apart_spec (hfree j oj hoj hji hjun hnot)
     have hrj:=hnc j oj hoj hji hdj hjun hnot hwj
     have back:∀k:Nat,(listed.setIfInBounds j true).getD k true=false->listed.getD k true=false:=λk hun=>by
       by_cases hjk:j=k
       · subst hjk;exact hjun
       · rw[getD_set_ne true hjk]at hun;exact hun
     have go:∀al' u,(∀p∈al,p∈al')->(∀x,ok x al'->wpAnyS P ops w0 N hd r g f ((listed.setIfInBounds i true).setIfInBounds j true) (fa x::al') ((a.put oi.dst (val x)).put oj.dst u))->
         wpAnyS P ops w0 N hd r g (f+1) (listed.setIfInBounds j true) al' (a.put oj.dst u):=λal' u hsub h=>by
       refine ih (listed.setIfInBounds j true) al' _ (inv.set hj) (λk ok hk hki hun hno=>hfree k ok hk hki (back k hun) hno)
         (λk ok hk hki hkn hun hno=>hnc k ok hk hki hkn (back k hun) hno) (ready_mono hr (Ne.symm hji)) (hput al al' a oj.dst u a3 hsub hy) λx hx=>?_
       rw[<- Act.put_comm a (val x) u a2,Array.setIfInBounds_comm _ _ hji]
       exact h x hx
     have h1:∀x,ok x al->sOp P ops w0 r j (wpAnyS P ops w0 N hd r g f ((listed.setIfInBounds i true).setIfInBounds j true)) (fa x::al) (a.put oi.dst (val x)):=
       λx hx=>by
         rcases(H x hx).2 j (ready_mono hj hji)with⟨_,h1⟩|⟨h1,_⟩
         · exact h1
         · rw[hdj]at h1;cases h1
     have no:r j=true->False:=λh=>by rw[hrj]at h;cases h
     obtain⟨x0,hx0⟩:=hex al
     have h2:=h1 x0 hx0
     have hsj:=λcs b=>hsel j oj cs b hoj
     unfold sOp at h1 h2 ⊢
     simp only[hoj]at h1 h2 ⊢
     rcases h2 with⟨u,h2,_⟩|⟨obj',mk',h2,_⟩|⟨h0,_⟩
     · have h2':=SE hrj ((G2 hsj a oi.dst (val x0) a1).1 h2)
       refine .inl ⟨u,.inl h2',go _ _ (λp hp=>hp) λx hx=>?_⟩
       rcases h1 x hx with⟨u',h3,h4⟩|⟨obj',mk',h3,h4⟩|⟨h0,_⟩
       · have e:=Lw w0 (SE hrj ((G2 hsj a oi.dst (val x) a1).1 h3)) h2'
         subst e;exact h4
       · exact(G3 w0 h2' ((GW a oi.dst (val x) a1).1 h3)).elim
       · exact(no h0).elim
     · have h2':=(GW a oi.dst (val x0) a1).1 h2
       refine .inr (.inl ⟨obj',mk',h2',λk' hk' hf'=>go _ _ (λp hp=>List.mem_cons_of_mem _ hp) λx hx=>?_⟩)
       obtain⟨hx1,hx2⟩:=hok _ _ _ _ _ hx
       rcases h1 x hx1 with⟨u',h3,h4⟩|⟨obj'',mk'',h3,h4⟩|⟨h0,_⟩
       · exact(G3 w0 (SE hrj ((G2 hsj a oi.dst (val x) a1).1 h3)) h2').elim
       · have e:=h2'.2.symm.trans ((GW a oi.dst (val x) a1).1 h3).2
         simp only[Option.some.injEq,Prod.mk.injEq]at e
         obtain⟨rfl,rfl⟩:=e
         refine xO f _ _ _ _ (λp=>?_) (h4 k' hk' λp hp=>?_)
         · simp only[List.mem_cons];constructor <;> (intro h;rcases h with h|h|h <;> simp[h])
         · rcases List.mem_cons.1 hp with rfl|hp
           · exact hx2
           · exact hf' p hp
       · exact(no h0).elim
     · exact(no h0).elim
def Qd (ops:Array Oper)(hd r:Nat->Bool)(i:Nat)(listed:Array Bool):Bool:=
 (List.range ops.size).all λj=>Nat.beq j i || !hd j || listed.getD j true || Region.waitsFor .any ops j i || mi ops i 6 j || !r j
def WT (ops:Array Oper)(i:Nat):Bool:=match ops[i]? with
 | some o=>Xq o.op
 | none=>false
def N7 (ops:Array Oper)(hd r m:Nat->Bool):List Nat->Array Bool->Bool
 | [],listed=>(List.range ops.size).all (λj=> !hd j || listed.getD j true)
 | i::l,listed=>hd i&&(Region.ready .any ops listed).contains i&&Region.free .any ops listed i&&(!(WT ops i || m i) || Qd ops hd r i listed)&&N7 ops hd r m l (listed.setIfInBounds i true)
def Wa:List Nat->Nat->Bool
 | [],_=>false
 | x::l,i=>Nat.beq x i || Wa l i
def Wi:List Nat->Array Bool->Array Bool
 | [],l=>l
 | i::r,l=>Wi r (l.setIfInBounds i true)
def Wg (ops:Array Oper)(r m:Nat->Bool)(ord:List Nat):Bool:=
 Region.noSelect ops&&Nat.ble ord.length ops.size&&N7 ops (Wa ord) r m ord (Array.replicate ops.size false)
def Mp:List (Tmp×Sh)->Nat->Bool
 | [],_=>false
 | (k,.one .slice)::l,i=>Nat.beq k i || Mp l i
 | _::l,i=>Mp l i
def rOf (ops:Array Oper)(m:Nat->Bool):List Nat->Nat->Bool
 | [],_=>false
 | i::l,j=>Nat.beq i j || ((!(WT ops i || m i) || mi ops i 6 j)&&rOf ops m l j)
theorem Ev {i:Nat}{listed:Array Bool}(h:Qd ops hd r i listed=true):∀j oj,ops[j]? =some oj->j≠i->hd j=true->listed.getD j true=false->(∀e∈oj.after,Region.binds .any e=true->e.on≠i)->mi ops i 6 j=false->r j=false:=by
 intro j oj hj hji hjn hun hno hwt
 have h1:=List.all_eq_true.1 h j (List.mem_range.2 (Array.getElem?_eq_some_iff.1 hj).1)
 have hb:Nat.beq j i=false:=by cases hb:Nat.beq j i <;> first|rfl|exact absurd (Nat.eq_of_beq_eq_true hb) hji
 have hwf:Region.waitsFor .any ops j i=false:=by
   cases hw:Region.waitsFor .any ops j i with
   | false=>rfl
   | true=>
     obtain⟨o',ho',e,he,hbd,hon⟩:=Region.waitsFor_spec hw
     have:o'=oj:=Option.some.inj (ho'.symm.trans hj)
     subst this
     exact absurd hon (hno e he hbd)
 simpa[hb,hun,hwf,hjn,hwt]using h1
def MP (m:Nat->Bool)(P:Program)(ops:Array Oper)(hd r:Nat->Bool)(w0:World)(Q:Al->Act->Prop):List Nat->Al->Act->Prop
 | [],al,a=>Q al a
 | i::l,al,a=>match LM ops hd i with
   | true=>match ops[i]? with
     | none=>False
     | some o=>(∃v,YS P ops w0 r al i o v a/\MP m P ops hd r w0 Q l al (a.put o.dst v))\/
       (∃obj mk,NS P ops o obj mk a/\∀k,w0.heap.size <=k->(∀p∈al,p.new k)->MP m P ops hd r w0 Q l (.al i k obj::al) (a.put o.dst (mk k)))\/
       (r i=true/\m i=true/\∃p Φ,LS P ops w0 al i o p Φ a/\∀v,p v->MP m P ops hd r w0 Q l (.rl i (Φ v)::al) (a.put o.dst v))
   | false=>∃o v,ops[i]? =some o/\Yields P ops o v a/\MP m P ops hd r w0 Q l al (a.put o.dst v)
theorem qh {m:Nat->Bool}{Lq:Al->Act->Prop}(hs:Region.noSelect ops=true):
   ∀(l:List Nat) (listed:Array Bool) (al:Al) (a:Act),(∀al a,Lq al a->∀w,Be w0 al w->wpAny P .any ops (DK N) g (Wi l listed) a w)->ClI ops listed->N7 ops hd r m l listed=true->MP m P ops hd r w0 Lq l al a->
   wpAnyS P ops w0 N hd r g l.length listed al a
 | [],listed,al,a,hLq,inv,hB,h=>by
   simp only[N7]at hB
   refine⟨λj hj=>?_,hLq _ _ h⟩
   rcases Nat.lt_or_ge j ops.size with hlt|hge
   · have h1:=List.all_eq_true.1 hB j (List.mem_range.2 hlt)
     simpa[hj]using h1
   · have:listed.size <=j:=by rw[inv.size];exact hge
     simp[Array.getElem?_eq_none this]
 | i::l,listed,al,a,hLq,inv,hB,h=>by
   simp only[N7,Bool.and_eq_true]at hB
   obtain⟨⟨⟨⟨hdi,hr⟩,hf⟩,hcl⟩,hB'⟩:=hB
   have hr':i∈Region.ready .any ops listed:=by simpa using hr
   simp only[MP]at h
   split at h
   · rename_i hco
     split at h
     · exact h.elim
     · rename_i o ho
       rcases h with⟨v,h1,h2⟩|⟨obj,mk,h1,h2⟩|⟨h0,hm,p,Φ,h1,h2⟩
       · exact xP ho hs hdi l.length listed al a inv (Region.free_spec ho hf) hr' h1 (.inl hco) (qh hs l _ _ _ hLq (inv.set hr') hB' h2)
       · have hca:Qd ops hd r i listed=true:=by
           simpa[WT,ho,PW h1.2]using hcl
         exact xQ (X:=Nat) (λk=>.al i k obj) mk (λk al=>w0.heap.size <=k/\∀p∈al,p.new k) (λ_ a=>NS P ops o obj mk a) ho hs hdi hco (λ_=>rfl)
           (λal=>Hv al _) (λx j k o' al h=>⟨⟨h.1,λp hp=>h.2 p (List.mem_cons_of_mem _ hp)⟩,Ne.symm (h.2 _ List.mem_cons_self)⟩)
           (λal a next h hn=>by unfold sOp;simp only[ho];exact .inr (.inl ⟨obj,mk,h,λk hk hf=>hn k ⟨hk,hf⟩⟩))
           (λal al' a dst u hd _ h=>(GW a dst u hd).2 h)
           l.length listed al a inv (Region.free_spec ho hf) (Ev hca) hr' h1
           λk hk=>qh hs l _ _ _ hLq (inv.set hr') hB' (h2 k hk.1 hk.2)
       · have hca:Qd ops hd r i listed=true:=by
           simpa[hm]using hcl
         obtain⟨v0,hv0⟩:=h1.2.1
         exact xQ (X:=Value) (λv=>.rl i (Φ v)) (λv=>v) (λv _=>p v) (λal a=>LS P ops w0 al i o p Φ a) ho hs hdi hco (λ_=>rfl)
           (λ_=>⟨v0,hv0⟩) (λx j k o' al h=>⟨h,trivial⟩)
           (λal a next h hn=>by unfold sOp;simp only[ho];exact .inr (.inr ⟨h0,p,Φ,h,hn⟩))
           (λal al' a dst u hd hsub h=>RU (λp hp _=>hsub p hp) ((RT a dst u hd).2 h))
           l.length listed al a inv (Region.free_spec ho hf) (Ev hca) hr' h1
           λv hv=>qh hs l _ _ _ hLq (inv.set hr') hB' (h2 v hv)
   · obtain⟨o,v,ho,hY,h2⟩:=h
     exact xP ho hs hdi l.length listed al a inv (Region.free_spec ho hf) hr' (.inl hY) (.inr hY) (qh hs l _ _ _ hLq (inv.set hr') hB' h2)
theorem GR {m:Nat->Bool}{id:Nat}{a:Act}{w:World}(ord:List Nat)(hm:P.follows .mixedOrders=true)(hB:Wg ops r m ord=true)
   (h:MP m P ops (Wa ord) r w (λal a'=>∀w',Be w al w'->wpAny P .any ops (DK N) (ops.size-ord.length) (Wi ord (Array.replicate ops.size false)) a' w') ord [] a):
   (Code.region id ops true).wp P (DK N) a w:=by
 simp only[Wg,Bool.and_eq_true]at hB
 obtain⟨⟨hsel,hlen⟩,hh⟩:=hB
 have hlen':ord.length <=ops.size:=Nat.le_of_ble_eq_true hlen
 have inv0:ClI ops (Array.replicate ops.size false):=⟨by simp,λj oj _ hl=>(by rw[getD_replicate_false]at hl;cases hl)⟩
 have H:=qh (P:=P) (w0:=w) (N:=N) hsel ord _ _ a (λal a h=>h) inv0 hh h
 refine wp_region_any hm ?_
 have:=pq _ _ _ _ { w with drawn:=w.drawn+1 } ⟨(Below.refl _ w).drew,λp hp=>by cases hp⟩ H
 rw[show ord.length+(ops.size-ord.length)=ops.size by omega]at this
 exact this
end
def sp (ops:Array Oper)(al:Al)(i:Nat):Al:=match al with
 | []=>[]
 | p::l=>bif mi ops p.tag 6 i then p::sp ops l i else sp ops l i
theorem mF {ops:Array Oper}{i:Nat}{w:World} :∀{al:Al},Fs ops al i w->∀p∈sp ops al i,p.at w
 | [],_,p,hp=>by cases hp
 | q::l,h,p,hp=>by
   simp only[sp]at hp
   have h':Fs ops l i w:=λp hp=>h p (List.mem_cons_of_mem _ hp)
   cases hq:mi ops q.tag 6 i with
   | false=>rw[hq]at hp;exact mF h' p hp
   | true=>
     rw[hq]at hp
     rcases List.mem_cons.1 hp with rfl|hp
     · exact h _ List.mem_cons_self hq
     · exact mF h' p hp
def SI (w0:World)(al:Al)(c:Prop):Prop:=match al with
 | []=>c
 | al=>∀w1,Below w0.heap.size w0 w1->zd al w1 c
theorem PX {w0:World}{al:Al}{c:Prop}(h:SI w0 al c):∀w,Below w0.heap.size w0 w->(∀p∈al,p.at w)->c:=by
 intro w hb hp
 unfold SI at h
 split at h
 · exact h
 · exact nh (h w hb) hp
theorem SG {s:S0}{K:Value->Prop}(h:UM s K):∀v,ex0 s (λu=>v=u)->K v:=by
 intro v hv
 cases s <;> simp only[ex0]at hv <;> (first|(obtain⟨_,rfl⟩:=hv;exact h _)|(obtain⟨_,_,_,rfl⟩:=hv;exact h _ _ _))
theorem QA (s:S0):∃v,ex0 s (λu=>v=u):=by
 cases s <;> simp only[ex0]
 · exact⟨_,0,rfl⟩
 · exact⟨_,true,rfl⟩
 · exact⟨_,[],rfl⟩
 · exact⟨_,none,0,0,rfl⟩
 · exact⟨_,none,rfl⟩
 · exact⟨_,none,rfl⟩
 · exact⟨undef,undef,rfl⟩
theorem Vf {s:S0}{A:Value->Prop}(h:ex0 s A):∃v,ex0 s (λu=>v=u)/\A v:=by
 cases s <;> simp only[ex0]at h ⊢ <;> (first|(obtain⟨x,h⟩:=h;exact⟨_,⟨x,rfl⟩,h⟩)|(obtain⟨x,y,z,h⟩:=h;exact⟨_,⟨x,y,z,rfl⟩,h⟩))
def Xs (P:Program)(w0:World)(i:Nat)(t:TypeId)(f:FuncId)(args:Array Value)(fs al:Al)(K:Al->Value->Prop):Prop:=match shT P t with
 | [.one s]=>∃J:F0 s (World->Prop),(UM s λv=>∀u u':World,ap0 (λ_=>False) s J v u->Below u.heap.size u u'->ap0 (λ_=>False) s J v u')/\
   (∀w1:World,Below w0.heap.size w0 w1->zd fs w1 (Calls P f args w1 λe w2=>ex0 s λv=>e=.returned v/\ap0 (λ_=>False) s J v w2/\Below w1.heap.size w1 w2))/\
   UM s λv=>K (.rl i (ap0 (λ_=>False) s J v)::al) v
 | _=>False
def Wq (P:Program)(n:Nat)(w0:World)(core rd rel:Bool)(ops:Array Oper)(i:Nat)(o:Oper)(al:Al)(a:Fr)(K:Al->Fr->Prop):Prop:=
 match pv P (evF a) o.op with
 | some (.val v)=>nmK o.op v λv=>K al (jf n a o.dst v)
 | some (.part c v)=>match core&&rd with
   | true=>SI w0 (sp ops al i) c/\nmK o.op v λv=>K al (jf n a o.dst v)
   | false=>c/\nmK o.op v λv=>K al (jf n a o.dst v)
 | none=>match core with
   | false=>False
   | true=>match alV P (evF a) o.op with
     | some (obj,mk)=>∀k:Nat,w0.heap.size <=k->Q5 al k (K (.al i k obj::al) (jf n a o.dst (mk k)))
     | none=>match rd with
       | false=>False
       | true=>match Uf P (evF a) o with
         | some (.rd s)=>exR (Wj P o) λv=>(∀w1,Below w0.heap.size w0 w1->zd (sp ops al i) w1 (s.run P w1=.ok v w1))/\K al (jf n a o.dst v)
         | some _=>False
         | none=>match vY P (evF a) o.op with
           | some (f,args)=>match rel with
             | false=>exR (shT P o.type) λv=>(∀w1,Below w0.heap.size w0 w1->zd (sp ops al i) w1 (Calls P f args w1 λe w2=>e=.returned v/\Below w1.heap.size w1 w2))/\K al (jf n a o.dst v)
             | true=>Xs P w0 i o.type f args (sp ops al i) al λal v=>K al (jf n a o.dst v)
           | none=>False
def WS (P:Program)(n:Nat)(w0:World)(hd r m:Nat->Bool)(ops:Array Oper)(K:Al->Fr->Prop):List Nat->Al->Fr->Prop
 | [],al,a=>K al a
 | i::rest,al,a=>match ops[i]? with
   | none=>False
   | some o=>WG n ops o.guard a (λa=>Wq P n w0 (LM ops hd i) (r i) (m i) ops i o al a (WS P n w0 hd r m ops K rest)) (λa=>WS P n w0 hd r m ops K rest al (jf n a o.dst undef))
theorem SC {P:Program}{n:Nat}{w0:World}{core:Bool}{r m:Nat->Bool}{ops:Array Oper}{i:Nat}{o:Oper}{al:Al}{fr:Fr}{a:Act}{K:Al->Fr->Prop}{K':Al->Act->Prop}(hwt:Region.wanted o (yielded ops a.tmps)=true)(hr:Rep n fr a)(h:Wq P n w0 core (r i) (m i) ops i o al fr K)
   (hk:∀al v,K al (jf n fr o.dst v)->K' al (a.put o.dst v)):
   (∃v,Yields P ops o v a/\K' al (a.put o.dst v))\/core=true/\((∃v,YS P ops w0 r al i o v a/\K' al (a.put o.dst v))\/(∃obj mk,NS P ops o obj mk a/\∀k,w0.heap.size <=k->(∀p∈al,p.new k)->K' (.al i k obj::al) (a.put o.dst (mk k)))\/
     (r i=true/\m i=true/\∃p Φ,LS P ops w0 al i o p Φ a/\∀v,p v->K' (.rl i (Φ v)::al) (a.put o.dst v))):=by
 unfold Wq at h
 rw[<- hr.eval]at h
 split at h
 · rename_i v hp;exact .inl ⟨v,.inl ⟨hwt,λw=>CA hp trivial w⟩,hk _ _ (sC h)⟩
 · rename_i c v hp
   split at h
   · rename_i hb
     simp only[Bool.and_eq_true]at hb
     exact .inr ⟨hb.1,.inl ⟨v,.inr ⟨hb.2,hwt,.inl λw hw hf=>CA hp (PX h.1 w hw (mF hf)) w⟩,hk _ _ (sC h.2)⟩⟩
   · exact .inl ⟨v,.inl ⟨hwt,λw=>CA hp h.1 w⟩,hk _ _ (sC h.2)⟩
 · split at h
   · cases h
   · refine .inr ⟨rfl,?_⟩
     split at h
     · rename_i obj mk hal;exact .inr (.inl ⟨obj,mk,⟨hwt,hal⟩,λk hk' hf=>hk _ _ (F4 (h k hk') hf)⟩)
     · split at h
       · cases h
       · rename_i hrd
         split at h
         · rename_i s hs;obtain⟨v,hv,h⟩:=kF h
           exact .inl ⟨v,.inr ⟨hrd,hwt,.inl λw hw hf=>by rw[yI hs,RW.next,iO (nh (hv w hw) (mF hf))]⟩,hk _ _ h⟩
         · cases h
         · split at h
           · rename_i f args hc
             split at h
             · obtain⟨v,hv,h⟩:=kF h
               exact .inl ⟨v,.inr ⟨hrd,hwt,.inr ⟨f,args,hc,λw hw hf=>nh (hv w hw) (mF hf)⟩⟩,hk _ _ h⟩
             · rename_i hrel
               unfold Xs at h
               split at h
               · rename_i s _
                 obtain⟨J,hf,hv,h⟩:=h
                 have hf':=Ji (d:=λ_=>False) (s:=s) (f:=J) (K:=λt _=>∀u u':World,t u->Below u.heap.size u u'->t u') hf (λ_ _ _ h _=>h.elim)
                 refine .inr (.inr ⟨hrd,hrel,λv=>ex0 s (λu=>v=u),λv=>ap0 (λ_=>False) s J v,⟨hwt,QA s,hf',f,args,hc,λw hw hF=>?_⟩,λv hp=>hk _ _ (SG h v hp)⟩)
                 refine(nh (hv w hw) (mF hF)).mono λe w2 he=>?_
                 obtain⟨v,hp,he,hj,hb⟩:=Vf he
                 exact⟨v,he,hp,hj,hb⟩
               · cases h
           · cases h
theorem SD {P:Program}{n:Nat}{w0:World}{hd r m:Nat->Bool}{ops:Array Oper}{Q:Al->Act->Prop} :∀{l:List Nat} {K:Al->Fr->Prop} {al:Al} {fr:Fr} {a:Act},Rep n fr a->WS P n w0 hd r m ops K l al fr->
   (∀al' fr' a',Rep n fr' a'->cG (zc ops.toList) a a'->K al' fr'->Q al' a')->MP m P ops hd r w0 Q l al a
 | [],K,al,fr,a,hr,h,hk=>hk _ _ _ hr (cG.refl _ _) h
 | i::rest,K,al,fr,a,hr,h,hk=>by
   unfold WS at h
   split at h
   · cases h
   · rename_i o ho
     have hmem:∀t,o.dst=some t->t∈zc ops.toList:=λt ht=>by
       simp only[zc,List.mem_filterMap]
       exact⟨o,by have:=Array.mem_of_getElem? ho;simpa using this,ht⟩
     have pure:(∃v,Yields P ops o v a/\MP m P ops hd r w0 Q rest al (a.put o.dst v))->MP m P ops hd r w0 Q (i::rest) al a:=by
       rintro⟨v,hY,h2⟩
       simp only[MP]
       split
       · simp only[ho]
         exact .inl ⟨v,.inl hY,h2⟩
       · exact⟨o,v,ho,hY,h2⟩
     obtain⟨fr',hr',⟨hw,h⟩|⟨hw,h⟩⟩:=GZ hr h
     · rcases SC hw hr' h λal' v h'=>SD (hr'.put o.dst v) h' λal'' f' a' hf ha hk'=>hk al'' f' a' hf ((cG.put a o.dst v hmem).trans ha) hk' with h1|⟨hco,h1⟩
       · exact pure h1
       · simp only[MP,hco,ho]
         exact h1
     · exact pure ⟨undef,.inr ⟨hw,rfl⟩,SD (hr'.put o.dst _) h λal'' f' a' hf ha hk'=>hk al'' f' a' hf ((cG.put a o.dst _ hmem).trans ha) hk'⟩
def Ql (f:Nat->Prop):List Nat->Prop
 | []=>True
 | [i]=>f i
 | i::l=>f i/\Ql f l
theorem BA {f:Nat->Prop} :∀{l:List Nat},Ql f l->∀i∈l,f i
 | [],_,_,h=>by cases h
 | [j],h,i,hi=>by simp at hi;subst hi;exact h
 | j::k::l,h,i,hi=>by
   rcases List.mem_cons.1 hi with rfl|hi
   · exact h.1
   · exact BA h.2 i hi
def takes (P:Program)(ops:Array Oper)(listed:Array Bool)(a:Fr)(i:Nat):Bool:=match ops[i]? with
 | some o=>(pv P (evF a) o.op).isSome&&Region.free .any ops listed i
 | none=>false
def WPV (r:Option PV)(K:Value->Prop):Prop:=match r with
 | some (.val v)=>K v
 | some (.part c v)=>c/\K v
 | none=>False
def WA (P:Program)(n:Nat)(ops:Array Oper)(K:Fr->World->Prop):Nat->Array Bool->Fr->World->Prop
 | 0,listed,a,w=>match Region.ready .any ops listed with
   | []=>K a w
   | _=>False
 | fuel+1,listed,a,w=>match Region.ready .any ops listed with
   | []=>K a w
   | l=>match l.find? (takes P ops listed a)with
     | some i=>match ops[i]? with
       | none=>False
       | some o=>WG n ops o.guard a (λa=>WPV (pv P (evF a) o.op) λv=>nmK o.op v λv=>WA P n ops K fuel (listed.setIfInBounds i true) (jf n a o.dst v) w) (λa=>WA P n ops K fuel (listed.setIfInBounds i true) (jf n a o.dst undef) w)
     | none=>Ql (λi=>match ops[i]? with
       | none=>False
       | some o=>WG n ops o.guard a (λa=>WOp P n o a (WA P n ops K fuel (listed.setIfInBounds i true)) w) (λa=>WA P n ops K fuel (listed.setIfInBounds i true) (jf n a o.dst undef) w)) l
theorem dP {ops:Array Oper}{i:Nat}{o:Oper}(h:ops[i]? =some o):∀t,o.dst=some t->t∈zc ops.toList:=by
 intro t ht
 simp only[zc,List.mem_filterMap]
 exact⟨o,by have:=Array.mem_of_getElem? h;simpa using this,ht⟩
theorem Jg {P:Program}{n:Nat}{ops:Array Oper}{K:Fr->World->Prop}{N:Act->World->Prop}(hs:Region.noSelect ops=true):∀{fuel:Nat} {listed:Array Bool} {fr:Fr} {a:Act} {w:World},Rep n fr a->WA P n ops K fuel listed fr w->
   (∀fr' a' w',Rep n fr' a'->cG (zc ops.toList) a a'->K fr' w'->N a' w')->wpAny P .any ops (DK N) fuel listed a w
 | 0,listed,fr,a,w,hr,h,hk=>by
   unfold WA at h
   unfold wpAny
   split at h
   · rename_i hrd;exact⟨hrd,hk _ _ _ hr (cG.refl _ _) h⟩
   · cases h
 | fuel+1,listed,fr,a,w,hr,h,hk=>by
   unfold WA at h
   split at h
   · rename_i hrd
     unfold wpAny
     refine⟨λ_=>hk _ _ _ hr (cG.refl _ _) h,λi hi=>?_⟩
     rw[hrd]at hi;cases hi
   · rename_i n1
     split at h
     · rename_i i hf
       have hmem:=List.mem_of_find?_eq_some hf
       have ht:=List.find?_some hf
       split at h
       · cases h
       · rename_i o ho
         simp only[takes,ho,Bool.and_eq_true]at ht
         obtain⟨fr',hr',⟨hw,h⟩|⟨hw,h⟩⟩:=GZ hr h
         · unfold WPV at h
           rw[<- hr'.eval]at h
           split at h
           · rename_i v hp
             exact wpAny_take ho hs ht.2 (by simpa using hmem) (λc a w hq=>hq.elim) (.inl ⟨hw,λw=>CA hp trivial w⟩)
               (Jg hs (hr'.put o.dst v) (sC h) λf' a' w'' hf ha hk'=>hk f' a' w'' hf ((cG.put a o.dst v (dP ho)).trans ha) hk')
           · rename_i c v hp
             exact wpAny_take ho hs ht.2 (by simpa using hmem) (λc a w hq=>hq.elim) (.inl ⟨hw,λw=>CA hp h.1 w⟩)
               (Jg hs (hr'.put o.dst v) (sC h.2) λf' a' w'' hf ha hk'=>hk f' a' w'' hf ((cG.put a o.dst v (dP ho)).trans ha) hk')
           · cases h
         · exact wpAny_take ho hs ht.2 (by simpa using hmem) (λc a w hq=>hq.elim) (.inr ⟨hw,rfl⟩)
             (Jg hs (hr'.put o.dst _) h λf' a' w'' hf ha hk'=>hk f' a' w'' hf ((cG.put a o.dst _ (dP ho)).trans ha) hk')
     · unfold wpAny
       refine⟨λhrd=>absurd hrd n1,λi hi=>?_⟩
       have h1:=BA h i hi
       unfold wpOp
       split at h1
       · cases h1
       · rename_i o ho
         rw[ho]
         simp only
         obtain⟨fr',hr',⟨hw,h⟩|⟨hw,h⟩⟩:=GZ hr h1
         · rw[if_pos hw]
           exact .inl (G1 hr' h λv w' h'=>Jg hs (hr'.put o.dst v) h' λf' a' w'' hf ha hk'=>hk f' a' w'' hf ((cG.put a o.dst v (dP ho)).trans ha) hk')
         · rw[if_neg (by simp[hw])]
           exact Jg hs (hr'.put o.dst _) h λf' a' w'' hf ha hk'=>hk f' a' w'' hf ((cG.put a o.dst _ (dP ho)).trans ha) hk'
section
variable {P:Program} {ops:Array Oper} {Q:Exit->Act->World->Prop} {md:Region.Mode} {S:World->Prop} {nd:Nat->Bool}
def tM (P:Program)(md:Region.Mode)(ops:Array Oper)(Q:Exit->Act->World->Prop)(S:World->Prop)(nd:Nat->Bool):Nat->Array Bool->Act->World->Prop
 | 0,listed,a,w=>Region.ready md ops listed=[]/\Q .normal a w
 | fuel+1,listed,a,w=>(Region.ready md ops listed=[]->Q .normal a w)/\
   ∀i∈Region.ready md ops listed,wpOp P ops Q i (λa' w'=>(nd i=true->S w->S w')/\tM P md ops Q S nd fuel (listed.setIfInBounds i true) a' w') a w
theorem yW:∀(fuel:Nat) (listed:Array Bool) (a:Act) (w:World),tM P md ops Q S nd fuel listed a w->wpAny P md ops Q fuel listed a w
 | 0,_,_,_,h=>h
 | fuel+1,_,_,_,h=>⟨h.1,λi hi=>wpOp_mono (λa' w' h'=>yW fuel _ a' w' h'.2) (h.2 i hi)⟩
theorem JH {i:Nat}{listed:Array Bool}(hr:i∈Region.ready md ops listed)(h1:listed.getD i false=true):False:=by
 have h0:=(mem_ready.1 hr).1
 rw[getD_both h0]at h1
 cases h1
theorem IW {i:Nat}{oi:Oper}{v:Value}(hi:ops[i]? =some oi)(hsel:∀(j:Nat) (o:Oper) cs b,ops[j]? =some o->o.op≠.select cs b)
   (hQ:∀c a w,Q (.panic c) (a.put oi.dst v) w->Q (.panic c) a w) (hnd:∀j oj,ops[j]? =some oj->j≠i->nd j=false->∃e∈oj.after,Region.binds md e=true/\e.on=i):
   ∀(fuel:Nat) (listed:Array Bool) (a:Act) (w:World),
     (∀j oj,ops[j]? =some oj->j≠i->listed.getD j true=false->(∀e∈oj.after,Region.binds md e=true->e.on≠i)->oi.apart ops oj=true)->
     i∈Region.ready md ops listed->YieldsIf P ops S oi v a->S w->
     tM P md ops Q S nd fuel (listed.setIfInBounds i true) (a.put oi.dst v) w->tM P md ops Q S nd (fuel+1) listed a w:=by
 intro fuel
 induction fuel with
 | zero=>
   intro listed a w _ hr hy hS H
   refine⟨λh=>(by rw[h]at hr;cases hr),λj hj=>?_⟩
   by_cases hji:j=i
   · subst hji;exact hy.wpOp hi hS ⟨λ_ h=>h,H⟩
   · have:=ready_mono hj hji
     rw[H.1]at this
     cases this
 | succ fuel ih=>
   intro listed a w hfree hr hy hS H
   refine⟨λh=>(by rw[h]at hr;cases hr),λj hj=>?_⟩
   by_cases hji:j=i
   · subst hji;exact hy.wpOp hi hS ⟨λ_ h=>h,H⟩
   · have h1:=H.2 j (ready_mono hj hji)
     obtain⟨hjun,oj,hoj,hall⟩:=mem_ready.1 hj
     cases hnj:nd j with
     | false=>
       obtain⟨e,he,hb,heq⟩:=hnd j oj hoj hji hnj
       exact(JH hr (by rw[<- heq];exact hall e he hb)).elim
     | true=>
       have hnot:∀e∈oj.after,Region.binds md e=true->e.on≠i:=λe he hb heq=>JH hr (by rw[<- heq];exact hall e he hb)
       have h2:=wpOp_putIf hoj (hfree j oj hoj hji hjun hnot) (λcs b=>hsel i oi cs b hi) (λcs b=>hsel j oj cs b hoj) hQ hy h1
       have hfree':∀k ok,ops[k]? =some ok->k≠i->(listed.setIfInBounds j true).getD k true=false->
           (∀e∈ok.after,Region.binds md e=true->e.on≠i)->oi.apart ops ok=true:=λk ok hk hki hun hno=>by
         refine hfree k ok hk hki ?_ hno
         by_cases hjk:j=k
         · subst hjk;exact hjun
         · rw[getD_set_ne true hjk]at hun;exact hun
       refine wpOp_mono (λa' w' h3=>⟨λ_=>h3.2.1 hnj,ih (listed.setIfInBounds j true) a' w' hfree' (ready_mono hr (Ne.symm hji)) h3.1 (h3.2.1 hnj hS) ?_⟩) h2
       rw[Array.setIfInBounds_comm _ _ hji]
       exact h3.2.2
theorem vU {i:Nat}{oi:Oper}{v:Value}(hi:ops[i]? =some oi)(hsel:∀(j:Nat) (o:Oper) cs b,ops[j]? =some o->o.op≠.select cs b)
   (hQ:∀c a w,Q (.panic c) (a.put oi.dst v) w->Q (.panic c) a w):
   ∀(fuel:Nat) (listed:Array Bool) (a:Act) (w:World),
     (∀j oj,ops[j]? =some oj->j≠i->listed.getD j true=false->(∀e∈oj.after,Region.binds md e=true->e.on≠i)->oi.apart ops oj=true)->
     i∈Region.ready md ops listed->Yields P ops oi v a->
     tM P md ops Q S nd fuel (listed.setIfInBounds i true) (a.put oi.dst v) w->tM P md ops Q S nd (fuel+1) listed a w:=by
 intro fuel
 induction fuel with
 | zero=>
   intro listed a w _ hr hy H
   refine⟨λh=>(by rw[h]at hr;cases hr),λj hj=>?_⟩
   by_cases hji:j=i
   · subst hji;exact hy.wpOp hi ⟨λ_ h=>h,H⟩
   · have:=ready_mono hj hji
     rw[H.1]at this
     cases this
 | succ fuel ih=>
   intro listed a w hfree hr hy H
   refine⟨λh=>(by rw[h]at hr;cases hr),λj hj=>?_⟩
   by_cases hji:j=i
   · subst hji;exact hy.wpOp hi ⟨λ_ h=>h,H⟩
   · have h1:=H.2 j (ready_mono hj hji)
     obtain⟨hjun,oj,hoj,hall⟩:=mem_ready.1 hj
     have hnot:∀e∈oj.after,Region.binds md e=true->e.on≠i:=λe he hb heq=>JH hr (by rw[<- heq];exact hall e he hb)
     have h2:=wpOp_put hoj (hfree j oj hoj hji hjun hnot) (λcs b=>hsel i oi cs b hi) (λcs b=>hsel j oj cs b hoj) hQ hy h1
     have hfree':∀k ok,ops[k]? =some ok->k≠i->(listed.setIfInBounds j true).getD k true=false->
         (∀e∈ok.after,Region.binds md e=true->e.on≠i)->oi.apart ops ok=true:=λk ok hk hki hun hno=>by
       refine hfree k ok hk hki ?_ hno
       by_cases hjk:j=k
       · subst hjk;exact hjun
       · rw[getD_set_ne true hjk]at hun;exact hun
     refine wpOp_mono (λa' w' h3=>⟨h3.2.1,ih (listed.setIfInBounds j true) a' w' hfree' (ready_mono hr (Ne.symm hji)) h3.1 ?_⟩) h2
     rw[Array.setIfInBounds_comm _ _ hji]
     exact h3.2.2
end
def Wc:Op->Bool
 | .load ..|.index ..|.lookup ..|.convert ..|.binOp ..|.typeAssert ..|.field ..|.build ..|.entry .. =>true
 | .call { callee:=.builtin b,.. } =>match b with|.len|.min|.max=>true|_=>false
 | _=>false
def ndL (o:Oper)(j:Nat):List Oper->Nat->Bool
 | [],_=>false
 | x::l,i=>(Wc x.op && !(Nat.beq i j) && !(o.after.toList.any λe=>Region.binds .any e&&Nat.beq e.on i)) || ndL o j l (i+1)
def ndB (ops:Array Oper)(j:Nat):Bool:=match ops[j]? with
 | some o=>ndL o j ops.toList 0
 | none=>true
theorem Sk {o:Oper}{j:Nat} :∀{l:List Oper} {k:Nat},ndL o j l k=false->∀i x,l[i]? =some x->Wc x.op=true->k+i≠j->∃e∈o.after,Region.binds .any e=true/\e.on=k+i
 | [],_,_,i,x,hx,_,_=>by simp at hx
 | y::l,k,h,i,x,hx,hr,hj=>by
   unfold ndL at h
   rw[Bool.or_eq_false_iff]at h
   cases i with
   | zero=>
     simp only[List.getElem?_cons_zero,Option.some.injEq]at hx
     subst hx
     have h1:=h.1
     have hb:Nat.beq k j=false:=by cases hb:Nat.beq k j <;> first|rfl|exact absurd (Nat.eq_of_beq_eq_true hb) hj
     rw[hr,hb,Bool.not_false,Bool.and_true,Bool.true_and,Bool.not_eq_false',List.any_eq_true]at h1
     obtain⟨e,he,h2⟩:=h1
     rw[Bool.and_eq_true]at h2
     exact⟨e,by simpa using he,h2.1,Nat.eq_of_beq_eq_true h2.2⟩
   | succ i=>
     rw[List.getElem?_cons_succ]at hx
     have:=Sk h.2 i x hx hr (by omega)
     rw[show k+1+i=k+(i+1) by omega]at this
     exact this
theorem Vw {ops:Array Oper}{i:Nat}{oi:Oper}(hi:ops[i]? =some oi)(hr:Wc oi.op=true):∀j oj,ops[j]? =some oj->j≠i->ndB ops j=false->∃e∈oj.after,Region.binds .any e=true/\e.on=i:=by
 intro j oj hj hne h
 unfold ndB at h
 rw[hj]at h
 have:=Sk h i oi (by simpa using hi) hr (by omega)
 rw[Nat.zero_add]at this
 exact this
def Sr (P:Program)(ops:Array Oper)(k:Bool)(listed:Array Bool)(a:Fr)(i:Nat):Bool:=match ops[i]? with
 | some o=>(match pv P (evF a) o.op with|some _=>true|none=>match Uf P (evF a) o with|some (.rd _)=>k&&Wc o.op|_=>false)&&Region.free .any ops listed i
 | none=>false
def WHP (P:Program)(S:World->Prop)(o:Oper)(a:Fr)(K:Value->Prop):Prop:=match pv P (evF a) o.op with
 | some (.val v)=>nmK o.op v K
 | some (.part c v)=>c/\nmK o.op v K
 | none=>match Uf P (evF a) o with
   | some (.rd s)=>exR (Wj P o) λv=>(∀w1,S w1->s.run P w1=.ok v w1)/\K v
   | _=>False
def WOY (P:Program)(n:Nat)(Y:Option (List PanicEntry->World->Prop))(o:Oper)(a:Fr)(K:Fr->World->Prop)(w:World):Prop:=match Y with
 | none=>WOp P n o a K w
 | some Y=>match vY P (evF a) o.op with
   | some (f,args)=>Calls P f args w λe w'=>(exR (shT P o.type) λv=>e=.returned v/\K (jf n a o.dst v) w')\/∃ch,e=.panicked ch/\Y ch w'
   | none=>WOp P n o a K w
def kj:Nat->List Value->Fr
 | _,[]=>[]
 | i,v::vs=>(i,v)::kj (i+1) vs
theorem kT:∀(vs:List Value) (i j:Nat),ij (kj i vs) j=if i <=j then(vs[j-i]?).getD undef else undef
 | [],i,j=>by simp[kj,ij]
 | v::vs,i,j=>by
   simp only[kj,ij]
   cases hb:Nat.beq i j with
   | true=>have:=Nat.eq_of_beq_eq_true hb;subst this;simp
   | false=>
     have hne:i≠j:=λe=>by rw[e,Nat.beq_refl]at hb;cases hb
     rw[cond_false,kT vs (i+1) j]
     by_cases hij:i <=j
     · have h1:i+1 <=j:=by omega
       have h2:j-i=(j-(i+1))+1:=by omega
       rw[if_pos h1,if_pos hij,h2];simp
     · have h1: ¬ i+1 <=j:=by omega
       rw[if_neg h1,if_neg hij]
theorem VF {n:Nat}{b:Act}(h:b.tmps.size=n):Rep n (kj 0 b.tmps.toList) b:=by
 refine⟨h,λt=>?_⟩
 rw[kT]
 simp[Array.getD_eq_getD_getElem?]
def EL (n:Nat)(S:List Tmp)(a0:Act)(N:Act->World->Prop)(Y:Option (List PanicEntry->World->Prop)):Exit->Act->World->Prop
 | .normal,a,w=>N a w
 | .panic ch,b,w=>match Y with
   | some Y=>(b.tmps.size=n/\cG S a0 b)/\Y ch w
   | none=>False
 | _,_,_=>False
theorem tX {n:Nat}{S:List Tmp}{a0:Act}{N:Act->World->Prop}{Y:Option (List PanicEntry->World->Prop)}{d:Option Tmp}{v:Value}(hd:∀t,d=some t->t∈S){c:List PanicEntry}{a:Act}{w:World}
   (h:EL n S a0 N Y (.panic c) (a.put d v) w):EL n S a0 N Y (.panic c) a w:=by
 unfold EL at h ⊢
 cases Y with
 | none=>exact h
 | some Y=>
   obtain⟨⟨h1,h2⟩,h3⟩:=h
   refine⟨⟨?_,?_⟩,h3⟩
   · rw[<- h1];cases d <;> simp[Act.put]
   · refine⟨λi hi=>?_,?_⟩
     · rw[<- h2.tmps i hi]
       exact((cG.put a d v hd).tmps i hi).symm
     · rw[<- h2.defers];cases d <;> rfl
theorem UY {P:Program}{n:Nat}{S:List Tmp}{a0:Act}{Y:Option (List PanicEntry->World->Prop)}{o:Oper}{fr:Fr}{a:Act}{K:Fr->World->Prop}{K' N:Act->World->Prop}{w:World}(hr:Rep n fr a)(hg:cG S a0 a)(h:WOY P n Y o fr K w)
   (hk:∀v w',K (jf n fr o.dst v) w'->K' (a.put o.dst v) w'):o.wp P a w K' (EL n S a0 N Y):=by
 unfold WOY at h
 split at h
 · exact G1 hr h hk
 · split at h
   · rename_i f args hc
     unfold Oper.wp
     rw[<- hr.eval]at hc
     rw[tN hc]
     refine h.mono λe w' he=>?_
     rcases he with he|⟨ch,rfl,hq⟩
     · obtain⟨v,rfl,h⟩:=kF he
       exact hk _ _ h
     · exact⟨⟨hr.size,hg⟩,hq⟩
   · exact G1 hr h hk
def WH (P:Program)(n:Nat)(ops:Array Oper)(S:World->Prop)(Y:Option (List PanicEntry->World->Prop))(K:Fr->World->Prop):Nat->Bool->Array Bool->Fr->World->Prop
 | 0,_,listed,a,w=>match Region.ready .any ops listed with
   | []=>K a w
   | _=>False
 | fuel+1,k,listed,a,w=>match Region.ready .any ops listed with
   | []=>K a w
   | l=>match l.find? (Sr P ops k listed a)with
     | some i=>match ops[i]? with
       | none=>False
       | some o=>WG n ops o.guard a (λa=>WHP P S o a λv=>WH P n ops S Y K fuel k (listed.setIfInBounds i true) (jf n a o.dst v) w) (λa=>WH P n ops S Y K fuel k (listed.setIfInBounds i true) (jf n a o.dst undef) w)
     | none=>Ql (λi=>match ops[i]? with
       | none=>False
       | some o=>WG n ops o.guard a (λa=>WOY P n Y o a (λa' w'=>match k,ndB ops i with
           | true,true=>S w'/\WH P n ops S Y K fuel true (listed.setIfInBounds i true) a' w'
           | false,true=>(S w->S w')/\WH P n ops S Y K fuel false (listed.setIfInBounds i true) a' w'
           | _,false=>WH P n ops S Y K fuel false (listed.setIfInBounds i true) a' w') w) (λa=>WH P n ops S Y K fuel k (listed.setIfInBounds i true) (jf n a o.dst undef) w)) l
theorem G0 {P:Program}{n:Nat}{ops:Array Oper}{S:World->Prop}{Y:Option (List PanicEntry->World->Prop)}{K:Fr->World->Prop}{N:Act->World->Prop}{a0:Act}(hs:Region.noSelect ops=true):∀{fuel:Nat} {k:Bool} {listed:Array Bool} {fr:Fr} {a:Act} {w:World},Rep n fr a->cG (zc ops.toList) a0 a->(k=true->S w)->WH P n ops S Y K fuel k listed fr w->
   (∀fr' a' w',Rep n fr' a'->cG (zc ops.toList) a a'->K fr' w'->N a' w')->tM P .any ops (EL n (zc ops.toList) a0 N Y) S (ndB ops) fuel listed a w
 | 0,k,listed,fr,a,w,hr,hg,hS,h,hk=>by
   unfold WH at h
   unfold tM
   split at h
   · rename_i hrd;exact⟨hrd,hk _ _ _ hr (cG.refl _ _) h⟩
   · cases h
 | fuel+1,k,listed,fr,a,w,hr,hg,hS,h,hk=>by
   unfold WH at h
   split at h
   · rename_i hrd
     unfold tM
     refine⟨λ_=>hk _ _ _ hr (cG.refl _ _) h,λi hi=>?_⟩
     rw[hrd]at hi;cases hi
   · rename_i n1
     split at h
     · rename_i i hf
       have hmem:=List.mem_of_find?_eq_some hf
       have ht:=List.find?_some hf
       split at h
       · cases h
       · rename_i o ho
         simp only[Sr,ho,Bool.and_eq_true]at ht
         obtain⟨ht,hfr⟩:=ht
         obtain⟨fr',hr',⟨hw,h⟩|⟨hw,h⟩⟩:=GZ hr h
         · unfold WHP at h
           have hev:evF fr'=evF fr:=by rw[<- hr'.eval,<- hr.eval]
           rw[hev]at h
           rw[<- hr.eval]at h ht
           split at h
           · rename_i v hp
             exact vU ho (Region.noSelect_spec hs) (λc a w hq=>tX (dP ho) hq) fuel listed a w (Region.free_spec ho hfr) hmem (.inl ⟨hw,λw=>CA hp trivial w⟩)
               (G0 hs (hr'.put o.dst v) (hg.trans (cG.put a o.dst v (dP ho))) hS (sC h) λf' a' w'' hf ha hk'=>hk f' a' w'' hf ((cG.put a o.dst v (dP ho)).trans ha) hk')
           · rename_i c v hp
             exact vU ho (Region.noSelect_spec hs) (λc a w hq=>tX (dP ho) hq) fuel listed a w (Region.free_spec ho hfr) hmem (.inl ⟨hw,λw=>CA hp h.1 w⟩)
               (G0 hs (hr'.put o.dst v) (hg.trans (cG.put a o.dst v (dP ho))) hS (sC h.2) λf' a' w'' hf ha hk'=>hk f' a' w'' hf ((cG.put a o.dst v (dP ho)).trans ha) hk')
           · rename_i hp
             rw[hp]at ht
             split at h
             · rename_i s hsv
               rw[hsv]at ht
               simp only[Bool.and_eq_true]at ht
               obtain⟨v,hv,h⟩:=kF h
               exact IW ho (Region.noSelect_spec hs) (λc a w hq=>tX (dP ho) hq) (Vw ho ht.2) fuel listed a w (Region.free_spec ho hfr) hmem (.inl ⟨hw,λw hS=>by rw[yI hsv,RW.next,iO (hv w hS)]⟩) (hS ht.1)
                 (G0 hs (hr'.put o.dst v) (hg.trans (cG.put a o.dst v (dP ho))) hS h λf' a' w'' hf ha hk'=>hk f' a' w'' hf ((cG.put a o.dst v (dP ho)).trans ha) hk')
             · cases h
         · exact vU ho (Region.noSelect_spec hs) (λc a w hq=>tX (dP ho) hq) fuel listed a w (Region.free_spec ho hfr) hmem (.inr ⟨hw,rfl⟩)
             (G0 hs (hr'.put o.dst _) (hg.trans (cG.put a o.dst _ (dP ho))) hS h λf' a' w'' hf ha hk'=>hk f' a' w'' hf ((cG.put a o.dst _ (dP ho)).trans ha) hk')
     · unfold tM
       refine⟨λhrd=>absurd hrd n1,λi hi=>?_⟩
       have h1:=BA h i hi
       unfold wpOp
       split at h1
       · cases h1
       · rename_i o ho
         rw[ho]
         simp only
         obtain⟨fr',hr',⟨hw,h⟩|⟨hw,h⟩⟩:=GZ hr h1
         · rw[if_pos hw]
           refine .inl (UY hr' hg h λv w' h'=>?_)
           have next:∀{k':Bool},(k'=true->S w')->WH P n ops S Y K fuel k' (listed.setIfInBounds i true) (jf n fr' o.dst v) w'->tM P .any ops (EL n (zc ops.toList) a0 N Y) S (ndB ops) fuel (listed.setIfInBounds i true) (a.put o.dst v) w':=λhk' hW=>
             G0 hs (hr'.put o.dst v) (hg.trans (cG.put a o.dst v (dP ho))) hk' hW λf' a' w'' hf ha hk'=>hk f' a' w'' hf ((cG.put a o.dst v (dP ho)).trans ha) hk'
           cases hnb:ndB ops i with
           | false=>
             rw[hnb]at h'
             refine⟨λh=>(by cases h),?_⟩
             cases k <;> exact next (λh=>by cases h) h'
           | true=>
             rw[hnb]at h'
             cases k with
             | true=>exact⟨λ_ _=>h'.1,next (λ_=>h'.1) h'.2⟩
             | false=>exact⟨λ_=>h'.1,next (λh=>by cases h) h'.2⟩
         · rw[if_neg (by simp[hw])]
           exact⟨λ_ h=>h,G0 hs (hr'.put o.dst _) (hg.trans (cG.put a o.dst _ (dP ho))) hS h λf' a' w'' hf ha hk'=>hk f' a' w'' hf ((cG.put a o.dst _ (dP ho)).trans ha) hk'⟩
def WW (n:Nat)(a:Fr)(c:Operand)(b:Bool):Fr:=match c with
 | .tmp t=>jf n a (some t) (.bool b)
 | _=>a
theorem KT {n:Nat}{fr:Fr}{a:Act}{c:Operand}{b:Bool}(hr:Rep n fr a)(h:evF fr c=.bool b):Rep n (WW n fr c b) a:=by
 cases c with
 | tmp t=>exact hr.again h
 | _=>exact hr
def writes:Code->List Tmp
 | .region _ ops _=>zc ops.toList
 | .seq a b=>writes a++writes b
 | .cond _ a b=>writes a++writes b
 | .block _ c|.loop c|.scope c=>writes c
 | .rangeFunc _ ps a b=>ps.toList++writes a++writes b
 | _=>[]
def wh:Code->Nat
 | .seq a b=>wh a+wh b+1
 | .cond _ a b=>wh a+wh b+1
 | .block _ c|.loop c|.scope c=>wh c+1
 | .rangeFunc _ _ a b=>wh a+wh b+1
 | _=>1
abbrev Ann:=List (Nat×List (Tmp×Sh))
def Ann.at (l:Ann)(p:Nat):Option (List (Tmp×Sh)):=match l with
 | []=>none
 | (k,x)::r=>bif Nat.beq k p then some x else Ann.at r p
def reads (a:Fr):List (Tmp×Sh)->List Value
 | []=>[]
 | (t,_)::l=>ij a t::reads a l
def fH:List (Tmp×Sh)->List Sh
 | []=>[]
 | (_,s)::l=>s::fH l
def kR:List (Tmp×Sh)->List Tmp
 | []=>[]
 | (t,_)::l=>t::kR l
def La (n:Nat)(a:Fr):List Tmp->List Value->Fr
 | t::l,v::vs=>La n (jf n a (some t) v) l vs
 | _,_=>a
def SJ:List Tmp->(List Value->Prop)->Prop
 | [],K=>K []
 | _::l,K=>∀v:Value,SJ l λvs=>K (v::vs)
theorem SK {K:List Value->Prop} :∀(l:List Tmp),(∀vs,K vs)->SJ l K:=by
 intro l
 induction l generalizing K with
 | nil=>intro h;exact h _
 | cons s l ih=>intro h;exact λ_=>ih λ_=>h _
theorem Kn {f:Tmp->Value} :∀{l:List Tmp} {K:List Value->Prop},SJ l K->K (l.map f)
 | [],_,h=>h
 | _::l,K,h=>Kn (l:=l) (h _)
def Vl:List Tmp->Tmp->Bool
 | [],_=>false
 | k::l,t=>bif Nat.beq k t then true else Vl l t
theorem KK:∀{l:List Tmp} {t:Tmp},Vl l t=true->t∈l
 | k::l,t,h=>by
   simp only[Vl]at h
   cases hb:Nat.beq k t with
   | true=>rw[Nat.eq_of_beq_eq_true hb];exact List.mem_cons_self
   | false=>rw[hb]at h;exact List.mem_cons_of_mem _ (KK h)
def I3 (S L:List Tmp):List Tmp:=match S with
 | []=>[]
 | t::S=>bif Vl L t then I3 S L else t::I3 S (t::L)
theorem F3:∀{S L:List Tmp} {t:Tmp},t∈S->t∈L\/t∈I3 S L
 | s::S,L,t,h=>by
   unfold I3
   cases hs:Vl L s with
   | true=>
     simp only[cond_true]
     rcases List.mem_cons.1 h with rfl|h
     · exact .inl (KK hs)
     · exact F3 h
   | false=>
     simp only[cond_false]
     rcases List.mem_cons.1 h with rfl|h
     · exact .inr List.mem_cons_self
     · rcases F3 (L:=s::L) h with h|h
       · rcases List.mem_cons.1 h with rfl|h
         · exact .inr List.mem_cons_self
         · exact .inl h
       · exact .inr (List.mem_cons_of_mem _ h)
theorem Gb {n:Nat}{f:Tmp->Value}(hf:∀t,¬ t<n->f t=undef):∀(l:List Tmp) (fr:Fr),(∀t,¬ t<n->ij fr t=undef)->∀i,ij (La n fr l (l.map f)) i=if i∈l then f i else ij fr i
 | [],fr,_,i=>by simp[La]
 | t::l,fr,hn,i=>by
   simp only[List.map_cons,La]
   have hn':∀j,¬ j<n->ij (jf n fr (some t) (f t)) j=undef:=by
     intro j hj
     simp only[jf]
     cases hb:Nat.ble (t+1) n with
     | false=>exact hn j hj
     | true=>
       simp only[cond_true,ij]
       cases he:Nat.beq t j with
       | false=>exact hn j hj
       | true=>rw[<- Nat.eq_of_beq_eq_true he]at hj;exact hf t hj
   rw[Gb hf l _ hn' i]
   by_cases hi:i∈l
   · simp[hi]
   · by_cases ht:i=t
     · subst ht
       simp only[hi,if_false,List.mem_cons,true_or,if_true,jf]
       cases hb:Nat.ble (i+1) n with
       | true=>
         have:Nat.beq i i=true:=Nat.beq_refl i
         simp only[cond_true,ij,this]
       | false=>
         have hlt: ¬ i<n:=by
           intro hlt
           have:Nat.ble (i+1) n=true:=Nat.ble_eq_true_of_le (by omega)
           rw[this]at hb;cases hb
         simp only[cond_false]
         rw[hn i hlt,hf i hlt]
     · have ht':Nat.beq t i=false:=by cases hb:Nat.beq t i <;> first|rfl|exact absurd (Nat.eq_of_beq_eq_true hb).symm ht
       simp only[hi,List.mem_cons,ht,or_false,if_false,jf]
       cases hb:Nat.ble (t+1) n <;> simp[ij,ht']
theorem Rep.beyond {n:Nat}{fr:Fr}{a:Act}(h:Rep n fr a)(t:Nat)(ht: ¬ t<n):ij fr t=undef:=by
 rw[<- h.get t]
 have: ¬ t<a.tmps.size:=by rw[h.size];exact ht
 simp[Array.getD,this]
theorem Lz {n:Nat}{fr fb:Fr}{a b:Act}{S L:List Tmp}(hr:Rep n fr a)(hb:Rep n fb b)(h:cG S a b):
   Rep n (La n (La n fr (I3 S L) ((I3 S L).map λt=>ij fb t)) L (L.map λt=>ij fb t)) b:=by
 refine⟨hb.size,λi=>?_⟩
 have h1:=Gb (f:=λt=>ij fb t) (λt ht=>hb.beyond t ht) (I3 S L) fr hr.beyond
 rw[Gb (f:=λt=>ij fb t) (λt ht=>hb.beyond t ht) L _ (λt ht=>by rw[h1 t];split <;> first|exact hb.beyond t ht|exact hr.beyond t ht),h1]
 by_cases c1:i∈L
 · simp[c1,hb.get]
 · by_cases c2:i∈I3 S L
   · simp[c1,c2,hb.get]
   · rw[if_neg c1,if_neg c2]
     rw[h.tmps i λhS=>?_,hr.get]
     rcases F3 (L:=L) hS with h'|h'
     · exact c1 h'
     · exact c2 h'
theorem Gc (b:Fr):∀l:List (Tmp×Sh),reads b l=(kR l).map λt=>ij b t
 | []=>rfl
 | (t,_)::l=>by simp only[reads,kR,List.map_cons,Gc b l]
def zZc (ops:Array Oper):Bool:=ops.all λo=>match o.op with
 | .alloc _|.box _ _|.buildSlice _ _ _|.makeMap _ _|.makeSlice _ _ _|.range _ _|.next _ _|.store _ _ _|.mapUpdate _ _ _ _|.insert _ _ _ _=>false
 | .call { callee:=.builtin b,.. } =>match b with|.len|.cap|.min|.max=>true|_=>false
 | _=>true
def W6 (ρ:Operand->Value)(op:Op):Option Value:=match op with
 | .panic x=>match ρ x with
   | .iface t v=>some (.iface t v)
   | _=>none
 | _=>none
theorem TY {P:Program}{ρ:Operand->Value}{o:Oper}{v:Value}(h:W6 ρ o.op=some v)(w:World):(execOp ρ o).run P w=.halt (.panic v) w:=by
 unfold W6 at h
 split at h
 · rename_i x hop
   split at h
   · rename_i t v' hv
     obtain rfl:=Option.some.inj h
     simp only[execOp,hop,hv];rfl
   · cases h
 · cases h
def WOX (P:Program)(n:Nat)(ops:Array Oper)(X:Exit->Fr->World->Prop):List Oper->(Fr->World->Prop)->Fr->World->Prop
 | [],K,a,w=>K a w
 | o::rest,K,a,w=>WG n ops o.guard a (λa=>match vY P (evF a) o.op with
     | some (f,args)=>Calls P f args w λe w'=>(exR (shT P o.type) λv=>e=.returned v/\WOX P n ops X rest K (jf n a o.dst v) w')\/∃ch,e=.panicked ch/\X (.panic ch) a w'
     | none=>match W6 (evF a) o.op with
       | some v=>X (.panic [{ v:=v,recovered:=false }]) a w
       | none=>WOp P n o a (WOX P n ops X rest K) w) (λa=>WOX P n ops X rest K (jf n a o.dst undef) w)
theorem M4 {P:Program}{n:Nat}{ops:Array Oper}{X:Exit->Fr->World->Prop}{Q:Exit->Act->World->Prop} :∀{l:List Oper} {K:Fr->World->Prop} {fr:Fr} {a:Act} {w:World},Rep n fr a->WOX P n ops X l K fr w->
   (∀fr' a' w',Rep n fr' a'->cG (zc l) a a'->K fr' w'->Q .normal a' w')->(∀ch fr' a' w',Rep n fr' a'->cG (zc l) a a'->X (.panic ch) fr' w'->Q (.panic ch) a' w')->wpList P ops Q l a w
 | [],K,fr,a,w,hr,h,hk,hx=>hk _ _ _ hr (cG.refl _ _) h
 | o::rest,K,fr,a,w,hr,h,hk,hx=>by
   unfold wpList
   obtain⟨fr',hr',⟨hw,h⟩|⟨hw,h⟩⟩:=GZ hr h
   · rw[if_pos hw]
     have on:∀v w',WOX P n ops X rest K (jf n fr' o.dst v) w'->wpList P ops Q rest (a.put o.dst v) w':=λv w' h'=>
       M4 (hr'.put o.dst v) h' (λf' a' w'' hf ha hk'=>hk f' a' w'' hf ((cG.put a o.dst v lj).trans (ha.mono nU)) hk') (λch f' a' w'' hf ha hk'=>hx ch f' a' w'' hf ((cG.put a o.dst v lj).trans (ha.mono nU)) hk')
     left
     split at h
     · rename_i f args hc
       unfold Oper.wp
       rw[<- hr'.eval]at hc
       rw[tN hc]
       refine h.mono λe w' he=>?_
       rcases he with he|⟨ch,rfl,hq⟩
       · obtain⟨v,rfl,h⟩:=kF he
         exact on _ _ h
       · exact hx ch _ _ _ hr' (cG.refl _ _) hq
     · split at h
       · rename_i v hv
         unfold Oper.wp
         rw[<- hr'.eval]at hv
         rw[TY hv]
         exact hx _ _ _ _ hr' (cG.refl _ _) h
       · exact G1 hr' h on
   · rw[if_neg (by simp[hw])]
     exact M4 (hr'.put o.dst _) h (λf' a' w'' hf ha hk'=>hk f' a' w'' hf ((cG.put a o.dst _ lj).trans (ha.mono nU)) hk') (λch f' a' w'' hf ha hk'=>hx ch f' a' w'' hf ((cG.put a o.dst _ lj).trans (ha.mono nU)) hk')
def W (P:Program)(n:Nat)(ann:Ann):Nat->Code->(Exit->Fr->World->Prop)->Fr->World->Prop
 | _,.skip,Q,a,w=>Q .normal a w
 | p,.region _ ops draw,Q,a,w=>
   match draw with
   | false=>match ann.at (5000000+p)with
     | some _=>WOX P n ops Q ops.toList (Q .normal) a w
     | none=>WO P n ops ops.toList (Q .normal) a w
   | true=>match zZc ops&&WY ops&&(ann.at (1000000+p)).isNone with
     | true=>WQ P n w ops ops.toList (λa'=>∀w':World,Below w.heap.size w w'->Q .normal a' w') a
     | false=>match ann.at (4000000+p)with
      | some _=>match Region.noSelect ops with
        | true=>∃S:World->Prop,S w.drew/\WH P n ops S none (Q .normal) ops.size true (Array.replicate ops.size false) a w.drew
        | false=>False
      | none=>match ann.at (6000000+p)with
      | some _=>match Region.noSelect ops with
        | true=>∃S:World->Prop,S w.drew/\WH P n ops S (some λch w'=>∀fr:Fr,Q (.panic ch) fr w') (Q .normal) ops.size true (Array.replicate ops.size false) a w.drew
        | false=>False
      | none=>match ann.at (3000000+p)with
       | some l=>match Wg ops (rOf ops (Mp l) (kR l)) (Mp l) (kR l)with
         | true=>WS P n w (Wa (kR l)) (rOf ops (Mp l) (kR l)) (Mp l) ops (λal a'=>∀w':World,Below w.heap.size w w'->zd al w' (WA P n ops (Q .normal) (ops.size-(kR l).length) (Wi (kR l) (Array.replicate ops.size false)) a' w')) (kR l) [] a
         | false=>False
       | none=>match ann.at (2000000+p)with
        | some ((h,_)::_)=>match Region.lexTailB .any ops h with
          | true=>WQ P n w ops (ops.toList.take h) (λa'=>∀w':World,Below w.heap.size w w'->WO P n ops (ops.toList.drop h) (Q .normal) a' w') a
          | false=>False
        | _=>match Region.noSelect ops with
          | true=>WA P n ops (Q .normal) ops.size (Array.replicate ops.size false) a w.drew
          | false=>False
 | p,.seq x y,Q,a,w=>
   match ann.at p with
   | none=>W P n ann (p+1) x (λe a' w'=>match e with|.normal=>W P n ann (p+1+wh x) y Q a' w'|e=>Q e a' w') a w
   | some live=>∃J:FP (fH live),W P n ann (p+1) x (λe a' w'=>match e with|.normal=>ap (fH live) J (reads a' live) w'|e=>Q e a' w') a w/\
       PY (fH live) λvs=>SJ (I3 (writes x) (kR live)) λus=>∀w':World,ap (fH live) J vs w'->
         W P n ann (p+1+wh x) y Q (La n (La n a (I3 (writes x) (kR live)) us) (kR live) vs) w'
 | p,.cond c x y,Q,a,w=>
   match evF a c with
   | .bool b=>ae b (W P n ann (p+1) x Q (WW n a c true) w) (W P n ann (p+1+wh x) y Q (WW n a c false) w)
   | _=>False
 | p,.block id c,Q,a,w=>W P n ann (p+1) c (λe a' w'=>match e with|.exit id'=>bif Nat.beq id' id then Q .normal a' w' else Q (.exit id') a' w'|e=>Q e a' w') a w
 | p,.loop c,Q,a,w=>
   match ann.at p with
   | none=>False
   | some live=>∃I:Nat->FP (fH live),(∃m:Nat,ap (fH live) (I m) (reads a live) w)/\
       ∀m:Nat,PY (fH live) λvs=>SJ (I3 (writes c) (kR live)) λus=>∀w':World,ap (fH live) (I m) vs w'->
         W P n ann (p+1) c (λe a' w''=>match e with|.normal=>∃m':Nat,m'<m/\ap (fH live) (I m') (reads a' live) w''|e=>Q e a' w'') (La n (La n a (I3 (writes c) (kR live)) us) (kR live) vs) w'
 | p,.scope c,Q,a,w=>W P n ann (p+1) c (λe a' w'=>match e with|.goto _=>False|e=>Q e a' w') a w
 | _,.exit id,Q,a,w=>Q (.exit id) a w
 | _,.goto l,Q,a,w=>Q (.goto l) a w
 | _,.label _,Q,a,w=>Q .normal a w
 | _,.ret,Q,a,w=>Q .ret a w
 | _,.rangeFunc _ _ _ _,_,_,_=>False
 | _,.refuse _,_,_,_=>False
theorem E2 {P:Program}{c:Code}{Q:Exit->Act->World->Prop}{a:Act}{w:World}(I:Nat->Act->World->Prop)(h₀:∃m,I m a w)
   (round:∀m a w,I m a w->c.wp P (Exit.then (λa' w'=>∃m',m'<m/\I m' a' w') Q) a w):(Code.loop c).wp P Q a w:=by
 obtain⟨m₀,h₀⟩:=h₀
 intro b k cs
 have key:∀m a w,I m a w->∃e a' w',Q e a' w'/\Arrives P (lone (b.at a (.code c::.inLoop c::k)) cs w) b k cs e a' w':=by
   intro m
   induction m using Nat.strongRecOn with
   | _ m ih=>
     intro a w hI
     obtain⟨e,a₁,w₁,hq,harr⟩:=round m a w hI b (.inLoop c::k) cs
     cases e with
     | normal=>
       obtain⟨m',hlt,hI₁⟩:=hq
       obtain⟨e₂,a₂,w₂,hq₂,harr₂⟩:=ih m' hlt a₁ w₁ hI₁
       exact⟨e₂,a₂,w₂,hq₂,.of_steps (Steps.trans harr (.one step_inLoop)) harr₂⟩
     | exit id=>exact⟨_,a₁,w₁,hq,.pass (x:=.inLoop c) rfl (λ_ _=>.inl (by simp)) harr⟩
     | goto l=>exact⟨_,a₁,w₁,hq,.pass (x:=.inLoop c) rfl (λ_ _=>.inl (by simp)) harr⟩
     | ret=>exact⟨_,a₁,w₁,hq,.pass (x:=.inLoop c) rfl (λ_ _=>.inl (by simp)) harr⟩
     | panic ch=>exact⟨_,a₁,w₁,hq,.pass (x:=.inLoop c) rfl (λ_ _=>.inl (by simp)) harr⟩
     | outgrown=>exact⟨_,a₁,w₁,hq,.pass (x:=.inLoop c) rfl (λ_ _=>.inl (by simp)) harr⟩
 obtain⟨e,a',w',hq,harr⟩:=key m₀ a w h₀
 exact⟨e,a',w',hq,.of_steps (.one step_loop) harr⟩
theorem told {n:Nat}{live:List (Tmp×Sh)}{f:FP (fH live)}{S:List Tmp}{K:Fr->World->Prop}{fr fb:Fr}{a b:Act}
   (h:PY (fH live) λvs=>SJ (I3 S (kR live)) λus=>∀w':World,ap (fH live) f vs w'->K (La n (La n fr (I3 S (kR live)) us) (kR live) vs) w')
   {w':World} (hr:Rep n fr a) (hfb:Rep n fb b) (hb:cG S a b) (hf:ap (fH live) f (reads fb live) w'):∃fr',Rep n fr' b/\K fr' w':=by
 have h1:=Jj (d:=λ_=>False) (f:=f) (K:=λt vs=>SJ (I3 S (kR live)) λus=>∀w':World,t w'->K (La n (La n fr (I3 S (kR live)) us) (kR live) vs) w') h
   (λvs=>SK _ λus w' hf=>hf.elim) (reads fb live)
 have h2:=Kn (f:=λt=>ij fb t) h1 w' hf
 rw[Gc]at h2
 exact⟨_,Lz hr hfb hb,h2⟩
theorem Lv {P:Program}(hm:P.follows .mixedOrders=true)(n:Nat)(ann:Ann):∀(c:Code) (p:Nat) (Q:Exit->Fr->World->Prop) (fr:Fr) (a:Act) (w:World),Rep n fr a->W P n ann p c Q fr w->
   ∀Q':Exit->Act->World->Prop,(∀e fr' a' w',Rep n fr' a'->cG (writes c) a a'->Q e fr' w'->Q' e a' w')->c.wp P Q' a w:=by
 intro c
 induction c with
 | skip=>intro p Q fr a w hr h Q' hq;exact wp_skip (hq _ _ _ _ hr (cG.refl _ _) h)
 | region id ops draw=>
   intro p Q fr a w hr h Q' hq
   cases draw with
   | false=>
     simp only[W]at h
     split at h
     · exact wp_region_list (M4 hr h (λf' a' w' hf ha hk=>hq _ _ _ _ hf ha hk) (λch f' a' w' hf ha hk=>hq _ _ _ _ hf ha hk))
     · exact wp_region_list (PR hr h λf' a' w' hf ha hk=>hq _ _ _ _ hf ha hk)
   | true=>
     simp only[W]at h
     split at h
     · rename_i hb
       simp only[Bool.and_eq_true]at hb
       exact wp_region_quiet (C:=Below w.heap.size w) hm (TE hb.1.2) ((Below.refl _ w).drew) (PT hr h λf' a' hf ha hk w' hw'=>hq _ _ _ _ hf ha (hk w' hw'))
     · split at h
       · split at h
         · rename_i hs
           obtain⟨S,hS,h⟩:=h
           exact Code.wp_mono (λe a w q=>by cases e <;> first|exact q|exact q.elim) (wp_region_any hm (yW _ _ _ _ (G0 (S:=S) (N:=Q' .normal) hs hr (cG.refl _ _) (λ_=>hS) h λf' a' w' hf ha hk=>hq _ _ _ _ hf ha hk)))
         · cases h
       split at h
       · split at h
         · rename_i hs
           obtain⟨S,hS,h⟩:=h
           refine Code.wp_mono (λe b w q=>?_) (wp_region_any (id:=id) hm (yW _ _ _ _ (G0 (S:=S) (N:=Q' .normal) hs hr (cG.refl _ _) (λ_=>hS) h λf' a' w' hf ha hk=>hq _ _ _ _ hf ha hk)))
           cases e <;> first|exact q|exact q.elim|exact hq _ _ _ _ (VF q.1.1) q.1.2 (q.2 _)
         · cases h
       split at h
       · split at h
         · rename_i l _ _ hs
           have hns:Region.noSelect ops=true:=by
             simp only[Wg,Bool.and_eq_true]at hs
             exact hs.1.1
           exact Code.wp_mono (λe a w q=>by cases e <;> first|exact q|exact q.elim) (GR (N:=Q' .normal) (kR l) hm hs (SD hr h λal f' a' hf ha hk w' hw'=>
             Jg (N:=Q' .normal) hns hf (nh (hk w' hw'.1) λp hp=>(hw'.2 p hp).2) λf'' a'' w'' hf' ha' hk'=>hq _ _ _ _ hf' (ha.trans ha') hk'))
         · cases h
       split at h
       · split at h
         · rename_i k _ _ _ _ hs
           have hsub1:∀t,t∈zc (ops.toList.take k)->t∈zc ops.toList:=λt ht=>by
             simp only[zc,List.mem_filterMap]at ht ⊢
             obtain⟨x,hx,e⟩:=ht
             exact⟨x,List.mem_of_mem_take hx,e⟩
           have hsub2:∀t,t∈zc (ops.toList.drop k)->t∈zc ops.toList:=λt ht=>by
             simp only[zc,List.mem_filterMap]at ht ⊢
             obtain⟨x,hx,e⟩:=ht
             exact⟨x,List.mem_of_mem_drop hx,e⟩
           exact uo (C:=Below w.heap.size w) k hm hs ((Below.refl _ w).drew) (PT hr h λf' a' hf ha hk w' hw'=>
             PR hf (hk w' hw') λf'' a'' w'' hf' ha' hk'=>hq _ _ _ _ hf' ((ha.mono hsub1).trans (ha'.mono hsub2)) hk')
         · cases h
       split at h
       · rename_i hs
         exact Code.wp_mono (λe a w q=>by cases e <;> first|exact q|exact q.elim) (wp_region_any hm (Jg (N:=Q' .normal) hs hr h λf' a' w' hf ha hk=>hq _ _ _ _ hf ha hk))
       · cases h
 | seq x y ihx ihy=>
   intro p Q fr a w hr h Q' hq
   refine wp_seq ?_
   simp only[W]at h
   split at h
   · refine ihx _ _ _ _ _ hr h _ λe f' a' w' hf ha he=>?_
     cases e with
     | normal=>exact ihy _ _ _ _ _ hf he _ λe f'' a'' w'' hf' ha' he'=>hq _ _ _ _ hf' ((ha.mono λt ht=>List.mem_append_left _ ht).trans (ha'.mono λt ht=>List.mem_append_right _ ht)) he'
     | _=>exact hq _ _ _ _ hf (ha.mono λt ht=>List.mem_append_left _ ht) he
   · rename_i live _
     obtain⟨J,h1,h2⟩:=h
     refine ihx _ _ _ _ _ hr h1 _ λe f' a' w' hf ha he=>?_
     cases e with
     | normal=>
       obtain⟨fr3,hr3,h3⟩:=told (K:=λb w'=>W P n ann (p+1+wh x) y Q b w') h2 hr hf ha he
       exact ihy _ _ _ _ _ hr3 h3 _ λe f'' a'' w'' hf' ha' he'=>hq _ _ _ _ hf' ((ha.mono λt ht=>List.mem_append_left _ ht).trans (ha'.mono λt ht=>List.mem_append_right _ ht)) he'
     | _=>exact hq _ _ _ _ hf (ha.mono λt ht=>List.mem_append_left _ ht) he
 | cond c x y ihx ihy=>
   intro p Q fr a w hr h Q' hq
   simp only[W]at h
   split at h
   · rename_i b hb
     have hb':a.eval c=.bool b:=by rw[hr.eval];exact hb
     refine wp_cond_split hb' (λe=>?_) (λe=>?_)
     · subst e
       exact ihx _ _ _ _ _ (KT hr hb) h _ λe f' a' w' hf ha he=>hq _ _ _ _ hf (ha.mono λt ht=>List.mem_append_left _ ht) he
     · subst e
       exact ihy _ _ _ _ _ (KT hr hb) h _ λe f' a' w' hf ha he=>hq _ _ _ _ hf (ha.mono λt ht=>List.mem_append_right _ ht) he
   · cases h
 | block id c ih=>
   intro p Q fr a w hr h Q' hq
   refine wp_block (ih _ _ _ _ _ hr h _ λe f' a' w' hf ha he=>?_)
   cases e with
   | exit id'=>
     simp only[Exit.inBlock]at he ⊢
     cases hb:Nat.beq id' id with
     | true=>rw[if_pos (Nat.eq_of_beq_eq_true hb)];rw[hb]at he;exact hq _ _ _ _ hf ha he
     | false=>
       rw[if_neg (λe=>by rw[e,Nat.beq_refl]at hb;cases hb)]
       rw[hb]at he;exact hq _ _ _ _ hf ha he
   | _=>exact hq _ _ _ _ hf ha he
 | loop c ih=>
   intro p Q fr a w hr h Q' hq
   simp only[W]at h
   split at h
   · cases h
   · rename_i live _
     obtain⟨I,⟨m0,h0⟩,h⟩:=h
     refine E2 (λm b w'=>∃fb,Rep n fb b/\cG (writes c) a b/\ap (fH live) (I m) (reads fb live) w') ⟨m0,fr,hr,cG.refl _ _,h0⟩ λm b w' ⟨fb,hfb,hb,hI⟩=>?_
     obtain⟨fr3,hr3,h3⟩:=told (K:=λb w'=>W P n ann (p+1) c (λe a' w''=>match e with|.normal=>∃m':Nat,m'<m/\ap (fH live) (I m') (reads a' live) w''|e=>Q e a' w'') b w') (h m) hr hfb hb hI
     refine ih _ _ _ _ _ hr3 h3 _ λe f' a' w'' hf ha he=>?_
     cases e with
     | normal=>obtain⟨m',hlt,hI'⟩:=he;exact⟨m',hlt,f',hf,hb.trans ha,hI'⟩
     | _=>exact hq _ _ _ _ hf (hb.trans ha) he
 | scope c ih=>
   intro p Q fr a w hr h Q' hq
   refine wp_scope_straight (ih _ _ _ _ _ hr h _ λe f' a' w' hf ha he=>?_)
   cases e with
   | goto l=>exact he.elim
   | _=>exact hq _ _ _ _ hf ha he
 | exit id=>intro p Q fr a w hr h Q' hq;exact wp_exit (hq _ _ _ _ hr (cG.refl _ _) h)
 | goto l=>intro p Q fr a w hr h Q' hq;exact wp_goto (hq _ _ _ _ hr (cG.refl _ _) h)
 | label l=>intro p Q fr a w hr h Q' hq;exact wp_label (hq _ _ _ _ hr (cG.refl _ _) h)
 | ret=>intro p Q fr a w hr h Q' hq;exact wp_ret (hq _ _ _ _ hr (cG.refl _ _) h)
 | rangeFunc f ps x y ihx ihy=>intro p Q fr a w hr h;exact h.elim
 | refuse=>intro p Q fr a w hr h;exact h.elim
def Ret (K:Value->World->Prop):Ending->World->Prop:=λe w=>∃v,e=.returned v/\K v w
def Ll:List ResultVar->Option (List Tmp)
 | []=>some []
 | .tmp t::l=>(Ll l).map (t:: ·)
 | .cell _ _::_=>none
def shZ (P:Program)(t:TypeId):Sh:=match(P.info? t).bind (·.zero)with|some v=>shV v|none=>.one .any
def qN (l:List Value):Value:=match l with|[v]=>v|l=>.tuple l.toArray
def LH (ρ:Tmp->Value)(r:ResultVar):Sem Value:=match r with
 | .tmp t=>pure (ρ t)
 | .cell a t=>do loadVar t (<- asAddr (ρ a))
def UT (rs:Array ResultVar)(ρ:Tmp->Value):Sem Value:=do
 let vs <- rs.mapM (LH ρ)
 pure (if h:vs.size=1 then vs[0]else .tuple vs)
def aV (t:TypeId)(v:Value):Sem Value:=do loadVar t (<- asAddr v)
def WR (P:Program)(ρ:Tmp->Value)(w:World):List ResultVar->(List Value->Prop)->Prop
 | [],k=>k []
 | .tmp t::rs,k=>WR P ρ w rs λvs=>k (ρ t::vs)
 | .cell a t::rs,k=>exS (shZ P t) λv=>(aV t (ρ a)).run P w=.ok v w/\WR P ρ w rs λvs=>k (v::vs)
theorem M5 {P:Program}{ρ:Tmp->Value}{w:World} :∀(rs:List ResultVar) (k:List Value->Prop),WR P ρ w rs k->∃vs,(rs.mapM (LH ρ)).run P w=.ok vs w/\k vs
 | [],k,h=>⟨[],rfl,h⟩
 | .tmp t::rs,k,h=>by
   obtain⟨vs,h1,h2⟩:=M5 rs _ h
   refine⟨_,?_,h2⟩
   rw[List.mapM_cons]
   have e:LH ρ (.tmp t)=pure (ρ t):=rfl
   simp only[e,Sem.run_bind,Sem.run_pure,Result.andThen_ok,h1]
 | .cell a t::rs,k,h=>by
   obtain⟨v,h0,h⟩:=JC h
   obtain⟨vs,h1,h2⟩:=M5 rs _ h
   refine⟨_,?_,h2⟩
   rw[List.mapM_cons]
   have e:LH ρ (.cell a t)=aV t (ρ a):=rfl
   simp only[e,Sem.run_bind,Sem.run_pure,Result.andThen_ok,h0,h1]
def WB (P:Program)(fn:Func)(K:Value->World->Prop):Exit->Fr->World->Prop
 | .normal,a,w|.ret,a,w=>match Ll fn.results.toList with
     | some l=>K (qN (l.map λt=>ij a t)) w
     | none=>WR P (ij a) w fn.results.toList λvs=>K (qN vs) w
 | _,_,_=>False
theorem ua (fn:Func)(tmps:Array Value):results fn tmps=UT fn.results λt=>tmps.getD t undef:=rfl
theorem results_tmq {P:Program}{rs:Array ResultVar}{l:List Tmp}(h:Ll rs.toList=some l)(ρ:Tmp->Value)(w:World):
   (UT rs ρ).run P w=.ok (qN (l.map ρ)) w:=by
 have hm:∀(rs:List ResultVar) (l:List Tmp),Ll rs=some l->(rs.mapM (LH ρ)).run P w=.ok (l.map ρ) w:=by
   intro rs
   induction rs with
   | nil=>intro l h;simp[Ll]at h;subst h;rfl
   | cons r rs ih=>
     intro l h
     cases r with
     | tmp t=>
       cases hr:Ll rs with
       | none=>simp[Ll,hr]at h
       | some l'=>
         simp[Ll,hr]at h;subst h
         rw[List.mapM_cons]
         have e:LH ρ (.tmp t)=pure (ρ t):=rfl
         simp only[e,Sem.run_bind,Sem.run_pure,Result.andThen_ok,ih _ hr,List.map_cons]
     | cell a t=>simp[Ll]at h
 unfold UT
 rw[Sem.run_bind,Array.mapM_eq_mapM_toList,Sem.run_map,hm _ _ h]
 simp only[Result.andThen_ok,Sem.run_pure]
 congr 1
 generalize (l.map ρ)=vs
 match vs with
 | []=>rfl
 | [v]=>rfl
 | v::u::vs=>simp[qN]
theorem ar {P:Program}(hm:P.follows .mixedOrders=true){f:FuncId}{fn:Func}{c:Code}(hf:P.funcs[f]? =some fn)(hb:fn.body=some c)(ann:Ann)(args:List Value)(hn:args.length <=fn.ntmps)
   {w:World} {K:Value->World->Prop} (V:Prop) (he:W P fn.ntmps ann 0 c (WB P fn K) (kj 0 args) w=V) (h:V):Calls P f args.toArray w (Ret K):=by
 refine calls_of_wp hf hb ?_
 have hr:Rep fn.ntmps (kj 0 args) { tmps:=args.toArray++Array.replicate (fn.ntmps-args.toArray.size) undef,defers:=[] } :=by
   refine⟨by simp;omega,λt=>?_⟩
   rw[kT]
   simp only[Nat.zero_le,if_true,Nat.sub_zero,Array.getD_eq_getD_getElem?,Array.getElem?_append,List.size_toArray,List.getElem?_toArray]
   by_cases ht:t<args.length
   · simp[ht]
   · simp only[if_neg ht]
     rw[List.getElem?_eq_none (by omega:args.length <=t)]
     simp only[Array.getElem?_replicate]
     split <;> rfl
 refine Lv hm _ ann c 0 _ _ _ _ hr (he▸h) _ λe fr' a' w' hr' hg he=>?_
 have hg:a'.defers=[]:=hg.defers
 have key:∀{a:Act} {fr:Fr} {w:World},Rep fn.ntmps fr a->a.defers=[]->(match Ll fn.results.toList with
     | some l=>K (qN (l.map λt=>ij fr t)) w
     | none=>WR P (ij fr) w fn.results.toList λvs=>K (qN vs) w)->a.defers=[]/\∃v,(results fn a.tmps).run P w=.ok v w/\Ret K (.returned v) w:=by
   intro a fr w hr hd h
   have e:(λt=>a.tmps.getD t undef)=ij fr:=funext hr.get
   refine⟨hd,?_⟩
   rw[ua,e]
   split at h
   · rename_i l hl;exact⟨_,results_tmq hl _ _,_,rfl,h⟩
   · obtain⟨vs,hv,h⟩:=M5 _ _ h
     refine⟨qN vs,?_,_,rfl,h⟩
     unfold UT
     rw[Sem.run_bind,Array.mapM_eq_mapM_toList,Sem.run_map,hv]
     simp only[Result.andThen_ok,Sem.run_pure]
     congr 1
     match vs with
     | []=>rfl
     | [v]=>rfl
     | v::u::vs=>simp[qN]
 cases e with
 | normal=>exact key hr' hg he
 | ret=>exact key hr' hg he
 | _=>exact he.elim
def WBX (P:Program)(fn:Func)(K:Value->World->Prop)(X:List PanicEntry->World->Prop):Exit->Fr->World->Prop
 | .normal,a,w|.ret,a,w=>match Ll fn.results.toList with
     | some l=>K (qN (l.map λt=>ij a t)) w
     | none=>WR P (ij a) w fn.results.toList λvs=>K (qN vs) w
 | .panic ch,_,w=>X ch w
 | _,_,_=>False
def Jb (K:Value->World->Prop)(X:List PanicEntry->World->Prop)(e:Ending)(w:World):Prop:=(∃v,e=.returned v/\K v w)\/∃ch,e=.panicked ch/\X ch w
theorem qj {P:Program}(hm:P.follows .mixedOrders=true){f:FuncId}{fn:Func}{c:Code}(hf:P.funcs[f]? =some fn)(hb:fn.body=some c)(ann:Ann)(args:List Value)(hn:args.length <=fn.ntmps)
   {w:World} {K:Value->World->Prop} {X:List PanicEntry->World->Prop} (V:Prop) (he:W P fn.ntmps ann 0 c (WBX P fn K X) (kj 0 args) w=V) (h:V):Calls P f args.toArray w (Jb K X):=by
 refine calls_of_wp hf hb ?_
 have hr:Rep fn.ntmps (kj 0 args) { tmps:=args.toArray++Array.replicate (fn.ntmps-args.toArray.size) undef,defers:=[] } :=by
   refine⟨by simp;omega,λt=>?_⟩
   rw[kT]
   simp only[Nat.zero_le,if_true,Nat.sub_zero,Array.getD_eq_getD_getElem?,Array.getElem?_append,List.size_toArray,List.getElem?_toArray]
   by_cases ht:t<args.length
   · simp[ht]
   · simp only[if_neg ht]
     rw[List.getElem?_eq_none (by omega:args.length <=t)]
     simp only[Array.getElem?_replicate]
     split <;> rfl
 refine Lv hm _ ann c 0 _ _ _ _ hr (he▸h) _ λe fr' a' w' hr' hg he=>?_
 have hg:a'.defers=[]:=hg.defers
 have key:∀{a:Act} {fr:Fr} {w:World},Rep fn.ntmps fr a->a.defers=[]->(match Ll fn.results.toList with
     | some l=>K (qN (l.map λt=>ij fr t)) w
     | none=>WR P (ij fr) w fn.results.toList λvs=>K (qN vs) w)->a.defers=[]/\∃v,(results fn a.tmps).run P w=.ok v w/\Jb K X (.returned v) w:=by
   intro a fr w hr hd h
   have e:(λt=>a.tmps.getD t undef)=ij fr:=funext hr.get
   refine⟨hd,?_⟩
   rw[ua,e]
   split at h
   · rename_i l hl;exact⟨_,results_tmq hl _ _,.inl ⟨_,rfl,h⟩⟩
   · obtain⟨vs,hv,h⟩:=M5 _ _ h
     refine⟨qN vs,?_,.inl ⟨_,rfl,h⟩⟩
     unfold UT
     rw[Sem.run_bind,Array.mapM_eq_mapM_toList,Sem.run_map,hv]
     simp only[Result.andThen_ok,Sem.run_pure]
     congr 1
     match vs with
     | []=>rfl
     | [v]=>rfl
     | v::u::vs=>simp[qN]
 cases e with
 | normal=>exact key hr' hg he
 | ret=>exact key hr' hg he
 | panic ch=>exact⟨hg,.inr ⟨ch,rfl,he⟩⟩
 | _=>exact he.elim
theorem aB {P:Program}{f:FuncId}{args:Array Value}{w:World}{K:Value->World->Prop}{R:Ending->World->Prop}(h:Calls P f args w (Ret K))(hk:∀v w',K v w'->R (.returned v) w'):
   Calls P f args w R:=h.mono λe w' ⟨v,he,hv⟩=>by subst he;exact hk v w' hv
def eF (s:List UInt8)(j:Int):Int:=((s[j.toNat]?.getD 0).toNat:Nat)
def am (a:Option Addr)(j:Int)(size:Nat):Option Addr:=a.map (·.add (j.toNat*size))
def sS (a:Option Addr)(c l size:Nat):Option Addr:=if c=l then a else a.map (·.add (l*size))
def aN:Nat->Prop->Prop
 | 0,X=>X
 | k+1,X=>∀_:Value,aN k X
theorem aN.of {X:Prop}(h:X):∀k,aN k X
 | 0=>h
 | k+1=>λ_=>aN.of h k
def aq (fn:Func):Code:=fn.body.getD .skip
end Go.Pk
