/- What the laws lean on: W; what is used. Its conditions: none. -/
import Derived.Test.YtlfolncaghkmcaaGreatDoorProg
import Derived.Calls
import Derived.Scope
import Derived.Below
import Derived.Deep.Quiet
import Derived.StillTail
import Derived.Laws.Strings
import Derived.KernelRfl
variable {P:Go.Program}{n i j:Nat}{t:Go.TypeId}{w:Go.World}{o:Go.Oper}{y:Go.Operand->Go.Value}{D:Array Go.Oper}{E:Bool}{H:Array Go.Value}{I:Go.Obj}{J:Nat->Go.Value}{K:Array Bool}
open Go.IntKind (i64)
open Go.Proofs.Tryz
set_option linter.unusedVariables false
set_option linter.unusedSimpArgs false
namespace Go.Pk
open Go.RowKit (Below)
open Go.Proofs
theorem dFx {p:Prop}{_:Decidable p} :decide p=false <->Not p:=decide_eq_false_iff_not
theorem dTx {p:Prop}[Decidable p]:(decide p=true)=p:=decide_eq_true_eq
def mkS (l:List UInt8):ByteArray:=⟨l.toArray⟩
def toL (b:ByteArray):List UInt8:=b.data.toList
@[simp] theorem toL_mkS (l:List UInt8):toL (mkS l)=l:=rfl
inductive S0 where
 |int (k:IntKind)|bool|str|slice|ptr|map|any
inductive Sh where
 |one (s:S0)
 |agg (l:List S0)
def ex0:S0->(Value->Prop)->Prop
 |.int k,K=>∃n:Int,K (.int k n)
 |.bool,K=>∃b:Bool,K (.bool b)
 |.str,K=>∃l:List UInt8,K (.string (mkS l))
 |.slice,K=>∃(a:Option Addr) (n c:Nat),K (.slice a n c)
 |.ptr,K=>∃a:Option Addr,K (.pointer a)
 |.map,K=>∃r:Option Nat,K (.map r)
 |.any,K=>∃v:Value,K v
def XJ:List S0->(List Value->Prop)->Prop
 |[],K=>K []
 |s::l,K=>ex0 s λv=>XJ l λvs=>K (v::vs)
def exS:Sh->(Value->Prop)->Prop
 |.one s,K=>ex0 s K
 |.agg l,K=>XJ l λvs=>K (.agg vs.toArray)
def exL:List Sh->(List Value->Prop)->Prop
 |[],K=>K []
 |s::l,K=>exS s λv=>exL l λvs=>K (v::vs)
def exR:List Sh->(Value->Prop)->Prop
 |[s],K=>exS s K
 |l,K=>exL l λvs=>K (.tuple vs.toArray)
theorem St {s:S0}{K:Value->Prop}(h:ex0 s K):∃v,K v:=by
 cases s <;> simp only[ex0]at h <;> (first|(obtain⟨_,h⟩:=h;exact⟨_,h⟩)|(obtain⟨_,_,_,h⟩:=h;exact⟨_,h⟩))
theorem Qk:∀{l:List S0} {K:List Value->Prop},XJ l K->∃v,K v
 |[],_,h=>⟨_,h⟩
 |_::_,_,h=>let⟨_,h1⟩:=St h;let⟨_,h2⟩:=Qk h1;⟨_,h2⟩
theorem Pg {s:Sh}{K:Value->Prop}(h:exS s K):∃v,K v:=by
 cases s with
 |one s=>exact St h
 |agg l=>obtain⟨v,h⟩:=Qk h;exact⟨_,h⟩
theorem Sw:∀{l:List Sh} {K:List Value->Prop},exL l K->∃v,K v
 |[],_,h=>⟨_,h⟩
 |_::_,_,h=>let⟨_,h1⟩:=Pg h;let⟨_,h2⟩:=Sw h1;⟨_,h2⟩
theorem Fk {l:List Sh}{K:Value->Prop}(h:exR l K):∃v,K v:=by
 unfold exR at h
 split at h
 ·exact Pg h
 ·obtain⟨v,h⟩:=Sw h;exact⟨_,h⟩
def XC:S0->(Value->Prop)->Prop
 |.int k,K=>∀n:Int,K (.int k n)
 |.bool,K=>∀b:Bool,K (.bool b)
 |.str,K=>∀l:List UInt8,K (.string (mkS l))
 |.slice,K=>∀(a:Option Addr) (n c:Nat),K (.slice a n c)
 |.ptr,K=>∀a:Option Addr,K (.pointer a)
 |.map,K=>∀r:Option Nat,K (.map r)
 |.any,K=>∀v:Value,K v
def RQ:List S0->(List Value->Prop)->Prop
 |[],K=>K []
 |s::l,K=>XC s λv=>RQ l λvs=>K (v::vs)
def X1:Sh->(Value->Prop)->Prop
 |.one s,K=>XC s K
 |.agg l,K=>RQ l λvs=>K (.agg vs.toArray)
def Vz:List Sh->(List Value->Prop)->Prop
 |[],K=>K []
 |s::l,K=>X1 s λv=>Vz l λvs=>K (v::vs)
def F0 (s:S0)(T:Type):Type:=match s with
 |.int _=>Int->T
 |.bool=>Bool->T
 |.str=>List UInt8->T
 |.slice=>Option Addr->Nat->Nat->T
 |.ptr=>Option Addr->T
 |.map=>Option Nat->T
 |.any=>Value->T
def FL0:List S0->Type->Type
 |[],T=>T
 |s::l,T=>F0 s (FL0 l T)
def FSh:Sh->Type->Type
 |.one s,T=>F0 s T
 |.agg l,T=>FL0 l T
def FL:List Sh->Type->Type
 |[],T=>T
 |s::l,T=>FSh s (FL l T)
abbrev FP (l:List Sh):Type:=FL l (World->Prop)
def dF0 {T:Type}(d:T):(s:S0)->F0 s T
 |.int _=>λ_=>d
 |.bool=>λ_=>d
 |.str=>λ_=>d
 |.slice=>λ_ _ _=>d
 |.ptr=>λ_=>d
 |.map=>λ_=>d
 |.any=>λ_=>d
def dL0 {T:Type}(d:T):(l:List S0)->FL0 l T
 |[]=>d
 |s::l=>dF0 (dL0 d l) s
def dS {T:Type}(d:T):(s:Sh)->FSh s T
 |.one s=>dF0 d s
 |.agg l=>dL0 d l
def dL {T:Type}(d:T):(l:List Sh)->FL l T
 |[]=>d
 |s::l=>dS (dL d l) s
def ap0 {T:Type}(d:T):(s:S0)->F0 s T->Value->T
 |.int k,f,.int k' n=>if k=k' then f n else d
 |.bool,f,.bool b=>f b
 |.str,f,.string b=>f (toL b)
 |.slice,f,.slice a n c=>f a n c
 |.ptr,f,.pointer a=>f a
 |.map,f,.map r=>f r
 |.any,f,v=>f v
 |_,_,_=>d
def U6 {T:Type}(d:T):(l:List S0)->FL0 l T->List Value->T
 |[],f,[]=>f
 |s::l,f,v::vs=>U6 d l (ap0 (dL0 d l) s f v) vs
 |_,_,_=>d
def apS {T:Type}(d:T):(s:Sh)->FSh s T->Value->T
 |.one s,f,v=>ap0 d s f v
 |.agg l,f,.agg cs=>U6 d l f cs.toList
 |_,_,_=>d
def apL {T:Type}(d:T):(l:List Sh)->FL l T->List Value->T
 |[],f,[]=>f
 |s::l,f,v::vs=>apL d l (apS (dL d l) s f v) vs
 |_,_,_=>d
abbrev ap (l:List Sh)(f:FP l)(vs:List Value):World->Prop:=apL (λ_=>False) l f vs
theorem RP {T:Type}{d:T}{s:S0}{f:F0 s T}{K:T->Value->Prop}(h:XC s λv=>K (ap0 d s f v) v)(q:∀v,K d v):∀v,K (ap0 d s f v) v:=by
 intro v
 cases s <;> cases v <;> (first|exact q _|exact h _|exact h _ _ _|skip)
 case int.int k k' n=>
  by_cases e:k=k'
  ·subst e;exact h n
  ·simp only[ap0,if_neg e];exact q _
theorem WT {T:Type}{d:T}(s:S0)(v:Value):ap0 d s (dF0 d s) v=d:=by
 cases s
 case int k=>
  cases v
  case int k' n=>
   by_cases e:k=k'
   ·subst e;simp only[ap0,if_true];rfl
   ·simp only[ap0,if_neg e]
  all_goals rfl
 all_goals(cases v <;> rfl)
theorem RT {T:Type}{d:T} :∀(l:List S0) (vs:List Value),U6 d l (dL0 d l) vs=d
 |[],[]=>rfl
 |[],_::_=>rfl
 |_::_,[]=>rfl
 |s::l,v::vs=>by
  have h:U6 d (s::l) (dL0 d (s::l)) (v::vs)=U6 d l (ap0 (dL0 d l) s (dF0 (dL0 d l) s) v) vs:=rfl
  rw[h,WT];exact RT l vs
theorem XE {T:Type}{d:T}(s:Sh)(v:Value):apS d s (dS d s) v=d:=by
 cases s with
 |one s=>exact WT s v
 |agg l=>
  cases v
  case agg cs=>exact RT _ _
  all_goals rfl
theorem WU {T:Type}{d:T} :∀(l:List Sh) (vs:List Value),apL d l (dL d l) vs=d
 |[],[]=>rfl
 |[],_::_=>rfl
 |_::_,[]=>rfl
 |s::l,v::vs=>by
  have h:apL d (s::l) (dL d (s::l)) (v::vs)=apL d l (apS (dL d l) s (dS (dL d l) s) v) vs:=rfl
  rw[h,XE];exact WU l vs
theorem P4 {K:List Value->Prop} :∀(l:List S0),(∀vs,K vs)->RQ l K:=by
 intro l
 induction l generalizing K with
 |nil=>intro h;exact h _
 |cons s l e=>intro h;cases s <;> (first|exact λ_=>e λ_=>h _|exact λ_ _ _=>e λ_=>h _)
theorem VA {K:List Value->Prop} :∀(l:List Sh),(∀vs,K vs)->Vz l K:=by
 intro l
 induction l generalizing K with
 |nil=>intro h;exact h _
 |cons s l e=>
  intro h
  cases s with
  |one s=>cases s <;> (first|exact λ_=>e λ_=>h _|exact λ_ _ _=>e λ_=>h _)
  |agg s=>exact P4 s λ_=>e λ_=>h _
theorem P3 {T:Type}{d:T} :∀{l:List S0} {f:FL0 l T} {K:T->List Value->Prop},(RQ l λvs=>K (U6 d l f vs) vs)->(∀vs,K d vs)->∀vs,K (U6 d l f vs) vs
 |[],f,K,h,e,vs=>by cases vs with
  |nil=>exact h
  |cons=>exact e _
 |s::l,f,K,h,e,vs=>by
  cases vs with
  |nil=>exact e _
  |cons v vs=>
   have h1:=RP (d:=dL0 d l) (s:=s) (f:=f) (K:=λg v=>RQ l λvs=>K (U6 d l g vs) (v::vs)) h
    (λv=>by simp only[RT];exact P4 l λ_=>e _) v
   exact P3 (f:=ap0 (dL0 d l) s f v) (K:=λt vs=>K t (v::vs)) h1 (λ_=>e _) vs
theorem VB {T:Type}{d:T}{s:Sh}{f:FSh s T}{K:T->Value->Prop}(h:X1 s λv=>K (apS d s f v) v)(e:∀v,K d v):∀v,K (apS d s f v) v:=by
 intro v
 cases s with
 |one s=>exact RP (K:=K) h e v
 |agg l=>
  cases v <;> (first|exact e _|skip)
  case agg cs=>
   have:=P3 (d:=d) (l:=l) (f:=f) (K:=λt vs=>K t (.agg vs.toArray)) h (λ_=>e _) cs.toList
   simpa[apS]using this
theorem RR {T:Type}{d:T} :∀{l:List Sh} {f:FL l T} {K:T->List Value->Prop},(Vz l λvs=>K (apL d l f vs) vs)->(∀vs,K d vs)->∀vs,K (apL d l f vs) vs
 |[],f,K,h,e,vs=>by cases vs with
  |nil=>exact h
  |cons=>exact e _
 |s::l,f,K,h,e,vs=>by
  cases vs with
  |nil=>exact e _
  |cons v vs=>
   have h1:=VB (d:=dL d l) (s:=s) (f:=f) (K:=λg v=>Vz l λvs=>K (apL d l g vs) (v::vs)) h
    (λv=>by simp only[WU];exact VA l λ_=>e _) v
   exact RR (f:=apS (dL d l) s f v) (K:=λt vs=>K t (v::vs)) h1 (λ_=>e _) vs
inductive PV where
 |val (v:Value)
 |part (c:Prop) (v:Value)
def V0 (op:BinOp)(k:IntKind)(a b:Int):Option PV:=
 match op with
 |.add=>some (.val (.int k (k.wrap (a+b))))
 |.sub=>some (.val (.int k (k.wrap (a-b))))
 |.mul=>some (.val (.int k (k.wrap (a*b))))
 |.quo=>some (.part (b≠0) (.int k (k.wrap (a.tdiv b))))
 |.rem=>some (.part (b≠0) (.int k (a.tmod b)))
 |.and=>some (.val (.int k (k.wrap ((BitVec.ofInt k.bits a &&& BitVec.ofInt k.bits b).toNat:Nat))))
 |.or=>some (.val (.int k (k.wrap ((BitVec.ofInt k.bits a ||| BitVec.ofInt k.bits b).toNat:Nat))))
 |.xor=>some (.val (.int k (k.wrap ((BitVec.ofInt k.bits a ^^^ BitVec.ofInt k.bits b).toNat:Nat))))
 |.eql=>some (.val (.bool (a==b)))
 |.neq=>some (.val (.bool (a !=b)))
 |.lss=>some (.val (.bool (decide (a<b))))
 |.leq=>some (.val (.bool (decide (a <=b))))
 |.gtr=>some (.val (.bool (decide (a>b))))
 |.geq=>some (.val (.bool (decide (a >=b))))
 |_=>none
def Wi (op:BinOp)(x y:List UInt8):Option PV:=
 match op with
 |.add=>some (.part (((x.length+y.length:Nat):Int) <=i64.max) (.string (mkS (x++y))))
 |.eql=>some (.val (.bool (x==y)))
 |.neq=>some (.val (.bool (!(x==y))))
 |.lss=>some (.val (.bool (Op.bytesLess x y)))
 |.leq=>some (.val (.bool (Op.bytesLess x y || x==y)))
 |.gtr=>some (.val (.bool (!(Op.bytesLess x y || x==y))))
 |.geq=>some (.val (.bool (!Op.bytesLess x y)))
 |_=>none
def XF (P:Program)(op:BinOp)(t:TypeId)(x y:Value):Option PV:=
 match x,y with
 |.int k a,.int k' b=>
  match op with
  |.shl=>some (.part (0 <=b) (.int k (k.wrap (a*2 ^ (min b.toNat k.bits)))))
  |.shr=>some (.part (0 <=b) (.int k (a.fdiv (2 ^ (min b.toNat k.bits)))))
  |op=>if k=k' then V0 op k a b else none
 |.string a,.string b=>Wi op (toL a) (toL b)
 |.bool a,.bool b=>
  match P.underlying t,op with
  |some .bool,.eql=>some (.val (.bool (a==b)))
  |some .bool,.neq=>some (.val (.bool (!(a==b))))
  |_,_=>none
 |.pointer a,.pointer none=>
  match P.underlying t,op with
  |some (.pointer _),.eql=>some (.val (.bool a.isNone))
  |some (.pointer _),.neq=>some (.val (.bool (!a.isNone)))
  |_,_=>none
 |_,_=>none
def unV (op:UnOp)(x:Value):Option PV:=
 match op,x with
 |.neg,.int k n=>some (.val (.int k (k.wrap (0-n))))
 |.not,.bool b=>some (.val (.bool (!b)))
 |_,_=>none
def Oq (P:Program)(t:TypeId)(cs:Array Value)(off:Nat):Option Value:=
 match P.underlying t with
 |some (.struct _)|some (.array _ _)=>(P.info? t).map λi=>.agg (cs.extract off (off+i.size))
 |some _=>cs[off]?
 |none=>none
def Eo (d:Nat):Option Value->Option Nat
 |none=>some d
 |some (.int _ n)=>some n.toNat
 |_=>none
def Dr (lo hi:Option Value)(y:Nat)(d:Nat):Prop:=
 match lo,hi with
 |none,none=>True
 |some (.int _ l),none=>0 <=l/\l <=(d:Int)
 |none,some (.int _ h)=>0 <=h/\h <=(y:Int)
 |some (.int _ l),some (.int _ h)=>(0 <=h/\h <=(y:Int))/\0 <=l/\l <=(h.toNat:Int)
 |_,_=>False
def WY (l:List UInt8)(lo hi:Option Value):List UInt8:=
 match lo,hi with
 |some (.int _ a),none=>l.drop a.toNat
 |none,some (.int _ b)=>l.take b.toNat
 |some (.int _ a),some (.int _ b)=>(l.take b.toNat).drop a.toNat
 |_,_=>l
def Tx (P:Program)(t:TypeId)(x:Value)(lo hi:Option Value):Option PV:=
 match P.underlying t,x with
 |some .string,.string s=>some (.part (Dr lo hi (toL s).length (toL s).length) (.string (mkS (WY (toL s) lo hi))))
 |some (.slice e),.slice a n c=>
  match P.info? e with
  |some i=>
   match lo,Eo n hi with
   |none,some h=>some (.part (Dr lo hi c n) (.slice a h c))
   |some (.int _ l),some h=>some (.part (Dr lo hi c n) (.slice (if c=l.toNat then a else a.map (·.add (l.toNat*i.size))) (h-l.toNat) (c-l.toNat)))
   |_,_=>none
  |none=>none
 |some (.array n e),.pointer (some a)=>
  match P.info? e with
  |some i=>
   match lo,Eo n hi with
   |none,some h=>some (.part (Dr lo hi n n) (.slice (some a) h n))
   |some (.int _ l),some h=>some (.part (Dr lo hi n n) (.slice (some (if n=l.toNat then a else a.add (l.toNat*i.size))) (h-l.toNat) (n-l.toNat)))
   |_,_=>none
  |none=>none
 |_,_=>none
def XN (P:Program)(t:TypeId)(x:Value):Option PV:=
 match P.underlying t,x with
 |some .string,.string s=>some (.val (.int .i64 ((toL s).length:Nat)))
 |some (.slice _),.slice _ n _=>some (.val (.int .i64 (n:Nat)))
 |some (.array n _),_=>some (.val (.int .i64 (n:Nat)))
 |_,_=>none
def XG (P:Program)(t:TypeId)(x:Value):Option PV:=
 match P.underlying t,x with
 |some (.slice _),.slice _ _ n=>some (.val (.int .i64 (n:Nat)))
 |_,_=>none
def WE (P:Program)(t:TypeId):Bool:=match P.info? t with|some i=>Nat.ble 12 i.size|none=>false
def Xr (P:Program)(t:TypeId)(ps:List Nat):Bool:=
 match P.underlying t with
 |some (.struct fs)=>ps.any λp=>match fs[p]? with|some fd=>WE P fd.type|none=>false
 |some (.array _ e)=>WE P e
 |some (.slice e)=>WE P e
 |_=>false
def pv (P:Program)(ρ:Operand->Value)(op:Op):Option PV:=
 match op with
 |.move x=>some (.val (ρ x))
 |.assign x=>some (.val (ρ x))
 |.pick c a b=>match ρ c,ρ a,ρ b with
  |.bool t,.bool x,.bool y=>some (.val (.bool (cond t x y)))
  |.bool t,x,y=>some (.val (match t with|true=>x|false=>y))
  |_,_,_=>none
 |.binOp op t x y _=>if WE P t=true then none else XF P op t (ρ x) (ρ y)
 |.unOp op _ x=>unV op (ρ x)
 |.convert s d x=>match P.underlying s,P.underlying d,ρ x with
  |some (.int _),some (.int k),.int _ n=>some (.val (.int k (k.wrap n)))
  |some .string,some .string,.string b=>some (.val (.string b))
  |_,_,_=>none
 |.extract t i=>match ρ t with
  |.tuple vs=>(vs[i]?).map .val
  |_=>none
 |.field t x f=>if WE P t=true then none else match P.underlying t,ρ x with
  |some (.struct fs),.agg cs=>(fs[f]?).bind λfd=>(Oq P fd.type cs fd.offset).map .val
  |_,_=>none
 |.fieldAddr t x f=>match P.underlying t,ρ x with
  |some (.struct fs),.pointer a=>match fs[f]? with
   |some fd=>match P.info? fd.type with
    |some i=>if i.size=0 then none else some (.part (a.isSome=true) (.pointer (a.map (·.add fd.offset))))
    |none=>none
   |none=>none
  |_,_=>none
 |.indexAddr t x i=>match P.underlying t,ρ x,ρ i with
  |some (.slice e),.slice b n _,.int _ j=>match P.info? e with
   |some ti=>some (.part ((0 <=j/\j<(n:Int))/\b.isSome=true) (.pointer (b.map (·.add (j.toNat*ti.size)))))
   |none=>none
  |some (.array n e),.pointer a,.int _ j=>match P.info? e with
   |some ti=>some (.part ((0 <=j/\j<(n:Int))/\a.isSome=true) (.pointer (a.map (·.add (j.toNat*ti.size)))))
   |none=>none
  |_,_,_=>none
 |.index t x i=>match P.underlying t,ρ x,ρ i with
  |some .string,.string s,.int _ j=>some (.part (0 <=j/\j<((toL s).length:Int)) (.int .u8 (((toL s)[j.toNat]?.getD 0).toNat:Nat)))
  |_,_,_=>none
 |.slice t x lo hi none=>Tx P t (ρ x) (lo.map ρ) (hi.map ρ)
 |.nilCheck x=>match ρ x with
  |.pointer a=>some (.part (a.isSome=true) (.pointer a))
  |.func (.func f) first captured=>some (.val (.func (.func f) first captured))
  |_=>none
 |.makeFunc fn first captured=>some (.val (.func fn (first.map ρ) (captured.map ρ)))
 |.makeInterface t x=>match P.underlying t with
  |some (.interface _)|none=>none
  |some _=>some (.val (.iface t (ρ x)))
 |.build t parts=>if Xr P t (parts.toList.map (·.1))=true then none else match(P.info? t).bind (·.zero),P.underlying t with
  |some z,some (.struct fs)=>
   match fs.toList.mapM (λf=>(P.info? f.type).map λi=>(f.offset,i.size))with
   |some places=>(Instr.fill (places[·]?) z.cells (parts.toList.map λp=>(p.1,ρ p.2))).map λcs=>.val (.agg cs)
   |none=>none
  |some z,some (.array _ e)=>
   match P.info? e with
   |some i=>(Instr.fill (λj=>some (j*i.size,i.size)) z.cells (parts.toList.map λp=>(p.1,ρ p.2))).map λcs=>.val (.agg cs)
   |none=>none
  |_,_=>none
 |.call { callee:=.builtin .len,args,argTypes } =>match args.toList,argTypes.toList with
  |[x],[t]=>XN P t (ρ x)
  |_,_=>none
 |.call { callee:=.builtin .cap,args,argTypes } =>match args.toList,argTypes.toList with
  |[x],[t]=>XG P t (ρ x)
  |_,_=>none
 |_=>none
def PV.ok (P:Program)(s:Sem Value):PV->Prop
 |.val v=>∀w,s.run P w=.ok v w
 |.part c v=>c->∀w,s.run P w=.ok v w
theorem ft {d:TypeDesc}(h:P.underlying t=some d)(w:World):(underlying t).run P w=.ok d w:=by
 simp[underlying,h]
theorem BQ {d:TypeInfo}(h:P.info? t=some d)(w:World):(typeInfo t).run P w=.ok d w:=by
 simp[typeInfo,h]
theorem rE {d:TypeInfo}(h:P.info? t=some d)(w:World):(sizeOf t).run P w=.ok d.size w:=by
 simp[sizeOf,BQ h]
theorem BV (b:ByteArray):(toL b).length=b.size:=by cases b;rfl
theorem RG (b:ByteArray):b.toList=toL b:=ByteArray.toList_eq b
theorem run_equalIn_bool (e:P.underlying t=some .bool)(d:Nat)(a b:Bool)(w:World):
 (Op.equalIn (d+1) t (.bool a) (.bool b)).run P w=.ok (a==b) w:=by
 simp[Op.equalIn,ft e]
theorem Dg {t e:TypeId}(q:P.underlying t=some (.pointer e))(d:Nat)(a:Option Addr)(w:World):
 (Op.equalIn (d+1) t (.pointer a) (.pointer none)).run P w=.ok a.isNone w:=by
 cases a <;> simp[Op.equalIn,ft q]
theorem T8 {q:BinOp}{k:IntKind}{a b:Int}{r:PV}(h:V0 q k a b=some r):r.ok P (binOp q t (.int k a) (.int k b)):=by
 cases q
 all_goals simp only[V0,Option.some.injEq,reduceCtorEq]at h
 all_goals(try subst h)
 case quo=>intro e w;simp[binOp,Op.intDiv,e]
 case rem=>intro e w;simp[binOp,Op.intDiv,e]
 all_goals(intro w;simp[binOp,Op.intArith,Op.intBits,Op.intCmp])
theorem T9 {e:BinOp}{a b:ByteArray}{r:PV}(h:Wi e (toL a) (toL b)=some r):r.ok P (binOp e t (.string a) (.string b)):=by
 cases e
 all_goals simp only[Wi,Option.some.injEq,reduceCtorEq]at h
 all_goals(try subst h)
 case add=>
  intro D w
  have E: ¬ (((a.size+b.size:Nat):Int)>i64.max):=by
   rw[BV,BV]at D;omega
  have q:mkS (toL a++toL b)=a++b:=by
   cases a;cases b;simp[mkS,toL];rfl
  simp only[binOp,Op.stringOp,if_neg E,q,Sem.run_pure]
 all_goals(intro w;simp[binOp,Op.stringOp,RG])
theorem VE {q:BinOp}{x y:Value}{r:PV}(h:XF P q t x y=some r):r.ok P (binOp q t x y)/\(∀H I w,(eqGuard q t H I x y).run P w=.ok () w):=by
 unfold XF at h
 split at h
 ·rename_i k a k' b
  refine⟨?_,λ_ _ _=>by cases q <;> rfl⟩
  split at h
  ·simp only[Option.some.injEq]at h;subst h
   intro E w
   have D: ¬ b<0:=by omega
   simp[binOp,Op.shift,D]
  ·simp only[Option.some.injEq]at h;subst h
   intro E w
   have D: ¬ b<0:=by omega
   simp[binOp,Op.shift,D]
  ·split at h
   ·rename_i G;subst G;exact T8 h
   ·cases h
 ·exact⟨T9 h,λ_ _ _=>by cases q <;> rfl⟩
 ·rename_i a b
  refine⟨?_,λ_ _ _=>by cases q <;> rfl⟩
  split at h
  ·rename_i e;simp only[Option.some.injEq]at h;subst h;intro w
   show((do pure (.bool (<- Op.equalIn (9999+1) t (.bool a) (.bool b))):Sem Value)).run P w=_
   rw[Sem.run_bind,run_equalIn_bool e];rfl
  ·rename_i e;simp only[Option.some.injEq]at h;subst h;intro w
   show((do pure (.bool (!(<- Op.equalIn (9999+1) t (.bool a) (.bool b)))):Sem Value)).run P w=_
   rw[Sem.run_bind,run_equalIn_bool e];rfl
  ·cases h
 ·rename_i a
  refine⟨?_,λ_ _ _=>by cases q <;> rfl⟩
  split at h
  ·rename_i e;simp only[Option.some.injEq]at h;subst h;intro w
   show((do pure (.bool (<- Op.equalIn (9999+1) t (.pointer a) (.pointer none))):Sem Value)).run P w=_
   rw[Sem.run_bind,Dg e];rfl
  ·rename_i e;simp only[Option.some.injEq]at h;subst h;intro w
   show((do pure (.bool (!(<- Op.equalIn (9999+1) t (.pointer a) (.pointer none)))):Sem Value)).run P w=_
   rw[Sem.run_bind,Dg e];rfl
  ·cases h
 ·cases h
def El:TypeDesc->Bool
 |.struct _|.array _ _=>true
 |_=>false
theorem Di {d:TypeDesc}(h:P.underlying t=some d)(w:World):(isAgg t).run P w=.ok (El d) w:=by
 unfold isAgg
 rw[Sem.run_bind,ft h]
 cases d <;> rfl
theorem Gs {cs:Array Value}{off:Nat}{v:Value}(h:Oq P t cs off=some v)(w:World):(part t cs off).run P w=.ok v w:=by
 unfold Oq at h
 unfold part
 split at h
 ·rename_i q
  cases e:P.info? t with
  |none=>simp[e]at h
  |some i=>simp[e]at h;subst h;simp[Di q,El,rE e]
 ·rename_i q
  cases e:P.info? t with
  |none=>simp[e]at h
  |some i=>simp[e]at h;subst h;simp[Di q,El,rE e]
 ·rename_i d E G q
  have D:El d=false:=by cases d <;> simp_all [El]
  rw[Sem.run_bind,Di q,D]
  simp[h]
 ·cases h
theorem V7 {t ty:TypeId}{x:Value}{r:PV}(h:XN P t x=some r):r.ok P (Builtin.len_ #[t] ty #[x]):=by
 unfold XN at h
 split at h
 ·rename_i e;simp only[Option.some.injEq]at h;subst h;intro w;simp[Builtin.len_,ft e,BV,goInt]
 ·rename_i e;simp only[Option.some.injEq]at h;subst h;intro w;simp[Builtin.len_,ft e,goInt]
 ·rename_i e;simp only[Option.some.injEq]at h;subst h;intro w;simp[Builtin.len_,ft e,goInt]
 ·cases h
theorem VH {t ty:TypeId}{x:Value}{r:PV}(h:XG P t x=some r):r.ok P (Builtin.cap_ #[t] ty #[x]):=by
 unfold XG at h
 split at h
 ·rename_i e;simp only[Option.some.injEq]at h;subst h;intro w;simp[Builtin.cap_,ft e,goInt]
 ·cases h
theorem BP (P:Program)(k:IntKind)(n:Int)(w:World):(asIntOf (.int k n)).run P w=.ok (k,n) w:=rfl
theorem Gw {k:IntKind}{n:Int}{y:Nat}{code:BoundsCode}(h:0 <=n/\n <=(y:Int))(w:World):(Instr.sliceBound (.int k n) y code).run P w=.ok n.toNat w:=by
 simp[Instr.sliceBound,BP,h]
theorem Ht {isSlice:Bool}{len cap:Nat}{q e:Option Value}(h:Dr q e cap len)
 (E:∀v,q=some v->∃k n,v=.int k n) (D:∀v,e=some v->∃k n,v=.int k n) (w:World):
 ∃l m,Eo 0 q=some l/\Eo len e=some m/\(Instr.sliceBounds isSlice len cap q e none).run P w=.ok (l,m,cap) w:=by
 cases q with
 |none=>
  cases e with
  |none=>exact⟨0,len,rfl,rfl,by simp[Instr.sliceBounds]⟩
  |some b=>
   obtain⟨k,n,rfl⟩:=D b rfl
   have h':0 <=n/\n <=(cap:Int):=h
   exact⟨0,n.toNat,rfl,rfl,by simp[Instr.sliceBounds,Gw h']⟩
 |some a=>
  obtain⟨k,n,rfl⟩:=E a rfl
  cases e with
  |none=>
   have h':0 <=n/\n <=(len:Int):=h
   exact⟨n.toNat,len,rfl,rfl,by simp[Instr.sliceBounds,Gw h']⟩
  |some b=>
   obtain⟨k',m,rfl⟩:=D b rfl
   have h':(0 <=m/\m <=(cap:Int))/\0 <=n/\n <=(m.toNat:Int):=h
   exact⟨n.toNat,m.toNat,rfl,rfl,by simp[Instr.sliceBounds,Gw h'.1,Gw h'.2]⟩
theorem nI {D q:Option Value}{y d:Nat}(h:Dr D q y d):(∀v,D=some v->∃k n,v=.int k n)/\(∀v,q=some v->∃k n,v=.int k n):=by
 unfold Dr at h
 split at h
 ·exact⟨λv e=>(by cases e),λv e=>(by cases e)⟩
 ·exact⟨λv e=>(by cases e;exact⟨_,_,rfl⟩),λv e=>(by cases e)⟩
 ·exact⟨λv e=>(by cases e),λv e=>(by cases e;exact⟨_,_,rfl⟩)⟩
 ·exact⟨λv e=>(by cases e;exact⟨_,_,rfl⟩),λv e=>(by cases e;exact⟨_,_,rfl⟩)⟩
 ·cases h
theorem NU (a:Addr):a.add 0=a:=by simp[Addr.add]
theorem Be (s:ByteArray)(l h:Nat):s.extract l h=mkS (((toL s).take h).drop l):=by
 apply ByteArray.ext
 apply Array.ext'
 simp[mkS,toL,ByteArray.data_extract,List.drop_take]
theorem Tz {x:Value}{G E:Option Value}{r:PV}(h:Tx P t x G E=some r):r.ok P (Instr.sliceAt t x G E none):=by
 unfold Tx at h
 split at h
 ·rename_i s U
  simp only[Option.some.injEq]at h;subst h
  intro D w
  have H:Dr G E s.size s.size:=by rw[BV]at D;exact D
  obtain⟨l,m,q,e,O⟩:=Ht (P:=P) (isSlice:=false) H (nI H).1 (nI H).2 w
  simp only[Instr.sliceAt,Instr.slice,Sem.run_bind,ft U,Result.andThen_ok,Option.isSome_none,Bool.false_eq_true,if_false,O,Sem.run_pure]
  congr 2
  cases G with
  |none=>
   cases E with
   |none=>
    simp[Eo]at q e;subst q e
    rw[Be]
    simp[WY,<- BV]
   |some b=>
    obtain⟨k',n,rfl⟩:=(nI H).2 b rfl
    simp[Eo]at q e;subst q e
    have h':0 <=n/\n <=(s.size:Int):=H
    rw[Be]
    simp[WY]
  |some a=>
   obtain⟨k,n,rfl⟩:=(nI H).1 a rfl
   cases E with
   |none=>
    simp[Eo]at q e;subst q e
    have h':0 <=n/\n <=(s.size:Int):=H
    rw[Be]
    simp[WY,<- BV]
   |some b=>
    obtain⟨k',Z,rfl⟩:=(nI H).2 b rfl
    simp[Eo]at q e;subst q e
    have h':(0 <=Z/\Z <=(s.size:Int))/\0 <=n/\n <=(Z.toNat:Int):=H
    rw[Be]
    simp[WY]
 ·rename_i V a n c U
  cases M:P.info? V with
  |none=>simp[M]at h
  |some i=>
   simp only[M]at h
   have key:∀{v} (D:Dr G E c n),(∀l m,Eo 0 G=some l->Eo n E=some m->v=Value.slice (if c=l then a else a.map (·.add (l*i.size))) (m-l) (c-l))->
    ∀w,(Instr.sliceAt t (.slice a n c) G E none).run P w=.ok v w:=by
    intro v D Y w
    obtain⟨l,m,q,e,O⟩:=Ht (P:=P) (isSlice:=true) D (nI D).1 (nI D).2 w
    simp only[Instr.sliceAt,Instr.slice,Sem.run_bind,ft U,Result.andThen_ok,O,rE M,Sem.run_pure]
    rw[Y l m q e]
   split at h
   ·rename_i X I
    simp only[Option.some.injEq]at h;subst h
    intro D;exact key D λl m q e=>by
     rw[I]at e;simp[Eo]at q e;subst q e
     simp
     intro _
     cases a <;> simp[NU]
   ·rename_i k l X I
    simp only[Option.some.injEq]at h;subst h
    intro D;exact key D λl m q e=>by rw[I]at e;simp[Eo]at q e;subst q e;rfl
   ·cases h
 ·rename_i n V a U
  cases M:P.info? V with
  |none=>simp[M]at h
  |some i=>
   simp only[M]at h
   have key:∀{v} (D:Dr G E n n),(∀l m,Eo 0 G=some l->Eo n E=some m->v=Value.slice (some (if n=l then a else a.add (l*i.size))) (m-l) (n-l))->
    ∀w,(Instr.sliceAt t (.pointer (some a)) G E none).run P w=.ok v w:=by
    intro v D Y w
    obtain⟨l,m,q,e,O⟩:=Ht (P:=P) (isSlice:=false) D (nI D).1 (nI D).2 w
    simp only[Instr.sliceAt,Sem.run_bind,ft U,Result.andThen_ok,O,rE M,Sem.run_pure,Instr.sureAddr]
    rw[Y l m q e]
   split at h
   ·rename_i X I
    simp only[Option.some.injEq]at h;subst h
    intro D;exact key D λl m q e=>by
     rw[I]at e;simp[Eo]at q e;subst q e
     simp[NU]
   ·rename_i k l X I
    simp only[Option.some.injEq]at h;subst h
    intro D;exact key D λl m q e=>by rw[I]at e;simp[Eo]at q e;subst q e;rfl
   ·cases h
 ·cases h
def vN (s:Sem Value):Sem Next:=do pure (.value (<- s))
def uN (s:Sem Unit):Sem Next:=do s;pure .skip
theorem uC {s:Sem Value}{v:Value}{w w':World}(h:s.run P w=.ok v w'):(vN s).run P w=.ok (.value v) w':=by
 simp[vN,h]
theorem Xh {s:Sem Unit}{w w':World}(h:s.run P w=.ok () w'):(uN s).run P w=.ok .skip w':=by
 simp[uN,h]
def PV.cond:PV->Prop
 |.val _=>True
 |.part c _=>c
def PV.value:PV->Value
 |.val v=>v
 |.part _ v=>v
theorem PV.ok.run {s:Sem Value}{r:PV}(h:r.ok P s)(e:r.cond)(w:World):s.run P w=.ok r.value w:=by
 cases r with
 |val v=>exact h w
 |part c v=>exact h e w
theorem oN (P:Program)(a:Addr)(w:World):(Instr.sureAddr (.pointer (some a))).run P w=.ok a w:=rfl
theorem N9 {q:Array Field}{f:Nat}{e:Field}{i:TypeInfo}(H:P.underlying t=some (.struct q))(E:q[f]? =some e)
 (G:P.info? e.type=some i) (D: ¬ i.size=0) (a:Addr) (w:World):(Instr.fieldAt t (.pointer (some a)) f).run P w=.ok (.pointer (some (a.add e.offset))) w:=by
 simp[Instr.fieldAt,ft H,E,oN,fieldPlace,rE G,D]
theorem Na {t e:TypeId}{q:TypeInfo}(E:P.underlying t=some (.slice e))(D:P.info? e=some q)(a:Addr)(n c:Nat)(k:IntKind)(j:Int)
 (h:0 <=j/\j<(n:Int)) (w:World):(Instr.indexAt t (.slice (some a) n c) (.int k j)).run P w=.ok (.pointer (some (a.add (j.toNat*q.size)))) w:=by
 simp[Instr.indexAt,BP,ft E,rE D,h]
theorem M9 {t e:TypeId}{q:TypeInfo}(E:P.underlying t=some (.array n e))(D:P.info? e=some q)(a:Addr)(k:IntKind)(j:Int)
 (h:0 <=j/\j<(n:Int)) (w:World):(Instr.indexAt t (.pointer (some a)) (.int k j)).run P w=.ok (.pointer (some (a.add (j.toNat*q.size)))) w:=by
 simp[Instr.indexAt,BP,ft E,rE D,oN,h]
theorem SQ (E:P.underlying t=some .string)(s:ByteArray)(k:IntKind)(j:Int)
 (h:0 <=j/\j<((toL s).length:Int)) (w:World):(Instr.index t (.string s) (.int k j)).run P w=.ok (.int .u8 (((toL s)[j.toNat]?.getD 0).toNat:Nat)) w:=by
 have D:j.toNat<s.size:=by have:=BV s;omega
 have e:s[j.toNat]? =some s[j.toNat]:=ByteArray.getElem?_lt' s _ D
 have q:(toL s)[j.toNat]? =some s[j.toNat]:=by
  have:j.toNat<(toL s).length:=by omega
  rw[List.getElem?_eq_getElem this];rfl
 simp[Instr.index,BP,ft E,h.1,e,q]
theorem NW {E:Array Field}{i:TypeInfo}{z:Value}{e:List (Nat×Nat)}{H:Array (Nat×Value)}{cs:Array Value}
 (O:P.info? t=some i) (Z:i.zero=some z) (Y:P.underlying t=some (.struct E)) (X:E.toList.mapM (λf=>(P.info? f.type).map λi=>(f.offset,i.size))=some e)
 (M:Instr.fill (e[·]?) z.cells H.toList=some cs) (w:World):(Instr.build t H).run P w=.ok (.agg cs) w:=by
 have U:∀(l:List Field) (D:List (Nat×Nat)),l.mapM (λf=>(P.info? f.type).map λi=>(f.offset,i.size))=some D->
  (l.mapM (λf=>do pure (f.offset,<- sizeOf f.type):Field->Sem (Nat×Nat))).run P w=.ok D w:=by
  intro l
  induction l with
  |nil=>intro D h;simp at h;subst h;rfl
  |cons f l ac=>
   intro D h
   rw[List.mapM_cons]at h
   cases q:P.info? f.type with
   |none=>simp[q]at h
   |some i=>
    cases G:l.mapM (λf=>(P.info? f.type).map λi=>(f.offset,i.size))with
    |none=>simp[q,G]at h
    |some ad=>
     simp[q,G]at h;subst h
     rw[List.mapM_cons]
     simp only[Sem.run_bind,rE q,Result.andThen_ok,Sem.run_pure,ac _ G]
 have V:(E.mapM (λf=>do pure (f.offset,<- sizeOf f.type):Field->Sem (Nat×Nat))).run P w=.ok e.toArray w:=by
  rw[Array.mapM_eq_mapM_toList,Sem.run_map,U _ _ X];rfl
 simp only[Instr.build,zeroValue,Sem.run_bind,BQ O,Result.andThen_ok,Z,Sem.run_pure,ft Y,V]
 have I:(λx:Nat=>e.toArray[x]?)=(e[·]?):=by funext x;simp
 rw[I,M]
 rfl
theorem Ot {M:Operand->Value}{r:PV}(h:pv P M o.op=some r)(G:r.cond)(w:World):(execOp M o).run P w=.ok (.value r.value) w:=by
 unfold execOp
 generalize o.op=an at h
 unfold pv at h
 split at h
 ·simp only[Option.some.injEq]at h;subst h;rfl
 ·simp only[Option.some.injEq]at h;subst h;rfl
 ·rename_i c a b
  split at h
  ·rename_i t x y H e bb;simp only[Option.some.injEq]at h;subst h
   cases t <;> simp[H,e,bb,asBool,PV.value]
  ·rename_i t H _;simp only[Option.some.injEq]at h;subst h
   cases t <;> simp[H,asBool,PV.value]
  ·cases h
 ·rename_i an t x y _
  split at h
  ·cases h
  obtain⟨h1,a0⟩:=VE h
  refine uC ?_
  rw[Sem.run_bind,a0]
  exact h1.run G w
 ·rename_i an t x
  unfold unV at h
  split at h
  ·rename_i e;simp only[Option.some.injEq]at h;subst h;simp[e,Op.unary,Op.intArith,PV.value]
  ·rename_i e;simp only[Option.some.injEq]at h;subst h;simp[e,Op.unary,PV.value]
  ·cases h
 ·rename_i s d x
  split at h
  ·rename_i ag ad e;simp only[Option.some.injEq]at h;subst h;refine uC ?_;simp[e,convert,ft ag,ft ad,Conv.intToInt,PV.value]
  ·rename_i ag ad e;simp only[Option.some.injEq]at h;subst h;refine uC ?_;simp[e,convert,ft ag,ft ad,PV.value]
  ·cases h
 ·rename_i t i
  split at h
  ·rename_i vs a9
   cases q:vs[i]? with
   |none=>simp[q]at h
   |some v=>simp[q]at h;subst h;refine uC ?_;simp[a9,Instr.extract,q,PV.value]
  ·cases h
 ·rename_i t x f
  split at h
  ·cases h
  split at h
  ·rename_i ac cs D e
   cases E:ac[f]? with
   |none=>simp[E]at h
   |some Z=>
    simp only[E,Option.bind_some]at h
    cases X:Oq P Z.type cs Z.offset with
    |none=>simp[X]at h
    |some v=>simp[X]at h;subst h;refine uC ?_;simp[e,Instr.field,ft D,E,asAgg,Gs X,PV.value]
  ·cases h
 ·rename_i t x f
  split at h
  ·rename_i ac a D e
   split at h
   ·rename_i Z E
    split at h
    ·rename_i i q
     split at h
     ·cases h
     ·rename_i ar;simp only[Option.some.injEq]at h;subst h
      cases a with
      |none=>cases G
      |some a=>refine uC ?_;rw[e];exact N9 D E q ar a w
    ·cases h
   ·cases h
  ·cases h
 ·rename_i t x i
  split at h
  ·rename_i aj b n c k j D e V
   split at h
   ·rename_i bk q;simp only[Option.some.injEq]at h;subst h
    cases b with
    |none=>cases G.2
    |some a=>refine uC ?_;rw[e,V];exact Na D q a n c k j G.1 w
   ·cases h
  ·rename_i n aj a k j D e V
   split at h
   ·rename_i bk q;simp only[Option.some.injEq]at h;subst h
    cases a with
    |none=>cases G.2
    |some a=>refine uC ?_;rw[e,V];exact M9 D q a k j G.1 w
   ·cases h
  ·cases h
 ·rename_i t x i
  split at h
  ·rename_i s k j D e V;simp only[Option.some.injEq]at h;subst h
   refine uC ?_;rw[e,V];exact SQ D s k j G w
  ·cases h
 ·rename_i t x bp q
  refine uC ?_
  exact(Tz h).run G w
 ·rename_i x
  split at h
  ·rename_i a e;simp only[Option.some.injEq]at h;subst h
   cases a with
   |none=>cases G
   |some a=>simp[e,PV.value]
  ·rename_i e;simp only[Option.some.injEq]at h;subst h;simp[e,PV.value]
  ·cases h
 ·simp only[Option.some.injEq]at h;subst h;rfl
 ·rename_i t x
  split at h
  ·cases h
  ·cases h
  ·rename_i d bc D
   simp only[Option.some.injEq]at h;subst h
   refine uC ?_
   unfold Instr.makeInterface
   rw[Sem.run_bind,ft D]
   cases d <;> first|rfl|exact absurd rfl (bc _)
 ·rename_i t parts
  split at h
  ·cases h
  split at h
  ·rename_i z ac I D
   split at h
   ·rename_i bj X
    cases q:P.info? t with
    |none=>simp[q]at I
    |some i=>
     simp[q]at I
     cases E:Instr.fill (bj[·]?) z.cells (parts.toList.map λp=>(p.1,M p.2))with
     |none=>simp[E]at h
     |some cs=>
      simp[E]at h;subst h
      refine uC ?_
      exact NW q I D X (by simpa using E) w
   ·cases h
  ·rename_i z n aj I D
   split at h
   ·rename_i al a8
    cases q:P.info? t with
    |none=>simp[q]at I
    |some i=>
     simp[q]at I
     cases E:Instr.fill (λj=>some (j*al.size,al.size)) z.cells (parts.toList.map λp=>(p.1,M p.2))with
     |none=>simp[E]at h
     |some cs=>
      simp[E]at h;subst h
      refine uC ?_
      simp only[Instr.build,zeroValue,Sem.run_bind,BQ q,Result.andThen_ok,I,Sem.run_pure,ft D,rE a8]
      have U:(parts.map λp=>(p.1,M p.2)).toList=parts.toList.map λp=>(p.1,M p.2):=by simp
      rw[U,E];rfl
   ·cases h
  ·cases h
 ·rename_i args O
  split at h
  ·rename_i x t e H
   have Y:args= #[x]:=by rw[<- Array.toArray_toList (xs:=args),e]
   have U:O= #[t]:=by rw[<- Array.toArray_toList (xs:=O),H]
   subst Y U
   simp only[resolve,invoke,builtin,Sem.run_bind,Sem.run_pure,Result.andThen_ok,List.map_toArray,List.map_cons,List.map_nil,(V7 h).run G w]
  ·cases h
 ·rename_i args O
  split at h
  ·rename_i x t e H
   have Y:args= #[x]:=by rw[<- Array.toArray_toList (xs:=args),e]
   have U:O= #[t]:=by rw[<- Array.toArray_toList (xs:=O),H]
   subst Y U
   simp only[resolve,invoke,builtin,Sem.run_bind,Sem.run_pure,Result.andThen_ok,List.map_toArray,List.map_cons,List.map_nil,(VH h).run G w]
  ·cases h
 ·cases h
def R0 (b:Nat):Value:=.pointer (some ⟨b,0,none⟩)
def alV (P:Program)(ρ:Operand->Value)(op:Op):Option (Obj×(Nat->Value)):=
 match op with
 |.alloc e=>match(P.info? e).bind (·.zero)with
  |some z=>some (.cells z.cells e,R0)
  |none=>none
 |.box e x=>some (.cells (ρ x).cells e,R0)
 |.buildSlice t len parts=>if Xr P t (parts.toList.map (·.1)) && !parts.isEmpty then none else match P.underlying t with
  |some (.slice e)=>match P.info? e with
   |some i=>match i.zero with
    |some z=>if len*i.size>2 ^ 24 then none else
     match Instr.fill (λj=>some (j*i.size,i.size)) ((Array.range (len*i.size)).map ((if len*i.size=0 then #[]else z.cells)[· % (if len*i.size=0 then #[]else z.cells).size]!)) (parts.toList.map λp=>(p.1,ρ p.2))with
     |some cs=>some (.cells cs e,λb=>.slice (some ⟨b,0,none⟩) len len)
     |none=>none
    |none=>none
   |none=>none
  |_=>none
 |.makeMap _ none=>some (.map #[] 0,λb=>.map (some b))
 |_=>none
theorem RO (h:alV P y o.op=some (I,J))(w:World):
 (execOp y o).run P w=.ok (.value (J w.heap.size)) (w.alloc I):=by
 unfold execOp
 generalize o.op=U at h
 unfold alV at h
 split at h
 ·rename_i G
  cases e:P.info? G with
  |none=>simp[e]at h
  |some i=>
   cases q:i.zero with
   |none=>simp[e,q]at h
   |some z=>
    simp[e,q]at h
    obtain⟨rfl,rfl⟩:=h
    refine uC ?_
    simp only[Instr.alloc,zeroValue,Sem.run_bind,BQ e,Result.andThen_ok,q,Sem.run_pure]
    rfl
 ·simp only[Option.some.injEq,Prod.mk.injEq]at h
  obtain⟨rfl,rfl⟩:=h
  rfl
 ·rename_i t len parts
  split at h
  ·cases h
  split at h
  ·rename_i G O
   split at h
   ·rename_i i e
    split at h
    ·rename_i z q
     split at h
     ·cases h
     ·rename_i M
      split at h
      ·rename_i cs E
       simp only[Option.some.injEq,Prod.mk.injEq]at h
       obtain⟨rfl,rfl⟩:=h
       refine uC ?_
       have H:(parts.map λp=>(p.1,y p.2)).toList=parts.toList.map λp=>(p.1,y p.2):=by simp
       simp only[Instr.buildSlice,Sem.run_bind,ft O,Result.andThen_ok,rE e,if_neg M]
       by_cases D:len*i.size=0
       ·simp only[D,if_true]at E
        simp only[D,if_true,pure_bind,H,E]
        rfl
       ·simp only[if_neg D]at E
        simp only[if_neg D,zeroValue,Sem.run_bind,BQ e,q,Sem.run_pure,Result.andThen_ok,H,E]
        rfl
      ·cases h
    ·cases h
   ·cases h
  ·cases h
 ·simp only[Option.some.injEq,Prod.mk.injEq]at h
  obtain⟨rfl,rfl⟩:=h
  rfl
 ·cases h
inductive RW where
 |rd (s:Sem Value)
 |wr (s:Sem Value)
 |st (s:Sem Unit)
def Yf (P:Program)(t:TypeId):Bool:=match P.underlying t with|some (.slice _)=>true|_=>false
def Xj (P:Program)(ρ:Operand->Value)(o:Oper):Option RW:=
 match o.op with
 |.load t x=>some (.rd (Instr.loadAt t (ρ x)))
 |.index t x i=>some (.rd (Instr.index t (ρ x) (ρ i)))
 |.lookup t x i ok=>some (.rd (Instr.lookup t (ρ x) (ρ i) ok))
 |.convert s d x=>if Yf P d then some (.wr (convert s d (ρ x)))else some (.rd (convert s d (ρ x)))
 |.binOp op t x y _=>some (.rd (do eqGuard op t x y (ρ x) (ρ y);binOp op t (ρ x) (ρ y)))
 |.typeAssert x a b ok=>some (.rd (Instr.typeAssert (ρ x) a b ok))
 |.makeSlice t l c=>some (.wr (Instr.makeSlice t (ρ l) (ρ c)))
 |.range t x=>some (.wr (Instr.range t (ρ x)))
 |.next it b=>some (.wr (Instr.next (ρ it) b o.type))
 |.store t x v=>some (.st (Instr.storeAt t (ρ x) (ρ v)))
 |.mapUpdate t m k v=>some (.st (Instr.mapUpdate t (ρ m) (ρ k) (ρ v)))
 |.insert t m k v=>some (.st (Instr.mapUpdate t (ρ m) (ρ k) (ρ v)))
 |.call { callee:=.builtin .len,args,argTypes } =>some (.rd (Builtin.len_ argTypes o.type (args.map ρ)))
 |.call { callee:=.builtin .min,args,argTypes } =>some (.rd (Builtin.min_ argTypes o.type (args.map ρ)))
 |.call { callee:=.builtin .max,args,argTypes } =>some (.rd (Builtin.max_ argTypes o.type (args.map ρ)))
 |.call { callee:=.builtin .append,args,argTypes } =>some (.wr (Builtin.append_ argTypes o.type (args.map ρ)))
 |.call { callee:=.builtin .copy,args,argTypes } =>some (.wr (Builtin.copy_ argTypes o.type (args.map ρ)))
 |.call { callee:=.builtin .delete,args,argTypes } =>some (.wr (Builtin.delete_ argTypes o.type (args.map ρ)))
 |.call { callee:=.builtin .clear,args,argTypes } =>some (.wr (Builtin.clear_ argTypes o.type (args.map ρ)))
 |.field t x f=>if WE P t=true then some (.rd (Instr.field t (ρ x) f))else none
 |.build t parts=>if Xr P t (parts.toList.map (·.1))=true then some (.rd (Instr.build t (parts.map λp=>(p.1,ρ p.2))))else none
 |.buildSlice t len parts=>if Xr P t (parts.toList.map (·.1)) && !parts.isEmpty then some (.wr (Instr.buildSlice t len (parts.map λp=>(p.1,ρ p.2))))else none
 |.entry it=>some (.rd (Instr.entry (ρ it)))
 |.mapEntry t m k=>some (.wr (Instr.mapEntry t (ρ m) (ρ k)))
 |.entryStore t m k v=>some (.st (Instr.entryStore t (ρ m) (ρ k) (ρ v)))
 |_=>none
def Wd (P:Program)(ρ:Operand->Value)(o:Oper):Option (Sem Value):=match o.op with
 |.next it b=>some (Instr.next (ρ it) b o.type)
 |_=>none
def RW.next:RW->Sem Next
 |.rd s=>vN s
 |.wr s=>vN s
 |.st s=>uN s
theorem Ks {r:RW}(h:Xj P y o=some r):execOp y o=r.next:=by
 unfold Xj at h
 unfold execOp
 split at h
 case h_4=>split at h <;> (simp only[Option.some.injEq]at h;subst h;simp only[*];rfl)
 case h_20=>split at h <;> first|(cases h;done)|(simp only[Option.some.injEq]at h;subst h;simp only[*];rfl)
 case h_21=>split at h <;> first|(cases h;done)|(simp only[Option.some.injEq]at h;subst h;simp only[*];rfl)
 case h_22=>split at h <;> first|(cases h;done)|(simp only[Option.some.injEq]at h;subst h;simp only[*];rfl)
 case h_26=>cases h
 all_goals(simp only[Option.some.injEq]at h;subst h;simp only[*];rfl)
theorem Qy {s:Sem Value}(h:Wd P y o=some s):execOp y o=vN s:=by
 unfold Wd at h
 unfold execOp
 split at h
 ·simp only[Option.some.injEq]at h;subst h;simp only[*];rfl
 ·cases h
def Qa (P:Program)(f:FuncId):Bool:=
 match P.funcs[f]? with
 |some fn=>fn.body.isSome && !(fn.name== "runtime.NumGoroutine")
 |none=>false
def Ha (P:Program)(ρ:Operand->Value)(op:Op):Option (FuncId×Array Value):=
 match op with
 |.call { callee:=.value f,args,.. } =>match ρ f with
  |.func (.func f) first captured=>if Qa P f then some (f,(first.toList++(args.toList.map ρ++captured.toList)).toArray)else none
  |_=>none
 |_=>none
theorem MN {f:FuncId}(h:Ha P y o.op=some (f,H))(w:World):
 (execOp y o).run P w=.ok (.enter f H) w:=by
 unfold execOp
 generalize o.op=U at h
 unfold Ha at h
 split at h
 ·rename_i g G _
  split at h
  ·rename_i M first I D
   split at h
   ·rename_i e
    simp only[Option.some.injEq,Prod.mk.injEq]at h
    obtain⟨rfl,rfl⟩:=h
    unfold Qa at e
    split at e
    ·rename_i q E
     simp only[Bool.and_eq_true,Bool.not_eq_true']at e
     simp only[resolve,D,Deferred.ofValue,Sem.run_bind,Sem.run_pure,Result.andThen_ok,invoke,callFunc,run_program,E,e.2,Bool.false_eq_true,if_false]
     have:q.body.isNone=false:=by cases O:q.body <;> simp_all
     simp only[this,Bool.false_eq_true,if_false,Sem.run_pure]
     congr 2
     apply Array.ext'
     simp
    ·cases e
   ·cases h
  ·cases h
 ·cases h
def s0V:Value->S0
 |.int k _=>.int k
 |.bool _=>.bool
 |.string _=>.str
 |.slice _ _ _=>.slice
 |.pointer _=>.ptr
 |.map _=>.map
 |_=>.any
def shV:Value->Sh
 |.agg cs=>if Nat.ble 12 cs.size=true then .one .any else .agg (cs.toList.map s0V)
 |v=>.one (s0V v)
def shT (P:Program)(t:TypeId):List Sh:=
 match(P.info? t).bind (·.zero)with
 |some (.tuple vs)=>vs.toList.map shV
 |some v=>[shV v]
 |none=>[.one .any]
abbrev Fr:=List (Nat×Value)
def FN:Fr->Nat->Value
 |[],_=>undef
 |(k,v)::r,t=>bif Nat.beq k t then v else FN r t
def AN (n:Nat)(fr:Fr)(d:Option Tmp)(v:Value):Fr:=match d with
 |none=>fr
 |some t=>bif Nat.ble (t+1) n then(t,v)::fr else fr
def evF (fr:Fr):Operand->Value
 |.tmp t=>FN fr t
 |.const v=>v
 |.global g=>.pointer (some ⟨g,0,none⟩)
 |.func f=>.func (.func f) #[] #[]
structure Rep (n:Nat)(fr:Fr)(a:Act):Prop where
 size:a.tmps.size=n
 defers:a.defers=[]
 get:∀t,a.tmps.getD t undef=FN fr t
theorem Rep.eval {fr:Fr}{a:Act}(h:Rep n fr a):a.eval=evF fr:=by
 funext x
 cases x <;> first|rfl|exact h.get _
theorem Rep.put {E:Fr}{a:Act}(h:Rep n E a)(d:Option Tmp)(v:Value):Rep n (AN n E d v) (a.put d v):=by
 cases d with
 |none=>exact h
 |some t=>
  refine⟨by simp[Act.put,h.size],h.defers,λi=>?_⟩
  have G:=h.get i
  have H:=h.size
  simp only[Act.put,AN]
  cases q:Nat.ble (t+1) n with
  |true=>
   have e:t<a.tmps.size:=by have h1:t+1 <=n:=Nat.le_of_ble_eq_true q;rw[H];exact h1
   simp only[cond_true,FN]
   by_cases D:t=i
   ·subst D
    simp[e]
   ·have I:Nat.beq t i=false:=by cases q:Nat.beq t i <;> first|rfl|exact absurd (Nat.eq_of_beq_eq_true q) D
    rw[I,cond_false,<- G]
    simp[Array.getD_eq_getD_getElem?,Array.getElem?_setIfInBounds_ne D]
  |false=>
   have e: ¬ t<a.tmps.size:=by
    intro e
    have:Nat.ble (t+1) n=true:=Nat.ble_eq_true_of_le (by rw[H]at e;exact e)
    rw[this]at q;cases q
   simp only[cond_false]
   rw[<- G]
   have:a.tmps.setIfInBounds t v=a.tmps:=by
    simp[Array.setIfInBounds,e]
   rw[this]
def Yg:Op->Nat
 |.binOp .quo .. =>2
 |.binOp .rem .. =>2
 |.binOp .. =>1
 |.slice .. =>1
 |_=>0
def nmK (op:Op)(v:Value)(K:Value->Prop):Prop:=match Yg op,v with
 |1,.string s=>∀l:List UInt8,l=toL s->K (.string (mkS l))
 |2,.int k n=>∀m:Int,m=n->K (.int k m)
 |_,v=>K v
theorem HY {e:Op}{v:Value}{K:Value->Prop}(h:nmK e v K):K v:=by
 unfold nmK at h
 split at h
 ·exact h _ rfl
 ·exact h _ rfl
 ·exact h
def XS (P:Program)(o:Oper):List Sh:=match o.op with
 |.range .. =>[.one .ptr]
 |.entry _=>[.one .any,.one .any]
 |_=>shT P o.type
def WOp (P:Program)(n:Nat)(o:Oper)(a:Fr)(K:Fr->World->Prop)(w:World):Prop:=
 match pv P (evF a) o.op with
 |some (.val v)=>nmK o.op v λv=>K (AN n a o.dst v) w
 |some (.part c v)=>c/\nmK o.op v λv=>K (AN n a o.dst v) w
 |none=>match alV P (evF a) o.op with
  |some (obj,mk)=>∀(b:Nat) (w':World),b=w.heap.size->w'=w.alloc obj->K (AN n a o.dst (mk b)) w'
  |none=>match Wd P (evF a) o with
   |some s=>(∃w':World,s.run P w=.ok (.tuple #[.bool false]) w'/\K (AN n a o.dst (.tuple #[.bool false])) w')\/(∃(w':World) (k v:Value),s.run P w=.ok (.tuple #[.bool true,k,v]) w'/\K (AN n a o.dst (.tuple #[.bool true,k,v])) w')
   |none=>match Xj P (evF a) o with
    |some (.rd s)=>exR (XS P o) λv=>s.run P w=.ok v w/\K (AN n a o.dst v) w
    |some (.wr s)=>∃w':World,exR (XS P o) λv=>s.run P w=.ok v w'/\K (AN n a o.dst v) w'
    |some (.st s)=>∃w':World,s.run P w=.ok () w'/\K (AN n a o.dst undef) w'
    |none=>match Ha P (evF a) o.op with
     |some (f,args)=>Calls P f args w λe w'=>exR (shT P o.type) λv=>e=.returned v/\K (AN n a o.dst v) w'
     |none=>False
theorem U4 {E:Fr}{a:Act}{K:Fr->World->Prop}{H:Act->World->Prop}{Q:Exit->Act->World->Prop}(U:Rep n E a)(h:WOp P n o E K w)
 (q:∀v w',K (AN n E o.dst v) w'->H (a.put o.dst v) w'):o.wp P a w H Q:=by
 unfold WOp at h
 rw[<- U.eval]at h
 unfold Oper.wp
 split at h
 ·rename_i v G;rw[Ot G trivial];exact q _ _ (HY h)
 ·rename_i c v G;rw[Ot G h.1];exact q _ _ (HY h.2)
 ·split at h
  ·rename_i obj mk O;rw[RO O];exact q _ _ (h _ _ rfl rfl)
  ·split at h
   ·rename_i s D
    rcases h with⟨w',e,h⟩|⟨w',k,v,e,h⟩
    ·rw[Qy D,uC e];exact q _ _ h
    ·rw[Qy D,uC e];exact q _ _ h
   ·split at h
    ·rename_i s D;obtain⟨v,e,h⟩:=Fk h;rw[Ks D,RW.next,uC e];exact q _ _ h
    ·rename_i s D;obtain⟨w',h⟩:=h;obtain⟨v,e,h⟩:=Fk h;rw[Ks D,RW.next,uC e];exact q _ _ h
    ·rename_i s D;obtain⟨w',e,h⟩:=h;rw[Ks D,RW.next,Xh e];exact q _ _ h
    ·split at h
     ·rename_i f args I
      rw[MN I]
      exact h.mono λV w' M=>by
       obtain⟨v,e,h⟩:=Fk M
       subst e
       exact q _ _ h
     ·cases h
def ai (b:Bool)(X Y:Prop):Prop:=match b with|true=>X|false=>Y
theorem ai.of {b:Bool}{e Y:Prop}(q:b=true->e)(D:b=false->Y):ai b e Y:=by
 cases b
 ·exact D rfl
 ·exact q rfl
theorem ai.yes {b:Bool}{e Y:Prop}(q:b=true)(D:e):ai b e Y:=by subst q;exact D
theorem ai.no {b:Bool}{e Y:Prop}(q:b=false)(D:Y):ai b e Y:=by subst q;exact D
theorem Rep.again {e:Fr}{a:Act}(h:Rep n e a){t:Tmp}{v:Value}(D:FN e t=v):Rep n (AN n e (some t) v) a:=by
 refine⟨h.size,h.defers,λi=>?_⟩
 rw[h.get i]
 simp only[AN]
 cases E:Nat.ble (t+1) n with
 |false=>rfl
 |true=>
  simp only[cond_true,FN]
  cases q:Nat.beq t i with
  |false=>rfl
  |true=>rw[<- Nat.eq_of_beq_eq_true q];exact D
def WG (n:Nat)(ops:Array Oper)(g:Option (Nat×Bool))(a:Fr)(yes no:Fr->Prop):Prop:=
 match g with
 |none=>yes a
 |some (j,want)=>match(ops[j]?).bind (·.dst)with
  |none=>no a
  |some t=>match FN a t with
   |.bool b=>
    ai b (match want with|true=>yes (AN n a (some t) (.bool true))|false=>no (AN n a (some t) (.bool true)))
     (match want with|true=>no (AN n a (some t) (.bool false))|false=>yes (AN n a (some t) (.bool false)))
   |_=>no a
theorem RM {q:Fr}{a:Act}{yes U:Fr->Prop}(E:Rep n q a)(h:WG n D o.guard q yes U):
 ∃H,Rep n H a/\((Region.wanted o (yielded D a.tmps)=true/\yes H)\/(Region.wanted o (yielded D a.tmps)=false/\U H)):=by
 unfold WG at h
 unfold Region.wanted yielded
 split at h
 ·rename_i M;rw[M];exact⟨q,E,.inl ⟨rfl,h⟩⟩
 ·rename_i j Y M
  rw[M]
  simp only
  split at h
  ·rename_i I;rw[I];exact⟨q,E,.inr ⟨rfl,h⟩⟩
  ·rename_i t I
   rw[I]
   simp only[Option.bind_some]
   have e:=E.get t
   split at h
   ·rename_i b G
    rw[G]at e
    have V:a.tmps[t]? =some (.bool b):=by
     rw[Array.getD_eq_getD_getElem?]at e
     cases O:a.tmps[t]? with
     |none=>rw[O]at e;simp[undef]at e
     |some v=>rw[O]at e;simp at e;rw[e]
    rw[V]
    refine⟨_,E.again G,?_⟩
    cases b <;> cases Y <;> simp[ai]at h <;> simp[h]
   ·rename_i X
    refine⟨q,E,.inr ⟨?_,h⟩⟩
    split
    ·rename_i b G
     rw[Array.getD_eq_getD_getElem?,G]at e
     exact absurd e.symm (X b)
    ·rfl
def Ma (l:List Oper):List Tmp:=l.filterMap (·.dst)
structure ry (S:List Tmp)(a a':Act):Prop where
 tmps:∀i,i ∉ S->a'.tmps.getD i undef=a.tmps.getD i undef
theorem ry.refl (S:List Tmp)(a:Act):ry S a a:=⟨λ_ _=>rfl⟩
theorem ry.mono {S e:List Tmp}{a a':Act}(h:ry S a a')(E:∀t,t∈S->t∈e):ry e a a':=
 ⟨λi q=>h.tmps i λD=>q (E i D)⟩
theorem ry.trans {S:List Tmp}{a b c:Act}(h:ry S a b)(k:ry S b c):ry S a c:=
 ⟨λi e=>(k.tmps i e).trans (h.tmps i e)⟩
theorem ry.put {S:List Tmp}(a:Act)(d:Option Tmp)(v:Value)(h:∀t,d=some t->t∈S):ry S a (a.put d v):=by
 cases d with
 |none=>exact ry.refl _ _
 |some t=>
  refine⟨λi q=>?_⟩
  have:t≠i:=λe=>q (e▸h t rfl)
  simp[Act.put,Array.getD_eq_getD_getElem?,Array.getElem?_setIfInBounds_ne this]
def WO (P:Program)(n:Nat)(ops:Array Oper):List Oper->(Fr->World->Prop)->Fr->World->Prop
 |[],K,a,w=>K a w
 |o::rest,K,a,w=>WG n ops o.guard a (λa=>WOp P n o a (WO P n ops rest K) w) (λa=>WO P n ops rest K (AN n a o.dst undef) w)
theorem zZb {q:List Oper} :∀t,t∈Ma q->t∈Ma (o::q):=by
 intro t e
 simp only[Ma,List.mem_filterMap]at e ⊢
 obtain⟨x,E,D⟩:=e
 exact⟨x,List.mem_cons_of_mem _ E,D⟩
theorem F9 {q:List Oper} :∀t,o.dst=some t->t∈Ma (o::q):=by
 intro t e
 simp only[Ma,List.mem_filterMap]
 exact⟨o,List.mem_cons_self,e⟩
theorem TY {Q:Exit->Act->World->Prop} :∀{l:List Oper} {K:Fr->World->Prop} {e:Fr} {a:Act} {w:World},Rep n e a->WO P n D l K e w->
 (∀G a' w',Rep n G a'->ry (Ma l) a a'->K G w'->Q .normal a' w')->wpList P D Q l a w
 |[],K,e,a,w,O,h,q=>q _ _ _ O (ry.refl _ _) h
 |o::Y,K,e,a,w,O,h,q=>by
  unfold wpList
  obtain⟨G,U,⟨V,h⟩|⟨V,h⟩⟩:=RM O h
  ·rw[if_pos V]
   exact .inl (U4 U h λv w' h'=>TY (U.put o.dst v) h' λE a' X I H M=>q E a' X I ((ry.put a o.dst v F9).trans (H.mono zZb)) M)
  ·rw[if_neg (by simp[V])]
   exact TY (U.put o.dst _) h λE a' X I H M=>q E a' X I ((ry.put a o.dst _ F9).trans (H.mono zZb)) M
def XA (P:Program)(n:Nat)(w0:World)(o:Oper)(a:Fr)(K:Fr->Prop):Prop:=
 match pv P (evF a) o.op with
 |some (.val v)=>nmK o.op v λv=>K (AN n a o.dst v)
 |some (.part c v)=>c/\nmK o.op v λv=>K (AN n a o.dst v)
 |none=>match Xj P (evF a) o with
  |some (.rd s)=>exR (shT P o.type) λv=>(∀w1,Below w0.heap.size w0 w1->s.run P w1=.ok v w1)/\K (AN n a o.dst v)
  |some _=>False
  |none=>match Ha P (evF a) o.op with
   |some (f,args)=>exR (shT P o.type) λv=>(∀w1,Below w0.heap.size w0 w1->Calls P f args w1 λe w2=>e=.returned v/\Below w0.heap.size w1 w2)/\K (AN n a o.dst v)
   |none=>False
theorem Vr {w0:World}{D:Fr}{a:Act}{K:Fr->Prop}{K':Act->Prop}(M:Rep n D a)(h:XA P n w0 o D K)(e:∀v,K (AN n D o.dst v)->K' (a.put o.dst v)):
 o.quiet P a (Below w0.heap.size w0) K':=by
 unfold XA at h
 rw[<- M.eval]at h
 unfold Oper.quiet Oper.quietAt
 split at h
 ·rename_i v E;exact⟨v,λw _=>by rw[Ot E trivial];exact⟨rfl,rfl⟩,e _ (HY h)⟩
 ·rename_i c v E;exact⟨v,λw _=>by rw[Ot E h.1];exact⟨rfl,rfl⟩,e _ (HY h.2)⟩
 ·split at h
  ·rename_i s O;obtain⟨v,G,h⟩:=Fk h
   exact⟨v,λw q=>by rw[Ks O,RW.next,uC (G w q)];exact⟨rfl,rfl⟩,e _ h⟩
  ·cases h
  ·split at h
   ·rename_i f args I
    obtain⟨v,G,h⟩:=Fk h
    exact⟨v,λw q=>by rw[MN I];exact⟨rfl,(G w q).mono λU V H=>⟨H.1,q.trans H.2⟩⟩,e _ h⟩
   ·cases h
def WQ (P:Program)(n:Nat)(w0:World)(ops:Array Oper):List Oper->(Fr->Prop)->Fr->Prop
 |[],K,a=>K a
 |o::rest,K,a=>WG n ops o.guard a (λa=>XA P n w0 o a (WQ P n w0 ops rest K)) (λa=>WQ P n w0 ops rest K (AN n a o.dst undef))
theorem TZ {w0:World}{Q:Act->Prop} :∀{l:List Oper} {K:Fr->Prop} {e:Fr} {a:Act},Rep n e a->WQ P n w0 D l K e->
 (∀G a',Rep n G a'->ry (Ma l) a a'->K G->Q a')->wpQuiet P D (Below w0.heap.size w0) Q l a
 |[],K,e,a,O,h,q=>q _ _ O (ry.refl _ _) h
 |o::X,K,e,a,O,h,q=>by
  unfold wpQuiet
  obtain⟨G,U,⟨V,h⟩|⟨V,h⟩⟩:=RM O h
  ·rw[if_pos V]
   exact Vr U h λv h'=>TZ (U.put o.dst v) h' λE a' I H M=>q E a' I ((ry.put a o.dst v F9).trans (H.mono zZb)) M
  ·rw[if_neg (by simp[V])]
   exact TZ (U.put o.dst _) h λE a' I H M=>q E a' I ((ry.put a o.dst _ F9).trans (H.mono zZb)) M
section
variable {P:Program} {ops:Array Oper} {md:Region.Mode} {C:World->Prop}
def KO (P:Program)(md:Region.Mode)(ops:Array Oper)(C:World->Prop)(n:Nat)(L:Array Bool->Act->Prop):Nat->Array Bool->Act->Prop
 |0,listed,a=>L listed a
 |f+1,listed,a=>Region.ready md ops listed≠[]/\∀i∈Region.ready md ops listed,i<n/\qOp P ops C i (KO P md ops C n L f (listed.setIfInBounds i true)) a
theorem Fe {n g:Nat}{L:Array Bool->Act->Prop}{Q':Exit->Act->World->Prop}(D:∀e a w,C w->L e a->wpAny P md ops Q' g e a w):
 ∀(f:Nat) (e:Array Bool) (a:Act) (w:World),C w->KO P md ops C n L f e a->wpAny P md ops Q' (f+g) e a w
 |0,e,a,w,q,h=>by rw[Nat.zero_add];exact D _ _ _ q h
 |f+1,e,a,w,q,h=>by
  rw[show f+1+g=(f+g)+1 by omega]
  exact⟨λE=>absurd E h.1,λi G=>wpOp_of_qOp q (λa' w' H h'=>Fe D f _ a' w' H h') (h.2 i G).2⟩
theorem NL {M:Oper}{v:Value}{L:Array Bool->Act->Prop}(Z:ops[i]? =some M)(a9:∀(j:Nat) (o:Oper) cs b,ops[j]? =some o->o.op≠.select cs b)
 (a8:Region.sinkB md ops n=true) (ag:Region.chainB md ops n=true) (a0:n<ops.size) (al:i<n)
 (bk:∀e a,L e a->∀j∈Region.ready md ops e,n <=j):
 ∀(f:Nat) (e:Array Bool) (a:Act),HeadInv md ops n e->
  (∀j I,ops[j]? =some I->j≠i->e.getD j true=false->(∀q∈I.after,Region.binds md q=true->q.on≠i)->M.apart ops I=true)->
  i∈Region.ready md ops e->YieldsIn P ops C M v a->
  KO P md ops C n L f (e.setIfInBounds i true) (a.put M.dst v)->KO P md ops C n L (f+1) e a:=by
 intro f
 induction f with
 |zero=>
  intro e a Y _ E X O
  have H:=(mem_ready.1 E).1
  refine⟨λh=>(by rw[h]at E;cases E),λj G=>?_⟩
  have V:j<n:=by
   rcases Nat.lt_or_ge j n with h|h
   ·exact h
   ·exact absurd G (tail_waits a8 ag a0 Y _ i rfl al H j h)
  refine⟨V,?_⟩
  by_cases D:j=i
  ·subst D;exact X.qOp Z O
  ·have:=bk _ _ O j (ready_mono G D)
   omega
 |succ f b2=>
  intro e a Y aj E X O
  have H:=(mem_ready.1 E).1
  refine⟨λh=>(by rw[h]at E;cases E),λj G=>?_⟩
  have V:j<n:=by
   rcases Nat.lt_or_ge j n with h|h
   ·exact h
   ·exact absurd G (tail_waits a8 ag a0 Y _ i rfl al H j h)
  refine⟨V,?_⟩
  by_cases D:j=i
  ·subst D;exact X.qOp Z O
  ·have h1:=(O.2 j (ready_mono G D)).2
   obtain⟨ar,I,ac,bc⟩:=mem_ready.1 G
   have b1:∀q∈I.after,Region.binds md q=true->q.on≠i:=λq bp bj heq=>by
    have h1:=bc q bp bj
    rw[heq,getD_both H]at h1
    cases h1
   have bb:=qOp_put ac (aj j I ac D ar b1) (λcs b=>a9 i M cs b Z) (λcs b=>a9 j I cs b ac) X h1
   have bq:∀k U,ops[k]? =some U->k≠i->(e.setIfInBounds j true).getD k true=false->
    (∀q∈U.after,Region.binds md q=true->q.on≠i)->M.apart ops U=true:=λk U bs bz H b0=>by
    refine aj k U bs bz ?_ b0
    by_cases an:j=k
    ·subst an;exact ar
    ·rw[getD_set_ne true an]at H;exact H
   refine qOp_mono (λa' ad=>b2 (e.setIfInBounds j true) a' (Y.set G V) bq (ready_mono E (Ne.symm D)) ad.1 ?_) bb
   rw[Array.setIfInBounds_comm _ _ D]
   exact ad.2
theorem KP {n g:Nat}{D:Act->Prop}(U:Region.noSelect ops=true)(O:Region.sinkB md ops n=true)(E:Region.chainB md ops n=true)(I:n<ops.size):
 ∀(l:List Oper) (k:Nat) (listed:Array Bool) (a:Act),(∀j,j<l.length->l[j]? =ops[k+j]?)->k+l.length=n->HeadInv md ops n listed->
 Region.lexHead md ops g l.length k listed=true->wpQuiet P ops C D l a->
 KO P md ops C n (λX a'=>Region.seqB md ops g n X=true/\D a') l.length listed a
 |[],k,listed,a,_,q,_,hB,h=>by
  have:k=n:=by simpa using q
  subst this
  exact⟨by simpa[Region.lexHead]using hB,h⟩
 |o::l,k,listed,a,H,q,V,hB,h=>by
  have e:ops[k]? =some o:=by simpa using(H 0 (by simp)).symm
  simp only[List.length_cons,Region.lexHead,Bool.and_eq_true]at hB
  obtain⟨⟨ag,ad⟩,Y⟩:=hB
  have G:k<n:=by simp only[List.length_cons]at q;omega
  have M:k∈Region.ready md ops listed:=by simpa using ag
  have aj:qOp P ops C k (wpQuiet P ops C D l) a:=by unfold qOp;simp only[e];exact h
  obtain⟨v,al,Z⟩:=yieldsIn_of_qOp e aj
  exact NL e (Region.noSelect_spec U) O E I G (λX a' ac=>seqB_ready ac.1) l.length listed a V (Region.free_spec e ad) M al
   (KP U O E I l (k+1) _ _ (λj an=>by have:=H (j+1) (by simp;omega);simpa[Nat.add_assoc,Nat.add_comm 1 j]using this) (by simp only[List.length_cons]at q;omega) (V.set M G) Y Z)
theorem Ez {id:Nat}{Q:Exit->Act->World->Prop}{a:Act}(n:Nat)(V:P.follows .mixedOrders=true)(hB:Region.lexTailB .any ops n=true)(I:C { w with drawn:=w.drawn+1 })
 (h:wpQuiet P ops C (λa'=>∀w',C w'->wpList P ops Q (ops.toList.drop n) a' w') (ops.toList.take n) a):(Code.region id ops true).wp P Q a w:=by
 simp only[Region.lexTailB,Bool.and_eq_true,dTx]at hB
 obtain⟨⟨⟨⟨Z,X⟩,Y⟩,M⟩,U⟩:=hB
 have e:(ops.toList.take n).length=n:=by simp;omega
 have D:(ops.toList.drop n).length=ops.size-n:=by simp
 have ag:HeadInv .any ops n (Array.replicate ops.size false):=
  ⟨by simp,λj al _ G=>(by rw[getD_replicate_false]at G;cases G),λt _ ac=>getD_in (by simpa using ac) (getD_replicate_false _ _)⟩
 have H:=KP (C:=C) (md:=.any) (g:=ops.size-n) Z Y M X (ops.toList.take n) 0 _ a (λj E=>by
  have O:j<n:=by rw[e]at E;exact E
  simp[O]) (by simpa using e) ag (by rw[e];exact U) h
 refine wp_region_any V ?_
 have:=Fe (Q':=Q) (g:=ops.size-n) (λaj a' w' ad q=>by
  have:=wpAny_of_seq (md:=.any) (Q':=Q) (ops.toList.drop n) n aj a' w' (λj=>by simp[List.getElem?_drop]) (by rw[D];exact q.1) (q.2 w' ad)
  rwa [D]at this) _ _ _ _ I H
 rw[e,show n+(ops.size-n)=ops.size by omega]at this
 exact this
end
abbrev Al:=List (Nat×Obj)
def Wc:Al->Nat->Prop->Prop
 |[],_,X=>X
 |p::r,k,X=>k≠p.1->Wc r k X
def SL:Al->World->Prop->Prop
 |[],_,X=>X
 |p::r,w,X=>w.heap[p.1]? =some p.2->SL r w X
theorem Qx {e:Prop} :∀{q:Al} {k:Nat},Wc q k e->(∀p∈q,p.1≠k)->e
 |[],_,h,_=>h
 |p::_,_,h,D=>Qx (h (λE=>D p List.mem_cons_self E.symm)) λH G=>D H (List.mem_cons_of_mem _ G)
theorem Oe {e:Prop} :∀{q:Al} {w:World},SL q w e->(∀p∈q,w.heap[p.1]? =some p.2)->e
 |[],_,h,_=>h
 |p::_,_,h,D=>Oe (h (D p List.mem_cons_self)) λG E=>D G (List.mem_cons_of_mem _ E)
def XK:Op->Bool
 |.alloc _|.box _ _|.buildSlice _ _ _|.makeMap _ _=>true
 |_=>false
def WF:Op->Bool
 |.call { callee:=.value _,.. } =>true
 |_=>false
theorem P1 {e:Op}{r:Obj×(Nat->Value)}(h:alV P y e=some r):XK e=true:=by
 unfold alV at h
 split at h <;> first|rfl|cases h
theorem Hb {e:Op}{r:FuncId×Array Value}(h:Ha P y e=some r):WF e=true:=by
 unfold Ha at h
 split at h
 ·rfl
 ·cases h
theorem RN {e q:Operand->Value}{op:Op}(h:∀x∈op.operands,e x=q x):alV P e op=alV P q op:=by
 cases op <;> simp only[Op.operands]at h <;> try rfl
 case box D x=>simp only[alV];rw[h x (by simp)]
 case makeMap t r=>cases r <;> rfl
 case buildSlice t n ps=>
  have D:(ps.toList.map λp=>(p.1,e p.2))=ps.toList.map λp=>(p.1,q p.2):=
   List.map_congr_left λp E=>by rw[h p.2 (List.mem_toArray.2 (List.mem_map.2 ⟨p,E,rfl⟩))]
  simp only[alV]
  rw[D]
theorem O9 {e ρ':Operand->Value}{op:Op}(h:∀x∈op.operands,e x=ρ' x):Ha P e op=Ha P ρ' op:=by
 cases op <;> simp only[Op.operands]at h <;> try rfl
 case call c=>
  simp only[Ha]
  obtain⟨callee,args,G⟩:=c
  cases callee with
  |value f=>
   have D:e f=ρ' f:=h f (by simp[Call.operands])
   have q:args.toList.map e=args.toList.map ρ':=List.map_congr_left λx E=>h x (by simp[Call.operands];right;simpa using E)
   simp only[D,q]
  |_=>rfl
section
variable {P:Program} {ops:Array Oper} {md:Region.Mode} {w0:World}
def NO (w0:World)(al:Al)(w:World):Prop:=Below w0.heap.size w0 w/\∀p∈al,w.heap[p.1]? =some p.2
theorem NO.step {e:Al}{w w':World}(h:NO w0 e w)(q:Below w.heap.size w w'):NO w0 e w':=by
 refine⟨h.1.trans (q.mono h.1.size),λp E=>?_⟩
 have h1:=h.2 p E
 have D:p.1<w.heap.size:=by
  rcases Nat.lt_or_ge p.1 w.heap.size with h'|h'
  ·exact h'
  ·rw[Array.getElem?_eq_none h']at h1;cases h1
 rw[q.block _ D,h1]
theorem NO.fresh {e:Al}(h:NO w0 e w):∀p∈e,p.1≠w.heap.size:=by
 intro p D q
 have h1:=h.2 p D
 rw[q,Array.getElem?_eq_none (Nat.le_refl _)]at h1
 cases h1
theorem NO.alloc {q:Al}(h:NO w0 q w)(obj:Obj):NO w0 ((w.heap.size,obj)::q) (w.alloc obj):=by
 have h1:=h.step ((Below.refl w.heap.size w).alloc (Nat.le_refl _) obj)
 refine⟨h1.1,λp e=>?_⟩
 rcases List.mem_cons.1 e with rfl|e
 ·show(w.heap.push obj)[w.heap.size]? =some obj
  simp
 ·exact h1.2 p e
theorem HQ (q:Al)(n:Nat):∃k,n <=k/\∀p∈q,p.1≠k:=by
 have key:∀q:Al,∃m,∀p∈q,p.1<m:=by
  intro q
  induction q with
  |nil=>exact⟨0,λp e=>by cases e⟩
  |cons G r E=>
   obtain⟨m,D⟩:=E
   refine⟨max m (G.1+1),λp e=>?_⟩
   rcases List.mem_cons.1 e with rfl|e
   ·omega
   ·have:=D p e;omega
 obtain⟨m,D⟩:=key q
 exact⟨max m n,by omega,λp e=>by have:=D p e;omega⟩
def Vh (P:Program)(o:Oper)(a:Act)(w0:World)(v:Value):Prop:=∀w,Below w0.heap.size w0 w->(execOp a.eval o).run P w=.ok (.value v) w
def U8 (P:Program)(o:Oper)(a:Act)(w0:World)(v:Value):Prop:=
 ∃f args,Ha P a.eval o.op=some (f,args)/\∀w,Below w0.heap.size w0 w->Calls P f args w λe w'=>e=.returned v/\Below w.heap.size w w'
def YS (P:Program)(ops:Array Oper)(w0:World)(o:Oper)(v:Value)(a:Act):Prop:=
 (Region.wanted o (yielded ops a.tmps)=true/\(Vh P o a w0 v\/U8 P o a w0 v))\/(Region.wanted o (yielded ops a.tmps)=false/\v=undef)
def NS (P:Program)(ops:Array Oper)(o:Oper)(obj:Obj)(mk:Nat->Value)(a:Act):Prop:=
 Region.wanted o (yielded ops a.tmps)=true/\alV P a.eval o.op=some (obj,mk)
def sOp (P:Program)(ops:Array Oper)(w0:World)(i:Nat)(next:Al->Act->Prop)(al:Al)(a:Act):Prop:=match ops[i]? with
 |none=>False
 |some o=>(∃v,YS P ops w0 o v a/\next al (a.put o.dst v))\/
  (∃obj mk,NS P ops o obj mk a/\∀k,w0.heap.size <=k->(∀p∈al,p.1≠k)->next ((k,obj)::al) (a.put o.dst (mk k)))
theorem PX {a:Act}{G:Al}{K:Al->Act->Prop}{E:Act->World->Prop}{Q':Exit->Act->World->Prop}(e:NO w0 G w)
 (h:∀H a' w',NO w0 H w'->K H a'->E a' w') (D:sOp P ops w0 i K G a):wpOp P ops Q' i E a w:=by
 unfold sOp at D
 unfold wpOp
 split at D
 ·exact D.elim
 ·rename_i o U
  rw[U]
  simp only
  rcases D with⟨v,(⟨q,h1⟩|⟨q,rfl⟩),h2⟩|⟨obj,mk,⟨q,h1⟩,h2⟩
  ·rw[if_pos q]
   refine .inl ?_
   unfold Oper.wp
   rcases h1 with h1|⟨f,args,M,h1⟩
   ·rw[h1 w e.1];exact h _ _ _ e h2
   ·rw[MN M]
    exact(h1 w e.1).mono λV w' ⟨O,I⟩=>by subst O;exact h _ _ _ (e.step I) h2
  ·rw[if_neg (by simp[q])]
   exact h _ _ _ e h2
  ·rw[if_pos q]
   refine .inl ?_
   unfold Oper.wp
   rw[RO h1]
   exact h _ _ _ (e.alloc obj) (h2 _ e.1.size e.fresh)
theorem Vw (o:Oper)(a:Act)(e:Option Tmp)(v:Value)(h:∀d,e=some d->d ∉ o.looksAt ops):alV P (a.put e v).eval o.op=alV P a.eval o.op:=
 RN λx D=>Act.eval_put λd q E=>h d q (by
  subst E
  exact List.mem_append_left _ (List.mem_filterMap.2 ⟨.tmp d,by simpa using D,rfl⟩))
theorem RZ (o:Oper)(a:Act)(e:Option Tmp)(v:Value)(h:∀d,e=some d->d ∉ o.looksAt ops):Ha P (a.put e v).eval o.op=Ha P a.eval o.op:=
 O9 λx D=>Act.eval_put λd q E=>h d q (by
  subst E
  exact List.mem_append_left _ (List.mem_filterMap.2 ⟨.tmp d,by simpa using D,rfl⟩))
theorem NR (q:∀cs b,o.op≠.select cs b)(a:Act)(e:Option Tmp)(u:Value)(h:∀d,e=some d->d ∉ o.looksAt ops){v:Value} :
 YS P ops w0 o v (a.put e u) ↔ YS P ops w0 o v a:=by
 unfold YS Vh U8
 rw[wanted_put o a e u h,execOp_put o q a e u h,RZ o a e u h]
theorem NQ (a:Act)(e:Option Tmp)(u:Value)(h:∀d,e=some d->d ∉ o.looksAt ops):
 NS P ops o I J (a.put e u) ↔ NS P ops o I J a:=by
 unfold NS
 rw[wanted_put o a e u h,Vw o a e u h]
end
section
variable {P:Program} {ops:Array Oper} {w0:World} {N:Act->World->Prop} {hd:Nat->Bool} {g:Nat}
def Lb (N:Act->World->Prop):Exit->Act->World->Prop
 |.normal,a,w=>N a w
 |_,_,_=>False
def wpAnyS (P:Program)(ops:Array Oper)(w0:World)(N:Act->World->Prop)(hd:Nat->Bool)(g:Nat):Nat->Array Bool->Al->Act->Prop
 |0,listed,al,a=>(∀j,hd j=true->listed.getD j true=true)/\∀w,NO w0 al w->wpAny P .any ops (Lb N) g listed a w
 |f+1,listed,al,a=>Region.ready .any ops listed≠[]/\∀i∈Region.ready .any ops listed,
  (hd i=true/\sOp P ops w0 i (wpAnyS P ops w0 N hd g f (listed.setIfInBounds i true)) al a)\/
  (hd i=false/\∀w,NO w0 al w->wpOp P ops (Lb N) i (wpAny P .any ops (Lb N) (f+g) (listed.setIfInBounds i true)) a w)
theorem Aw:∀(f:Nat) (D:Array Bool) (e:Al) (a:Act) (w:World),NO w0 e w->wpAnyS P ops w0 N hd g f D e a->wpAny P .any ops (Lb N) (f+g) D a w
 |0,D,e,a,w,q,h=>by rw[Nat.zero_add];exact h.2 _ q
 |f+1,D,e,a,w,q,h=>by
  rw[show f+1+g=(f+g)+1 by omega]
  refine⟨λG=>absurd G h.1,λi H=>?_⟩
  rcases h.2 i H with⟨_,h1⟩|⟨_,h1⟩
  ·exact PX q (λE a' w' I h'=>Aw f _ E a' w' I h') h1
  ·exact h1 w q
theorem NO.al {e q:Al}(D:∀p,p∈e ↔ p∈q)(h:NO w0 q w):NO w0 e w:=⟨h.1,λp E=>h.2 p ((D p).1 E)⟩
theorem KQ:∀(f:Nat) (I:Array Bool) (q D:Al) (a:Act),(∀p,p∈q ↔ p∈D)->wpAnyS P ops w0 N hd g f I q a->wpAnyS P ops w0 N hd g f I D a
 |0,_,_,_,_,e,h=>⟨h.1,λw H=>h.2 w (H.al e)⟩
 |f+1,I,q,D,a,e,h=>by
  refine⟨h.1,λi O=>?_⟩
  rcases h.2 i O with⟨G,h1⟩|⟨G,h1⟩
  ·refine .inl ⟨G,?_⟩
   unfold sOp at*
   split
   ·simp_all
   ·rename_i o V
    simp only[V]at h1
    rcases h1 with⟨v,h1,E⟩|⟨obj,mk,h1,E⟩
    ·exact .inl ⟨v,h1,KQ f _ _ _ _ e E⟩
    ·exact .inr ⟨obj,mk,h1,λk U M=>KQ f _ _ _ _ (λp=>by simp only[List.mem_cons,e p]) (E k U λp X=>M p ((e p).1 X))⟩
  ·exact .inr ⟨G,λw H=>h1 w (H.al e)⟩
structure ClI (ops:Array Oper)(listed:Array Bool):Prop where
 size:listed.size=ops.size
 closed:∀j oj,ops[j]? =some oj->listed.getD j false=true->∀e∈oj.after,Region.binds .any e=true->listed.getD e.on false=true
theorem ClI.set (I:ClI ops K)(U:i∈Region.ready .any ops K):ClI ops (K.setIfInBounds i true):=by
 obtain⟨_,oi,V,O⟩:=mem_ready.1 U
 refine⟨by simp[I.size],λj M G H e D q=>?_⟩
 by_cases E:i=j
 ·subst E
  have:M=oi:=Option.some.inj (G.symm.trans V)
  subst this
  exact getD_set_true (O e D q)
 ·rw[getD_set_ne false E]at H
  exact getD_set_true (I.closed j M G H e D q)
def OT (ops:Array Oper)(i:Nat):Nat->Nat->Bool
 |0,_=>false
 |f+1,j=>match ops[j]? with
  |none=>false
  |some oj=>oj.after.any λe=>Region.binds .any e&&(Nat.beq e.on i || OT ops i f e.on)
theorem OU (M:ClI ops K)(I:K.getD i true=false):
 ∀(f j:Nat) (H:Oper),ops[j]? =some H->OT ops i f j=true->(∀e∈H.after,Region.binds .any e=true->K.getD e.on false=true)->False
 |0,_,_,_,h,_=>by cases h
 |f+1,j,H,ac,h,V=>by
  simp only[OT,ac]at h
  obtain⟨e,Y,D⟩:=Array.any_eq_true'.1 h
  simp only[Bool.and_eq_true,Bool.or_eq_true]at D
  have E:=V e Y D.1
  rcases D.2 with q|q
  ·rw[Nat.eq_of_beq_eq_true q,getD_both I]at E;cases E
  ·cases G:ops[e.on]? with
   |none=>cases f <;> simp[OT,G]at q
   |some O=>exact OU M I f e.on O G q λU Z X=>M.closed e.on O G E U Z X
def Rd (ops:Array Oper)(hd:Nat->Bool)(i:Nat):Bool:=(List.range ops.size).all λj=>hd j || OT ops i 6 j
theorem DP (D:Rd ops hd i=true)(H:ClI ops K)(G:K.getD i true=false)(E:j∈Region.ready .any ops K):hd j=true:=by
 obtain⟨_,I,e,q⟩:=mem_ready.1 E
 have h1:=List.all_eq_true.1 D j (List.mem_range.2 (Array.getElem?_eq_some_iff.1 e).1)
 rcases Bool.or_eq_true _ _▸h1 with h1|h1
 ·exact h1
 ·exact(OU H G _ j I e h1 q).elim
theorem HL {v:Value}{a:Act}(h:Yields P ops o v a):YS P ops w0 o v a:=by
 rcases h with⟨h1,e⟩|h
 ·exact .inl ⟨h1,.inl λw _=>e w⟩
 ·exact .inr h
theorem G6 {v:Value}(U:ops[i]? =some o)(b3:Region.noSelect ops=true)(bb:hd i=true):
 ∀(f:Nat) (e:Array Bool) (V:Al) (a:Act),ClI ops e->
  (∀j q,ops[j]? =some q->j≠i->e.getD j true=false->(∀D∈q.after,Region.binds .any D=true->D.on≠i)->o.apart ops q=true)->
  i∈Region.ready .any ops e->YS P ops w0 o v a->(Rd ops hd i=true\/Yields P ops o v a)->
  wpAnyS P ops w0 N hd g f (e.setIfInBounds i true) V (a.put o.dst v)->wpAnyS P ops w0 N hd g (f+1) e V a:=by
 have Z:=Region.noSelect_spec b3
 intro f
 induction f with
 |zero=>
  intro e V a al Y E aj ag I
  have O:=(mem_ready.1 E).1
  refine⟨λh=>(by rw[h]at E;cases E),λj G=>?_⟩
  by_cases H:j=i
  ·subst H
   refine .inl ⟨bb,?_⟩
   unfold sOp
   simp only[U]
   exact .inl ⟨v,aj,I⟩
  ·cases M:hd j with
   |true=>
    have h1:=I.1 j M
    rw[getD_set_ne true (Ne.symm H),(mem_ready.1 G).1]at h1
    cases h1
   |false=>
    rcases ag with X|hY
    ·rw[DP X al O G]at M;cases M
    ·refine .inr ⟨rfl,λw a8=>?_⟩
     have:=wpAny_first U Z (Q:=Lb N) (λc a w h=>h.elim) (0+g) e a w Y E hY (by rw[Nat.zero_add];exact I.2 w a8)
     exact this.2 j G
 |succ f b4=>
  intro e V a al Y E aj ag I
  have O:=(mem_ready.1 E).1
  refine⟨λh=>(by rw[h]at E;cases E),λj G=>?_⟩
  by_cases H:j=i
  ·subst H
   refine .inl ⟨bb,?_⟩
   unfold sOp
   simp only[U]
   exact .inl ⟨v,aj,I⟩
  ·cases M:hd j with
   |false=>
    rcases ag with X|hY
    ·rw[DP X al O G]at M;cases M
    ·refine .inr ⟨rfl,λw a8=>?_⟩
     have:=wpAny_first U Z (Q:=Lb N) (λc a w h=>h.elim) (f+1+g) e a w Y E hY (Aw _ _ _ _ _ a8 I)
     exact this.2 j G
   |true=>
    have h1:sOp P ops w0 j (wpAnyS P ops w0 N hd g f ((e.setIfInBounds i true).setIfInBounds j true)) V (a.put o.dst v):=by
     rcases I.2 j (ready_mono G H)with⟨_,h1⟩|⟨h1,_⟩
     ·exact h1
     ·rw[M]at h1;cases h1
    obtain⟨bj,q,a0,bk⟩:=mem_ready.1 G
    have b2:∀D∈q.after,Region.binds .any D=true->D.on≠i:=λD bq bp heq=>by
     have h1:=bk D bq bp
     rw[heq,getD_both O]at h1
     cases h1
    obtain⟨a1,a2,a3⟩:=Oper.apart_spec (Y j q a0 H bj b2)
    have bz:∀k ac,ops[k]? =some ac->k≠i->(e.setIfInBounds j true).getD k true=false->
     (∀D∈ac.after,Region.binds .any D=true->D.on≠i)->o.apart ops ac=true:=λk ac ar b0 O b1=>by
     refine Y k ac ar b0 ?_ b1
     by_cases bc:j=k
     ·subst bc;exact bj
     ·rw[getD_set_ne true bc]at O;exact O
    have keep:∀u,Rd ops hd i=true\/Yields P ops o v (a.put q.dst u):=λu=>by
     rcases ag with X|hY
     ·exact .inl X
     ·exact .inr (hY.of_same (execOp_put o (λcs b=>Z i o cs b U) a q.dst u a3) (wanted_put o a q.dst u a3))
    have a9:∀ad u,wpAnyS P ops w0 N hd g f ((e.setIfInBounds i true).setIfInBounds j true) ad ((a.put o.dst v).put q.dst u)->
     wpAnyS P ops w0 N hd g (f+1) (e.setIfInBounds j true) ad (a.put q.dst u):=λad u h=>by
     refine b4 (e.setIfInBounds j true) ad _ (al.set G) bz (ready_mono E (Ne.symm H)) ((NR (λcs b=>Z i o cs b U) a q.dst u a3).2 aj) (keep u) ?_
     rw[<- Act.put_comm a v u a2,Array.setIfInBounds_comm _ _ H]
     exact h
    refine .inl ⟨rfl,?_⟩
    unfold sOp at h1 ⊢
    simp only[a0]at h1 ⊢
    rcases h1 with⟨u,h1,an⟩|⟨obj,mk,h1,an⟩
    ·exact .inl ⟨u,(NR (λcs b=>Z j q cs b a0) a o.dst v a1).1 h1,a9 _ _ an⟩
    ·exact .inr ⟨obj,mk,(NQ a o.dst v a1).1 h1,λk ar bs=>a9 _ _ (an k ar bs)⟩
theorem WP {v u:Value}{a:Act}(q:WF o.op=false)(h:YS P ops w0 o v a)(h':YS P ops w0 o u a):v=u:=by
 rcases h with⟨D,h⟩|⟨D,rfl⟩
 ·rcases h' with⟨_,h'⟩|⟨e,_⟩
  ·rcases h with h|⟨f,args,h,_⟩
   ·rcases h' with h'|⟨f,args,h',_⟩
    ·have E:=(h w0 (Below.refl _ _)).symm.trans (h' w0 (Below.refl _ _))
     simp only[Result.ok.injEq,Next.value.injEq]at E
     exact E.1
    ·rw[Hb h']at q;cases q
   ·rw[Hb h]at q;cases q
  ·rw[D]at e;cases e
 ·rcases h' with⟨e,_⟩|⟨_,rfl⟩
  ·rw[D]at e;cases e
  ·rfl
theorem WN {v:Value}{a:Act}(h:YS P ops w0 o v a)(h':NS P ops o I J a):False:=by
 obtain⟨E,h'⟩:=h'
 rcases h with⟨D,h⟩|⟨D,rfl⟩
 ·rcases h with h|⟨f,args,h,_⟩
  ·have e:=(h w0 (Below.refl _ _)).symm.trans (RO h' w0)
   simp only[Result.ok.injEq,Next.value.injEq]at e
   have G:w0.heap.size=(w0.alloc I).heap.size:=congrArg (λw:World=>w.heap.size) e.2
   rw[World.size_alloc]at G
   omega
  ·have h1:=P1 h'
   have q:=Hb h
   generalize o.op=H at h1 q
   cases H <;> simp[XK,WF]at h1 q
 ·rw[D]at E;cases E
theorem NM (b1:ops[i]? =some o)(ck:Region.noSelect ops=true)(b7:hd i=true)(bz:Rd ops hd i=true):
 ∀(f:Nat) (D:Array Bool) (H:Al) (a:Act),ClI ops D->
  (∀j e,ops[j]? =some e->j≠i->D.getD j true=false->(∀q∈e.after,Region.binds .any q=true->q.on≠i)->o.apart ops e=true)->
  (∀j e,ops[j]? =some e->j≠i->hd j=true->D.getD j true=false->(∀q∈e.after,Region.binds .any q=true->q.on≠i)->WF e.op=false)->
  i∈Region.ready .any ops D->NS P ops o I J a->
  (∀k,w0.heap.size <=k->(∀p∈H,p.1≠k)->wpAnyS P ops w0 N hd g f (D.setIfInBounds i true) ((k,I)::H) (a.put o.dst (J k)))->wpAnyS P ops w0 N hd g (f+1) D H a:=by
 have bc:=Region.noSelect_spec ck
 intro f
 induction f with
 |zero=>
  intro D H a a0 _ _ U ar ad
  have G:=(mem_ready.1 U).1
  refine⟨λh=>(by rw[h]at U;cases U),λj Z=>.inl ?_⟩
  have al:=DP bz a0 G Z
  by_cases O:j=i
  ·subst O
   refine⟨b7,?_⟩
   unfold sOp
   simp only[b1]
   exact .inr ⟨I,J,ar,ad⟩
  ·obtain⟨k,E,M⟩:=HQ H w0.heap.size
   have h1:=(ad k E M).1 j al
   rw[getD_set_ne true (Ne.symm O),(mem_ready.1 Z).1]at h1
   cases h1
 |succ f cn=>
  intro D H a a0 b0 b3 U ar ad
  have G:=(mem_ready.1 U).1
  refine⟨λh=>(by rw[h]at U;cases U),λj Z=>.inl ?_⟩
  have al:=DP bz a0 G Z
  refine⟨al,?_⟩
  by_cases O:j=i
  ·subst O
   unfold sOp
   simp only[b1]
   exact .inr ⟨I,J,ar,ad⟩
  ·obtain⟨a8,e,ac,b5⟩:=mem_ready.1 Z
   have b4:∀q∈e.after,Region.binds .any q=true->q.on≠i:=λq b8 b6 heq=>by
    have h1:=b5 q b8 b6
    rw[heq,getD_both G]at h1
    cases h1
   obtain⟨a1,a2,a3⟩:=Oper.apart_spec (b0 j e ac O a8 b4)
   have cl:=b3 j e ac O al a8 b4
   have bq:∀k:Nat,(D.setIfInBounds j true).getD k true=false->D.getD k true=false:=λk G=>by
    by_cases b2:j=k
    ·subst b2;exact a8
    ·rw[getD_set_ne true b2]at G;exact G
   have bs:∀ag u,(∀k,w0.heap.size <=k->(∀p∈ag,p.1≠k)->wpAnyS P ops w0 N hd g f ((D.setIfInBounds i true).setIfInBounds j true) ((k,I)::ag) ((a.put o.dst (J k)).put e.dst u))->
    wpAnyS P ops w0 N hd g (f+1) (D.setIfInBounds j true) ag (a.put e.dst u):=λag u h=>by
    refine cn (D.setIfInBounds j true) ag _ (a0.set Z) (λk bp E a9 G bb=>b0 k bp E a9 (bq k G) bb)
     (λk bp E a9 cj G bb=>b3 k bp E a9 cj (bq k G) bb) (ready_mono U (Ne.symm O)) ((NQ a e.dst u a3).2 ar) λk E M=>?_
    rw[<- Act.put_comm a (J k) u a2,Array.setIfInBounds_comm _ _ O]
    exact h k E M
   have h1:∀k,w0.heap.size <=k->(∀p∈H,p.1≠k)->sOp P ops w0 j (wpAnyS P ops w0 N hd g f ((D.setIfInBounds i true).setIfInBounds j true)) ((k,I)::H) (a.put o.dst (J k)):=
    λk E M=>by
     rcases(ad k E M).2 j (ready_mono Z O)with⟨_,h1⟩|⟨h1,_⟩
     ·exact h1
     ·rw[al]at h1;cases h1
   obtain⟨bj,cf,cb⟩:=HQ H w0.heap.size
   have V:=h1 bj cf cb
   unfold sOp at h1 V ⊢
   simp only[ac]at h1 V ⊢
   rcases V with⟨u,V,_⟩|⟨bk,mk',V,_⟩
   ·have X:=(NR (λcs b=>bc j e cs b ac) a o.dst (J bj) a1).1 V
    refine .inl ⟨u,X,bs _ _ λk E M=>?_⟩
    rcases h1 k E M with⟨cp,Y,aj⟩|⟨bk,mk',Y,aj⟩
    ·have q:=WP cl ((NR (λcs b=>bc j e cs b ac) a o.dst (J k) a1).1 Y) X
     subst q;exact aj
    ·exact(WN X ((NQ a o.dst (J k) a1).1 Y)).elim
   ·have X:=(NQ a o.dst (J bj) a1).1 V
    refine .inr ⟨bk,mk',X,λk' ce b9=>bs _ _ λk E M=>?_⟩
    have cc:∀p∈H,p.1≠k:=λp an=>M p (List.mem_cons_of_mem _ an)
    have ch:k'≠k:=M (k',bk) List.mem_cons_self
    rcases h1 k E cc with⟨cp,Y,aj⟩|⟨cr,mk'',Y,aj⟩
    ·exact(WN ((NR (λcs b=>bc j e cs b ac) a o.dst (J k) a1).1 Y) X).elim
    ·have q:=X.2.symm.trans ((NQ a o.dst (J k) a1).1 Y).2
     simp only[Option.some.injEq,Prod.mk.injEq]at q
     obtain⟨rfl,rfl⟩:=q
     refine KQ f _ _ _ _ (λp=>?_) (aj k' ce λp an=>?_)
     ·simp only[List.mem_cons];constructor <;> (intro h;rcases h with h|h|h <;> simp[h])
     ·rcases List.mem_cons.1 an with rfl|an
      ·exact Ne.symm ch
      ·exact b9 p an
def wpS (P:Program)(ops:Array Oper)(hd:Nat->Bool)(w0:World)(Q:Al->Act->Prop):List Nat->Al->Act->Prop
 |[],al,a=>Q al a
 |i::l,al,a=>match Rd ops hd i with
  |true=>sOp P ops w0 i (wpS P ops hd w0 Q l) al a
  |false=>∃o v,ops[i]? =some o/\Yields P ops o v a/\wpS P ops hd w0 Q l al (a.put o.dst v)
def VG (ops:Array Oper)(hd:Nat->Bool)(i:Nat)(listed:Array Bool):Bool:=
 (List.range ops.size).all λj=>Nat.beq j i || !hd j || listed.getD j true || Region.waitsFor .any ops j i || !((ops[j]?).map λo=>WF o.op).getD false
def SK (ops:Array Oper)(hd:Nat->Bool):List Nat->Array Bool->Bool
 |[],listed=>(List.range ops.size).all (λj=> !hd j || listed.getD j true)
 |i::l,listed=>hd i&&(Region.ready .any ops listed).contains i&&Region.free .any ops listed i&&(!((ops[i]?).map λo=>XK o.op).getD false || VG ops hd i listed)&&SK ops hd l (listed.setIfInBounds i true)
def Xt:List Nat->Nat->Bool
 |[],_=>false
 |x::l,i=>Nat.beq x i || Xt l i
def Xy:List Nat->Array Bool->Array Bool
 |[],l=>l
 |i::r,l=>Xy r (l.setIfInBounds i true)
def Xw (ops:Array Oper)(ord:List Nat):Bool:=
 Region.noSelect ops&&Nat.ble ord.length ops.size&&SK ops (Xt ord) ord (Array.replicate ops.size false)
theorem Q9 (h:VG ops hd i K=true):∀j oj,ops[j]? =some oj->j≠i->hd j=true->K.getD j true=false->(∀e∈oj.after,Region.binds .any e=true->e.on≠i)->WF oj.op=false:=by
 intro j oj D H I V M
 have h1:=List.all_eq_true.1 h j (List.mem_range.2 (Array.getElem?_eq_some_iff.1 D).1)
 have q:Nat.beq j i=false:=by cases q:Nat.beq j i <;> first|rfl|exact absurd (Nat.eq_of_beq_eq_true q) H
 have Y:Region.waitsFor .any ops j i=false:=by
  cases X:Region.waitsFor .any ops j i with
  |false=>rfl
  |true=>
   obtain⟨Z,O,e,G,E,U⟩:=Region.waitsFor_spec X
   have:Z=oj:=Option.some.inj (O.symm.trans D)
   subst this
   exact absurd U (M e G E)
 simpa[q,V,Y,D,I]using h1
theorem Eh {V:Al->Act->Prop}(G:Region.noSelect ops=true):
 ∀(l:List Nat) (listed:Array Bool) (e:Al) (a:Act),(∀e a,V e a->∀w,NO w0 e w->wpAny P .any ops (Lb N) g (Xy l listed) a w)->ClI ops listed->SK ops hd l listed=true->wpS P ops hd w0 V l e a->
 wpAnyS P ops w0 N hd g l.length listed e a
 |[],listed,e,a,I,D,hB,h=>by
  simp only[SK]at hB
  refine⟨λj ad=>?_,I _ _ h⟩
  rcases Nat.lt_or_ge j ops.size with aj|ac
  ·have h1:=List.all_eq_true.1 hB j (List.mem_range.2 aj)
   simpa[ad]using h1
  ·have:listed.size <=j:=by rw[D.size];exact ac
   simp[Array.getElem?_eq_none this]
 |i::l,listed,e,a,I,D,hB,h=>by
  simp only[SK,Bool.and_eq_true]at hB
  obtain⟨⟨⟨⟨U,al⟩,M⟩,Z⟩,O⟩:=hB
  have E:i∈Region.ready .any ops listed:=by simpa using al
  simp only[wpS]at h
  split at h
  ·rename_i X
   unfold sOp at h
   split at h
   ·exact h.elim
   ·rename_i o q
    rcases h with⟨v,h1,H⟩|⟨obj,mk,h1,H⟩
    ·exact G6 q G U l.length listed e a D (Region.free_spec q M) E h1 (.inl X) (Eh G l _ _ _ I (D.set E) O H)
    ·have Y:VG ops hd i listed=true:=by
      simpa[q,P1 h1.2]using Z
     exact NM q G U X l.length listed e a D (Region.free_spec q M) (Q9 Y) E h1
      λk ag M=>Eh G l _ _ _ I (D.set E) O (H k ag M)
  ·obtain⟨o,v,q,hY,H⟩:=h
   exact G6 q G U l.length listed e a D (Region.free_spec q M) E (HL hY) (.inr hY) (Eh G l _ _ _ I (D.set E) O H)
theorem NN {a:Act}(e:List Nat)(I:P.follows .mixedOrders=true)(hB:Xw ops e=true)
 (h:wpS P ops (Xt e) w (λq a'=>∀w',NO w q w'->wpAny P .any ops (Lb N) (ops.size-e.length) (Xy e (Array.replicate ops.size false)) a' w') e [] a):
 (Code.region n ops true).wp P (Lb N) a w:=by
 simp only[Xw,Bool.and_eq_true]at hB
 obtain⟨⟨O,H⟩,G⟩:=hB
 have V:e.length <=ops.size:=Nat.le_of_ble_eq_true H
 have U:ClI ops (Array.replicate ops.size false):=⟨by simp,λj X _ D=>(by rw[getD_replicate_false]at D;cases D)⟩
 have E:=Eh (P:=P) (w0:=w) (N:=N) O e _ _ a (λq a h=>h) U G h
 refine wp_region_any I ?_
 have:=Aw _ _ _ _ { w with drawn:=w.drawn+1 } ⟨(Below.refl _ w).drew,λp M=>by cases M⟩ E
 rw[show e.length+(ops.size-e.length)=ops.size by omega]at this
 exact this
end
def XB (P:Program)(n:Nat)(w0:World)(core:Bool)(o:Oper)(al:Al)(a:Fr)(K:Al->Fr->Prop):Prop:=
 match pv P (evF a) o.op with
 |some (.val v)=>nmK o.op v λv=>K al (AN n a o.dst v)
 |some (.part c v)=>c/\nmK o.op v λv=>K al (AN n a o.dst v)
 |none=>match core with
  |false=>False
  |true=>match alV P (evF a) o.op with
   |some (obj,mk)=>∀k:Nat,w0.heap.size <=k->Wc al k (K ((k,obj)::al) (AN n a o.dst (mk k)))
   |none=>match Xj P (evF a) o with
    |some (.rd s)=>exR (XS P o) λv=>(∀w1,Below w0.heap.size w0 w1->s.run P w1=.ok v w1)/\K al (AN n a o.dst v)
    |some _=>False
    |none=>match Ha P (evF a) o.op with
     |some (f,args)=>exR (shT P o.type) λv=>(∀w1,Below w0.heap.size w0 w1->Calls P f args w1 λe w2=>e=.returned v/\Below w1.heap.size w1 w2)/\K al (AN n a o.dst v)
     |none=>False
def WS (P:Program)(n:Nat)(w0:World)(hd:Nat->Bool)(ops:Array Oper)(K:Al->Fr->Prop):List Nat->Al->Fr->Prop
 |[],al,a=>K al a
 |i::rest,al,a=>match ops[i]? with
  |none=>False
  |some o=>WG n ops o.guard a (λa=>XB P n w0 (Rd ops hd i) o al a (WS P n w0 hd ops K rest)) (λa=>WS P n w0 hd ops K rest al (AN n a o.dst undef))
theorem Vt {w0:World}{e:Al}{I:Fr}{a:Act}{K:Al->Fr->Prop}{H:Al->Act->Prop}(G:Region.wanted o (yielded D a.tmps)=true)(Z:Rep n I a)(h:XB P n w0 E o e I K)
 (q:∀e v,K e (AN n I o.dst v)->H e (a.put o.dst v)):
 (∃v,Yields P D o v a/\H e (a.put o.dst v))\/E=true/\((∃v,YS P D w0 o v a/\H e (a.put o.dst v))\/(∃obj mk,NS P D o obj mk a/\∀k,w0.heap.size <=k->(∀p∈e,p.1≠k)->H ((k,obj)::e) (a.put o.dst (mk k)))):=by
 unfold XB at h
 rw[<- Z.eval]at h
 split at h
 ·rename_i v M;exact .inl ⟨v,.inl ⟨G,λw=>Ot M trivial w⟩,q _ _ (HY h)⟩
 ·rename_i c v M;exact .inl ⟨v,.inl ⟨G,λw=>Ot M h.1 w⟩,q _ _ (HY h.2)⟩
 ·split at h
  ·cases h
  ·refine .inr ⟨rfl,?_⟩
   split at h
   ·rename_i obj mk U;exact .inr ⟨obj,mk,⟨G,U⟩,λk Y X=>q _ _ (Qx (h k Y) X)⟩
   ·split at h
    ·rename_i s ac;obtain⟨v,O,h⟩:=Fk h
     exact .inl ⟨v,.inl ⟨G,.inl λw ad=>by rw[Ks ac,RW.next,uC (O w ad)]⟩,q _ _ h⟩
    ·cases h
    ·split at h
     ·rename_i f args V
      obtain⟨v,O,h⟩:=Fk h
      exact .inl ⟨v,.inl ⟨G,.inr ⟨f,args,V,O⟩⟩,q _ _ h⟩
     ·cases h
theorem Vu {w0:World}{E:Nat->Bool}{Q:Al->Act->Prop} :∀{l:List Nat} {K:Al->Fr->Prop} {e:Al} {q:Fr} {a:Act},Rep n q a->WS P n w0 E D K l e q->
 (∀I U a',Rep n U a'->ry (Ma D.toList) a a'->K I U->Q I a')->wpS P D E w0 Q l e a
 |[],K,e,q,a,Z,h,G=>G _ _ _ Z (ry.refl _ _) h
 |i::aj,K,e,q,a,Z,h,G=>by
  unfold WS at h
  split at h
  ·cases h
  ·rename_i o H
   have ag:∀t,o.dst=some t->t∈Ma D.toList:=λt an=>by
    simp only[Ma,List.mem_filterMap]
    exact⟨o,by have:=Array.mem_of_getElem? H;simpa using this,an⟩
   have pure:(∃v,Yields P D o v a/\wpS P D E w0 Q aj e (a.put o.dst v))->wpS P D E w0 Q (i::aj) e a:=by
    rintro⟨v,hY,h2⟩
    simp only[wpS]
    split
    ·unfold sOp
     simp only[H]
     exact .inl ⟨v,HL hY,h2⟩
    ·exact⟨o,v,H,hY,h2⟩
   obtain⟨U,ac,⟨ad,h⟩|⟨ad,h⟩⟩:=RM Z h
   ·rcases Vt ad ac h λI v h'=>Vu (ac.put o.dst v) h' λM O a' X V Y=>G M O a' X ((ry.put a o.dst v ag).trans V) Y with h1|⟨al,h1⟩
    ·exact pure h1
    ·simp only[wpS,al]
     unfold sOp
     simp only[H]
     exact h1
   ·exact pure ⟨undef,.inr ⟨ad,rfl⟩,Vu (ac.put o.dst _) h λM O a' X V Y=>G M O a' X ((ry.put a o.dst _ ag).trans V) Y⟩
def VK (f:Nat->Prop):List Nat->Prop
 |[]=>True
 |[i]=>f i
 |i::l=>f i/\VK f l
theorem N0 {f:Nat->Prop} :∀{l:List Nat},VK f l->∀i∈l,f i
 |[],_,_,h=>by cases h
 |[j],h,i,e=>by simp at e;subst e;exact h
 |j::k::l,h,i,e=>by
  rcases List.mem_cons.1 e with rfl|e
  ·exact h.1
  ·exact N0 h.2 i e
def takes (P:Program)(ops:Array Oper)(listed:Array Bool)(a:Fr)(i:Nat):Bool:=match ops[i]? with
 |some o=>(pv P (evF a) o.op).isSome&&Region.free .any ops listed i
 |none=>false
def WPV (r:Option PV)(K:Value->Prop):Prop:=match r with
 |some (.val v)=>K v
 |some (.part c v)=>c/\K v
 |none=>False
def WA (P:Program)(n:Nat)(ops:Array Oper)(K:Fr->World->Prop):Nat->Array Bool->Fr->World->Prop
 |0,listed,a,w=>match Region.ready .any ops listed with
  |[]=>K a w
  |_=>False
 |fuel+1,listed,a,w=>match Region.ready .any ops listed with
  |[]=>K a w
  |l=>match l.find? (takes P ops listed a)with
   |some i=>match ops[i]? with
    |none=>False
    |some o=>WG n ops o.guard a (λa=>WPV (pv P (evF a) o.op) λv=>nmK o.op v λv=>WA P n ops K fuel (listed.setIfInBounds i true) (AN n a o.dst v) w) (λa=>WA P n ops K fuel (listed.setIfInBounds i true) (AN n a o.dst undef) w)
   |none=>VK (λi=>match ops[i]? with
    |none=>False
    |some o=>WG n ops o.guard a (λa=>WOp P n o a (WA P n ops K fuel (listed.setIfInBounds i true)) w) (λa=>WA P n ops K fuel (listed.setIfInBounds i true) (AN n a o.dst undef) w)) l
theorem Gm (h:D[i]? =some o):∀t,o.dst=some t->t∈Ma D.toList:=by
 intro t e
 simp only[Ma,List.mem_filterMap]
 exact⟨o,by have:=Array.mem_of_getElem? h;simpa using this,e⟩
theorem O1 {K:Fr->World->Prop}{N:Act->World->Prop}(U:Region.noSelect D=true):∀{fuel:Nat} {al:Array Bool} {ac:Fr} {a:Act} {w:World},Rep n ac a->WA P n D K fuel al ac w->
 (∀ad a' w',Rep n ad a'->ry (Ma D.toList) a a'->K ad w'->N a' w')->wpAny P .any D (Lb N) fuel al a w
 |0,al,ac,a,w,Y,h,M=>by
  unfold WA at h
  unfold wpAny
  split at h
  ·rename_i Z;exact⟨Z,M _ _ _ Y (ry.refl _ _) h⟩
  ·cases h
 |fuel+1,al,ac,a,w,Y,h,M=>by
  unfold WA at h
  split at h
  ·rename_i Z
   unfold wpAny
   refine⟨λ_=>M _ _ _ Y (ry.refl _ _) h,λi ag=>?_⟩
   rw[Z]at ag;cases ag
  ·rename_i a0
   split at h
   ·rename_i i e
    have an:=List.mem_of_find?_eq_some e
    have aj:=List.find?_some e
    split at h
    ·cases h
    ·rename_i o q
     simp only[takes,q,Bool.and_eq_true]at aj
     obtain⟨ad,O,⟨V,h⟩|⟨V,h⟩⟩:=RM Y h
     ·unfold WPV at h
      rw[<- O.eval]at h
      split at h
      ·rename_i v ar
       exact wpAny_take q U aj.2 (by simpa using an) (λc a w X=>X.elim) (.inl ⟨V,λw=>Ot ar trivial w⟩)
        (O1 U (O.put o.dst v) (HY h) λE a' I e G H=>M E a' I e ((ry.put a o.dst v (Gm q)).trans G) H)
      ·rename_i c v ar
       exact wpAny_take q U aj.2 (by simpa using an) (λc a w X=>X.elim) (.inl ⟨V,λw=>Ot ar h.1 w⟩)
        (O1 U (O.put o.dst v) (HY h.2) λE a' I e G H=>M E a' I e ((ry.put a o.dst v (Gm q)).trans G) H)
      ·cases h
     ·exact wpAny_take q U aj.2 (by simpa using an) (λc a w X=>X.elim) (.inr ⟨V,rfl⟩)
       (O1 U (O.put o.dst _) h λE a' I e G H=>M E a' I e ((ry.put a o.dst _ (Gm q)).trans G) H)
   ·unfold wpAny
    refine⟨λZ=>absurd Z a0,λi ag=>?_⟩
    have h1:=N0 h i ag
    unfold wpOp
    split at h1
    ·cases h1
    ·rename_i o q
     rw[q]
     simp only
     obtain⟨ad,O,⟨V,h⟩|⟨V,h⟩⟩:=RM Y h1
     ·rw[if_pos V]
      exact .inl (U4 O h λv w' h'=>O1 U (O.put o.dst v) h' λE a' I e G H=>M E a' I e ((ry.put a o.dst v (Gm q)).trans G) H)
     ·rw[if_neg (by simp[V])]
      exact O1 U (O.put o.dst _) h λE a' I e G H=>M E a' I e ((ry.put a o.dst _ (Gm q)).trans G) H
def XM (n:Nat)(a:Fr)(c:Operand)(b:Bool):Fr:=match c with
 |.tmp t=>AN n a (some t) (.bool b)
 |_=>a
theorem Qt {e:Fr}{a:Act}{c:Operand}{b:Bool}(q:Rep n e a)(h:evF e c=.bool b):Rep n (XM n e c b) a:=by
 cases c with
 |tmp t=>exact q.again h
 |_=>exact q
def writes:Code->List Tmp
 |.region _ ops _=>Ma ops.toList
 |.seq a b=>writes a++writes b
 |.cond _ a b=>writes a++writes b
 |.block _ c|.loop c|.scope c=>writes c
 |.rangeFunc _ ps a b=>ps.toList++writes a++writes b
 |_=>[]
def Jr:Code->Nat
 |.seq a b=>Jr a+Jr b+1
 |.cond _ a b=>Jr a+Jr b+1
 |.block _ c|.loop c|.scope c=>Jr c+1
 |.rangeFunc _ _ a b=>Jr a+Jr b+1
 |_=>1
abbrev Ann:=List (Nat×List (Tmp×Sh))
def Ann.at (l:Ann)(p:Nat):Option (List (Tmp×Sh)):=match l with
 |[]=>none
 |(k,x)::r=>bif Nat.beq k p then some x else Ann.at r p
def reads (a:Fr):List (Tmp×Sh)->List Value
 |[]=>[]
 |(t,_)::l=>FN a t::reads a l
def xQ:List (Tmp×Sh)->List Sh
 |[]=>[]
 |(_,s)::l=>s::xQ l
def As:List (Tmp×Sh)->List Tmp
 |[]=>[]
 |(t,_)::l=>t::As l
def QJ (n:Nat)(a:Fr):List Tmp->List Value->Fr
 |t::l,v::vs=>QJ n (AN n a (some t) v) l vs
 |_,_=>a
def Vx:List Tmp->(List Value->Prop)->Prop
 |[],K=>K []
 |_::l,K=>∀v:Value,Vx l λvs=>K (v::vs)
theorem Vy {K:List Value->Prop} :∀(l:List Tmp),(∀vs,K vs)->Vx l K:=by
 intro l
 induction l generalizing K with
 |nil=>intro h;exact h _
 |cons s l e=>intro h;exact λ_=>e λ_=>h _
theorem P2 {f:Tmp->Value} :∀{l:List Tmp} {K:List Value->Prop},Vx l K->K (l.map f)
 |[],_,h=>h
 |_::l,K,h=>P2 (l:=l) (h _)
def W4:List Tmp->Tmp->Bool
 |[],_=>false
 |k::l,t=>bif Nat.beq k t then true else W4 l t
theorem Qo:∀{l:List Tmp} {t:Tmp},W4 l t=true->t∈l
 |k::l,t,h=>by
  simp only[W4]at h
  cases e:Nat.beq k t with
  |true=>rw[Nat.eq_of_beq_eq_true e];exact List.mem_cons_self
  |false=>rw[e]at h;exact List.mem_cons_of_mem _ (Qo h)
def OZ (S L:List Tmp):List Tmp:=match S with
 |[]=>[]
 |t::S=>bif W4 L t then OZ S L else t::OZ S (t::L)
theorem Nl:∀{S L:List Tmp} {t:Tmp},t∈S->t∈L\/t∈OZ S L
 |s::S,L,t,h=>by
  unfold OZ
  cases e:W4 L s with
  |true=>
   simp only[cond_true]
   rcases List.mem_cons.1 h with rfl|h
   ·exact .inl (Qo e)
   ·exact Nl h
  |false=>
   simp only[cond_false]
   rcases List.mem_cons.1 h with rfl|h
   ·exact .inr List.mem_cons_self
   ·rcases Nl (L:=s::L) h with h|h
    ·rcases List.mem_cons.1 h with rfl|h
     ·exact .inr List.mem_cons_self
     ·exact .inl h
    ·exact .inr (List.mem_cons_of_mem _ h)
theorem Ns {f:Tmp->Value}(E:∀t,¬ t<n->f t=undef):∀(l:List Tmp) (e:Fr),(∀t,¬ t<n->FN e t=undef)->∀i,FN (QJ n e l (l.map f)) i=if i∈l then f i else FN e i
 |[],e,_,i=>by simp[QJ]
 |t::l,e,I,i=>by
  simp only[List.map_cons,QJ]
  have U:∀j,¬ j<n->FN (AN n e (some t) (f t)) j=undef:=by
   intro j D
   simp only[AN]
   cases q:Nat.ble (t+1) n with
   |false=>exact I j D
   |true=>
    simp only[cond_true,FN]
    cases O:Nat.beq t j with
    |false=>exact I j D
    |true=>rw[<- Nat.eq_of_beq_eq_true O]at D;exact E t D
  rw[Ns E l _ U i]
  by_cases G:i∈l
  ·simp[G]
  ·by_cases M:i=t
   ·subst M
    simp only[G,if_false,List.mem_cons,true_or,if_true,AN]
    cases q:Nat.ble (i+1) n with
    |true=>
     have:Nat.beq i i=true:=Nat.beq_refl i
     simp only[cond_true,FN,this]
    |false=>
     have H: ¬ i<n:=by
      intro H
      have:Nat.ble (i+1) n=true:=Nat.ble_eq_true_of_le (by omega)
      rw[this]at q;cases q
     simp only[cond_false]
     rw[I i H,E i H]
   ·have V:Nat.beq t i=false:=by cases q:Nat.beq t i <;> first|rfl|exact absurd (Nat.eq_of_beq_eq_true q).symm M
    simp only[G,List.mem_cons,M,or_false,if_false,AN]
    cases q:Nat.ble (t+1) n <;> simp[FN,V]
theorem Rep.beyond {e:Fr}{a:Act}(h:Rep n e a)(t:Nat)(q: ¬ t<n):FN e t=undef:=by
 rw[<- h.get t]
 have: ¬ t<a.tmps.size:=by rw[h.size];exact q
 simp[Array.getD,this]
theorem Q0 {H D:Fr}{a b:Act}{S L:List Tmp}(I:Rep n H a)(e:Rep n D b)(h:ry S a b):
 Rep n (QJ n (QJ n H (OZ S L) ((OZ S L).map λt=>FN D t)) L (L.map λt=>FN D t)) b:=by
 refine⟨e.size,e.defers,λi=>?_⟩
 have h1:=Ns (f:=λt=>FN D t) (λt q=>e.beyond t q) (OZ S L) H I.beyond
 rw[Ns (f:=λt=>FN D t) (λt q=>e.beyond t q) L _ (λt q=>by rw[h1 t];split <;> first|exact e.beyond t q|exact I.beyond t q),h1]
 by_cases E:i∈L
 ·simp[E,e.get]
 ·by_cases G:i∈OZ S L
  ·simp[E,G,e.get]
  ·rw[if_neg E,if_neg G]
   rw[h.tmps i λM=>?_,I.get]
   rcases Nl (L:=L) M with h'|h'
   ·exact E h'
   ·exact G h'
theorem QK (b:Fr):∀l:List (Tmp×Sh),reads b l=(As l).map λt=>FN b t
 |[]=>rfl
 |(t,_)::l=>by simp only[reads,As,List.map_cons,QK b l]
def Tu (ops:Array Oper):Bool:=ops.all λo=>match o.op with
 |.alloc _|.box _ _|.buildSlice _ _ _|.makeMap _ _|.makeSlice _ _ _|.range _ _|.next _ _|.store _ _ _|.mapUpdate _ _ _ _|.insert _ _ _ _=>false
 |.call { callee:=.builtin b,.. } =>match b with|.len|.cap|.min|.max=>true|_=>false
 |_=>true
def W (P:Program)(n:Nat)(ann:Ann):Nat->Code->(Exit->Fr->World->Prop)->Fr->World->Prop
 |_,.skip,Q,a,w=>Q .normal a w
 |p,.region _ ops draw,Q,a,w=>
  match draw with
  |false=>WO P n ops ops.toList (Q .normal) a w
  |true=>match Tu ops&&Region.lexB .any ops&&(ann.at (1000000+p)).isNone with
   |true=>WQ P n w ops ops.toList (λa'=>∀w':World,Below w.heap.size w w'->Q .normal a' w') a
   |false=>match ann.at (3000000+p)with
    |some l=>match Xw ops (As l)with
     |true=>WS P n w (Xt (As l)) ops (λal a'=>∀w':World,Below w.heap.size w w'->SL al w' (WA P n ops (Q .normal) (ops.size-(As l).length) (Xy (As l) (Array.replicate ops.size false)) a' w')) (As l) [] a
     |false=>False
    |none=>match ann.at (2000000+p)with
     |some ((h,_)::_)=>match Region.lexTailB .any ops h with
      |true=>WQ P n w ops (ops.toList.take h) (λa'=>∀w':World,Below w.heap.size w w'->WO P n ops (ops.toList.drop h) (Q .normal) a' w') a
      |false=>False
     |_=>match Region.noSelect ops with
      |true=>WA P n ops (Q .normal) ops.size (Array.replicate ops.size false) a w.drew
      |false=>False
 |p,.seq x y,Q,a,w=>
  match ann.at p with
  |none=>W P n ann (p+1) x (λe a' w'=>match e with|.normal=>W P n ann (p+1+Jr x) y Q a' w'|e=>Q e a' w') a w
  |some live=>∃J:FP (xQ live),W P n ann (p+1) x (λe a' w'=>match e with|.normal=>ap (xQ live) J (reads a' live) w'|e=>Q e a' w') a w/\
   Vz (xQ live) λvs=>Vx (OZ (writes x) (As live)) λus=>∀w':World,ap (xQ live) J vs w'->
    W P n ann (p+1+Jr x) y Q (QJ n (QJ n a (OZ (writes x) (As live)) us) (As live) vs) w'
 |p,.cond c x y,Q,a,w=>
  match evF a c with
  |.bool b=>ai b (W P n ann (p+1) x Q (XM n a c true) w) (W P n ann (p+1+Jr x) y Q (XM n a c false) w)
  |_=>False
 |p,.block id c,Q,a,w=>W P n ann (p+1) c (λe a' w'=>match e with|.exit id'=>bif Nat.beq id' id then Q .normal a' w' else Q (.exit id') a' w'|e=>Q e a' w') a w
 |p,.loop c,Q,a,w=>
  match ann.at p with
  |none=>False
  |some live=>∃I:Nat->FP (xQ live),(∃m:Nat,ap (xQ live) (I m) (reads a live) w)/\
   ∀m:Nat,Vz (xQ live) λvs=>Vx (OZ (writes c) (As live)) λus=>∀w':World,ap (xQ live) (I m) vs w'->
    W P n ann (p+1) c (λe a' w''=>match e with|.normal=>∃m':Nat,m'<m/\ap (xQ live) (I m') (reads a' live) w''|e=>Q e a' w'') (QJ n (QJ n a (OZ (writes c) (As live)) us) (As live) vs) w'
 |p,.scope c,Q,a,w=>W P n ann (p+1) c (λe a' w'=>match e with|.goto _=>False|e=>Q e a' w') a w
 |_,.exit id,Q,a,w=>Q (.exit id) a w
 |_,.goto l,Q,a,w=>Q (.goto l) a w
 |_,.label _,Q,a,w=>Q .normal a w
 |_,.ret,Q,a,w=>Q .ret a w
 |_,.rangeFunc _ _ _ _,_,_,_=>False
 |_,.refuse _,_,_,_=>False
theorem RJ {c:Code}{Q:Exit->Act->World->Prop}{a:Act}(H:Nat->Act->World->Prop)(M:∃m,H m a w)
 (round:∀m a w,H m a w->c.wp P (Exit.then (λa' w'=>∃I,I<m/\H I a' w') Q) a w):(Code.loop c).wp P Q a w:=by
 obtain⟨ag,M⟩:=M
 intro b k cs
 have key:∀m a w,H m a w->∃E a' w',Q E a' w'/\Arrives P (lone (b.at a (.code c::.inLoop c::k)) cs w) b k cs E a' w':=by
  intro m
  induction m using Nat.strongRecOn with
  |_ m ad=>
   intro a w V
   obtain⟨E,D,G,q,e⟩:=round m a w V b (.inLoop c::k) cs
   cases E with
   |normal=>
    obtain⟨I,Z,X⟩:=q
    obtain⟨U,O,aj,ac,Y⟩:=ad I Z D G X
    exact⟨U,O,aj,ac,.of_steps (Steps.trans e (.one step_inLoop)) Y⟩
   |exit id=>exact⟨_,D,G,q,.pass (x:=.inLoop c) rfl (λ_ _=>.inl (by simp)) e⟩
   |goto l=>exact⟨_,D,G,q,.pass (x:=.inLoop c) rfl (λ_ _=>.inl (by simp)) e⟩
   |ret=>exact⟨_,D,G,q,.pass (x:=.inLoop c) rfl (λ_ _=>.inl (by simp)) e⟩
   |panic al=>exact⟨_,D,G,q,.pass (x:=.inLoop c) rfl (λ_ _=>.inl (by simp)) e⟩
   |outgrown=>exact⟨_,D,G,q,.pass (x:=.inLoop c) rfl (λ_ _=>.inl (by simp)) e⟩
 obtain⟨E,a',w',q,e⟩:=key ag a w M
 exact⟨E,a',w',q,.of_steps (.one step_loop) e⟩
theorem told {e:List (Tmp×Sh)}{f:FP (xQ e)}{S:List Tmp}{K:Fr->World->Prop}{D q:Fr}{a b:Act}
 (h:Vz (xQ e) λvs=>Vx (OZ S (As e)) λus=>∀w':World,ap (xQ e) f vs w'->K (QJ n (QJ n D (OZ S (As e)) us) (As e) vs) w')
 {w':World} (O:Rep n D a) (M:Rep n q b) (I:ry S a b) (E:ap (xQ e) f (reads q e) w'):∃G,Rep n G b/\K G w':=by
 have h1:=RR (d:=λ_=>False) (f:=f) (K:=λt vs=>Vx (OZ S (As e)) λus=>∀w':World,t w'->K (QJ n (QJ n D (OZ S (As e)) us) (As e) vs) w') h
  (λvs=>Vy _ λus w' E=>E.elim) (reads q e)
 have H:=P2 (f:=λt=>FN q t) h1 w' E
 rw[QK]at H
 exact⟨_,Q0 O M I,H⟩
theorem Yd (a8:P.follows .mixedOrders=true)(n:Nat)(bc:Ann):∀(c:Code) (p:Nat) (Q:Exit->Fr->World->Prop) (M:Fr) (a:Act) (w:World),Rep n M a->W P n bc p c Q M w->
 ∀Q':Exit->Act->World->Prop,(∀e b2 a' w',Rep n b2 a'->ry (writes c) a a'->Q e b2 w'->Q' e a' w')->c.wp P Q' a w:=by
 intro c
 induction c with
 |skip=>intro p Q M a w q h Q' D;exact wp_skip (D _ _ _ _ q (ry.refl _ _) h)
 |region id ar b3=>
  intro p Q M a w q h Q' D
  cases b3 with
  |false=>exact wp_region_list (TY q h λU a' w' G E V=>D _ _ _ _ G E V)
  |true=>
   simp only[W]at h
   split at h
   ·rename_i O
    simp only[Bool.and_eq_true]at O
    exact wp_region_quiet (C:=Below w.heap.size w) a8 O.1.2 ((Below.refl _ w).drew) (TZ q h λU a' G E V w' ad=>D _ _ _ _ G E (V w' ad))
   ·split at h
    ·split at h
     ·rename_i l _ _ Z
      have ce:Region.noSelect ar=true:=by
       simp only[Xw,Bool.and_eq_true]at Z
       exact Z.1.1
      exact Code.wp_mono (λe a w a0=>by cases e <;> first|exact a0|exact a0.elim) (NN (N:=Q' .normal) (As l) a8 Z (Vu q h λcl U a' G E V w' ad=>
       O1 (N:=Q' .normal) ce G (Oe (V w' ad.1) ad.2) λbj bb ac Y X bs=>D _ _ _ _ Y (E.trans X) bs))
     ·cases h
    split at h
    ·split at h
     ·rename_i k _ _ _ _ Z
      have cf:∀t,t∈Ma (ar.toList.take k)->t∈Ma ar.toList:=λt I=>by
       simp only[Ma,List.mem_filterMap]at I ⊢
       obtain⟨x,b0,e⟩:=I
       exact⟨x,List.mem_of_mem_take b0,e⟩
      have ch:∀t,t∈Ma (ar.toList.drop k)->t∈Ma ar.toList:=λt I=>by
       simp only[Ma,List.mem_filterMap]at I ⊢
       obtain⟨x,b0,e⟩:=I
       exact⟨x,List.mem_of_mem_drop b0,e⟩
      exact Ez (C:=Below w.heap.size w) k a8 Z ((Below.refl _ w).drew) (TZ q h λU a' G E V w' ad=>
       TY G (V w' ad) λbj bb ac Y X bs=>D _ _ _ _ Y ((E.mono cf).trans (X.mono ch)) bs)
     ·cases h
    split at h
    ·rename_i Z
     exact Code.wp_mono (λe a w a0=>by cases e <;> first|exact a0|exact a0.elim) (wp_region_any a8 (O1 (N:=Q' .normal) Z q h λU a' w' G E V=>D _ _ _ _ G E V))
    ·cases h
 |seq x y aj al=>
  intro p Q M a w q h Q' D
  refine wp_seq ?_
  simp only[W]at h
  split at h
  ·refine aj _ _ _ _ _ q h _ λe U a' w' G E H=>?_
   cases e with
   |normal=>exact al _ _ _ _ _ G H _ λe bj bb ac Y X bq=>D _ _ _ _ Y ((E.mono λt I=>List.mem_append_left _ I).trans (X.mono λt I=>List.mem_append_right _ I)) bq
   |_=>exact D _ _ _ _ G (E.mono λt I=>List.mem_append_left _ I) H
  ·rename_i an _
   obtain⟨J,h1,b6⟩:=h
   refine aj _ _ _ _ _ q h1 _ λe U a' w' G E H=>?_
   cases e with
   |normal=>
    obtain⟨b4,bz,bp⟩:=told (K:=λb w'=>W P n bc (p+1+Jr x) y Q b w') b6 q G E H
    exact al _ _ _ _ _ bz bp _ λe bj bb ac Y X bq=>D _ _ _ _ Y ((E.mono λt I=>List.mem_append_left _ I).trans (X.mono λt I=>List.mem_append_right _ I)) bq
   |_=>exact D _ _ _ _ G (E.mono λt I=>List.mem_append_left _ I) H
 |cond c x y aj al=>
  intro p Q M a w q h Q' D
  simp only[W]at h
  split at h
  ·rename_i b O
   have b9:a.eval c=.bool b:=by rw[q.eval];exact O
   refine wp_cond_split b9 (λe=>?_) (λe=>?_)
   ·subst e
    exact aj _ _ _ _ _ (Qt q O) h _ λe U a' w' G E H=>D _ _ _ _ G (E.mono λt I=>List.mem_append_left _ I) H
   ·subst e
    exact al _ _ _ _ _ (Qt q O) h _ λe U a' w' G E H=>D _ _ _ _ G (E.mono λt I=>List.mem_append_right _ I) H
  ·cases h
 |block id c ag=>
  intro p Q M a w q h Q' D
  refine wp_block (ag _ _ _ _ _ q h _ λe U a' w' G E H=>?_)
  cases e with
  |exit cj=>
   simp only[Exit.inBlock]at H ⊢
   cases O:Nat.beq cj id with
   |true=>rw[if_pos (Nat.eq_of_beq_eq_true O)];rw[O]at H;exact D _ _ _ _ G E H
   |false=>
    rw[if_neg (λe=>by rw[e,Nat.beq_refl]at O;cases O)]
    rw[O]at H;exact D _ _ _ _ G E H
  |_=>exact D _ _ _ _ G E H
 |loop c ag=>
  intro p Q M a w q h Q' D
  simp only[W]at h
  split at h
  ·cases h
  ·rename_i an _
   obtain⟨b1,⟨ck,b5⟩,h⟩:=h
   refine RJ (λm b w'=>∃bk,Rep n bk b/\ry (writes c) a b/\ap (xQ an) (b1 m) (reads bk an) w') ⟨ck,M,q,ry.refl _ _,b5⟩ λm b w' ⟨bk,cb,O,b7⟩=>?_
   obtain⟨b4,bz,bp⟩:=told (K:=λb w'=>W P n bc (p+1) c (λe a' ac=>match e with|.normal=>∃a9:Nat,a9<m/\ap (xQ an) (b1 a9) (reads a' an) ac|e=>Q e a' ac) b w') (h m) q cb O b7
   refine ag _ _ _ _ _ bz bp _ λe U a' ac G E H=>?_
   cases e with
   |normal=>obtain⟨a9,cc,b8⟩:=H;exact⟨a9,cc,U,G,O.trans E,b8⟩
   |_=>exact D _ _ _ _ G (O.trans E) H
 |scope c ag=>
  intro p Q M a w q h Q' D
  refine wp_scope_straight (ag _ _ _ _ _ q h _ λe U a' w' G E H=>?_)
  cases e with
  |goto l=>exact H.elim
  |_=>exact D _ _ _ _ G E H
 |exit id=>intro p Q M a w q h Q' D;exact wp_exit (D _ _ _ _ q (ry.refl _ _) h)
 |goto l=>intro p Q M a w q h Q' D;exact wp_goto (D _ _ _ _ q (ry.refl _ _) h)
 |label l=>intro p Q M a w q h Q' D;exact wp_label (D _ _ _ _ q (ry.refl _ _) h)
 |ret=>intro p Q M a w q h Q' D;exact wp_ret (D _ _ _ _ q (ry.refl _ _) h)
 |rangeFunc f cn x y aj al=>intro p Q M a w q h;exact h.elim
 |refuse=>intro p Q M a w q h;exact h.elim
def Ret (K:Value->World->Prop):Ending->World->Prop:=λe w=>∃v,e=.returned v/\K v w
def TV:List ResultVar->Option (List Tmp)
 |[]=>some []
 |.tmp t::l=>(TV l).map (t:: ·)
 |.cell _ _::_=>none
def shZ (P:Program)(t:TypeId):Sh:=match(P.info? t).bind (·.zero)with|some v=>shV v|none=>.one .any
def On (l:List Value):Value:=match l with|[v]=>v|l=>.tuple l.toArray
def Ra (ρ:Tmp->Value)(r:ResultVar):Sem Value:=match r with
 |.tmp t=>pure (ρ t)
 |.cell a t=>do loadVar t (<- asAddr (ρ a))
def Xx (rs:Array ResultVar)(ρ:Tmp->Value):Sem Value:=do
 let vs <- rs.mapM (Ra ρ)
 pure (if h:vs.size=1 then vs[0]else .tuple vs)
def aI (t:TypeId)(v:Value):Sem Value:=do loadVar t (<- asAddr v)
def WR (P:Program)(ρ:Tmp->Value)(w:World):List ResultVar->(List Value->Prop)->Prop
 |[],k=>k []
 |.tmp t::rs,k=>WR P ρ w rs λvs=>k (ρ t::vs)
 |.cell a t::rs,k=>exS (shZ P t) λv=>(aI t (ρ a)).run P w=.ok v w/\WR P ρ w rs λvs=>k (v::vs)
theorem Vs {e:Tmp->Value}:∀(rs:List ResultVar) (k:List Value->Prop),WR P e w rs k->∃vs,(rs.mapM (Ra e)).run P w=.ok vs w/\k vs
 |[],k,h=>⟨[],rfl,h⟩
 |.tmp t::rs,k,h=>by
  obtain⟨vs,h1,D⟩:=Vs rs _ h
  refine⟨_,?_,D⟩
  rw[List.mapM_cons]
  have q:Ra e (.tmp t)=pure (e t):=rfl
  simp only[q,Sem.run_bind,Sem.run_pure,Result.andThen_ok,h1]
 |.cell a t::rs,k,h=>by
  obtain⟨v,E,h⟩:=Pg h
  obtain⟨vs,h1,D⟩:=Vs rs _ h
  refine⟨_,?_,D⟩
  rw[List.mapM_cons]
  have q:Ra e (.cell a t)=aI t (e a):=rfl
  simp only[q,Sem.run_bind,Sem.run_pure,Result.andThen_ok,E,h1]
def WB (P:Program)(fn:Func)(K:Value->World->Prop):Exit->Fr->World->Prop
 |.normal,a,w|.ret,a,w=>match TV fn.results.toList with
  |some l=>K (On (l.map λt=>FN a t)) w
  |none=>WR P (FN a) w fn.results.toList λvs=>K (On vs) w
 |_,_,_=>False
theorem RA (e:Func)(q:Array Value):results e q=Xx e.results λt=>q.getD t undef:=rfl
theorem results_tmq {rs:Array ResultVar}{l:List Tmp}(h:TV rs.toList=some l)(e:Tmp->Value)(w:World):
 (Xx rs e).run P w=.ok (On (l.map e)) w:=by
 have E:∀(rs:List ResultVar) (l:List Tmp),TV rs=some l->(rs.mapM (Ra e)).run P w=.ok (l.map e) w:=by
  intro rs
  induction rs with
  |nil=>intro l h;simp[TV]at h;subst h;rfl
  |cons r rs G=>
   intro l h
   cases r with
   |tmp t=>
    cases q:TV rs with
    |none=>simp[TV,q]at h
    |some l'=>
     simp[TV,q]at h;subst h
     rw[List.mapM_cons]
     have D:Ra e (.tmp t)=pure (e t):=rfl
     simp only[D,Sem.run_bind,Sem.run_pure,Result.andThen_ok,G _ q,List.map_cons]
   |cell a t=>simp[TV]at h
 unfold Xx
 rw[Sem.run_bind,Array.mapM_eq_mapM_toList,Sem.run_map,E _ _ h]
 simp only[Result.andThen_ok,Sem.run_pure]
 congr 1
 generalize (l.map e)=vs
 match vs with
 |[]=>rfl
 |[v]=>rfl
 |v::u::vs=>simp[On]
def Mn:Nat->List Value->Fr
 |_,[]=>[]
 |i,v::vs=>(i,v)::Mn (i+1) vs
theorem Mo:∀(vs:List Value) (i j:Nat),FN (Mn i vs) j=if i <=j then(vs[j-i]?).getD undef else undef
 |[],i,j=>by simp[Mn,FN]
 |v::vs,i,j=>by
  simp only[Mn,FN]
  cases e:Nat.beq i j with
  |true=>have:=Nat.eq_of_beq_eq_true e;subst this;simp
  |false=>
   have G:i≠j:=λD=>by rw[D,Nat.beq_refl]at e;cases e
   rw[cond_false,Mo vs (i+1) j]
   by_cases q:i <=j
   ·have h1:i+1 <=j:=by omega
    have E:j-i=(j-(i+1))+1:=by omega
    rw[if_pos h1,if_pos q,E];simp
   ·have h1: ¬ i+1 <=j:=by omega
    rw[if_neg h1,if_neg q]
theorem aA (X:P.follows .mixedOrders=true){f:FuncId}{e:Func}{c:Code}(U:P.funcs[f]? =some e)(O:e.body=some c)(H:Ann)(args:List Value)(ac:args.length <=e.ntmps)
 {K:Value->World->Prop} (G:Prop) (q:W P e.ntmps H 0 c (WB P e K) (Mn 0 args) w=G) (h:G):Calls P f args.toArray w (Ret K):=by
 refine calls_of_wp U O ?_
 have D:Rep e.ntmps (Mn 0 args) { tmps:=args.toArray++Array.replicate (e.ntmps-args.toArray.size) undef,defers:=[] } :=by
  refine⟨by simp;omega,rfl,λt=>?_⟩
  rw[Mo]
  simp only[Nat.zero_le,if_true,Nat.sub_zero,Array.getD_eq_getD_getElem?,Array.getElem?_append,List.size_toArray,List.getElem?_toArray]
  by_cases M:t<args.length
  ·simp[M]
  ·simp only[if_neg M]
   rw[List.getElem?_eq_none (by omega:args.length <=t)]
   simp only[Array.getElem?_replicate]
   split <;> rfl
 refine Yd X _ H c 0 _ _ _ _ D (q▸h) _ λE Z a' w' I _ q=>?_
 have key:∀{a:Act} {fr:Fr} {w:World},Rep e.ntmps fr a->(match TV e.results.toList with
  |some l=>K (On (l.map λt=>FN fr t)) w
  |none=>WR P (FN fr) w e.results.toList λvs=>K (On vs) w)->a.defers=[]/\∃v,(results e a.tmps).run P w=.ok v w/\Ret K (.returned v) w:=by
  intro a fr w D h
  have E:(λt=>a.tmps.getD t undef)=FN fr:=funext D.get
  refine⟨D.defers,?_⟩
  rw[RA,E]
  split at h
  ·rename_i l V;exact⟨_,results_tmq V _ _,_,rfl,h⟩
  ·obtain⟨vs,Y,h⟩:=Vs _ _ h
   refine⟨On vs,?_,_,rfl,h⟩
   unfold Xx
   rw[Sem.run_bind,Array.mapM_eq_mapM_toList,Sem.run_map,Y]
   simp only[Result.andThen_ok,Sem.run_pure]
   congr 1
   match vs with
   |[]=>rfl
   |[v]=>rfl
   |v::u::vs=>simp[On]
 cases E with
 |normal=>exact key I q
 |ret=>exact key I q
 |_=>exact q.elim
theorem az {f:FuncId}{K:Value->World->Prop}{R:Ending->World->Prop}(h:Calls P f H w (Ret K))(q:∀v w',K v w'->R (.returned v) w'):
 Calls P f H w R:=h.mono λE w' ⟨v,e,D⟩=>by subst e;exact q v w' D
def bm (s:List UInt8)(j:Int):Int:=((s[j.toNat]?.getD 0).toNat:Nat)
def aw (a:Option Addr)(j:Int)(size:Nat):Option Addr:=a.map (·.add (j.toNat*size))
def aS (a:Option Addr)(c l size:Nat):Option Addr:=if c=l then a else a.map (·.add (l*size))
def aP:Nat->Prop->Prop
 |0,X=>X
 |k+1,X=>∀_:Value,aP k X
theorem aP.of {X:Prop}(h:X):∀k,aP k X
 |0=>h
 |k+1=>λ_=>aP.of h k
def aH (fn:Func):Code:=fn.body.getD .skip
end Go.Pk
