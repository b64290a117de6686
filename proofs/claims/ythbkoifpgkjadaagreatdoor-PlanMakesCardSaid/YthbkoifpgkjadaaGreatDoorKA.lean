/- What the laws lean on: W; what is used. Its conditions: none. -/
import Derived.Test.YthbkoifpgkjadaaGreatDoorProg
import Derived.Calls
import Derived.Scope
import Derived.Below
import Derived.Deep.Quiet
import Derived.OrdersHeld
import Derived.StillTail
import Derived.Laws.Strings
import Derived.KernelRfl
set_option linter.unusedVariables false
set_option linter.unusedSimpArgs false
set_option linter.unusedSectionVars false
set_option maxRecDepth 100000
open List (length_cons length_nil map_cons map_nil map_toArray mem_append_left mem_cons_of_mem mem_cons_self mem_of_mem_take size_toArray)
variable {n i j:Nat}{P:Go.Program}{w:Go.World}{o:Go.Oper}{t:Go.TypeId}{I:Bool}{K:Array Bool}{N:Go.Value->Go.World->Prop}
open Go.IntKind (i64)
namespace Go.Pk
abbrev lU:=List UInt8
open Go.RowKit (Below)
open Go.Proofs
theorem dFx {p:Prop}{_:Decidable p} :decide p=false <->Not p:=decide_eq_false_iff_not
theorem dTx {p:Prop}[Decidable p]:(decide p=true)=p:=decide_eq_true_eq
def mkS (l:lU):ByteArray:=⟨l.toArray⟩
def toL (b:ByteArray):lU:=b.data.toList
@[simp] theorem toL_mkS (l:lU):toL (mkS l)=l:=rfl
inductive S0 where
 |int (k:IntKind)|bool|str|slice|ptr|map|any
inductive Sh where
 |one (s:S0)
 |agg (l:List S0)
def ex0:S0->(Value->Prop)->Prop
 |.int k,K=>∃n:Int,K (.int k n)
 |.bool,K=>∃b:Bool,K (.bool b)
 |.str,K=>∃l:lU,K (.string (mkS l))
 |.slice,K=>∃(a:Option Addr) (n c:Nat),K (.slice a n c)
 |.ptr,K=>∃a:Option Addr,K (.pointer a)
 |.map,K=>∃r:Option Nat,K (.map r)
 |.any,K=>∃v:Value,K v
def YN:List S0->(List Value->Prop)->Prop
 |[],K=>K []
 |s::l,K=>ex0 s λv=>YN l λvs=>K (v::vs)
def exS:Sh->(Value->Prop)->Prop
 |.one s,K=>ex0 s K
 |.agg l,K=>YN l λvs=>K (.agg vs.toArray)
def exL:List Sh->(List Value->Prop)->Prop
 |[],K=>K []
 |s::l,K=>exS s λv=>exL l λvs=>K (v::vs)
def exR:List Sh->(Value->Prop)->Prop
 |[s],K=>exS s K
 |l,K=>exL l λvs=>K (.tuple vs.toArray)
theorem OD {s:S0}{K:Value->Prop}(h:ex0 s K):∃v,K v:=by
 cases s<;>simp only[ex0]at h<;>(first|(obtain⟨_,h⟩:=h;exact⟨_,h⟩)|(obtain⟨_,_,_,h⟩:=h;exact⟨_,h⟩))
theorem Lj:∀{l:List S0} {K:List Value->Prop},YN l K->∃v,K v
 |[],_,h=>⟨_,h⟩
 |_::_,_,h=>let⟨_,h1⟩:=OD h;let⟨_,h2⟩:=Lj h1;⟨_,h2⟩
theorem J5 {s:Sh}{K:Value->Prop}(h:exS s K):∃v,K v:=by
 cases s with
 |one s=>exact OD h
 |agg l=>obtain⟨v,h⟩:=Lj h;exact⟨_,h⟩
theorem OE:∀{l:List Sh} {K:List Value->Prop},exL l K->∃v,K v
 |[],_,h=>⟨_,h⟩
 |_::_,_,h=>let⟨_,h1⟩:=J5 h;let⟨_,h2⟩:=OE h1;⟨_,h2⟩
theorem jQ {l:List Sh}{K:Value->Prop}(h:exR l K):∃v,K v:=by
 unfold exR at h;split at h
 ·exact J5 h
 ·obtain⟨v,h⟩:=OE h;exact⟨_,h⟩
def V5:S0->(Value->Prop)->Prop
 |.int k,K=>∀n:Int,K (.int k n)
 |.bool,K=>∀b:Bool,K (.bool b)
 |.str,K=>∀l:lU,K (.string (mkS l))
 |.slice,K=>∀(a:Option Addr) (n c:Nat),K (.slice a n c)
 |.ptr,K=>∀a:Option Addr,K (.pointer a)
 |.map,K=>∀r:Option Nat,K (.map r)
 |.any,K=>∀v:Value,K v
def NU:List S0->(List Value->Prop)->Prop
 |[],K=>K []
 |s::l,K=>V5 s λv=>NU l λvs=>K (v::vs)
def ZF:Sh->(Value->Prop)->Prop
 |.one s,K=>V5 s K
 |.agg l,K=>NU l λvs=>K (.agg vs.toArray)
def T9:List Sh->(List Value->Prop)->Prop
 |[],K=>K []
 |s::l,K=>ZF s λv=>T9 l λvs=>K (v::vs)
def F0 (s:S0)(T:Type):Type:=match s with
 |.int _=>Int->T
 |.bool=>Bool->T
 |.str=>lU->T
 |.slice=>Option Addr->Nat->Nat->T
 |.ptr=>Option Addr->T
 |.map=>Option Nat->T
 |.any=>Value->T
def FL0:List S0->Type->Type
 |[],T=>T
 |s::l,T=>F0 s (FL0 l T)
def FSh:Sh->Type->Type
 |.one s,T=>F0 s T
 |.agg l,T=>FL0 l T
def FL:List Sh->Type->Type
 |[],T=>T
 |s::l,T=>FSh s (FL l T)
abbrev FP (l:List Sh):Type:=FL l (World->Prop)
def dF0 {T:Type}(d:T):(s:S0)->F0 s T
 |.int _=>λ_=>d
 |.bool=>λ_=>d
 |.str=>λ_=>d
 |.slice=>λ_ _ _=>d
 |.ptr=>λ_=>d
 |.map=>λ_=>d
 |.any=>λ_=>d
def dL0 {T:Type}(d:T):(l:List S0)->FL0 l T
 |[]=>d
 |s::l=>dF0 (dL0 d l) s
def dS {T:Type}(d:T):(s:Sh)->FSh s T
 |.one s=>dF0 d s
 |.agg l=>dL0 d l
def dL {T:Type}(d:T):(l:List Sh)->FL l T
 |[]=>d
 |s::l=>dS (dL d l) s
def ap0 {T:Type}(d:T):(s:S0)->F0 s T->Value->T
 |.int k,f,.int k' n=>if k=k' then f n else d
 |.bool,f,.bool b=>f b
 |.str,f,.string b=>f (toL b)
 |.slice,f,.slice a n c=>f a n c
 |.ptr,f,.pointer a=>f a
 |.map,f,.map r=>f r
 |.any,f,v=>f v
 |_,_,_=>d
def Th {T:Type}(d:T):(l:List S0)->FL0 l T->List Value->T
 |[],f,[]=>f
 |s::l,f,v::vs=>Th d l (ap0 (dL0 d l) s f v) vs
 |_,_,_=>d
def apS {T:Type}(d:T):(s:Sh)->FSh s T->Value->T
 |.one s,f,v=>ap0 d s f v
 |.agg l,f,.agg cs=>Th d l f cs.toList
 |_,_,_=>d
def apL {T:Type}(d:T):(l:List Sh)->FL l T->List Value->T
 |[],f,[]=>f
 |s::l,f,v::vs=>apL d l (apS (dL d l) s f v) vs
 |_,_,_=>d
abbrev ap (l:List Sh)(f:FP l)(vs:List Value):World->Prop:=apL (λ_=>False) l f vs
theorem JQ {T:Type}{d:T}{s:S0}{f:F0 s T}{K:T->Value->Prop}(h:V5 s λv=>K (ap0 d s f v) v)(y:∀v,K d v):∀v,K (ap0 d s f v) v:=by
 intro v;cases s<;>cases v<;>(first|exact y _|exact h _|exact h _ _ _|skip)
 case int.int k k' n=>
  by_cases e:k=k'
  ·subst e;exact h n
  ·simp only[ap0,if_neg e];exact y _
theorem Wp {T:Type}{d:T}(s:S0)(v:Value):ap0 d s (dF0 d s) v=d:=by
 cases s
 case int k=>
  cases v
  case int k' n=>
   by_cases e:k=k'
   ·subst e;simp only[ap0,if_true];rfl
   ·simp only[ap0,if_neg e]
  all_goals rfl
 all_goals(cases v<;>rfl)
theorem NW {T:Type}{d:T} :∀(l:List S0) (vs:List Value),Th d l (dL0 d l) vs=d
 |[],[]=>rfl
 |[],_::_=>rfl
 |_::_,[]=>rfl
 |s::l,v::vs=>by
  have h:Th d (s::l) (dL0 d (s::l)) (v::vs)=Th d l (ap0 (dL0 d l) s (dF0 (dL0 d l) s) v) vs:=rfl;rw[h,Wp];exact NW l vs
theorem YA {T:Type}{d:T}(s:Sh)(v:Value):apS d s (dS d s) v=d:=by
 cases s with
 |one s=>exact Wp s v
 |agg l=>
  cases v
  case agg cs=>exact NW _ _
  all_goals rfl
theorem Wq {T:Type}{d:T} :∀(l:List Sh) (vs:List Value),apL d l (dL d l) vs=d
 |[],[]=>rfl
 |[],_::_=>rfl
 |_::_,[]=>rfl
 |s::l,v::vs=>by
  have h:apL d (s::l) (dL d (s::l)) (v::vs)=apL d l (apS (dL d l) s (dS (dL d l) s) v) vs:=rfl;rw[h,YA];exact Wq l vs
theorem K2 {K:List Value->Prop} :∀(l:List S0),(∀vs,K vs)->NU l K:=by
 intro l;induction l generalizing K with
 |nil=>intro h;exact h _
 |cons s l y=>intro h;cases s<;>(first|exact λ_=>y λ_=>h _|exact λ_ _ _=>y λ_=>h _)
theorem Ua {K:List Value->Prop} :∀(l:List Sh),(∀vs,K vs)->T9 l K:=by
 intro l;induction l generalizing K with
 |nil=>intro h;exact h _
 |cons s l y=>
  intro h;cases s with
  |one s=>cases s<;>(first|exact λ_=>y λ_=>h _|exact λ_ _ _=>y λ_=>h _)
  |agg s=>exact K2 s λ_=>y λ_=>h _
theorem K1 {T:Type}{d:T} :∀{l:List S0} {f:FL0 l T} {K:T->List Value->Prop},(NU l λvs=>K (Th d l f vs) vs)->(∀vs,K d vs)->∀vs,K (Th d l f vs) vs
 |[],f,K,h,y,vs=>by cases vs with
  |nil=>exact h
  |cons=>exact y _
 |s::l,f,K,h,y,vs=>by
  cases vs with
  |nil=>exact y _
  |cons v vs=>
   have h1:=JQ (d:=dL0 d l) (s:=s) (f:=f) (K:=λg v=>NU l λvs=>K (Th d l g vs) (v::vs)) h
    (λv=>by simp only[NW];exact K2 l λ_=>y _) v
   exact K1 (f:=ap0 (dL0 d l) s f v) (K:=λt vs=>K t (v::vs)) h1 (λ_=>y _) vs
theorem Uc {T:Type}{d:T}{s:Sh}{f:FSh s T}{K:T->Value->Prop}(h:ZF s λv=>K (apS d s f v) v)(y:∀v,K d v):∀v,K (apS d s f v) v:=by
 intro v;cases s with
 |one s=>exact JQ (K:=K) h y v
 |agg l=>
  cases v<;>(first|exact y _|skip)
  case agg cs=>
   have:=K1 (d:=d) (l:=l) (f:=f) (K:=λt vs=>K t (.agg vs.toArray)) h (λ_=>y _) cs.toList;simpa[apS]using this
theorem NV {T:Type}{d:T} :∀{l:List Sh} {f:FL l T} {K:T->List Value->Prop},(T9 l λvs=>K (apL d l f vs) vs)->(∀vs,K d vs)->∀vs,K (apL d l f vs) vs
 |[],f,K,h,y,vs=>by cases vs with
  |nil=>exact h
  |cons=>exact y _
 |s::l,f,K,h,y,vs=>by
  cases vs with
  |nil=>exact y _
  |cons v vs=>
   have h1:=Uc (d:=dL d l) (s:=s) (f:=f) (K:=λg v=>T9 l λvs=>K (apL d l g vs) (v::vs)) h
    (λv=>by simp only[Wq];exact Ua l λ_=>y _) v
   exact NV (f:=apS (dL d l) s f v) (K:=λt vs=>K t (v::vs)) h1 (λ_=>y _) vs
inductive PV where
 |val (v:Value)
 |part (c:Prop) (v:Value)
def UK (op:BinOp)(k:IntKind)(a b:Int):Option PV:=
 match op with
 |.add=>some (.val (.int k (k.wrap (a+b))))
 |.sub=>some (.val (.int k (k.wrap (a-b))))
 |.mul=>some (.val (.int k (k.wrap (a*b))))
 |.quo=>some (.part (b≠0) (.int k (k.wrap (a.tdiv b))))
 |.rem=>some (.part (b≠0) (.int k (a.tmod b)))
 |.and=>some (.val (.int k (k.wrap ((BitVec.ofInt k.bits a &&& BitVec.ofInt k.bits b).toNat:Nat))))
 |.or=>some (.val (.int k (k.wrap ((BitVec.ofInt k.bits a ||| BitVec.ofInt k.bits b).toNat:Nat))))
 |.xor=>some (.val (.int k (k.wrap ((BitVec.ofInt k.bits a ^^^ BitVec.ofInt k.bits b).toNat:Nat))))
 |.eql=>some (.val (.bool (a==b)))
 |.neq=>some (.val (.bool (a !=b)))
 |.lss=>some (.val (.bool (decide (a<b))))
 |.leq=>some (.val (.bool (decide (a <=b))))
 |.gtr=>some (.val (.bool (decide (a>b))))
 |.geq=>some (.val (.bool (decide (a >=b))))
 |_=>none
def VF (op:BinOp)(x y:lU):Option PV:=
 match op with
 |.add=>some (.part (((x.length+y.length:Nat):Int) <=i64.max) (.string (mkS (x++y))))
 |.eql=>some (.val (.bool (x==y)))
 |.neq=>some (.val (.bool (!(x==y))))
 |.lss=>some (.val (.bool (Op.bytesLess x y)))
 |.leq=>some (.val (.bool (Op.bytesLess x y || x==y)))
 |.gtr=>some (.val (.bool (!(Op.bytesLess x y || x==y))))
 |.geq=>some (.val (.bool (!Op.bytesLess x y)))
 |_=>none
def YB (P:Program)(op:BinOp)(t:TypeId)(x y:Value):Option PV:=
 match x,y with
 |.int k a,.int k' b=>
  match op with
  |.shl=>some (.part (0 <=b) (.int k (k.wrap (a*2 ^ (min b.toNat k.bits)))))
  |.shr=>some (.part (0 <=b) (.int k (a.fdiv (2 ^ (min b.toNat k.bits)))))
  |op=>if k=k' then UK op k a b else none
 |.string a,.string b=>VF op (toL a) (toL b)
 |.bool a,.bool b=>
  match P.underlying t,op with
  |some .bool,.eql=>some (.val (.bool (a==b)))
  |some .bool,.neq=>some (.val (.bool (!(a==b))))
  |_,_=>none
 |.pointer a,.pointer none=>
  match P.underlying t,op with
  |some (.pointer _),.eql=>some (.val (.bool a.isNone))
  |some (.pointer _),.neq=>some (.val (.bool (!a.isNone)))
  |_,_=>none
 |_,_=>none
def unV (op:UnOp)(x:Value):Option PV:=
 match op,x with
 |.neg,.int k n=>some (.val (.int k (k.wrap (0-n))))
 |.not,.bool b=>some (.val (.bool (!b)))
 |_,_=>none
def I0 (P:Program)(t:TypeId)(cs:Array Value)(off:Nat):Option Value:=
 match P.underlying t with
 |some (.struct _)|some (.array _ _)=>(P.info? t).map λi=>.agg (cs.extract off (off+i.size))
 |some _=>cs[off]?
 |none=>none
def sW (d:Nat):Option Value->Option Nat
 |none=>some d
 |some (.int _ n)=>some n.toNat
 |_=>none
def intOf (d:Nat):Option Value->Option Int
 |none=>some d
 |some (.int _ n)=>some n
 |_=>none
def rV (lo hi:Option Value)(y:Nat)(d:Nat):Prop:=
 match lo,hi with
 |none,none=>True
 |some (.int _ l),none=>0 <=l/\l <=(d:Int)
 |none,some (.int _ h)=>0 <=h/\h <=(y:Int)
 |some (.int _ l),some (.int _ h)=>(0 <=h/\h <=(y:Int))/\0 <=l/\l <=(h.toNat:Int)
 |_,_=>False
def Wy (l:lU)(lo hi:Option Value):lU:=
 match lo,hi with
 |some (.int _ a),none=>l.drop a.toNat
 |none,some (.int _ b)=>l.take b.toNat
 |some (.int _ a),some (.int _ b)=>(l.take b.toNat).drop a.toNat
 |_,_=>l
def Qs (P:Program)(t:TypeId)(x:Value)(lo hi:Option Value):Option PV:=
 match P.underlying t,x with
 |some .string,.string s=>some (.part (rV lo hi (toL s).length (toL s).length) (.string (mkS (Wy (toL s) lo hi))))
 |some (.slice e),.slice a n c=>
  match P.info? e with
  |some i=>
   match lo,sW n hi with
   |none,some h=>some (.part (rV lo hi c n) (.slice a h c))
   |some (.int _ l),some h=>some (.part (rV lo hi c n) (.slice (if c=l.toNat then a else a.map (·.add (l.toNat*i.size))) (h-l.toNat) (c-l.toNat)))
   |_,_=>none
  |none=>none
 |some (.array n e),.pointer (some a)=>
  match P.info? e with
  |some i=>
   match lo,sW n hi with
   |none,some h=>some (.part (rV lo hi n n) (.slice (some a) h n))
   |some (.int _ l),some h=>some (.part (rV lo hi n n) (.slice (some (if n=l.toNat then a else a.add (l.toNat*i.size))) (h-l.toNat) (n-l.toNat)))
   |_,_=>none
  |none=>none
 |_,_=>none
def Y4 (P:Program)(t:TypeId)(x:Value):Option PV:=
 match P.underlying t,x with
 |some .string,.string s=>some (.val (.int .i64 ((toL s).length:Nat)))
 |some (.slice _),.slice _ n _=>some (.val (.int .i64 (n:Nat)))
 |some (.array n _),_=>some (.val (.int .i64 (n:Nat)))
 |_,_=>none
def YE (P:Program)(t:TypeId)(x:Value):Option PV:=
 match P.underlying t,x with
 |some (.slice _),.slice _ _ n=>some (.val (.int .i64 (n:Nat)))
 |_,_=>none
def V7 (P:Program)(t:TypeId):Bool:=match P.info? t with|some i=>Nat.ble 12 i.size|none=>false
def X7 (P:Program)(t:TypeId)(ps:List Nat):Bool:=
 match P.underlying t with
 |some (.struct fs)=>ps.any λp=>match fs[p]? with|some fd=>V7 P fd.type|none=>false
 |some (.array _ e)=>V7 P e
 |some (.slice e)=>V7 P e
 |_=>false
def pv (P:Program)(ρ:Operand->Value)(op:Op):Option PV:=
 match op with
 |.move x=>some (.val (ρ x))
 |.assign x=>some (.val (ρ x))
 |.pick c a b=>match ρ c,ρ a,ρ b with
  |.bool t,.bool x,.bool y=>some (.val (.bool (cond t x y)))
  |.bool t,x,y=>some (.val (match t with|true=>x|false=>y))
  |_,_,_=>none
 |.binOp op t x y _=>if V7 P t=true then none else YB P op t (ρ x) (ρ y)
 |.unOp op _ x=>unV op (ρ x)
 |.convert s d x=>match P.underlying s,P.underlying d,ρ x with
  |some (.int _),some (.int k),.int _ n=>some (.val (.int k (k.wrap n)))
  |some .string,some .string,.string b=>some (.val (.string b))
  |_,_,_=>none
 |.extract t i=>match ρ t with
  |.tuple vs=>(vs[i]?).map .val
  |_=>none
 |.field t x f=>if V7 P t=true then none else match P.underlying t,ρ x with
  |some (.struct fs),.agg cs=>(fs[f]?).bind λfd=>(I0 P fd.type cs fd.offset).map .val
  |_,_=>none
 |.fieldAddr t x f=>match P.underlying t,ρ x with
  |some (.struct fs),.pointer a=>match fs[f]? with
   |some fd=>match P.info? fd.type with
    |some i=>if i.size=0 then none else some (.part (a.isSome=true) (.pointer (a.map (·.add fd.offset))))
    |none=>none
   |none=>none
  |_,_=>none
 |.indexAddr t x i=>match P.underlying t,ρ x,ρ i with
  |some (.slice e),.slice b n _,.int _ j=>match P.info? e with
   |some ti=>some (.part ((0 <=j/\j<(n:Int))/\b.isSome=true) (.pointer (b.map (·.add (j.toNat*ti.size)))))
   |none=>none
  |some (.array n e),.pointer a,.int _ j=>match P.info? e with
   |some ti=>some (.part ((0 <=j/\j<(n:Int))/\a.isSome=true) (.pointer (a.map (·.add (j.toNat*ti.size)))))
   |none=>none
  |_,_,_=>none
 |.index t x i=>match P.underlying t,ρ x,ρ i with
  |some .string,.string s,.int _ j=>some (.part (0 <=j/\j<((toL s).length:Int)) (.int .u8 (((toL s)[j.toNat]?.getD 0).toNat:Nat)))
  |_,_,_=>none
 |.slice t x lo hi none=>Qs P t (ρ x) (lo.map ρ) (hi.map ρ)
 |.nilCheck x=>match ρ x with
  |.pointer a=>some (.part (a.isSome=true) (.pointer a))
  |.func (.func f) first captured=>some (.val (.func (.func f) first captured))
  |_=>none
 |.makeFunc fn first captured=>some (.val (.func fn (first.map ρ) (captured.map ρ)))
 |.makeInterface t x=>match P.underlying t with
  |some (.interface _)|none=>none
  |some _=>some (.val (.iface t (ρ x)))
 |.build t parts=>if X7 P t (parts.toList.map (·.1))=true then none else match(P.info? t).bind (·.zero),P.underlying t with
  |some z,some (.struct fs)=>
   match fs.toList.mapM (λf=>(P.info? f.type).map λi=>(f.offset,i.size))with
   |some places=>(Instr.fill (places[·]?) z.cells (parts.toList.map λp=>(p.1,ρ p.2))).map λcs=>.val (.agg cs)
   |none=>none
  |some z,some (.array _ e)=>
   match P.info? e with
   |some i=>(Instr.fill (λj=>some (j*i.size,i.size)) z.cells (parts.toList.map λp=>(p.1,ρ p.2))).map λcs=>.val (.agg cs)
   |none=>none
  |_,_=>none
 |.call { callee:=.builtin .len,args,argTypes } =>match args.toList,argTypes.toList with
  |[x],[t]=>Y4 P t (ρ x)
  |_,_=>none
 |.call { callee:=.builtin .cap,args,argTypes } =>match args.toList,argTypes.toList with
  |[x],[t]=>YE P t (ρ x)
  |_,_=>none
 |_=>none
def PV.ok (P:Program)(s:Sem Value):PV->Prop
 |.val v=>∀w,s.run P w=.ok v w
 |.part c v=>c->∀w,s.run P w=.ok v w
theorem bT {d:TypeDesc}(h:P.underlying t=some d)(w:World):(underlying t).run P w=.ok d w:=by
 simp[underlying,h]
theorem kj {d:TypeInfo}(h:P.info? t=some d)(w:World):(typeInfo t).run P w=.ok d w:=by
 simp[typeInfo,h]
theorem fH {d:TypeInfo}(h:P.info? t=some d)(w:World):(sizeOf t).run P w=.ok d.size w:=by
 simp[sizeOf,kj h]
theorem pM (b:ByteArray):(toL b).length=b.size:=by cases b;rfl
theorem Nk (b:ByteArray):b.toList=toL b:=ByteArray.toList_eq b
theorem run_equalIn_bool (y:P.underlying t=some .bool)(d:Nat)(a b:Bool)(w:World):
 (Op.equalIn (d+1) t (.bool a) (.bool b)).run P w=.ok (a==b) w:=by
 simp[Op.equalIn,bT y]
theorem rP {t e:TypeId}(y:P.underlying t=some (.pointer e))(d:Nat)(a:Option Addr)(w:World):
 (Op.equalIn (d+1) t (.pointer a) (.pointer none)).run P w=.ok a.isNone w:=by
 cases a<;>simp[Op.equalIn,bT y]
theorem Rk {D:BinOp}{k:IntKind}{a b:Int}{r:PV}(h:UK D k a b=some r):r.ok P (binOp D t (.int k a) (.int k b)):=by
 cases D
 all_goals simp only[UK,Option.some.injEq,reduceCtorEq]at h
 all_goals(try subst h)
 case quo=>intro y w;simp[binOp,Op.intDiv,y]
 case rem=>intro y w;simp[binOp,Op.intDiv,y]
 all_goals(intro w;simp[binOp,Op.intArith,Op.intBits,Op.intCmp])
theorem Rl {y:BinOp}{a b:ByteArray}{r:PV}(h:VF y (toL a) (toL b)=some r):r.ok P (binOp y t (.string a) (.string b)):=by
 cases y
 all_goals simp only[VF,Option.some.injEq,reduceCtorEq]at h
 all_goals(try subst h)
 case add=>
  intro D w;have E: ¬ (((a.size+b.size:Nat):Int)>i64.max):=by
   rw[pM,pM]at D;omega
  have e:mkS (toL a++toL b)=a++b:=by
   cases a;cases b;simp[mkS,toL];rfl
  simp only[binOp,Op.stringOp,if_neg E,e,Sem.run_pure]
 all_goals(intro w;simp[binOp,Op.stringOp,Nk])
theorem Ue {D:BinOp}{x F:Value}{r:PV}(h:YB P D t x F=some r):r.ok P (binOp D t x F)/\(∀I J w,(eqGuard D t I J x F).run P w=.ok () w):=by
 unfold YB at h;split at h
 ·rename_i k a k' b;refine⟨?_,λ_ _ _=>by cases D<;>rfl⟩;split at h
  ·simp only[Option.some.injEq]at h;subst h;intro G w;have E: ¬ b<0:=by omega
   simp[binOp,Op.shift,E]
  ·simp only[Option.some.injEq]at h;subst h;intro G w;have E: ¬ b<0:=by omega
   simp[binOp,Op.shift,E]
  ·split at h
   ·rename_i H;subst H;exact Rk h
   ·cases h
 ·exact⟨Rl h,λ_ _ _=>by cases D<;>rfl⟩
 ·rename_i a b;refine⟨?_,λ_ _ _=>by cases D<;>rfl⟩;split at h
  ·rename_i y;simp only[Option.some.injEq]at h;subst h;intro w;show((do pure (.bool (<- Op.equalIn (9999+1) t (.bool a) (.bool b))):Sem Value)).run P w=_;rw[Sem.run_bind,run_equalIn_bool y];rfl
  ·rename_i y;simp only[Option.some.injEq]at h;subst h;intro w;show((do pure (.bool (!(<- Op.equalIn (9999+1) t (.bool a) (.bool b)))):Sem Value)).run P w=_;rw[Sem.run_bind,run_equalIn_bool y];rfl
  ·cases h
 ·rename_i a;refine⟨?_,λ_ _ _=>by cases D<;>rfl⟩;split at h
  ·rename_i y;simp only[Option.some.injEq]at h;subst h;intro w;show((do pure (.bool (<- Op.equalIn (9999+1) t (.pointer a) (.pointer none))):Sem Value)).run P w=_;rw[Sem.run_bind,rP y];rfl
  ·rename_i y;simp only[Option.some.injEq]at h;subst h;intro w;show((do pure (.bool (!(<- Op.equalIn (9999+1) t (.pointer a) (.pointer none)))):Sem Value)).run P w=_;rw[Sem.run_bind,rP y];rfl
  ·cases h
 ·cases h
def HI:TypeDesc->Bool
 |.struct _|.array _ _=>true
 |_=>false
theorem rQ {d:TypeDesc}(h:P.underlying t=some d)(w:World):(isAgg t).run P w=.ok (HI d) w:=by
 unfold isAgg;rw[Sem.run_bind,bT h];cases d<;>rfl
theorem vY {cs:Array Value}{v:Value}(h:I0 P t cs n=some v)(w:World):(part t cs n).run P w=.ok v w:=by
 unfold I0 at h;unfold part;split at h
 ·rename_i D;cases y:P.info? t with
  |none=>simp[y]at h
  |some i=>simp[y]at h;subst h;simp[rQ D,HI,fH y]
 ·rename_i D;cases y:P.info? t with
  |none=>simp[y]at h
  |some i=>simp[y]at h;subst h;simp[rQ D,HI,fH y]
 ·rename_i d E F D;have e:HI d=false:=by cases d<;>simp_all [HI]
  rw[Sem.run_bind,rQ D,e];simp[h]
 ·cases h
theorem UR {t ty:TypeId}{x:Value}{r:PV}(h:Y4 P t x=some r):r.ok P (Builtin.len_ #[t] ty #[x]):=by
 unfold Y4 at h;split at h
 ·rename_i y;simp only[Option.some.injEq]at h;subst h;intro w;simp[Builtin.len_,bT y,pM,goInt]
 ·rename_i y;simp only[Option.some.injEq]at h;subst h;intro w;simp[Builtin.len_,bT y,goInt]
 ·rename_i y;simp only[Option.some.injEq]at h;subst h;intro w;simp[Builtin.len_,bT y,goInt]
 ·cases h
theorem Ui {t ty:TypeId}{x:Value}{r:PV}(h:YE P t x=some r):r.ok P (Builtin.cap_ #[t] ty #[x]):=by
 unfold YE at h;split at h
 ·rename_i y;simp only[Option.some.injEq]at h;subst h;intro w;simp[Builtin.cap_,bT y,goInt]
 ·cases h
theorem mv (P:Program)(k:IntKind)(n:Int)(w:World):(asIntOf (.int k n)).run P w=.ok (k,n) w:=rfl
theorem wm {k:IntKind}{n:Int}{y:Nat}{code:BoundsCode}(h:0 <=n/\n <=(y:Int))(w:World):(Instr.sliceBound (.int k n) y code).run P w=.ok n.toNat w:=by
 simp[Instr.sliceBound,mv,h]
theorem ya {isSlice:Bool}{len cap:Nat}{E D:Option Value}(h:rV E D cap len)
 (G:∀v,E=some v->∃k n,v=.int k n) (F:∀v,D=some v->∃k n,v=.int k n) (w:World):
 ∃l m,sW 0 E=some l/\sW len D=some m/\(Instr.sliceBounds isSlice len cap E D none).run P w=.ok (l,m,cap) w:=by
 cases E with
 |none=>
  cases D with
  |none=>exact⟨0,len,rfl,rfl,by simp[Instr.sliceBounds]⟩
  |some b=>
   obtain⟨k,n,rfl⟩:=F b rfl;have y:0 <=n/\n <=(cap:Int):=h;exact⟨0,n.toNat,rfl,rfl,by simp[Instr.sliceBounds,wm y]⟩
 |some a=>
  obtain⟨k,n,rfl⟩:=G a rfl;cases D with
  |none=>
   have y:0 <=n/\n <=(len:Int):=h;exact⟨n.toNat,len,rfl,rfl,by simp[Instr.sliceBounds,wm y]⟩
  |some b=>
   obtain⟨k',m,rfl⟩:=F b rfl;have y:(0 <=m/\m <=(cap:Int))/\0 <=n/\n <=(m.toNat:Int):=h;exact⟨n.toNat,m.toNat,rfl,rfl,by simp[Instr.sliceBounds,wm y.1,wm y.2]⟩
theorem ee {E D:Option Value}{F d:Nat}(h:rV E D F d):(∀v,E=some v->∃k n,v=.int k n)/\(∀v,D=some v->∃k n,v=.int k n):=by
 unfold rV at h;split at h
 ·exact⟨λv y=>(by cases y),λv y=>(by cases y)⟩
 ·exact⟨λv y=>(by cases y;exact⟨_,_,rfl⟩),λv y=>(by cases y)⟩
 ·exact⟨λv y=>(by cases y),λv y=>(by cases y;exact⟨_,_,rfl⟩)⟩
 ·exact⟨λv y=>(by cases y;exact⟨_,_,rfl⟩),λv y=>(by cases y;exact⟨_,_,rfl⟩)⟩
 ·cases h
theorem HH (a:Addr):a.add 0=a:=by simp[Addr.add]
theorem oQ (s:ByteArray)(l h:Nat):s.extract l h=mkS (((toL s).take h).drop l):=by
 apply ByteArray.ext;apply Array.ext';simp[mkS,toL,ByteArray.data_extract,List.drop_take]
theorem Qt {x:Value}{G F:Option Value}{r:PV}(h:Qs P t x G F=some r):r.ok P (Instr.sliceAt t x G F none):=by
 unfold Qs at h;split at h
 ·rename_i s O;simp only[Option.some.injEq]at h;subst h;intro E w;have H:rV G F s.size s.size:=by rw[pM]at E;exact E
  obtain⟨l,m,D,y,M⟩:=ya (P:=P) (isSlice:=false) H (ee H).1 (ee H).2 w;simp only[Instr.sliceAt,Instr.slice,Sem.run_bind,bT O,Result.andThen_ok,Option.isSome_none,Bool.false_eq_true,if_false,M,Sem.run_pure];congr 2;cases G with
  |none=>
   cases F with
   |none=>
    simp[sW]at D y;subst D y;rw[oQ];simp[Wy,<- pM]
   |some b=>
    obtain⟨k',n,rfl⟩:=(ee H).2 b rfl;simp[sW]at D y;subst D y;have Y:0 <=n/\n <=(s.size:Int):=H;rw[oQ];simp[Wy]
  |some a=>
   obtain⟨k,n,rfl⟩:=(ee H).1 a rfl;cases F with
   |none=>
    simp[sW]at D y;subst D y;have Y:0 <=n/\n <=(s.size:Int):=H;rw[oQ];simp[Wy,<- pM]
   |some b=>
    obtain⟨k',V,rfl⟩:=(ee H).2 b rfl;simp[sW]at D y;subst D y;have Y:(0 <=V/\V <=(s.size:Int))/\0 <=n/\n <=(V.toNat:Int):=H;rw[oQ];simp[Wy]
 ·rename_i e a n c O;cases J:P.info? e with
  |none=>simp[J]at h
  |some i=>
   simp only[J]at h;have key:∀{v} (E:rV G F c n),(∀l m,sW 0 G=some l->sW n F=some m->v=Value.slice (if c=l then a else a.map (·.add (l*i.size))) (m-l) (c-l))->
    ∀w,(Instr.sliceAt t (.slice a n c) G F none).run P w=.ok v w:=by
    intro v E U w;obtain⟨l,m,D,y,M⟩:=ya (P:=P) (isSlice:=true) E (ee E).1 (ee E).2 w;simp only[Instr.sliceAt,Instr.slice,Sem.run_bind,bT O,Result.andThen_ok,M,fH J,Sem.run_pure];rw[U l m D y]
   split at h
   ·rename_i R I;simp only[Option.some.injEq]at h;subst h;intro E;exact key E λl m D y=>by
     rw[I]at y;simp[sW]at D y;subst D y;simp;intro _;cases a<;>simp[HH]
   ·rename_i k l R I;simp only[Option.some.injEq]at h;subst h;intro E;exact key E λl m D y=>by rw[I]at y;simp[sW]at D y;subst D y;rfl
   ·cases h
 ·rename_i n e a O;cases J:P.info? e with
  |none=>simp[J]at h
  |some i=>
   simp only[J]at h;have key:∀{v} (E:rV G F n n),(∀l m,sW 0 G=some l->sW n F=some m->v=Value.slice (some (if n=l then a else a.add (l*i.size))) (m-l) (n-l))->
    ∀w,(Instr.sliceAt t (.pointer (some a)) G F none).run P w=.ok v w:=by
    intro v E U w;obtain⟨l,m,D,y,M⟩:=ya (P:=P) (isSlice:=false) E (ee E).1 (ee E).2 w;simp only[Instr.sliceAt,Sem.run_bind,bT O,Result.andThen_ok,M,fH J,Sem.run_pure,Instr.sureAddr];rw[U l m D y]
   split at h
   ·rename_i R I;simp only[Option.some.injEq]at h;subst h;intro E;exact key E λl m D y=>by
     rw[I]at y;simp[sW]at D y;subst D y;simp[HH]
   ·rename_i k l R I;simp only[Option.some.injEq]at h;subst h;intro E;exact key E λl m D y=>by rw[I]at y;simp[sW]at D y;subst D y;rfl
   ·cases h
 ·cases h
def vN (s:Sem Value):Sem Next:=do pure (.value (<- s))
def uN (s:Sem Unit):Sem Next:=do s;pure .skip
theorem iz {s:Sem Value}{v:Value}{w w':World}(h:s.run P w=.ok v w'):(vN s).run P w=.ok (.value v) w':=by
 simp[vN,h]
theorem XS {s:Sem Unit}{w w':World}(h:s.run P w=.ok () w'):(uN s).run P w=.ok .skip w':=by
 simp[uN,h]
def PV.cond:PV->Prop
 |.val _=>True
 |.part c _=>c
def PV.value:PV->Value
 |.val v=>v
 |.part _ v=>v
theorem PV.ok.run {s:Sem Value}{r:PV}(h:r.ok P s)(y:r.cond)(w:World):s.run P w=.ok r.value w:=by
 cases r with
 |val v=>exact h w
 |part c v=>exact h y w
theorem io (P:Program)(a:Addr)(w:World):(Instr.sureAddr (.pointer (some a))).run P w=.ok a w:=rfl
theorem Ik {D:Array Field}{f:Nat}{y:Field}{i:TypeInfo}(H:P.underlying t=some (.struct D))(F:D[f]? =some y)
 (G:P.info? y.type=some i) (E: ¬ i.size=0) (a:Addr) (w:World):(Instr.fieldAt t (.pointer (some a)) f).run P w=.ok (.pointer (some (a.add y.offset))) w:=by
 simp[Instr.fieldAt,bT H,F,io,fieldPlace,fH G,E]
theorem F5 {t e:TypeId}{y:TypeInfo}(E:P.underlying t=some (.slice e))(D:P.info? e=some y)(a:Addr)(n c:Nat)(k:IntKind)(j:Int)
 (h:0 <=j/\j<(n:Int)) (w:World):(Instr.indexAt t (.slice (some a) n c) (.int k j)).run P w=.ok (.pointer (some (a.add (j.toNat*y.size)))) w:=by
 simp[Instr.indexAt,mv,bT E,fH D,h]
theorem F4 {t e:TypeId}{y:TypeInfo}(E:P.underlying t=some (.array n e))(D:P.info? e=some y)(a:Addr)(k:IntKind)(j:Int)
 (h:0 <=j/\j<(n:Int)) (w:World):(Instr.indexAt t (.pointer (some a)) (.int k j)).run P w=.ok (.pointer (some (a.add (j.toNat*y.size)))) w:=by
 simp[Instr.indexAt,mv,bT E,fH D,io,h]
theorem Pb (E:P.underlying t=some .string)(s:ByteArray)(k:IntKind)(j:Int)
 (h:0 <=j/\j<((toL s).length:Int)) (w:World):(Instr.index t (.string s) (.int k j)).run P w=.ok (.int .u8 (((toL s)[j.toNat]?.getD 0).toNat:Nat)) w:=by
 have D:j.toNat<s.size:=by have:=pM s;omega
 have e:s[j.toNat]? =some s[j.toNat]:=ByteArray.getElem?_lt' s _ D;have y:(toL s)[j.toNat]? =some s[j.toNat]:=by
  have:j.toNat<(toL s).length:=by omega
  rw[List.getElem?_eq_getElem this];rfl
 simp[Instr.index,mv,bT E,h.1,e,y]
theorem HS {F:Array Field}{i:TypeInfo}{z:Value}{y:List (Nat×Nat)}{ps:Array (Nat×Value)}{cs:Array Value}
 (I:P.info? t=some i) (R:i.zero=some z) (O:P.underlying t=some (.struct F)) (hp:F.toList.mapM (λf=>(P.info? f.type).map λi=>(f.offset,i.size))=some y)
 (H:Instr.fill (y[·]?) z.cells ps.toList=some cs) (w:World):(Instr.build t ps).run P w=.ok (.agg cs) w:=by
 have J:∀(l:List Field) (E:List (Nat×Nat)),l.mapM (λf=>(P.info? f.type).map λi=>(f.offset,i.size))=some E->
  (l.mapM (λf=>do pure (f.offset,<- sizeOf f.type):Field->Sem (Nat×Nat))).run P w=.ok E w:=by
  intro l;induction l with
  |nil=>intro E h;simp at h;subst h;rfl
  |cons f l U=>
   intro E h;rw[List.mapM_cons]at h;cases D:P.info? f.type with
   |none=>simp[D]at h
   |some i=>
    cases G:l.mapM (λf=>(P.info? f.type).map λi=>(f.offset,i.size))with
    |none=>simp[D,G]at h
    |some V=>
     simp[D,G]at h;subst h;rw[List.mapM_cons];simp only[Sem.run_bind,fH D,Result.andThen_ok,Sem.run_pure,U _ G]
 have M:(F.mapM (λf=>do pure (f.offset,<- sizeOf f.type):Field->Sem (Nat×Nat))).run P w=.ok y.toArray w:=by
  rw[Array.mapM_eq_mapM_toList,Sem.run_map,J _ _ hp];rfl
 simp only[Instr.build,zeroValue,Sem.run_bind,kj I,Result.andThen_ok,R,Sem.run_pure,bT O,M];have e:(λx:Nat=>y.toArray[x]?)=(y[·]?):=by funext x;simp
 rw[e,H];rfl
theorem BK {ρ:Operand->Value}{r:PV}(h:pv P ρ o.op=some r)(G:r.cond)(w:World):(execOp ρ o).run P w=.ok (.value r.value) w:=by
 unfold execOp;generalize o.op=ac at h;unfold pv at h;split at h
 ·simp only[Option.some.injEq]at h;subst h;rfl
 ·simp only[Option.some.injEq]at h;subst h;rfl
 ·rename_i c a b;split at h
  ·rename_i t x a9 H y an;simp only[Option.some.injEq]at h;subst h;cases t<;>simp[H,y,an,asBool,PV.value]
  ·rename_i t H _;simp only[Option.some.injEq]at h;subst h;cases t<;>simp[H,asBool,PV.value]
  ·cases h
 ·rename_i ac t x a9 _;split at h
  ·cases h
  obtain⟨h1,af⟩:=Ue h;refine iz ?_;rw[Sem.run_bind,af];exact h1.run G w
 ·rename_i ac t x;unfold unV at h;split at h
  ·rename_i y;simp only[Option.some.injEq]at h;subst h;simp[y,Op.unary,Op.intArith,PV.value]
  ·rename_i y;simp only[Option.some.injEq]at h;subst h;simp[y,Op.unary,PV.value]
  ·cases h
 ·rename_i s d x;split at h
  ·rename_i Z Y y;simp only[Option.some.injEq]at h;subst h;refine iz ?_;simp[y,convert,bT Z,bT Y,Conv.intToInt,PV.value]
  ·rename_i Z Y y;simp only[Option.some.injEq]at h;subst h;refine iz ?_;simp[y,convert,bT Z,bT Y,PV.value]
  ·cases h
 ·rename_i t i;split at h
  ·rename_i vs aj;cases D:vs[i]? with
   |none=>simp[D]at h
   |some v=>simp[D]at h;subst h;refine iz ?_;simp[aj,Instr.extract,D,PV.value]
  ·cases h
 ·rename_i t x f;split at h
  ·cases h
  split at h
  ·rename_i V cs E y;cases F:V[f]? with
   |none=>simp[F]at h
   |some U=>
    simp only[F,Option.bind_some]at h;cases hp:I0 P U.type cs U.offset with
    |none=>simp[hp]at h
    |some v=>simp[hp]at h;subst h;refine iz ?_;simp[y,Instr.field,bT E,F,asAgg,vY hp,PV.value]
  ·cases h
 ·rename_i t x f;split at h
  ·rename_i V a E y;split at h
   ·rename_i U F;split at h
    ·rename_i i D;split at h
     ·cases h
     ·rename_i ad;simp only[Option.some.injEq]at h;subst h;cases a with
      |none=>cases G
      |some a=>refine iz ?_;rw[y];exact Ik E F D ad a w
    ·cases h
   ·cases h
  ·cases h
 ·rename_i t x i;split at h
  ·rename_i e b n c k j E y O;split at h
   ·rename_i a8 D;simp only[Option.some.injEq]at h;subst h;cases b with
    |none=>cases G.2
    |some a=>refine iz ?_;rw[y,O];exact F5 E D a n c k j G.1 w
   ·cases h
  ·rename_i n e a k j E y O;split at h
   ·rename_i a8 D;simp only[Option.some.injEq]at h;subst h;cases a with
    |none=>cases G.2
    |some a=>refine iz ?_;rw[y,O];exact F4 E D a k j G.1 w
   ·cases h
  ·cases h
 ·rename_i t x i;split at h
  ·rename_i s k j E y O;simp only[Option.some.injEq]at h;subst h;refine iz ?_;rw[y,O];exact Pb E s k j G w
  ·cases h
 ·rename_i t x bb D;refine iz ?_;exact(Qt h).run G w
 ·rename_i x;split at h
  ·rename_i a y;simp only[Option.some.injEq]at h;subst h;cases a with
   |none=>cases G
   |some a=>simp[y,PV.value]
  ·rename_i y;simp only[Option.some.injEq]at h;subst h;simp[y,PV.value]
  ·cases h
 ·simp only[Option.some.injEq]at h;subst h;rfl
 ·rename_i t x;split at h
  ·cases h
  ·cases h
  ·rename_i d av E;simp only[Option.some.injEq]at h;subst h;refine iz ?_;unfold Instr.makeInterface;rw[Sem.run_bind,bT E];cases d<;>first|rfl|exact absurd rfl (av _)
 ·rename_i t parts;split at h
  ·cases h
  split at h
  ·rename_i z V I E;split at h
   ·rename_i a0 hp;cases D:P.info? t with
    |none=>simp[D]at I
    |some i=>
     simp[D]at I;cases F:Instr.fill (a0[·]?) z.cells (parts.toList.map λp=>(p.1,ρ p.2))with
     |none=>simp[F]at h
     |some cs=>
      simp[F]at h;subst h;refine iz ?_;exact HS D I E hp (by simpa using F) w
   ·cases h
  ·rename_i z n e I E;split at h
   ·rename_i aa ag;cases D:P.info? t with
    |none=>simp[D]at I
    |some i=>
     simp[D]at I;cases F:Instr.fill (λj=>some (j*aa.size,aa.size)) z.cells (parts.toList.map λp=>(p.1,ρ p.2))with
     |none=>simp[F]at h
     |some cs=>
      simp[F]at h;subst h;refine iz ?_;simp only[Instr.build,zeroValue,Sem.run_bind,kj D,Result.andThen_ok,I,Sem.run_pure,bT E,fH ag];have M:(parts.map λp=>(p.1,ρ p.2)).toList=parts.toList.map λp=>(p.1,ρ p.2):=by simp
      rw[M,F];rfl
   ·cases h
  ·cases h
 ·rename_i args J;split at h
  ·rename_i x t y H;have R:args= #[x]:=by rw[<- Array.toArray_toList (xs:=args),y]
   have M:J= #[t]:=by rw[<- Array.toArray_toList (xs:=J),H]
   subst R M;simp only[resolve,invoke,builtin,Sem.run_bind,Sem.run_pure,Result.andThen_ok,map_toArray,map_cons,map_nil,(UR h).run G w]
  ·cases h
 ·rename_i args J;split at h
  ·rename_i x t y H;have R:args= #[x]:=by rw[<- Array.toArray_toList (xs:=args),y]
   have M:J= #[t]:=by rw[<- Array.toArray_toList (xs:=J),H]
   subst R M;simp only[resolve,invoke,builtin,Sem.run_bind,Sem.run_pure,Result.andThen_ok,map_toArray,map_cons,map_nil,(Ui h).run G w]
  ·cases h
 ·cases h
def N8 (b:Nat):Value:=.pointer (some ⟨b,0,none⟩)
def alV (P:Program)(ρ:Operand->Value)(op:Op):Option (Obj×(Nat->Value)):=
 match op with
 |.alloc e=>match(P.info? e).bind (·.zero)with
  |some z=>some (.cells z.cells e,N8)
  |none=>none
 |.box e x=>some (.cells (ρ x).cells e,N8)
 |.buildSlice t len parts=>if X7 P t (parts.toList.map (·.1)) && !parts.isEmpty then none else match P.underlying t with
  |some (.slice e)=>match P.info? e with
   |some i=>match i.zero with
    |some z=>if len*i.size>2 ^ 24 then none else
     match Instr.fill (λj=>some (j*i.size,i.size)) ((Array.range (len*i.size)).map ((if len*i.size=0 then #[]else z.cells)[· % (if len*i.size=0 then #[]else z.cells).size]!)) (parts.toList.map λp=>(p.1,ρ p.2))with
     |some cs=>some (.cells cs e,λb=>.slice (some ⟨b,0,none⟩) len len)
     |none=>none
    |none=>none
   |none=>none
  |_=>none
 |.makeMap _ none=>some (.map #[] 0,λb=>.map (some b))
 |_=>none
theorem NQ {ρ:Operand->Value}{obj:Obj}{mk:Nat->Value}(h:alV P ρ o.op=some (obj,mk))(w:World):
 (execOp ρ o).run P w=.ok (.value (mk w.heap.size)) (w.alloc obj):=by
 unfold execOp;generalize o.op=J at h;unfold alV at h;split at h
 ·rename_i e;cases y:P.info? e with
  |none=>simp[y]at h
  |some i=>
   cases D:i.zero with
   |none=>simp[y,D]at h
   |some z=>
    simp[y,D]at h;obtain⟨rfl,rfl⟩:=h;refine iz ?_;simp only[Instr.alloc,zeroValue,Sem.run_bind,kj y,Result.andThen_ok,D,Sem.run_pure];rfl
 ·simp only[Option.some.injEq,Prod.mk.injEq]at h;obtain⟨rfl,rfl⟩:=h;rfl
 ·rename_i t len parts;split at h
  ·cases h
  split at h
  ·rename_i e I;split at h
   ·rename_i i y;split at h
    ·rename_i z D;split at h
     ·cases h
     ·rename_i H;split at h
      ·rename_i cs F;simp only[Option.some.injEq,Prod.mk.injEq]at h;obtain⟨rfl,rfl⟩:=h;refine iz ?_;have G:(parts.map λp=>(p.1,ρ p.2)).toList=parts.toList.map λp=>(p.1,ρ p.2):=by simp
       simp only[Instr.buildSlice,Sem.run_bind,bT I,Result.andThen_ok,fH y,if_neg H];by_cases E:len*i.size=0
       ·simp only[E,if_true]at F;simp only[E,if_true,pure_bind,G,F];rfl
       ·simp only[if_neg E]at F;simp only[if_neg E,zeroValue,Sem.run_bind,kj y,D,Sem.run_pure,Result.andThen_ok,G,F];rfl
      ·cases h
    ·cases h
   ·cases h
  ·cases h
 ·simp only[Option.some.injEq,Prod.mk.injEq]at h;obtain⟨rfl,rfl⟩:=h;rfl
 ·cases h
inductive RW where
 |rd (s:Sem Value)
 |wr (s:Sem Value)
 |st (s:Sem Unit)
def Z6 (P:Program)(t:TypeId):Bool:=match P.underlying t with|some (.slice _)=>true|_=>false
def VD (P:Program)(ρ:Operand->Value)(o:Oper):Option RW:=
 match o.op with
 |.load t x=>some (.rd (Instr.loadAt t (ρ x)))
 |.index t x i=>some (.rd (Instr.index t (ρ x) (ρ i)))
 |.lookup t x i ok=>some (.rd (Instr.lookup t (ρ x) (ρ i) ok))
 |.convert s d x=>if Z6 P d then some (.wr (convert s d (ρ x)))else some (.rd (convert s d (ρ x)))
 |.binOp op t x y _=>some (.rd (do eqGuard op t x y (ρ x) (ρ y);binOp op t (ρ x) (ρ y)))
 |.typeAssert x a b ok=>some (.rd (Instr.typeAssert (ρ x) a b ok))
 |.makeSlice t l c=>some (.wr (Instr.makeSlice t (ρ l) (ρ c)))
 |.range t x=>some (.wr (Instr.range t (ρ x)))
 |.next it b=>some (.wr (Instr.next (ρ it) b o.type))
 |.store t x v=>some (.st (Instr.storeAt t (ρ x) (ρ v)))
 |.mapUpdate t m k v=>some (.st (Instr.mapUpdate t (ρ m) (ρ k) (ρ v)))
 |.insert t m k v=>some (.st (Instr.mapUpdate t (ρ m) (ρ k) (ρ v)))
 |.call { callee:=.builtin .len,args,argTypes } =>some (.rd (Builtin.len_ argTypes o.type (args.map ρ)))
 |.call { callee:=.builtin .min,args,argTypes } =>some (.rd (Builtin.min_ argTypes o.type (args.map ρ)))
 |.call { callee:=.builtin .max,args,argTypes } =>some (.rd (Builtin.max_ argTypes o.type (args.map ρ)))
 |.call { callee:=.builtin .append,args,argTypes } =>some (.wr (Builtin.append_ argTypes o.type (args.map ρ)))
 |.call { callee:=.builtin .copy,args,argTypes } =>some (.wr (Builtin.copy_ argTypes o.type (args.map ρ)))
 |.call { callee:=.builtin .delete,args,argTypes } =>some (.wr (Builtin.delete_ argTypes o.type (args.map ρ)))
 |.call { callee:=.builtin .clear,args,argTypes } =>some (.wr (Builtin.clear_ argTypes o.type (args.map ρ)))
 |.field t x f=>if V7 P t=true then some (.rd (Instr.field t (ρ x) f))else none
 |.build t parts=>if X7 P t (parts.toList.map (·.1))=true then some (.rd (Instr.build t (parts.map λp=>(p.1,ρ p.2))))else none
 |.buildSlice t len parts=>if X7 P t (parts.toList.map (·.1)) && !parts.isEmpty then some (.wr (Instr.buildSlice t len (parts.map λp=>(p.1,ρ p.2))))else none
 |.entry it=>some (.rd (Instr.entry (ρ it)))
 |.mapEntry t m k=>some (.wr (Instr.mapEntry t (ρ m) (ρ k)))
 |.entryStore t m k v=>some (.st (Instr.entryStore t (ρ m) (ρ k) (ρ v)))
 |_=>none
def U3 (P:Program)(ρ:Operand->Value)(o:Oper):Option (Sem Value):=match o.op with
 |.next it b=>some (Instr.next (ρ it) b o.type)
 |_=>none
def RW.next:RW->Sem Next
 |.rd s=>vN s
 |.wr s=>vN s
 |.st s=>uN s
theorem yn {ρ:Operand->Value}{r:RW}(h:VD P ρ o=some r):execOp ρ o=r.next:=by
 unfold VD at h;unfold execOp;split at h
 case h_4=>split at h<;>(simp only[Option.some.injEq]at h;subst h;simp only[*];rfl)
 case h_20=>split at h<;>first|(cases h;done)|(simp only[Option.some.injEq]at h;subst h;simp only[*];rfl)
 case h_21=>split at h<;>first|(cases h;done)|(simp only[Option.some.injEq]at h;subst h;simp only[*];rfl)
 case h_22=>split at h<;>first|(cases h;done)|(simp only[Option.some.injEq]at h;subst h;simp only[*];rfl)
 case h_26=>cases h
 all_goals(simp only[Option.some.injEq]at h;subst h;simp only[*];rfl)
theorem LM {ρ:Operand->Value}{s:Sem Value}(h:U3 P ρ o=some s):execOp ρ o=vN s:=by
 unfold U3 at h;unfold execOp;split at h
 ·simp only[Option.some.injEq]at h;subst h;simp only[*];rfl
 ·cases h
def sB (P:Program)(f:FuncId):Bool:=
 match P.funcs[f]? with
 |some fn=>fn.body.isSome && !(fn.name== "runtime.NumGoroutine")
 |none=>false
def vu (P:Program)(ρ:Operand->Value)(op:Op):Option (FuncId×Array Value):=
 match op with
 |.call { callee:=.value f,args,.. } =>match ρ f with
  |.func (.func f) first captured=>if sB P f then some (f,(first.toList++(args.toList.map ρ++captured.toList)).toArray)else none
  |_=>none
 |_=>none
theorem sA {ρ:Operand->Value}{f:FuncId}{args:Array Value}(h:vu P ρ o.op=some (f,args))(w:World):
 (execOp ρ o).run P w=.ok (.enter f args) w:=by
 unfold execOp;generalize o.op=M at h;unfold vu at h;split at h
 ·rename_i g G _;split at h
  ·rename_i I first H E
   split at h
   ·rename_i y;simp only[Option.some.injEq,Prod.mk.injEq]at h;obtain⟨rfl,rfl⟩:=h;unfold sB at y;split at y
    ·rename_i D F;simp only[Bool.and_eq_true,Bool.not_eq_true']at y;simp only[resolve,E,Deferred.ofValue,Sem.run_bind,Sem.run_pure,Result.andThen_ok,invoke,callFunc,run_program,F,y.2,Bool.false_eq_true,if_false];have:D.body.isNone=false:=by cases J:D.body<;>simp_all
     simp only[this,Bool.false_eq_true,if_false,Sem.run_pure];congr 2;apply Array.ext';simp
    ·cases y
   ·cases h
  ·cases h
 ·cases h
def YV (P:Program)(ρ:Operand->Value)(op:Op):Option (FuncId×Value×Option TypeId×List Value):=
 match op with
 |.call { callee:=.invoke r name,args,.. } =>match ρ r with
  |.iface t v=>match P.info? t with
   |some ti=>match ti.methods.toList.find? (λm=>m.name==name)with
    |some m=>match m.path.toList,m.func,P.underlying t,v with
     |[],some (f,true),some (.pointer _),v=>if sB P f then some (f,v,none,args.toList.map ρ)else none
     |[],some (f,false),some (.pointer e),.pointer (some a)=>if sB P f then some (f,.pointer (some a),some e,args.toList.map ρ)else none
     |_,_,_,_=>none
    |none=>none
   |none=>none
  |_=>none
 |_=>none
def Vo (v:Value):Option TypeId->Sem Value
 |none=>pure v
 |some e=>Instr.loadAt e v
theorem AD {f:FuncId}{args:Array Value}(y:sB P f=true)(w:World):(callFunc f args).run P w=.ok (.enter f args) w:=by
 unfold sB at y;split at y
 ·rename_i D E;simp only[Bool.and_eq_true,Bool.not_eq_true']at y;have:D.body.isNone=false:=by cases F:D.body<;>simp_all
  simp only[callFunc,Sem.run_bind,run_program,Result.andThen_ok,E,y.2,Bool.false_eq_true,if_false,this,Sem.run_pure]
 ·cases y
theorem PE (ts:Array TypeId)(t:TypeId)(a:Addr)(x y:String):Builtin.ssaWrapNilChk_ ts t #[.pointer (some a),strVal x,strVal y]=pure (.pointer (some a)):=rfl
theorem EY {v:Value}{name:String}{args:Array Value}{f:FuncId}{r:Value}(h:(method (P.types.size+Made.depth) t v name).run P w=.ok (f,r) w):
 (invoke (.fn (.method name) #[]) (#[.iface t v]++args)).run P w=(callFunc f (r::args.toList).toArray).run P w:=by
 have y:(#[Value.iface t v]++args)[0]? =some (.iface t v):=by simp[Array.getElem?_append]
 have h1:(#[Value.iface t v]++args).extract 1 (#[Value.iface t v]++args).size=args:=by
  apply Array.ext';simp
 have D: #[r]++args=(r::args.toList).toArray:=by
  apply Array.ext';simp
 unfold invoke;simp only[y,h1,callMethod,Sem.run_bind,run_program,Result.andThen_ok,h,D]
theorem Pc {ρ:Operand->Value}{f:FuncId}{v x:Value}{e:Option TypeId}{args:List Value}(h:YV P ρ o.op=some (f,v,e,args))(y:(Vo v e).run P w=.ok x w):
 (execOp ρ o).run P w=.ok (.enter f (x::args).toArray) w:=by
 unfold execOp;generalize o.op=Z at h;unfold YV at h;split at h
 ·rename_i r name Y _;split at h
  ·rename_i t v' J;split at h
   ·rename_i V M;split at h
    ·rename_i m U;have I:V.methods.find? (λm=>m.name==name)=some m:=by rw[<- Array.find?_toList];exact U
     have R:∃k,P.types.size+Made.depth=k+1:=⟨P.types.size+(Made.depth-1),by unfold Made.depth;omega⟩
     obtain⟨k,H⟩:=R;split at h
     ·rename_i G O hp E F;split at h
      ·rename_i D;simp only[Option.some.injEq,Prod.mk.injEq]at h;obtain⟨rfl,rfl,rfl,rfl⟩:=h;simp only[Vo,Sem.run_pure,Result.ok.injEq,and_true]at y;subst y;simp only[resolve,J,Sem.run_bind,Sem.run_pure,Result.andThen_ok];rw[EY (f:=G) (r:=_) (by
        rw[H];simp[method,kj M,I,Array.toList_eq_nil_iff.1 hp,E,follow,receiverAt,bT F,Place.get];try rfl),AD D]
       simp
      ·cases h
     ·rename_i G O a hp E F;split at h
      ·rename_i D;simp only[Option.some.injEq,Prod.mk.injEq]at h;obtain⟨rfl,rfl,rfl,rfl⟩:=h;have y:(loadVar O a).run P w=.ok x w:=by
        have:=y;simpa only[Vo,Instr.loadAt,Instr.sureAddr,Sem.run_bind,Sem.run_pure,Result.andThen_ok]using this
       simp only[resolve,J,Sem.run_bind,Sem.run_pure,Result.andThen_ok];rw[EY (f:=G) (r:=x) (by
        rw[H];simp[method,kj M,I,Array.toList_eq_nil_iff.1 hp,E,follow,receiverAt,bT F,Place.get,PE,asAddr,y]),AD D]
       simp
      ·cases h
     ·cases h
    ·cases h
   ·cases h
  ·cases h
 ·cases h
def s0V:Value->S0
 |.int k _=>.int k
 |.bool _=>.bool
 |.string _=>.str
 |.slice _ _ _=>.slice
 |.pointer _=>.ptr
 |.map _=>.map
 |_=>.any
def shV:Value->Sh
 |.agg cs=>if Nat.ble 12 cs.size=true then .one .any else .agg (cs.toList.map s0V)
 |v=>.one (s0V v)
def shT (P:Program)(t:TypeId):List Sh:=
 match(P.info? t).bind (·.zero)with
 |some (.tuple vs)=>vs.toList.map shV
 |some v=>[shV v]
 |none=>[.one .any]
abbrev Fr:=List (Nat×Value)
def jk:Fr->Nat->Value
 |[],_=>undef
 |(k,v)::r,t=>bif Nat.beq k t then v else jk r t
def iS (n:Nat)(fr:Fr)(d:Option Tmp)(v:Value):Fr:=match d with
 |none=>fr
 |some t=>bif Nat.ble (t+1) n then(t,v)::fr else fr
def evF (fr:Fr):Operand->Value
 |.tmp t=>jk fr t
 |.const v=>v
 |.global g=>.pointer (some ⟨g,0,none⟩)
 |.func f=>.func (.func f) #[] #[]
structure Rep (n:Nat)(fr:Fr)(a:Act):Prop where
 size:a.tmps.size=n
 get:∀t,a.tmps.getD t undef=jk fr t
theorem Rep.eval {fr:Fr}{a:Act}(h:Rep n fr a):a.eval=evF fr:=by
 funext x;cases x<;>first|rfl|exact h.get _
theorem Rep.put {fr:Fr}{a:Act}(h:Rep n fr a)(d:Option Tmp)(v:Value):Rep n (iS n fr d v) (a.put d v):=by
 cases d with
 |none=>exact h
 |some t=>
  refine⟨by simp[Act.put,h.size],λi=>?_⟩;have E:=h.get i;have F:=h.size;simp only[Act.put,iS];cases D:Nat.ble (t+1) n with
  |true=>
   have y:t<a.tmps.size:=by have h1:t+1 <=n:=Nat.le_of_ble_eq_true D;rw[F];exact h1
   simp only[cond_true,jk];by_cases e:t=i
   ·subst e;simp[y]
   ·have G:Nat.beq t i=false:=by cases D:Nat.beq t i<;>first|rfl|exact absurd (Nat.eq_of_beq_eq_true D) e
    rw[G,cond_false,<- E];simp[Array.getD_eq_getD_getElem?,Array.getElem?_setIfInBounds_ne e]
  |false=>
   have y: ¬ t<a.tmps.size:=by
    intro y;have:Nat.ble (t+1) n=true:=Nat.ble_eq_true_of_le (by rw[F]at y;exact y);rw[this]at D;cases D
   simp only[cond_false];rw[<- E];have:a.tmps.setIfInBounds t v=a.tmps:=by
    simp[Array.setIfInBounds,y]
   rw[this]
def qab:Op->Nat
 |.binOp .quo .. =>2
 |.binOp .rem .. =>2
 |.binOp .. =>1
 |.slice .. =>1
 |_=>0
def nmK (op:Op)(v:Value)(K:Value->Prop):Prop:=match qab op,v with
 |1,.string s=>∀l:lU,l=toL s->K (.string (mkS l))
 |2,.int k n=>∀m:Int,m=n->K (.int k m)
 |_,v=>K v
theorem rE {y:Op}{v:Value}{K:Value->Prop}(h:nmK y v K):K v:=by
 unfold nmK at h;split at h
 ·exact h _ rfl
 ·exact h _ rfl
 ·exact h
def Yp (P:Program)(o:Oper):List Sh:=match o.op with
 |.range .. =>[.one .ptr]
 |.entry _=>[.one .any,.one .any]
 |.mapEntry .. =>[.one .any,.one (.int .i64)]
 |_=>shT P o.type
def WOp (P:Program)(n:Nat)(o:Oper)(a:Fr)(K:Fr->World->Prop)(w:World):Prop:=
 match pv P (evF a) o.op with
 |some (.val v)=>nmK o.op v λv=>K (iS n a o.dst v) w
 |some (.part c v)=>c/\nmK o.op v λv=>K (iS n a o.dst v) w
 |none=>match alV P (evF a) o.op with
  |some (obj,mk)=>∀(b:Nat) (w':World),b=w.heap.size->w'=w.alloc obj->K (iS n a o.dst (mk b)) w'
  |none=>match U3 P (evF a) o with
   |some s=>(∃w':World,s.run P w=.ok (.tuple #[.bool false]) w'/\K (iS n a o.dst (.tuple #[.bool false])) w')\/(∃(w':World) (k v:Value),s.run P w=.ok (.tuple #[.bool true,k,v]) w'/\K (iS n a o.dst (.tuple #[.bool true,k,v])) w')
   |none=>match VD P (evF a) o with
    |some (.rd s)=>exR (Yp P o) λv=>s.run P w=.ok v w/\K (iS n a o.dst v) w
    |some (.wr s)=>∃w':World,exR (Yp P o) λv=>s.run P w=.ok v w'/\K (iS n a o.dst v) w'
    |some (.st s)=>∃w':World,s.run P w=.ok () w'/\K (iS n a o.dst undef) w'
    |none=>match vu P (evF a) o.op with
     |some (f,args)=>Calls P f args w λe w'=>exR (shT P o.type) λv=>e=.returned v/\K (iS n a o.dst v) w'
     |none=>match YV P (evF a) o.op with
      |some (f,x,none,args)=>Calls P f (x::args).toArray w λe w'=>exR (shT P o.type) λv=>e=.returned v/\K (iS n a o.dst v) w'
      |some (f,p,some t,args)=>exR (shT P t) λx=>(Instr.loadAt t p).run P w=.ok x w/\Calls P f (x::args).toArray w λe w'=>exR (shT P o.type) λv=>e=.returned v/\K (iS n a o.dst v) w'
      |none=>False
theorem HC {fr:Fr}{a:Act}{K:Fr->World->Prop}{H:Act->World->Prop}{Q:Exit->Act->World->Prop}(J:Rep n fr a)(h:WOp P n o fr K w)
 (D:∀v w',K (iS n fr o.dst v) w'->H (a.put o.dst v) w'):o.wp P a w H Q:=by
 unfold WOp at h;rw[<- J.eval]at h;unfold Oper.wp;split at h
 ·rename_i v hp;rw[BK hp trivial];exact D _ _ (rE h)
 ·rename_i c v hp;rw[BK hp h.1];exact D _ _ (rE h.2)
 ·split at h
  ·rename_i obj mk I;rw[NQ I];exact D _ _ (h _ _ rfl rfl)
  ·split at h
   ·rename_i s E;rcases h with⟨w',y,h⟩|⟨w',k,v,y,h⟩
    ·rw[LM E,iz y];exact D _ _ h
    ·rw[LM E,iz y];exact D _ _ h
   ·split at h
    ·rename_i s E;obtain⟨v,y,h⟩:=jQ h;rw[yn E,RW.next,iz y];exact D _ _ h
    ·rename_i s E;obtain⟨w',h⟩:=h;obtain⟨v,y,h⟩:=jQ h;rw[yn E,RW.next,iz y];exact D _ _ h
    ·rename_i s E;obtain⟨w',y,h⟩:=h;rw[yn E,RW.next,XS y];exact D _ _ h
    ·split at h
     ·rename_i f args F;rw[sA F];exact h.mono λe w' G=>by
       obtain⟨v,y,h⟩:=jQ G;subst y;exact D _ _ h
     ·split at h
      ·rename_i f x args F;rw[Pc F (x:=x) rfl];exact h.mono λe w' G=>by
        obtain⟨v,y,h⟩:=jQ G;subst y;exact D _ _ h
      ·rename_i f p t args F;obtain⟨x,M,h⟩:=jQ h;rw[Pc F (x:=x) M];exact h.mono λe w' G=>by
        obtain⟨v,y,h⟩:=jQ G;subst y;exact D _ _ h
      ·cases h
def ab (b:Bool)(X Y:Prop):Prop:=match b with|true=>X|false=>Y
theorem ab.of {b:Bool}{X Y:Prop}(y:b=true->X)(D:b=false->Y):ab b X Y:=by
 cases b
 ·exact D rfl
 ·exact y rfl
theorem ab.yes {b:Bool}{X Y:Prop}(y:b=true)(D:X):ab b X Y:=by subst y;exact D
theorem ab.no {b:Bool}{X Y:Prop}(y:b=false)(D:Y):ab b X Y:=by subst y;exact D
theorem Rep.again {fr:Fr}{a:Act}(h:Rep n fr a){t:Tmp}{v:Value}(D:jk fr t=v):Rep n (iS n fr (some t) v) a:=by
 refine⟨h.size,λi=>?_⟩;rw[h.get i];simp only[iS];cases E:Nat.ble (t+1) n with
 |false=>rfl
 |true=>
  simp only[cond_true,jk];cases y:Nat.beq t i with
  |false=>rfl
  |true=>rw[<- Nat.eq_of_beq_eq_true y];exact D
def WG (n:Nat)(ops:Array Oper)(g:Option (Nat×Bool))(a:Fr)(yes no:Fr->Prop):Prop:=
 match g with
 |none=>yes a
 |some (j,want)=>match(ops[j]?).bind (·.dst)with
  |none=>no a
  |some t=>match jk a t with
   |.bool b=>
    ab b (match want with|true=>yes (iS n a (some t) (.bool true))|false=>no (iS n a (some t) (.bool true)))
     (match want with|true=>no (iS n a (some t) (.bool false))|false=>yes (iS n a (some t) (.bool false)))
   |_=>no a
theorem Hz {ops:Array Oper}{fr:Fr}{a:Act}{yes J:Fr->Prop}(D:Rep n fr a)(h:WG n ops o.guard fr yes J):
 ∃F,Rep n F a/\((Region.wanted o (yielded ops a.tmps)=true/\yes F)\/(Region.wanted o (yielded ops a.tmps)=false/\J F)):=by
 unfold WG at h;unfold Region.wanted yielded;split at h
 ·rename_i H;rw[H];exact⟨fr,D,.inl ⟨rfl,h⟩⟩
 ·rename_i j R H;rw[H];simp only;split at h
  ·rename_i G;rw[G];exact⟨fr,D,.inr ⟨rfl,h⟩⟩
  ·rename_i t G;rw[G];simp only[Option.bind_some];have y:=D.get t;split at h
   ·rename_i b E;rw[E]at y;have M:a.tmps[t]? =some (.bool b):=by
     rw[Array.getD_eq_getD_getElem?]at y;cases I:a.tmps[t]? with
     |none=>rw[I]at y;simp[undef]at y
     |some v=>rw[I]at y;simp at y;rw[y]
    rw[M];refine⟨_,D.again E,?_⟩;cases b<;>cases R<;>simp[ab]at h<;>simp[h]
   ·rename_i O;refine⟨fr,D,.inr ⟨?_,h⟩⟩;split
    ·rename_i b E;rw[Array.getD_eq_getD_getElem?,E]at y;exact absurd y.symm (O b)
    ·rfl
def yD (l:List Oper):List Tmp:=l.filterMap (·.dst)
structure cJ (S:List Tmp)(a a':Act):Prop where
 tmps:∀i,i∉S->a'.tmps.getD i undef=a.tmps.getD i undef
 defers:a'.defers=a.defers
theorem cJ.refl (S:List Tmp)(a:Act):cJ S a a:=⟨λ_ _=>rfl,rfl⟩
theorem cJ.mono {S y:List Tmp}{a a':Act}(h:cJ S a a')(F:∀t,t∈S->t∈y):cJ y a a':=
 ⟨λi D=>h.tmps i λE=>D (F i E),h.defers⟩
theorem cJ.trans {S:List Tmp}{a b c:Act}(h:cJ S a b)(k:cJ S b c):cJ S a c:=
 ⟨λi y=>(k.tmps i y).trans (h.tmps i y),k.defers.trans h.defers⟩
theorem cJ.put {S:List Tmp}(a:Act)(d:Option Tmp)(v:Value)(h:∀t,d=some t->t∈S):cJ S a (a.put d v):=by
 cases d with
 |none=>exact cJ.refl _ _
 |some t=>
  refine⟨λi y=>?_,rfl⟩;have:t≠i:=λe=>y (e▸h t rfl);simp[Act.put,Array.getD_eq_getD_getElem?,Array.getElem?_setIfInBounds_ne this]
def WO (P:Program)(n:Nat)(ops:Array Oper):List Oper->(Fr->World->Prop)->Fr->World->Prop
 |[],K,a,w=>K a w
 |o::rest,K,a,w=>WG n ops o.guard a (λa=>WOp P n o a (WO P n ops rest K) w) (λa=>WO P n ops rest K (iS n a o.dst undef) w)
theorem mR {rest:List Oper} :∀t,t∈yD rest->t∈yD (o::rest):=by
 intro t y;simp only[yD,List.mem_filterMap]at y ⊢;obtain⟨x,D,e⟩:=y;exact⟨x,mem_cons_of_mem _ D,e⟩
theorem kq {rest:List Oper} :∀t,o.dst=some t->t∈yD (o::rest):=by
 intro t y;simp only[yD,List.mem_filterMap];exact⟨o,mem_cons_self,y⟩
theorem Re {ops:Array Oper}{Q:Exit->Act->World->Prop} :∀{l:List Oper} {K:Fr->World->Prop} {fr:Fr} {a:Act} {w:World},Rep n fr a->WO P n ops l K fr w->
 (∀F y w',Rep n F y->cJ (yD l) a y->K F w'->Q .normal y w')->wpList P ops Q l a w
 |[],K,fr,a,w,J,h,D=>D _ _ _ J (cJ.refl _ _) h
 |o::rest,K,fr,a,w,J,h,D=>by
  unfold wpList;obtain⟨F,M,⟨O,h⟩|⟨O,h⟩⟩:=Hz J h
  ·rw[if_pos O];exact .inl (HC M h λv w' U=>Re (M.put o.dst v) U λE y R H G I=>D E y R H ((cJ.put a o.dst v kq).trans (G.mono mR)) I)
  ·rw[if_neg (by simp[O])];exact Re (M.put o.dst _) h λE y R H G I=>D E y R H ((cJ.put a o.dst _ kq).trans (G.mono mR)) I
def Yf (ops:Array Oper):List Oper->Nat->Bool
 |[],_=>true
 |o::l,k=>(o.after.toList.all λe=> !Region.binds .any e || Nat.blt e.on k)&&((l.all λoj=>(oj.after.toList.any λe=>Region.binds .any e&&Nat.beq e.on k) || o.apart ops oj)&&Yf ops l (k+1))
def Y5 (ops:Array Oper):Bool:=Region.noSelect ops&&Yf ops ops.toList 0
theorem IF {ops:Array Oper} :∀(l:List Oper) (k:Nat) (listed:Array Bool),(∀j,l[j]? =ops[k+j]?)->k+l.length=ops.size->(∀j d,j<ops.size->listed.getD j d=decide (j<k))->listed.size=ops.size->Yf ops l k=true->
 Region.lexFrom .any ops l.length k listed=true
 |[],k,listed,E,H,y,I,_=>by
  simp only[length_nil,Region.lexFrom,List.isEmpty_iff];unfold Region.ready;rw[List.filter_eq_nil_iff];intro i M;rw[List.mem_range]at M;simp only[length_nil]at H;rw[y i true M,decide_eq_true (by omega)];simp
 |o::l,k,listed,E,H,y,I,h=>by
  unfold Yf at h;simp only[Bool.and_eq_true,List.all_eq_true]at h;obtain⟨h1,U,V⟩:=h;have J:ops[k]? =some o:=by simpa using(E 0).symm
  simp only[length_cons]at H;have O:k<ops.size:=by omega
  simp only[length_cons,Region.lexFrom,Bool.and_eq_true];refine⟨⟨?_,?_⟩,?_⟩
  ·rw[List.contains_iff_mem,mem_ready];refine⟨by rw[y k true O];simp,o,J,λe Z F=>?_⟩;have:=h1 e (by simpa using Z);rw[F,Bool.not_true,Bool.false_or,Nat.blt_eq]at this;rw[y e.on false (by omega)];exact decide_eq_true this
  ·unfold Region.free;rw[J];simp only[List.all_eq_true,List.mem_range];intro j G;rcases Nat.lt_trichotomy j k with D|D|D
   ·rw[y j true G,decide_eq_true D];simp
   ·subst D;simp
   ·have e:l[j-k-1]? =ops[j]? :=by
     have:=E (j-k);rw[show j-k=(j-k-1)+1 by omega,List.getElem?_cons_succ]at this;rw[this];congr 1;omega
    cases ac:ops[j]? with
    |none=>simp
    |some af=>
     rw[ac]at e;have:=U af (List.mem_of_getElem? e);simp only[Bool.or_eq_true,List.any_eq_true,Bool.and_eq_true]at this;simp only[Bool.or_eq_true];right;rcases this with⟨R,aa,F,ad⟩|Y
     ·left;rw[Array.any_eq_true'];exact⟨R,by simpa using aa,by simp[F,Nat.eq_of_beq_eq_true ad]⟩
     ·exact .inr Y
  ·refine IF l (k+1) _ (λj=>?_) (by omega) (λj d G=>?_) (by simpa using I) V
   ·have:=E (j+1);rw[List.getElem?_cons_succ]at this;rw[this];congr 1;omega
   ·by_cases e:k=j
    ·subst e;simp[I,O]
    ·rw[getD_set_ne d e,y j d G];congr 1;rw[eq_iff_iff];omega
theorem US {ops:Array Oper}(h:Y5 ops=true):Region.lexB .any ops=true:=by
 unfold Y5 at h;rw[Bool.and_eq_true]at h;unfold Region.lexB;rw[Bool.and_eq_true];refine⟨h.1,?_⟩;have:=IF (ops:=ops) ops.toList 0 (Array.replicate ops.size false) (λj=>by simp) (by simp) (λj d y=>by simp[y]) (by simp) h.2;simpa using this
def Yu (P:Program)(n:Nat)(w0:World)(o:Oper)(a:Fr)(K:Fr->Prop):Prop:=
 match pv P (evF a) o.op with
 |some (.val v)=>nmK o.op v λv=>K (iS n a o.dst v)
 |some (.part c v)=>c/\nmK o.op v λv=>K (iS n a o.dst v)
 |none=>match VD P (evF a) o with
  |some (.rd s)=>exR (shT P o.type) λv=>(∀w1,Below w0.heap.size w0 w1->s.run P w1=.ok v w1)/\K (iS n a o.dst v)
  |some _=>False
  |none=>match vu P (evF a) o.op with
   |some (f,args)=>exR (shT P o.type) λv=>(∀w1,Below w0.heap.size w0 w1->Calls P f args w1 λe w2=>e=.returned v/\Below w0.heap.size w1 w2)/\K (iS n a o.dst v)
   |none=>False
theorem TV {w0:World}{fr:Fr}{a:Act}{K:Fr->Prop}{K':Act->Prop}(H:Rep n fr a)(h:Yu P n w0 o fr K)(y:∀v,K (iS n fr o.dst v)->K' (a.put o.dst v)):
 o.quiet P a (Below w0.heap.size w0) K':=by
 unfold Yu at h;rw[<- H.eval]at h;unfold Oper.quiet Oper.quietAt;split at h
 ·rename_i v hp;exact⟨v,λw _=>by rw[BK hp trivial];exact⟨rfl,rfl⟩,y _ (rE h)⟩
 ·rename_i c v hp;exact⟨v,λw _=>by rw[BK hp h.1];exact⟨rfl,rfl⟩,y _ (rE h.2)⟩
 ·split at h
  ·rename_i s I;obtain⟨v,E,h⟩:=jQ h;exact⟨v,λw D=>by rw[yn I,RW.next,iz (E w D)];exact⟨rfl,rfl⟩,y _ h⟩
  ·cases h
  ·split at h
   ·rename_i f args G;obtain⟨v,E,h⟩:=jQ h;exact⟨v,λw D=>by rw[sA G];exact⟨rfl,(E w D).mono λe J F=>⟨F.1,D.trans F.2⟩⟩,y _ h⟩
   ·cases h
def WQ (P:Program)(n:Nat)(w0:World)(ops:Array Oper):List Oper->(Fr->Prop)->Fr->Prop
 |[],K,a=>K a
 |o::rest,K,a=>WG n ops o.guard a (λa=>Yu P n w0 o a (WQ P n w0 ops rest K)) (λa=>WQ P n w0 ops rest K (iS n a o.dst undef))
theorem Rf {w0:World}{ops:Array Oper}{Q:Act->Prop} :∀{l:List Oper} {K:Fr->Prop} {fr:Fr} {a:Act},Rep n fr a->WQ P n w0 ops l K fr->
 (∀F y,Rep n F y->cJ (yD l) a y->K F->Q y)->wpQuiet P ops (Below w0.heap.size w0) Q l a
 |[],K,fr,a,J,h,D=>D _ _ J (cJ.refl _ _) h
 |o::rest,K,fr,a,J,h,D=>by
  unfold wpQuiet;obtain⟨F,M,⟨O,h⟩|⟨O,h⟩⟩:=Hz J h
  ·rw[if_pos O];exact TV M h λv R=>Rf (M.put o.dst v) R λE y H G I=>D E y H ((cJ.put a o.dst v kq).trans (G.mono mR)) I
  ·rw[if_neg (by simp[O])];exact Rf (M.put o.dst _) h λE y H G I=>D E y H ((cJ.put a o.dst _ kq).trans (G.mono mR)) I
section
variable {P:Program} {ops:Array Oper} {md:Region.Mode} {C:World->Prop}
def C4 (P:Program)(md:Region.Mode)(ops:Array Oper)(C:World->Prop)(n:Nat)(L:Array Bool->Act->Prop):Nat->Array Bool->Act->Prop
 |0,listed,a=>L listed a
 |f+1,listed,a=>Region.ready md ops listed≠[]/\∀i∈Region.ready md ops listed,i<n/\qOp P ops C i (C4 P md ops C n L f (listed.setIfInBounds i true)) a
theorem um {n g:Nat}{L:Array Bool->Act->Prop}{Q':Exit->Act->World->Prop}(D:∀listed a w,C w->L listed a->wpAny P md ops Q' g listed a w):
 ∀(f:Nat) (listed:Array Bool) (a:Act) (w:World),C w->C4 P md ops C n L f listed a->wpAny P md ops Q' (f+g) listed a w
 |0,listed,a,w,y,h=>by rw[Nat.zero_add];exact D _ _ _ y h
 |f+1,listed,a,w,y,h=>by
  rw[show f+1+g=(f+g)+1 by omega];exact⟨λG=>absurd G h.1,λi H=>wpOp_of_qOp y (λE w' I F=>um D f _ E w' I F) (h.2 i H).2⟩
theorem Hq {H:Oper}{v:Value}{L:Array Bool->Act->Prop}(U:ops[i]? =some H)(an:∀(j:Nat) (o:Oper) cs b,ops[j]? =some o->o.op≠.select cs b)
 (aj:Region.sinkB md ops n=true) (Z:Region.chainB md ops n=true) (ag:n<ops.size) (ac:i<n)
 (bb:∀listed a,L listed a->∀j∈Region.ready md ops listed,n <=j):
 ∀(f:Nat) (listed:Array Bool) (a:Act),HeadInv md ops n listed->
  (∀j G,ops[j]? =some G->j≠i->listed.getD j true=false->(∀e∈G.after,Region.binds md e=true->e.on≠i)->H.apart ops G=true)->
  i∈Region.ready md ops listed->YieldsIn P ops C H v a->
  C4 P md ops C n L f (listed.setIfInBounds i true) (a.put H.dst v)->C4 P md ops C n L (f+1) listed a:=by
 intro f;induction f with
 |zero=>
  intro listed a R _ D O I;have F:=(mem_ready.1 D).1;refine⟨λh=>(by rw[h]at D;cases D),λj E=>?_⟩;have M:j<n:=by
   rcases Nat.lt_or_ge j n with h|h
   ·exact h
   ·exact absurd E (tail_waits aj Z ag R _ i rfl ac F j h)
  refine⟨M,?_⟩;by_cases y:j=i
  ·subst y;exact O.qOp U I
  ·have:=bb _ _ I j (ready_mono E y);omega
 |succ f bt=>
  intro listed a R aa D O I;have F:=(mem_ready.1 D).1;refine⟨λh=>(by rw[h]at D;cases D),λj E=>?_⟩;have M:j<n:=by
   rcases Nat.lt_or_ge j n with h|h
   ·exact h
   ·exact absurd E (tail_waits aj Z ag R _ i rfl ac F j h)
  refine⟨M,?_⟩;by_cases y:j=i
  ·subst y;exact O.qOp U I
  ·have h1:=(I.2 j (ready_mono E y)).2;obtain⟨af,G,V,a8⟩:=mem_ready.1 E;have bs:∀e∈G.after,Region.binds md e=true->e.on≠i:=λe be a9 heq=>by
    have h1:=a8 e be a9;rw[heq,getD_both F]at h1;cases h1
   have a0:=qOp_put V (aa j G V y af bs) (λcs b=>an i H cs b U) (λcs b=>an j G cs b V) O h1;have bk:∀k J,ops[k]? =some J->k≠i->(listed.setIfInBounds j true).getD k true=false->
    (∀e∈J.after,Region.binds md e=true->e.on≠i)->H.apart ops J=true:=λk J bl bp F bq=>by
    refine aa k J bl bp ?_ bq;by_cases ad:j=k
    ·subst ad;exact af
    ·rw[getD_set_ne true ad]at F;exact F
   refine qOp_mono (λav Y=>bt (listed.setIfInBounds j true) av (R.set E M) bk (ready_mono D (Ne.symm y)) Y.1 ?_) a0;rw[Array.setIfInBounds_comm _ _ y];exact Y.2
theorem C6 {n g:Nat}{F:Act->Prop}(U:Region.noSelect ops=true)(R:Region.sinkB md ops n=true)(H:Region.chainB md ops n=true)(M:n<ops.size):
 ∀(l:List Oper) (k:Nat) (listed:Array Bool) (a:Act),(∀j,j<l.length->l[j]? =ops[k+j]?)->k+l.length=n->HeadInv md ops n listed->
 Region.lexHead md ops g l.length k listed=true->wpQuiet P ops C F l a->
 C4 P md ops C n (λY G=>Region.seqB md ops g n Y=true/\F G) l.length listed a
 |[],k,listed,a,_,E,_,D,h=>by
  have:k=n:=by simpa using E
  subst this;exact⟨by simpa[Region.lexHead]using D,h⟩
 |o::l,k,listed,a,J,E,V,D,h=>by
  have y:ops[k]? =some o:=by simpa using(J 0 (by simp)).symm
  simp only[length_cons,Region.lexHead,Bool.and_eq_true]at D;obtain⟨⟨af,ad⟩,Z⟩:=D;have I:k<n:=by simp only[length_cons]at E;omega
  have O:k∈Region.ready md ops listed:=by simpa using af
  have ag:qOp P ops C k (wpQuiet P ops C F l) a:=by unfold qOp;simp only[y];exact h
  obtain⟨v,aj,aa⟩:=yieldsIn_of_qOp y ag;exact Hq y (Region.noSelect_spec U) R H M I (λY G ac=>seqB_ready ac.1) l.length listed a V (Region.free_spec y ad) O aj
   (C6 U R H M l (k+1) _ _ (λj an=>by have:=J (j+1) (by simp;omega);simpa[Nat.add_assoc,Nat.add_comm 1 j]using this) (by simp only[length_cons]at E;omega) (V.set O I) Z aa)
theorem tg {id:Nat}{Q:Exit->Act->World->Prop}{a:Act}(n:Nat)(V:P.follows .mixedOrders=true)(E:Region.lexTailB .any ops n=true)(M:C { w with drawn:=w.drawn+1 })
 (h:wpQuiet P ops C (λD=>∀w',C w'->wpList P ops Q (ops.toList.drop n) D w') (ops.toList.take n) a):(Code.region id ops true).wp P Q a w:=by
 simp only[Region.lexTailB,Bool.and_eq_true,dTx]at E;obtain⟨⟨⟨⟨aa,Y⟩,Z⟩,O⟩,U⟩:=E;have y:(ops.toList.take n).length=n:=by simp;omega
 have G:(ops.toList.drop n).length=ops.size-n:=by simp
 have af:HeadInv .any ops n (Array.replicate ops.size false):=
  ⟨by simp,λj ag _ I=>(by rw[getD_replicate_false]at I;cases I),λt _ ac=>getD_in (by simpa using ac) (getD_replicate_false _ _)⟩
 have J:=C6 (C:=C) (md:=.any) (g:=ops.size-n) aa Z O Y (ops.toList.take n) 0 _ a (λj H=>by
  have R:j<n:=by rw[y]at H;exact H
  simp[R]) (by simpa using y) af (by rw[y];exact U) h
 refine wp_region_any V ?_;have:=um (Q':=Q) (g:=ops.size-n) (λlisted D w' ad F=>by
  have:=wpAny_of_seq (md:=.any) (Q':=Q) (ops.toList.drop n) n listed D w' (λj=>by simp[List.getElem?_drop]) (by rw[G];exact F.1) (F.2 w' ad)
  rwa [G]at this) _ _ _ _ M J
 rw[y,show n+(ops.size-n)=ops.size by omega]at this;exact this
end
inductive Fa where
 |al (i k:Nat) (o:Obj)
 |rl (i:Nat) (φ:World->Prop)
abbrev Al:=List Fa
def Fa.tag:Fa->Nat
 |.al i _ _=>i
 |.rl i _=>i
def Fa.at:Fa->World->Prop
 |.al _ k o,w=>w.heap[k]? =some o
 |.rl _ φ,w=>φ w
def Fa.new:Fa->Nat->Prop
 |.al _ k' _,k=>k≠k'
 |.rl _ _,_=>True
def Fa.firm:Fa->Prop
 |.al _ _ _=>True
 |.rl _ φ=>∀u u':World,φ u->Below u.heap.size u u'->φ u'
def Sc:Al->Nat->Prop->Prop
 |[],_,X=>X
 |.al _ k' _::r,k,X=>k≠k'->Sc r k X
 |.rl _ _::r,k,X=>Sc r k X
def yH:Al->World->Prop->Prop
 |[],_,X=>X
 |.al _ k o::r,w,X=>w.heap[k]? =some o->yH r w X
 |.rl _ φ::r,w,X=>φ w->yH r w X
theorem Gp {X:Prop} :∀{al:Al} {k:Nat},Sc al k X->(∀p∈al,p.new k)->X
 |[],_,h,_=>h
 |.al _ _ _::_,_,h,y=>Gp (h (y _ mem_cons_self)) λq D=>y q (mem_cons_of_mem _ D)
 |.rl _ _::r,_,h,y=>Gp (al:=r) h λq D=>y q (mem_cons_of_mem _ D)
theorem mn {X:Prop} :∀{al:Al} {w:World},yH al w X->(∀p∈al,p.at w)->X
 |[],_,h,_=>h
 |.al _ _ _::_,_,h,y=>mn (h (y _ mem_cons_self)) λq D=>y q (mem_cons_of_mem _ D)
 |.rl _ _::_,_,h,y=>mn (h (y _ mem_cons_self)) λq D=>y q (mem_cons_of_mem _ D)
def ZJ:Op->Bool
 |.alloc _|.box _ _|.buildSlice _ _ _|.makeMap _ _=>true
 |_=>false
theorem Rg {ρ:Operand->Value}{y:Op}{r:Obj×(Nat->Value)}(h:alV P ρ y=some r):ZJ y=true:=by
 unfold alV at h;split at h<;>first|rfl|cases h
theorem NP {ρ y:Operand->Value}{op:Op}(h:∀x∈op.operands,ρ x=y x):alV P ρ op=alV P y op:=by
 cases op<;>simp only[Op.operands]at h<;>try rfl
 case box e x=>simp only[alV];rw[h x (by simp)]
 case makeMap t r=>cases r<;>rfl
 case buildSlice t n ps=>
  have e:(ps.toList.map λp=>(p.1,ρ p.2))=ps.toList.map λp=>(p.1,y p.2):=
   List.map_congr_left λp hp=>by rw[h p.2 (List.mem_toArray.2 (List.mem_map.2 ⟨p,hp,rfl⟩))]
  simp only[alV];rw[e]
theorem JX {ρ ρ':Operand->Value}{op:Op}(h:∀x∈op.operands,ρ x=ρ' x):vu P ρ op=vu P ρ' op:=by
 cases op<;>simp only[Op.operands]at h<;>try rfl
 case call c=>
  simp only[vu];obtain⟨callee,args,F⟩:=c;cases callee with
  |value f=>
   have D:ρ f=ρ' f:=h f (by simp[Call.operands]);have y:args.toList.map ρ=args.toList.map ρ':=List.map_congr_left λx E=>h x (by simp[Call.operands];right;simpa using E);simp only[D,y]
  |_=>rfl
section
variable {P:Program} {ops:Array Oper} {md:Region.Mode} {w0:World}
def Ar (w0:World)(al:Al)(w:World):Prop:=Below w0.heap.size w0 w/\∀p∈al,p.firm/\p.at w
theorem Fa.keep {p:Fa}{w w':World}(E:p.firm)(h:p.at w)(D:Below w.heap.size w w'):p.at w':=by
 cases p with
 |al i k o=>
  have F:k<w.heap.size:=by
   rcases Nat.lt_or_ge k w.heap.size with y|y
   ·exact y
   ·have h1:w.heap[k]? =some o:=h;rw[Array.getElem?_eq_none y]at h1;cases h1
  exact(D.block _ F).trans h
 |rl i G=>exact E _ _ h D
theorem Ar.step {al:Al}{w w':World}(h:Ar w0 al w)(y:Below w.heap.size w w'):Ar w0 al w':=
 ⟨h.1.trans (y.mono h.1.size),λp hp=>⟨(h.2 p hp).1,Fa.keep (h.2 p hp).1 (h.2 p hp).2 y⟩⟩
theorem Ar.fresh {al:Al}(h:Ar w0 al w):∀p∈al,p.new w.heap.size:=by
 intro p hp;have h1:=(h.2 p hp).2;cases p with
 |al i k o=>
  intro e;have h1:w.heap[k]? =some o:=h1;rw[<- e,Array.getElem?_eq_none (Nat.le_refl _)]at h1;cases h1
 |rl i y=>trivial
theorem Ar.alloc {al:Al}(h:Ar w0 al w)(i:Nat)(obj:Obj):Ar w0 (.al i w.heap.size obj::al) (w.alloc obj):=by
 have h1:=h.step ((Below.refl w.heap.size w).alloc (Nat.le_refl _) obj);refine⟨h1.1,λp hp=>?_⟩;rcases List.mem_cons.1 hp with rfl|hp
 ·refine⟨trivial,?_⟩;show(w.heap.push obj)[w.heap.size]? =some obj;simp
 ·exact h1.2 p hp
theorem Ar.rel {al:Al}{w w':World}(h:Ar w0 al w)(E:Below w.heap.size w w'){y:World->Prop}(F:∀u D:World,y u->Below u.heap.size u D->y D)(G:y w'):Ar w0 (.rl i y::al) w':=by
 have h1:=h.step E;refine⟨h1.1,λp hp=>?_⟩;rcases List.mem_cons.1 hp with rfl|hp
 ·exact⟨F,G⟩
 ·exact h1.2 p hp
theorem Ih (al:Al)(n:Nat):∃k,n <=k/\∀p∈al,p.new k:=by
 have key:∀al:Al,∃m,∀k,m <=k->∀p∈al,p.new k:=by
  intro al;induction al with
  |nil=>exact⟨0,λk _ p hp=>by cases hp⟩
  |cons q r E=>
   obtain⟨m,y⟩:=E;cases q with
   |al i k o=>
    refine⟨max m (k+1),λk' D p hp=>?_⟩;rcases List.mem_cons.1 hp with rfl|hp
    ·show k'≠k;omega
    ·exact y k' (by omega) p hp
   |rl i F=>
    refine⟨m,λk' D p hp=>?_⟩;rcases List.mem_cons.1 hp with rfl|hp
    ·trivial
    ·exact y k' D p hp
 obtain⟨m,y⟩:=key al;exact⟨max m n,by omega,y _ (by omega)⟩
def lj (ops:Array Oper)(i:Nat):Nat->Nat->Bool
 |0,_=>false
 |f+1,j=>match ops[j]? with
  |none=>false
  |some oj=>oj.after.any λe=>Region.binds .any e&&(Nat.beq e.on i || lj ops i f e.on)
def Fs (ops:Array Oper)(al:Al)(j:Nat)(w:World):Prop:=∀p∈al,lj ops p.tag 6 j=true->p.at w
theorem Ar.fs {al:Al}(h:Ar w0 al w)(j:Nat):Fs ops al j w:=λp hp _=>(h.2 p hp).2
theorem Fs.sub {al al':Al}(y:∀p∈al,p∈al')(h:Fs ops al' j w):Fs ops al j w:=λp hp D=>h p (y p hp) D
def TC (P:Program)(o:Oper)(a:Act)(w0:World)(F:World->Prop)(v:Value):Prop:=∀w,Below w0.heap.size w0 w->F w->(execOp a.eval o).run P w=.ok (.value v) w
def Ti (P:Program)(o:Oper)(a:Act)(w0:World)(F:World->Prop)(v:Value):Prop:=
 ∃f args,vu P a.eval o.op=some (f,args)/\∀w,Below w0.heap.size w0 w->F w->Calls P f args w λe w'=>e=.returned v/\Below w.heap.size w w'
def ZM (P:Program)(o:Oper)(a:Act)(w0:World)(F:World->Prop)(p:Value->Prop)(Φ:Value->World->Prop):Prop:=
 ∃f args,vu P a.eval o.op=some (f,args)/\∀w,Below w0.heap.size w0 w->F w->Calls P f args w λe w'=>∃v,e=.returned v/\p v/\Φ v w'/\Below w.heap.size w w'
def YS (P:Program)(ops:Array Oper)(w0:World)(r:Nat->Bool)(al:Al)(i:Nat)(o:Oper)(v:Value)(a:Act):Prop:=
 Yields P ops o v a\/(r i=true/\Region.wanted o (yielded ops a.tmps)=true/\(TC P o a w0 (Fs ops al i) v\/Ti P o a w0 (Fs ops al i) v))
def NS (P:Program)(ops:Array Oper)(o:Oper)(obj:Obj)(mk:Nat->Value)(a:Act):Prop:=
 Region.wanted o (yielded ops a.tmps)=true/\alV P a.eval o.op=some (obj,mk)
def LS (P:Program)(ops:Array Oper)(w0:World)(al:Al)(i:Nat)(o:Oper)(p:Value->Prop)(Φ:Value->World->Prop)(a:Act):Prop:=
 Region.wanted o (yielded ops a.tmps)=true/\(∃v,p v)/\(∀v u u',Φ v u->Below u.heap.size u u'->Φ v u')/\ZM P o a w0 (Fs ops al i) p Φ
def sOp (P:Program)(ops:Array Oper)(w0:World)(r:Nat->Bool)(i:Nat)(next:Al->Act->Prop)(al:Al)(a:Act):Prop:=match ops[i]? with
 |none=>False
 |some o=>(∃v,YS P ops w0 r al i o v a/\next al (a.put o.dst v))\/
  (∃obj mk,NS P ops o obj mk a/\∀k,w0.heap.size <=k->(∀p∈al,p.new k)->next (.al i k obj::al) (a.put o.dst (mk k)))\/
  (r i=true/\∃p Φ,LS P ops w0 al i o p Φ a/\∀v,p v->next (.rl i (Φ v)::al) (a.put o.dst v))
theorem KQ {r:Nat->Bool}{a:Act}{al:Al}{K:Al->Act->Prop}{I:Act->World->Prop}{Q':Exit->Act->World->Prop}(y:Ar w0 al w)
 (h:∀al' J w',Ar w0 al' w'->K al' J->I J w') (E:sOp P ops w0 r i K al a):wpOp P ops Q' i I a w:=by
 unfold sOp at E;unfold wpOp;split at E
 ·exact E.elim
 ·rename_i o M;rw[M];simp only;rcases E with⟨v,((⟨D,h1⟩|⟨D,rfl⟩)|⟨_,D,h1⟩),h2⟩|⟨obj,mk,⟨D,h1⟩,h2⟩|⟨_,p,Φ,⟨D,_,hf,f,args,G,h1⟩,h2⟩
  ·rw[if_pos D];refine .inl ?_;unfold Oper.wp;rw[h1 w];exact h _ _ _ y h2
  ·rw[if_neg (by simp[D])];exact h _ _ _ y h2
  ·rw[if_pos D];refine .inl ?_;unfold Oper.wp;rcases h1 with h1|⟨f,args,G,h1⟩
   ·rw[h1 w y.1 (y.fs i)];exact h _ _ _ y h2
   ·rw[sA G];exact(h1 w y.1 (y.fs i)).mono λe w' ⟨H,F⟩=>by subst H;exact h _ _ _ (y.step F) h2
  ·rw[if_pos D];refine .inl ?_;unfold Oper.wp;rw[NQ h1];exact h _ _ _ (y.alloc i obj) (h2 _ y.1.size y.fresh)
  ·rw[if_pos D];refine .inl ?_;unfold Oper.wp;rw[sA G];exact(h1 w y.1 (y.fs i)).mono λe w' ⟨v,H,hp,O,F⟩=>by subst H;exact h _ _ _ (y.rel F (hf v) O) (h2 v hp)
theorem T4 (o:Oper)(a:Act)(y:Option Tmp)(v:Value)(h:∀d,y=some d->d∉o.looksAt ops):alV P (a.put y v).eval o.op=alV P a.eval o.op:=
 NP λx E=>Act.eval_put λd D F=>h d D (by
  subst F;exact mem_append_left _ (List.mem_filterMap.2 ⟨.tmp d,by simpa using E,rfl⟩))
theorem HW (o:Oper)(a:Act)(y:Option Tmp)(v:Value)(h:∀d,y=some d->d∉o.looksAt ops):vu P (a.put y v).eval o.op=vu P a.eval o.op:=
 JX λx E=>Act.eval_put λd D F=>h d D (by
  subst F;exact mem_append_left _ (List.mem_filterMap.2 ⟨.tmp d,by simpa using E,rfl⟩))
theorem HE {r:Nat->Bool}{al:Al}(D:∀cs b,o.op≠.select cs b)(a:Act)(y:Option Tmp)(u:Value)(h:∀d,y=some d->d∉o.looksAt ops){v:Value} :
 YS P ops w0 r al i o v (a.put y u)↔YS P ops w0 r al i o v a:=by
 unfold YS Yields TC Ti;rw[wanted_put o a y u h,execOp_put o D a y u h,HW o a y u h]
theorem Hw (a:Act)(y:Option Tmp)(u:Value)(h:∀d,y=some d->d∉o.looksAt ops){obj:Obj}{mk:Nat->Value} :
 NS P ops o obj mk (a.put y u)↔NS P ops o obj mk a:=by
 unfold NS;rw[wanted_put o a y u h,T4 o a y u h]
theorem Tc {al:Al}(a:Act)(y:Option Tmp)(u:Value)(h:∀d,y=some d->d∉o.looksAt ops){p:Value->Prop}:
 LS P ops w0 al i o p N (a.put y u)↔LS P ops w0 al i o p N a:=by
 unfold LS ZM;rw[wanted_put o a y u h,HW o a y u h]
theorem Tf {r:Nat->Bool}{al al':Al}{v:Value}{a:Act}(G:∀p∈al,lj ops p.tag 6 i=true->p∈al')(h:YS P ops w0 r al i o v a):YS P ops w0 r al' i o v a:=by
 rcases h with h|⟨F,h1,h|⟨f,args,H,I⟩⟩
 ·exact .inl h
 ·exact .inr ⟨F,h1,.inl λw D E=>h w D λp hp y=>E p (G p hp y) y⟩
 ·exact .inr ⟨F,h1,.inr ⟨f,args,H,λw D E=>I w D λp hp y=>E p (G p hp y) y⟩⟩
theorem Te {al al':Al}{p:Value->Prop}{a:Act}(J:∀p∈al,lj ops p.tag 6 i=true->p∈al')(h:LS P ops w0 al i o p N a):LS P ops w0 al' i o p N a:=by
 obtain⟨D,h1,I,f,args,E,F⟩:=h;exact⟨D,h1,I,f,args,E,λw H G=>F w H λp hp y=>G p (J p hp y) y⟩
end
section
variable {P:Program} {ops:Array Oper} {w0:World} {N:Act->World->Prop} {hd r:Nat->Bool} {g:Nat}
def Dt (N:Act->World->Prop):Exit->Act->World->Prop
 |.normal,a,w=>N a w
 |_,_,_=>False
def wpAnyS (P:Program)(ops:Array Oper)(w0:World)(N:Act->World->Prop)(hd r:Nat->Bool)(g:Nat):Nat->Array Bool->Al->Act->Prop
 |0,listed,al,a=>(∀j,hd j=true->listed.getD j true=true)/\∀w,Ar w0 al w->wpAny P .any ops (Dt N) g listed a w
 |f+1,listed,al,a=>Region.ready .any ops listed≠[]/\∀i∈Region.ready .any ops listed,
  (hd i=true/\sOp P ops w0 r i (wpAnyS P ops w0 N hd r g f (listed.setIfInBounds i true)) al a)\/
  (hd i=false/\∀w,Ar w0 al w->wpOp P ops (Dt N) i (wpAny P .any ops (Dt N) (f+g) (listed.setIfInBounds i true)) a w)
theorem nF:∀(f:Nat) (listed:Array Bool) (al:Al) (a:Act) (w:World),Ar w0 al w->wpAnyS P ops w0 N hd r g f listed al a->wpAny P .any ops (Dt N) (f+g) listed a w
 |0,listed,al,a,w,y,h=>by rw[Nat.zero_add];exact h.2 _ y
 |f+1,listed,al,a,w,y,h=>by
  rw[show f+1+g=(f+g)+1 by omega];refine⟨λF=>absurd F h.1,λi G=>?_⟩;rcases h.2 i G with⟨_,h1⟩|⟨_,h1⟩
  ·exact KQ y (λal' D w' H E=>nF f _ al' D w' H E) h1
  ·exact h1 w y
theorem Ar.al {al al':Al}(y:∀p,p∈al↔p∈al')(h:Ar w0 al' w):Ar w0 al w:=⟨h.1,λp hp=>h.2 p ((y p).1 hp)⟩
theorem xv:∀(f:Nat) (listed:Array Bool) (al al':Al) (a:Act),(∀p,p∈al↔p∈al')->wpAnyS P ops w0 N hd r g f listed al a->wpAnyS P ops w0 N hd r g f listed al' a
 |0,_,_,_,_,y,h=>⟨h.1,λw F=>h.2 w (F.al y)⟩
 |f+1,listed,al,al',a,y,h=>by
  refine⟨h.1,λi I=>?_⟩;rcases h.2 i I with⟨E,h1⟩|⟨E,h1⟩
  ·refine .inl ⟨E,?_⟩;unfold sOp at*;split
   ·simp_all
   ·rename_i o M;simp only[M]at h1;rcases h1 with⟨v,h1,D⟩|⟨obj,mk,h1,D⟩|⟨G,p,R,h1,D⟩
    ·exact .inl ⟨v,Tf (λp hp _=>(y p).1 hp) h1,xv f _ _ _ _ y D⟩
    ·exact .inr (.inl ⟨obj,mk,h1,λk J H=>xv f _ _ _ _ (λp=>by simp only[List.mem_cons,y p]) (D k J λp hp=>H p ((y p).1 hp))⟩)
    ·exact .inr (.inr ⟨G,p,R,Te (λp hp _=>(y p).1 hp) h1,λv O=>xv f _ _ _ _ (λp=>by simp only[List.mem_cons,y p]) (D v O)⟩)
  ·exact .inr ⟨E,λw F=>h1 w (F.al y)⟩
structure ClI (ops:Array Oper)(listed:Array Bool):Prop where
 size:listed.size=ops.size
 closed:∀j oj,ops[j]? =some oj->listed.getD j false=true->∀e∈oj.after,Region.binds .any e=true->listed.getD e.on false=true
theorem ClI.set (H:ClI ops K)(M:i∈Region.ready .any ops K):ClI ops (K.setIfInBounds i true):=by
 obtain⟨_,oi,O,J⟩:=mem_ready.1 M;refine⟨by simp[H.size],λj I F G e D y=>?_⟩;by_cases E:i=j
 ·subst E;have:I=oi:=Option.some.inj (F.symm.trans O);subst this;exact getD_set_true (J e D y)
 ·rw[getD_set_ne false E]at G;exact getD_set_true (H.closed j I F G e D y)
theorem C2 (I:ClI ops K)(H:K.getD i true=false):
 ∀(f j:Nat) (G:Oper),ops[j]? =some G->lj ops i f j=true->(∀e∈G.after,Region.binds .any e=true->K.getD e.on false=true)->False
 |0,_,_,_,h,_=>by cases h
 |f+1,j,G,Y,h,O=>by
  simp only[lj,Y]at h;obtain⟨e,U,D⟩:=Array.any_eq_true'.1 h;simp only[Bool.and_eq_true,Bool.or_eq_true]at D;have E:=O e U D.1;rcases D.2 with y|y
  ·rw[Nat.eq_of_beq_eq_true y,getD_both H]at E;cases E
  ·cases F:ops[e.on]? with
   |none=>cases f<;>simp[lj,F]at y
   |some J=>exact C2 I H f e.on J F y λM V R=>I.closed e.on J F E M V R
theorem QV (G:ClI ops K)(F:K.getD i true=false)(D:j∈Region.ready .any ops K):lj ops i 6 j=false:=by
 obtain⟨_,H,E,y⟩:=mem_ready.1 D;cases h:lj ops i 6 j with
 |false=>rfl
 |true=>exact(C2 G F _ j H E h y).elim
def Mw (ops:Array Oper)(hd:Nat->Bool)(i:Nat):Bool:=(List.range ops.size).all λj=>hd j || lj ops i 6 j
theorem sC (E:Mw ops hd i=true)(H:ClI ops K)(G:K.getD i true=false)(F:j∈Region.ready .any ops K):hd j=true:=by
 obtain⟨_,I,y,D⟩:=mem_ready.1 F;have h1:=List.all_eq_true.1 E j (List.mem_range.2 (Array.getElem?_eq_some_iff.1 y).1);rcases Bool.or_eq_true _ _▸h1 with h1|h1
 ·exact h1
 ·exact(C2 H G _ j I y h1 D).elim
theorem xw {v:Value}(J:ops[i]? =some o)(bt:Region.noSelect ops=true)(an:hd i=true):
 ∀(f:Nat) (listed:Array Bool) (al:Al) (a:Act),ClI ops listed->
  (∀j y,ops[j]? =some y->j≠i->listed.getD j true=false->(∀e∈y.after,Region.binds .any e=true->e.on≠i)->o.apart ops y=true)->
  i∈Region.ready .any ops listed->YS P ops w0 r al i o v a->(Mw ops hd i=true\/Yields P ops o v a)->
  wpAnyS P ops w0 N hd r g f (listed.setIfInBounds i true) al (a.put o.dst v)->wpAnyS P ops w0 N hd r g (f+1) listed al a:=by
 have V:=Region.noSelect_spec bt;intro f;induction f with
 |zero=>
  intro listed al a ac U D aa Z G;have I:=(mem_ready.1 D).1;refine⟨λh=>(by rw[h]at D;cases D),λj E=>?_⟩;by_cases F:j=i
  ·subst F;refine .inl ⟨an,?_⟩;unfold sOp;simp only[J];exact .inl ⟨v,aa,G⟩
  ·cases H:hd j with
   |true=>
    have h1:=G.1 j H;rw[getD_set_ne true (Ne.symm F),(mem_ready.1 E).1]at h1;cases h1
   |false=>
    rcases Z with R|O
    ·rw[sC R ac I E]at H;cases H
    ·refine .inr ⟨rfl,λw aj=>?_⟩;have:=wpAny_first J V (Q:=Dt N) (λc a w h=>h.elim) (0+g) listed a w U D O (by rw[Nat.zero_add];exact G.2 w aj);exact this.2 j E
 |succ f b0=>
  intro listed al a ac U D aa Z G;have I:=(mem_ready.1 D).1;refine⟨λh=>(by rw[h]at D;cases D),λj E=>?_⟩;by_cases F:j=i
  ·subst F;refine .inl ⟨an,?_⟩;unfold sOp;simp only[J];exact .inl ⟨v,aa,G⟩
  ·cases H:hd j with
   |false=>
    rcases Z with R|O
    ·rw[sC R ac I E]at H;cases H
    ·refine .inr ⟨rfl,λw aj=>?_⟩;have:=wpAny_first J V (Q:=Dt N) (λc a w h=>h.elim) (f+1+g) listed a w U D O (nF _ _ _ _ _ aj G);exact this.2 j E
   |true=>
    have h1:sOp P ops w0 r j (wpAnyS P ops w0 N hd r g f ((listed.setIfInBounds i true).setIfInBounds j true)) al (a.put o.dst v):=by
     rcases G.2 j (ready_mono E F)with⟨_,h1⟩|⟨h1,_⟩
     ·exact h1
     ·rw[H]at h1;cases h1
    obtain⟨a0,y,ag,a9⟩:=mem_ready.1 E;have bs:∀e∈y.after,Region.binds .any e=true->e.on≠i:=λe be bb heq=>by
     have h1:=a9 e be bb;rw[heq,getD_both I]at h1;cases h1
    obtain⟨a1,a2,a3⟩:=Oper.apart_spec (U j y ag F a0 bs);have bl:∀k Y,ops[k]? =some Y->k≠i->(listed.setIfInBounds j true).getD k true=false->
     (∀e∈Y.after,Region.binds .any e=true->e.on≠i)->o.apart ops Y=true:=λk Y af bp I bq=>by
     refine U k Y af bp ?_ bq;by_cases av:j=k
     ·subst av;exact a0
     ·rw[getD_set_ne true av]at I;exact I
    have keep:∀u,Mw ops hd i=true\/Yields P ops o v (a.put y.dst u):=λu=>by
     rcases Z with R|O
     ·exact .inl R
     ·exact .inr (O.of_same (execOp_put o (λcs b=>V i o cs b J) a y.dst u a3) (wanted_put o a y.dst u a3))
    have ad:∀al' u,(∀p∈al,p∈al')->wpAnyS P ops w0 N hd r g f ((listed.setIfInBounds i true).setIfInBounds j true) al' ((a.put o.dst v).put y.dst u)->
     wpAnyS P ops w0 N hd r g (f+1) (listed.setIfInBounds j true) al' (a.put y.dst u):=λal' u bu h=>by
     refine b0 (listed.setIfInBounds j true) al' _ (ac.set E) bl (ready_mono D (Ne.symm F)) (Tf (λp hp _=>bu p hp) ((HE (λcs b=>V i o cs b J) a y.dst u a3).2 aa)) (keep u) ?_;rw[<- Act.put_comm a v u a2,Array.setIfInBounds_comm _ _ F];exact h
    refine .inl ⟨rfl,?_⟩;unfold sOp at h1 ⊢;simp only[ag]at h1 ⊢;rcases h1 with⟨u,h1,M⟩|⟨obj,mk,h1,M⟩|⟨a8,p,b1,h1,M⟩
    ·exact .inl ⟨u,(HE (λcs b=>V j y cs b ag) a o.dst v a1).1 h1,ad _ _ (λp hp=>hp) M⟩
    ·exact .inr (.inl ⟨obj,mk,(Hw a o.dst v a1).1 h1,λk af bk=>ad _ _ (λp hp=>mem_cons_of_mem _ hp) (M k af bk)⟩)
    ·exact .inr (.inr ⟨a8,p,b1,(Tc a o.dst v a1).1 h1,λv' bw=>ad _ _ (λp hp=>mem_cons_of_mem _ hp) (M v' bw)⟩)
theorem Ml {v u:Value}{a:Act}(w0:World)(h:Yields P ops o v a)(D:Yields P ops o u a):v=u:=by
 rcases h with⟨E,h⟩|⟨E,rfl⟩
 ·rcases D with⟨_,D⟩|⟨y,_⟩
  ·have e:=(h w0).symm.trans (D w0);simp only[Result.ok.injEq,Next.value.injEq]at e;exact e.1
  ·rw[E]at y;cases y
 ·rcases D with⟨y,_⟩|⟨_,rfl⟩
  ·rw[E]at y;cases y
  ·rfl
theorem HF {v:Value}{a:Act}{obj:Obj}{mk:Nat->Value}(w0:World)(h:Yields P ops o v a)(y:NS P ops o obj mk a):False:=by
 obtain⟨E,y⟩:=y;rcases h with⟨D,h⟩|⟨D,rfl⟩
 ·have e:=(h w0).symm.trans (NQ y w0);simp only[Result.ok.injEq,Next.value.injEq]at e;have F:w0.heap.size=(w0.alloc obj).heap.size:=congrArg (λw:World=>w.heap.size) e.2;rw[World.size_alloc]at F;omega
 ·rw[D]at E;cases E
theorem T2 {al:Al}{v:Value}{a:Act}(y:r i=false)(h:YS P ops w0 r al i o v a):Yields P ops o v a:=by
 rcases h with h|⟨h,_⟩
 ·exact h
 ·rw[y]at h;cases h
theorem xx {X:Type}{D:Oper}(U:X->Fa)(val:X->Value)(F:X->Al->Prop)(S:Al->Act->Prop)
 (c3:ops[i]? =some D) (cc:Region.noSelect ops=true) (b4:hd i=true) (bq:Mw ops hd i=true) (c4:∀x,(U x).tag=i)
 (bs:∀al,∃x,F x al)
 (b9:∀x j k o al,F x (.al j k o::al)->F x al/\(U x).new k)
 (bp:∀al a next,S al a->(∀x,F x al->next (U x::al) (a.put D.dst (val x)))->sOp P ops w0 r i next al a)
 (cb:∀al al' a bk u,(∀d,bk=some d->d∉D.looksAt ops)->(∀p∈al,p∈al')->S al a->S al' (a.put bk u)):
 ∀(f:Nat) (listed:Array Bool) (al:Al) (a:Act),ClI ops listed->
  (∀j y,ops[j]? =some y->j≠i->listed.getD j true=false->(∀e∈y.after,Region.binds .any e=true->e.on≠i)->D.apart ops y=true)->
  (∀j y,ops[j]? =some y->j≠i->hd j=true->listed.getD j true=false->(∀e∈y.after,Region.binds .any e=true->e.on≠i)->lj ops i 6 j=false->r j=false)->
  i∈Region.ready .any ops listed->S al a->
  (∀x,F x al->wpAnyS P ops w0 N hd r g f (listed.setIfInBounds i true) (U x::al) (a.put D.dst (val x)))->wpAnyS P ops w0 N hd r g (f+1) listed al a:=by
 have cd:=Region.noSelect_spec cc;intro f;induction f with
 |zero=>
  intro listed al a ac _ _ J ag V;have E:=(mem_ready.1 J).1;refine⟨λh=>(by rw[h]at J;cases J),λj I=>.inl ?_⟩;have aa:=sC bq ac E I;by_cases G:j=i
  ·subst G;exact⟨b4,bp _ _ _ ag V⟩
  ·obtain⟨x,H⟩:=bs al;have h1:=(V x H).1 j aa;rw[getD_set_ne true (Ne.symm G),(mem_ready.1 I).1]at h1;cases h1
 |succ f cv=>
  intro listed al a ac bt bw J ag V;have E:=(mem_ready.1 J).1;refine⟨λh=>(by rw[h]at J;cases J),λj I=>.inl ?_⟩;have aa:=sC bq ac E I;refine⟨aa,?_⟩;by_cases G:j=i
  ·subst G;exact bp _ _ _ ag V
  ·have ch:=QV ac E I;obtain⟨aj,y,ad,b2⟩:=mem_ready.1 I;have b0:∀e∈y.after,Region.binds .any e=true->e.on≠i:=λe b5 b3 heq=>by
    have h1:=b2 e b5 b3;rw[heq,getD_both E]at h1;cases h1
   obtain⟨a1,a2,a3⟩:=Oper.apart_spec (bt j y ad G aj b0);have af:=bw j y ad G aa aj b0 ch;have be:∀k:Nat,(listed.setIfInBounds j true).getD k true=false->listed.getD k true=false:=λk E=>by
    by_cases bu:j=k
    ·subst bu;exact aj
    ·rw[getD_set_ne true bu]at E;exact E
   have bl:∀al' u,(∀p∈al,p∈al')->(∀x,F x al'->wpAnyS P ops w0 N hd r g f ((listed.setIfInBounds i true).setIfInBounds j true) (U x::al') ((a.put D.dst (val x)).put y.dst u))->
    wpAnyS P ops w0 N hd r g (f+1) (listed.setIfInBounds j true) al' (a.put y.dst u):=λal' u cf h=>by
    refine cv (listed.setIfInBounds j true) al' _ (ac.set I) (λk F an av E a0=>bt k F an av (be k E) a0)
     (λk F an av b8 E a0=>bw k F an av b8 (be k E) a0) (ready_mono J (Ne.symm G)) (cb al al' a y.dst u a3 cf ag) λx H=>?_
    rw[<- Act.put_comm a (val x) u a2,Array.setIfInBounds_comm _ _ G];exact h x H
   have h1:∀x,F x al->sOp P ops w0 r j (wpAnyS P ops w0 N hd r g f ((listed.setIfInBounds i true).setIfInBounds j true)) (U x::al) (a.put D.dst (val x)):=
    λx H=>by
     rcases(V x H).2 j (ready_mono I G)with⟨_,h1⟩|⟨h1,_⟩
     ·exact h1
     ·rw[aa]at h1;cases h1
   have a9:r j=true->False:=λh=>by rw[af]at h;cases h
   obtain⟨bb,cl⟩:=bs al;have M:=h1 bb cl;have a8:=λcs b=>cd j y cs b ad;unfold sOp at h1 M ⊢;simp only[ad]at h1 M ⊢;rcases M with⟨u,M,_⟩|⟨b1,mk',M,_⟩|⟨Y,_⟩
   ·have O:=T2 af ((HE a8 a D.dst (val bb) a1).1 M);refine .inl ⟨u,.inl O,bl _ _ (λp hp=>hp) λx H=>?_⟩;rcases h1 x H with⟨c2,R,Z⟩|⟨b1,mk',R,Z⟩|⟨Y,_⟩
    ·have e:=Ml w0 (T2 af ((HE a8 a D.dst (val x) a1).1 R)) O;subst e;exact Z
    ·exact(HF w0 O ((Hw a D.dst (val x) a1).1 R)).elim
    ·exact(a9 Y).elim
   ·have O:=(Hw a D.dst (val bb) a1).1 M;refine .inr (.inl ⟨b1,mk',O,λk' b7 b6=>bl _ _ (λp hp=>mem_cons_of_mem _ hp) λx H=>?_⟩);obtain⟨cn,cp⟩:=b9 _ _ _ _ _ H;rcases h1 x cn with⟨c2,R,Z⟩|⟨c8,mk'',R,Z⟩|⟨Y,_⟩
    ·exact(HF w0 (T2 af ((HE a8 a D.dst (val x) a1).1 R)) O).elim
    ·have e:=O.2.symm.trans ((Hw a D.dst (val x) a1).1 R).2;simp only[Option.some.injEq,Prod.mk.injEq]at e;obtain⟨rfl,rfl⟩:=e;refine xv f _ _ _ _ (λp=>?_) (Z k' b7 λp hp=>?_)
     ·simp only[List.mem_cons];constructor<;>(intro h;rcases h with h|h|h<;>simp[h])
     ·rcases List.mem_cons.1 hp with rfl|hp
      ·exact cp
      ·exact b6 p hp
    ·exact(a9 Y).elim
   ·exact(a9 Y).elim
def Rr (ops:Array Oper)(hd r:Nat->Bool)(i:Nat)(listed:Array Bool):Bool:=
 (List.range ops.size).all λj=>Nat.beq j i || !hd j || listed.getD j true || Region.waitsFor .any ops j i || lj ops i 6 j || !r j
def YW (ops:Array Oper)(i:Nat):Bool:=match ops[i]? with
 |some o=>ZJ o.op
 |none=>false
def OX (ops:Array Oper)(hd r m:Nat->Bool):List Nat->Array Bool->Bool
 |[],listed=>(List.range ops.size).all (λj=> !hd j || listed.getD j true)
 |i::l,listed=>hd i&&(Region.ready .any ops listed).contains i&&Region.free .any ops listed i&&(!(YW ops i || m i) || Rr ops hd r i listed)&&OX ops hd r m l (listed.setIfInBounds i true)
def Yb:List Nat->Nat->Bool
 |[],_=>false
 |x::l,i=>Nat.beq x i || Yb l i
def Yo:List Nat->Array Bool->Array Bool
 |[],l=>l
 |i::r,l=>Yo r (l.setIfInBounds i true)
def Yj (ops:Array Oper)(r m:Nat->Bool)(ord:List Nat):Bool:=
 Region.noSelect ops&&Nat.ble ord.length ops.size&&OX ops (Yb ord) r m ord (Array.replicate ops.size false)
def M7:List (Tmp×Sh)->Nat->Bool
 |[],_=>false
 |(k,.one .slice)::l,i=>Nat.beq k i || M7 l i
 |_::l,i=>M7 l i
def rOf (ops:Array Oper)(m:Nat->Bool):List Nat->Nat->Bool
 |[],_=>false
 |i::l,j=>Nat.beq i j || ((!(YW ops i || m i) || lj ops i 6 j)&&rOf ops m l j)
theorem EQ (h:Rr ops hd r i K=true):∀j oj,ops[j]? =some oj->j≠i->hd j=true->K.getD j true=false->(∀e∈oj.after,Region.binds .any e=true->e.on≠i)->lj ops i 6 j=false->r j=false:=by
 intro j oj D G H O I V;have h1:=List.all_eq_true.1 h j (List.mem_range.2 (Array.getElem?_eq_some_iff.1 D).1);have y:Nat.beq j i=false:=by cases y:Nat.beq j i<;>first|rfl|exact absurd (Nat.eq_of_beq_eq_true y) G
 have U:Region.waitsFor .any ops j i=false:=by
  cases R:Region.waitsFor .any ops j i with
  |false=>rfl
  |true=>
   obtain⟨Y,J,e,F,E,M⟩:=Region.waitsFor_spec R;have:Y=oj:=Option.some.inj (J.symm.trans D);subst this;exact absurd M (I e F E)
 simpa[y,O,U,H,V]using h1
def NC (m:Nat->Bool)(P:Program)(ops:Array Oper)(hd r:Nat->Bool)(w0:World)(Q:Al->Act->Prop):List Nat->Al->Act->Prop
 |[],al,a=>Q al a
 |i::l,al,a=>match Mw ops hd i with
  |true=>match ops[i]? with
   |none=>False
   |some o=>(∃v,YS P ops w0 r al i o v a/\NC m P ops hd r w0 Q l al (a.put o.dst v))\/
    (∃obj mk,NS P ops o obj mk a/\∀k,w0.heap.size <=k->(∀p∈al,p.new k)->NC m P ops hd r w0 Q l (.al i k obj::al) (a.put o.dst (mk k)))\/
    (r i=true/\m i=true/\∃p Φ,LS P ops w0 al i o p Φ a/\∀v,p v->NC m P ops hd r w0 Q l (.rl i (Φ v)::al) (a.put o.dst v))
  |false=>∃o v,ops[i]? =some o/\Yields P ops o v a/\NC m P ops hd r w0 Q l al (a.put o.dst v)
theorem oF {m:Nat->Bool}{ac:Al->Act->Prop}(F:Region.noSelect ops=true):
 ∀(l:List Nat) (listed:Array Bool) (al:Al) (a:Act),(∀al a,ac al a->∀w,Ar w0 al w->wpAny P .any ops (Dt N) g (Yo l listed) a w)->ClI ops listed->OX ops hd r m l listed=true->NC m P ops hd r w0 ac l al a->
 wpAnyS P ops w0 N hd r g l.length listed al a
 |[],listed,al,a,H,D,J,h=>by
  simp only[OX]at J;refine⟨λj an=>?_,H _ _ h⟩;rcases Nat.lt_or_ge j ops.size with av|aj
  ·have h1:=List.all_eq_true.1 J j (List.mem_range.2 av);simpa[an]using h1
  ·have:listed.size <=j:=by rw[D.size];exact aj
   simp[Array.getElem?_eq_none this]
 |i::l,listed,al,a,H,D,J,h=>by
  simp only[OX,Bool.and_eq_true]at J;obtain⟨⟨⟨⟨O,a8⟩,I⟩,af⟩,M⟩:=J;have E:i∈Region.ready .any ops listed:=by simpa using a8
  simp only[NC]at h;split at h
  ·rename_i Y;split at h
   ·exact h.elim
   ·rename_i o y;rcases h with⟨v,h1,G⟩|⟨obj,mk,h1,G⟩|⟨ag,a0,p,aa,h1,G⟩
    ·exact xw y F O l.length listed al a D (Region.free_spec y I) E h1 (.inl Y) (oF F l _ _ _ H (D.set E) M G)
    ·have V:Rr ops hd r i listed=true:=by
      simpa[YW,y,Rg h1.2]using af
     exact xx (X:=Nat) (λk=>.al i k obj) mk (λk al=>w0.heap.size <=k/\∀p∈al,p.new k) (λ_ a=>NS P ops o obj mk a) y F O Y (λ_=>rfl)
      (λal=>Ih al _) (λx j k bk al h=>⟨⟨h.1,λp hp=>h.2 p (mem_cons_of_mem _ hp)⟩,Ne.symm (h.2 _ mem_cons_self)⟩)
      (λal a next h Z=>by unfold sOp;simp only[y];exact .inr (.inl ⟨obj,mk,h,λk R I=>Z k ⟨R,I⟩⟩))
      (λal al' a U u hd _ h=>(Hw a U u hd).2 h)
      l.length listed al a D (Region.free_spec y I) (EQ V) E h1
      λk R=>oF F l _ _ _ H (D.set E) M (G k R.1 R.2)
    ·have V:Rr ops hd r i listed=true:=by
      simpa[a0]using af
     obtain⟨bl,be⟩:=h1.2.1;exact xx (X:=Value) (λv=>.rl i (aa v)) (λv=>v) (λv _=>p v) (λal a=>LS P ops w0 al i o p aa a) y F O Y (λ_=>rfl)
      (λ_=>⟨bl,be⟩) (λx j k bk al h=>⟨h,trivial⟩)
      (λal a next h Z=>by unfold sOp;simp only[y];exact .inr (.inr ⟨ag,p,aa,h,Z⟩))
      (λal al' a U u hd a9 h=>Te (λp hp _=>a9 p hp) ((Tc a U u hd).2 h))
      l.length listed al a D (Region.free_spec y I) (EQ V) E h1
      λv bb=>oF F l _ _ _ H (D.set E) M (G v bb)
  ·obtain⟨o,v,y,ad,G⟩:=h;exact xw y F O l.length listed al a D (Region.free_spec y I) E (.inl ad) (.inr ad) (oF F l _ _ _ H (D.set E) M G)
theorem Hr {m:Nat->Bool}{id:Nat}{a:Act}(y:List Nat)(J:P.follows .mixedOrders=true)(D:Yj ops r m y=true)
 (h:NC m P ops (Yb y) r w (λal G=>∀w',Ar w al w'->wpAny P .any ops (Dt N) (ops.size-y.length) (Yo y (Array.replicate ops.size false)) G w') y [] a):
 (Code.region id ops true).wp P (Dt N) a w:=by
 simp only[Yj,Bool.and_eq_true]at D;obtain⟨⟨M,I⟩,H⟩:=D;have R:y.length <=ops.size:=Nat.le_of_ble_eq_true I;have O:ClI ops (Array.replicate ops.size false):=⟨by simp,λj U _ E=>(by rw[getD_replicate_false]at E;cases E)⟩
 have F:=oF (P:=P) (w0:=w) (N:=N) M y _ _ a (λal a h=>h) O H h;refine wp_region_any J ?_;have:=nF _ _ _ _ { w with drawn:=w.drawn+1 } ⟨(Below.refl _ w).drew,λp hp=>by cases hp⟩ F;rw[show y.length+(ops.size-y.length)=ops.size by omega]at this;exact this
end
def rz (ops:Array Oper)(al:Al)(i:Nat):Al:=match al with
 |[]=>[]
 |p::l=>bif lj ops p.tag 6 i then p::rz ops l i else rz ops l i
theorem lN {ops:Array Oper}:∀{al:Al},Fs ops al i w->∀p∈rz ops al i,p.at w
 |[],_,p,hp=>by cases hp
 |q::l,h,p,hp=>by
  simp only[rz]at hp;have D:Fs ops l i w:=λp hp=>h p (mem_cons_of_mem _ hp);cases y:lj ops q.tag 6 i with
  |false=>rw[y]at hp;exact lN D p hp
  |true=>
   rw[y]at hp;rcases List.mem_cons.1 hp with rfl|hp
   ·exact h _ mem_cons_self y
   ·exact lN D p hp
def T6 (w0:World)(al:Al)(c:Prop):Prop:=match al with
 |[]=>c
 |al=>∀w1,Below w0.heap.size w0 w1->yH al w1 c
theorem Rh {w0:World}{al:Al}{c:Prop}(h:T6 w0 al c):∀w,Below w0.heap.size w0 w->(∀p∈al,p.at w)->c:=by
 intro w y hp;unfold T6 at h;split at h
 ·exact h
 ·exact mn (h w y) hp
theorem T5 {s:S0}{K:Value->Prop}(h:V5 s K):∀v,ex0 s (λu=>v=u)->K v:=by
 intro v y;cases s<;>simp only[ex0]at y<;>(first|(obtain⟨_,rfl⟩:=y;exact h _)|(obtain⟨_,_,_,rfl⟩:=y;exact h _ _ _))
theorem RM (s:S0):∃v,ex0 s (λu=>v=u):=by
 cases s<;>simp only[ex0]
 ·exact⟨_,0,rfl⟩
 ·exact⟨_,true,rfl⟩
 ·exact⟨_,[],rfl⟩
 ·exact⟨_,none,0,0,rfl⟩
 ·exact⟨_,none,rfl⟩
 ·exact⟨_,none,rfl⟩
 ·exact⟨undef,undef,rfl⟩
theorem WF {s:S0}{A:Value->Prop}(h:ex0 s A):∃v,ex0 s (λu=>v=u)/\A v:=by
 cases s<;>simp only[ex0]at h ⊢<;>(first|(obtain⟨x,h⟩:=h;exact⟨_,⟨x,rfl⟩,h⟩)|(obtain⟨x,y,z,h⟩:=h;exact⟨_,⟨x,y,z,rfl⟩,h⟩))
def ZL (P:Program)(w0:World)(i:Nat)(t:TypeId)(f:FuncId)(args:Array Value)(fs al:Al)(K:Al->Value->Prop):Prop:=match shT P t with
 |[.one s]=>∃J:F0 s (World->Prop),(V5 s λv=>∀u u':World,ap0 (λ_=>False) s J v u->Below u.heap.size u u'->ap0 (λ_=>False) s J v u')/\
  (∀w1:World,Below w0.heap.size w0 w1->yH fs w1 (Calls P f args w1 λe w2=>ex0 s λv=>e=.returned v/\ap0 (λ_=>False) s J v w2/\Below w1.heap.size w1 w2))/\
  V5 s λv=>K (.rl i (ap0 (λ_=>False) s J v)::al) v
 |_=>False
def Yv (P:Program)(n:Nat)(w0:World)(core rd rel:Bool)(ops:Array Oper)(i:Nat)(o:Oper)(al:Al)(a:Fr)(K:Al->Fr->Prop):Prop:=
 match pv P (evF a) o.op with
 |some (.val v)=>nmK o.op v λv=>K al (iS n a o.dst v)
 |some (.part c v)=>match core&&rd with
  |true=>T6 w0 (rz ops al i) c/\nmK o.op v λv=>K al (iS n a o.dst v)
  |false=>c/\nmK o.op v λv=>K al (iS n a o.dst v)
 |none=>match core with
  |false=>False
  |true=>match alV P (evF a) o.op with
   |some (obj,mk)=>∀k:Nat,w0.heap.size <=k->Sc al k (K (.al i k obj::al) (iS n a o.dst (mk k)))
   |none=>match rd with
    |false=>False
    |true=>match VD P (evF a) o with
     |some (.rd s)=>exR (Yp P o) λv=>(∀w1,Below w0.heap.size w0 w1->yH (rz ops al i) w1 (s.run P w1=.ok v w1))/\K al (iS n a o.dst v)
     |some _=>False
     |none=>match vu P (evF a) o.op with
      |some (f,args)=>match rel with
       |false=>exR (shT P o.type) λv=>(∀w1,Below w0.heap.size w0 w1->yH (rz ops al i) w1 (Calls P f args w1 λe w2=>e=.returned v/\Below w1.heap.size w1 w2))/\K al (iS n a o.dst v)
       |true=>ZL P w0 i o.type f args (rz ops al i) al λal v=>K al (iS n a o.dst v)
      |none=>False
def WS (P:Program)(n:Nat)(w0:World)(hd r m:Nat->Bool)(ops:Array Oper)(K:Al->Fr->Prop):List Nat->Al->Fr->Prop
 |[],al,a=>K al a
 |i::rest,al,a=>match ops[i]? with
  |none=>False
  |some o=>WG n ops o.guard a (λa=>Yv P n w0 (Mw ops hd i) (r i) (m i) ops i o al a (WS P n w0 hd r m ops K rest)) (λa=>WS P n w0 hd r m ops K rest al (iS n a o.dst undef))
theorem TW {w0:World}{r m:Nat->Bool}{ops:Array Oper}{al:Al}{fr:Fr}{a:Act}{K:Al->Fr->Prop}{G:Al->Act->Prop}(F:Region.wanted o (yielded ops a.tmps)=true)(ag:Rep n fr a)(h:Yv P n w0 I (r i) (m i) ops i o al fr K)
 (D:∀al v,K al (iS n fr o.dst v)->G al (a.put o.dst v)):
 (∃v,Yields P ops o v a/\G al (a.put o.dst v))\/I=true/\((∃v,YS P ops w0 r al i o v a/\G al (a.put o.dst v))\/(∃obj mk,NS P ops o obj mk a/\∀k,w0.heap.size <=k->(∀p∈al,p.new k)->G (.al i k obj::al) (a.put o.dst (mk k)))\/
  (r i=true/\m i=true/\∃p Y,LS P ops w0 al i o p Y a/\∀v,p v->G (.rl i (Y v)::al) (a.put o.dst v))):=by
 unfold Yv at h;rw[<- ag.eval]at h;split at h
 ·rename_i v hp;exact .inl ⟨v,.inl ⟨F,λw=>BK hp trivial w⟩,D _ _ (rE h)⟩
 ·rename_i c v hp;split at h
  ·rename_i H;simp only[Bool.and_eq_true]at H;exact .inr ⟨H.1,.inl ⟨v,.inr ⟨H.2,F,.inl λw E y=>BK hp (Rh h.1 w E (lN y)) w⟩,D _ _ (rE h.2)⟩⟩
  ·exact .inl ⟨v,.inl ⟨F,λw=>BK hp h.1 w⟩,D _ _ (rE h.2)⟩
 ·split at h
  ·cases h
  ·refine .inr ⟨rfl,?_⟩;split at h
   ·rename_i obj mk aa;exact .inr (.inl ⟨obj,mk,⟨F,aa⟩,λk af y=>D _ _ (Gp (h k af) y)⟩)
   ·split at h
    ·cases h
    ·rename_i O;split at h
     ·rename_i s an;obtain⟨v,J,h⟩:=jQ h;exact .inl ⟨v,.inr ⟨O,F,.inl λw E y=>by rw[yn an,RW.next,iz (mn (J w E) (lN y))]⟩,D _ _ h⟩
     ·cases h
     ·split at h
      ·rename_i f args U;split at h
       ·obtain⟨v,J,h⟩:=jQ h;exact .inl ⟨v,.inr ⟨O,F,.inr ⟨f,args,U,λw E y=>mn (J w E) (lN y)⟩⟩,D _ _ h⟩
       ·rename_i aj;unfold ZL at h;split at h
        ·rename_i s _;obtain⟨R,y,J,h⟩:=h;have ac:=JQ (d:=λ_=>False) (s:=s) (f:=R) (K:=λt _=>∀u V:World,t u->Below u.heap.size u V->t V) y (λ_ _ _ h _=>h.elim);refine .inr (.inr ⟨O,aj,λv=>ex0 s (λu=>v=u),λv=>ap0 (λ_=>False) s R v,⟨F,RM s,ac,f,args,U,λw E Z=>?_⟩,λv hp=>D _ _ (T5 h v hp)⟩);refine(mn (J w E) (lN Z)).mono λe av M=>?_;obtain⟨v,hp,M,ad,H⟩:=WF M;exact⟨v,M,hp,ad,H⟩
        ·cases h
      ·cases h
theorem TY {w0:World}{D r m:Nat->Bool}{ops:Array Oper}{Q:Al->Act->Prop} :∀{l:List Nat} {K:Al->Fr->Prop} {al:Al} {fr:Fr} {a:Act},Rep n fr a->WS P n w0 D r m ops K l al fr->
 (∀al' I y,Rep n I y->cJ (yD ops.toList) a y->K al' I->Q al' y)->NC m P ops D r w0 Q l al a
 |[],K,al,fr,a,R,h,E=>E _ _ _ R (cJ.refl _ _) h
 |i::rest,K,al,fr,a,R,h,E=>by
  unfold WS at h;split at h
  ·cases h
  ·rename_i o F;have Y:∀t,o.dst=some t->t∈yD ops.toList:=λt ac=>by
    simp only[yD,List.mem_filterMap];exact⟨o,by have:=Array.mem_of_getElem? F;simpa using this,ac⟩
   have pure:(∃v,Yields P ops o v a/\NC m P ops D r w0 Q rest al (a.put o.dst v))->NC m P ops D r w0 Q (i::rest) al a:=by
    rintro⟨v,hY,h2⟩;simp only[NC];split
    ·simp only[F];exact .inl ⟨v,.inl hY,h2⟩
    ·exact⟨o,v,F,hY,h2⟩
   obtain⟨I,U,⟨V,h⟩|⟨V,h⟩⟩:=Hz R h
   ·rcases TW V U h λal' v Z=>TY (U.put o.dst v) Z λG H y M J O=>E G H y M ((cJ.put a o.dst v Y).trans J) O with h1|⟨aa,h1⟩
    ·exact pure h1
    ·simp only[NC,aa,F];exact h1
   ·exact pure ⟨undef,.inr ⟨V,rfl⟩,TY (U.put o.dst _) h λG H y M J O=>E G H y M ((cJ.put a o.dst _ Y).trans J) O⟩
def Rz (f:Nat->Prop):List Nat->Prop
 |[]=>True
 |[i]=>f i
 |i::l=>f i/\Rz f l
theorem AJ {f:Nat->Prop} :∀{l:List Nat},Rz f l->∀i∈l,f i
 |[],_,_,h=>by cases h
 |[j],h,i,y=>by simp at y;subst y;exact h
 |j::k::l,h,i,y=>by
  rcases List.mem_cons.1 y with rfl|y
  ·exact h.1
  ·exact AJ h.2 i y
def takes (P:Program)(ops:Array Oper)(listed:Array Bool)(a:Fr)(i:Nat):Bool:=match ops[i]? with
 |some o=>(pv P (evF a) o.op).isSome&&Region.free .any ops listed i
 |none=>false
def WPV (r:Option PV)(K:Value->Prop):Prop:=match r with
 |some (.val v)=>K v
 |some (.part c v)=>c/\K v
 |none=>False
def WA (P:Program)(n:Nat)(ops:Array Oper)(K:Fr->World->Prop):Nat->Array Bool->Fr->World->Prop
 |0,listed,a,w=>match Region.ready .any ops listed with
  |[]=>K a w
  |_=>False
 |fuel+1,listed,a,w=>match Region.ready .any ops listed with
  |[]=>K a w
  |l=>match l.find? (takes P ops listed a)with
   |some i=>match ops[i]? with
    |none=>False
    |some o=>WG n ops o.guard a (λa=>WPV (pv P (evF a) o.op) λv=>nmK o.op v λv=>WA P n ops K fuel (listed.setIfInBounds i true) (iS n a o.dst v) w) (λa=>WA P n ops K fuel (listed.setIfInBounds i true) (iS n a o.dst undef) w)
   |none=>Rz (λi=>match ops[i]? with
    |none=>False
    |some o=>WG n ops o.guard a (λa=>WOp P n o a (WA P n ops K fuel (listed.setIfInBounds i true)) w) (λa=>WA P n ops K fuel (listed.setIfInBounds i true) (iS n a o.dst undef) w)) l
theorem eh {ops:Array Oper}(h:ops[i]? =some o):∀t,o.dst=some t->t∈yD ops.toList:=by
 intro t y;simp only[yD,List.mem_filterMap];exact⟨o,by have:=Array.mem_of_getElem? h;simpa using this,y⟩
theorem JP {ops:Array Oper}{K:Fr->World->Prop}{N:Act->World->Prop}(O:Region.noSelect ops=true):∀{fuel:Nat} {listed:Array Bool} {fr:Fr} {a:Act} {w:World},Rep n fr a->WA P n ops K fuel listed fr w->
 (∀Z y w',Rep n Z y->cJ (yD ops.toList) a y->K Z w'->N y w')->wpAny P .any ops (Dt N) fuel listed a w
 |0,listed,fr,a,w,V,h,J=>by
  unfold WA at h;unfold wpAny;split at h
  ·rename_i Y;exact⟨Y,J _ _ _ V (cJ.refl _ _) h⟩
  ·cases h
 |fuel+1,listed,fr,a,w,V,h,J=>by
  unfold WA at h;split at h
  ·rename_i Y;unfold wpAny;refine⟨λ_=>J _ _ _ V (cJ.refl _ _) h,λi aa=>?_⟩;rw[Y]at aa;cases aa
  ·rename_i ag;split at h
   ·rename_i i D;have ad:=List.mem_of_find?_eq_some D;have ac:=List.find?_some D;split at h
    ·cases h
    ·rename_i o E;simp only[takes,E,Bool.and_eq_true]at ac;obtain⟨Z,M,⟨R,h⟩|⟨R,h⟩⟩:=Hz V h
     ·unfold WPV at h;rw[<- M.eval]at h;split at h
      ·rename_i v hp;exact wpAny_take E O ac.2 (by simpa using ad) (λc a w U=>U.elim) (.inl ⟨R,λw=>BK hp trivial w⟩)
        (JP O (M.put o.dst v) (rE h) λF y I D G H=>J F y I D ((cJ.put a o.dst v (eh E)).trans G) H)
      ·rename_i c v hp;exact wpAny_take E O ac.2 (by simpa using ad) (λc a w U=>U.elim) (.inl ⟨R,λw=>BK hp h.1 w⟩)
        (JP O (M.put o.dst v) (rE h.2) λF y I D G H=>J F y I D ((cJ.put a o.dst v (eh E)).trans G) H)
      ·cases h
     ·exact wpAny_take E O ac.2 (by simpa using ad) (λc a w U=>U.elim) (.inr ⟨R,rfl⟩)
       (JP O (M.put o.dst _) h λF y I D G H=>J F y I D ((cJ.put a o.dst _ (eh E)).trans G) H)
   ·unfold wpAny;refine⟨λY=>absurd Y ag,λi aa=>?_⟩;have h1:=AJ h i aa;unfold wpOp;split at h1
    ·cases h1
    ·rename_i o E;rw[E];simp only;obtain⟨Z,M,⟨R,h⟩|⟨R,h⟩⟩:=Hz V h1
     ·rw[if_pos R];exact .inl (HC M h λv w' af=>JP O (M.put o.dst v) af λF y I D G H=>J F y I D ((cJ.put a o.dst v (eh E)).trans G) H)
     ·rw[if_neg (by simp[R])];exact JP O (M.put o.dst _) h λF y I D G H=>J F y I D ((cJ.put a o.dst _ (eh E)).trans G) H
section
variable {P:Program} {ops:Array Oper} {Q:Exit->Act->World->Prop} {md:Region.Mode} {S:World->Prop} {nd:Nat->Bool}
def sx (P:Program)(md:Region.Mode)(ops:Array Oper)(Q:Exit->Act->World->Prop)(S:World->Prop)(nd:Nat->Bool):Nat->Array Bool->Act->World->Prop
 |0,listed,a,w=>Region.ready md ops listed=[]/\Q .normal a w
 |fuel+1,listed,a,w=>(Region.ready md ops listed=[]->Q .normal a w)/\
  ∀i∈Region.ready md ops listed,wpOp P ops Q i (λa' w'=>(nd i=true->S w->S w')/\sx P md ops Q S nd fuel (listed.setIfInBounds i true) a' w') a w
theorem yz:∀(fuel:Nat) (listed:Array Bool) (a:Act) (w:World),sx P md ops Q S nd fuel listed a w->wpAny P md ops Q fuel listed a w
 |0,_,_,_,h=>h
 |fuel+1,_,_,_,h=>⟨h.1,λi E=>wpOp_mono (λy w' D=>yz fuel _ y w' D.2) (h.2 i E)⟩
theorem Kb (D:i∈Region.ready md ops K)(h1:K.getD i false=true):False:=by
 have y:=(mem_ready.1 D).1;rw[getD_both y]at h1;cases h1
theorem JI {F:Oper}{v:Value}(Y:ops[i]? =some F)(ag:∀(j:Nat) (o:Oper) cs b,ops[j]? =some o->o.op≠.select cs b)
 (a0:∀c a w,Q (.panic c) (a.put F.dst v) w->Q (.panic c) a w) (be:∀j y,ops[j]? =some y->j≠i->nd j=false->∃e∈y.after,Region.binds md e=true/\e.on=i):
 ∀(fuel:Nat) (listed:Array Bool) (a:Act) (w:World),
  (∀j y,ops[j]? =some y->j≠i->listed.getD j true=false->(∀e∈y.after,Region.binds md e=true->e.on≠i)->F.apart ops y=true)->
  i∈Region.ready md ops listed->YieldsIf P ops S F v a->S w->
  sx P md ops Q S nd fuel (listed.setIfInBounds i true) (a.put F.dst v) w->sx P md ops Q S nd (fuel+1) listed a w:=by
 intro fuel;induction fuel with
 |zero=>
  intro listed a w _ E R J G;refine⟨λh=>(by rw[h]at E;cases E),λj M=>?_⟩;by_cases D:j=i
  ·subst D;exact R.wpOp Y J ⟨λ_ h=>h,G⟩
  ·have:=ready_mono M D;rw[G.1]at this;cases this
 |succ fuel bp=>
  intro listed a w ac E R J G;refine⟨λh=>(by rw[h]at E;cases E),λj M=>?_⟩;by_cases D:j=i
  ·subst D;exact R.wpOp Y J ⟨λ_ h=>h,G⟩
  ·have h1:=G.2 j (ready_mono M D);obtain⟨af,y,O,aa⟩:=mem_ready.1 M;cases Z:nd j with
   |false=>
    obtain⟨e,V,U,heq⟩:=be j y O D Z;exact(Kb E (by rw[<- heq];exact aa e V U)).elim
   |true=>
    have bl:∀e∈y.after,Region.binds md e=true->e.on≠i:=λe V U heq=>Kb E (by rw[<- heq];exact aa e V U);have av:=wpOp_putIf O (ac j y O D af bl) (λcs b=>ag i F cs b Y) (λcs b=>ag j y cs b O) a0 R h1;have a8:∀k H,ops[k]? =some H->k≠i->(listed.setIfInBounds j true).getD k true=false->
     (∀e∈H.after,Region.binds md e=true->e.on≠i)->F.apart ops H=true:=λk H a9 bb aj bk=>by
     refine ac k H a9 bb ?_ bk;by_cases ad:j=k
     ·subst ad;exact af
     ·rw[getD_set_ne true ad]at aj;exact aj
    refine wpOp_mono (λan w' I=>⟨λ_=>I.2.1 Z,bp (listed.setIfInBounds j true) an w' a8 (ready_mono E (Ne.symm D)) I.1 (I.2.1 Z J) ?_⟩) av;rw[Array.setIfInBounds_comm _ _ D];exact I.2.2
theorem vo {E:Oper}{v:Value}(O:ops[i]? =some E)(Z:∀(j:Nat) (o:Oper) cs b,ops[j]? =some o->o.op≠.select cs b)
 (af:∀c a w,Q (.panic c) (a.put E.dst v) w->Q (.panic c) a w):
 ∀(fuel:Nat) (listed:Array Bool) (a:Act) (w:World),
  (∀j F,ops[j]? =some F->j≠i->listed.getD j true=false->(∀e∈F.after,Region.binds md e=true->e.on≠i)->E.apart ops F=true)->
  i∈Region.ready md ops listed->Yields P ops E v a->
  sx P md ops Q S nd fuel (listed.setIfInBounds i true) (a.put E.dst v) w->sx P md ops Q S nd (fuel+1) listed a w:=by
 intro fuel;induction fuel with
 |zero=>
  intro listed a w _ D J G;refine⟨λh=>(by rw[h]at D;cases D),λj I=>?_⟩;by_cases y:j=i
  ·subst y;exact J.wpOp O ⟨λ_ h=>h,G⟩
  ·have:=ready_mono I y;rw[G.1]at this;cases this
 |succ fuel be=>
  intro listed a w U D J G;refine⟨λh=>(by rw[h]at D;cases D),λj I=>?_⟩;by_cases y:j=i
  ·subst y;exact J.wpOp O ⟨λ_ h=>h,G⟩
  ·have h1:=G.2 j (ready_mono I y);obtain⟨Y,F,R,ag⟩:=mem_ready.1 I;have bb:∀e∈F.after,Region.binds md e=true->e.on≠i:=λe an aj heq=>Kb D (by rw[<- heq];exact ag e an aj);have ad:=wpOp_put R (U j F R y Y bb) (λcs b=>Z i E cs b O) (λcs b=>Z j F cs b R) af J h1;have av:∀k H,ops[k]? =some H->k≠i->(listed.setIfInBounds j true).getD k true=false->
    (∀e∈H.after,Region.binds md e=true->e.on≠i)->E.apart ops H=true:=λk H a0 a8 aa a9=>by
    refine U k H a0 a8 ?_ a9;by_cases V:j=k
    ·subst V;exact Y
    ·rw[getD_set_ne true V]at aa;exact aa
   refine wpOp_mono (λac w' M=>⟨M.2.1,be (listed.setIfInBounds j true) ac w' av (ready_mono D (Ne.symm y)) M.1 ?_⟩) ad;rw[Array.setIfInBounds_comm _ _ y];exact M.2.2
end
def Yc:Op->Bool
 |.load ..|.index ..|.lookup ..|.convert ..|.binOp ..|.typeAssert ..|.field ..|.build ..|.entry .. =>true
 |.call { callee:=.builtin b,.. } =>match b with|.len|.min|.max=>true|_=>false
 |_=>false
def ndL (o:Oper)(j:Nat):List Oper->Nat->Bool
 |[],_=>false
 |x::l,i=>(Yc x.op && !(Nat.beq i j) && !(o.after.toList.any λe=>Region.binds .any e&&Nat.beq e.on i)) || ndL o j l (i+1)
def ndB (ops:Array Oper)(j:Nat):Bool:=match ops[j]? with
 |some o=>ndL o j ops.toList 0
 |none=>true
theorem Tu:∀{l:List Oper} {k:Nat},ndL o j l k=false->∀i x,l[i]? =some x->Yc x.op=true->k+i≠j->∃e∈o.after,Region.binds .any e=true/\e.on=k+i
 |[],_,_,i,x,y,_,_=>by simp at y
 |I::l,k,h,i,x,y,F,H=>by
  unfold ndL at h;rw[Bool.or_eq_false_iff]at h;cases i with
  |zero=>
   simp only[List.getElem?_cons_zero,Option.some.injEq]at y;subst y;have h1:=h.1;have E:Nat.beq k j=false:=by cases E:Nat.beq k j<;>first|rfl|exact absurd (Nat.eq_of_beq_eq_true E) H
   rw[F,E,Bool.not_false,Bool.and_true,Bool.true_and,Bool.not_eq_false',List.any_eq_true]at h1;obtain⟨e,G,D⟩:=h1;rw[Bool.and_eq_true]at D;exact⟨e,by simpa using G,D.1,Nat.eq_of_beq_eq_true D.2⟩
  |succ i=>
   rw[List.getElem?_cons_succ]at y;have:=Tu h.2 i x y F (by omega);rw[show k+1+i=k+(i+1) by omega]at this;exact this
theorem Xh {ops:Array Oper}(D:ops[i]? =some o)(F:Yc o.op=true):∀j y,ops[j]? =some y->j≠i->ndB ops j=false->∃e∈y.after,Region.binds .any e=true/\e.on=i:=by
 intro j y E G h;unfold ndB at h;rw[E]at h;have:=Tu h i o (by simpa using D) F (by omega);rw[Nat.zero_add]at this;exact this
def TM (P:Program)(ops:Array Oper)(k:Bool)(listed:Array Bool)(a:Fr)(i:Nat):Bool:=match ops[i]? with
 |some o=>(match pv P (evF a) o.op with|some _=>true|none=>match VD P (evF a) o with|some (.rd _)=>k&&Yc o.op|_=>false)&&Region.free .any ops listed i
 |none=>false
def WHP (P:Program)(S:World->Prop)(o:Oper)(a:Fr)(K:Value->Prop):Prop:=match pv P (evF a) o.op with
 |some (.val v)=>nmK o.op v K
 |some (.part c v)=>c/\nmK o.op v K
 |none=>match VD P (evF a) o with
  |some (.rd s)=>exR (Yp P o) λv=>(∀w1,S w1->s.run P w1=.ok v w1)/\K v
  |_=>False
def WOY (P:Program)(n:Nat)(Y:Option (List PanicEntry->World->Prop))(o:Oper)(a:Fr)(K:Fr->World->Prop)(w:World):Prop:=match Y with
 |none=>WOp P n o a K w
 |some Y=>match vu P (evF a) o.op with
  |some (f,args)=>Calls P f args w λe w'=>(exR (shT P o.type) λv=>e=.returned v/\K (iS n a o.dst v) w')\/∃ch,e=.panicked ch/\Y ch w'
  |none=>WOp P n o a K w
def mB:Nat->List Value->Fr
 |_,[]=>[]
 |i,v::vs=>(i,v)::mB (i+1) vs
theorem lR:∀(vs:List Value) (i j:Nat),jk (mB i vs) j=if i <=j then(vs[j-i]?).getD undef else undef
 |[],i,j=>by simp[mB,jk]
 |v::vs,i,j=>by
  simp only[mB,jk];cases y:Nat.beq i j with
  |true=>have:=Nat.eq_of_beq_eq_true y;subst this;simp
  |false=>
   have F:i≠j:=λe=>by rw[e,Nat.beq_refl]at y;cases y
   rw[cond_false,lR vs (i+1) j];by_cases D:i <=j
   ·have h1:i+1 <=j:=by omega
    have E:j-i=(j-(i+1))+1:=by omega
    rw[if_pos h1,if_pos D,E];simp
   ·have h1: ¬ i+1 <=j:=by omega
    rw[if_neg h1,if_neg D]
theorem XR {b:Act}(h:b.tmps.size=n):Rep n (mB 0 b.tmps.toList) b:=by
 refine⟨h,λt=>?_⟩;rw[lR];simp[Array.getD_eq_getD_getElem?]
def E2 (n:Nat)(S:List Tmp)(a0:Act)(N:Act->World->Prop)(Y:Option (List PanicEntry->World->Prop)):Exit->Act->World->Prop
 |.normal,a,w=>N a w
 |.panic ch,b,w=>match Y with
  |some Y=>(b.tmps.size=n/\cJ S a0 b)/\Y ch w
  |none=>False
 |_,_,_=>False
theorem sO {S:List Tmp}{D:Act}{N:Act->World->Prop}{y:Option (List PanicEntry->World->Prop)}{d:Option Tmp}{v:Value}(H:∀t,d=some t->t∈S){c:List PanicEntry}{a:Act}
 (h:E2 n S D N y (.panic c) (a.put d v) w):E2 n S D N y (.panic c) a w:=by
 unfold E2 at h ⊢;cases y with
 |none=>exact h
 |some y=>
  obtain⟨⟨h1,E⟩,G⟩:=h;refine⟨⟨?_,?_⟩,G⟩
  ·rw[<- h1];cases d<;>simp[Act.put]
  ·refine⟨λi F=>?_,?_⟩
   ·rw[<- E.tmps i F];exact((cJ.put a d v H).tmps i F).symm
   ·rw[<- E.defers];cases d<;>rfl
theorem Wn {S:List Tmp}{H:Act}{G:Option (List PanicEntry->World->Prop)}{fr:Fr}{a:Act}{K:Fr->World->Prop}{F N:Act->World->Prop}(y:Rep n fr a)(J:cJ S H a)(h:WOY P n G o fr K w)
 (E:∀v w',K (iS n fr o.dst v) w'->F (a.put o.dst v) w'):o.wp P a w F (E2 n S H N G):=by
 unfold WOY at h;split at h
 ·exact HC y h E
 ·split at h
  ·rename_i f args I;unfold Oper.wp;rw[<- y.eval]at I;rw[sA I];refine h.mono λe w' D=>?_;rcases D with D|⟨O,rfl,M⟩
   ·obtain⟨v,rfl,h⟩:=jQ D;exact E _ _ h
   ·exact⟨⟨y.size,J⟩,M⟩
  ·exact HC y h E
def WH (P:Program)(n:Nat)(ops:Array Oper)(S:World->Prop)(Y:Option (List PanicEntry->World->Prop))(K:Fr->World->Prop):Nat->Bool->Array Bool->Fr->World->Prop
 |0,_,listed,a,w=>match Region.ready .any ops listed with
  |[]=>K a w
  |_=>False
 |fuel+1,k,listed,a,w=>match Region.ready .any ops listed with
  |[]=>K a w
  |l=>match l.find? (TM P ops k listed a)with
   |some i=>match ops[i]? with
    |none=>False
    |some o=>WG n ops o.guard a (λa=>WHP P S o a λv=>WH P n ops S Y K fuel k (listed.setIfInBounds i true) (iS n a o.dst v) w) (λa=>WH P n ops S Y K fuel k (listed.setIfInBounds i true) (iS n a o.dst undef) w)
   |none=>Rz (λi=>match ops[i]? with
    |none=>False
    |some o=>WG n ops o.guard a (λa=>WOY P n Y o a (λa' w'=>match k,ndB ops i with
     |true,true=>S w'/\WH P n ops S Y K fuel true (listed.setIfInBounds i true) a' w'
     |false,true=>(S w->S w')/\WH P n ops S Y K fuel false (listed.setIfInBounds i true) a' w'
     |_,false=>WH P n ops S Y K fuel false (listed.setIfInBounds i true) a' w') w) (λa=>WH P n ops S Y K fuel k (listed.setIfInBounds i true) (iS n a o.dst undef) w)) l
theorem HB {ops:Array Oper}{S:World->Prop}{ag:Option (List PanicEntry->World->Prop)}{K:Fr->World->Prop}{N:Act->World->Prop}{a0:Act}(J:Region.noSelect ops=true):∀{fuel:Nat} {k:Bool} {listed:Array Bool} {fr:Fr} {a:Act} {w:World},Rep n fr a->cJ (yD ops.toList) a0 a->(k=true->S w)->WH P n ops S ag K fuel k listed fr w->
 (∀ad D w',Rep n ad D->cJ (yD ops.toList) a D->K ad w'->N D w')->sx P .any ops (E2 n (yD ops.toList) a0 N ag) S (ndB ops) fuel listed a w
 |0,k,listed,fr,a,w,ac,Z,M,h,O=>by
  unfold WH at h;unfold sx;split at h
  ·rename_i af;exact⟨af,O _ _ _ ac (cJ.refl _ _) h⟩
  ·cases h
 |fuel+1,k,listed,fr,a,w,ac,Z,M,h,O=>by
  unfold WH at h;split at h
  ·rename_i af;unfold sx;refine⟨λ_=>O _ _ _ ac (cJ.refl _ _) h,λi an=>?_⟩;rw[af]at an;cases an
  ·rename_i bl;split at h
   ·rename_i i E;have av:=List.mem_of_find?_eq_some E;have U:=List.find?_some E;split at h
    ·cases h
    ·rename_i o y;simp only[TM,y,Bool.and_eq_true]at U;obtain⟨U,aj⟩:=U;obtain⟨ad,R,⟨V,h⟩|⟨V,h⟩⟩:=Hz ac h
     ·unfold WHP at h;have be:evF ad=evF fr:=by rw[<- R.eval,<- ac.eval]
      rw[be]at h;rw[<- ac.eval]at h U;split at h
      ·rename_i v hp;exact vo y (Region.noSelect_spec J) (λc a w aa=>sO (eh y) aa) fuel listed a w (Region.free_spec y aj) av (.inl ⟨V,λw=>BK hp trivial w⟩)
        (HB J (R.put o.dst v) (Z.trans (cJ.put a o.dst v (eh y))) M (rE h) λG D I E H F=>O G D I E ((cJ.put a o.dst v (eh y)).trans H) F)
      ·rename_i c v hp;exact vo y (Region.noSelect_spec J) (λc a w aa=>sO (eh y) aa) fuel listed a w (Region.free_spec y aj) av (.inl ⟨V,λw=>BK hp h.1 w⟩)
        (HB J (R.put o.dst v) (Z.trans (cJ.put a o.dst v (eh y))) M (rE h.2) λG D I E H F=>O G D I E ((cJ.put a o.dst v (eh y)).trans H) F)
      ·rename_i hp;rw[hp]at U;split at h
       ·rename_i s a9;rw[a9]at U;simp only[Bool.and_eq_true]at U;obtain⟨v,bk,h⟩:=jQ h;exact JI y (Region.noSelect_spec J) (λc a w aa=>sO (eh y) aa) (Xh y U.2) fuel listed a w (Region.free_spec y aj) av (.inl ⟨V,λw M=>by rw[yn a9,RW.next,iz (bk w M)]⟩) (M U.1)
         (HB J (R.put o.dst v) (Z.trans (cJ.put a o.dst v (eh y))) M h λG D I E H F=>O G D I E ((cJ.put a o.dst v (eh y)).trans H) F)
       ·cases h
     ·exact vo y (Region.noSelect_spec J) (λc a w aa=>sO (eh y) aa) fuel listed a w (Region.free_spec y aj) av (.inr ⟨V,rfl⟩)
       (HB J (R.put o.dst _) (Z.trans (cJ.put a o.dst _ (eh y))) M h λG D I E H F=>O G D I E ((cJ.put a o.dst _ (eh y)).trans H) F)
   ·unfold sx;refine⟨λaf=>absurd af bl,λi an=>?_⟩;have h1:=AJ h i an;unfold wpOp;split at h1
    ·cases h1
    ·rename_i o y;rw[y];simp only;obtain⟨ad,R,⟨V,h⟩|⟨V,h⟩⟩:=Hz ac h1
     ·rw[if_pos V];refine .inl (Wn R Z h λv w' Y=>?_);have next:∀{k':Bool},(k'=true->S w')->WH P n ops S ag K fuel k' (listed.setIfInBounds i true) (iS n ad o.dst v) w'->sx P .any ops (E2 n (yD ops.toList) a0 N ag) S (ndB ops) fuel (listed.setIfInBounds i true) (a.put o.dst v) w':=λF bb=>
       HB J (R.put o.dst v) (Z.trans (cJ.put a o.dst v (eh y))) F bb λG D I E H F=>O G D I E ((cJ.put a o.dst v (eh y)).trans H) F
      cases a8:ndB ops i with
      |false=>
       rw[a8]at Y;refine⟨λh=>(by cases h),?_⟩;cases k<;>exact next (λh=>by cases h) Y
      |true=>
       rw[a8]at Y;cases k with
       |true=>exact⟨λ_ _=>Y.1,next (λ_=>Y.1) Y.2⟩
       |false=>exact⟨λ_=>Y.1,next (λh=>by cases h) Y.2⟩
     ·rw[if_neg (by simp[V])];exact⟨λ_ h=>h,HB J (R.put o.dst _) (Z.trans (cJ.put a o.dst _ (eh y))) M h λG D I E H F=>O G D I E ((cJ.put a o.dst _ (eh y)).trans H) F⟩
def Y3 (n:Nat)(a:Fr)(c:Operand)(b:Bool):Fr:=match c with
 |.tmp t=>iS n a (some t) (.bool b)
 |_=>a
theorem LA {fr:Fr}{a:Act}{c:Operand}{b:Bool}(y:Rep n fr a)(h:evF fr c=.bool b):Rep n (Y3 n fr c b) a:=by
 cases c with
 |tmp t=>exact y.again h
 |_=>exact y
def writes:Code->List Tmp
 |.region _ ops _=>yD ops.toList
 |.seq a b=>writes a++writes b
 |.cond _ a b=>writes a++writes b
 |.block _ c|.loop c|.scope c=>writes c
 |.rangeFunc _ ps a b=>ps.toList++writes a++writes b
 |_=>[]
def vw:Code->Nat
 |.seq a b=>vw a+vw b+1
 |.cond _ a b=>vw a+vw b+1
 |.block _ c|.loop c|.scope c=>vw c+1
 |.rangeFunc _ _ a b=>vw a+vw b+1
 |_=>1
abbrev Ann:=List (Nat×List (Tmp×Sh))
def Ann.at (l:Ann)(p:Nat):Option (List (Tmp×Sh)):=match l with
 |[]=>none
 |(k,x)::r=>bif Nat.beq k p then some x else Ann.at r p
def reads (a:Fr):List (Tmp×Sh)->List Value
 |[]=>[]
 |(t,_)::l=>jk a t::reads a l
def kZ:List (Tmp×Sh)->List Sh
 |[]=>[]
 |(_,s)::l=>s::kZ l
def mA:List (Tmp×Sh)->List Tmp
 |[]=>[]
 |(t,_)::l=>t::mA l
def LU (n:Nat)(a:Fr):List Tmp->List Value->Fr
 |t::l,v::vs=>LU n (iS n a (some t) v) l vs
 |_,_=>a
def T7:List Tmp->(List Value->Prop)->Prop
 |[],K=>K []
 |_::l,K=>∀v:Value,T7 l λvs=>K (v::vs)
theorem T8 {K:List Value->Prop} :∀(l:List Tmp),(∀vs,K vs)->T7 l K:=by
 intro l;induction l generalizing K with
 |nil=>intro h;exact h _
 |cons s l y=>intro h;exact λ_=>y λ_=>h _
theorem K0 {f:Tmp->Value} :∀{l:List Tmp} {K:List Value->Prop},T7 l K->K (l.map f)
 |[],_,h=>h
 |_::l,K,h=>K0 (l:=l) (h _)
def WM:List Tmp->Tmp->Bool
 |[],_=>false
 |k::l,t=>bif Nat.beq k t then true else WM l t
theorem Lr:∀{l:List Tmp} {t:Tmp},WM l t=true->t∈l
 |k::l,t,h=>by
  simp only[WM]at h;cases y:Nat.beq k t with
  |true=>rw[Nat.eq_of_beq_eq_true y];exact mem_cons_self
  |false=>rw[y]at h;exact mem_cons_of_mem _ (Lr h)
def JL (S L:List Tmp):List Tmp:=match S with
 |[]=>[]
 |t::S=>bif WM L t then JL S L else t::JL S (t::L)
theorem Gj:∀{S L:List Tmp} {t:Tmp},t∈S->t∈L\/t∈JL S L
 |s::S,L,t,h=>by
  unfold JL;cases y:WM L s with
  |true=>
   simp only[cond_true];rcases List.mem_cons.1 h with rfl|h
   ·exact .inl (Lr y)
   ·exact Gj h
  |false=>
   simp only[cond_false];rcases List.mem_cons.1 h with rfl|h
   ·exact .inr mem_cons_self
   ·rcases Gj (L:=s::L) h with h|h
    ·rcases List.mem_cons.1 h with rfl|h
     ·exact .inr mem_cons_self
     ·exact .inl h
    ·exact .inr (mem_cons_of_mem _ h)
theorem GD {f:Tmp->Value}(E:∀t,¬ t<n->f t=undef):∀(l:List Tmp) (fr:Fr),(∀t,¬ t<n->jk fr t=undef)->∀i,jk (LU n fr l (l.map f)) i=if i∈l then f i else jk fr i
 |[],fr,_,i=>by simp[LU]
 |t::l,fr,H,i=>by
  simp only[map_cons,LU];have M:∀j,¬ j<n->jk (iS n fr (some t) (f t)) j=undef:=by
   intro j D;simp only[iS];cases y:Nat.ble (t+1) n with
   |false=>exact H j D
   |true=>
    simp only[cond_true,jk];cases J:Nat.beq t j with
    |false=>exact H j D
    |true=>rw[<- Nat.eq_of_beq_eq_true J]at D;exact E t D
  rw[GD E l _ M i];by_cases F:i∈l
  ·simp[F]
  ·by_cases I:i=t
   ·subst I;simp only[F,if_false,List.mem_cons,true_or,if_true,iS];cases y:Nat.ble (i+1) n with
    |true=>
     have:Nat.beq i i=true:=Nat.beq_refl i;simp only[cond_true,jk,this]
    |false=>
     have G: ¬ i<n:=by
      intro G;have:Nat.ble (i+1) n=true:=Nat.ble_eq_true_of_le (by omega);rw[this]at y;cases y
     simp only[cond_false];rw[H i G,E i G]
   ·have O:Nat.beq t i=false:=by cases y:Nat.beq t i<;>first|rfl|exact absurd (Nat.eq_of_beq_eq_true y).symm I
    simp only[F,List.mem_cons,I,or_false,if_false,iS];cases y:Nat.ble (t+1) n<;>simp[jk,O]
theorem Rep.beyond {fr:Fr}{a:Act}(h:Rep n fr a)(t:Nat)(y: ¬ t<n):jk fr t=undef:=by
 rw[<- h.get t];have: ¬ t<a.tmps.size:=by rw[h.size];exact y
 simp[Array.getD,this]
theorem Mo {fr E:Fr}{a b:Act}{S L:List Tmp}(H:Rep n fr a)(y:Rep n E b)(h:cJ S a b):
 Rep n (LU n (LU n fr (JL S L) ((JL S L).map λt=>jk E t)) L (L.map λt=>jk E t)) b:=by
 refine⟨y.size,λi=>?_⟩;have h1:=GD (f:=λt=>jk E t) (λt D=>y.beyond t D) (JL S L) fr H.beyond;rw[GD (f:=λt=>jk E t) (λt D=>y.beyond t D) L _ (λt D=>by rw[h1 t];split<;>first|exact y.beyond t D|exact H.beyond t D),h1];by_cases c1:i∈L
 ·simp[c1,y.get]
 ·by_cases F:i∈JL S L
  ·simp[c1,F,y.get]
  ·rw[if_neg c1,if_neg F];rw[h.tmps i λI=>?_,H.get];rcases Gj (L:=L) I with G|G
   ·exact c1 G
   ·exact F G
theorem LX (b:Fr):∀l:List (Tmp×Sh),reads b l=(mA l).map λt=>jk b t
 |[]=>rfl
 |(t,_)::l=>by simp only[reads,mA,map_cons,LX b l]
def P6 (ops:Array Oper):Bool:=ops.all λo=>match o.op with
 |.alloc _|.box _ _|.buildSlice _ _ _|.makeMap _ _|.makeSlice _ _ _|.range _ _|.next _ _|.store _ _ _|.mapUpdate _ _ _ _|.insert _ _ _ _=>false
 |.call { callee:=.builtin b,.. } =>match b with|.len|.cap|.min|.max=>true|_=>false
 |_=>true
def Zl (ρ:Operand->Value)(op:Op):Option Value:=match op with
 |.panic x=>match ρ x with
  |.iface t v=>some (.iface t v)
  |_=>none
 |_=>none
theorem Vd {ρ:Operand->Value}{v:Value}(h:Zl ρ o.op=some v)(w:World):(execOp ρ o).run P w=.halt (.panic v) w:=by
 unfold Zl at h;split at h
 ·rename_i x y;split at h
  ·rename_i t v' D;obtain rfl:=Option.some.inj h;simp only[execOp,y,D];rfl
  ·cases h
 ·cases h
def WOX (P:Program)(n:Nat)(ops:Array Oper)(X:Exit->Fr->World->Prop):List Oper->(Fr->World->Prop)->Fr->World->Prop
 |[],K,a,w=>K a w
 |o::rest,K,a,w=>WG n ops o.guard a (λa=>match vu P (evF a) o.op with
  |some (f,args)=>Calls P f args w λe w'=>(exR (shT P o.type) λv=>e=.returned v/\WOX P n ops X rest K (iS n a o.dst v) w')\/∃ch,e=.panicked ch/\X (.panic ch) a w'
  |none=>match Zl (evF a) o.op with
   |some v=>X (.panic [{ v:=v,recovered:=false }]) a w
   |none=>WOp P n o a (WOX P n ops X rest K) w) (λa=>WOX P n ops X rest K (iS n a o.dst undef) w)
theorem NL {ops:Array Oper}{X:Exit->Fr->World->Prop}{Q:Exit->Act->World->Prop} :∀{l:List Oper} {K:Fr->World->Prop} {fr:Fr} {a:Act} {w:World},Rep n fr a->WOX P n ops X l K fr w->
 (∀F y w',Rep n F y->cJ (yD l) a y->K F w'->Q .normal y w')->(∀D F y w',Rep n F y->cJ (yD l) a y->X (.panic D) F w'->Q (.panic D) y w')->wpList P ops Q l a w
 |[],K,fr,a,w,V,h,R,O=>R _ _ _ V (cJ.refl _ _) h
 |o::rest,K,fr,a,w,V,h,R,O=>by
  unfold wpList;obtain⟨F,J,⟨Y,h⟩|⟨Y,h⟩⟩:=Hz V h
  ·rw[if_pos Y];have on:∀v w',WOX P n ops X rest K (iS n F o.dst v) w'->wpList P ops Q rest (a.put o.dst v) w':=λv w' ac=>
    NL (J.put o.dst v) ac (λE y M H G I=>R E y M H ((cJ.put a o.dst v kq).trans (G.mono mR)) I) (λD E y M H G I=>O D E y M H ((cJ.put a o.dst v kq).trans (G.mono mR)) I)
   left;split at h
   ·rename_i f args Z;unfold Oper.wp;rw[<- J.eval]at Z;rw[sA Z];refine h.mono λe w' U=>?_;rcases U with U|⟨D,rfl,ad⟩
    ·obtain⟨v,rfl,h⟩:=jQ U;exact on _ _ h
    ·exact O D _ _ _ J (cJ.refl _ _) ad
   ·split at h
    ·rename_i v aa;unfold Oper.wp;rw[<- J.eval]at aa;rw[Vd aa];exact O _ _ _ _ J (cJ.refl _ _) h
    ·exact HC J h on
  ·rw[if_neg (by simp[Y])];exact NL (J.put o.dst _) h (λE y M H G I=>R E y M H ((cJ.put a o.dst _ kq).trans (G.mono mR)) I) (λD E y M H G I=>O D E y M H ((cJ.put a o.dst _ kq).trans (G.mono mR)) I)
def W (P:Program)(n:Nat)(ann:Ann):Nat->Code->(Exit->Fr->World->Prop)->Fr->World->Prop
 |_,.skip,Q,a,w=>Q .normal a w
 |p,.region _ ops draw,Q,a,w=>
  match draw with
  |false=>match ann.at (5000000+p)with
   |some _=>WOX P n ops Q ops.toList (Q .normal) a w
   |none=>WO P n ops ops.toList (Q .normal) a w
  |true=>match P6 ops&&Y5 ops&&(ann.at (1000000+p)).isNone with
   |true=>WQ P n w ops ops.toList (λa'=>∀w':World,Below w.heap.size w w'->Q .normal a' w') a
   |false=>match ann.at (4000000+p)with
    |some _=>match Region.noSelect ops with
     |true=>∃S:World->Prop,S w.drew/\WH P n ops S none (Q .normal) ops.size true (Array.replicate ops.size false) a w.drew
     |false=>False
    |none=>match ann.at (6000000+p)with
    |some _=>match Region.noSelect ops with
     |true=>∃S:World->Prop,S w.drew/\WH P n ops S (some λch w'=>∀fr:Fr,Q (.panic ch) fr w') (Q .normal) ops.size true (Array.replicate ops.size false) a w.drew
     |false=>False
    |none=>match ann.at (3000000+p)with
     |some l=>match Yj ops (rOf ops (M7 l) (mA l)) (M7 l) (mA l)with
      |true=>WS P n w (Yb (mA l)) (rOf ops (M7 l) (mA l)) (M7 l) ops (λal a'=>∀w':World,Below w.heap.size w w'->yH al w' (WA P n ops (Q .normal) (ops.size-(mA l).length) (Yo (mA l) (Array.replicate ops.size false)) a' w')) (mA l) [] a
      |false=>False
     |none=>match ann.at (2000000+p)with
      |some ((h,_)::_)=>match Region.lexTailB .any ops h with
       |true=>WQ P n w ops (ops.toList.take h) (λa'=>∀w':World,Below w.heap.size w w'->WO P n ops (ops.toList.drop h) (Q .normal) a' w') a
       |false=>False
      |_=>match Region.noSelect ops with
       |true=>WA P n ops (Q .normal) ops.size (Array.replicate ops.size false) a w.drew
       |false=>False
 |p,.seq x y,Q,a,w=>
  match ann.at p with
  |none=>W P n ann (p+1) x (λe a' w'=>match e with|.normal=>W P n ann (p+1+vw x) y Q a' w'|e=>Q e a' w') a w
  |some live=>∃J:FP (kZ live),W P n ann (p+1) x (λe a' w'=>match e with|.normal=>ap (kZ live) J (reads a' live) w'|e=>Q e a' w') a w/\
   T9 (kZ live) λvs=>T7 (JL (writes x) (mA live)) λus=>∀w':World,ap (kZ live) J vs w'->
    W P n ann (p+1+vw x) y Q (LU n (LU n a (JL (writes x) (mA live)) us) (mA live) vs) w'
 |p,.cond c x y,Q,a,w=>
  match evF a c with
  |.bool b=>ab b (W P n ann (p+1) x Q (Y3 n a c true) w) (W P n ann (p+1+vw x) y Q (Y3 n a c false) w)
  |_=>False
 |p,.block id c,Q,a,w=>W P n ann (p+1) c (λe a' w'=>match e with|.exit id'=>bif Nat.beq id' id then Q .normal a' w' else Q (.exit id') a' w'|e=>Q e a' w') a w
 |p,.loop c,Q,a,w=>
  match ann.at p with
  |none=>False
  |some live=>∃I:Nat->FP (kZ live),(∃m:Nat,ap (kZ live) (I m) (reads a live) w)/\
   ∀m:Nat,T9 (kZ live) λvs=>T7 (JL (writes c) (mA live)) λus=>∀w':World,ap (kZ live) (I m) vs w'->
    W P n ann (p+1) c (λe a' w''=>match e with|.normal=>∃m':Nat,m'<m/\ap (kZ live) (I m') (reads a' live) w''|e=>Q e a' w'') (LU n (LU n a (JL (writes c) (mA live)) us) (mA live) vs) w'
 |p,.scope c,Q,a,w=>W P n ann (p+1) c (λe a' w'=>match e with|.goto _=>False|e=>Q e a' w') a w
 |_,.exit id,Q,a,w=>Q (.exit id) a w
 |_,.goto l,Q,a,w=>Q (.goto l) a w
 |_,.label _,Q,a,w=>Q .normal a w
 |_,.ret,Q,a,w=>Q .ret a w
 |_,.rangeFunc _ _ _ _,_,_,_=>False
 |_,.refuse _,_,_,_=>False
theorem Nv {c:Code}{Q:Exit->Act->World->Prop}{a:Act}(H:Nat->Act->World->Prop)(J:∃m,H m a w)
 (round:∀m a w,H m a w->c.wp P (Exit.then (λE w'=>∃I,I<m/\H I E w') Q) a w):(Code.loop c).wp P Q a w:=by
 obtain⟨ac,J⟩:=J;intro b k cs;have key:∀m a w,H m a w->∃e E w',Q e E w'/\Arrives P (lone (b.at a (.code c::.inLoop c::k)) cs w) b k cs e E w':=by
  intro m;induction m using Nat.strongRecOn with
  |_ m aa=>
   intro a w R;obtain⟨e,F,G,D,y⟩:=round m a w R b (.inLoop c::k) cs;cases e with
   |normal=>
    obtain⟨I,Y,U⟩:=D;obtain⟨O,M,ad,Z,V⟩:=aa I Y F G U;exact⟨O,M,ad,Z,.of_steps (Steps.trans y (.one step_inLoop)) V⟩
   |exit id=>exact⟨_,F,G,D,.pass (x:=.inLoop c) rfl (λ_ _=>.inl (by simp)) y⟩
   |goto l=>exact⟨_,F,G,D,.pass (x:=.inLoop c) rfl (λ_ _=>.inl (by simp)) y⟩
   |ret=>exact⟨_,F,G,D,.pass (x:=.inLoop c) rfl (λ_ _=>.inl (by simp)) y⟩
   |panic af=>exact⟨_,F,G,D,.pass (x:=.inLoop c) rfl (λ_ _=>.inl (by simp)) y⟩
   |outgrown=>exact⟨_,F,G,D,.pass (x:=.inLoop c) rfl (λ_ _=>.inl (by simp)) y⟩
 obtain⟨e,E,w',D,y⟩:=key ac a w J;exact⟨e,E,w',D,.of_steps (.one step_loop) y⟩
theorem told {y:List (Tmp×Sh)}{f:FP (kZ y)}{S:List Tmp}{K:Fr->World->Prop}{fr D:Fr}{a b:Act}
 (h:T9 (kZ y) λvs=>T7 (JL S (mA y)) λus=>∀w':World,ap (kZ y) f vs w'->K (LU n (LU n fr (JL S (mA y)) us) (mA y) vs) w')
 {w':World} (J:Rep n fr a) (I:Rep n D b) (H:cJ S a b) (E:ap (kZ y) f (reads D y) w'):∃F,Rep n F b/\K F w':=by
 have h1:=NV (d:=λ_=>False) (f:=f) (K:=λt vs=>T7 (JL S (mA y)) λus=>∀w':World,t w'->K (LU n (LU n fr (JL S (mA y)) us) (mA y) vs) w') h
  (λvs=>T8 _ λus w' E=>E.elim) (reads D y)
 have G:=K0 (f:=λt=>jk D t) h1 w' E;rw[LX]at G;exact⟨_,Mo J I H,G⟩
theorem TZ (Z:P.follows .mixedOrders=true)(n:Nat)(av:Ann):∀(c:Code) (p:Nat) (Q:Exit->Fr->World->Prop) (fr:Fr) (a:Act) (w:World),Rep n fr a->W P n av p c Q fr w->
 ∀Q':Exit->Act->World->Prop,(∀e bt G w',Rep n bt G->cJ (writes c) a G->Q e bt w'->Q' e G w')->c.wp P Q' a w:=by
 intro c;induction c with
 |skip=>intro p Q fr a w F h Q' E;exact wp_skip (E _ _ _ _ F (cJ.refl _ _) h)
 |region id ops bu=>
  intro p Q fr a w F h Q' E;cases bu with
  |false=>
   simp only[W]at h;split at h
   ·exact wp_region_list (NL F h (λM G w' D y J=>E _ _ _ _ D y J) (λcf M G w' D y J=>E _ _ _ _ D y J))
   ·exact wp_region_list (Re F h λM G w' D y J=>E _ _ _ _ D y J)
  |true=>
   simp only[W]at h;split at h
   ·rename_i O;simp only[Bool.and_eq_true]at O;exact wp_region_quiet (C:=Below w.heap.size w) Z (US O.1.2) ((Below.refl _ w).drew) (Rf F h λM G D y J w' aa=>E _ _ _ _ D y (J w' aa))
   ·split at h
    ·split at h
     ·rename_i R;obtain⟨S,bb,h⟩:=h;exact Code.wp_mono (λe a w q=>by cases e<;>first|exact q|exact q.elim) (wp_region_any Z (yz _ _ _ _ (HB (S:=S) (N:=Q' .normal) R F (cJ.refl _ _) (λ_=>bb) h λM G w' D y J=>E _ _ _ _ D y J)))
     ·cases h
    split at h
    ·split at h
     ·rename_i R;obtain⟨S,bb,h⟩:=h;refine Code.wp_mono (λe b w q=>?_) (wp_region_any (id:=id) Z (yz _ _ _ _ (HB (S:=S) (N:=Q' .normal) R F (cJ.refl _ _) (λ_=>bb) h λM G w' D y J=>E _ _ _ _ D y J)));cases e<;>first|exact q|exact q.elim|exact E _ _ _ _ (XR q.1.1) q.1.2 (q.2 _)
     ·cases h
    split at h
    ·split at h
     ·rename_i l _ _ R;have b7:Region.noSelect ops=true:=by
       simp only[Yj,Bool.and_eq_true]at R;exact R.1.1
      exact Code.wp_mono (λe a w q=>by cases e<;>first|exact q|exact q.elim) (Hr (N:=Q' .normal) (mA l) Z R (TY F h λal M G D y J w' aa=>
       JP (N:=Q' .normal) b7 D (mn (J w' aa.1) λp hp=>(aa.2 p hp).2) λa0 an Y V U bk=>E _ _ _ _ V (y.trans U) bk))
     ·cases h
    split at h
    ·split at h
     ·rename_i k _ _ _ _ R;have b8:∀t,t∈yD (ops.toList.take k)->t∈yD ops.toList:=λt I=>by
       simp only[yD,List.mem_filterMap]at I ⊢;obtain⟨x,bp,e⟩:=I;exact⟨x,mem_of_mem_take bp,e⟩
      have b9:∀t,t∈yD (ops.toList.drop k)->t∈yD ops.toList:=λt I=>by
       simp only[yD,List.mem_filterMap]at I ⊢;obtain⟨x,bp,e⟩:=I;exact⟨x,List.mem_of_mem_drop bp,e⟩
      exact tg (C:=Below w.heap.size w) k Z R ((Below.refl _ w).drew) (Rf F h λM G D y J w' aa=>
       Re D (J w' aa) λa0 an Y V U bk=>E _ _ _ _ V ((y.mono b8).trans (U.mono b9)) bk)
     ·cases h
    split at h
    ·rename_i R;exact Code.wp_mono (λe a w q=>by cases e<;>first|exact q|exact q.elim) (wp_region_any Z (JP (N:=Q' .normal) R F h λM G w' D y J=>E _ _ _ _ D y J))
    ·cases h
 |seq x bq ad af=>
  intro p Q fr a w F h Q' E;refine wp_seq ?_;simp only[W]at h;split at h
  ·refine ad _ _ _ _ _ F h _ λe M G w' D y H=>?_;cases e with
   |normal=>exact af _ _ _ _ _ D H _ λe a0 an Y V U be=>E _ _ _ _ V ((y.mono λt I=>mem_append_left _ I).trans (U.mono λt I=>List.mem_append_right _ I)) be
   |_=>exact E _ _ _ _ D (y.mono λt I=>mem_append_left _ I) H
  ·rename_i ag _;obtain⟨cd,h1,b1⟩:=h;refine ad _ _ _ _ _ F h1 _ λe M G w' D y H=>?_;cases e with
   |normal=>
    obtain⟨bw,bl,a9⟩:=told (K:=λb w'=>W P n av (p+1+vw x) bq Q b w') b1 F D y H;exact af _ _ _ _ _ bl a9 _ λe a0 an Y V U be=>E _ _ _ _ V ((y.mono λt I=>mem_append_left _ I).trans (U.mono λt I=>List.mem_append_right _ I)) be
   |_=>exact E _ _ _ _ D (y.mono λt I=>mem_append_left _ I) H
 |cond c x bq ad af=>
  intro p Q fr a w F h Q' E;simp only[W]at h;split at h
  ·rename_i b O;have b4:a.eval c=.bool b:=by rw[F.eval];exact O
   refine wp_cond_split b4 (λe=>?_) (λe=>?_)
   ·subst e;exact ad _ _ _ _ _ (LA F O) h _ λe M G w' D y H=>E _ _ _ _ D (y.mono λt I=>mem_append_left _ I) H
   ·subst e;exact af _ _ _ _ _ (LA F O) h _ λe M G w' D y H=>E _ _ _ _ D (y.mono λt I=>List.mem_append_right _ I) H
  ·cases h
 |block id c ac=>
  intro p Q fr a w F h Q' E;refine wp_block (ac _ _ _ _ _ F h _ λe M G w' D y H=>?_);cases e with
  |exit cb=>
   simp only[Exit.inBlock]at H ⊢;cases O:Nat.beq cb id with
   |true=>rw[if_pos (Nat.eq_of_beq_eq_true O)];rw[O]at H;exact E _ _ _ _ D y H
   |false=>
    rw[if_neg (λe=>by rw[e,Nat.beq_refl]at O;cases O)];rw[O]at H;exact E _ _ _ _ D y H
  |_=>exact E _ _ _ _ D y H
 |loop c ac=>
  intro p Q fr a w F h Q' E;simp only[W]at h;split at h
  ·cases h
  ·rename_i ag _;obtain⟨bs,⟨cc,b0⟩,h⟩:=h;refine Nv (λm b w'=>∃a8,Rep n a8 b/\cJ (writes c) a b/\ap (kZ ag) (bs m) (reads a8 ag) w') ⟨cc,fr,F,cJ.refl _ _,b0⟩ λm b w' ⟨a8,b5,O,b2⟩=>?_;obtain⟨bw,bl,a9⟩:=told (K:=λb w'=>W P n av (p+1) c (λe G Y=>match e with|.normal=>∃aj:Nat,aj<m/\ap (kZ ag) (bs aj) (reads G ag) Y|e=>Q e G Y) b w') (h m) F b5 O b2;refine ac _ _ _ _ _ bl a9 _ λe M G Y D y H=>?_;cases e with
   |normal=>obtain⟨aj,b6,b3⟩:=H;exact⟨aj,b6,M,D,O.trans y,b3⟩
   |_=>exact E _ _ _ _ D (O.trans y) H
 |scope c ac=>
  intro p Q fr a w F h Q' E;refine wp_scope_straight (ac _ _ _ _ _ F h _ λe M G w' D y H=>?_);cases e with
  |goto l=>exact H.elim
  |_=>exact E _ _ _ _ D y H
 |exit id=>intro p Q fr a w F h Q' E;exact wp_exit (E _ _ _ _ F (cJ.refl _ _) h)
 |goto l=>intro p Q fr a w F h Q' E;exact wp_goto (E _ _ _ _ F (cJ.refl _ _) h)
 |label l=>intro p Q fr a w F h Q' E;exact wp_label (E _ _ _ _ F (cJ.refl _ _) h)
 |ret=>intro p Q fr a w F h Q' E;exact wp_ret (E _ _ _ _ F (cJ.refl _ _) h)
 |rangeFunc f ps x bq ad af=>intro p Q fr a w F h;exact h.elim
 |refuse=>intro p Q fr a w F h;exact h.elim
def Ret (K:Value->World->Prop):Ending->World->Prop:=λe w=>∃v,e=.returned v/\K v w
def Nj:List ResultVar->Option (List Tmp)
 |[]=>some []
 |.tmp t::l=>(Nj l).map (t:: ·)
 |.cell _ _::_=>none
def shZ (P:Program)(t:TypeId):Sh:=match(P.info? t).bind (·.zero)with|some v=>shV v|none=>.one .any
def qm (l:List Value):Value:=match l with|[v]=>v|l=>.tuple l.toArray
def Ms (ρ:Tmp->Value)(r:ResultVar):Sem Value:=match r with
 |.tmp t=>pure (ρ t)
 |.cell a t=>do loadVar t (<- asAddr (ρ a))
def Wh (rs:Array ResultVar)(ρ:Tmp->Value):Sem Value:=do
 let vs <- rs.mapM (Ms ρ)
 pure (if h:vs.size=1 then vs[0]else .tuple vs)
def aS (t:TypeId)(v:Value):Sem Value:=do loadVar t (<- asAddr v)
def WR (P:Program)(ρ:Tmp->Value)(w:World):List ResultVar->(List Value->Prop)->Prop
 |[],k=>k []
 |.tmp t::rs,k=>WR P ρ w rs λvs=>k (ρ t::vs)
 |.cell a t::rs,k=>exS (shZ P t) λv=>(aS t (ρ a)).run P w=.ok v w/\WR P ρ w rs λvs=>k (v::vs)
theorem NN {ρ:Tmp->Value}:∀(y:List ResultVar) (k:List Value->Prop),WR P ρ w y k->∃vs,(y.mapM (Ms ρ)).run P w=.ok vs w/\k vs
 |[],k,h=>⟨[],rfl,h⟩
 |.tmp t::y,k,h=>by
  obtain⟨vs,h1,D⟩:=NN y _ h;refine⟨_,?_,D⟩;rw[List.mapM_cons];have e:Ms ρ (.tmp t)=pure (ρ t):=rfl;simp only[e,Sem.run_bind,Sem.run_pure,Result.andThen_ok,h1]
 |.cell a t::y,k,h=>by
  obtain⟨v,E,h⟩:=J5 h;obtain⟨vs,h1,D⟩:=NN y _ h;refine⟨_,?_,D⟩;rw[List.mapM_cons];have e:Ms ρ (.cell a t)=aS t (ρ a):=rfl;simp only[e,Sem.run_bind,Sem.run_pure,Result.andThen_ok,E,h1]
def WB (P:Program)(fn:Func)(K:Value->World->Prop):Exit->Fr->World->Prop
 |.normal,a,w|.ret,a,w=>match Nj fn.results.toList with
  |some l=>K (qm (l.map λt=>jk a t)) w
  |none=>WR P (jk a) w fn.results.toList λvs=>K (qm vs) w
 |_,_,_=>False
theorem xX (y:Func)(D:Array Value):results y D=Wh y.results λt=>D.getD t undef:=rfl
theorem results_tmq {y:Array ResultVar}{l:List Tmp}(h:Nj y.toList=some l)(ρ:Tmp->Value)(w:World):
 (Wh y ρ).run P w=.ok (qm (l.map ρ)) w:=by
 have E:∀(y:List ResultVar) (l:List Tmp),Nj y=some l->(y.mapM (Ms ρ)).run P w=.ok (l.map ρ) w:=by
  intro y;induction y with
  |nil=>intro l h;simp[Nj]at h;subst h;rfl
  |cons r y F=>
   intro l h;cases r with
   |tmp t=>
    cases D:Nj y with
    |none=>simp[Nj,D]at h
    |some G=>
     simp[Nj,D]at h;subst h;rw[List.mapM_cons];have e:Ms ρ (.tmp t)=pure (ρ t):=rfl;simp only[e,Sem.run_bind,Sem.run_pure,Result.andThen_ok,F _ D,map_cons]
   |cell a t=>simp[Nj]at h
 unfold Wh;rw[Sem.run_bind,Array.mapM_eq_mapM_toList,Sem.run_map,E _ _ h];simp only[Result.andThen_ok,Sem.run_pure];congr 1;generalize (l.map ρ)=vs
 match vs with
 |[]=>rfl
 |[v]=>rfl
 |v::u::vs=>simp[qm]
theorem aG (Y:P.follows .mixedOrders=true){f:FuncId}{y:Func}{c:Code}(U:P.funcs[f]? =some y)(O:y.body=some c)(H:Ann)(args:List Value)(ac:args.length <=y.ntmps)
 {K:Value->World->Prop} (G:Prop) (D:W P y.ntmps H 0 c (WB P y K) (mB 0 args) w=G) (h:G):Calls P f args.toArray w (Ret K):=by
 refine calls_of_wp U O ?_;have F:Rep y.ntmps (mB 0 args) { tmps:=args.toArray++Array.replicate (y.ntmps-args.toArray.size) undef,defers:=[] } :=by
  refine⟨by simp;omega,λt=>?_⟩;rw[lR];simp only[Nat.zero_le,if_true,Nat.sub_zero,Array.getD_eq_getD_getElem?,Array.getElem?_append,size_toArray,List.getElem?_toArray];by_cases J:t<args.length
  ·simp[J]
  ·simp only[if_neg J];rw[List.getElem?_eq_none (by omega:args.length <=t)];simp only[Array.getElem?_replicate];split<;>rfl
 refine TZ Y _ H c 0 _ _ _ _ F (D▸h) _ λe aa M w' I E D=>?_;have E:M.defers=[]:=E.defers;have key:∀{a:Act} {fr:Fr} {w:World},Rep y.ntmps fr a->a.defers=[]->(match Nj y.results.toList with
  |some l=>K (qm (l.map λt=>jk fr t)) w
  |none=>WR P (jk fr) w y.results.toList λvs=>K (qm vs) w)->a.defers=[]/\∃v,(results y a.tmps).run P w=.ok v w/\Ret K (.returned v) w:=by
  intro a fr w F R h;have e:(λt=>a.tmps.getD t undef)=jk fr:=funext F.get;refine⟨R,?_⟩;rw[xX,e];split at h
  ·rename_i l V;exact⟨_,results_tmq V _ _,_,rfl,h⟩
  ·obtain⟨vs,Z,h⟩:=NN _ _ h;refine⟨qm vs,?_,_,rfl,h⟩;unfold Wh;rw[Sem.run_bind,Array.mapM_eq_mapM_toList,Sem.run_map,Z];simp only[Result.andThen_ok,Sem.run_pure];congr 1
   match vs with
   |[]=>rfl
   |[v]=>rfl
   |v::u::vs=>simp[qm]
 cases e with
 |normal=>exact key I E D
 |ret=>exact key I E D
 |_=>exact D.elim
def WBX (P:Program)(fn:Func)(K:Value->World->Prop)(X:List PanicEntry->World->Prop):Exit->Fr->World->Prop
 |.normal,a,w|.ret,a,w=>match Nj fn.results.toList with
  |some l=>K (qm (l.map λt=>jk a t)) w
  |none=>WR P (jk a) w fn.results.toList λvs=>K (qm vs) w
 |.panic ch,_,w=>X ch w
 |_,_,_=>False
def JN (K:Value->World->Prop)(X:List PanicEntry->World->Prop)(e:Ending)(w:World):Prop:=(∃v,e=.returned v/\K v w)\/∃ch,e=.panicked ch/\X ch w
theorem oK (Z:P.follows .mixedOrders=true){f:FuncId}{y:Func}{c:Code}(V:P.funcs[f]? =some y)(R:y.body=some c)(H:Ann)(args:List Value)(ad:args.length <=y.ntmps)
 {K:Value->World->Prop} {X:List PanicEntry->World->Prop} (G:Prop) (D:W P y.ntmps H 0 c (WBX P y K X) (mB 0 args) w=G) (h:G):Calls P f args.toArray w (JN K X):=by
 refine calls_of_wp V R ?_;have F:Rep y.ntmps (mB 0 args) { tmps:=args.toArray++Array.replicate (y.ntmps-args.toArray.size) undef,defers:=[] } :=by
  refine⟨by simp;omega,λt=>?_⟩;rw[lR];simp only[Nat.zero_le,if_true,Nat.sub_zero,Array.getD_eq_getD_getElem?,Array.getElem?_append,size_toArray,List.getElem?_toArray];by_cases J:t<args.length
  ·simp[J]
  ·simp only[if_neg J];rw[List.getElem?_eq_none (by omega:args.length <=t)];simp only[Array.getElem?_replicate];split<;>rfl
 refine TZ Z _ H c 0 _ _ _ _ F (D▸h) _ λe ac M w' I E D=>?_;have E:M.defers=[]:=E.defers;have key:∀{a:Act} {fr:Fr} {w:World},Rep y.ntmps fr a->a.defers=[]->(match Nj y.results.toList with
  |some l=>K (qm (l.map λt=>jk fr t)) w
  |none=>WR P (jk fr) w y.results.toList λvs=>K (qm vs) w)->a.defers=[]/\∃v,(results y a.tmps).run P w=.ok v w/\JN K X (.returned v) w:=by
  intro a fr w F U h;have e:(λt=>a.tmps.getD t undef)=jk fr:=funext F.get;refine⟨U,?_⟩;rw[xX,e];split at h
  ·rename_i l Y;exact⟨_,results_tmq Y _ _,.inl ⟨_,rfl,h⟩⟩
  ·obtain⟨vs,aa,h⟩:=NN _ _ h;refine⟨qm vs,?_,.inl ⟨_,rfl,h⟩⟩;unfold Wh;rw[Sem.run_bind,Array.mapM_eq_mapM_toList,Sem.run_map,aa];simp only[Result.andThen_ok,Sem.run_pure];congr 1
   match vs with
   |[]=>rfl
   |[v]=>rfl
   |v::u::vs=>simp[qm]
 cases e with
 |normal=>exact key I E D
 |ret=>exact key I E D
 |panic O=>exact⟨E,.inr ⟨O,rfl,D⟩⟩
 |_=>exact D.elim
theorem aK {f:FuncId}{args:Array Value}{K:Value->World->Prop}{R:Ending->World->Prop}(h:Calls P f args w (Ret K))(D:∀v w',K v w'->R (.returned v) w'):
 Calls P f args w R:=h.mono λe w' ⟨v,y,E⟩=>by subst y;exact D v w' E
def aU (s:lU)(j:Int):Int:=((s[j.toNat]?.getD 0).toNat:Nat)
def aw (a:Option Addr)(j:Int)(size:Nat):Option Addr:=a.map (·.add (j.toNat*size))
def KB (a:Option Addr)(c l size:Nat):Option Addr:=if c=l then a else a.map (·.add (l*size))
def aP:Nat->Prop->Prop
 |0,X=>X
 |k+1,X=>∀_:Value,aP k X
theorem aP.of {X:Prop}(h:X):∀k,aP k X
 |0=>h
 |k+1=>λ_=>aP.of h k
def aH (fn:Func):Code:=fn.body.getD .skip
end Go.Pk
