/- What the laws lean on: W; what is used. Its conditions: none. -/
import Derived.Test.YtikdahhdhchlfaaGreatDoorProg
import Derived.Calls
import Derived.Scope
import Derived.Below
import Derived.Deep.Quiet
import Derived.StillTail
import Derived.Laws.Strings
import Derived.KernelRfl
set_option linter.unusedVariables false
set_option linter.unusedSimpArgs false
set_option linter.unusedSectionVars false
set_option maxRecDepth 100000
open List (length_cons map_cons map_nil mem_cons_of_mem mem_cons_self mem_of_mem_take)
variable {P:Go.Program}{n i j:Nat}{t:Go.TypeId}{w:Go.World}{o:Go.Oper}{y:Go.Operand->Go.Value}{D:Array Go.Oper}{E:Bool}{H:Array Go.Value}{I:Go.Obj}{J:Nat->Go.Value}{K:Array Bool}
open Go.IntKind (i64)
open Go.Proofs.Tryz
namespace Go.Pk
abbrev lU:=List UInt8
open Go.RowKit (Below)
open Go.Proofs
theorem dFx {p:Prop}{_:Decidable p} :decide p=false <->Not p:=decide_eq_false_iff_not
theorem dTx {p:Prop}[Decidable p]:(decide p=true)=p:=decide_eq_true_eq
def mkS (l:lU):ByteArray:=⟨l.toArray⟩
def toL (b:ByteArray):lU:=b.data.toList
@[simp] theorem toL_mkS (l:lU):toL (mkS l)=l:=rfl
inductive S0 where
 |int (k:IntKind)|bool|str|slice|ptr|map|any
inductive Sh where
 |one (s:S0)
 |agg (l:List S0)
def ex0:S0->(Value->Prop)->Prop
 |.int k,K=>∃n:Int,K (.int k n)
 |.bool,K=>∃b:Bool,K (.bool b)
 |.str,K=>∃l:lU,K (.string (mkS l))
 |.slice,K=>∃(a:Option Addr) (n c:Nat),K (.slice a n c)
 |.ptr,K=>∃a:Option Addr,K (.pointer a)
 |.map,K=>∃r:Option Nat,K (.map r)
 |.any,K=>∃v:Value,K v
def Zg:List S0->(List Value->Prop)->Prop
 |[],K=>K []
 |s::l,K=>ex0 s λv=>Zg l λvs=>K (v::vs)
def exS:Sh->(Value->Prop)->Prop
 |.one s,K=>ex0 s K
 |.agg l,K=>Zg l λvs=>K (.agg vs.toArray)
def exL:List Sh->(List Value->Prop)->Prop
 |[],K=>K []
 |s::l,K=>exS s λv=>exL l λvs=>K (v::vs)
def exR:List Sh->(Value->Prop)->Prop
 |[s],K=>exS s K
 |l,K=>exL l λvs=>K (.tuple vs.toArray)
theorem RB {s:S0}{K:Value->Prop}(h:ex0 s K):∃v,K v:=by
 cases s<;>simp only[ex0]at h<;>(first|(obtain⟨_,h⟩:=h;exact⟨_,h⟩)|(obtain⟨_,_,_,h⟩:=h;exact⟨_,h⟩))
theorem OI:∀{l:List S0} {K:List Value->Prop},Zg l K->∃v,K v
 |[],_,h=>⟨_,h⟩
 |_::_,_,h=>let⟨_,h1⟩:=RB h;let⟨_,h2⟩:=OI h1;⟨_,h2⟩
theorem Ni {s:Sh}{K:Value->Prop}(h:exS s K):∃v,K v:=by
 cases s with
 |one s=>exact RB h
 |agg l=>obtain⟨v,h⟩:=OI h;exact⟨_,h⟩
theorem RC:∀{l:List Sh} {K:List Value->Prop},exL l K->∃v,K v
 |[],_,h=>⟨_,h⟩
 |_::_,_,h=>let⟨_,h1⟩:=Ni h;let⟨_,h2⟩:=RC h1;⟨_,h2⟩
theorem wJ {l:List Sh}{K:Value->Prop}(h:exR l K):∃v,K v:=by
 unfold exR at h;split at h
 ·exact Ni h
 ·obtain⟨v,h⟩:=RC h;exact⟨_,h⟩
def Y7:S0->(Value->Prop)->Prop
 |.int k,K=>∀n:Int,K (.int k n)
 |.bool,K=>∀b:Bool,K (.bool b)
 |.str,K=>∀l:lU,K (.string (mkS l))
 |.slice,K=>∀(a:Option Addr) (n c:Nat),K (.slice a n c)
 |.ptr,K=>∀a:Option Addr,K (.pointer a)
 |.map,K=>∀r:Option Nat,K (.map r)
 |.any,K=>∀v:Value,K v
def QS:List S0->(List Value->Prop)->Prop
 |[],K=>K []
 |s::l,K=>Y7 s λv=>QS l λvs=>K (v::vs)
def ZE:Sh->(Value->Prop)->Prop
 |.one s,K=>Y7 s K
 |.agg l,K=>QS l λvs=>K (.agg vs.toArray)
def Wk:List Sh->(List Value->Prop)->Prop
 |[],K=>K []
 |s::l,K=>ZE s λv=>Wk l λvs=>K (v::vs)
def F0 (s:S0)(T:Type):Type:=match s with
 |.int _=>Int->T
 |.bool=>Bool->T
 |.str=>lU->T
 |.slice=>Option Addr->Nat->Nat->T
 |.ptr=>Option Addr->T
 |.map=>Option Nat->T
 |.any=>Value->T
def FL0:List S0->Type->Type
 |[],T=>T
 |s::l,T=>F0 s (FL0 l T)
def FSh:Sh->Type->Type
 |.one s,T=>F0 s T
 |.agg l,T=>FL0 l T
def FL:List Sh->Type->Type
 |[],T=>T
 |s::l,T=>FSh s (FL l T)
abbrev FP (l:List Sh):Type:=FL l (World->Prop)
def dF0 {T:Type}(d:T):(s:S0)->F0 s T
 |.int _=>λ_=>d
 |.bool=>λ_=>d
 |.str=>λ_=>d
 |.slice=>λ_ _ _=>d
 |.ptr=>λ_=>d
 |.map=>λ_=>d
 |.any=>λ_=>d
def dL0 {T:Type}(d:T):(l:List S0)->FL0 l T
 |[]=>d
 |s::l=>dF0 (dL0 d l) s
def dS {T:Type}(d:T):(s:Sh)->FSh s T
 |.one s=>dF0 d s
 |.agg l=>dL0 d l
def dL {T:Type}(d:T):(l:List Sh)->FL l T
 |[]=>d
 |s::l=>dS (dL d l) s
def ap0 {T:Type}(d:T):(s:S0)->F0 s T->Value->T
 |.int k,f,.int k' n=>if k=k' then f n else d
 |.bool,f,.bool b=>f b
 |.str,f,.string b=>f (toL b)
 |.slice,f,.slice a n c=>f a n c
 |.ptr,f,.pointer a=>f a
 |.map,f,.map r=>f r
 |.any,f,v=>f v
 |_,_,_=>d
def VI {T:Type}(d:T):(l:List S0)->FL0 l T->List Value->T
 |[],f,[]=>f
 |s::l,f,v::vs=>VI d l (ap0 (dL0 d l) s f v) vs
 |_,_,_=>d
def apS {T:Type}(d:T):(s:Sh)->FSh s T->Value->T
 |.one s,f,v=>ap0 d s f v
 |.agg l,f,.agg cs=>VI d l f cs.toList
 |_,_,_=>d
def apL {T:Type}(d:T):(l:List Sh)->FL l T->List Value->T
 |[],f,[]=>f
 |s::l,f,v::vs=>apL d l (apS (dL d l) s f v) vs
 |_,_,_=>d
abbrev ap (l:List Sh)(f:FP l)(vs:List Value):World->Prop:=apL (λ_=>False) l f vs
theorem QR {T:Type}{d:T}{s:S0}{f:F0 s T}{K:T->Value->Prop}(h:Y7 s λv=>K (ap0 d s f v) v)(q:∀v,K d v):∀v,K (ap0 d s f v) v:=by
 intro v;cases s<;>cases v<;>(first|exact q _|exact h _|exact h _ _ _|skip)
 case int.int k k' n=>
  by_cases e:k=k'
  ·subst e;exact h n
  ·simp only[ap0,if_neg e];exact q _
theorem X7 {T:Type}{d:T}(s:S0)(v:Value):ap0 d s (dF0 d s) v=d:=by
 cases s
 case int k=>
  cases v
  case int k' n=>
   by_cases e:k=k'
   ·subst e;simp only[ap0,if_true];rfl
   ·simp only[ap0,if_neg e]
  all_goals rfl
 all_goals(cases v<;>rfl)
theorem QU {T:Type}{d:T} :∀(l:List S0) (vs:List Value),VI d l (dL0 d l) vs=d
 |[],[]=>rfl
 |[],_::_=>rfl
 |_::_,[]=>rfl
 |s::l,v::vs=>by
  have h:VI d (s::l) (dL0 d (s::l)) (v::vs)=VI d l (ap0 (dL0 d l) s (dF0 (dL0 d l) s) v) vs:=rfl;rw[h,X7];exact QU l vs
theorem Y9 {T:Type}{d:T}(s:Sh)(v:Value):apS d s (dS d s) v=d:=by
 cases s with
 |one s=>exact X7 s v
 |agg l=>
  cases v
  case agg cs=>exact QU _ _
  all_goals rfl
theorem X8 {T:Type}{d:T} :∀(l:List Sh) (vs:List Value),apL d l (dL d l) vs=d
 |[],[]=>rfl
 |[],_::_=>rfl
 |_::_,[]=>rfl
 |s::l,v::vs=>by
  have h:apL d (s::l) (dL d (s::l)) (v::vs)=apL d l (apS (dL d l) s (dS (dL d l) s) v) vs:=rfl;rw[h,Y9];exact X8 l vs
theorem Oo {K:List Value->Prop} :∀(l:List S0),(∀vs,K vs)->QS l K:=by
 intro l;induction l generalizing K with
 |nil=>intro h;exact h _
 |cons s l e=>intro h;cases s<;>(first|exact λ_=>e λ_=>h _|exact λ_ _ _=>e λ_=>h _)
theorem Wl {K:List Value->Prop} :∀(l:List Sh),(∀vs,K vs)->Wk l K:=by
 intro l;induction l generalizing K with
 |nil=>intro h;exact h _
 |cons s l e=>
  intro h;cases s with
  |one s=>cases s<;>(first|exact λ_=>e λ_=>h _|exact λ_ _ _=>e λ_=>h _)
  |agg s=>exact Oo s λ_=>e λ_=>h _
theorem On {T:Type}{d:T} :∀{l:List S0} {f:FL0 l T} {K:T->List Value->Prop},(QS l λvs=>K (VI d l f vs) vs)->(∀vs,K d vs)->∀vs,K (VI d l f vs) vs
 |[],f,K,h,e,vs=>by cases vs with
  |nil=>exact h
  |cons=>exact e _
 |s::l,f,K,h,e,vs=>by
  cases vs with
  |nil=>exact e _
  |cons v vs=>
   have h1:=QR (d:=dL0 d l) (s:=s) (f:=f) (K:=λg v=>QS l λvs=>K (VI d l g vs) (v::vs)) h
    (λv=>by simp only[QU];exact Oo l λ_=>e _) v
   exact On (f:=ap0 (dL0 d l) s f v) (K:=λt vs=>K t (v::vs)) h1 (λ_=>e _) vs
theorem Wm {T:Type}{d:T}{s:Sh}{f:FSh s T}{K:T->Value->Prop}(h:ZE s λv=>K (apS d s f v) v)(e:∀v,K d v):∀v,K (apS d s f v) v:=by
 intro v;cases s with
 |one s=>exact QR (K:=K) h e v
 |agg l=>
  cases v<;>(first|exact e _|skip)
  case agg cs=>
   have:=On (d:=d) (l:=l) (f:=f) (K:=λt vs=>K t (.agg vs.toArray)) h (λ_=>e _) cs.toList;simpa[apS]using this
theorem QT {T:Type}{d:T} :∀{l:List Sh} {f:FL l T} {K:T->List Value->Prop},(Wk l λvs=>K (apL d l f vs) vs)->(∀vs,K d vs)->∀vs,K (apL d l f vs) vs
 |[],f,K,h,e,vs=>by cases vs with
  |nil=>exact h
  |cons=>exact e _
 |s::l,f,K,h,e,vs=>by
  cases vs with
  |nil=>exact e _
  |cons v vs=>
   have h1:=Wm (d:=dL d l) (s:=s) (f:=f) (K:=λg v=>Wk l λvs=>K (apL d l g vs) (v::vs)) h
    (λv=>by simp only[X8];exact Wl l λ_=>e _) v
   exact QT (f:=apS (dL d l) s f v) (K:=λt vs=>K t (v::vs)) h1 (λ_=>e _) vs
inductive PV where
 |val (v:Value)
 |part (c:Prop) (v:Value)
def W0 (op:BinOp)(k:IntKind)(a b:Int):Option PV:=
 match op with
 |.add=>some (.val (.int k (k.wrap (a+b))))
 |.sub=>some (.val (.int k (k.wrap (a-b))))
 |.mul=>some (.val (.int k (k.wrap (a*b))))
 |.quo=>some (.part (b≠0) (.int k (k.wrap (a.tdiv b))))
 |.rem=>some (.part (b≠0) (.int k (a.tmod b)))
 |.and=>some (.val (.int k (k.wrap ((BitVec.ofInt k.bits a &&& BitVec.ofInt k.bits b).toNat:Nat))))
 |.or=>some (.val (.int k (k.wrap ((BitVec.ofInt k.bits a ||| BitVec.ofInt k.bits b).toNat:Nat))))
 |.xor=>some (.val (.int k (k.wrap ((BitVec.ofInt k.bits a ^^^ BitVec.ofInt k.bits b).toNat:Nat))))
 |.eql=>some (.val (.bool (a==b)))
 |.neq=>some (.val (.bool (a !=b)))
 |.lss=>some (.val (.bool (decide (a<b))))
 |.leq=>some (.val (.bool (decide (a <=b))))
 |.gtr=>some (.val (.bool (decide (a>b))))
 |.geq=>some (.val (.bool (decide (a >=b))))
 |_=>none
def Xo (op:BinOp)(x y:lU):Option PV:=
 match op with
 |.add=>some (.part (((x.length+y.length:Nat):Int) <=i64.max) (.string (mkS (x++y))))
 |.eql=>some (.val (.bool (x==y)))
 |.neq=>some (.val (.bool (!(x==y))))
 |.lss=>some (.val (.bool (Op.bytesLess x y)))
 |.leq=>some (.val (.bool (Op.bytesLess x y || x==y)))
 |.gtr=>some (.val (.bool (!(Op.bytesLess x y || x==y))))
 |.geq=>some (.val (.bool (!Op.bytesLess x y)))
 |_=>none
def Za (P:Program)(op:BinOp)(t:TypeId)(x y:Value):Option PV:=
 match x,y with
 |.int k a,.int k' b=>
  match op with
  |.shl=>some (.part (0 <=b) (.int k (k.wrap (a*2 ^ (min b.toNat k.bits)))))
  |.shr=>some (.part (0 <=b) (.int k (a.fdiv (2 ^ (min b.toNat k.bits)))))
  |op=>if k=k' then W0 op k a b else none
 |.string a,.string b=>Xo op (toL a) (toL b)
 |.bool a,.bool b=>
  match P.underlying t,op with
  |some .bool,.eql=>some (.val (.bool (a==b)))
  |some .bool,.neq=>some (.val (.bool (!(a==b))))
  |_,_=>none
 |.pointer a,.pointer none=>
  match P.underlying t,op with
  |some (.pointer _),.eql=>some (.val (.bool a.isNone))
  |some (.pointer _),.neq=>some (.val (.bool (!a.isNone)))
  |_,_=>none
 |_,_=>none
def unV (op:UnOp)(x:Value):Option PV:=
 match op,x with
 |.neg,.int k n=>some (.val (.int k (k.wrap (0-n))))
 |.not,.bool b=>some (.val (.bool (!b)))
 |_,_=>none
def LV (P:Program)(t:TypeId)(cs:Array Value)(off:Nat):Option Value:=
 match P.underlying t with
 |some (.struct _)|some (.array _ _)=>(P.info? t).map λi=>.agg (cs.extract off (off+i.size))
 |some _=>cs[off]?
 |none=>none
def uC (d:Nat):Option Value->Option Nat
 |none=>some d
 |some (.int _ n)=>some n.toNat
 |_=>none
def sO (lo hi:Option Value)(y:Nat)(d:Nat):Prop:=
 match lo,hi with
 |none,none=>True
 |some (.int _ l),none=>0 <=l/\l <=(d:Int)
 |none,some (.int _ h)=>0 <=h/\h <=(y:Int)
 |some (.int _ l),some (.int _ h)=>(0 <=h/\h <=(y:Int))/\0 <=l/\l <=(h.toNat:Int)
 |_,_=>False
def Ye (l:lU)(lo hi:Option Value):lU:=
 match lo,hi with
 |some (.int _ a),none=>l.drop a.toNat
 |none,some (.int _ b)=>l.take b.toNat
 |some (.int _ a),some (.int _ b)=>(l.take b.toNat).drop a.toNat
 |_,_=>l
def Tu (P:Program)(t:TypeId)(x:Value)(lo hi:Option Value):Option PV:=
 match P.underlying t,x with
 |some .string,.string s=>some (.part (sO lo hi (toL s).length (toL s).length) (.string (mkS (Ye (toL s) lo hi))))
 |some (.slice e),.slice a n c=>
  match P.info? e with
  |some i=>
   match lo,uC n hi with
   |none,some h=>some (.part (sO lo hi c n) (.slice a h c))
   |some (.int _ l),some h=>some (.part (sO lo hi c n) (.slice (if c=l.toNat then a else a.map (·.add (l.toNat*i.size))) (h-l.toNat) (c-l.toNat)))
   |_,_=>none
  |none=>none
 |some (.array n e),.pointer (some a)=>
  match P.info? e with
  |some i=>
   match lo,uC n hi with
   |none,some h=>some (.part (sO lo hi n n) (.slice (some a) h n))
   |some (.int _ l),some h=>some (.part (sO lo hi n n) (.slice (some (if n=l.toNat then a else a.add (l.toNat*i.size))) (h-l.toNat) (n-l.toNat)))
   |_,_=>none
  |none=>none
 |_,_=>none
def Zm (P:Program)(t:TypeId)(x:Value):Option PV:=
 match P.underlying t,x with
 |some .string,.string s=>some (.val (.int .i64 ((toL s).length:Nat)))
 |some (.slice _),.slice _ n _=>some (.val (.int .i64 (n:Nat)))
 |some (.array n _),_=>some (.val (.int .i64 (n:Nat)))
 |_,_=>none
def Zb (P:Program)(t:TypeId)(x:Value):Option PV:=
 match P.underlying t,x with
 |some (.slice _),.slice _ _ n=>some (.val (.int .i64 (n:Nat)))
 |_,_=>none
def XP (P:Program)(t:TypeId):Bool:=match P.info? t with|some i=>Nat.ble 12 i.size|none=>false
def YU (P:Program)(t:TypeId)(ps:List Nat):Bool:=
 match P.underlying t with
 |some (.struct fs)=>ps.any λp=>match fs[p]? with|some fd=>XP P fd.type|none=>false
 |some (.array _ e)=>XP P e
 |some (.slice e)=>XP P e
 |_=>false
def pv (P:Program)(ρ:Operand->Value)(op:Op):Option PV:=
 match op with
 |.move x=>some (.val (ρ x))
 |.assign x=>some (.val (ρ x))
 |.pick c a b=>match ρ c,ρ a,ρ b with
  |.bool t,.bool x,.bool y=>some (.val (.bool (cond t x y)))
  |.bool t,x,y=>some (.val (match t with|true=>x|false=>y))
  |_,_,_=>none
 |.binOp op t x y _=>if XP P t=true then none else Za P op t (ρ x) (ρ y)
 |.unOp op _ x=>unV op (ρ x)
 |.convert s d x=>match P.underlying s,P.underlying d,ρ x with
  |some (.int _),some (.int k),.int _ n=>some (.val (.int k (k.wrap n)))
  |some .string,some .string,.string b=>some (.val (.string b))
  |_,_,_=>none
 |.extract t i=>match ρ t with
  |.tuple vs=>(vs[i]?).map .val
  |_=>none
 |.field t x f=>if XP P t=true then none else match P.underlying t,ρ x with
  |some (.struct fs),.agg cs=>(fs[f]?).bind λfd=>(LV P fd.type cs fd.offset).map .val
  |_,_=>none
 |.fieldAddr t x f=>match P.underlying t,ρ x with
  |some (.struct fs),.pointer a=>match fs[f]? with
   |some fd=>match P.info? fd.type with
    |some i=>if i.size=0 then none else some (.part (a.isSome=true) (.pointer (a.map (·.add fd.offset))))
    |none=>none
   |none=>none
  |_,_=>none
 |.indexAddr t x i=>match P.underlying t,ρ x,ρ i with
  |some (.slice e),.slice b n _,.int _ j=>match P.info? e with
   |some ti=>some (.part ((0 <=j/\j<(n:Int))/\b.isSome=true) (.pointer (b.map (·.add (j.toNat*ti.size)))))
   |none=>none
  |some (.array n e),.pointer a,.int _ j=>match P.info? e with
   |some ti=>some (.part ((0 <=j/\j<(n:Int))/\a.isSome=true) (.pointer (a.map (·.add (j.toNat*ti.size)))))
   |none=>none
  |_,_,_=>none
 |.index t x i=>match P.underlying t,ρ x,ρ i with
  |some .string,.string s,.int _ j=>some (.part (0 <=j/\j<((toL s).length:Int)) (.int .u8 (((toL s)[j.toNat]?.getD 0).toNat:Nat)))
  |_,_,_=>none
 |.slice t x lo hi none=>Tu P t (ρ x) (lo.map ρ) (hi.map ρ)
 |.nilCheck x=>match ρ x with
  |.pointer a=>some (.part (a.isSome=true) (.pointer a))
  |.func (.func f) first captured=>some (.val (.func (.func f) first captured))
  |_=>none
 |.makeFunc fn first captured=>some (.val (.func fn (first.map ρ) (captured.map ρ)))
 |.makeInterface t x=>match P.underlying t with
  |some (.interface _)|none=>none
  |some _=>some (.val (.iface t (ρ x)))
 |.build t parts=>if YU P t (parts.toList.map (·.1))=true then none else match(P.info? t).bind (·.zero),P.underlying t with
  |some z,some (.struct fs)=>
   match fs.toList.mapM (λf=>(P.info? f.type).map λi=>(f.offset,i.size))with
   |some places=>(Instr.fill (places[·]?) z.cells (parts.toList.map λp=>(p.1,ρ p.2))).map λcs=>.val (.agg cs)
   |none=>none
  |some z,some (.array _ e)=>
   match P.info? e with
   |some i=>(Instr.fill (λj=>some (j*i.size,i.size)) z.cells (parts.toList.map λp=>(p.1,ρ p.2))).map λcs=>.val (.agg cs)
   |none=>none
  |_,_=>none
 |.call { callee:=.builtin .len,args,argTypes } =>match args.toList,argTypes.toList with
  |[x],[t]=>Zm P t (ρ x)
  |_,_=>none
 |.call { callee:=.builtin .cap,args,argTypes } =>match args.toList,argTypes.toList with
  |[x],[t]=>Zb P t (ρ x)
  |_,_=>none
 |_=>none
def PV.ok (P:Program)(s:Sem Value):PV->Prop
 |.val v=>∀w,s.run P w=.ok v w
 |.part c v=>c->∀w,s.run P w=.ok v w
theorem bQ {d:TypeDesc}(h:P.underlying t=some d)(w:World):(underlying t).run P w=.ok d w:=by
 simp[underlying,h]
theorem qx {d:TypeInfo}(h:P.info? t=some d)(w:World):(typeInfo t).run P w=.ok d w:=by
 simp[typeInfo,h]
theorem fx {d:TypeInfo}(h:P.info? t=some d)(w:World):(sizeOf t).run P w=.ok d.size w:=by
 simp[sizeOf,qx h]
theorem qC (b:ByteArray):(toL b).length=b.size:=by cases b;rfl
theorem Qx (b:ByteArray):b.toList=toL b:=ByteArray.toList_eq b
theorem run_equalIn_bool (e:P.underlying t=some .bool)(d:Nat)(a b:Bool)(w:World):
 (Op.equalIn (d+1) t (.bool a) (.bool b)).run P w=.ok (a==b) w:=by
 simp[Op.equalIn,bQ e]
theorem sE {t e:TypeId}(q:P.underlying t=some (.pointer e))(d:Nat)(a:Option Addr)(w:World):
 (Op.equalIn (d+1) t (.pointer a) (.pointer none)).run P w=.ok a.isNone w:=by
 cases a<;>simp[Op.equalIn,bQ q]
theorem Ug {q:BinOp}{k:IntKind}{a b:Int}{r:PV}(h:W0 q k a b=some r):r.ok P (binOp q t (.int k a) (.int k b)):=by
 cases q
 all_goals simp only[W0,Option.some.injEq,reduceCtorEq]at h
 all_goals(try subst h)
 case quo=>intro e w;simp[binOp,Op.intDiv,e]
 case rem=>intro e w;simp[binOp,Op.intDiv,e]
 all_goals(intro w;simp[binOp,Op.intArith,Op.intBits,Op.intCmp])
theorem Uh {e:BinOp}{a b:ByteArray}{r:PV}(h:Xo e (toL a) (toL b)=some r):r.ok P (binOp e t (.string a) (.string b)):=by
 cases e
 all_goals simp only[Xo,Option.some.injEq,reduceCtorEq]at h
 all_goals(try subst h)
 case add=>
  intro D w;have E: ¬ (((a.size+b.size:Nat):Int)>i64.max):=by
   rw[qC,qC]at D;omega
  have q:mkS (toL a++toL b)=a++b:=by
   cases a;cases b;simp[mkS,toL];rfl
  simp only[binOp,Op.stringOp,if_neg E,q,Sem.run_pure]
 all_goals(intro w;simp[binOp,Op.stringOp,Qx])
theorem Ws {q:BinOp}{x y:Value}{r:PV}(h:Za P q t x y=some r):r.ok P (binOp q t x y)/\(∀H I w,(eqGuard q t H I x y).run P w=.ok () w):=by
 unfold Za at h;split at h
 ·rename_i k a k' b;refine⟨?_,λ_ _ _=>by cases q<;>rfl⟩;split at h
  ·simp only[Option.some.injEq]at h;subst h;intro E w;have D: ¬ b<0:=by omega
   simp[binOp,Op.shift,D]
  ·simp only[Option.some.injEq]at h;subst h;intro E w;have D: ¬ b<0:=by omega
   simp[binOp,Op.shift,D]
  ·split at h
   ·rename_i G;subst G;exact Ug h
   ·cases h
 ·exact⟨Uh h,λ_ _ _=>by cases q<;>rfl⟩
 ·rename_i a b;refine⟨?_,λ_ _ _=>by cases q<;>rfl⟩;split at h
  ·rename_i e;simp only[Option.some.injEq]at h;subst h;intro w;show((do pure (.bool (<- Op.equalIn (9999+1) t (.bool a) (.bool b))):Sem Value)).run P w=_;rw[Sem.run_bind,run_equalIn_bool e];rfl
  ·rename_i e;simp only[Option.some.injEq]at h;subst h;intro w;show((do pure (.bool (!(<- Op.equalIn (9999+1) t (.bool a) (.bool b)))):Sem Value)).run P w=_;rw[Sem.run_bind,run_equalIn_bool e];rfl
  ·cases h
 ·rename_i a;refine⟨?_,λ_ _ _=>by cases q<;>rfl⟩;split at h
  ·rename_i e;simp only[Option.some.injEq]at h;subst h;intro w;show((do pure (.bool (<- Op.equalIn (9999+1) t (.pointer a) (.pointer none))):Sem Value)).run P w=_;rw[Sem.run_bind,sE e];rfl
  ·rename_i e;simp only[Option.some.injEq]at h;subst h;intro w;show((do pure (.bool (!(<- Op.equalIn (9999+1) t (.pointer a) (.pointer none)))):Sem Value)).run P w=_;rw[Sem.run_bind,sE e];rfl
  ·cases h
 ·cases h
def CX:TypeDesc->Bool
 |.struct _|.array _ _=>true
 |_=>false
theorem sG {d:TypeDesc}(h:P.underlying t=some d)(w:World):(isAgg t).run P w=.ok (CX d) w:=by
 unfold isAgg;rw[Sem.run_bind,bQ h];cases d<;>rfl
theorem yl {cs:Array Value}{off:Nat}{v:Value}(h:LV P t cs off=some v)(w:World):(part t cs off).run P w=.ok v w:=by
 unfold LV at h;unfold part;split at h
 ·rename_i q;cases e:P.info? t with
  |none=>simp[e]at h
  |some i=>simp[e]at h;subst h;simp[sG q,CX,fx e]
 ·rename_i q;cases e:P.info? t with
  |none=>simp[e]at h
  |some i=>simp[e]at h;subst h;simp[sG q,CX,fx e]
 ·rename_i d E G q;have D:CX d=false:=by cases d<;>simp_all [CX]
  rw[Sem.run_bind,sG q,D];simp[h]
 ·cases h
theorem W4 {t ty:TypeId}{x:Value}{r:PV}(h:Zm P t x=some r):r.ok P (Builtin.len_ #[t] ty #[x]):=by
 unfold Zm at h;split at h
 ·rename_i e;simp only[Option.some.injEq]at h;subst h;intro w;simp[Builtin.len_,bQ e,qC,goInt]
 ·rename_i e;simp only[Option.some.injEq]at h;subst h;intro w;simp[Builtin.len_,bQ e,goInt]
 ·rename_i e;simp only[Option.some.injEq]at h;subst h;intro w;simp[Builtin.len_,bQ e,goInt]
 ·cases h
theorem Wv {t ty:TypeId}{x:Value}{r:PV}(h:Zb P t x=some r):r.ok P (Builtin.cap_ #[t] ty #[x]):=by
 unfold Zb at h;split at h
 ·rename_i e;simp only[Option.some.injEq]at h;subst h;intro w;simp[Builtin.cap_,bQ e,goInt]
 ·cases h
theorem qw (P:Program)(k:IntKind)(n:Int)(w:World):(asIntOf (.int k n)).run P w=.ok (k,n) w:=rfl
theorem yv {k:IntKind}{n:Int}{y:Nat}{code:BoundsCode}(h:0 <=n/\n <=(y:Int))(w:World):(Instr.sliceBound (.int k n) y code).run P w=.ok n.toNat w:=by
 simp[Instr.sliceBound,qw,h]
theorem An {isSlice:Bool}{len cap:Nat}{q e:Option Value}(h:sO q e cap len)
 (E:∀v,q=some v->∃k n,v=.int k n) (D:∀v,e=some v->∃k n,v=.int k n) (w:World):
 ∃l m,uC 0 q=some l/\uC len e=some m/\(Instr.sliceBounds isSlice len cap q e none).run P w=.ok (l,m,cap) w:=by
 cases q with
 |none=>
  cases e with
  |none=>exact⟨0,len,rfl,rfl,by simp[Instr.sliceBounds]⟩
  |some b=>
   obtain⟨k,n,rfl⟩:=D b rfl;have h':0 <=n/\n <=(cap:Int):=h;exact⟨0,n.toNat,rfl,rfl,by simp[Instr.sliceBounds,yv h']⟩
 |some a=>
  obtain⟨k,n,rfl⟩:=E a rfl;cases e with
  |none=>
   have h':0 <=n/\n <=(len:Int):=h;exact⟨n.toNat,len,rfl,rfl,by simp[Instr.sliceBounds,yv h']⟩
  |some b=>
   obtain⟨k',m,rfl⟩:=D b rfl;have h':(0 <=m/\m <=(cap:Int))/\0 <=n/\n <=(m.toNat:Int):=h;exact⟨n.toNat,m.toNat,rfl,rfl,by simp[Instr.sliceBounds,yv h'.1,yv h'.2]⟩
theorem dO {D q:Option Value}{y d:Nat}(h:sO D q y d):(∀v,D=some v->∃k n,v=.int k n)/\(∀v,q=some v->∃k n,v=.int k n):=by
 unfold sO at h;split at h
 ·exact⟨λv e=>(by cases e),λv e=>(by cases e)⟩
 ·exact⟨λv e=>(by cases e;exact⟨_,_,rfl⟩),λv e=>(by cases e)⟩
 ·exact⟨λv e=>(by cases e),λv e=>(by cases e;exact⟨_,_,rfl⟩)⟩
 ·exact⟨λv e=>(by cases e;exact⟨_,_,rfl⟩),λv e=>(by cases e;exact⟨_,_,rfl⟩)⟩
 ·cases h
theorem KY (a:Addr):a.add 0=a:=by simp[Addr.add]
theorem pC (s:ByteArray)(l h:Nat):s.extract l h=mkS (((toL s).take h).drop l):=by
 apply ByteArray.ext;apply Array.ext';simp[mkS,toL,ByteArray.data_extract,List.drop_take]
theorem Tv {x:Value}{G E:Option Value}{r:PV}(h:Tu P t x G E=some r):r.ok P (Instr.sliceAt t x G E none):=by
 unfold Tu at h;split at h
 ·rename_i s U;simp only[Option.some.injEq]at h;subst h;intro D w;have H:sO G E s.size s.size:=by rw[qC]at D;exact D
  obtain⟨l,m,q,e,O⟩:=An (P:=P) (isSlice:=false) H (dO H).1 (dO H).2 w;simp only[Instr.sliceAt,Instr.slice,Sem.run_bind,bQ U,Result.andThen_ok,Option.isSome_none,Bool.false_eq_true,if_false,O,Sem.run_pure];congr 2;cases G with
  |none=>
   cases E with
   |none=>
    simp[uC]at q e;subst q e;rw[pC];simp[Ye,<- qC]
   |some b=>
    obtain⟨k',n,rfl⟩:=(dO H).2 b rfl;simp[uC]at q e;subst q e;have h':0 <=n/\n <=(s.size:Int):=H;rw[pC];simp[Ye]
  |some a=>
   obtain⟨k,n,rfl⟩:=(dO H).1 a rfl;cases E with
   |none=>
    simp[uC]at q e;subst q e;have h':0 <=n/\n <=(s.size:Int):=H;rw[pC];simp[Ye,<- qC]
   |some b=>
    obtain⟨k',Z,rfl⟩:=(dO H).2 b rfl;simp[uC]at q e;subst q e;have h':(0 <=Z/\Z <=(s.size:Int))/\0 <=n/\n <=(Z.toNat:Int):=H;rw[pC];simp[Ye]
 ·rename_i V a n c U;cases M:P.info? V with
  |none=>simp[M]at h
  |some i=>
   simp only[M]at h;have key:∀{v} (D:sO G E c n),(∀l m,uC 0 G=some l->uC n E=some m->v=Value.slice (if c=l then a else a.map (·.add (l*i.size))) (m-l) (c-l))->
    ∀w,(Instr.sliceAt t (.slice a n c) G E none).run P w=.ok v w:=by
    intro v D Y w;obtain⟨l,m,q,e,O⟩:=An (P:=P) (isSlice:=true) D (dO D).1 (dO D).2 w;simp only[Instr.sliceAt,Instr.slice,Sem.run_bind,bQ U,Result.andThen_ok,O,fx M,Sem.run_pure];rw[Y l m q e]
   split at h
   ·rename_i X I;simp only[Option.some.injEq]at h;subst h;intro D;exact key D λl m q e=>by
     rw[I]at e;simp[uC]at q e;subst q e;simp;intro _;cases a<;>simp[KY]
   ·rename_i k l X I;simp only[Option.some.injEq]at h;subst h;intro D;exact key D λl m q e=>by rw[I]at e;simp[uC]at q e;subst q e;rfl
   ·cases h
 ·rename_i n V a U;cases M:P.info? V with
  |none=>simp[M]at h
  |some i=>
   simp only[M]at h;have key:∀{v} (D:sO G E n n),(∀l m,uC 0 G=some l->uC n E=some m->v=Value.slice (some (if n=l then a else a.add (l*i.size))) (m-l) (n-l))->
    ∀w,(Instr.sliceAt t (.pointer (some a)) G E none).run P w=.ok v w:=by
    intro v D Y w;obtain⟨l,m,q,e,O⟩:=An (P:=P) (isSlice:=false) D (dO D).1 (dO D).2 w;simp only[Instr.sliceAt,Sem.run_bind,bQ U,Result.andThen_ok,O,fx M,Sem.run_pure,Instr.sureAddr];rw[Y l m q e]
   split at h
   ·rename_i X I;simp only[Option.some.injEq]at h;subst h;intro D;exact key D λl m q e=>by
     rw[I]at e;simp[uC]at q e;subst q e;simp[KY]
   ·rename_i k l X I;simp only[Option.some.injEq]at h;subst h;intro D;exact key D λl m q e=>by rw[I]at e;simp[uC]at q e;subst q e;rfl
   ·cases h
 ·cases h
def vN (s:Sem Value):Sem Next:=do pure (.value (<- s))
def uN (s:Sem Unit):Sem Next:=do s;pure .skip
theorem iK {s:Sem Value}{v:Value}{w w':World}(h:s.run P w=.ok v w'):(vN s).run P w=.ok (.value v) w':=by
 simp[vN,h]
theorem YI {s:Sem Unit}{w w':World}(h:s.run P w=.ok () w'):(uN s).run P w=.ok .skip w':=by
 simp[uN,h]
def PV.cond:PV->Prop
 |.val _=>True
 |.part c _=>c
def PV.value:PV->Value
 |.val v=>v
 |.part _ v=>v
theorem PV.ok.run {s:Sem Value}{r:PV}(h:r.ok P s)(e:r.cond)(w:World):s.run P w=.ok r.value w:=by
 cases r with
 |val v=>exact h w
 |part c v=>exact h e w
theorem hU (P:Program)(a:Addr)(w:World):(Instr.sureAddr (.pointer (some a))).run P w=.ok a w:=rfl
theorem Lk {q:Array Field}{f:Nat}{e:Field}{i:TypeInfo}(H:P.underlying t=some (.struct q))(E:q[f]? =some e)
 (G:P.info? e.type=some i) (D: ¬ i.size=0) (a:Addr) (w:World):(Instr.fieldAt t (.pointer (some a)) f).run P w=.ok (.pointer (some (a.add e.offset))) w:=by
 simp[Instr.fieldAt,bQ H,E,hU,fieldPlace,fx G,D]
theorem Jw {t e:TypeId}{q:TypeInfo}(E:P.underlying t=some (.slice e))(D:P.info? e=some q)(a:Addr)(n c:Nat)(k:IntKind)(j:Int)
 (h:0 <=j/\j<(n:Int)) (w:World):(Instr.indexAt t (.slice (some a) n c) (.int k j)).run P w=.ok (.pointer (some (a.add (j.toNat*q.size)))) w:=by
 simp[Instr.indexAt,qw,bQ E,fx D,h]
theorem Jv {t e:TypeId}{q:TypeInfo}(E:P.underlying t=some (.array n e))(D:P.info? e=some q)(a:Addr)(k:IntKind)(j:Int)
 (h:0 <=j/\j<(n:Int)) (w:World):(Instr.indexAt t (.pointer (some a)) (.int k j)).run P w=.ok (.pointer (some (a.add (j.toNat*q.size)))) w:=by
 simp[Instr.indexAt,qw,bQ E,fx D,hU,h]
theorem Sb (E:P.underlying t=some .string)(s:ByteArray)(k:IntKind)(j:Int)
 (h:0 <=j/\j<((toL s).length:Int)) (w:World):(Instr.index t (.string s) (.int k j)).run P w=.ok (.int .u8 (((toL s)[j.toNat]?.getD 0).toNat:Nat)) w:=by
 have D:j.toNat<s.size:=by have:=qC s;omega
 have e:s[j.toNat]? =some s[j.toNat]:=ByteArray.getElem?_lt' s _ D;have q:(toL s)[j.toNat]? =some s[j.toNat]:=by
  have:j.toNat<(toL s).length:=by omega
  rw[List.getElem?_eq_getElem this];rfl
 simp[Instr.index,qw,bQ E,h.1,e,q]
theorem K4 {E:Array Field}{i:TypeInfo}{z:Value}{e:List (Nat×Nat)}{H:Array (Nat×Value)}{cs:Array Value}
 (O:P.info? t=some i) (Z:i.zero=some z) (Y:P.underlying t=some (.struct E)) (X:E.toList.mapM (λf=>(P.info? f.type).map λi=>(f.offset,i.size))=some e)
 (M:Instr.fill (e[·]?) z.cells H.toList=some cs) (w:World):(Instr.build t H).run P w=.ok (.agg cs) w:=by
 have U:∀(l:List Field) (D:List (Nat×Nat)),l.mapM (λf=>(P.info? f.type).map λi=>(f.offset,i.size))=some D->
  (l.mapM (λf=>do pure (f.offset,<- sizeOf f.type):Field->Sem (Nat×Nat))).run P w=.ok D w:=by
  intro l;induction l with
  |nil=>intro D h;simp at h;subst h;rfl
  |cons f l ac=>
   intro D h;rw[List.mapM_cons]at h;cases q:P.info? f.type with
   |none=>simp[q]at h
   |some i=>
    cases G:l.mapM (λf=>(P.info? f.type).map λi=>(f.offset,i.size))with
    |none=>simp[q,G]at h
    |some ad=>
     simp[q,G]at h;subst h;rw[List.mapM_cons];simp only[Sem.run_bind,fx q,Result.andThen_ok,Sem.run_pure,ac _ G]
 have V:(E.mapM (λf=>do pure (f.offset,<- sizeOf f.type):Field->Sem (Nat×Nat))).run P w=.ok e.toArray w:=by
  rw[Array.mapM_eq_mapM_toList,Sem.run_map,U _ _ X];rfl
 simp only[Instr.build,zeroValue,Sem.run_bind,qx O,Result.andThen_ok,Z,Sem.run_pure,bQ Y,V];have I:(λx:Nat=>e.toArray[x]?)=(e[·]?):=by funext x;simp
 rw[I,M];rfl
theorem LW {M:Operand->Value}{r:PV}(h:pv P M o.op=some r)(G:r.cond)(w:World):(execOp M o).run P w=.ok (.value r.value) w:=by
 unfold execOp;generalize o.op=an at h;unfold pv at h;split at h
 ·simp only[Option.some.injEq]at h;subst h;rfl
 ·simp only[Option.some.injEq]at h;subst h;rfl
 ·rename_i c a b;split at h
  ·rename_i t x y H e bb;simp only[Option.some.injEq]at h;subst h;cases t<;>simp[H,e,bb,asBool,PV.value]
  ·rename_i t H _;simp only[Option.some.injEq]at h;subst h;cases t<;>simp[H,asBool,PV.value]
  ·cases h
 ·rename_i an t x y _;split at h
  ·cases h
  obtain⟨h1,a0⟩:=Ws h;refine iK ?_;rw[Sem.run_bind,a0];exact h1.run G w
 ·rename_i an t x;unfold unV at h;split at h
  ·rename_i e;simp only[Option.some.injEq]at h;subst h;simp[e,Op.unary,Op.intArith,PV.value]
  ·rename_i e;simp only[Option.some.injEq]at h;subst h;simp[e,Op.unary,PV.value]
  ·cases h
 ·rename_i s d x;split at h
  ·rename_i ag ad e;simp only[Option.some.injEq]at h;subst h;refine iK ?_;simp[e,convert,bQ ag,bQ ad,Conv.intToInt,PV.value]
  ·rename_i ag ad e;simp only[Option.some.injEq]at h;subst h;refine iK ?_;simp[e,convert,bQ ag,bQ ad,PV.value]
  ·cases h
 ·rename_i t i;split at h
  ·rename_i vs a9;cases q:vs[i]? with
   |none=>simp[q]at h
   |some v=>simp[q]at h;subst h;refine iK ?_;simp[a9,Instr.extract,q,PV.value]
  ·cases h
 ·rename_i t x f;split at h
  ·cases h
  split at h
  ·rename_i ac cs D e;cases E:ac[f]? with
   |none=>simp[E]at h
   |some Z=>
    simp only[E,Option.bind_some]at h;cases X:LV P Z.type cs Z.offset with
    |none=>simp[X]at h
    |some v=>simp[X]at h;subst h;refine iK ?_;simp[e,Instr.field,bQ D,E,asAgg,yl X,PV.value]
  ·cases h
 ·rename_i t x f;split at h
  ·rename_i ac a D e;split at h
   ·rename_i Z E;split at h
    ·rename_i i q;split at h
     ·cases h
     ·rename_i ar;simp only[Option.some.injEq]at h;subst h;cases a with
      |none=>cases G
      |some a=>refine iK ?_;rw[e];exact Lk D E q ar a w
    ·cases h
   ·cases h
  ·cases h
 ·rename_i t x i;split at h
  ·rename_i aj b n c k j D e V;split at h
   ·rename_i bk q;simp only[Option.some.injEq]at h;subst h;cases b with
    |none=>cases G.2
    |some a=>refine iK ?_;rw[e,V];exact Jw D q a n c k j G.1 w
   ·cases h
  ·rename_i n aj a k j D e V;split at h
   ·rename_i bk q;simp only[Option.some.injEq]at h;subst h;cases a with
    |none=>cases G.2
    |some a=>refine iK ?_;rw[e,V];exact Jv D q a k j G.1 w
   ·cases h
  ·cases h
 ·rename_i t x i;split at h
  ·rename_i s k j D e V;simp only[Option.some.injEq]at h;subst h;refine iK ?_;rw[e,V];exact Sb D s k j G w
  ·cases h
 ·rename_i t x bq q;refine iK ?_;exact(Tv h).run G w
 ·rename_i x;split at h
  ·rename_i a e;simp only[Option.some.injEq]at h;subst h;cases a with
   |none=>cases G
   |some a=>simp[e,PV.value]
  ·rename_i e;simp only[Option.some.injEq]at h;subst h;simp[e,PV.value]
  ·cases h
 ·simp only[Option.some.injEq]at h;subst h;rfl
 ·rename_i t x;split at h
  ·cases h
  ·cases h
  ·rename_i d bc D;simp only[Option.some.injEq]at h;subst h;refine iK ?_;unfold Instr.makeInterface;rw[Sem.run_bind,bQ D];cases d<;>first|rfl|exact absurd rfl (bc _)
 ·rename_i t parts;split at h
  ·cases h
  split at h
  ·rename_i z ac I D;split at h
   ·rename_i bj X;cases q:P.info? t with
    |none=>simp[q]at I
    |some i=>
     simp[q]at I;cases E:Instr.fill (bj[·]?) z.cells (parts.toList.map λp=>(p.1,M p.2))with
     |none=>simp[E]at h
     |some cs=>
      simp[E]at h;subst h;refine iK ?_;exact K4 q I D X (by simpa using E) w
   ·cases h
  ·rename_i z n aj I D;split at h
   ·rename_i al a8;cases q:P.info? t with
    |none=>simp[q]at I
    |some i=>
     simp[q]at I;cases E:Instr.fill (λj=>some (j*al.size,al.size)) z.cells (parts.toList.map λp=>(p.1,M p.2))with
     |none=>simp[E]at h
     |some cs=>
      simp[E]at h;subst h;refine iK ?_;simp only[Instr.build,zeroValue,Sem.run_bind,qx q,Result.andThen_ok,I,Sem.run_pure,bQ D,fx a8];have U:(parts.map λp=>(p.1,M p.2)).toList=parts.toList.map λp=>(p.1,M p.2):=by simp
      rw[U,E];rfl
   ·cases h
  ·cases h
 ·rename_i args O;split at h
  ·rename_i x t e H;have Y:args= #[x]:=by rw[<- Array.toArray_toList (xs:=args),e]
   have U:O= #[t]:=by rw[<- Array.toArray_toList (xs:=O),H]
   subst Y U;simp only[resolve,invoke,builtin,Sem.run_bind,Sem.run_pure,Result.andThen_ok,List.map_toArray,map_cons,map_nil,(W4 h).run G w]
  ·cases h
 ·rename_i args O;split at h
  ·rename_i x t e H;have Y:args= #[x]:=by rw[<- Array.toArray_toList (xs:=args),e]
   have U:O= #[t]:=by rw[<- Array.toArray_toList (xs:=O),H]
   subst Y U;simp only[resolve,invoke,builtin,Sem.run_bind,Sem.run_pure,Result.andThen_ok,List.map_toArray,map_cons,map_nil,(Wv h).run G w]
  ·cases h
 ·cases h
def Q5 (b:Nat):Value:=.pointer (some ⟨b,0,none⟩)
def alV (P:Program)(ρ:Operand->Value)(op:Op):Option (Obj×(Nat->Value)):=
 match op with
 |.alloc e=>match(P.info? e).bind (·.zero)with
  |some z=>some (.cells z.cells e,Q5)
  |none=>none
 |.box e x=>some (.cells (ρ x).cells e,Q5)
 |.buildSlice t len parts=>if YU P t (parts.toList.map (·.1)) && !parts.isEmpty then none else match P.underlying t with
  |some (.slice e)=>match P.info? e with
   |some i=>match i.zero with
    |some z=>if len*i.size>2 ^ 24 then none else
     match Instr.fill (λj=>some (j*i.size,i.size)) ((Array.range (len*i.size)).map ((if len*i.size=0 then #[]else z.cells)[· % (if len*i.size=0 then #[]else z.cells).size]!)) (parts.toList.map λp=>(p.1,ρ p.2))with
     |some cs=>some (.cells cs e,λb=>.slice (some ⟨b,0,none⟩) len len)
     |none=>none
    |none=>none
   |none=>none
  |_=>none
 |.makeMap _ none=>some (.map #[] 0,λb=>.map (some b))
 |_=>none
theorem QQ (h:alV P y o.op=some (I,J))(w:World):
 (execOp y o).run P w=.ok (.value (J w.heap.size)) (w.alloc I):=by
 unfold execOp;generalize o.op=U at h;unfold alV at h;split at h
 ·rename_i G;cases e:P.info? G with
  |none=>simp[e]at h
  |some i=>
   cases q:i.zero with
   |none=>simp[e,q]at h
   |some z=>
    simp[e,q]at h;obtain⟨rfl,rfl⟩:=h;refine iK ?_;simp only[Instr.alloc,zeroValue,Sem.run_bind,qx e,Result.andThen_ok,q,Sem.run_pure];rfl
 ·simp only[Option.some.injEq,Prod.mk.injEq]at h;obtain⟨rfl,rfl⟩:=h;rfl
 ·rename_i t len parts;split at h
  ·cases h
  split at h
  ·rename_i G O;split at h
   ·rename_i i e;split at h
    ·rename_i z q;split at h
     ·cases h
     ·rename_i M;split at h
      ·rename_i cs E;simp only[Option.some.injEq,Prod.mk.injEq]at h;obtain⟨rfl,rfl⟩:=h;refine iK ?_;have H:(parts.map λp=>(p.1,y p.2)).toList=parts.toList.map λp=>(p.1,y p.2):=by simp
       simp only[Instr.buildSlice,Sem.run_bind,bQ O,Result.andThen_ok,fx e,if_neg M];by_cases D:len*i.size=0
       ·simp only[D,if_true]at E;simp only[D,if_true,pure_bind,H,E];rfl
       ·simp only[if_neg D]at E;simp only[if_neg D,zeroValue,Sem.run_bind,qx e,q,Sem.run_pure,Result.andThen_ok,H,E];rfl
      ·cases h
    ·cases h
   ·cases h
  ·cases h
 ·simp only[Option.some.injEq,Prod.mk.injEq]at h;obtain⟨rfl,rfl⟩:=h;rfl
 ·cases h
inductive RW where
 |rd (s:Sem Value)
 |wr (s:Sem Value)
 |st (s:Sem Unit)
def ZV (P:Program)(t:TypeId):Bool:=match P.underlying t with|some (.slice _)=>true|_=>false
def YK (P:Program)(ρ:Operand->Value)(o:Oper):Option RW:=
 match o.op with
 |.load t x=>some (.rd (Instr.loadAt t (ρ x)))
 |.index t x i=>some (.rd (Instr.index t (ρ x) (ρ i)))
 |.lookup t x i ok=>some (.rd (Instr.lookup t (ρ x) (ρ i) ok))
 |.convert s d x=>if ZV P d then some (.wr (convert s d (ρ x)))else some (.rd (convert s d (ρ x)))
 |.binOp op t x y _=>some (.rd (do eqGuard op t x y (ρ x) (ρ y);binOp op t (ρ x) (ρ y)))
 |.typeAssert x a b ok=>some (.rd (Instr.typeAssert (ρ x) a b ok))
 |.makeSlice t l c=>some (.wr (Instr.makeSlice t (ρ l) (ρ c)))
 |.range t x=>some (.wr (Instr.range t (ρ x)))
 |.next it b=>some (.wr (Instr.next (ρ it) b o.type))
 |.store t x v=>some (.st (Instr.storeAt t (ρ x) (ρ v)))
 |.mapUpdate t m k v=>some (.st (Instr.mapUpdate t (ρ m) (ρ k) (ρ v)))
 |.insert t m k v=>some (.st (Instr.mapUpdate t (ρ m) (ρ k) (ρ v)))
 |.call { callee:=.builtin .len,args,argTypes } =>some (.rd (Builtin.len_ argTypes o.type (args.map ρ)))
 |.call { callee:=.builtin .min,args,argTypes } =>some (.rd (Builtin.min_ argTypes o.type (args.map ρ)))
 |.call { callee:=.builtin .max,args,argTypes } =>some (.rd (Builtin.max_ argTypes o.type (args.map ρ)))
 |.call { callee:=.builtin .append,args,argTypes } =>some (.wr (Builtin.append_ argTypes o.type (args.map ρ)))
 |.call { callee:=.builtin .copy,args,argTypes } =>some (.wr (Builtin.copy_ argTypes o.type (args.map ρ)))
 |.call { callee:=.builtin .delete,args,argTypes } =>some (.wr (Builtin.delete_ argTypes o.type (args.map ρ)))
 |.call { callee:=.builtin .clear,args,argTypes } =>some (.wr (Builtin.clear_ argTypes o.type (args.map ρ)))
 |.field t x f=>if XP P t=true then some (.rd (Instr.field t (ρ x) f))else none
 |.build t parts=>if YU P t (parts.toList.map (·.1))=true then some (.rd (Instr.build t (parts.map λp=>(p.1,ρ p.2))))else none
 |.buildSlice t len parts=>if YU P t (parts.toList.map (·.1)) && !parts.isEmpty then some (.wr (Instr.buildSlice t len (parts.map λp=>(p.1,ρ p.2))))else none
 |.entry it=>some (.rd (Instr.entry (ρ it)))
 |.mapEntry t m k=>some (.wr (Instr.mapEntry t (ρ m) (ρ k)))
 |.entryStore t m k v=>some (.st (Instr.entryStore t (ρ m) (ρ k) (ρ v)))
 |_=>none
def W9 (P:Program)(ρ:Operand->Value)(o:Oper):Option (Sem Value):=match o.op with
 |.next it b=>some (Instr.next (ρ it) b o.type)
 |_=>none
def RW.next:RW->Sem Next
 |.rd s=>vN s
 |.wr s=>vN s
 |.st s=>uN s
theorem FF {r:RW}(h:YK P y o=some r):execOp y o=r.next:=by
 unfold YK at h;unfold execOp;split at h
 case h_4=>split at h<;>(simp only[Option.some.injEq]at h;subst h;simp only[*];rfl)
 case h_20=>split at h<;>first|(cases h;done)|(simp only[Option.some.injEq]at h;subst h;simp only[*];rfl)
 case h_21=>split at h<;>first|(cases h;done)|(simp only[Option.some.injEq]at h;subst h;simp only[*];rfl)
 case h_22=>split at h<;>first|(cases h;done)|(simp only[Option.some.injEq]at h;subst h;simp only[*];rfl)
 case h_26=>cases h
 all_goals(simp only[Option.some.injEq]at h;subst h;simp only[*];rfl)
theorem O0 {s:Sem Value}(h:W9 P y o=some s):execOp y o=vN s:=by
 unfold W9 at h;unfold execOp;split at h
 ·simp only[Option.some.injEq]at h;subst h;simp only[*];rfl
 ·cases h
def xH (P:Program)(f:FuncId):Bool:=
 match P.funcs[f]? with
 |some fn=>fn.body.isSome && !(fn.name== "runtime.NumGoroutine")
 |none=>false
def zT (P:Program)(ρ:Operand->Value)(op:Op):Option (FuncId×Array Value):=
 match op with
 |.call { callee:=.value f,args,.. } =>match ρ f with
  |.func (.func f) first captured=>if xH P f then some (f,(first.toList++(args.toList.map ρ++captured.toList)).toArray)else none
  |_=>none
 |_=>none
theorem I2 {f:FuncId}(h:zT P y o.op=some (f,H))(w:World):
 (execOp y o).run P w=.ok (.enter f H) w:=by
 unfold execOp;generalize o.op=U at h;unfold zT at h;split at h
 ·rename_i g G _;split at h
  ·rename_i M first I D
   split at h
   ·rename_i e;simp only[Option.some.injEq,Prod.mk.injEq]at h;obtain⟨rfl,rfl⟩:=h;unfold xH at e;split at e
    ·rename_i q E;simp only[Bool.and_eq_true,Bool.not_eq_true']at e;simp only[resolve,D,Deferred.ofValue,Sem.run_bind,Sem.run_pure,Result.andThen_ok,invoke,callFunc,run_program,E,e.2,Bool.false_eq_true,if_false];have:q.body.isNone=false:=by cases O:q.body<;>simp_all
     simp only[this,Bool.false_eq_true,if_false,Sem.run_pure];congr 2;apply Array.ext';simp
    ·cases e
   ·cases h
  ·cases h
 ·cases h
def s0V:Value->S0
 |.int k _=>.int k
 |.bool _=>.bool
 |.string _=>.str
 |.slice _ _ _=>.slice
 |.pointer _=>.ptr
 |.map _=>.map
 |_=>.any
def shV:Value->Sh
 |.agg cs=>if Nat.ble 12 cs.size=true then .one .any else .agg (cs.toList.map s0V)
 |v=>.one (s0V v)
def shT (P:Program)(t:TypeId):List Sh:=
 match(P.info? t).bind (·.zero)with
 |some (.tuple vs)=>vs.toList.map shV
 |some v=>[shV v]
 |none=>[.one .any]
abbrev Fr:=List (Nat×Value)
def xy:Fr->Nat->Value
 |[],_=>undef
 |(k,v)::r,t=>bif Nat.beq k t then v else xy r t
def o8 (n:Nat)(fr:Fr)(d:Option Tmp)(v:Value):Fr:=match d with
 |none=>fr
 |some t=>bif Nat.ble (t+1) n then(t,v)::fr else fr
def evF (fr:Fr):Operand->Value
 |.tmp t=>xy fr t
 |.const v=>v
 |.global g=>.pointer (some ⟨g,0,none⟩)
 |.func f=>.func (.func f) #[] #[]
structure Rep (n:Nat)(fr:Fr)(a:Act):Prop where
 size:a.tmps.size=n
 defers:a.defers=[]
 get:∀t,a.tmps.getD t undef=xy fr t
theorem Rep.eval {fr:Fr}{a:Act}(h:Rep n fr a):a.eval=evF fr:=by
 funext x;cases x<;>first|rfl|exact h.get _
theorem Rep.put {E:Fr}{a:Act}(h:Rep n E a)(d:Option Tmp)(v:Value):Rep n (o8 n E d v) (a.put d v):=by
 cases d with
 |none=>exact h
 |some t=>
  refine⟨by simp[Act.put,h.size],h.defers,λi=>?_⟩;have G:=h.get i;have H:=h.size;simp only[Act.put,o8];cases q:Nat.ble (t+1) n with
  |true=>
   have e:t<a.tmps.size:=by have h1:t+1 <=n:=Nat.le_of_ble_eq_true q;rw[H];exact h1
   simp only[cond_true,xy];by_cases D:t=i
   ·subst D;simp[e]
   ·have I:Nat.beq t i=false:=by cases q:Nat.beq t i<;>first|rfl|exact absurd (Nat.eq_of_beq_eq_true q) D
    rw[I,cond_false,<- G];simp[Array.getD_eq_getD_getElem?,Array.getElem?_setIfInBounds_ne D]
  |false=>
   have e: ¬ t<a.tmps.size:=by
    intro e;have:Nat.ble (t+1) n=true:=Nat.ble_eq_true_of_le (by rw[H]at e;exact e);rw[this]at q;cases q
   simp only[cond_false];rw[<- G];have:a.tmps.setIfInBounds t v=a.tmps:=by
    simp[Array.setIfInBounds,e]
   rw[this]
def ZW:Op->Nat
 |.binOp .quo .. =>2
 |.binOp .rem .. =>2
 |.binOp .. =>1
 |.slice .. =>1
 |_=>0
def nmK (op:Op)(v:Value)(K:Value->Prop):Prop:=match ZW op,v with
 |1,.string s=>∀l:lU,l=toL s->K (.string (mkS l))
 |2,.int k n=>∀m:Int,m=n->K (.int k m)
 |_,v=>K v
theorem A4 {e:Op}{v:Value}{K:Value->Prop}(h:nmK e v K):K v:=by
 unfold nmK at h;split at h
 ·exact h _ rfl
 ·exact h _ rfl
 ·exact h
def Zt (P:Program)(o:Oper):List Sh:=match o.op with
 |.range .. =>[.one .ptr]
 |.entry _=>[.one .any,.one .any]
 |_=>shT P o.type
def WOp (P:Program)(n:Nat)(o:Oper)(a:Fr)(K:Fr->World->Prop)(w:World):Prop:=
 match pv P (evF a) o.op with
 |some (.val v)=>nmK o.op v λv=>K (o8 n a o.dst v) w
 |some (.part c v)=>c/\nmK o.op v λv=>K (o8 n a o.dst v) w
 |none=>match alV P (evF a) o.op with
  |some (obj,mk)=>∀(b:Nat) (w':World),b=w.heap.size->w'=w.alloc obj->K (o8 n a o.dst (mk b)) w'
  |none=>match W9 P (evF a) o with
   |some s=>(∃w':World,s.run P w=.ok (.tuple #[.bool false]) w'/\K (o8 n a o.dst (.tuple #[.bool false])) w')\/(∃(w':World) (k v:Value),s.run P w=.ok (.tuple #[.bool true,k,v]) w'/\K (o8 n a o.dst (.tuple #[.bool true,k,v])) w')
   |none=>match YK P (evF a) o with
    |some (.rd s)=>exR (Zt P o) λv=>s.run P w=.ok v w/\K (o8 n a o.dst v) w
    |some (.wr s)=>∃w':World,exR (Zt P o) λv=>s.run P w=.ok v w'/\K (o8 n a o.dst v) w'
    |some (.st s)=>∃w':World,s.run P w=.ok () w'/\K (o8 n a o.dst undef) w'
    |none=>match zT P (evF a) o.op with
     |some (f,args)=>Calls P f args w λe w'=>exR (shT P o.type) λv=>e=.returned v/\K (o8 n a o.dst v) w'
     |none=>False
theorem VF {E:Fr}{a:Act}{K:Fr->World->Prop}{H:Act->World->Prop}{Q:Exit->Act->World->Prop}(U:Rep n E a)(h:WOp P n o E K w)
 (q:∀v w',K (o8 n E o.dst v) w'->H (a.put o.dst v) w'):o.wp P a w H Q:=by
 unfold WOp at h;rw[<- U.eval]at h;unfold Oper.wp;split at h
 ·rename_i v G;rw[LW G trivial];exact q _ _ (A4 h)
 ·rename_i c v G;rw[LW G h.1];exact q _ _ (A4 h.2)
 ·split at h
  ·rename_i obj mk O;rw[QQ O];exact q _ _ (h _ _ rfl rfl)
  ·split at h
   ·rename_i s D;rcases h with⟨w',e,h⟩|⟨w',k,v,e,h⟩
    ·rw[O0 D,iK e];exact q _ _ h
    ·rw[O0 D,iK e];exact q _ _ h
   ·split at h
    ·rename_i s D;obtain⟨v,e,h⟩:=wJ h;rw[FF D,RW.next,iK e];exact q _ _ h
    ·rename_i s D;obtain⟨w',h⟩:=h;obtain⟨v,e,h⟩:=wJ h;rw[FF D,RW.next,iK e];exact q _ _ h
    ·rename_i s D;obtain⟨w',e,h⟩:=h;rw[FF D,RW.next,YI e];exact q _ _ h
    ·split at h
     ·rename_i f args I;rw[I2 I];exact h.mono λV w' M=>by
       obtain⟨v,e,h⟩:=wJ M;subst e;exact q _ _ h
     ·cases h
def af (b:Bool)(X Y:Prop):Prop:=match b with|true=>X|false=>Y
theorem af.of {b:Bool}{e Y:Prop}(q:b=true->e)(D:b=false->Y):af b e Y:=by
 cases b
 ·exact D rfl
 ·exact q rfl
theorem af.yes {b:Bool}{e Y:Prop}(q:b=true)(D:e):af b e Y:=by subst q;exact D
theorem af.no {b:Bool}{e Y:Prop}(q:b=false)(D:Y):af b e Y:=by subst q;exact D
theorem Rep.again {e:Fr}{a:Act}(h:Rep n e a){t:Tmp}{v:Value}(D:xy e t=v):Rep n (o8 n e (some t) v) a:=by
 refine⟨h.size,h.defers,λi=>?_⟩;rw[h.get i];simp only[o8];cases E:Nat.ble (t+1) n with
 |false=>rfl
 |true=>
  simp only[cond_true,xy];cases q:Nat.beq t i with
  |false=>rfl
  |true=>rw[<- Nat.eq_of_beq_eq_true q];exact D
def WG (n:Nat)(ops:Array Oper)(g:Option (Nat×Bool))(a:Fr)(yes no:Fr->Prop):Prop:=
 match g with
 |none=>yes a
 |some (j,want)=>match(ops[j]?).bind (·.dst)with
  |none=>no a
  |some t=>match xy a t with
   |.bool b=>
    af b (match want with|true=>yes (o8 n a (some t) (.bool true))|false=>no (o8 n a (some t) (.bool true)))
     (match want with|true=>no (o8 n a (some t) (.bool false))|false=>yes (o8 n a (some t) (.bool false)))
   |_=>no a
theorem QN {q:Fr}{a:Act}{yes U:Fr->Prop}(E:Rep n q a)(h:WG n D o.guard q yes U):
 ∃H,Rep n H a/\((Region.wanted o (yielded D a.tmps)=true/\yes H)\/(Region.wanted o (yielded D a.tmps)=false/\U H)):=by
 unfold WG at h;unfold Region.wanted yielded;split at h
 ·rename_i M;rw[M];exact⟨q,E,.inl ⟨rfl,h⟩⟩
 ·rename_i j Y M;rw[M];simp only;split at h
  ·rename_i I;rw[I];exact⟨q,E,.inr ⟨rfl,h⟩⟩
  ·rename_i t I;rw[I];simp only[Option.bind_some];have e:=E.get t;split at h
   ·rename_i b G;rw[G]at e;have V:a.tmps[t]? =some (.bool b):=by
     rw[Array.getD_eq_getD_getElem?]at e;cases O:a.tmps[t]? with
     |none=>rw[O]at e;simp[undef]at e
     |some v=>rw[O]at e;simp at e;rw[e]
    rw[V];refine⟨_,E.again G,?_⟩;cases b<;>cases Y<;>simp[af]at h<;>simp[h]
   ·rename_i X;refine⟨q,E,.inr ⟨?_,h⟩⟩;split
    ·rename_i b G;rw[Array.getD_eq_getD_getElem?,G]at e;exact absurd e.symm (X b)
    ·rfl
def Ia (l:List Oper):List Tmp:=l.filterMap (·.dst)
structure ft (S:List Tmp)(a a':Act):Prop where
 tmps:∀i,i∉S->a'.tmps.getD i undef=a.tmps.getD i undef
theorem ft.refl (S:List Tmp)(a:Act):ft S a a:=⟨λ_ _=>rfl⟩
theorem ft.mono {S e:List Tmp}{a a':Act}(h:ft S a a')(E:∀t,t∈S->t∈e):ft e a a':=
 ⟨λi q=>h.tmps i λD=>q (E i D)⟩
theorem ft.trans {S:List Tmp}{a b c:Act}(h:ft S a b)(k:ft S b c):ft S a c:=
 ⟨λi e=>(k.tmps i e).trans (h.tmps i e)⟩
theorem ft.put {S:List Tmp}(a:Act)(d:Option Tmp)(v:Value)(h:∀t,d=some t->t∈S):ft S a (a.put d v):=by
 cases d with
 |none=>exact ft.refl _ _
 |some t=>
  refine⟨λi q=>?_⟩;have:t≠i:=λe=>q (e▸h t rfl);simp[Act.put,Array.getD_eq_getD_getElem?,Array.getElem?_setIfInBounds_ne this]
def WO (P:Program)(n:Nat)(ops:Array Oper):List Oper->(Fr->World->Prop)->Fr->World->Prop
 |[],K,a,w=>K a w
 |o::rest,K,a,w=>WG n ops o.guard a (λa=>WOp P n o a (WO P n ops rest K) w) (λa=>WO P n ops rest K (o8 n a o.dst undef) w)
theorem C3 {q:List Oper} :∀t,t∈Ia q->t∈Ia (o::q):=by
 intro t e;simp only[Ia,List.mem_filterMap]at e ⊢;obtain⟨x,E,D⟩:=e;exact⟨x,mem_cons_of_mem _ E,D⟩
theorem xR {q:List Oper} :∀t,o.dst=some t->t∈Ia (o::q):=by
 intro t e;simp only[Ia,List.mem_filterMap];exact⟨o,mem_cons_self,e⟩
theorem T8 {Q:Exit->Act->World->Prop} :∀{l:List Oper} {K:Fr->World->Prop} {e:Fr} {a:Act} {w:World},Rep n e a->WO P n D l K e w->
 (∀G a' w',Rep n G a'->ft (Ia l) a a'->K G w'->Q .normal a' w')->wpList P D Q l a w
 |[],K,e,a,w,O,h,q=>q _ _ _ O (ft.refl _ _) h
 |o::Y,K,e,a,w,O,h,q=>by
  unfold wpList;obtain⟨G,U,⟨V,h⟩|⟨V,h⟩⟩:=QN O h
  ·rw[if_pos V];exact .inl (VF U h λv w' h'=>T8 (U.put o.dst v) h' λE a' X I H M=>q E a' X I ((ft.put a o.dst v xR).trans (H.mono C3)) M)
  ·rw[if_neg (by simp[V])];exact T8 (U.put o.dst _) h λE a' X I H M=>q E a' X I ((ft.put a o.dst _ xR).trans (H.mono C3)) M
def Y4 (P:Program)(n:Nat)(w0:World)(o:Oper)(a:Fr)(K:Fr->Prop):Prop:=
 match pv P (evF a) o.op with
 |some (.val v)=>nmK o.op v λv=>K (o8 n a o.dst v)
 |some (.part c v)=>c/\nmK o.op v λv=>K (o8 n a o.dst v)
 |none=>match YK P (evF a) o with
  |some (.rd s)=>exR (shT P o.type) λv=>(∀w1,Below w0.heap.size w0 w1->s.run P w1=.ok v w1)/\K (o8 n a o.dst v)
  |some _=>False
  |none=>match zT P (evF a) o.op with
   |some (f,args)=>exR (shT P o.type) λv=>(∀w1,Below w0.heap.size w0 w1->Calls P f args w1 λe w2=>e=.returned v/\Below w0.heap.size w1 w2)/\K (o8 n a o.dst v)
   |none=>False
theorem Wb {w0:World}{D:Fr}{a:Act}{K:Fr->Prop}{K':Act->Prop}(M:Rep n D a)(h:Y4 P n w0 o D K)(e:∀v,K (o8 n D o.dst v)->K' (a.put o.dst v)):
 o.quiet P a (Below w0.heap.size w0) K':=by
 unfold Y4 at h;rw[<- M.eval]at h;unfold Oper.quiet Oper.quietAt;split at h
 ·rename_i v E;exact⟨v,λw _=>by rw[LW E trivial];exact⟨rfl,rfl⟩,e _ (A4 h)⟩
 ·rename_i c v E;exact⟨v,λw _=>by rw[LW E h.1];exact⟨rfl,rfl⟩,e _ (A4 h.2)⟩
 ·split at h
  ·rename_i s O;obtain⟨v,G,h⟩:=wJ h;exact⟨v,λw q=>by rw[FF O,RW.next,iK (G w q)];exact⟨rfl,rfl⟩,e _ h⟩
  ·cases h
  ·split at h
   ·rename_i f args I;obtain⟨v,G,h⟩:=wJ h;exact⟨v,λw q=>by rw[I2 I];exact⟨rfl,(G w q).mono λU V H=>⟨H.1,q.trans H.2⟩⟩,e _ h⟩
   ·cases h
def WQ (P:Program)(n:Nat)(w0:World)(ops:Array Oper):List Oper->(Fr->Prop)->Fr->Prop
 |[],K,a=>K a
 |o::rest,K,a=>WG n ops o.guard a (λa=>Y4 P n w0 o a (WQ P n w0 ops rest K)) (λa=>WQ P n w0 ops rest K (o8 n a o.dst undef))
theorem T9 {w0:World}{Q:Act->Prop} :∀{l:List Oper} {K:Fr->Prop} {e:Fr} {a:Act},Rep n e a->WQ P n w0 D l K e->
 (∀G a',Rep n G a'->ft (Ia l) a a'->K G->Q a')->wpQuiet P D (Below w0.heap.size w0) Q l a
 |[],K,e,a,O,h,q=>q _ _ O (ft.refl _ _) h
 |o::X,K,e,a,O,h,q=>by
  unfold wpQuiet;obtain⟨G,U,⟨V,h⟩|⟨V,h⟩⟩:=QN O h
  ·rw[if_pos V];exact Wb U h λv h'=>T9 (U.put o.dst v) h' λE a' I H M=>q E a' I ((ft.put a o.dst v xR).trans (H.mono C3)) M
  ·rw[if_neg (by simp[V])];exact T9 (U.put o.dst _) h λE a' I H M=>q E a' I ((ft.put a o.dst _ xR).trans (H.mono C3)) M
section
variable {P:Program} {ops:Array Oper} {md:Region.Mode} {C:World->Prop}
def Gh (P:Program)(md:Region.Mode)(ops:Array Oper)(C:World->Prop)(n:Nat)(L:Array Bool->Act->Prop):Nat->Array Bool->Act->Prop
 |0,listed,a=>L listed a
 |f+1,listed,a=>Region.ready md ops listed≠[]/\∀i∈Region.ready md ops listed,i<n/\qOp P ops C i (Gh P md ops C n L f (listed.setIfInBounds i true)) a
theorem wE {n g:Nat}{L:Array Bool->Act->Prop}{Q':Exit->Act->World->Prop}(q:∀listed a w,C w->L listed a->wpAny P md ops Q' g listed a w):
 ∀(f:Nat) (listed:Array Bool) (a:Act) (w:World),C w->Gh P md ops C n L f listed a->wpAny P md ops Q' (f+g) listed a w
 |0,listed,a,w,e,h=>by rw[Nat.zero_add];exact q _ _ _ e h
 |f+1,listed,a,w,e,h=>by
  rw[show f+1+g=(f+g)+1 by omega];exact⟨λD=>absurd D h.1,λi E=>wpOp_of_qOp e (λa' w' G h'=>wE q f _ a' w' G h') (h.2 i E).2⟩
theorem KP {I:Oper}{v:Value}{L:Array Bool->Act->Prop}(Y:ops[i]? =some I)(a8:∀(j:Nat) (o:Oper) cs b,ops[j]? =some o->o.op≠.select cs b)
 (a0:Region.sinkB md ops n=true) (ad:Region.chainB md ops n=true) (ar:n<ops.size) (aj:i<n)
 (bj:∀listed a,L listed a->∀j∈Region.ready md ops listed,n <=j):
 ∀(f:Nat) (listed:Array Bool) (a:Act),HeadInv md ops n listed->
  (∀j H,ops[j]? =some H->j≠i->listed.getD j true=false->(∀e∈H.after,Region.binds md e=true->e.on≠i)->I.apart ops H=true)->
  i∈Region.ready md ops listed->YieldsIn P ops C I v a->
  Gh P md ops C n L f (listed.setIfInBounds i true) (a.put I.dst v)->Gh P md ops C n L (f+1) listed a:=by
 intro f;induction f with
 |zero=>
  intro listed a X _ D V M;have G:=(mem_ready.1 D).1;refine⟨λh=>(by rw[h]at D;cases D),λj E=>?_⟩;have U:j<n:=by
   rcases Nat.lt_or_ge j n with h|h
   ·exact h
   ·exact absurd E (tail_waits a0 ad ar X _ i rfl aj G j h)
  refine⟨U,?_⟩;by_cases q:j=i
  ·subst q;exact V.qOp Y M
  ·have:=bj _ _ M j (ready_mono E q);omega
 |succ f b3=>
  intro listed a X ag D V M;have G:=(mem_ready.1 D).1;refine⟨λh=>(by rw[h]at D;cases D),λj E=>?_⟩;have U:j<n:=by
   rcases Nat.lt_or_ge j n with h|h
   ·exact h
   ·exact absurd E (tail_waits a0 ad ar X _ i rfl aj G j h)
  refine⟨U,?_⟩;by_cases q:j=i
  ·subst q;exact V.qOp Y M
  ·have h1:=(M.2 j (ready_mono E q)).2;obtain⟨an,H,Z,bb⟩:=mem_ready.1 E;have b2:∀e∈H.after,Region.binds md e=true->e.on≠i:=λe bk bc heq=>by
    have h1:=bb e bk bc;rw[heq,getD_both G]at h1;cases h1
   have a9:=qOp_put Z (ag j H Z q an b2) (λcs b=>a8 i I cs b Y) (λcs b=>a8 j H cs b Z) V h1;have bq:∀k O,ops[k]? =some O->k≠i->(listed.setIfInBounds j true).getD k true=false->
    (∀e∈O.after,Region.binds md e=true->e.on≠i)->I.apart ops O=true:=λk O bs b0 G b1=>by
    refine ag k O bs b0 ?_ b1;by_cases al:j=k
    ·subst al;exact an
    ·rw[getD_set_ne true al]at G;exact G
   refine qOp_mono (λa' ac=>b3 (listed.setIfInBounds j true) a' (X.set E U) bq (ready_mono D (Ne.symm q)) ac.1 ?_) a9;rw[Array.setIfInBounds_comm _ _ q];exact ac.2
theorem Gi {n g:Nat}{D:Act->Prop}(U:Region.noSelect ops=true)(O:Region.sinkB md ops n=true)(E:Region.chainB md ops n=true)(I:n<ops.size):
 ∀(l:List Oper) (k:Nat) (listed:Array Bool) (a:Act),(∀j,j<l.length->l[j]? =ops[k+j]?)->k+l.length=n->HeadInv md ops n listed->
 Region.lexHead md ops g l.length k listed=true->wpQuiet P ops C D l a->
 Gh P md ops C n (λX a'=>Region.seqB md ops g n X=true/\D a') l.length listed a
 |[],k,listed,a,_,q,_,hB,h=>by
  have:k=n:=by simpa using q
  subst this;exact⟨by simpa[Region.lexHead]using hB,h⟩
 |o::l,k,listed,a,H,q,V,hB,h=>by
  have e:ops[k]? =some o:=by simpa using(H 0 (by simp)).symm
  simp only[length_cons,Region.lexHead,Bool.and_eq_true]at hB;obtain⟨⟨ag,ad⟩,Y⟩:=hB;have G:k<n:=by simp only[length_cons]at q;omega
  have M:k∈Region.ready md ops listed:=by simpa using ag
  have aj:qOp P ops C k (wpQuiet P ops C D l) a:=by unfold qOp;simp only[e];exact h
  obtain⟨v,al,Z⟩:=yieldsIn_of_qOp e aj;exact KP e (Region.noSelect_spec U) O E I G (λX a' ac=>seqB_ready ac.1) l.length listed a V (Region.free_spec e ad) M al
   (Gi U O E I l (k+1) _ _ (λj an=>by have:=H (j+1) (by simp;omega);simpa[Nat.add_assoc,Nat.add_comm 1 j]using this) (by simp only[length_cons]at q;omega) (V.set M G) Y Z)
theorem uQ {id:Nat}{Q:Exit->Act->World->Prop}{a:Act}(n:Nat)(V:P.follows .mixedOrders=true)(hB:Region.lexTailB .any ops n=true)(I:C { w with drawn:=w.drawn+1 })
 (h:wpQuiet P ops C (λa'=>∀w',C w'->wpList P ops Q (ops.toList.drop n) a' w') (ops.toList.take n) a):(Code.region id ops true).wp P Q a w:=by
 simp only[Region.lexTailB,Bool.and_eq_true,dTx]at hB;obtain⟨⟨⟨⟨Z,X⟩,Y⟩,M⟩,U⟩:=hB;have e:(ops.toList.take n).length=n:=by simp;omega
 have D:(ops.toList.drop n).length=ops.size-n:=by simp
 have ag:HeadInv .any ops n (Array.replicate ops.size false):=
  ⟨by simp,λj aj _ G=>(by rw[getD_replicate_false]at G;cases G),λt _ ac=>getD_in (by simpa using ac) (getD_replicate_false _ _)⟩
 have H:=Gi (C:=C) (md:=.any) (g:=ops.size-n) Z Y M X (ops.toList.take n) 0 _ a (λj E=>by
  have O:j<n:=by rw[e]at E;exact E
  simp[O]) (by simpa using e) ag (by rw[e];exact U) h
 refine wp_region_any V ?_;have:=wE (Q':=Q) (g:=ops.size-n) (λlisted a' w' ad q=>by
  have:=wpAny_of_seq (md:=.any) (Q':=Q) (ops.toList.drop n) n listed a' w' (λj=>by simp[List.getElem?_drop]) (by rw[D];exact q.1) (q.2 w' ad)
  rwa [D]at this) _ _ _ _ I H
 rw[e,show n+(ops.size-n)=ops.size by omega]at this;exact this
end
abbrev Al:=List (Nat×Obj)
def W8:Al->Nat->Prop->Prop
 |[],_,X=>X
 |p::r,k,X=>k≠p.1->W8 r k X
def RV:Al->World->Prop->Prop
 |[],_,X=>X
 |p::r,w,X=>w.heap[p.1]? =some p.2->RV r w X
theorem OZ {e:Prop} :∀{q:Al} {k:Nat},W8 q k e->(∀p∈q,p.1≠k)->e
 |[],_,h,_=>h
 |p::_,_,h,D=>OZ (h (λE=>D p mem_cons_self E.symm)) λH G=>D H (mem_cons_of_mem _ G)
theorem Lw {e:Prop} :∀{q:Al} {w:World},RV q w e->(∀p∈q,w.heap[p.1]? =some p.2)->e
 |[],_,h,_=>h
 |p::_,_,h,D=>Lw (h (D p mem_cons_self)) λG E=>D G (mem_cons_of_mem _ E)
def Zi:Op->Bool
 |.alloc _|.box _ _|.buildSlice _ _ _|.makeMap _ _=>true
 |_=>false
def XU:Op->Bool
 |.call { callee:=.value _,.. } =>true
 |_=>false
theorem Ol {e:Op}{r:Obj×(Nat->Value)}(h:alV P y e=some r):Zi e=true:=by
 unfold alV at h;split at h<;>first|rfl|cases h
theorem zU {e:Op}{r:FuncId×Array Value}(h:zT P y e=some r):XU e=true:=by
 unfold zT at h;split at h
 ·rfl
 ·cases h
theorem QP {e q:Operand->Value}{op:Op}(h:∀x∈op.operands,e x=q x):alV P e op=alV P q op:=by
 cases op<;>simp only[Op.operands]at h<;>try rfl
 case box D x=>simp only[alV];rw[h x (by simp)]
 case makeMap t r=>cases r<;>rfl
 case buildSlice t n ps=>
  have D:(ps.toList.map λp=>(p.1,e p.2))=ps.toList.map λp=>(p.1,q p.2):=
   List.map_congr_left λp E=>by rw[h p.2 (List.mem_toArray.2 (List.mem_map.2 ⟨p,E,rfl⟩))]
  simp only[alV];rw[D]
theorem M3 {e ρ':Operand->Value}{op:Op}(h:∀x∈op.operands,e x=ρ' x):zT P e op=zT P ρ' op:=by
 cases op<;>simp only[Op.operands]at h<;>try rfl
 case call c=>
  simp only[zT];obtain⟨callee,args,G⟩:=c;cases callee with
  |value f=>
   have D:e f=ρ' f:=h f (by simp[Call.operands]);have q:args.toList.map e=args.toList.map ρ':=List.map_congr_left λx E=>h x (by simp[Call.operands];right;simpa using E);simp only[D,q]
  |_=>rfl
section
variable {P:Program} {ops:Array Oper} {md:Region.Mode} {w0:World}
def KS (w0:World)(al:Al)(w:World):Prop:=Below w0.heap.size w0 w/\∀p∈al,w.heap[p.1]? =some p.2
theorem KS.step {e:Al}{w w':World}(h:KS w0 e w)(q:Below w.heap.size w w'):KS w0 e w':=by
 refine⟨h.1.trans (q.mono h.1.size),λp E=>?_⟩;have h1:=h.2 p E;have D:p.1<w.heap.size:=by
  rcases Nat.lt_or_ge p.1 w.heap.size with h'|h'
  ·exact h'
  ·rw[Array.getElem?_eq_none h']at h1;cases h1
 rw[q.block _ D,h1]
theorem KS.fresh {e:Al}(h:KS w0 e w):∀p∈e,p.1≠w.heap.size:=by
 intro p D q;have h1:=h.2 p D;rw[q,Array.getElem?_eq_none (Nat.le_refl _)]at h1;cases h1
theorem KS.alloc {q:Al}(h:KS w0 q w)(obj:Obj):KS w0 ((w.heap.size,obj)::q) (w.alloc obj):=by
 have h1:=h.step ((Below.refl w.heap.size w).alloc (Nat.le_refl _) obj);refine⟨h1.1,λp e=>?_⟩;rcases List.mem_cons.1 e with rfl|e
 ·show(w.heap.push obj)[w.heap.size]? =some obj;simp
 ·exact h1.2 p e
theorem AU (q:Al)(n:Nat):∃k,n <=k/\∀p∈q,p.1≠k:=by
 have key:∀q:Al,∃m,∀p∈q,p.1<m:=by
  intro q;induction q with
  |nil=>exact⟨0,λp e=>by cases e⟩
  |cons G r E=>
   obtain⟨m,D⟩:=E;refine⟨max m (G.1+1),λp e=>?_⟩;rcases List.mem_cons.1 e with rfl|e
   ·omega
   ·have:=D p e;omega
 obtain⟨m,D⟩:=key q;exact⟨max m n,by omega,λp e=>by have:=D p e;omega⟩
def VV (P:Program)(o:Oper)(a:Act)(w0:World)(v:Value):Prop:=∀w,Below w0.heap.size w0 w->(execOp a.eval o).run P w=.ok (.value v) w
def VK (P:Program)(o:Oper)(a:Act)(w0:World)(v:Value):Prop:=
 ∃f args,zT P a.eval o.op=some (f,args)/\∀w,Below w0.heap.size w0 w->Calls P f args w λe w'=>e=.returned v/\Below w.heap.size w w'
def YS (P:Program)(ops:Array Oper)(w0:World)(o:Oper)(v:Value)(a:Act):Prop:=
 (Region.wanted o (yielded ops a.tmps)=true/\(VV P o a w0 v\/VK P o a w0 v))\/(Region.wanted o (yielded ops a.tmps)=false/\v=undef)
def NS (P:Program)(ops:Array Oper)(o:Oper)(obj:Obj)(mk:Nat->Value)(a:Act):Prop:=
 Region.wanted o (yielded ops a.tmps)=true/\alV P a.eval o.op=some (obj,mk)
def sOp (P:Program)(ops:Array Oper)(w0:World)(i:Nat)(next:Al->Act->Prop)(al:Al)(a:Act):Prop:=match ops[i]? with
 |none=>False
 |some o=>(∃v,YS P ops w0 o v a/\next al (a.put o.dst v))\/
  (∃obj mk,NS P ops o obj mk a/\∀k,w0.heap.size <=k->(∀p∈al,p.1≠k)->next ((k,obj)::al) (a.put o.dst (mk k)))
theorem Oc {a:Act}{G:Al}{K:Al->Act->Prop}{E:Act->World->Prop}{Q':Exit->Act->World->Prop}(e:KS w0 G w)
 (h:∀H a' w',KS w0 H w'->K H a'->E a' w') (D:sOp P ops w0 i K G a):wpOp P ops Q' i E a w:=by
 unfold sOp at D;unfold wpOp;split at D
 ·exact D.elim
 ·rename_i o U;rw[U];simp only;rcases D with⟨v,(⟨q,h1⟩|⟨q,rfl⟩),h2⟩|⟨obj,mk,⟨q,h1⟩,h2⟩
  ·rw[if_pos q];refine .inl ?_;unfold Oper.wp;rcases h1 with h1|⟨f,args,M,h1⟩
   ·rw[h1 w e.1];exact h _ _ _ e h2
   ·rw[I2 M];exact(h1 w e.1).mono λV w' ⟨O,I⟩=>by subst O;exact h _ _ _ (e.step I) h2
  ·rw[if_neg (by simp[q])];exact h _ _ _ e h2
  ·rw[if_pos q];refine .inl ?_;unfold Oper.wp;rw[QQ h1];exact h _ _ _ (e.alloc obj) (h2 _ e.1.size e.fresh)
theorem Wg (o:Oper)(a:Act)(e:Option Tmp)(v:Value)(h:∀d,e=some d->d∉o.looksAt ops):alV P (a.put e v).eval o.op=alV P a.eval o.op:=
 QP λx D=>Act.eval_put λd q E=>h d q (by
  subst E;exact List.mem_append_left _ (List.mem_filterMap.2 ⟨.tmp d,by simpa using D,rfl⟩))
theorem Q4 (o:Oper)(a:Act)(e:Option Tmp)(v:Value)(h:∀d,e=some d->d∉o.looksAt ops):zT P (a.put e v).eval o.op=zT P a.eval o.op:=
 M3 λx D=>Act.eval_put λd q E=>h d q (by
  subst E;exact List.mem_append_left _ (List.mem_filterMap.2 ⟨.tmp d,by simpa using D,rfl⟩))
theorem KW (q:∀cs b,o.op≠.select cs b)(a:Act)(e:Option Tmp)(u:Value)(h:∀d,e=some d->d∉o.looksAt ops){v:Value} :
 YS P ops w0 o v (a.put e u)↔YS P ops w0 o v a:=by
 unfold YS VV VK;rw[wanted_put o a e u h,execOp_put o q a e u h,Q4 o a e u h]
theorem KV (a:Act)(e:Option Tmp)(u:Value)(h:∀d,e=some d->d∉o.looksAt ops):
 NS P ops o I J (a.put e u)↔NS P ops o I J a:=by
 unfold NS;rw[wanted_put o a e u h,Wg o a e u h]
end
section
variable {P:Program} {ops:Array Oper} {w0:World} {N:Act->World->Prop} {hd:Nat->Bool} {g:Nat}
def GM (N:Act->World->Prop):Exit->Act->World->Prop
 |.normal,a,w=>N a w
 |_,_,_=>False
def wpAnyS (P:Program)(ops:Array Oper)(w0:World)(N:Act->World->Prop)(hd:Nat->Bool)(g:Nat):Nat->Array Bool->Al->Act->Prop
 |0,listed,al,a=>(∀j,hd j=true->listed.getD j true=true)/\∀w,KS w0 al w->wpAny P .any ops (GM N) g listed a w
 |f+1,listed,al,a=>Region.ready .any ops listed≠[]/\∀i∈Region.ready .any ops listed,
  (hd i=true/\sOp P ops w0 i (wpAnyS P ops w0 N hd g f (listed.setIfInBounds i true)) al a)\/
  (hd i=false/\∀w,KS w0 al w->wpOp P ops (GM N) i (wpAny P .any ops (GM N) (f+g) (listed.setIfInBounds i true)) a w)
theorem oO:∀(f:Nat) (listed:Array Bool) (e:Al) (a:Act) (w:World),KS w0 e w->wpAnyS P ops w0 N hd g f listed e a->wpAny P .any ops (GM N) (f+g) listed a w
 |0,listed,e,a,w,q,h=>by rw[Nat.zero_add];exact h.2 _ q
 |f+1,listed,e,a,w,q,h=>by
  rw[show f+1+g=(f+g)+1 by omega];refine⟨λE=>absurd E h.1,λi G=>?_⟩;rcases h.2 i G with⟨_,h1⟩|⟨_,h1⟩
  ·exact Oc q (λD a' w' H h'=>oO f _ D a' w' H h') h1
  ·exact h1 w q
theorem KS.al {e q:Al}(D:∀p,p∈e↔p∈q)(h:KS w0 q w):KS w0 e w:=⟨h.1,λp E=>h.2 p ((D p).1 E)⟩
theorem Gj:∀(f:Nat) (listed:Array Bool) (q D:Al) (a:Act),(∀p,p∈q↔p∈D)->wpAnyS P ops w0 N hd g f listed q a->wpAnyS P ops w0 N hd g f listed D a
 |0,_,_,_,_,e,h=>⟨h.1,λw H=>h.2 w (H.al e)⟩
 |f+1,listed,q,D,a,e,h=>by
  refine⟨h.1,λi M=>?_⟩;rcases h.2 i M with⟨G,h1⟩|⟨G,h1⟩
  ·refine .inl ⟨G,?_⟩;unfold sOp at*;split
   ·simp_all
   ·rename_i o U;simp only[U]at h1;rcases h1 with⟨v,h1,E⟩|⟨obj,mk,h1,E⟩
    ·exact .inl ⟨v,h1,Gj f _ _ _ _ e E⟩
    ·exact .inr ⟨obj,mk,h1,λk O I=>Gj f _ _ _ _ (λp=>by simp only[List.mem_cons,e p]) (E k O λp V=>I p ((e p).1 V))⟩
  ·exact .inr ⟨G,λw H=>h1 w (H.al e)⟩
structure ClI (ops:Array Oper)(listed:Array Bool):Prop where
 size:listed.size=ops.size
 closed:∀j oj,ops[j]? =some oj->listed.getD j false=true->∀e∈oj.after,Region.binds .any e=true->listed.getD e.on false=true
theorem ClI.set (I:ClI ops K)(U:i∈Region.ready .any ops K):ClI ops (K.setIfInBounds i true):=by
 obtain⟨_,oi,V,O⟩:=mem_ready.1 U;refine⟨by simp[I.size],λj M G H e D q=>?_⟩;by_cases E:i=j
 ·subst E;have:M=oi:=Option.some.inj (G.symm.trans V);subst this;exact getD_set_true (O e D q)
 ·rw[getD_set_ne false E]at H;exact getD_set_true (I.closed j M G H e D q)
def ML (ops:Array Oper)(i:Nat):Nat->Nat->Bool
 |0,_=>false
 |f+1,j=>match ops[j]? with
  |none=>false
  |some oj=>oj.after.any λe=>Region.binds .any e&&(Nat.beq e.on i || ML ops i f e.on)
theorem MM (M:ClI ops K)(I:K.getD i true=false):
 ∀(f j:Nat) (H:Oper),ops[j]? =some H->ML ops i f j=true->(∀e∈H.after,Region.binds .any e=true->K.getD e.on false=true)->False
 |0,_,_,_,h,_=>by cases h
 |f+1,j,H,ac,h,V=>by
  simp only[ML,ac]at h;obtain⟨e,Y,D⟩:=Array.any_eq_true'.1 h;simp only[Bool.and_eq_true,Bool.or_eq_true]at D;have E:=V e Y D.1;rcases D.2 with q|q
  ·rw[Nat.eq_of_beq_eq_true q,getD_both I]at E;cases E
  ·cases G:ops[e.on]? with
   |none=>cases f<;>simp[ML,G]at q
   |some O=>exact MM M I f e.on O G q λU Z X=>M.closed e.on O G E U Z X
def PP (ops:Array Oper)(hd:Nat->Bool)(i:Nat):Bool:=(List.range ops.size).all λj=>hd j || ML ops i 6 j
theorem tZ (D:PP ops hd i=true)(H:ClI ops K)(G:K.getD i true=false)(E:j∈Region.ready .any ops K):hd j=true:=by
 obtain⟨_,I,e,q⟩:=mem_ready.1 E;have h1:=List.all_eq_true.1 D j (List.mem_range.2 (Array.getElem?_eq_some_iff.1 e).1);rcases Bool.or_eq_true _ _▸h1 with h1|h1
 ·exact h1
 ·exact(MM H G _ j I e h1 q).elim
theorem AM {v:Value}{a:Act}(h:Yields P ops o v a):YS P ops w0 o v a:=by
 rcases h with⟨h1,e⟩|h
 ·exact .inl ⟨h1,.inl λw _=>e w⟩
 ·exact .inr h
theorem zM {v:Value}(O:ops[i]? =some o)(b4:Region.noSelect ops=true)(a9:hd i=true):
 ∀(f:Nat) (listed:Array Bool) (U:Al) (a:Act),ClI ops listed->
  (∀j e,ops[j]? =some e->j≠i->listed.getD j true=false->(∀q∈e.after,Region.binds .any q=true->q.on≠i)->o.apart ops e=true)->
  i∈Region.ready .any ops listed->YS P ops w0 o v a->(PP ops hd i=true\/Yields P ops o v a)->
  wpAnyS P ops w0 N hd g f (listed.setIfInBounds i true) U (a.put o.dst v)->wpAnyS P ops w0 N hd g (f+1) listed U a:=by
 have Y:=Region.noSelect_spec b4;intro f;induction f with
 |zero=>
  intro listed U a aj X D ag ad H;have M:=(mem_ready.1 D).1;refine⟨λh=>(by rw[h]at D;cases D),λj E=>?_⟩;by_cases G:j=i
  ·subst G;refine .inl ⟨a9,?_⟩;unfold sOp;simp only[O];exact .inl ⟨v,ag,H⟩
  ·cases I:hd j with
   |true=>
    have h1:=H.1 j I;rw[getD_set_ne true (Ne.symm G),(mem_ready.1 E).1]at h1;cases h1
   |false=>
    rcases ad with V|hY
    ·rw[tZ V aj M E]at I;cases I
    ·refine .inr ⟨rfl,λw a0=>?_⟩;have:=wpAny_first O Y (Q:=GM N) (λc a w h=>h.elim) (0+g) listed a w X D hY (by rw[Nat.zero_add];exact H.2 w a0);exact this.2 j E
 |succ f b5=>
  intro listed U a aj X D ag ad H;have M:=(mem_ready.1 D).1;refine⟨λh=>(by rw[h]at D;cases D),λj E=>?_⟩;by_cases G:j=i
  ·subst G;refine .inl ⟨a9,?_⟩;unfold sOp;simp only[O];exact .inl ⟨v,ag,H⟩
  ·cases I:hd j with
   |false=>
    rcases ad with V|hY
    ·rw[tZ V aj M E]at I;cases I
    ·refine .inr ⟨rfl,λw a0=>?_⟩;have:=wpAny_first O Y (Q:=GM N) (λc a w h=>h.elim) (f+1+g) listed a w X D hY (oO _ _ _ _ _ a0 H);exact this.2 j E
   |true=>
    have h1:sOp P ops w0 j (wpAnyS P ops w0 N hd g f ((listed.setIfInBounds i true).setIfInBounds j true)) U (a.put o.dst v):=by
     rcases H.2 j (ready_mono E G)with⟨_,h1⟩|⟨h1,_⟩
     ·exact h1
     ·rw[I]at h1;cases h1
    obtain⟨bc,e,ar,bj⟩:=mem_ready.1 E;have b3:∀q∈e.after,Region.binds .any q=true->q.on≠i:=λq bq bk heq=>by
     have h1:=bj q bq bk;rw[heq,getD_both M]at h1;cases h1
    obtain⟨a1,a2,a3⟩:=Oper.apart_spec (X j e ar G bc b3);have b0:∀k Z,ops[k]? =some Z->k≠i->(listed.setIfInBounds j true).getD k true=false->
     (∀q∈Z.after,Region.binds .any q=true->q.on≠i)->o.apart ops Z=true:=λk Z an b1 M b2=>by
     refine X k Z an b1 ?_ b2;by_cases bb:j=k
     ·subst bb;exact bc
     ·rw[getD_set_ne true bb]at M;exact M
    have keep:∀u,PP ops hd i=true\/Yields P ops o v (a.put e.dst u):=λu=>by
     rcases ad with V|hY
     ·exact .inl V
     ·exact .inr (hY.of_same (execOp_put o (λcs b=>Y i o cs b O) a e.dst u a3) (wanted_put o a e.dst u a3))
    have a8:∀ac u,wpAnyS P ops w0 N hd g f ((listed.setIfInBounds i true).setIfInBounds j true) ac ((a.put o.dst v).put e.dst u)->
     wpAnyS P ops w0 N hd g (f+1) (listed.setIfInBounds j true) ac (a.put e.dst u):=λac u h=>by
     refine b5 (listed.setIfInBounds j true) ac _ (aj.set E) b0 (ready_mono D (Ne.symm G)) ((KW (λcs b=>Y i o cs b O) a e.dst u a3).2 ag) (keep u) ?_;rw[<- Act.put_comm a v u a2,Array.setIfInBounds_comm _ _ G];exact h
    refine .inl ⟨rfl,?_⟩;unfold sOp at h1 ⊢;simp only[ar]at h1 ⊢;rcases h1 with⟨u,h1,al⟩|⟨obj,mk,h1,al⟩
    ·exact .inl ⟨u,(KW (λcs b=>Y j e cs b ar) a o.dst v a1).1 h1,a8 _ _ al⟩
    ·exact .inr ⟨obj,mk,(KV a o.dst v a1).1 h1,λk an bs=>a8 _ _ (al k an bs)⟩
theorem X3 {v u:Value}{a:Act}(q:XU o.op=false)(h:YS P ops w0 o v a)(h':YS P ops w0 o u a):v=u:=by
 rcases h with⟨D,h⟩|⟨D,rfl⟩
 ·rcases h' with⟨_,h'⟩|⟨e,_⟩
  ·rcases h with h|⟨f,args,h,_⟩
   ·rcases h' with h'|⟨f,args,h',_⟩
    ·have E:=(h w0 (Below.refl _ _)).symm.trans (h' w0 (Below.refl _ _));simp only[Result.ok.injEq,Next.value.injEq]at E;exact E.1
    ·rw[zU h']at q;cases q
   ·rw[zU h]at q;cases q
  ·rw[D]at e;cases e
 ·rcases h' with⟨e,_⟩|⟨_,rfl⟩
  ·rw[D]at e;cases e
  ·rfl
theorem X2 {v:Value}{a:Act}(h:YS P ops w0 o v a)(h':NS P ops o I J a):False:=by
 obtain⟨E,h'⟩:=h';rcases h with⟨D,h⟩|⟨D,rfl⟩
 ·rcases h with h|⟨f,args,h,_⟩
  ·have e:=(h w0 (Below.refl _ _)).symm.trans (QQ h' w0);simp only[Result.ok.injEq,Next.value.injEq]at e;have G:w0.heap.size=(w0.alloc I).heap.size:=congrArg (λw:World=>w.heap.size) e.2;rw[World.size_alloc]at G;omega
  ·have h1:=Ol h';have q:=zU h;generalize o.op=H at h1 q;cases H<;>simp[Zi,XU]at h1 q
 ·rw[D]at E;cases E
theorem KQ (b2:ops[i]? =some o)(ck:Region.noSelect ops=true)(b8:hd i=true)(b0:PP ops hd i=true):
 ∀(f:Nat) (listed:Array Bool) (G:Al) (a:Act),ClI ops listed->
  (∀j e,ops[j]? =some e->j≠i->listed.getD j true=false->(∀q∈e.after,Region.binds .any q=true->q.on≠i)->o.apart ops e=true)->
  (∀j e,ops[j]? =some e->j≠i->hd j=true->listed.getD j true=false->(∀q∈e.after,Region.binds .any q=true->q.on≠i)->XU e.op=false)->
  i∈Region.ready .any ops listed->NS P ops o I J a->
  (∀k,w0.heap.size <=k->(∀p∈G,p.1≠k)->wpAnyS P ops w0 N hd g f (listed.setIfInBounds i true) ((k,I)::G) (a.put o.dst (J k)))->wpAnyS P ops w0 N hd g (f+1) listed G a:=by
 have bb:=Region.noSelect_spec ck;intro f;induction f with
 |zero=>
  intro listed G a ar _ _ O an ac;have E:=(mem_ready.1 O).1;refine⟨λh=>(by rw[h]at O;cases O),λj Y=>.inl ?_⟩;have aj:=tZ b0 ar E Y;by_cases M:j=i
  ·subst M;refine⟨b8,?_⟩;unfold sOp;simp only[b2];exact .inr ⟨I,J,an,ac⟩
  ·obtain⟨k,D,H⟩:=AU G w0.heap.size;have h1:=(ac k D H).1 j aj;rw[getD_set_ne true (Ne.symm M),(mem_ready.1 Y).1]at h1;cases h1
 |succ f cn=>
  intro listed G a ar b1 b4 O an ac;have E:=(mem_ready.1 O).1;refine⟨λh=>(by rw[h]at O;cases O),λj Y=>.inl ?_⟩;have aj:=tZ b0 ar E Y;refine⟨aj,?_⟩;by_cases M:j=i
  ·subst M;unfold sOp;simp only[b2];exact .inr ⟨I,J,an,ac⟩
  ·obtain⟨a0,e,Z,b6⟩:=mem_ready.1 Y;have b5:∀q∈e.after,Region.binds .any q=true->q.on≠i:=λq b9 b7 heq=>by
    have h1:=b6 q b9 b7;rw[heq,getD_both E]at h1;cases h1
   obtain⟨a1,a2,a3⟩:=Oper.apart_spec (b1 j e Z M a0 b5);have cl:=b4 j e Z M aj a0 b5;have bq:∀k:Nat,(listed.setIfInBounds j true).getD k true=false->listed.getD k true=false:=λk E=>by
    by_cases b3:j=k
    ·subst b3;exact a0
    ·rw[getD_set_ne true b3]at E;exact E
   have bs:∀ad u,(∀k,w0.heap.size <=k->(∀p∈ad,p.1≠k)->wpAnyS P ops w0 N hd g f ((listed.setIfInBounds i true).setIfInBounds j true) ((k,I)::ad) ((a.put o.dst (J k)).put e.dst u))->
    wpAnyS P ops w0 N hd g (f+1) (listed.setIfInBounds j true) ad (a.put e.dst u):=λad u h=>by
    refine cn (listed.setIfInBounds j true) ad _ (ar.set Y) (λk bk D a8 E a9=>b1 k bk D a8 (bq k E) a9)
     (λk bk D a8 cj E a9=>b4 k bk D a8 cj (bq k E) a9) (ready_mono O (Ne.symm M)) ((KV a e.dst u a3).2 an) λk D H=>?_
    rw[<- Act.put_comm a (J k) u a2,Array.setIfInBounds_comm _ _ M];exact h k D H
   have h1:∀k,w0.heap.size <=k->(∀p∈G,p.1≠k)->sOp P ops w0 j (wpAnyS P ops w0 N hd g f ((listed.setIfInBounds i true).setIfInBounds j true)) ((k,I)::G) (a.put o.dst (J k)):=
    λk D H=>by
     rcases(ac k D H).2 j (ready_mono Y M)with⟨_,h1⟩|⟨h1,_⟩
     ·exact h1
     ·rw[aj]at h1;cases h1
   obtain⟨bc,cf,cb⟩:=AU G w0.heap.size;have U:=h1 bc cf cb;unfold sOp at h1 U ⊢;simp only[Z]at h1 U ⊢;rcases U with⟨u,U,_⟩|⟨bj,mk',U,_⟩
   ·have V:=(KW (λcs b=>bb j e cs b Z) a o.dst (J bc) a1).1 U;refine .inl ⟨u,V,bs _ _ λk D H=>?_⟩;rcases h1 k D H with⟨cp,X,ag⟩|⟨bj,mk',X,ag⟩
    ·have q:=X3 cl ((KW (λcs b=>bb j e cs b Z) a o.dst (J k) a1).1 X) V;subst q;exact ag
    ·exact(X2 V ((KV a o.dst (J k) a1).1 X)).elim
   ·have V:=(KV a o.dst (J bc) a1).1 U;refine .inr ⟨bj,mk',V,λk' ce ca=>bs _ _ λk D H=>?_⟩;have cc:∀p∈G,p.1≠k:=λp al=>H p (mem_cons_of_mem _ al);have ch:k'≠k:=H (k',bj) mem_cons_self;rcases h1 k D cc with⟨cp,X,ag⟩|⟨cr,mk'',X,ag⟩
    ·exact(X2 ((KW (λcs b=>bb j e cs b Z) a o.dst (J k) a1).1 X) V).elim
    ·have q:=V.2.symm.trans ((KV a o.dst (J k) a1).1 X).2;simp only[Option.some.injEq,Prod.mk.injEq]at q;obtain⟨rfl,rfl⟩:=q;refine Gj f _ _ _ _ (λp=>?_) (ag k' ce λp al=>?_)
     ·simp only[List.mem_cons];constructor<;>(intro h;rcases h with h|h|h<;>simp[h])
     ·rcases List.mem_cons.1 al with rfl|al
      ·exact Ne.symm ch
      ·exact ca p al
def wpS (P:Program)(ops:Array Oper)(hd:Nat->Bool)(w0:World)(Q:Al->Act->Prop):List Nat->Al->Act->Prop
 |[],al,a=>Q al a
 |i::l,al,a=>match PP ops hd i with
  |true=>sOp P ops w0 i (wpS P ops hd w0 Q l) al a
  |false=>∃o v,ops[i]? =some o/\Yields P ops o v a/\wpS P ops hd w0 Q l al (a.put o.dst v)
def Wu (ops:Array Oper)(hd:Nat->Bool)(i:Nat)(listed:Array Bool):Bool:=
 (List.range ops.size).all λj=>Nat.beq j i || !hd j || listed.getD j true || Region.waitsFor .any ops j i || !((ops[j]?).map λo=>XU o.op).getD false
def RU (ops:Array Oper)(hd:Nat->Bool):List Nat->Array Bool->Bool
 |[],listed=>(List.range ops.size).all (λj=> !hd j || listed.getD j true)
 |i::l,listed=>hd i&&(Region.ready .any ops listed).contains i&&Region.free .any ops listed i&&(!((ops[i]?).map λo=>Zi o.op).getD false || Wu ops hd i listed)&&RU ops hd l (listed.setIfInBounds i true)
def YX:List Nat->Nat->Bool
 |[],_=>false
 |x::l,i=>Nat.beq x i || YX l i
def Y1:List Nat->Array Bool->Array Bool
 |[],l=>l
 |i::r,l=>Y1 r (l.setIfInBounds i true)
def YZ (ops:Array Oper)(ord:List Nat):Bool:=
 Region.noSelect ops&&Nat.ble ord.length ops.size&&RU ops (YX ord) ord (Array.replicate ops.size false)
theorem PK (h:Wu ops hd i K=true):∀j oj,ops[j]? =some oj->j≠i->hd j=true->K.getD j true=false->(∀e∈oj.after,Region.binds .any e=true->e.on≠i)->XU oj.op=false:=by
 intro j oj D H I V M;have h1:=List.all_eq_true.1 h j (List.mem_range.2 (Array.getElem?_eq_some_iff.1 D).1);have q:Nat.beq j i=false:=by cases q:Nat.beq j i<;>first|rfl|exact absurd (Nat.eq_of_beq_eq_true q) H
 have Y:Region.waitsFor .any ops j i=false:=by
  cases X:Region.waitsFor .any ops j i with
  |false=>rfl
  |true=>
   obtain⟨Z,O,e,G,E,U⟩:=Region.waitsFor_spec X;have:Z=oj:=Option.some.inj (O.symm.trans D);subst this;exact absurd U (M e G E)
 simpa[q,V,Y,D,I]using h1
theorem uv {V:Al->Act->Prop}(G:Region.noSelect ops=true):
 ∀(l:List Nat) (listed:Array Bool) (e:Al) (a:Act),(∀e a,V e a->∀w,KS w0 e w->wpAny P .any ops (GM N) g (Y1 l listed) a w)->ClI ops listed->RU ops hd l listed=true->wpS P ops hd w0 V l e a->
 wpAnyS P ops w0 N hd g l.length listed e a
 |[],listed,e,a,I,D,hB,h=>by
  simp only[RU]at hB;refine⟨λj ad=>?_,I _ _ h⟩;rcases Nat.lt_or_ge j ops.size with aj|ac
  ·have h1:=List.all_eq_true.1 hB j (List.mem_range.2 aj);simpa[ad]using h1
  ·have:listed.size <=j:=by rw[D.size];exact ac
   simp[Array.getElem?_eq_none this]
 |i::l,listed,e,a,I,D,hB,h=>by
  simp only[RU,Bool.and_eq_true]at hB;obtain⟨⟨⟨⟨U,al⟩,M⟩,Z⟩,O⟩:=hB;have E:i∈Region.ready .any ops listed:=by simpa using al
  simp only[wpS]at h;split at h
  ·rename_i X;unfold sOp at h;split at h
   ·exact h.elim
   ·rename_i o q;rcases h with⟨v,h1,H⟩|⟨obj,mk,h1,H⟩
    ·exact zM q G U l.length listed e a D (Region.free_spec q M) E h1 (.inl X) (uv G l _ _ _ I (D.set E) O H)
    ·have Y:Wu ops hd i listed=true:=by
      simpa[q,Ol h1.2]using Z
     exact KQ q G U X l.length listed e a D (Region.free_spec q M) (PK Y) E h1
      λk ag M=>uv G l _ _ _ I (D.set E) O (H k ag M)
  ·obtain⟨o,v,q,hY,H⟩:=h;exact zM q G U l.length listed e a D (Region.free_spec q M) E (AM hY) (.inr hY) (uv G l _ _ _ I (D.set E) O H)
theorem KR {a:Act}(e:List Nat)(I:P.follows .mixedOrders=true)(hB:YZ ops e=true)
 (h:wpS P ops (YX e) w (λq a'=>∀w',KS w q w'->wpAny P .any ops (GM N) (ops.size-e.length) (Y1 e (Array.replicate ops.size false)) a' w') e [] a):
 (Code.region n ops true).wp P (GM N) a w:=by
 simp only[YZ,Bool.and_eq_true]at hB;obtain⟨⟨O,H⟩,G⟩:=hB;have V:e.length <=ops.size:=Nat.le_of_ble_eq_true H;have U:ClI ops (Array.replicate ops.size false):=⟨by simp,λj X _ D=>(by rw[getD_replicate_false]at D;cases D)⟩
 have E:=uv (P:=P) (w0:=w) (N:=N) O e _ _ a (λq a h=>h) U G h;refine wp_region_any I ?_;have:=oO _ _ _ _ { w with drawn:=w.drawn+1 } ⟨(Below.refl _ w).drew,λp M=>by cases M⟩ E;rw[show e.length+(ops.size-e.length)=ops.size by omega]at this;exact this
end
def Y5 (P:Program)(n:Nat)(w0:World)(core:Bool)(o:Oper)(al:Al)(a:Fr)(K:Al->Fr->Prop):Prop:=
 match pv P (evF a) o.op with
 |some (.val v)=>nmK o.op v λv=>K al (o8 n a o.dst v)
 |some (.part c v)=>c/\nmK o.op v λv=>K al (o8 n a o.dst v)
 |none=>match core with
  |false=>False
  |true=>match alV P (evF a) o.op with
   |some (obj,mk)=>∀k:Nat,w0.heap.size <=k->W8 al k (K ((k,obj)::al) (o8 n a o.dst (mk k)))
   |none=>match YK P (evF a) o with
    |some (.rd s)=>exR (Zt P o) λv=>(∀w1,Below w0.heap.size w0 w1->s.run P w1=.ok v w1)/\K al (o8 n a o.dst v)
    |some _=>False
    |none=>match zT P (evF a) o.op with
     |some (f,args)=>exR (shT P o.type) λv=>(∀w1,Below w0.heap.size w0 w1->Calls P f args w1 λe w2=>e=.returned v/\Below w1.heap.size w1 w2)/\K al (o8 n a o.dst v)
     |none=>False
def WS (P:Program)(n:Nat)(w0:World)(hd:Nat->Bool)(ops:Array Oper)(K:Al->Fr->Prop):List Nat->Al->Fr->Prop
 |[],al,a=>K al a
 |i::rest,al,a=>match ops[i]? with
  |none=>False
  |some o=>WG n ops o.guard a (λa=>Y5 P n w0 (PP ops hd i) o al a (WS P n w0 hd ops K rest)) (λa=>WS P n w0 hd ops K rest al (o8 n a o.dst undef))
theorem Wd {w0:World}{e:Al}{I:Fr}{a:Act}{K:Al->Fr->Prop}{H:Al->Act->Prop}(G:Region.wanted o (yielded D a.tmps)=true)(Z:Rep n I a)(h:Y5 P n w0 E o e I K)
 (q:∀e v,K e (o8 n I o.dst v)->H e (a.put o.dst v)):
 (∃v,Yields P D o v a/\H e (a.put o.dst v))\/E=true/\((∃v,YS P D w0 o v a/\H e (a.put o.dst v))\/(∃obj mk,NS P D o obj mk a/\∀k,w0.heap.size <=k->(∀p∈e,p.1≠k)->H ((k,obj)::e) (a.put o.dst (mk k)))):=by
 unfold Y5 at h;rw[<- Z.eval]at h;split at h
 ·rename_i v M;exact .inl ⟨v,.inl ⟨G,λw=>LW M trivial w⟩,q _ _ (A4 h)⟩
 ·rename_i c v M;exact .inl ⟨v,.inl ⟨G,λw=>LW M h.1 w⟩,q _ _ (A4 h.2)⟩
 ·split at h
  ·cases h
  ·refine .inr ⟨rfl,?_⟩;split at h
   ·rename_i obj mk U;exact .inr ⟨obj,mk,⟨G,U⟩,λk Y X=>q _ _ (OZ (h k Y) X)⟩
   ·split at h
    ·rename_i s ac;obtain⟨v,O,h⟩:=wJ h;exact .inl ⟨v,.inl ⟨G,.inl λw ad=>by rw[FF ac,RW.next,iK (O w ad)]⟩,q _ _ h⟩
    ·cases h
    ·split at h
     ·rename_i f args V;obtain⟨v,O,h⟩:=wJ h;exact .inl ⟨v,.inl ⟨G,.inr ⟨f,args,V,O⟩⟩,q _ _ h⟩
     ·cases h
theorem We {w0:World}{E:Nat->Bool}{Q:Al->Act->Prop} :∀{l:List Nat} {K:Al->Fr->Prop} {e:Al} {q:Fr} {a:Act},Rep n q a->WS P n w0 E D K l e q->
 (∀I U a',Rep n U a'->ft (Ia D.toList) a a'->K I U->Q I a')->wpS P D E w0 Q l e a
 |[],K,e,q,a,Z,h,G=>G _ _ _ Z (ft.refl _ _) h
 |i::aj,K,e,q,a,Z,h,G=>by
  unfold WS at h;split at h
  ·cases h
  ·rename_i o H;have ag:∀t,o.dst=some t->t∈Ia D.toList:=λt an=>by
    simp only[Ia,List.mem_filterMap];exact⟨o,by have:=Array.mem_of_getElem? H;simpa using this,an⟩
   have pure:(∃v,Yields P D o v a/\wpS P D E w0 Q aj e (a.put o.dst v))->wpS P D E w0 Q (i::aj) e a:=by
    rintro⟨v,hY,h2⟩;simp only[wpS];split
    ·unfold sOp;simp only[H];exact .inl ⟨v,AM hY,h2⟩
    ·exact⟨o,v,H,hY,h2⟩
   obtain⟨U,ac,⟨ad,h⟩|⟨ad,h⟩⟩:=QN Z h
   ·rcases Wd ad ac h λI v h'=>We (ac.put o.dst v) h' λM O a' X V Y=>G M O a' X ((ft.put a o.dst v ag).trans V) Y with h1|⟨al,h1⟩
    ·exact pure h1
    ·simp only[wpS,al];unfold sOp;simp only[H];exact h1
   ·exact pure ⟨undef,.inr ⟨ad,rfl⟩,We (ac.put o.dst _) h λM O a' X V Y=>G M O a' X ((ft.put a o.dst _ ag).trans V) Y⟩
def Wy (f:Nat->Prop):List Nat->Prop
 |[]=>True
 |[i]=>f i
 |i::l=>f i/\Wy f l
theorem K6 {f:Nat->Prop} :∀{l:List Nat},Wy f l->∀i∈l,f i
 |[],_,_,h=>by cases h
 |[j],h,i,e=>by simp at e;subst e;exact h
 |j::k::l,h,i,e=>by
  rcases List.mem_cons.1 e with rfl|e
  ·exact h.1
  ·exact K6 h.2 i e
def takes (P:Program)(ops:Array Oper)(listed:Array Bool)(a:Fr)(i:Nat):Bool:=match ops[i]? with
 |some o=>(pv P (evF a) o.op).isSome&&Region.free .any ops listed i
 |none=>false
def WPV (r:Option PV)(K:Value->Prop):Prop:=match r with
 |some (.val v)=>K v
 |some (.part c v)=>c/\K v
 |none=>False
def WA (P:Program)(n:Nat)(ops:Array Oper)(K:Fr->World->Prop):Nat->Array Bool->Fr->World->Prop
 |0,listed,a,w=>match Region.ready .any ops listed with
  |[]=>K a w
  |_=>False
 |fuel+1,listed,a,w=>match Region.ready .any ops listed with
  |[]=>K a w
  |l=>match l.find? (takes P ops listed a)with
   |some i=>match ops[i]? with
    |none=>False
    |some o=>WG n ops o.guard a (λa=>WPV (pv P (evF a) o.op) λv=>nmK o.op v λv=>WA P n ops K fuel (listed.setIfInBounds i true) (o8 n a o.dst v) w) (λa=>WA P n ops K fuel (listed.setIfInBounds i true) (o8 n a o.dst undef) w)
   |none=>Wy (λi=>match ops[i]? with
    |none=>False
    |some o=>WG n ops o.guard a (λa=>WOp P n o a (WA P n ops K fuel (listed.setIfInBounds i true)) w) (λa=>WA P n ops K fuel (listed.setIfInBounds i true) (o8 n a o.dst undef) w)) l
theorem ye (h:D[i]? =some o):∀t,o.dst=some t->t∈Ia D.toList:=by
 intro t e;simp only[Ia,List.mem_filterMap];exact⟨o,by have:=Array.mem_of_getElem? h;simpa using this,e⟩
theorem MU {K:Fr->World->Prop}{N:Act->World->Prop}(U:Region.noSelect D=true):∀{fuel:Nat} {listed:Array Bool} {ac:Fr} {a:Act} {w:World},Rep n ac a->WA P n D K fuel listed ac w->
 (∀ad a' w',Rep n ad a'->ft (Ia D.toList) a a'->K ad w'->N a' w')->wpAny P .any D (GM N) fuel listed a w
 |0,listed,ac,a,w,Y,h,M=>by
  unfold WA at h;unfold wpAny;split at h
  ·rename_i Z;exact⟨Z,M _ _ _ Y (ft.refl _ _) h⟩
  ·cases h
 |fuel+1,listed,ac,a,w,Y,h,M=>by
  unfold WA at h;split at h
  ·rename_i Z;unfold wpAny;refine⟨λ_=>M _ _ _ Y (ft.refl _ _) h,λi ag=>?_⟩;rw[Z]at ag;cases ag
  ·rename_i ar;split at h
   ·rename_i i e;have al:=List.mem_of_find?_eq_some e;have aj:=List.find?_some e;split at h
    ·cases h
    ·rename_i o q;simp only[takes,q,Bool.and_eq_true]at aj;obtain⟨ad,O,⟨V,h⟩|⟨V,h⟩⟩:=QN Y h
     ·unfold WPV at h;rw[<- O.eval]at h;split at h
      ·rename_i v an;exact wpAny_take q U aj.2 (by simpa using al) (λc a w X=>X.elim) (.inl ⟨V,λw=>LW an trivial w⟩)
        (MU U (O.put o.dst v) (A4 h) λE a' I e G H=>M E a' I e ((ft.put a o.dst v (ye q)).trans G) H)
      ·rename_i c v an;exact wpAny_take q U aj.2 (by simpa using al) (λc a w X=>X.elim) (.inl ⟨V,λw=>LW an h.1 w⟩)
        (MU U (O.put o.dst v) (A4 h.2) λE a' I e G H=>M E a' I e ((ft.put a o.dst v (ye q)).trans G) H)
      ·cases h
     ·exact wpAny_take q U aj.2 (by simpa using al) (λc a w X=>X.elim) (.inr ⟨V,rfl⟩)
       (MU U (O.put o.dst _) h λE a' I e G H=>M E a' I e ((ft.put a o.dst _ (ye q)).trans G) H)
   ·unfold wpAny;refine⟨λZ=>absurd Z ar,λi ag=>?_⟩;have h1:=K6 h i ag;unfold wpOp;split at h1
    ·cases h1
    ·rename_i o q;rw[q];simp only;obtain⟨ad,O,⟨V,h⟩|⟨V,h⟩⟩:=QN Y h1
     ·rw[if_pos V];exact .inl (VF O h λv w' h'=>MU U (O.put o.dst v) h' λE a' I e G H=>M E a' I e ((ft.put a o.dst v (ye q)).trans G) H)
     ·rw[if_neg (by simp[V])];exact MU U (O.put o.dst _) h λE a' I e G H=>M E a' I e ((ft.put a o.dst _ (ye q)).trans G) H
def Zl (n:Nat)(a:Fr)(c:Operand)(b:Bool):Fr:=match c with
 |.tmp t=>o8 n a (some t) (.bool b)
 |_=>a
theorem OU {e:Fr}{a:Act}{c:Operand}{b:Bool}(q:Rep n e a)(h:evF e c=.bool b):Rep n (Zl n e c b) a:=by
 cases c with
 |tmp t=>exact q.again h
 |_=>exact q
def writes:Code->List Tmp
 |.region _ ops _=>Ia ops.toList
 |.seq a b=>writes a++writes b
 |.cond _ a b=>writes a++writes b
 |.block _ c|.loop c|.scope c=>writes c
 |.rangeFunc _ ps a b=>ps.toList++writes a++writes b
 |_=>[]
def DQ:Code->Nat
 |.seq a b=>DQ a+DQ b+1
 |.cond _ a b=>DQ a+DQ b+1
 |.block _ c|.loop c|.scope c=>DQ c+1
 |.rangeFunc _ _ a b=>DQ a+DQ b+1
 |_=>1
abbrev Ann:=List (Nat×List (Tmp×Sh))
def Ann.at (l:Ann)(p:Nat):Option (List (Tmp×Sh)):=match l with
 |[]=>none
 |(k,x)::r=>bif Nat.beq k p then some x else Ann.at r p
def reads (a:Fr):List (Tmp×Sh)->List Value
 |[]=>[]
 |(t,_)::l=>xy a t::reads a l
def lj:List (Tmp×Sh)->List Sh
 |[]=>[]
 |(_,s)::l=>s::lj l
def oL:List (Tmp×Sh)->List Tmp
 |[]=>[]
 |(t,_)::l=>t::oL l
def O9 (n:Nat)(a:Fr):List Tmp->List Value->Fr
 |t::l,v::vs=>O9 n (o8 n a (some t) v) l vs
 |_,_=>a
def Wi:List Tmp->(List Value->Prop)->Prop
 |[],K=>K []
 |_::l,K=>∀v:Value,Wi l λvs=>K (v::vs)
theorem Wj {K:List Value->Prop} :∀(l:List Tmp),(∀vs,K vs)->Wi l K:=by
 intro l;induction l generalizing K with
 |nil=>intro h;exact h _
 |cons s l e=>intro h;exact λ_=>e λ_=>h _
theorem Om {f:Tmp->Value} :∀{l:List Tmp} {K:List Value->Prop},Wi l K->K (l.map f)
 |[],_,h=>h
 |_::l,K,h=>Om (l:=l) (h _)
def Yp:List Tmp->Tmp->Bool
 |[],_=>false
 |k::l,t=>bif Nat.beq k t then true else Yp l t
theorem ON:∀{l:List Tmp} {t:Tmp},Yp l t=true->t∈l
 |k::l,t,h=>by
  simp only[Yp]at h;cases e:Nat.beq k t with
  |true=>rw[Nat.eq_of_beq_eq_true e];exact mem_cons_self
  |false=>rw[e]at h;exact mem_cons_of_mem _ (ON h)
def MR (S L:List Tmp):List Tmp:=match S with
 |[]=>[]
 |t::S=>bif Yp L t then MR S L else t::MR S (t::L)
theorem JP:∀{S L:List Tmp} {t:Tmp},t∈S->t∈L\/t∈MR S L
 |s::S,L,t,h=>by
  unfold MR;cases e:Yp L s with
  |true=>
   simp only[cond_true];rcases List.mem_cons.1 h with rfl|h
   ·exact .inl (ON e)
   ·exact JP h
  |false=>
   simp only[cond_false];rcases List.mem_cons.1 h with rfl|h
   ·exact .inr mem_cons_self
   ·rcases JP (L:=s::L) h with h|h
    ·rcases List.mem_cons.1 h with rfl|h
     ·exact .inr mem_cons_self
     ·exact .inl h
    ·exact .inr (mem_cons_of_mem _ h)
theorem JT {f:Tmp->Value}(E:∀t,¬ t<n->f t=undef):∀(l:List Tmp) (e:Fr),(∀t,¬ t<n->xy e t=undef)->∀i,xy (O9 n e l (l.map f)) i=if i∈l then f i else xy e i
 |[],e,_,i=>by simp[O9]
 |t::l,e,I,i=>by
  simp only[map_cons,O9];have U:∀j,¬ j<n->xy (o8 n e (some t) (f t)) j=undef:=by
   intro j D;simp only[o8];cases q:Nat.ble (t+1) n with
   |false=>exact I j D
   |true=>
    simp only[cond_true,xy];cases O:Nat.beq t j with
    |false=>exact I j D
    |true=>rw[<- Nat.eq_of_beq_eq_true O]at D;exact E t D
  rw[JT E l _ U i];by_cases G:i∈l
  ·simp[G]
  ·by_cases M:i=t
   ·subst M;simp only[G,if_false,List.mem_cons,true_or,if_true,o8];cases q:Nat.ble (i+1) n with
    |true=>
     have:Nat.beq i i=true:=Nat.beq_refl i;simp only[cond_true,xy,this]
    |false=>
     have H: ¬ i<n:=by
      intro H;have:Nat.ble (i+1) n=true:=Nat.ble_eq_true_of_le (by omega);rw[this]at q;cases q
     simp only[cond_false];rw[I i H,E i H]
   ·have V:Nat.beq t i=false:=by cases q:Nat.beq t i<;>first|rfl|exact absurd (Nat.eq_of_beq_eq_true q).symm M
    simp only[G,List.mem_cons,M,or_false,if_false,o8];cases q:Nat.ble (t+1) n<;>simp[xy,V]
theorem Rep.beyond {e:Fr}{a:Act}(h:Rep n e a)(t:Nat)(q: ¬ t<n):xy e t=undef:=by
 rw[<- h.get t];have: ¬ t<a.tmps.size:=by rw[h.size];exact q
 simp[Array.getD,this]
theorem PG {H D:Fr}{a b:Act}{S L:List Tmp}(I:Rep n H a)(e:Rep n D b)(h:ft S a b):
 Rep n (O9 n (O9 n H (MR S L) ((MR S L).map λt=>xy D t)) L (L.map λt=>xy D t)) b:=by
 refine⟨e.size,e.defers,λi=>?_⟩;have h1:=JT (f:=λt=>xy D t) (λt q=>e.beyond t q) (MR S L) H I.beyond;rw[JT (f:=λt=>xy D t) (λt q=>e.beyond t q) L _ (λt q=>by rw[h1 t];split<;>first|exact e.beyond t q|exact I.beyond t q),h1];by_cases E:i∈L
 ·simp[E,e.get]
 ·by_cases G:i∈MR S L
  ·simp[E,G,e.get]
  ·rw[if_neg E,if_neg G];rw[h.tmps i λM=>?_,I.get];rcases JP (L:=L) M with h'|h'
   ·exact E h'
   ·exact G h'
theorem Pa (b:Fr):∀l:List (Tmp×Sh),reads b l=(oL l).map λt=>xy b t
 |[]=>rfl
 |(t,_)::l=>by simp only[reads,oL,map_cons,Pa b l]
def Tl (ops:Array Oper):Bool:=ops.all λo=>match o.op with
 |.alloc _|.box _ _|.buildSlice _ _ _|.makeMap _ _|.makeSlice _ _ _|.range _ _|.next _ _|.store _ _ _|.mapUpdate _ _ _ _|.insert _ _ _ _=>false
 |.call { callee:=.builtin b,.. } =>match b with|.len|.cap|.min|.max=>true|_=>false
 |_=>true
def W (P:Program)(n:Nat)(ann:Ann):Nat->Code->(Exit->Fr->World->Prop)->Fr->World->Prop
 |_,.skip,Q,a,w=>Q .normal a w
 |p,.region _ ops draw,Q,a,w=>
  match draw with
  |false=>WO P n ops ops.toList (Q .normal) a w
  |true=>match Tl ops&&Region.lexB .any ops&&(ann.at (1000000+p)).isNone with
   |true=>WQ P n w ops ops.toList (λa'=>∀w':World,Below w.heap.size w w'->Q .normal a' w') a
   |false=>match ann.at (3000000+p)with
    |some l=>match YZ ops (oL l)with
     |true=>WS P n w (YX (oL l)) ops (λal a'=>∀w':World,Below w.heap.size w w'->RV al w' (WA P n ops (Q .normal) (ops.size-(oL l).length) (Y1 (oL l) (Array.replicate ops.size false)) a' w')) (oL l) [] a
     |false=>False
    |none=>match ann.at (2000000+p)with
     |some ((h,_)::_)=>match Region.lexTailB .any ops h with
      |true=>WQ P n w ops (ops.toList.take h) (λa'=>∀w':World,Below w.heap.size w w'->WO P n ops (ops.toList.drop h) (Q .normal) a' w') a
      |false=>False
     |_=>match Region.noSelect ops with
      |true=>WA P n ops (Q .normal) ops.size (Array.replicate ops.size false) a w.drew
      |false=>False
 |p,.seq x y,Q,a,w=>
  match ann.at p with
  |none=>W P n ann (p+1) x (λe a' w'=>match e with|.normal=>W P n ann (p+1+DQ x) y Q a' w'|e=>Q e a' w') a w
  |some live=>∃J:FP (lj live),W P n ann (p+1) x (λe a' w'=>match e with|.normal=>ap (lj live) J (reads a' live) w'|e=>Q e a' w') a w/\
   Wk (lj live) λvs=>Wi (MR (writes x) (oL live)) λus=>∀w':World,ap (lj live) J vs w'->
    W P n ann (p+1+DQ x) y Q (O9 n (O9 n a (MR (writes x) (oL live)) us) (oL live) vs) w'
 |p,.cond c x y,Q,a,w=>
  match evF a c with
  |.bool b=>af b (W P n ann (p+1) x Q (Zl n a c true) w) (W P n ann (p+1+DQ x) y Q (Zl n a c false) w)
  |_=>False
 |p,.block id c,Q,a,w=>W P n ann (p+1) c (λe a' w'=>match e with|.exit id'=>bif Nat.beq id' id then Q .normal a' w' else Q (.exit id') a' w'|e=>Q e a' w') a w
 |p,.loop c,Q,a,w=>
  match ann.at p with
  |none=>False
  |some live=>∃I:Nat->FP (lj live),(∃m:Nat,ap (lj live) (I m) (reads a live) w)/\
   ∀m:Nat,Wk (lj live) λvs=>Wi (MR (writes c) (oL live)) λus=>∀w':World,ap (lj live) (I m) vs w'->
    W P n ann (p+1) c (λe a' w''=>match e with|.normal=>∃m':Nat,m'<m/\ap (lj live) (I m') (reads a' live) w''|e=>Q e a' w'') (O9 n (O9 n a (MR (writes c) (oL live)) us) (oL live) vs) w'
 |p,.scope c,Q,a,w=>W P n ann (p+1) c (λe a' w'=>match e with|.goto _=>False|e=>Q e a' w') a w
 |_,.exit id,Q,a,w=>Q (.exit id) a w
 |_,.goto l,Q,a,w=>Q (.goto l) a w
 |_,.label _,Q,a,w=>Q .normal a w
 |_,.ret,Q,a,w=>Q .ret a w
 |_,.rangeFunc _ _ _ _,_,_,_=>False
 |_,.refuse _,_,_,_=>False
theorem QD {c:Code}{Q:Exit->Act->World->Prop}{a:Act}(H:Nat->Act->World->Prop)(M:∃m,H m a w)
 (round:∀m a w,H m a w->c.wp P (Exit.then (λa' w'=>∃I,I<m/\H I a' w') Q) a w):(Code.loop c).wp P Q a w:=by
 obtain⟨ag,M⟩:=M;intro b k cs;have key:∀m a w,H m a w->∃E a' w',Q E a' w'/\Arrives P (lone (b.at a (.code c::.inLoop c::k)) cs w) b k cs E a' w':=by
  intro m;induction m using Nat.strongRecOn with
  |_ m ad=>
   intro a w V;obtain⟨E,D,G,q,e⟩:=round m a w V b (.inLoop c::k) cs;cases E with
   |normal=>
    obtain⟨I,Z,X⟩:=q;obtain⟨U,O,aj,ac,Y⟩:=ad I Z D G X;exact⟨U,O,aj,ac,.of_steps (Steps.trans e (.one step_inLoop)) Y⟩
   |exit id=>exact⟨_,D,G,q,.pass (x:=.inLoop c) rfl (λ_ _=>.inl (by simp)) e⟩
   |goto l=>exact⟨_,D,G,q,.pass (x:=.inLoop c) rfl (λ_ _=>.inl (by simp)) e⟩
   |ret=>exact⟨_,D,G,q,.pass (x:=.inLoop c) rfl (λ_ _=>.inl (by simp)) e⟩
   |panic al=>exact⟨_,D,G,q,.pass (x:=.inLoop c) rfl (λ_ _=>.inl (by simp)) e⟩
   |outgrown=>exact⟨_,D,G,q,.pass (x:=.inLoop c) rfl (λ_ _=>.inl (by simp)) e⟩
 obtain⟨E,a',w',q,e⟩:=key ag a w M;exact⟨E,a',w',q,.of_steps (.one step_loop) e⟩
theorem told {e:List (Tmp×Sh)}{f:FP (lj e)}{S:List Tmp}{K:Fr->World->Prop}{D q:Fr}{a b:Act}
 (h:Wk (lj e) λvs=>Wi (MR S (oL e)) λus=>∀w':World,ap (lj e) f vs w'->K (O9 n (O9 n D (MR S (oL e)) us) (oL e) vs) w')
 {w':World} (O:Rep n D a) (M:Rep n q b) (I:ft S a b) (E:ap (lj e) f (reads q e) w'):∃G,Rep n G b/\K G w':=by
 have h1:=QT (d:=λ_=>False) (f:=f) (K:=λt vs=>Wi (MR S (oL e)) λus=>∀w':World,t w'->K (O9 n (O9 n D (MR S (oL e)) us) (oL e) vs) w') h
  (λvs=>Wj _ λus w' E=>E.elim) (reads q e)
 have H:=Om (f:=λt=>xy q t) h1 w' E;rw[Pa]at H;exact⟨_,PG O M I,H⟩
theorem ZP (a8:P.follows .mixedOrders=true)(n:Nat)(bc:Ann):∀(c:Code) (p:Nat) (Q:Exit->Fr->World->Prop) (M:Fr) (a:Act) (w:World),Rep n M a->W P n bc p c Q M w->
 ∀Q':Exit->Act->World->Prop,(∀e b4 a' w',Rep n b4 a'->ft (writes c) a a'->Q e b4 w'->Q' e a' w')->c.wp P Q' a w:=by
 intro c;induction c with
 |skip=>intro p Q M a w q h Q' D;exact wp_skip (D _ _ _ _ q (ft.refl _ _) h)
 |region id ar b5=>
  intro p Q M a w q h Q' D;cases b5 with
  |false=>exact wp_region_list (T8 q h λU a' w' G E V=>D _ _ _ _ G E V)
  |true=>
   simp only[W]at h;split at h
   ·rename_i O;simp only[Bool.and_eq_true]at O;exact wp_region_quiet (C:=Below w.heap.size w) a8 O.1.2 ((Below.refl _ w).drew) (T9 q h λU a' G E V w' ad=>D _ _ _ _ G E (V w' ad))
   ·split at h
    ·split at h
     ·rename_i l _ _ Z;have cf:Region.noSelect ar=true:=by
       simp only[YZ,Bool.and_eq_true]at Z;exact Z.1.1
      exact Code.wp_mono (λe a w a0=>by cases e<;>first|exact a0|exact a0.elim) (KR (N:=Q' .normal) (oL l) a8 Z (We q h λcn U a' G E V w' ad=>
       MU (N:=Q' .normal) cf G (Lw (V w' ad.1) ad.2) λbj bb ac Y X b0=>D _ _ _ _ Y (E.trans X) b0))
     ·cases h
    split at h
    ·split at h
     ·rename_i k _ _ _ _ Z;have ch:∀t,t∈Ia (ar.toList.take k)->t∈Ia ar.toList:=λt I=>by
       simp only[Ia,List.mem_filterMap]at I ⊢;obtain⟨x,b2,e⟩:=I;exact⟨x,mem_of_mem_take b2,e⟩
      have cj:∀t,t∈Ia (ar.toList.drop k)->t∈Ia ar.toList:=λt I=>by
       simp only[Ia,List.mem_filterMap]at I ⊢;obtain⟨x,b2,e⟩:=I;exact⟨x,List.mem_of_mem_drop b2,e⟩
      exact uQ (C:=Below w.heap.size w) k a8 Z ((Below.refl _ w).drew) (T9 q h λU a' G E V w' ad=>
       T8 G (V w' ad) λbj bb ac Y X b0=>D _ _ _ _ Y ((E.mono ch).trans (X.mono cj)) b0)
     ·cases h
    split at h
    ·rename_i Z;exact Code.wp_mono (λe a w a0=>by cases e<;>first|exact a0|exact a0.elim) (wp_region_any a8 (MU (N:=Q' .normal) Z q h λU a' w' G E V=>D _ _ _ _ G E V))
    ·cases h
 |seq x y aj al=>
  intro p Q M a w q h Q' D;refine wp_seq ?_;simp only[W]at h;split at h
  ·refine aj _ _ _ _ _ q h _ λe U a' w' G E H=>?_;cases e with
   |normal=>exact al _ _ _ _ _ G H _ λe bj bb ac Y X bs=>D _ _ _ _ Y ((E.mono λt I=>List.mem_append_left _ I).trans (X.mono λt I=>List.mem_append_right _ I)) bs
   |_=>exact D _ _ _ _ G (E.mono λt I=>List.mem_append_left _ I) H
  ·rename_i an _;obtain⟨J,h1,b8⟩:=h;refine aj _ _ _ _ _ q h1 _ λe U a' w' G E H=>?_;cases e with
   |normal=>
    obtain⟨b6,b1,bq⟩:=told (K:=λb w'=>W P n bc (p+1+DQ x) y Q b w') b8 q G E H;exact al _ _ _ _ _ b1 bq _ λe bj bb ac Y X bs=>D _ _ _ _ Y ((E.mono λt I=>List.mem_append_left _ I).trans (X.mono λt I=>List.mem_append_right _ I)) bs
   |_=>exact D _ _ _ _ G (E.mono λt I=>List.mem_append_left _ I) H
 |cond c x y aj al=>
  intro p Q M a w q h Q' D;simp only[W]at h;split at h
  ·rename_i b O;have cb:a.eval c=.bool b:=by rw[q.eval];exact O
   refine wp_cond_split cb (λe=>?_) (λe=>?_)
   ·subst e;exact aj _ _ _ _ _ (OU q O) h _ λe U a' w' G E H=>D _ _ _ _ G (E.mono λt I=>List.mem_append_left _ I) H
   ·subst e;exact al _ _ _ _ _ (OU q O) h _ λe U a' w' G E H=>D _ _ _ _ G (E.mono λt I=>List.mem_append_right _ I) H
  ·cases h
 |block id c ag=>
  intro p Q M a w q h Q' D;refine wp_block (ag _ _ _ _ _ q h _ λe U a' w' G E H=>?_);cases e with
  |exit ck=>
   simp only[Exit.inBlock]at H ⊢;cases O:Nat.beq ck id with
   |true=>rw[if_pos (Nat.eq_of_beq_eq_true O)];rw[O]at H;exact D _ _ _ _ G E H
   |false=>
    rw[if_neg (λe=>by rw[e,Nat.beq_refl]at O;cases O)];rw[O]at H;exact D _ _ _ _ G E H
  |_=>exact D _ _ _ _ G E H
 |loop c ag=>
  intro p Q M a w q h Q' D;simp only[W]at h;split at h
  ·cases h
  ·rename_i an _;obtain⟨b3,⟨cl,b7⟩,h⟩:=h;refine QD (λm b w'=>∃bk,Rep n bk b/\ft (writes c) a b/\ap (lj an) (b3 m) (reads bk an) w') ⟨cl,M,q,ft.refl _ _,b7⟩ λm b w' ⟨bk,cc,O,b9⟩=>?_;obtain⟨b6,b1,bq⟩:=told (K:=λb w'=>W P n bc (p+1) c (λe a' ac=>match e with|.normal=>∃a9:Nat,a9<m/\ap (lj an) (b3 a9) (reads a' an) ac|e=>Q e a' ac) b w') (h m) q cc O b9;refine ag _ _ _ _ _ b1 bq _ λe U a' ac G E H=>?_;cases e with
   |normal=>obtain⟨a9,ce,ca⟩:=H;exact⟨a9,ce,U,G,O.trans E,ca⟩
   |_=>exact D _ _ _ _ G (O.trans E) H
 |scope c ag=>
  intro p Q M a w q h Q' D;refine wp_scope_straight (ag _ _ _ _ _ q h _ λe U a' w' G E H=>?_);cases e with
  |goto l=>exact H.elim
  |_=>exact D _ _ _ _ G E H
 |exit id=>intro p Q M a w q h Q' D;exact wp_exit (D _ _ _ _ q (ft.refl _ _) h)
 |goto l=>intro p Q M a w q h Q' D;exact wp_goto (D _ _ _ _ q (ft.refl _ _) h)
 |label l=>intro p Q M a w q h Q' D;exact wp_label (D _ _ _ _ q (ft.refl _ _) h)
 |ret=>intro p Q M a w q h Q' D;exact wp_ret (D _ _ _ _ q (ft.refl _ _) h)
 |rangeFunc f cp x y aj al=>intro p Q M a w q h;exact h.elim
 |refuse=>intro p Q M a w q h;exact h.elim
def Ret (K:Value->World->Prop):Ending->World->Prop:=λe w=>∃v,e=.returned v/\K v w
def T5:List ResultVar->Option (List Tmp)
 |[]=>some []
 |.tmp t::l=>(T5 l).map (t:: ·)
 |.cell _ _::_=>none
def shZ (P:Program)(t:TypeId):Sh:=match(P.info? t).bind (·.zero)with|some v=>shV v|none=>.one .any
def LR (l:List Value):Value:=match l with|[v]=>v|l=>.tuple l.toArray
def PL (ρ:Tmp->Value)(r:ResultVar):Sem Value:=match r with
 |.tmp t=>pure (ρ t)
 |.cell a t=>do loadVar t (<- asAddr (ρ a))
def Y0 (rs:Array ResultVar)(ρ:Tmp->Value):Sem Value:=do
 let vs <- rs.mapM (PL ρ)
 pure (if h:vs.size=1 then vs[0]else .tuple vs)
def aS (t:TypeId)(v:Value):Sem Value:=do loadVar t (<- asAddr v)
def WR (P:Program)(ρ:Tmp->Value)(w:World):List ResultVar->(List Value->Prop)->Prop
 |[],k=>k []
 |.tmp t::rs,k=>WR P ρ w rs λvs=>k (ρ t::vs)
 |.cell a t::rs,k=>exS (shZ P t) λv=>(aS t (ρ a)).run P w=.ok v w/\WR P ρ w rs λvs=>k (v::vs)
theorem Wc {e:Tmp->Value}:∀(rs:List ResultVar) (k:List Value->Prop),WR P e w rs k->∃vs,(rs.mapM (PL e)).run P w=.ok vs w/\k vs
 |[],k,h=>⟨[],rfl,h⟩
 |.tmp t::rs,k,h=>by
  obtain⟨vs,h1,D⟩:=Wc rs _ h;refine⟨_,?_,D⟩;rw[List.mapM_cons];have q:PL e (.tmp t)=pure (e t):=rfl;simp only[q,Sem.run_bind,Sem.run_pure,Result.andThen_ok,h1]
 |.cell a t::rs,k,h=>by
  obtain⟨v,E,h⟩:=Ni h;obtain⟨vs,h1,D⟩:=Wc rs _ h;refine⟨_,?_,D⟩;rw[List.mapM_cons];have q:PL e (.cell a t)=aS t (e a):=rfl;simp only[q,Sem.run_bind,Sem.run_pure,Result.andThen_ok,E,h1]
def WB (P:Program)(fn:Func)(K:Value->World->Prop):Exit->Fr->World->Prop
 |.normal,a,w|.ret,a,w=>match T5 fn.results.toList with
  |some l=>K (LR (l.map λt=>xy a t)) w
  |none=>WR P (xy a) w fn.results.toList λvs=>K (LR vs) w
 |_,_,_=>False
theorem Qm (e:Func)(q:Array Value):results e q=Y0 e.results λt=>q.getD t undef:=rfl
theorem results_tmq {rs:Array ResultVar}{l:List Tmp}(h:T5 rs.toList=some l)(e:Tmp->Value)(w:World):
 (Y0 rs e).run P w=.ok (LR (l.map e)) w:=by
 have E:∀(rs:List ResultVar) (l:List Tmp),T5 rs=some l->(rs.mapM (PL e)).run P w=.ok (l.map e) w:=by
  intro rs;induction rs with
  |nil=>intro l h;simp[T5]at h;subst h;rfl
  |cons r rs G=>
   intro l h;cases r with
   |tmp t=>
    cases q:T5 rs with
    |none=>simp[T5,q]at h
    |some l'=>
     simp[T5,q]at h;subst h;rw[List.mapM_cons];have D:PL e (.tmp t)=pure (e t):=rfl;simp only[D,Sem.run_bind,Sem.run_pure,Result.andThen_ok,G _ q,map_cons]
   |cell a t=>simp[T5]at h
 unfold Y0;rw[Sem.run_bind,Array.mapM_eq_mapM_toList,Sem.run_map,E _ _ h];simp only[Result.andThen_ok,Sem.run_pure];congr 1;generalize (l.map e)=vs
 match vs with
 |[]=>rfl
 |[v]=>rfl
 |v::u::vs=>simp[LR]
def Ix:Nat->List Value->Fr
 |_,[]=>[]
 |i,v::vs=>(i,v)::Ix (i+1) vs
theorem Iy:∀(vs:List Value) (i j:Nat),xy (Ix i vs) j=if i <=j then(vs[j-i]?).getD undef else undef
 |[],i,j=>by simp[Ix,xy]
 |v::vs,i,j=>by
  simp only[Ix,xy];cases e:Nat.beq i j with
  |true=>have:=Nat.eq_of_beq_eq_true e;subst this;simp
  |false=>
   have G:i≠j:=λD=>by rw[D,Nat.beq_refl]at e;cases e
   rw[cond_false,Iy vs (i+1) j];by_cases q:i <=j
   ·have h1:i+1 <=j:=by omega
    have E:j-i=(j-(i+1))+1:=by omega
    rw[if_pos h1,if_pos q,E];simp
   ·have h1: ¬ i+1 <=j:=by omega
    rw[if_neg h1,if_neg q]
theorem az (X:P.follows .mixedOrders=true){f:FuncId}{e:Func}{c:Code}(U:P.funcs[f]? =some e)(O:e.body=some c)(H:Ann)(args:List Value)(ac:args.length <=e.ntmps)
 {K:Value->World->Prop} (G:Prop) (q:W P e.ntmps H 0 c (WB P e K) (Ix 0 args) w=G) (h:G):Calls P f args.toArray w (Ret K):=by
 refine calls_of_wp U O ?_;have D:Rep e.ntmps (Ix 0 args) { tmps:=args.toArray++Array.replicate (e.ntmps-args.toArray.size) undef,defers:=[] } :=by
  refine⟨by simp;omega,rfl,λt=>?_⟩;rw[Iy];simp only[Nat.zero_le,if_true,Nat.sub_zero,Array.getD_eq_getD_getElem?,Array.getElem?_append,List.size_toArray,List.getElem?_toArray];by_cases M:t<args.length
  ·simp[M]
  ·simp only[if_neg M];rw[List.getElem?_eq_none (by omega:args.length <=t)];simp only[Array.getElem?_replicate];split<;>rfl
 refine ZP X _ H c 0 _ _ _ _ D (q▸h) _ λE Z a' w' I _ q=>?_;have key:∀{a:Act} {fr:Fr} {w:World},Rep e.ntmps fr a->(match T5 e.results.toList with
  |some l=>K (LR (l.map λt=>xy fr t)) w
  |none=>WR P (xy fr) w e.results.toList λvs=>K (LR vs) w)->a.defers=[]/\∃v,(results e a.tmps).run P w=.ok v w/\Ret K (.returned v) w:=by
  intro a fr w D h;have E:(λt=>a.tmps.getD t undef)=xy fr:=funext D.get;refine⟨D.defers,?_⟩;rw[Qm,E];split at h
  ·rename_i l V;exact⟨_,results_tmq V _ _,_,rfl,h⟩
  ·obtain⟨vs,Y,h⟩:=Wc _ _ h;refine⟨LR vs,?_,_,rfl,h⟩;unfold Y0;rw[Sem.run_bind,Array.mapM_eq_mapM_toList,Sem.run_map,Y];simp only[Result.andThen_ok,Sem.run_pure];congr 1
   match vs with
   |[]=>rfl
   |[v]=>rfl
   |v::u::vs=>simp[LR]
 cases E with
 |normal=>exact key I q
 |ret=>exact key I q
 |_=>exact q.elim
theorem aA {f:FuncId}{K:Value->World->Prop}{R:Ending->World->Prop}(h:Calls P f H w (Ret K))(q:∀v w',K v w'->R (.returned v) w'):
 Calls P f H w R:=h.mono λE w' ⟨v,e,D⟩=>by subst e;exact q v w' D
def be (s:lU)(j:Int):Int:=((s[j.toNat]?.getD 0).toNat:Nat)
def av (a:Option Addr)(j:Int)(size:Nat):Option Addr:=a.map (·.add (j.toNat*size))
def bw (a:Option Addr)(c l size:Nat):Option Addr:=if c=l then a else a.map (·.add (l*size))
def aQ:Nat->Prop->Prop
 |0,X=>X
 |k+1,X=>∀_:Value,aQ k X
theorem aQ.of {X:Prop}(h:X):∀k,aQ k X
 |0=>h
 |k+1=>λ_=>aQ.of h k
def aG (fn:Func):Code:=fn.body.getD .skip
end Go.Pk
