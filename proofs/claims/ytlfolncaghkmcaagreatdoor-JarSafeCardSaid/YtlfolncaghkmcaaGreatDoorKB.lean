/- What the laws lean on: R, Open, Names, V3; what is used. Its conditions: none. -/
import Derived.Test.YtlfolncaghkmcaaGreatDoorKA
import Derived.Laws.AppendOwn
import Derived.IntWalk
import Derived.ProofKit
import Derived.OpenShut
import Derived.Stop.LaidErr
import Derived.Lib.LaidTab
import Derived.Deep.DeepHandedRow
import Derived.Test.YtlfolncaghkmcaaGreatDoorRows
variable {i k:Nat}{w:Go.World}{o:Type}{t:Go.TypeId}{P:Go.Program}{y:Array Go.Value}{z:Nat×Nat}{s:List UInt8}
open Go.IntKind (i64)
open Go.Proofs.Tryz
set_option linter.unusedVariables false
set_option linter.unusedSimpArgs false
open List (length)
open Option (isSome)
namespace Go.Pk
open Go.RowKit (Below)
open Go.Proofs
abbrev Bl:=Nat->Prop
structure NP (A:Bl)(w w':World):Prop where
 size:w.heap.size <=w'.heap.size
 block:∀b,b<w.heap.size->A b->w'.heap[b]? =w.heap[b]?
theorem NP.refl (A:Bl)(w:World):NP A w w:=⟨Nat.le_refl _,λ_ _ _=>rfl⟩
theorem NP.trans {A:Bl}{a b c:World}(h:NP A a b)(k:NP A b c):NP A a c:=
 ⟨Nat.le_trans h.size k.size,λi q e=>(k.block i (Nat.lt_of_lt_of_le q h.size) e).trans (h.block i q e)⟩
theorem NP.mono {A A':Bl}{w w':World}(h:NP A w w')(e:∀b,A' b->A b):NP A' w w':=⟨h.size,λb D q=>h.block b D (e b q)⟩
theorem L5 {w w':World}(h:Below w.heap.size w w')(A:Bl):NP A w w':=⟨h.size,λb e _=>h.block b e⟩
theorem jR {w w':World}{row:Option Nat}(h:w.grownBy w' row){A:Bl}(e:∀b,A b->some b≠row):NP A w w':=⟨h.size,λb D q=>h.block b D (e b q)⟩
theorem bD (w:World):Below w.heap.size w w.drew:=(Below.refl _ w).drew
theorem au (w:World)(o:Obj):Below w.heap.size w (w.alloc o):=(Below.refl _ w).alloc (Nat.le_refl _) o
theorem ah {B:Nat}{a b c:World}(h:Below B a b)(k:Below b.heap.size b c)(hB:B <=b.heap.size):Below B a c:=h.trans (k.mono hB)
structure Ty (α:Type) where
 k:Nat
 pos:0<k
 rep:World->Bl->List Value->α->Prop
 len:∀{w A vs x},rep w A vs x->vs.length=k
 one:∀{w A vs x},rep w A vs x->∀v∈vs,v.oneCell'=true
 keep:∀{w w' A vs x},rep w A vs x->NP A w w'->rep w' A vs x
 mono:∀{w A A' vs x},rep w A vs x->(∀b,b<w.heap.size->A b->A' b)->rep w A' vs x
def Ty.enc {α:Type}(e:α->Value)(h1:∀x,(e x).oneCell'=true)(p:α->Prop):Ty α where
 k:=1
 pos:=by decide
 rep:=λ_ _ vs x=>vs=[e x]/\p x
 len:=λh=>by rw[h.1];rfl
 one:=fun{_ _ _ x} h v hv=>by rw[h.1]at hv;simp at hv;rw[hv];exact h1 x
 keep:=λh _=>h
 mono:=λh _=>h
def TH (k:IntKind)(p:Int->Prop):Ty Int:=Ty.enc (λn=>.int k n) (λ_=>rfl) p
def tU8:Ty UInt8:=Ty.enc (λc=>.int .u8 (c.toNat:Nat)) (λ_=>rfl) λ_=>True
def Vj (p:List UInt8->Prop):Ty (List UInt8):=Ty.enc (λs=>.string (mkS s)) (λ_=>rfl) p
abbrev tS:Ty (List UInt8):=Vj λ_=>True
def NoB:Bl:=λ_=>False
structure TF (P:Program)(t:TypeId)(k bytes:Nat)(z:Value):Prop where
 info:∃i,P.info? t=some i/\i.size=k/\i.bytes=bytes/\i.zero=some z
 cells:z.cells.size=k
 und:∃d,P.underlying t=some d/\(El d=true\/k=1/\El d=false)
theorem TF.of {k bytes:Nat}{z:Value}(h1:(P.info? t).map (λi=>(i.size,i.bytes,i.zero))=some (k,bytes,some z))(E:z.cells.size=k)(b:Bool)
 (e:(P.underlying t).map El=some b) (G:b=true\/k=1):TF P t k bytes z:=by
 cases q:P.info? t with
 |none=>rw[q]at h1;cases h1
 |some i=>
  rw[q]at h1
  simp only[Option.map_some,Option.some.injEq,Prod.mk.injEq]at h1
  cases D:P.underlying t with
  |none=>rw[D]at e;cases e
  |some d=>
   rw[D]at e
   simp only[Option.map_some,Option.some.injEq]at e
   refine⟨⟨i,q,h1.1,h1.2.1,h1.2.2⟩,E,d,D,?_⟩
   cases b with
   |true=>exact .inl e
   |false=>exact .inr ⟨G.resolve_left (by simp),e⟩
structure kK {α:Type}(T:Ty α)(w:World)(A:Bl)(l:List Value)(xs:List α):Prop where
 len:l.length=xs.length*T.k
 rep:∀i (h:i<xs.length),T.rep w A ((l.drop (i*T.k)).take T.k) xs[i]
theorem kK.nil {α:Type}(T:Ty α)(w:World)(A:Bl):kK T w A [] ([]:List α):=⟨by simp,λi h=>by cases h⟩
theorem kK.one {α:Type}{T:Ty α}{A:Bl}{vs:List Value}{x:α}(h:T.rep w A vs x):kK T w A vs [x]:=by
 have q:=T.len h
 refine⟨by simp[q],λi e=>?_⟩
 have:i=0:=by simpa using e
 subst this
 simp only[Nat.zero_mul,List.drop_zero,List.getElem_cons_zero]
 rw[List.take_of_length_le (by omega)];exact h
theorem kK.append {α:Type}{T:Ty α}{A:Bl}{l m:List Value}{xs ys:List α}(h:kK T w A l xs)(k:kK T w A m ys):kK T w A (l++m) (xs++ys):=by
 refine⟨by rw[List.length_append,List.length_append,h.len,k.len,Nat.add_mul],λi q=>?_⟩
 by_cases c:i<xs.length
 ·rw[List.getElem_append_left c]
  have h1:=h.rep i c
  have e:i*T.k+T.k <=l.length:=by
   have:=Nat.mul_le_mul_right T.k (show i+1 <=xs.length from c)
   rw[Nat.add_mul,Nat.one_mul]at this
   rw[h.len];exact this
  rw[List.drop_append_of_le_length (by omega),List.take_append_of_le_length (by rw[List.length_drop];omega)]
  exact h1
 ·have D:i-xs.length<ys.length:=by simp at q;omega
  rw[List.getElem_append_right (by omega)]
  have h1:=k.rep (i-xs.length) D
  have e:i*T.k=l.length+(i-xs.length)*T.k:=by
   rw[h.len,<- Nat.add_mul];congr 1;omega
  rw[e,List.drop_length_add_append]
  exact h1
theorem kK.keep {α:Type}{T:Ty α}{w w':World}{A:Bl}{l:List Value}{xs:List α}(h:kK T w A l xs)(q:NP A w w'):kK T w' A l xs:=⟨h.len,λi e=>T.keep (h.rep i e) q⟩
theorem kK.mono {α:Type}{T:Ty α}{A A':Bl}{l:List Value}{xs:List α}(h:kK T w A l xs)(e:∀b,b<w.heap.size->A b->A' b):kK T w A' l xs:=⟨h.len,λi q=>T.mono (h.rep i q) e⟩
theorem kK.ones {α:Type}{T:Ty α}{A:Bl} :∀{xs:List α} {l:List Value},kK T w A l xs->∀v∈l,v.oneCell'=true
 |[],l,h,v,e=>by have:=h.len;simp at this;subst this;cases e
 |x::xs,l,h,v,e=>by
  have D:=h.len
  have G:=T.pos
  have h1:=h.rep 0 (by simp)
  rw[Nat.zero_mul,List.drop_zero]at h1
  have q:kK T w A (l.drop T.k) xs:=by
   refine⟨by rw[List.length_drop,D];simp[Nat.add_mul],λi E=>?_⟩
   have:=h.rep (i+1) (by simp;omega)
   simp only[List.getElem_cons_succ]at this
   rw[List.drop_drop]
   rw[Nat.add_mul,Nat.one_mul,Nat.add_comm]at this
   exact this
  rw[<- List.take_append_drop T.k l]at e
  rcases List.mem_append.1 e with e|e
  ·exact T.one h1 v e
  ·exact kK.ones q v e
theorem kK.set {α:Type}{T:Ty α}{A:Bl}{l:List Value}{xs:List α}(h:kK T w A l xs)(U:i<xs.length){vs:List Value}{x:α}(E:T.rep w A vs x):
 kK T w A (l.take (i*T.k)++vs++l.drop (i*T.k+vs.length)) (xs.set i x):=by
 have e:=T.len E
 have X:i*T.k+T.k <=l.length:=by
  have:=Nat.mul_le_mul_right T.k (show i+1 <=xs.length from U)
  rw[Nat.add_mul,Nat.one_mul]at this
  rw[h.len];exact this
 refine⟨?_,λj V=>?_⟩
 ·rw[List.length_set,<- h.len,List.length_append,List.length_append,List.length_take,List.length_drop,e];omega
 ·have q:j<xs.length:=by simpa using V
  have key:(l.take (i*T.k)++vs++l.drop (i*T.k+vs.length))=l.take (i*T.k)++(vs++l.drop (i*T.k+vs.length)):=List.append_assoc _ _ _
  have D:(l.take (i*T.k)).length=i*T.k:=by rw[List.length_take];omega
  by_cases G:j<i
  ·have h1:=h.rep j q
   have O:j*T.k+T.k <=i*T.k:=by
    have:=Nat.mul_le_mul_right T.k (show j+1 <=i from G)
    rwa [Nat.add_mul,Nat.one_mul]at this
   rw[List.getElem_set_ne (by omega),key,List.drop_append_of_le_length (by omega),List.take_append_of_le_length (by rw[List.length_drop];omega)]
   rw[List.drop_take,List.take_take]
   rw[show min T.k (i*T.k-j*T.k)=T.k by omega]
   exact h1
  ·by_cases H:j=i
   ·subst H
    rw[List.getElem_set_self,key,List.drop_left' D,<- e,List.take_left]
    exact E
   ·have h1:=h.rep j q
    have O:i*T.k+T.k <=j*T.k:=by
     have:=Nat.mul_le_mul_right T.k (show i+1 <=j by omega)
     rwa [Nat.add_mul,Nat.one_mul]at this
    rw[List.getElem_set_ne (by omega)]
    have I:(l.take (i*T.k)++vs++l.drop (i*T.k+vs.length)).drop (j*T.k)=l.drop (j*T.k):=by
     have M:j*T.k=(l.take (i*T.k)++vs).length+(j*T.k-(i*T.k+T.k)):=by rw[List.length_append,D,e];omega
     rw[M,List.drop_length_add_append,List.drop_drop]
     congr 1
     omega
    rw[I];exact h1
def At {α:Type}(T:Ty α)(w:World)(A:Bl)(b off:Nat)(xs:List α):Prop:=
 ∃l:List Value,kK T w A l xs/\∀j,j<l.length->w.cell? ⟨b,off+j,none⟩=l[j]?
def Sl {α:Type}(T:Ty α)(w:World)(A:Bl)(a:Option Addr)(n c:Nat)(xs:List α):Prop:=
 n=xs.length/\n <=c/\c <=maxLen/\(xs=[]\/∃b off,a=some ⟨b,off,none⟩/\b<w.heap.size/\A b/\At T w A b off xs)
theorem Jh {w w':World}{b:Nat}(h:w'.heap[b]? =w.heap[b]?)(o:Nat):w'.cell? ⟨b,o,none⟩=w.cell? ⟨b,o,none⟩:=by simp[World.cell?,h]
theorem At.keep {α:Type}{T:Ty α}{w w':World}{A:Bl}{b off:Nat}{xs:List α}(h:At T w A b off xs)(E:b<w.heap.size)(D:A b)(e:NP A w w'):At T w' A b off xs:=by
 obtain⟨l,h1,q⟩:=h
 exact⟨l,h1.keep e,λj G=>by rw[Jh (e.block b E D)];exact q j G⟩
theorem Sl.keep {α:Type}{T:Ty α}{w w':World}{A:Bl}{a:Option Addr}{n c:Nat}{xs:List α}(h:Sl T w A a n c xs)(E:NP A w w'):Sl T w' A a n c xs:=by
 obtain⟨h1,H,I,e⟩:=h
 refine⟨h1,H,I,?_⟩
 rcases e with e|⟨b,off,G,D,q,e⟩
 ·exact .inl e
 ·exact .inr ⟨b,off,G,Nat.lt_of_lt_of_le D E.size,q,e.keep D q E⟩
theorem Sl.below {α:Type}{T:Ty α}{w w':World}{A:Bl}{a:Option Addr}{n c:Nat}{xs:List α}(h:Sl T w A a n c xs)(e:Below w.heap.size w w'):Sl T w' A a n c xs:=h.keep (L5 e A)
theorem Sl.mono {α:Type}{T:Ty α}{A A':Bl}{a:Option Addr}{n c:Nat}{xs:List α}(h:Sl T w A a n c xs)(q:∀b,b<w.heap.size->A b->A' b):Sl T w A' a n c xs:=by
 obtain⟨h1,G,H,e⟩:=h
 refine⟨h1,G,H,?_⟩
 rcases e with e|⟨b,off,E,D,O,e⟩
 ·exact .inl e
 ·obtain⟨l,I,M⟩:=e
  exact .inr ⟨b,off,E,D,q b D O,l,I.mono q,M⟩
theorem Sl.len {α:Type}{T:Ty α}{A:Bl}{a:Option Addr}{n c:Nat}{xs:List α}(h:Sl T w A a n c xs):n=xs.length:=h.1
theorem Sl.le {α:Type}{T:Ty α}{A:Bl}{a:Option Addr}{n c:Nat}{xs:List α}(h:Sl T w A a n c xs):xs.length <=9223372036854775807:=by
 have h1:=h.1;have q:=h.2.1;have e:=h.2.2.1;unfold maxLen at e;omega
theorem Sl.nil {α:Type}(T:Ty α)(w:World)(A:Bl)(a:Option Addr)(c:Nat)(e:c <=maxLen):Sl T w A a 0 c ([]:List α):=⟨rfl,Nat.zero_le _,e,.inl rfl⟩
theorem Sl.isSome {α:Type}{T:Ty α}{A:Bl}{a:Option Addr}{n c:Nat}{xs:List α}(h:Sl T w A a n c xs)(D:i<xs.length):Option.isSome a=true:=by
 rcases h.2.2.2 with q|⟨b,off,e,_⟩
 ·subst q;cases D
 ·rw[e];rfl
theorem dF (b o j:Nat):(⟨b,o,none⟩:Addr).add j=⟨b,o+j,none⟩:=by
 unfold Addr.add;split <;> simp_all
theorem qb {d:TypeDesc}(D:P.underlying t=some d)(e:El d=false){p:Addr}{v:Value}(q:w.cell? p=some v):
 (loadVar t p).run P w=.ok v w:=by
 unfold loadVar
 rw[Sem.run_bind,Di D,e]
 simp[q]
theorem Oy {b off:Nat}{vs:List Value}(h:∀j,j<vs.length->w.cell? ⟨b,off+j,none⟩=vs[j]?):(loadCells ⟨b,off,none⟩ vs.length).run P w=.ok vs.toArray w:=
 run_loadCells_list (P:=P) w ⟨b,off,none⟩ vs λj v e=>by
  rw[dF,h j (by have:=(List.getElem?_eq_some_iff.1 e).1;exact this)];exact e
theorem JO {d:TypeDesc}{i:TypeInfo}(E:P.underlying t=some d)(e:El d=true)(q:P.info? t=some i){b off:Nat}{vs:List Value}(D:vs.length=i.size)
 (h:∀j,j<vs.length->w.cell? ⟨b,off+j,none⟩=vs[j]?):(loadVar t ⟨b,off,none⟩).run P w=.ok (.agg vs.toArray) w:=by
 unfold loadVar
 rw[Sem.run_bind,Di E,e]
 have:=Oy (P:=P) h
 rw[D]at this
 simp[rE q,this]
theorem qZ (b off:Nat)(i:Int)(k:Nat):aw (some ⟨b,off,none⟩) i k=some ⟨b,off+i.toNat*k,none⟩:=by
 simp[aw,dF]
theorem At.elem {α:Type}{T:Ty α}{A:Bl}{b off:Nat}{xs:List α}(h:At T w A b off xs)(e:i<xs.length):
 ∃vs,T.rep w A vs xs[i]/\∀j,j<T.k->w.cell? ⟨b,off+i*T.k+j,none⟩=vs[j]? :=by
 obtain⟨l,h1,q⟩:=h
 have E:i*T.k+T.k <=l.length:=by
  have:=Nat.mul_le_mul_right T.k (show i+1 <=xs.length from e)
  rw[Nat.add_mul,Nat.one_mul]at this
  rw[h1.len];exact this
 refine⟨_,h1.rep i e,λj D=>?_⟩
 rw[Nat.add_assoc,q _ (by omega),List.getElem?_take,if_pos D,List.getElem?_drop]
theorem Sl.load1 {α:Type}{T:Ty α}{d:TypeDesc}(U:P.underlying t=some d)(O:El d=false)(q:T.k=1)
 {A:Bl} {a:Option Addr} {n c:Nat} {xs:List α} (h:Sl T w A a n c xs) {i:Int} (G:i.toNat<xs.length):
 ∃v,(Instr.loadAt t (.pointer (aw a i 1))).run P w=.ok v w/\T.rep w A [v] xs[i.toNat]:=by
 rcases h.2.2.2 with e|⟨b,off,I,X,V,e⟩
 ·subst e;cases G
 ·obtain⟨vs,D,M⟩:=e.elem G
  have H:=T.len D
  rw[q]at H
  match vs,H with
  |[v],_=>
   refine⟨v,?_,D⟩
   have E:=M 0 (by rw[q];decide)
   rw[q]at E
   rw[I,qZ]
   show(do loadVar t (<- Instr.sureAddr (.pointer (some _)))).run P w=_
   rw[Sem.run_bind,oN]
   exact qb U O (by simpa using E)
theorem Sl.loadA {α:Type}{T:Ty α}{d:TypeDesc}{E:TypeInfo}(U:P.underlying t=some d)(I:El d=true)(M:P.info? t=some E)(O:T.k=k)(ac:E.size=k)
 {A:Bl} {a:Option Addr} {n c:Nat} {xs:List α} (h:Sl T w A a n c xs) {i:Int} (D:i.toNat<xs.length):
 ∃vs,(Instr.loadAt t (.pointer (aw a i k))).run P w=.ok (.agg vs.toArray) w/\T.rep w A vs xs[i.toNat]:=by
 subst O
 rcases h.2.2.2 with e|⟨b,off,G,X,V,e⟩
 ·subst e;cases D
 ·obtain⟨vs,q,H⟩:=e.elem D
  have Z:=T.len q
  refine⟨vs,?_,q⟩
  rw[G,qZ]
  show(do loadVar t (<- Instr.sureAddr (.pointer (some _)))).run P w=_
  rw[Sem.run_bind,oN]
  exact JO U I M (by omega) λj Y=>H j (by omega)
def j0 (a:Option Addr):Option Nat:=a.map (·.block)
def Ow {α:Type}(T:Ty α)(t:TypeId)(w:World)(A:Bl)(a:Option Addr)(n c:Nat)(xs:List α):Prop:=
 n=xs.length/\n <=c/\c <=maxLen/\((a=none/\c=0/\xs=[])\/
  ∃g cur fr,a=some ⟨g,0,none⟩/\w.heap[g]? =some (.cells cur t fr)/\(∀i,i<cur.size-> ¬ (fr.1 <=i/\i<fr.2))/\cur.size=c*T.k/\kK T w A (cur.toList.take (n*T.k)) xs)
theorem Ow.nil {α:Type}(T:Ty α)(t:TypeId)(w:World)(A:Bl):Ow T t w A none 0 0 ([]:List α):=⟨rfl,Nat.le_refl _,Nat.zero_le _,.inl ⟨rfl,rfl,rfl⟩⟩
theorem Ow.len {α:Type}{T:Ty α}{A:Bl}{a:Option Addr}{n c:Nat}{xs:List α}(h:Ow T t w A a n c xs):n=xs.length:=h.1
theorem Ow.le {α:Type}{T:Ty α}{A:Bl}{a:Option Addr}{n c:Nat}{xs:List α}(h:Ow T t w A a n c xs):xs.length <=9223372036854775807:=by
 have h1:=h.1;have q:=h.2.1;have e:=h.2.2.1;unfold maxLen at e;omega
theorem Ow.lt {α:Type}{T:Ty α}{A:Bl}{a:Option Addr}{n c:Nat}{xs:List α}(h:Ow T t w A a n c xs):∀g,j0 a=some g->g<w.heap.size:=by
 intro g e
 rcases h.2.2.2 with⟨q,_⟩|⟨G,cur,E,q,D,_⟩
 ·rw[q]at e;cases e
 ·rw[q]at e;simp[j0]at e;subst e;exact(Array.getElem?_eq_some_iff.1 D).1
theorem Ow.keep {α:Type}{T:Ty α}{w w':World}{A:Bl}{a:Option Addr}{n c:Nat}{xs:List α}(h:Ow T t w A a n c xs)(D:NP (λb=>A b\/some b=j0 a) w w'):Ow T t w' A a n c xs:=by
 have O:=h.lt
 obtain⟨h1,G,H,e⟩:=h
 refine⟨h1,G,H,?_⟩
 rcases e with e|⟨g,cur,E,q,M,I,U,e⟩
 ·exact .inl e
 ·refine .inr ⟨g,cur,E,q,?_,I,U,e.keep (D.mono λ_ h=>.inl h)⟩
  rw[D.block g (O g (by rw[q];rfl)) (.inr (by rw[q];rfl))];exact M
theorem Ow.below {α:Type}{T:Ty α}{w w':World}{A:Bl}{a:Option Addr}{n c:Nat}{xs:List α}(h:Ow T t w A a n c xs)(e:Below w.heap.size w w'):Ow T t w' A a n c xs:=h.keep (L5 e _)
theorem Ow.mono {α:Type}{T:Ty α}{A A':Bl}{a:Option Addr}{n c:Nat}{xs:List α}(h:Ow T t w A a n c xs)(H:∀b,b<w.heap.size->A b->A' b):Ow T t w A' a n c xs:=by
 obtain⟨h1,E,G,e⟩:=h
 refine⟨h1,E,G,?_⟩
 rcases e with e|⟨g,cur,D,q,M,I,O,e⟩
 ·exact .inl e
 ·exact .inr ⟨g,cur,D,q,M,I,O,e.mono H⟩
theorem Ow.sl {α:Type}{T:Ty α}{A A':Bl}{a:Option Addr}{n c:Nat}{xs:List α}(h:Ow T t w A a n c xs)(hA:∀b,b<w.heap.size->A b->A' b)(H:∀g,j0 a=some g->A' g):
 Sl T w A' a n c xs:=by
 have O:=h.lt
 obtain⟨h1,E,G,e⟩:=h
 refine⟨h1,E,G,?_⟩
 rcases e with⟨_,_,e⟩|⟨g,cur,D,q,I,U,V,e⟩
 ·exact .inl e
 ·refine .inr ⟨g,0,q,O g (by rw[q];rfl),H g (by rw[q];rfl),_,e.mono hA,λj M=>?_⟩
  rw[List.length_take]at M
  rw[cell_of_row w g _ cur t D I,Nat.zero_add,List.getElem?_take,if_pos (by omega)]
  simp
abbrev wu:Bl:=λ_=>True
theorem Ow.all {α:Type}{T:Ty α}{A:Bl}{a:Option Addr}{n c:Nat}{xs:List α}(h:Ow T t w A a n c xs):Sl T w wu a n c xs:=h.sl (λ_ _ _=>trivial) (λ_ _=>trivial)
def ci (B:Nat)(a:Option Addr):Prop:=∀g,j0 a=some g->B <=g
theorem ci.none (B:Nat):ci B none:=λ_ h=>by cases h
theorem ci.mono {B e:Nat}{a:Option Addr}(h:ci B a)(q:e <=B):ci e a:=λg D=>Nat.le_trans q (h g D)
theorem setRow_size (w:World)(g:Nat)(cs:Array Value):(w.setRow g cs).heap.size=w.heap.size:=by simp[World.setRow]
theorem qV (w:World)(g:Nat)(cs:Array Value):w.grownBy (w.setRow g cs) (some g):=
 ⟨rfl,rfl,rfl,by rw[setRow_size];exact Nat.le_refl _,λk _ q=>setRow_other w g k cs λe=>q (by rw[e])⟩
theorem A6 {g:Nat}(e:w.heap[g]? =some (.cells y t z))(o:Nat):w.cell? ⟨g,o,none⟩=y[o]? :=cell_of_row w g o y t z e
theorem Mb {g o:Nat}(q:w.heap[g]? =some (.cells y t z))(e: ¬ (z.1 <=o/\o<z.2)):w.frozen? ⟨g,o,none⟩=false:=by
 obtain⟨E,D⟩:=z
 simp only[World.frozen?,q]
 simpa using e
theorem NE {g o:Nat}(e:w.heap[g]? =some (.cells y t z))(H:o<y.size)(E: ¬ (z.1 <=o/\o<z.2))
 {v:Value} (h1:v.oneCell'=true):(store ⟨g,o,none⟩ v).run P w=.ok () (w.setRow g (y.setIfInBounds o v)):=by
 rw[run_store P w _ v .plain h1,A6 e,Mb e E,Array.getElem?_eq_getElem H]
 simp only[Bool.false_eq_true,if_false]
 congr 1
 obtain⟨D,O,I,M,output⟩:=w
 simp only[World.setCell,World.setRow]
 congr 1
 apply Array.ext_getElem?
 intro k
 rw[Array.getElem?_modify,Array.getElem?_modify]
 by_cases q:g=k
 ·subst q
  simp only[if_true]
  have G:D[g]? =some (.cells y t z):=e
  rw[G]
  rfl
 ·simp only[if_neg q]
theorem tB (g o:Nat)(t:TypeId)(q:Nat×Nat):∀(vs:List Value) (i:Nat) (cur:Array Value) (w:World),w.heap[g]? =some (.cells cur t q)->o+i+vs.length <=cur.size->
 (∀j,j<cur.size-> ¬ (q.1 <=j/\j<q.2))->(∀v∈vs,v.oneCell'=true)->
 (storeCells ⟨g,o,none⟩ vs i).run P w=.ok () (w.setRow g (cur.toList.take (o+i)++vs++cur.toList.drop (o+i+vs.length)).toArray)
 |[],i,cur,w,D,_,_,_=>by
  simp only[storeCells,List.append_nil,List.length_nil,Nat.add_zero,List.take_append_drop,Array.toArray_toList]
  rw[setRow_self w g cur t q D]
  rfl
 |v::e,i,cur,w,D,U,M,h1=>by
  have H:o+i<cur.size:=by simp at U;omega
  simp only[storeCells,Sem.run_bind,dF]
  rw[NE D H (M _ H) (h1 v List.mem_cons_self),Result.andThen_ok]
  rw[tB g o t q e (i+1) (cur.setIfInBounds (o+i) v) _ (setRow_heap w g cur _ t q D) (by simp at U ⊢;omega)
   (λj aj=>M j (by simpa using aj)) (λu an=>h1 u (List.mem_cons_of_mem _ an))]
  congr 1
  have Y:∀(a b:Array Value),(w.setRow g a).setRow g b=w.setRow g b:=by
   intro a b
   obtain⟨ad,a9,ar,a8,output⟩:=w
   simp only[World.setRow]
   congr 1
   apply Array.ext_getElem?
   intro k
   rw[Array.getElem?_modify,Array.getElem?_modify,Array.getElem?_modify]
   by_cases O:g=k
   ·subst O
    have ag:ad[g]? =some (.cells cur t q):=D
    simp[ag]
   ·simp only[if_neg O]
  rw[Y]
  congr 1
  apply Array.ext'
  simp only[Array.toList_setIfInBounds,List.length_cons]
  apply List.ext_getElem?
  intro k
  have al:cur.toList.length=cur.size:=by simp
  simp only[List.getElem?_append,List.length_append,List.length_take,List.length_set,List.getElem?_take,List.getElem?_drop,List.length_cons,al,List.getElem?_set]
  by_cases V:k<o+i
  ·have: ¬ o+i=k:=by omega
   simp[V,this,show k<min (o+(i+1)) cur.size by omega,show k<min (o+i) cur.size by omega,show k<o+(i+1) by omega,
    show k<min (o+(i+1)) cur.size+e.length by omega,show k<min (o+i) cur.size+(e.length+1) by omega]
  ·by_cases X:k=o+i
   ·subst X
    have E:min (o+i) cur.size=o+i:=by omega
    have G:min (o+(i+1)) cur.size=o+i+1:=by omega
    simp[E,G,H,show o+i<o+i+1+e.length by omega,show o+i<o+(i+1) by omega]
   ·have E:min (o+i) cur.size=o+i:=by omega
    have G:min (o+(i+1)) cur.size=o+i+1:=by omega
    by_cases I:k<o+i+1+e.length
    ·have Z:k-(o+i)=(k-(o+i+1))+1:=by omega
     simp[E,G,I,show k<o+i+(e.length+1) by omega,show ¬ k<o+i+1 by omega,show ¬ k<o+i by omega,Z]
    ·have a0: ¬ o+i=o+(i+1)+e.length+(k-(o+i+1+e.length)):=by omega
     have ac:o+(i+1)+e.length+(k-(o+i+1+e.length))=o+i+(e.length+1)+(k-(o+i+(e.length+1))):=by omega
     simp[E,G,I,show ¬ k<o+i+(e.length+1) by omega,ac]
     intro h;omega
def Src {α:Type}(T:Ty α)(w:World)(A:Bl)(y:Option Addr)(m:Nat)(ys:List α):Prop:=
 m=ys.length/\(ys=[]\/∃b off,y=some ⟨b,off,none⟩/\At T w A b off ys)
def Flat {α:Type}(T:Ty α):Prop:=∀w A w' A' vs x,T.rep w A vs x->T.rep w' A' vs x
theorem kK.flat {α:Type}{T:Ty α}(e:Flat T){w w':World}{A A':Bl}{l:List Value}{xs:List α}(h:kK T w A l xs):kK T w' A' l xs:=⟨h.len,λi q=>e _ _ _ _ _ _ (h.rep i q)⟩
theorem Sl.flat {α:Type}{T:Ty α}(G:Flat T){A A':Bl}{a:Option Addr}{n c:Nat}{xs:List α}(h:Sl T w A a n c xs):Src T w A' a n xs:=by
 obtain⟨h1,H,I,e⟩:=h
 refine⟨h1,?_⟩
 rcases e with e|⟨b,off,q,O,M,l,D,E⟩
 ·exact .inl e
 ·exact .inr ⟨b,off,q,l,D.flat G,E⟩
theorem Src.new1F {α:Type}{T:Ty α}(q:Flat T){A:Bl}{vs:List Value}{x:α}{b:Nat}{w':World}(e:b=w.heap.size)(D:w'=w.alloc (.cells vs.toArray t))(h:T.rep w A vs x):
 Src T w' A (some ⟨b,0,none⟩) 1 [x]:=by
 subst e D
 refine⟨rfl,.inr ⟨_,0,rfl,vs,kK.one (q _ _ _ _ _ _ h),λj E=>?_⟩⟩
 rw[A6 (heap_alloc_new w _),Nat.zero_add]
 simp
theorem Ji {b off:Nat}{l:List Value}(h:∀j,j<l.length->w.cell? ⟨b,off+j,none⟩=l[j]?):∀j v,l[j]? =some v->w.cell? ((⟨b,off,none⟩:Addr).add j)=some v:=λj v e=>by
 rw[dF,h j (List.getElem?_eq_some_iff.1 e).1];exact e
theorem j6 {α:Type}{T:Ty α}{st t ty:TypeId}{bytes:Nat}{z:Value}(M:P.underlying st=some (.slice t))(bj:TF P t T.k bytes z)(bz:0<bytes)
 {A:Bl} {a:Option Addr} {n c:Nat} {xs:List α} (ce:Ow T t w A a n c xs) (hA:∀g,j0 a=some g-> ¬ A g)
 {y:Option Addr} {m cm:Nat} {ys:List α} (ch:Src T w A y m ys) (Z:(xs.length+ys.length)*bytes <=140737488355328):
 ∃(w':World) (a':Option Addr) (bc c':Nat),(Builtin.append_ #[st,st] ty #[.slice a n c,.slice y m cm]).run P w=.ok (.slice a' bc c') w'/\Ow T t w' A a' bc c' (xs++ys)/\w.grownBy w' (j0 a)/\
  (∀g,j0 a'=some g->j0 a=some g\/w.heap.size <=g):=by
 obtain⟨i,H,I,ar,a9⟩:=bj.info
 have bb:=bj.cells
 have cn:=T.pos
 obtain⟨cb,cl,b0,cf⟩:=ce
 obtain⟨b9,an⟩:=ch
 subst cb b9
 have cj:xs.length+ys.length <=140737488355328:=Nat.le_trans (Nat.le_mul_of_pos_right _ bz) Z
 have ag:xs.length+ys.length <=maxLen:=by unfold maxLen;omega
 have b6:∀{w'},w.grownBy w' (j0 a)->NP A w w':=λD=>jR D λb bs E=>hA b E.symm bs
 rcases cf with⟨rfl,rfl,rfl⟩|⟨g,cur,Y,rfl,D,a0,b1,al⟩
 ·
  rcases an with rfl|⟨b,off,rfl,l,e,G⟩
  ·refine⟨w,none,0,0,?_,Ow.nil T t w A,⟨rfl,rfl,rfl,Nat.le_refl _,λ_ _ _=>rfl⟩,λg h=>by cases h⟩
   have b2:(Builtin.firstCells i.size 0 (.slice y 0 cm)).run P w=.ok #[] w:=by
    cases y with
    |none=>rfl
    |some y=>simp[Builtin.firstCells,loadCells,loadCellsFrom]
   simp[Builtin.append_,ft M,rE H,Builtin.lenOf,b2]
  ·by_cases bp:ys.length=0
   ·have:ys=[]:=List.eq_nil_of_length_eq_zero bp
    subst this
    refine⟨w,none,0,0,?_,Ow.nil T t w A,⟨rfl,rfl,rfl,Nat.le_refl _,λ_ _ _=>rfl⟩,λg h=>by cases h⟩
    simp[Builtin.append_,ft M,rE H,Builtin.lenOf,Builtin.firstCells,loadCells,loadCellsFrom]
   ·have aj:=run_append_nil (P:=P) w st ty t i z M H a9 ⟨b,off,none⟩ ys.length cm l (by rw[e.len,I]) (Ji G) (by omega) (by simp at cj;omega) (by rw[ar];simp at Z;omega)
    refine⟨_,_,_,_,aj,?_,⟨rfl,rfl,rfl,by simp,λk q _=>heap_alloc_old w.drew _ k q⟩,λg h=>.inr (by simp[j0]at h;omega)⟩
    have ad:=grownCap_ge w ys.length 0 t
    have ac:grownCap w ys.length 0 t <=maxLen:=grownCap_le_maxLen w ys.length 0 t (by simp at ag;exact ag)
    refine⟨by simp,ad,ac,.inr ⟨_,_,(0,0),rfl,heap_alloc_new w.drew _,λi _=>by simp,?_,?_⟩⟩
    ·simp only[Array.size_append,List.size_toArray,size_zeroCells,bb,e.len,<- Nat.add_mul]
     congr 1;omega
    ·rw[List.nil_append]
     simp only[Array.toList_append]
     rw[<- e.len,List.take_left]
     exact e.keep ⟨by simp,λk q _=>heap_alloc_old w.drew _ k q⟩
 ·have ck:g<w.heap.size:=(Array.getElem?_eq_some_iff.1 D).1
  have X:(cur.toList.take (xs.length*T.k)).length=xs.length*T.k:=al.len
  obtain⟨l,e,b3⟩:∃l,kK T w A l ys/\(Builtin.firstCells i.size ys.length (.slice y ys.length cm)).run P w=.ok l.toArray w:=by
   rcases an with rfl|⟨b,off,rfl,l,e,G⟩
   ·refine⟨[],kK.nil T w A,?_⟩
    cases y with
    |none=>rfl
    |some y=>simp[Builtin.firstCells,loadCells,loadCellsFrom]
   ·exact⟨l,e,run_firstCells_some (P:=P) w i.size ys.length ⟨b,off,none⟩ _ _ l (by rw[e.len,I]) (Ji G)⟩
  have b7:((cur.toList.take (xs.length*T.k))++l).length=(xs.length+ys.length)*T.k:=by rw[List.length_append,X,e.len,Nat.add_mul]
  by_cases U:xs.length+ys.length <=c
  ·have b4:xs.length*T.k+l.length <=cur.size:=by rw[e.len,b1,<- Nat.add_mul];exact Nat.mul_le_mul_right _ U
   have a8:=tB (P:=P) g (xs.length*T.k) t Y l 0 cur w D (by simpa using b4) a0 e.ones
   simp only[Nat.add_zero]at a8
   refine⟨w.setRow g (cur.toList.take (xs.length*T.k)++l++cur.toList.drop (xs.length*T.k+l.length)).toArray,some ⟨g,0,none⟩,xs.length+ys.length,c,?_,?_,qV w g _,λbk h=>.inl h⟩
   ·have bq:(⟨g,0,none⟩:Addr).add (xs.length*i.size)=⟨g,xs.length*T.k,none⟩:=by rw[dF,I,Nat.zero_add]
    simp only[Builtin.append_,Sem.run_bind,ft M,rE H,Builtin.lenOf,Sem.run_pure,Result.andThen_ok,U,List.getElem?_toArray,List.getElem?_cons_zero,List.getElem?_cons_succ,if_true,Bool.false_eq_true,if_false,Bool.not_false,b3,bq,a8]
   ·refine⟨by simp,U,b0,.inr ⟨g,_,Y,rfl,setRow_heap w g cur _ t Y D,?_,?_,?_⟩⟩
    ·intro j b5
     refine a0 j ?_
     simp at b5;omega
    ·simp;omega
    ·have E:((cur.toList.take (xs.length*T.k)++l++cur.toList.drop (xs.length*T.k+l.length)).toArray).toList.take ((xs.length+ys.length)*T.k)=cur.toList.take (xs.length*T.k)++l:=by
      rw[<- b7];simp only[];exact List.take_left
     rw[E]
     exact(al.append e).keep (b6 (qV w g _))
  ·have holds:∀j v,(cur.toList.take (xs.length*T.k))[j]? =some v->w.cell? ((⟨g,0,none⟩:Addr).add j)=some v:=λj v V=>by
    rw[dF,Nat.zero_add,A6 D]
    rw[List.getElem?_take]at V
    split at V
    ·simpa using V
    ·cases V
   have cc:ys≠[]:=by
    intro E;subst E;simp at U;omega
   rcases an with rfl|⟨b,off,rfl,l',O,G⟩
   ·exact absurd rfl cc
   ·have aj:=run_append_grow (P:=P) w st ty t i z M H a9 ⟨g,0,none⟩ xs.length c (cur.toList.take (xs.length*T.k)) (by rw[X,I]) holds ⟨b,off,none⟩ ys.length cm l' (by rw[O.len,I]) (Ji G)
     (by omega) (by omega) (growslice_fits (by omega) (by rw[ar];exact Z))
    refine⟨_,_,_,_,aj,?_,⟨rfl,rfl,rfl,by simp,λk q _=>heap_alloc_old w.drew _ k q⟩,λbk h=>.inr (by simp[j0]at h;omega)⟩
    have ad:=grownCap_ge w (xs.length+ys.length) c t
    have ac:grownCap w (xs.length+ys.length) c t <=maxLen:=grownCap_le_maxLen w _ c t ag
    have b8:((cur.toList.take (xs.length*T.k))++l').length=(xs.length+ys.length)*T.k:=by rw[List.length_append,X,O.len,Nat.add_mul]
    refine⟨by simp,ad,ac,.inr ⟨_,_,(0,0),rfl,heap_alloc_new w.drew _,λi _=>by simp,?_,?_⟩⟩
    ·simp only[Array.size_append,List.size_toArray,size_zeroCells,bb,X,O.len,<- Nat.add_mul]
     congr 1;omega
    ·simp only[Array.toList_append]
     rw[<- b8,List.take_left]
     exact(al.append O).keep ⟨by simp,λk q _=>heap_alloc_old w.drew _ k q⟩
theorem run_storeVar_row {t u:TypeId}{e:TypeInfo}(E:P.info? t=some e){g o:Nat}(D:w.heap[g]? =some (.cells y u z))
 (q:∀i,i<y.size-> ¬ (z.1 <=i/\i<z.2)) {v:Value} (G:v.cells.size=e.size) (H:o+e.size <=y.size) (h1:∀c∈v.cells.toList,c.oneCell'=true):
 (Instr.storeAt t (.pointer (some ⟨g,o,none⟩)) v).run P w=.ok () (w.setRow g (y.toList.take o++v.cells.toList++y.toList.drop (o+v.cells.size)).toArray):=by
 show(do storeVar t (<- Instr.sureAddr (.pointer (some ⟨g,o,none⟩))) v).run P w=_
 rw[Sem.run_bind,oN,Result.andThen_ok]
 unfold storeVar
 rw[Sem.run_bind,rE E,Result.andThen_ok,if_neg (by simp[G])]
 have:=tB (P:=P) g o u z v.cells.toList 0 y w D (by simp;omega) q h1
 simpa using this
theorem Ow.store {α:Type}{T:Ty α}{bytes:Nat}{z:Value}(a8:TF P t T.k bytes z){A:Bl}{a:Option Addr}{n c:Nat}{xs:List α}(al:Ow T t w A a n c xs)(hA:∀g,j0 a=some g-> ¬ A g)
 {i:Int} (q:i.toNat<xs.length) (ag:T.k=k) {v:Value} {x:α} (D:T.rep w A v.cells.toList x):
 ∃w',(Instr.storeAt t (.pointer (aw a i k)) v).run P w=.ok () w'/\Ow T t w' A a n c (xs.set i.toNat x)/\w.grownBy w' (j0 a):=by
 subst ag
 obtain⟨bc,a0,U,_,_⟩:=a8.info
 have V:=T.len D
 have a9:=hA
 obtain⟨aj,O,Z,an⟩:=al
 rcases an with⟨_,_,rfl⟩|⟨g,cur,G,rfl,M,I,ac,ar⟩
 ·cases q
 ·subst aj
  have H:i.toNat*T.k+T.k <=xs.length*T.k:=by
   have:=Nat.mul_le_mul_right T.k (show i.toNat+1 <=xs.length from q)
   rwa [Nat.add_mul,Nat.one_mul]at this
  have bb:xs.length*T.k <=cur.size:=by rw[ac];exact Nat.mul_le_mul_right _ O
  have X:v.cells.size=T.k:=by simpa using V
  rw[qZ,Nat.zero_add]
  refine⟨_,run_storeVar_row a0 M I (by rw[X,U]) (by rw[U];omega) (T.one D),?_,qV w g _⟩
  refine⟨by simp,O,Z,.inr ⟨g,_,G,rfl,setRow_heap w g cur _ t G M,?_,?_,?_⟩⟩
  ·intro j ad
   refine I j ?_
   simp at ad;omega
  ·simp;omega
  ·have h1:=(ar.set q D).keep (jR (qV w g (cur.toList.take (i.toNat*T.k)++v.cells.toList++cur.toList.drop (i.toNat*T.k+v.cells.size)).toArray) λb H e=>hA g rfl (by cases e;exact H))
   have e:((cur.toList.take (i.toNat*T.k)++v.cells.toList++cur.toList.drop (i.toNat*T.k+v.cells.size)).toArray).toList.take (xs.length*T.k)=
    (cur.toList.take (xs.length*T.k)).take (i.toNat*T.k)++v.cells.toList++(cur.toList.take (xs.length*T.k)).drop (i.toNat*T.k+v.cells.toList.length):=by
    simp only[]
    have Y:(cur.toList.take (xs.length*T.k)).take (i.toNat*T.k)=cur.toList.take (i.toNat*T.k):=by rw[List.take_take];congr 1;omega
    rw[Y,List.take_append,List.drop_take]
    have E:(cur.toList.take (i.toNat*T.k)++v.cells.toList).length=i.toNat*T.k+T.k:=by simp[X];omega
    rw[E,List.take_of_length_le (by rw[E];omega)]
    congr 2
    rw[V]
   rw[e];exact h1
theorem uE {w w':World}(D:w'.os=w.os)(G:w'.tape=w.tape)(q:w'.output=w.output)(E:w.heap.size <=w'.heap.size)(e:∀k,k<w.heap.size->w'.heap[k]? =w.heap[k]?):Below w.heap.size w w':=⟨D,G,q,E,e⟩
theorem o5 {α:Type}{e:α->Value}{h1:∀x,(e x).oneCell'=true}{p:α->Prop}{A:Bl}{xs:List α}(D:∀x∈xs,p x):kK (Ty.enc e h1 p) w A (xs.map e) xs:=by
 refine⟨by simp[Ty.enc],λi q=>?_⟩
 have:((xs.map e).drop (i*1)).take 1=[e xs[i]]:=by
  rw[Nat.mul_one,<- List.map_drop,List.drop_eq_getElem_cons q];rfl
 exact⟨this,D _ (List.getElem_mem q)⟩
theorem tJ {α:Type}{e:α->Value}{h1:∀x,(e x).oneCell'=true}{p:α->Prop}{A:Bl} :∀{l:List Value} {xs:List α},kK (Ty.enc e h1 p) w A l xs->l=xs.map e:=by
 intro l xs h
 have G:l.length=xs.length:=by have:=h.len;simpa[Ty.enc]using this
 apply List.ext_getElem (by simp[G])
 intro i h1 H
 have E:i<xs.length:=by omega
 have D:((l.drop (i*1)).take 1)=[e xs[i]]:=(h.rep i E).1
 have q:((l.drop (i*1)).take 1)[0]? =some (e xs[i]):=by rw[D];rfl
 rw[Nat.mul_one,List.getElem?_take,if_pos (by decide),List.getElem?_drop,Nat.add_zero,List.getElem?_eq_getElem h1]at q
 rw[List.getElem_map];exact Option.some.inj q
theorem DO {s d t:TypeId}(X:P.underlying s=some .string)(I:P.underlying d=some (.slice t))(Z:P.underlying t=some (.int .u8))(w:World)(l:List UInt8)(ad:l.length <=9223372036854775807)(A:Bl):
 ∃(w':World) (a:Option Addr) (n c:Nat),(convert s d (.string (mkS l))).run P w=.ok (.slice a n c) w'/\Ow tU8 t w' A a n c l/\Below w.heap.size w w'/\ci w.heap.size a:=by
 have E:∃cap,l.length <=cap/\cap <=maxLen/\(choose (.appendCap l.length 0 t)).run P w=.ok cap w.drew:=by
  refine⟨_,grownCap_ge w l.length 0 t,grownCap_le_maxLen w l.length 0 t (by unfold maxLen;omega),?_⟩
  rw[run_choose];rfl
 obtain⟨cap,h1,D,G⟩:=E
 have Y:(mkS l).size=l.length:=rfl
 generalize e:(mkS l).data.map (λb=>Value.int .u8 (b.toNat:Nat))++Array.replicate (cap-l.length) (Value.int .u8 0)=cs
 have H:cs.size=cap:=by rw[<- e];simp[mkS];omega
 have V:(markStringish ⟨w.heap.size,0,none⟩).run P (w.drew.alloc (.cells cs t))=.ok () ((w.drew.alloc (.cells cs t)).freeze ⟨w.heap.size,cs.size,none⟩ 1):=by
  unfold markStringish
  have:(w.drew.alloc (.cells cs t)).shape? w.heap.size=some (t,cs.size):=by
   unfold World.shape?
   have:=heap_alloc_new w.drew (.cells cs t)
   rw[show w.drew.heap.size=w.heap.size from rfl]at this
   rw[this]
  simp[this]
 refine⟨(w.drew.alloc (.cells cs t)).freeze ⟨w.heap.size,cs.size,none⟩ 1,some ⟨w.heap.size,0,none⟩,l.length,cap,?_,?_,?_,λg M=>by simp[j0]at M;omega⟩
 ·simp only[convert,Sem.run_bind,ft X,ft I,Result.andThen_ok,ft Z,Conv.stringToBytes,Y,G]
  show((newRow t _).run P w.drew).andThen _=_
  rw[e]
  simp only[newRow,Sem.run_bind,run_newObj,Result.andThen_ok,Sem.run_pure,World.alloc_eq]
  rw[show w.drew.heap.size=w.heap.size from rfl,V]
  rfl
 ·have O:((w.drew.alloc (.cells cs t)).freeze ⟨w.heap.size,cs.size,none⟩ 1).heap[w.heap.size]? =some (.cells cs t (cs.size,cs.size+1)):=by
   have:=heap_alloc_new w.drew (.cells cs t)
   rw[show w.drew.heap.size=w.heap.size from rfl]at this
   simp only[World.freeze,if_neg (show ¬ (1:Nat)=0 by decide),Array.getElem?_modify,if_true,this]
   rfl
  refine⟨rfl,h1,D,.inr ⟨_,_,_,rfl,O,λi ac=>by omega,by rw[H];exact(Nat.mul_one cap).symm,?_⟩⟩
  have q:cs.toList.take (l.length*tU8.k)=l.map λc=>Value.int .u8 (c.toNat:Nat):=by
   rw[<- e]
   simp[mkS,tU8,Ty.enc]
  rw[q]
  exact o5 λ_ _=>trivial
 ·refine uE rfl rfl rfl (by simp[World.freeze]) λk U=>?_
  simp only[World.freeze,if_neg (show ¬ (1:Nat)=0 by decide),Array.getElem?_modify]
  rw[if_neg (show ¬ w.heap.size=k by omega)]
  exact heap_alloc_old w.drew _ k U
theorem uX {s d t:TypeId}(V:P.underlying s=some (.slice t))(U:P.underlying d=some .string)(X:P.underlying t=some (.int .u8)){A:Bl}{a:Option Addr}{n c:Nat}{xs:List UInt8}(h:Sl tU8 w A a n c xs):
 (convert s d (.slice a n c)).run P w=.ok (.string (mkS xs)) w:=by
 have conv:(convert s d (.slice a n c)).run P w=(Conv.bytesToString (.slice a n c)).run P w:=by
  cases a <;> simp[convert,ft V,ft U,ft X]
 rw[conv]
 obtain⟨H,_,_,q⟩:=h
 have loop:∀(D:String) (l:List UInt8) (e:List UInt8),(do
  let r <- forIn (l.map λc=>Value.int .u8 (c.toNat:Nat)) (mkS e) λc r=>do
   let .int .u8 n:=c|stuck D
   pure (ForInStep.yield (r.push (UInt8.ofNat n.toNat)))
  pure (Value.string r):Sem Value).run P w=.ok (.string (mkS (e++l))) w:=by
  intro D l
  induction l with
  |nil=>intro e;simp
  |cons x l Y=>
   intro e
   have I:(mkS e).push x=mkS (e++[x]):=by simp[mkS,ByteArray.push]
   have:=Y (e++[x])
   simp only[List.map_cons,List.forIn_cons,bind_assoc,pure_bind,Int.toNat_natCast,UInt8.ofNat_toNat,I]
   rw[this];simp
 cases a with
 |none=>
  have:xs=[]:=by
   rcases q with q|⟨b,off,E,_⟩
   ·exact q
   ·cases E
  subst this
  simp[Conv.bytesToString];rfl
 |some p=>
  have O:(loadCells p n).run P w=.ok (xs.map λc=>Value.int .u8 (c.toNat:Nat)).toArray w:=by
   rcases q with q|⟨b,off,E,ac,Z,l,G,M⟩
   ·subst q;subst H;simp[loadCells,loadCellsFrom]
   ·cases E
    have:=Oy (P:=P) M
    rw[G.len]at this
    rw[tJ G]at this
    rw[H]
    simpa[tU8,Ty.enc]using this
  have key:∃D:String,(Conv.bytesToString (.slice (some p) n c)).run P w=((loadCells p n).run P w).andThen λcs w'=>(do
   let r <- forIn cs (mkS []) λc r=>do
    let .int .u8 n:=c|stuck D
    pure (ForInStep.yield (r.push (UInt8.ofNat n.toNat)))
   pure (Value.string r):Sem Value).run P w':=by
   constructor
   unfold Conv.bytesToString
   simp only[Sem.run_bind]
   rfl
  obtain⟨D,key⟩:=key
  rw[key,O,Result.andThen_ok]
  have:=loop D xs []
  rw[List.nil_append]at this
  rw[<- this]
  simp only[List.forIn_toArray]
theorem wrap_i64 {n:Int}(h1: -9223372036854775808 <=n)(e:n <=9223372036854775807):i64.wrap n=n:=IntWalk.i64_in n ⟨h1,e⟩
theorem wrap_u8 {n:Int}(h1:0 <=n)(e:n <=255):IntKind.u8.wrap n=n:=IntWalk.u8_in n ⟨h1,e⟩
theorem qi (c:UInt8):(0:Int) <=(c.toNat:Nat)/\((c.toNat:Nat):Int) <=255:=by
 have:=c.toNat_lt;omega
theorem tW {i:Int}(h:i.toNat<s.length):bm s i=((s[i.toNat]).toNat:Nat):=by
 simp[bm,h]
theorem AR {a b:UInt8}(h:((a.toNat:Nat):Int)=((b.toNat:Nat):Int)):a=b:=UInt8.toNat_inj.1 (by omega)
theorem uA {A:Bl}{n:Int}{c:UInt8}(h:n=((c.toNat:Nat):Int)):tU8.rep w A [.int .u8 n] c:=⟨by rw[h],trivial⟩
theorem qk {A:Bl}{p:List UInt8->Prop}(h:p s):(Vj p).rep w A [.string (mkS s)] s:=⟨rfl,h⟩
theorem Mq {A:Bl}{v:Value}{c:UInt8}(h:tU8.rep w A [v] c):v=.int .u8 (c.toNat:Nat):=by have:=h.1;simpa using this
theorem nw {A:Bl}{p:List UInt8->Prop}{v:Value}(h:(Vj p).rep w A [v] s):v=.string (mkS s)/\p s:=⟨by have:=h.1;simpa using this,h.2⟩
theorem ci.app {B:Nat}{a a':Option Addr}(e:ci B a)(hB:B <=w.heap.size)(h:∀g,j0 a'=some g->j0 a=some g\/w.heap.size <=g):ci B a':=λg q=>by
 rcases h g q with h|h
 ·exact e g h
 ·exact Nat.le_trans hB h
theorem wK:Flat tU8:=λ_ _ _ _ _ _ h=>h
theorem gI (p:List UInt8->Prop):Flat (Vj p):=λ_ _ _ _ _ _ h=>h
theorem Ow.newF {α:Type}{T:Ty α}(q:Flat T){w w':World}{A:Bl}{l:List Value}{xs:List α}{b:Nat}(e:b=w.heap.size)(E:w'=w.alloc (.cells l.toArray t))(h:kK T w A l xs)(D:xs.length <=maxLen):
 Ow T t w' A (some ⟨b,0,none⟩) xs.length xs.length xs:=by
 subst e E
 refine⟨rfl,Nat.le_refl _,D,.inr ⟨_,l.toArray,(0,0),rfl,heap_alloc_new w _,?_,by simpa using h.len,?_⟩⟩
 ·intro i G;simp
 ·rw[<- h.len];simp;exact h.flat q
theorem sr {b:Nat}(q:b=w.heap.size):ci w.heap.size (some ⟨b,0,none⟩):=λg e=>by simp[j0]at e;omega
theorem oV {enc:TypeId×Value->o}{C:Checked}{I:Os}{f:FuncId}{E:Func}{s:OpenSpec}{D:List PathCond}{q:Bool}{H:List (String×DataW Unit)}(modest:Bool)(w0:World)(args:Array Value)(M:w0.os=I)
 (U:(w0.forCall (λ_ _=>0) ⟨#[],args,[]⟩).Shaped C.prog)
 (G:Input.okWideB C.prog (w0.forCall (λ_ _=>0) ⟨#[],args,[]⟩) f ⟨#[],args,[]⟩=true)
 (O:s.preRow enc C.prog E D q H (w0.forCall (λ_ _=>0) ⟨#[],args,[]⟩).memory args):
 ∃(w:World) (e:Tape) (i:Input),w.os=I/\(w.forCall e i).Shaped C.prog/\i.vars=[]/\Input.okWide C.prog (w.forCall e i) .any w.heap.size f i/\
  s.preRow enc C.prog E D q H (w.forCall e i).memory i.args/\({ modest:=modest } :Assume).holds C.prog (lone (Frame.enter C.prog f i.args .normal) [] (w.forCall e i)):=
 ⟨w0,λ_ _=>0,⟨#[],args,[]⟩,M,U,(Input.okWide_of_okWideB (base:=0) G).1,(Input.okWide_of_okWideB G).2,O,by
  simp only[Assume.holds]
  exact⟨by simp,by simp,λ_=>Modest.zero,by simp,by simp⟩⟩
abbrev ux:Nat:=9
abbrev pN:Nat:=10
abbrev mZ:Nat:=11
abbrev bE:Nat:=12
abbrev pT:Nat:=13
abbrev dH:Nat:=14
abbrev eC:Nat:=17
abbrev eh:Nat:=21
abbrev tT:Nat:=26
abbrev Fo:Nat:=27
abbrev Fp:Nat:=28
abbrev vx:Nat:=29
abbrev BC:Nat:=30
abbrev xe:Nat:=31
abbrev zN:Nat:=32
abbrev vw:Nat:=33
abbrev Aj:Nat:=34
abbrev wH:Nat:=35
abbrev rC:Nat:=36
abbrev Bn:Nat:=37
abbrev Bv:Nat:=38
abbrev tX:Nat:=40
abbrev jb:Nat:=41
abbrev gT:Nat:=42
abbrev Bp:Nat:=43
abbrev oI:Nat:=44
abbrev uD:Nat:=45
abbrev Bo:Nat:=46
abbrev wI:Nat:=47
abbrev Hf:Nat:=48
abbrev lY:Nat:=49
abbrev uZ:Nat:=52
abbrev sb:Nat:=53
abbrev zP:Nat:=54
abbrev Bw:Nat:=55
abbrev xr:Nat:=56
abbrev jj:Nat:=57
abbrev BA:Nat:=58
abbrev qx:Nat:=59
abbrev tP:Nat:=60
abbrev Hi:Nat:=61
abbrev xF:Nat:=62
abbrev yd:Nat:=63
abbrev vv:Nat:=64
abbrev o8:Nat:=65
abbrev Bg:Nat:=66
abbrev Ah:Nat:=67
abbrev Ag:Nat:=68
abbrev yV:Nat:=69
abbrev yQ:Nat:=70
abbrev iT:Nat:=71
abbrev eA:Nat:=72
abbrev sF:Nat:=73
abbrev uY:Nat:=74
abbrev uR:Nat:=75
abbrev yT:Nat:=76
abbrev va:Nat:=77
abbrev oQ:Nat:=78
abbrev uQ:Nat:=79
abbrev uj:Nat:=80
abbrev wF:Nat:=81
abbrev rc:Nat:=82
abbrev df:Nat:=83
abbrev rX:Nat:=84
abbrev fu:Nat:=85
abbrev xg:Nat:=86
abbrev pL:Nat:=87
abbrev mf:Nat:=91
abbrev ui:Nat:=92
abbrev dp:Nat:=93
abbrev tQ:Nat:=94
abbrev AC:Nat:=95
abbrev Am:Nat:=103
abbrev jU:Nat:=109
abbrev Fq:Nat:=110
abbrev Jz:Nat:=111
abbrev uw:Nat:=112
abbrev uy:Nat:=113
abbrev Jy:Nat:=114
abbrev lG:Nat:=115
abbrev me:Nat:=116
abbrev CX:Nat:=117
abbrev JA:Nat:=118
abbrev Gc:Nat:=119
abbrev Bh:Nat:=120
abbrev CW:Nat:=121
abbrev Em:Nat:=122
abbrev uv:Nat:=123
abbrev zO:Nat:=124
abbrev Ai:Nat:=125
abbrev lN:Nat:=126
abbrev Af:Nat:=127
abbrev BB:Nat:=128
abbrev xt:Nat:=129
abbrev yW:Nat:=130
abbrev uO:Nat:=131
abbrev qy:Nat:=132
abbrev CO:Nat:=133
abbrev CP:Nat:=134
abbrev mV:Nat:=135
abbrev iS:Nat:=136
abbrev eW:Nat:=137
abbrev Hh:Nat:=138
abbrev eD:Nat:=139
abbrev gY:Nat:=140
abbrev Hg:Nat:=141
abbrev Bu:Nat:=142
abbrev fy:Nat:=155
abbrev Fs:Nat:=176
abbrev DS:Nat:=182
abbrev Fl:Nat:=183
abbrev xf:Nat:=184
abbrev rr:Nat:=185
abbrev rL:Nat:=186
abbrev oH:Nat:=187
abbrev Bk:Nat:=188
abbrev CV:Nat:=191
abbrev vq:Nat:=192
abbrev yR:Nat:=193
abbrev zQ:Nat:=194
abbrev xG:Nat:=196
abbrev Ak:Nat:=199
abbrev Bf:Nat:=200
abbrev CR:Nat:=201
abbrev uu:Nat:=202
abbrev yg:Nat:=203
abbrev CQ:Nat:=230
abbrev tw:Nat:=231
abbrev CT:Nat:=236
abbrev vu:Nat:=237
abbrev CU:Nat:=238
abbrev Bi:Nat:=239
abbrev cT:Nat:=240
abbrev yS:Nat:=241
abbrev pY:Nat:=242
abbrev tO:Nat:=243
abbrev uk:Nat:=245
abbrev Bt:Nat:=246
abbrev KZ:Nat:=270
abbrev Fm:Nat:=271
abbrev CS:Nat:=272
abbrev qw:Nat:=273
abbrev ye:Nat:=274
abbrev sq:Nat:=275
abbrev Ii:Nat:=285
abbrev AB:Nat:=286
abbrev yf:Nat:=287
abbrev wE:Nat:=288
abbrev oW:Nat:=289
abbrev rK:Nat:=302
abbrev rb:Nat:=303
abbrev tR:Nat:=311
abbrev xk:Nat:=0
abbrev aX:Nat:=2
abbrev aJ:Nat:=3
abbrev bu:Nat:=4
abbrev bF:Nat:=5
abbrev ao:Nat:=9
abbrev qY:Nat:=22
abbrev xD:Nat:=24
abbrev aK:Nat:=30
abbrev ak:Nat:=32
abbrev aQ:Nat:=34
abbrev cD:Nat:=40
abbrev sk:Nat:=42
abbrev bM:Nat:=43
abbrev aU:Nat:=52
abbrev aN:Nat:=58
abbrev af:Nat:=63
abbrev fg:Nat:=73
abbrev gE:Nat:=74
abbrev cB:Nat:=76
abbrev aG:Nat:=78
abbrev aq:Nat:=85
abbrev bI:Nat:=104
abbrev bg:Nat:=109
abbrev db:Nat:=110
abbrev bR:Nat:=112
abbrev j5:Nat:=123
abbrev dq:Nat:=125
abbrev bC:Nat:=140
abbrev gR:Nat:=143
abbrev QW:Nat:=185
abbrev kQ:Nat:=194
abbrev pW:Nat:=235
abbrev r8:Nat:=238
abbrev cJ:Nat:=239
abbrev ez:Nat:=244
abbrev mY:Nat:=246
abbrev MB:Nat:=249
abbrev A5:Nat:=293
abbrev MA:Nat:=307
abbrev xU:Nat:=323
theorem bn:prog.underlying aX=some (.int .i64):=by kernel_rfl
theorem eF:TF prog aX 1 8 (.int .i64 (0:Int)):=TF.of (by kernel_rfl) (by kernel_rfl) false (by kernel_rfl) (.inr rfl)
theorem br:prog.underlying aJ=some (.int .i64):=by kernel_rfl
theorem fk:TF prog aJ 1 8 (.int .i64 (0:Int)):=TF.of (by kernel_rfl) (by kernel_rfl) false (by kernel_rfl) (.inr rfl)
theorem bA:prog.underlying bu=some (.bool):=by kernel_rfl
theorem jY:TF prog bu 1 1 (.bool false):=TF.of (by kernel_rfl) (by kernel_rfl) false (by kernel_rfl) (.inr rfl)
theorem dm:prog.underlying bF=some (.int .u8):=by kernel_rfl
theorem zX:TF prog bF 1 1 (.int .u8 (0:Int)):=TF.of (by kernel_rfl) (by kernel_rfl) false (by kernel_rfl) (.inr rfl)
theorem ax:prog.underlying ao=some (.string):=by kernel_rfl
theorem bS:TF prog ao 1 16 (.string (mkS [])):=TF.of (by kernel_rfl) (by kernel_rfl) false (by kernel_rfl) (.inr rfl)
theorem zZ:prog.underlying qY=some (.pointer sk):=by kernel_rfl
theorem AU:prog.underlying xD=some (.pointer cB):=by kernel_rfl
abbrev fh:Array Value:= #[.int .u8 (0:Int),.int .u8 (0:Int),.int .u8 (0:Int),.int .u8 (0:Int),.int .u8 (0:Int),.int .u8 (0:Int),.int .u8 (0:Int),.int .u8 (0:Int),.int .u8 (0:Int),.int .u8 (0:Int),.int .u8 (0:Int),.int .u8 (0:Int),.int .u8 (0:Int),.int .u8 (0:Int),.int .u8 (0:Int),.int .u8 (0:Int)]
theorem PP:TF prog aK 16 16 (.agg #[.int .u8 (0:Int),.int .u8 (0:Int),.int .u8 (0:Int),.int .u8 (0:Int),.int .u8 (0:Int),.int .u8 (0:Int),.int .u8 (0:Int),.int .u8 (0:Int),.int .u8 (0:Int),.int .u8 (0:Int),.int .u8 (0:Int),.int .u8 (0:Int),.int .u8 (0:Int),.int .u8 (0:Int),.int .u8 (0:Int),.int .u8 (0:Int)]):=TF.of (by kernel_rfl) (by kernel_rfl) true (by kernel_rfl) (.inl rfl)
abbrev bK:Array Value:= #[.int .i64 (0:Int),.string (mkS []),.int .u8 (0:Int),.int .u8 (0:Int),.int .u8 (0:Int),.int .u8 (0:Int),.int .u8 (0:Int),.int .u8 (0:Int),.int .u8 (0:Int),.int .u8 (0:Int),.int .u8 (0:Int),.int .u8 (0:Int),.int .u8 (0:Int),.int .u8 (0:Int),.int .u8 (0:Int),.int .u8 (0:Int),.int .u8 (0:Int),.int .u8 (0:Int)]
theorem PQ:TF prog ak 18 40 (.agg #[.int .i64 (0:Int),.string (mkS []),.int .u8 (0:Int),.int .u8 (0:Int),.int .u8 (0:Int),.int .u8 (0:Int),.int .u8 (0:Int),.int .u8 (0:Int),.int .u8 (0:Int),.int .u8 (0:Int),.int .u8 (0:Int),.int .u8 (0:Int),.int .u8 (0:Int),.int .u8 (0:Int),.int .u8 (0:Int),.int .u8 (0:Int),.int .u8 (0:Int),.int .u8 (0:Int)]):=TF.of (by kernel_rfl) (by kernel_rfl) true (by kernel_rfl) (.inl rfl)
abbrev sn:Array Value:= #[.bool false,.int .i64 (0:Int),.string (mkS []),.int .u8 (0:Int),.int .u8 (0:Int),.int .u8 (0:Int),.int .u8 (0:Int),.int .u8 (0:Int),.int .u8 (0:Int),.int .u8 (0:Int),.int .u8 (0:Int),.int .u8 (0:Int),.int .u8 (0:Int),.int .u8 (0:Int),.int .u8 (0:Int),.int .u8 (0:Int),.int .u8 (0:Int),.int .u8 (0:Int),.int .u8 (0:Int),.int .i64 (0:Int),.string (mkS [])]
theorem RF:TF prog aQ 21 72 (.agg #[.bool false,.int .i64 (0:Int),.string (mkS []),.int .u8 (0:Int),.int .u8 (0:Int),.int .u8 (0:Int),.int .u8 (0:Int),.int .u8 (0:Int),.int .u8 (0:Int),.int .u8 (0:Int),.int .u8 (0:Int),.int .u8 (0:Int),.int .u8 (0:Int),.int .u8 (0:Int),.int .u8 (0:Int),.int .u8 (0:Int),.int .u8 (0:Int),.int .u8 (0:Int),.int .u8 (0:Int),.int .i64 (0:Int),.string (mkS [])]):=TF.of (by kernel_rfl) (by kernel_rfl) true (by kernel_rfl) (.inl rfl)
theorem fJ:prog.underlying cD=some (.pointer bR):=by kernel_rfl
theorem fF:prog.underlying bM=some (.slice bF):=by kernel_rfl
theorem LV:TF prog aU 21 72 (.agg #[.bool false,.int .i64 (0:Int),.string (mkS []),.int .u8 (0:Int),.int .u8 (0:Int),.int .u8 (0:Int),.int .u8 (0:Int),.int .u8 (0:Int),.int .u8 (0:Int),.int .u8 (0:Int),.int .u8 (0:Int),.int .u8 (0:Int),.int .u8 (0:Int),.int .u8 (0:Int),.int .u8 (0:Int),.int .u8 (0:Int),.int .u8 (0:Int),.int .u8 (0:Int),.int .u8 (0:Int),.string (mkS []),.int .i64 (0:Int)]):=TF.of (by kernel_rfl) (by kernel_rfl) true (by kernel_rfl) (.inl rfl)
theorem sC:prog.underlying aN=some (.slice af):=by kernel_rfl
theorem IM:TF prog aN 1 24 (.slice none 0 0):=TF.of (by kernel_rfl) (by kernel_rfl) false (by kernel_rfl) (.inr rfl)
abbrev bf:Array Value:= #[.string (mkS []),.string (mkS []),.int .i64 (0:Int),.string (mkS []),.int .u8 (0:Int),.int .u8 (0:Int),.int .u8 (0:Int),.int .u8 (0:Int),.int .u8 (0:Int),.int .u8 (0:Int),.int .u8 (0:Int),.int .u8 (0:Int),.int .u8 (0:Int),.int .u8 (0:Int),.int .u8 (0:Int),.int .u8 (0:Int),.int .u8 (0:Int),.int .u8 (0:Int),.int .u8 (0:Int),.int .u8 (0:Int),.bool false,.string (mkS []),.bool false,.bool false,.int .i64 (0:Int),.int .i64 (0:Int),.int .i64 (0:Int),.int .i64 (0:Int),.int .i64 (0:Int)]
theorem yD:TF prog af 29 144 (.agg #[.string (mkS []),.string (mkS []),.int .i64 (0:Int),.string (mkS []),.int .u8 (0:Int),.int .u8 (0:Int),.int .u8 (0:Int),.int .u8 (0:Int),.int .u8 (0:Int),.int .u8 (0:Int),.int .u8 (0:Int),.int .u8 (0:Int),.int .u8 (0:Int),.int .u8 (0:Int),.int .u8 (0:Int),.int .u8 (0:Int),.int .u8 (0:Int),.int .u8 (0:Int),.int .u8 (0:Int),.int .u8 (0:Int),.bool false,.string (mkS []),.bool false,.bool false,.int .i64 (0:Int),.int .i64 (0:Int),.int .i64 (0:Int),.int .i64 (0:Int),.int .i64 (0:Int)]):=TF.of (by kernel_rfl) (by kernel_rfl) true (by kernel_rfl) (.inl rfl)
theorem eI:prog.underlying fg=some (.map j5 aJ):=by kernel_rfl
theorem qf:prog.underlying gE=some (.slice dq):=by kernel_rfl
theorem KB:TF prog gE 1 24 (.slice none 0 0):=TF.of (by kernel_rfl) (by kernel_rfl) false (by kernel_rfl) (.inr rfl)
theorem Kz:TF prog aG 2 24 (.agg #[.int .i64 (0:Int),.string (mkS [])]):=TF.of (by kernel_rfl) (by kernel_rfl) true (by kernel_rfl) (.inl rfl)
theorem GH:TF prog aq 11 112 (.agg #[.string (mkS []),.string (mkS []),.string (mkS []),.string (mkS []),.bool false,.int .i64 (0:Int),.bool false,.int .i64 (0:Int),.bool false,.bool false,.int .i64 (0:Int)]):=TF.of (by kernel_rfl) (by kernel_rfl) true (by kernel_rfl) (.inl rfl)
theorem lQ:prog.underlying bI=some (.slice ao):=by kernel_rfl
theorem HZ:TF prog bI 1 24 (.slice none 0 0):=TF.of (by kernel_rfl) (by kernel_rfl) false (by kernel_rfl) (.inr rfl)
theorem dj:prog.underlying bg=some (.map gR bC):=by kernel_rfl
theorem rP:prog.underlying db=some (.map ao aJ):=by kernel_rfl
theorem LY:TF prog j5 2 24 (.agg #[.int .i64 (0:Int),.string (mkS [])]):=TF.of (by kernel_rfl) (by kernel_rfl) true (by kernel_rfl) (.inl rfl)
theorem OO:TF prog dq 4 4 (.agg #[.bool false,.bool false,.bool false,.bool false]):=TF.of (by kernel_rfl) (by kernel_rfl) true (by kernel_rfl) (.inl rfl)
abbrev rV:Array Value:= #[.string (mkS []),.string (mkS []),.int .i64 (0:Int),.string (mkS []),.int .u8 (0:Int),.int .u8 (0:Int),.int .u8 (0:Int),.int .u8 (0:Int),.int .u8 (0:Int),.int .u8 (0:Int),.int .u8 (0:Int),.int .u8 (0:Int),.int .u8 (0:Int),.int .u8 (0:Int),.int .u8 (0:Int),.int .u8 (0:Int),.int .u8 (0:Int),.int .u8 (0:Int),.int .u8 (0:Int),.int .u8 (0:Int),.bool false,.string (mkS []),.bool false,.bool false,.int .i64 (0:Int),.int .i64 (0:Int),.int .i64 (0:Int),.int .i64 (0:Int),.int .i64 (0:Int),.string (mkS [])]
theorem GI:TF prog bC 30 160 (.agg #[.string (mkS []),.string (mkS []),.int .i64 (0:Int),.string (mkS []),.int .u8 (0:Int),.int .u8 (0:Int),.int .u8 (0:Int),.int .u8 (0:Int),.int .u8 (0:Int),.int .u8 (0:Int),.int .u8 (0:Int),.int .u8 (0:Int),.int .u8 (0:Int),.int .u8 (0:Int),.int .u8 (0:Int),.int .u8 (0:Int),.int .u8 (0:Int),.int .u8 (0:Int),.int .u8 (0:Int),.int .u8 (0:Int),.bool false,.string (mkS []),.bool false,.bool false,.int .i64 (0:Int),.int .i64 (0:Int),.int .i64 (0:Int),.int .i64 (0:Int),.int .i64 (0:Int),.string (mkS [])]):=TF.of (by kernel_rfl) (by kernel_rfl) true (by kernel_rfl) (.inl rfl)
abbrev ME:Array Value:= #[.string (mkS []),.int .i64 (0:Int),.string (mkS []),.int .u8 (0:Int),.int .u8 (0:Int),.int .u8 (0:Int),.int .u8 (0:Int),.int .u8 (0:Int),.int .u8 (0:Int),.int .u8 (0:Int),.int .u8 (0:Int),.int .u8 (0:Int),.int .u8 (0:Int),.int .u8 (0:Int),.int .u8 (0:Int),.int .u8 (0:Int),.int .u8 (0:Int),.int .u8 (0:Int),.int .u8 (0:Int),.bool false,.string (mkS [])]
theorem LX:TF prog gR 21 80 (.agg #[.string (mkS []),.int .i64 (0:Int),.string (mkS []),.int .u8 (0:Int),.int .u8 (0:Int),.int .u8 (0:Int),.int .u8 (0:Int),.int .u8 (0:Int),.int .u8 (0:Int),.int .u8 (0:Int),.int .u8 (0:Int),.int .u8 (0:Int),.int .u8 (0:Int),.int .u8 (0:Int),.int .u8 (0:Int),.int .u8 (0:Int),.int .u8 (0:Int),.int .u8 (0:Int),.int .u8 (0:Int),.bool false,.string (mkS [])]):=TF.of (by kernel_rfl) (by kernel_rfl) true (by kernel_rfl) (.inl rfl)
theorem LZ:prog.underlying kQ=some (.array 4 ao):=by kernel_rfl
theorem EJ:TF prog kQ 4 64 (.agg #[.string (mkS []),.string (mkS []),.string (mkS []),.string (mkS [])]):=TF.of (by kernel_rfl) (by kernel_rfl) true (by kernel_rfl) (.inl rfl)
theorem Ds:prog.underlying pW=some (.slice r8):=by kernel_rfl
theorem KE:prog.underlying r8=some (.int .u16):=by kernel_rfl
theorem OP:TF prog r8 1 2 (.int .u16 (0:Int)):=TF.of (by kernel_rfl) (by kernel_rfl) false (by kernel_rfl) (.inr rfl)
theorem LW:TF prog cJ 8 16 (.agg #[.int .u16 (0:Int),.int .u16 (0:Int),.int .u16 (0:Int),.int .u16 (0:Int),.int .u16 (0:Int),.int .u16 (0:Int),.int .u16 (0:Int),.int .u16 (0:Int)]):=TF.of (by kernel_rfl) (by kernel_rfl) true (by kernel_rfl) (.inl rfl)
theorem FK:prog.underlying ez=some (.array 3 aJ):=by kernel_rfl
theorem zv:TF prog ez 3 24 (.agg #[.int .i64 (0:Int),.int .i64 (0:Int),.int .i64 (0:Int)]):=TF.of (by kernel_rfl) (by kernel_rfl) true (by kernel_rfl) (.inl rfl)
abbrev O2:Array Value:= #[.int .i64 (0:Int),.int .i64 (0:Int),.int .i64 (0:Int),.int .i64 (0:Int),.int .i64 (0:Int),.int .i64 (0:Int),.int .i64 (0:Int),.int .i64 (0:Int),.int .i64 (0:Int),.int .i64 (0:Int),.int .i64 (0:Int),.int .i64 (0:Int)]
theorem ON:TF prog A5 12 96 (.agg #[.int .i64 (0:Int),.int .i64 (0:Int),.int .i64 (0:Int),.int .i64 (0:Int),.int .i64 (0:Int),.int .i64 (0:Int),.int .i64 (0:Int),.int .i64 (0:Int),.int .i64 (0:Int),.int .i64 (0:Int),.int .i64 (0:Int),.int .i64 (0:Int)]):=TF.of (by kernel_rfl) (by kernel_rfl) true (by kernel_rfl) (.inl rfl)
abbrev MC:Array Value:= #[.int .u8 (0:Int),.int .u8 (0:Int),.int .u8 (0:Int),.int .u8 (0:Int),.int .u8 (0:Int),.int .u8 (0:Int),.int .u8 (0:Int),.int .u8 (0:Int),.int .u8 (0:Int),.int .u8 (0:Int),.int .u8 (0:Int),.int .u8 (0:Int),.int .u8 (0:Int),.int .u8 (0:Int),.int .u8 (0:Int),.int .u8 (0:Int),.int .u8 (0:Int),.int .u8 (0:Int),.int .u8 (0:Int),.int .u8 (0:Int),.int .u8 (0:Int),.int .u8 (0:Int),.int .u8 (0:Int),.int .u8 (0:Int)]
abbrev MD:Array Value:= #[.int .u8 (0:Int),.int .u8 (0:Int),.int .u8 (0:Int),.int .u8 (0:Int),.int .u8 (0:Int),.int .u8 (0:Int),.int .u8 (0:Int),.int .u8 (0:Int),.int .u8 (0:Int),.int .u8 (0:Int),.int .u8 (0:Int),.int .u8 (0:Int),.int .u8 (0:Int),.int .u8 (0:Int),.int .u8 (0:Int),.int .u8 (0:Int),.int .u8 (0:Int),.int .u8 (0:Int),.int .u8 (0:Int),.int .u8 (0:Int),.int .u8 (0:Int),.int .u8 (0:Int),.int .u8 (0:Int),.int .u8 (0:Int),.int .u8 (0:Int),.int .u8 (0:Int),.int .u8 (0:Int),.int .u8 (0:Int),.int .u8 (0:Int),.int .u8 (0:Int),.int .u8 (0:Int),.int .u8 (0:Int),.int .u8 (0:Int),.int .u8 (0:Int),.int .u8 (0:Int),.int .u8 (0:Int),.int .u8 (0:Int),.int .u8 (0:Int),.int .u8 (0:Int),.int .u8 (0:Int),.int .u8 (0:Int),.int .u8 (0:Int),.int .u8 (0:Int),.int .u8 (0:Int),.int .u8 (0:Int),.int .u8 (0:Int),.int .u8 (0:Int),.int .u8 (0:Int),.int .u8 (0:Int),.int .u8 (0:Int),.int .u8 (0:Int),.int .u8 (0:Int),.int .u8 (0:Int),.int .u8 (0:Int),.int .u8 (0:Int),.int .u8 (0:Int),.int .u8 (0:Int),.int .u8 (0:Int),.int .u8 (0:Int),.int .u8 (0:Int),.int .u8 (0:Int),.int .u8 (0:Int),.int .u8 (0:Int),.int .u8 (0:Int),.int .u8 (0:Int)]
set_option maxRecDepth 100000
abbrev Ld (t:TypeId)(p:Option Addr)(w:World)(v:Value):Prop:=(Instr.loadAt t (.pointer p)).run prog w=.ok v w
abbrev Sv (t:TypeId)(p:Option Addr)(v:Value)(w x:World):Prop:=(Instr.storeAt t (.pointer p) v).run prog w=.ok () x
abbrev hV (a b c d:List UInt8)(e:Bool)(f:Int)(g:Bool)(h:Int)(i j:Bool)(k:Int):Value:=.agg #[.string (mkS a),.string (mkS b),.string (mkS c),.string (mkS d),.bool e,.int .i64 f,.bool g,.int .i64 h,.bool i,.bool j,.int .i64 k]
abbrev lU:=List UInt8
abbrev VP:=Value->World->Prop
abbrev vS (s:lU):Value:=.string (mkS s)
abbrev vI (n:Int):Value:=.int .i64 n
abbrev vA (k i:Nat):Option Addr:=some ⟨k,i,none⟩
abbrev Rv (t:TypeId)(p:Option Addr)(w:World)(v:Value):Prop:=(aI t (.pointer p)).run prog w=.ok v w
abbrev Cf (f:FuncId)(a:Array Value)(w:World)(R:Ending->World->Prop):Prop:=Calls prog f a w R
abbrev uS (f:FuncId)(a:Array Value)(w:World)(R:lU->World->Prop):Prop:=Calls prog f a w λe x=>∃s,e=.returned (.string (mkS s))/\R s x
abbrev uB (f:FuncId)(a:Array Value)(w:World)(R:Bool->World->Prop):Prop:=Calls prog f a w λe x=>∃s,e=.returned (.bool s)/\R s x
abbrev uI (f:FuncId)(a:Array Value)(w:World)(R:Int->World->Prop):Prop:=Calls prog f a w λe x=>∃s,e=.returned (.int .i64 s)/\R s x
abbrev uP (f:FuncId)(a:Array Value)(w:World)(R:Option Addr->World->Prop):Prop:=Calls prog f a w λe x=>∃s,e=.returned (.pointer s)/\R s x
abbrev uV (f:FuncId)(a:Array Value)(w:World)(R:Value->World->Prop):Prop:=Calls prog f a w λe x=>∃s,e=.returned s/\R s x
abbrev uL (f:FuncId)(a:Array Value)(w:World)(R:Option Addr->Nat->Nat->World->Prop):Prop:=Calls prog f a w λe x=>∃s n c,e=.returned (.slice s n c)/\R s n c x
abbrev uU (f:FuncId)(a:Array Value)(w:World)(R:World->Prop):Prop:=Calls prog f a w λe x=>e=.returned (.tuple #[])/\R x
abbrev rT (a:Array Value):Ending:=.returned (.tuple a)
abbrev bd (i n:Int):Prop:=0 <=i/\i <=n
abbrev bx (i n:Int):Prop:=0 <=i/\i<n
abbrev bW (w x:World):Prop:=Below w.heap.size w x
abbrev nA (w:World)(o:Obj)(R:Nat->World->Prop):Prop:=∀k x,k=w.heap.size->x=w.alloc o->R k x
theorem ru {f:FuncId}{e:Func}{a:List Value}{w:World}{K:VP}{V:Prop}(E:prog.funcs[f]? =some e)(n:Ann)(h:V)(G:prog.follows .mixedOrders=true:=by kernel_rfl)(q:e.body=some (aH e):=by kernel_rfl)(H:decide (a.length <=e.ntmps)=true:=by kernel_rfl)(D:W prog e.ntmps n 0 (aH e) (WB prog e K) (Mn 0 a) w=V:=by kernel_rfl):Calls prog f a.toArray w (Ret K):=aA G E q n a (of_decide_eq_true H) V D h
theorem Lw (a:lU){w K}(h:nA w (.cells bK ak) λb c=>Cf jU #[vS a,vS [91]] c λd e=>∃f g,d=rT #[vS f,.bool g]/\ai g (Cf Fq #[vS f,vS [93]] e λi j=>∃k l,i=rT #[vS k,.bool l]/\Cf Jz #[vS k] j λm n=>∃o p,m=rT #[o,.bool p]/\nA n (.cells fh aK) λq r=>∃s,Sv aK (vA q 0) o r s/\∃t,Ld aK (vA q 0) s t/\ai p (Cf uw #[vI 3,t,.bool l] s λu v=>∃x y,u=rT #[x,vI y]/\∃z,Sv ak (vA b 0) x v z/\∃A,Rv ak (vA b 0) z A/\K (.tuple #[A,vI y]) z) (Cf uw #[vI 3,t,.bool false] s λu v=>∃x y,u=rT #[x,vI y]/\∃z,Sv ak (vA b 0) x v z/\∃A,Rv ak (vA b 0) z A/\K (.tuple #[A,vI y]) z)) (uS o8 #[vS a] e λi j=>uL qx #[vS i,.int .u8 46] j λk l m n=>(bx (i64.wrap (((l:Nat):Int)-(1:Int))) ((l:Nat):Int)/\Option.isSome k=true)/\∃o,Ld ao (aw k (i64.wrap (((l:Nat):Int)-(1:Int))) 1) n (vS o)/\uB uy #[vS o] n λp q=>ai p (Cf Jy #[vS a] q λr s=>∃t u,r=rT #[t,.bool u]/\nA s (.cells fh aK) λv x=>∃y,Sv aK (vA v 0) t x y/\∃z,Ld aK (vA v 0) y z/\Cf uw #[vI 2,z,.bool u] y λA B=>∃C D,A=rT #[C,vI D]/\∃E,Sv ak (vA b 0) C B E/\∃F,Rv ak (vA b 0) E F/\K (.tuple #[F,vI D]) E) (∃r:FP [],(∃s:FP [.one .bool],(ai (decide (((List.length a:Nat):Int)>(253:Int))) (s true q) (uB lG #[.slice k l m,.func (.func me) #[] #[]] q λt u=>s t u))/\∀t,aP 6 (∀u,s t u->ai t (∃v,Sv ak (vA b 0) (.agg bK) u v/\∃x,Rv ak (vA b 0) v x/\K (.tuple #[x,vI 31]) v) (r u)))/\aP 9 (∀s,r s->uS lY #[.slice k l m,vS [46]] s λt u=>∃v,Sv ak (vA b 0) (.agg #[vI 1,vS t,.int .u8 0,.int .u8 0,.int .u8 0,.int .u8 0,.int .u8 0,.int .u8 0,.int .u8 0,.int .u8 0,.int .u8 0,.int .u8 0,.int .u8 0,.int .u8 0,.int .u8 0,.int .u8 0,.int .u8 0,.int .u8 0]) u v/\∃x,Rv ak (vA b 0) v x/\K (.tuple #[x,vI 0]) v)))):Cf xr #[vS a] w (Ret K):=ru func56 [(28,[]),(29,[(63,.one .bool)])] h
theorem Ka (a:Value){w K}(h:nA w (.cells (Value.cells a) ak) λb c=>∃d:FP [],(true/\∃e,Ld aJ (vA b 0) c (vI e)/\ai (e !=(1:Int)) (K (.slice none 0 0) c) (∃f,Ld ak (vA b 0) c f/\uB tP #[f] c λg i=>ai (!g) (K (.slice none 0 0) i) (d i)))/\aP 9 (∀e,d e->true/\∃f,Ld ao (vA b 1) e (vS f)/\uL qx #[vS f,.int .u8 46] e λg i j k=>K (.slice g i j) k)):Cf jj #[a] w (Ret K):=ru func57 [(2,[])] h
theorem LC (a:Value){w K}(h:nA w (.cells (Value.cells a) ak) λb c=>∃d,Ld ak (vA b 0) c d/\uS yT #[d] c λe f=>Cf xr #[vS e] f λg i=>∃j k,g=rT #[j,vI k]/\nA i (.cells bK ak) λl m=>∃n,Sv ak (vA l 0) j m n/\ai (k==(0:Int)) (∃o,Ld ak (vA l 0) n o/\∃p,Ld ak (vA b 0) n p/\∃q,(do eqGuard .eql ak (.tmp 14) (.tmp 15) o p;binOp .eql ak o p:Sem Value).run prog n=.ok (.bool q) n/\K (.bool q) n) (K (.bool false) n)):Cf tP #[a] w (Ret K):=ru func60 [] h
theorem Nz (a:Value){w K}(h:nA w (.cells (Value.cells a) ak) λb c=>true/\∃d,Ld aJ (vA b 0) c (vI d)/\ai (d==(1:Int)) (true/\∃e,Ld ao (vA b 1) c (vS e)/\K (vS e) c) (ai (d==(2:Int)) (true/\∃e,Ld aK (vA b 2) c e/\uS CO #[e] c λf g=>K (vS f) g) (ai (d==(3:Int)) (true/\∃e,Ld aK (vA b 2) c e/\uS CP #[e] c λf g=>(((List.length [91]+List.length f:Nat):Int) <=i64.max)/\∀i,i=([91]++f)->(((List.length i+List.length [93]:Nat):Int) <=i64.max)/\∀j,j=(i++[93])->K (vS j) g) (K (vS []) c)))):Cf yT #[a] w (Ret K):=ru func76 [] h
theorem Kn (a:lU){w K}(h:nA w (.cells bK ak) λb c=>∃d:FP [],(∃e:FP [.one .bool],(ai (decide (((List.length a:Nat):Int)>(0:Int))) (bx (0:Int) ((List.length a:Nat):Int)/\e ((bm a (0:Int))==(91:Int)) c) (e false c))/\∀f,aP 7 (∀g,e f g->ai f (bx (i64.wrap (((List.length a:Nat):Int)-(1:Int))) ((List.length a:Nat):Int)/\ai ((bm a (i64.wrap (((List.length a:Nat):Int)-(1:Int)))) !=(93:Int)) (∃i,Sv ak (vA b 0) (.agg bK) g i/\∃j,Rv ak (vA b 0) i j/\K (.tuple #[j,vI 31]) i) ((bd (i64.wrap (((List.length a:Nat):Int)-(1:Int))) (((List.length a):Nat):Int)/\0 <=(1:Int)/\(1:Int) <=((Int.toNat (i64.wrap (((List.length a:Nat):Int)-(1:Int))):Nat):Int))/\∀i,i=(List.drop (Int.toNat 1) (List.take (Int.toNat (i64.wrap (((List.length a:Nat):Int)-(1:Int)))) a))->Cf Hh #[vS i] g λj k=>∃l m,j=rT #[l,.bool m]/\nA k (.cells fh aK) λn o=>∃p,Sv aK (vA n 0) l o p/\ai (!m) (∃q,Sv ak (vA b 0) (.agg bK) p q/\∃r,Rv ak (vA b 0) q r/\K (.tuple #[r,vI 31]) q) (∃q,Ld aK (vA n 0) p q/\∃r,(Instr.build ak #[(0,vI 3),(2,q)]).run prog p=.ok r p/\∃s,Sv ak (vA b 0) r p s/\∃t,Rv ak (vA b 0) s t/\K (.tuple #[t,vI 0]) s))) (d g)))/\aP 32 (∀e,d e->uS df #[vS a] e λf g=>uL eD #[vS f,.int .u8 46] g λi j k l=>(bx (i64.wrap (((j:Nat):Int)-(1:Int))) ((j:Nat):Int)/\Option.isSome i=true)/\∃m,Ld ao (aw i (i64.wrap (((j:Nat):Int)-(1:Int))) 1) l (vS m)/\uB gY #[vS m] l λn o=>ai n (Cf Hg #[vS a] o λp q=>∃r s,p=rT #[r,.bool s]/\nA q (.cells fh aK) λt u=>∃v,Sv aK (vA t 0) r u v/\ai (!s) (∃x,Sv ak (vA b 0) (.agg bK) v x/\∃y,Rv ak (vA b 0) x y/\K (.tuple #[y,vI 31]) x) (∃x,Ld aK (vA t 0) v x/\∃y,(Instr.build ak #[(0,vI 2),(2,x)]).run prog v=.ok y v/\∃z,Sv ak (vA b 0) y v z/\∃A,Rv ak (vA b 0) z A/\K (.tuple #[A,vI 0]) z)) (∃p:Nat->FP [.one (.int .i64)],(∃q,p q (0:Int) o)/\∀q r,aP 10 (∀s,p q r s->ai (decide (r<((j:Nat):Int))) ((bx r ((j:Nat):Int)/\Option.isSome i=true)/\∃t,Ld ao (aw i r 1) s (vS t)/\uB Bu #[vS t] s λu v=>ai (!u) (∃x,Sv ak (vA b 0) (.agg bK) v x/\∃y,Rv ak (vA b 0) x y/\K (.tuple #[y,vI 31]) x) (∃x:Nat,x<q/\p x (i64.wrap (r+(1:Int))) v)) (ai (decide (((List.length a:Nat):Int)>(253:Int))) (∃t,Sv ak (vA b 0) (.agg bK) s t/\∃u,Rv ak (vA b 0) t u/\K (.tuple #[u,vI 31]) t) (∃t,Sv ak (vA b 0) (.agg #[vI 1,vS f,.int .u8 0,.int .u8 0,.int .u8 0,.int .u8 0,.int .u8 0,.int .u8 0,.int .u8 0,.int .u8 0,.int .u8 0,.int .u8 0,.int .u8 0,.int .u8 0,.int .u8 0,.int .u8 0,.int .u8 0,.int .u8 0]) s t/\∃u,Rv ak (vA b 0) t u/\K (.tuple #[u,vI 0]) t)))))):Cf fu #[vS a] w (Ret K):=ru func85 [(2,[]),(3,[(19,.one .bool)]),(54,[(64,.one (.int .i64))])] h
theorem PH (a:lU){w K}(h:nA w (.cells fh aK) λb c=>Cf Gc #[vS a,vS [58,58]] c λd e=>∃f g i,d=rT #[vS f,vS g,.bool i]/\Cf DS #[vS f] e λj k=>∃l m n o,j=rT #[.slice l m n,.bool o]/\Cf DS #[vS g] k λp q=>∃r s t u,p=rT #[.slice r s t,.bool u]/\∃v:FP [],(∃x:FP [.one .bool],(ai (!o) (x true q) (ai (!u) (x true q) (ai i (ai (decide ((i64.wrap (((m:Nat):Int)+((s:Nat):Int))) >=(8:Int))) (x true q) (ai (!i) (x ((i64.wrap (((m:Nat):Int)+((s:Nat):Int))) !=(8:Int)) q) (x false q))) (ai (!i) (x ((i64.wrap (((m:Nat):Int)+((s:Nat):Int))) !=(8:Int)) q) (x false q)))))/\∀y,aP 20 (∀z,x y z->ai y (∃A,Sv aK (vA b 0) (.agg fh) z A/\∃B,Rv aK (vA b 0) A B/\K (.tuple #[B,.bool false]) A) (v z)))/\aP 23 (∀x,v x->nA x (.cells #[.int .u16 0,.int .u16 0,.int .u16 0,.int .u16 0,.int .u16 0,.int .u16 0,.int .u16 0,.int .u16 0] cJ) λy z=>(True)/\∃A B,(Builtin.copy_ #[pW,pW] aJ #[.slice (vA y 0) 8 8,.slice l m n]).run prog z=.ok (vI B) A/\bd (i64.wrap ((8:Int)-((s:Nat):Int))) ((8:Nat):Int)/\∃C D,(Builtin.copy_ #[pW,pW] aJ #[.slice (some (if 8=(Int.toNat (i64.wrap ((8:Int)-((s:Nat):Int))))then⟨y,0,none⟩ else Addr.add ⟨y,0,none⟩ ((Int.toNat (i64.wrap ((8:Int)-((s:Nat):Int))))*1))) (8-(Int.toNat (i64.wrap ((8:Int)-((s:Nat):Int))))) (8-(Int.toNat (i64.wrap ((8:Int)-((s:Nat):Int))))),.slice r s t]).run prog A=.ok (vI D) C/\∃E F G H I J L M,Ld cJ (vA y 0) C (.agg #[.int .u16 E,.int .u16 F,.int .u16 G,.int .u16 H,.int .u16 I,.int .u16 J,.int .u16 L,.int .u16 M])/\uV Fl #[.agg #[.int .u16 E,.int .u16 F,.int .u16 G,.int .u16 H,.int .u16 I,.int .u16 J,.int .u16 L,.int .u16 M]] C λN O=>∃P,Sv aK (vA b 0) N O P/\∃Q,Rv aK (vA b 0) P Q/\K (.tuple #[Q,.bool true]) P)):Cf Jz #[vS a] w (Ret K):=ru func111 [(10,[]),(11,[(54,.one .bool)])] h
theorem IB (a:Int)(b:Value)(c:Bool){w K}(h:nA w (.cells (Value.cells b) aK) λd e=>nA e (.cells bK ak) λf g=>ai (!c) (∃i,Sv ak (vA f 0) (.agg bK) g i/\∃j,Rv ak (vA f 0) i j/\K (.tuple #[j,vI 31]) i) (∃i,Ld aK (vA d 0) g i/\∃j,(Instr.build ak #[(0,vI a),(2,i)]).run prog g=.ok j g/\∃k,Sv ak (vA f 0) j g k/\∃l,Rv ak (vA f 0) k l/\K (.tuple #[l,vI 0]) k)):Cf uw #[vI a,b,.bool c] w (Ret K):=ru func112 [] h
theorem PG (a:lU){w K}(h:nA w (.cells fh aK) λb c=>uL qx #[vS a,.int .u8 46] c λd e f g=>ai (((e:Nat):Int) !=(4:Int)) (∃i,Sv aK (vA b 0) (.agg fh) g i/\∃j,Rv aK (vA b 0) i j/\K (.tuple #[j,.bool false]) i) (nA g (.cells fh aK) λi j=>∃k:Nat->FP [.one (.int .i64)],(∃l,k l (0:Int) j)/\∀l m,aP 27 (∀n,k l m n->ai (decide (m<((e:Nat):Int))) ((bx m ((e:Nat):Int)/\Option.isSome d=true)/\∃o,Ld ao (aw d m 1) n (vS o)/\Cf xf #[vS o] n λp q=>∃r s,p=rT #[vI r,.bool s]/\∃t:FP [],(∃u:FP [.one .bool],(ai (!s) (u true q) (u (decide (r>(255:Int))) q))/\∀v,aP 5 (∀x,u v x->ai v (∃y,Sv aK (vA b 0) (.agg fh) x y/\∃z,Rv aK (vA b 0) y z/\K (.tuple #[z,.bool false]) y) (t x)))/\aP 8 (∀u,t u->(bx (i64.wrap ((12:Int)+m)) ((16:Nat):Int)/\true)/\∃v,Sv bF (aw (vA i 0) (i64.wrap ((12:Int)+m)) 1) (.int .u8 (IntKind.u8.wrap r)) u v/\∃x:Nat,x<l/\k x (i64.wrap (m+(1:Int))) v)) (∃o,Ld aK (vA i 0) n o/\∃p,Sv aK (vA b 0) o n p/\∃q,Rv aK (vA b 0) p q/\K (.tuple #[q,.bool true]) p)))):Cf Jy #[vS a] w (Ret K):=ru func114 [(18,[(18,.one (.int .i64))]),(31,[]),(32,[(33,.one .bool)])] h
theorem Hv (a:lU){w K}(h:uB CX #[vS a] w λb c=>K (.bool (!b)) c):Cf me #[vS a] w (Ret K):=ru func116 [] h
theorem LF (a:lU){w K}(h:ai (!(a==[])) (ai (decide (((List.length a:Nat):Int) <=(63:Int))) (∃b c d e,(convert ao bM (vS a)).run prog w=.ok (.slice c d e) b/\uB rL #[.slice c d e,.func (.func oH) #[] #[]] b λf g=>K (.bool (!f)) g) (K (.bool false) w)) (K (.bool false) w)):Cf CX #[vS a] w (Ret K):=ru func117 [] h
theorem LD (a b:Value){w K}(h:nA w (.cells (Value.cells a) ak) λc d=>nA d (.cells (Value.cells b) ak) λe f=>(∃g,Ld ak (vA c 0) (World.drew f) g/\(uL jj #[g] (World.drew f) λi j k l=>∃m,Ld ak (vA e 0) l m/\uL jj #[m] l λn o p q=>∃r:FP [],(ai (((o:Nat):Int)==(0:Int)) (K (.bool false) q) (ai (decide (((o:Nat):Int) >=((j:Nat):Int))) (K (.bool false) q) (r q)))/\aP 11 (∀s,r s->∃t,Ld ak (vA c 0) s t/\Cf uO #[t,vI ((o:Nat):Int)] s λu v=>∃x y,u=rT #[x,.bool y]/\nA v (.cells bK ak) λz A=>∃B,Sv ak (vA z 0) x A B/\∃C,Ld ak (vA z 0) B C/\∃D,Ld ak (vA e 0) B D/\∃E,(do eqGuard .eql ak (.tmp 30) (.tmp 31) C D;binOp .eql ak C D:Sem Value).run prog B=.ok (.bool E) B/\K (.bool E) B))/\∃i,Ld ak (vA e 0) (World.drew f) i/\uL jj #[g] (World.drew f) λj k l m=>uL jj #[i] m λn o p q=>∃r:FP [],(ai (((o:Nat):Int)==(0:Int)) (K (.bool false) q) (ai (decide (((o:Nat):Int) >=((k:Nat):Int))) (K (.bool false) q) (r q)))/\aP 11 (∀s,r s->∃t,Ld ak (vA c 0) s t/\Cf uO #[t,vI ((o:Nat):Int)] s λu v=>∃x y,u=rT #[x,.bool y]/\nA v (.cells bK ak) λz A=>∃B,Sv ak (vA z 0) x A B/\∃C,Ld ak (vA z 0) B C/\∃D,Ld ak (vA e 0) B D/\∃E,(do eqGuard .eql ak (.tmp 30) (.tmp 31) C D;binOp .eql ak C D:Sem Value).run prog B=.ok (.bool E) B/\K (.bool E) B))/\∃g,Ld ak (vA e 0) (World.drew f) g/\∃i,Ld ak (vA c 0) (World.drew f) i/\uL jj #[i] (World.drew f) λj k l m=>uL jj #[g] m λn o p q=>∃r:FP [],(ai (((o:Nat):Int)==(0:Int)) (K (.bool false) q) (ai (decide (((o:Nat):Int) >=((k:Nat):Int))) (K (.bool false) q) (r q)))/\aP 11 (∀s,r s->∃t,Ld ak (vA c 0) s t/\Cf uO #[t,vI ((o:Nat):Int)] s λu v=>∃x y,u=rT #[x,.bool y]/\nA v (.cells bK ak) λz A=>∃B,Sv ak (vA z 0) x A B/\∃C,Ld ak (vA z 0) B C/\∃D,Ld ak (vA e 0) B D/\∃E,(do eqGuard .eql ak (.tmp 30) (.tmp 31) C D;binOp .eql ak C D:Sem Value).run prog B=.ok (.bool E) B/\K (.bool E) B)):Cf xt #[a,b] w (Ret K):=ru func129 [(1000003,[]),(4,[]),(4,[]),(4,[])] h
theorem Ny (a:Value)(b:Int){w K}(h:nA w (.cells (Value.cells a) ak) λc d=>nA d (.cells bK ak) λe f=>∃g,Ld ak (vA c 0) f g/\uL jj #[g] f λi j k l=>∃m:FP [],(∃n:FP [.one .bool],(ai (decide (b<(1:Int))) (n true l) (n (decide (b>((j:Nat):Int))) l))/\∀o,aP 7 (∀p,n o p->ai o (∃q,Sv ak (vA e 0) (.agg bK) p q/\∃r,Rv ak (vA e 0) q r/\K (.tuple #[r,.bool false]) q) (m p)))/\aP 10 (∀n,m n->bd (i64.wrap (((j:Nat):Int)-b)) ((j:Nat):Int)/\uS lY #[.slice (aS i k (Int.toNat (i64.wrap (((j:Nat):Int)-b))) 1) (j-(Int.toNat (i64.wrap (((j:Nat):Int)-b)))) (k-(Int.toNat (i64.wrap (((j:Nat):Int)-b)))),vS [46]] n λo p=>∃q,Sv ak (vA e 0) (.agg #[vI 1,vS o,.int .u8 0,.int .u8 0,.int .u8 0,.int .u8 0,.int .u8 0,.int .u8 0,.int .u8 0,.int .u8 0,.int .u8 0,.int .u8 0,.int .u8 0,.int .u8 0,.int .u8 0,.int .u8 0,.int .u8 0,.int .u8 0]) p q/\∃r,Rv ak (vA e 0) q r/\K (.tuple #[r,.bool true]) q)):Cf uO #[a,vI b] w (Ret K):=ru func131 [(4,[]),(5,[(16,.one .bool)])] h
theorem Lk (a:Value){w K}(h:nA w (.cells (Value.cells a) aK) λb c=>bd (12:Int) ((16:Nat):Int)/\∃d:Nat->FP [.one .slice,.one (.int .i64)],(∃e,d e none 0 0 (0:Int) c)/\∀e f g i j,aP 11 (∀k,d e f g i j k->ai (decide (j<(((16-(Int.toNat 12)):Nat):Int))) ((bx j (((16-(Int.toNat 12)):Nat):Int)/\true)/\∃l,Ld bF (aw (some (if 16=(Int.toNat 12)then⟨b,0,none⟩ else Addr.add ⟨b,0,none⟩ ((Int.toNat 12)*1))) j 1) k (.int .u8 l)/\uS Ak #[vI (i64.wrap l)] k λm n=>nA n (.cells #[vS m] ao) λo p=>∃q r s t,(Builtin.append_ #[bI,bI] bI #[.slice f g i,.slice (vA o 0) 1 1]).run prog p=.ok (.slice r s t) q/\∃u:Nat,u<e/\d u r s t (i64.wrap (j+(1:Int))) q) (uS lY #[.slice f g i,vS [46]] k λl m=>K (vS l) m))):Cf CO #[a] w (Ret K):=ru func133 [(8,[(3,.one .slice),(8,.one (.int .i64))])] h
theorem Ll (a:Value){w K}(h:nA w (.cells (Value.cells a) aK) λb c=>∃d,Ld aK (vA b 0) c d/\Cf Bf #[d] c λe f=>∃g i j k l m n o,e=.returned (.agg #[.int .u16 g,.int .u16 i,.int .u16 j,.int .u16 k,.int .u16 l,.int .u16 m,.int .u16 n,.int .u16 o])/\nA f (.cells #[.int .u16 0,.int .u16 0,.int .u16 0,.int .u16 0,.int .u16 0,.int .u16 0,.int .u16 0,.int .u16 0] cJ) λp q=>∃r,Sv cJ (vA p 0) (.agg #[.int .u16 g,.int .u16 i,.int .u16 j,.int .u16 k,.int .u16 l,.int .u16 m,.int .u16 n,.int .u16 o]) q r/\∃s t u v x y z A,Ld cJ (vA p 0) r (.agg #[.int .u16 s,.int .u16 t,.int .u16 u,.int .u16 v,.int .u16 x,.int .u16 y,.int .u16 z,.int .u16 A])/\Cf CR #[.agg #[.int .u16 s,.int .u16 t,.int .u16 u,.int .u16 v,.int .u16 x,.int .u16 y,.int .u16 z,.int .u16 A]] r λB C=>∃D E,B=rT #[vI D,vI E]/\ai (decide (E<(2:Int))) ((True)/\uS uu #[.slice (vA p 0) 8 8] C λF G=>K (vS F) G) (bd D ((8:Nat):Int)/\∃F,(∀G,bW C G->Cf uu #[.slice (vA p 0) (Int.toNat D) 8] G λH I=>H=.returned (vS F)/\Below C.heap.size G I)/\(((List.length F+List.length [58,58]:Nat):Int) <=i64.max)/\∀G,G=(F++[58,58])->bd (i64.wrap (D+E)) ((8:Nat):Int)/\∃H,(∀I,bW C I->Cf uu #[.slice (some (if 8=(Int.toNat (i64.wrap (D+E)))then⟨p,0,none⟩ else Addr.add ⟨p,0,none⟩ ((Int.toNat (i64.wrap (D+E)))*1))) (8-(Int.toNat (i64.wrap (D+E)))) (8-(Int.toNat (i64.wrap (D+E))))] I λJ L=>J=.returned (vS H)/\Below C.heap.size I L)/\(((List.length G+List.length H:Nat):Int) <=i64.max)/\∀I,I=(G++H)->∀J,bW C J->K (vS I) J)):Cf CP #[a] w (Ret K):=ru func134 [] h
theorem OD (a:lU){w K}(h:nA w (.cells fh aK) λb c=>Cf yg #[vS a] c λd e=>∃f g,d=rT #[f,.bool g]/\nA e (.cells fh aK) λi j=>∃k,Sv aK (vA i 0) f j k/\ai g (∃l,Ld aK (vA i 0) k l/\∃m,Sv aK (vA b 0) l k m/\∃n,Rv aK (vA b 0) m n/\K (.tuple #[n,.bool true]) m) (∃l:Nat->FP [.one (.int .i64)],(∃m,l m (0:Int) k)/\∀m n,aP 57 (∀o,l m n o->ai (decide ((i64.wrap (n+(2:Int))) <=((List.length a:Nat):Int))) (∃p:FP [],(bx n ((List.length a:Nat):Int)/\ai ((bm a n) !=(58:Int)) (∃q:Nat,q<m/\l q (i64.wrap (n+(1:Int))) o) (bx (i64.wrap (n+(1:Int))) ((List.length a:Nat):Int)/\ai ((bm a (i64.wrap (n+(1:Int)))) !=(58:Int)) (∃q:Nat,q<m/\l q (i64.wrap (n+(1:Int))) o) (p o)))/\aP 11 (∀q,p q->bd n (((List.length a):Nat):Int)/\∀r,r=(List.take (Int.toNat n) a)->bd (i64.wrap (n+(2:Int))) (((List.length a):Nat):Int)/\∀s,s=(List.drop (Int.toNat (i64.wrap (n+(2:Int)))) a)->∃t:FP [.one .str],(ai (!(r==[])) ((((List.length r+List.length [58]:Nat):Int) <=i64.max)/\∀u,u=(r++[58])->t u q) (t r q))/\∀u,aP 4 (∀v,t u v->∃x:FP [.one .str],(ai (!(s==[])) ((((List.length [58]+List.length s:Nat):Int) <=i64.max)/\∀y,y=([58]++s)->x y v) (x s v))/\∀y,aP 4 (∀z,x y z->∃A:Nat->FP [.one .str,.one (.int .i64)],(∃B,A B [48] (0:Int) z)/\∀B C D,aP 20 (∀E,A B C D E->ai (decide (D<(8:Int))) ((((List.length u+List.length C:Nat):Int) <=i64.max)/\∀F,F=(u++C)->(((List.length F+List.length y:Nat):Int) <=i64.max)/\∀G,G=(F++y)->Cf yg #[vS G] E λH I=>∃J L,H=rT #[J,.bool L]/\nA I (.cells fh aK) λM N=>∃O,Sv aK (vA M 0) J N O/\ai L (∃P,Ld aK (vA M 0) O P/\∃Q,Sv aK (vA b 0) P O Q/\∃R,Rv aK (vA b 0) Q R/\K (.tuple #[R,.bool true]) Q) ((((List.length C+List.length [58,48]:Nat):Int) <=i64.max)/\∀P,P=(C++[58,48])->∃Q:Nat,Q<B/\A Q P (i64.wrap (D+(1:Int))) O)) (∃F:Nat,F<m/\l F (i64.wrap (n+(1:Int))) E)))))) (∃p,Sv aK (vA b 0) (.agg fh) o p/\∃q,Rv aK (vA b 0) p q/\K (.tuple #[q,.bool false]) p)))):Cf Hh #[vS a] w (Ret K):=ru func138 [(16,[(6,.one (.int .i64))]),(25,[]),(35,[(7,.one .str)]),(41,[(8,.one .str)]),(52,[(9,.one .str),(10,.one (.int .i64))])] h
theorem OC (a:lU){w K}(h:nA w (.cells fh aK) λb c=>nA c (.cells fh aK) λd e=>∃f,Sv aK (vA d 0) (.agg fh) e f/\uL eD #[vS a,.int .u8 46] f λg i j k=>ai (((i:Nat):Int) !=(4:Int)) (∃l,Sv aK (vA b 0) (.agg fh) k l/\∃m,Rv aK (vA b 0) l m/\K (.tuple #[m,.bool false]) l) (∃l:Nat->FP [.one (.int .i64)],(∃m,l m (0:Int) k)/\∀m n,aP 27 (∀o,l m n o->ai (decide (n<(4:Int))) ((bx n ((i:Nat):Int)/\Option.isSome g=true)/\∃p,Ld ao (aw g n 1) o (vS p)/\Cf xg #[vS p] o λq r=>∃s t,q=rT #[vI s,.bool t]/\∃u:FP [],(∃v:FP [.one .bool],(ai (!t) (v true r) (v (decide (s>(255:Int))) r))/\∀x,aP 5 (∀y,v x y->ai x (∃z,Sv aK (vA b 0) (.agg fh) y z/\∃A,Rv aK (vA b 0) z A/\K (.tuple #[A,.bool false]) z) (u y)))/\aP 8 (∀v,u v->(bx (i64.wrap ((12:Int)+n)) ((16:Nat):Int)/\true)/\∃x,Sv bF (aw (vA d 0) (i64.wrap ((12:Int)+n)) 1) (.int .u8 (IntKind.u8.wrap s)) v x/\∃y:Nat,y<m/\l y (i64.wrap (n+(1:Int))) x)) (∃p,Ld aK (vA d 0) o p/\∃q,Sv aK (vA b 0) p o q/\∃r,Rv aK (vA b 0) q r/\K (.tuple #[r,.bool true]) q)))):Cf Hg #[vS a] w (Ret K):=ru func141 [(18,[(6,.one (.int .i64))]),(29,[]),(30,[(33,.one .bool)])] h
theorem Ko (a:lU){w K}(h:∃b:Nat->FP [.one (.int .i64)],(∃c,b c (0:Int) w)/\∀c d,aP 33 (∀e,b c d e->ai (decide (d<((List.length a:Nat):Int))) (bx d ((List.length a:Nat):Int)/\ai (decide ((bm a d)<(97:Int))) (ai (decide ((bm a d)<(48:Int))) (ai ((bm a d) !=(45:Int)) (ai ((bm a d) !=(95:Int)) (K (.bool false) e) (∃f:Nat,f<c/\b f (i64.wrap (d+(1:Int))) e)) (∃f:Nat,f<c/\b f (i64.wrap (d+(1:Int))) e)) (ai (decide ((bm a d)>(57:Int))) (ai ((bm a d) !=(45:Int)) (ai ((bm a d) !=(95:Int)) (K (.bool false) e) (∃f:Nat,f<c/\b f (i64.wrap (d+(1:Int))) e)) (∃f:Nat,f<c/\b f (i64.wrap (d+(1:Int))) e)) (∃f:Nat,f<c/\b f (i64.wrap (d+(1:Int))) e))) (ai (decide ((bm a d)>(122:Int))) (ai (decide ((bm a d)<(48:Int))) (ai ((bm a d) !=(45:Int)) (ai ((bm a d) !=(95:Int)) (K (.bool false) e) (∃f:Nat,f<c/\b f (i64.wrap (d+(1:Int))) e)) (∃f:Nat,f<c/\b f (i64.wrap (d+(1:Int))) e)) (ai (decide ((bm a d)>(57:Int))) (ai ((bm a d) !=(45:Int)) (ai ((bm a d) !=(95:Int)) (K (.bool false) e) (∃f:Nat,f<c/\b f (i64.wrap (d+(1:Int))) e)) (∃f:Nat,f<c/\b f (i64.wrap (d+(1:Int))) e)) (∃f:Nat,f<c/\b f (i64.wrap (d+(1:Int))) e))) (∃f:Nat,f<c/\b f (i64.wrap (d+(1:Int))) e))) (ai (decide (((List.length a:Nat):Int) >=(1:Int))) (K (.bool (decide (((List.length a:Nat):Int) <=(63:Int)))) e) (K (.bool false) e)))):Cf Bu #[vS a] w (Ret K):=ru func142 [(6,[(3,.one (.int .i64))])] h
theorem Ox (a:lU){w K}(h:ai (a==[]) (K (.tuple #[.slice none 0 0,.bool true]) w) (uL qx #[vS a,.int .u8 58] w λb c d e=>∃f:Nat->FP [.one .slice,.one (.int .i64)],(∃g,f g none 0 0 (0:Int) e)/\∀g i j k l,aP 20 (∀m,f g i j k l m->ai (decide (l<((c:Nat):Int))) ((bx l ((c:Nat):Int)/\Option.isSome b=true)/\∃n,Ld ao (aw b l 1) m (vS n)/\Cf CQ #[vS n] m λo p=>∃q r,o=rT #[.int .u16 q,.bool r]/\ai (!r) (K (.tuple #[.slice none 0 0,.bool false]) p) (nA p (.cells #[.int .u16 q] r8) λs t=>∃u v x y,(Builtin.append_ #[pW,pW] pW #[.slice i j k,.slice (vA s 0) 1 1]).run prog t=.ok (.slice v x y) u/\∃z:Nat,z<g/\f z v x y (i64.wrap (l+(1:Int))) u)) (K (.tuple #[.slice i j k,.bool true]) m)))):Cf DS #[vS a] w (Ret K):=ru func182 [(16,[(4,.one .slice),(14,.one (.int .i64))])] h
theorem Nu (a b c d e f g i:Int){w K}(h:nA w (.cells #[.int .u16 a,.int .u16 b,.int .u16 c,.int .u16 d,.int .u16 e,.int .u16 f,.int .u16 g,.int .u16 i] cJ) λj k=>nA k (.cells fh aK) λl m=>nA m (.cells fh aK) λn o=>∃p:Nat->FP [.one (.int .i64)],(∃q,p q (0:Int) o)/\∀q r,aP 20 (∀s,p q r s->ai (decide (r<(8:Int))) ((bx r ((8:Nat):Int)/\true)/\(bx r ((8:Nat):Int)/\true)/\(∃t,Ld r8 (aw (vA j 0) r 1) (World.drew s) (.int .u16 t)/\(0 <=(8:Int))/\(bx (i64.wrap ((2:Int)*r)) ((16:Nat):Int)/\true)/\(∃u,Ld r8 (aw (vA j 0) r 1) (World.drew s) (.int .u16 u)/\∃v,Sv bF (aw (vA n 0) (i64.wrap ((2:Int)*r)) 1) (.int .u8 (IntKind.u8.wrap (Int.fdiv t (2 ^ (min (Int.toNat 8) (IntKind.bits .u16)))))) (World.drew s) v/\(bx (i64.wrap ((i64.wrap ((2:Int)*r))+(1:Int))) ((16:Nat):Int)/\true)/\∃x,Sv bF (aw (vA n 0) (i64.wrap ((i64.wrap ((2:Int)*r))+(1:Int))) 1) (.int .u8 (IntKind.u8.wrap u)) v x/\∃y:Nat,y<q/\p y (i64.wrap (r+(1:Int))) x)/\∃u,Sv bF (aw (vA n 0) (i64.wrap ((2:Int)*r)) 1) (.int .u8 (IntKind.u8.wrap (Int.fdiv t (2 ^ (min (Int.toNat 8) (IntKind.bits .u16)))))) (World.drew s) u/\∃v,Ld r8 (aw (vA j 0) r 1) u (.int .u16 v)/\(bx (i64.wrap ((i64.wrap ((2:Int)*r))+(1:Int))) ((16:Nat):Int)/\true)/\∃x,Sv bF (aw (vA n 0) (i64.wrap ((i64.wrap ((2:Int)*r))+(1:Int))) 1) (.int .u8 (IntKind.u8.wrap v)) u x/\∃y:Nat,y<q/\p y (i64.wrap (r+(1:Int))) x)/\∃t,Ld r8 (aw (vA j 0) r 1) (World.drew s) (.int .u16 t)/\∃u,Ld r8 (aw (vA j 0) r 1) (World.drew s) (.int .u16 u)/\(0 <=(8:Int))/\(bx (i64.wrap ((2:Int)*r)) ((16:Nat):Int)/\true)/\∃v,Sv bF (aw (vA n 0) (i64.wrap ((2:Int)*r)) 1) (.int .u8 (IntKind.u8.wrap (Int.fdiv u (2 ^ (min (Int.toNat 8) (IntKind.bits .u16)))))) (World.drew s) v/\(bx (i64.wrap ((i64.wrap ((2:Int)*r))+(1:Int))) ((16:Nat):Int)/\true)/\∃x,Sv bF (aw (vA n 0) (i64.wrap ((i64.wrap ((2:Int)*r))+(1:Int))) 1) (.int .u8 (IntKind.u8.wrap t)) v x/\∃y:Nat,y<q/\p y (i64.wrap (r+(1:Int))) x) (∃t,Ld aK (vA n 0) s t/\∃u,Sv aK (vA l 0) t s u/\∃v,Rv aK (vA l 0) u v/\K v u))):Cf Fl #[.agg #[.int .u16 a,.int .u16 b,.int .u16 c,.int .u16 d,.int .u16 e,.int .u16 f,.int .u16 g,.int .u16 i]] w (Ret K):=ru func183 [(8,[(5,.one (.int .i64))])] h
theorem Hw (a:Int){w K}(h:uB Bk #[.int .u8 a] w λb c=>K (.bool (!b)) c):Cf oH #[.int .u8 a] w (Ret K):=ru func187 [] h
theorem Kb (a:Int){w K}(h:ai (decide (a >=(97:Int))) (ai (decide (a <=(122:Int))) (K (.bool true) w) (ai (decide (a >=(48:Int))) (ai (decide (a <=(57:Int))) (K (.bool true) w) (ai (a==(45:Int)) (K (.bool true) w) (K (.bool (a==(95:Int))) w))) (ai (a==(45:Int)) (K (.bool true) w) (K (.bool (a==(95:Int))) w)))) (ai (decide (a >=(48:Int))) (ai (decide (a <=(57:Int))) (K (.bool true) w) (ai (a==(45:Int)) (K (.bool true) w) (K (.bool (a==(95:Int))) w))) (ai (a==(45:Int)) (K (.bool true) w) (K (.bool (a==(95:Int))) w)))):Cf Bk #[.int .u8 a] w (Ret K):=ru func188 [] h
theorem JZ (a:Value){w K}(h:nA w (.cells (Value.cells a) aK) λb c=>nA c (.cells #[.int .u16 0,.int .u16 0,.int .u16 0,.int .u16 0,.int .u16 0,.int .u16 0,.int .u16 0,.int .u16 0] cJ) λd e=>nA e (.cells #[.int .u16 0,.int .u16 0,.int .u16 0,.int .u16 0,.int .u16 0,.int .u16 0,.int .u16 0,.int .u16 0] cJ) λf g=>∃i:Nat->FP [.one (.int .i64)],(∃j,i j (0:Int) g)/\∀j k,aP 19 (∀l,i j k l->ai (decide (k<(8:Int))) ((bx (i64.wrap ((2:Int)*k)) ((16:Nat):Int)/\true)/\∃m,(∀n,bW l n->Ld bF (aw (vA b 0) (i64.wrap ((2:Int)*k)) 1) n (.int .u8 m))/\(0 <=(8:Int))/\(bx (i64.wrap ((i64.wrap ((2:Int)*k))+(1:Int))) ((16:Nat):Int)/\true)/\∃n,(∀o,bW l o->Ld bF (aw (vA b 0) (i64.wrap ((i64.wrap ((2:Int)*k))+(1:Int))) 1) o (.int .u8 n))/\(bx k ((8:Nat):Int)/\true)/\∀o,bW l o->∃p,Sv r8 (aw (vA f 0) k 1) (.int .u16 (IntKind.u16.wrap (((BitVec.ofInt (IntKind.bits .u16) (IntKind.u16.wrap ((IntKind.u16.wrap m)*2 ^ (min (Int.toNat 8) (IntKind.bits .u16))))) ||| (BitVec.ofInt (IntKind.bits .u16) (IntKind.u16.wrap n))).toNat:Nat))) o p/\∃q:Nat,q<j/\i q (i64.wrap (k+(1:Int))) p) (∃m n o p q r s t,Ld cJ (vA f 0) l (.agg #[.int .u16 m,.int .u16 n,.int .u16 o,.int .u16 p,.int .u16 q,.int .u16 r,.int .u16 s,.int .u16 t])/\∃u,Sv cJ (vA d 0) (.agg #[.int .u16 m,.int .u16 n,.int .u16 o,.int .u16 p,.int .u16 q,.int .u16 r,.int .u16 s,.int .u16 t]) l u/\∃v x y z A B C D,Rv cJ (vA d 0) u (.agg #[.int .u16 v,.int .u16 x,.int .u16 y,.int .u16 z,.int .u16 A,.int .u16 B,.int .u16 C,.int .u16 D])/\K (.agg #[.int .u16 v,.int .u16 x,.int .u16 y,.int .u16 z,.int .u16 A,.int .u16 B,.int .u16 C,.int .u16 D]) u))):Cf Bf #[a] w (Ret K):=ru func200 [(8,[(5,.one (.int .i64))]),(2000019,[(15,.one .bool)])] h
theorem Ln (a b c d e f g i:Int){w K}(h:nA w (.cells #[.int .u16 a,.int .u16 b,.int .u16 c,.int .u16 d,.int .u16 e,.int .u16 f,.int .u16 g,.int .u16 i] cJ) λj k=>∃l:Nat->FP [.one (.int .i64),.one (.int .i64),.one (.int .i64),.one (.int .i64)],(∃m,l m (0:Int) (0:Int) (0:Int) (0:Int) k)/\∀m n o p q,aP 18 (∀r,l m n o p q r->ai (decide (q<(8:Int))) (∃s:FP [.one (.int .i64)],((bx q ((8:Nat):Int)/\true)/\∃t,Ld r8 (aw (vA j 0) q 1) r (.int .u16 t)/\ai (t !=(0:Int)) (s (0:Int) r) (s (i64.wrap (p+(1:Int))) r))/\∀t,aP 4 (∀u,s t u->ai (decide (t>o)) (∃v:Nat,v<m/\l v (i64.wrap ((i64.wrap (q+(1:Int)))-t)) t t (i64.wrap (q+(1:Int))) u) (∃v:Nat,v<m/\l v n o t (i64.wrap (q+(1:Int))) u))) (K (.tuple #[vI n,vI o]) r))):Cf CR #[.agg #[.int .u16 a,.int .u16 b,.int .u16 c,.int .u16 d,.int .u16 e,.int .u16 f,.int .u16 g,.int .u16 i]] w (Ret K):=ru func201 [(8,[(4,.one (.int .i64)),(5,.one (.int .i64)),(6,.one (.int .i64)),(8,.one (.int .i64))]),(21,[(6,.one (.int .i64))])] h
theorem Iu (a:Option Addr)(b c:Nat){w K}(h:∃d:Nat->FP [.one .slice,.one (.int .i64)],(∃e,d e none 0 0 (0:Int) w)/\∀e f g i j,aP 11 (∀k,d e f g i j k->ai (decide (j<((b:Nat):Int))) ((bx j ((b:Nat):Int)/\Option.isSome a=true)/\∃l,Ld r8 (aw a j 1) k (.int .u16 l)/\uS uk #[.int .u64 (IntKind.u64.wrap l),vI 16] k λm n=>nA n (.cells #[vS m] ao) λo p=>∃q r s t,(Builtin.append_ #[bI,bI] bI #[.slice f g i,.slice (vA o 0) 1 1]).run prog p=.ok (.slice r s t) q/\∃u:Nat,u<e/\d u r s t (i64.wrap (j+(1:Int))) q) (uS lY #[.slice f g i,vS [58]] k λl m=>K (vS l) m))):Cf uu #[.slice a b c] w (Ret K):=ru func202 [(8,[(3,.one .slice),(8,.one (.int .i64))])] h
theorem Km (a:lU){w K}(h:nA w (.cells fh aK) λb c=>nA c (.cells fh aK) λd e=>∃f,Sv aK (vA d 0) (.agg fh) e f/\uL eD #[vS a,.int .u8 58] f λg i j k=>ai (((i:Nat):Int) !=(8:Int)) (∃l,Sv aK (vA b 0) (.agg fh) k l/\∃m,Rv aK (vA b 0) l m/\K (.tuple #[m,.bool false]) l) (∃l:Nat->FP [.one (.int .i64)],(∃m,l m (0:Int) k)/\∀m n,aP 59 (∀o,l m n o->ai (decide (n<(8:Int))) (∃p:FP [],(∃q:FP [.one .bool],((bx n ((i:Nat):Int)/\Option.isSome g=true)/\∃r,Ld ao (aw g n 1) o (vS r)/\ai (decide (((List.length r:Nat):Int)<(1:Int))) (q true o) ((bx n ((i:Nat):Int)/\Option.isSome g=true)/\∃s,Ld ao (aw g n 1) o (vS s)/\q (decide (((List.length s:Nat):Int)>(4:Int))) o))/\∀r,aP 13 (∀s,q r s->ai r (∃t,Sv aK (vA b 0) (.agg fh) s t/\∃u,Rv aK (vA b 0) t u/\K (.tuple #[u,.bool false]) t) (p s)))/\aP 16 (∀q,p q->∃r:Nat->FP [.one (.int .i64),.one (.int .i64)],(∃s,r s (0:Int) (0:Int) q)/\∀s t u,aP 25 (∀v,r s t u v->(bx n ((i:Nat):Int)/\Option.isSome g=true)/\∃x,Ld ao (aw g n 1) v (vS x)/\ai (decide (u<((List.length x:Nat):Int))) ((bx n ((i:Nat):Int)/\Option.isSome g=true)/\∃y,Ld ao (aw g n 1) v (vS y)/\bx u ((List.length y:Nat):Int)/\uI Bt #[.int .u8 (bm y u)] v λz A=>ai (decide (z<(0:Int))) (∃B,Sv aK (vA b 0) (.agg fh) A B/\∃C,Rv aK (vA b 0) B C/\K (.tuple #[C,.bool false]) B) (∃B:Nat,B<s/\r B (i64.wrap ((i64.wrap (t*(16:Int)))+z)) (i64.wrap (u+(1:Int))) A)) (((256:Int)≠0)/\∀y,y=(i64.wrap (Int.tdiv t (256:Int)))->(bx (i64.wrap ((2:Int)*n)) ((16:Nat):Int)/\true)/\∃z,Sv bF (aw (vA d 0) (i64.wrap ((2:Int)*n)) 1) (.int .u8 (IntKind.u8.wrap y)) v z/\((256:Int)≠0)/\∀A,A=(Int.tmod t (256:Int))->(bx (i64.wrap ((i64.wrap ((2:Int)*n))+(1:Int))) ((16:Nat):Int)/\true)/\∃B,Sv bF (aw (vA d 0) (i64.wrap ((i64.wrap ((2:Int)*n))+(1:Int))) 1) (.int .u8 (IntKind.u8.wrap A)) z B/\∃C:Nat,C<m/\l C (i64.wrap (n+(1:Int))) B)))) (∃p,Ld aK (vA d 0) o p/\∃q,Sv aK (vA b 0) p o q/\∃r,Rv aK (vA b 0) q r/\K (.tuple #[r,.bool true]) q)))):Cf yg #[vS a] w (Ret K):=ru func203 [(18,[(6,.one (.int .i64))]),(29,[]),(30,[(34,.one .bool)]),(41,[(7,.one (.int .i64)),(8,.one (.int .i64))])] h
theorem Lm (a:lU){w K}(h:∃b:FP [],(ai (decide (((List.length a:Nat):Int)<(1:Int))) (K (.tuple #[.int .u16 0,.bool false]) w) (ai (decide (((List.length a:Nat):Int)>(4:Int))) (K (.tuple #[.int .u16 0,.bool false]) w) (b w)))/\aP 10 (∀c,b c->uS o8 #[vS a] c λd e=>∃f g i j,(convert ao bM (vS d)).run prog e=.ok (.slice g i j) f/\∃k:Nat->FP [.one (.int .u16),.one (.int .i64)],(∃l,k l (0:Int) (0:Int) f)/\∀l m n,aP 17 (∀o,k l m n o->ai (decide (n<((i:Nat):Int))) ((bx n ((i:Nat):Int)/\Option.isSome g=true)/\∃p,Ld bF (aw g n 1) o (.int .u8 p)/\uI Fs #[vS [48,49,50,51,52,53,54,55,56,57,97,98,99,100,101,102],.int .u8 p] o λq r=>ai (decide (q<(0:Int))) (K (.tuple #[.int .u16 0,.bool false]) r) ((0 <=(4:Int))/\∃s:Nat,s<l/\k s (IntKind.u16.wrap (((BitVec.ofInt (IntKind.bits .u16) (IntKind.u16.wrap (m*2 ^ (min (Int.toNat 4) (IntKind.bits .u16))))) ||| (BitVec.ofInt (IntKind.bits .u16) (IntKind.u16.wrap q))).toNat:Nat)) (i64.wrap (n+(1:Int))) r)) (K (.tuple #[.int .u16 m,.bool true]) o)))):Cf CQ #[vS a] w (Ret K):=ru func230 [(2,[]),(16,[(4,.one (.int .u16)),(20,.one (.int .i64))])] h
theorem Kl (a:Int){w K}(h:∃b:FP [],(∃c:FP [.one .bool],(ai (decide (a >=(48:Int))) (c (decide (a <=(57:Int))) w) (c false w))/\∀d,aP 5 (∀e,c d e->ai d (K (vI (i64.wrap ((i64.wrap a)-(48:Int)))) e) (b e)))/\aP 10 (∀c,b c->∃d:FP [],(∃e:FP [.one .bool],(ai (decide (a >=(97:Int))) (e (decide (a <=(102:Int))) c) (e false c))/\∀f,aP 5 (∀g,e f g->ai f (K (vI (i64.wrap ((i64.wrap a)-(87:Int)))) g) (d g)))/\aP 10 (∀e,d e->∃f:FP [.one .bool],(ai (decide (a >=(65:Int))) (f (decide (a <=(70:Int))) e) (f false e))/\∀g,aP 5 (∀i,f g i->ai g (K (vI (i64.wrap ((i64.wrap a)-(55:Int)))) i) (K (vI (-1)) i))))):Cf Bt #[.int .u8 a] w (Ret K):=ru func246 [(2,[]),(3,[(8,.one .bool)]),(10,[]),(11,[(17,.one .bool)]),(19,[(26,.one .bool)])] h
theorem qd (a:Option Addr)(b c:Nat){w K}(h:uI rr #[.slice a b c,.func (.func me) #[] #[]] w λd e=>K (.bool (decide (d >=(0:Int)))) e):Cf lG #[.slice a b c,.func (.func me) #[] #[]] w (Ret K):=ru func115 [] h
theorem qU (a:Option Addr)(b c:Nat){w K}(h:∃d:Nat->FP [.one (.int .i64)],(∃e,d e (0:Int) w)/\∀e f,aP 12 (∀g,d e f g->ai (decide (f<((b:Nat):Int))) ((bx f ((b:Nat):Int)/\Option.isSome a=true)/\∃i,Ld ao (aw a f 1) g (vS i)/\uB me #[vS i] g λj k=>ai j (K (vI f) k) (∃l:Nat,l<e/\d l (i64.wrap (f+(1:Int))) k)) (K (vI (-1)) g))):Cf rr #[.slice a b c,.func (.func me) #[] #[]] w (Ret K):=ru func185 [(6,[(8,.one (.int .i64))])] h
theorem rj (a:Option Addr)(b c:Nat){w K}(h:uI tw #[.slice a b c,.func (.func oH) #[] #[]] w λd e=>K (.bool (decide (d >=(0:Int)))) e):Cf rL #[.slice a b c,.func (.func oH) #[] #[]] w (Ret K):=ru func186 [] h
theorem rU (a:Option Addr)(b c:Nat){w K}(h:∃d:Nat->FP [.one (.int .i64)],(∃e,d e (0:Int) w)/\∀e f,aP 12 (∀g,d e f g->ai (decide (f<((b:Nat):Int))) ((bx f ((b:Nat):Int)/\Option.isSome a=true)/\∃i,Ld bF (aw a f 1) g (.int .u8 i)/\uB oH #[.int .u8 i] g λj k=>ai j (K (vI f) k) (∃l:Nat,l<e/\d l (i64.wrap (f+(1:Int))) k)) (K (vI (-1)) g))):Cf tw #[.slice a b c,.func (.func oH) #[] #[]] w (Ret K):=ru func231 [(6,[(8,.one (.int .i64))])] h
theorem CI (a b:Int){w K}(h:uS sq #[.int .u64 a,vI b] w λc d=>K (vS c) d):Cf uk #[.int .u64 a,vI b] w (Ret K):=ru func245 [] h
theorem wV (a b:Int){w K}(h:ai (b==(10:Int)) (ai (decide (a<(100:Int))) (uS AB #[vI (i64.wrap a)] w λc d=>K (vS c) d) (nA w (.cells MC MA) λc d=>uI yf #[.int .u64 a] d λe f=>bd e ((24:Nat):Int)/\uU wE #[.slice (vA c 0) (Int.toNat e) 24,.int .u64 a] f λg=>bd e ((24:Nat):Int)/\∃i,(convert bM ao (.slice (vA c 0) (Int.toNat e) 24)).run prog g=.ok (vS i) g/\K (vS i) g)) (Cf oW #[.slice none 0 0,.int .u64 a,vI b,.bool false,.bool false] w λc d=>∃e f g i,c=rT #[.slice e f g,vS i]/\K (vS i) d)):Cf sq #[.int .u64 a,vI b] w (Ret K):=ru func275 [] h
theorem wW (a:Option Addr)(b c:Nat)(d e:Int)(f g:Bool){w K}(h:∃i:FP [],(∃j:FP [.one .bool],(ai (decide (e<(2:Int))) (j true w) (ai (e==(10:Int)) (j true w) (j (decide (e>(36:Int))) w)))/\∀k,aP 9 (∀l,j k l->ai k (False) (i l)))/\aP 11 (∀j,i j->nA j (.cells MD xU) λk l=>∃m:FP [.one (.int .u64)],(ai f (m (IntKind.u64.wrap (0-d)) l) (m d l))/\∀n,aP 3 (∀o,m n o->∃p:FP [.one (.int .i64)],(uB rK #[vI e] o λq r=>ai q (uI rb #[.int .u64 (IntKind.u64.wrap e)] r λs t=>∃u:Nat->FP [.one (.int .u64),.one (.int .i64)],(∃v,u v n (65:Int) t)/\∀v x y,aP 14 (∀z,u v x y z->ai (decide (x >=(IntKind.u64.wrap e))) (bx (IntKind.u64.wrap (((BitVec.ofInt (IntKind.bits .u64) x) &&& (BitVec.ofInt (IntKind.bits .u64) (IntKind.u64.wrap ((IntKind.u64.wrap e)-(1:Int))))).toNat:Nat)) ((List.length [48,49,50,51,52,53,54,55,56,57,97,98,99,100,101,102,103,104,105,106,107,108,109,110,111,112,113,114,115,116,117,118,119,120,121,122]:Nat):Int)/\(bx (i64.wrap (y-(1:Int))) ((65:Nat):Int)/\true)/\∃A,Sv bF (aw (vA k 0) (i64.wrap (y-(1:Int))) 1) (.int .u8 (bm [48,49,50,51,52,53,54,55,56,57,97,98,99,100,101,102,103,104,105,106,107,108,109,110,111,112,113,114,115,116,117,118,119,120,121,122] (IntKind.u64.wrap (((BitVec.ofInt (IntKind.bits .u64) x) &&& (BitVec.ofInt (IntKind.bits .u64) (IntKind.u64.wrap ((IntKind.u64.wrap e)-(1:Int))))).toNat:Nat)))) z A/\(0 <=(IntKind.u64.wrap s))/\∃B:Nat,B<v/\u B (Int.fdiv x (2 ^ (min (Int.toNat (IntKind.u64.wrap s)) (IntKind.bits .u64)))) (i64.wrap (y-(1:Int))) A) (bx x ((List.length [48,49,50,51,52,53,54,55,56,57,97,98,99,100,101,102,103,104,105,106,107,108,109,110,111,112,113,114,115,116,117,118,119,120,121,122]:Nat):Int)/\(bx (i64.wrap (y-(1:Int))) ((65:Nat):Int)/\true)/\∃A,Sv bF (aw (vA k 0) (i64.wrap (y-(1:Int))) 1) (.int .u8 (bm [48,49,50,51,52,53,54,55,56,57,97,98,99,100,101,102,103,104,105,106,107,108,109,110,111,112,113,114,115,116,117,118,119,120,121,122] x)) z A/\p (i64.wrap (y-(1:Int))) A))) (∃s:Nat->FP [.one (.int .u64),.one (.int .i64)],(∃t,s t n (65:Int) r)/\∀t u v,aP 18 (∀x,s t u v x->ai (decide (u >=(IntKind.u64.wrap e))) (((IntKind.u64.wrap e)≠0)/\∀y,y=(IntKind.u64.wrap (Int.tdiv u (IntKind.u64.wrap e)))->bx (IntKind.u64.wrap (u-(IntKind.u64.wrap (y*(IntKind.u64.wrap e))))) ((List.length [48,49,50,51,52,53,54,55,56,57,97,98,99,100,101,102,103,104,105,106,107,108,109,110,111,112,113,114,115,116,117,118,119,120,121,122]:Nat):Int)/\(bx (i64.wrap (v-(1:Int))) ((65:Nat):Int)/\true)/\∃z,Sv bF (aw (vA k 0) (i64.wrap (v-(1:Int))) 1) (.int .u8 (bm [48,49,50,51,52,53,54,55,56,57,97,98,99,100,101,102,103,104,105,106,107,108,109,110,111,112,113,114,115,116,117,118,119,120,121,122] (IntKind.u64.wrap (u-(IntKind.u64.wrap (y*(IntKind.u64.wrap e))))))) x z/\∃A:Nat,A<t/\s A y (i64.wrap (v-(1:Int))) z) (bx u ((List.length [48,49,50,51,52,53,54,55,56,57,97,98,99,100,101,102,103,104,105,106,107,108,109,110,111,112,113,114,115,116,117,118,119,120,121,122]:Nat):Int)/\(bx (i64.wrap (v-(1:Int))) ((65:Nat):Int)/\true)/\∃y,Sv bF (aw (vA k 0) (i64.wrap (v-(1:Int))) 1) (.int .u8 (bm [48,49,50,51,52,53,54,55,56,57,97,98,99,100,101,102,103,104,105,106,107,108,109,110,111,112,113,114,115,116,117,118,119,120,121,122] u)) x y/\p (i64.wrap (v-(1:Int))) y))))/\∀q,aP 62 (∀r,p q r->∃s:FP [.one (.int .i64)],(ai f ((bx (i64.wrap (q-(1:Int))) ((65:Nat):Int)/\true)/\∃t,Sv bF (aw (vA k 0) (i64.wrap (q-(1:Int))) 1) (.int .u8 45) r t/\s (i64.wrap (q-(1:Int))) t) (s q r))/\∀t,aP 5 (∀u,s t u->ai g (bd t ((65:Nat):Int)/\∃v x y z,(Builtin.append_ #[bM,bM] bM #[.slice a b c,.slice (some (if 65=(Int.toNat t)then⟨k,0,none⟩ else Addr.add ⟨k,0,none⟩ ((Int.toNat t)*1))) (65-(Int.toNat t)) (65-(Int.toNat t))]).run prog u=.ok (.slice x y z) v/\K (.tuple #[.slice x y z,vS []]) v) (bd t ((65:Nat):Int)/\∃v,(convert bM ao (.slice (some (if 65=(Int.toNat t)then⟨k,0,none⟩ else Addr.add ⟨k,0,none⟩ ((Int.toNat t)*1))) (65-(Int.toNat t)) (65-(Int.toNat t)))).run prog u=.ok (vS v) u/\K (.tuple #[.slice none 0 0,vS v]) u)))))):Cf oW #[.slice a b c,.int .u64 d,vI e,.bool f,.bool g] w (Ret K):=ru func289 [(2,[]),(3,[(28,.one .bool)]),(12,[(1,.one (.int .u64))]),(18,[(13,.one (.int .i64))]),(30,[(1,.one (.int .u64)),(13,.one (.int .i64))]),(50,[(1,.one (.int .u64)),(13,.one (.int .i64))]),(68,[(13,.one (.int .i64))])] h
theorem vR (a:Int){w K}(h:K (.bool ((i64.wrap (((BitVec.ofInt (IntKind.bits .i64) a) &&& (BitVec.ofInt (IntKind.bits .i64) (i64.wrap (a-(1:Int))))).toNat:Nat))==(0:Int))) w):Cf rK #[vI a] w (Ret K):=ru func302 [] h
theorem zo (a:Int){w K}(h:uI tR #[.int .u64 a] w λb c=>K (vI b) c):Cf rb #[.int .u64 a] w (Ret K):=ru func303 [] h
theorem xN (a:Int){w K}(h:ai (a==(0:Int)) (K (vI 64) w) ((0 <=(58:Int))/\(bx (Int.fdiv (IntKind.u64.wrap ((IntKind.u64.wrap (((BitVec.ofInt (IntKind.bits .u64) a) &&& (BitVec.ofInt (IntKind.bits .u64) (IntKind.u64.wrap (0-a)))).toNat:Nat))*(285870213051353865:Int))) (2 ^ (min (Int.toNat 58) (IntKind.bits .u64)))) ((64:Nat):Int)/\true)/\∃b,Ld bF (aw (vA 7 0) (Int.fdiv (IntKind.u64.wrap ((IntKind.u64.wrap (((BitVec.ofInt (IntKind.bits .u64) a) &&& (BitVec.ofInt (IntKind.bits .u64) (IntKind.u64.wrap (0-a)))).toNat:Nat))*(285870213051353865:Int))) (2 ^ (min (Int.toNat 58) (IntKind.bits .u64)))) 1) w (.int .u8 b)/\K (vI (i64.wrap b)) w)):Cf tR #[.int .u64 a] w (Ret K):=ru func311 [] h
end Go.Pk
