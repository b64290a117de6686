/- What the laws lean on: R, Open, WordP, Arr, H, Split, LinP, Names; what is used. Its conditions: none. -/
import Derived.Test.YtikdahhdhchlfaaGreatDoorRA
import Derived.Laws.AppendOwn
import Derived.IntWalk
import Derived.ProofKit
import Derived.OpenShut
import Derived.Stop.LaidErr
import Derived.Lib.LaidTab
import Derived.Deep.DeepHandedRow
import Derived.Lib.SplitLaws
import Derived.Lib.IndexMore
import Derived.Test.YtikdahhdhchlfaaGreatDoorRows
set_option linter.unusedVariables false
set_option linter.unusedSimpArgs false
set_option linter.unusedSectionVars false
set_option maxRecDepth 100000
open List (append_assoc append_nil cons_append drop_eq_getElem_cons getElem_map getElem_mem length length_append length_cons length_drop length_map length_nil length_take map_cons mem_cons_of_mem mem_cons_self nil_append take_append_drop take_of_length_le take_take)
open Option (map_some)
variable {n i k:Nat}{w u:Go.World}{t:Go.TypeId}{o:Type}{P:Go.Program}{y:Bool}{z:Array Go.Value}{E:Nat×Nat}{s:List UInt8}
open Go.IntKind (i64)
open Go.Proofs.Tryz
namespace Go.Pk
open Go.RowKit (Below)
open Go.Proofs
abbrev Bl:=Nat->Prop
structure KU (A:Bl)(w w':World):Prop where
 size:w.heap.size <=w'.heap.size
 block:∀b,b<w.heap.size->A b->w'.heap[b]? =w.heap[b]?
theorem KU.refl (A:Bl)(w:World):KU A w w:=⟨Nat.le_refl _,λ_ _ _=>rfl⟩
theorem KU.trans {A:Bl}{a b c:World}(h:KU A a b)(k:KU A b c):KU A a c:=
 ⟨Nat.le_trans h.size k.size,λi q e=>(k.block i (Nat.lt_of_lt_of_le q h.size) e).trans (h.block i q e)⟩
theorem KU.mono {A A':Bl}{w w':World}(h:KU A w w')(e:∀b,A' b->A b):KU A' w w':=⟨h.size,λb D q=>h.block b D (e b q)⟩
theorem H4 {w w':World}(h:Below w.heap.size w w')(A:Bl):KU A w w':=⟨h.size,λb e _=>h.block b e⟩
theorem eD {w w':World}{row:Option Nat}(h:w.grownBy w' row){A:Bl}(e:∀b,A b->some b≠row):KU A w w':=⟨h.size,λb D q=>h.block b D (e b q)⟩
theorem cy (w:World):Below w.heap.size w w.drew:=(Below.refl _ w).drew
theorem ao (w:World)(o:Obj):Below w.heap.size w (w.alloc o):=(Below.refl _ w).alloc (Nat.le_refl _) o
theorem ae {B:Nat}{a b c:World}(h:Below B a b)(k:Below b.heap.size b c)(hB:B <=b.heap.size):Below B a c:=h.trans (k.mono hB)
structure Ty (α:Type) where
 k:Nat
 pos:0<k
 rep:World->Bl->List Value->α->Prop
 len:∀{w A vs x},rep w A vs x->vs.length=k
 one:∀{w A vs x},rep w A vs x->∀v∈vs,v.oneCell'=true
 keep:∀{w w' A vs x},rep w A vs x->KU A w w'->rep w' A vs x
 mono:∀{w A A' vs x},rep w A vs x->(∀b,b<w.heap.size->A b->A' b)->rep w A' vs x
def Ty.enc {α:Type}(e:α->Value)(h1:∀x,(e x).oneCell'=true)(p:α->Prop):Ty α where
 k:=1
 pos:=by decide
 rep:=λ_ _ vs x=>vs=[e x]/\p x
 len:=λh=>by rw[h.1];rfl
 one:=fun{_ _ _ x} h v hv=>by rw[h.1]at hv;simp at hv;rw[hv];exact h1 x
 keep:=λh _=>h
 mono:=λh _=>h
def Zv (k:IntKind)(p:Int->Prop):Ty Int:=Ty.enc (λn=>.int k n) (λ_=>rfl) p
def TE:Ty Int:=Zv .i64 λ_=>True
def tU8:Ty UInt8:=Ty.enc (λc=>.int .u8 (c.toNat:Nat)) (λ_=>rfl) λ_=>True
def Zu:Ty Bool:=Ty.enc (λb=>.bool b) (λ_=>rfl) λ_=>True
def YM (p:lU->Prop):Ty lU:=Ty.enc (λs=>.string (mkS s)) (λ_=>rfl) p
abbrev tS:Ty lU:=YM λ_=>True
def NoB:Bl:=λ_=>False
structure TF (P:Program)(t:TypeId)(k bytes:Nat)(z:Value):Prop where
 info:∃i,P.info? t=some i/\i.size=k/\i.bytes=bytes/\i.zero=some z
 cells:z.cells.size=k
 und:∃d,P.underlying t=some d/\(CX d=true\/k=1/\CX d=false)
theorem TF.of {k bytes:Nat}{z:Value}(h1:(P.info? t).map (λi=>(i.size,i.bytes,i.zero))=some (k,bytes,some z))(E:z.cells.size=k)(b:Bool)
 (e:(P.underlying t).map CX=some b) (G:b=true\/k=1):TF P t k bytes z:=by
 cases q:P.info? t with
 |none=>rw[q]at h1;cases h1
 |some i=>
  rw[q]at h1;simp only[map_some,Option.some.injEq,Prod.mk.injEq]at h1;cases D:P.underlying t with
  |none=>rw[D]at e;cases e
  |some d=>
   rw[D]at e;simp only[map_some,Option.some.injEq]at e;refine⟨⟨i,q,h1.1,h1.2.1,h1.2.2⟩,E,d,D,?_⟩;cases b with
   |true=>exact .inl e
   |false=>exact .inr ⟨G.resolve_left (by simp),e⟩
structure gy {α:Type}(T:Ty α)(w:World)(A:Bl)(l:List Value)(xs:List α):Prop where
 len:l.length=xs.length*T.k
 rep:∀i (h:i<xs.length),T.rep w A ((l.drop (i*T.k)).take T.k) xs[i]
theorem gy.nil {α:Type}(T:Ty α)(w:World)(A:Bl):gy T w A [] ([]:List α):=⟨by simp,λi h=>by cases h⟩
theorem gy.one {α:Type}{T:Ty α}{A:Bl}{vs:List Value}{x:α}(h:T.rep w A vs x):gy T w A vs [x]:=by
 have q:=T.len h;refine⟨by simp[q],λi e=>?_⟩;have:i=0:=by simpa using e
 subst this;simp only[Nat.zero_mul,List.drop_zero,List.getElem_cons_zero];rw[take_of_length_le (by omega)];exact h
theorem gy.append {α:Type}{T:Ty α}{A:Bl}{l m:List Value}{xs ys:List α}(h:gy T w A l xs)(k:gy T w A m ys):gy T w A (l++m) (xs++ys):=by
 refine⟨by rw[length_append,length_append,h.len,k.len,Nat.add_mul],λi q=>?_⟩;by_cases c:i<xs.length
 ·rw[List.getElem_append_left c];have h1:=h.rep i c;have e:i*T.k+T.k <=l.length:=by
   have:=Nat.mul_le_mul_right T.k (show i+1 <=xs.length from c);rw[Nat.add_mul,Nat.one_mul]at this;rw[h.len];exact this
  rw[List.drop_append_of_le_length (by omega),List.take_append_of_le_length (by rw[length_drop];omega)];exact h1
 ·have D:i-xs.length<ys.length:=by simp at q;omega
  rw[List.getElem_append_right (by omega)];have h1:=k.rep (i-xs.length) D;have e:i*T.k=l.length+(i-xs.length)*T.k:=by
   rw[h.len,<- Nat.add_mul];congr 1;omega
  rw[e,List.drop_length_add_append];exact h1
theorem gy.keep {α:Type}{T:Ty α}{w w':World}{A:Bl}{l:List Value}{xs:List α}(h:gy T w A l xs)(q:KU A w w'):gy T w' A l xs:=⟨h.len,λi e=>T.keep (h.rep i e) q⟩
theorem gy.mono {α:Type}{T:Ty α}{A A':Bl}{l:List Value}{xs:List α}(h:gy T w A l xs)(e:∀b,b<w.heap.size->A b->A' b):gy T w A' l xs:=⟨h.len,λi q=>T.mono (h.rep i q) e⟩
theorem gy.ones {α:Type}{T:Ty α}{A:Bl} :∀{xs:List α} {l:List Value},gy T w A l xs->∀v∈l,v.oneCell'=true
 |[],l,h,v,e=>by have:=h.len;simp at this;subst this;cases e
 |x::xs,l,h,v,e=>by
  have D:=h.len;have G:=T.pos;have h1:=h.rep 0 (by simp);rw[Nat.zero_mul,List.drop_zero]at h1;have q:gy T w A (l.drop T.k) xs:=by
   refine⟨by rw[length_drop,D];simp[Nat.add_mul],λi E=>?_⟩;have:=h.rep (i+1) (by simp;omega);simp only[List.getElem_cons_succ]at this;rw[List.drop_drop];rw[Nat.add_mul,Nat.one_mul,Nat.add_comm]at this;exact this
  rw[<- take_append_drop T.k l]at e;rcases List.mem_append.1 e with e|e
  ·exact T.one h1 v e
  ·exact gy.ones q v e
theorem gy.set {α:Type}{T:Ty α}{A:Bl}{l:List Value}{xs:List α}(h:gy T w A l xs)(U:i<xs.length){vs:List Value}{x:α}(E:T.rep w A vs x):
 gy T w A (l.take (i*T.k)++vs++l.drop (i*T.k+vs.length)) (xs.set i x):=by
 have e:=T.len E;have X:i*T.k+T.k <=l.length:=by
  have:=Nat.mul_le_mul_right T.k (show i+1 <=xs.length from U);rw[Nat.add_mul,Nat.one_mul]at this;rw[h.len];exact this
 refine⟨?_,λj V=>?_⟩
 ·rw[List.length_set,<- h.len,length_append,length_append,length_take,length_drop,e];omega
 ·have q:j<xs.length:=by simpa using V
  have key:(l.take (i*T.k)++vs++l.drop (i*T.k+vs.length))=l.take (i*T.k)++(vs++l.drop (i*T.k+vs.length)):=append_assoc _ _ _;have D:(l.take (i*T.k)).length=i*T.k:=by rw[length_take];omega
  by_cases G:j<i
  ·have h1:=h.rep j q;have O:j*T.k+T.k <=i*T.k:=by
    have:=Nat.mul_le_mul_right T.k (show j+1 <=i from G)
    rwa [Nat.add_mul,Nat.one_mul]at this
   rw[List.getElem_set_ne (by omega),key,List.drop_append_of_le_length (by omega),List.take_append_of_le_length (by rw[length_drop];omega)];rw[List.drop_take,take_take];rw[show min T.k (i*T.k-j*T.k)=T.k by omega];exact h1
  ·by_cases H:j=i
   ·subst H;rw[List.getElem_set_self,key,List.drop_left' D,<- e,List.take_left];exact E
   ·have h1:=h.rep j q;have O:i*T.k+T.k <=j*T.k:=by
     have:=Nat.mul_le_mul_right T.k (show i+1 <=j by omega)
     rwa [Nat.add_mul,Nat.one_mul]at this
    rw[List.getElem_set_ne (by omega)];have I:(l.take (i*T.k)++vs++l.drop (i*T.k+vs.length)).drop (j*T.k)=l.drop (j*T.k):=by
     have M:j*T.k=(l.take (i*T.k)++vs).length+(j*T.k-(i*T.k+T.k)):=by rw[length_append,D,e];omega
     rw[M,List.drop_length_add_append,List.drop_drop];congr 1;omega
    rw[I];exact h1
def At {α:Type}(T:Ty α)(w:World)(A:Bl)(b off:Nat)(xs:List α):Prop:=
 ∃l:List Value,gy T w A l xs/\∀j,j<l.length->w.cell? ⟨b,off+j,none⟩=l[j]?
def Sl {α:Type}(T:Ty α)(w:World)(A:Bl)(a:Option Addr)(n c:Nat)(xs:List α):Prop:=
 n=xs.length/\n <=c/\c <=maxLen/\(xs=[]\/∃b off,a=some ⟨b,off,none⟩/\b<w.heap.size/\A b/\At T w A b off xs)
theorem DL {w w':World}{b:Nat}(h:w'.heap[b]? =w.heap[b]?)(o:Nat):w'.cell? ⟨b,o,none⟩=w.cell? ⟨b,o,none⟩:=by simp[World.cell?,h]
theorem At.keep {α:Type}{T:Ty α}{w w':World}{A:Bl}{b off:Nat}{xs:List α}(h:At T w A b off xs)(E:b<w.heap.size)(D:A b)(e:KU A w w'):At T w' A b off xs:=by
 obtain⟨l,h1,q⟩:=h;exact⟨l,h1.keep e,λj G=>by rw[DL (e.block b E D)];exact q j G⟩
theorem Sl.keep {α:Type}{T:Ty α}{w w':World}{A:Bl}{a:Option Addr}{n c:Nat}{xs:List α}(h:Sl T w A a n c xs)(E:KU A w w'):Sl T w' A a n c xs:=by
 obtain⟨h1,H,I,e⟩:=h;refine⟨h1,H,I,?_⟩;rcases e with e|⟨b,off,G,D,q,e⟩
 ·exact .inl e
 ·exact .inr ⟨b,off,G,Nat.lt_of_lt_of_le D E.size,q,e.keep D q E⟩
theorem Sl.below {α:Type}{T:Ty α}{w w':World}{A:Bl}{a:Option Addr}{n c:Nat}{xs:List α}(h:Sl T w A a n c xs)(e:Below w.heap.size w w'):Sl T w' A a n c xs:=h.keep (H4 e A)
theorem Sl.mono {α:Type}{T:Ty α}{A A':Bl}{a:Option Addr}{n c:Nat}{xs:List α}(h:Sl T w A a n c xs)(q:∀b,b<w.heap.size->A b->A' b):Sl T w A' a n c xs:=by
 obtain⟨h1,G,H,e⟩:=h;refine⟨h1,G,H,?_⟩;rcases e with e|⟨b,off,E,D,O,e⟩
 ·exact .inl e
 ·obtain⟨l,I,M⟩:=e;exact .inr ⟨b,off,E,D,q b D O,l,I.mono q,M⟩
theorem Sl.len {α:Type}{T:Ty α}{A:Bl}{a:Option Addr}{n c:Nat}{xs:List α}(h:Sl T w A a n c xs):n=xs.length:=h.1
theorem Sl.le {α:Type}{T:Ty α}{A:Bl}{a:Option Addr}{n c:Nat}{xs:List α}(h:Sl T w A a n c xs):xs.length <=9223372036854775807:=by
 have h1:=h.1;have q:=h.2.1;have e:=h.2.2.1;unfold maxLen at e;omega
theorem Sl.nil {α:Type}(T:Ty α)(w:World)(A:Bl)(a:Option Addr)(c:Nat)(e:c <=maxLen):Sl T w A a 0 c ([]:List α):=⟨rfl,Nat.zero_le _,e,.inl rfl⟩
theorem Sl.isSome {α:Type}{T:Ty α}{A:Bl}{a:Option Addr}{n c:Nat}{xs:List α}(h:Sl T w A a n c xs)(D:i<xs.length):Option.isSome a=true:=by
 rcases h.2.2.2 with q|⟨b,off,e,_⟩
 ·subst q;cases D
 ·rw[e];rfl
theorem fu (b o j:Nat):(⟨b,o,none⟩:Addr).add j=⟨b,o+j,none⟩:=by
 unfold Addr.add;split<;>simp_all
theorem mK {d:TypeDesc}(D:P.underlying t=some d)(e:CX d=false){p:Addr}{v:Value}(q:w.cell? p=some v):
 (loadVar t p).run P w=.ok v w:=by
 unfold loadVar;rw[Sem.run_bind,sG D,e];simp[q]
theorem Ma {b off:Nat}{vs:List Value}(h:∀j,j<vs.length->w.cell? ⟨b,off+j,none⟩=vs[j]?):(loadCells ⟨b,off,none⟩ vs.length).run P w=.ok vs.toArray w:=
 run_loadCells_list (P:=P) w ⟨b,off,none⟩ vs λj v e=>by
  rw[fu,h j (by have:=(List.getElem?_eq_some_iff.1 e).1;exact this)];exact e
theorem Es {d:TypeDesc}{i:TypeInfo}(E:P.underlying t=some d)(e:CX d=true)(q:P.info? t=some i){b off:Nat}{vs:List Value}(D:vs.length=i.size)
 (h:∀j,j<vs.length->w.cell? ⟨b,off+j,none⟩=vs[j]?):(loadVar t ⟨b,off,none⟩).run P w=.ok (.agg vs.toArray) w:=by
 unfold loadVar;rw[Sem.run_bind,sG E,e];have:=Ma (P:=P) h;rw[D]at this;simp[fx q,this]
theorem j3 (b off:Nat)(i:Int)(k:Nat):av (some ⟨b,off,none⟩) i k=some ⟨b,off+i.toNat*k,none⟩:=by
 simp[av,fu]
theorem At.elem {α:Type}{T:Ty α}{A:Bl}{b off:Nat}{xs:List α}(h:At T w A b off xs)(e:i<xs.length):
 ∃vs,T.rep w A vs xs[i]/\∀j,j<T.k->w.cell? ⟨b,off+i*T.k+j,none⟩=vs[j]? :=by
 obtain⟨l,h1,q⟩:=h;have E:i*T.k+T.k <=l.length:=by
  have:=Nat.mul_le_mul_right T.k (show i+1 <=xs.length from e);rw[Nat.add_mul,Nat.one_mul]at this;rw[h1.len];exact this
 refine⟨_,h1.rep i e,λj D=>?_⟩;rw[Nat.add_assoc,q _ (by omega),List.getElem?_take,if_pos D,List.getElem?_drop]
theorem Sl.load1 {α:Type}{T:Ty α}{d:TypeDesc}(U:P.underlying t=some d)(O:CX d=false)(q:T.k=1)
 {A:Bl} {a:Option Addr} {n c:Nat} {xs:List α} (h:Sl T w A a n c xs) {i:Int} (G:i.toNat<xs.length):
 ∃v,(Instr.loadAt t (.pointer (av a i 1))).run P w=.ok v w/\T.rep w A [v] xs[i.toNat]:=by
 rcases h.2.2.2 with e|⟨b,off,I,X,V,e⟩
 ·subst e;cases G
 ·obtain⟨vs,D,M⟩:=e.elem G;have H:=T.len D;rw[q]at H
  match vs,H with
  |[v],_=>
   refine⟨v,?_,D⟩;have E:=M 0 (by rw[q];decide);rw[q]at E;rw[I,j3];show(do loadVar t (<- Instr.sureAddr (.pointer (some _)))).run P w=_;rw[Sem.run_bind,hU];exact mK U O (by simpa using E)
theorem Sl.loadA {α:Type}{T:Ty α}{d:TypeDesc}{E:TypeInfo}(U:P.underlying t=some d)(I:CX d=true)(M:P.info? t=some E)(O:T.k=k)(ac:E.size=k)
 {A:Bl} {a:Option Addr} {n c:Nat} {xs:List α} (h:Sl T w A a n c xs) {i:Int} (D:i.toNat<xs.length):
 ∃vs,(Instr.loadAt t (.pointer (av a i k))).run P w=.ok (.agg vs.toArray) w/\T.rep w A vs xs[i.toNat]:=by
 subst O;rcases h.2.2.2 with e|⟨b,off,G,X,V,e⟩
 ·subst e;cases D
 ·obtain⟨vs,q,H⟩:=e.elem D;have Z:=T.len q;refine⟨vs,?_,q⟩;rw[G,j3];show(do loadVar t (<- Instr.sureAddr (.pointer (some _)))).run P w=_;rw[Sem.run_bind,hU];exact Es U I M (by omega) λj Y=>H j (by omega)
def eP (a:Option Addr):Option Nat:=a.map (·.block)
def Ow {α:Type}(T:Ty α)(t:TypeId)(w:World)(A:Bl)(a:Option Addr)(n c:Nat)(xs:List α):Prop:=
 n=xs.length/\n <=c/\c <=maxLen/\((a=none/\c=0/\xs=[])\/
  ∃g cur fr,a=some ⟨g,0,none⟩/\w.heap[g]? =some (.cells cur t fr)/\(∀i,i<cur.size-> ¬ (fr.1 <=i/\i<fr.2))/\cur.size=c*T.k/\gy T w A (cur.toList.take (n*T.k)) xs)
theorem Ow.nil {α:Type}(T:Ty α)(t:TypeId)(w:World)(A:Bl):Ow T t w A none 0 0 ([]:List α):=⟨rfl,Nat.le_refl _,Nat.zero_le _,.inl ⟨rfl,rfl,rfl⟩⟩
theorem Ow.len {α:Type}{T:Ty α}{A:Bl}{a:Option Addr}{n c:Nat}{xs:List α}(h:Ow T t w A a n c xs):n=xs.length:=h.1
theorem Ow.le {α:Type}{T:Ty α}{A:Bl}{a:Option Addr}{n c:Nat}{xs:List α}(h:Ow T t w A a n c xs):xs.length <=9223372036854775807:=by
 have h1:=h.1;have q:=h.2.1;have e:=h.2.2.1;unfold maxLen at e;omega
theorem Ow.lt {α:Type}{T:Ty α}{A:Bl}{a:Option Addr}{n c:Nat}{xs:List α}(h:Ow T t w A a n c xs):∀g,eP a=some g->g<w.heap.size:=by
 intro g e;rcases h.2.2.2 with⟨q,_⟩|⟨G,cur,E,q,D,_⟩
 ·rw[q]at e;cases e
 ·rw[q]at e;simp[eP]at e;subst e;exact(Array.getElem?_eq_some_iff.1 D).1
theorem Ow.keep {α:Type}{T:Ty α}{w w':World}{A:Bl}{a:Option Addr}{n c:Nat}{xs:List α}(h:Ow T t w A a n c xs)(D:KU (λb=>A b\/some b=eP a) w w'):Ow T t w' A a n c xs:=by
 have O:=h.lt;obtain⟨h1,G,H,e⟩:=h;refine⟨h1,G,H,?_⟩;rcases e with e|⟨g,cur,E,q,M,I,U,e⟩
 ·exact .inl e
 ·refine .inr ⟨g,cur,E,q,?_,I,U,e.keep (D.mono λ_ h=>.inl h)⟩;rw[D.block g (O g (by rw[q];rfl)) (.inr (by rw[q];rfl))];exact M
theorem Ow.below {α:Type}{T:Ty α}{w w':World}{A:Bl}{a:Option Addr}{n c:Nat}{xs:List α}(h:Ow T t w A a n c xs)(e:Below w.heap.size w w'):Ow T t w' A a n c xs:=h.keep (H4 e _)
theorem Ow.mono {α:Type}{T:Ty α}{A A':Bl}{a:Option Addr}{n c:Nat}{xs:List α}(h:Ow T t w A a n c xs)(H:∀b,b<w.heap.size->A b->A' b):Ow T t w A' a n c xs:=by
 obtain⟨h1,E,G,e⟩:=h;refine⟨h1,E,G,?_⟩;rcases e with e|⟨g,cur,D,q,M,I,O,e⟩
 ·exact .inl e
 ·exact .inr ⟨g,cur,D,q,M,I,O,e.mono H⟩
theorem Ow.sl {α:Type}{T:Ty α}{A A':Bl}{a:Option Addr}{n c:Nat}{xs:List α}(h:Ow T t w A a n c xs)(hA:∀b,b<w.heap.size->A b->A' b)(H:∀g,eP a=some g->A' g):
 Sl T w A' a n c xs:=by
 have O:=h.lt;obtain⟨h1,E,G,e⟩:=h;refine⟨h1,E,G,?_⟩;rcases e with⟨_,_,e⟩|⟨g,cur,D,q,I,U,V,e⟩
 ·exact .inl e
 ·refine .inr ⟨g,0,q,O g (by rw[q];rfl),H g (by rw[q];rfl),_,e.mono hA,λj M=>?_⟩;rw[length_take]at M;rw[cell_of_row w g _ cur t D I,Nat.zero_add,List.getElem?_take,if_pos (by omega)];simp
abbrev Ds:Bl:=λ_=>True
theorem Ow.all {α:Type}{T:Ty α}{A:Bl}{a:Option Addr}{n c:Nat}{xs:List α}(h:Ow T t w A a n c xs):Sl T w Ds a n c xs:=h.sl (λ_ _ _=>trivial) (λ_ _=>trivial)
def bU (B:Nat)(a:Option Addr):Prop:=∀g,eP a=some g->B <=g
theorem bU.none (B:Nat):bU B none:=λ_ h=>by cases h
theorem bU.mono {B e:Nat}{a:Option Addr}(h:bU B a)(q:e <=B):bU e a:=λg D=>Nat.le_trans q (h g D)
theorem setRow_size (w:World)(g:Nat)(cs:Array Value):(w.setRow g cs).heap.size=w.heap.size:=by simp[World.setRow]
theorem fc (w:World)(g:Nat)(cs:Array Value):w.grownBy (w.setRow g cs) (some g):=
 ⟨rfl,rfl,rfl,by rw[setRow_size];exact Nat.le_refl _,λk _ q=>setRow_other w g k cs λe=>q (by rw[e])⟩
theorem tY {g:Nat}(e:w.heap[g]? =some (.cells z t E))(o:Nat):w.cell? ⟨g,o,none⟩=z[o]? :=cell_of_row w g o z t E e
theorem Ie {g o:Nat}(q:w.heap[g]? =some (.cells z t E))(e: ¬ (E.1 <=o/\o<E.2)):w.frozen? ⟨g,o,none⟩=false:=by
 obtain⟨G,D⟩:=E;simp only[World.frozen?,q];simpa using e
theorem Kz {g o:Nat}(e:w.heap[g]? =some (.cells z t E))(I:o<z.size)(G: ¬ (E.1 <=o/\o<E.2))
 {v:Value} (h1:v.oneCell'=true):(store ⟨g,o,none⟩ v).run P w=.ok () (w.setRow g (z.setIfInBounds o v)):=by
 rw[run_store P w _ v .plain h1,tY e,Ie e G,Array.getElem?_eq_getElem I];simp only[Bool.false_eq_true,if_false];congr 1;obtain⟨D,U,M,O,output⟩:=w;simp only[World.setCell,World.setRow];congr 1;apply Array.ext_getElem?;intro k;rw[Array.getElem?_modify,Array.getElem?_modify];by_cases q:g=k
 ·subst q;simp only[if_true];have H:D[g]? =some (.cells z t E):=e;rw[H];rfl
 ·simp only[if_neg q]
theorem gJ (g o:Nat)(t:TypeId)(q:Nat×Nat):∀(vs:List Value) (i:Nat) (cur:Array Value) (w:World),w.heap[g]? =some (.cells cur t q)->o+i+vs.length <=cur.size->
 (∀j,j<cur.size-> ¬ (q.1 <=j/\j<q.2))->(∀v∈vs,v.oneCell'=true)->
 (storeCells ⟨g,o,none⟩ vs i).run P w=.ok () (w.setRow g (cur.toList.take (o+i)++vs++cur.toList.drop (o+i+vs.length)).toArray)
 |[],i,cur,w,D,_,_,_=>by
  simp only[storeCells,append_nil,length_nil,Nat.add_zero,take_append_drop,Array.toArray_toList];rw[setRow_self w g cur t q D];rfl
 |v::e,i,cur,w,D,U,M,h1=>by
  have H:o+i<cur.size:=by simp at U;omega
  simp only[storeCells,Sem.run_bind,fu];rw[Kz D H (M _ H) (h1 v mem_cons_self),Result.andThen_ok];rw[gJ g o t q e (i+1) (cur.setIfInBounds (o+i) v) _ (setRow_heap w g cur _ t q D) (by simp at U ⊢;omega)
   (λj aj=>M j (by simpa using aj)) (λu an=>h1 u (mem_cons_of_mem _ an))]
  congr 1;have Y:∀(a b:Array Value),(w.setRow g a).setRow g b=w.setRow g b:=by
   intro a b;obtain⟨ad,a9,ar,a8,output⟩:=w;simp only[World.setRow];congr 1;apply Array.ext_getElem?;intro k;rw[Array.getElem?_modify,Array.getElem?_modify,Array.getElem?_modify];by_cases O:g=k
   ·subst O;have ag:ad[g]? =some (.cells cur t q):=D;simp[ag]
   ·simp only[if_neg O]
  rw[Y];congr 1;apply Array.ext';simp only[Array.toList_setIfInBounds,length_cons];apply List.ext_getElem?;intro k;have al:cur.toList.length=cur.size:=by simp
  simp only[List.getElem?_append,length_append,length_take,List.length_set,List.getElem?_take,List.getElem?_drop,length_cons,al,List.getElem?_set];by_cases V:k<o+i
  ·have: ¬ o+i=k:=by omega
   simp[V,this,show k<min (o+(i+1)) cur.size by omega,show k<min (o+i) cur.size by omega,show k<o+(i+1) by omega,
    show k<min (o+(i+1)) cur.size+e.length by omega,show k<min (o+i) cur.size+(e.length+1) by omega]
  ·by_cases X:k=o+i
   ·subst X;have E:min (o+i) cur.size=o+i:=by omega
    have G:min (o+(i+1)) cur.size=o+i+1:=by omega
    simp[E,G,H,show o+i<o+i+1+e.length by omega,show o+i<o+(i+1) by omega]
   ·have E:min (o+i) cur.size=o+i:=by omega
    have G:min (o+(i+1)) cur.size=o+i+1:=by omega
    by_cases I:k<o+i+1+e.length
    ·have Z:k-(o+i)=(k-(o+i+1))+1:=by omega
     simp[E,G,I,show k<o+i+(e.length+1) by omega,show ¬ k<o+i+1 by omega,show ¬ k<o+i by omega,Z]
    ·have a0: ¬ o+i=o+(i+1)+e.length+(k-(o+i+1+e.length)):=by omega
     have ac:o+(i+1)+e.length+(k-(o+i+1+e.length))=o+i+(e.length+1)+(k-(o+i+(e.length+1))):=by omega
     simp[E,G,I,show ¬ k<o+i+(e.length+1) by omega,ac];intro h;omega
def Src {α:Type}(T:Ty α)(w:World)(A:Bl)(y:Option Addr)(m:Nat)(ys:List α):Prop:=
 m=ys.length/\(ys=[]\/∃b off,y=some ⟨b,off,none⟩/\At T w A b off ys)
def Flat {α:Type}(T:Ty α):Prop:=∀w A w' A' vs x,T.rep w A vs x->T.rep w' A' vs x
theorem gy.flat {α:Type}{T:Ty α}(e:Flat T){w w':World}{A A':Bl}{l:List Value}{xs:List α}(h:gy T w A l xs):gy T w' A' l xs:=⟨h.len,λi q=>e _ _ _ _ _ _ (h.rep i q)⟩
theorem Sl.flat {α:Type}{T:Ty α}(G:Flat T){A A':Bl}{a:Option Addr}{n c:Nat}{xs:List α}(h:Sl T w A a n c xs):Src T w A' a n xs:=by
 obtain⟨h1,H,I,e⟩:=h;refine⟨h1,?_⟩;rcases e with e|⟨b,off,q,O,M,l,D,E⟩
 ·exact .inl e
 ·exact .inr ⟨b,off,q,l,D.flat G,E⟩
theorem Src.new1F {α:Type}{T:Ty α}(q:Flat T){A:Bl}{vs:List Value}{x:α}{b:Nat}{w':World}(e:b=w.heap.size)(D:w'=w.alloc (.cells vs.toArray t))(h:T.rep w A vs x):
 Src T w' A (some ⟨b,0,none⟩) 1 [x]:=by
 subst e D;refine⟨rfl,.inr ⟨_,0,rfl,vs,gy.one (q _ _ _ _ _ _ h),λj E=>?_⟩⟩;rw[tY (heap_alloc_new w _),Nat.zero_add];simp
theorem DM {b off:Nat}{l:List Value}(h:∀j,j<l.length->w.cell? ⟨b,off+j,none⟩=l[j]?):∀j v,l[j]? =some v->w.cell? ((⟨b,off,none⟩:Addr).add j)=some v:=λj v e=>by
 rw[fu,h j (List.getElem?_eq_some_iff.1 e).1];exact e
theorem eU {α:Type}{T:Ty α}{st t ty:TypeId}{bytes:Nat}{z:Value}(M:P.underlying st=some (.slice t))(bj:TF P t T.k bytes z)(b1:0<bytes)
 {A:Bl} {a:Option Addr} {n c:Nat} {xs:List α} (cf:Ow T t w A a n c xs) (hA:∀g,eP a=some g-> ¬ A g)
 {y:Option Addr} {m cm:Nat} {ys:List α} (cj:Src T w A y m ys) (Z:(xs.length+ys.length)*bytes <=140737488355328):
 ∃(w':World) (a':Option Addr) (bc c':Nat),(Builtin.append_ #[st,st] ty #[.slice a n c,.slice y m cm]).run P w=.ok (.slice a' bc c') w'/\Ow T t w' A a' bc c' (xs++ys)/\w.grownBy w' (eP a)/\
  (∀g,eP a'=some g->eP a=some g\/w.heap.size <=g):=by
 obtain⟨i,H,I,ar,a9⟩:=bj.info;have bb:=bj.cells;have cp:=T.pos;obtain⟨cc,cn,b2,ch⟩:=cf;obtain⟨cb,an⟩:=cj;subst cc cb;have ck:xs.length+ys.length <=140737488355328:=Nat.le_trans (Nat.le_mul_of_pos_right _ b1) Z;have ag:xs.length+ys.length <=maxLen:=by unfold maxLen;omega
 have b8:∀{w'},w.grownBy w' (eP a)->KU A w w':=λD=>eD D λb b0 E=>hA b E.symm b0;rcases ch with⟨rfl,rfl,rfl⟩|⟨g,cur,Y,rfl,D,a0,b3,al⟩
 ·
  rcases an with rfl|⟨b,off,rfl,l,e,G⟩
  ·refine⟨w,none,0,0,?_,Ow.nil T t w A,⟨rfl,rfl,rfl,Nat.le_refl _,λ_ _ _=>rfl⟩,λg h=>by cases h⟩;have b4:(Builtin.firstCells i.size 0 (.slice y 0 cm)).run P w=.ok #[] w:=by
    cases y with
    |none=>rfl
    |some y=>simp[Builtin.firstCells,loadCells,loadCellsFrom]
   simp[Builtin.append_,bQ M,fx H,Builtin.lenOf,b4]
  ·by_cases bq:ys.length=0
   ·have:ys=[]:=List.eq_nil_of_length_eq_zero bq;subst this;refine⟨w,none,0,0,?_,Ow.nil T t w A,⟨rfl,rfl,rfl,Nat.le_refl _,λ_ _ _=>rfl⟩,λg h=>by cases h⟩;simp[Builtin.append_,bQ M,fx H,Builtin.lenOf,Builtin.firstCells,loadCells,loadCellsFrom]
   ·have aj:=run_append_nil (P:=P) w st ty t i z M H a9 ⟨b,off,none⟩ ys.length cm l (by rw[e.len,I]) (DM G) (by omega) (by simp at ck;omega) (by rw[ar];simp at Z;omega);refine⟨_,_,_,_,aj,?_,⟨rfl,rfl,rfl,by simp,λk q _=>heap_alloc_old w.drew _ k q⟩,λg h=>.inr (by simp[eP]at h;omega)⟩;have ad:=grownCap_ge w ys.length 0 t;have ac:grownCap w ys.length 0 t <=maxLen:=grownCap_le_maxLen w ys.length 0 t (by simp at ag;exact ag);refine⟨by simp,ad,ac,.inr ⟨_,_,(0,0),rfl,heap_alloc_new w.drew _,λi _=>by simp,?_,?_⟩⟩
    ·simp only[Array.size_append,List.size_toArray,size_zeroCells,bb,e.len,<- Nat.add_mul];congr 1;omega
    ·rw[nil_append];simp only[Array.toList_append];rw[<- e.len,List.take_left];exact e.keep ⟨by simp,λk q _=>heap_alloc_old w.drew _ k q⟩
 ·have cl:g<w.heap.size:=(Array.getElem?_eq_some_iff.1 D).1;have X:(cur.toList.take (xs.length*T.k)).length=xs.length*T.k:=al.len;obtain⟨l,e,b5⟩:∃l,gy T w A l ys/\(Builtin.firstCells i.size ys.length (.slice y ys.length cm)).run P w=.ok l.toArray w:=by
   rcases an with rfl|⟨b,off,rfl,l,e,G⟩
   ·refine⟨[],gy.nil T w A,?_⟩;cases y with
    |none=>rfl
    |some y=>simp[Builtin.firstCells,loadCells,loadCellsFrom]
   ·exact⟨l,e,run_firstCells_some (P:=P) w i.size ys.length ⟨b,off,none⟩ _ _ l (by rw[e.len,I]) (DM G)⟩
  have b9:((cur.toList.take (xs.length*T.k))++l).length=(xs.length+ys.length)*T.k:=by rw[length_append,X,e.len,Nat.add_mul]
  by_cases U:xs.length+ys.length <=c
  ·have b6:xs.length*T.k+l.length <=cur.size:=by rw[e.len,b3,<- Nat.add_mul];exact Nat.mul_le_mul_right _ U
   have a8:=gJ (P:=P) g (xs.length*T.k) t Y l 0 cur w D (by simpa using b6) a0 e.ones;simp only[Nat.add_zero]at a8;refine⟨w.setRow g (cur.toList.take (xs.length*T.k)++l++cur.toList.drop (xs.length*T.k+l.length)).toArray,some ⟨g,0,none⟩,xs.length+ys.length,c,?_,?_,fc w g _,λbk h=>.inl h⟩
   ·have bs:(⟨g,0,none⟩:Addr).add (xs.length*i.size)=⟨g,xs.length*T.k,none⟩:=by rw[fu,I,Nat.zero_add]
    simp only[Builtin.append_,Sem.run_bind,bQ M,fx H,Builtin.lenOf,Sem.run_pure,Result.andThen_ok,U,List.getElem?_toArray,List.getElem?_cons_zero,List.getElem?_cons_succ,if_true,Bool.false_eq_true,if_false,Bool.not_false,b5,bs,a8]
   ·refine⟨by simp,U,b2,.inr ⟨g,_,Y,rfl,setRow_heap w g cur _ t Y D,?_,?_,?_⟩⟩
    ·intro j b7;refine a0 j ?_;simp at b7;omega
    ·simp;omega
    ·have E:((cur.toList.take (xs.length*T.k)++l++cur.toList.drop (xs.length*T.k+l.length)).toArray).toList.take ((xs.length+ys.length)*T.k)=cur.toList.take (xs.length*T.k)++l:=by
      rw[<- b9];simp only[];exact List.take_left
     rw[E];exact(al.append e).keep (b8 (fc w g _))
  ·have holds:∀j v,(cur.toList.take (xs.length*T.k))[j]? =some v->w.cell? ((⟨g,0,none⟩:Addr).add j)=some v:=λj v V=>by
    rw[fu,Nat.zero_add,tY D];rw[List.getElem?_take]at V;split at V
    ·simpa using V
    ·cases V
   have ce:ys≠[]:=by
    intro E;subst E;simp at U;omega
   rcases an with rfl|⟨b,off,rfl,l',O,G⟩
   ·exact absurd rfl ce
   ·have aj:=run_append_grow (P:=P) w st ty t i z M H a9 ⟨g,0,none⟩ xs.length c (cur.toList.take (xs.length*T.k)) (by rw[X,I]) holds ⟨b,off,none⟩ ys.length cm l' (by rw[O.len,I]) (DM G)
     (by omega) (by omega) (growslice_fits (by omega) (by rw[ar];exact Z))
    refine⟨_,_,_,_,aj,?_,⟨rfl,rfl,rfl,by simp,λk q _=>heap_alloc_old w.drew _ k q⟩,λbk h=>.inr (by simp[eP]at h;omega)⟩;have ad:=grownCap_ge w (xs.length+ys.length) c t;have ac:grownCap w (xs.length+ys.length) c t <=maxLen:=grownCap_le_maxLen w _ c t ag;have ca:((cur.toList.take (xs.length*T.k))++l').length=(xs.length+ys.length)*T.k:=by rw[length_append,X,O.len,Nat.add_mul]
    refine⟨by simp,ad,ac,.inr ⟨_,_,(0,0),rfl,heap_alloc_new w.drew _,λi _=>by simp,?_,?_⟩⟩
    ·simp only[Array.size_append,List.size_toArray,size_zeroCells,bb,X,O.len,<- Nat.add_mul];congr 1;omega
    ·simp only[Array.toList_append];rw[<- ca,List.take_left];exact(al.append O).keep ⟨by simp,λk q _=>heap_alloc_old w.drew _ k q⟩
theorem run_storeVar_row {t u:TypeId}{e:TypeInfo}(G:P.info? t=some e){g o:Nat}(D:w.heap[g]? =some (.cells z u E))
 (q:∀i,i<z.size-> ¬ (E.1 <=i/\i<E.2)) {v:Value} (H:v.cells.size=e.size) (I:o+e.size <=z.size) (h1:∀c∈v.cells.toList,c.oneCell'=true):
 (Instr.storeAt t (.pointer (some ⟨g,o,none⟩)) v).run P w=.ok () (w.setRow g (z.toList.take o++v.cells.toList++z.toList.drop (o+v.cells.size)).toArray):=by
 show(do storeVar t (<- Instr.sureAddr (.pointer (some ⟨g,o,none⟩))) v).run P w=_;rw[Sem.run_bind,hU,Result.andThen_ok];unfold storeVar;rw[Sem.run_bind,fx G,Result.andThen_ok,if_neg (by simp[H])];have:=gJ (P:=P) g o u E v.cells.toList 0 z w D (by simp;omega) q h1;simpa using this
theorem Ow.store {α:Type}{T:Ty α}{bytes:Nat}{z:Value}(a8:TF P t T.k bytes z){A:Bl}{a:Option Addr}{n c:Nat}{xs:List α}(al:Ow T t w A a n c xs)(hA:∀g,eP a=some g-> ¬ A g)
 {i:Int} (q:i.toNat<xs.length) (ag:T.k=k) {v:Value} {x:α} (D:T.rep w A v.cells.toList x):
 ∃w',(Instr.storeAt t (.pointer (av a i k)) v).run P w=.ok () w'/\Ow T t w' A a n c (xs.set i.toNat x)/\w.grownBy w' (eP a):=by
 subst ag;obtain⟨bc,a0,U,_,_⟩:=a8.info;have V:=T.len D;have a9:=hA;obtain⟨aj,O,Z,an⟩:=al;rcases an with⟨_,_,rfl⟩|⟨g,cur,G,rfl,M,I,ac,ar⟩
 ·cases q
 ·subst aj;have H:i.toNat*T.k+T.k <=xs.length*T.k:=by
   have:=Nat.mul_le_mul_right T.k (show i.toNat+1 <=xs.length from q)
   rwa [Nat.add_mul,Nat.one_mul]at this
  have bb:xs.length*T.k <=cur.size:=by rw[ac];exact Nat.mul_le_mul_right _ O
  have X:v.cells.size=T.k:=by simpa using V
  rw[j3,Nat.zero_add];refine⟨_,run_storeVar_row a0 M I (by rw[X,U]) (by rw[U];omega) (T.one D),?_,fc w g _⟩;refine⟨by simp,O,Z,.inr ⟨g,_,G,rfl,setRow_heap w g cur _ t G M,?_,?_,?_⟩⟩
  ·intro j ad;refine I j ?_;simp at ad;omega
  ·simp;omega
  ·have h1:=(ar.set q D).keep (eD (fc w g (cur.toList.take (i.toNat*T.k)++v.cells.toList++cur.toList.drop (i.toNat*T.k+v.cells.size)).toArray) λb H e=>hA g rfl (by cases e;exact H));have e:((cur.toList.take (i.toNat*T.k)++v.cells.toList++cur.toList.drop (i.toNat*T.k+v.cells.size)).toArray).toList.take (xs.length*T.k)=
    (cur.toList.take (xs.length*T.k)).take (i.toNat*T.k)++v.cells.toList++(cur.toList.take (xs.length*T.k)).drop (i.toNat*T.k+v.cells.toList.length):=by
    simp only[];have Y:(cur.toList.take (xs.length*T.k)).take (i.toNat*T.k)=cur.toList.take (i.toNat*T.k):=by rw[take_take];congr 1;omega
    rw[Y,List.take_append,List.drop_take];have E:(cur.toList.take (i.toNat*T.k)++v.cells.toList).length=i.toNat*T.k+T.k:=by simp[X];omega
    rw[E,take_of_length_le (by rw[E];omega)];congr 2;rw[V]
   rw[e];exact h1
theorem lR {w w':World}(D:w'.os=w.os)(G:w'.tape=w.tape)(q:w'.output=w.output)(E:w.heap.size <=w'.heap.size)(e:∀k,k<w.heap.size->w'.heap[k]? =w.heap[k]?):Below w.heap.size w w':=⟨D,G,q,E,e⟩
theorem nq {α:Type}{e:α->Value}{h1:∀x,(e x).oneCell'=true}{p:α->Prop}{A:Bl}{xs:List α}(D:∀x∈xs,p x):gy (Ty.enc e h1 p) w A (xs.map e) xs:=by
 refine⟨by simp[Ty.enc],λi q=>?_⟩;have:((xs.map e).drop (i*1)).take 1=[e xs[i]]:=by
  rw[Nat.mul_one,<- List.map_drop,drop_eq_getElem_cons q];rfl
 exact⟨this,D _ (getElem_mem q)⟩
theorem j0 {α:Type}{e:α->Value}{h1:∀x,(e x).oneCell'=true}{p:α->Prop}{A:Bl} :∀{l:List Value} {xs:List α},gy (Ty.enc e h1 p) w A l xs->l=xs.map e:=by
 intro l xs h;have G:l.length=xs.length:=by have:=h.len;simpa[Ty.enc]using this
 apply List.ext_getElem (by simp[G]);intro i h1 H;have E:i<xs.length:=by omega
 have D:((l.drop (i*1)).take 1)=[e xs[i]]:=(h.rep i E).1;have q:((l.drop (i*1)).take 1)[0]? =some (e xs[i]):=by rw[D];rfl
 rw[Nat.mul_one,List.getElem?_take,if_pos (by decide),List.getElem?_drop,Nat.add_zero,List.getElem?_eq_getElem h1]at q;rw[getElem_map];exact Option.some.inj q
theorem PA {α:Type}{e:α->Value}{h1:∀x,(e x).oneCell'=true}{p:α->Prop}{A:Bl}{l:List Value}{xs:List α}(h:gy (Ty.enc e h1 p) w A l xs):∀x∈xs,p x:=λx D=>by
 obtain⟨i,q,rfl⟩:=List.getElem_of_mem D;exact(h.rep i q).2
theorem pz {s d t:TypeId}(X:P.underlying s=some .string)(I:P.underlying d=some (.slice t))(Z:P.underlying t=some (.int .u8))(w:World)(l:lU)(ad:l.length <=9223372036854775807)(A:Bl):
 ∃(w':World) (a:Option Addr) (n c:Nat),(convert s d (.string (mkS l))).run P w=.ok (.slice a n c) w'/\Ow tU8 t w' A a n c l/\Below w.heap.size w w'/\bU w.heap.size a:=by
 have E:∃cap,l.length <=cap/\cap <=maxLen/\(choose (.appendCap l.length 0 t)).run P w=.ok cap w.drew:=by
  refine⟨_,grownCap_ge w l.length 0 t,grownCap_le_maxLen w l.length 0 t (by unfold maxLen;omega),?_⟩;rw[run_choose];rfl
 obtain⟨cap,h1,D,G⟩:=E;have Y:(mkS l).size=l.length:=rfl;generalize e:(mkS l).data.map (λb=>Value.int .u8 (b.toNat:Nat))++Array.replicate (cap-l.length) (Value.int .u8 0)=cs;have H:cs.size=cap:=by rw[<- e];simp[mkS];omega
 have V:(markStringish ⟨w.heap.size,0,none⟩).run P (w.drew.alloc (.cells cs t))=.ok () ((w.drew.alloc (.cells cs t)).freeze ⟨w.heap.size,cs.size,none⟩ 1):=by
  unfold markStringish;have:(w.drew.alloc (.cells cs t)).shape? w.heap.size=some (t,cs.size):=by
   unfold World.shape?;have:=heap_alloc_new w.drew (.cells cs t);rw[show w.drew.heap.size=w.heap.size from rfl]at this;rw[this]
  simp[this]
 refine⟨(w.drew.alloc (.cells cs t)).freeze ⟨w.heap.size,cs.size,none⟩ 1,some ⟨w.heap.size,0,none⟩,l.length,cap,?_,?_,?_,λg M=>by simp[eP]at M;omega⟩
 ·simp only[convert,Sem.run_bind,bQ X,bQ I,Result.andThen_ok,bQ Z,Conv.stringToBytes,Y,G];show((newRow t _).run P w.drew).andThen _=_;rw[e];simp only[newRow,Sem.run_bind,run_newObj,Result.andThen_ok,Sem.run_pure,World.alloc_eq];rw[show w.drew.heap.size=w.heap.size from rfl,V];rfl
 ·have O:((w.drew.alloc (.cells cs t)).freeze ⟨w.heap.size,cs.size,none⟩ 1).heap[w.heap.size]? =some (.cells cs t (cs.size,cs.size+1)):=by
   have:=heap_alloc_new w.drew (.cells cs t);rw[show w.drew.heap.size=w.heap.size from rfl]at this;simp only[World.freeze,if_neg (show ¬ (1:Nat)=0 by decide),Array.getElem?_modify,if_true,this];rfl
  refine⟨rfl,h1,D,.inr ⟨_,_,_,rfl,O,λi ac=>by omega,by rw[H];exact(Nat.mul_one cap).symm,?_⟩⟩;have q:cs.toList.take (l.length*tU8.k)=l.map λc=>Value.int .u8 (c.toNat:Nat):=by
   rw[<- e];simp[mkS,tU8,Ty.enc]
  rw[q];exact nq λ_ _=>trivial
 ·refine lR rfl rfl rfl (by simp[World.freeze]) λk U=>?_;simp only[World.freeze,if_neg (show ¬ (1:Nat)=0 by decide),Array.getElem?_modify];rw[if_neg (show ¬ w.heap.size=k by omega)];exact heap_alloc_old w.drew _ k U
theorem oM {s d t:TypeId}(V:P.underlying s=some (.slice t))(U:P.underlying d=some .string)(X:P.underlying t=some (.int .u8)){A:Bl}{a:Option Addr}{n c:Nat}{xs:lU}(h:Sl tU8 w A a n c xs):
 (convert s d (.slice a n c)).run P w=.ok (.string (mkS xs)) w:=by
 have conv:(convert s d (.slice a n c)).run P w=(Conv.bytesToString (.slice a n c)).run P w:=by
  cases a<;>simp[convert,bQ V,bQ U,bQ X]
 rw[conv];obtain⟨H,_,_,q⟩:=h;have loop:∀(D:String) (l:lU) (e:lU),(do
  let r <- forIn (l.map λc=>Value.int .u8 (c.toNat:Nat)) (mkS e) λc r=>do
   let .int .u8 n:=c|stuck D
   pure (ForInStep.yield (r.push (UInt8.ofNat n.toNat)))
  pure (Value.string r):Sem Value).run P w=.ok (.string (mkS (e++l))) w:=by
  intro D l;induction l with
  |nil=>intro e;simp
  |cons x l Y=>
   intro e;have I:(mkS e).push x=mkS (e++[x]):=by simp[mkS,ByteArray.push]
   have:=Y (e++[x]);simp only[map_cons,List.forIn_cons,bind_assoc,pure_bind,Int.toNat_natCast,UInt8.ofNat_toNat,I];rw[this];simp
 cases a with
 |none=>
  have:xs=[]:=by
   rcases q with q|⟨b,off,E,_⟩
   ·exact q
   ·cases E
  subst this;simp[Conv.bytesToString];rfl
 |some p=>
  have O:(loadCells p n).run P w=.ok (xs.map λc=>Value.int .u8 (c.toNat:Nat)).toArray w:=by
   rcases q with q|⟨b,off,E,ac,Z,l,G,M⟩
   ·subst q;subst H;simp[loadCells,loadCellsFrom]
   ·cases E;have:=Ma (P:=P) M;rw[G.len]at this;rw[j0 G]at this;rw[H];simpa[tU8,Ty.enc]using this
  have key:∃D:String,(Conv.bytesToString (.slice (some p) n c)).run P w=((loadCells p n).run P w).andThen λcs w'=>(do
   let r <- forIn cs (mkS []) λc r=>do
    let .int .u8 n:=c|stuck D
    pure (ForInStep.yield (r.push (UInt8.ofNat n.toNat)))
   pure (Value.string r):Sem Value).run P w':=by
   constructor;unfold Conv.bytesToString;simp only[Sem.run_bind];rfl
  obtain⟨D,key⟩:=key;rw[key,O,Result.andThen_ok];have:=loop D xs [];rw[nil_append]at this;rw[<- this];simp only[List.forIn_toArray]
theorem wrap_i64 {n:Int}(h1: -9223372036854775808 <=n)(e:n <=9223372036854775807):i64.wrap n=n:=IntWalk.i64_in n ⟨h1,e⟩
theorem wrJ {n:Int}(h: -9223372036854775808 <=n:=by omega)(e:n <=9223372036854775807:=by omega):i64.wrap n=n:=wrap_i64 h e
theorem wrap_u8 {n:Int}(h1:0 <=n)(e:n <=255):IntKind.u8.wrap n=n:=IntWalk.u8_in n ⟨h1,e⟩
theorem pa (c:UInt8):(0:Int) <=(c.toNat:Nat)/\((c.toNat:Nat):Int) <=255:=by
 have:=c.toNat_lt;omega
theorem mi {i:Int}(h:i.toNat<s.length):be s i=((s[i.toNat]).toNat:Nat):=by
 simp[be,h]
theorem Be {a b:UInt8}(h:((a.toNat:Nat):Int)=((b.toNat:Nat):Int)):a=b:=UInt8.toNat_inj.1 (by omega)
theorem qJ {A:Bl}{n:Int}{c:UInt8}(h:n=((c.toNat:Nat):Int)):tU8.rep w A [.int .u8 n] c:=⟨by rw[h],trivial⟩
theorem Xg {A:Bl}{n:Int} :TE.rep w A [.int .i64 n] n:=⟨rfl,trivial⟩
theorem gB {A:Bl}{p:lU->Prop}(h:p s):(YM p).rep w A [.string (mkS s)] s:=⟨rfl,h⟩
theorem FY {A:Bl}{v:Value}{c:UInt8}(h:tU8.rep w A [v] c):v=.int .u8 (c.toNat:Nat):=by have:=h.1;simpa using this
theorem R7 {A:Bl}{v:Value}{n:Int}(h:TE.rep w A [v] n):v=.int .i64 n:=by have:=h.1;simpa using this
theorem iX {A:Bl}{p:lU->Prop}{v:Value}(h:(YM p).rep w A [v] s):v=.string (mkS s)/\p s:=⟨by have:=h.1;simpa using this,h.2⟩
theorem bU.app {B:Nat}{a a':Option Addr}(e:bU B a)(hB:B <=w.heap.size)(h:∀g,eP a'=some g->eP a=some g\/w.heap.size <=g):bU B a':=λg q=>by
 rcases h g q with h|h
 ·exact e g h
 ·exact Nat.le_trans hB h
theorem Jh:Flat TE:=λ_ _ _ _ _ _ h=>h
theorem r6:Flat tU8:=λ_ _ _ _ _ _ h=>h
theorem ec (p:lU->Prop):Flat (YM p):=λ_ _ _ _ _ _ h=>h
theorem Ow.newF {α:Type}{T:Ty α}(q:Flat T){w w':World}{A:Bl}{l:List Value}{xs:List α}{b:Nat}(e:b=w.heap.size)(E:w'=w.alloc (.cells l.toArray t))(h:gy T w A l xs)(D:xs.length <=maxLen):
 Ow T t w' A (some ⟨b,0,none⟩) xs.length xs.length xs:=by
 subst e E;refine⟨rfl,Nat.le_refl _,D,.inr ⟨_,l.toArray,(0,0),rfl,heap_alloc_new w _,?_,by simpa using h.len,?_⟩⟩
 ·intro i G;simp
 ·rw[<- h.len];simp;exact h.flat q
theorem jB {b:Nat}(q:b=w.heap.size):bU w.heap.size (some ⟨b,0,none⟩):=λg e=>by simp[eP]at e;omega
def T6 {α:Type}(P:Program)(T:Ty α)(t:TypeId):Prop:=
 ∀(H:Type) (enc:TypeId×Value->H) (w:World) (fuel:Nat) (cs:List Value) (x:DataW H×List MemPlace),DataW.trod enc P w 0 (λ_=>true) true fuel t cs=some x->∃a,T.rep w Ds cs a
theorem mN {k:IntKind}(q:P.underlying t=some (.int k)):T6 P (Zv k λn=>(Lit.int k n).wf=true) t:=λE enc w fuel cs x h=>by
 obtain⟨n,e,_,D⟩:=DataW.trod_int q h;exact⟨n,e,D⟩
theorem Ip (q:P.underlying t=some .bool):T6 P Zu t:=λD enc w fuel cs x h=>by
 obtain⟨b,e,_⟩:=DataW.trod_bool q h;exact⟨b,e,trivial⟩
theorem sp (D:P.underlying t=some .string):T6 P (YM λs=>s.length <=maxLen) t:=λE enc w fuel cs x h=>by
 obtain⟨s,e,_,q⟩:=DataW.trod_string D h;exact⟨toL s,e,q⟩
theorem SX {α:Type}{T:Ty α}{t e:TypeId}(X:P.underlying t=some (.array n e))(I:T6 P T e)(U:P.cellsOf e=T.k)(H:P.cellsOf t=n*T.k)
 {enc:TypeId×Value->o} {fuel:Nat} {cs:List Value} {x:DataW o×List MemPlace} (h:DataW.trod enc P w 0 (λ_=>true) true fuel t cs=some x):∃xs:List α,xs.length=n/\gy T w Ds cs xs:=by
 obtain⟨ys,m,_,_,V,Z,M⟩:=DataW.trod_array X h;have G:∀i,i<n->∃a,T.rep w Ds ((cs.drop (i*T.k)).take T.k) a:=λi D=>by
  have:=M i D;rw[U,List.getElem?_eq_getElem (by omega)]at this;exact I o enc w m _ _ this
 have build:∀j,j <=n->∃xs:List α,xs.length=j/\∀i (h:i<xs.length),T.rep w Ds ((cs.drop (i*T.k)).take T.k) xs[i]:=by
  intro j;induction j with
  |zero=>intro _;exact⟨[],rfl,λi h=>by cases h⟩
  |succ j Y=>
   intro O;obtain⟨xs,h1,q⟩:=Y (by omega);obtain⟨a,E⟩:=G j O;refine⟨xs++[a],by simp[h1],λi D=>?_⟩;by_cases c:i<xs.length
   ·rw[List.getElem_append_left c];exact q i c
   ·have:i=xs.length:=by simp at D;omega
    subst this;rw[List.getElem_append_right (Nat.le_refl _)];simp only[Nat.sub_self,List.getElem_cons_zero];rw[h1];exact E
 obtain⟨xs,h1,q⟩:=build n (Nat.le_refl _);exact⟨xs,h1,by rw[V,H,h1],q⟩
theorem zK {enc:TypeId×Value->o}{C:Checked}{H:Os}{f:FuncId}{D:Func}{s:OpenSpec}{q:List PathCond}{G:List (String×DataW Unit)}(modest:Bool)(w0:World)(args:Array Value)(I:w0.os=H)
 (O:(w0.forCall (λ_ _=>0) ⟨#[],args,[]⟩).Shaped C.prog)
 (E:Input.okWideB C.prog (w0.forCall (λ_ _=>0) ⟨#[],args,[]⟩) f ⟨#[],args,[]⟩=true)
 (M:s.preRow enc C.prog D q y G (w0.forCall (λ_ _=>0) ⟨#[],args,[]⟩).memory args):
 ∃(w:World) (e:Tape) (i:Input),w.os=H/\(w.forCall e i).Shaped C.prog/\i.vars=[]/\Input.okWide C.prog (w.forCall e i) .any w.heap.size f i/\
  s.preRow enc C.prog D q y G (w.forCall e i).memory i.args/\({ modest:=modest } :Assume).holds C.prog (lone (Frame.enter C.prog f i.args .normal) [] (w.forCall e i)):=
 ⟨w0,λ_ _=>0,⟨#[],args,[]⟩,I,O,(Input.okWide_of_okWideB (base:=0) E).1,(Input.okWide_of_okWideB E).2,M,by
  simp only[Assume.holds];exact⟨by simp,by simp,λ_=>Modest.zero,by simp,by simp⟩⟩
def B0 (n:Nat):UInt8:=if n<10 then UInt8.ofNat (48+n)else UInt8.ofNat (55+n)
def zL (c:UInt8):lU:=if 33 <=c.toNat/\c.toNat <=126/\c≠37 then[c]else[37,B0 (c.toNat/16),B0 (c.toNat%16)]
def jQ:lU->lU
 |[]=>[]
 |c::s=>zL c++jQ s
def CW (s:lU):lU:=if s=[]then[37]else jQ s
theorem BR:∀s t:lU,jQ (s++t)=jQ s++jQ t
 |[],_=>rfl
 |c::s,t=>by rw[cons_append,jQ,jQ,BR s t,append_assoc]
theorem IF (s:lU)(c:UInt8):jQ (s++[c])=jQ s++zL c:=by
 rw[BR,jQ,jQ,append_nil]
theorem TV (c:UInt8):1 <=(zL c).length/\(zL c).length <=3:=by
 unfold zL;split<;>simp
theorem tU:∀s:lU,s.length <=(jQ s).length/\(jQ s).length <=3*s.length
 |[]=>⟨Nat.le_refl _,Nat.le_refl _⟩
 |c::s=>by
  have h1:=TV c;have e:=tU s;rw[jQ,length_append,length_cons];omega
theorem Q1 {p:UInt8->Prop}(h:∀n,n<256->p (UInt8.ofNat n))(c:UInt8):p c:=by
 have:=h c.toNat c.toNat_lt
 rwa [UInt8.ofNat_toNat]at this
theorem RX:∀n,n<16->B0 n≠37:=by decide
theorem QB (c:UInt8):∃l x,zL c=l++[x]/\x≠37:=by
 unfold zL;split
 ·rename_i h;exact⟨[],c,rfl,h.2.2⟩
 ·exact⟨[37,B0 (c.toNat/16)],B0 (c.toNat%16),rfl,RX _ (Nat.mod_lt _ (by decide))⟩
theorem IE:∀s:lU,s≠[]->∃l x,jQ s=l++[x]/\x≠37
 |[c],_=>by obtain⟨l,x,h,e⟩:=QB c;exact⟨l,x,by rw[jQ,jQ,append_nil,h],e⟩
 |c::d::s,_=>by
  obtain⟨l,x,h,e⟩:=IE (d::s) (by simp);exact⟨zL c++l,x,by rw[jQ,h,append_assoc],e⟩
def Ef (c:UInt8):Nat:=if 48 <=c.toNat/\c.toNat <=57 then c.toNat-48 else if 65 <=c.toNat/\c.toNat <=70 then c.toNat-55 else 255
theorem Ih:∀n,n<16->Ef (B0 n)=n:=by decide
def Sg (a b:Nat):UInt8:=UInt8.ofNat ((a*16%256) ||| (b%16))
theorem UN:∀n,n<256->Sg (n/16) (n%16)=UInt8.ofNat n:=by decide+kernel
def unD:lU->Option lU
 |[]=>some []
 |c::r=>if c=37 then match r with
  |a::b::r=>(unD r).map λt=>Sg (Ef a) (Ef b)::t
  |_=>none
  else(unD r).map λt=>c::t
theorem Vo (c:UInt8)(r:lU):unD (zL c++r)=(unD r).map λt=>c::t:=by
 unfold zL;split
 ·rename_i h;show unD (c::r)=_;rw[unD.eq_def];show(if c=37 then _ else _)=_;rw[if_neg h.2.2]
 ·show unD (37::B0 (c.toNat/16)::B0 (c.toNat%16)::r)=_;rw[unD,if_pos rfl];have e:=c.toNat_lt;rw[Ih _ (by omega),Ih _ (Nat.mod_lt _ (by decide)),UN _ e,UInt8.ofNat_toNat]
theorem ME:∀s:lU,unD (jQ s)=some s
 |[]=>by rw[jQ,unD]
 |c::s=>by rw[jQ,Vo,ME s];rfl
def BV (s:lU):lU:=if s.getLast?=some 37 then s.dropLast else s
def unP (s:lU):Option lU:=(unD (BV s)).filter λt=>CW t==s
theorem XC (s t:lU):unP s=some t↔CW t=s:=by
 unfold unP;rw[Option.filter_eq_some_iff];refine⟨λh=>eq_of_beq h.2,λh=>⟨?_,by rw[h];exact beq_self_eq_true s⟩⟩;subst h;unfold CW;split
 ·rename_i h;subst h;rfl
 ·rename_i h;obtain⟨l,x,e,q⟩:=IE t h;have:BV (jQ t)=jQ t:=by
   unfold BV;rw[if_neg (by rw[e,List.getLast?_concat];simpa using q)]
  rw[this,ME]
def au (w:World)(k:Nat)(t:TypeId)(vs:List Value):Prop:=w.heap[k]? =some (.cells vs.toArray t (0,0))
theorem au.new {w w':World}{vs:List Value}(e:k=w.heap.size)(q:w'=w.alloc (.cells vs.toArray t)):au w' k t vs:=by
 subst e q;exact heap_alloc_new w _
theorem au.lt {vs:List Value}(h:au w k t vs):k<w.heap.size:=(Array.getElem?_eq_some_iff.1 (show w.heap[k]? =_ from h)).1
theorem au.block {w w':World}{vs:List Value}(h:au w k t vs)(e:w'.heap[k]? =w.heap[k]?):au w' k t vs:=e.trans h
theorem au.below {w w':World}{vs:List Value}(h:au w k t vs)(e:Below w.heap.size w w'):au w' k t vs:=h.block (e.block k h.lt)
theorem au.grown {w w':World}{vs:List Value}{row:Option Nat}(h:au w k t vs)(e:w.grownBy w' row)(q:some k≠row):au w' k t vs:=h.block (e.block k h.lt q)
theorem au.cell {vs:List Value}(h:au w k t vs)(i:Nat):w.cell? ⟨k,i,none⟩=vs[i]? :=by rw[tY h];simp
theorem au.load1 {u:TypeId}{d:TypeDesc}(q:P.underlying u=some d)(e:CX d=false){vs:List Value}(h:au w k t vs){v:Value}(D:vs[i]? =some v):
 (Instr.loadAt u (.pointer (some ⟨k,i,none⟩))).run P w=.ok v w:=mK q e (by rw[h.cell];exact D)
theorem au.loadA {u:TypeId}{d:TypeDesc}{e:TypeInfo}(H:P.underlying u=some d)(q:CX d=true)(D:P.info? u=some e){vs us:List Value}(h:au w k t vs)(G:us.length=e.size)
 (I:∀j,j<us.length->vs[i+j]? =us[j]?):(Instr.loadAt u (.pointer (some ⟨k,i,none⟩))).run P w=.ok (.agg us.toArray) w:=
 Es H q D G λj E=>by rw[h.cell];exact I j E
theorem au.res {u:TypeId}{p:Addr}{w w':World}{v:Value}(h:(Instr.loadAt u (.pointer (some p))).run P w=.ok v w'):(aS u (.pointer (some p))).run P w=.ok v w':=h
theorem au.store {u:TypeId}{bytes n:Nat}{z:Value}(G:TF P u n bytes z){vs:List Value}(h:au w k t vs){v:Value}(e:v.cells.size=n)(D:i+n <=vs.length)(h1:∀c∈v.cells.toList,c.oneCell'=true):
 ∃w',(Instr.storeAt u (.pointer (some ⟨k,i,none⟩)) v).run P w=.ok () w'/\au w' k t (vs.take i++v.cells.toList++vs.drop (i+n))/\w.grownBy w' (some k):=by
 obtain⟨H,E,q,_,_⟩:=G.info;refine⟨_,run_storeVar_row E (o:=i) h (λi _=>by simp) (by rw[e,q]) (by rw[q];simpa using D) h1,?_,fc w k _⟩;have:=setRow_heap w k vs.toArray (vs.take i++v.cells.toList++vs.drop (i+n)).toArray t (0,0) h;rw[<- e]at this ⊢;exact this
theorem gS {R:Bool->World->Prop}{B:(Bool->World->Prop)->Prop}(f:Bool)(hB:B (λb w'=>w'=w/\b=f))(h:R f w):
 ∃J:FP [.one (.bool)],B J/\∀b:Bool,aQ n (∀e:World,J b e->R b e):=by
 refine⟨λb w'=>w'=w/\b=f,hB,λb=>aQ.of ?_ _⟩;rintro e ⟨rfl,rfl⟩;exact h
theorem UL {k:IntKind}{R:Int->World->Prop}{B:(Int->World->Prop)->Prop}(f:Int)(hB:B (λb w'=>w'=w/\b=f))(h:R f w):
 ∃J:FP [.one (.int k)],B J/\∀b:Int,aQ n (∀e:World,J b e->R b e):=by
 refine⟨λb w'=>w'=w/\b=f,hB,λb=>aQ.of ?_ _⟩;rintro e ⟨rfl,rfl⟩;exact h
theorem NZ {R:lU->World->Prop}{B:(lU->World->Prop)->Prop}(f:lU)(hB:B (λb w'=>w'=w/\b=f))(h:R f w):
 ∃J:FP [.one (.str)],B J/\∀b:lU,aQ n (∀e:World,J b e->R b e):=by
 refine⟨λb w'=>w'=w/\b=f,hB,λb=>aQ.of ?_ _⟩;rintro e ⟨rfl,rfl⟩;exact h
theorem jA {R:World->Prop}{B:(World->Prop)->Prop}(Q:Prop)(hB:B (λw'=>w'=w/\Q))(h:Q->R w):
 ∃J:FP [],B J/\aQ n (∀e:World,J e->R e):=by
 refine⟨λw'=>w'=w/\Q,hB,aQ.of ?_ _⟩;rintro e ⟨rfl,q⟩;exact h q
theorem eC {R:World->Prop}{B:(World->Prop)->Prop}(Q:World->Prop)(hB:B Q)(h:∀w,Q w->R w):
 ∃J:FP [],B J/\aQ n (∀e:World,J e->R e):=⟨Q,hB,aQ.of h _⟩
theorem rv {R:Bool->World->Prop}{B:(Bool->World->Prop)->Prop}(Q:Bool->World->Prop)(hB:B Q)(h:∀b w,Q b w->R b w):
 ∃J:FP [.one (.bool)],B J/\∀b:Bool,aQ n (∀e:World,J b e->R b e):=⟨Q,hB,λb=>aQ.of (h b) _⟩
theorem X6 {c x:Bool}{R:Bool->World->Prop}(h:R (c&&x) w):∃J:FP [.one (.bool)],af c (J x w) (J false w)/\∀b:Bool,aQ n (∀e:World,J b e->R b e):=
 gS (B:=λJ=>af c (J x w) (J false w)) (c&&x) (af.of (λh=>⟨rfl,by rw[h];rfl⟩) (λh=>⟨rfl,by rw[h];rfl⟩)) h
theorem orJ {c x:Bool}{R:Bool->World->Prop}(h:R (c || x) w):∃J:FP [.one (.bool)],af c (J true w) (J x w)/\∀b:Bool,aQ n (∀e:World,J b e->R b e):=
 gS (B:=λJ=>af c (J true w) (J x w)) (c || x) (af.of (λh=>⟨rfl,by rw[h];rfl⟩) (λh=>⟨rfl,by rw[h];rfl⟩)) h
theorem X5 {c d x:Bool}{R:Bool->World->Prop}(h:R (c&&(d&&x)) w):∃J:FP [.one (.bool)],af c (af d (J x w) (J false w)) (J false w)/\∀b:Bool,aQ n (∀q:World,J b q->R b q):=
 gS (B:=λJ=>af c (af d (J x w) (J false w)) (J false w)) (c&&(d&&x)) (af.of (λh=>af.of (λe=>⟨rfl,by rw[h,e];rfl⟩) (λe=>⟨rfl,by rw[h,e];rfl⟩)) (λh=>⟨rfl,by rw[h];rfl⟩)) h
theorem Ch {α:Type}{T:Ty α}(U:Flat T){st t ty:TypeId}{bytes:Nat}{z:Value}(al:P.underlying st=some (.slice t))(a0:TF P t T.k bytes z)(M:0<bytes)
 {w0 w w1:World} {a:Option Addr} {n c:Nat} {xs:List α} (Z:Ow T t w NoB a n c xs) (E:bU w0.heap.size a) (D:Below w0.heap.size w0 w) {e:Nat} {vs:List Value} {x:α} (Y:e=w.heap.size)
 (G:w1=w.alloc (.cells vs.toArray t)) (an:T.rep w NoB vs x) {cm:Nat} (O:(xs.length+1)*bytes <=140737488355328):
 ∃(w2:World) (a':Option Addr) (H c':Nat),(Builtin.append_ #[st,st] ty #[.slice a n c,.slice (some ⟨e,0,none⟩) 1 cm]).run P w1=.ok (.slice a' H c') w2/\Ow T t w2 NoB a' H c' (xs++[x])/\bU w0.heap.size a'/\Below w0.heap.size w0 w2:=by
 have q:Below w.heap.size w w1:=G▸ao w _;have ac:=Z.below q;have aj:Src T w1 NoB (some ⟨e,0,none⟩) 1 [x]:=Src.new1F U Y G an;obtain⟨a8,a4,ar,I,ag,ad,X,V⟩:=eU (ty:=ty) al a0 M ac (λ_ _ h=>h) (cm:=cm) aj (by simpa using O);have hB:=ae D q D.size;exact⟨a8,a4,ar,I,ag,ad,E.app hB.size V,hB.grown X hB.size E⟩
theorem fF {f:FuncId}{v:Value}(h:Calls P f z u (Ret λE w'=>E=v/\Below u.heap.size u w'))(D:Below w.heap.size w u):
 Calls P f z u λe w'=>e=.returned v/\Below w.heap.size u w':=by
 refine h.mono ?_;rintro _ w' ⟨_,rfl,rfl,q⟩;exact⟨rfl,q.mono D.size⟩
theorem fits {a b:Nat}(h:a+b <=9223372036854775807):((a+b:Nat):Int) <=i64.max:=by simp[IntKind.max,IntKind.bits];omega
theorem yN {t b:Int}(e:0<b):(0 <=t->Int.tdiv t b=t/b/\Int.tmod t b=t%b)/\(t<0->Int.tdiv t b= -((-t)/b)/\Int.tmod t b= -((-t)%b)):=by
 refine⟨λh=>⟨Int.tdiv_eq_ediv_of_nonneg h,Int.tmod_eq_emod_of_nonneg h⟩,λh=>?_⟩;obtain⟨u,rfl⟩:∃u,t= -u:=⟨-t,by omega⟩
 rw[Int.neg_tdiv,Int.neg_tmod,Int.neg_neg,Int.tdiv_eq_ediv_of_nonneg (by omega),Int.tmod_eq_emod_of_nonneg (by omega)];exact⟨rfl,rfl⟩
theorem sP {α:Type}(p:α->Bool):∀(s:List α) (k:Nat) (e:k<s.length),k <=(s.takeWhile p).length->(p s[k]=true↔k<(s.takeWhile p).length)
 |[],k,e,_=>by cases e
 |c::s,0,e,_=>by
  rw[List.takeWhile_cons];simp only[List.getElem_cons_zero];cases h:p c<;>simp
 |c::s,k+1,e,h=>by
  rw[List.takeWhile_cons]at h ⊢;cases q:p c with
  |false=>rw[q]at h;simp at h
  |true=>
   rw[q]at h;simp only[if_true,length_cons]at h ⊢;have:=sP p s k (by simpa using e) (by omega);simp only[List.getElem_cons_succ];rw[this];omega
theorem dF {α:Type}(p:α->Bool)(s:List α):(s.takeWhile p).length <=s.length:=(List.takeWhile_sublist p).length_le
def bR (c:UInt8):lU->lU->List lU
 |cur,[]=>[cur]
 |cur,x::r=>if x=c then cur::bR c [] r else bR c (cur++[x]) r
theorem I7 (c:UInt8):∀(a cur r:lU),(∀x∈a,x≠c)->bR c cur (a++c::r)=(cur++a)::bR c [] r
 |[],cur,r,_=>by
  show(if c=c then _ else _)=_;rw[if_pos rfl,append_nil]
 |x::a,cur,r,e=>by
  show(if x=c then _ else _)=_;rw[if_neg (e x mem_cons_self)];exact(I7 c a (cur++[x]) r λy q=>e y (mem_cons_of_mem _ q)).trans (by simp)
theorem DR (c:UInt8):∀(a cur:lU),(∀x∈a,x≠c)->bR c cur a=[cur++a]
 |[],cur,_=>by simp[bR]
 |x::a,cur,e=>by
  show(if x=c then _ else _)=_;rw[if_neg (e x mem_cons_self)];exact(DR c a (cur++[x]) λy q=>e y (mem_cons_of_mem _ q)).trans (by simp)
theorem Wz (c:UInt8)(s cur:lU)(k:Nat)(h:k<s.length):bR c cur (s.drop k)=if s[k]=c then cur::bR c [] (s.drop (k+1))else bR c (cur++[s[k]]) (s.drop (k+1)):=by
 rw[drop_eq_getElem_cons h];rfl
theorem gT (c:UInt8):∀(s cur:lU),bR c cur s≠[]
 |[],cur=>by simp[bR]
 |x::s,cur=>by
  show(if x=c then _ else _)≠_;split
  ·simp
  ·exact gT c s _
theorem ia (c:UInt8):∀(s cur x:lU),x∈bR c cur s->x.length <=cur.length+s.length
 |[],cur,x,h=>by simp[bR]at h;subst h;simp
 |y::r,cur,x,h=>by
  unfold bR at h;split at h
  ·rcases List.mem_cons.1 h with rfl|h
   ·simp
   ·have:=ia c r [] x h;simp at this ⊢;omega
  ·have:=ia c r _ x h;simp at this ⊢;omega
theorem dJ (c:UInt8):∀(s cur:lU),(bR c cur s).length <=s.length+1
 |[],cur=>by simp[bR]
 |y::r,cur=>by
  unfold bR;split
  ·have:=dJ c r [];simp;omega
  ·have:=dJ c r (cur++[y]);simp;omega
theorem I6 (c:UInt8):∀(s cur x:lU),x∈bR c cur s->(∀y∈cur,y≠c)->∀y∈x,(y∈cur\/y∈s)/\y≠c
 |[],cur,x,h,q,y,e=>by simp[bR]at h;subst h;exact⟨.inl e,q y e⟩
 |z::r,cur,x,h,q,y,e=>by
  unfold bR at h;split at h
  ·rcases List.mem_cons.1 h with rfl|h
   ·exact⟨.inl e,q y e⟩
   ·have:=I6 c r [] x h (λ_ h=>by cases h) y e;refine⟨.inr (mem_cons_of_mem _ ?_),this.2⟩;rcases this.1 with h|h
    ·cases h
    ·exact h
  ·rename_i D;have:=I6 c r (cur++[z]) x h (λy e=>by
    rcases List.mem_append.1 e with h|h
    ·exact q y h
    ·simp at h;subst h;exact D) y e
   refine⟨?_,this.2⟩;rcases this.1 with h|h
   ·rcases List.mem_append.1 h with h|h
    ·exact .inl h
    ·simp at h;subst h;exact .inr mem_cons_self
   ·exact .inr (mem_cons_of_mem _ h)
theorem ff (c:UInt8):∀(s cur r:lU),bR c cur (s++c::r)=bR c cur s++bR c [] r
 |[],cur,r=>by
  show(if c=c then _ else _)=_;rw[if_pos rfl];rfl
 |x::s,cur,r=>by
  show(if x=c then cur::bR c [] (s++c::r)else bR c (cur++[x]) (s++c::r))=(if x=c then cur::bR c [] s else bR c (cur++[x]) s)++bR c [] r;split
  ·rw[ff c s];rfl
  ·rw[ff c s]
theorem Ii (s:lU)(c:UInt8):(Lib.index s [c]= -1/\∀x∈s,x≠c)\/∃i:Nat,Lib.index s [c]=(i:Int)/\∃h:i<s.length,s=s.take i++c::s.drop (i+1)/\∀x∈s.take i,x≠c:=by
 induction s with
 |nil=>exact .inl ⟨rfl,λx h=>by cases h⟩
 |cons b l I=>
  by_cases h:b=c
  ·subst h;refine .inr ⟨0,by rw[Lib.index];simp[List.isPrefixOf],by simp,rfl,λx h=>by simp at h⟩
  ·have H:([c]:lU).isPrefixOf (b::l)=false:=by simp[List.isPrefixOf,Ne.symm h]
   have D:Lib.index (b::l) [c]=if Lib.index l [c]== -1 then -1 else Lib.index l [c]+1:=by rw[Lib.index,H];simp
   rcases I with⟨h1,q⟩|⟨i,h1,q,E,G⟩
   ·refine .inl ⟨by rw[D,h1];rfl,λx e=>?_⟩;rcases List.mem_cons.1 e with rfl|e
    ·exact h
    ·exact q x e
   ·refine .inr ⟨i+1,?_,by simpa using q,?_,λx e=>?_⟩
    ·rw[D,h1,if_neg (by rw[beq_iff_eq];omega)];omega
    ·simp only[List.take_succ_cons,List.drop_succ_cons,cons_append];rw[<- E]
    ·rw[List.take_succ_cons]at e;rcases List.mem_cons.1 e with rfl|e
     ·exact h
     ·exact G x e
theorem FI (c:UInt8):∀(n:Nat) (s:lU),s.length <=n->Lib.splitK [c] 0 (Lib.count s [c]) s=bR c [] s
 |n,s,H=>by
  rcases Ii s c with⟨h1,e⟩|⟨i,h1,e,q,D⟩
  ·rw[Lib.count_miss h1,DR c s [] e];rfl
  ·have E:=Lib.count_hit (s:=s) (sub:=[c]) (by simp) h1;cases n with
   |zero=>omega
   |succ n=>
    have G:=FI c n (s.drop (i+1)) (by rw[length_drop];omega);rw[E,Nat.add_comm 1];unfold Lib.splitK;rw[if_neg (by rw[h1,beq_iff_eq];omega),h1];simp only[Int.toNat_natCast,Nat.add_zero,length_cons,length_nil,Nat.zero_add];rw[G]
    conv=>rhs;rw[q,I7 c _ _ _ D]
    simp
theorem FJ (s:lU)(c:UInt8):(Lib.splitB (mkS [c]) 0 (Lib.countB (mkS s) (mkS [c])) (mkS s)).map Value.string=(bR c [] s).map λx=>Value.string (mkS x):=by
 have h:=Lib.splitB_data (mkS [c]) 0 (Lib.countB (mkS s) (mkS [c])) (mkS s);have e:Lib.splitK (mkS [c]).data.toList 0 (Lib.countB (mkS s) (mkS [c])) (mkS s).data.toList=bR c [] s:=FI c _ s (Nat.le_refl _);rw[e]at h;rw[<- h,List.map_map];rfl
theorem NX (s:lU)(c:UInt8):Lib.countB (mkS s) (mkS [c])+1=(bR c [] s).length:=by
 have h:=FJ s c;have e:=congrArg length h;rw[length_map,length_map,Lib.splitB_all (mkS [c]) (Nat.le_refl 1) 0 _ _ rfl]at e;exact e
theorem Up (s:lU)(c:UInt8):Lib.cut s [c]=if c∈s then(s.takeWhile (· !=c),(s.dropWhile (· !=c)).drop 1,true)else(s,[],false):=by
 unfold Lib.cut;rcases Ii s c with⟨h1,D⟩|⟨i,h1,D,e,E⟩
 ·rw[h1,if_neg (by omega),if_neg (λh=>D c h rfl)]
 ·have H:c∈s:=by rw[e];simp
  rw[h1,if_pos (by omega),if_pos H];have I:s.takeWhile (· !=c)=s.take i:=by
   conv=>lhs;rw[e]
   rw[List.takeWhile_append_of_pos (by intro a q;simpa using E a q)];simp
  have G:s.dropWhile (· !=c)=c::s.drop (i+1):=by
   conv=>lhs;rw[e]
   rw[List.dropWhile_append_of_pos (by intro a q;simpa using E a q)];simp
  rw[I,G];rfl
def BW (x:lU):lU:=if x.getLast?=some 13 then x.dropLast else x
def A0 (s:lU):List lU:=((if(bR 10 [] s).getLast?=some []then(bR 10 [] s).dropLast else bR 10 [] s)).map BW
theorem Ig {α:Type}{l:List α}{x:α}(h:0<l.length)(e:l[l.length-1]'(by omega)=x):l.getLast?=some x:=by
 rw[List.getLast?_eq_getElem?,List.getElem?_eq_getElem (by omega),e]
theorem Uo (x:lU):(BW x).length <=x.length:=by unfold BW;split<;>simp
abbrev nw:Nat:=4
abbrev iR:Nat:=8
abbrev oB:Nat:=9
abbrev pQ:Nat:=12
abbrev nC:Nat:=13
abbrev nI:Nat:=14
abbrev nK:Nat:=15
abbrev wS:Nat:=16
abbrev oD:Nat:=18
abbrev pU:Nat:=19
abbrev mE:Nat:=20
abbrev Ea:Nat:=23
abbrev fX:Nat:=24
abbrev pN:Nat:=25
abbrev ny:Nat:=26
abbrev pL:Nat:=27
abbrev oa:Nat:=28
abbrev mz:Nat:=29
abbrev wT:Nat:=30
abbrev wU:Nat:=31
abbrev jz:Nat:=32
abbrev z7:Nat:=33
abbrev rK:Nat:=34
abbrev eH:Nat:=35
abbrev dq:Nat:=37
abbrev mG:Nat:=41
abbrev fM:Nat:=42
abbrev oU:Nat:=43
abbrev dN:Nat:=44
abbrev li:Nat:=45
abbrev gE:Nat:=46
abbrev pV:Nat:=47
abbrev dD:Nat:=48
abbrev eX:Nat:=49
abbrev jx:Nat:=53
abbrev kJ:Nat:=54
abbrev ot:Nat:=55
abbrev qk:Nat:=58
abbrev kw:Nat:=59
abbrev ki:Nat:=60
abbrev nv:Nat:=61
abbrev jw:Nat:=62
abbrev om:Nat:=63
abbrev j8:Nat:=64
abbrev fw:Nat:=65
abbrev pO:Nat:=66
abbrev cG:Nat:=67
abbrev j6:Nat:=68
abbrev cw:Nat:=69
abbrev pT:Nat:=70
abbrev dU:Nat:=71
abbrev iL:Nat:=72
abbrev pR:Nat:=73
abbrev j9:Nat:=74
abbrev zY:Nat:=75
abbrev ja:Nat:=76
abbrev eJ:Nat:=77
abbrev eY:Nat:=78
abbrev qi:Nat:=79
abbrev gV:Nat:=80
abbrev cI:Nat:=81
abbrev qj:Nat:=82
abbrev wR:Nat:=83
abbrev wQ:Nat:=84
abbrev rX:Nat:=85
abbrev lJ:Nat:=86
abbrev dE:Nat:=90
abbrev my:Nat:=91
abbrev bZ:Nat:=92
abbrev eI:Nat:=93
abbrev Eb:Nat:=94
abbrev fC:Nat:=96
abbrev je:Nat:=97
abbrev jd:Nat:=98
abbrev ig:Nat:=99
abbrev dK:Nat:=100
abbrev fV:Nat:=101
abbrev rM:Nat:=103
abbrev lO:Nat:=104
abbrev z6:Nat:=106
abbrev gu:Nat:=107
abbrev zZ:Nat:=108
abbrev qa:Nat:=109
abbrev pW:Nat:=110
abbrev pX:Nat:=111
abbrev fW:Nat:=112
abbrev kW:Nat:=114
abbrev lG:Nat:=115
abbrev jv:Nat:=116
abbrev ep:Nat:=117
abbrev pG:Nat:=118
abbrev nY:Nat:=119
abbrev nW:Nat:=120
abbrev mA:Nat:=121
abbrev mv:Nat:=122
abbrev cC:Nat:=123
abbrev bH:Nat:=124
abbrev gq:Nat:=125
abbrev iZ:Nat:=126
abbrev iT:Nat:=127
abbrev jg:Nat:=128
abbrev dZ:Nat:=129
abbrev iS:Nat:=130
abbrev iy:Nat:=131
abbrev j7:Nat:=132
abbrev fi:Nat:=133
abbrev bv:Nat:=134
abbrev dv:Nat:=135
abbrev ix:Nat:=136
abbrev gW:Nat:=137
abbrev oS:Nat:=138
abbrev oE:Nat:=141
abbrev cN:Nat:=147
abbrev wV:Nat:=148
abbrev DZ:Nat:=149
abbrev iE:Nat:=150
abbrev iF:Nat:=151
abbrev DY:Nat:=152
abbrev db:Nat:=153
abbrev du:Nat:=154
abbrev rJ:Nat:=155
abbrev lQ:Nat:=156
abbrev rU:Nat:=157
abbrev qg:Nat:=158
abbrev kY:Nat:=159
abbrev rY:Nat:=160
abbrev wO:Nat:=161
abbrev ku:Nat:=162
abbrev qh:Nat:=163
abbrev kv:Nat:=164
abbrev nH:Nat:=165
abbrev rV:Nat:=166
abbrev rW:Nat:=167
abbrev wP:Nat:=168
abbrev wZ:Nat:=171
abbrev rA:Nat:=172
abbrev rB:Nat:=173
abbrev lH:Nat:=174
abbrev aH:Nat:=177
abbrev wW:Nat:=178
abbrev oq:Nat:=179
abbrev gr:Nat:=180
abbrev lM:Nat:=181
abbrev cV:Nat:=182
abbrev lK:Nat:=183
abbrev gY:Nat:=184
abbrev xT:Nat:=185
abbrev pI:Nat:=186
abbrev rI:Nat:=187
abbrev uz:Nat:=188
abbrev iD:Nat:=189
abbrev kI:Nat:=190
abbrev nZ:Nat:=191
abbrev dh:Nat:=192
abbrev nV:Nat:=193
abbrev ql:Nat:=194
abbrev kG:Nat:=195
abbrev mF:Nat:=196
abbrev iQ:Nat:=197
abbrev eZ:Nat:=198
abbrev dA:Nat:=199
abbrev cB:Nat:=200
abbrev bL:Nat:=201
abbrev bT:Nat:=202
abbrev eK:Nat:=219
abbrev ug:Nat:=225
abbrev wK:Nat:=226
abbrev fp:Nat:=227
abbrev fB:Nat:=228
abbrev dR:Nat:=229
abbrev pK:Nat:=230
abbrev cJ:Nat:=231
abbrev bS:Nat:=232
abbrev mB:Nat:=233
abbrev jb:Nat:=234
abbrev oz:Nat:=235
abbrev wM:Nat:=236
abbrev rS:Nat:=237
abbrev ov:Nat:=238
abbrev ez:Nat:=239
abbrev mD:Nat:=240
abbrev oA:Nat:=241
abbrev nG:Nat:=242
abbrev rP:Nat:=243
abbrev oT:Nat:=244
abbrev qf:Nat:=245
abbrev qe:Nat:=246
abbrev pF:Nat:=248
abbrev rD:Nat:=249
abbrev iC:Nat:=250
abbrev oR:Nat:=251
abbrev lI:Nat:=252
abbrev j5:Nat:=253
abbrev ej:Nat:=254
abbrev qm:Nat:=258
abbrev wY:Nat:=259
abbrev nB:Nat:=260
abbrev pY:Nat:=261
abbrev pZ:Nat:=262
abbrev rH:Nat:=264
abbrev jt:Nat:=265
abbrev mw:Nat:=266
abbrev nJ:Nat:=267
abbrev kX:Nat:=269
abbrev rC:Nat:=280
abbrev gF:Nat:=281
abbrev ic:Nat:=282
abbrev qd:Nat:=283
abbrev kl:Nat:=284
abbrev rR:Nat:=285
abbrev jy:Nat:=286
abbrev lP:Nat:=287
abbrev uh:Nat:=288
abbrev kK:Nat:=289
abbrev rQ:Nat:=290
abbrev mC:Nat:=291
abbrev eu:Nat:=292
abbrev kj:Nat:=293
abbrev lN:Nat:=294
abbrev ko:Nat:=295
abbrev rL:Nat:=296
abbrev wN:Nat:=297
abbrev iz:Nat:=298
abbrev fA:Nat:=301
abbrev fh:Nat:=302
abbrev wX:Nat:=306
abbrev rF:Nat:=307
abbrev ju:Nat:=308
abbrev rG:Nat:=309
abbrev pJ:Nat:=310
abbrev bn:Nat:=311
abbrev mx:Nat:=312
abbrev gU:Nat:=313
abbrev gv:Nat:=318
abbrev jc:Nat:=319
abbrev qc:Nat:=320
abbrev cz:Nat:=321
abbrev qb:Nat:=322
abbrev gh:Nat:=323
abbrev gX:Nat:=325
abbrev Gx:Nat:=327
abbrev wL:Nat:=328
abbrev rE:Nat:=329
abbrev eW:Nat:=330
abbrev nE:Nat:=331
abbrev rN:Nat:=332
abbrev rO:Nat:=333
abbrev BX:Nat:=337
abbrev iG:Nat:=338
abbrev kF:Nat:=0
abbrev bg:Nat:=2
abbrev aU:Nat:=3
abbrev bF:Nat:=4
abbrev bp:Nat:=5
abbrev ak:Nat:=9
abbrev eF:Nat:=23
abbrev bO:Nat:=26
abbrev jo:Nat:=31
abbrev aJ:Nat:=34
abbrev aO:Nat:=36
abbrev kU:Nat:=38
abbrev ay:Nat:=43
abbrev ai:Nat:=45
abbrev bf:Nat:=47
abbrev aX:Nat:=49
abbrev aK:Nat:=51
abbrev fe:Nat:=60
abbrev bM:Nat:=67
abbrev cd:Nat:=68
abbrev bm:Nat:=70
abbrev aa:Nat:=75
abbrev ab:Nat:=77
abbrev am:Nat:=79
abbrev aV:Nat:=84
abbrev ci:Nat:=102
abbrev bl:Nat:=104
abbrev aW:Nat:=106
abbrev bP:Nat:=119
abbrev kC:Nat:=124
abbrev aq:Nat:=127
abbrev ah:Nat:=131
abbrev aP:Nat:=140
abbrev cS:Nat:=156
abbrev bE:Nat:=158
abbrev aC:Nat:=174
abbrev br:Nat:=175
abbrev aZ:Nat:=177
abbrev aI:Nat:=190
abbrev cq:Nat:=193
abbrev PB:Nat:=214
abbrev cX:Nat:=244
abbrev eG:Nat:=269
abbrev fU:Nat:=272
abbrev bh:Nat:=273
abbrev aw:Nat:=280
abbrev IK:Nat:=287
abbrev bG:Nat:=296
abbrev dC:Nat:=298
abbrev IL:Nat:=301
abbrev xD:Nat:=314
abbrev lC:Nat:=322
abbrev pw:Nat:=338
theorem bB:prog.underlying bg=some (.int .i64):=by kernel_rfl
theorem iO:TF prog bg 1 8 (.int .i64 (0:Int)):=TF.of (by kernel_rfl) (by kernel_rfl) false (by kernel_rfl) (.inr rfl)
theorem bC:prog.underlying aU=some (.int .i64):=by kernel_rfl
theorem fR:TF prog aU 1 8 (.int .i64 (0:Int)):=TF.of (by kernel_rfl) (by kernel_rfl) false (by kernel_rfl) (.inr rfl)
theorem bK:prog.underlying bF=some (.bool):=by kernel_rfl
theorem jP:TF prog bF 1 1 (.bool false):=TF.of (by kernel_rfl) (by kernel_rfl) false (by kernel_rfl) (.inr rfl)
theorem cE:prog.underlying bp=some (.int .u8):=by kernel_rfl
theorem ik:TF prog bp 1 1 (.int .u8 (0:Int)):=TF.of (by kernel_rfl) (by kernel_rfl) false (by kernel_rfl) (.inr rfl)
theorem ax:prog.underlying ak=some (.string):=by kernel_rfl
theorem cK:TF prog ak 1 16 (.string (mkS [])):=TF.of (by kernel_rfl) (by kernel_rfl) false (by kernel_rfl) (.inr rfl)
theorem Bf:prog.underlying eF=some (.slice aK):=by kernel_rfl
theorem Mv:TF prog bO 3 24 (.agg #[.int .i64 (0:Int),.int .i64 (0:Int),.int .i64 (0:Int)]):=TF.of (by kernel_rfl) (by kernel_rfl) true (by kernel_rfl) (.inl rfl)
theorem kB:prog.underlying jo=some (.slice aJ):=by kernel_rfl
theorem FT:TF prog aJ 2 24 (.agg #[.int .i64 (0:Int),.string (mkS [])]):=TF.of (by kernel_rfl) (by kernel_rfl) true (by kernel_rfl) (.inl rfl)
theorem dW:prog.underlying aO=some (.slice ak):=by kernel_rfl
theorem Bc:TF prog aO 1 24 (.slice none 0 0):=TF.of (by kernel_rfl) (by kernel_rfl) false (by kernel_rfl) (.inr rfl)
theorem pb:prog.underlying kU=some (.pointer bm):=by kernel_rfl
abbrev bN:Array Value:= #[.int .u8 (0:Int),.int .u8 (0:Int),.int .u8 (0:Int),.int .u8 (0:Int),.int .u8 (0:Int),.int .u8 (0:Int),.int .u8 (0:Int),.int .u8 (0:Int),.int .u8 (0:Int),.int .u8 (0:Int),.int .u8 (0:Int),.int .u8 (0:Int),.int .u8 (0:Int),.int .u8 (0:Int),.int .u8 (0:Int),.int .u8 (0:Int)]
theorem N4:TF prog ay 16 16 (.agg #[.int .u8 (0:Int),.int .u8 (0:Int),.int .u8 (0:Int),.int .u8 (0:Int),.int .u8 (0:Int),.int .u8 (0:Int),.int .u8 (0:Int),.int .u8 (0:Int),.int .u8 (0:Int),.int .u8 (0:Int),.int .u8 (0:Int),.int .u8 (0:Int),.int .u8 (0:Int),.int .u8 (0:Int),.int .u8 (0:Int),.int .u8 (0:Int)]):=TF.of (by kernel_rfl) (by kernel_rfl) true (by kernel_rfl) (.inl rfl)
abbrev bu:Array Value:= #[.int .i64 (0:Int),.string (mkS []),.int .u8 (0:Int),.int .u8 (0:Int),.int .u8 (0:Int),.int .u8 (0:Int),.int .u8 (0:Int),.int .u8 (0:Int),.int .u8 (0:Int),.int .u8 (0:Int),.int .u8 (0:Int),.int .u8 (0:Int),.int .u8 (0:Int),.int .u8 (0:Int),.int .u8 (0:Int),.int .u8 (0:Int),.int .u8 (0:Int),.int .u8 (0:Int)]
theorem N5:TF prog ai 18 40 (.agg #[.int .i64 (0:Int),.string (mkS []),.int .u8 (0:Int),.int .u8 (0:Int),.int .u8 (0:Int),.int .u8 (0:Int),.int .u8 (0:Int),.int .u8 (0:Int),.int .u8 (0:Int),.int .u8 (0:Int),.int .u8 (0:Int),.int .u8 (0:Int),.int .u8 (0:Int),.int .u8 (0:Int),.int .u8 (0:Int),.int .u8 (0:Int),.int .u8 (0:Int),.int .u8 (0:Int)]):=TF.of (by kernel_rfl) (by kernel_rfl) true (by kernel_rfl) (.inl rfl)
abbrev rq:Array Value:= #[.bool false,.int .i64 (0:Int),.string (mkS []),.int .u8 (0:Int),.int .u8 (0:Int),.int .u8 (0:Int),.int .u8 (0:Int),.int .u8 (0:Int),.int .u8 (0:Int),.int .u8 (0:Int),.int .u8 (0:Int),.int .u8 (0:Int),.int .u8 (0:Int),.int .u8 (0:Int),.int .u8 (0:Int),.int .u8 (0:Int),.int .u8 (0:Int),.int .u8 (0:Int),.int .u8 (0:Int),.int .i64 (0:Int),.string (mkS [])]
theorem Qw:TF prog bf 21 72 (.agg #[.bool false,.int .i64 (0:Int),.string (mkS []),.int .u8 (0:Int),.int .u8 (0:Int),.int .u8 (0:Int),.int .u8 (0:Int),.int .u8 (0:Int),.int .u8 (0:Int),.int .u8 (0:Int),.int .u8 (0:Int),.int .u8 (0:Int),.int .u8 (0:Int),.int .u8 (0:Int),.int .u8 (0:Int),.int .u8 (0:Int),.int .u8 (0:Int),.int .u8 (0:Int),.int .u8 (0:Int),.int .i64 (0:Int),.string (mkS [])]):=TF.of (by kernel_rfl) (by kernel_rfl) true (by kernel_rfl) (.inl rfl)
abbrev px:Array Value:= #[.bool false,.int .i64 (0:Int),.string (mkS []),.int .u8 (0:Int),.int .u8 (0:Int),.int .u8 (0:Int),.int .u8 (0:Int),.int .u8 (0:Int),.int .u8 (0:Int),.int .u8 (0:Int),.int .u8 (0:Int),.int .u8 (0:Int),.int .u8 (0:Int),.int .u8 (0:Int),.int .u8 (0:Int),.int .u8 (0:Int),.int .u8 (0:Int),.int .u8 (0:Int),.int .u8 (0:Int),.string (mkS []),.int .i64 (0:Int)]
theorem HW:TF prog aX 21 72 (.agg #[.bool false,.int .i64 (0:Int),.string (mkS []),.int .u8 (0:Int),.int .u8 (0:Int),.int .u8 (0:Int),.int .u8 (0:Int),.int .u8 (0:Int),.int .u8 (0:Int),.int .u8 (0:Int),.int .u8 (0:Int),.int .u8 (0:Int),.int .u8 (0:Int),.int .u8 (0:Int),.int .u8 (0:Int),.int .u8 (0:Int),.int .u8 (0:Int),.int .u8 (0:Int),.int .u8 (0:Int),.string (mkS []),.int .i64 (0:Int)]):=TF.of (by kernel_rfl) (by kernel_rfl) true (by kernel_rfl) (.inl rfl)
abbrev eV:Array Value:= #[.int .i64 (0:Int),.bool false,.int .i64 (0:Int),.string (mkS []),.int .u8 (0:Int),.int .u8 (0:Int),.int .u8 (0:Int),.int .u8 (0:Int),.int .u8 (0:Int),.int .u8 (0:Int),.int .u8 (0:Int),.int .u8 (0:Int),.int .u8 (0:Int),.int .u8 (0:Int),.int .u8 (0:Int),.int .u8 (0:Int),.int .u8 (0:Int),.int .u8 (0:Int),.int .u8 (0:Int),.int .u8 (0:Int),.int .i64 (0:Int),.string (mkS []),.string (mkS []),.bool false,.int .i64 (0:Int),.string (mkS []),.int .u8 (0:Int),.int .u8 (0:Int),.int .u8 (0:Int),.int .u8 (0:Int),.int .u8 (0:Int),.int .u8 (0:Int),.int .u8 (0:Int),.int .u8 (0:Int),.int .u8 (0:Int),.int .u8 (0:Int),.int .u8 (0:Int),.int .u8 (0:Int),.int .u8 (0:Int),.int .u8 (0:Int),.int .u8 (0:Int),.int .u8 (0:Int),.string (mkS []),.int .i64 (0:Int),.int .i64 (0:Int)]
theorem Mw:TF prog aK 45 176 (.agg #[.int .i64 (0:Int),.bool false,.int .i64 (0:Int),.string (mkS []),.int .u8 (0:Int),.int .u8 (0:Int),.int .u8 (0:Int),.int .u8 (0:Int),.int .u8 (0:Int),.int .u8 (0:Int),.int .u8 (0:Int),.int .u8 (0:Int),.int .u8 (0:Int),.int .u8 (0:Int),.int .u8 (0:Int),.int .u8 (0:Int),.int .u8 (0:Int),.int .u8 (0:Int),.int .u8 (0:Int),.int .u8 (0:Int),.int .i64 (0:Int),.string (mkS []),.string (mkS []),.bool false,.int .i64 (0:Int),.string (mkS []),.int .u8 (0:Int),.int .u8 (0:Int),.int .u8 (0:Int),.int .u8 (0:Int),.int .u8 (0:Int),.int .u8 (0:Int),.int .u8 (0:Int),.int .u8 (0:Int),.int .u8 (0:Int),.int .u8 (0:Int),.int .u8 (0:Int),.int .u8 (0:Int),.int .u8 (0:Int),.int .u8 (0:Int),.int .u8 (0:Int),.int .u8 (0:Int),.string (mkS []),.int .i64 (0:Int),.int .i64 (0:Int)]):=TF.of (by kernel_rfl) (by kernel_rfl) true (by kernel_rfl) (.inl rfl)
theorem nO:prog.underlying fe=some (.pointer kC):=by kernel_rfl
theorem bJ:prog.underlying bM=some (.map cS aU):=by kernel_rfl
theorem eM:prog.underlying cd=some (.slice bE):=by kernel_rfl
theorem FU:TF prog cd 1 24 (.slice none 0 0):=TF.of (by kernel_rfl) (by kernel_rfl) false (by kernel_rfl) (.inr rfl)
theorem ba:prog.underlying aa=some (.slice aw):=by kernel_rfl
theorem rl:TF prog ab 2 32 (.agg #[.slice none 0 0,.int .i64 (0:Int)]):=TF.of (by kernel_rfl) (by kernel_rfl) true (by kernel_rfl) (.inl rfl)
theorem uO:TF prog am 4 64 (.agg #[.slice none 0 0,.slice none 0 0,.int .i64 (0:Int),.int .i64 (0:Int)]):=TF.of (by kernel_rfl) (by kernel_rfl) true (by kernel_rfl) (.inl rfl)
theorem bX:prog.underlying aV=some (.slice bp):=by kernel_rfl
theorem qM:TF prog bl 2 16 (.agg #[.int .i64 (0:Int),.nilFunc]):=TF.of (by kernel_rfl) (by kernel_rfl) true (by kernel_rfl) (.inl rfl)
theorem cP:prog.underlying aW=some (.map ak bl):=by kernel_rfl
theorem cx:prog.underlying bP=some (.pointer aZ):=by kernel_rfl
theorem CU:TF prog bP 1 8 (.pointer none):=TF.of (by kernel_rfl) (by kernel_rfl) false (by kernel_rfl) (.inr rfl)
theorem yK:TF prog aq 11 112 (.agg #[.string (mkS []),.string (mkS []),.string (mkS []),.string (mkS []),.bool false,.int .i64 (0:Int),.bool false,.int .i64 (0:Int),.bool false,.bool false,.int .i64 (0:Int)]):=TF.of (by kernel_rfl) (by kernel_rfl) true (by kernel_rfl) (.inl rfl)
abbrev bz:Array Value:= #[.string (mkS []),.string (mkS []),.int .i64 (0:Int),.string (mkS []),.int .u8 (0:Int),.int .u8 (0:Int),.int .u8 (0:Int),.int .u8 (0:Int),.int .u8 (0:Int),.int .u8 (0:Int),.int .u8 (0:Int),.int .u8 (0:Int),.int .u8 (0:Int),.int .u8 (0:Int),.int .u8 (0:Int),.int .u8 (0:Int),.int .u8 (0:Int),.int .u8 (0:Int),.int .u8 (0:Int),.int .u8 (0:Int),.bool false,.string (mkS []),.bool false,.bool false,.int .i64 (0:Int),.int .i64 (0:Int),.int .i64 (0:Int),.int .i64 (0:Int),.int .i64 (0:Int)]
theorem mg:TF prog ah 29 144 (.agg #[.string (mkS []),.string (mkS []),.int .i64 (0:Int),.string (mkS []),.int .u8 (0:Int),.int .u8 (0:Int),.int .u8 (0:Int),.int .u8 (0:Int),.int .u8 (0:Int),.int .u8 (0:Int),.int .u8 (0:Int),.int .u8 (0:Int),.int .u8 (0:Int),.int .u8 (0:Int),.int .u8 (0:Int),.int .u8 (0:Int),.int .u8 (0:Int),.int .u8 (0:Int),.int .u8 (0:Int),.int .u8 (0:Int),.bool false,.string (mkS []),.bool false,.bool false,.int .i64 (0:Int),.int .i64 (0:Int),.int .i64 (0:Int),.int .i64 (0:Int),.int .i64 (0:Int)]):=TF.of (by kernel_rfl) (by kernel_rfl) true (by kernel_rfl) (.inl rfl)
theorem gm:prog.underlying aP=some (.slice ah):=by kernel_rfl
theorem CV:TF prog aP 1 24 (.slice none 0 0):=TF.of (by kernel_rfl) (by kernel_rfl) false (by kernel_rfl) (.inr rfl)
theorem HZ:TF prog cS 2 24 (.agg #[.int .i64 (0:Int),.string (mkS [])]):=TF.of (by kernel_rfl) (by kernel_rfl) true (by kernel_rfl) (.inl rfl)
theorem My:TF prog bE 4 4 (.agg #[.bool false,.bool false,.bool false,.bool false]):=TF.of (by kernel_rfl) (by kernel_rfl) true (by kernel_rfl) (.inl rfl)
theorem bt:prog.underlying aC=some (.map cq aI):=by kernel_rfl
theorem fI:prog.underlying br=some (.map ak aU):=by kernel_rfl
abbrev fL:Array Value:= #[.string (mkS []),.string (mkS []),.int .i64 (0:Int),.string (mkS []),.int .u8 (0:Int),.int .u8 (0:Int),.int .u8 (0:Int),.int .u8 (0:Int),.int .u8 (0:Int),.int .u8 (0:Int),.int .u8 (0:Int),.int .u8 (0:Int),.int .u8 (0:Int),.int .u8 (0:Int),.int .u8 (0:Int),.int .u8 (0:Int),.int .u8 (0:Int),.int .u8 (0:Int),.int .u8 (0:Int),.int .u8 (0:Int),.bool false,.string (mkS []),.bool false,.bool false,.int .i64 (0:Int),.int .i64 (0:Int),.int .i64 (0:Int),.int .i64 (0:Int),.int .i64 (0:Int),.string (mkS [])]
theorem yL:TF prog aI 30 160 (.agg #[.string (mkS []),.string (mkS []),.int .i64 (0:Int),.string (mkS []),.int .u8 (0:Int),.int .u8 (0:Int),.int .u8 (0:Int),.int .u8 (0:Int),.int .u8 (0:Int),.int .u8 (0:Int),.int .u8 (0:Int),.int .u8 (0:Int),.int .u8 (0:Int),.int .u8 (0:Int),.int .u8 (0:Int),.int .u8 (0:Int),.int .u8 (0:Int),.int .u8 (0:Int),.int .u8 (0:Int),.int .u8 (0:Int),.bool false,.string (mkS []),.bool false,.bool false,.int .i64 (0:Int),.int .i64 (0:Int),.int .i64 (0:Int),.int .i64 (0:Int),.int .i64 (0:Int),.string (mkS [])]):=TF.of (by kernel_rfl) (by kernel_rfl) true (by kernel_rfl) (.inl rfl)
abbrev IQ:Array Value:= #[.string (mkS []),.int .i64 (0:Int),.string (mkS []),.int .u8 (0:Int),.int .u8 (0:Int),.int .u8 (0:Int),.int .u8 (0:Int),.int .u8 (0:Int),.int .u8 (0:Int),.int .u8 (0:Int),.int .u8 (0:Int),.int .u8 (0:Int),.int .u8 (0:Int),.int .u8 (0:Int),.int .u8 (0:Int),.int .u8 (0:Int),.int .u8 (0:Int),.int .u8 (0:Int),.int .u8 (0:Int),.bool false,.string (mkS [])]
theorem HY:TF prog cq 21 80 (.agg #[.string (mkS []),.int .i64 (0:Int),.string (mkS []),.int .u8 (0:Int),.int .u8 (0:Int),.int .u8 (0:Int),.int .u8 (0:Int),.int .u8 (0:Int),.int .u8 (0:Int),.int .u8 (0:Int),.int .u8 (0:Int),.int .u8 (0:Int),.int .u8 (0:Int),.int .u8 (0:Int),.int .u8 (0:Int),.int .u8 (0:Int),.int .u8 (0:Int),.int .u8 (0:Int),.int .u8 (0:Int),.bool false,.string (mkS [])]):=TF.of (by kernel_rfl) (by kernel_rfl) true (by kernel_rfl) (.inl rfl)
theorem H0:prog.underlying cX=some (.array 4 ak):=by kernel_rfl
theorem vj:TF prog cX 4 64 (.agg #[.string (mkS []),.string (mkS []),.string (mkS []),.string (mkS [])]):=TF.of (by kernel_rfl) (by kernel_rfl) true (by kernel_rfl) (.inl rfl)
theorem sQ:prog.underlying eG=some (.slice fU):=by kernel_rfl
theorem FZ:prog.underlying fU=some (.int .u16):=by kernel_rfl
theorem Mz:TF prog fU 1 2 (.int .u16 (0:Int)):=TF.of (by kernel_rfl) (by kernel_rfl) false (by kernel_rfl) (.inr rfl)
theorem HX:TF prog bh 8 16 (.agg #[.int .u16 (0:Int),.int .u16 (0:Int),.int .u16 (0:Int),.int .u16 (0:Int),.int .u16 (0:Int),.int .u16 (0:Int),.int .u16 (0:Int),.int .u16 (0:Int)]):=TF.of (by kernel_rfl) (by kernel_rfl) true (by kernel_rfl) (.inl rfl)
abbrev dz:Array Value:= #[.string (mkS []),.string (mkS []),.int .i64 (0:Int),.string (mkS []),.int .u8 (0:Int),.int .u8 (0:Int),.int .u8 (0:Int),.int .u8 (0:Int),.int .u8 (0:Int),.int .u8 (0:Int),.int .u8 (0:Int),.int .u8 (0:Int),.int .u8 (0:Int),.int .u8 (0:Int),.int .u8 (0:Int),.int .u8 (0:Int),.int .u8 (0:Int),.int .u8 (0:Int),.int .u8 (0:Int),.int .u8 (0:Int),.bool false,.string (mkS []),.bool false,.bool false,.int .i64 (0:Int),.int .i64 (0:Int),.int .i64 (0:Int),.int .i64 (0:Int),.int .i64 (0:Int),.string (mkS [])]
theorem cO:TF prog aw 30 160 (.agg #[.string (mkS []),.string (mkS []),.int .i64 (0:Int),.string (mkS []),.int .u8 (0:Int),.int .u8 (0:Int),.int .u8 (0:Int),.int .u8 (0:Int),.int .u8 (0:Int),.int .u8 (0:Int),.int .u8 (0:Int),.int .u8 (0:Int),.int .u8 (0:Int),.int .u8 (0:Int),.int .u8 (0:Int),.int .u8 (0:Int),.int .u8 (0:Int),.int .u8 (0:Int),.int .u8 (0:Int),.int .u8 (0:Int),.bool false,.string (mkS []),.bool false,.bool false,.int .i64 (0:Int),.int .i64 (0:Int),.int .i64 (0:Int),.int .i64 (0:Int),.int .i64 (0:Int),.string (mkS [])]):=TF.of (by kernel_rfl) (by kernel_rfl) true (by kernel_rfl) (.inl rfl)
abbrev IM:Array Value:= #[.int .u8 (0:Int),.int .u8 (0:Int),.int .u8 (0:Int),.int .u8 (0:Int),.int .u8 (0:Int),.int .u8 (0:Int),.int .u8 (0:Int),.int .u8 (0:Int),.int .u8 (0:Int),.int .u8 (0:Int),.int .u8 (0:Int),.int .u8 (0:Int),.int .u8 (0:Int),.int .u8 (0:Int),.int .u8 (0:Int),.int .u8 (0:Int),.int .u8 (0:Int),.int .u8 (0:Int),.int .u8 (0:Int),.int .u8 (0:Int),.int .u8 (0:Int),.int .u8 (0:Int),.int .u8 (0:Int),.int .u8 (0:Int)]
theorem xv:prog.underlying bG=some (.array 3 aU):=by kernel_rfl
theorem mT:TF prog bG 3 24 (.agg #[.int .i64 (0:Int),.int .i64 (0:Int),.int .i64 (0:Int)]):=TF.of (by kernel_rfl) (by kernel_rfl) true (by kernel_rfl) (.inl rfl)
theorem TP:prog.underlying xD=some (.slice aU):=by kernel_rfl
abbrev IP:Array Value:= #[.int .u8 (0:Int),.int .u8 (0:Int),.int .u8 (0:Int),.int .u8 (0:Int),.int .u8 (0:Int),.int .u8 (0:Int),.int .u8 (0:Int),.int .u8 (0:Int),.int .u8 (0:Int),.int .u8 (0:Int),.int .u8 (0:Int),.int .u8 (0:Int),.int .u8 (0:Int),.int .u8 (0:Int),.int .u8 (0:Int),.int .u8 (0:Int),.int .u8 (0:Int),.int .u8 (0:Int),.int .u8 (0:Int),.int .u8 (0:Int),.int .u8 (0:Int),.int .u8 (0:Int),.int .u8 (0:Int),.int .u8 (0:Int),.int .u8 (0:Int),.int .u8 (0:Int),.int .u8 (0:Int),.int .u8 (0:Int),.int .u8 (0:Int),.int .u8 (0:Int),.int .u8 (0:Int),.int .u8 (0:Int),.int .u8 (0:Int),.int .u8 (0:Int),.int .u8 (0:Int),.int .u8 (0:Int),.int .u8 (0:Int),.int .u8 (0:Int),.int .u8 (0:Int),.int .u8 (0:Int),.int .u8 (0:Int),.int .u8 (0:Int),.int .u8 (0:Int),.int .u8 (0:Int),.int .u8 (0:Int),.int .u8 (0:Int),.int .u8 (0:Int),.int .u8 (0:Int),.int .u8 (0:Int),.int .u8 (0:Int),.int .u8 (0:Int),.int .u8 (0:Int),.int .u8 (0:Int),.int .u8 (0:Int),.int .u8 (0:Int),.int .u8 (0:Int),.int .u8 (0:Int),.int .u8 (0:Int),.int .u8 (0:Int),.int .u8 (0:Int),.int .u8 (0:Int),.int .u8 (0:Int),.int .u8 (0:Int),.int .u8 (0:Int),.int .u8 (0:Int)]
abbrev MV:Array Value:= #[.int .i64 (0:Int),.int .i64 (0:Int),.int .i64 (0:Int),.int .i64 (0:Int),.int .i64 (0:Int),.int .i64 (0:Int),.int .i64 (0:Int),.int .i64 (0:Int),.int .i64 (0:Int),.int .i64 (0:Int),.int .i64 (0:Int),.int .i64 (0:Int)]
theorem Mx:TF prog pw 12 96 (.agg #[.int .i64 (0:Int),.int .i64 (0:Int),.int .i64 (0:Int),.int .i64 (0:Int),.int .i64 (0:Int),.int .i64 (0:Int),.int .i64 (0:Int),.int .i64 (0:Int),.int .i64 (0:Int),.int .i64 (0:Int),.int .i64 (0:Int),.int .i64 (0:Int)]):=TF.of (by kernel_rfl) (by kernel_rfl) true (by kernel_rfl) (.inl rfl)
end Go.Pk
