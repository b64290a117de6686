/- What the laws lean on: R, Open, Arr, H, Split, LinP, Big, Names, Flt; what is used. Its conditions: none. -/
import Derived.Test.YthbkoifpgkjadaaGreatDoorKA
import Derived.Laws.AppendOwn
import Derived.IntWalk
import Derived.ProofKit
import Derived.OpenShut
import Derived.Stop.LaidErr
import Derived.Lib.LaidTab
import Derived.Deep.DeepHandedRow
import Derived.Lib.SplitLaws
import Derived.Lib.IndexMore
import Derived.Test.YthbkoifpgkjadaaGreatDoorRows
set_option linter.unusedVariables false
set_option linter.unusedSimpArgs false
set_option linter.unusedSectionVars false
set_option maxRecDepth 100000
open List (append_assoc append_nil drop_eq_getElem_cons drop_eq_nil_of_le getElem_mem length length_append length_cons length_drop length_map length_nil length_take map_append map_cons mem_cons_of_mem mem_cons_self nil_append size_toArray take_of_length_le take_succ_eq_append_getElem)
open Option (map_some)
variable {n m i j k:Nat}{w u:Go.World}{t:Go.TypeId}{o:Type}{P:Go.Program}{p:Option Go.Addr}{s:List UInt8}{y:Array Go.Value}{z:Bool}{G:Bool->Go.World->Prop}
open Go.IntKind (i64)
open Go.Proofs.Tryz
namespace Go.Pk
open Go.RowKit (Below)
open Go.Proofs
abbrev Bl:=Nat->Prop
structure EM (A:Bl)(w w':World):Prop where
 size:w.heap.size <=w'.heap.size
 block:∀b,b<w.heap.size->A b->w'.heap[b]? =w.heap[b]?
theorem EM.refl (A:Bl)(w:World):EM A w w:=⟨Nat.le_refl _,λ_ _ _=>rfl⟩
theorem EM.trans {A:Bl}{a b c:World}(h:EM A a b)(k:EM A b c):EM A a c:=
 ⟨Nat.le_trans h.size k.size,λi D y=>(k.block i (Nat.lt_of_lt_of_le D h.size) y).trans (h.block i D y)⟩
theorem EM.mono {A y:Bl}{w w':World}(h:EM A w w')(D:∀b,y b->A b):EM y w w':=⟨h.size,λb F E=>h.block b F (D b E)⟩
theorem xF {w w':World}(h:Below w.heap.size w w')(A:Bl):EM A w w':=⟨h.size,λb y _=>h.block b y⟩
theorem jf {w w':World}{row:Option Nat}(h:w.grownBy w' row){A:Bl}(y:∀b,A b->some b≠row):EM A w w':=⟨h.size,λb E D=>h.block b E (y b D)⟩
theorem dJ (w:World):Below w.heap.size w w.drew:=(Below.refl _ w).drew
theorem ar (w:World)(o:Obj):Below w.heap.size w (w.alloc o):=(Below.refl _ w).alloc (Nat.le_refl _) o
theorem ae {B:Nat}{a b c:World}(h:Below B a b)(k:Below b.heap.size b c)(y:B <=b.heap.size):Below B a c:=h.trans (k.mono y)
structure Ty (α:Type) where
 k:Nat
 pos:0<k
 rep:World->Bl->List Value->α->Prop
 len:∀{w A vs x},rep w A vs x->vs.length=k
 one:∀{w A vs x},rep w A vs x->∀v∈vs,v.oneCell'=true
 keep:∀{w w' A vs x},rep w A vs x->EM A w w'->rep w' A vs x
 mono:∀{w A A' vs x},rep w A vs x->(∀b,b<w.heap.size->A b->A' b)->rep w A' vs x
def Ty.enc {α:Type}(e:α->Value)(h1:∀x,(e x).oneCell'=true)(p:α->Prop):Ty α where
 k:=1
 pos:=by decide
 rep:=λ_ _ vs x=>vs=[e x]/\p x
 len:=λh=>by rw[h.1];rfl
 one:=fun{_ _ _ x} h v hv=>by rw[h.1]at hv;simp at hv;rw[hv];exact h1 x
 keep:=λh _=>h
 mono:=λh _=>h
def ZO (k:IntKind)(p:Int->Prop):Ty Int:=Ty.enc (λn=>.int k n) (λ_=>rfl) p
def KD:Ty Int:=ZO .i64 λ_=>True
def tU8:Ty UInt8:=Ty.enc (λc=>.int .u8 (c.toNat:Nat)) (λ_=>rfl) λ_=>True
def XU (p:lU->Prop):Ty lU:=Ty.enc (λs=>.string (mkS s)) (λ_=>rfl) p
abbrev tS:Ty lU:=XU λ_=>True
def NoB:Bl:=λ_=>False
structure TF (P:Program)(t:TypeId)(k bytes:Nat)(z:Value):Prop where
 info:∃i,P.info? t=some i/\i.size=k/\i.bytes=bytes/\i.zero=some z
 cells:z.cells.size=k
 und:∃d,P.underlying t=some d/\(HI d=true\/k=1/\HI d=false)
theorem TF.of {k bytes:Nat}{z:Value}(h1:(P.info? t).map (λi=>(i.size,i.bytes,i.zero))=some (k,bytes,some z))(F:z.cells.size=k)(b:Bool)
 (y:(P.underlying t).map HI=some b) (G:b=true\/k=1):TF P t k bytes z:=by
 cases D:P.info? t with
 |none=>rw[D]at h1;cases h1
 |some i=>
  rw[D]at h1;simp only[map_some,Option.some.injEq,Prod.mk.injEq]at h1;cases E:P.underlying t with
  |none=>rw[E]at y;cases y
  |some d=>
   rw[E]at y;simp only[map_some,Option.some.injEq]at y;refine⟨⟨i,D,h1.1,h1.2.1,h1.2.2⟩,F,d,E,?_⟩;cases b with
   |true=>exact .inl y
   |false=>exact .inr ⟨G.resolve_left (by simp),y⟩
structure jc {α:Type}(T:Ty α)(w:World)(A:Bl)(l:List Value)(xs:List α):Prop where
 len:l.length=xs.length*T.k
 rep:∀i (h:i<xs.length),T.rep w A ((l.drop (i*T.k)).take T.k) xs[i]
theorem jc.nil (T:Ty o)(w:World)(A:Bl):jc T w A [] ([]:List o):=⟨by simp,λi h=>by cases h⟩
theorem jc.one {T:Ty o}{A:Bl}{vs:List Value}{x:o}(h:T.rep w A vs x):jc T w A vs [x]:=by
 have D:=T.len h;refine⟨by simp[D],λi y=>?_⟩;have:i=0:=by simpa using y
 subst this;simp only[Nat.zero_mul,List.drop_zero,List.getElem_cons_zero];rw[take_of_length_le (by omega)];exact h
theorem jc.append {T:Ty o}{A:Bl}{l m:List Value}{xs ys:List o}(h:jc T w A l xs)(k:jc T w A m ys):jc T w A (l++m) (xs++ys):=by
 refine⟨by rw[length_append,length_append,h.len,k.len,Nat.add_mul],λi D=>?_⟩;by_cases c:i<xs.length
 ·rw[List.getElem_append_left c];have h1:=h.rep i c;have y:i*T.k+T.k <=l.length:=by
   have:=Nat.mul_le_mul_right T.k (show i+1 <=xs.length from c);rw[Nat.add_mul,Nat.one_mul]at this;rw[h.len];exact this
  rw[List.drop_append_of_le_length (by omega),List.take_append_of_le_length (by rw[length_drop];omega)];exact h1
 ·have E:i-xs.length<ys.length:=by simp at D;omega
  rw[List.getElem_append_right (by omega)];have h1:=k.rep (i-xs.length) E;have y:i*T.k=l.length+(i-xs.length)*T.k:=by
   rw[h.len,<- Nat.add_mul];congr 1;omega
  rw[y,List.drop_length_add_append];exact h1
theorem jc.keep {T:Ty o}{w w':World}{A:Bl}{l:List Value}{xs:List o}(h:jc T w A l xs)(D:EM A w w'):jc T w' A l xs:=⟨h.len,λi y=>T.keep (h.rep i y) D⟩
theorem jc.mono {T:Ty o}{A y:Bl}{l:List Value}{xs:List o}(h:jc T w A l xs)(D:∀b,b<w.heap.size->A b->y b):jc T w y l xs:=⟨h.len,λi E=>T.mono (h.rep i E) D⟩
theorem jc.ones {T:Ty o}{A:Bl} :∀{xs:List o} {l:List Value},jc T w A l xs->∀v∈l,v.oneCell'=true
 |[],l,h,v,y=>by have:=h.len;simp at this;subst this;cases y
 |x::xs,l,h,v,y=>by
  have E:=h.len;have G:=T.pos;have h1:=h.rep 0 (by simp);rw[Nat.zero_mul,List.drop_zero]at h1;have D:jc T w A (l.drop T.k) xs:=by
   refine⟨by rw[length_drop,E];simp[Nat.add_mul],λi F=>?_⟩;have:=h.rep (i+1) (by simp;omega);simp only[List.getElem_cons_succ]at this;rw[List.drop_drop];rw[Nat.add_mul,Nat.one_mul,Nat.add_comm]at this;exact this
  rw[<- List.take_append_drop T.k l]at y;rcases List.mem_append.1 y with y|y
  ·exact T.one h1 v y
  ·exact jc.ones D v y
theorem jc.set {T:Ty o}{A:Bl}{l:List Value}{xs:List o}(h:jc T w A l xs)(M:i<xs.length){vs:List Value}{x:o}(F:T.rep w A vs x):
 jc T w A (l.take (i*T.k)++vs++l.drop (i*T.k+vs.length)) (xs.set i x):=by
 have y:=T.len F;have R:i*T.k+T.k <=l.length:=by
  have:=Nat.mul_le_mul_right T.k (show i+1 <=xs.length from M);rw[Nat.add_mul,Nat.one_mul]at this;rw[h.len];exact this
 refine⟨?_,λj O=>?_⟩
 ·rw[List.length_set,<- h.len,length_append,length_append,length_take,length_drop,y];omega
 ·have D:j<xs.length:=by simpa using O
  have key:(l.take (i*T.k)++vs++l.drop (i*T.k+vs.length))=l.take (i*T.k)++(vs++l.drop (i*T.k+vs.length)):=append_assoc _ _ _;have E:(l.take (i*T.k)).length=i*T.k:=by rw[length_take];omega
  by_cases c1:j<i
  ·have h1:=h.rep j D;have J:j*T.k+T.k <=i*T.k:=by
    have:=Nat.mul_le_mul_right T.k (show j+1 <=i from c1)
    rwa [Nat.add_mul,Nat.one_mul]at this
   rw[List.getElem_set_ne (by omega),key,List.drop_append_of_le_length (by omega),List.take_append_of_le_length (by rw[length_drop];omega)];rw[List.drop_take,List.take_take];rw[show min T.k (i*T.k-j*T.k)=T.k by omega];exact h1
  ·by_cases G:j=i
   ·subst G;rw[List.getElem_set_self,key,List.drop_left' E,<- y,List.take_left];exact F
   ·have h1:=h.rep j D;have J:i*T.k+T.k <=j*T.k:=by
     have:=Nat.mul_le_mul_right T.k (show i+1 <=j by omega)
     rwa [Nat.add_mul,Nat.one_mul]at this
    rw[List.getElem_set_ne (by omega)];have H:(l.take (i*T.k)++vs++l.drop (i*T.k+vs.length)).drop (j*T.k)=l.drop (j*T.k):=by
     have I:j*T.k=(l.take (i*T.k)++vs).length+(j*T.k-(i*T.k+T.k)):=by rw[length_append,E,y];omega
     rw[I,List.drop_length_add_append,List.drop_drop];congr 1;omega
    rw[H];exact h1
def At {α:Type}(T:Ty α)(w:World)(A:Bl)(b off:Nat)(xs:List α):Prop:=
 ∃l:List Value,jc T w A l xs/\∀j,j<l.length->w.cell? ⟨b,off+j,none⟩=l[j]?
def Sl {α:Type}(T:Ty α)(w:World)(A:Bl)(a:Option Addr)(n c:Nat)(xs:List α):Prop:=
 n=xs.length/\n <=c/\c <=maxLen/\(xs=[]\/∃b off,a=some ⟨b,off,none⟩/\b<w.heap.size/\A b/\At T w A b off xs)
theorem AF {w w':World}{b:Nat}(h:w'.heap[b]? =w.heap[b]?)(o:Nat):w'.cell? ⟨b,o,none⟩=w.cell? ⟨b,o,none⟩:=by simp[World.cell?,h]
theorem At.keep {T:Ty o}{w w':World}{A:Bl}{b off:Nat}{xs:List o}(h:At T w A b off xs)(F:b<w.heap.size)(E:A b)(y:EM A w w'):At T w' A b off xs:=by
 obtain⟨l,h1,D⟩:=h;exact⟨l,h1.keep y,λj G=>by rw[AF (y.block b F E)];exact D j G⟩
theorem Sl.keep {T:Ty o}{w w':World}{A:Bl}{a:Option Addr}{n c:Nat}{xs:List o}(h:Sl T w A a n c xs)(F:EM A w w'):Sl T w' A a n c xs:=by
 obtain⟨h1,G,H,y⟩:=h;refine⟨h1,G,H,?_⟩;rcases y with y|⟨b,off,e,E,D,y⟩
 ·exact .inl y
 ·exact .inr ⟨b,off,e,Nat.lt_of_lt_of_le E F.size,D,y.keep E D F⟩
theorem Sl.below {T:Ty o}{w w':World}{A:Bl}{a:Option Addr}{n c:Nat}{xs:List o}(h:Sl T w A a n c xs)(y:Below w.heap.size w w'):Sl T w' A a n c xs:=h.keep (xF y A)
theorem Sl.mono {T:Ty o}{A D:Bl}{a:Option Addr}{n c:Nat}{xs:List o}(h:Sl T w A a n c xs)(E:∀b,b<w.heap.size->A b->D b):Sl T w D a n c xs:=by
 obtain⟨h1,G,H,y⟩:=h;refine⟨h1,G,H,?_⟩;rcases y with y|⟨b,off,e,F,M,y⟩
 ·exact .inl y
 ·obtain⟨l,I,J⟩:=y;exact .inr ⟨b,off,e,F,E b F M,l,I.mono E,J⟩
theorem Sl.len {T:Ty o}{A:Bl}{a:Option Addr}{n c:Nat}{xs:List o}(h:Sl T w A a n c xs):n=xs.length:=h.1
theorem Sl.le {T:Ty o}{A:Bl}{a:Option Addr}{n c:Nat}{xs:List o}(h:Sl T w A a n c xs):xs.length <=9223372036854775807:=by
 have h1:=h.1;have D:=h.2.1;have y:=h.2.2.1;unfold maxLen at y;omega
theorem Sl.nil (T:Ty o)(w:World)(A:Bl)(a:Option Addr)(c:Nat)(y:c <=maxLen):Sl T w A a 0 c ([]:List o):=⟨rfl,Nat.zero_le _,y,.inl rfl⟩
theorem Sl.isSome {T:Ty o}{A:Bl}{a:Option Addr}{n c:Nat}{xs:List o}(h:Sl T w A a n c xs)(D:i<xs.length):Option.isSome a=true:=by
 rcases h.2.2.2 with y|⟨b,off,e,_⟩
 ·subst y;cases D
 ·rw[e];rfl
theorem gQ (b o j:Nat):(⟨b,o,none⟩:Addr).add j=⟨b,o+j,none⟩:=by
 unfold Addr.add;split<;>simp_all
theorem il {d:TypeDesc}(E:P.underlying t=some d)(y:HI d=false){p:Addr}{v:Value}(D:w.cell? p=some v):
 (loadVar t p).run P w=.ok v w:=by
 unfold loadVar;rw[Sem.run_bind,rQ E,y];simp[D]
theorem Je {b off:Nat}{vs:List Value}(h:∀j,j<vs.length->w.cell? ⟨b,off+j,none⟩=vs[j]?):(loadCells ⟨b,off,none⟩ vs.length).run P w=.ok vs.toArray w:=
 run_loadCells_list (P:=P) w ⟨b,off,none⟩ vs λj v y=>by
  rw[gQ,h j (by have:=(List.getElem?_eq_some_iff.1 y).1;exact this)];exact y
theorem uK {d:TypeDesc}{i:TypeInfo}(F:P.underlying t=some d)(y:HI d=true)(D:P.info? t=some i){b off:Nat}{vs:List Value}(E:vs.length=i.size)
 (h:∀j,j<vs.length->w.cell? ⟨b,off+j,none⟩=vs[j]?):(loadVar t ⟨b,off,none⟩).run P w=.ok (.agg vs.toArray) w:=by
 unfold loadVar;rw[Sem.run_bind,rQ F,y];have:=Je (P:=P) h;rw[E]at this;simp[fH D,this]
theorem uv (b off:Nat)(i:Int)(k:Nat):aw (some ⟨b,off,none⟩) i k=some ⟨b,off+i.toNat*k,none⟩:=by
 simp[aw,gQ]
theorem At.elem {T:Ty o}{A:Bl}{b off:Nat}{xs:List o}(h:At T w A b off xs)(y:i<xs.length):
 ∃vs,T.rep w A vs xs[i]/\∀j,j<T.k->w.cell? ⟨b,off+i*T.k+j,none⟩=vs[j]? :=by
 obtain⟨l,h1,D⟩:=h;have F:i*T.k+T.k <=l.length:=by
  have:=Nat.mul_le_mul_right T.k (show i+1 <=xs.length from y);rw[Nat.add_mul,Nat.one_mul]at this;rw[h1.len];exact this
 refine⟨_,h1.rep i y,λj E=>?_⟩;rw[Nat.add_assoc,D _ (by omega),List.getElem?_take,if_pos E,List.getElem?_drop]
theorem Sl.load1 {T:Ty o}{d:TypeDesc}(M:P.underlying t=some d)(J:HI d=false)(D:T.k=1)
 {A:Bl} {a:Option Addr} {n c:Nat} {xs:List o} (h:Sl T w A a n c xs) {i:Int} (G:i.toNat<xs.length):
 ∃v,(Instr.loadAt t (.pointer (aw a i 1))).run P w=.ok v w/\T.rep w A [v] xs[i.toNat]:=by
 rcases h.2.2.2 with y|⟨b,off,e,R,O,y⟩
 ·subst y;cases G
 ·obtain⟨vs,E,I⟩:=y.elem G;have H:=T.len E;rw[D]at H
  match vs,H with
  |[v],_=>
   refine⟨v,?_,E⟩;have F:=I 0 (by rw[D];decide);rw[D]at F;rw[e,uv];show(do loadVar t (<- Instr.sureAddr (.pointer (some _)))).run P w=_;rw[Sem.run_bind,io];exact il M J (by simpa using F)
theorem Sl.loadA {T:Ty o}{d:TypeDesc}{F:TypeInfo}(M:P.underlying t=some d)(H:HI d=true)(I:P.info? t=some F)(J:T.k=k)(Y:F.size=k)
 {A:Bl} {a:Option Addr} {n c:Nat} {xs:List o} (h:Sl T w A a n c xs) {i:Int} (E:i.toNat<xs.length):
 ∃vs,(Instr.loadAt t (.pointer (aw a i k))).run P w=.ok (.agg vs.toArray) w/\T.rep w A vs xs[i.toNat]:=by
 subst J;rcases h.2.2.2 with y|⟨b,off,e,R,O,y⟩
 ·subst y;cases E
 ·obtain⟨vs,D,G⟩:=y.elem E;have V:=T.len D;refine⟨vs,?_,D⟩;rw[e,uv];show(do loadVar t (<- Instr.sureAddr (.pointer (some _)))).run P w=_;rw[Sem.run_bind,io];exact uK M H I (by omega) λj U=>G j (by omega)
def fm (a:Option Addr):Option Nat:=a.map (·.block)
def Ow {α:Type}(T:Ty α)(t:TypeId)(w:World)(A:Bl)(a:Option Addr)(n c:Nat)(xs:List α):Prop:=
 n=xs.length/\n <=c/\c <=maxLen/\((a=none/\c=0/\xs=[])\/
  ∃g cur fr,a=some ⟨g,0,none⟩/\w.heap[g]? =some (.cells cur t fr)/\(∀i,i<cur.size-> ¬ (fr.1 <=i/\i<fr.2))/\cur.size=c*T.k/\jc T w A (cur.toList.take (n*T.k)) xs)
theorem Ow.nil (T:Ty o)(t:TypeId)(w:World)(A:Bl):Ow T t w A none 0 0 ([]:List o):=⟨rfl,Nat.le_refl _,Nat.zero_le _,.inl ⟨rfl,rfl,rfl⟩⟩
theorem Ow.len {T:Ty o}{A:Bl}{a:Option Addr}{n c:Nat}{xs:List o}(h:Ow T t w A a n c xs):n=xs.length:=h.1
theorem Ow.le {T:Ty o}{A:Bl}{a:Option Addr}{n c:Nat}{xs:List o}(h:Ow T t w A a n c xs):xs.length <=9223372036854775807:=by
 have h1:=h.1;have D:=h.2.1;have y:=h.2.2.1;unfold maxLen at y;omega
theorem Ow.lt {T:Ty o}{A:Bl}{a:Option Addr}{n c:Nat}{xs:List o}(h:Ow T t w A a n c xs):∀g,fm a=some g->g<w.heap.size:=by
 intro g y;rcases h.2.2.2 with⟨e,_⟩|⟨E,cur,fr,e,D,_⟩
 ·rw[e]at y;cases y
 ·rw[e]at y;simp[fm]at y;subst y;exact(Array.getElem?_eq_some_iff.1 D).1
theorem Ow.keep {T:Ty o}{w w':World}{A:Bl}{a:Option Addr}{n c:Nat}{xs:List o}(h:Ow T t w A a n c xs)(D:EM (λb=>A b\/some b=fm a) w w'):Ow T t w' A a n c xs:=by
 have I:=h.lt;obtain⟨h1,E,F,y⟩:=h;refine⟨h1,E,F,?_⟩;rcases y with y|⟨g,cur,fr,e,H,G,J,y⟩
 ·exact .inl y
 ·refine .inr ⟨g,cur,fr,e,?_,G,J,y.keep (D.mono λ_ h=>.inl h)⟩;rw[D.block g (I g (by rw[e];rfl)) (.inr (by rw[e];rfl))];exact H
theorem Ow.below {T:Ty o}{w w':World}{A:Bl}{a:Option Addr}{n c:Nat}{xs:List o}(h:Ow T t w A a n c xs)(y:Below w.heap.size w w'):Ow T t w' A a n c xs:=h.keep (xF y _)
theorem Ow.mono {T:Ty o}{A D:Bl}{a:Option Addr}{n c:Nat}{xs:List o}(h:Ow T t w A a n c xs)(G:∀b,b<w.heap.size->A b->D b):Ow T t w D a n c xs:=by
 obtain⟨h1,E,F,y⟩:=h;refine⟨h1,E,F,?_⟩;rcases y with y|⟨g,cur,fr,e,I,H,J,y⟩
 ·exact .inl y
 ·exact .inr ⟨g,cur,fr,e,I,H,J,y.mono G⟩
theorem Ow.sl {T:Ty o}{A D:Bl}{a:Option Addr}{n c:Nat}{xs:List o}(h:Ow T t w A a n c xs)(G:∀b,b<w.heap.size->A b->D b)(H:∀g,fm a=some g->D g):
 Sl T w D a n c xs:=by
 have M:=h.lt;obtain⟨h1,E,F,y⟩:=h;refine⟨h1,E,F,?_⟩;rcases y with⟨_,_,y⟩|⟨g,cur,fr,e,I,O,R,y⟩
 ·exact .inl y
 ·refine .inr ⟨g,0,e,M g (by rw[e];rfl),H g (by rw[e];rfl),_,y.mono G,λj J=>?_⟩;rw[length_take]at J;rw[cell_of_row w g _ cur t fr I,Nat.zero_add,List.getElem?_take,if_pos (by omega)];simp
abbrev qw:Bl:=λ_=>True
theorem Ow.all {T:Ty o}{A:Bl}{a:Option Addr}{n c:Nat}{xs:List o}(h:Ow T t w A a n c xs):Sl T w qw a n c xs:=h.sl (λ_ _ _=>trivial) (λ_ _=>trivial)
def bo (B:Nat)(a:Option Addr):Prop:=∀g,fm a=some g->B <=g
theorem bo.none (B:Nat):bo B none:=λ_ h=>by cases h
theorem bo.mono {B y:Nat}{a:Option Addr}(h:bo B a)(D:y <=B):bo y a:=λg E=>Nat.le_trans D (h g E)
theorem setRow_size (w:World)(g:Nat)(cs:Array Value):(w.setRow g cs).heap.size=w.heap.size:=by simp[World.setRow]
theorem gg (w:World)(g:Nat)(cs:Array Value):w.grownBy (w.setRow g cs) (some g):=
 ⟨rfl,rfl,rfl,by rw[setRow_size];exact Nat.le_refl _,λk _ y=>setRow_other w g k cs λe=>y (by rw[e])⟩
theorem iW {g:Nat}{fr:Nat×Nat}(D:w.heap[g]? =some (.cells y t fr))(o:Nat):w.cell? ⟨g,o,none⟩=y[o]? :=cell_of_row w g o y t fr D
theorem EU {g o:Nat}{fr:Nat×Nat}(E:w.heap[g]? =some (.cells y t fr))(D: ¬ (fr.1 <=o/\o<fr.2)):w.frozen? ⟨g,o,none⟩=false:=by
 obtain⟨G,F⟩:=fr;simp only[World.frozen?,E];simpa using D
theorem G5 {g o:Nat}{fr:Nat×Nat}(D:w.heap[g]? =some (.cells y t fr))(I:o<y.size)(G: ¬ (fr.1 <=o/\o<fr.2))
 {v:Value} (h1:v.oneCell'=true):(store ⟨g,o,none⟩ v).run P w=.ok () (w.setRow g (y.setIfInBounds o v)):=by
 rw[run_store P w _ v .plain h1,iW D,EU D G,Array.getElem?_eq_getElem I];simp only[Bool.false_eq_true,if_false];congr 1;obtain⟨F,O,J,M,output⟩:=w;simp only[World.setCell,World.setRow];congr 1;apply Array.ext_getElem?;intro k;rw[Array.getElem?_modify,Array.getElem?_modify];by_cases E:g=k
 ·subst E;simp only[if_true];have H:F[g]? =some (.cells y t fr):=D;rw[H];rfl
 ·simp only[if_neg E]
theorem jx (g o:Nat)(t:TypeId)(fr:Nat×Nat):∀(vs:List Value) (i:Nat) (cur:Array Value) (w:World),w.heap[g]? =some (.cells cur t fr)->o+i+vs.length <=cur.size->
 (∀j,j<cur.size-> ¬ (fr.1 <=j/\j<fr.2))->(∀v∈vs,v.oneCell'=true)->
 (storeCells ⟨g,o,none⟩ vs i).run P w=.ok () (w.setRow g (cur.toList.take (o+i)++vs++cur.toList.drop (o+i+vs.length)).toArray)
 |[],i,cur,w,y,_,_,_=>by
  simp only[storeCells,append_nil,length_nil,Nat.add_zero,List.take_append_drop,Array.toArray_toList];rw[setRow_self w g cur t fr y];rfl
 |v::rest,i,cur,w,y,I,G,h1=>by
  have E:o+i<cur.size:=by simp at I;omega
  simp only[storeCells,Sem.run_bind,gQ];rw[G5 y E (G _ E) (h1 v mem_cons_self),Result.andThen_ok];rw[jx g o t fr rest (i+1) (cur.setIfInBounds (o+i) v) _ (setRow_heap w g cur _ t fr y) (by simp at I ⊢;omega)
   (λj V=>G j (by simpa using V)) (λu Z=>h1 u (mem_cons_of_mem _ Z))]
  congr 1;have M:∀(a b:Array Value),(w.setRow g a).setRow g b=w.setRow g b:=by
   intro a b;obtain⟨R,af,aa,ad,output⟩:=w;simp only[World.setRow];congr 1;apply Array.ext_getElem?;intro k;rw[Array.getElem?_modify,Array.getElem?_modify,Array.getElem?_modify];by_cases H:g=k
   ·subst H;have U:R[g]? =some (.cells cur t fr):=y;simp[U]
   ·simp only[if_neg H]
  rw[M];congr 1;apply Array.ext';simp only[Array.toList_setIfInBounds,length_cons];apply List.ext_getElem?;intro k;have Y:cur.toList.length=cur.size:=by simp
  simp only[List.getElem?_append,length_append,length_take,List.length_set,List.getElem?_take,List.getElem?_drop,length_cons,Y,List.getElem?_set];by_cases c1:k<o+i
  ·have: ¬ o+i=k:=by omega
   simp[c1,this,show k<min (o+(i+1)) cur.size by omega,show k<min (o+i) cur.size by omega,show k<o+(i+1) by omega,
    show k<min (o+(i+1)) cur.size+rest.length by omega,show k<min (o+i) cur.size+(rest.length+1) by omega]
  ·by_cases J:k=o+i
   ·subst J;have e3:min (o+i) cur.size=o+i:=by omega
    have D:min (o+(i+1)) cur.size=o+i+1:=by omega
    simp[e3,D,E,show o+i<o+i+1+rest.length by omega,show o+i<o+(i+1) by omega]
   ·have e3:min (o+i) cur.size=o+i:=by omega
    have D:min (o+(i+1)) cur.size=o+i+1:=by omega
    by_cases F:k<o+i+1+rest.length
    ·have e5:k-(o+i)=(k-(o+i+1))+1:=by omega
     simp[e3,D,F,show k<o+i+(rest.length+1) by omega,show ¬ k<o+i+1 by omega,show ¬ k<o+i by omega,e5]
    ·have ac: ¬ o+i=o+(i+1)+rest.length+(k-(o+i+1+rest.length)):=by omega
     have O:o+(i+1)+rest.length+(k-(o+i+1+rest.length))=o+i+(rest.length+1)+(k-(o+i+(rest.length+1))):=by omega
     simp[e3,D,F,show ¬ k<o+i+(rest.length+1) by omega,O];intro h;omega
def Src {α:Type}(T:Ty α)(w:World)(A:Bl)(y:Option Addr)(m:Nat)(ys:List α):Prop:=
 m=ys.length/\(ys=[]\/∃b off,y=some ⟨b,off,none⟩/\At T w A b off ys)
def Flat {α:Type}(T:Ty α):Prop:=∀w A w' A' vs x,T.rep w A vs x->T.rep w' A' vs x
theorem jc.flat {T:Ty o}(D:Flat T){w w':World}{A y:Bl}{l:List Value}{xs:List o}(h:jc T w A l xs):jc T w' y l xs:=⟨h.len,λi E=>D _ _ _ _ _ _ (h.rep i E)⟩
theorem Sl.flat {T:Ty o}(G:Flat T){A D:Bl}{a:Option Addr}{n c:Nat}{xs:List o}(h:Sl T w A a n c xs):Src T w D a n xs:=by
 obtain⟨h1,H,I,y⟩:=h;refine⟨h1,?_⟩;rcases y with y|⟨b,off,e,M,J,l,E,F⟩
 ·exact .inl y
 ·exact .inr ⟨b,off,e,l,E.flat G,F⟩
theorem Src.new1 {T:Ty o}{A:Bl}{vs:List Value}{x:o}{b:Nat}{w':World}(y:b=w.heap.size)(E:w'=w.alloc (.cells vs.toArray t))(h:T.rep w A vs x)(F:∀i,A i->i<w.heap.size):
 Src T w' A (some ⟨b,0,none⟩) 1 [x]:=by
 subst y E;refine⟨rfl,.inr ⟨_,0,rfl,vs,jc.one (T.keep h ⟨by simp,λi D _=>heap_alloc_old w _ i D⟩),λj G=>?_⟩⟩;rw[iW (heap_alloc_new w _),Nat.zero_add];simp
theorem Src.new1F {T:Ty o}(D:Flat T){A:Bl}{vs:List Value}{x:o}{b:Nat}{w':World}(y:b=w.heap.size)(E:w'=w.alloc (.cells vs.toArray t))(h:T.rep w A vs x):
 Src T w' A (some ⟨b,0,none⟩) 1 [x]:=by
 subst y E;refine⟨rfl,.inr ⟨_,0,rfl,vs,jc.one (D _ _ _ _ _ _ h),λj F=>?_⟩⟩;rw[iW (heap_alloc_new w _),Nat.zero_add];simp
theorem AG {b off:Nat}{l:List Value}(h:∀j,j<l.length->w.cell? ⟨b,off+j,none⟩=l[j]?):∀j v,l[j]? =some v->w.cell? ((⟨b,off,none⟩:Addr).add j)=some v:=λj v y=>by
 rw[gQ,h j (List.getElem?_eq_some_iff.1 y).1];exact y
theorem ff {T:Ty o}{st t ty:TypeId}{bytes:Nat}{z:Value}(I:P.underlying st=some (.slice t))(a9:TF P t T.k bytes z)(bq:0<bytes)
 {A:Bl} {a:Option Addr} {n c:Nat} {xs:List o} (b8:Ow T t w A a n c xs) (bk:∀g,fm a=some g-> ¬ A g)
 {m cm:Nat} {ys:List o} (cb:Src T w A p m ys) (V:(xs.length+ys.length)*bytes <=140737488355328):
 ∃(w':World) (U:Option Addr) (n' c':Nat),(Builtin.append_ #[st,st] ty #[.slice a n c,.slice p m cm]).run P w=.ok (.slice U n' c') w'/\Ow T t w' A U n' c' (xs++ys)/\w.grownBy w' (fm a)/\
  (∀g,fm U=some g->fm a=some g\/w.heap.size <=g):=by
 obtain⟨i,G,H,ag,av⟩:=a9.info;have a0:=a9.cells;have ch:=T.pos;obtain⟨b6,cf,bs,b9⟩:=b8;obtain⟨b5,af⟩:=cb;subst b6 b5;have cc:xs.length+ys.length <=140737488355328:=Nat.le_trans (Nat.le_mul_of_pos_right _ bq) V;have aa:xs.length+ys.length <=maxLen:=by unfold maxLen;omega
 have b2:∀{w'},w.grownBy w' (fm a)->EM A w w':=λE=>jf E λb bp e=>bk b e.symm bp;rcases b9 with⟨rfl,rfl,rfl⟩|⟨g,cur,fr,rfl,E,aj,bt,ad⟩
 ·
  rcases af with rfl|⟨b,off,rfl,l,y,F⟩
  ·refine⟨w,none,0,0,?_,Ow.nil T t w A,⟨rfl,rfl,rfl,Nat.le_refl _,λ_ _ _=>rfl⟩,λg h=>by cases h⟩;have bu:(Builtin.firstCells i.size 0 (.slice p 0 cm)).run P w=.ok #[] w:=by
    cases p with
    |none=>rfl
    |some p=>simp[Builtin.firstCells,loadCells,loadCellsFrom]
   simp[Builtin.append_,bT I,fH G,Builtin.lenOf,bu]
  ·by_cases be:ys.length=0
   ·have:ys=[]:=List.eq_nil_of_length_eq_zero be;subst this;refine⟨w,none,0,0,?_,Ow.nil T t w A,⟨rfl,rfl,rfl,Nat.le_refl _,λ_ _ _=>rfl⟩,λg h=>by cases h⟩;simp[Builtin.append_,bT I,fH G,Builtin.lenOf,Builtin.firstCells,loadCells,loadCellsFrom]
   ·have ac:=run_append_nil (P:=P) w st ty t i z I G av ⟨b,off,none⟩ ys.length cm l (by rw[y.len,H]) (AG F) (by omega) (by simp at cc;omega) (by rw[ag];simp at V;omega);refine⟨_,_,_,_,ac,?_,⟨rfl,rfl,rfl,by simp,λk D _=>heap_alloc_old w.drew _ k D⟩,λg h=>.inr (by simp[fm]at h;omega)⟩;have Z:=grownCap_ge w ys.length 0 t;have Y:grownCap w ys.length 0 t <=maxLen:=grownCap_le_maxLen w ys.length 0 t (by simp at aa;exact aa);refine⟨by simp,Z,Y,.inr ⟨_,_,(0,0),rfl,heap_alloc_new w.drew _,λi _=>by simp,?_,?_⟩⟩
    ·simp only[Array.size_append,size_toArray,size_zeroCells,a0,y.len,<- Nat.add_mul];congr 1;omega
    ·rw[nil_append];simp only[Array.toList_append];rw[<- y.len,List.take_left];exact y.keep ⟨by simp,λk D _=>heap_alloc_old w.drew _ k D⟩
 ·have cd:g<w.heap.size:=(Array.getElem?_eq_some_iff.1 E).1;have R:(cur.toList.take (xs.length*T.k)).length=xs.length*T.k:=ad.len;obtain⟨l,y,bw⟩:∃l,jc T w A l ys/\(Builtin.firstCells i.size ys.length (.slice p ys.length cm)).run P w=.ok l.toArray w:=by
   rcases af with rfl|⟨b,off,rfl,l,y,F⟩
   ·refine⟨[],jc.nil T w A,?_⟩;cases p with
    |none=>rfl
    |some p=>simp[Builtin.firstCells,loadCells,loadCellsFrom]
   ·exact⟨l,y,run_firstCells_some (P:=P) w i.size ys.length ⟨b,off,none⟩ _ _ l (by rw[y.len,H]) (AG F)⟩
  have b3:((cur.toList.take (xs.length*T.k))++l).length=(xs.length+ys.length)*T.k:=by rw[length_append,R,y.len,Nat.add_mul]
  by_cases M:xs.length+ys.length <=c
  ·have b0:xs.length*T.k+l.length <=cur.size:=by rw[y.len,bt,<- Nat.add_mul];exact Nat.mul_le_mul_right _ M
   have an:=jx (P:=P) g (xs.length*T.k) t fr l 0 cur w E (by simpa using b0) aj y.ones;simp only[Nat.add_zero]at an;refine⟨w.setRow g (cur.toList.take (xs.length*T.k)++l++cur.toList.drop (xs.length*T.k+l.length)).toArray,some ⟨g,0,none⟩,xs.length+ys.length,c,?_,?_,gg w g _,λbb h=>.inl h⟩
   ·have bl:(⟨g,0,none⟩:Addr).add (xs.length*i.size)=⟨g,xs.length*T.k,none⟩:=by rw[gQ,H,Nat.zero_add]
    simp only[Builtin.append_,Sem.run_bind,bT I,fH G,Builtin.lenOf,Sem.run_pure,Result.andThen_ok,M,List.getElem?_toArray,List.getElem?_cons_zero,List.getElem?_cons_succ,if_true,Bool.false_eq_true,if_false,Bool.not_false,bw,bl,an]
   ·refine⟨by simp,M,bs,.inr ⟨g,_,fr,rfl,setRow_heap w g cur _ t fr E,?_,?_,?_⟩⟩
    ·intro j b1;refine aj j ?_;simp at b1;omega
    ·simp;omega
    ·have e:((cur.toList.take (xs.length*T.k)++l++cur.toList.drop (xs.length*T.k+l.length)).toArray).toList.take ((xs.length+ys.length)*T.k)=cur.toList.take (xs.length*T.k)++l:=by
      rw[<- b3];simp only[];exact List.take_left
     rw[e];exact(ad.append y).keep (b2 (gg w g _))
  ·have holds:∀j v,(cur.toList.take (xs.length*T.k))[j]? =some v->w.cell? ((⟨g,0,none⟩:Addr).add j)=some v:=λj v O=>by
    rw[gQ,Nat.zero_add,iW E];rw[List.getElem?_take]at O;split at O
    ·simpa using O
    ·cases O
   have b7:ys≠[]:=by
    intro e;subst e;simp at M;omega
   rcases af with rfl|⟨b,off,rfl,a8,J,F⟩
   ·exact absurd rfl b7
   ·have ac:=run_append_grow (P:=P) w st ty t i z I G av ⟨g,0,none⟩ xs.length c (cur.toList.take (xs.length*T.k)) (by rw[R,H]) holds ⟨b,off,none⟩ ys.length cm a8 (by rw[J.len,H]) (AG F)
     (by omega) (by omega) (growslice_fits (by omega) (by rw[ag];exact V))
    refine⟨_,_,_,_,ac,?_,⟨rfl,rfl,rfl,by simp,λk D _=>heap_alloc_old w.drew _ k D⟩,λbb h=>.inr (by simp[fm]at h;omega)⟩;have Z:=grownCap_ge w (xs.length+ys.length) c t;have Y:grownCap w (xs.length+ys.length) c t <=maxLen:=grownCap_le_maxLen w _ c t aa;have b4:((cur.toList.take (xs.length*T.k))++a8).length=(xs.length+ys.length)*T.k:=by rw[length_append,R,J.len,Nat.add_mul]
    refine⟨by simp,Z,Y,.inr ⟨_,_,(0,0),rfl,heap_alloc_new w.drew _,λi _=>by simp,?_,?_⟩⟩
    ·simp only[Array.size_append,size_toArray,size_zeroCells,a0,R,J.len,<- Nat.add_mul];congr 1;omega
    ·simp only[Array.toList_append];rw[<- b4,List.take_left];exact(ad.append J).keep ⟨by simp,λk D _=>heap_alloc_old w.drew _ k D⟩
theorem run_storeVar_row {t u:TypeId}{D:TypeInfo}(G:P.info? t=some D){g o:Nat}{fr:Nat×Nat}(F:w.heap[g]? =some (.cells y u fr))
 (E:∀i,i<y.size-> ¬ (fr.1 <=i/\i<fr.2)) {v:Value} (H:v.cells.size=D.size) (I:o+D.size <=y.size) (h1:∀c∈v.cells.toList,c.oneCell'=true):
 (Instr.storeAt t (.pointer (some ⟨g,o,none⟩)) v).run P w=.ok () (w.setRow g (y.toList.take o++v.cells.toList++y.toList.drop (o+v.cells.size)).toArray):=by
 show(do storeVar t (<- Instr.sureAddr (.pointer (some ⟨g,o,none⟩))) v).run P w=_;rw[Sem.run_bind,io,Result.andThen_ok];unfold storeVar;rw[Sem.run_bind,fH G,Result.andThen_ok,if_neg (by simp[H])];have:=jx (P:=P) g o u fr v.cells.toList 0 y w F (by simp;omega) E h1;simpa using this
theorem Ow.store {T:Ty o}{bytes:Nat}{z:Value}(an:TF P t T.k bytes z){A:Bl}{a:Option Addr}{n c:Nat}{xs:List o}(ad:Ow T t w A a n c xs)(F:∀g,fm a=some g-> ¬ A g)
 {i:Int} (y:i.toNat<xs.length) (aa:T.k=k) {v:Value} {x:o} (D:T.rep w A v.cells.toList x):
 ∃w',(Instr.storeAt t (.pointer (aw a i k)) v).run P w=.ok () w'/\Ow T t w' A a n c (xs.set i.toNat x)/\w.grownBy w' (fm a):=by
 subst aa;obtain⟨a8,aj,M,_,_⟩:=an.info;have O:=T.len D;have av:=F;obtain⟨ac,J,V,af⟩:=ad;rcases af with⟨_,_,rfl⟩|⟨g,cur,fr,rfl,I,H,Y,ag⟩
 ·cases y
 ·subst ac;have G:i.toNat*T.k+T.k <=xs.length*T.k:=by
   have:=Nat.mul_le_mul_right T.k (show i.toNat+1 <=xs.length from y)
   rwa [Nat.add_mul,Nat.one_mul]at this
  have a0:xs.length*T.k <=cur.size:=by rw[Y];exact Nat.mul_le_mul_right _ J
  have R:v.cells.size=T.k:=by simpa using O
  rw[uv,Nat.zero_add];refine⟨_,run_storeVar_row aj I H (by rw[R,M]) (by rw[M];omega) (T.one D),?_,gg w g _⟩;refine⟨by simp,J,V,.inr ⟨g,_,fr,rfl,setRow_heap w g cur _ t fr I,?_,?_,?_⟩⟩
  ·intro j Z;refine H j ?_;simp at Z;omega
  ·simp;omega
  ·have h1:=(ag.set y D).keep (jf (gg w g (cur.toList.take (i.toNat*T.k)++v.cells.toList++cur.toList.drop (i.toNat*T.k+v.cells.size)).toArray) λb G e=>F g rfl (by cases e;exact G));have e:((cur.toList.take (i.toNat*T.k)++v.cells.toList++cur.toList.drop (i.toNat*T.k+v.cells.size)).toArray).toList.take (xs.length*T.k)=
    (cur.toList.take (xs.length*T.k)).take (i.toNat*T.k)++v.cells.toList++(cur.toList.take (xs.length*T.k)).drop (i.toNat*T.k+v.cells.toList.length):=by
    simp only[];have U:(cur.toList.take (xs.length*T.k)).take (i.toNat*T.k)=cur.toList.take (i.toNat*T.k):=by rw[List.take_take];congr 1;omega
    rw[U,List.take_append,List.drop_take];have E:(cur.toList.take (i.toNat*T.k)++v.cells.toList).length=i.toNat*T.k+T.k:=by simp[R];omega
    rw[E,take_of_length_le (by rw[E];omega)];congr 2;rw[O]
   rw[e];exact h1
theorem sK {w w':World}(E:w'.os=w.os)(G:w'.tape=w.tape)(D:w'.output=w.output)(F:w.heap.size <=w'.heap.size)(y:∀k,k<w.heap.size->w'.heap[k]? =w.heap[k]?):Below w.heap.size w w':=⟨E,G,D,F,y⟩
theorem mQ {e:o->Value}{h1:∀x,(e x).oneCell'=true}{p:o->Prop}{A:Bl}{xs:List o}(hp:∀x∈xs,p x):jc (Ty.enc e h1 p) w A (xs.map e) xs:=by
 refine⟨by simp[Ty.enc],λi y=>?_⟩;have:((xs.map e).drop (i*1)).take 1=[e xs[i]]:=by
  rw[Nat.mul_one,<- List.map_drop,drop_eq_getElem_cons y];rfl
 exact⟨this,hp _ (getElem_mem y)⟩
theorem jL {e:o->Value}{h1:∀x,(e x).oneCell'=true}{p:o->Prop}{A:Bl} :∀{l:List Value} {xs:List o},jc (Ty.enc e h1 p) w A l xs->l=xs.map e:=by
 intro l xs h;have F:l.length=xs.length:=by have:=h.len;simpa[Ty.enc]using this
 apply List.ext_getElem (by simp[F]);intro i h1 G;have E:i<xs.length:=by omega
 have D:((l.drop (i*1)).take 1)=[e xs[i]]:=(h.rep i E).1;have y:((l.drop (i*1)).take 1)[0]? =some (e xs[i]):=by rw[D];rfl
 rw[Nat.mul_one,List.getElem?_take,if_pos (by decide),List.getElem?_drop,Nat.add_zero,List.getElem?_eq_getElem h1]at y;rw[List.getElem_map];exact Option.some.inj y
theorem oI {s d t:TypeId}(R:P.underlying s=some .string)(H:P.underlying d=some (.slice t))(V:P.underlying t=some (.int .u8))(w:World)(l:lU)(Z:l.length <=9223372036854775807)(A:Bl):
 ∃(w':World) (a:Option Addr) (n c:Nat),(convert s d (.string (mkS l))).run P w=.ok (.slice a n c) w'/\Ow tU8 t w' A a n c l/\Below w.heap.size w w'/\bo w.heap.size a:=by
 have E:∃cap,l.length <=cap/\cap <=maxLen/\(choose (.appendCap l.length 0 t)).run P w=.ok cap w.drew:=by
  refine⟨_,grownCap_ge w l.length 0 t,grownCap_le_maxLen w l.length 0 t (by unfold maxLen;omega),?_⟩;rw[run_choose];rfl
 obtain⟨cap,h1,D,F⟩:=E;have U:(mkS l).size=l.length:=rfl;generalize y:(mkS l).data.map (λb=>Value.int .u8 (b.toNat:Nat))++Array.replicate (cap-l.length) (Value.int .u8 0)=cs;have G:cs.size=cap:=by rw[<- y];simp[mkS];omega
 have O:(markStringish ⟨w.heap.size,0,none⟩).run P (w.drew.alloc (.cells cs t))=.ok () ((w.drew.alloc (.cells cs t)).freeze ⟨w.heap.size,cs.size,none⟩ 1):=by
  unfold markStringish;have:(w.drew.alloc (.cells cs t)).shape? w.heap.size=some (t,cs.size):=by
   unfold World.shape?;have:=heap_alloc_new w.drew (.cells cs t);rw[show w.drew.heap.size=w.heap.size from rfl]at this;rw[this]
  simp[this]
 refine⟨(w.drew.alloc (.cells cs t)).freeze ⟨w.heap.size,cs.size,none⟩ 1,some ⟨w.heap.size,0,none⟩,l.length,cap,?_,?_,?_,λg I=>by simp[fm]at I;omega⟩
 ·simp only[convert,Sem.run_bind,bT R,bT H,Result.andThen_ok,bT V,Conv.stringToBytes,U,F];show((newRow t _).run P w.drew).andThen _=_;rw[y];simp only[newRow,Sem.run_bind,run_newObj,Result.andThen_ok,Sem.run_pure,World.alloc_eq];rw[show w.drew.heap.size=w.heap.size from rfl,O];rfl
 ·have J:((w.drew.alloc (.cells cs t)).freeze ⟨w.heap.size,cs.size,none⟩ 1).heap[w.heap.size]? =some (.cells cs t (cs.size,cs.size+1)):=by
   have:=heap_alloc_new w.drew (.cells cs t);rw[show w.drew.heap.size=w.heap.size from rfl]at this;simp only[World.freeze,if_neg (show ¬ (1:Nat)=0 by decide),Array.getElem?_modify,if_true,this];rfl
  refine⟨rfl,h1,D,.inr ⟨_,_,_,rfl,J,λi Y=>by omega,by rw[G];exact(Nat.mul_one cap).symm,?_⟩⟩;have e:cs.toList.take (l.length*tU8.k)=l.map λc=>Value.int .u8 (c.toNat:Nat):=by
   rw[<- y];simp[mkS,tU8,Ty.enc]
  rw[e];exact mQ λ_ _=>trivial
 ·refine sK rfl rfl rfl (by simp[World.freeze]) λk M=>?_;simp only[World.freeze,if_neg (show ¬ (1:Nat)=0 by decide),Array.getElem?_modify];rw[if_neg (show ¬ w.heap.size=k by omega)];exact heap_alloc_old w.drew _ k M
theorem mC {s d t:TypeId}(O:P.underlying s=some (.slice t))(M:P.underlying d=some .string)(R:P.underlying t=some (.int .u8)){A:Bl}{a:Option Addr}{n c:Nat}{xs:lU}(h:Sl tU8 w A a n c xs):
 (convert s d (.slice a n c)).run P w=.ok (.string (mkS xs)) w:=by
 have conv:(convert s d (.slice a n c)).run P w=(Conv.bytesToString (.slice a n c)).run P w:=by
  cases a<;>simp[convert,bT O,bT M,bT R]
 rw[conv];obtain⟨G,_,_,D⟩:=h;have loop:∀(E:String) (l:lU) (y:lU),(do
  let r <- forIn (l.map λc=>Value.int .u8 (c.toNat:Nat)) (mkS y) λc r=>do
   let .int .u8 n:=c|stuck E
   pure (ForInStep.yield (r.push (UInt8.ofNat n.toNat)))
  pure (Value.string r):Sem Value).run P w=.ok (.string (mkS (y++l))) w:=by
  intro E l;induction l with
  |nil=>intro y;simp
  |cons x l U=>
   intro y;have H:(mkS y).push x=mkS (y++[x]):=by simp[mkS,ByteArray.push]
   have:=U (y++[x]);simp only[map_cons,List.forIn_cons,bind_assoc,pure_bind,Int.toNat_natCast,UInt8.ofNat_toNat,H];rw[this];simp
 cases a with
 |none=>
  have:xs=[]:=by
   rcases D with D|⟨b,off,e,_⟩
   ·exact D
   ·cases e
  subst this;simp[Conv.bytesToString];rfl
 |some p=>
  have J:(loadCells p n).run P w=.ok (xs.map λc=>Value.int .u8 (c.toNat:Nat)).toArray w:=by
   rcases D with D|⟨b,off,e,Y,V,l,F,I⟩
   ·subst D;subst G;simp[loadCells,loadCellsFrom]
   ·cases e;have:=Je (P:=P) I;rw[F.len]at this;rw[jL F]at this;rw[G];simpa[tU8,Ty.enc]using this
  have key:∃E:String,(Conv.bytesToString (.slice (some p) n c)).run P w=((loadCells p n).run P w).andThen λcs w'=>(do
   let r <- forIn cs (mkS []) λc r=>do
    let .int .u8 n:=c|stuck E
    pure (ForInStep.yield (r.push (UInt8.ofNat n.toNat)))
   pure (Value.string r):Sem Value).run P w':=by
   constructor;unfold Conv.bytesToString;simp only[Sem.run_bind];rfl
  obtain⟨E,key⟩:=key;rw[key,J,Result.andThen_ok];have:=loop E xs [];rw[nil_append]at this;rw[<- this];simp only[List.forIn_toArray]
theorem wrap_i64 {n:Int}(h1: -9223372036854775808 <=n)(y:n <=9223372036854775807):i64.wrap n=n:=IntWalk.i64_in n ⟨h1,y⟩
theorem wrJ {n:Int}(h: -9223372036854775808 <=n:=by omega)(e:n <=9223372036854775807:=by omega):i64.wrap n=n:=wrap_i64 h e
theorem wrap_u8 {n:Int}(h1:0 <=n)(y:n <=255):IntKind.u8.wrap n=n:=IntWalk.u8_in n ⟨h1,y⟩
theorem ov (c:UInt8):(0:Int) <=(c.toNat:Nat)/\((c.toNat:Nat):Int) <=255:=by
 have:=c.toNat_lt;omega
theorem iq {i:Int}(h:i.toNat<s.length):aU s i=((s[i.toNat]).toNat:Nat):=by
 simp[aU,h]
theorem yR {a b:UInt8}(h:((a.toNat:Nat):Int)=((b.toNat:Nat):Int)):a=b:=UInt8.toNat_inj.1 (by omega)
theorem pW {A:Bl}{n:Int}{c:UInt8}(h:n=((c.toNat:Nat):Int)):tU8.rep w A [.int .u8 n] c:=⟨by rw[h],trivial⟩
theorem Qc {A:Bl}{n:Int} :KD.rep w A [.int .i64 n] n:=⟨rfl,trivial⟩
theorem mu {A:Bl}{p:lU->Prop}(h:p s):(XU p).rep w A [.string (mkS s)] s:=⟨rfl,h⟩
theorem CP {A:Bl}{v:Value}{c:UInt8}(h:tU8.rep w A [v] c):v=.int .u8 (c.toNat:Nat):=by have:=h.1;simpa using this
theorem F2 {A:Bl}{v:Value}{n:Int}(h:KD.rep w A [v] n):v=.int .i64 n:=by have:=h.1;simpa using this
theorem vd {A:Bl}{p:lU->Prop}{v:Value}(h:(XU p).rep w A [v] s):v=.string (mkS s)/\p s:=⟨by have:=h.1;simpa using this,h.2⟩
theorem bo.app {B:Nat}{a a':Option Addr}(D:bo B a)(y:B <=w.heap.size)(h:∀g,fm a'=some g->fm a=some g\/w.heap.size <=g):bo B a':=λg E=>by
 rcases h g E with h|h
 ·exact D g h
 ·exact Nat.le_trans y h
theorem FQ:Flat KD:=λ_ _ _ _ _ _ h=>h
theorem nu:Flat tU8:=λ_ _ _ _ _ _ h=>h
theorem eX (p:lU->Prop):Flat (XU p):=λ_ _ _ _ _ _ h=>h
theorem Ow.newF {T:Ty o}(D:Flat T){w w':World}{A:Bl}{l:List Value}{xs:List o}{b:Nat}(y:b=w.heap.size)(F:w'=w.alloc (.cells l.toArray t))(h:jc T w A l xs)(E:xs.length <=maxLen):
 Ow T t w' A (some ⟨b,0,none⟩) xs.length xs.length xs:=by
 subst y F;refine⟨rfl,Nat.le_refl _,E,.inr ⟨_,l.toArray,(0,0),rfl,heap_alloc_new w _,?_,by simpa using h.len,?_⟩⟩
 ·intro i G;simp
 ·rw[<- h.len];simp;exact h.flat D
theorem kx {b:Nat}(D:b=w.heap.size):bo w.heap.size (some ⟨b,0,none⟩):=λg y=>by simp[fm]at y;omega
def Ys {α:Type}(P:Program)(T:Ty α)(t:TypeId):Prop:=
 ∀(H:Type) (enc:TypeId×Value->H) (w:World) (fuel:Nat) (cs:List Value) (x:DataW H×List MemPlace),DataW.trod enc P w 0 (λ_=>true) true fuel t cs=some x->∃a,T.rep w qw cs a
theorem BG (D:P.underlying t=some .string):Ys P (XU λs=>s.length <=maxLen) t:=λE enc w fuel cs x h=>by
 obtain⟨s,e,_,y⟩:=DataW.trod_string D h;exact⟨toL s,e,y⟩
theorem MU {r:Reach}{base:Nat}{v:Value}{d:TypeDesc}(D:P.underlying t=some d)(y:HI d=true)(h:Value.okWide P w r base t v):∃cs:List Value,v=.agg cs.toArray:=by
 unfold Value.okWide at h;rw[D]at h;cases d<;>first|(obtain⟨cs,rfl,_⟩:=h;exact⟨cs.toList,by simp⟩)|(cases y;done)
theorem xt {enc:TypeId×Value->o}{C:Checked}{H:Os}{f:FuncId}{E:Func}{s:OpenSpec}{D:List PathCond}{G:List (String×DataW Unit)}(modest:Bool)(w0:World)(args:Array Value)(I:w0.os=H)
 (M:(w0.forCall (λ_ _=>0) ⟨#[],args,[]⟩).Shaped C.prog)
 (F:Input.okWideB C.prog (w0.forCall (λ_ _=>0) ⟨#[],args,[]⟩) f ⟨#[],args,[]⟩=true)
 (J:s.preRow enc C.prog E D z G (w0.forCall (λ_ _=>0) ⟨#[],args,[]⟩).memory args):
 ∃(w:World) (y:Tape) (i:Input),w.os=H/\(w.forCall y i).Shaped C.prog/\i.vars=[]/\Input.okWide C.prog (w.forCall y i) .any w.heap.size f i/\
  s.preRow enc C.prog E D z G (w.forCall y i).memory i.args/\({ modest:=modest } :Assume).holds C.prog (lone (Frame.enter C.prog f i.args .normal) [] (w.forCall y i)):=
 ⟨w0,λ_ _=>0,⟨#[],args,[]⟩,I,M,(Input.okWide_of_okWideB (base:=0) F).1,(Input.okWide_of_okWideB F).2,J,by
  simp only[Assume.holds];exact⟨by simp,by simp,λ_=>Modest.zero,by simp,by simp⟩⟩
def aB (w:World)(k:Nat)(t:TypeId)(vs:List Value):Prop:=w.heap[k]? =some (.cells vs.toArray t (0,0))
theorem aB.new {w w':World}{vs:List Value}(y:k=w.heap.size)(D:w'=w.alloc (.cells vs.toArray t)):aB w' k t vs:=by
 subst y D;exact heap_alloc_new w _
theorem aB.lt {vs:List Value}(h:aB w k t vs):k<w.heap.size:=(Array.getElem?_eq_some_iff.1 (show w.heap[k]? =_ from h)).1
theorem aB.block {w w':World}{vs:List Value}(h:aB w k t vs)(e:w'.heap[k]? =w.heap[k]?):aB w' k t vs:=e.trans h
theorem aB.below {w w':World}{vs:List Value}(h:aB w k t vs)(y:Below w.heap.size w w'):aB w' k t vs:=h.block (y.block k h.lt)
theorem aB.grown {w w':World}{vs:List Value}{row:Option Nat}(h:aB w k t vs)(y:w.grownBy w' row)(D:some k≠row):aB w' k t vs:=h.block (y.block k h.lt D)
theorem aB.cell {vs:List Value}(h:aB w k t vs)(i:Nat):w.cell? ⟨k,i,none⟩=vs[i]? :=by rw[iW h];simp
theorem aB.load1 {u:TypeId}{d:TypeDesc}(D:P.underlying u=some d)(y:HI d=false){vs:List Value}(h:aB w k t vs){v:Value}(E:vs[i]? =some v):
 (Instr.loadAt u (.pointer (some ⟨k,i,none⟩))).run P w=.ok v w:=il D y (by rw[h.cell];exact E)
theorem aB.loadA {u:TypeId}{d:TypeDesc}{y:TypeInfo}(H:P.underlying u=some d)(D:HI d=true)(E:P.info? u=some y){vs us:List Value}(h:aB w k t vs)(G:us.length=y.size)
 (I:∀j,j<us.length->vs[i+j]? =us[j]?):(Instr.loadAt u (.pointer (some ⟨k,i,none⟩))).run P w=.ok (.agg us.toArray) w:=
 uK H D E G λj F=>by rw[h.cell];exact I j F
theorem aB.res {u:TypeId}{p:Addr}{w w':World}{v:Value}(h:(Instr.loadAt u (.pointer (some p))).run P w=.ok v w'):(aS u (.pointer (some p))).run P w=.ok v w':=h
theorem aB.store {u:TypeId}{bytes n:Nat}{z:Value}(G:TF P u n bytes z){vs:List Value}(h:aB w k t vs){v:Value}(y:v.cells.size=n)(E:i+n <=vs.length)(h1:∀c∈v.cells.toList,c.oneCell'=true):
 ∃w',(Instr.storeAt u (.pointer (some ⟨k,i,none⟩)) v).run P w=.ok () w'/\aB w' k t (vs.take i++v.cells.toList++vs.drop (i+n))/\w.grownBy w' (some k):=by
 obtain⟨H,F,D,_,_⟩:=G.info;refine⟨_,run_storeVar_row F (o:=i) h (λi _=>by simp) (by rw[y,D]) (by rw[D];simpa using E) h1,?_,gg w k _⟩;have:=setRow_heap w k vs.toArray (vs.take i++v.cells.toList++vs.drop (i+n)).toArray t (0,0) h;rw[<- y]at this ⊢;exact this
theorem gX {B:(Bool->World->Prop)->Prop}(f:Bool)(E:B (λb w'=>w'=w/\b=f))(h:G f w):
 ∃D:FP [.one (.bool)],B D/\∀b:Bool,aP n (∀y:World,D b y->G b y):=by
 refine⟨λb w'=>w'=w/\b=f,E,λb=>aP.of ?_ _⟩;rintro y ⟨rfl,rfl⟩;exact h
theorem WW {k:IntKind}{E:Int->World->Prop}{B:(Int->World->Prop)->Prop}(f:Int)(F:B (λb w'=>w'=w/\b=f))(h:E f w):
 ∃D:FP [.one (.int k)],B D/\∀b:Int,aP n (∀y:World,D b y->E b y):=by
 refine⟨λb w'=>w'=w/\b=f,F,λb=>aP.of ?_ _⟩;rintro y ⟨rfl,rfl⟩;exact h
theorem Zu {E:lU->World->Prop}{B:(lU->World->Prop)->Prop}(f:lU)(F:B (λb w'=>w'=w/\b=f))(h:E f w):
 ∃D:FP [.one (.str)],B D/\∀b:lU,aP n (∀y:World,D b y->E b y):=by
 refine⟨λb w'=>w'=w/\b=f,F,λb=>aP.of ?_ _⟩;rintro y ⟨rfl,rfl⟩;exact h
theorem jE {E:World->Prop}{B:(World->Prop)->Prop}(Q:Prop)(F:B (λw'=>w'=w/\Q))(h:Q->E w):
 ∃D:FP [],B D/\aP n (∀y:World,D y->E y):=by
 refine⟨λw'=>w'=w/\Q,F,aP.of ?_ _⟩;rintro y ⟨rfl,G⟩;exact h G
theorem iV {D:World->Prop}{B:(World->Prop)->Prop}(Q:World->Prop)(F:B Q)(h:∀w,Q w->D w):
 ∃y:FP [],B y/\aP n (∀E:World,y E->D E):=⟨Q,F,aP.of h _⟩
theorem HP {B:(Bool->World->Prop)->Prop}(Q:Bool->World->Prop)(E:B Q)(h:∀b w,Q b w->G b w):
 ∃y:FP [.one (.bool)],B y/\∀b:Bool,aP n (∀D:World,y b D->G b D):=⟨Q,E,λb=>aP.of (h b) _⟩
theorem Yz {c x:Bool}(h:G (c&&x) w):∃y:FP [.one (.bool)],ab c (y x w) (y false w)/\∀b:Bool,aP n (∀D:World,y b D->G b D):=
 gX (B:=λy=>ab c (y x w) (y false w)) (c&&x) (ab.of (λh=>⟨rfl,by rw[h];rfl⟩) (λh=>⟨rfl,by rw[h];rfl⟩)) h
theorem orJ {c x:Bool}(h:G (c || x) w):∃y:FP [.one (.bool)],ab c (y true w) (y x w)/\∀b:Bool,aP n (∀D:World,y b D->G b D):=
 gX (B:=λy=>ab c (y true w) (y x w)) (c || x) (ab.of (λh=>⟨rfl,by rw[h];rfl⟩) (λh=>⟨rfl,by rw[h];rfl⟩)) h
theorem uQ {T:Ty o}(R:Flat T){st t ty:TypeId}{bytes:Nat}{z:Value}(ag:P.underlying st=some (.slice t))(av:TF P t T.k bytes z)(M:0<bytes)
 {w0 w w1:World} {a:Option Addr} {n c:Nat} {xs:List o} (Z:Ow T t w NoB a n c xs) (H:bo w0.heap.size a) (G:Below w0.heap.size w0 w) {E:Nat} {vs:List Value} {x:o} (Y:E=w.heap.size)
 (I:w1=w.alloc (.cells vs.toArray t)) (aj:T.rep w NoB vs x) {cm:Nat} (O:(xs.length+1)*bytes <=140737488355328):
 ∃(w2:World) (y:Option Addr) (n' c':Nat),(Builtin.append_ #[st,st] ty #[.slice a n c,.slice (some ⟨E,0,none⟩) 1 cm]).run P w1=.ok (.slice y n' c') w2/\Ow T t w2 NoB y n' c' (xs++[x])/\bo w0.heap.size y/\Below w0.heap.size w0 w2:=by
 have F:Below w.heap.size w w1:=I▸ar w _;have aa:=Z.below F;have af:Src T w1 NoB (some ⟨E,0,none⟩) 1 [x]:=Src.new1F R Y I aj;obtain⟨a0,a4,an,J,ad,ac,V,U⟩:=ff (ty:=ty) ag av M aa (λ_ _ h=>h) (cm:=cm) af (by simpa using O);have D:=ae G F G.size;exact⟨a0,a4,an,J,ad,ac,H.app D.size U,D.grown V D.size H⟩
theorem kz {f:FuncId}{args:Array Value}{v:Value}(h:Calls P f args u (Ret λv' w'=>v'=v/\Below u.heap.size u w'))(D:Below w.heap.size w u):
 Calls P f args u λe w'=>e=.returned v/\Below w.heap.size u w':=by
 refine h.mono ?_;rintro _ w' ⟨_,rfl,rfl,y⟩;exact⟨rfl,y.mono D.size⟩
theorem fits {a b:Nat}(h:a+b <=9223372036854775807):((a+b:Nat):Int) <=i64.max:=by simp[IntKind.max,IntKind.bits];omega
theorem nf (p:o->Bool):∀(s:List o) (k:Nat) (y:k<s.length),k <=(s.takeWhile p).length->(p s[k]=true↔k<(s.takeWhile p).length)
 |[],k,y,_=>by cases y
 |c::s,0,y,_=>by
  rw[List.takeWhile_cons];simp only[List.getElem_cons_zero];cases h:p c<;>simp
 |c::s,k+1,y,h=>by
  rw[List.takeWhile_cons]at h ⊢;cases D:p c with
  |false=>rw[D]at h;simp at h
  |true=>
   rw[D]at h;simp only[if_true,length_cons]at h ⊢;have:=nf p s k (by simpa using y) (by omega);simp only[List.getElem_cons_succ];rw[this];omega
theorem yQ (p:o->Bool)(s:List o):(s.takeWhile p).length <=s.length:=(List.takeWhile_sublist p).length_le
def bE (c:UInt8):lU->lU->List lU
 |cur,[]=>[cur]
 |cur,x::r=>if x=c then cur::bE c [] r else bE c (cur++[x]) r
theorem Li (c:UInt8):∀(a cur r:lU),(∀x∈a,x≠c)->bE c cur (a++c::r)=(cur++a)::bE c [] r
 |[],cur,r,_=>by
  show(if c=c then _ else _)=_;rw[if_pos rfl,append_nil]
 |x::a,cur,r,y=>by
  show(if x=c then _ else _)=_;rw[if_neg (y x mem_cons_self)];exact(Li c a (cur++[x]) r λE D=>y E (mem_cons_of_mem _ D)).trans (by simp)
theorem Ib (c:UInt8):∀(a cur:lU),(∀x∈a,x≠c)->bE c cur a=[cur++a]
 |[],cur,_=>by simp[bE]
 |x::a,cur,y=>by
  show(if x=c then _ else _)=_;rw[if_neg (y x mem_cons_self)];exact(Ib c a (cur++[x]) λE D=>y E (mem_cons_of_mem _ D)).trans (by simp)
theorem Up (c:UInt8)(s cur:lU)(k:Nat)(h:k<s.length):bE c cur (s.drop k)=if s[k]=c then cur::bE c [] (s.drop (k+1))else bE c (cur++[s[k]]) (s.drop (k+1)):=by
 rw[drop_eq_getElem_cons h];rfl
theorem jN (c:UInt8):∀(s cur:lU),bE c cur s≠[]
 |[],cur=>by simp[bE]
 |x::s,cur=>by
  show(if x=c then _ else _)≠_;split
  ·simp
  ·exact jN c s _
theorem gp (c:UInt8):∀(s cur x:lU),x∈bE c cur s->x.length <=cur.length+s.length
 |[],cur,x,h=>by simp[bE]at h;subst h;simp
 |y::r,cur,x,h=>by
  unfold bE at h;split at h
  ·rcases List.mem_cons.1 h with rfl|h
   ·simp
   ·have:=gp c r [] x h;simp at this ⊢;omega
  ·have:=gp c r _ x h;simp at this ⊢;omega
theorem dK (c:UInt8):∀(s cur:lU),(bE c cur s).length <=s.length+1
 |[],cur=>by simp[bE]
 |y::r,cur=>by
  unfold bE;split
  ·have:=dK c r [];simp;omega
  ·have:=dK c r (cur++[y]);simp;omega
theorem gn (c:UInt8):∀(s cur r:lU),bE c cur (s++c::r)=bE c cur s++bE c [] r
 |[],cur,r=>by
  show(if c=c then _ else _)=_;rw[if_pos rfl];rfl
 |x::s,cur,r=>by
  show(if x=c then cur::bE c [] (s++c::r)else bE c (cur++[x]) (s++c::r))=(if x=c then cur::bE c [] s else bE c (cur++[x]) s)++bE c [] r;split
  ·rw[gn c s];rfl
  ·rw[gn c s]
theorem MH (s:lU)(c:UInt8):(Lib.index s [c]= -1/\∀x∈s,x≠c)\/∃i:Nat,Lib.index s [c]=(i:Int)/\∃h:i<s.length,s=s.take i++c::s.drop (i+1)/\∀x∈s.take i,x≠c:=by
 induction s with
 |nil=>exact .inl ⟨rfl,λx h=>by cases h⟩
 |cons b l H=>
  by_cases h:b=c
  ·subst h;refine .inr ⟨0,by rw[Lib.index];simp[List.isPrefixOf],by simp,rfl,λx h=>by simp at h⟩
  ·have hp:([c]:lU).isPrefixOf (b::l)=false:=by simp[List.isPrefixOf,Ne.symm h]
   have E:Lib.index (b::l) [c]=if Lib.index l [c]== -1 then -1 else Lib.index l [c]+1:=by rw[Lib.index,hp];simp
   rcases H with⟨h1,D⟩|⟨i,h1,D,F,G⟩
   ·refine .inl ⟨by rw[E,h1];rfl,λx y=>?_⟩;rcases List.mem_cons.1 y with rfl|y
    ·exact h
    ·exact D x y
   ·refine .inr ⟨i+1,?_,by simpa using D,?_,λx y=>?_⟩
    ·rw[E,h1,if_neg (by rw[beq_iff_eq];omega)];omega
    ·simp only[List.take_succ_cons,List.drop_succ_cons,List.cons_append];rw[<- F]
    ·rw[List.take_succ_cons]at y;rcases List.mem_cons.1 y with rfl|y
     ·exact h
     ·exact G x y
theorem CA (c:UInt8):∀(n:Nat) (s:lU),s.length <=n->Lib.splitK [c] 0 (Lib.count s [c]) s=bE c [] s
 |n,s,H=>by
  rcases MH s c with⟨h1,y⟩|⟨i,h1,y,D,E⟩
  ·rw[Lib.count_miss h1,Ib c s [] y];rfl
  ·have F:=Lib.count_hit (s:=s) (sub:=[c]) (by simp) h1;cases n with
   |zero=>omega
   |succ n=>
    have G:=CA c n (s.drop (i+1)) (by rw[length_drop];omega);rw[F,Nat.add_comm 1];unfold Lib.splitK;rw[if_neg (by rw[h1,beq_iff_eq];omega),h1];simp only[Int.toNat_natCast,Nat.add_zero,length_cons,length_nil,Nat.zero_add];rw[G]
    conv=>rhs;rw[D,Li c _ _ _ E]
    simp
theorem CB (s:lU)(c:UInt8):(Lib.splitB (mkS [c]) 0 (Lib.countB (mkS s) (mkS [c])) (mkS s)).map Value.string=(bE c [] s).map λx=>Value.string (mkS x):=by
 have h:=Lib.splitB_data (mkS [c]) 0 (Lib.countB (mkS s) (mkS [c])) (mkS s);have y:Lib.splitK (mkS [c]).data.toList 0 (Lib.countB (mkS s) (mkS [c])) (mkS s).data.toList=bE c [] s:=CA c _ s (Nat.le_refl _);rw[y]at h;rw[<- h,List.map_map];rfl
theorem Ky (s:lU)(c:UInt8):Lib.countB (mkS s) (mkS [c])+1=(bE c [] s).length:=by
 have h:=CB s c;have y:=congrArg length h;rw[length_map,length_map,Lib.splitB_all (mkS [c]) (Nat.le_refl 1) 0 _ _ rfl]at y;exact y
def oN (x:lU):lU:=if x.getLast?=some 13 then x.dropLast else x
def fF (s:lU):List lU:=((if(bE 10 [] s).getLast?=some []then(bE 10 [] s).dropLast else bE 10 [] s)).map oN
theorem sJ {l:List o}{x:o}(h:0<l.length)(y:l[l.length-1]'(by omega)=x):l.getLast?=some x:=by
 rw[List.getLast?_eq_getElem?,List.getElem?_eq_getElem (by omega),y]
theorem RF (x:lU):(oN x).length <=x.length:=by unfold oN;split<;>simp
structure Whl (P:Program)(t:TypeId)(n:Nat):Prop where
 tf:∃bytes z,TF P t n bytes z
 ag:(P.underlying t).map HI=some true
def zR (cs:List Value):Prop:=∀c∈cs,c.oneCell'=true
theorem Gw {a b:List Value}(h:zR a)(k:zR b):zR (a++b):=λc y=>(List.mem_append.1 y).elim (h c) (k c)
theorem bz {x:Value}{b:List Value}(h:x.oneCell'=true)(k:zR b):zR (x::b):=λc y=>(List.mem_cons.1 y).elim (λe=>e▸h) (k c)
theorem ja:zR []:=λ_ h=>by cases h
theorem Xx (a:lU):zR (a.map λc=>Value.int .u8 ((c.toNat:Nat):Int)):=λc y=>by
 obtain⟨x,_,rfl⟩:=List.mem_map.1 y;rfl
theorem Whl.store (h:Whl P t n){cs:List Value}(G:cs.length=n)(h1:zR cs){T:TypeId}{vs:List Value}(D:aB w k T vs)(F:i+n <=vs.length):
 ∃y,(Instr.storeAt t (.pointer (some ⟨k,i,none⟩)) (.agg cs.toArray)).run P w=.ok () y/\aB y k T (vs.take i++cs++vs.drop (i+n))/\w.grownBy y (some k):=by
 obtain⟨bytes,z,H⟩:=h.tf;exact D.store H (i:=i) (v:=.agg cs.toArray) (by simpa[Value.cells]using G) F (λc E=>h1 c (by simpa[Value.cells]using E))
theorem Whl.store0 (h:Whl P t n){cs:List Value}(G:cs.length=n)(h1:zR cs){T:TypeId}{vs:List Value}(E:aB w k T vs)(I:vs.length=n):
 ∃y,(Instr.storeAt t (.pointer (some ⟨k,0,none⟩)) (.agg cs.toArray)).run P w=.ok () y/\aB y k T cs/\w.grownBy y (some k):=by
 obtain⟨y,H,D,F⟩:=h.store G h1 E (i:=0) (by omega);refine⟨y,H,?_,F⟩;rw[List.take_zero,nil_append,drop_eq_nil_of_le (by omega),append_nil]at D;exact D
theorem Whl.load (h:Whl P t n){T:TypeId}{vs us:List Value}(E:aB w k T vs)(F:us.length=n)(I:∀j,j<n->vs[i+j]? =us[j]?):
 (Instr.loadAt t (.pointer (some ⟨k,i,none⟩))).run P w=.ok (.agg us.toArray) w:=by
 obtain⟨bytes,z,J⟩:=h.tf;obtain⟨O,H,G,_,_⟩:=J.info;have y:=h.ag;cases D:P.underlying t with
 |none=>rw[D]at y;cases y
 |some d=>
  rw[D]at y;simp only[map_some,Option.some.injEq]at y;exact E.loadA D y H (us:=us) (i:=i) (by rw[G];exact F) (λj M=>I j (by omega))
theorem Whl.load0 (h:Whl P t n){T:TypeId}{cs:List Value}(y:aB w k T cs)(D:cs.length=n):
 (Instr.loadAt t (.pointer (some ⟨k,0,none⟩))).run P w=.ok (.agg cs.toArray) w:=h.load y D λj _=>by rw[Nat.zero_add]
theorem Whl.new (h:Whl P t n){zs cs:List Value}(R:zs.length=n)(M:cs.length=n)(h1:zR cs)(w:World){D:Nat->World->Prop}
 (H:∀k wx,k=w.heap.size->aB wx k t cs->Below w.heap.size w wx->D k wx):
 ∀(k:Nat) (y:World),k=w.heap.size->y=w.alloc (.cells zs.toArray t)->∃(wx:World),(Instr.storeAt t (.pointer (some ⟨k,0,none⟩)) (.agg cs.toArray)).run P y=.ok () wx/\D k wx:=by
 intro k y F G;have E:=(G▸ar w _:Below w.heap.size w y)
 obtain⟨wx,O,I,J⟩:=h.store0 M h1 (aB.new F G:aB y k t zs) R;exact⟨wx,O,H k wx F I (E.grown J E.size λx e=>by cases e;omega)⟩
theorem Whl.fin (h:Whl P t n){cs:List Value}(D:cs.length=n)(h1:zR cs){w w':World}{vs:List Value}(F:aB w' m t vs)(O:vs.length=n)(y:Below w.heap.size w w')(J:w.heap.size <=m)
 {K:Value->World->Prop} (H:∀wx,Below w.heap.size w wx->K (.agg cs.toArray) wx):
 ∃(wx:World),(Instr.storeAt t (.pointer (some ⟨m,0,none⟩)) (.agg cs.toArray)).run P w'=.ok () wx/\∃E:Value,(aS t (.pointer (some ⟨m,0,none⟩))).run P wx=.ok E wx/\K E wx:=by
 obtain⟨wx,M,G,I⟩:=h.store0 D h1 F O;exact⟨wx,M,_,aB.res (h.load0 G D),H wx (y.grown I y.size λx e=>by cases e;exact J)⟩
theorem Below.put {w0 w w':World}(h:Below w0.heap.size w0 w)(y:w.grownBy w' (some k))(D:w0.heap.size <=k):Below w0.heap.size w0 w':=h.grown y h.size λx e=>by cases e;exact D
theorem fM {x y:Nat}(h:x≠y):some x≠some y:=λe=>h (Option.some.inj e)
theorem iC (k o i:Nat):aw (some ⟨k,o,none⟩) (i:Int) 1=some ⟨k,o+i,none⟩:=by
 unfold aw;simp only[map_some,Int.toNat_natCast,Nat.mul_one,Option.some.injEq];unfold Addr.add;split<;>simp_all
theorem Ow.put {T:Ty o}{w w':World}{a:Option Addr}{n c k:Nat}{xs:List o}(h:Ow T t w NoB a n c xs)(E:∀g,fm a=some g->g≠k)(D:w.grownBy w' (some k)):Ow T t w' NoB a n c xs:=
 h.keep (jf D λb y e=>by
  rcases y with y|y
  ·exact y
  ·exact E b y.symm (Option.some.inj e))
theorem Sl.text {u:TypeId}(E:P.underlying u=some .string){A:Bl}{a:Option Addr}{n c:Nat}{xs:List lU}(h:Sl tS w A a n c xs)(y:i<xs.length):(Instr.loadAt u (.pointer (aw a (i:Int) 1))).run P w=.ok (.string (mkS xs[i])) w:=by
 obtain⟨v,F,D⟩:=h.load1 (i:=(i:Int)) E rfl rfl (by simpa using y);obtain⟨rfl,-⟩:=vd D;simpa using F
abbrev jU:Nat:=4
abbrev ux:Nat:=8
abbrev ir:Nat:=9
abbrev cK:Nat:=10
abbrev eC:Nat:=11
abbrev bD:Nat:=12
abbrev aV:Nat:=13
abbrev o0:Nat:=14
abbrev rj:Nat:=15
abbrev kr:Nat:=16
abbrev ig:Nat:=17
abbrev bZ:Nat:=18
abbrev lX:Nat:=20
abbrev nq:Nat:=30
abbrev me:Nat:=31
abbrev eG:Nat:=32
abbrev uz:Nat:=33
abbrev lZ:Nat:=34
abbrev iD:Nat:=35
abbrev rm:Nat:=36
abbrev i7:Nat:=37
abbrev cI:Nat:=38
abbrev cV:Nat:=39
abbrev rb:Nat:=40
abbrev qZ:Nat:=41
abbrev re:Nat:=42
abbrev iK:Nat:=43
abbrev kL:Nat:=44
abbrev Ij:Nat:=45
abbrev uy:Nat:=46
abbrev lF:Nat:=47
abbrev ic:Nat:=48
abbrev qS:Nat:=49
abbrev nt:Nat:=50
abbrev lY:Nat:=51
abbrev dW:Nat:=52
abbrev mV:Nat:=53
abbrev mS:Nat:=56
abbrev oY:Nat:=57
abbrev jR:Nat:=58
abbrev pm:Nat:=70
abbrev ke:Nat:=71
abbrev ph:Nat:=72
abbrev jm:Nat:=73
abbrev mf:Nat:=74
abbrev cz:Nat:=75
abbrev jW:Nat:=76
abbrev pp:Nat:=77
abbrev pq:Nat:=78
abbrev dE:Nat:=79
abbrev gP:Nat:=80
abbrev ca:Nat:=81
abbrev bv:Nat:=82
abbrev uA:Nat:=83
abbrev jp:Nat:=84
abbrev mU:Nat:=85
abbrev rq:Nat:=86
abbrev jn:Nat:=87
abbrev rc:Nat:=88
abbrev ra:Nat:=89
abbrev gM:Nat:=90
abbrev o4:Nat:=91
abbrev nr:Nat:=92
abbrev ns:Nat:=93
abbrev gK:Nat:=94
abbrev iw:Nat:=95
abbrev cU:Nat:=96
abbrev nK:Nat:=97
abbrev o9:Nat:=99
abbrev pb:Nat:=100
abbrev kO:Nat:=101
abbrev mb:Nat:=102
abbrev ma:Nat:=103
abbrev jV:Nat:=104
abbrev jd:Nat:=111
abbrev qO:Nat:=112
abbrev qP:Nat:=113
abbrev iL:Nat:=114
abbrev eE:Nat:=116
abbrev rf:Nat:=117
abbrev ri:Nat:=118
abbrev rh:Nat:=119
abbrev qX:Nat:=124
abbrev jo:Nat:=125
abbrev eS:Nat:=135
abbrev ec:Nat:=144
abbrev kX:Nat:=145
abbrev gR:Nat:=146
abbrev ly:Nat:=147
abbrev eR:Nat:=148
abbrev gS:Nat:=149
abbrev jq:Nat:=150
abbrev cX:Nat:=151
abbrev qV:Nat:=152
abbrev fg:Nat:=153
abbrev pu:Nat:=154
abbrev vz:Nat:=155
abbrev fK:Nat:=156
abbrev fL:Nat:=157
abbrev aO:Nat:=158
abbrev dM:Nat:=159
abbrev px:Nat:=160
abbrev fY:Nat:=161
abbrev gO:Nat:=162
abbrev eA:Nat:=163
abbrev iJ:Nat:=164
abbrev ku:Nat:=165
abbrev nJ:Nat:=166
abbrev kc:Nat:=167
abbrev pk:Nat:=168
abbrev xK:Nat:=169
abbrev j9:Nat:=170
abbrev xJ:Nat:=171
abbrev pj:Nat:=172
abbrev da:Nat:=173
abbrev lD:Nat:=174
abbrev ib:Nat:=175
abbrev lH:Nat:=176
abbrev br:Nat:=177
abbrev dq:Nat:=178
abbrev ij:Nat:=179
abbrev fk:Nat:=180
abbrev iu:Nat:=186
abbrev uC:Nat:=194
abbrev AY:Nat:=195
abbrev iI:Nat:=196
abbrev j7:Nat:=197
abbrev AX:Nat:=198
abbrev dp:Nat:=199
abbrev dD:Nat:=200
abbrev qT:Nat:=201
abbrev th:Nat:=202
abbrev oS:Nat:=203
abbrev qR:Nat:=204
abbrev iH:Nat:=205
abbrev lG:Nat:=208
abbrev iv:Nat:=210
abbrev AZ:Nat:=231
abbrev dV:Nat:=233
abbrev tj:Nat:=235
abbrev bS:Nat:=243
abbrev bM:Nat:=244
abbrev cq:Nat:=245
abbrev aW:Nat:=246
abbrev eW:Nat:=247
abbrev bm:Nat:=248
abbrev bU:Nat:=249
abbrev aX:Nat:=250
abbrev uD:Nat:=251
abbrev gq:Nat:=252
abbrev ii:Nat:=253
abbrev bX:Nat:=254
abbrev qY:Nat:=255
abbrev fX:Nat:=256
abbrev ka:Nat:=257
abbrev lE:Nat:=258
abbrev pe:Nat:=259
abbrev cW:Nat:=261
abbrev cG:Nat:=262
abbrev jI:Nat:=263
abbrev qU:Nat:=269
abbrev sG:Nat:=280
abbrev uw:Nat:=281
abbrev j8:Nat:=282
abbrev fB:Nat:=283
abbrev ej:Nat:=284
abbrev oZ:Nat:=285
abbrev iE:Nat:=287
abbrev np:Nat:=310
abbrev dB:Nat:=311
abbrev py:Nat:=312
abbrev uG:Nat:=313
abbrev uF:Nat:=314
abbrev fA:Nat:=315
abbrev lz:Nat:=318
abbrev pc:Nat:=319
abbrev dz:Nat:=321
abbrev qQ:Nat:=329
abbrev gI:Nat:=331
abbrev mT:Nat:=341
abbrev qW:Nat:=342
abbrev uE:Nat:=343
abbrev nI:Nat:=364
abbrev lx:Nat:=365
abbrev jT:Nat:=366
abbrev ez:Nat:=367
abbrev fJ:Nat:=386
abbrev fj:Nat:=387
abbrev ia:Nat:=393
abbrev co:Nat:=3
abbrev iG:Nat:=4
abbrev bc:Nat:=5
abbrev ai:Nat:=9
abbrev i6:Nat:=23
abbrev ax:Nat:=25
abbrev aF:Nat:=27
abbrev aE:Nat:=31
abbrev aN:Nat:=33
abbrev eM:Nat:=35
abbrev ci:Nat:=39
abbrev eD:Nat:=41
abbrev aJ:Nat:=42
abbrev aA:Nat:=43
abbrev aq:Nat:=45
abbrev az:Nat:=52
abbrev am:Nat:=54
abbrev ak:Nat:=56
abbrev aM:Nat:=59
abbrev ah:Nat:=61
abbrev bj:Nat:=64
abbrev lu:Nat:=70
abbrev Au:Nat:=74
abbrev pS:Nat:=81
abbrev eO:Nat:=95
abbrev gH:Nat:=107
abbrev eJ:Nat:=109
abbrev au:Nat:=113
abbrev bR:Nat:=147
abbrev aC:Nat:=149
abbrev ay:Nat:=153
abbrev aR:Nat:=155
abbrev cj:Nat:=158
abbrev cO:Nat:=159
abbrev cx:Nat:=161
abbrev ce:Nat:=178
abbrev aQ:Nat:=189
abbrev bL:Nat:=193
abbrev cy:Nat:=207
abbrev cS:Nat:=210
abbrev gk:Nat:=273
abbrev ba:Nat:=274
abbrev eP:Nat:=279
abbrev Mk:Nat:=300
abbrev Ft:Nat:=388
abbrev nl:Nat:=409
abbrev lq:Nat:=410
theorem eI:prog.underlying co=some (.int .i64):=by kernel_rfl
theorem mE:TF prog co 1 8 (.int .i64 (0:Int)):=TF.of (by kernel_rfl) (by kernel_rfl) false (by kernel_rfl) (.inr rfl)
theorem j5:prog.underlying iG=some (.bool):=by kernel_rfl
theorem KI:TF prog iG 1 1 (.bool false):=TF.of (by kernel_rfl) (by kernel_rfl) false (by kernel_rfl) (.inr rfl)
theorem cr:prog.underlying bc=some (.int .u8):=by kernel_rfl
theorem gT:TF prog bc 1 1 (.int .u8 (0:Int)):=TF.of (by kernel_rfl) (by kernel_rfl) false (by kernel_rfl) (.inr rfl)
theorem aI:prog.underlying ai=some (.string):=by kernel_rfl
theorem dG:TF prog ai 1 16 (.string (mkS [])):=TF.of (by kernel_rfl) (by kernel_rfl) false (by kernel_rfl) (.inr rfl)
theorem jh:prog.underlying i6=some (.int .i64):=by kernel_rfl
theorem Jl:TF prog ax 3 24 (.agg #[.int .i64 (0:Int),.int .i64 (0:Int),.int .i64 (0:Int)]):=TF.of (by kernel_rfl) (by kernel_rfl) true (by kernel_rfl) (.inl rfl)
theorem EG:TF prog aF 4 32 (.agg #[.int .i64 (0:Int),.int .i64 (0:Int),.int .i64 (0:Int),.int .i64 (0:Int)]):=TF.of (by kernel_rfl) (by kernel_rfl) true (by kernel_rfl) (.inl rfl)
theorem bJ:prog.underlying aE=some (.slice ah):=by kernel_rfl
theorem jz:TF prog aE 1 24 (.slice none 0 0):=TF.of (by kernel_rfl) (by kernel_rfl) false (by kernel_rfl) (.inr rfl)
theorem dy:prog.underlying aN=some (.slice ak):=by kernel_rfl
theorem yu:TF prog aN 1 24 (.slice none 0 0):=TF.of (by kernel_rfl) (by kernel_rfl) false (by kernel_rfl) (.inr rfl)
theorem la:prog.underlying eM=some (.pointer eJ):=by kernel_rfl
theorem tb:TF prog eM 1 8 (.pointer none):=TF.of (by kernel_rfl) (by kernel_rfl) false (by kernel_rfl) (.inr rfl)
theorem qv:TF prog ci 3 48 (.agg #[.string (mkS []),.string (mkS []),.string (mkS [])]):=TF.of (by kernel_rfl) (by kernel_rfl) true (by kernel_rfl) (.inl rfl)
theorem tG:prog.underlying eD=some (.slice aC):=by kernel_rfl
theorem cP:prog.underlying aJ=some (.slice au):=by kernel_rfl
theorem kU:TF prog aJ 1 24 (.slice none 0 0):=TF.of (by kernel_rfl) (by kernel_rfl) false (by kernel_rfl) (.inr rfl)
theorem bh:prog.underlying aA=some (.slice ai):=by kernel_rfl
theorem ng:TF prog aA 1 24 (.slice none 0 0):=TF.of (by kernel_rfl) (by kernel_rfl) false (by kernel_rfl) (.inr rfl)
theorem rX:TF prog aq 5 120 (.agg #[.slice none 0 0,.slice none 0 0,.slice none 0 0,.slice none 0 0,.slice none 0 0]):=TF.of (by kernel_rfl) (by kernel_rfl) true (by kernel_rfl) (.inl rfl)
abbrev bI:Array Value:= #[.int .u8 (0:Int),.int .u8 (0:Int),.int .u8 (0:Int),.int .u8 (0:Int),.int .u8 (0:Int),.int .u8 (0:Int),.int .u8 (0:Int),.int .u8 (0:Int),.int .u8 (0:Int),.int .u8 (0:Int),.int .u8 (0:Int),.int .u8 (0:Int),.int .u8 (0:Int),.int .u8 (0:Int),.int .u8 (0:Int),.int .u8 (0:Int)]
theorem KG:TF prog az 16 16 (.agg #[.int .u8 (0:Int),.int .u8 (0:Int),.int .u8 (0:Int),.int .u8 (0:Int),.int .u8 (0:Int),.int .u8 (0:Int),.int .u8 (0:Int),.int .u8 (0:Int),.int .u8 (0:Int),.int .u8 (0:Int),.int .u8 (0:Int),.int .u8 (0:Int),.int .u8 (0:Int),.int .u8 (0:Int),.int .u8 (0:Int),.int .u8 (0:Int)]):=TF.of (by kernel_rfl) (by kernel_rfl) true (by kernel_rfl) (.inl rfl)
abbrev bB:Array Value:= #[.int .i64 (0:Int),.string (mkS []),.int .u8 (0:Int),.int .u8 (0:Int),.int .u8 (0:Int),.int .u8 (0:Int),.int .u8 (0:Int),.int .u8 (0:Int),.int .u8 (0:Int),.int .u8 (0:Int),.int .u8 (0:Int),.int .u8 (0:Int),.int .u8 (0:Int),.int .u8 (0:Int),.int .u8 (0:Int),.int .u8 (0:Int),.int .u8 (0:Int),.int .u8 (0:Int)]
theorem KH:TF prog am 18 40 (.agg #[.int .i64 (0:Int),.string (mkS []),.int .u8 (0:Int),.int .u8 (0:Int),.int .u8 (0:Int),.int .u8 (0:Int),.int .u8 (0:Int),.int .u8 (0:Int),.int .u8 (0:Int),.int .u8 (0:Int),.int .u8 (0:Int),.int .u8 (0:Int),.int .u8 (0:Int),.int .u8 (0:Int),.int .u8 (0:Int),.int .u8 (0:Int),.int .u8 (0:Int),.int .u8 (0:Int)]):=TF.of (by kernel_rfl) (by kernel_rfl) true (by kernel_rfl) (.inl rfl)
abbrev bg:Array Value:= #[.bool false,.int .i64 (0:Int),.string (mkS []),.int .u8 (0:Int),.int .u8 (0:Int),.int .u8 (0:Int),.int .u8 (0:Int),.int .u8 (0:Int),.int .u8 (0:Int),.int .u8 (0:Int),.int .u8 (0:Int),.int .u8 (0:Int),.int .u8 (0:Int),.int .u8 (0:Int),.int .u8 (0:Int),.int .u8 (0:Int),.int .u8 (0:Int),.int .u8 (0:Int),.int .u8 (0:Int),.bool false,.bool false,.string (mkS [])]
theorem ko:TF prog ak 22 72 (.agg #[.bool false,.int .i64 (0:Int),.string (mkS []),.int .u8 (0:Int),.int .u8 (0:Int),.int .u8 (0:Int),.int .u8 (0:Int),.int .u8 (0:Int),.int .u8 (0:Int),.int .u8 (0:Int),.int .u8 (0:Int),.int .u8 (0:Int),.int .u8 (0:Int),.int .u8 (0:Int),.int .u8 (0:Int),.int .u8 (0:Int),.int .u8 (0:Int),.int .u8 (0:Int),.int .u8 (0:Int),.bool false,.bool false,.string (mkS [])]):=TF.of (by kernel_rfl) (by kernel_rfl) true (by kernel_rfl) (.inl rfl)
abbrev eQ:Array Value:= #[.bool false,.int .i64 (0:Int),.string (mkS []),.int .u8 (0:Int),.int .u8 (0:Int),.int .u8 (0:Int),.int .u8 (0:Int),.int .u8 (0:Int),.int .u8 (0:Int),.int .u8 (0:Int),.int .u8 (0:Int),.int .u8 (0:Int),.int .u8 (0:Int),.int .u8 (0:Int),.int .u8 (0:Int),.int .u8 (0:Int),.int .u8 (0:Int),.int .u8 (0:Int),.int .u8 (0:Int),.int .i64 (0:Int),.string (mkS [])]
theorem Ni:TF prog aM 21 72 (.agg #[.bool false,.int .i64 (0:Int),.string (mkS []),.int .u8 (0:Int),.int .u8 (0:Int),.int .u8 (0:Int),.int .u8 (0:Int),.int .u8 (0:Int),.int .u8 (0:Int),.int .u8 (0:Int),.int .u8 (0:Int),.int .u8 (0:Int),.int .u8 (0:Int),.int .u8 (0:Int),.int .u8 (0:Int),.int .u8 (0:Int),.int .u8 (0:Int),.int .u8 (0:Int),.int .u8 (0:Int),.int .i64 (0:Int),.string (mkS [])]):=TF.of (by kernel_rfl) (by kernel_rfl) true (by kernel_rfl) (.inl rfl)
abbrev dZ:Array Value:= #[.string (mkS []),.bool false,.int .i64 (0:Int),.string (mkS []),.int .u8 (0:Int),.int .u8 (0:Int),.int .u8 (0:Int),.int .u8 (0:Int),.int .u8 (0:Int),.int .u8 (0:Int),.int .u8 (0:Int),.int .u8 (0:Int),.int .u8 (0:Int),.int .u8 (0:Int),.int .u8 (0:Int),.int .u8 (0:Int),.int .u8 (0:Int),.int .u8 (0:Int),.int .u8 (0:Int),.int .u8 (0:Int),.int .i64 (0:Int),.string (mkS []),.string (mkS []),.int .i64 (0:Int)]
theorem jy:TF prog ah 24 112 (.agg #[.string (mkS []),.bool false,.int .i64 (0:Int),.string (mkS []),.int .u8 (0:Int),.int .u8 (0:Int),.int .u8 (0:Int),.int .u8 (0:Int),.int .u8 (0:Int),.int .u8 (0:Int),.int .u8 (0:Int),.int .u8 (0:Int),.int .u8 (0:Int),.int .u8 (0:Int),.int .u8 (0:Int),.int .u8 (0:Int),.int .u8 (0:Int),.int .u8 (0:Int),.int .u8 (0:Int),.int .u8 (0:Int),.int .i64 (0:Int),.string (mkS []),.string (mkS []),.int .i64 (0:Int)]):=TF.of (by kernel_rfl) (by kernel_rfl) true (by kernel_rfl) (.inl rfl)
abbrev Fu:Array Value:= #[.bool false,.int .i64 (0:Int),.string (mkS []),.int .u8 (0:Int),.int .u8 (0:Int),.int .u8 (0:Int),.int .u8 (0:Int),.int .u8 (0:Int),.int .u8 (0:Int),.int .u8 (0:Int),.int .u8 (0:Int),.int .u8 (0:Int),.int .u8 (0:Int),.int .u8 (0:Int),.int .u8 (0:Int),.int .u8 (0:Int),.int .u8 (0:Int),.int .u8 (0:Int),.int .u8 (0:Int),.string (mkS []),.int .i64 (0:Int)]
theorem EF:TF prog bj 21 72 (.agg #[.bool false,.int .i64 (0:Int),.string (mkS []),.int .u8 (0:Int),.int .u8 (0:Int),.int .u8 (0:Int),.int .u8 (0:Int),.int .u8 (0:Int),.int .u8 (0:Int),.int .u8 (0:Int),.int .u8 (0:Int),.int .u8 (0:Int),.int .u8 (0:Int),.int .u8 (0:Int),.int .u8 (0:Int),.int .u8 (0:Int),.int .u8 (0:Int),.int .u8 (0:Int),.int .u8 (0:Int),.string (mkS []),.int .i64 (0:Int)]):=TF.of (by kernel_rfl) (by kernel_rfl) true (by kernel_rfl) (.inl rfl)
theorem Jv:prog.underlying lu=some (.slice co):=by kernel_rfl
theorem yt:TF prog pS 1 8 (.pointer none):=TF.of (by kernel_rfl) (by kernel_rfl) false (by kernel_rfl) (.inr rfl)
theorem j6:prog.underlying gH=some (.map ai co):=by kernel_rfl
theorem pO:TF prog au 2 40 (.agg #[.string (mkS []),.slice none 0 0]):=TF.of (by kernel_rfl) (by kernel_rfl) true (by kernel_rfl) (.inl rfl)
theorem gw:prog.underlying bR=some (.map aC co):=by kernel_rfl
theorem pP:TF prog aC 2 24 (.agg #[.int .i64 (0:Int),.string (mkS [])]):=TF.of (by kernel_rfl) (by kernel_rfl) true (by kernel_rfl) (.inl rfl)
theorem bf:prog.underlying ay=some (.pointer aR):=by kernel_rfl
theorem cD:prog.underlying cj=some (.map cS co):=by kernel_rfl
theorem jA:prog.underlying cO=some (.slice cy):=by kernel_rfl
theorem CJ:TF prog cO 1 24 (.slice none 0 0):=TF.of (by kernel_rfl) (by kernel_rfl) false (by kernel_rfl) (.inr rfl)
theorem jb:prog.underlying ce=some (.slice bL):=by kernel_rfl
theorem bH:prog.underlying aQ=some (.slice bc):=by kernel_rfl
theorem iZ:TF prog bL 2 24 (.agg #[.string (mkS []),.int .i64 (0:Int)]):=TF.of (by kernel_rfl) (by kernel_rfl) true (by kernel_rfl) (.inl rfl)
theorem Jm:TF prog cy 4 4 (.agg #[.bool false,.bool false,.bool false,.bool false]):=TF.of (by kernel_rfl) (by kernel_rfl) true (by kernel_rfl) (.inl rfl)
theorem EI:TF prog cS 2 24 (.agg #[.int .i64 (0:Int),.string (mkS [])]):=TF.of (by kernel_rfl) (by kernel_rfl) true (by kernel_rfl) (.inl rfl)
theorem CS:prog.underlying gk=some (.int .u16):=by kernel_rfl
theorem Jn:TF prog gk 1 2 (.int .u16 (0:Int)):=TF.of (by kernel_rfl) (by kernel_rfl) false (by kernel_rfl) (.inr rfl)
theorem EH:TF prog ba 8 16 (.agg #[.int .u16 (0:Int),.int .u16 (0:Int),.int .u16 (0:Int),.int .u16 (0:Int),.int .u16 (0:Int),.int .u16 (0:Int),.int .u16 (0:Int),.int .u16 (0:Int)]):=TF.of (by kernel_rfl) (by kernel_rfl) true (by kernel_rfl) (.inl rfl)
theorem rY:prog.underlying eP=some (.slice gk):=by kernel_rfl
abbrev Fv:Array Value:= #[.int .u8 (0:Int),.int .u8 (0:Int),.int .u8 (0:Int),.int .u8 (0:Int),.int .u8 (0:Int),.int .u8 (0:Int),.int .u8 (0:Int),.int .u8 (0:Int),.int .u8 (0:Int),.int .u8 (0:Int),.int .u8 (0:Int),.int .u8 (0:Int),.int .u8 (0:Int),.int .u8 (0:Int),.int .u8 (0:Int),.int .u8 (0:Int),.int .u8 (0:Int),.int .u8 (0:Int),.int .u8 (0:Int),.int .u8 (0:Int),.int .u8 (0:Int),.int .u8 (0:Int),.int .u8 (0:Int),.int .u8 (0:Int)]
abbrev Fw:Array Value:= #[.int .u8 (0:Int),.int .u8 (0:Int),.int .u8 (0:Int),.int .u8 (0:Int),.int .u8 (0:Int),.int .u8 (0:Int),.int .u8 (0:Int),.int .u8 (0:Int),.int .u8 (0:Int),.int .u8 (0:Int),.int .u8 (0:Int),.int .u8 (0:Int),.int .u8 (0:Int),.int .u8 (0:Int),.int .u8 (0:Int),.int .u8 (0:Int),.int .u8 (0:Int),.int .u8 (0:Int),.int .u8 (0:Int),.int .u8 (0:Int),.int .u8 (0:Int),.int .u8 (0:Int),.int .u8 (0:Int),.int .u8 (0:Int),.int .u8 (0:Int),.int .u8 (0:Int),.int .u8 (0:Int),.int .u8 (0:Int),.int .u8 (0:Int),.int .u8 (0:Int),.int .u8 (0:Int),.int .u8 (0:Int),.int .u8 (0:Int),.int .u8 (0:Int),.int .u8 (0:Int),.int .u8 (0:Int),.int .u8 (0:Int),.int .u8 (0:Int),.int .u8 (0:Int),.int .u8 (0:Int),.int .u8 (0:Int),.int .u8 (0:Int),.int .u8 (0:Int),.int .u8 (0:Int),.int .u8 (0:Int),.int .u8 (0:Int),.int .u8 (0:Int),.int .u8 (0:Int),.int .u8 (0:Int),.int .u8 (0:Int),.int .u8 (0:Int),.int .u8 (0:Int),.int .u8 (0:Int),.int .u8 (0:Int),.int .u8 (0:Int),.int .u8 (0:Int),.int .u8 (0:Int),.int .u8 (0:Int),.int .u8 (0:Int),.int .u8 (0:Int),.int .u8 (0:Int),.int .u8 (0:Int),.int .u8 (0:Int),.int .u8 (0:Int),.int .u8 (0:Int)]
abbrev Flt:=Int×Int×Int
def vE (x:Flt):Value:=.agg #[.int .i64 x.1,.int .i64 x.2.1,.int .i64 x.2.2]
def nG (x:Flt):List Value:=[.int .i64 x.1,.int .i64 x.2.1,.int .i64 x.2.2]
theorem pC (x:Flt):zR (nG x):=bz rfl (bz rfl (bz rfl ja))
theorem nU (s:lU):∀x∈fF s,x.length <=s.length:=by
 intro x E;unfold fF at E;obtain⟨D,y,rfl⟩:=List.mem_map.1 E;have F:D∈bE 10 [] s:=by
  split at y
  ·exact List.dropLast_subset _ y
  ·exact y
 have:=gp 10 s [] D F;have:=RF D;simp at*;omega
theorem lP (s:lU):(fF s).length <=s.length+1:=by
 unfold fF;rw[length_map];have:=dK 10 s [];split
 ·rw[List.length_dropLast];omega
 ·exact this
theorem Q4 (h:((n:Int)==(k:Int))=true):n=k:=by have:=eq_of_beq h;omega
theorem Nx (h:((n:Int)==(k:Int))=false):n≠k:=by have:=beq_eq_false_iff_ne.1 h;omega
def qL (L:List lU)(k:Nat):Nat:=1+((L.take k).map λx=>x.length+1).sum
theorem H7 (L:List lU):qL L 0=1:=rfl
theorem qM {L:List lU}(h:k<L.length):qL L (k+1)=qL L k+(L[k].length+1):=by
 unfold qL;rw[take_succ_eq_append_getElem h,map_append,List.sum_append];simp;omega
def jX {σ:Type}(step:Nat->σ->lU->σ ⊕ (Int×Int)):Nat->List lU->σ->σ ⊕ Flt
 |_,[],s=>.inl s
 |i,x::r,s=>match step i s x with
  |.inl s'=>jX step (i+1) r s'
  |.inr e=>.inr (e.1,(i:Int)+1,e.2)
def FM {σ:Type}(step:Nat->σ->lU->σ ⊕ (Int×Int))(s0:σ)(s:lU):σ ⊕ Flt:=
 if 20000<s.length then .inr (54,1,1)else jX step 0 (fF s) s0
theorem lO {step:Nat->o->lU->o ⊕ (Int×Int)}{s0:o}(h:20000<s.length):FM step s0 s=.inr (54,1,1):=by unfold FM;rw[if_pos h]
theorem jY {step:Nat->o->lU->o ⊕ (Int×Int)}{s0:o}(h: ¬ 20000<s.length):FM step s0 s=jX step 0 ((fF s).drop 0) s0:=by unfold FM;rw[if_neg h];rfl
theorem nM (step:Nat->o->lU->o ⊕ (Int×Int)){L:List lU}(h:L.length <=j)(s:o):jX step j (L.drop j) s=.inl s:=by rw[drop_eq_nil_of_le h];rfl
theorem je {step:Nat->o->lU->o ⊕ (Int×Int)}{L:List lU}(h:j<L.length){s s':o}(e:step j s L[j]=.inl s'):jX step j (L.drop j) s=jX step (j+1) (L.drop (j+1)) s':=by
 rw[drop_eq_getElem_cons h,jX,e]
theorem kw {step:Nat->o->lU->o ⊕ (Int×Int)}{L:List lU}(h:j<L.length){s:o}{c k:Int}(e:step j s L[j]=.inr (c,k)):jX step j (L.drop j) s=.inr (c,(j:Int)+1,k):=by
 rw[drop_eq_getElem_cons h,jX,e]
theorem Il {step:Nat->o->lU->o ⊕ (Int×Int)}(y:o->Prop)(D:∀i s x s',y s->step i s x=.inl s'->y s'):∀(L:List lU) (i:Nat) (s t:o),y s->jX step i L s=.inl t->y t
 |[],_,s,t,h,e=>by cases e;exact h
 |x::r,i,s,t,h,e=>by
  unfold jX at e;split at e
  ·rename_i s' h1;exact Il y D r _ _ _ (D _ _ _ _ h h1) e
  ·cases e
theorem A0 {step:Nat->o->lU->o ⊕ (Int×Int)}(y:o->Prop)(E:∀i s x s',y s->step i s x=.inl s'->y s'){s0 t:o}(D:y s0)(e:FM step s0 s=.inl t):y t:=by
 unfold FM at e;split at e
 ·cases e
 ·exact Il y E _ _ _ _ D e
theorem di:Whl prog ax 3:=⟨⟨_,_,Jl⟩,by kernel_rfl⟩
end Go.Pk
