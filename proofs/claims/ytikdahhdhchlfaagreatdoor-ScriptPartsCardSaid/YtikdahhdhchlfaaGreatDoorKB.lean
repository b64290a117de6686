/- What the laws lean on: R, Open, WordP, Arr, H, Split, LinP, Names, V3; what is used. Its conditions: none. -/
import Derived.Test.YtikdahhdhchlfaaGreatDoorKA
import Derived.Laws.AppendOwn
import Derived.IntWalk
import Derived.ProofKit
import Derived.OpenShut
import Derived.Stop.LaidErr
import Derived.Lib.LaidTab
import Derived.Deep.DeepHandedRow
import Derived.Lib.SplitLaws
import Derived.Lib.IndexMore
import Derived.Test.YtikdahhdhchlfaaGreatDoorRows
open Go.IntKind (i64)
open Go.Proofs.Tryz
set_option linter.unusedVariables false
set_option linter.unusedSimpArgs false
open List (length)
open Option (isSome)
namespace Go.Pk
open Go.RowKit (Below)
open Go.Proofs
abbrev Bl:=Nat->Prop
structure Cj (A:Bl)(w w':World):Prop where
 size:w.heap.size <=w'.heap.size
 block:∀b,b<w.heap.size->A b->w'.heap[b]? =w.heap[b]?
theorem Cj.refl (A:Bl)(w:World):Cj A w w:=⟨Nat.le_refl _,λ_ _ _=>rfl⟩
theorem Cj.trans {A:Bl}{a b c:World}(h:Cj A a b)(k:Cj A b c):Cj A a c:=
 ⟨Nat.le_trans h.size k.size,λi hi ha=>(k.block i (Nat.lt_of_lt_of_le hi h.size) ha).trans (h.block i hi ha)⟩
theorem Cj.mono {A A':Bl}{w w':World}(h:Cj A w w')(ha:∀b,A' b->A b):Cj A' w w':=⟨h.size,λb hb hab=>h.block b hb (ha b hab)⟩
theorem zO {w w':World}(h:Below w.heap.size w w')(A:Bl):Cj A w w':=⟨h.size,λb hb _=>h.block b hb⟩
theorem eV {w w':World}{row:Option Nat}(h:w.grownBy w' row){A:Bl}(ha:∀b,A b->some b≠row):Cj A w w':=⟨h.size,λb hb hab=>h.block b hb (ha b hab)⟩
theorem ec (w:World):Below w.heap.size w w.drew:=(Below.refl _ w).drew
theorem ai (w:World)(o:Obj):Below w.heap.size w (w.alloc o):=(Below.refl _ w).alloc (Nat.le_refl _) o
theorem aa {B:Nat}{a b c:World}(h:Below B a b)(k:Below b.heap.size b c)(hB:B <=b.heap.size):Below B a c:=h.trans (k.mono hB)
structure Ty (α:Type) where
 k:Nat
 pos:0<k
 rep:World->Bl->List Value->α->Prop
 len:∀{w A vs x},rep w A vs x->vs.length=k
 one:∀{w A vs x},rep w A vs x->∀v∈vs,v.oneCell'=true
 keep:∀{w w' A vs x},rep w A vs x->Cj A w w'->rep w' A vs x
 mono:∀{w A A' vs x},rep w A vs x->(∀b,b<w.heap.size->A b->A' b)->rep w A' vs x
def Ty.enc {α:Type}(e:α->Value)(h1:∀x,(e x).oneCell'=true)(p:α->Prop):Ty α where
 k:=1
 pos:=by decide
 rep:=λ_ _ vs x=>vs=[e x]/\p x
 len:=λh=>by rw[h.1];rfl
 one:=fun{_ _ _ x} h v hv=>by rw[h.1]at hv;simp at hv;rw[hv];exact h1 x
 keep:=λh _=>h
 mono:=λh _=>h
def QV (k:IntKind)(p:Int->Prop):Ty Int:=Ty.enc (λn=>.int k n) (λ_=>rfl) p
def tU8:Ty UInt8:=Ty.enc (λc=>.int .u8 (c.toNat:Nat)) (λ_=>rfl) λ_=>True
def PM (p:List UInt8->Prop):Ty (List UInt8):=Ty.enc (λs=>.string (mkS s)) (λ_=>rfl) p
abbrev tS:Ty (List UInt8):=PM λ_=>True
def NoB:Bl:=λ_=>False
structure TF (P:Program)(t:TypeId)(k bytes:Nat)(z:Value):Prop where
 info:∃i,P.info? t=some i/\i.size=k/\i.bytes=bytes/\i.zero=some z
 cells:z.cells.size=k
 und:∃d,P.underlying t=some d/\(yz d=true\/k=1/\yz d=false)
theorem TF.of {P:Program}{t:TypeId}{k bytes:Nat}{z:Value}(h1:(P.info? t).map (λi=>(i.size,i.bytes,i.zero))=some (k,bytes,some z))(h2:z.cells.size=k)(b:Bool)
   (h3:(P.underlying t).map yz=some b) (h4:b=true\/k=1):TF P t k bytes z:=by
 cases hi:P.info? t with
 | none=>rw[hi]at h1;cases h1
 | some i=>
   rw[hi]at h1
   simp only[Option.map_some,Option.some.injEq,Prod.mk.injEq]at h1
   cases hu:P.underlying t with
   | none=>rw[hu]at h3;cases h3
   | some d=>
     rw[hu]at h3
     simp only[Option.map_some,Option.some.injEq]at h3
     refine⟨⟨i,hi,h1.1,h1.2.1,h1.2.2⟩,h2,d,hu,?_⟩
     cases b with
     | true=>exact .inl h3
     | false=>exact .inr ⟨h4.resolve_left (by simp),h3⟩
structure fP {α:Type}(T:Ty α)(w:World)(A:Bl)(l:List Value)(xs:List α):Prop where
 len:l.length=xs.length*T.k
 rep:∀i (h:i<xs.length),T.rep w A ((l.drop (i*T.k)).take T.k) xs[i]
theorem fP.nil {α:Type}(T:Ty α)(w:World)(A:Bl):fP T w A [] ([]:List α):=⟨by simp,λi h=>by cases h⟩
theorem fP.one {α:Type}{T:Ty α}{w:World}{A:Bl}{vs:List Value}{x:α}(h:T.rep w A vs x):fP T w A vs [x]:=by
 have hl:=T.len h
 refine⟨by simp[hl],λi hi=>?_⟩
 have:i=0:=by simpa using hi
 subst this
 simp only[Nat.zero_mul,List.drop_zero,List.getElem_cons_zero]
 rw[List.take_of_length_le (by omega)];exact h
theorem fP.append {α:Type}{T:Ty α}{w:World}{A:Bl}{l m:List Value}{xs ys:List α}(h:fP T w A l xs)(k:fP T w A m ys):fP T w A (l++m) (xs++ys):=by
 refine⟨by rw[List.length_append,List.length_append,h.len,k.len,Nat.add_mul],λi hi=>?_⟩
 by_cases c:i<xs.length
 · rw[List.getElem_append_left c]
   have h1:=h.rep i c
   have h2:i*T.k+T.k <=l.length:=by
     have:=Nat.mul_le_mul_right T.k (show i+1 <=xs.length from c)
     rw[Nat.add_mul,Nat.one_mul]at this
     rw[h.len];exact this
   rw[List.drop_append_of_le_length (by omega),List.take_append_of_le_length (by rw[List.length_drop];omega)]
   exact h1
 · have hi':i-xs.length<ys.length:=by simp at hi;omega
   rw[List.getElem_append_right (by omega)]
   have h1:=k.rep (i-xs.length) hi'
   have h2:i*T.k=l.length+(i-xs.length)*T.k:=by
     rw[h.len,<- Nat.add_mul];congr 1;omega
   rw[h2,List.drop_length_add_append]
   exact h1
theorem fP.keep {α:Type}{T:Ty α}{w w':World}{A:Bl}{l:List Value}{xs:List α}(h:fP T w A l xs)(hk:Cj A w w'):fP T w' A l xs:=⟨h.len,λi hi=>T.keep (h.rep i hi) hk⟩
theorem fP.mono {α:Type}{T:Ty α}{w:World}{A A':Bl}{l:List Value}{xs:List α}(h:fP T w A l xs)(ha:∀b,b<w.heap.size->A b->A' b):fP T w A' l xs:=⟨h.len,λi hi=>T.mono (h.rep i hi) ha⟩
theorem fP.ones {α:Type}{T:Ty α}{w:World}{A:Bl} :∀{xs:List α} {l:List Value},fP T w A l xs->∀v∈l,v.oneCell'=true
 | [],l,h,v,hv=>by have:=h.len;simp at this;subst this;cases hv
 | x::xs,l,h,v,hv=>by
   have hl:=h.len
   have hk:=T.pos
   have h1:=h.rep 0 (by simp)
   rw[Nat.zero_mul,List.drop_zero]at h1
   have h2:fP T w A (l.drop T.k) xs:=by
     refine⟨by rw[List.length_drop,hl];simp[Nat.add_mul],λi hi=>?_⟩
     have:=h.rep (i+1) (by simp;omega)
     simp only[List.getElem_cons_succ]at this
     rw[List.drop_drop]
     rw[Nat.add_mul,Nat.one_mul,Nat.add_comm]at this
     exact this
   rw[<- List.take_append_drop T.k l]at hv
   rcases List.mem_append.1 hv with hv|hv
   · exact T.one h1 v hv
   · exact fP.ones h2 v hv
theorem fP.set {α:Type}{T:Ty α}{w:World}{A:Bl}{l:List Value}{xs:List α}(h:fP T w A l xs){i:Nat}(hi:i<xs.length){vs:List Value}{x:α}(hx:T.rep w A vs x):
   fP T w A (l.take (i*T.k)++vs++l.drop (i*T.k+vs.length)) (xs.set i x):=by
 have hv:=T.len hx
 have hb:i*T.k+T.k <=l.length:=by
   have:=Nat.mul_le_mul_right T.k (show i+1 <=xs.length from hi)
   rw[Nat.add_mul,Nat.one_mul]at this
   rw[h.len];exact this
 refine⟨?_,λj hj=>?_⟩
 · rw[List.length_set,<- h.len,List.length_append,List.length_append,List.length_take,List.length_drop,hv];omega
 · have hj':j<xs.length:=by simpa using hj
   have key:(l.take (i*T.k)++vs++l.drop (i*T.k+vs.length))=l.take (i*T.k)++(vs++l.drop (i*T.k+vs.length)):=List.append_assoc _ _ _
   have htl:(l.take (i*T.k)).length=i*T.k:=by rw[List.length_take];omega
   by_cases c1:j<i
   · have h1:=h.rep j hj'
     have h2:j*T.k+T.k <=i*T.k:=by
       have:=Nat.mul_le_mul_right T.k (show j+1 <=i from c1)
       rwa [Nat.add_mul,Nat.one_mul]at this
     rw[List.getElem_set_ne (by omega),key,List.drop_append_of_le_length (by omega),List.take_append_of_le_length (by rw[List.length_drop];omega)]
     rw[List.drop_take,List.take_take]
     rw[show min T.k (i*T.k-j*T.k)=T.k by omega]
     exact h1
   · by_cases c2:j=i
     · subst c2
       rw[List.getElem_set_self,key,List.drop_left' htl,<- hv,List.take_left]
       exact hx
     · have h1:=h.rep j hj'
       have h2:i*T.k+T.k <=j*T.k:=by
         have:=Nat.mul_le_mul_right T.k (show i+1 <=j by omega)
         rwa [Nat.add_mul,Nat.one_mul]at this
       rw[List.getElem_set_ne (by omega)]
       have e1:(l.take (i*T.k)++vs++l.drop (i*T.k+vs.length)).drop (j*T.k)=l.drop (j*T.k):=by
         have e2:j*T.k=(l.take (i*T.k)++vs).length+(j*T.k-(i*T.k+T.k)):=by rw[List.length_append,htl,hv];omega
         rw[e2,List.drop_length_add_append,List.drop_drop]
         congr 1
         omega
       rw[e1];exact h1
def At {α:Type}(T:Ty α)(w:World)(A:Bl)(b off:Nat)(xs:List α):Prop:=
 ∃l:List Value,fP T w A l xs/\∀j,j<l.length->w.cell? ⟨b,off+j,none⟩=l[j]?
def Sl {α:Type}(T:Ty α)(w:World)(A:Bl)(a:Option Addr)(n c:Nat)(xs:List α):Prop:=
 n=xs.length/\n <=c/\c <=maxLen/\(xs=[]\/∃b off,a=some ⟨b,off,none⟩/\b<w.heap.size/\A b/\At T w A b off xs)
theorem wJ {w w':World}{b:Nat}(h:w'.heap[b]? =w.heap[b]?)(o:Nat):w'.cell? ⟨b,o,none⟩=w.cell? ⟨b,o,none⟩:=by simp[World.cell?,h]
theorem At.keep {α:Type}{T:Ty α}{w w':World}{A:Bl}{b off:Nat}{xs:List α}(h:At T w A b off xs)(hb:b<w.heap.size)(ha:A b)(hk:Cj A w w'):At T w' A b off xs:=by
 obtain⟨l,h1,h2⟩:=h
 exact⟨l,h1.keep hk,λj hj=>by rw[wJ (hk.block b hb ha)];exact h2 j hj⟩
theorem Sl.keep {α:Type}{T:Ty α}{w w':World}{A:Bl}{a:Option Addr}{n c:Nat}{xs:List α}(h:Sl T w A a n c xs)(hk:Cj A w w'):Sl T w' A a n c xs:=by
 obtain⟨h1,h2,h3,h4⟩:=h
 refine⟨h1,h2,h3,?_⟩
 rcases h4 with h4|⟨b,off,e,hb,ha,h4⟩
 · exact .inl h4
 · exact .inr ⟨b,off,e,Nat.lt_of_lt_of_le hb hk.size,ha,h4.keep hb ha hk⟩
theorem Sl.below {α:Type}{T:Ty α}{w w':World}{A:Bl}{a:Option Addr}{n c:Nat}{xs:List α}(h:Sl T w A a n c xs)(hk:Below w.heap.size w w'):Sl T w' A a n c xs:=h.keep (zO hk A)
theorem Sl.mono {α:Type}{T:Ty α}{w:World}{A A':Bl}{a:Option Addr}{n c:Nat}{xs:List α}(h:Sl T w A a n c xs)(ha:∀b,b<w.heap.size->A b->A' b):Sl T w A' a n c xs:=by
 obtain⟨h1,h2,h3,h4⟩:=h
 refine⟨h1,h2,h3,?_⟩
 rcases h4 with h4|⟨b,off,e,hb,hab,h4⟩
 · exact .inl h4
 · obtain⟨l,h5,h6⟩:=h4
   exact .inr ⟨b,off,e,hb,ha b hb hab,l,h5.mono ha,h6⟩
theorem Sl.len {α:Type}{T:Ty α}{w:World}{A:Bl}{a:Option Addr}{n c:Nat}{xs:List α}(h:Sl T w A a n c xs):n=xs.length:=h.1
theorem Sl.le {α:Type}{T:Ty α}{w:World}{A:Bl}{a:Option Addr}{n c:Nat}{xs:List α}(h:Sl T w A a n c xs):xs.length <=9223372036854775807:=by
 have h1:=h.1;have h2:=h.2.1;have h3:=h.2.2.1;unfold maxLen at h3;omega
theorem Sl.nil {α:Type}(T:Ty α)(w:World)(A:Bl)(a:Option Addr)(c:Nat)(hc:c <=maxLen):Sl T w A a 0 c ([]:List α):=⟨rfl,Nat.zero_le _,hc,.inl rfl⟩
theorem Sl.isSome {α:Type}{T:Ty α}{w:World}{A:Bl}{a:Option Addr}{n c:Nat}{xs:List α}(h:Sl T w A a n c xs){i:Nat}(hi:i<xs.length):Option.isSome a=true:=by
 rcases h.2.2.2 with h4|⟨b,off,e,_⟩
 · subst h4;cases hi
 · rw[e];rfl
theorem fc (b o j:Nat):(⟨b,o,none⟩:Addr).add j=⟨b,o+j,none⟩:=by
 unfold Addr.add;split <;> simp_all
theorem mu {P:Program}{t:TypeId}{d:TypeDesc}(hu:P.underlying t=some d)(ha:yz d=false){w:World}{p:Addr}{v:Value}(hc:w.cell? p=some v):
   (loadVar t p).run P w=.ok v w:=by
 unfold loadVar
 rw[Sem.run_bind,ot hu,ha]
 simp[hc]
theorem Ds {P:Program}{w:World}{b off:Nat}{vs:List Value}(h:∀j,j<vs.length->w.cell? ⟨b,off+j,none⟩=vs[j]?):(loadCells ⟨b,off,none⟩ vs.length).run P w=.ok vs.toArray w:=
 run_loadCells_list (P:=P) w ⟨b,off,none⟩ vs λj v hv=>by
   rw[fc,h j (by have:=(List.getElem?_eq_some_iff.1 hv).1;exact this)];exact hv
theorem xr {P:Program}{t:TypeId}{d:TypeDesc}{i:TypeInfo}(hu:P.underlying t=some d)(ha:yz d=true)(hi:P.info? t=some i){w:World}{b off:Nat}{vs:List Value}(hl:vs.length=i.size)
   (h:∀j,j<vs.length->w.cell? ⟨b,off+j,none⟩=vs[j]?):(loadVar t ⟨b,off,none⟩).run P w=.ok (.agg vs.toArray) w:=by
 unfold loadVar
 rw[Sem.run_bind,ot hu,ha]
 have:=Ds (P:=P) h
 rw[hl]at this
 simp[dZ hi,this]
theorem iW (b off:Nat)(i:Int)(k:Nat):an (some ⟨b,off,none⟩) i k=some ⟨b,off+i.toNat*k,none⟩:=by
 simp[an,fc]
theorem At.elem {α:Type}{T:Ty α}{w:World}{A:Bl}{b off:Nat}{xs:List α}(h:At T w A b off xs){i:Nat}(hi:i<xs.length):
   ∃vs,T.rep w A vs xs[i]/\∀j,j<T.k->w.cell? ⟨b,off+i*T.k+j,none⟩=vs[j]? :=by
 obtain⟨l,h1,h2⟩:=h
 have hb:i*T.k+T.k <=l.length:=by
   have:=Nat.mul_le_mul_right T.k (show i+1 <=xs.length from hi)
   rw[Nat.add_mul,Nat.one_mul]at this
   rw[h1.len];exact this
 refine⟨_,h1.rep i hi,λj hj=>?_⟩
 rw[Nat.add_assoc,h2 _ (by omega),List.getElem?_take,if_pos hj,List.getElem?_drop]
theorem Sl.load1 {α:Type}{T:Ty α}{P:Program}{t:TypeId}{d:TypeDesc}(hu:P.underlying t=some d)(ha:yz d=false)(hk:T.k=1)
   {w:World} {A:Bl} {a:Option Addr} {n c:Nat} {xs:List α} (h:Sl T w A a n c xs) {i:Int} (hi:i.toNat<xs.length):
   ∃v,(Instr.loadAt t (.pointer (an a i 1))).run P w=.ok v w/\T.rep w A [v] xs[i.toNat]:=by
 rcases h.2.2.2 with h4|⟨b,off,e,hb,hab,h4⟩
 · subst h4;cases hi
 · obtain⟨vs,h5,h6⟩:=h4.elem hi
   have hl:=T.len h5
   rw[hk]at hl
   match vs,hl with
   | [v],_=>
     refine⟨v,?_,h5⟩
     have h7:=h6 0 (by rw[hk];decide)
     rw[hk]at h7
     rw[e,iW]
     show(do loadVar t (<- Instr.sureAddr (.pointer (some _)))).run P w=_
     rw[Sem.run_bind,gC]
     exact mu hu ha (by simpa using h7)
theorem Sl.loadA {α:Type}{T:Ty α}{P:Program}{t:TypeId}{d:TypeDesc}{ti:TypeInfo}(hu:P.underlying t=some d)(ha:yz d=true)(hi':P.info? t=some ti){k:Nat}(hk:T.k=k)(hs:ti.size=k)
   {w:World} {A:Bl} {a:Option Addr} {n c:Nat} {xs:List α} (h:Sl T w A a n c xs) {i:Int} (hi:i.toNat<xs.length):
   ∃vs,(Instr.loadAt t (.pointer (an a i k))).run P w=.ok (.agg vs.toArray) w/\T.rep w A vs xs[i.toNat]:=by
 subst hk
 rcases h.2.2.2 with h4|⟨b,off,e,hb,hab,h4⟩
 · subst h4;cases hi
 · obtain⟨vs,h5,h6⟩:=h4.elem hi
   have hl:=T.len h5
   refine⟨vs,?_,h5⟩
   rw[e,iW]
   show(do loadVar t (<- Instr.sureAddr (.pointer (some _)))).run P w=_
   rw[Sem.run_bind,gC]
   exact xr hu ha hi' (by omega) λj hj=>h6 j (by omega)
def eY (a:Option Addr):Option Nat:=a.map (·.block)
def Ow {α:Type}(T:Ty α)(t:TypeId)(w:World)(A:Bl)(a:Option Addr)(n c:Nat)(xs:List α):Prop:=
 n=xs.length/\n <=c/\c <=maxLen/\((a=none/\c=0/\xs=[])\/
   ∃g cur fr,a=some ⟨g,0,none⟩/\w.heap[g]? =some (.cells cur t fr)/\(∀i,i<cur.size-> ¬ (fr.1 <=i/\i<fr.2))/\cur.size=c*T.k/\fP T w A (cur.toList.take (n*T.k)) xs)
theorem Ow.nil {α:Type}(T:Ty α)(t:TypeId)(w:World)(A:Bl):Ow T t w A none 0 0 ([]:List α):=⟨rfl,Nat.le_refl _,Nat.zero_le _,.inl ⟨rfl,rfl,rfl⟩⟩
theorem Ow.len {α:Type}{T:Ty α}{t:TypeId}{w:World}{A:Bl}{a:Option Addr}{n c:Nat}{xs:List α}(h:Ow T t w A a n c xs):n=xs.length:=h.1
theorem Ow.le {α:Type}{T:Ty α}{t:TypeId}{w:World}{A:Bl}{a:Option Addr}{n c:Nat}{xs:List α}(h:Ow T t w A a n c xs):xs.length <=9223372036854775807:=by
 have h1:=h.1;have h2:=h.2.1;have h3:=h.2.2.1;unfold maxLen at h3;omega
theorem Ow.lt {α:Type}{T:Ty α}{t:TypeId}{w:World}{A:Bl}{a:Option Addr}{n c:Nat}{xs:List α}(h:Ow T t w A a n c xs):∀g,eY a=some g->g<w.heap.size:=by
 intro g hg
 rcases h.2.2.2 with⟨e,_⟩|⟨g',cur,fr,e,hh,_⟩
 · rw[e]at hg;cases hg
 · rw[e]at hg;simp[eY]at hg;subst hg;exact(Array.getElem?_eq_some_iff.1 hh).1
theorem Ow.keep {α:Type}{T:Ty α}{t:TypeId}{w w':World}{A:Bl}{a:Option Addr}{n c:Nat}{xs:List α}(h:Ow T t w A a n c xs)(hk:Cj (λb=>A b\/some b=eY a) w w'):Ow T t w' A a n c xs:=by
 have hlt:=h.lt
 obtain⟨h1,h2,h3,h4⟩:=h
 refine⟨h1,h2,h3,?_⟩
 rcases h4 with h4|⟨g,cur,fr,e,hh,hf,hs,h4⟩
 · exact .inl h4
 · refine .inr ⟨g,cur,fr,e,?_,hf,hs,h4.keep (hk.mono λ_ h=>.inl h)⟩
   rw[hk.block g (hlt g (by rw[e];rfl)) (.inr (by rw[e];rfl))];exact hh
theorem Ow.below {α:Type}{T:Ty α}{t:TypeId}{w w':World}{A:Bl}{a:Option Addr}{n c:Nat}{xs:List α}(h:Ow T t w A a n c xs)(hk:Below w.heap.size w w'):Ow T t w' A a n c xs:=h.keep (zO hk _)
theorem Ow.mono {α:Type}{T:Ty α}{t:TypeId}{w:World}{A A':Bl}{a:Option Addr}{n c:Nat}{xs:List α}(h:Ow T t w A a n c xs)(ha:∀b,b<w.heap.size->A b->A' b):Ow T t w A' a n c xs:=by
 obtain⟨h1,h2,h3,h4⟩:=h
 refine⟨h1,h2,h3,?_⟩
 rcases h4 with h4|⟨g,cur,fr,e,hh,hf,hs,h4⟩
 · exact .inl h4
 · exact .inr ⟨g,cur,fr,e,hh,hf,hs,h4.mono ha⟩
theorem Ow.sl {α:Type}{T:Ty α}{t:TypeId}{w:World}{A A':Bl}{a:Option Addr}{n c:Nat}{xs:List α}(h:Ow T t w A a n c xs)(hA:∀b,b<w.heap.size->A b->A' b)(hg:∀g,eY a=some g->A' g):
   Sl T w A' a n c xs:=by
 have hlt:=h.lt
 obtain⟨h1,h2,h3,h4⟩:=h
 refine⟨h1,h2,h3,?_⟩
 rcases h4 with⟨_,_,h4⟩|⟨g,cur,fr,e,hh,hf,hs,h4⟩
 · exact .inl h4
 · refine .inr ⟨g,0,e,hlt g (by rw[e];rfl),hg g (by rw[e];rfl),_,h4.mono hA,λj hj=>?_⟩
   rw[List.length_take]at hj
   rw[cell_of_row w g _ cur t fr hh,Nat.zero_add,List.getElem?_take,if_pos (by omega)]
   simp
abbrev tV:Bl:=λ_=>True
theorem Ow.all {α:Type}{T:Ty α}{t:TypeId}{w:World}{A:Bl}{a:Option Addr}{n c:Nat}{xs:List α}(h:Ow T t w A a n c xs):Sl T w tV a n c xs:=h.sl (λ_ _ _=>trivial) (λ_ _=>trivial)
def bZ (B:Nat)(a:Option Addr):Prop:=∀g,eY a=some g->B <=g
theorem bZ.none (B:Nat):bZ B none:=λ_ h=>by cases h
theorem bZ.mono {B B':Nat}{a:Option Addr}(h:bZ B a)(hb:B' <=B):bZ B' a:=λg hg=>Nat.le_trans hb (h g hg)
theorem setRow_size (w:World)(g:Nat)(cs:Array Value):(w.setRow g cs).heap.size=w.heap.size:=by simp[World.setRow]
theorem dM (w:World)(g:Nat)(cs:Array Value):w.grownBy (w.setRow g cs) (some g):=
 ⟨rfl,rfl,rfl,by rw[setRow_size];exact Nat.le_refl _,λk _ hk=>setRow_other w g k cs λe=>hk (by rw[e])⟩
theorem pb {w:World}{g:Nat}{cur:Array Value}{t:TypeId}{fr:Nat×Nat}(hg:w.heap[g]? =some (.cells cur t fr))(o:Nat):w.cell? ⟨g,o,none⟩=cur[o]? :=cell_of_row w g o cur t fr hg
theorem zU {w:World}{g o:Nat}{cur:Array Value}{t:TypeId}{fr:Nat×Nat}(hg:w.heap[g]? =some (.cells cur t fr))(hf: ¬ (fr.1 <=o/\o<fr.2)):w.frozen? ⟨g,o,none⟩=false:=by
 obtain⟨lo,hi⟩:=fr
 simp only[World.frozen?,hg]
 simpa using hf
theorem BK {P:Program}{w:World}{g o:Nat}{cur:Array Value}{t:TypeId}{fr:Nat×Nat}(hg:w.heap[g]? =some (.cells cur t fr))(ho:o<cur.size)(hf: ¬ (fr.1 <=o/\o<fr.2))
   {v:Value} (h1:v.oneCell'=true):(store ⟨g,o,none⟩ v).run P w=.ok () (w.setRow g (cur.setIfInBounds o v)):=by
 rw[run_store P w _ v .plain h1,pb hg,zU hg hf,Array.getElem?_eq_getElem ho]
 simp only[Bool.false_eq_true,if_false]
 congr 1
 obtain⟨heap,tape,drawn,os,output⟩:=w
 simp only[World.setCell,World.setRow]
 congr 1
 apply Array.ext_getElem?
 intro k
 rw[Array.getElem?_modify,Array.getElem?_modify]
 by_cases hk:g=k
 · subst hk
   simp only[if_true]
   have hg':heap[g]? =some (.cells cur t fr):=hg
   rw[hg']
   rfl
 · simp only[if_neg hk]
theorem fi {P:Program}(g o:Nat)(t:TypeId)(fr:Nat×Nat):∀(vs:List Value) (i:Nat) (cur:Array Value) (w:World),w.heap[g]? =some (.cells cur t fr)->o+i+vs.length <=cur.size->
   (∀j,j<cur.size-> ¬ (fr.1 <=j/\j<fr.2))->(∀v∈vs,v.oneCell'=true)->
   (storeCells ⟨g,o,none⟩ vs i).run P w=.ok () (w.setRow g (cur.toList.take (o+i)++vs++cur.toList.drop (o+i+vs.length)).toArray)
 | [],i,cur,w,hg,_,_,_=>by
   simp only[storeCells,List.append_nil,List.length_nil,Nat.add_zero,List.take_append_drop,Array.toArray_toList]
   rw[setRow_self w g cur t fr hg]
   rfl
 | v::rest,i,cur,w,hg,hl,hf,h1=>by
   have hi:o+i<cur.size:=by simp at hl;omega
   simp only[storeCells,Sem.run_bind,fc]
   rw[BK hg hi (hf _ hi) (h1 v List.mem_cons_self),Result.andThen_ok]
   rw[fi g o t fr rest (i+1) (cur.setIfInBounds (o+i) v) _ (setRow_heap w g cur _ t fr hg) (by simp at hl ⊢;omega)
     (λj hj=>hf j (by simpa using hj)) (λu hu=>h1 u (List.mem_cons_of_mem _ hu))]
   congr 1
   have e2:∀(a b:Array Value),(w.setRow g a).setRow g b=w.setRow g b:=by
     intro a b
     obtain⟨heap,tape,drawn,os,output⟩:=w
     simp only[World.setRow]
     congr 1
     apply Array.ext_getElem?
     intro k
     rw[Array.getElem?_modify,Array.getElem?_modify,Array.getElem?_modify]
     by_cases hk:g=k
     · subst hk
       have hg':heap[g]? =some (.cells cur t fr):=hg
       simp[hg']
     · simp only[if_neg hk]
   rw[e2]
   congr 1
   apply Array.ext'
   simp only[Array.toList_setIfInBounds,List.length_cons]
   apply List.ext_getElem?
   intro k
   have hlen:cur.toList.length=cur.size:=by simp
   simp only[List.getElem?_append,List.length_append,List.length_take,List.length_set,List.getElem?_take,List.getElem?_drop,List.length_cons,hlen,List.getElem?_set]
   by_cases c1:k<o+i
   · have: ¬ o+i=k:=by omega
     simp[c1,this,show k<min (o+(i+1)) cur.size by omega,show k<min (o+i) cur.size by omega,show k<o+(i+1) by omega,
       show k<min (o+(i+1)) cur.size+rest.length by omega,show k<min (o+i) cur.size+(rest.length+1) by omega]
   · by_cases c2:k=o+i
     · subst c2
       have e3:min (o+i) cur.size=o+i:=by omega
       have e4:min (o+(i+1)) cur.size=o+i+1:=by omega
       simp[e3,e4,hi,show o+i<o+i+1+rest.length by omega,show o+i<o+(i+1) by omega]
     · have e3:min (o+i) cur.size=o+i:=by omega
       have e4:min (o+(i+1)) cur.size=o+i+1:=by omega
       by_cases c3:k<o+i+1+rest.length
       · have e5:k-(o+i)=(k-(o+i+1))+1:=by omega
         simp[e3,e4,c3,show k<o+i+(rest.length+1) by omega,show ¬ k<o+i+1 by omega,show ¬ k<o+i by omega,e5]
       · have e6: ¬ o+i=o+(i+1)+rest.length+(k-(o+i+1+rest.length)):=by omega
         have e7:o+(i+1)+rest.length+(k-(o+i+1+rest.length))=o+i+(rest.length+1)+(k-(o+i+(rest.length+1))):=by omega
         simp[e3,e4,c3,show ¬ k<o+i+(rest.length+1) by omega,e7]
         intro h;omega
def Src {α:Type}(T:Ty α)(w:World)(A:Bl)(y:Option Addr)(m:Nat)(ys:List α):Prop:=
 m=ys.length/\(ys=[]\/∃b off,y=some ⟨b,off,none⟩/\At T w A b off ys)
def Flat {α:Type}(T:Ty α):Prop:=∀w A w' A' vs x,T.rep w A vs x->T.rep w' A' vs x
theorem fP.flat {α:Type}{T:Ty α}(hf:Flat T){w w':World}{A A':Bl}{l:List Value}{xs:List α}(h:fP T w A l xs):fP T w' A' l xs:=⟨h.len,λi hi=>hf _ _ _ _ _ _ (h.rep i hi)⟩
theorem Sl.flat {α:Type}{T:Ty α}(hf:Flat T){w:World}{A A':Bl}{a:Option Addr}{n c:Nat}{xs:List α}(h:Sl T w A a n c xs):Src T w A' a n xs:=by
 obtain⟨h1,h2,h3,h4⟩:=h
 refine⟨h1,?_⟩
 rcases h4 with h4|⟨b,off,e,hb,hab,l,h5,h6⟩
 · exact .inl h4
 · exact .inr ⟨b,off,e,l,h5.flat hf,h6⟩
theorem Src.new1F {α:Type}{T:Ty α}(hf:Flat T){w:World}{A:Bl}{vs:List Value}{x:α}{t:TypeId}{b:Nat}{w':World}(hb:b=w.heap.size)(hw:w'=w.alloc (.cells vs.toArray t))(h:T.rep w A vs x):
   Src T w' A (some ⟨b,0,none⟩) 1 [x]:=by
 subst hb hw
 refine⟨rfl,.inr ⟨_,0,rfl,vs,fP.one (hf _ _ _ _ _ _ h),λj hj=>?_⟩⟩
 rw[pb (heap_alloc_new w _),Nat.zero_add]
 simp
theorem wK {w:World}{b off:Nat}{l:List Value}(h:∀j,j<l.length->w.cell? ⟨b,off+j,none⟩=l[j]?):∀j v,l[j]? =some v->w.cell? ((⟨b,off,none⟩:Addr).add j)=some v:=λj v hv=>by
 rw[fc,h j (List.getElem?_eq_some_iff.1 hv).1];exact hv
theorem fB {α:Type}{T:Ty α}{P:Program}{st t ty:TypeId}{bytes:Nat}{z:Value}(hu:P.underlying st=some (.slice t))(tf:TF P t T.k bytes z)(hb0:0<bytes)
   {w:World} {A:Bl} {a:Option Addr} {n c:Nat} {xs:List α} (ho:Ow T t w A a n c xs) (hA:∀g,eY a=some g-> ¬ A g)
   {y:Option Addr} {m cm:Nat} {ys:List α} (hs:Src T w A y m ys) (hbound:(xs.length+ys.length)*bytes <=140737488355328):
   ∃(w':World) (a':Option Addr) (n' c':Nat),(Builtin.append_ #[st,st] ty #[.slice a n c,.slice y m cm]).run P w=.ok (.slice a' n' c') w'/\Ow T t w' A a' n' c' (xs++ys)/\w.grownBy w' (eY a)/\
     (∀g,eY a'=some g->eY a=some g\/w.heap.size <=g):=by
 obtain⟨i,hi,hsz,hby,hz⟩:=tf.info
 have hzc:=tf.cells
 have hpos:=T.pos
 obtain⟨hn,hnc,hcm,ho4⟩:=ho
 obtain⟨hm,hs2⟩:=hs
 subst hn hm
 have hsum:xs.length+ys.length <=140737488355328:=Nat.le_trans (Nat.le_mul_of_pos_right _ hb0) hbound
 have hml:xs.length+ys.length <=maxLen:=by unfold maxLen;omega
 have hkeepA:∀{w'},w.grownBy w' (eY a)->Cj A w w':=λhg=>eV hg λb hb e=>hA b e.symm hb
 rcases ho4 with⟨rfl,rfl,rfl⟩|⟨g,cur,fr,rfl,hg,hf,hcs,hrep⟩
 ·
   rcases hs2 with rfl|⟨b,off,rfl,l,hl,hcl⟩
   · refine⟨w,none,0,0,?_,Ow.nil T t w A,⟨rfl,rfl,rfl,Nat.le_refl _,λ_ _ _=>rfl⟩,λg h=>by cases h⟩
     have hfc:(Builtin.firstCells i.size 0 (.slice y 0 cm)).run P w=.ok #[] w:=by
       cases y with
       | none=>rfl
       | some y=>simp[Builtin.firstCells,loadCells,loadCellsFrom]
     simp[Builtin.append_,bn hu,dZ hi,Builtin.lenOf,hfc]
   · by_cases h0:ys.length=0
     · have:ys=[]:=List.eq_nil_of_length_eq_zero h0
       subst this
       refine⟨w,none,0,0,?_,Ow.nil T t w A,⟨rfl,rfl,rfl,Nat.le_refl _,λ_ _ _=>rfl⟩,λg h=>by cases h⟩
       simp[Builtin.append_,bn hu,dZ hi,Builtin.lenOf,Builtin.firstCells,loadCells,loadCellsFrom]
     · have hr:=run_append_nil (P:=P) w st ty t i z hu hi hz ⟨b,off,none⟩ ys.length cm l (by rw[hl.len,hsz]) (wK hcl) (by omega) (by simp at hsum;omega) (by rw[hby];simp at hbound;omega)
       refine⟨_,_,_,_,hr,?_,⟨rfl,rfl,rfl,by simp,λk hk _=>heap_alloc_old w.drew _ k hk⟩,λg h=>.inr (by simp[eY]at h;omega)⟩
       have hge:=grownCap_ge w ys.length 0 t
       have hcm':grownCap w ys.length 0 t <=maxLen:=grownCap_le_maxLen w ys.length 0 t (by simp at hml;exact hml)
       refine⟨by simp,hge,hcm',.inr ⟨_,_,(0,0),rfl,heap_alloc_new w.drew _,λi _=>by simp,?_,?_⟩⟩
       · simp only[Array.size_append,List.size_toArray,size_zeroCells,hzc,hl.len,<- Nat.add_mul]
         congr 1;omega
       · rw[List.nil_append]
         simp only[Array.toList_append]
         rw[<- hl.len,List.take_left]
         exact hl.keep ⟨by simp,λk hk _=>heap_alloc_old w.drew _ k hk⟩
 · have hlt:g<w.heap.size:=(Array.getElem?_eq_some_iff.1 hg).1
   have hxl:(cur.toList.take (xs.length*T.k)).length=xs.length*T.k:=hrep.len
   obtain⟨l,hl,hfirst⟩:∃l,fP T w A l ys/\(Builtin.firstCells i.size ys.length (.slice y ys.length cm)).run P w=.ok l.toArray w:=by
     rcases hs2 with rfl|⟨b,off,rfl,l,hl,hcl⟩
     · refine⟨[],fP.nil T w A,?_⟩
       cases y with
       | none=>rfl
       | some y=>simp[Builtin.firstCells,loadCells,loadCellsFrom]
     · exact⟨l,hl,run_firstCells_some (P:=P) w i.size ys.length ⟨b,off,none⟩ _ _ l (by rw[hl.len,hsz]) (wK hcl)⟩
   have hlapp:((cur.toList.take (xs.length*T.k))++l).length=(xs.length+ys.length)*T.k:=by rw[List.length_append,hxl,hl.len,Nat.add_mul]
   by_cases hroom:xs.length+ys.length <=c
   · have hfit:xs.length*T.k+l.length <=cur.size:=by rw[hl.len,hcs,<- Nat.add_mul];exact Nat.mul_le_mul_right _ hroom
     have hst:=fi (P:=P) g (xs.length*T.k) t fr l 0 cur w hg (by simpa using hfit) hf hl.ones
     simp only[Nat.add_zero]at hst
     refine⟨w.setRow g (cur.toList.take (xs.length*T.k)++l++cur.toList.drop (xs.length*T.k+l.length)).toArray,some ⟨g,0,none⟩,xs.length+ys.length,c,?_,?_,dM w g _,λg' h=>.inl h⟩
     · have hadd:(⟨g,0,none⟩:Addr).add (xs.length*i.size)=⟨g,xs.length*T.k,none⟩:=by rw[fc,hsz,Nat.zero_add]
       simp only[Builtin.append_,Sem.run_bind,bn hu,dZ hi,Builtin.lenOf,Sem.run_pure,Result.andThen_ok,hroom,List.getElem?_toArray,List.getElem?_cons_zero,List.getElem?_cons_succ,if_true,Bool.false_eq_true,if_false,Bool.not_false,hfirst,hadd,hst]
     · refine⟨by simp,hroom,hcm,.inr ⟨g,_,fr,rfl,setRow_heap w g cur _ t fr hg,?_,?_,?_⟩⟩
       · intro j hj
         refine hf j ?_
         simp at hj;omega
       · simp;omega
       · have e:((cur.toList.take (xs.length*T.k)++l++cur.toList.drop (xs.length*T.k+l.length)).toArray).toList.take ((xs.length+ys.length)*T.k)=cur.toList.take (xs.length*T.k)++l:=by
           rw[<- hlapp];simp only[];exact List.take_left
         rw[e]
         exact(hrep.append hl).keep (hkeepA (dM w g _))
   · have holds:∀j v,(cur.toList.take (xs.length*T.k))[j]? =some v->w.cell? ((⟨g,0,none⟩:Addr).add j)=some v:=λj v hv=>by
       rw[fc,Nat.zero_add,pb hg]
       rw[List.getElem?_take]at hv
       split at hv
       · simpa using hv
       · cases hv
     have hne:ys≠[]:=by
       intro e;subst e;simp at hroom;omega
     rcases hs2 with rfl|⟨b,off,rfl,l',hl',hcl⟩
     · exact absurd rfl hne
     · have hr:=run_append_grow (P:=P) w st ty t i z hu hi hz ⟨g,0,none⟩ xs.length c (cur.toList.take (xs.length*T.k)) (by rw[hxl,hsz]) holds ⟨b,off,none⟩ ys.length cm l' (by rw[hl'.len,hsz]) (wK hcl)
         (by omega) (by omega) (growslice_fits (by omega) (by rw[hby];exact hbound))
       refine⟨_,_,_,_,hr,?_,⟨rfl,rfl,rfl,by simp,λk hk _=>heap_alloc_old w.drew _ k hk⟩,λg' h=>.inr (by simp[eY]at h;omega)⟩
       have hge:=grownCap_ge w (xs.length+ys.length) c t
       have hcm':grownCap w (xs.length+ys.length) c t <=maxLen:=grownCap_le_maxLen w _ c t hml
       have hlapp':((cur.toList.take (xs.length*T.k))++l').length=(xs.length+ys.length)*T.k:=by rw[List.length_append,hxl,hl'.len,Nat.add_mul]
       refine⟨by simp,hge,hcm',.inr ⟨_,_,(0,0),rfl,heap_alloc_new w.drew _,λi _=>by simp,?_,?_⟩⟩
       · simp only[Array.size_append,List.size_toArray,size_zeroCells,hzc,hxl,hl'.len,<- Nat.add_mul]
         congr 1;omega
       · simp only[Array.toList_append]
         rw[<- hlapp',List.take_left]
         exact(hrep.append hl').keep ⟨by simp,λk hk _=>heap_alloc_old w.drew _ k hk⟩
theorem run_storeVar_row {P:Program}{t u:TypeId}{ti:TypeInfo}(hi:P.info? t=some ti){w:World}{g o:Nat}{cur:Array Value}{fr:Nat×Nat}(hg:w.heap[g]? =some (.cells cur u fr))
   (hf:∀i,i<cur.size-> ¬ (fr.1 <=i/\i<fr.2)) {v:Value} (hs:v.cells.size=ti.size) (hfit:o+ti.size <=cur.size) (h1:∀c∈v.cells.toList,c.oneCell'=true):
   (Instr.storeAt t (.pointer (some ⟨g,o,none⟩)) v).run P w=.ok () (w.setRow g (cur.toList.take o++v.cells.toList++cur.toList.drop (o+v.cells.size)).toArray):=by
 show(do storeVar t (<- Instr.sureAddr (.pointer (some ⟨g,o,none⟩))) v).run P w=_
 rw[Sem.run_bind,gC,Result.andThen_ok]
 unfold storeVar
 rw[Sem.run_bind,dZ hi,Result.andThen_ok,if_neg (by simp[hs])]
 have:=fi (P:=P) g o u fr v.cells.toList 0 cur w hg (by simp;omega) hf h1
 simpa using this
theorem Ow.store {α:Type}{T:Ty α}{P:Program}{t:TypeId}{bytes:Nat}{z:Value}(tf:TF P t T.k bytes z){w:World}{A:Bl}{a:Option Addr}{n c:Nat}{xs:List α}(ho:Ow T t w A a n c xs)(hA:∀g,eY a=some g-> ¬ A g)
   {i:Int} (hi:i.toNat<xs.length) {k:Nat} (hk:T.k=k) {v:Value} {x:α} (hv:T.rep w A v.cells.toList x):
   ∃w',(Instr.storeAt t (.pointer (an a i k)) v).run P w=.ok () w'/\Ow T t w' A a n c (xs.set i.toNat x)/\w.grownBy w' (eY a):=by
 subst hk
 obtain⟨ti,hti,hsz,_,_⟩:=tf.info
 have hvl:=T.len hv
 have hA':=hA
 obtain⟨hn,hnc,hcm,ho4⟩:=ho
 rcases ho4 with⟨_,_,rfl⟩|⟨g,cur,fr,rfl,hg,hf,hcs,hrep⟩
 · cases hi
 · subst hn
   have hb:i.toNat*T.k+T.k <=xs.length*T.k:=by
     have:=Nat.mul_le_mul_right T.k (show i.toNat+1 <=xs.length from hi)
     rwa [Nat.add_mul,Nat.one_mul]at this
   have hb2:xs.length*T.k <=cur.size:=by rw[hcs];exact Nat.mul_le_mul_right _ hnc
   have hvs:v.cells.size=T.k:=by simpa using hvl
   rw[iW,Nat.zero_add]
   refine⟨_,run_storeVar_row hti hg hf (by rw[hvs,hsz]) (by rw[hsz];omega) (T.one hv),?_,dM w g _⟩
   refine⟨by simp,hnc,hcm,.inr ⟨g,_,fr,rfl,setRow_heap w g cur _ t fr hg,?_,?_,?_⟩⟩
   · intro j hj
     refine hf j ?_
     simp at hj;omega
   · simp;omega
   · have h1:=(hrep.set hi hv).keep (eV (dM w g (cur.toList.take (i.toNat*T.k)++v.cells.toList++cur.toList.drop (i.toNat*T.k+v.cells.size)).toArray) λb hb e=>hA g rfl (by cases e;exact hb))
     have e:((cur.toList.take (i.toNat*T.k)++v.cells.toList++cur.toList.drop (i.toNat*T.k+v.cells.size)).toArray).toList.take (xs.length*T.k)=
         (cur.toList.take (xs.length*T.k)).take (i.toNat*T.k)++v.cells.toList++(cur.toList.take (xs.length*T.k)).drop (i.toNat*T.k+v.cells.toList.length):=by
       simp only[]
       have e1:(cur.toList.take (xs.length*T.k)).take (i.toNat*T.k)=cur.toList.take (i.toNat*T.k):=by rw[List.take_take];congr 1;omega
       rw[e1,List.take_append,List.drop_take]
       have e2:(cur.toList.take (i.toNat*T.k)++v.cells.toList).length=i.toNat*T.k+T.k:=by simp[hvs];omega
       rw[e2,List.take_of_length_le (by rw[e2];omega)]
       congr 2
       rw[hvl]
     rw[e];exact h1
theorem mq {w w':World}(hos:w'.os=w.os)(ht:w'.tape=w.tape)(ho:w'.output=w.output)(hs:w.heap.size <=w'.heap.size)(hb:∀k,k<w.heap.size->w'.heap[k]? =w.heap[k]?):Below w.heap.size w w':=⟨hos,ht,ho,hs,hb⟩
theorem rr {α:Type}{e:α->Value}{h1:∀x,(e x).oneCell'=true}{p:α->Prop}{w:World}{A:Bl}{xs:List α}(hp:∀x∈xs,p x):fP (Ty.enc e h1 p) w A (xs.map e) xs:=by
 refine⟨by simp[Ty.enc],λi hi=>?_⟩
 have:((xs.map e).drop (i*1)).take 1=[e xs[i]]:=by
   rw[Nat.mul_one,<- List.map_drop,List.drop_eq_getElem_cons hi];rfl
 exact⟨this,hp _ (List.getElem_mem hi)⟩
theorem ib {α:Type}{e:α->Value}{h1:∀x,(e x).oneCell'=true}{p:α->Prop}{w:World}{A:Bl} :∀{l:List Value} {xs:List α},fP (Ty.enc e h1 p) w A l xs->l=xs.map e:=by
 intro l xs h
 have hl:l.length=xs.length:=by have:=h.len;simpa[Ty.enc]using this
 apply List.ext_getElem (by simp[hl])
 intro i h1 h2
 have hi:i<xs.length:=by omega
 have h3:((l.drop (i*1)).take 1)=[e xs[i]]:=(h.rep i hi).1
 have h4:((l.drop (i*1)).take 1)[0]? =some (e xs[i]):=by rw[h3];rfl
 rw[Nat.mul_one,List.getElem?_take,if_pos (by decide),List.getElem?_drop,Nat.add_zero,List.getElem?_eq_getElem h1]at h4
 rw[List.getElem_map];exact Option.some.inj h4
theorem lO {P:Program}{s d t:TypeId}(hs:P.underlying s=some .string)(hd:P.underlying d=some (.slice t))(ht:P.underlying t=some (.int .u8))(w:World)(l:List UInt8)(hl:l.length <=9223372036854775807)(A:Bl):
   ∃(w':World) (a:Option Addr) (n c:Nat),(convert s d (.string (mkS l))).run P w=.ok (.slice a n c) w'/\Ow tU8 t w' A a n c l/\Below w.heap.size w w'/\bZ w.heap.size a:=by
 have hcap:∃cap,l.length <=cap/\cap <=maxLen/\(choose (.appendCap l.length 0 t)).run P w=.ok cap w.drew:=by
   refine⟨_,grownCap_ge w l.length 0 t,grownCap_le_maxLen w l.length 0 t (by unfold maxLen;omega),?_⟩
   rw[run_choose];rfl
 obtain⟨cap,h1,h2,hch⟩:=hcap
 have hsz:(mkS l).size=l.length:=rfl
 generalize hcs:(mkS l).data.map (λb=>Value.int .u8 (b.toNat:Nat))++Array.replicate (cap-l.length) (Value.int .u8 0)=cs
 have hcss:cs.size=cap:=by rw[<- hcs];simp[mkS];omega
 have hmark:(markStringish ⟨w.heap.size,0,none⟩).run P (w.drew.alloc (.cells cs t))=.ok () ((w.drew.alloc (.cells cs t)).freeze ⟨w.heap.size,cs.size,none⟩ 1):=by
   unfold markStringish
   have:(w.drew.alloc (.cells cs t)).shape? w.heap.size=some (t,cs.size):=by
     unfold World.shape?
     have:=heap_alloc_new w.drew (.cells cs t)
     rw[show w.drew.heap.size=w.heap.size from rfl]at this
     rw[this]
   simp[this]
 refine⟨(w.drew.alloc (.cells cs t)).freeze ⟨w.heap.size,cs.size,none⟩ 1,some ⟨w.heap.size,0,none⟩,l.length,cap,?_,?_,?_,λg hg=>by simp[eY]at hg;omega⟩
 · simp only[convert,Sem.run_bind,bn hs,bn hd,Result.andThen_ok,bn ht,Conv.stringToBytes,hsz,hch]
   show((newRow t _).run P w.drew).andThen _=_
   rw[hcs]
   simp only[newRow,Sem.run_bind,run_newObj,Result.andThen_ok,Sem.run_pure,World.alloc_eq]
   rw[show w.drew.heap.size=w.heap.size from rfl,hmark]
   rfl
 · have hheap:((w.drew.alloc (.cells cs t)).freeze ⟨w.heap.size,cs.size,none⟩ 1).heap[w.heap.size]? =some (.cells cs t (cs.size,cs.size+1)):=by
     have:=heap_alloc_new w.drew (.cells cs t)
     rw[show w.drew.heap.size=w.heap.size from rfl]at this
     simp only[World.freeze,if_neg (show ¬ (1:Nat)=0 by decide),Array.getElem?_modify,if_true,this]
     rfl
   refine⟨rfl,h1,h2,.inr ⟨_,_,_,rfl,hheap,λi hi=>by omega,by rw[hcss];exact(Nat.mul_one cap).symm,?_⟩⟩
   have e:cs.toList.take (l.length*tU8.k)=l.map λc=>Value.int .u8 (c.toNat:Nat):=by
     rw[<- hcs]
     simp[mkS,tU8,Ty.enc]
   rw[e]
   exact rr λ_ _=>trivial
 · refine mq rfl rfl rfl (by simp[World.freeze]) λk hk=>?_
   simp only[World.freeze,if_neg (show ¬ (1:Nat)=0 by decide),Array.getElem?_modify]
   rw[if_neg (show ¬ w.heap.size=k by omega)]
   exact heap_alloc_old w.drew _ k hk
theorem tP {P:Program}{s d t:TypeId}(hs:P.underlying s=some (.slice t))(hd:P.underlying d=some .string)(ht:P.underlying t=some (.int .u8)){w:World}{A:Bl}{a:Option Addr}{n c:Nat}{xs:List UInt8}(h:Sl tU8 w A a n c xs):
   (convert s d (.slice a n c)).run P w=.ok (.string (mkS xs)) w:=by
 have conv:(convert s d (.slice a n c)).run P w=(Conv.bytesToString (.slice a n c)).run P w:=by
   cases a <;> simp[convert,bn hs,bn hd,bn ht]
 rw[conv]
 obtain⟨hn,_,_,h4⟩:=h
 have loop:∀(msg:String) (l:List UInt8) (acc:List UInt8),(do
     let r <- forIn (l.map λc=>Value.int .u8 (c.toNat:Nat)) (mkS acc) λc r=>do
       let .int .u8 n:=c|stuck msg
       pure (ForInStep.yield (r.push (UInt8.ofNat n.toNat)))
     pure (Value.string r):Sem Value).run P w=.ok (.string (mkS (acc++l))) w:=by
   intro msg l
   induction l with
   | nil=>intro acc;simp
   | cons x l ih=>
     intro acc
     have e1:(mkS acc).push x=mkS (acc++[x]):=by simp[mkS,ByteArray.push]
     have:=ih (acc++[x])
     simp only[List.map_cons,List.forIn_cons,bind_assoc,pure_bind,Int.toNat_natCast,UInt8.ofNat_toNat,e1]
     rw[this];simp
 cases a with
 | none=>
   have:xs=[]:=by
     rcases h4 with h4|⟨b,off,e,_⟩
     · exact h4
     · cases e
   subst this
   simp[Conv.bytesToString];rfl
 | some p=>
   have hcells:(loadCells p n).run P w=.ok (xs.map λc=>Value.int .u8 (c.toNat:Nat)).toArray w:=by
     rcases h4 with h4|⟨b,off,e,hb,hab,l,h5,h6⟩
     · subst h4;subst hn;simp[loadCells,loadCellsFrom]
     · cases e
       have:=Ds (P:=P) h6
       rw[h5.len]at this
       rw[ib h5]at this
       rw[hn]
       simpa[tU8,Ty.enc]using this
   have key:∃msg:String,(Conv.bytesToString (.slice (some p) n c)).run P w=((loadCells p n).run P w).andThen λcs w'=>(do
     let r <- forIn cs (mkS []) λc r=>do
       let .int .u8 n:=c|stuck msg
       pure (ForInStep.yield (r.push (UInt8.ofNat n.toNat)))
     pure (Value.string r):Sem Value).run P w':=by
     constructor
     unfold Conv.bytesToString
     simp only[Sem.run_bind]
     rfl
   obtain⟨msg,key⟩:=key
   rw[key,hcells,Result.andThen_ok]
   have:=loop msg xs []
   rw[List.nil_append]at this
   rw[<- this]
   simp only[List.forIn_toArray]
theorem wrap_i64 {n:Int}(h1: -9223372036854775808 <=n)(h2:n <=9223372036854775807):i64.wrap n=n:=IntWalk.i64_in n ⟨h1,h2⟩
theorem wrap_u8 {n:Int}(h1:0 <=n)(h2:n <=255):IntKind.u8.wrap n=n:=IntWalk.u8_in n ⟨h1,h2⟩
theorem BZ (c:UInt8):(0:Int) <=(c.toNat:Nat)/\((c.toNat:Nat):Int) <=255:=by
 have:=c.toNat_lt;omega
theorem zQ {s:List UInt8}{i:Int}(h:i.toNat<s.length):dp s i=((s[i.toNat]).toNat:Nat):=by
 simp[dp,h]
theorem DO {a b:UInt8}(h:((a.toNat:Nat):Int)=((b.toNat:Nat):Int)):a=b:=UInt8.toNat_inj.1 (by omega)
theorem xC {w:World}{A:Bl}{n:Int}{c:UInt8}(h:n=((c.toNat:Nat):Int)):tU8.rep w A [.int .u8 n] c:=⟨by rw[h],trivial⟩
theorem iu {w:World}{A:Bl}{p:List UInt8->Prop}{s:List UInt8}(h:p s):(PM p).rep w A [.string (mkS s)] s:=⟨rfl,h⟩
theorem yk {w:World}{A:Bl}{v:Value}{c:UInt8}(h:tU8.rep w A [v] c):v=.int .u8 (c.toNat:Nat):=by have:=h.1;simpa using this
theorem kX {w:World}{A:Bl}{p:List UInt8->Prop}{v:Value}{s:List UInt8}(h:(PM p).rep w A [v] s):v=.string (mkS s)/\p s:=⟨by have:=h.1;simpa using this,h.2⟩
theorem bZ.app {B:Nat}{w:World}{a a':Option Addr}(hf:bZ B a)(hB:B <=w.heap.size)(h:∀g,eY a'=some g->eY a=some g\/w.heap.size <=g):bZ B a':=λg hg=>by
 rcases h g hg with h|h
 · exact hf g h
 · exact Nat.le_trans hB h
theorem Ev:Flat tU8:=λ_ _ _ _ _ _ h=>h
theorem gM (p:List UInt8->Prop):Flat (PM p):=λ_ _ _ _ _ _ h=>h
theorem Ow.newF {α:Type}{T:Ty α}(hf:Flat T){w w':World}{A:Bl}{t:TypeId}{l:List Value}{xs:List α}{b:Nat}(hb:b=w.heap.size)(hw:w'=w.alloc (.cells l.toArray t))(h:fP T w A l xs)(hm:xs.length <=maxLen):
   Ow T t w' A (some ⟨b,0,none⟩) xs.length xs.length xs:=by
 subst hb hw
 refine⟨rfl,Nat.le_refl _,hm,.inr ⟨_,l.toArray,(0,0),rfl,heap_alloc_new w _,?_,by simpa using h.len,?_⟩⟩
 · intro i hi;simp
 · rw[<- h.len];simp;exact h.flat hf
theorem jR {w:World}{b:Nat}(hb:b=w.heap.size):bZ w.heap.size (some ⟨b,0,none⟩):=λg hg=>by simp[eY]at hg;omega
theorem kG {H:Type}{enc:TypeId×Value->H}{C:Checked}{os:Os}{f:FuncId}{fn:Func}{s:OpenSpec}{conds:List PathCond}{apart:Bool}{laid:List (String×DataW Unit)}(modest:Bool)(w0:World)(args:Array Value)(hos:w0.os=os)
   (hsh:(w0.forCall (λ_ _=>0) ⟨#[],args,[]⟩).Shaped C.prog)
   (hok:Input.okWideB C.prog (w0.forCall (λ_ _=>0) ⟨#[],args,[]⟩) f ⟨#[],args,[]⟩=true)
   (hrow:s.preRow enc C.prog fn conds apart laid (w0.forCall (λ_ _=>0) ⟨#[],args,[]⟩).memory args):
   ∃(w:World) (tape:Tape) (i:Input),w.os=os/\(w.forCall tape i).Shaped C.prog/\i.vars=[]/\Input.okWide C.prog (w.forCall tape i) .any w.heap.size f i/\
     s.preRow enc C.prog fn conds apart laid (w.forCall tape i).memory i.args/\({ modest:=modest } :Assume).holds C.prog (lone (Frame.enter C.prog f i.args .normal) [] (w.forCall tape i)):=
 ⟨w0,λ_ _=>0,⟨#[],args,[]⟩,hos,hsh,(Input.okWide_of_okWideB (base:=0) hok).1,(Input.okWide_of_okWideB hok).2,hrow,by
   simp only[Assume.holds]
   exact⟨by simp,by simp,λ_=>Modest.zero,by simp,by simp⟩⟩
def Cm (n:Nat):UInt8:=if n<10 then UInt8.ofNat (48+n)else UInt8.ofNat (55+n)
def tT (c:UInt8):List UInt8:=if 33 <=c.toNat/\c.toNat <=126/\c≠37 then[c]else[37,Cm (c.toNat/16),Cm (c.toNat%16)]
def iS:List UInt8->List UInt8
 | []=>[]
 | c::s=>tT c++iS s
def zL (s:List UInt8):List UInt8:=if s=[]then[37]else iS s
theorem uT:∀s t:List UInt8,iS (s++t)=iS s++iS t
 | [],_=>rfl
 | c::s,t=>by rw[List.cons_append,iS,iS,uT s t,List.append_assoc]
theorem HK (s:List UInt8)(c:UInt8):iS (s++[c])=iS s++tT c:=by
 rw[uT,iS,iS,List.append_nil]
theorem KO (c:UInt8):1 <=(tT c).length/\(tT c).length <=3:=by
 unfold tT;split <;> simp
theorem yu:∀s:List UInt8,s.length <=(iS s).length/\(iS s).length <=3*s.length
 | []=>⟨Nat.le_refl _,Nat.le_refl _⟩
 | c::s=>by
   have h1:=KO c;have h2:=yu s
   rw[iS,List.length_append,List.length_cons];omega
theorem Ig {p:UInt8->Prop}(h:∀n,n<256->p (UInt8.ofNat n))(c:UInt8):p c:=by
 have:=h c.toNat c.toNat_lt
 rwa [UInt8.ofNat_toNat]at this
theorem Ja:∀n,n<16->Cm n≠37:=by decide
theorem HJ (c:UInt8):∃l x,tT c=l++[x]/\x≠37:=by
 unfold tT
 split
 · rename_i h;exact⟨[],c,rfl,h.2.2⟩
 · exact⟨[37,Cm (c.toNat/16)],Cm (c.toNat%16),rfl,Ja _ (Nat.mod_lt _ (by decide))⟩
theorem Ao:∀s:List UInt8,s≠[]->∃l x,iS s=l++[x]/\x≠37
 | [c],_=>by obtain⟨l,x,h,hx⟩:=HJ c;exact⟨l,x,by rw[iS,iS,List.append_nil,h],hx⟩
 | c::d::s,_=>by
   obtain⟨l,x,h,hx⟩:=Ao (d::s) (by simp)
   exact⟨tT c++l,x,by rw[iS,h,List.append_assoc],hx⟩
def xc (c:UInt8):Nat:=if 48 <=c.toNat/\c.toNat <=57 then c.toNat-48 else if 65 <=c.toNat/\c.toNat <=70 then c.toNat-55 else 255
theorem zW:∀n,n<16->xc (Cm n)=n:=by decide
def Jo (a b:Nat):UInt8:=UInt8.ofNat ((a*16%256) ||| (b%16))
theorem LH:∀n,n<256->Jo (n/16) (n%16)=UInt8.ofNat n:=by decide+kernel
def unD:List UInt8->Option (List UInt8)
 | []=>some []
 | c::r=>if c=37 then match r with
     | a::b::r=>(unD r).map λt=>Jo (xc a) (xc b)::t
     | _=>none
   else(unD r).map λt=>c::t
theorem Mp (c:UInt8)(r:List UInt8):unD (tT c++r)=(unD r).map λt=>c::t:=by
 unfold tT
 split
 · rename_i h
   show unD (c::r)=_
   rw[unD.eq_def]
   show(if c=37 then _ else _)=_
   rw[if_neg h.2.2]
 · show unD (37::Cm (c.toNat/16)::Cm (c.toNat%16)::r)=_
   rw[unD,if_pos rfl]
   have hc:=c.toNat_lt
   rw[zW _ (by omega),zW _ (Nat.mod_lt _ (by decide)),LH _ hc,UInt8.ofNat_toNat]
theorem DP:∀s:List UInt8,unD (iS s)=some s
 | []=>by rw[iS,unD]
 | c::s=>by rw[iS,Mp,DP s];rfl
def uZ (s:List UInt8):List UInt8:=if s.getLast?=some 37 then s.dropLast else s
def unP (s:List UInt8):Option (List UInt8):=(unD (uZ s)).filter λt=>zL t==s
theorem Ox (s t:List UInt8):unP s=some t ↔ zL t=s:=by
 unfold unP
 rw[Option.filter_eq_some_iff]
 refine⟨λh=>eq_of_beq h.2,λh=>⟨?_,by rw[h];exact beq_self_eq_true s⟩⟩
 subst h
 unfold zL
 split
 · rename_i h;subst h;rfl
 · rename_i h
   obtain⟨l,x,hl,hx⟩:=Ao t h
   have:uZ (iS t)=iS t:=by
     unfold uZ
     rw[if_neg (by rw[hl,List.getLast?_concat];simpa using hx)]
   rw[this,DP]
def am (w:World)(k:Nat)(t:TypeId)(vs:List Value):Prop:=w.heap[k]? =some (.cells vs.toArray t (0,0))
theorem am.new {w w':World}{k:Nat}{t:TypeId}{vs:List Value}(hk:k=w.heap.size)(hw:w'=w.alloc (.cells vs.toArray t)):am w' k t vs:=by
 subst hk hw;exact heap_alloc_new w _
theorem am.lt {w:World}{k:Nat}{t:TypeId}{vs:List Value}(h:am w k t vs):k<w.heap.size:=(Array.getElem?_eq_some_iff.1 (show w.heap[k]? =_ from h)).1
theorem am.block {w w':World}{k:Nat}{t:TypeId}{vs:List Value}(h:am w k t vs)(e:w'.heap[k]? =w.heap[k]?):am w' k t vs:=e.trans h
theorem am.below {w w':World}{k:Nat}{t:TypeId}{vs:List Value}(h:am w k t vs)(hb:Below w.heap.size w w'):am w' k t vs:=h.block (hb.block k h.lt)
theorem am.grown {w w':World}{k:Nat}{t:TypeId}{vs:List Value}{row:Option Nat}(h:am w k t vs)(hg:w.grownBy w' row)(hne:some k≠row):am w' k t vs:=h.block (hg.block k h.lt hne)
theorem am.cell {w:World}{k:Nat}{t:TypeId}{vs:List Value}(h:am w k t vs)(i:Nat):w.cell? ⟨k,i,none⟩=vs[i]? :=by rw[pb h];simp
theorem am.load1 {P:Program}{u:TypeId}{d:TypeDesc}(hu:P.underlying u=some d)(ha:yz d=false){w:World}{k:Nat}{t:TypeId}{vs:List Value}(h:am w k t vs){i:Nat}{v:Value}(hv:vs[i]? =some v):
   (Instr.loadAt u (.pointer (some ⟨k,i,none⟩))).run P w=.ok v w:=mu hu ha (by rw[h.cell];exact hv)
theorem am.loadA {P:Program}{u:TypeId}{d:TypeDesc}{ti:TypeInfo}(hu:P.underlying u=some d)(ha:yz d=true)(hi:P.info? u=some ti){w:World}{k:Nat}{t:TypeId}{vs us:List Value}(h:am w k t vs){i:Nat}(hl:us.length=ti.size)
   (hv:∀j,j<us.length->vs[i+j]? =us[j]?):(Instr.loadAt u (.pointer (some ⟨k,i,none⟩))).run P w=.ok (.agg us.toArray) w:=
 xr hu ha hi hl λj hj=>by rw[h.cell];exact hv j hj
theorem am.res {P:Program}{u:TypeId}{p:Addr}{w w':World}{v:Value}(h:(Instr.loadAt u (.pointer (some p))).run P w=.ok v w'):(bG u (.pointer (some p))).run P w=.ok v w':=h
theorem am.store {P:Program}{u:TypeId}{bytes n:Nat}{z:Value}(tf:TF P u n bytes z){w:World}{k:Nat}{t:TypeId}{vs:List Value}(h:am w k t vs){i:Nat}{v:Value}(hs:v.cells.size=n)(hfit:i+n <=vs.length)(h1:∀c∈v.cells.toList,c.oneCell'=true):
   ∃w',(Instr.storeAt u (.pointer (some ⟨k,i,none⟩)) v).run P w=.ok () w'/\am w' k t (vs.take i++v.cells.toList++vs.drop (i+n))/\w.grownBy w' (some k):=by
 obtain⟨ti,hti,hsz,_,_⟩:=tf.info
 refine⟨_,run_storeVar_row hti (o:=i) h (λi _=>by simp) (by rw[hs,hsz]) (by rw[hsz];simpa using hfit) h1,?_,dM w k _⟩
 have:=setRow_heap w k vs.toArray (vs.take i++v.cells.toList++vs.drop (i+n)).toArray t (0,0) h
 rw[<- hs]at this ⊢
 exact this
theorem qC {n:Nat}{w:World}{R:Bool->World->Prop}{B:(Bool->World->Prop)->Prop}(f:Bool)(hB:B (λb w'=>w'=w/\b=f))(h:R f w):
   ∃J:FP [.one (.bool)],B J/\∀b:Bool,aX n (∀wj:World,J b wj->R b wj):=by
 refine⟨λb w'=>w'=w/\b=f,hB,λb=>aX.of ?_ _⟩
 rintro wj ⟨rfl,rfl⟩;exact h
theorem P3 {n:Nat}{k:IntKind}{w:World}{R:Int->World->Prop}{B:(Int->World->Prop)->Prop}(f:Int)(hB:B (λb w'=>w'=w/\b=f))(h:R f w):
   ∃J:FP [.one (.int k)],B J/\∀b:Int,aX n (∀wj:World,J b wj->R b wj):=by
 refine⟨λb w'=>w'=w/\b=f,hB,λb=>aX.of ?_ _⟩
 rintro wj ⟨rfl,rfl⟩;exact h
theorem QU {n:Nat}{w:World}{R:List UInt8->World->Prop}{B:(List UInt8->World->Prop)->Prop}(f:List UInt8)(hB:B (λb w'=>w'=w/\b=f))(h:R f w):
   ∃J:FP [.one (.str)],B J/\∀b:List UInt8,aX n (∀wj:World,J b wj->R b wj):=by
 refine⟨λb w'=>w'=w/\b=f,hB,λb=>aX.of ?_ _⟩
 rintro wj ⟨rfl,rfl⟩;exact h
theorem wZ {n:Nat}{w:World}{R:World->Prop}{B:(World->Prop)->Prop}(Q:Prop)(hB:B (λw'=>w'=w/\Q))(h:Q->R w):
   ∃J:FP [],B J/\aX n (∀wj:World,J wj->R wj):=by
 refine⟨λw'=>w'=w/\Q,hB,aX.of ?_ _⟩
 rintro wj ⟨rfl,hq⟩;exact h hq
theorem lJ {n:Nat}{R:World->Prop}{B:(World->Prop)->Prop}(Q:World->Prop)(hB:B Q)(h:∀w,Q w->R w):
   ∃J:FP [],B J/\aX n (∀wj:World,J wj->R wj):=⟨Q,hB,aX.of h _⟩
theorem wH {n:Nat}{R:Bool->World->Prop}{B:(Bool->World->Prop)->Prop}(Q:Bool->World->Prop)(hB:B Q)(h:∀b w,Q b w->R b w):
   ∃J:FP [.one (.bool)],B J/\∀b:Bool,aX n (∀wj:World,J b wj->R b wj):=⟨Q,hB,λb=>aX.of (h b) _⟩
theorem orJ {n:Nat}{w:World}{c x:Bool}{R:Bool->World->Prop}(h:R (c || x) w):∃J:FP [.one (.bool)],ab c (J true w) (J x w)/\∀b:Bool,aX n (∀wj:World,J b wj->R b wj):=
 qC (B:=λJ=>ab c (J true w) (J x w)) (c || x) (ab.of (λh=>⟨rfl,by rw[h];rfl⟩) (λh=>⟨rfl,by rw[h];rfl⟩)) h
theorem Hl {α:Type}{T:Ty α}(hfl:Flat T){P:Program}{st t ty:TypeId}{bytes:Nat}{z:Value}(hu:P.underlying st=some (.slice t))(tf:TF P t T.k bytes z)(hb0:0<bytes)
   {w0 w w1:World} {a:Option Addr} {n c:Nat} {xs:List α} (ho:Ow T t w NoB a n c xs) (hf:bZ w0.heap.size a) (hb:Below w0.heap.size w0 w) {k1:Nat} {vs:List Value} {x:α} (hk:k1=w.heap.size)
   (hw:w1=w.alloc (.cells vs.toArray t)) (hx:T.rep w NoB vs x) {cm:Nat} (hbound:(xs.length+1)*bytes <=140737488355328):
   ∃(w2:World) (a':Option Addr) (n' c':Nat),(Builtin.append_ #[st,st] ty #[.slice a n c,.slice (some ⟨k1,0,none⟩) 1 cm]).run P w1=.ok (.slice a' n' c') w2/\Ow T t w2 NoB a' n' c' (xs++[x])/\bZ w0.heap.size a'/\Below w0.heap.size w0 w2:=by
 have hB1:Below w.heap.size w w1:=hw▸ai w _
 have ho3:=ho.below hB1
 have hsrc:Src T w1 NoB (some ⟨k1,0,none⟩) 1 [x]:=Src.new1F hfl hk hw hx
 obtain⟨w4,a4,n4,c4,hr,ho4,hgr,hfr⟩:=fB (ty:=ty) hu tf hb0 ho3 (λ_ _ h=>h) (cm:=cm) hsrc (by simpa using hbound)
 have hB:=aa hb hB1 hb.size
 exact⟨w4,a4,n4,c4,hr,ho4,hf.app hB.size hfr,hB.grown hgr hB.size hf⟩
theorem gT {P:Program}{f:FuncId}{args:Array Value}{w u:World}{v:Value}(h:Calls P f args u (Ret λv' w'=>v'=v/\Below u.heap.size u w'))(hu:Below w.heap.size w u):
   Calls P f args u λe w'=>e=.returned v/\Below w.heap.size u w':=by
 refine h.mono ?_
 rintro _ w' ⟨_,rfl,rfl,hb⟩
 exact⟨rfl,hb.mono hu.size⟩
theorem fits {a b:Nat}(h:a+b <=9223372036854775807):((a+b:Nat):Int) <=i64.max:=by simp[IntKind.max,IntKind.bits];omega
theorem DN {t b:Int}(hb:0<b):(0 <=t->Int.tdiv t b=t/b/\Int.tmod t b=t%b)/\(t<0->Int.tdiv t b= -((-t)/b)/\Int.tmod t b= -((-t)%b)):=by
 refine⟨λh=>⟨Int.tdiv_eq_ediv_of_nonneg h,Int.tmod_eq_emod_of_nonneg h⟩,λh=>?_⟩
 obtain⟨u,rfl⟩:∃u,t= -u:=⟨-t,by omega⟩
 rw[Int.neg_tdiv,Int.neg_tmod,Int.neg_neg,Int.tdiv_eq_ediv_of_nonneg (by omega),Int.tmod_eq_emod_of_nonneg (by omega)]
 exact⟨rfl,rfl⟩
theorem ko {α:Type}(p:α->Bool)(s:List α):(s.takeWhile p).length <=s.length:=(List.takeWhile_sublist p).length_le
def dr (c:UInt8):List UInt8->List UInt8->List (List UInt8)
 | cur,[]=>[cur]
 | cur,x::r=>if x=c then cur::dr c [] r else dr c (cur++[x]) r
theorem Fy (c:UInt8):∀(a cur r:List UInt8),(∀x∈a,x≠c)->dr c cur (a++c::r)=(cur++a)::dr c [] r
 | [],cur,r,_=>by
   show(if c=c then _ else _)=_
   rw[if_pos rfl,List.append_nil]
 | x::a,cur,r,ha=>by
   show(if x=c then _ else _)=_
   rw[if_neg (ha x List.mem_cons_self)]
   exact(Fy c a (cur++[x]) r λy hy=>ha y (List.mem_cons_of_mem _ hy)).trans (by simp)
theorem CF (c:UInt8):∀(a cur:List UInt8),(∀x∈a,x≠c)->dr c cur a=[cur++a]
 | [],cur,_=>by simp[dr]
 | x::a,cur,ha=>by
   show(if x=c then _ else _)=_
   rw[if_neg (ha x List.mem_cons_self)]
   exact(CF c a (cur++[x]) λy hy=>ha y (List.mem_cons_of_mem _ hy)).trans (by simp)
theorem jG (c:UInt8):∀(s cur:List UInt8),dr c cur s≠[]
 | [],cur=>by simp[dr]
 | x::s,cur=>by
   show(if x=c then _ else _)≠_
   split
   · simp
   · exact jG c s _
theorem jp (c:UInt8):∀(s cur x:List UInt8),x∈dr c cur s->x.length <=cur.length+s.length
 | [],cur,x,h=>by simp[dr]at h;subst h;simp
 | y::r,cur,x,h=>by
   unfold dr at h
   split at h
   · rcases List.mem_cons.1 h with rfl|h
     · simp
     · have:=jp c r [] x h;simp at this ⊢;omega
   · have:=jp c r _ x h;simp at this ⊢;omega
theorem dF (c:UInt8):∀(s cur:List UInt8),(dr c cur s).length <=s.length+1
 | [],cur=>by simp[dr]
 | y::r,cur=>by
   unfold dr
   split
   · have:=dF c r [];simp;omega
   · have:=dF c r (cur++[y]);simp;omega
theorem AN (c:UInt8):∀(s cur x:List UInt8),x∈dr c cur s->(∀y∈cur,y≠c)->∀y∈x,(y∈cur\/y∈s)/\y≠c
 | [],cur,x,h,hc,y,hy=>by simp[dr]at h;subst h;exact⟨.inl hy,hc y hy⟩
 | z::r,cur,x,h,hc,y,hy=>by
   unfold dr at h
   split at h
   · rcases List.mem_cons.1 h with rfl|h
     · exact⟨.inl hy,hc y hy⟩
     · have:=AN c r [] x h (λ_ h=>by cases h) y hy
       refine⟨.inr (List.mem_cons_of_mem _ ?_),this.2⟩
       rcases this.1 with h|h
       · cases h
       · exact h
   · rename_i hz
     have:=AN c r (cur++[z]) x h (λy hy=>by
       rcases List.mem_append.1 hy with h|h
       · exact hc y h
       · simp at h;subst h;exact hz) y hy
     refine⟨?_,this.2⟩
     rcases this.1 with h|h
     · rcases List.mem_append.1 h with h|h
       · exact .inl h
       · simp at h;subst h;exact .inr List.mem_cons_self
     · exact .inr (List.mem_cons_of_mem _ h)
theorem zY (s:List UInt8)(c:UInt8):(Lib.index s [c]= -1/\∀x∈s,x≠c)\/∃i:Nat,Lib.index s [c]=(i:Int)/\∃h:i<s.length,s=s.take i++c::s.drop (i+1)/\∀x∈s.take i,x≠c:=by
 induction s with
 | nil=>exact .inl ⟨rfl,λx h=>by cases h⟩
 | cons b l ih=>
   by_cases h:b=c
   · subst h
     refine .inr ⟨0,by rw[Lib.index];simp[List.isPrefixOf],by simp,rfl,λx h=>by simp at h⟩
   · have hp:([c]:List UInt8).isPrefixOf (b::l)=false:=by simp[List.isPrefixOf,Ne.symm h]
     have hix:Lib.index (b::l) [c]=if Lib.index l [c]== -1 then -1 else Lib.index l [c]+1:=by rw[Lib.index,hp];simp
     rcases ih with⟨h1,h2⟩|⟨i,h1,h2,h3,h4⟩
     · refine .inl ⟨by rw[hix,h1];rfl,λx hx=>?_⟩
       rcases List.mem_cons.1 hx with rfl|hx
       · exact h
       · exact h2 x hx
     · refine .inr ⟨i+1,?_,by simpa using h2,?_,λx hx=>?_⟩
       · rw[hix,h1,if_neg (by rw[beq_iff_eq];omega)];omega
       · simp only[List.take_succ_cons,List.drop_succ_cons,List.cons_append]
         rw[<- h3]
       · rw[List.take_succ_cons]at hx
         rcases List.mem_cons.1 hx with rfl|hx
         · exact h
         · exact h4 x hx
theorem ye (c:UInt8):∀(n:Nat) (s:List UInt8),s.length <=n->Lib.splitK [c] 0 (Lib.count s [c]) s=dr c [] s
 | n,s,hn=>by
   rcases zY s c with⟨h1,h2⟩|⟨i,h1,h2,h3,h4⟩
   · rw[Lib.count_miss h1,CF c s [] h2];rfl
   · have hc:=Lib.count_hit (s:=s) (sub:=[c]) (by simp) h1
     cases n with
     | zero=>omega
     | succ n=>
       have ih:=ye c n (s.drop (i+1)) (by rw[List.length_drop];omega)
       rw[hc,Nat.add_comm 1]
       unfold Lib.splitK
       rw[if_neg (by rw[h1,beq_iff_eq];omega),h1]
       simp only[Int.toNat_natCast,Nat.add_zero,List.length_cons,List.length_nil,Nat.zero_add]
       rw[ih]
       conv=>rhs;rw[h3,Fy c _ _ _ h4]
       simp
theorem yf (s:List UInt8)(c:UInt8):(Lib.splitB (mkS [c]) 0 (Lib.countB (mkS s) (mkS [c])) (mkS s)).map Value.string=(dr c [] s).map λx=>Value.string (mkS x):=by
 have h:=Lib.splitB_data (mkS [c]) 0 (Lib.countB (mkS s) (mkS [c])) (mkS s)
 have h2:Lib.splitK (mkS [c]).data.toList 0 (Lib.countB (mkS s) (mkS [c])) (mkS s).data.toList=dr c [] s:=ye c _ s (Nat.le_refl _)
 rw[h2]at h
 rw[<- h,List.map_map]
 rfl
theorem E9 (s:List UInt8)(c:UInt8):Lib.countB (mkS s) (mkS [c])+1=(dr c [] s).length:=by
 have h:=yf s c
 have h2:=congrArg List.length h
 rw[List.length_map,List.length_map,Lib.splitB_all (mkS [c]) (Nat.le_refl 1) 0 _ _ rfl]at h2
 exact h2
theorem Lf (s:List UInt8)(c:UInt8):Lib.cut s [c]=if c∈s then(s.takeWhile (· !=c),(s.dropWhile (· !=c)).drop 1,true)else(s,[],false):=by
 unfold Lib.cut
 rcases zY s c with⟨h1,h2⟩|⟨i,h1,h2,h3,h4⟩
 · rw[h1,if_neg (by omega),if_neg (λh=>h2 c h rfl)]
 · have hmem:c∈s:=by rw[h3];simp
   rw[h1,if_pos (by omega),if_pos hmem]
   have ht:s.takeWhile (· !=c)=s.take i:=by
     conv=>lhs;rw[h3]
     rw[List.takeWhile_append_of_pos (by intro a ha;simpa using h4 a ha)]
     simp
   have hd:s.dropWhile (· !=c)=c::s.drop (i+1):=by
     conv=>lhs;rw[h3]
     rw[List.dropWhile_append_of_pos (by intro a ha;simpa using h4 a ha)]
     simp
   rw[ht,hd];rfl
def u0 (x:List UInt8):List UInt8:=if x.getLast?=some 13 then x.dropLast else x
def uj (s:List UInt8):List (List UInt8):=((if(dr 10 [] s).getLast?=some []then(dr 10 [] s).dropLast else dr 10 [] s)).map u0
theorem zV {α:Type}{l:List α}{x:α}(h:0<l.length)(hx:l[l.length-1]'(by omega)=x):l.getLast?=some x:=by
 rw[List.getLast?_eq_getElem?,List.getElem?_eq_getElem (by omega),hx]
theorem Le (x:List UInt8):(u0 x).length <=x.length:=by unfold u0;split <;> simp
abbrev eL:Nat:=8
abbrev fV:Nat:=9
abbrev iJ:Nat:=13
abbrev fx:Nat:=14
abbrev kl:Nat:=15
abbrev iz:Nat:=18
abbrev me:Nat:=19
abbrev jO:Nat:=20
abbrev wX:Nat:=23
abbrev eM:Nat:=24
abbrev lY:Nat:=25
abbrev iI:Nat:=26
abbrev lX:Nat:=27
abbrev kQ:Nat:=28
abbrev jK:Nat:=29
abbrev qH:Nat:=30
abbrev qI:Nat:=31
abbrev gK:Nat:=32
abbrev cj:Nat:=37
abbrev jQ:Nat:=41
abbrev eC:Nat:=42
abbrev lu:Nat:=43
abbrev cY:Nat:=44
abbrev jb:Nat:=45
abbrev fe:Nat:=46
abbrev mf:Nat:=47
abbrev cQ:Nat:=48
abbrev mi:Nat:=58
abbrev iA:Nat:=59
abbrev iy:Nat:=60
abbrev kh:Nat:=61
abbrev gJ:Nat:=62
abbrev kR:Nat:=63
abbrev im:Nat:=64
abbrev dX:Nat:=65
abbrev lZ:Nat:=66
abbrev bM:Nat:=67
abbrev ij:Nat:=68
abbrev bD:Nat:=69
abbrev mc:Nat:=70
abbrev df:Nat:=71
abbrev gd:Nat:=72
abbrev mb:Nat:=73
abbrev io:Nat:=74
abbrev tb:Nat:=75
abbrev gx:Nat:=76
abbrev dy:Nat:=77
abbrev dI:Nat:=78
abbrev mg:Nat:=79
abbrev ft:Nat:=80
abbrev bO:Nat:=81
abbrev mh:Nat:=82
abbrev bV:Nat:=90
abbrev ig:Nat:=91
abbrev bl:Nat:=92
abbrev cV:Nat:=93
abbrev wY:Nat:=94
abbrev ej:Nat:=96
abbrev gz:Nat:=97
abbrev gy:Nat:=98
abbrev fD:Nat:=99
abbrev cU:Nat:=100
abbrev iX:Nat:=114
abbrev jq:Nat:=115
abbrev gI:Nat:=116
abbrev dt:Nat:=117
abbrev lS:Nat:=118
abbrev kN:Nat:=119
abbrev kL:Nat:=120
abbrev jN:Nat:=121
abbrev jH:Nat:=122
abbrev bK:Nat:=123
abbrev bg:Nat:=124
abbrev eT:Nat:=125
abbrev gw:Nat:=126
abbrev gn:Nat:=127
abbrev gA:Nat:=128
abbrev dj:Nat:=129
abbrev gm:Nat:=130
abbrev fK:Nat:=131
abbrev ik:Nat:=132
abbrev dP:Nat:=133
abbrev aV:Nat:=134
abbrev cI:Nat:=135
abbrev fJ:Nat:=136
abbrev fu:Nat:=137
abbrev ln:Nat:=138
abbrev kU:Nat:=141
abbrev bS:Nat:=147
abbrev qJ:Nat:=148
abbrev wW:Nat:=149
abbrev fT:Nat:=150
abbrev fU:Nat:=151
abbrev wV:Nat:=152
abbrev cx:Nat:=153
abbrev cH:Nat:=154
abbrev nK:Nat:=155
abbrev qN:Nat:=171
abbrev nx:Nat:=172
abbrev ny:Nat:=173
abbrev jr:Nat:=174
abbrev au:Nat:=177
abbrev qK:Nat:=178
abbrev kT:Nat:=179
abbrev eU:Nat:=180
abbrev rI:Nat:=185
abbrev lT:Nat:=186
abbrev nJ:Nat:=187
abbrev pz:Nat:=188
abbrev fS:Nat:=189
abbrev iH:Nat:=190
abbrev kO:Nat:=191
abbrev cz:Nat:=192
abbrev kK:Nat:=193
abbrev mj:Nat:=194
abbrev iG:Nat:=195
abbrev jP:Nat:=196
abbrev gk:Nat:=197
abbrev dJ:Nat:=198
abbrev cN:Nat:=199
abbrev bJ:Nat:=200
abbrev bi:Nat:=201
abbrev bt:Nat:=202
abbrev dz:Nat:=219
abbrev pk:Nat:=225
abbrev qF:Nat:=226
abbrev dU:Nat:=227
abbrev eh:Nat:=228
abbrev db:Nat:=229
abbrev lW:Nat:=230
abbrev lR:Nat:=248
abbrev nC:Nat:=249
abbrev fR:Nat:=250
abbrev lm:Nat:=251
abbrev js:Nat:=252
abbrev ii:Nat:=253
abbrev dm:Nat:=254
abbrev ml:Nat:=258
abbrev qM:Nat:=259
abbrev ki:Nat:=260
abbrev nI:Nat:=264
abbrev gG:Nat:=265
abbrev jI:Nat:=266
abbrev kj:Nat:=267
abbrev iY:Nat:=269
abbrev nB:Nat:=280
abbrev ff:Nat:=281
abbrev fL:Nat:=298
abbrev ed:Nat:=301
abbrev dO:Nat:=302
abbrev qL:Nat:=306
abbrev nG:Nat:=307
abbrev gH:Nat:=308
abbrev nH:Nat:=309
abbrev lV:Nat:=310
abbrev aQ:Nat:=311
abbrev jJ:Nat:=312
abbrev fq:Nat:=313
abbrev eP:Nat:=323
abbrev fw:Nat:=325
abbrev yI:Nat:=327
abbrev qG:Nat:=328
abbrev nE:Nat:=329
abbrev dH:Nat:=330
abbrev u1:Nat:=337
abbrev iE:Nat:=0
abbrev bu:Nat:=2
abbrev bp:Nat:=3
abbrev bX:Nat:=4
abbrev bI:Nat:=5
abbrev ah:Nat:=9
abbrev aK:Nat:=23
abbrev aP:Nat:=26
abbrev aG:Nat:=34
abbrev aI:Nat:=36
abbrev iT:Nat:=38
abbrev az:Nat:=43
abbrev ae:Nat:=45
abbrev ba:Nat:=47
abbrev aR:Nat:=49
abbrev ao:Nat:=51
abbrev dN:Nat:=60
abbrev bj:Nat:=67
abbrev bw:Nat:=68
abbrev aO:Nat:=70
abbrev bf:Nat:=84
abbrev bA:Nat:=102
abbrev aN:Nat:=104
abbrev aA:Nat:=106
abbrev bm:Nat:=119
abbrev iD:Nat:=124
abbrev aq:Nat:=127
abbrev af:Nat:=131
abbrev aH:Nat:=140
abbrev cd:Nat:=156
abbrev aZ:Nat:=158
abbrev ak:Nat:=174
abbrev aS:Nat:=175
abbrev aF:Nat:=177
abbrev av:Nat:=190
abbrev bC:Nat:=193
abbrev Gx:Nat:=214
abbrev cv:Nat:=244
abbrev dx:Nat:=269
abbrev eJ:Nat:=272
abbrev aJ:Nat:=273
abbrev Aw:Nat:=287
abbrev be:Nat:=296
abbrev cP:Nat:=298
abbrev Ax:Nat:=301
abbrev jn:Nat:=322
abbrev lK:Nat:=338
theorem bQ:prog.underlying bu=some (.int .i64):=by kernel_rfl
theorem sp:TF prog bu 1 8 (.int .i64 (0:Int)):=TF.of (by kernel_rfl) (by kernel_rfl) false (by kernel_rfl) (.inr rfl)
theorem bT:prog.underlying bp=some (.int .i64):=by kernel_rfl
theorem iO:TF prog bp 1 8 (.int .i64 (0:Int)):=TF.of (by kernel_rfl) (by kernel_rfl) false (by kernel_rfl) (.inr rfl)
theorem cE:prog.underlying bX=some (.bool):=by kernel_rfl
theorem mG:TF prog bX 1 1 (.bool false):=TF.of (by kernel_rfl) (by kernel_rfl) false (by kernel_rfl) (.inr rfl)
theorem cB:prog.underlying bI=some (.int .u8):=by kernel_rfl
theorem ku:TF prog bI 1 1 (.int .u8 (0:Int)):=TF.of (by kernel_rfl) (by kernel_rfl) false (by kernel_rfl) (.inr rfl)
theorem aw:prog.underlying ah=some (.string):=by kernel_rfl
theorem fz:TF prog ah 1 16 (.string (mkS [])):=TF.of (by kernel_rfl) (by kernel_rfl) false (by kernel_rfl) (.inr rfl)
theorem ky:prog.underlying aK=some (.slice ao):=by kernel_rfl
theorem DH:TF prog aP 3 24 (.agg #[.int .i64 (0:Int),.int .i64 (0:Int),.int .i64 (0:Int)]):=TF.of (by kernel_rfl) (by kernel_rfl) true (by kernel_rfl) (.inl rfl)
theorem yh:TF prog aG 2 24 (.agg #[.int .i64 (0:Int),.string (mkS [])]):=TF.of (by kernel_rfl) (by kernel_rfl) true (by kernel_rfl) (.inl rfl)
theorem fA:prog.underlying aI=some (.slice ah):=by kernel_rfl
theorem uu:TF prog aI 1 24 (.slice none 0 0):=TF.of (by kernel_rfl) (by kernel_rfl) false (by kernel_rfl) (.inr rfl)
theorem lC:prog.underlying iT=some (.pointer aO):=by kernel_rfl
abbrev eS:Array Value:= #[.int .u8 (0:Int),.int .u8 (0:Int),.int .u8 (0:Int),.int .u8 (0:Int),.int .u8 (0:Int),.int .u8 (0:Int),.int .u8 (0:Int),.int .u8 (0:Int),.int .u8 (0:Int),.int .u8 (0:Int),.int .u8 (0:Int),.int .u8 (0:Int),.int .u8 (0:Int),.int .u8 (0:Int),.int .u8 (0:Int),.int .u8 (0:Int)]
theorem Fe:TF prog az 16 16 (.agg #[.int .u8 (0:Int),.int .u8 (0:Int),.int .u8 (0:Int),.int .u8 (0:Int),.int .u8 (0:Int),.int .u8 (0:Int),.int .u8 (0:Int),.int .u8 (0:Int),.int .u8 (0:Int),.int .u8 (0:Int),.int .u8 (0:Int),.int .u8 (0:Int),.int .u8 (0:Int),.int .u8 (0:Int),.int .u8 (0:Int),.int .u8 (0:Int)]):=TF.of (by kernel_rfl) (by kernel_rfl) true (by kernel_rfl) (.inl rfl)
abbrev bF:Array Value:= #[.int .i64 (0:Int),.string (mkS []),.int .u8 (0:Int),.int .u8 (0:Int),.int .u8 (0:Int),.int .u8 (0:Int),.int .u8 (0:Int),.int .u8 (0:Int),.int .u8 (0:Int),.int .u8 (0:Int),.int .u8 (0:Int),.int .u8 (0:Int),.int .u8 (0:Int),.int .u8 (0:Int),.int .u8 (0:Int),.int .u8 (0:Int),.int .u8 (0:Int),.int .u8 (0:Int)]
theorem Ff:TF prog ae 18 40 (.agg #[.int .i64 (0:Int),.string (mkS []),.int .u8 (0:Int),.int .u8 (0:Int),.int .u8 (0:Int),.int .u8 (0:Int),.int .u8 (0:Int),.int .u8 (0:Int),.int .u8 (0:Int),.int .u8 (0:Int),.int .u8 (0:Int),.int .u8 (0:Int),.int .u8 (0:Int),.int .u8 (0:Int),.int .u8 (0:Int),.int .u8 (0:Int),.int .u8 (0:Int),.int .u8 (0:Int)]):=TF.of (by kernel_rfl) (by kernel_rfl) true (by kernel_rfl) (.inl rfl)
abbrev np:Array Value:= #[.bool false,.int .i64 (0:Int),.string (mkS []),.int .u8 (0:Int),.int .u8 (0:Int),.int .u8 (0:Int),.int .u8 (0:Int),.int .u8 (0:Int),.int .u8 (0:Int),.int .u8 (0:Int),.int .u8 (0:Int),.int .u8 (0:Int),.int .u8 (0:Int),.int .u8 (0:Int),.int .u8 (0:Int),.int .u8 (0:Int),.int .u8 (0:Int),.int .u8 (0:Int),.int .u8 (0:Int),.int .i64 (0:Int),.string (mkS [])]
theorem HF:TF prog ba 21 72 (.agg #[.bool false,.int .i64 (0:Int),.string (mkS []),.int .u8 (0:Int),.int .u8 (0:Int),.int .u8 (0:Int),.int .u8 (0:Int),.int .u8 (0:Int),.int .u8 (0:Int),.int .u8 (0:Int),.int .u8 (0:Int),.int .u8 (0:Int),.int .u8 (0:Int),.int .u8 (0:Int),.int .u8 (0:Int),.int .u8 (0:Int),.int .u8 (0:Int),.int .u8 (0:Int),.int .u8 (0:Int),.int .i64 (0:Int),.string (mkS [])]):=TF.of (by kernel_rfl) (by kernel_rfl) true (by kernel_rfl) (.inl rfl)
abbrev lM:Array Value:= #[.bool false,.int .i64 (0:Int),.string (mkS []),.int .u8 (0:Int),.int .u8 (0:Int),.int .u8 (0:Int),.int .u8 (0:Int),.int .u8 (0:Int),.int .u8 (0:Int),.int .u8 (0:Int),.int .u8 (0:Int),.int .u8 (0:Int),.int .u8 (0:Int),.int .u8 (0:Int),.int .u8 (0:Int),.int .u8 (0:Int),.int .u8 (0:Int),.int .u8 (0:Int),.int .u8 (0:Int),.string (mkS []),.int .i64 (0:Int)]
theorem zD:TF prog aR 21 72 (.agg #[.bool false,.int .i64 (0:Int),.string (mkS []),.int .u8 (0:Int),.int .u8 (0:Int),.int .u8 (0:Int),.int .u8 (0:Int),.int .u8 (0:Int),.int .u8 (0:Int),.int .u8 (0:Int),.int .u8 (0:Int),.int .u8 (0:Int),.int .u8 (0:Int),.int .u8 (0:Int),.int .u8 (0:Int),.int .u8 (0:Int),.int .u8 (0:Int),.int .u8 (0:Int),.int .u8 (0:Int),.string (mkS []),.int .i64 (0:Int)]):=TF.of (by kernel_rfl) (by kernel_rfl) true (by kernel_rfl) (.inl rfl)
abbrev cA:Array Value:= #[.int .i64 (0:Int),.bool false,.int .i64 (0:Int),.string (mkS []),.int .u8 (0:Int),.int .u8 (0:Int),.int .u8 (0:Int),.int .u8 (0:Int),.int .u8 (0:Int),.int .u8 (0:Int),.int .u8 (0:Int),.int .u8 (0:Int),.int .u8 (0:Int),.int .u8 (0:Int),.int .u8 (0:Int),.int .u8 (0:Int),.int .u8 (0:Int),.int .u8 (0:Int),.int .u8 (0:Int),.int .u8 (0:Int),.int .i64 (0:Int),.string (mkS []),.string (mkS []),.bool false,.int .i64 (0:Int),.string (mkS []),.int .u8 (0:Int),.int .u8 (0:Int),.int .u8 (0:Int),.int .u8 (0:Int),.int .u8 (0:Int),.int .u8 (0:Int),.int .u8 (0:Int),.int .u8 (0:Int),.int .u8 (0:Int),.int .u8 (0:Int),.int .u8 (0:Int),.int .u8 (0:Int),.int .u8 (0:Int),.int .u8 (0:Int),.int .u8 (0:Int),.int .u8 (0:Int),.string (mkS []),.int .i64 (0:Int),.int .i64 (0:Int)]
theorem oH:TF prog ao 45 176 (.agg #[.int .i64 (0:Int),.bool false,.int .i64 (0:Int),.string (mkS []),.int .u8 (0:Int),.int .u8 (0:Int),.int .u8 (0:Int),.int .u8 (0:Int),.int .u8 (0:Int),.int .u8 (0:Int),.int .u8 (0:Int),.int .u8 (0:Int),.int .u8 (0:Int),.int .u8 (0:Int),.int .u8 (0:Int),.int .u8 (0:Int),.int .u8 (0:Int),.int .u8 (0:Int),.int .u8 (0:Int),.int .u8 (0:Int),.int .i64 (0:Int),.string (mkS []),.string (mkS []),.bool false,.int .i64 (0:Int),.string (mkS []),.int .u8 (0:Int),.int .u8 (0:Int),.int .u8 (0:Int),.int .u8 (0:Int),.int .u8 (0:Int),.int .u8 (0:Int),.int .u8 (0:Int),.int .u8 (0:Int),.int .u8 (0:Int),.int .u8 (0:Int),.int .u8 (0:Int),.int .u8 (0:Int),.int .u8 (0:Int),.int .u8 (0:Int),.int .u8 (0:Int),.int .u8 (0:Int),.string (mkS []),.int .i64 (0:Int),.int .i64 (0:Int)]):=TF.of (by kernel_rfl) (by kernel_rfl) true (by kernel_rfl) (.inl rfl)
theorem kw:prog.underlying dN=some (.pointer iD):=by kernel_rfl
theorem bh:prog.underlying bj=some (.map cd bp):=by kernel_rfl
theorem dB:prog.underlying bw=some (.slice aZ):=by kernel_rfl
theorem yi:TF prog bw 1 24 (.slice none 0 0):=TF.of (by kernel_rfl) (by kernel_rfl) false (by kernel_rfl) (.inr rfl)
theorem cg:prog.underlying bf=some (.slice bI):=by kernel_rfl
theorem mQ:TF prog aN 2 16 (.agg #[.int .i64 (0:Int),.nilFunc]):=TF.of (by kernel_rfl) (by kernel_rfl) true (by kernel_rfl) (.inl rfl)
theorem bU:prog.underlying aA=some (.map ah aN):=by kernel_rfl
theorem bE:prog.underlying bm=some (.pointer aF):=by kernel_rfl
theorem vO:TF prog bm 1 8 (.pointer none):=TF.of (by kernel_rfl) (by kernel_rfl) false (by kernel_rfl) (.inr rfl)
theorem so:TF prog aq 11 112 (.agg #[.string (mkS []),.string (mkS []),.string (mkS []),.string (mkS []),.bool false,.int .i64 (0:Int),.bool false,.int .i64 (0:Int),.bool false,.bool false,.int .i64 (0:Int)]):=TF.of (by kernel_rfl) (by kernel_rfl) true (by kernel_rfl) (.inl rfl)
abbrev cy:Array Value:= #[.string (mkS []),.string (mkS []),.int .i64 (0:Int),.string (mkS []),.int .u8 (0:Int),.int .u8 (0:Int),.int .u8 (0:Int),.int .u8 (0:Int),.int .u8 (0:Int),.int .u8 (0:Int),.int .u8 (0:Int),.int .u8 (0:Int),.int .u8 (0:Int),.int .u8 (0:Int),.int .u8 (0:Int),.int .u8 (0:Int),.int .u8 (0:Int),.int .u8 (0:Int),.int .u8 (0:Int),.int .u8 (0:Int),.bool false,.string (mkS []),.bool false,.bool false,.int .i64 (0:Int),.int .i64 (0:Int),.int .i64 (0:Int),.int .i64 (0:Int),.int .i64 (0:Int)]
theorem jB:TF prog af 29 144 (.agg #[.string (mkS []),.string (mkS []),.int .i64 (0:Int),.string (mkS []),.int .u8 (0:Int),.int .u8 (0:Int),.int .u8 (0:Int),.int .u8 (0:Int),.int .u8 (0:Int),.int .u8 (0:Int),.int .u8 (0:Int),.int .u8 (0:Int),.int .u8 (0:Int),.int .u8 (0:Int),.int .u8 (0:Int),.int .u8 (0:Int),.int .u8 (0:Int),.int .u8 (0:Int),.int .u8 (0:Int),.int .u8 (0:Int),.bool false,.string (mkS []),.bool false,.bool false,.int .i64 (0:Int),.int .i64 (0:Int),.int .i64 (0:Int),.int .i64 (0:Int),.int .i64 (0:Int)]):=TF.of (by kernel_rfl) (by kernel_rfl) true (by kernel_rfl) (.inl rfl)
theorem eQ:prog.underlying aH=some (.slice af):=by kernel_rfl
theorem vP:TF prog aH 1 24 (.slice none 0 0):=TF.of (by kernel_rfl) (by kernel_rfl) false (by kernel_rfl) (.inr rfl)
theorem zH:TF prog cd 2 24 (.agg #[.int .i64 (0:Int),.string (mkS [])]):=TF.of (by kernel_rfl) (by kernel_rfl) true (by kernel_rfl) (.inl rfl)
theorem DJ:TF prog aZ 4 4 (.agg #[.bool false,.bool false,.bool false,.bool false]):=TF.of (by kernel_rfl) (by kernel_rfl) true (by kernel_rfl) (.inl rfl)
theorem aU:prog.underlying ak=some (.map bC av):=by kernel_rfl
theorem ep:prog.underlying aS=some (.map ah bp):=by kernel_rfl
abbrev eA:Array Value:= #[.string (mkS []),.string (mkS []),.int .i64 (0:Int),.string (mkS []),.int .u8 (0:Int),.int .u8 (0:Int),.int .u8 (0:Int),.int .u8 (0:Int),.int .u8 (0:Int),.int .u8 (0:Int),.int .u8 (0:Int),.int .u8 (0:Int),.int .u8 (0:Int),.int .u8 (0:Int),.int .u8 (0:Int),.int .u8 (0:Int),.int .u8 (0:Int),.int .u8 (0:Int),.int .u8 (0:Int),.int .u8 (0:Int),.bool false,.string (mkS []),.bool false,.bool false,.int .i64 (0:Int),.int .i64 (0:Int),.int .i64 (0:Int),.int .i64 (0:Int),.int .i64 (0:Int),.string (mkS [])]
theorem sq:TF prog av 30 160 (.agg #[.string (mkS []),.string (mkS []),.int .i64 (0:Int),.string (mkS []),.int .u8 (0:Int),.int .u8 (0:Int),.int .u8 (0:Int),.int .u8 (0:Int),.int .u8 (0:Int),.int .u8 (0:Int),.int .u8 (0:Int),.int .u8 (0:Int),.int .u8 (0:Int),.int .u8 (0:Int),.int .u8 (0:Int),.int .u8 (0:Int),.int .u8 (0:Int),.int .u8 (0:Int),.int .u8 (0:Int),.int .u8 (0:Int),.bool false,.string (mkS []),.bool false,.bool false,.int .i64 (0:Int),.int .i64 (0:Int),.int .i64 (0:Int),.int .i64 (0:Int),.int .i64 (0:Int),.string (mkS [])]):=TF.of (by kernel_rfl) (by kernel_rfl) true (by kernel_rfl) (.inl rfl)
abbrev AA:Array Value:= #[.string (mkS []),.int .i64 (0:Int),.string (mkS []),.int .u8 (0:Int),.int .u8 (0:Int),.int .u8 (0:Int),.int .u8 (0:Int),.int .u8 (0:Int),.int .u8 (0:Int),.int .u8 (0:Int),.int .u8 (0:Int),.int .u8 (0:Int),.int .u8 (0:Int),.int .u8 (0:Int),.int .u8 (0:Int),.int .u8 (0:Int),.int .u8 (0:Int),.int .u8 (0:Int),.int .u8 (0:Int),.bool false,.string (mkS [])]
theorem zG:TF prog bC 21 80 (.agg #[.string (mkS []),.int .i64 (0:Int),.string (mkS []),.int .u8 (0:Int),.int .u8 (0:Int),.int .u8 (0:Int),.int .u8 (0:Int),.int .u8 (0:Int),.int .u8 (0:Int),.int .u8 (0:Int),.int .u8 (0:Int),.int .u8 (0:Int),.int .u8 (0:Int),.int .u8 (0:Int),.int .u8 (0:Int),.int .u8 (0:Int),.int .u8 (0:Int),.int .u8 (0:Int),.int .u8 (0:Int),.bool false,.string (mkS [])]):=TF.of (by kernel_rfl) (by kernel_rfl) true (by kernel_rfl) (.inl rfl)
theorem zJ:prog.underlying cv=some (.array 4 ah):=by kernel_rfl
theorem qa:TF prog cv 4 64 (.agg #[.string (mkS []),.string (mkS []),.string (mkS []),.string (mkS [])]):=TF.of (by kernel_rfl) (by kernel_rfl) true (by kernel_rfl) (.inl rfl)
theorem oI:prog.underlying dx=some (.slice eJ):=by kernel_rfl
theorem yl:prog.underlying eJ=some (.int .u16):=by kernel_rfl
theorem DK:TF prog eJ 1 2 (.int .u16 (0:Int)):=TF.of (by kernel_rfl) (by kernel_rfl) false (by kernel_rfl) (.inr rfl)
theorem zF:TF prog aJ 8 16 (.agg #[.int .u16 (0:Int),.int .u16 (0:Int),.int .u16 (0:Int),.int .u16 (0:Int),.int .u16 (0:Int),.int .u16 (0:Int),.int .u16 (0:Int),.int .u16 (0:Int)]):=TF.of (by kernel_rfl) (by kernel_rfl) true (by kernel_rfl) (.inl rfl)
abbrev Ay:Array Value:= #[.int .u8 (0:Int),.int .u8 (0:Int),.int .u8 (0:Int),.int .u8 (0:Int),.int .u8 (0:Int),.int .u8 (0:Int),.int .u8 (0:Int),.int .u8 (0:Int),.int .u8 (0:Int),.int .u8 (0:Int),.int .u8 (0:Int),.int .u8 (0:Int),.int .u8 (0:Int),.int .u8 (0:Int),.int .u8 (0:Int),.int .u8 (0:Int),.int .u8 (0:Int),.int .u8 (0:Int),.int .u8 (0:Int),.int .u8 (0:Int),.int .u8 (0:Int),.int .u8 (0:Int),.int .u8 (0:Int),.int .u8 (0:Int)]
theorem rl:prog.underlying be=some (.array 3 bp):=by kernel_rfl
theorem j6:TF prog be 3 24 (.agg #[.int .i64 (0:Int),.int .i64 (0:Int),.int .i64 (0:Int)]):=TF.of (by kernel_rfl) (by kernel_rfl) true (by kernel_rfl) (.inl rfl)
abbrev Az:Array Value:= #[.int .u8 (0:Int),.int .u8 (0:Int),.int .u8 (0:Int),.int .u8 (0:Int),.int .u8 (0:Int),.int .u8 (0:Int),.int .u8 (0:Int),.int .u8 (0:Int),.int .u8 (0:Int),.int .u8 (0:Int),.int .u8 (0:Int),.int .u8 (0:Int),.int .u8 (0:Int),.int .u8 (0:Int),.int .u8 (0:Int),.int .u8 (0:Int),.int .u8 (0:Int),.int .u8 (0:Int),.int .u8 (0:Int),.int .u8 (0:Int),.int .u8 (0:Int),.int .u8 (0:Int),.int .u8 (0:Int),.int .u8 (0:Int),.int .u8 (0:Int),.int .u8 (0:Int),.int .u8 (0:Int),.int .u8 (0:Int),.int .u8 (0:Int),.int .u8 (0:Int),.int .u8 (0:Int),.int .u8 (0:Int),.int .u8 (0:Int),.int .u8 (0:Int),.int .u8 (0:Int),.int .u8 (0:Int),.int .u8 (0:Int),.int .u8 (0:Int),.int .u8 (0:Int),.int .u8 (0:Int),.int .u8 (0:Int),.int .u8 (0:Int),.int .u8 (0:Int),.int .u8 (0:Int),.int .u8 (0:Int),.int .u8 (0:Int),.int .u8 (0:Int),.int .u8 (0:Int),.int .u8 (0:Int),.int .u8 (0:Int),.int .u8 (0:Int),.int .u8 (0:Int),.int .u8 (0:Int),.int .u8 (0:Int),.int .u8 (0:Int),.int .u8 (0:Int),.int .u8 (0:Int),.int .u8 (0:Int),.int .u8 (0:Int),.int .u8 (0:Int),.int .u8 (0:Int),.int .u8 (0:Int),.int .u8 (0:Int),.int .u8 (0:Int),.int .u8 (0:Int)]
abbrev D7:Array Value:= #[.int .i64 (0:Int),.int .i64 (0:Int),.int .i64 (0:Int),.int .i64 (0:Int),.int .i64 (0:Int),.int .i64 (0:Int),.int .i64 (0:Int),.int .i64 (0:Int),.int .i64 (0:Int),.int .i64 (0:Int),.int .i64 (0:Int),.int .i64 (0:Int)]
theorem DI:TF prog lK 12 96 (.agg #[.int .i64 (0:Int),.int .i64 (0:Int),.int .i64 (0:Int),.int .i64 (0:Int),.int .i64 (0:Int),.int .i64 (0:Int),.int .i64 (0:Int),.int .i64 (0:Int),.int .i64 (0:Int),.int .i64 (0:Int),.int .i64 (0:Int),.int .i64 (0:Int)]):=TF.of (by kernel_rfl) (by kernel_rfl) true (by kernel_rfl) (.inl rfl)
set_option maxRecDepth 100000
abbrev Ld (t:TypeId)(p:Option Addr)(w:World)(v:Value):Prop:=(Instr.loadAt t (.pointer p)).run prog w=.ok v w
abbrev Sv (t:TypeId)(p:Option Addr)(v:Value)(w x:World):Prop:=(Instr.storeAt t (.pointer p) v).run prog w=.ok () x
abbrev hV (a b c d:List UInt8)(e:Bool)(f:Int)(g:Bool)(h:Int)(i j:Bool)(k:Int):Value:=.agg #[.string (mkS a),.string (mkS b),.string (mkS c),.string (mkS d),.bool e,.int .i64 f,.bool g,.int .i64 h,.bool i,.bool j,.int .i64 k]
abbrev lU:=List UInt8
abbrev VP:=Value->World->Prop
abbrev vS (s:lU):Value:=.string (mkS s)
abbrev vI (n:Int):Value:=.int .i64 n
abbrev vA (k i:Nat):Option Addr:=some ⟨k,i,none⟩
abbrev Rv (t:TypeId)(p:Option Addr)(w:World)(v:Value):Prop:=(bG t (.pointer p)).run prog w=.ok v w
abbrev Cf (f:FuncId)(a:Array Value)(w:World)(R:Ending->World->Prop):Prop:=Calls prog f a w R
abbrev uS (f:FuncId)(a:Array Value)(w:World)(R:lU->World->Prop):Prop:=Calls prog f a w λe x=>∃s,e=.returned (.string (mkS s))/\R s x
abbrev uB (f:FuncId)(a:Array Value)(w:World)(R:Bool->World->Prop):Prop:=Calls prog f a w λe x=>∃s,e=.returned (.bool s)/\R s x
abbrev uI (f:FuncId)(a:Array Value)(w:World)(R:Int->World->Prop):Prop:=Calls prog f a w λe x=>∃s,e=.returned (.int .i64 s)/\R s x
abbrev uP (f:FuncId)(a:Array Value)(w:World)(R:Option Addr->World->Prop):Prop:=Calls prog f a w λe x=>∃s,e=.returned (.pointer s)/\R s x
abbrev uV (f:FuncId)(a:Array Value)(w:World)(R:Value->World->Prop):Prop:=Calls prog f a w λe x=>∃s,e=.returned s/\R s x
abbrev uL (f:FuncId)(a:Array Value)(w:World)(R:Option Addr->Nat->Nat->World->Prop):Prop:=Calls prog f a w λe x=>∃s n c,e=.returned (.slice s n c)/\R s n c x
abbrev uU (f:FuncId)(a:Array Value)(w:World)(R:World->Prop):Prop:=Calls prog f a w λe x=>e=.returned (.tuple #[])/\R x
abbrev rT (a:Array Value):Ending:=.returned (.tuple a)
abbrev bd (i n:Int):Prop:=0 <=i/\i <=n
abbrev bx (i n:Int):Prop:=0 <=i/\i<n
abbrev bW (w x:World):Prop:=Below w.heap.size w x
abbrev nA (w:World)(o:Obj)(R:Nat->World->Prop):Prop:=∀k x,k=w.heap.size->x=w.alloc o->R k x
theorem ru {f:FuncId}{fn:Func}{a:List Value}{w:World}{K:VP}{V:Prop}(hf:prog.funcs[f]? =some fn)(n:Ann)(h:V)(hm:prog.follows .mixedOrders=true:=by kernel_rfl)(hb:fn.body=some (ay fn):=by kernel_rfl)(hn:decide (a.length <=fn.ntmps)=true:=by kernel_rfl)(he:W prog fn.ntmps n 0 (ay fn) (WB prog fn K) (Af 0 a) w=V:=by kernel_rfl):Calls prog f a.toArray w (Ret K):=ar hm hf hb n a (of_decide_eq_true hn) V he h
theorem zi (a:Value){w K}(h:nA w (.cells (Value.cells a) ae) λb c=>∃d,Ld ae (vA b 0) c d/\uS ig #[d] c λe f=>Cf ft #[vS e] f λg i=>∃j k,g=rT #[j,vI k]/\nA i (.cells bF ae) λl m=>∃n,Sv ae (vA l 0) j m n/\ab (k==(0:Int)) (∃o,Ld ae (vA l 0) n o/\∃p,Ld ae (vA b 0) n p/\∃q,(do eqGuard .eql ae (.tmp 14) (.tmp 15) o p;binOp .eql ae o p:Sem Value).run prog n=.ok (.bool q) n/\K (.bool q) n) (K (.bool false) n)):Cf eC #[a] w (Ret K):=ru func42 [] h
theorem zh (a:lU){w K}(h:nA w (.cells bF ae) λb c=>Cf bS #[vS a,vS [91]] c λd e=>∃f g,d=rT #[vS f,.bool g]/\ab g (Cf qJ #[vS f,vS [93]] e λi j=>∃k l,i=rT #[vS k,.bool l]/\Cf wW #[vS k] j λm n=>∃o p,m=rT #[o,.bool p]/\nA n (.cells eS az) λq r=>∃s,Sv az (vA q 0) o r s/\∃t,Ld az (vA q 0) s t/\ab p (Cf fT #[vI 3,t,.bool l] s λu v=>∃x y,u=rT #[x,vI y]/\∃z,Sv ae (vA b 0) x v z/\∃A,Rv ae (vA b 0) z A/\K (.tuple #[A,vI y]) z) (Cf fT #[vI 3,t,.bool false] s λu v=>∃x y,u=rT #[x,vI y]/\∃z,Sv ae (vA b 0) x v z/\∃A,Rv ae (vA b 0) z A/\K (.tuple #[A,vI y]) z)) (uS dt #[vS a] e λi j=>uL cY #[vS i,.int .u8 46] j λk l m n=>(bx (i64.wrap (((l:Nat):Int)-(1:Int))) ((l:Nat):Int)/\Option.isSome k=true)/\∃o,Ld ah (an k (i64.wrap (((l:Nat):Int)-(1:Int))) 1) n (vS o)/\uB fU #[vS o] n λp q=>ab p (Cf wV #[vS a] q λr s=>∃t u,r=rT #[t,.bool u]/\nA s (.cells eS az) λv x=>∃y,Sv az (vA v 0) t x y/\∃z,Ld az (vA v 0) y z/\Cf fT #[vI 2,z,.bool u] y λA B=>∃C D,A=rT #[C,vI D]/\∃E,Sv ae (vA b 0) C B E/\∃F,Rv ae (vA b 0) E F/\K (.tuple #[F,vI D]) E) (∃r:FP [],(∃s:FP [.one .bool],(ab (decide (((List.length a:Nat):Int)>(253:Int))) (s true q) (uB cx #[.slice k l m,.func (.func cH) #[] #[]] q λt u=>s t u))/\∀t,aX 6 (∀u,s t u->ab t (∃v,Sv ae (vA b 0) (.agg bF) u v/\∃x,Rv ae (vA b 0) v x/\K (.tuple #[x,vI 31]) v) (r u)))/\aX 9 (∀s,r s->uS cj #[.slice k l m,vS [46]] s λt u=>∃v,Sv ae (vA b 0) (.agg #[vI 1,vS t,.int .u8 0,.int .u8 0,.int .u8 0,.int .u8 0,.int .u8 0,.int .u8 0,.int .u8 0,.int .u8 0,.int .u8 0,.int .u8 0,.int .u8 0,.int .u8 0,.int .u8 0,.int .u8 0,.int .u8 0,.int .u8 0]) u v/\∃x,Rv ae (vA b 0) v x/\K (.tuple #[x,vI 0]) v)))):Cf ft #[vS a] w (Ret K):=ru func80 [(28,[]),(29,[(63,.one .bool)])] h
theorem xJ (a:Value){w K}(h:nA w (.cells (Value.cells a) ae) λb c=>∃d:FP [],(true/\∃e,Ld bp (vA b 0) c (vI e)/\ab (e !=(1:Int)) (K (.slice none 0 0) c) (∃f,Ld ae (vA b 0) c f/\uB eC #[f] c λg i=>ab (!g) (K (.slice none 0 0) i) (d i)))/\aX 9 (∀e,d e->true/\∃f,Ld ah (vA b 1) e (vS f)/\uL cY #[vS f,.int .u8 46] e λg i j k=>K (.slice g i j) k)):Cf bO #[a] w (Ret K):=ru func81 [(2,[])] h
theorem BF (a:Value){w K}(h:nA w (.cells (Value.cells a) ae) λb c=>true/\∃d,Ld bp (vA b 0) c (vI d)/\ab (d==(1:Int)) (true/\∃e,Ld ah (vA b 1) c (vS e)/\K (vS e) c) (ab (d==(2:Int)) (true/\∃e,Ld az (vA b 2) c e/\uS nx #[e] c λf g=>K (vS f) g) (ab (d==(3:Int)) (true/\∃e,Ld az (vA b 2) c e/\uS ny #[e] c λf g=>(((List.length [91]+List.length f:Nat):Int) <=i64.max)/\∀i,i=([91]++f)->(((List.length i+List.length [93]:Nat):Int) <=i64.max)/\∀j,j=(i++[93])->K (vS j) g) (K (vS []) c)))):Cf ig #[a] w (Ret K):=ru func91 [] h
theorem E0 (a:lU){w K}(h:nA w (.cells eS az) λb c=>Cf rI #[vS a,vS [58,58]] c λd e=>∃f g i,d=rT #[vS f,vS g,.bool i]/\Cf pk #[vS f] e λj k=>∃l m n o,j=rT #[.slice l m n,.bool o]/\Cf pk #[vS g] k λp q=>∃r s t u,p=rT #[.slice r s t,.bool u]/\∃v:FP [],(∃x:FP [.one .bool],(ab (!o) (x true q) (ab (!u) (x true q) (ab i (ab (decide ((i64.wrap (((m:Nat):Int)+((s:Nat):Int))) >=(8:Int))) (x true q) (ab (!i) (x ((i64.wrap (((m:Nat):Int)+((s:Nat):Int))) !=(8:Int)) q) (x false q))) (ab (!i) (x ((i64.wrap (((m:Nat):Int)+((s:Nat):Int))) !=(8:Int)) q) (x false q)))))/\∀y,aX 20 (∀z,x y z->ab y (∃A,Sv az (vA b 0) (.agg eS) z A/\∃B,Rv az (vA b 0) A B/\K (.tuple #[B,.bool false]) A) (v z)))/\aX 23 (∀x,v x->nA x (.cells #[.int .u16 0,.int .u16 0,.int .u16 0,.int .u16 0,.int .u16 0,.int .u16 0,.int .u16 0,.int .u16 0] aJ) λy z=>(True)/\∃A B,(Builtin.copy_ #[dx,dx] bp #[.slice (vA y 0) 8 8,.slice l m n]).run prog z=.ok (vI B) A/\bd (i64.wrap ((8:Int)-((s:Nat):Int))) ((8:Nat):Int)/\∃C D,(Builtin.copy_ #[dx,dx] bp #[.slice (some (if 8=(Int.toNat (i64.wrap ((8:Int)-((s:Nat):Int))))then⟨y,0,none⟩ else Addr.add ⟨y,0,none⟩ ((Int.toNat (i64.wrap ((8:Int)-((s:Nat):Int))))*1))) (8-(Int.toNat (i64.wrap ((8:Int)-((s:Nat):Int))))) (8-(Int.toNat (i64.wrap ((8:Int)-((s:Nat):Int))))),.slice r s t]).run prog A=.ok (vI D) C/\∃E F G H I J L M,Ld aJ (vA y 0) C (.agg #[.int .u16 E,.int .u16 F,.int .u16 G,.int .u16 H,.int .u16 I,.int .u16 J,.int .u16 L,.int .u16 M])/\uV qF #[.agg #[.int .u16 E,.int .u16 F,.int .u16 G,.int .u16 H,.int .u16 I,.int .u16 J,.int .u16 L,.int .u16 M]] C λN O=>∃P,Sv az (vA b 0) N O P/\∃Q,Rv az (vA b 0) P Q/\K (.tuple #[Q,.bool true]) P)):Cf wW #[vS a] w (Ret K):=ru func149 [(10,[]),(11,[(54,.one .bool)])] h
theorem vy (a:Int)(b:Value)(c:Bool){w K}(h:nA w (.cells (Value.cells b) az) λd e=>nA e (.cells bF ae) λf g=>ab (!c) (∃i,Sv ae (vA f 0) (.agg bF) g i/\∃j,Rv ae (vA f 0) i j/\K (.tuple #[j,vI 31]) i) (∃i,Ld az (vA d 0) g i/\∃j,(Instr.build ae #[(0,vI a),(2,i)]).run prog g=.ok j g/\∃k,Sv ae (vA f 0) j g k/\∃l,Rv ae (vA f 0) k l/\K (.tuple #[l,vI 0]) k)):Cf fT #[vI a,b,.bool c] w (Ret K):=ru func150 [] h
theorem EZ (a:lU){w K}(h:nA w (.cells eS az) λb c=>uL cY #[vS a,.int .u8 46] c λd e f g=>ab (((e:Nat):Int) !=(4:Int)) (∃i,Sv az (vA b 0) (.agg eS) g i/\∃j,Rv az (vA b 0) i j/\K (.tuple #[j,.bool false]) i) (nA g (.cells eS az) λi j=>∃k:Nat->FP [.one (.int .i64)],(∃l,k l (0:Int) j)/\∀l m,aX 27 (∀n,k l m n->ab (decide (m<((e:Nat):Int))) ((bx m ((e:Nat):Int)/\Option.isSome d=true)/\∃o,Ld ah (an d m 1) n (vS o)/\Cf eU #[vS o] n λp q=>∃r s,p=rT #[vI r,.bool s]/\∃t:FP [],(∃u:FP [.one .bool],(ab (!s) (u true q) (u (decide (r>(255:Int))) q))/\∀v,aX 5 (∀x,u v x->ab v (∃y,Sv az (vA b 0) (.agg eS) x y/\∃z,Rv az (vA b 0) y z/\K (.tuple #[z,.bool false]) y) (t x)))/\aX 8 (∀u,t u->(bx (i64.wrap ((12:Int)+m)) ((16:Nat):Int)/\true)/\∃v,Sv bI (an (vA i 0) (i64.wrap ((12:Int)+m)) 1) (.int .u8 (IntKind.u8.wrap r)) u v/\∃x:Nat,x<l/\k x (i64.wrap (m+(1:Int))) v)) (∃o,Ld az (vA i 0) n o/\∃p,Sv az (vA b 0) o n p/\∃q,Rv az (vA b 0) p q/\K (.tuple #[q,.bool true]) p)))):Cf wV #[vS a] w (Ret K):=ru func152 [(18,[(18,.one (.int .i64))]),(31,[]),(32,[(33,.one .bool)])] h
theorem tF (a:lU){w K}(h:uB nK #[vS a] w λb c=>K (.bool (!b)) c):Cf cH #[vS a] w (Ret K):=ru func154 [] h
theorem zk (a:lU){w K}(h:ab (!(a==[])) (ab (decide (((List.length a:Nat):Int) <=(63:Int))) (∃b c d e,(convert ah bf (vS a)).run prog w=.ok (.slice c d e) b/\uB eh #[.slice c d e,.func (.func db) #[] #[]] b λf g=>K (.bool (!f)) g) (K (.bool false) w)) (K (.bool false) w)):Cf nK #[vS a] w (Ret K):=ru func155 [] h
theorem yX (a:Value){w K}(h:nA w (.cells (Value.cells a) az) λb c=>bd (12:Int) ((16:Nat):Int)/\∃d:Nat->FP [.one .slice,.one (.int .i64)],(∃e,d e none 0 0 (0:Int) c)/\∀e f g i j,aX 11 (∀k,d e f g i j k->ab (decide (j<(((16-(Int.toNat 12)):Nat):Int))) ((bx j (((16-(Int.toNat 12)):Nat):Int)/\true)/\∃l,Ld bI (an (some (if 16=(Int.toNat 12)then⟨b,0,none⟩ else Addr.add ⟨b,0,none⟩ ((Int.toNat 12)*1))) j 1) k (.int .u8 l)/\uS iA #[vI (i64.wrap l)] k λm n=>nA n (.cells #[vS m] ah) λo p=>∃q r s t,(Builtin.append_ #[aI,aI] aI #[.slice f g i,.slice (vA o 0) 1 1]).run prog p=.ok (.slice r s t) q/\∃u:Nat,u<e/\d u r s t (i64.wrap (j+(1:Int))) q) (uS cj #[.slice f g i,vS [46]] k λl m=>K (vS l) m))):Cf nx #[a] w (Ret K):=ru func172 [(8,[(3,.one .slice),(8,.one (.int .i64))])] h
theorem yY (a:Value){w K}(h:nA w (.cells (Value.cells a) az) λb c=>∃d,Ld az (vA b 0) c d/\Cf lR #[d] c λe f=>∃g i j k l m n o,e=.returned (.agg #[.int .u16 g,.int .u16 i,.int .u16 j,.int .u16 k,.int .u16 l,.int .u16 m,.int .u16 n,.int .u16 o])/\nA f (.cells #[.int .u16 0,.int .u16 0,.int .u16 0,.int .u16 0,.int .u16 0,.int .u16 0,.int .u16 0,.int .u16 0] aJ) λp q=>∃r,Sv aJ (vA p 0) (.agg #[.int .u16 g,.int .u16 i,.int .u16 j,.int .u16 k,.int .u16 l,.int .u16 m,.int .u16 n,.int .u16 o]) q r/\∃s t u v x y z A,Ld aJ (vA p 0) r (.agg #[.int .u16 s,.int .u16 t,.int .u16 u,.int .u16 v,.int .u16 x,.int .u16 y,.int .u16 z,.int .u16 A])/\Cf nC #[.agg #[.int .u16 s,.int .u16 t,.int .u16 u,.int .u16 v,.int .u16 x,.int .u16 y,.int .u16 z,.int .u16 A]] r λB C=>∃D E,B=rT #[vI D,vI E]/\ab (decide (E<(2:Int))) ((True)/\uS fR #[.slice (vA p 0) 8 8] C λF G=>K (vS F) G) (bd D ((8:Nat):Int)/\∃F,(∀G,bW C G->Cf fR #[.slice (vA p 0) (Int.toNat D) 8] G λH I=>H=.returned (vS F)/\Below C.heap.size G I)/\(((List.length F+List.length [58,58]:Nat):Int) <=i64.max)/\∀G,G=(F++[58,58])->bd (i64.wrap (D+E)) ((8:Nat):Int)/\∃H,(∀I,bW C I->Cf fR #[.slice (some (if 8=(Int.toNat (i64.wrap (D+E)))then⟨p,0,none⟩ else Addr.add ⟨p,0,none⟩ ((Int.toNat (i64.wrap (D+E)))*1))) (8-(Int.toNat (i64.wrap (D+E)))) (8-(Int.toNat (i64.wrap (D+E))))] I λJ L=>J=.returned (vS H)/\Below C.heap.size I L)/\(((List.length G+List.length H:Nat):Int) <=i64.max)/\∀I,I=(G++H)->∀J,bW C J->K (vS I) J)):Cf ny #[a] w (Ret K):=ru func173 [] h
theorem zj (a b:Value){w K}(h:nA w (.cells (Value.cells a) ae) λc d=>nA d (.cells (Value.cells b) ae) λe f=>(∃g,Ld ae (vA c 0) (World.drew f) g/\(uL bO #[g] (World.drew f) λi j k l=>∃m,Ld ae (vA e 0) l m/\uL bO #[m] l λn o p q=>∃r:FP [],(ab (((o:Nat):Int)==(0:Int)) (K (.bool false) q) (ab (decide (((o:Nat):Int) >=((j:Nat):Int))) (K (.bool false) q) (r q)))/\aX 11 (∀s,r s->∃t,Ld ae (vA c 0) s t/\Cf gk #[t,vI ((o:Nat):Int)] s λu v=>∃x y,u=rT #[x,.bool y]/\nA v (.cells bF ae) λz A=>∃B,Sv ae (vA z 0) x A B/\∃C,Ld ae (vA z 0) B C/\∃D,Ld ae (vA e 0) B D/\∃E,(do eqGuard .eql ae (.tmp 30) (.tmp 31) C D;binOp .eql ae C D:Sem Value).run prog B=.ok (.bool E) B/\K (.bool E) B))/\∃i,Ld ae (vA e 0) (World.drew f) i/\uL bO #[g] (World.drew f) λj k l m=>uL bO #[i] m λn o p q=>∃r:FP [],(ab (((o:Nat):Int)==(0:Int)) (K (.bool false) q) (ab (decide (((o:Nat):Int) >=((k:Nat):Int))) (K (.bool false) q) (r q)))/\aX 11 (∀s,r s->∃t,Ld ae (vA c 0) s t/\Cf gk #[t,vI ((o:Nat):Int)] s λu v=>∃x y,u=rT #[x,.bool y]/\nA v (.cells bF ae) λz A=>∃B,Sv ae (vA z 0) x A B/\∃C,Ld ae (vA z 0) B C/\∃D,Ld ae (vA e 0) B D/\∃E,(do eqGuard .eql ae (.tmp 30) (.tmp 31) C D;binOp .eql ae C D:Sem Value).run prog B=.ok (.bool E) B/\K (.bool E) B))/\∃g,Ld ae (vA e 0) (World.drew f) g/\∃i,Ld ae (vA c 0) (World.drew f) i/\uL bO #[i] (World.drew f) λj k l m=>uL bO #[g] m λn o p q=>∃r:FP [],(ab (((o:Nat):Int)==(0:Int)) (K (.bool false) q) (ab (decide (((o:Nat):Int) >=((k:Nat):Int))) (K (.bool false) q) (r q)))/\aX 11 (∀s,r s->∃t,Ld ae (vA c 0) s t/\Cf gk #[t,vI ((o:Nat):Int)] s λu v=>∃x y,u=rT #[x,.bool y]/\nA v (.cells bF ae) λz A=>∃B,Sv ae (vA z 0) x A B/\∃C,Ld ae (vA z 0) B C/\∃D,Ld ae (vA e 0) B D/\∃E,(do eqGuard .eql ae (.tmp 30) (.tmp 31) C D;binOp .eql ae C D:Sem Value).run prog B=.ok (.bool E) B/\K (.bool E) B)):Cf iG #[a,b] w (Ret K):=ru func195 [(1000003,[]),(4,[]),(4,[]),(4,[])] h
theorem BE (a:Value)(b:Int){w K}(h:nA w (.cells (Value.cells a) ae) λc d=>nA d (.cells bF ae) λe f=>∃g,Ld ae (vA c 0) f g/\uL bO #[g] f λi j k l=>∃m:FP [],(∃n:FP [.one .bool],(ab (decide (b<(1:Int))) (n true l) (n (decide (b>((j:Nat):Int))) l))/\∀o,aX 7 (∀p,n o p->ab o (∃q,Sv ae (vA e 0) (.agg bF) p q/\∃r,Rv ae (vA e 0) q r/\K (.tuple #[r,.bool false]) q) (m p)))/\aX 10 (∀n,m n->bd (i64.wrap (((j:Nat):Int)-b)) ((j:Nat):Int)/\uS cj #[.slice (fM i k (Int.toNat (i64.wrap (((j:Nat):Int)-b))) 1) (j-(Int.toNat (i64.wrap (((j:Nat):Int)-b)))) (k-(Int.toNat (i64.wrap (((j:Nat):Int)-b)))),vS [46]] n λo p=>∃q,Sv ae (vA e 0) (.agg #[vI 1,vS o,.int .u8 0,.int .u8 0,.int .u8 0,.int .u8 0,.int .u8 0,.int .u8 0,.int .u8 0,.int .u8 0,.int .u8 0,.int .u8 0,.int .u8 0,.int .u8 0,.int .u8 0,.int .u8 0,.int .u8 0,.int .u8 0]) p q/\∃r,Rv ae (vA e 0) q r/\K (.tuple #[r,.bool true]) q)):Cf gk #[a,vI b] w (Ret K):=ru func197 [(4,[]),(5,[(16,.one .bool)])] h
theorem Dr (a:lU){w K}(h:ab (a==[]) (K (.tuple #[.slice none 0 0,.bool true]) w) (uL cY #[vS a,.int .u8 58] w λb c d e=>∃f:Nat->FP [.one .slice,.one (.int .i64)],(∃g,f g none 0 0 (0:Int) e)/\∀g i j k l,aX 20 (∀m,f g i j k l m->ab (decide (l<((c:Nat):Int))) ((bx l ((c:Nat):Int)/\Option.isSome b=true)/\∃n,Ld ah (an b l 1) m (vS n)/\Cf nB #[vS n] m λo p=>∃q r,o=rT #[.int .u16 q,.bool r]/\ab (!r) (K (.tuple #[.slice none 0 0,.bool false]) p) (nA p (.cells #[.int .u16 q] eJ) λs t=>∃u v x y,(Builtin.append_ #[dx,dx] dx #[.slice i j k,.slice (vA s 0) 1 1]).run prog t=.ok (.slice v x y) u/\∃z:Nat,z<g/\f z v x y (i64.wrap (l+(1:Int))) u)) (K (.tuple #[.slice i j k,.bool true]) m)))):Cf pk #[vS a] w (Ret K):=ru func225 [(16,[(4,.one .slice),(14,.one (.int .i64))])] h
theorem BA (a b c d e f g i:Int){w K}(h:nA w (.cells #[.int .u16 a,.int .u16 b,.int .u16 c,.int .u16 d,.int .u16 e,.int .u16 f,.int .u16 g,.int .u16 i] aJ) λj k=>nA k (.cells eS az) λl m=>nA m (.cells eS az) λn o=>∃p:Nat->FP [.one (.int .i64)],(∃q,p q (0:Int) o)/\∀q r,aX 20 (∀s,p q r s->ab (decide (r<(8:Int))) ((bx r ((8:Nat):Int)/\true)/\(bx r ((8:Nat):Int)/\true)/\(∃t,Ld eJ (an (vA j 0) r 1) (World.drew s) (.int .u16 t)/\(0 <=(8:Int))/\(bx (i64.wrap ((2:Int)*r)) ((16:Nat):Int)/\true)/\(∃u,Ld eJ (an (vA j 0) r 1) (World.drew s) (.int .u16 u)/\∃v,Sv bI (an (vA n 0) (i64.wrap ((2:Int)*r)) 1) (.int .u8 (IntKind.u8.wrap (Int.fdiv t (2 ^ (min (Int.toNat 8) (IntKind.bits .u16)))))) (World.drew s) v/\(bx (i64.wrap ((i64.wrap ((2:Int)*r))+(1:Int))) ((16:Nat):Int)/\true)/\∃x,Sv bI (an (vA n 0) (i64.wrap ((i64.wrap ((2:Int)*r))+(1:Int))) 1) (.int .u8 (IntKind.u8.wrap u)) v x/\∃y:Nat,y<q/\p y (i64.wrap (r+(1:Int))) x)/\∃u,Sv bI (an (vA n 0) (i64.wrap ((2:Int)*r)) 1) (.int .u8 (IntKind.u8.wrap (Int.fdiv t (2 ^ (min (Int.toNat 8) (IntKind.bits .u16)))))) (World.drew s) u/\∃v,Ld eJ (an (vA j 0) r 1) u (.int .u16 v)/\(bx (i64.wrap ((i64.wrap ((2:Int)*r))+(1:Int))) ((16:Nat):Int)/\true)/\∃x,Sv bI (an (vA n 0) (i64.wrap ((i64.wrap ((2:Int)*r))+(1:Int))) 1) (.int .u8 (IntKind.u8.wrap v)) u x/\∃y:Nat,y<q/\p y (i64.wrap (r+(1:Int))) x)/\∃t,Ld eJ (an (vA j 0) r 1) (World.drew s) (.int .u16 t)/\∃u,Ld eJ (an (vA j 0) r 1) (World.drew s) (.int .u16 u)/\(0 <=(8:Int))/\(bx (i64.wrap ((2:Int)*r)) ((16:Nat):Int)/\true)/\∃v,Sv bI (an (vA n 0) (i64.wrap ((2:Int)*r)) 1) (.int .u8 (IntKind.u8.wrap (Int.fdiv u (2 ^ (min (Int.toNat 8) (IntKind.bits .u16)))))) (World.drew s) v/\(bx (i64.wrap ((i64.wrap ((2:Int)*r))+(1:Int))) ((16:Nat):Int)/\true)/\∃x,Sv bI (an (vA n 0) (i64.wrap ((i64.wrap ((2:Int)*r))+(1:Int))) 1) (.int .u8 (IntKind.u8.wrap t)) v x/\∃y:Nat,y<q/\p y (i64.wrap (r+(1:Int))) x) (∃t,Ld az (vA n 0) s t/\∃u,Sv az (vA l 0) t s u/\∃v,Rv az (vA l 0) u v/\K v u))):Cf qF #[.agg #[.int .u16 a,.int .u16 b,.int .u16 c,.int .u16 d,.int .u16 e,.int .u16 f,.int .u16 g,.int .u16 i]] w (Ret K):=ru func226 [(8,[(5,.one (.int .i64))])] h
theorem tG (a:Int){w K}(h:uB lW #[.int .u8 a] w λb c=>K (.bool (!b)) c):Cf db #[.int .u8 a] w (Ret K):=ru func229 [] h
theorem xK (a:Int){w K}(h:ab (decide (a >=(97:Int))) (ab (decide (a <=(122:Int))) (K (.bool true) w) (ab (decide (a >=(48:Int))) (ab (decide (a <=(57:Int))) (K (.bool true) w) (ab (a==(45:Int)) (K (.bool true) w) (K (.bool (a==(95:Int))) w))) (ab (a==(45:Int)) (K (.bool true) w) (K (.bool (a==(95:Int))) w)))) (ab (decide (a >=(48:Int))) (ab (decide (a <=(57:Int))) (K (.bool true) w) (ab (a==(45:Int)) (K (.bool true) w) (K (.bool (a==(95:Int))) w))) (ab (a==(45:Int)) (K (.bool true) w) (K (.bool (a==(95:Int))) w)))):Cf lW #[.int .u8 a] w (Ret K):=ru func230 [] h
theorem xD (a:Value){w K}(h:nA w (.cells (Value.cells a) az) λb c=>nA c (.cells #[.int .u16 0,.int .u16 0,.int .u16 0,.int .u16 0,.int .u16 0,.int .u16 0,.int .u16 0,.int .u16 0] aJ) λd e=>nA e (.cells #[.int .u16 0,.int .u16 0,.int .u16 0,.int .u16 0,.int .u16 0,.int .u16 0,.int .u16 0,.int .u16 0] aJ) λf g=>∃i:Nat->FP [.one (.int .i64)],(∃j,i j (0:Int) g)/\∀j k,aX 19 (∀l,i j k l->ab (decide (k<(8:Int))) ((bx (i64.wrap ((2:Int)*k)) ((16:Nat):Int)/\true)/\∃m,(∀n,bW l n->Ld bI (an (vA b 0) (i64.wrap ((2:Int)*k)) 1) n (.int .u8 m))/\(0 <=(8:Int))/\(bx (i64.wrap ((i64.wrap ((2:Int)*k))+(1:Int))) ((16:Nat):Int)/\true)/\∃n,(∀o,bW l o->Ld bI (an (vA b 0) (i64.wrap ((i64.wrap ((2:Int)*k))+(1:Int))) 1) o (.int .u8 n))/\(bx k ((8:Nat):Int)/\true)/\∀o,bW l o->∃p,Sv eJ (an (vA f 0) k 1) (.int .u16 (IntKind.u16.wrap (((BitVec.ofInt (IntKind.bits .u16) (IntKind.u16.wrap ((IntKind.u16.wrap m)*2 ^ (min (Int.toNat 8) (IntKind.bits .u16))))) ||| (BitVec.ofInt (IntKind.bits .u16) (IntKind.u16.wrap n))).toNat:Nat))) o p/\∃q:Nat,q<j/\i q (i64.wrap (k+(1:Int))) p) (∃m n o p q r s t,Ld aJ (vA f 0) l (.agg #[.int .u16 m,.int .u16 n,.int .u16 o,.int .u16 p,.int .u16 q,.int .u16 r,.int .u16 s,.int .u16 t])/\∃u,Sv aJ (vA d 0) (.agg #[.int .u16 m,.int .u16 n,.int .u16 o,.int .u16 p,.int .u16 q,.int .u16 r,.int .u16 s,.int .u16 t]) l u/\∃v x y z A B C D,Rv aJ (vA d 0) u (.agg #[.int .u16 v,.int .u16 x,.int .u16 y,.int .u16 z,.int .u16 A,.int .u16 B,.int .u16 C,.int .u16 D])/\K (.agg #[.int .u16 v,.int .u16 x,.int .u16 y,.int .u16 z,.int .u16 A,.int .u16 B,.int .u16 C,.int .u16 D]) u))):Cf lR #[a] w (Ret K):=ru func248 [(8,[(5,.one (.int .i64))]),(2000019,[(15,.one .bool)])] h
theorem za (a b c d e f g i:Int){w K}(h:nA w (.cells #[.int .u16 a,.int .u16 b,.int .u16 c,.int .u16 d,.int .u16 e,.int .u16 f,.int .u16 g,.int .u16 i] aJ) λj k=>∃l:Nat->FP [.one (.int .i64),.one (.int .i64),.one (.int .i64),.one (.int .i64)],(∃m,l m (0:Int) (0:Int) (0:Int) (0:Int) k)/\∀m n o p q,aX 18 (∀r,l m n o p q r->ab (decide (q<(8:Int))) (∃s:FP [.one (.int .i64)],((bx q ((8:Nat):Int)/\true)/\∃t,Ld eJ (an (vA j 0) q 1) r (.int .u16 t)/\ab (t !=(0:Int)) (s (0:Int) r) (s (i64.wrap (p+(1:Int))) r))/\∀t,aX 4 (∀u,s t u->ab (decide (t>o)) (∃v:Nat,v<m/\l v (i64.wrap ((i64.wrap (q+(1:Int)))-t)) t t (i64.wrap (q+(1:Int))) u) (∃v:Nat,v<m/\l v n o t (i64.wrap (q+(1:Int))) u))) (K (.tuple #[vI n,vI o]) r))):Cf nC #[.agg #[.int .u16 a,.int .u16 b,.int .u16 c,.int .u16 d,.int .u16 e,.int .u16 f,.int .u16 g,.int .u16 i]] w (Ret K):=ru func249 [(8,[(4,.one (.int .i64)),(5,.one (.int .i64)),(6,.one (.int .i64)),(8,.one (.int .i64))]),(21,[(6,.one (.int .i64))])] h
theorem vo (a:Option Addr)(b c:Nat){w K}(h:∃d:Nat->FP [.one .slice,.one (.int .i64)],(∃e,d e none 0 0 (0:Int) w)/\∀e f g i j,aX 11 (∀k,d e f g i j k->ab (decide (j<((b:Nat):Int))) ((bx j ((b:Nat):Int)/\Option.isSome a=true)/\∃l,Ld eJ (an a j 1) k (.int .u16 l)/\uS fL #[.int .u64 (IntKind.u64.wrap l),vI 16] k λm n=>nA n (.cells #[vS m] ah) λo p=>∃q r s t,(Builtin.append_ #[aI,aI] aI #[.slice f g i,.slice (vA o 0) 1 1]).run prog p=.ok (.slice r s t) q/\∃u:Nat,u<e/\d u r s t (i64.wrap (j+(1:Int))) q) (uS cj #[.slice f g i,vS [58]] k λl m=>K (vS l) m))):Cf fR #[.slice a b c] w (Ret K):=ru func250 [(8,[(3,.one .slice),(8,.one (.int .i64))])] h
theorem yZ (a:lU){w K}(h:∃b:FP [],(ab (decide (((List.length a:Nat):Int)<(1:Int))) (K (.tuple #[.int .u16 0,.bool false]) w) (ab (decide (((List.length a:Nat):Int)>(4:Int))) (K (.tuple #[.int .u16 0,.bool false]) w) (b w)))/\aX 10 (∀c,b c->uS dt #[vS a] c λd e=>∃f g i j,(convert ah bf (vS d)).run prog e=.ok (.slice g i j) f/\∃k:Nat->FP [.one (.int .u16),.one (.int .i64)],(∃l,k l (0:Int) (0:Int) f)/\∀l m n,aX 17 (∀o,k l m n o->ab (decide (n<((i:Nat):Int))) ((bx n ((i:Nat):Int)/\Option.isSome g=true)/\∃p,Ld bI (an g n 1) o (.int .u8 p)/\uI dz #[vS [48,49,50,51,52,53,54,55,56,57,97,98,99,100,101,102],.int .u8 p] o λq r=>ab (decide (q<(0:Int))) (K (.tuple #[.int .u16 0,.bool false]) r) ((0 <=(4:Int))/\∃s:Nat,s<l/\k s (IntKind.u16.wrap (((BitVec.ofInt (IntKind.bits .u16) (IntKind.u16.wrap (m*2 ^ (min (Int.toNat 4) (IntKind.bits .u16))))) ||| (BitVec.ofInt (IntKind.bits .u16) (IntKind.u16.wrap q))).toNat:Nat)) (i64.wrap (n+(1:Int))) r)) (K (.tuple #[.int .u16 m,.bool true]) o)))):Cf nB #[vS a] w (Ret K):=ru func280 [(2,[]),(16,[(4,.one (.int .u16)),(20,.one (.int .i64))])] h
theorem dA (a:Option Addr)(b c:Nat){w K}(h:uI dU #[.slice a b c,.func (.func cH) #[] #[]] w λd e=>K (.bool (decide (d >=(0:Int)))) e):Cf cx #[.slice a b c,.func (.func cH) #[] #[]] w (Ret K):=ru func153 [] h
theorem dK (a:Option Addr)(b c:Nat){w K}(h:∃d:Nat->FP [.one (.int .i64)],(∃e,d e (0:Int) w)/\∀e f,aX 12 (∀g,d e f g->ab (decide (f<((b:Nat):Int))) ((bx f ((b:Nat):Int)/\Option.isSome a=true)/\∃i,Ld ah (an a f 1) g (vS i)/\uB cH #[vS i] g λj k=>ab j (K (vI f) k) (∃l:Nat,l<e/\d l (i64.wrap (f+(1:Int))) k)) (K (vI (-1)) g))):Cf dU #[.slice a b c,.func (.func cH) #[] #[]] w (Ret K):=ru func227 [(6,[(8,.one (.int .i64))])] h
theorem dQ (a:Option Addr)(b c:Nat){w K}(h:uI ff #[.slice a b c,.func (.func db) #[] #[]] w λd e=>K (.bool (decide (d >=(0:Int)))) e):Cf eh #[.slice a b c,.func (.func db) #[] #[]] w (Ret K):=ru func228 [] h
theorem ez (a:Option Addr)(b c:Nat){w K}(h:∃d:Nat->FP [.one (.int .i64)],(∃e,d e (0:Int) w)/\∀e f,aX 12 (∀g,d e f g->ab (decide (f<((b:Nat):Int))) ((bx f ((b:Nat):Int)/\Option.isSome a=true)/\∃i,Ld bI (an a f 1) g (.int .u8 i)/\uB db #[.int .u8 i] g λj k=>ab j (K (vI f) k) (∃l:Nat,l<e/\d l (i64.wrap (f+(1:Int))) k)) (K (vI (-1)) g))):Cf ff #[.slice a b c,.func (.func db) #[] #[]] w (Ret K):=ru func281 [(6,[(8,.one (.int .i64))])] h
theorem nk (a b:Int){w K}(h:uS eP #[.int .u64 a,vI b] w λc d=>K (vS c) d):Cf fL #[.int .u64 a,vI b] w (Ret K):=ru func298 [] h
theorem iv (a b:Int){w K}(h:ab (b==(10:Int)) (ab (decide (a<(100:Int))) (uS lm #[vI (i64.wrap a)] w λc d=>K (vS c) d) (nA w (.cells Ay Aw) λc d=>uI js #[.int .u64 a] d λe f=>bd e ((24:Nat):Int)/\uU ii #[.slice (vA c 0) (Int.toNat e) 24,.int .u64 a] f λg=>bd e ((24:Nat):Int)/\∃i,(convert bf ah (.slice (vA c 0) (Int.toNat e) 24)).run prog g=.ok (vS i) g/\K (vS i) g)) (Cf dm #[.slice none 0 0,.int .u64 a,vI b,.bool false,.bool false] w λc d=>∃e f g i,c=rT #[.slice e f g,vS i]/\K (vS i) d)):Cf eP #[.int .u64 a,vI b] w (Ret K):=ru func323 [] h
theorem iw (a:Option Addr)(b c:Nat)(d e:Int)(f g:Bool){w K}(h:∃i:FP [],(∃j:FP [.one .bool],(ab (decide (e<(2:Int))) (j true w) (ab (e==(10:Int)) (j true w) (j (decide (e>(36:Int))) w)))/\∀k,aX 9 (∀l,j k l->ab k (False) (i l)))/\aX 11 (∀j,i j->nA j (.cells Az jn) λk l=>∃m:FP [.one (.int .u64)],(ab f (m (IntKind.u64.wrap (0-d)) l) (m d l))/\∀n,aX 3 (∀o,m n o->∃p:FP [.one (.int .i64)],(uB ed #[vI e] o λq r=>ab q (uI dO #[.int .u64 (IntKind.u64.wrap e)] r λs t=>∃u:Nat->FP [.one (.int .u64),.one (.int .i64)],(∃v,u v n (65:Int) t)/\∀v x y,aX 14 (∀z,u v x y z->ab (decide (x >=(IntKind.u64.wrap e))) (bx (IntKind.u64.wrap (((BitVec.ofInt (IntKind.bits .u64) x) &&& (BitVec.ofInt (IntKind.bits .u64) (IntKind.u64.wrap ((IntKind.u64.wrap e)-(1:Int))))).toNat:Nat)) ((List.length [48,49,50,51,52,53,54,55,56,57,97,98,99,100,101,102,103,104,105,106,107,108,109,110,111,112,113,114,115,116,117,118,119,120,121,122]:Nat):Int)/\(bx (i64.wrap (y-(1:Int))) ((65:Nat):Int)/\true)/\∃A,Sv bI (an (vA k 0) (i64.wrap (y-(1:Int))) 1) (.int .u8 (dp [48,49,50,51,52,53,54,55,56,57,97,98,99,100,101,102,103,104,105,106,107,108,109,110,111,112,113,114,115,116,117,118,119,120,121,122] (IntKind.u64.wrap (((BitVec.ofInt (IntKind.bits .u64) x) &&& (BitVec.ofInt (IntKind.bits .u64) (IntKind.u64.wrap ((IntKind.u64.wrap e)-(1:Int))))).toNat:Nat)))) z A/\(0 <=(IntKind.u64.wrap s))/\∃B:Nat,B<v/\u B (Int.fdiv x (2 ^ (min (Int.toNat (IntKind.u64.wrap s)) (IntKind.bits .u64)))) (i64.wrap (y-(1:Int))) A) (bx x ((List.length [48,49,50,51,52,53,54,55,56,57,97,98,99,100,101,102,103,104,105,106,107,108,109,110,111,112,113,114,115,116,117,118,119,120,121,122]:Nat):Int)/\(bx (i64.wrap (y-(1:Int))) ((65:Nat):Int)/\true)/\∃A,Sv bI (an (vA k 0) (i64.wrap (y-(1:Int))) 1) (.int .u8 (dp [48,49,50,51,52,53,54,55,56,57,97,98,99,100,101,102,103,104,105,106,107,108,109,110,111,112,113,114,115,116,117,118,119,120,121,122] x)) z A/\p (i64.wrap (y-(1:Int))) A))) (∃s:Nat->FP [.one (.int .u64),.one (.int .i64)],(∃t,s t n (65:Int) r)/\∀t u v,aX 18 (∀x,s t u v x->ab (decide (u >=(IntKind.u64.wrap e))) (((IntKind.u64.wrap e)≠0)/\∀y,y=(IntKind.u64.wrap (Int.tdiv u (IntKind.u64.wrap e)))->bx (IntKind.u64.wrap (u-(IntKind.u64.wrap (y*(IntKind.u64.wrap e))))) ((List.length [48,49,50,51,52,53,54,55,56,57,97,98,99,100,101,102,103,104,105,106,107,108,109,110,111,112,113,114,115,116,117,118,119,120,121,122]:Nat):Int)/\(bx (i64.wrap (v-(1:Int))) ((65:Nat):Int)/\true)/\∃z,Sv bI (an (vA k 0) (i64.wrap (v-(1:Int))) 1) (.int .u8 (dp [48,49,50,51,52,53,54,55,56,57,97,98,99,100,101,102,103,104,105,106,107,108,109,110,111,112,113,114,115,116,117,118,119,120,121,122] (IntKind.u64.wrap (u-(IntKind.u64.wrap (y*(IntKind.u64.wrap e))))))) x z/\∃A:Nat,A<t/\s A y (i64.wrap (v-(1:Int))) z) (bx u ((List.length [48,49,50,51,52,53,54,55,56,57,97,98,99,100,101,102,103,104,105,106,107,108,109,110,111,112,113,114,115,116,117,118,119,120,121,122]:Nat):Int)/\(bx (i64.wrap (v-(1:Int))) ((65:Nat):Int)/\true)/\∃y,Sv bI (an (vA k 0) (i64.wrap (v-(1:Int))) 1) (.int .u8 (dp [48,49,50,51,52,53,54,55,56,57,97,98,99,100,101,102,103,104,105,106,107,108,109,110,111,112,113,114,115,116,117,118,119,120,121,122] u)) x y/\p (i64.wrap (v-(1:Int))) y))))/\∀q,aX 62 (∀r,p q r->∃s:FP [.one (.int .i64)],(ab f ((bx (i64.wrap (q-(1:Int))) ((65:Nat):Int)/\true)/\∃t,Sv bI (an (vA k 0) (i64.wrap (q-(1:Int))) 1) (.int .u8 45) r t/\s (i64.wrap (q-(1:Int))) t) (s q r))/\∀t,aX 5 (∀u,s t u->ab g (bd t ((65:Nat):Int)/\∃v x y z,(Builtin.append_ #[bf,bf] bf #[.slice a b c,.slice (some (if 65=(Int.toNat t)then⟨k,0,none⟩ else Addr.add ⟨k,0,none⟩ ((Int.toNat t)*1))) (65-(Int.toNat t)) (65-(Int.toNat t))]).run prog u=.ok (.slice x y z) v/\K (.tuple #[.slice x y z,vS []]) v) (bd t ((65:Nat):Int)/\∃v,(convert bf ah (.slice (some (if 65=(Int.toNat t)then⟨k,0,none⟩ else Addr.add ⟨k,0,none⟩ ((Int.toNat t)*1))) (65-(Int.toNat t)) (65-(Int.toNat t)))).run prog u=.ok (vS v) u/\K (.tuple #[.slice none 0 0,vS v]) u)))))):Cf dm #[.slice a b c,.int .u64 d,vI e,.bool f,.bool g] w (Ret K):=ru func254 [(2,[]),(3,[(28,.one .bool)]),(12,[(1,.one (.int .u64))]),(18,[(13,.one (.int .i64))]),(30,[(1,.one (.int .u64)),(13,.one (.int .i64))]),(50,[(1,.one (.int .u64)),(13,.one (.int .i64))]),(68,[(13,.one (.int .i64))])] h
theorem gU (a:Int){w K}(h:K (.bool ((i64.wrap (((BitVec.ofInt (IntKind.bits .i64) a) &&& (BitVec.ofInt (IntKind.bits .i64) (i64.wrap (a-(1:Int))))).toNat:Nat))==(0:Int))) w):Cf ed #[vI a] w (Ret K):=ru func301 [] h
theorem j1 (a:Int){w K}(h:uI fw #[.int .u64 a] w λb c=>K (vI b) c):Cf dO #[.int .u64 a] w (Ret K):=ru func302 [] h
theorem ja (a:Int){w K}(h:ab (a==(0:Int)) (K (vI 64) w) ((0 <=(58:Int))/\(bx (Int.fdiv (IntKind.u64.wrap ((IntKind.u64.wrap (((BitVec.ofInt (IntKind.bits .u64) a) &&& (BitVec.ofInt (IntKind.bits .u64) (IntKind.u64.wrap (0-a)))).toNat:Nat))*(285870213051353865:Int))) (2 ^ (min (Int.toNat 58) (IntKind.bits .u64)))) ((64:Nat):Int)/\true)/\∃b,Ld bI (an (vA 5 0) (Int.fdiv (IntKind.u64.wrap ((IntKind.u64.wrap (((BitVec.ofInt (IntKind.bits .u64) a) &&& (BitVec.ofInt (IntKind.bits .u64) (IntKind.u64.wrap (0-a)))).toNat:Nat))*(285870213051353865:Int))) (2 ^ (min (Int.toNat 58) (IntKind.bits .u64)))) 1) w (.int .u8 b)/\K (vI (i64.wrap b)) w)):Cf fw #[.int .u64 a] w (Ret K):=ru func325 [] h
end Go.Pk
