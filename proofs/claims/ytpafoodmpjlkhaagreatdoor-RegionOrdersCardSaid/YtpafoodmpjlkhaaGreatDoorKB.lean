/- What the laws lean on: R, Law, Open, Names, V3, V1, Arr, H, Env, Split, DateP, DateQ, OctA; what is used. Its conditions: none. -/
import Derived.Test.YtpafoodmpjlkhaaGreatDoorKA
import Derived.Laws.AppendOwn
import Derived.IntWalk
import Derived.Sort.Row
import Derived.SliceStrings
import Derived.ProofKit
import Derived.OpenShut
import Derived.Stop.LaidErr
import Derived.Lib.LaidTab
import Derived.Deep.DeepHandedRow
import Derived.Test.YtpafoodmpjlkhaaGreatDoorRows
import Derived.Lib.ItoaMem
import Derived.Lib.SplitLaws
import Derived.Lib.IndexMore
import Init
set_option linter.unusedVariables false
set_option linter.unusedSimpArgs false
set_option linter.unusedSectionVars false
set_option maxRecDepth 100000
open Go.IntKind (i64)
open Go.Proofs.Tryz
open List (length)
open Option (isSome)
namespace Go.Pk
open Go.RowKit (Below)
open Go.Proofs
abbrev Bl:=Nat->Prop
structure vJ (A:Bl)(w w':World):Prop where
 size:w.heap.size <=w'.heap.size
 block:∀b,b<w.heap.size->A b->w'.heap[b]? =w.heap[b]?
theorem vJ.refl (A:Bl)(w:World):vJ A w w:=⟨Nat.le_refl _,λ_ _ _=>rfl⟩
theorem vJ.trans {A:Bl}{a b c:World}(h:vJ A a b)(k:vJ A b c):vJ A a c:=
 ⟨Nat.le_trans h.size k.size,λi hi ha=>(k.block i (Nat.lt_of_lt_of_le hi h.size) ha).trans (h.block i hi ha)⟩
theorem vJ.mono {A A':Bl}{w w':World}(h:vJ A w w')(ha:∀b,A' b->A b):vJ A' w w':=⟨h.size,λb hb hab=>h.block b hb (ha b hab)⟩
theorem zj {w w':World}(h:Below w.heap.size w w')(A:Bl):vJ A w w':=⟨h.size,λb hb _=>h.block b hb⟩
theorem lZ {w w':World}{row:Option Nat}(h:w.grownBy w' row){A:Bl}(ha:∀b,A b->some b≠row):vJ A w w':=⟨h.size,λb hb hab=>h.block b hb (ha b hab)⟩
theorem bg (w:World):Below w.heap.size w w.drew:=(Below.refl _ w).drew
theorem ah (w:World)(o:Obj):Below w.heap.size w (w.alloc o):=(Below.refl _ w).alloc (Nat.le_refl _) o
theorem ab {B:Nat}{a b c:World}(h:Below B a b)(k:Below b.heap.size b c)(hB:B <=b.heap.size):Below B a c:=h.trans (k.mono hB)
structure Ty (α:Type) where
 k:Nat
 pos:0<k
 rep:World->Bl->List Value->α->Prop
 len:∀{w A vs x},rep w A vs x->vs.length=k
 one:∀{w A vs x},rep w A vs x->∀v∈vs,v.oneCell'=true
 keep:∀{w w' A vs x},rep w A vs x->vJ A w w'->rep w' A vs x
 mono:∀{w A A' vs x},rep w A vs x->(∀b,b<w.heap.size->A b->A' b)->rep w A' vs x
def Ty.enc {α:Type}(e:α->Value)(h1:∀x,(e x).oneCell'=true)(p:α->Prop):Ty α where
 k:=1
 pos:=by decide
 rep:=λ_ _ vs x=>vs=[e x]/\p x
 len:=λh=>by rw[h.1];rfl
 one:=fun{_ _ _ x} h v hv=>by rw[h.1]at hv;simp at hv;rw[hv];exact h1 x
 keep:=λh _=>h
 mono:=λh _=>h
def Rm (k:IntKind)(p:Int->Prop):Ty Int:=Ty.enc (λn=>.int k n) (λ_=>rfl) p
def cI:Ty Int:=Rm .i64 λ_=>True
def tU8:Ty UInt8:=Ty.enc (λc=>.int .u8 (c.toNat:Nat)) (λ_=>rfl) λ_=>True
def lH:Ty Bool:=Ty.enc (λb=>.bool b) (λ_=>rfl) λ_=>True
def Qt (p:List UInt8->Prop):Ty (List UInt8):=Ty.enc (λs=>.string (mkS s)) (λ_=>rfl) p
abbrev tS:Ty (List UInt8):=Qt λ_=>True
def NoB:Bl:=λ_=>False
structure TF (P:Program)(t:TypeId)(k bytes:Nat)(z:Value):Prop where
 info:∃i,P.info? t=some i/\i.size=k/\i.bytes=bytes/\i.zero=some z
 cells:z.cells.size=k
 und:∃d,P.underlying t=some d/\(HP d=true\/k=1/\HP d=false)
theorem TF.of {P:Program}{t:TypeId}{k bytes:Nat}{z:Value}(h1:(P.info? t).map (λi=>(i.size,i.bytes,i.zero))=some (k,bytes,some z))(h2:z.cells.size=k)(b:Bool)
   (h3:(P.underlying t).map HP=some b) (h4:b=true\/k=1):TF P t k bytes z:=by
 cases hi:P.info? t with
 | none=>rw[hi]at h1;cases h1
 | some i=>
   rw[hi]at h1
   simp only[Option.map_some,Option.some.injEq,Prod.mk.injEq]at h1
   cases hu:P.underlying t with
   | none=>rw[hu]at h3;cases h3
   | some d=>
     rw[hu]at h3
     simp only[Option.map_some,Option.some.injEq]at h3
     refine⟨⟨i,hi,h1.1,h1.2.1,h1.2.2⟩,h2,d,hu,?_⟩
     cases b with
     | true=>exact .inl h3
     | false=>exact .inr ⟨h4.resolve_left (by simp),h3⟩
structure iK {α:Type}(T:Ty α)(w:World)(A:Bl)(l:List Value)(xs:List α):Prop where
 len:l.length=xs.length*T.k
 rep:∀i (h:i<xs.length),T.rep w A ((l.drop (i*T.k)).take T.k) xs[i]
theorem iK.nil {α:Type}(T:Ty α)(w:World)(A:Bl):iK T w A [] ([]:List α):=⟨by simp,λi h=>by cases h⟩
theorem iK.one {α:Type}{T:Ty α}{w:World}{A:Bl}{vs:List Value}{x:α}(h:T.rep w A vs x):iK T w A vs [x]:=by
 have hl:=T.len h
 refine⟨by simp[hl],λi hi=>?_⟩
 have:i=0:=by simpa using hi
 subst this
 simp only[Nat.zero_mul,List.drop_zero,List.getElem_cons_zero]
 rw[List.take_of_length_le (by omega)];exact h
theorem iK.append {α:Type}{T:Ty α}{w:World}{A:Bl}{l m:List Value}{xs ys:List α}(h:iK T w A l xs)(k:iK T w A m ys):iK T w A (l++m) (xs++ys):=by
 refine⟨by rw[List.length_append,List.length_append,h.len,k.len,Nat.add_mul],λi hi=>?_⟩
 by_cases c:i<xs.length
 · rw[List.getElem_append_left c]
   have h1:=h.rep i c
   have h2:i*T.k+T.k <=l.length:=by
     have:=Nat.mul_le_mul_right T.k (show i+1 <=xs.length from c)
     rw[Nat.add_mul,Nat.one_mul]at this
     rw[h.len];exact this
   rw[List.drop_append_of_le_length (by omega),List.take_append_of_le_length (by rw[List.length_drop];omega)]
   exact h1
 · have hi':i-xs.length<ys.length:=by simp at hi;omega
   rw[List.getElem_append_right (by omega)]
   have h1:=k.rep (i-xs.length) hi'
   have h2:i*T.k=l.length+(i-xs.length)*T.k:=by
     rw[h.len,<- Nat.add_mul];congr 1;omega
   rw[h2,List.drop_length_add_append]
   exact h1
theorem iK.keep {α:Type}{T:Ty α}{w w':World}{A:Bl}{l:List Value}{xs:List α}(h:iK T w A l xs)(hk:vJ A w w'):iK T w' A l xs:=⟨h.len,λi hi=>T.keep (h.rep i hi) hk⟩
theorem iK.mono {α:Type}{T:Ty α}{w:World}{A A':Bl}{l:List Value}{xs:List α}(h:iK T w A l xs)(ha:∀b,b<w.heap.size->A b->A' b):iK T w A' l xs:=⟨h.len,λi hi=>T.mono (h.rep i hi) ha⟩
theorem iK.ones {α:Type}{T:Ty α}{w:World}{A:Bl} :∀{xs:List α} {l:List Value},iK T w A l xs->∀v∈l,v.oneCell'=true
 | [],l,h,v,hv=>by have:=h.len;simp at this;subst this;cases hv
 | x::xs,l,h,v,hv=>by
   have hl:=h.len
   have hk:=T.pos
   have h1:=h.rep 0 (by simp)
   rw[Nat.zero_mul,List.drop_zero]at h1
   have h2:iK T w A (l.drop T.k) xs:=by
     refine⟨by rw[List.length_drop,hl];simp[Nat.add_mul],λi hi=>?_⟩
     have:=h.rep (i+1) (by simp;omega)
     simp only[List.getElem_cons_succ]at this
     rw[List.drop_drop]
     rw[Nat.add_mul,Nat.one_mul,Nat.add_comm]at this
     exact this
   rw[<- List.take_append_drop T.k l]at hv
   rcases List.mem_append.1 hv with hv|hv
   · exact T.one h1 v hv
   · exact iK.ones h2 v hv
theorem iK.set {α:Type}{T:Ty α}{w:World}{A:Bl}{l:List Value}{xs:List α}(h:iK T w A l xs){i:Nat}(hi:i<xs.length){vs:List Value}{x:α}(hx:T.rep w A vs x):
   iK T w A (l.take (i*T.k)++vs++l.drop (i*T.k+vs.length)) (xs.set i x):=by
 have hv:=T.len hx
 have hb:i*T.k+T.k <=l.length:=by
   have:=Nat.mul_le_mul_right T.k (show i+1 <=xs.length from hi)
   rw[Nat.add_mul,Nat.one_mul]at this
   rw[h.len];exact this
 refine⟨?_,λj hj=>?_⟩
 · rw[List.length_set,<- h.len,List.length_append,List.length_append,List.length_take,List.length_drop,hv];omega
 · have hj':j<xs.length:=by simpa using hj
   have key:(l.take (i*T.k)++vs++l.drop (i*T.k+vs.length))=l.take (i*T.k)++(vs++l.drop (i*T.k+vs.length)):=List.append_assoc _ _ _
   have htl:(l.take (i*T.k)).length=i*T.k:=by rw[List.length_take];omega
   by_cases c1:j<i
   · have h1:=h.rep j hj'
     have h2:j*T.k+T.k <=i*T.k:=by
       have:=Nat.mul_le_mul_right T.k (show j+1 <=i from c1)
       rwa [Nat.add_mul,Nat.one_mul]at this
     rw[List.getElem_set_ne (by omega),key,List.drop_append_of_le_length (by omega),List.take_append_of_le_length (by rw[List.length_drop];omega)]
     rw[List.drop_take,List.take_take]
     rw[show min T.k (i*T.k-j*T.k)=T.k by omega]
     exact h1
   · by_cases c2:j=i
     · subst c2
       rw[List.getElem_set_self,key,List.drop_left' htl,<- hv,List.take_left]
       exact hx
     · have h1:=h.rep j hj'
       have h2:i*T.k+T.k <=j*T.k:=by
         have:=Nat.mul_le_mul_right T.k (show i+1 <=j by omega)
         rwa [Nat.add_mul,Nat.one_mul]at this
       rw[List.getElem_set_ne (by omega)]
       have e1:(l.take (i*T.k)++vs++l.drop (i*T.k+vs.length)).drop (j*T.k)=l.drop (j*T.k):=by
         have e2:j*T.k=(l.take (i*T.k)++vs).length+(j*T.k-(i*T.k+T.k)):=by rw[List.length_append,htl,hv];omega
         rw[e2,List.drop_length_add_append,List.drop_drop]
         congr 1
         omega
       rw[e1];exact h1
def At {α:Type}(T:Ty α)(w:World)(A:Bl)(b off:Nat)(xs:List α):Prop:=
 ∃l:List Value,iK T w A l xs/\∀j,j<l.length->w.cell? ⟨b,off+j,none⟩=l[j]?
def Sl {α:Type}(T:Ty α)(w:World)(A:Bl)(a:Option Addr)(n c:Nat)(xs:List α):Prop:=
 n=xs.length/\n <=c/\c <=maxLen/\(xs=[]\/∃b off,a=some ⟨b,off,none⟩/\b<w.heap.size/\A b/\At T w A b off xs)
theorem mF {w w':World}{b:Nat}(h:w'.heap[b]? =w.heap[b]?)(o:Nat):w'.cell? ⟨b,o,none⟩=w.cell? ⟨b,o,none⟩:=by simp[World.cell?,h]
theorem At.keep {α:Type}{T:Ty α}{w w':World}{A:Bl}{b off:Nat}{xs:List α}(h:At T w A b off xs)(hb:b<w.heap.size)(ha:A b)(hk:vJ A w w'):At T w' A b off xs:=by
 obtain⟨l,h1,h2⟩:=h
 exact⟨l,h1.keep hk,λj hj=>by rw[mF (hk.block b hb ha)];exact h2 j hj⟩
theorem Sl.keep {α:Type}{T:Ty α}{w w':World}{A:Bl}{a:Option Addr}{n c:Nat}{xs:List α}(h:Sl T w A a n c xs)(hk:vJ A w w'):Sl T w' A a n c xs:=by
 obtain⟨h1,h2,h3,h4⟩:=h
 refine⟨h1,h2,h3,?_⟩
 rcases h4 with h4|⟨b,off,e,hb,ha,h4⟩
 · exact .inl h4
 · exact .inr ⟨b,off,e,Nat.lt_of_lt_of_le hb hk.size,ha,h4.keep hb ha hk⟩
theorem Sl.below {α:Type}{T:Ty α}{w w':World}{A:Bl}{a:Option Addr}{n c:Nat}{xs:List α}(h:Sl T w A a n c xs)(hk:Below w.heap.size w w'):Sl T w' A a n c xs:=h.keep (zj hk A)
theorem Sl.mono {α:Type}{T:Ty α}{w:World}{A A':Bl}{a:Option Addr}{n c:Nat}{xs:List α}(h:Sl T w A a n c xs)(ha:∀b,b<w.heap.size->A b->A' b):Sl T w A' a n c xs:=by
 obtain⟨h1,h2,h3,h4⟩:=h
 refine⟨h1,h2,h3,?_⟩
 rcases h4 with h4|⟨b,off,e,hb,hab,h4⟩
 · exact .inl h4
 · obtain⟨l,h5,h6⟩:=h4
   exact .inr ⟨b,off,e,hb,ha b hb hab,l,h5.mono ha,h6⟩
theorem Sl.len {α:Type}{T:Ty α}{w:World}{A:Bl}{a:Option Addr}{n c:Nat}{xs:List α}(h:Sl T w A a n c xs):n=xs.length:=h.1
theorem Sl.le {α:Type}{T:Ty α}{w:World}{A:Bl}{a:Option Addr}{n c:Nat}{xs:List α}(h:Sl T w A a n c xs):xs.length <=9223372036854775807:=by
 have h1:=h.1;have h2:=h.2.1;have h3:=h.2.2.1;unfold maxLen at h3;omega
theorem Sl.nil {α:Type}(T:Ty α)(w:World)(A:Bl)(a:Option Addr)(c:Nat)(hc:c <=maxLen):Sl T w A a 0 c ([]:List α):=⟨rfl,Nat.zero_le _,hc,.inl rfl⟩
theorem Sl.isSome {α:Type}{T:Ty α}{w:World}{A:Bl}{a:Option Addr}{n c:Nat}{xs:List α}(h:Sl T w A a n c xs){i:Nat}(hi:i<xs.length):Option.isSome a=true:=by
 rcases h.2.2.2 with h4|⟨b,off,e,_⟩
 · subst h4;cases hi
 · rw[e];rfl
theorem fB (b o j:Nat):(⟨b,o,none⟩:Addr).add j=⟨b,o+j,none⟩:=by
 unfold Addr.add;split <;> simp_all
theorem eZ {P:Program}{t:TypeId}{d:TypeDesc}(hu:P.underlying t=some d)(ha:HP d=false){w:World}{p:Addr}{v:Value}(hc:w.cell? p=some v):
   (loadVar t p).run P w=.ok v w:=by
 unfold loadVar
 rw[Sem.run_bind,un hu,ha]
 simp[hc]
theorem Hm {P:Program}{w:World}{b off:Nat}{vs:List Value}(h:∀j,j<vs.length->w.cell? ⟨b,off+j,none⟩=vs[j]?):(loadCells ⟨b,off,none⟩ vs.length).run P w=.ok vs.toArray w:=
 run_loadCells_list (P:=P) w ⟨b,off,none⟩ vs λj v hv=>by
   rw[fB,h j (by have:=(List.getElem?_eq_some_iff.1 hv).1;exact this)];exact hv
theorem CI {P:Program}{t:TypeId}{d:TypeDesc}{i:TypeInfo}(hu:P.underlying t=some d)(ha:HP d=true)(hi:P.info? t=some i){w:World}{b off:Nat}{vs:List Value}(hl:vs.length=i.size)
   (h:∀j,j<vs.length->w.cell? ⟨b,off+j,none⟩=vs[j]?):(loadVar t ⟨b,off,none⟩).run P w=.ok (.agg vs.toArray) w:=by
 unfold loadVar
 rw[Sem.run_bind,un hu,ha]
 have:=Hm (P:=P) h
 rw[hl]at this
 simp[gg hi,this]
theorem Fm (b off:Nat)(i:Int)(k:Nat):ao (some ⟨b,off,none⟩) i k=some ⟨b,off+i.toNat*k,none⟩:=by
 simp[ao,fB]
theorem At.elem {α:Type}{T:Ty α}{w:World}{A:Bl}{b off:Nat}{xs:List α}(h:At T w A b off xs){i:Nat}(hi:i<xs.length):
   ∃vs,T.rep w A vs xs[i]/\∀j,j<T.k->w.cell? ⟨b,off+i*T.k+j,none⟩=vs[j]? :=by
 obtain⟨l,h1,h2⟩:=h
 have hb:i*T.k+T.k <=l.length:=by
   have:=Nat.mul_le_mul_right T.k (show i+1 <=xs.length from hi)
   rw[Nat.add_mul,Nat.one_mul]at this
   rw[h1.len];exact this
 refine⟨_,h1.rep i hi,λj hj=>?_⟩
 rw[Nat.add_assoc,h2 _ (by omega),List.getElem?_take,if_pos hj,List.getElem?_drop]
theorem Sl.load1 {α:Type}{T:Ty α}{P:Program}{t:TypeId}{d:TypeDesc}(hu:P.underlying t=some d)(ha:HP d=false)(hk:T.k=1)
   {w:World} {A:Bl} {a:Option Addr} {n c:Nat} {xs:List α} (h:Sl T w A a n c xs) {i:Int} (hi:i.toNat<xs.length):
   ∃v,(Instr.loadAt t (.pointer (ao a i 1))).run P w=.ok v w/\T.rep w A [v] xs[i.toNat]:=by
 rcases h.2.2.2 with h4|⟨b,off,e,hb,hab,h4⟩
 · subst h4;cases hi
 · obtain⟨vs,h5,h6⟩:=h4.elem hi
   have hl:=T.len h5
   rw[hk]at hl
   match vs,hl with
   | [v],_=>
     refine⟨v,?_,h5⟩
     have h7:=h6 0 (by rw[hk];decide)
     rw[hk]at h7
     rw[e,Fm]
     show(do loadVar t (<- Instr.sureAddr (.pointer (some _)))).run P w=_
     rw[Sem.run_bind,iX]
     exact eZ hu ha (by simpa using h7)
theorem Sl.loadA {α:Type}{T:Ty α}{P:Program}{t:TypeId}{d:TypeDesc}{ti:TypeInfo}(hu:P.underlying t=some d)(ha:HP d=true)(hi':P.info? t=some ti){k:Nat}(hk:T.k=k)(hs:ti.size=k)
   {w:World} {A:Bl} {a:Option Addr} {n c:Nat} {xs:List α} (h:Sl T w A a n c xs) {i:Int} (hi:i.toNat<xs.length):
   ∃vs,(Instr.loadAt t (.pointer (ao a i k))).run P w=.ok (.agg vs.toArray) w/\T.rep w A vs xs[i.toNat]:=by
 subst hk
 rcases h.2.2.2 with h4|⟨b,off,e,hb,hab,h4⟩
 · subst h4;cases hi
 · obtain⟨vs,h5,h6⟩:=h4.elem hi
   have hl:=T.len h5
   refine⟨vs,?_,h5⟩
   rw[e,Fm]
   show(do loadVar t (<- Instr.sureAddr (.pointer (some _)))).run P w=_
   rw[Sem.run_bind,iX]
   exact CI hu ha hi' (by omega) λj hj=>h6 j (by omega)
def bK (a:Option Addr):Option Nat:=a.map (·.block)
def Ow {α:Type}(T:Ty α)(t:TypeId)(w:World)(A:Bl)(a:Option Addr)(n c:Nat)(xs:List α):Prop:=
 n=xs.length/\n <=c/\c <=maxLen/\((a=none/\c=0/\xs=[])\/
   ∃g cur fr,a=some ⟨g,0,none⟩/\w.heap[g]? =some (.cells cur t fr)/\(∀i,i<cur.size-> ¬ (fr.1 <=i/\i<fr.2))/\cur.size=c*T.k/\iK T w A (cur.toList.take (n*T.k)) xs)
theorem Ow.nil {α:Type}(T:Ty α)(t:TypeId)(w:World)(A:Bl):Ow T t w A none 0 0 ([]:List α):=⟨rfl,Nat.le_refl _,Nat.zero_le _,.inl ⟨rfl,rfl,rfl⟩⟩
theorem Ow.len {α:Type}{T:Ty α}{t:TypeId}{w:World}{A:Bl}{a:Option Addr}{n c:Nat}{xs:List α}(h:Ow T t w A a n c xs):n=xs.length:=h.1
theorem Ow.le {α:Type}{T:Ty α}{t:TypeId}{w:World}{A:Bl}{a:Option Addr}{n c:Nat}{xs:List α}(h:Ow T t w A a n c xs):xs.length <=9223372036854775807:=by
 have h1:=h.1;have h2:=h.2.1;have h3:=h.2.2.1;unfold maxLen at h3;omega
theorem Ow.lt {α:Type}{T:Ty α}{t:TypeId}{w:World}{A:Bl}{a:Option Addr}{n c:Nat}{xs:List α}(h:Ow T t w A a n c xs):∀g,bK a=some g->g<w.heap.size:=by
 intro g hg
 rcases h.2.2.2 with⟨e,_⟩|⟨g',cur,fr,e,hh,_⟩
 · rw[e]at hg;cases hg
 · rw[e]at hg;simp[bK]at hg;subst hg;exact(Array.getElem?_eq_some_iff.1 hh).1
theorem Ow.keep {α:Type}{T:Ty α}{t:TypeId}{w w':World}{A:Bl}{a:Option Addr}{n c:Nat}{xs:List α}(h:Ow T t w A a n c xs)(hk:vJ (λb=>A b\/some b=bK a) w w'):Ow T t w' A a n c xs:=by
 have hlt:=h.lt
 obtain⟨h1,h2,h3,h4⟩:=h
 refine⟨h1,h2,h3,?_⟩
 rcases h4 with h4|⟨g,cur,fr,e,hh,hf,hs,h4⟩
 · exact .inl h4
 · refine .inr ⟨g,cur,fr,e,?_,hf,hs,h4.keep (hk.mono λ_ h=>.inl h)⟩
   rw[hk.block g (hlt g (by rw[e];rfl)) (.inr (by rw[e];rfl))];exact hh
theorem Ow.below {α:Type}{T:Ty α}{t:TypeId}{w w':World}{A:Bl}{a:Option Addr}{n c:Nat}{xs:List α}(h:Ow T t w A a n c xs)(hk:Below w.heap.size w w'):Ow T t w' A a n c xs:=h.keep (zj hk _)
theorem Ow.mono {α:Type}{T:Ty α}{t:TypeId}{w:World}{A A':Bl}{a:Option Addr}{n c:Nat}{xs:List α}(h:Ow T t w A a n c xs)(ha:∀b,b<w.heap.size->A b->A' b):Ow T t w A' a n c xs:=by
 obtain⟨h1,h2,h3,h4⟩:=h
 refine⟨h1,h2,h3,?_⟩
 rcases h4 with h4|⟨g,cur,fr,e,hh,hf,hs,h4⟩
 · exact .inl h4
 · exact .inr ⟨g,cur,fr,e,hh,hf,hs,h4.mono ha⟩
theorem Ow.sl {α:Type}{T:Ty α}{t:TypeId}{w:World}{A A':Bl}{a:Option Addr}{n c:Nat}{xs:List α}(h:Ow T t w A a n c xs)(hA:∀b,b<w.heap.size->A b->A' b)(hg:∀g,bK a=some g->A' g):
   Sl T w A' a n c xs:=by
 have hlt:=h.lt
 obtain⟨h1,h2,h3,h4⟩:=h
 refine⟨h1,h2,h3,?_⟩
 rcases h4 with⟨_,_,h4⟩|⟨g,cur,fr,e,hh,hf,hs,h4⟩
 · exact .inl h4
 · refine .inr ⟨g,0,e,hlt g (by rw[e];rfl),hg g (by rw[e];rfl),_,h4.mono hA,λj hj=>?_⟩
   rw[List.length_take]at hj
   rw[cell_of_row w g _ cur t fr hh,Nat.zero_add,List.getElem?_take,if_pos (by omega)]
   simp
abbrev kj:Bl:=λ_=>True
theorem Ow.all {α:Type}{T:Ty α}{t:TypeId}{w:World}{A:Bl}{a:Option Addr}{n c:Nat}{xs:List α}(h:Ow T t w A a n c xs):Sl T w kj a n c xs:=h.sl (λ_ _ _=>trivial) (λ_ _=>trivial)
def bI (B:Nat)(a:Option Addr):Prop:=∀g,bK a=some g->B <=g
theorem bI.none (B:Nat):bI B none:=λ_ h=>by cases h
theorem bI.mono {B B':Nat}{a:Option Addr}(h:bI B a)(hb:B' <=B):bI B' a:=λg hg=>Nat.le_trans hb (h g hg)
theorem setRow_size (w:World)(g:Nat)(cs:Array Value):(w.setRow g cs).heap.size=w.heap.size:=by simp[World.setRow]
theorem gK (w:World)(g:Nat)(cs:Array Value):w.grownBy (w.setRow g cs) (some g):=
 ⟨rfl,rfl,rfl,by rw[setRow_size];exact Nat.le_refl _,λk _ hk=>setRow_other w g k cs λe=>hk (by rw[e])⟩
theorem gR {w:World}{g:Nat}{cur:Array Value}{t:TypeId}{fr:Nat×Nat}(hg:w.heap[g]? =some (.cells cur t fr))(o:Nat):w.cell? ⟨g,o,none⟩=cur[o]? :=cell_of_row w g o cur t fr hg
theorem Ep {w:World}{g o:Nat}{cur:Array Value}{t:TypeId}{fr:Nat×Nat}(hg:w.heap[g]? =some (.cells cur t fr))(hf: ¬ (fr.1 <=o/\o<fr.2)):w.frozen? ⟨g,o,none⟩=false:=by
 obtain⟨lo,hi⟩:=fr
 simp only[World.frozen?,hg]
 simpa using hf
theorem F7 {P:Program}{w:World}{g o:Nat}{cur:Array Value}{t:TypeId}{fr:Nat×Nat}(hg:w.heap[g]? =some (.cells cur t fr))(ho:o<cur.size)(hf: ¬ (fr.1 <=o/\o<fr.2))
   {v:Value} (h1:v.oneCell'=true):(store ⟨g,o,none⟩ v).run P w=.ok () (w.setRow g (cur.setIfInBounds o v)):=by
 rw[run_store P w _ v .plain h1,gR hg,Ep hg hf,Array.getElem?_eq_getElem ho]
 simp only[Bool.false_eq_true,if_false]
 congr 1
 obtain⟨heap,tape,drawn,os,output⟩:=w
 simp only[World.setCell,World.setRow]
 congr 1
 apply Array.ext_getElem?
 intro k
 rw[Array.getElem?_modify,Array.getElem?_modify]
 by_cases hk:g=k
 · subst hk
   simp only[if_true]
   have hg':heap[g]? =some (.cells cur t fr):=hg
   rw[hg']
   rfl
 · simp only[if_neg hk]
theorem iI {P:Program}(g o:Nat)(t:TypeId)(fr:Nat×Nat):∀(vs:List Value) (i:Nat) (cur:Array Value) (w:World),w.heap[g]? =some (.cells cur t fr)->o+i+vs.length <=cur.size->
   (∀j,j<cur.size-> ¬ (fr.1 <=j/\j<fr.2))->(∀v∈vs,v.oneCell'=true)->
   (storeCells ⟨g,o,none⟩ vs i).run P w=.ok () (w.setRow g (cur.toList.take (o+i)++vs++cur.toList.drop (o+i+vs.length)).toArray)
 | [],i,cur,w,hg,_,_,_=>by
   simp only[storeCells,List.append_nil,List.length_nil,Nat.add_zero,List.take_append_drop,Array.toArray_toList]
   rw[setRow_self w g cur t fr hg]
   rfl
 | v::rest,i,cur,w,hg,hl,hf,h1=>by
   have hi:o+i<cur.size:=by simp at hl;omega
   simp only[storeCells,Sem.run_bind,fB]
   rw[F7 hg hi (hf _ hi) (h1 v List.mem_cons_self),Result.andThen_ok]
   rw[iI g o t fr rest (i+1) (cur.setIfInBounds (o+i) v) _ (setRow_heap w g cur _ t fr hg) (by simp at hl ⊢;omega)
     (λj hj=>hf j (by simpa using hj)) (λu hu=>h1 u (List.mem_cons_of_mem _ hu))]
   congr 1
   have e2:∀(a b:Array Value),(w.setRow g a).setRow g b=w.setRow g b:=by
     intro a b
     obtain⟨heap,tape,drawn,os,output⟩:=w
     simp only[World.setRow]
     congr 1
     apply Array.ext_getElem?
     intro k
     rw[Array.getElem?_modify,Array.getElem?_modify,Array.getElem?_modify]
     by_cases hk:g=k
     · subst hk
       have hg':heap[g]? =some (.cells cur t fr):=hg
       simp[hg']
     · simp only[if_neg hk]
   rw[e2]
   congr 1
   apply Array.ext'
   simp only[Array.toList_setIfInBounds,List.length_cons]
   apply List.ext_getElem?
   intro k
   have hlen:cur.toList.length=cur.size:=by simp
   simp only[List.getElem?_append,List.length_append,List.length_take,List.length_set,List.getElem?_take,List.getElem?_drop,List.length_cons,hlen,List.getElem?_set]
   by_cases c1:k<o+i
   · have: ¬ o+i=k:=by omega
     simp[c1,this,show k<min (o+(i+1)) cur.size by omega,show k<min (o+i) cur.size by omega,show k<o+(i+1) by omega,
       show k<min (o+(i+1)) cur.size+rest.length by omega,show k<min (o+i) cur.size+(rest.length+1) by omega]
   · by_cases c2:k=o+i
     · subst c2
       have e3:min (o+i) cur.size=o+i:=by omega
       have e4:min (o+(i+1)) cur.size=o+i+1:=by omega
       simp[e3,e4,hi,show o+i<o+i+1+rest.length by omega,show o+i<o+(i+1) by omega]
     · have e3:min (o+i) cur.size=o+i:=by omega
       have e4:min (o+(i+1)) cur.size=o+i+1:=by omega
       by_cases c3:k<o+i+1+rest.length
       · have e5:k-(o+i)=(k-(o+i+1))+1:=by omega
         simp[e3,e4,c3,show k<o+i+(rest.length+1) by omega,show ¬ k<o+i+1 by omega,show ¬ k<o+i by omega,e5]
       · have e6: ¬ o+i=o+(i+1)+rest.length+(k-(o+i+1+rest.length)):=by omega
         have e7:o+(i+1)+rest.length+(k-(o+i+1+rest.length))=o+i+(rest.length+1)+(k-(o+i+(rest.length+1))):=by omega
         simp[e3,e4,c3,show ¬ k<o+i+(rest.length+1) by omega,e7]
         intro h;omega
def Src {α:Type}(T:Ty α)(w:World)(A:Bl)(y:Option Addr)(m:Nat)(ys:List α):Prop:=
 m=ys.length/\(ys=[]\/∃b off,y=some ⟨b,off,none⟩/\At T w A b off ys)
def Flat {α:Type}(T:Ty α):Prop:=∀w A w' A' vs x,T.rep w A vs x->T.rep w' A' vs x
theorem iK.flat {α:Type}{T:Ty α}(hf:Flat T){w w':World}{A A':Bl}{l:List Value}{xs:List α}(h:iK T w A l xs):iK T w' A' l xs:=⟨h.len,λi hi=>hf _ _ _ _ _ _ (h.rep i hi)⟩
theorem Sl.flat {α:Type}{T:Ty α}(hf:Flat T){w:World}{A A':Bl}{a:Option Addr}{n c:Nat}{xs:List α}(h:Sl T w A a n c xs):Src T w A' a n xs:=by
 obtain⟨h1,h2,h3,h4⟩:=h
 refine⟨h1,?_⟩
 rcases h4 with h4|⟨b,off,e,hb,hab,l,h5,h6⟩
 · exact .inl h4
 · exact .inr ⟨b,off,e,l,h5.flat hf,h6⟩
theorem Src.new1F {α:Type}{T:Ty α}(hf:Flat T){w:World}{A:Bl}{vs:List Value}{x:α}{t:TypeId}{b:Nat}{w':World}(hb:b=w.heap.size)(hw:w'=w.alloc (.cells vs.toArray t))(h:T.rep w A vs x):
   Src T w' A (some ⟨b,0,none⟩) 1 [x]:=by
 subst hb hw
 refine⟨rfl,.inr ⟨_,0,rfl,vs,iK.one (hf _ _ _ _ _ _ h),λj hj=>?_⟩⟩
 rw[gR (heap_alloc_new w _),Nat.zero_add]
 simp
theorem BQ {w:World}{b off:Nat}{l:List Value}(h:∀j,j<l.length->w.cell? ⟨b,off+j,none⟩=l[j]?):∀j v,l[j]? =some v->w.cell? ((⟨b,off,none⟩:Addr).add j)=some v:=λj v hv=>by
 rw[fB,h j (List.getElem?_eq_some_iff.1 hv).1];exact hv
theorem dh {α:Type}{T:Ty α}{P:Program}{st t ty:TypeId}{bytes:Nat}{z:Value}(hu:P.underlying st=some (.slice t))(tf:TF P t T.k bytes z)(hb0:0<bytes)
   {w:World} {A:Bl} {a:Option Addr} {n c:Nat} {xs:List α} (ho:Ow T t w A a n c xs) (hA:∀g,bK a=some g-> ¬ A g)
   {y:Option Addr} {m cm:Nat} {ys:List α} (hs:Src T w A y m ys) (hbound:(xs.length+ys.length)*bytes <=140737488355328):
   ∃(w':World) (a':Option Addr) (n' c':Nat),(Builtin.append_ #[st,st] ty #[.slice a n c,.slice y m cm]).run P w=.ok (.slice a' n' c') w'/\Ow T t w' A a' n' c' (xs++ys)/\w.grownBy w' (bK a)/\
     (∀g,bK a'=some g->bK a=some g\/w.heap.size <=g):=by
 obtain⟨i,hi,hsz,hby,hz⟩:=tf.info
 have hzc:=tf.cells
 have hpos:=T.pos
 obtain⟨hn,hnc,hcm,ho4⟩:=ho
 obtain⟨hm,hs2⟩:=hs
 subst hn hm
 have hsum:xs.length+ys.length <=140737488355328:=Nat.le_trans (Nat.le_mul_of_pos_right _ hb0) hbound
 have hml:xs.length+ys.length <=maxLen:=by unfold maxLen;omega
 have hkeepA:∀{w'},w.grownBy w' (bK a)->vJ A w w':=λhg=>lZ hg λb hb e=>hA b e.symm hb
 rcases ho4 with⟨rfl,rfl,rfl⟩|⟨g,cur,fr,rfl,hg,hf,hcs,hrep⟩
 ·
   rcases hs2 with rfl|⟨b,off,rfl,l,hl,hcl⟩
   · refine⟨w,none,0,0,?_,Ow.nil T t w A,⟨rfl,rfl,rfl,Nat.le_refl _,λ_ _ _=>rfl⟩,λg h=>by cases h⟩
     have hfc:(Builtin.firstCells i.size 0 (.slice y 0 cm)).run P w=.ok #[] w:=by
       cases y with
       | none=>rfl
       | some y=>simp[Builtin.firstCells,loadCells,loadCellsFrom]
     simp[Builtin.append_,bD hu,gg hi,Builtin.lenOf,hfc]
   · by_cases h0:ys.length=0
     · have:ys=[]:=List.eq_nil_of_length_eq_zero h0
       subst this
       refine⟨w,none,0,0,?_,Ow.nil T t w A,⟨rfl,rfl,rfl,Nat.le_refl _,λ_ _ _=>rfl⟩,λg h=>by cases h⟩
       simp[Builtin.append_,bD hu,gg hi,Builtin.lenOf,Builtin.firstCells,loadCells,loadCellsFrom]
     · have hr:=run_append_nil (P:=P) w st ty t i z hu hi hz ⟨b,off,none⟩ ys.length cm l (by rw[hl.len,hsz]) (BQ hcl) (by omega) (by simp at hsum;omega) (by rw[hby];simp at hbound;omega)
       refine⟨_,_,_,_,hr,?_,⟨rfl,rfl,rfl,by simp,λk hk _=>heap_alloc_old w.drew _ k hk⟩,λg h=>.inr (by simp[bK]at h;omega)⟩
       have hge:=grownCap_ge w ys.length 0 t
       have hcm':grownCap w ys.length 0 t <=maxLen:=grownCap_le_maxLen w ys.length 0 t (by simp at hml;exact hml)
       refine⟨by simp,hge,hcm',.inr ⟨_,_,(0,0),rfl,heap_alloc_new w.drew _,λi _=>by simp,?_,?_⟩⟩
       · simp only[Array.size_append,List.size_toArray,size_zeroCells,hzc,hl.len,<- Nat.add_mul]
         congr 1;omega
       · rw[List.nil_append]
         simp only[Array.toList_append]
         rw[<- hl.len,List.take_left]
         exact hl.keep ⟨by simp,λk hk _=>heap_alloc_old w.drew _ k hk⟩
 · have hlt:g<w.heap.size:=(Array.getElem?_eq_some_iff.1 hg).1
   have hxl:(cur.toList.take (xs.length*T.k)).length=xs.length*T.k:=hrep.len
   obtain⟨l,hl,hfirst⟩:∃l,iK T w A l ys/\(Builtin.firstCells i.size ys.length (.slice y ys.length cm)).run P w=.ok l.toArray w:=by
     rcases hs2 with rfl|⟨b,off,rfl,l,hl,hcl⟩
     · refine⟨[],iK.nil T w A,?_⟩
       cases y with
       | none=>rfl
       | some y=>simp[Builtin.firstCells,loadCells,loadCellsFrom]
     · exact⟨l,hl,run_firstCells_some (P:=P) w i.size ys.length ⟨b,off,none⟩ _ _ l (by rw[hl.len,hsz]) (BQ hcl)⟩
   have hlapp:((cur.toList.take (xs.length*T.k))++l).length=(xs.length+ys.length)*T.k:=by rw[List.length_append,hxl,hl.len,Nat.add_mul]
   by_cases hroom:xs.length+ys.length <=c
   · have hfit:xs.length*T.k+l.length <=cur.size:=by rw[hl.len,hcs,<- Nat.add_mul];exact Nat.mul_le_mul_right _ hroom
     have hst:=iI (P:=P) g (xs.length*T.k) t fr l 0 cur w hg (by simpa using hfit) hf hl.ones
     simp only[Nat.add_zero]at hst
     refine⟨w.setRow g (cur.toList.take (xs.length*T.k)++l++cur.toList.drop (xs.length*T.k+l.length)).toArray,some ⟨g,0,none⟩,xs.length+ys.length,c,?_,?_,gK w g _,λg' h=>.inl h⟩
     · have hadd:(⟨g,0,none⟩:Addr).add (xs.length*i.size)=⟨g,xs.length*T.k,none⟩:=by rw[fB,hsz,Nat.zero_add]
       simp only[Builtin.append_,Sem.run_bind,bD hu,gg hi,Builtin.lenOf,Sem.run_pure,Result.andThen_ok,hroom,List.getElem?_toArray,List.getElem?_cons_zero,List.getElem?_cons_succ,if_true,Bool.false_eq_true,if_false,Bool.not_false,hfirst,hadd,hst]
     · refine⟨by simp,hroom,hcm,.inr ⟨g,_,fr,rfl,setRow_heap w g cur _ t fr hg,?_,?_,?_⟩⟩
       · intro j hj
         refine hf j ?_
         simp at hj;omega
       · simp;omega
       · have e:((cur.toList.take (xs.length*T.k)++l++cur.toList.drop (xs.length*T.k+l.length)).toArray).toList.take ((xs.length+ys.length)*T.k)=cur.toList.take (xs.length*T.k)++l:=by
           rw[<- hlapp];simp only[];exact List.take_left
         rw[e]
         exact(hrep.append hl).keep (hkeepA (gK w g _))
   · have holds:∀j v,(cur.toList.take (xs.length*T.k))[j]? =some v->w.cell? ((⟨g,0,none⟩:Addr).add j)=some v:=λj v hv=>by
       rw[fB,Nat.zero_add,gR hg]
       rw[List.getElem?_take]at hv
       split at hv
       · simpa using hv
       · cases hv
     have hne:ys≠[]:=by
       intro e;subst e;simp at hroom;omega
     rcases hs2 with rfl|⟨b,off,rfl,l',hl',hcl⟩
     · exact absurd rfl hne
     · have hr:=run_append_grow (P:=P) w st ty t i z hu hi hz ⟨g,0,none⟩ xs.length c (cur.toList.take (xs.length*T.k)) (by rw[hxl,hsz]) holds ⟨b,off,none⟩ ys.length cm l' (by rw[hl'.len,hsz]) (BQ hcl)
         (by omega) (by omega) (growslice_fits (by omega) (by rw[hby];exact hbound))
       refine⟨_,_,_,_,hr,?_,⟨rfl,rfl,rfl,by simp,λk hk _=>heap_alloc_old w.drew _ k hk⟩,λg' h=>.inr (by simp[bK]at h;omega)⟩
       have hge:=grownCap_ge w (xs.length+ys.length) c t
       have hcm':grownCap w (xs.length+ys.length) c t <=maxLen:=grownCap_le_maxLen w _ c t hml
       have hlapp':((cur.toList.take (xs.length*T.k))++l').length=(xs.length+ys.length)*T.k:=by rw[List.length_append,hxl,hl'.len,Nat.add_mul]
       refine⟨by simp,hge,hcm',.inr ⟨_,_,(0,0),rfl,heap_alloc_new w.drew _,λi _=>by simp,?_,?_⟩⟩
       · simp only[Array.size_append,List.size_toArray,size_zeroCells,hzc,hxl,hl'.len,<- Nat.add_mul]
         congr 1;omega
       · simp only[Array.toList_append]
         rw[<- hlapp',List.take_left]
         exact(hrep.append hl').keep ⟨by simp,λk hk _=>heap_alloc_old w.drew _ k hk⟩
theorem run_storeVar_row {P:Program}{t u:TypeId}{ti:TypeInfo}(hi:P.info? t=some ti){w:World}{g o:Nat}{cur:Array Value}{fr:Nat×Nat}(hg:w.heap[g]? =some (.cells cur u fr))
   (hf:∀i,i<cur.size-> ¬ (fr.1 <=i/\i<fr.2)) {v:Value} (hs:v.cells.size=ti.size) (hfit:o+ti.size <=cur.size) (h1:∀c∈v.cells.toList,c.oneCell'=true):
   (Instr.storeAt t (.pointer (some ⟨g,o,none⟩)) v).run P w=.ok () (w.setRow g (cur.toList.take o++v.cells.toList++cur.toList.drop (o+v.cells.size)).toArray):=by
 show(do storeVar t (<- Instr.sureAddr (.pointer (some ⟨g,o,none⟩))) v).run P w=_
 rw[Sem.run_bind,iX,Result.andThen_ok]
 unfold storeVar
 rw[Sem.run_bind,gg hi,Result.andThen_ok,if_neg (by simp[hs])]
 have:=iI (P:=P) g o u fr v.cells.toList 0 cur w hg (by simp;omega) hf h1
 simpa using this
theorem Ow.store {α:Type}{T:Ty α}{P:Program}{t:TypeId}{bytes:Nat}{z:Value}(tf:TF P t T.k bytes z){w:World}{A:Bl}{a:Option Addr}{n c:Nat}{xs:List α}(ho:Ow T t w A a n c xs)(hA:∀g,bK a=some g-> ¬ A g)
   {i:Int} (hi:i.toNat<xs.length) {k:Nat} (hk:T.k=k) {v:Value} {x:α} (hv:T.rep w A v.cells.toList x):
   ∃w',(Instr.storeAt t (.pointer (ao a i k)) v).run P w=.ok () w'/\Ow T t w' A a n c (xs.set i.toNat x)/\w.grownBy w' (bK a):=by
 subst hk
 obtain⟨ti,hti,hsz,_,_⟩:=tf.info
 have hvl:=T.len hv
 have hA':=hA
 obtain⟨hn,hnc,hcm,ho4⟩:=ho
 rcases ho4 with⟨_,_,rfl⟩|⟨g,cur,fr,rfl,hg,hf,hcs,hrep⟩
 · cases hi
 · subst hn
   have hb:i.toNat*T.k+T.k <=xs.length*T.k:=by
     have:=Nat.mul_le_mul_right T.k (show i.toNat+1 <=xs.length from hi)
     rwa [Nat.add_mul,Nat.one_mul]at this
   have hb2:xs.length*T.k <=cur.size:=by rw[hcs];exact Nat.mul_le_mul_right _ hnc
   have hvs:v.cells.size=T.k:=by simpa using hvl
   rw[Fm,Nat.zero_add]
   refine⟨_,run_storeVar_row hti hg hf (by rw[hvs,hsz]) (by rw[hsz];omega) (T.one hv),?_,gK w g _⟩
   refine⟨by simp,hnc,hcm,.inr ⟨g,_,fr,rfl,setRow_heap w g cur _ t fr hg,?_,?_,?_⟩⟩
   · intro j hj
     refine hf j ?_
     simp at hj;omega
   · simp;omega
   · have h1:=(hrep.set hi hv).keep (lZ (gK w g (cur.toList.take (i.toNat*T.k)++v.cells.toList++cur.toList.drop (i.toNat*T.k+v.cells.size)).toArray) λb hb e=>hA g rfl (by cases e;exact hb))
     have e:((cur.toList.take (i.toNat*T.k)++v.cells.toList++cur.toList.drop (i.toNat*T.k+v.cells.size)).toArray).toList.take (xs.length*T.k)=
         (cur.toList.take (xs.length*T.k)).take (i.toNat*T.k)++v.cells.toList++(cur.toList.take (xs.length*T.k)).drop (i.toNat*T.k+v.cells.toList.length):=by
       simp only[]
       have e1:(cur.toList.take (xs.length*T.k)).take (i.toNat*T.k)=cur.toList.take (i.toNat*T.k):=by rw[List.take_take];congr 1;omega
       rw[e1,List.take_append,List.drop_take]
       have e2:(cur.toList.take (i.toNat*T.k)++v.cells.toList).length=i.toNat*T.k+T.k:=by simp[hvs];omega
       rw[e2,List.take_of_length_le (by rw[e2];omega)]
       congr 2
       rw[hvl]
     rw[e];exact h1
theorem ve {w w':World}(hos:w'.os=w.os)(ht:w'.tape=w.tape)(ho:w'.output=w.output)(hs:w.heap.size <=w'.heap.size)(hb:∀k,k<w.heap.size->w'.heap[k]? =w.heap[k]?):Below w.heap.size w w':=⟨hos,ht,ho,hs,hb⟩
theorem j1 {α:Type}{e:α->Value}{h1:∀x,(e x).oneCell'=true}{p:α->Prop}{w:World}{A:Bl}{xs:List α}(hp:∀x∈xs,p x):iK (Ty.enc e h1 p) w A (xs.map e) xs:=by
 refine⟨by simp[Ty.enc],λi hi=>?_⟩
 have:((xs.map e).drop (i*1)).take 1=[e xs[i]]:=by
   rw[Nat.mul_one,<- List.map_drop,List.drop_eq_getElem_cons hi];rfl
 exact⟨this,hp _ (List.getElem_mem hi)⟩
theorem gP {α:Type}{e:α->Value}{h1:∀x,(e x).oneCell'=true}{p:α->Prop}{w:World}{A:Bl} :∀{l:List Value} {xs:List α},iK (Ty.enc e h1 p) w A l xs->l=xs.map e:=by
 intro l xs h
 have hl:l.length=xs.length:=by have:=h.len;simpa[Ty.enc]using this
 apply List.ext_getElem (by simp[hl])
 intro i h1 h2
 have hi:i<xs.length:=by omega
 have h3:((l.drop (i*1)).take 1)=[e xs[i]]:=(h.rep i hi).1
 have h4:((l.drop (i*1)).take 1)[0]? =some (e xs[i]):=by rw[h3];rfl
 rw[Nat.mul_one,List.getElem?_take,if_pos (by decide),List.getElem?_drop,Nat.add_zero,List.getElem?_eq_getElem h1]at h4
 rw[List.getElem_map];exact Option.some.inj h4
theorem JS {α:Type}{e:α->Value}{h1:∀x,(e x).oneCell'=true}{p:α->Prop}{w:World}{A:Bl}{l:List Value}{xs:List α}(h:iK (Ty.enc e h1 p) w A l xs):∀x∈xs,p x:=λx hx=>by
 obtain⟨i,hi,rfl⟩:=List.getElem_of_mem hx
 exact(h.rep i hi).2
theorem uX {P:Program}{s d t:TypeId}(hs:P.underlying s=some .string)(hd:P.underlying d=some (.slice t))(ht:P.underlying t=some (.int .u8))(w:World)(l:List UInt8)(hl:l.length <=9223372036854775807)(A:Bl):
   ∃(w':World) (a:Option Addr) (n c:Nat),(convert s d (.string (mkS l))).run P w=.ok (.slice a n c) w'/\Ow tU8 t w' A a n c l/\Below w.heap.size w w'/\bI w.heap.size a:=by
 have hcap:∃cap,l.length <=cap/\cap <=maxLen/\(choose (.appendCap l.length 0 t)).run P w=.ok cap w.drew:=by
   refine⟨_,grownCap_ge w l.length 0 t,grownCap_le_maxLen w l.length 0 t (by unfold maxLen;omega),?_⟩
   rw[run_choose];rfl
 obtain⟨cap,h1,h2,hch⟩:=hcap
 have hsz:(mkS l).size=l.length:=rfl
 generalize hcs:(mkS l).data.map (λb=>Value.int .u8 (b.toNat:Nat))++Array.replicate (cap-l.length) (Value.int .u8 0)=cs
 have hcss:cs.size=cap:=by rw[<- hcs];simp[mkS];omega
 have hmark:(markStringish ⟨w.heap.size,0,none⟩).run P (w.drew.alloc (.cells cs t))=.ok () ((w.drew.alloc (.cells cs t)).freeze ⟨w.heap.size,cs.size,none⟩ 1):=by
   unfold markStringish
   have:(w.drew.alloc (.cells cs t)).shape? w.heap.size=some (t,cs.size):=by
     unfold World.shape?
     have:=heap_alloc_new w.drew (.cells cs t)
     rw[show w.drew.heap.size=w.heap.size from rfl]at this
     rw[this]
   simp[this]
 refine⟨(w.drew.alloc (.cells cs t)).freeze ⟨w.heap.size,cs.size,none⟩ 1,some ⟨w.heap.size,0,none⟩,l.length,cap,?_,?_,?_,λg hg=>by simp[bK]at hg;omega⟩
 · simp only[convert,Sem.run_bind,bD hs,bD hd,Result.andThen_ok,bD ht,Conv.stringToBytes,hsz,hch]
   show((newRow t _).run P w.drew).andThen _=_
   rw[hcs]
   simp only[newRow,Sem.run_bind,run_newObj,Result.andThen_ok,Sem.run_pure,World.alloc_eq]
   rw[show w.drew.heap.size=w.heap.size from rfl,hmark]
   rfl
 · have hheap:((w.drew.alloc (.cells cs t)).freeze ⟨w.heap.size,cs.size,none⟩ 1).heap[w.heap.size]? =some (.cells cs t (cs.size,cs.size+1)):=by
     have:=heap_alloc_new w.drew (.cells cs t)
     rw[show w.drew.heap.size=w.heap.size from rfl]at this
     simp only[World.freeze,if_neg (show ¬ (1:Nat)=0 by decide),Array.getElem?_modify,if_true,this]
     rfl
   refine⟨rfl,h1,h2,.inr ⟨_,_,_,rfl,hheap,λi hi=>by omega,by rw[hcss];exact(Nat.mul_one cap).symm,?_⟩⟩
   have e:cs.toList.take (l.length*tU8.k)=l.map λc=>Value.int .u8 (c.toNat:Nat):=by
     rw[<- hcs]
     simp[mkS,tU8,Ty.enc]
   rw[e]
   exact j1 λ_ _=>trivial
 · refine ve rfl rfl rfl (by simp[World.freeze]) λk hk=>?_
   simp only[World.freeze,if_neg (show ¬ (1:Nat)=0 by decide),Array.getElem?_modify]
   rw[if_neg (show ¬ w.heap.size=k by omega)]
   exact heap_alloc_old w.drew _ k hk
theorem qN {P:Program}{s d t:TypeId}(hs:P.underlying s=some (.slice t))(hd:P.underlying d=some .string)(ht:P.underlying t=some (.int .u8)){w:World}{A:Bl}{a:Option Addr}{n c:Nat}{xs:List UInt8}(h:Sl tU8 w A a n c xs):
   (convert s d (.slice a n c)).run P w=.ok (.string (mkS xs)) w:=by
 have conv:(convert s d (.slice a n c)).run P w=(Conv.bytesToString (.slice a n c)).run P w:=by
   cases a <;> simp[convert,bD hs,bD hd,bD ht]
 rw[conv]
 obtain⟨hn,_,_,h4⟩:=h
 have loop:∀(msg:String) (l:List UInt8) (acc:List UInt8),(do
     let r <- forIn (l.map λc=>Value.int .u8 (c.toNat:Nat)) (mkS acc) λc r=>do
       let .int .u8 n:=c|stuck msg
       pure (ForInStep.yield (r.push (UInt8.ofNat n.toNat)))
     pure (Value.string r):Sem Value).run P w=.ok (.string (mkS (acc++l))) w:=by
   intro msg l
   induction l with
   | nil=>intro acc;simp
   | cons x l ih=>
     intro acc
     have e1:(mkS acc).push x=mkS (acc++[x]):=by simp[mkS,ByteArray.push]
     have:=ih (acc++[x])
     simp only[List.map_cons,List.forIn_cons,bind_assoc,pure_bind,Int.toNat_natCast,UInt8.ofNat_toNat,e1]
     rw[this];simp
 cases a with
 | none=>
   have:xs=[]:=by
     rcases h4 with h4|⟨b,off,e,_⟩
     · exact h4
     · cases e
   subst this
   simp[Conv.bytesToString];rfl
 | some p=>
   have hcells:(loadCells p n).run P w=.ok (xs.map λc=>Value.int .u8 (c.toNat:Nat)).toArray w:=by
     rcases h4 with h4|⟨b,off,e,hb,hab,l,h5,h6⟩
     · subst h4;subst hn;simp[loadCells,loadCellsFrom]
     · cases e
       have:=Hm (P:=P) h6
       rw[h5.len]at this
       rw[gP h5]at this
       rw[hn]
       simpa[tU8,Ty.enc]using this
   have key:∃msg:String,(Conv.bytesToString (.slice (some p) n c)).run P w=((loadCells p n).run P w).andThen λcs w'=>(do
     let r <- forIn cs (mkS []) λc r=>do
       let .int .u8 n:=c|stuck msg
       pure (ForInStep.yield (r.push (UInt8.ofNat n.toNat)))
     pure (Value.string r):Sem Value).run P w':=by
     constructor
     unfold Conv.bytesToString
     simp only[Sem.run_bind]
     rfl
   obtain⟨msg,key⟩:=key
   rw[key,hcells,Result.andThen_ok]
   have:=loop msg xs []
   rw[List.nil_append]at this
   rw[<- this]
   simp only[List.forIn_toArray]
theorem wrap_i64 {n:Int}(h1: -9223372036854775808 <=n)(h2:n <=9223372036854775807):i64.wrap n=n:=IntWalk.i64_in n ⟨h1,h2⟩
theorem wrap_u8 {n:Int}(h1:0 <=n)(h2:n <=255):IntKind.u8.wrap n=n:=IntWalk.u8_in n ⟨h1,h2⟩
theorem kY (c:UInt8):(0:Int) <=(c.toNat:Nat)/\((c.toNat:Nat):Int) <=255:=by
 have:=c.toNat_lt;omega
theorem ow {s:List UInt8}{i:Int}(h:i.toNat<s.length):aQ s i=((s[i.toNat]).toNat:Nat):=by
 simp[aQ,h]
theorem MP {a b:UInt8}(h:((a.toNat:Nat):Int)=((b.toNat:Nat):Int)):a=b:=UInt8.toNat_inj.1 (by omega)
theorem xD {n:Nat}(h:n <=255):(UInt8.ofNat n).toNat=n:=by rw[UInt8.toNat_ofNat'];omega
theorem ul {w:World}{A:Bl}{n:Int}{c:UInt8}(h:n=((c.toNat:Nat):Int)):tU8.rep w A [.int .u8 n] c:=⟨by rw[h],trivial⟩
theorem eE {w:World}{A:Bl}{n:Int} :cI.rep w A [.int .i64 n] n:=⟨rfl,trivial⟩
theorem vh {w:World}{A:Bl}{b:Bool} :lH.rep w A [.bool b] b:=⟨rfl,trivial⟩
theorem xl {w:World}{A:Bl}{p:List UInt8->Prop}{s:List UInt8}(h:p s):(Qt p).rep w A [.string (mkS s)] s:=⟨rfl,h⟩
theorem Aw {w:World}{A:Bl}{v:Value}{c:UInt8}(h:tU8.rep w A [v] c):v=.int .u8 (c.toNat:Nat):=by have:=h.1;simpa using this
theorem LV {w:World}{A:Bl}{v:Value}{n:Int}(h:cI.rep w A [v] n):v=.int .i64 n:=by have:=h.1;simpa using this
theorem xP {w:World}{A:Bl}{v:Value}{n:Bool}(h:lH.rep w A [v] n):v=.bool n:=by have:=h.1;simpa using this
theorem xz {w:World}{A:Bl}{p:List UInt8->Prop}{v:Value}{s:List UInt8}(h:(Qt p).rep w A [v] s):v=.string (mkS s)/\p s:=⟨by have:=h.1;simpa using this,h.2⟩
theorem bI.app {B:Nat}{w:World}{a a':Option Addr}(hf:bI B a)(hB:B <=w.heap.size)(h:∀g,bK a'=some g->bK a=some g\/w.heap.size <=g):bI B a':=λg hg=>by
 rcases h g hg with h|h
 · exact hf g h
 · exact Nat.le_trans hB h
theorem fG:Flat cI:=λ_ _ _ _ _ _ h=>h
theorem tT:Flat tU8:=λ_ _ _ _ _ _ h=>h
theorem xW:Flat lH:=λ_ _ _ _ _ _ h=>h
theorem j5 (p:List UInt8->Prop):Flat (Qt p):=λ_ _ _ _ _ _ h=>h
theorem Ow.newF {α:Type}{T:Ty α}(hf:Flat T){w w':World}{A:Bl}{t:TypeId}{l:List Value}{xs:List α}{b:Nat}(hb:b=w.heap.size)(hw:w'=w.alloc (.cells l.toArray t))(h:iK T w A l xs)(hm:xs.length <=maxLen):
   Ow T t w' A (some ⟨b,0,none⟩) xs.length xs.length xs:=by
 subst hb hw
 refine⟨rfl,Nat.le_refl _,hm,.inr ⟨_,l.toArray,(0,0),rfl,heap_alloc_new w _,?_,by simpa using h.len,?_⟩⟩
 · intro i hi;simp
 · rw[<- h.len];simp;exact h.flat hf
theorem tU {w:World}{b:Nat}(hb:b=w.heap.size):bI w.heap.size (some ⟨b,0,none⟩):=λg hg=>by simp[bK]at hg;omega
theorem RO {α:Type}{e:α->Value}{h1:∀x,(e x).oneCell'=true}{p:α->Prop}{w:World}{a:Addr}{len cap:Nat}{xs:List α}(hlen:xs.length=len)(hp:∀x∈xs,p x)(hl:len <=cap)(hm:cap <=maxLen)
   (hc:∀i (h:i<xs.length),w.cell? (a.add i)=some (e xs[i])):Sl (Ty.enc e h1 p) w kj (some a) len cap xs:=by
 refine⟨hlen.symm,hl,hm,?_⟩
 by_cases h0:xs.length=0
 · exact .inl (List.eq_nil_of_length_eq_zero h0)
 · obtain⟨b,off,spot⟩:=a
   have hc0:=hc 0 (by omega)
   have hspot:spot=none:=by simpa[Addr.add]using World.cell?_spot hc0
   subst hspot
   rw[fB]at hc0
   obtain⟨cs,t,fr,hh,_⟩:=Go.Sort.cells_of_cell? hc0
   refine .inr ⟨b,off,rfl,(Array.getElem?_eq_some_iff.1 hh).1,trivial,xs.map e,j1 hp,λj hj=>?_⟩
   have hj':j<xs.length:=by simpa using hj
   have:=hc j hj'
   rw[fB]at this
   rw[this];simp[hj']
theorem Gf {α:Type}{e:α->Value}{h1:∀x,(e x).oneCell'=true}{p q:α->Prop}{w:World}{A:Bl}{a:Option Addr}{n c:Nat}{xs:List α}(h:Sl (Ty.enc e h1 p) w A a n c xs)(hq:∀x∈xs,p x->q x):Sl (Ty.enc e h1 q) w A a n c xs:=by
 obtain⟨h1',h2,h3,h4⟩:=h
 refine⟨h1',h2,h3,?_⟩
 rcases h4 with h4|⟨b,off,e',hb,hab,l,hl,hc⟩
 · exact .inl h4
 · exact .inr ⟨b,off,e',hb,hab,l,⟨hl.len,λi hi=>⟨(hl.rep i hi).1,hq _ (List.getElem_mem hi) (hl.rep i hi).2⟩⟩,hc⟩
theorem Ge {w:World}{a:Option Addr}{len cap:Nat}{ss:List ByteArray}
   (h:(a=none/\len=0/\cap=0/\ss=[])\/∃x,a=some x/\len <=cap/\cap <=maxLen/\ss.length=cap/\(∀i,i<ss.length->w.cell? (x.add i)=some (.string (ss.getD i ByteArray.empty)))/\∀s∈ss,s.size <=maxLen):
   Sl (Qt λs=>s.length <=maxLen) w kj a len cap ((ss.take len).map toL):=by
 rcases h with⟨rfl,rfl,rfl,rfl⟩|⟨x,rfl,hl,hm,hz,hcell,hwf⟩
 · exact Sl.nil _ _ _ _ _ (Nat.zero_le _)
 · refine RO (by rw[List.length_map,List.length_take];omega) (λs hs=>?_) hl hm λi hi=>?_
   · obtain⟨b,hb,rfl⟩:=List.mem_map.1 hs
     exact hwf b (List.mem_of_mem_take hb)
   · rw[List.length_map,List.length_take]at hi
     rw[hcell i (by omega)]
     simp only[List.getElem_map,List.getElem_take,PT]
     simp[List.getD,show i<ss.length by omega]
def Nm {α:Type}(P:Program)(T:Ty α)(t:TypeId):Prop:=
 ∀(H:Type) (enc:TypeId×Value->H) (w:World) (fuel:Nat) (cs:List Value) (x:DataW H×List MemPlace),DataW.trod enc P w 0 (λ_=>true) true fuel t cs=some x->∃a,T.rep w kj cs a
theorem mN {P:Program}{k:IntKind}{t:TypeId}(ht:P.underlying t=some (.int k)):Nm P (Rm k λn=>(Lit.int k n).wf=true) t:=λH enc w fuel cs x h=>by
 obtain⟨n,e,_,hw⟩:=DataW.trod_int ht h
 exact⟨n,e,hw⟩
theorem me {P:Program}{t:TypeId}(ht:P.underlying t=some .bool):Nm P lH t:=λH enc w fuel cs x h=>by
 obtain⟨b,e,_⟩:=DataW.trod_bool ht h
 exact⟨b,e,trivial⟩
theorem ri {P:Program}{t:TypeId}(ht:P.underlying t=some .string):Nm P (Qt λs=>s.length <=maxLen) t:=λH enc w fuel cs x h=>by
 obtain⟨s,e,_,hs⟩:=DataW.trod_string ht h
 exact⟨toL s,e,hs⟩
theorem Mh {α:Type}{P:Program}{T:Ty α}{t e:TypeId}{n:Nat}(ht:P.underlying t=some (.array n e))(he:Nm P T e)(hk:P.cellsOf e=T.k)(hc:P.cellsOf t=n*T.k)
   {H:Type} {enc:TypeId×Value->H} {w:World} {fuel:Nat} {cs:List Value} {x:DataW H×List MemPlace} (h:DataW.trod enc P w 0 (λ_=>true) true fuel t cs=some x):∃xs:List α,xs.length=n/\iK T w kj cs xs:=by
 obtain⟨ys,m,_,_,hl,hy,hel⟩:=DataW.trod_array ht h
 have hall:∀i,i<n->∃a,T.rep w kj ((cs.drop (i*T.k)).take T.k) a:=λi hi=>by
   have:=hel i hi
   rw[hk,List.getElem?_eq_getElem (by omega)]at this
   exact he H enc w m _ _ this
 have build:∀j,j <=n->∃xs:List α,xs.length=j/\∀i (h:i<xs.length),T.rep w kj ((cs.drop (i*T.k)).take T.k) xs[i]:=by
   intro j
   induction j with
   | zero=>intro _;exact⟨[],rfl,λi h=>by cases h⟩
   | succ j ih=>
     intro hj
     obtain⟨xs,h1,h2⟩:=ih (by omega)
     obtain⟨a,ha⟩:=hall j hj
     refine⟨xs++[a],by simp[h1],λi hi=>?_⟩
     by_cases c:i<xs.length
     · rw[List.getElem_append_left c];exact h2 i c
     · have:i=xs.length:=by simp at hi;omega
       subst this
       rw[List.getElem_append_right (Nat.le_refl _)]
       simp only[Nat.sub_self,List.getElem_cons_zero]
       rw[h1];exact ha
 obtain⟨xs,h1,h2⟩:=build n (Nat.le_refl _)
 exact⟨xs,h1,by rw[hl,hc,h1],h2⟩
theorem oz {P:Program}{w:World}{r:Reach}{base:Nat}{t:TypeId}{v:Value}{d:TypeDesc}(ht:P.underlying t=some d)(ha:HP d=true)(h:Value.okWide P w r base t v):∃cs:List Value,v=.agg cs.toArray:=by
 unfold Value.okWide at h
 rw[ht]at h
 cases d <;> first|(obtain⟨cs,rfl,_⟩:=h;exact⟨cs.toList,by simp⟩)|(cases ha;done)
theorem lC {H:Type}{enc:TypeId×Value->H}{C:Checked}{os:Os}{f:FuncId}{fn:Func}{s:OpenSpec}{conds:List PathCond}{apart:Bool}{laid:List (String×DataW Unit)}(modest:Bool)(w0:World)(args:Array Value)(hos:w0.os=os)
   (hsh:(w0.forCall (λ_ _=>0) ⟨#[],args,[]⟩).Shaped C.prog)
   (hok:Input.okWideB C.prog (w0.forCall (λ_ _=>0) ⟨#[],args,[]⟩) f ⟨#[],args,[]⟩=true)
   (hrow:s.preRow enc C.prog fn conds apart laid (w0.forCall (λ_ _=>0) ⟨#[],args,[]⟩).memory args):
   ∃(w:World) (tape:Tape) (i:Input),w.os=os/\(w.forCall tape i).Shaped C.prog/\i.vars=[]/\Input.okWide C.prog (w.forCall tape i) .any w.heap.size f i/\
     s.preRow enc C.prog fn conds apart laid (w.forCall tape i).memory i.args/\({ modest:=modest } :Assume).holds C.prog (lone (Frame.enter C.prog f i.args .normal) [] (w.forCall tape i)):=
 ⟨w0,λ_ _=>0,⟨#[],args,[]⟩,hos,hsh,(Input.okWide_of_okWideB (base:=0) hok).1,(Input.okWide_of_okWideB hok).2,hrow,by
   simp only[Assume.holds]
   exact⟨by simp,by simp,λ_=>Modest.zero,by simp,by simp⟩⟩
abbrev gI:Nat:=11
abbrev dF:Nat:=12
abbrev fv:Nat:=14
abbrev oI:Nat:=15
abbrev oH:Nat:=16
abbrev gj:Nat:=20
abbrev vM:Nat:=28
abbrev eG:Nat:=29
abbrev ij:Nat:=30
abbrev dq:Nat:=31
abbrev du:Nat:=33
abbrev ji:Nat:=34
abbrev rV:Nat:=35
abbrev dI:Nat:=40
abbrev gu:Nat:=41
abbrev dV:Nat:=42
abbrev gH:Nat:=45
abbrev iD:Nat:=46
abbrev dW:Nat:=47
abbrev kK:Nat:=48
abbrev vd:Nat:=49
abbrev bi:Nat:=50
abbrev kJ:Nat:=51
abbrev fj:Nat:=52
abbrev ig:Nat:=53
abbrev lR:Nat:=54
abbrev kL:Nat:=55
abbrev jH:Nat:=56
abbrev qq:Nat:=62
abbrev bH:Nat:=63
abbrev ct:Nat:=64
abbrev mI:Nat:=65
abbrev my:Nat:=66
abbrev mJ:Nat:=67
abbrev rR:Nat:=68
abbrev rS:Nat:=69
abbrev lY:Nat:=70
abbrev nz:Nat:=71
abbrev nU:Nat:=72
abbrev rQ:Nat:=73
abbrev gT:Nat:=74
abbrev pV:Nat:=76
abbrev oN:Nat:=77
abbrev mx:Nat:=78
abbrev iB:Nat:=81
abbrev nS:Nat:=85
abbrev jl:Nat:=86
abbrev mY:Nat:=87
abbrev oM:Nat:=88
abbrev mw:Nat:=89
abbrev cd:Nat:=90
abbrev ii:Nat:=94
abbrev iS:Nat:=95
abbrev bR:Nat:=96
abbrev fR:Nat:=97
abbrev rP:Nat:=98
abbrev qV:Nat:=99
abbrev pU:Nat:=100
abbrev bL:Nat:=101
abbrev iM:Nat:=102
abbrev tL:Nat:=103
abbrev tM:Nat:=104
abbrev DK:Nat:=105
abbrev nT:Nat:=114
abbrev ci:Nat:=115
abbrev oO:Nat:=116
abbrev xa:Nat:=117
abbrev Cl:Nat:=118
abbrev jG:Nat:=119
abbrev jk:Nat:=120
abbrev nQ:Nat:=121
abbrev Ck:Nat:=122
abbrev cU:Nat:=123
abbrev tJ:Nat:=124
abbrev tF:Nat:=128
abbrev tG:Nat:=129
abbrev kD:Nat:=130
abbrev fu:Nat:=131
abbrev dt:Nat:=132
abbrev cV:Nat:=134
abbrev oP:Nat:=135
abbrev fz:Nat:=136
abbrev qY:Nat:=137
abbrev mz:Nat:=138
abbrev oQ:Nat:=139
abbrev rW:Nat:=142
abbrev mX:Nat:=143
abbrev kN:Nat:=144
abbrev fW:Nat:=148
abbrev lJ:Nat:=151
abbrev aZ:Nat:=152
abbrev cS:Nat:=153
abbrev oL:Nat:=154
abbrev cR:Nat:=155
abbrev cE:Nat:=156
abbrev fC:Nat:=157
abbrev tK:Nat:=158
abbrev jy:Nat:=159
abbrev Fp:Nat:=171
abbrev vc:Nat:=172
abbrev wZ:Nat:=173
abbrev Cm:Nat:=174
abbrev qo:Nat:=175
abbrev gv:Nat:=176
abbrev dO:Nat:=177
abbrev rU:Nat:=178
abbrev vO:Nat:=181
abbrev rO:Nat:=182
abbrev tI:Nat:=183
abbrev jF:Nat:=184
abbrev gw:Nat:=187
abbrev rX:Nat:=188
abbrev oR:Nat:=189
abbrev bm:Nat:=202
abbrev qX:Nat:=204
abbrev j7:Nat:=205
abbrev iL:Nat:=206
abbrev tH:Nat:=214
abbrev iH:Nat:=216
abbrev jz:Nat:=220
abbrev mZ:Nat:=222
abbrev nf:Nat:=223
abbrev iv:Nat:=238
abbrev cz:Nat:=239
abbrev eY:Nat:=240
abbrev bp:Nat:=241
abbrev qW:Nat:=249
abbrev nP:Nat:=250
abbrev lS:Nat:=251
abbrev dU:Nat:=252
abbrev gq:Nat:=256
abbrev fN:Nat:=257
abbrev iN:Nat:=259
abbrev lW:Nat:=278
abbrev fE:Nat:=279
abbrev fF:Nat:=280
abbrev lX:Nat:=281
abbrev kM:Nat:=282
abbrev Gx:Nat:=0
abbrev lO:Nat:=2
abbrev aw:Nat:=3
abbrev aX:Nat:=4
abbrev aG:Nat:=5
abbrev au:Nat:=9
abbrev wR:Nat:=20
abbrev bC:Nat:=22
abbrev ar:Nat:=24
abbrev aO:Nat:=25
abbrev af:Nat:=27
abbrev fJ:Nat:=28
abbrev ak:Nat:=32
abbrev ai:Nat:=34
abbrev az:Nat:=38
abbrev aP:Nat:=39
abbrev bE:Nat:=57
abbrev aq:Nat:=59
abbrev wP:Nat:=61
abbrev wQ:Nat:=62
abbrev aj:Nat:=64
abbrev bT:Nat:=78
abbrev aL:Nat:=80
abbrev bU:Nat:=93
abbrev gi:Nat:=95
abbrev lN:Nat:=174
abbrev be:Nat:=176
abbrev fA:Nat:=177
abbrev kE:Nat:=178
abbrev aU:Nat:=198
abbrev bt:Nat:=200
abbrev aN:Nat:=202
abbrev lP:Nat:=203
abbrev bY:Nat:=206
abbrev fK:Nat:=208
abbrev eW:Nat:=220
abbrev gQ:Nat:=223
abbrev aS:Nat:=224
abbrev nN:Nat:=271
abbrev aK:Nat:=272
abbrev aF:Nat:=274
abbrev bJ:Nat:=276
abbrev j3:Nat:=289
abbrev E4:Nat:=299
abbrev nM:Nat:=305
theorem kZ:prog.underlying lO=some (.int .i64):=by kernel_rfl
theorem aB:prog.underlying aw=some (.int .i64):=by kernel_rfl
theorem ff:TF prog aw 1 8 (.int .i64 (0:Int)):=TF.of (by kernel_rfl) (by kernel_rfl) false (by kernel_rfl) (.inr rfl)
theorem bv:prog.underlying aX=some (.bool):=by kernel_rfl
theorem qO:TF prog aX 1 1 (.bool false):=TF.of (by kernel_rfl) (by kernel_rfl) false (by kernel_rfl) (.inr rfl)
theorem bP:prog.underlying aG=some (.int .u8):=by kernel_rfl
theorem gh:TF prog aG 1 1 (.int .u8 (0:Int)):=TF.of (by kernel_rfl) (by kernel_rfl) false (by kernel_rfl) (.inr rfl)
theorem aA:prog.underlying au=some (.string):=by kernel_rfl
theorem pJ:TF prog au 1 16 (.string (mkS [])):=TF.of (by kernel_rfl) (by kernel_rfl) false (by kernel_rfl) (.inr rfl)
theorem jD:prog.underlying bC=some (.pointer gi):=by kernel_rfl
theorem aI:prog.underlying ar=some (.slice aw):=by kernel_rfl
theorem iY:TF prog ar 1 24 (.slice none 0 0):=TF.of (by kernel_rfl) (by kernel_rfl) false (by kernel_rfl) (.inr rfl)
theorem bf:prog.underlying aO=some (.slice aX):=by kernel_rfl
theorem z8:TF prog aO 1 24 (.slice none 0 0):=TF.of (by kernel_rfl) (by kernel_rfl) false (by kernel_rfl) (.inr rfl)
theorem KF:TF prog af 4 64 (.agg #[.int .i64 (0:Int),.int .i64 (0:Int),.slice none 0 0,.slice none 0 0]):=TF.of (by kernel_rfl) (by kernel_rfl) true (by kernel_rfl) (.inl rfl)
theorem Ax:prog.underlying fJ=some (.int .i64):=by kernel_rfl
abbrev aM:Array Value:= #[.int .u8 (0:Int),.int .u8 (0:Int),.int .u8 (0:Int),.int .u8 (0:Int),.int .u8 (0:Int),.int .u8 (0:Int),.int .u8 (0:Int),.int .u8 (0:Int),.int .u8 (0:Int),.int .u8 (0:Int),.int .u8 (0:Int),.int .u8 (0:Int),.int .u8 (0:Int),.int .u8 (0:Int),.int .u8 (0:Int),.int .u8 (0:Int)]
theorem IM:TF prog ak 16 16 (.agg #[.int .u8 (0:Int),.int .u8 (0:Int),.int .u8 (0:Int),.int .u8 (0:Int),.int .u8 (0:Int),.int .u8 (0:Int),.int .u8 (0:Int),.int .u8 (0:Int),.int .u8 (0:Int),.int .u8 (0:Int),.int .u8 (0:Int),.int .u8 (0:Int),.int .u8 (0:Int),.int .u8 (0:Int),.int .u8 (0:Int),.int .u8 (0:Int)]):=TF.of (by kernel_rfl) (by kernel_rfl) true (by kernel_rfl) (.inl rfl)
abbrev bA:Array Value:= #[.int .i64 (0:Int),.string (mkS []),.int .u8 (0:Int),.int .u8 (0:Int),.int .u8 (0:Int),.int .u8 (0:Int),.int .u8 (0:Int),.int .u8 (0:Int),.int .u8 (0:Int),.int .u8 (0:Int),.int .u8 (0:Int),.int .u8 (0:Int),.int .u8 (0:Int),.int .u8 (0:Int),.int .u8 (0:Int),.int .u8 (0:Int),.int .u8 (0:Int),.int .u8 (0:Int)]
theorem IP:TF prog ai 18 40 (.agg #[.int .i64 (0:Int),.string (mkS []),.int .u8 (0:Int),.int .u8 (0:Int),.int .u8 (0:Int),.int .u8 (0:Int),.int .u8 (0:Int),.int .u8 (0:Int),.int .u8 (0:Int),.int .u8 (0:Int),.int .u8 (0:Int),.int .u8 (0:Int),.int .u8 (0:Int),.int .u8 (0:Int),.int .u8 (0:Int),.int .u8 (0:Int),.int .u8 (0:Int),.int .u8 (0:Int)]):=TF.of (by kernel_rfl) (by kernel_rfl) true (by kernel_rfl) (.inl rfl)
theorem cb:prog.underlying az=some (.slice au):=by kernel_rfl
theorem HB:TF prog az 1 24 (.slice none 0 0):=TF.of (by kernel_rfl) (by kernel_rfl) false (by kernel_rfl) (.inr rfl)
theorem bZ:prog.underlying aP=some (.slice aG):=by kernel_rfl
theorem Gi:TF prog bE 29 144 (.agg #[.string (mkS []),.string (mkS []),.int .i64 (0:Int),.string (mkS []),.int .u8 (0:Int),.int .u8 (0:Int),.int .u8 (0:Int),.int .u8 (0:Int),.int .u8 (0:Int),.int .u8 (0:Int),.int .u8 (0:Int),.int .u8 (0:Int),.int .u8 (0:Int),.int .u8 (0:Int),.int .u8 (0:Int),.int .u8 (0:Int),.int .u8 (0:Int),.int .u8 (0:Int),.int .u8 (0:Int),.int .u8 (0:Int),.bool false,.string (mkS []),.bool false,.bool false,.int .i64 (0:Int),.int .i64 (0:Int),.int .i64 (0:Int),.int .i64 (0:Int),.int .i64 (0:Int)]):=TF.of (by kernel_rfl) (by kernel_rfl) true (by kernel_rfl) (.inl rfl)
abbrev dD:Array Value:= #[.bool false,.int .i64 (0:Int),.string (mkS []),.int .u8 (0:Int),.int .u8 (0:Int),.int .u8 (0:Int),.int .u8 (0:Int),.int .u8 (0:Int),.int .u8 (0:Int),.int .u8 (0:Int),.int .u8 (0:Int),.int .u8 (0:Int),.int .u8 (0:Int),.int .u8 (0:Int),.int .u8 (0:Int),.int .u8 (0:Int),.int .u8 (0:Int),.int .u8 (0:Int),.int .u8 (0:Int),.string (mkS []),.int .i64 (0:Int)]
theorem Ee:TF prog aq 21 72 (.agg #[.bool false,.int .i64 (0:Int),.string (mkS []),.int .u8 (0:Int),.int .u8 (0:Int),.int .u8 (0:Int),.int .u8 (0:Int),.int .u8 (0:Int),.int .u8 (0:Int),.int .u8 (0:Int),.int .u8 (0:Int),.int .u8 (0:Int),.int .u8 (0:Int),.int .u8 (0:Int),.int .u8 (0:Int),.int .u8 (0:Int),.int .u8 (0:Int),.int .u8 (0:Int),.int .u8 (0:Int),.string (mkS []),.int .i64 (0:Int)]):=TF.of (by kernel_rfl) (by kernel_rfl) true (by kernel_rfl) (.inl rfl)
theorem Hz:TF prog wP 2 2 (.agg #[.bool false,.bool false]):=TF.of (by kernel_rfl) (by kernel_rfl) true (by kernel_rfl) (.inl rfl)
theorem HA:TF prog wQ 3 3 (.agg #[.bool false,.bool false,.bool false]):=TF.of (by kernel_rfl) (by kernel_rfl) true (by kernel_rfl) (.inl rfl)
abbrev aV:Array Value:= #[.int .i64 (0:Int),.int .i64 (0:Int),.slice none 0 0,.slice none 0 0,.int .i64 (0:Int),.int .i64 (0:Int),.slice none 0 0,.slice none 0 0,.bool false,.bool false,.bool false,.bool false,.bool false]
theorem Gj:TF prog aj 13 136 (.agg #[.int .i64 (0:Int),.int .i64 (0:Int),.slice none 0 0,.slice none 0 0,.int .i64 (0:Int),.int .i64 (0:Int),.slice none 0 0,.slice none 0 0,.bool false,.bool false,.bool false,.bool false,.bool false]):=TF.of (by kernel_rfl) (by kernel_rfl) true (by kernel_rfl) (.inl rfl)
theorem Ed:TF prog bT 22 72 (.agg #[.bool false,.int .i64 (0:Int),.string (mkS []),.int .u8 (0:Int),.int .u8 (0:Int),.int .u8 (0:Int),.int .u8 (0:Int),.int .u8 (0:Int),.int .u8 (0:Int),.int .u8 (0:Int),.int .u8 (0:Int),.int .u8 (0:Int),.int .u8 (0:Int),.int .u8 (0:Int),.int .u8 (0:Int),.int .u8 (0:Int),.int .u8 (0:Int),.int .u8 (0:Int),.int .u8 (0:Int),.bool false,.bool false,.string (mkS [])]):=TF.of (by kernel_rfl) (by kernel_rfl) true (by kernel_rfl) (.inl rfl)
theorem uy:TF prog aL 51 216 (.agg #[.string (mkS []),.string (mkS []),.int .i64 (0:Int),.string (mkS []),.int .u8 (0:Int),.int .u8 (0:Int),.int .u8 (0:Int),.int .u8 (0:Int),.int .u8 (0:Int),.int .u8 (0:Int),.int .u8 (0:Int),.int .u8 (0:Int),.int .u8 (0:Int),.int .u8 (0:Int),.int .u8 (0:Int),.int .u8 (0:Int),.int .u8 (0:Int),.int .u8 (0:Int),.int .u8 (0:Int),.int .u8 (0:Int),.bool false,.string (mkS []),.bool false,.bool false,.int .i64 (0:Int),.int .i64 (0:Int),.int .i64 (0:Int),.int .i64 (0:Int),.int .i64 (0:Int),.bool false,.int .i64 (0:Int),.string (mkS []),.int .u8 (0:Int),.int .u8 (0:Int),.int .u8 (0:Int),.int .u8 (0:Int),.int .u8 (0:Int),.int .u8 (0:Int),.int .u8 (0:Int),.int .u8 (0:Int),.int .u8 (0:Int),.int .u8 (0:Int),.int .u8 (0:Int),.int .u8 (0:Int),.int .u8 (0:Int),.int .u8 (0:Int),.int .u8 (0:Int),.int .u8 (0:Int),.bool false,.bool false,.string (mkS [])]):=TF.of (by kernel_rfl) (by kernel_rfl) true (by kernel_rfl) (.inl rfl)
theorem dx:prog.underlying bU=some (.map au aw):=by kernel_rfl
theorem Dn:TF prog be 2 16 (.agg #[.int .i64 (0:Int),.int .i64 (0:Int)]):=TF.of (by kernel_rfl) (by kernel_rfl) true (by kernel_rfl) (.inl rfl)
theorem ke:prog.underlying fA=some (.map be aw):=by kernel_rfl
theorem Eg:prog.underlying kE=some (.slice be):=by kernel_rfl
theorem bN:prog.underlying aU=some (.slice aN):=by kernel_rfl
theorem wg:TF prog aU 1 24 (.slice none 0 0):=TF.of (by kernel_rfl) (by kernel_rfl) false (by kernel_rfl) (.inr rfl)
theorem ou:TF prog aN 2 16 (.agg #[.int .i64 (0:Int),.int .i64 (0:Int)]):=TF.of (by kernel_rfl) (by kernel_rfl) true (by kernel_rfl) (.inl rfl)
theorem yG:prog.underlying lP=some (.slice bY):=by kernel_rfl
theorem pK:prog.underlying bY=some (.slice fK):=by kernel_rfl
theorem uz:TF prog bY 1 24 (.slice none 0 0):=TF.of (by kernel_rfl) (by kernel_rfl) false (by kernel_rfl) (.inr rfl)
theorem Au:TF prog fK 2 16 (.agg #[.int .i64 (0:Int),.int .i64 (0:Int)]):=TF.of (by kernel_rfl) (by kernel_rfl) true (by kernel_rfl) (.inl rfl)
theorem uA:prog.underlying eW=some (.slice gQ):=by kernel_rfl
theorem Dq:prog.underlying gQ=some (.int .u16):=by kernel_rfl
theorem HC:TF prog gQ 1 2 (.int .u16 (0:Int)):=TF.of (by kernel_rfl) (by kernel_rfl) false (by kernel_rfl) (.inr rfl)
theorem Ef:TF prog aS 8 16 (.agg #[.int .u16 (0:Int),.int .u16 (0:Int),.int .u16 (0:Int),.int .u16 (0:Int),.int .u16 (0:Int),.int .u16 (0:Int),.int .u16 (0:Int),.int .u16 (0:Int)]):=TF.of (by kernel_rfl) (by kernel_rfl) true (by kernel_rfl) (.inl rfl)
theorem qP:prog.underlying nN=some (.map aw aw):=by kernel_rfl
theorem bF:prog.underlying aK=some (.pointer bJ):=by kernel_rfl
theorem bu:prog.underlying aF=some (.slice ar):=by kernel_rfl
theorem qa:TF prog aF 1 24 (.slice none 0 0):=TF.of (by kernel_rfl) (by kernel_rfl) false (by kernel_rfl) (.inr rfl)
theorem mv:prog.underlying j3=some (.map aw ar):=by kernel_rfl
abbrev E6:Array Value:= #[.int .u8 (0:Int),.int .u8 (0:Int),.int .u8 (0:Int),.int .u8 (0:Int),.int .u8 (0:Int),.int .u8 (0:Int),.int .u8 (0:Int),.int .u8 (0:Int),.int .u8 (0:Int),.int .u8 (0:Int),.int .u8 (0:Int),.int .u8 (0:Int),.int .u8 (0:Int),.int .u8 (0:Int),.int .u8 (0:Int),.int .u8 (0:Int),.int .u8 (0:Int),.int .u8 (0:Int),.int .u8 (0:Int),.int .u8 (0:Int),.int .u8 (0:Int),.int .u8 (0:Int),.int .u8 (0:Int),.int .u8 (0:Int)]
abbrev E7:Array Value:= #[.int .u8 (0:Int),.int .u8 (0:Int),.int .u8 (0:Int),.int .u8 (0:Int),.int .u8 (0:Int),.int .u8 (0:Int),.int .u8 (0:Int),.int .u8 (0:Int),.int .u8 (0:Int),.int .u8 (0:Int),.int .u8 (0:Int),.int .u8 (0:Int),.int .u8 (0:Int),.int .u8 (0:Int),.int .u8 (0:Int),.int .u8 (0:Int),.int .u8 (0:Int),.int .u8 (0:Int),.int .u8 (0:Int),.int .u8 (0:Int),.int .u8 (0:Int),.int .u8 (0:Int),.int .u8 (0:Int),.int .u8 (0:Int),.int .u8 (0:Int),.int .u8 (0:Int),.int .u8 (0:Int),.int .u8 (0:Int),.int .u8 (0:Int),.int .u8 (0:Int),.int .u8 (0:Int),.int .u8 (0:Int),.int .u8 (0:Int),.int .u8 (0:Int),.int .u8 (0:Int),.int .u8 (0:Int),.int .u8 (0:Int),.int .u8 (0:Int),.int .u8 (0:Int),.int .u8 (0:Int),.int .u8 (0:Int),.int .u8 (0:Int),.int .u8 (0:Int),.int .u8 (0:Int),.int .u8 (0:Int),.int .u8 (0:Int),.int .u8 (0:Int),.int .u8 (0:Int),.int .u8 (0:Int),.int .u8 (0:Int),.int .u8 (0:Int),.int .u8 (0:Int),.int .u8 (0:Int),.int .u8 (0:Int),.int .u8 (0:Int),.int .u8 (0:Int),.int .u8 (0:Int),.int .u8 (0:Int),.int .u8 (0:Int),.int .u8 (0:Int),.int .u8 (0:Int),.int .u8 (0:Int),.int .u8 (0:Int),.int .u8 (0:Int),.int .u8 (0:Int)]
abbrev Ld (t:TypeId)(p:Option Addr)(w:World)(v:Value):Prop:=(Instr.loadAt t (.pointer p)).run prog w=.ok v w
abbrev Sv (t:TypeId)(p:Option Addr)(v:Value)(w x:World):Prop:=(Instr.storeAt t (.pointer p) v).run prog w=.ok () x
abbrev hV (a b c d:List UInt8)(e:Bool)(f:Int)(g:Bool)(h:Int)(i j:Bool)(k:Int):Value:=.agg #[.string (mkS a),.string (mkS b),.string (mkS c),.string (mkS d),.bool e,.int .i64 f,.bool g,.int .i64 h,.bool i,.bool j,.int .i64 k]
abbrev lU:=List UInt8
abbrev VP:=Value->World->Prop
abbrev vS (s:lU):Value:=.string (mkS s)
abbrev vI (n:Int):Value:=.int .i64 n
abbrev vA (k i:Nat):Option Addr:=some ⟨k,i,none⟩
abbrev Rv (t:TypeId)(p:Option Addr)(w:World)(v:Value):Prop:=(aR t (.pointer p)).run prog w=.ok v w
abbrev Cf (f:FuncId)(a:Array Value)(w:World)(R:Ending->World->Prop):Prop:=Calls prog f a w R
abbrev uS (f:FuncId)(a:Array Value)(w:World)(R:lU->World->Prop):Prop:=Calls prog f a w λe x=>∃s,e=.returned (.string (mkS s))/\R s x
abbrev uB (f:FuncId)(a:Array Value)(w:World)(R:Bool->World->Prop):Prop:=Calls prog f a w λe x=>∃s,e=.returned (.bool s)/\R s x
abbrev uI (f:FuncId)(a:Array Value)(w:World)(R:Int->World->Prop):Prop:=Calls prog f a w λe x=>∃s,e=.returned (.int .i64 s)/\R s x
abbrev uP (f:FuncId)(a:Array Value)(w:World)(R:Option Addr->World->Prop):Prop:=Calls prog f a w λe x=>∃s,e=.returned (.pointer s)/\R s x
abbrev uV (f:FuncId)(a:Array Value)(w:World)(R:Value->World->Prop):Prop:=Calls prog f a w λe x=>∃s,e=.returned s/\R s x
abbrev uL (f:FuncId)(a:Array Value)(w:World)(R:Option Addr->Nat->Nat->World->Prop):Prop:=Calls prog f a w λe x=>∃s n c,e=.returned (.slice s n c)/\R s n c x
abbrev uU (f:FuncId)(a:Array Value)(w:World)(R:World->Prop):Prop:=Calls prog f a w λe x=>e=.returned (.tuple #[])/\R x
abbrev rT (a:Array Value):Ending:=.returned (.tuple a)
abbrev bd (i n:Int):Prop:=0 <=i/\i <=n
abbrev bx (i n:Int):Prop:=0 <=i/\i<n
abbrev bW (w x:World):Prop:=Below w.heap.size w x
abbrev nA (w:World)(o:Obj)(R:Nat->World->Prop):Prop:=∀k x,k=w.heap.size->x=w.alloc o->R k x
theorem ru {f:FuncId}{fn:Func}{a:List Value}{w:World}{K:VP}{V:Prop}(hf:prog.funcs[f]? =some fn)(n:Ann)(h:V)(hm:prog.follows .mixedOrders=true:=by kernel_rfl)(hb:fn.body=some (ay fn):=by kernel_rfl)(hn:decide (a.length <=fn.ntmps)=true:=by kernel_rfl)(he:W prog fn.ntmps n 0 (ay fn) (WB prog fn K) (EO 0 a) w=V:=by kernel_rfl):Calls prog f a.toArray w (Ret K):=av hm hf hb n a (of_decide_eq_true hn) V he h
theorem DZ (a:lU){w K}(h:nA w (.cells bA ai) λb c=>Cf oO #[vS a,vS [91]] c λd e=>∃f g,d=rT #[vS f,.bool g]/\ae g (Cf xa #[vS f,vS [93]] e λi j=>∃k l,i=rT #[vS k,.bool l]/\Cf Cl #[vS k] j λm n=>∃o p,m=rT #[o,.bool p]/\nA n (.cells aM ak) λq r=>∃s,Sv ak (vA q 0) o r s/\∃t,Ld ak (vA q 0) s t/\ae p (Cf jG #[vI 3,t,.bool l] s λu v=>∃x y,u=rT #[x,vI y]/\∃z,Sv ai (vA b 0) x v z/\∃A,Rv ai (vA b 0) z A/\K (.tuple #[A,vI y]) z) (Cf jG #[vI 3,t,.bool false] s λu v=>∃x y,u=rT #[x,vI y]/\∃z,Sv ai (vA b 0) x v z/\∃A,Rv ai (vA b 0) z A/\K (.tuple #[A,vI y]) z)) (uS nQ #[vS a] e λi j=>uL jk #[vS i,.int .u8 46] j λk l m n=>(bx (i64.wrap (((l:Nat):Int)-(1:Int))) ((l:Nat):Int)/\Option.isSome k=true)/\∃o,Ld au (ao k (i64.wrap (((l:Nat):Int)-(1:Int))) 1) n (vS o)/\uB jH #[vS o] n λp q=>ae p (Cf Ck #[vS a] q λr s=>∃t u,r=rT #[t,.bool u]/\nA s (.cells aM ak) λv x=>∃y,Sv ak (vA v 0) t x y/\∃z,Ld ak (vA v 0) y z/\Cf jG #[vI 2,z,.bool u] y λA B=>∃C D,A=rT #[C,vI D]/\∃E,Sv ai (vA b 0) C B E/\∃F,Rv ai (vA b 0) E F/\K (.tuple #[F,vI D]) E) (∃r:FP [],(∃s:FP [.one .bool],(ae (decide (((List.length a:Nat):Int)>(253:Int))) (s true q) (uB bH #[.slice k l m,.func (.func cU) #[] #[]] q λt u=>s t u))/\∀t,aC 6 (∀u,s t u->ae t (∃v,Sv ai (vA b 0) (.agg bA) u v/\∃x,Rv ai (vA b 0) v x/\K (.tuple #[x,vI 31]) v) (r u)))/\aC 9 (∀s,r s->uS my #[.slice k l m,vS [46]] s λt u=>∃v,Sv ai (vA b 0) (.agg #[vI 1,vS t,.int .u8 0,.int .u8 0,.int .u8 0,.int .u8 0,.int .u8 0,.int .u8 0,.int .u8 0,.int .u8 0,.int .u8 0,.int .u8 0,.int .u8 0,.int .u8 0,.int .u8 0,.int .u8 0,.int .u8 0,.int .u8 0]) u v/\∃x,Rv ai (vA b 0) v x/\K (.tuple #[x,vI 0]) v)))):Cf mI #[vS a] w (Ret K):=ru func65 [(28,[]),(29,[(63,.one .bool)])] h
theorem D0 (a:Value){w K}(h:nA w (.cells (Value.cells a) ai) λb c=>∃d,Ld ai (vA b 0) c d/\uS rS #[d] c λe f=>Cf mI #[vS e] f λg i=>∃j k,g=rT #[j,vI k]/\nA i (.cells bA ai) λl m=>∃n,Sv ai (vA l 0) j m n/\ae (k==(0:Int)) (∃o,Ld ai (vA l 0) n o/\∃p,Ld ai (vA b 0) n p/\∃q,(do eqGuard .eql ai (.tmp 14) (.tmp 15) o p;binOp .eql ai o p:Sem Value).run prog n=.ok (.bool q) n/\K (.bool q) n) (K (.bool false) n)):Cf mJ #[a] w (Ret K):=ru func67 [] h
theorem CX (a:Value){w K}(h:nA w (.cells (Value.cells a) ai) λb c=>∃d:FP [],(true/\∃e,Ld aw (vA b 0) c (vI e)/\ae (e !=(1:Int)) (K (.slice none 0 0) c) (∃f,Ld ai (vA b 0) c f/\uB mJ #[f] c λg i=>ae (!g) (K (.slice none 0 0) i) (d i)))/\aC 9 (∀e,d e->true/\∃f,Ld au (vA b 1) e (vS f)/\uL jk #[vS f,.int .u8 46] e λg i j k=>K (.slice g i j) k)):Cf rR #[a] w (Ret K):=ru func68 [(2,[])] h
theorem F4 (a:Value){w K}(h:nA w (.cells (Value.cells a) ai) λb c=>true/\∃d,Ld aw (vA b 0) c (vI d)/\ae (d==(1:Int)) (true/\∃e,Ld au (vA b 1) c (vS e)/\K (vS e) c) (ae (d==(2:Int)) (true/\∃e,Ld ak (vA b 2) c e/\uS tF #[e] c λf g=>K (vS f) g) (ae (d==(3:Int)) (true/\∃e,Ld ak (vA b 2) c e/\uS tG #[e] c λf g=>(((List.length [91]+List.length f:Nat):Int) <=i64.max)/\∀i,i=([91]++f)->(((List.length i+List.length [93]:Nat):Int) <=i64.max)/\∀j,j=(i++[93])->K (vS j) g) (K (vS []) c)))):Cf rS #[a] w (Ret K):=ru func69 [] h
theorem IF (a:lU){w K}(h:nA w (.cells aM ak) λb c=>Cf Fp #[vS a,vS [58,58]] c λd e=>∃f g i,d=rT #[vS f,vS g,.bool i]/\Cf vc #[vS f] e λj k=>∃l m n o,j=rT #[.slice l m n,.bool o]/\Cf vc #[vS g] k λp q=>∃r s t u,p=rT #[.slice r s t,.bool u]/\∃v:FP [],(∃x:FP [.one .bool],(ae (!o) (x true q) (ae (!u) (x true q) (ae i (ae (decide ((i64.wrap (((m:Nat):Int)+((s:Nat):Int))) >=(8:Int))) (x true q) (ae (!i) (x ((i64.wrap (((m:Nat):Int)+((s:Nat):Int))) !=(8:Int)) q) (x false q))) (ae (!i) (x ((i64.wrap (((m:Nat):Int)+((s:Nat):Int))) !=(8:Int)) q) (x false q)))))/\∀y,aC 20 (∀z,x y z->ae y (∃A,Sv ak (vA b 0) (.agg aM) z A/\∃B,Rv ak (vA b 0) A B/\K (.tuple #[B,.bool false]) A) (v z)))/\aC 23 (∀x,v x->nA x (.cells #[.int .u16 0,.int .u16 0,.int .u16 0,.int .u16 0,.int .u16 0,.int .u16 0,.int .u16 0,.int .u16 0] aS) λy z=>(True)/\∃A B,(Builtin.copy_ #[eW,eW] aw #[.slice (vA y 0) 8 8,.slice l m n]).run prog z=.ok (vI B) A/\bd (i64.wrap ((8:Int)-((s:Nat):Int))) ((8:Nat):Int)/\∃C D,(Builtin.copy_ #[eW,eW] aw #[.slice (some (if 8=(Int.toNat (i64.wrap ((8:Int)-((s:Nat):Int))))then⟨y,0,none⟩ else Addr.add ⟨y,0,none⟩ ((Int.toNat (i64.wrap ((8:Int)-((s:Nat):Int))))*1))) (8-(Int.toNat (i64.wrap ((8:Int)-((s:Nat):Int))))) (8-(Int.toNat (i64.wrap ((8:Int)-((s:Nat):Int))))),.slice r s t]).run prog A=.ok (vI D) C/\∃E F G H I J L M,Ld aS (vA y 0) C (.agg #[.int .u16 E,.int .u16 F,.int .u16 G,.int .u16 H,.int .u16 I,.int .u16 J,.int .u16 L,.int .u16 M])/\uV wZ #[.agg #[.int .u16 E,.int .u16 F,.int .u16 G,.int .u16 H,.int .u16 I,.int .u16 J,.int .u16 L,.int .u16 M]] C λN O=>∃P,Sv ak (vA b 0) N O P/\∃Q,Rv ak (vA b 0) P Q/\K (.tuple #[Q,.bool true]) P)):Cf Cl #[vS a] w (Ret K):=ru func118 [(10,[]),(11,[(54,.one .bool)])] h
theorem AX (a:Int)(b:Value)(c:Bool){w K}(h:nA w (.cells (Value.cells b) ak) λd e=>nA e (.cells bA ai) λf g=>ae (!c) (∃i,Sv ai (vA f 0) (.agg bA) g i/\∃j,Rv ai (vA f 0) i j/\K (.tuple #[j,vI 31]) i) (∃i,Ld ak (vA d 0) g i/\∃j,(Instr.build ai #[(0,vI a),(2,i)]).run prog g=.ok j g/\∃k,Sv ai (vA f 0) j g k/\∃l,Rv ai (vA f 0) k l/\K (.tuple #[l,vI 0]) k)):Cf jG #[vI a,b,.bool c] w (Ret K):=ru func119 [] h
theorem IE (a:lU){w K}(h:nA w (.cells aM ak) λb c=>uL jk #[vS a,.int .u8 46] c λd e f g=>ae (((e:Nat):Int) !=(4:Int)) (∃i,Sv ak (vA b 0) (.agg aM) g i/\∃j,Rv ak (vA b 0) i j/\K (.tuple #[j,.bool false]) i) (nA g (.cells aM ak) λi j=>∃k:Nat->FP [.one (.int .i64)],(∃l,k l (0:Int) j)/\∀l m,aC 27 (∀n,k l m n->ae (decide (m<((e:Nat):Int))) ((bx m ((e:Nat):Int)/\Option.isSome d=true)/\∃o,Ld au (ao d m 1) n (vS o)/\Cf qo #[vS o] n λp q=>∃r s,p=rT #[vI r,.bool s]/\∃t:FP [],(∃u:FP [.one .bool],(ae (!s) (u true q) (u (decide (r>(255:Int))) q))/\∀v,aC 5 (∀x,u v x->ae v (∃y,Sv ak (vA b 0) (.agg aM) x y/\∃z,Rv ak (vA b 0) y z/\K (.tuple #[z,.bool false]) y) (t x)))/\aC 8 (∀u,t u->(bx (i64.wrap ((12:Int)+m)) ((16:Nat):Int)/\true)/\∃v,Sv aG (ao (vA i 0) (i64.wrap ((12:Int)+m)) 1) (.int .u8 (IntKind.u8.wrap r)) u v/\∃x:Nat,x<l/\k x (i64.wrap (m+(1:Int))) v)) (∃o,Ld ak (vA i 0) n o/\∃p,Sv ak (vA b 0) o n p/\∃q,Rv ak (vA b 0) p q/\K (.tuple #[q,.bool true]) p)))):Cf Ck #[vS a] w (Ret K):=ru func122 [(18,[(18,.one (.int .i64))]),(31,[]),(32,[(33,.one .bool)])] h
theorem zK (a:lU){w K}(h:uB tJ #[vS a] w λb c=>K (.bool (!b)) c):Cf cU #[vS a] w (Ret K):=ru func123 [] h
theorem D6 (a:lU){w K}(h:ae (!(a==[])) (ae (decide (((List.length a:Nat):Int) <=(63:Int))) (∃b c d e,(convert au aP (vS a)).run prog w=.ok (.slice c d e) b/\uB gv #[.slice c d e,.func (.func dO) #[] #[]] b λf g=>K (.bool (!f)) g) (K (.bool false) w)) (K (.bool false) w)):Cf tJ #[vS a] w (Ret K):=ru func124 [] h
theorem DR (a:Value){w K}(h:nA w (.cells (Value.cells a) ak) λb c=>bd (12:Int) ((16:Nat):Int)/\∃d:Nat->FP [.one .slice,.one (.int .i64)],(∃e,d e none 0 0 (0:Int) c)/\∀e f g i j,aC 11 (∀k,d e f g i j k->ae (decide (j<(((16-(Int.toNat 12)):Nat):Int))) ((bx j (((16-(Int.toNat 12)):Nat):Int)/\true)/\∃l,Ld aG (ao (some (if 16=(Int.toNat 12)then⟨b,0,none⟩ else Addr.add ⟨b,0,none⟩ ((Int.toNat 12)*1))) j 1) k (.int .u8 l)/\uS vO #[vI (i64.wrap l)] k λm n=>nA n (.cells #[vS m] au) λo p=>∃q r s t,(Builtin.append_ #[az,az] az #[.slice f g i,.slice (vA o 0) 1 1]).run prog p=.ok (.slice r s t) q/\∃u:Nat,u<e/\d u r s t (i64.wrap (j+(1:Int))) q) (uS my #[.slice f g i,vS [46]] k λl m=>K (vS l) m))):Cf tF #[a] w (Ret K):=ru func128 [(8,[(3,.one .slice),(8,.one (.int .i64))])] h
theorem DT (a:Value){w K}(h:nA w (.cells (Value.cells a) ak) λb c=>∃d,Ld ak (vA b 0) c d/\Cf rO #[d] c λe f=>∃g i j k l m n o,e=.returned (.agg #[.int .u16 g,.int .u16 i,.int .u16 j,.int .u16 k,.int .u16 l,.int .u16 m,.int .u16 n,.int .u16 o])/\nA f (.cells #[.int .u16 0,.int .u16 0,.int .u16 0,.int .u16 0,.int .u16 0,.int .u16 0,.int .u16 0,.int .u16 0] aS) λp q=>∃r,Sv aS (vA p 0) (.agg #[.int .u16 g,.int .u16 i,.int .u16 j,.int .u16 k,.int .u16 l,.int .u16 m,.int .u16 n,.int .u16 o]) q r/\∃s t u v x y z A,Ld aS (vA p 0) r (.agg #[.int .u16 s,.int .u16 t,.int .u16 u,.int .u16 v,.int .u16 x,.int .u16 y,.int .u16 z,.int .u16 A])/\Cf tI #[.agg #[.int .u16 s,.int .u16 t,.int .u16 u,.int .u16 v,.int .u16 x,.int .u16 y,.int .u16 z,.int .u16 A]] r λB C=>∃D E,B=rT #[vI D,vI E]/\ae (decide (E<(2:Int))) ((True)/\uS jF #[.slice (vA p 0) 8 8] C λF G=>K (vS F) G) (bd D ((8:Nat):Int)/\∃F,(∀G,bW C G->Cf jF #[.slice (vA p 0) (Int.toNat D) 8] G λH I=>H=.returned (vS F)/\Below C.heap.size G I)/\(((List.length F+List.length [58,58]:Nat):Int) <=i64.max)/\∀G,G=(F++[58,58])->bd (i64.wrap (D+E)) ((8:Nat):Int)/\∃H,(∀I,bW C I->Cf jF #[.slice (some (if 8=(Int.toNat (i64.wrap (D+E)))then⟨p,0,none⟩ else Addr.add ⟨p,0,none⟩ ((Int.toNat (i64.wrap (D+E)))*1))) (8-(Int.toNat (i64.wrap (D+E)))) (8-(Int.toNat (i64.wrap (D+E))))] I λJ L=>J=.returned (vS H)/\Below C.heap.size I L)/\(((List.length G+List.length H:Nat):Int) <=i64.max)/\∀I,I=(G++H)->∀J,bW C J->K (vS I) J)):Cf tG #[a] w (Ret K):=ru func129 [] h
theorem Hl (a:lU){w K}(h:ae (a==[]) (K (.tuple #[.slice none 0 0,.bool true]) w) (uL jk #[vS a,.int .u8 58] w λb c d e=>∃f:Nat->FP [.one .slice,.one (.int .i64)],(∃g,f g none 0 0 (0:Int) e)/\∀g i j k l,aC 20 (∀m,f g i j k l m->ae (decide (l<((c:Nat):Int))) ((bx l ((c:Nat):Int)/\Option.isSome b=true)/\∃n,Ld au (ao b l 1) m (vS n)/\Cf tH #[vS n] m λo p=>∃q r,o=rT #[.int .u16 q,.bool r]/\ae (!r) (K (.tuple #[.slice none 0 0,.bool false]) p) (nA p (.cells #[.int .u16 q] gQ) λs t=>∃u v x y,(Builtin.append_ #[eW,eW] eW #[.slice i j k,.slice (vA s 0) 1 1]).run prog t=.ok (.slice v x y) u/\∃z:Nat,z<g/\f z v x y (i64.wrap (l+(1:Int))) u)) (K (.tuple #[.slice i j k,.bool true]) m)))):Cf vc #[vS a] w (Ret K):=ru func172 [(16,[(4,.one .slice),(14,.one (.int .i64))])] h
theorem F1 (a b c d e f g i:Int){w K}(h:nA w (.cells #[.int .u16 a,.int .u16 b,.int .u16 c,.int .u16 d,.int .u16 e,.int .u16 f,.int .u16 g,.int .u16 i] aS) λj k=>nA k (.cells aM ak) λl m=>nA m (.cells aM ak) λn o=>∃p:Nat->FP [.one (.int .i64)],(∃q,p q (0:Int) o)/\∀q r,aC 20 (∀s,p q r s->ae (decide (r<(8:Int))) ((bx r ((8:Nat):Int)/\true)/\(bx r ((8:Nat):Int)/\true)/\(∃t,Ld gQ (ao (vA j 0) r 1) (World.drew s) (.int .u16 t)/\(0 <=(8:Int))/\(bx (i64.wrap ((2:Int)*r)) ((16:Nat):Int)/\true)/\(∃u,Ld gQ (ao (vA j 0) r 1) (World.drew s) (.int .u16 u)/\∃v,Sv aG (ao (vA n 0) (i64.wrap ((2:Int)*r)) 1) (.int .u8 (IntKind.u8.wrap (Int.fdiv t (2 ^ (min (Int.toNat 8) (IntKind.bits .u16)))))) (World.drew s) v/\(bx (i64.wrap ((i64.wrap ((2:Int)*r))+(1:Int))) ((16:Nat):Int)/\true)/\∃x,Sv aG (ao (vA n 0) (i64.wrap ((i64.wrap ((2:Int)*r))+(1:Int))) 1) (.int .u8 (IntKind.u8.wrap u)) v x/\∃y:Nat,y<q/\p y (i64.wrap (r+(1:Int))) x)/\∃u,Sv aG (ao (vA n 0) (i64.wrap ((2:Int)*r)) 1) (.int .u8 (IntKind.u8.wrap (Int.fdiv t (2 ^ (min (Int.toNat 8) (IntKind.bits .u16)))))) (World.drew s) u/\∃v,Ld gQ (ao (vA j 0) r 1) u (.int .u16 v)/\(bx (i64.wrap ((i64.wrap ((2:Int)*r))+(1:Int))) ((16:Nat):Int)/\true)/\∃x,Sv aG (ao (vA n 0) (i64.wrap ((i64.wrap ((2:Int)*r))+(1:Int))) 1) (.int .u8 (IntKind.u8.wrap v)) u x/\∃y:Nat,y<q/\p y (i64.wrap (r+(1:Int))) x)/\∃t,Ld gQ (ao (vA j 0) r 1) (World.drew s) (.int .u16 t)/\∃u,Ld gQ (ao (vA j 0) r 1) (World.drew s) (.int .u16 u)/\(0 <=(8:Int))/\(bx (i64.wrap ((2:Int)*r)) ((16:Nat):Int)/\true)/\∃v,Sv aG (ao (vA n 0) (i64.wrap ((2:Int)*r)) 1) (.int .u8 (IntKind.u8.wrap (Int.fdiv u (2 ^ (min (Int.toNat 8) (IntKind.bits .u16)))))) (World.drew s) v/\(bx (i64.wrap ((i64.wrap ((2:Int)*r))+(1:Int))) ((16:Nat):Int)/\true)/\∃x,Sv aG (ao (vA n 0) (i64.wrap ((i64.wrap ((2:Int)*r))+(1:Int))) 1) (.int .u8 (IntKind.u8.wrap t)) v x/\∃y:Nat,y<q/\p y (i64.wrap (r+(1:Int))) x) (∃t,Ld ak (vA n 0) s t/\∃u,Sv ak (vA l 0) t s u/\∃v,Rv ak (vA l 0) u v/\K v u))):Cf wZ #[.agg #[.int .u16 a,.int .u16 b,.int .u16 c,.int .u16 d,.int .u16 e,.int .u16 f,.int .u16 g,.int .u16 i]] w (Ret K):=ru func173 [(8,[(5,.one (.int .i64))])] h
theorem zL (a:Int){w K}(h:uB rU #[.int .u8 a] w λb c=>K (.bool (!b)) c):Cf dO #[.int .u8 a] w (Ret K):=ru func177 [] h
theorem CY (a:Int){w K}(h:ae (decide (a >=(97:Int))) (ae (decide (a <=(122:Int))) (K (.bool true) w) (ae (decide (a >=(48:Int))) (ae (decide (a <=(57:Int))) (K (.bool true) w) (ae (a==(45:Int)) (K (.bool true) w) (K (.bool (a==(95:Int))) w))) (ae (a==(45:Int)) (K (.bool true) w) (K (.bool (a==(95:Int))) w)))) (ae (decide (a >=(48:Int))) (ae (decide (a <=(57:Int))) (K (.bool true) w) (ae (a==(45:Int)) (K (.bool true) w) (K (.bool (a==(95:Int))) w))) (ae (a==(45:Int)) (K (.bool true) w) (K (.bool (a==(95:Int))) w)))):Cf rU #[.int .u8 a] w (Ret K):=ru func178 [] h
theorem CU (a:Value){w K}(h:nA w (.cells (Value.cells a) ak) λb c=>nA c (.cells #[.int .u16 0,.int .u16 0,.int .u16 0,.int .u16 0,.int .u16 0,.int .u16 0,.int .u16 0,.int .u16 0] aS) λd e=>nA e (.cells #[.int .u16 0,.int .u16 0,.int .u16 0,.int .u16 0,.int .u16 0,.int .u16 0,.int .u16 0,.int .u16 0] aS) λf g=>∃i:Nat->FP [.one (.int .i64)],(∃j,i j (0:Int) g)/\∀j k,aC 19 (∀l,i j k l->ae (decide (k<(8:Int))) ((bx (i64.wrap ((2:Int)*k)) ((16:Nat):Int)/\true)/\∃m,(∀n,bW l n->Ld aG (ao (vA b 0) (i64.wrap ((2:Int)*k)) 1) n (.int .u8 m))/\(0 <=(8:Int))/\(bx (i64.wrap ((i64.wrap ((2:Int)*k))+(1:Int))) ((16:Nat):Int)/\true)/\∃n,(∀o,bW l o->Ld aG (ao (vA b 0) (i64.wrap ((i64.wrap ((2:Int)*k))+(1:Int))) 1) o (.int .u8 n))/\(bx k ((8:Nat):Int)/\true)/\∀o,bW l o->∃p,Sv gQ (ao (vA f 0) k 1) (.int .u16 (IntKind.u16.wrap (((BitVec.ofInt (IntKind.bits .u16) (IntKind.u16.wrap ((IntKind.u16.wrap m)*2 ^ (min (Int.toNat 8) (IntKind.bits .u16))))) ||| (BitVec.ofInt (IntKind.bits .u16) (IntKind.u16.wrap n))).toNat:Nat))) o p/\∃q:Nat,q<j/\i q (i64.wrap (k+(1:Int))) p) (∃m n o p q r s t,Ld aS (vA f 0) l (.agg #[.int .u16 m,.int .u16 n,.int .u16 o,.int .u16 p,.int .u16 q,.int .u16 r,.int .u16 s,.int .u16 t])/\∃u,Sv aS (vA d 0) (.agg #[.int .u16 m,.int .u16 n,.int .u16 o,.int .u16 p,.int .u16 q,.int .u16 r,.int .u16 s,.int .u16 t]) l u/\∃v x y z A B C D,Rv aS (vA d 0) u (.agg #[.int .u16 v,.int .u16 x,.int .u16 y,.int .u16 z,.int .u16 A,.int .u16 B,.int .u16 C,.int .u16 D])/\K (.agg #[.int .u16 v,.int .u16 x,.int .u16 y,.int .u16 z,.int .u16 A,.int .u16 B,.int .u16 C,.int .u16 D]) u))):Cf rO #[a] w (Ret K):=ru func182 [(8,[(5,.one (.int .i64))]),(2000019,[(15,.one .bool)])] h
theorem DW (a b c d e f g i:Int){w K}(h:nA w (.cells #[.int .u16 a,.int .u16 b,.int .u16 c,.int .u16 d,.int .u16 e,.int .u16 f,.int .u16 g,.int .u16 i] aS) λj k=>∃l:Nat->FP [.one (.int .i64),.one (.int .i64),.one (.int .i64),.one (.int .i64)],(∃m,l m (0:Int) (0:Int) (0:Int) (0:Int) k)/\∀m n o p q,aC 18 (∀r,l m n o p q r->ae (decide (q<(8:Int))) (∃s:FP [.one (.int .i64)],((bx q ((8:Nat):Int)/\true)/\∃t,Ld gQ (ao (vA j 0) q 1) r (.int .u16 t)/\ae (t !=(0:Int)) (s (0:Int) r) (s (i64.wrap (p+(1:Int))) r))/\∀t,aC 4 (∀u,s t u->ae (decide (t>o)) (∃v:Nat,v<m/\l v (i64.wrap ((i64.wrap (q+(1:Int)))-t)) t t (i64.wrap (q+(1:Int))) u) (∃v:Nat,v<m/\l v n o t (i64.wrap (q+(1:Int))) u))) (K (.tuple #[vI n,vI o]) r))):Cf tI #[.agg #[.int .u16 a,.int .u16 b,.int .u16 c,.int .u16 d,.int .u16 e,.int .u16 f,.int .u16 g,.int .u16 i]] w (Ret K):=ru func183 [(8,[(4,.one (.int .i64)),(5,.one (.int .i64)),(6,.one (.int .i64)),(8,.one (.int .i64))]),(21,[(6,.one (.int .i64))])] h
theorem AU (a:Option Addr)(b c:Nat){w K}(h:∃d:Nat->FP [.one .slice,.one (.int .i64)],(∃e,d e none 0 0 (0:Int) w)/\∀e f g i j,aC 11 (∀k,d e f g i j k->ae (decide (j<((b:Nat):Int))) ((bx j ((b:Nat):Int)/\Option.isSome a=true)/\∃l,Ld gQ (ao a j 1) k (.int .u16 l)/\uS jz #[.int .u64 (IntKind.u64.wrap l),vI 16] k λm n=>nA n (.cells #[vS m] au) λo p=>∃q r s t,(Builtin.append_ #[az,az] az #[.slice f g i,.slice (vA o 0) 1 1]).run prog p=.ok (.slice r s t) q/\∃u:Nat,u<e/\d u r s t (i64.wrap (j+(1:Int))) q) (uS my #[.slice f g i,vS [58]] k λl m=>K (vS l) m))):Cf jF #[.slice a b c] w (Ret K):=ru func184 [(8,[(3,.one .slice),(8,.one (.int .i64))])] h
theorem DU (a:lU){w K}(h:∃b:FP [],(ae (decide (((List.length a:Nat):Int)<(1:Int))) (K (.tuple #[.int .u16 0,.bool false]) w) (ae (decide (((List.length a:Nat):Int)>(4:Int))) (K (.tuple #[.int .u16 0,.bool false]) w) (b w)))/\aC 10 (∀c,b c->uS nQ #[vS a] c λd e=>∃f g i j,(convert au aP (vS d)).run prog e=.ok (.slice g i j) f/\∃k:Nat->FP [.one (.int .u16),.one (.int .i64)],(∃l,k l (0:Int) (0:Int) f)/\∀l m n,aC 17 (∀o,k l m n o->ae (decide (n<((i:Nat):Int))) ((bx n ((i:Nat):Int)/\Option.isSome g=true)/\∃p,Ld aG (ao g n 1) o (.int .u8 p)/\uI oQ #[vS [48,49,50,51,52,53,54,55,56,57,97,98,99,100,101,102],.int .u8 p] o λq r=>ae (decide (q<(0:Int))) (K (.tuple #[.int .u16 0,.bool false]) r) ((0 <=(4:Int))/\∃s:Nat,s<l/\k s (IntKind.u16.wrap (((BitVec.ofInt (IntKind.bits .u16) (IntKind.u16.wrap (m*2 ^ (min (Int.toNat 4) (IntKind.bits .u16))))) ||| (BitVec.ofInt (IntKind.bits .u16) (IntKind.u16.wrap q))).toNat:Nat)) (i64.wrap (n+(1:Int))) r)) (K (.tuple #[.int .u16 m,.bool true]) o)))):Cf tH #[vS a] w (Ret K):=ru func214 [(2,[]),(16,[(4,.one (.int .u16)),(20,.one (.int .i64))])] h
theorem fc (a:Option Addr)(b c:Nat){w K}(h:uI ci #[.slice a b c,.func (.func cU) #[] #[]] w λd e=>K (.bool (decide (d >=(0:Int)))) e):Cf bH #[.slice a b c,.func (.func cU) #[] #[]] w (Ret K):=ru func63 [] h
theorem fI (a:Option Addr)(b c:Nat){w K}(h:∃d:Nat->FP [.one (.int .i64)],(∃e,d e (0:Int) w)/\∀e f,aC 12 (∀g,d e f g->ae (decide (f<((b:Nat):Int))) ((bx f ((b:Nat):Int)/\Option.isSome a=true)/\∃i,Ld au (ao a f 1) g (vS i)/\uB cU #[vS i] g λj k=>ae j (K (vI f) k) (∃l:Nat,l<e/\d l (i64.wrap (f+(1:Int))) k)) (K (vI (-1)) g))):Cf ci #[.slice a b c,.func (.func cU) #[] #[]] w (Ret K):=ru func115 [(6,[(8,.one (.int .i64))])] h
theorem fT (a:Option Addr)(b c:Nat){w K}(h:uI iH #[.slice a b c,.func (.func dO) #[] #[]] w λd e=>K (.bool (decide (d >=(0:Int)))) e):Cf gv #[.slice a b c,.func (.func dO) #[] #[]] w (Ret K):=ru func176 [] h
theorem gF (a:Option Addr)(b c:Nat){w K}(h:∃d:Nat->FP [.one (.int .i64)],(∃e,d e (0:Int) w)/\∀e f,aC 12 (∀g,d e f g->ae (decide (f<((b:Nat):Int))) ((bx f ((b:Nat):Int)/\Option.isSome a=true)/\∃i,Ld aG (ao a f 1) g (.int .u8 i)/\uB dO #[.int .u8 i] g λj k=>ae j (K (vI f) k) (∃l:Nat,l<e/\d l (i64.wrap (f+(1:Int))) k)) (K (vI (-1)) g))):Cf iH #[.slice a b c,.func (.func dO) #[] #[]] w (Ret K):=ru func216 [(6,[(8,.one (.int .i64))])] h
theorem tp (a b:Int){w K}(h:uS iv #[.int .u64 a,vI b] w λc d=>K (vS c) d):Cf jz #[.int .u64 a,vI b] w (Ret K):=ru func220 [] h
theorem mj (a b:Int){w K}(h:ae (b==(10:Int)) (ae (decide (a<(100:Int))) (uS qW #[vI (i64.wrap a)] w λc d=>K (vS c) d) (nA w (.cells E6 E4) λc d=>uI nP #[.int .u64 a] d λe f=>bd e ((24:Nat):Int)/\uU lS #[.slice (vA c 0) (Int.toNat e) 24,.int .u64 a] f λg=>bd e ((24:Nat):Int)/\∃i,(convert aP au (.slice (vA c 0) (Int.toNat e) 24)).run prog g=.ok (vS i) g/\K (vS i) g)) (Cf dU #[.slice none 0 0,.int .u64 a,vI b,.bool false,.bool false] w λc d=>∃e f g i,c=rT #[.slice e f g,vS i]/\K (vS i) d)):Cf iv #[.int .u64 a,vI b] w (Ret K):=ru func238 [] h
theorem ml (a:Option Addr)(b c:Nat)(d e:Int)(f g:Bool){w K}(h:∃i:FP [],(∃j:FP [.one .bool],(ae (decide (e<(2:Int))) (j true w) (ae (e==(10:Int)) (j true w) (j (decide (e>(36:Int))) w)))/\∀k,aC 9 (∀l,j k l->ae k (False) (i l)))/\aC 11 (∀j,i j->nA j (.cells E7 nM) λk l=>∃m:FP [.one (.int .u64)],(ae f (m (IntKind.u64.wrap (0-d)) l) (m d l))/\∀n,aC 3 (∀o,m n o->∃p:FP [.one (.int .i64)],(uB gq #[vI e] o λq r=>ae q (uI fN #[.int .u64 (IntKind.u64.wrap e)] r λs t=>∃u:Nat->FP [.one (.int .u64),.one (.int .i64)],(∃v,u v n (65:Int) t)/\∀v x y,aC 14 (∀z,u v x y z->ae (decide (x >=(IntKind.u64.wrap e))) (bx (IntKind.u64.wrap (((BitVec.ofInt (IntKind.bits .u64) x) &&& (BitVec.ofInt (IntKind.bits .u64) (IntKind.u64.wrap ((IntKind.u64.wrap e)-(1:Int))))).toNat:Nat)) ((List.length [48,49,50,51,52,53,54,55,56,57,97,98,99,100,101,102,103,104,105,106,107,108,109,110,111,112,113,114,115,116,117,118,119,120,121,122]:Nat):Int)/\(bx (i64.wrap (y-(1:Int))) ((65:Nat):Int)/\true)/\∃A,Sv aG (ao (vA k 0) (i64.wrap (y-(1:Int))) 1) (.int .u8 (aQ [48,49,50,51,52,53,54,55,56,57,97,98,99,100,101,102,103,104,105,106,107,108,109,110,111,112,113,114,115,116,117,118,119,120,121,122] (IntKind.u64.wrap (((BitVec.ofInt (IntKind.bits .u64) x) &&& (BitVec.ofInt (IntKind.bits .u64) (IntKind.u64.wrap ((IntKind.u64.wrap e)-(1:Int))))).toNat:Nat)))) z A/\(0 <=(IntKind.u64.wrap s))/\∃B:Nat,B<v/\u B (Int.fdiv x (2 ^ (min (Int.toNat (IntKind.u64.wrap s)) (IntKind.bits .u64)))) (i64.wrap (y-(1:Int))) A) (bx x ((List.length [48,49,50,51,52,53,54,55,56,57,97,98,99,100,101,102,103,104,105,106,107,108,109,110,111,112,113,114,115,116,117,118,119,120,121,122]:Nat):Int)/\(bx (i64.wrap (y-(1:Int))) ((65:Nat):Int)/\true)/\∃A,Sv aG (ao (vA k 0) (i64.wrap (y-(1:Int))) 1) (.int .u8 (aQ [48,49,50,51,52,53,54,55,56,57,97,98,99,100,101,102,103,104,105,106,107,108,109,110,111,112,113,114,115,116,117,118,119,120,121,122] x)) z A/\p (i64.wrap (y-(1:Int))) A))) (∃s:Nat->FP [.one (.int .u64),.one (.int .i64)],(∃t,s t n (65:Int) r)/\∀t u v,aC 18 (∀x,s t u v x->ae (decide (u >=(IntKind.u64.wrap e))) (((IntKind.u64.wrap e)≠0)/\∀y,y=(IntKind.u64.wrap (Int.tdiv u (IntKind.u64.wrap e)))->bx (IntKind.u64.wrap (u-(IntKind.u64.wrap (y*(IntKind.u64.wrap e))))) ((List.length [48,49,50,51,52,53,54,55,56,57,97,98,99,100,101,102,103,104,105,106,107,108,109,110,111,112,113,114,115,116,117,118,119,120,121,122]:Nat):Int)/\(bx (i64.wrap (v-(1:Int))) ((65:Nat):Int)/\true)/\∃z,Sv aG (ao (vA k 0) (i64.wrap (v-(1:Int))) 1) (.int .u8 (aQ [48,49,50,51,52,53,54,55,56,57,97,98,99,100,101,102,103,104,105,106,107,108,109,110,111,112,113,114,115,116,117,118,119,120,121,122] (IntKind.u64.wrap (u-(IntKind.u64.wrap (y*(IntKind.u64.wrap e))))))) x z/\∃A:Nat,A<t/\s A y (i64.wrap (v-(1:Int))) z) (bx u ((List.length [48,49,50,51,52,53,54,55,56,57,97,98,99,100,101,102,103,104,105,106,107,108,109,110,111,112,113,114,115,116,117,118,119,120,121,122]:Nat):Int)/\(bx (i64.wrap (v-(1:Int))) ((65:Nat):Int)/\true)/\∃y,Sv aG (ao (vA k 0) (i64.wrap (v-(1:Int))) 1) (.int .u8 (aQ [48,49,50,51,52,53,54,55,56,57,97,98,99,100,101,102,103,104,105,106,107,108,109,110,111,112,113,114,115,116,117,118,119,120,121,122] u)) x y/\p (i64.wrap (v-(1:Int))) y))))/\∀q,aC 62 (∀r,p q r->∃s:FP [.one (.int .i64)],(ae f ((bx (i64.wrap (q-(1:Int))) ((65:Nat):Int)/\true)/\∃t,Sv aG (ao (vA k 0) (i64.wrap (q-(1:Int))) 1) (.int .u8 45) r t/\s (i64.wrap (q-(1:Int))) t) (s q r))/\∀t,aC 5 (∀u,s t u->ae g (bd t ((65:Nat):Int)/\∃v x y z,(Builtin.append_ #[aP,aP] aP #[.slice a b c,.slice (some (if 65=(Int.toNat t)then⟨k,0,none⟩ else Addr.add ⟨k,0,none⟩ ((Int.toNat t)*1))) (65-(Int.toNat t)) (65-(Int.toNat t))]).run prog u=.ok (.slice x y z) v/\K (.tuple #[.slice x y z,vS []]) v) (bd t ((65:Nat):Int)/\∃v,(convert aP au (.slice (some (if 65=(Int.toNat t)then⟨k,0,none⟩ else Addr.add ⟨k,0,none⟩ ((Int.toNat t)*1))) (65-(Int.toNat t)) (65-(Int.toNat t)))).run prog u=.ok (vS v) u/\K (.tuple #[.slice none 0 0,vS v]) u)))))):Cf dU #[.slice a b c,.int .u64 d,vI e,.bool f,.bool g] w (Ret K):=ru func252 [(2,[]),(3,[(28,.one .bool)]),(12,[(1,.one (.int .u64))]),(18,[(13,.one (.int .i64))]),(30,[(1,.one (.int .u64)),(13,.one (.int .i64))]),(50,[(1,.one (.int .u64)),(13,.one (.int .i64))]),(68,[(13,.one (.int .i64))])] h
theorem kV (a:Int){w K}(h:K (.bool ((i64.wrap (((BitVec.ofInt (IntKind.bits .i64) a) &&& (BitVec.ofInt (IntKind.bits .i64) (i64.wrap (a-(1:Int))))).toNat:Nat))==(0:Int))) w):Cf gq #[vI a] w (Ret K):=ru func256 [] h
theorem pf (a:Int){w K}(h:uI iN #[.int .u64 a] w λb c=>K (vI b) c):Cf fN #[.int .u64 a] w (Ret K):=ru func257 [] h
theorem ni (a:Int){w K}(h:ae (a==(0:Int)) (K (vI 64) w) ((0 <=(58:Int))/\(bx (Int.fdiv (IntKind.u64.wrap ((IntKind.u64.wrap (((BitVec.ofInt (IntKind.bits .u64) a) &&& (BitVec.ofInt (IntKind.bits .u64) (IntKind.u64.wrap (0-a)))).toNat:Nat))*(285870213051353865:Int))) (2 ^ (min (Int.toNat 58) (IntKind.bits .u64)))) ((64:Nat):Int)/\true)/\∃b,Ld aG (ao (vA 5 0) (Int.fdiv (IntKind.u64.wrap ((IntKind.u64.wrap (((BitVec.ofInt (IntKind.bits .u64) a) &&& (BitVec.ofInt (IntKind.bits .u64) (IntKind.u64.wrap (0-a)))).toNat:Nat))*(285870213051353865:Int))) (2 ^ (min (Int.toNat 58) (IntKind.bits .u64)))) 1) w (.int .u8 b)/\K (vI (i64.wrap b)) w)):Cf iN #[.int .u64 a] w (Ret K):=ru func259 [] h
theorem AY (a:lU){w K}(h:ae (!(a==[])) (bd (10:Int) (((List.length [48,49,50,51,52,53,54,55,56,57,65,66,67,68,69,70]):Nat):Int)/\∀b,b=(List.take (Int.toNat 10) [48,49,50,51,52,53,54,55,56,57,65,66,67,68,69,70])->uS DK #[vS a,vS b] w λc d=>K (.bool (c==[])) d) (K (.bool false) w)):Cf jH #[vS a] w (Ret K):=ru func56 [] h
theorem C6 (a:lU)(b:Int){w K}(h:nA w (.cells #[.int .u8 b] aG) λc d=>∃e,(convert aP au (.slice (vA c 0) 1 1)).run prog d=.ok (vS e) d/\uL Cm #[vS a,vS e] d λf g i j=>K (.slice f g i) j):Cf jk #[vS a,.int .u8 b] w (Ret K):=ru func120 [] h
theorem C5 (a:lU){w K}(h:∃b c d e,(convert au aP (vS a)).run prog w=.ok (.slice c d e) b/\∃f:Nat->FP [.one (.int .i64)],(∃g,f g (0:Int) b)/\∀g i,aC 19 (∀j,f g i j->ae (decide (i<((d:Nat):Int))) ((bx i ((d:Nat):Int)/\Option.isSome c=true)/\∃k,Ld aG (ao c i 1) j (.int .u8 k)/\∃l:FP [.one .bool],(ae (decide (k >=(65:Int))) (l (decide (k <=(90:Int))) j) (l false j))/\∀m,aC 5 (∀n,l m n->ae m ((bx i ((d:Nat):Int)/\Option.isSome c=true)/\∃o,Sv aG (ao c i 1) (.int .u8 (IntKind.u8.wrap ((IntKind.u8.wrap (k-(65:Int)))+(97:Int)))) n o/\∃p:Nat,p<g/\f p (i64.wrap (i+(1:Int))) o) (∃o:Nat,o<g/\f o (i64.wrap (i+(1:Int))) n))) (∃k,(convert aP au (.slice c d e)).run prog j=.ok (vS k) j/\K (vS k) j))):Cf nQ #[vS a] w (Ret K):=ru func121 [(8,[(10,.one (.int .i64))]),(19,[(20,.one .bool)])] h
theorem AZ (a:lU){w K}(h:∃b:FP [],(uB jH #[vS a] w λc d=>ae (!c) (K (.tuple #[vI 0,.bool false]) d) (ae (decide (((List.length a:Nat):Int)>(18:Int))) (K (.tuple #[vI 0,.bool false]) d) (bx (0:Int) ((List.length a:Nat):Int)/\ae ((aQ a (0:Int))==(48:Int)) (ae (decide (((List.length a:Nat):Int)>(1:Int))) (K (.tuple #[vI 0,.bool false]) d) (b d)) (b d))))/\aC 20 (∀c,b c->∃d e f g,(convert au aP (vS a)).run prog c=.ok (.slice e f g) d/\∃i:Nat->FP [.one (.int .i64),.one (.int .i64)],(∃j,i j (0:Int) (0:Int) d)/\∀j k l,aC 11 (∀m,i j k l m->ae (decide (l<((f:Nat):Int))) ((bx l ((f:Nat):Int)/\Option.isSome e=true)/\∃n,Ld aG (ao e l 1) m (.int .u8 n)/\∃o:Nat,o<j/\i o (i64.wrap ((i64.wrap ((10:Int)*k))+(i64.wrap (IntKind.u8.wrap (n-(48:Int)))))) (i64.wrap (l+(1:Int))) m) (K (.tuple #[vI k,.bool true]) m)))):Cf qo #[vS a] w (Ret K):=ru func175 [(2,[]),(16,[(4,.one (.int .i64)),(28,.one (.int .i64))])] h
def am (w:World)(k:Nat)(t:TypeId)(vs:List Value):Prop:=w.heap[k]? =some (.cells vs.toArray t (0,0))
theorem am.new {w w':World}{k:Nat}{t:TypeId}{vs:List Value}(hk:k=w.heap.size)(hw:w'=w.alloc (.cells vs.toArray t)):am w' k t vs:=by
 subst hk hw;exact heap_alloc_new w _
theorem am.lt {w:World}{k:Nat}{t:TypeId}{vs:List Value}(h:am w k t vs):k<w.heap.size:=(Array.getElem?_eq_some_iff.1 (show w.heap[k]? =_ from h)).1
theorem am.block {w w':World}{k:Nat}{t:TypeId}{vs:List Value}(h:am w k t vs)(e:w'.heap[k]? =w.heap[k]?):am w' k t vs:=e.trans h
theorem am.below {w w':World}{k:Nat}{t:TypeId}{vs:List Value}(h:am w k t vs)(hb:bW w w'):am w' k t vs:=h.block (hb.block k h.lt)
theorem am.grown {w w':World}{k:Nat}{t:TypeId}{vs:List Value}{row:Option Nat}(h:am w k t vs)(hg:w.grownBy w' row)(hne:some k≠row):am w' k t vs:=h.block (hg.block k h.lt hne)
theorem am.cell {w:World}{k:Nat}{t:TypeId}{vs:List Value}(h:am w k t vs)(i:Nat):w.cell? ⟨k,i,none⟩=vs[i]? :=by rw[gR h];simp
theorem am.load1 {P:Program}{u:TypeId}{d:TypeDesc}(hu:P.underlying u=some d)(ha:HP d=false){w:World}{k:Nat}{t:TypeId}{vs:List Value}(h:am w k t vs){i:Nat}{v:Value}(hv:vs[i]? =some v):
   (Instr.loadAt u (.pointer (some ⟨k,i,none⟩))).run P w=.ok v w:=eZ hu ha (by rw[h.cell];exact hv)
theorem am.loadA {P:Program}{u:TypeId}{d:TypeDesc}{ti:TypeInfo}(hu:P.underlying u=some d)(ha:HP d=true)(hi:P.info? u=some ti){w:World}{k:Nat}{t:TypeId}{vs us:List Value}(h:am w k t vs){i:Nat}(hl:us.length=ti.size)
   (hv:∀j,j<us.length->vs[i+j]? =us[j]?):(Instr.loadAt u (.pointer (some ⟨k,i,none⟩))).run P w=.ok (.agg us.toArray) w:=
 CI hu ha hi hl λj hj=>by rw[h.cell];exact hv j hj
theorem am.res {P:Program}{u:TypeId}{p:Addr}{w w':World}{v:Value}(h:(Instr.loadAt u (.pointer (some p))).run P w=.ok v w'):(aR u (.pointer (some p))).run P w=.ok v w':=h
theorem am.store {P:Program}{u:TypeId}{bytes n:Nat}{z:Value}(tf:TF P u n bytes z){w:World}{k:Nat}{t:TypeId}{vs:List Value}(h:am w k t vs){i:Nat}{v:Value}(hs:v.cells.size=n)(hfit:i+n <=vs.length)(h1:∀c∈v.cells.toList,c.oneCell'=true):
   ∃w',(Instr.storeAt u (.pointer (some ⟨k,i,none⟩)) v).run P w=.ok () w'/\am w' k t (vs.take i++v.cells.toList++vs.drop (i+n))/\w.grownBy w' (some k):=by
 obtain⟨ti,hti,hsz,_,_⟩:=tf.info
 refine⟨_,run_storeVar_row hti (o:=i) h (λi _=>by simp) (by rw[hs,hsz]) (by rw[hsz];simpa using hfit) h1,?_,gK w k _⟩
 have:=setRow_heap w k vs.toArray (vs.take i++v.cells.toList++vs.drop (i+n)).toArray t (0,0) h
 rw[<- hs]at this ⊢
 exact this
theorem K9 {n:Nat}{w:World}{R:Bool->World->Prop}{B:(Bool->World->Prop)->Prop}(f:Bool)(hB:B (λb w'=>w'=w/\b=f))(h:R f w):
   ∃J:FP [.one (.bool)],B J/\∀b:Bool,aC n (∀wj:World,J b wj->R b wj):=by
 refine⟨λb w'=>w'=w/\b=f,hB,λb=>aC.of ?_ _⟩
 rintro wj ⟨rfl,rfl⟩;exact h
theorem QW {n:Nat}{k:IntKind}{w:World}{R:Int->World->Prop}{B:(Int->World->Prop)->Prop}(f:Int)(hB:B (λb w'=>w'=w/\b=f))(h:R f w):
   ∃J:FP [.one (.int k)],B J/\∀b:Int,aC n (∀wj:World,J b wj->R b wj):=by
 refine⟨λb w'=>w'=w/\b=f,hB,λb=>aC.of ?_ _⟩
 rintro wj ⟨rfl,rfl⟩;exact h
theorem vt {n:Nat}{w:World}{R:World->Prop}{B:(World->Prop)->Prop}(Q:Prop)(hB:B (λw'=>w'=w/\Q))(h:Q->R w):
   ∃J:FP [],B J/\aC n (∀wj:World,J wj->R wj):=by
 refine⟨λw'=>w'=w/\Q,hB,aC.of ?_ _⟩
 rintro wj ⟨rfl,hq⟩;exact h hq
theorem fY {n:Nat}{R:World->Prop}{B:(World->Prop)->Prop}(Q:World->Prop)(hB:B Q)(h:∀w,Q w->R w):
   ∃J:FP [],B J/\aC n (∀wj:World,J wj->R wj):=⟨Q,hB,aC.of h _⟩
theorem QI {n:Nat}{R:Bool->World->Prop}{B:(Bool->World->Prop)->Prop}(Q:Bool->World->Prop)(hB:B Q)(h:∀b w,Q b w->R b w):
   ∃J:FP [.one (.bool)],B J/\∀b:Bool,aC n (∀wj:World,J b wj->R b wj):=⟨Q,hB,λb=>aC.of (h b) _⟩
theorem FW {α:Type}{T:Ty α}(hfl:Flat T){P:Program}{st t ty:TypeId}{bytes:Nat}{z:Value}(hu:P.underlying st=some (.slice t))(tf:TF P t T.k bytes z)(hb0:0<bytes)
   {w0 w w1:World} {a:Option Addr} {n c:Nat} {xs:List α} (ho:Ow T t w NoB a n c xs) (hf:bI w0.heap.size a) (hb:bW w0 w) {k1:Nat} {vs:List Value} {x:α} (hk:k1=w.heap.size)
   (hw:w1=w.alloc (.cells vs.toArray t)) (hx:T.rep w NoB vs x) {cm:Nat} (hbound:(xs.length+1)*bytes <=140737488355328):
   ∃(w2:World) (a':Option Addr) (n' c':Nat),(Builtin.append_ #[st,st] ty #[.slice a n c,.slice (some ⟨k1,0,none⟩) 1 cm]).run P w1=.ok (.slice a' n' c') w2/\Ow T t w2 NoB a' n' c' (xs++[x])/\bI w0.heap.size a'/\bW w0 w2:=by
 have hB1:bW w w1:=hw▸ah w _
 have ho3:=ho.below hB1
 have hsrc:Src T w1 NoB (some ⟨k1,0,none⟩) 1 [x]:=Src.new1F hfl hk hw hx
 obtain⟨w4,a4,n4,c4,hr,ho4,hgr,hfr⟩:=dh (ty:=ty) hu tf hb0 ho3 (λ_ _ h=>h) (cm:=cm) hsrc (by simpa using hbound)
 have hB:=ab hb hB1 hb.size
 exact⟨w4,a4,n4,c4,hr,ho4,hf.app hB.size hfr,hB.grown hgr hB.size hf⟩
theorem iU {P:Program}{f:FuncId}{args:Array Value}{w u:World}{v:Value}(h:Calls P f args u (Ret λv' w'=>v'=v/\bW u w'))(hu:bW w u):
   Calls P f args u λe w'=>e=.returned v/\Below w.heap.size u w':=by
 refine h.mono ?_
 rintro _ w' ⟨_,rfl,rfl,hb⟩
 exact⟨rfl,hb.mono hu.size⟩
theorem fits {a b:Nat}(h:a+b <=9223372036854775807):((a+b:Nat):Int) <=i64.max:=by simp[IntKind.max,IntKind.bits];omega
theorem MJ {P:Program}{name:String}{k:IntKind}{zs:List Int}{w w':World}(h:Lib.TabIs P w name k zs)(hb:∀b,b<w.heap.size->w'.heap[b]? =w.heap[b]?):Lib.TabIs P w' name k zs:=by
 unfold Lib.TabIs World.var? at h ⊢
 cases hg:P.globalNamed name with
 | none=>rw[hg]at h;cases h
 | some g=>
   rw[hg]at h
   simp only[Option.bind_some]at h ⊢
   have hlt:g<w.heap.size:=by
     cases hh:w.heap[g]? with
     | none=>rw[hh]at h;cases h
     | some o=>exact(Array.getElem?_eq_some_iff.1 hh).1
   rw[hb g hlt];exact h
structure Env (w:World):Prop where
 tab:Lib.TabIs prog w "internal/strconv.uint64pow10" .u64 Lib.pow10Tab
 max:∃m:Int,w.cell? ⟨0,0,none⟩=some (vI m)
 tz:w.cell? ⟨5,15,none⟩=some (.int .u8 4)
theorem Lh {w:World}{b o:Nat}{v:Value}(h:w.cell? ⟨b,o,none⟩=some v):b<w.heap.size:=by
 cases hh:w.heap[b]? with
 | none=>simp[World.cell?,hh]at h
 | some x=>exact(Array.getElem?_eq_some_iff.1 hh).1
theorem Env.same {w w':World}(h:Env w)(hb:∀b,b<w.heap.size->w'.heap[b]? =w.heap[b]?):Env w':=by
 obtain⟨m,hm⟩:=h.max
 exact⟨MJ h.tab hb,⟨m,by rw[mF (hb _ (Lh hm))];exact hm⟩,by rw[mF (hb _ (Lh h.tz))];exact h.tz⟩
theorem Env.step {w w':World}(h:Env w)(hb:bW w w'):Env w':=h.same λb hlt=>hb.block b hlt
theorem Env.grown {w0 w w':World}{row:Option Nat}(h0:Env w0)(h:Env w)(hg:w.grownBy w' row)(hr:∀x,row=some x->w0.heap.size <=x)(hb:bW w0 w):Env w':=
 h0.step (hb.grown hg hb.size hr)
def bS (c:UInt8):List UInt8->List UInt8->List (List UInt8)
 | cur,[]=>[cur]
 | cur,x::r=>if x=c then cur::bS c [] r else bS c (cur++[x]) r
theorem Fj (c:UInt8):∀(a cur r:List UInt8),(∀x∈a,x≠c)->bS c cur (a++c::r)=(cur++a)::bS c [] r
 | [],cur,r,_=>by
   show(if c=c then _ else _)=_
   rw[if_pos rfl,List.append_nil]
 | x::a,cur,r,ha=>by
   show(if x=c then _ else _)=_
   rw[if_neg (ha x List.mem_cons_self)]
   exact(Fj c a (cur++[x]) r λy hy=>ha y (List.mem_cons_of_mem _ hy)).trans (by simp)
theorem Ca (c:UInt8):∀(a cur:List UInt8),(∀x∈a,x≠c)->bS c cur a=[cur++a]
 | [],cur,_=>by simp[bS]
 | x::a,cur,ha=>by
   show(if x=c then _ else _)=_
   rw[if_neg (ha x List.mem_cons_self)]
   exact(Ca c a (cur++[x]) λy hy=>ha y (List.mem_cons_of_mem _ hy)).trans (by simp)
theorem mW (c:UInt8):∀(s cur:List UInt8),bS c cur s≠[]
 | [],cur=>by simp[bS]
 | x::s,cur=>by
   show(if x=c then _ else _)≠_
   split
   · simp
   · exact mW c s _
theorem kH (c:UInt8):∀(s cur x:List UInt8),x∈bS c cur s->x.length <=cur.length+s.length
 | [],cur,x,h=>by simp[bS]at h;subst h;simp
 | y::r,cur,x,h=>by
   unfold bS at h
   split at h
   · rcases List.mem_cons.1 h with rfl|h
     · simp
     · have:=kH c r [] x h;simp at this ⊢;omega
   · have:=kH c r _ x h;simp at this ⊢;omega
theorem kn (c:UInt8):∀(s cur:List UInt8),(bS c cur s).length <=s.length+1
 | [],cur=>by simp[bS]
 | y::r,cur=>by
   unfold bS
   split
   · have:=kn c r [];simp;omega
   · have:=kn c r (cur++[y]);simp;omega
theorem cy (c:UInt8):∀(s cur r:List UInt8),bS c cur (s++c::r)=bS c cur s++bS c [] r
 | [],cur,r=>by
   show(if c=c then _ else _)=_
   rw[if_pos rfl];rfl
 | x::s,cur,r=>by
   show(if x=c then cur::bS c [] (s++c::r)else bS c (cur++[x]) (s++c::r))=(if x=c then cur::bS c [] s else bS c (cur++[x]) s)++bS c [] r
   split
   · rw[cy c s];rfl
   · rw[cy c s]
theorem Kn (s:List UInt8)(c:UInt8):(Lib.index s [c]= -1/\∀x∈s,x≠c)\/∃i:Nat,Lib.index s [c]=(i:Int)/\∃h:i<s.length,s=s.take i++c::s.drop (i+1)/\∀x∈s.take i,x≠c:=by
 induction s with
 | nil=>exact .inl ⟨rfl,λx h=>by cases h⟩
 | cons b l ih=>
   by_cases h:b=c
   · subst h
     refine .inr ⟨0,by rw[Lib.index];simp[List.isPrefixOf],by simp,rfl,λx h=>by simp at h⟩
   · have hp:([c]:List UInt8).isPrefixOf (b::l)=false:=by simp[List.isPrefixOf,Ne.symm h]
     have hix:Lib.index (b::l) [c]=if Lib.index l [c]== -1 then -1 else Lib.index l [c]+1:=by rw[Lib.index,hp];simp
     rcases ih with⟨h1,h2⟩|⟨i,h1,h2,h3,h4⟩
     · refine .inl ⟨by rw[hix,h1];rfl,λx hx=>?_⟩
       rcases List.mem_cons.1 hx with rfl|hx
       · exact h
       · exact h2 x hx
     · refine .inr ⟨i+1,?_,by simpa using h2,?_,λx hx=>?_⟩
       · rw[hix,h1,if_neg (by rw[beq_iff_eq];omega)];omega
       · simp only[List.take_succ_cons,List.drop_succ_cons,List.cons_append]
         rw[<- h3]
       · rw[List.take_succ_cons]at hx
         rcases List.mem_cons.1 hx with rfl|hx
         · exact h
         · exact h4 x hx
theorem Dh (c:UInt8):∀(n:Nat) (s:List UInt8),s.length <=n->Lib.splitK [c] 0 (Lib.count s [c]) s=bS c [] s
 | n,s,hn=>by
   rcases Kn s c with⟨h1,h2⟩|⟨i,h1,h2,h3,h4⟩
   · rw[Lib.count_miss h1,Ca c s [] h2];rfl
   · have hc:=Lib.count_hit (s:=s) (sub:=[c]) (by simp) h1
     cases n with
     | zero=>omega
     | succ n=>
       have ih:=Dh c n (s.drop (i+1)) (by rw[List.length_drop];omega)
       rw[hc,Nat.add_comm 1]
       unfold Lib.splitK
       rw[if_neg (by rw[h1,beq_iff_eq];omega),h1]
       simp only[Int.toNat_natCast,Nat.add_zero,List.length_cons,List.length_nil,Nat.zero_add]
       rw[ih]
       conv=>rhs;rw[h3,Fj c _ _ _ h4]
       simp
theorem Di (s:List UInt8)(c:UInt8):(Lib.splitB (mkS [c]) 0 (Lib.countB (mkS s) (mkS [c])) (mkS s)).map Value.string=(bS c [] s).map λx=>vS x:=by
 have h:=Lib.splitB_data (mkS [c]) 0 (Lib.countB (mkS s) (mkS [c])) (mkS s)
 have h2:Lib.splitK (mkS [c]).data.toList 0 (Lib.countB (mkS s) (mkS [c])) (mkS s).data.toList=bS c [] s:=Dh c _ s (Nat.le_refl _)
 rw[h2]at h
 rw[<- h,List.map_map]
 rfl
theorem IH (s:List UInt8)(c:UInt8):Lib.countB (mkS s) (mkS [c])+1=(bS c [] s).length:=by
 have h:=Di s c
 have h2:=congrArg List.length h
 rw[List.length_map,List.length_map,Lib.splitB_all (mkS [c]) (Nat.le_refl 1) 0 _ _ rfl]at h2
 exact h2
def RI (y:Int):Bool:=(decide (Int.tmod y 4=0)&&decide (Int.tmod y 100≠0)) || decide (Int.tmod y 400=0)
def Sa (y m:Int):Int:=if m=2 then(if RI y then 29 else 28)else if m=4\/m=6\/m=9\/m=11 then 30 else 31
def L2 (y m d:Int):Prop:=1601 <=y/\y <=9999/\1 <=m/\m <=12/\1 <=d/\d <=Sa y m
instance  (y m d:Int):Decidable (L2 y m d):=by unfold L2;infer_instance
def sN (k:Nat):Nat:=if k=400 then 146097 else 365*k+k/4-k/100
def Gs (c:UInt8):UInt8:=if 65 <=c/\c <=90 then c+32 else c
def ir (s:List UInt8):List UInt8:=s.map Gs
theorem NU:∀n,n<256->((Gs (UInt8.ofNat n)).toNat:Int)=if 65 <=(n:Int)/\(n:Int) <=90 then(n:Int)+32 else(n:Int):=by decide+kernel
theorem FJ (c:UInt8):((Gs c).toNat:Int)=if 65 <=(c.toNat:Int)/\(c.toNat:Int) <=90 then(c.toNat:Int)+32 else(c.toNat:Int):=by
 have:=NU c.toNat (by have:=c.toNat_lt;omega)
 rwa [UInt8.ofNat_toNat]at this
theorem vU (s:List UInt8)(hs:s.length <=9223372036854775800)(w:World):Cf nQ #[vS s] w (Ret λv w'=>v=vS (ir s)/\bW w w'):=by
 apply C5
 obtain⟨w1,a,n,c,hr,ho,hb,hf⟩:=uX aA bZ bP w s (by omega) NoB
 have hn:=ho.len
 subst hn
 refine⟨w1,a,_,c,hr,?_⟩
 refine⟨λm i w'=>∃k:Nat,k <=s.length/\i=(k:Int)/\m=s.length-k/\Ow tU8 aG w' NoB a s.length c (ir (s.take k)++s.drop k)/\w1.grownBy w' (bK a),
   ⟨_,0,by omega,rfl,rfl,by simpa[ir]using ho,⟨rfl,rfl,rfl,Nat.le_refl _,λ_ _ _=>rfl⟩⟩,?_⟩
 intro m i
 refine aC.of ?_ _
 rintro w' ⟨k,hk,rfl,rfl,ho',hg⟩
 have hll:(ir (s.take k)++s.drop k).length=s.length:=by simp[ir];omega
 refine ae.of (λh=>?_) (λh=>?_) <;> simp at h
 · have hlk:(ir (s.take k)).length=k:=by simp[ir];omega
   have hsl:=ho'.all
   obtain⟨v,hv,hrep⟩:=hsl.load1 (i:=(k:Int)) bP rfl rfl (by rw[hll];simpa using h)
   have:=Aw hrep
   subst this
   have eg:(ir (s.take k)++s.drop k)[(k:Int).toNat]'(by rw[hll];simpa using h)=s[k]:=by
     simp only[Int.toNat_natCast]
     rw[List.getElem_append_right (by rw[hlk];exact Nat.le_refl _)]
     simp[hlk]
   rw[eg]at hv
   have hin:(0 <=(k:Int)/\(k:Int)<((s.length:Nat):Int))/\Option.isSome a=true:=⟨⟨by omega,by omega⟩,hsl.isSome (i:=k) (by rw[hll];exact h)⟩
   have hlt:=kY s[k]
   have hlow:=FJ s[k]
   have e1:i64.wrap ((k:Int)+1)=((k+1:Nat):Int):=by rw[wrap_i64 (by omega) (by omega)];omega
   try dsimp only
   rw[e1]
   have hstep:∀x,(ir (s.take k)++s.drop k).set k x=ir (s.take k)++x::s.drop (k+1):=λx=>by
     rw[List.set_append_right _ _ (by rw[hlk];exact Nat.le_refl _),hlk,Nat.sub_self,List.drop_eq_getElem_cons h];rfl
   have hnext:ir (s.take (k+1))++s.drop (k+1)=ir (s.take k)++Gs s[k]::s.drop (k+1):=by
     unfold ir;rw[List.take_succ_eq_append_getElem h,List.map_append,List.append_assoc];rfl
   refine⟨hin,_,hv,λb w''=>w''=w'/\b=decide (65 <=(s[k].toNat:Int)/\(s[k].toNat:Int) <=90),?_,?_⟩
   · refine ae.of (λh2=>?_) (λh2=>?_) <;> simp only[ge_iff_le,dTx,dFx]at h2
     · exact⟨rfl,by simp[h2]⟩
     · exact⟨rfl,by simp[h2]⟩
   · intro b
     refine aC.of ?_ _
     rintro w' ⟨rfl,rfl⟩
     refine ae.of (λh2=>?_) (λh2=>?_) <;> simp only[dTx,dFx]at h2
     · rw[if_pos h2]at hlow
       rw[wrap_u8 (n:=(s[k].toNat:Int)-65) (by omega) (by omega),wrap_u8 (by omega) (by omega)]
       obtain⟨w4,hs4,ho4,hg4⟩:=ho'.store (P:=prog) (bytes:=1) (z:=.int .u8 0) gh (λ_ _ h=>h) (i:=(k:Int)) (by rw[hll];simpa using h) (k:=1) rfl (v:=.int .u8 ((s[k].toNat:Int)-65+97)) (x:=Gs s[k]) (ul (by rw[hlow];omega))
       simp only[Int.toNat_natCast]at ho4
       rw[hstep,<- hnext]at ho4
       exact⟨hin,w4,hs4,s.length-(k+1),by omega,k+1,by omega,rfl,rfl,ho4,⟨hg4.os.trans hg.os,hg4.tape.trans hg.tape,hg4.output.trans hg.output,Nat.le_trans hg.size hg4.size,λq hq hne=>(hg4.block q (Nat.lt_of_lt_of_le hq hg.size) hne).trans (hg.block q hq hne)⟩⟩
     · rw[if_neg h2]at hlow
       have hc:Gs s[k]=s[k]:=MP hlow
       refine⟨s.length-(k+1),by omega,k+1,by omega,rfl,rfl,?_,hg⟩
       rw[hnext,hc,<- List.drop_eq_getElem_cons h];exact ho'
 · have:k=s.length:=by omega
   subst this
   have e2:ir (s.take s.length)++s.drop s.length=ir s:=by simp
   rw[e2]at ho'
   exact⟨_,qN bZ aA bP ho'.all,rfl,hb.grown hg hb.size hf⟩
end Go.Pk
