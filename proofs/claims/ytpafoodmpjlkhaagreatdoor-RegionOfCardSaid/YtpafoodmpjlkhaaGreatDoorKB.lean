/- What the laws lean on: R, Law, Open, Names; what is used. Its conditions: none. -/
import Derived.Test.YtpafoodmpjlkhaaGreatDoorKA
import Derived.Laws.AppendOwn
import Derived.IntWalk
import Derived.Sort.Row
import Derived.SliceStrings
import Derived.ProofKit
import Derived.OpenShut
import Derived.Stop.LaidErr
import Derived.Lib.LaidTab
import Derived.Deep.DeepHandedRow
import Derived.Test.YtpafoodmpjlkhaaGreatDoorRows
set_option linter.unusedVariables false
set_option linter.unusedSimpArgs false
set_option linter.unusedSectionVars false
set_option maxRecDepth 100000
open Go.IntKind (i64)
open Go.Proofs.Tryz
namespace Go.Pk
open Go.RowKit (Below)
open Go.Proofs
abbrev Bl:=Nat->Prop
structure qP (A:Bl)(w w':World):Prop where
 size:w.heap.size <=w'.heap.size
 block:∀b,b<w.heap.size->A b->w'.heap[b]? =w.heap[b]?
theorem qP.refl (A:Bl)(w:World):qP A w w:=⟨Nat.le_refl _,λ_ _ _=>rfl⟩
theorem qP.trans {A:Bl}{a b c:World}(h:qP A a b)(k:qP A b c):qP A a c:=
 ⟨Nat.le_trans h.size k.size,λi hi ha=>(k.block i (Nat.lt_of_lt_of_le hi h.size) ha).trans (h.block i hi ha)⟩
theorem qP.mono {A A':Bl}{w w':World}(h:qP A w w')(ha:∀b,A' b->A b):qP A' w w':=⟨h.size,λb hb hab=>h.block b hb (ha b hab)⟩
theorem yV {w w':World}(h:Below w.heap.size w w')(A:Bl):qP A w w':=⟨h.size,λb hb _=>h.block b hb⟩
theorem gI {w w':World}{row:Option Nat}(h:w.grownBy w' row){A:Bl}(ha:∀b,A b->some b≠row):qP A w w':=⟨h.size,λb hb hab=>h.block b hb (ha b hab)⟩
theorem dj (w:World):Below w.heap.size w w.drew:=(Below.refl _ w).drew
theorem af (w:World)(o:Obj):Below w.heap.size w (w.alloc o):=(Below.refl _ w).alloc (Nat.le_refl _) o
theorem ab {B:Nat}{a b c:World}(h:Below B a b)(k:Below b.heap.size b c)(hB:B <=b.heap.size):Below B a c:=h.trans (k.mono hB)
structure Ty (α:Type) where
 k:Nat
 pos:0<k
 rep:World->Bl->List Value->α->Prop
 len:∀{w A vs x},rep w A vs x->vs.length=k
 one:∀{w A vs x},rep w A vs x->∀v∈vs,v.oneCell'=true
 keep:∀{w w' A vs x},rep w A vs x->qP A w w'->rep w' A vs x
 mono:∀{w A A' vs x},rep w A vs x->(∀b,b<w.heap.size->A b->A' b)->rep w A' vs x
def Ty.enc {α:Type}(e:α->Value)(h1:∀x,(e x).oneCell'=true)(p:α->Prop):Ty α where
 k:=1
 pos:=by decide
 rep:=λ_ _ vs x=>vs=[e x]/\p x
 len:=λh=>by rw[h.1];rfl
 one:=fun{_ _ _ x} h v hv=>by rw[h.1]at hv;simp at hv;rw[hv];exact h1 x
 keep:=λh _=>h
 mono:=λh _=>h
def LD (k:IntKind)(p:Int->Prop):Ty Int:=Ty.enc (λn=>.int k n) (λ_=>rfl) p
def fu:Ty Int:=LD .i64 λ_=>True
def tU8:Ty UInt8:=Ty.enc (λc=>.int .u8 (c.toNat:Nat)) (λ_=>rfl) λ_=>True
def lg:Ty Bool:=Ty.enc (λb=>.bool b) (λ_=>rfl) λ_=>True
def KI (p:List UInt8->Prop):Ty (List UInt8):=Ty.enc (λs=>.string (mkS s)) (λ_=>rfl) p
abbrev tS:Ty (List UInt8):=KI λ_=>True
def NoB:Bl:=λ_=>False
structure TF (P:Program)(t:TypeId)(k bytes:Nat)(z:Value):Prop where
 info:∃i,P.info? t=some i/\i.size=k/\i.bytes=bytes/\i.zero=some z
 cells:z.cells.size=k
 und:∃d,P.underlying t=some d/\(CO d=true\/k=1/\CO d=false)
theorem TF.of {P:Program}{t:TypeId}{k bytes:Nat}{z:Value}(h1:(P.info? t).map (λi=>(i.size,i.bytes,i.zero))=some (k,bytes,some z))(h2:z.cells.size=k)(b:Bool)
   (h3:(P.underlying t).map CO=some b) (h4:b=true\/k=1):TF P t k bytes z:=by
 cases hi:P.info? t with
 | none=>rw[hi]at h1;cases h1
 | some i=>
   rw[hi]at h1
   simp only[Option.map_some,Option.some.injEq,Prod.mk.injEq]at h1
   cases hu:P.underlying t with
   | none=>rw[hu]at h3;cases h3
   | some d=>
     rw[hu]at h3
     simp only[Option.map_some,Option.some.injEq]at h3
     refine⟨⟨i,hi,h1.1,h1.2.1,h1.2.2⟩,h2,d,hu,?_⟩
     cases b with
     | true=>exact .inl h3
     | false=>exact .inr ⟨h4.resolve_left (by simp),h3⟩
structure gy {α:Type}(T:Ty α)(w:World)(A:Bl)(l:List Value)(xs:List α):Prop where
 len:l.length=xs.length*T.k
 rep:∀i (h:i<xs.length),T.rep w A ((l.drop (i*T.k)).take T.k) xs[i]
theorem gy.nil {α:Type}(T:Ty α)(w:World)(A:Bl):gy T w A [] ([]:List α):=⟨by simp,λi h=>by cases h⟩
theorem gy.one {α:Type}{T:Ty α}{w:World}{A:Bl}{vs:List Value}{x:α}(h:T.rep w A vs x):gy T w A vs [x]:=by
 have hl:=T.len h
 refine⟨by simp[hl],λi hi=>?_⟩
 have:i=0:=by simpa using hi
 subst this
 simp only[Nat.zero_mul,List.drop_zero,List.getElem_cons_zero]
 rw[List.take_of_length_le (by omega)];exact h
theorem gy.append {α:Type}{T:Ty α}{w:World}{A:Bl}{l m:List Value}{xs ys:List α}(h:gy T w A l xs)(k:gy T w A m ys):gy T w A (l++m) (xs++ys):=by
 refine⟨by rw[List.length_append,List.length_append,h.len,k.len,Nat.add_mul],λi hi=>?_⟩
 by_cases c:i<xs.length
 · rw[List.getElem_append_left c]
   have h1:=h.rep i c
   have h2:i*T.k+T.k <=l.length:=by
     have:=Nat.mul_le_mul_right T.k (show i+1 <=xs.length from c)
     rw[Nat.add_mul,Nat.one_mul]at this
     rw[h.len];exact this
   rw[List.drop_append_of_le_length (by omega),List.take_append_of_le_length (by rw[List.length_drop];omega)]
   exact h1
 · have hi':i-xs.length<ys.length:=by simp at hi;omega
   rw[List.getElem_append_right (by omega)]
   have h1:=k.rep (i-xs.length) hi'
   have h2:i*T.k=l.length+(i-xs.length)*T.k:=by
     rw[h.len,<- Nat.add_mul];congr 1;omega
   rw[h2,List.drop_length_add_append]
   exact h1
theorem gy.keep {α:Type}{T:Ty α}{w w':World}{A:Bl}{l:List Value}{xs:List α}(h:gy T w A l xs)(hk:qP A w w'):gy T w' A l xs:=⟨h.len,λi hi=>T.keep (h.rep i hi) hk⟩
theorem gy.mono {α:Type}{T:Ty α}{w:World}{A A':Bl}{l:List Value}{xs:List α}(h:gy T w A l xs)(ha:∀b,b<w.heap.size->A b->A' b):gy T w A' l xs:=⟨h.len,λi hi=>T.mono (h.rep i hi) ha⟩
theorem gy.ones {α:Type}{T:Ty α}{w:World}{A:Bl} :∀{xs:List α} {l:List Value},gy T w A l xs->∀v∈l,v.oneCell'=true
 | [],l,h,v,hv=>by have:=h.len;simp at this;subst this;cases hv
 | x::xs,l,h,v,hv=>by
   have hl:=h.len
   have hk:=T.pos
   have h1:=h.rep 0 (by simp)
   rw[Nat.zero_mul,List.drop_zero]at h1
   have h2:gy T w A (l.drop T.k) xs:=by
     refine⟨by rw[List.length_drop,hl];simp[Nat.add_mul],λi hi=>?_⟩
     have:=h.rep (i+1) (by simp;omega)
     simp only[List.getElem_cons_succ]at this
     rw[List.drop_drop]
     rw[Nat.add_mul,Nat.one_mul,Nat.add_comm]at this
     exact this
   rw[<- List.take_append_drop T.k l]at hv
   rcases List.mem_append.1 hv with hv|hv
   · exact T.one h1 v hv
   · exact gy.ones h2 v hv
theorem gy.set {α:Type}{T:Ty α}{w:World}{A:Bl}{l:List Value}{xs:List α}(h:gy T w A l xs){i:Nat}(hi:i<xs.length){vs:List Value}{x:α}(hx:T.rep w A vs x):
   gy T w A (l.take (i*T.k)++vs++l.drop (i*T.k+vs.length)) (xs.set i x):=by
 have hv:=T.len hx
 have hb:i*T.k+T.k <=l.length:=by
   have:=Nat.mul_le_mul_right T.k (show i+1 <=xs.length from hi)
   rw[Nat.add_mul,Nat.one_mul]at this
   rw[h.len];exact this
 refine⟨?_,λj hj=>?_⟩
 · rw[List.length_set,<- h.len,List.length_append,List.length_append,List.length_take,List.length_drop,hv];omega
 · have hj':j<xs.length:=by simpa using hj
   have key:(l.take (i*T.k)++vs++l.drop (i*T.k+vs.length))=l.take (i*T.k)++(vs++l.drop (i*T.k+vs.length)):=List.append_assoc _ _ _
   have htl:(l.take (i*T.k)).length=i*T.k:=by rw[List.length_take];omega
   by_cases c1:j<i
   · have h1:=h.rep j hj'
     have h2:j*T.k+T.k <=i*T.k:=by
       have:=Nat.mul_le_mul_right T.k (show j+1 <=i from c1)
       rwa [Nat.add_mul,Nat.one_mul]at this
     rw[List.getElem_set_ne (by omega),key,List.drop_append_of_le_length (by omega),List.take_append_of_le_length (by rw[List.length_drop];omega)]
     rw[List.drop_take,List.take_take]
     rw[show min T.k (i*T.k-j*T.k)=T.k by omega]
     exact h1
   · by_cases c2:j=i
     · subst c2
       rw[List.getElem_set_self,key,List.drop_left' htl,<- hv,List.take_left]
       exact hx
     · have h1:=h.rep j hj'
       have h2:i*T.k+T.k <=j*T.k:=by
         have:=Nat.mul_le_mul_right T.k (show i+1 <=j by omega)
         rwa [Nat.add_mul,Nat.one_mul]at this
       rw[List.getElem_set_ne (by omega)]
       have e1:(l.take (i*T.k)++vs++l.drop (i*T.k+vs.length)).drop (j*T.k)=l.drop (j*T.k):=by
         have e2:j*T.k=(l.take (i*T.k)++vs).length+(j*T.k-(i*T.k+T.k)):=by rw[List.length_append,htl,hv];omega
         rw[e2,List.drop_length_add_append,List.drop_drop]
         congr 1
         omega
       rw[e1];exact h1
def At {α:Type}(T:Ty α)(w:World)(A:Bl)(b off:Nat)(xs:List α):Prop:=
 ∃l:List Value,gy T w A l xs/\∀j,j<l.length->w.cell? ⟨b,off+j,none⟩=l[j]?
def Sl {α:Type}(T:Ty α)(w:World)(A:Bl)(a:Option Addr)(n c:Nat)(xs:List α):Prop:=
 n=xs.length/\n <=c/\c <=maxLen/\(xs=[]\/∃b off,a=some ⟨b,off,none⟩/\b<w.heap.size/\A b/\At T w A b off xs)
theorem iY {w w':World}{b:Nat}(h:w'.heap[b]? =w.heap[b]?)(o:Nat):w'.cell? ⟨b,o,none⟩=w.cell? ⟨b,o,none⟩:=by simp[World.cell?,h]
theorem At.keep {α:Type}{T:Ty α}{w w':World}{A:Bl}{b off:Nat}{xs:List α}(h:At T w A b off xs)(hb:b<w.heap.size)(ha:A b)(hk:qP A w w'):At T w' A b off xs:=by
 obtain⟨l,h1,h2⟩:=h
 exact⟨l,h1.keep hk,λj hj=>by rw[iY (hk.block b hb ha)];exact h2 j hj⟩
theorem Sl.keep {α:Type}{T:Ty α}{w w':World}{A:Bl}{a:Option Addr}{n c:Nat}{xs:List α}(h:Sl T w A a n c xs)(hk:qP A w w'):Sl T w' A a n c xs:=by
 obtain⟨h1,h2,h3,h4⟩:=h
 refine⟨h1,h2,h3,?_⟩
 rcases h4 with h4|⟨b,off,e,hb,ha,h4⟩
 · exact .inl h4
 · exact .inr ⟨b,off,e,Nat.lt_of_lt_of_le hb hk.size,ha,h4.keep hb ha hk⟩
theorem Sl.below {α:Type}{T:Ty α}{w w':World}{A:Bl}{a:Option Addr}{n c:Nat}{xs:List α}(h:Sl T w A a n c xs)(hk:Below w.heap.size w w'):Sl T w' A a n c xs:=h.keep (yV hk A)
theorem Sl.mono {α:Type}{T:Ty α}{w:World}{A A':Bl}{a:Option Addr}{n c:Nat}{xs:List α}(h:Sl T w A a n c xs)(ha:∀b,b<w.heap.size->A b->A' b):Sl T w A' a n c xs:=by
 obtain⟨h1,h2,h3,h4⟩:=h
 refine⟨h1,h2,h3,?_⟩
 rcases h4 with h4|⟨b,off,e,hb,hab,h4⟩
 · exact .inl h4
 · obtain⟨l,h5,h6⟩:=h4
   exact .inr ⟨b,off,e,hb,ha b hb hab,l,h5.mono ha,h6⟩
theorem Sl.len {α:Type}{T:Ty α}{w:World}{A:Bl}{a:Option Addr}{n c:Nat}{xs:List α}(h:Sl T w A a n c xs):n=xs.length:=h.1
theorem Sl.le {α:Type}{T:Ty α}{w:World}{A:Bl}{a:Option Addr}{n c:Nat}{xs:List α}(h:Sl T w A a n c xs):xs.length <=9223372036854775807:=by
 have h1:=h.1;have h2:=h.2.1;have h3:=h.2.2.1;unfold maxLen at h3;omega
theorem Sl.nil {α:Type}(T:Ty α)(w:World)(A:Bl)(a:Option Addr)(c:Nat)(hc:c <=maxLen):Sl T w A a 0 c ([]:List α):=⟨rfl,Nat.zero_le _,hc,.inl rfl⟩
theorem Sl.isSome {α:Type}{T:Ty α}{w:World}{A:Bl}{a:Option Addr}{n c:Nat}{xs:List α}(h:Sl T w A a n c xs){i:Nat}(hi:i<xs.length):Option.isSome a=true:=by
 rcases h.2.2.2 with h4|⟨b,off,e,_⟩
 · subst h4;cases hi
 · rw[e];rfl
theorem dq (b o j:Nat):(⟨b,o,none⟩:Addr).add j=⟨b,o+j,none⟩:=by
 unfold Addr.add;split <;> simp_all
theorem cV {P:Program}{t:TypeId}{d:TypeDesc}(hu:P.underlying t=some d)(ha:CO d=false){w:World}{p:Addr}{v:Value}(hc:w.cell? p=some v):
   (loadVar t p).run P w=.ok v w:=by
 unfold loadVar
 rw[Sem.run_bind,nX hu,ha]
 simp[hc]
theorem Cq {P:Program}{w:World}{b off:Nat}{vs:List Value}(h:∀j,j<vs.length->w.cell? ⟨b,off+j,none⟩=vs[j]?):(loadCells ⟨b,off,none⟩ vs.length).run P w=.ok vs.toArray w:=
 run_loadCells_list (P:=P) w ⟨b,off,none⟩ vs λj v hv=>by
   rw[dq,h j (by have:=(List.getElem?_eq_some_iff.1 hv).1;exact this)];exact hv
theorem vY {P:Program}{t:TypeId}{d:TypeDesc}{i:TypeInfo}(hu:P.underlying t=some d)(ha:CO d=true)(hi:P.info? t=some i){w:World}{b off:Nat}{vs:List Value}(hl:vs.length=i.size)
   (h:∀j,j<vs.length->w.cell? ⟨b,off+j,none⟩=vs[j]?):(loadVar t ⟨b,off,none⟩).run P w=.ok (.agg vs.toArray) w:=by
 unfold loadVar
 rw[Sem.run_bind,nX hu,ha]
 have:=Cq (P:=P) h
 rw[hl]at this
 simp[dM hi,this]
theorem zX (b off:Nat)(i:Int)(k:Nat):am (some ⟨b,off,none⟩) i k=some ⟨b,off+i.toNat*k,none⟩:=by
 simp[am,dq]
theorem At.elem {α:Type}{T:Ty α}{w:World}{A:Bl}{b off:Nat}{xs:List α}(h:At T w A b off xs){i:Nat}(hi:i<xs.length):
   ∃vs,T.rep w A vs xs[i]/\∀j,j<T.k->w.cell? ⟨b,off+i*T.k+j,none⟩=vs[j]? :=by
 obtain⟨l,h1,h2⟩:=h
 have hb:i*T.k+T.k <=l.length:=by
   have:=Nat.mul_le_mul_right T.k (show i+1 <=xs.length from hi)
   rw[Nat.add_mul,Nat.one_mul]at this
   rw[h1.len];exact this
 refine⟨_,h1.rep i hi,λj hj=>?_⟩
 rw[Nat.add_assoc,h2 _ (by omega),List.getElem?_take,if_pos hj,List.getElem?_drop]
theorem Sl.load1 {α:Type}{T:Ty α}{P:Program}{t:TypeId}{d:TypeDesc}(hu:P.underlying t=some d)(ha:CO d=false)(hk:T.k=1)
   {w:World} {A:Bl} {a:Option Addr} {n c:Nat} {xs:List α} (h:Sl T w A a n c xs) {i:Int} (hi:i.toNat<xs.length):
   ∃v,(Instr.loadAt t (.pointer (am a i 1))).run P w=.ok v w/\T.rep w A [v] xs[i.toNat]:=by
 rcases h.2.2.2 with h4|⟨b,off,e,hb,hab,h4⟩
 · subst h4;cases hi
 · obtain⟨vs,h5,h6⟩:=h4.elem hi
   have hl:=T.len h5
   rw[hk]at hl
   match vs,hl with
   | [v],_=>
     refine⟨v,?_,h5⟩
     have h7:=h6 0 (by rw[hk];decide)
     rw[hk]at h7
     rw[e,zX]
     show(do loadVar t (<- Instr.sureAddr (.pointer (some _)))).run P w=_
     rw[Sem.run_bind,fH]
     exact cV hu ha (by simpa using h7)
theorem Sl.loadA {α:Type}{T:Ty α}{P:Program}{t:TypeId}{d:TypeDesc}{ti:TypeInfo}(hu:P.underlying t=some d)(ha:CO d=true)(hi':P.info? t=some ti){k:Nat}(hk:T.k=k)(hs:ti.size=k)
   {w:World} {A:Bl} {a:Option Addr} {n c:Nat} {xs:List α} (h:Sl T w A a n c xs) {i:Int} (hi:i.toNat<xs.length):
   ∃vs,(Instr.loadAt t (.pointer (am a i k))).run P w=.ok (.agg vs.toArray) w/\T.rep w A vs xs[i.toNat]:=by
 subst hk
 rcases h.2.2.2 with h4|⟨b,off,e,hb,hab,h4⟩
 · subst h4;cases hi
 · obtain⟨vs,h5,h6⟩:=h4.elem hi
   have hl:=T.len h5
   refine⟨vs,?_,h5⟩
   rw[e,zX]
   show(do loadVar t (<- Instr.sureAddr (.pointer (some _)))).run P w=_
   rw[Sem.run_bind,fH]
   exact vY hu ha hi' (by omega) λj hj=>h6 j (by omega)
def bu (a:Option Addr):Option Nat:=a.map (·.block)
def Ow {α:Type}(T:Ty α)(t:TypeId)(w:World)(A:Bl)(a:Option Addr)(n c:Nat)(xs:List α):Prop:=
 n=xs.length/\n <=c/\c <=maxLen/\((a=none/\c=0/\xs=[])\/
   ∃g cur fr,a=some ⟨g,0,none⟩/\w.heap[g]? =some (.cells cur t fr)/\(∀i,i<cur.size-> ¬ (fr.1 <=i/\i<fr.2))/\cur.size=c*T.k/\gy T w A (cur.toList.take (n*T.k)) xs)
theorem Ow.nil {α:Type}(T:Ty α)(t:TypeId)(w:World)(A:Bl):Ow T t w A none 0 0 ([]:List α):=⟨rfl,Nat.le_refl _,Nat.zero_le _,.inl ⟨rfl,rfl,rfl⟩⟩
theorem Ow.len {α:Type}{T:Ty α}{t:TypeId}{w:World}{A:Bl}{a:Option Addr}{n c:Nat}{xs:List α}(h:Ow T t w A a n c xs):n=xs.length:=h.1
theorem Ow.le {α:Type}{T:Ty α}{t:TypeId}{w:World}{A:Bl}{a:Option Addr}{n c:Nat}{xs:List α}(h:Ow T t w A a n c xs):xs.length <=9223372036854775807:=by
 have h1:=h.1;have h2:=h.2.1;have h3:=h.2.2.1;unfold maxLen at h3;omega
theorem Ow.lt {α:Type}{T:Ty α}{t:TypeId}{w:World}{A:Bl}{a:Option Addr}{n c:Nat}{xs:List α}(h:Ow T t w A a n c xs):∀g,bu a=some g->g<w.heap.size:=by
 intro g hg
 rcases h.2.2.2 with⟨e,_⟩|⟨g',cur,fr,e,hh,_⟩
 · rw[e]at hg;cases hg
 · rw[e]at hg;simp[bu]at hg;subst hg;exact(Array.getElem?_eq_some_iff.1 hh).1
theorem Ow.keep {α:Type}{T:Ty α}{t:TypeId}{w w':World}{A:Bl}{a:Option Addr}{n c:Nat}{xs:List α}(h:Ow T t w A a n c xs)(hk:qP (λb=>A b\/some b=bu a) w w'):Ow T t w' A a n c xs:=by
 have hlt:=h.lt
 obtain⟨h1,h2,h3,h4⟩:=h
 refine⟨h1,h2,h3,?_⟩
 rcases h4 with h4|⟨g,cur,fr,e,hh,hf,hs,h4⟩
 · exact .inl h4
 · refine .inr ⟨g,cur,fr,e,?_,hf,hs,h4.keep (hk.mono λ_ h=>.inl h)⟩
   rw[hk.block g (hlt g (by rw[e];rfl)) (.inr (by rw[e];rfl))];exact hh
theorem Ow.below {α:Type}{T:Ty α}{t:TypeId}{w w':World}{A:Bl}{a:Option Addr}{n c:Nat}{xs:List α}(h:Ow T t w A a n c xs)(hk:Below w.heap.size w w'):Ow T t w' A a n c xs:=h.keep (yV hk _)
theorem Ow.mono {α:Type}{T:Ty α}{t:TypeId}{w:World}{A A':Bl}{a:Option Addr}{n c:Nat}{xs:List α}(h:Ow T t w A a n c xs)(ha:∀b,b<w.heap.size->A b->A' b):Ow T t w A' a n c xs:=by
 obtain⟨h1,h2,h3,h4⟩:=h
 refine⟨h1,h2,h3,?_⟩
 rcases h4 with h4|⟨g,cur,fr,e,hh,hf,hs,h4⟩
 · exact .inl h4
 · exact .inr ⟨g,cur,fr,e,hh,hf,hs,h4.mono ha⟩
theorem Ow.sl {α:Type}{T:Ty α}{t:TypeId}{w:World}{A A':Bl}{a:Option Addr}{n c:Nat}{xs:List α}(h:Ow T t w A a n c xs)(hA:∀b,b<w.heap.size->A b->A' b)(hg:∀g,bu a=some g->A' g):
   Sl T w A' a n c xs:=by
 have hlt:=h.lt
 obtain⟨h1,h2,h3,h4⟩:=h
 refine⟨h1,h2,h3,?_⟩
 rcases h4 with⟨_,_,h4⟩|⟨g,cur,fr,e,hh,hf,hs,h4⟩
 · exact .inl h4
 · refine .inr ⟨g,0,e,hlt g (by rw[e];rfl),hg g (by rw[e];rfl),_,h4.mono hA,λj hj=>?_⟩
   rw[List.length_take]at hj
   rw[cell_of_row w g _ cur t fr hh,Nat.zero_add,List.getElem?_take,if_pos (by omega)]
   simp
abbrev iv:Bl:=λ_=>True
theorem Ow.all {α:Type}{T:Ty α}{t:TypeId}{w:World}{A:Bl}{a:Option Addr}{n c:Nat}{xs:List α}(h:Ow T t w A a n c xs):Sl T w iv a n c xs:=h.sl (λ_ _ _=>trivial) (λ_ _=>trivial)
def bp (B:Nat)(a:Option Addr):Prop:=∀g,bu a=some g->B <=g
theorem bp.none (B:Nat):bp B none:=λ_ h=>by cases h
theorem bp.mono {B B':Nat}{a:Option Addr}(h:bp B a)(hb:B' <=B):bp B' a:=λg hg=>Nat.le_trans hb (h g hg)
theorem setRow_size (w:World)(g:Nat)(cs:Array Value):(w.setRow g cs).heap.size=w.heap.size:=by simp[World.setRow]
theorem fI (w:World)(g:Nat)(cs:Array Value):w.grownBy (w.setRow g cs) (some g):=
 ⟨rfl,rfl,rfl,by rw[setRow_size];exact Nat.le_refl _,λk _ hk=>setRow_other w g k cs λe=>hk (by rw[e])⟩
theorem eG {w:World}{g:Nat}{cur:Array Value}{t:TypeId}{fr:Nat×Nat}(hg:w.heap[g]? =some (.cells cur t fr))(o:Nat):w.cell? ⟨g,o,none⟩=cur[o]? :=cell_of_row w g o cur t fr hg
theorem zb {w:World}{g o:Nat}{cur:Array Value}{t:TypeId}{fr:Nat×Nat}(hg:w.heap[g]? =some (.cells cur t fr))(hf: ¬ (fr.1 <=o/\o<fr.2)):w.frozen? ⟨g,o,none⟩=false:=by
 obtain⟨lo,hi⟩:=fr
 simp only[World.frozen?,hg]
 simpa using hf
theorem AY {P:Program}{w:World}{g o:Nat}{cur:Array Value}{t:TypeId}{fr:Nat×Nat}(hg:w.heap[g]? =some (.cells cur t fr))(ho:o<cur.size)(hf: ¬ (fr.1 <=o/\o<fr.2))
   {v:Value} (h1:v.oneCell'=true):(store ⟨g,o,none⟩ v).run P w=.ok () (w.setRow g (cur.setIfInBounds o v)):=by
 rw[run_store P w _ v .plain h1,eG hg,zb hg hf,Array.getElem?_eq_getElem ho]
 simp only[Bool.false_eq_true,if_false]
 congr 1
 obtain⟨heap,tape,drawn,os,output⟩:=w
 simp only[World.setCell,World.setRow]
 congr 1
 apply Array.ext_getElem?
 intro k
 rw[Array.getElem?_modify,Array.getElem?_modify]
 by_cases hk:g=k
 · subst hk
   simp only[if_true]
   have hg':heap[g]? =some (.cells cur t fr):=hg
   rw[hg']
   rfl
 · simp only[if_neg hk]
theorem ic {P:Program}(g o:Nat)(t:TypeId)(fr:Nat×Nat):∀(vs:List Value) (i:Nat) (cur:Array Value) (w:World),w.heap[g]? =some (.cells cur t fr)->o+i+vs.length <=cur.size->
   (∀j,j<cur.size-> ¬ (fr.1 <=j/\j<fr.2))->(∀v∈vs,v.oneCell'=true)->
   (storeCells ⟨g,o,none⟩ vs i).run P w=.ok () (w.setRow g (cur.toList.take (o+i)++vs++cur.toList.drop (o+i+vs.length)).toArray)
 | [],i,cur,w,hg,_,_,_=>by
   simp only[storeCells,List.append_nil,List.length_nil,Nat.add_zero,List.take_append_drop,Array.toArray_toList]
   rw[setRow_self w g cur t fr hg]
   rfl
 | v::rest,i,cur,w,hg,hl,hf,h1=>by
   have hi:o+i<cur.size:=by simp at hl;omega
   simp only[storeCells,Sem.run_bind,dq]
   rw[AY hg hi (hf _ hi) (h1 v List.mem_cons_self),Result.andThen_ok]
   rw[ic g o t fr rest (i+1) (cur.setIfInBounds (o+i) v) _ (setRow_heap w g cur _ t fr hg) (by simp at hl ⊢;omega)
     (λj hj=>hf j (by simpa using hj)) (λu hu=>h1 u (List.mem_cons_of_mem _ hu))]
   congr 1
   have e2:∀(a b:Array Value),(w.setRow g a).setRow g b=w.setRow g b:=by
     intro a b
     obtain⟨heap,tape,drawn,os,output⟩:=w
     simp only[World.setRow]
     congr 1
     apply Array.ext_getElem?
     intro k
     rw[Array.getElem?_modify,Array.getElem?_modify,Array.getElem?_modify]
     by_cases hk:g=k
     · subst hk
       have hg':heap[g]? =some (.cells cur t fr):=hg
       simp[hg']
     · simp only[if_neg hk]
   rw[e2]
   congr 1
   apply Array.ext'
   simp only[Array.toList_setIfInBounds,List.length_cons]
   apply List.ext_getElem?
   intro k
   have hlen:cur.toList.length=cur.size:=by simp
   simp only[List.getElem?_append,List.length_append,List.length_take,List.length_set,List.getElem?_take,List.getElem?_drop,List.length_cons,hlen,List.getElem?_set]
   by_cases c1:k<o+i
   · have: ¬ o+i=k:=by omega
     simp[c1,this,show k<min (o+(i+1)) cur.size by omega,show k<min (o+i) cur.size by omega,show k<o+(i+1) by omega,
       show k<min (o+(i+1)) cur.size+rest.length by omega,show k<min (o+i) cur.size+(rest.length+1) by omega]
   · by_cases c2:k=o+i
     · subst c2
       have e3:min (o+i) cur.size=o+i:=by omega
       have e4:min (o+(i+1)) cur.size=o+i+1:=by omega
       simp[e3,e4,hi,show o+i<o+i+1+rest.length by omega,show o+i<o+(i+1) by omega]
     · have e3:min (o+i) cur.size=o+i:=by omega
       have e4:min (o+(i+1)) cur.size=o+i+1:=by omega
       by_cases c3:k<o+i+1+rest.length
       · have e5:k-(o+i)=(k-(o+i+1))+1:=by omega
         simp[e3,e4,c3,show k<o+i+(rest.length+1) by omega,show ¬ k<o+i+1 by omega,show ¬ k<o+i by omega,e5]
       · have e6: ¬ o+i=o+(i+1)+rest.length+(k-(o+i+1+rest.length)):=by omega
         have e7:o+(i+1)+rest.length+(k-(o+i+1+rest.length))=o+i+(rest.length+1)+(k-(o+i+(rest.length+1))):=by omega
         simp[e3,e4,c3,show ¬ k<o+i+(rest.length+1) by omega,e7]
         intro h;omega
def Src {α:Type}(T:Ty α)(w:World)(A:Bl)(y:Option Addr)(m:Nat)(ys:List α):Prop:=
 m=ys.length/\(ys=[]\/∃b off,y=some ⟨b,off,none⟩/\At T w A b off ys)
def Flat {α:Type}(T:Ty α):Prop:=∀w A w' A' vs x,T.rep w A vs x->T.rep w' A' vs x
theorem gy.flat {α:Type}{T:Ty α}(hf:Flat T){w w':World}{A A':Bl}{l:List Value}{xs:List α}(h:gy T w A l xs):gy T w' A' l xs:=⟨h.len,λi hi=>hf _ _ _ _ _ _ (h.rep i hi)⟩
theorem Sl.flat {α:Type}{T:Ty α}(hf:Flat T){w:World}{A A':Bl}{a:Option Addr}{n c:Nat}{xs:List α}(h:Sl T w A a n c xs):Src T w A' a n xs:=by
 obtain⟨h1,h2,h3,h4⟩:=h
 refine⟨h1,?_⟩
 rcases h4 with h4|⟨b,off,e,hb,hab,l,h5,h6⟩
 · exact .inl h4
 · exact .inr ⟨b,off,e,l,h5.flat hf,h6⟩
theorem Src.new1F {α:Type}{T:Ty α}(hf:Flat T){w:World}{A:Bl}{vs:List Value}{x:α}{t:TypeId}{b:Nat}{w':World}(hb:b=w.heap.size)(hw:w'=w.alloc (.cells vs.toArray t))(h:T.rep w A vs x):
   Src T w' A (some ⟨b,0,none⟩) 1 [x]:=by
 subst hb hw
 refine⟨rfl,.inr ⟨_,0,rfl,vs,gy.one (hf _ _ _ _ _ _ h),λj hj=>?_⟩⟩
 rw[eG (heap_alloc_new w _),Nat.zero_add]
 simp
theorem vh {w:World}{b off:Nat}{l:List Value}(h:∀j,j<l.length->w.cell? ⟨b,off+j,none⟩=l[j]?):∀j v,l[j]? =some v->w.cell? ((⟨b,off,none⟩:Addr).add j)=some v:=λj v hv=>by
 rw[dq,h j (List.getElem?_eq_some_iff.1 hv).1];exact hv
theorem co {α:Type}{T:Ty α}{P:Program}{st t ty:TypeId}{bytes:Nat}{z:Value}(hu:P.underlying st=some (.slice t))(tf:TF P t T.k bytes z)(hb0:0<bytes)
   {w:World} {A:Bl} {a:Option Addr} {n c:Nat} {xs:List α} (ho:Ow T t w A a n c xs) (hA:∀g,bu a=some g-> ¬ A g)
   {y:Option Addr} {m cm:Nat} {ys:List α} (hs:Src T w A y m ys) (hbound:(xs.length+ys.length)*bytes <=140737488355328):
   ∃(w':World) (a':Option Addr) (n' c':Nat),(Builtin.append_ #[st,st] ty #[.slice a n c,.slice y m cm]).run P w=.ok (.slice a' n' c') w'/\Ow T t w' A a' n' c' (xs++ys)/\w.grownBy w' (bu a)/\
     (∀g,bu a'=some g->bu a=some g\/w.heap.size <=g):=by
 obtain⟨i,hi,hsz,hby,hz⟩:=tf.info
 have hzc:=tf.cells
 have hpos:=T.pos
 obtain⟨hn,hnc,hcm,ho4⟩:=ho
 obtain⟨hm,hs2⟩:=hs
 subst hn hm
 have hsum:xs.length+ys.length <=140737488355328:=Nat.le_trans (Nat.le_mul_of_pos_right _ hb0) hbound
 have hml:xs.length+ys.length <=maxLen:=by unfold maxLen;omega
 have hkeepA:∀{w'},w.grownBy w' (bu a)->qP A w w':=λhg=>gI hg λb hb e=>hA b e.symm hb
 rcases ho4 with⟨rfl,rfl,rfl⟩|⟨g,cur,fr,rfl,hg,hf,hcs,hrep⟩
 ·
   rcases hs2 with rfl|⟨b,off,rfl,l,hl,hcl⟩
   · refine⟨w,none,0,0,?_,Ow.nil T t w A,⟨rfl,rfl,rfl,Nat.le_refl _,λ_ _ _=>rfl⟩,λg h=>by cases h⟩
     have hfc:(Builtin.firstCells i.size 0 (.slice y 0 cm)).run P w=.ok #[] w:=by
       cases y with
       | none=>rfl
       | some y=>simp[Builtin.firstCells,loadCells,loadCellsFrom]
     simp[Builtin.append_,bh hu,dM hi,Builtin.lenOf,hfc]
   · by_cases h0:ys.length=0
     · have:ys=[]:=List.eq_nil_of_length_eq_zero h0
       subst this
       refine⟨w,none,0,0,?_,Ow.nil T t w A,⟨rfl,rfl,rfl,Nat.le_refl _,λ_ _ _=>rfl⟩,λg h=>by cases h⟩
       simp[Builtin.append_,bh hu,dM hi,Builtin.lenOf,Builtin.firstCells,loadCells,loadCellsFrom]
     · have hr:=run_append_nil (P:=P) w st ty t i z hu hi hz ⟨b,off,none⟩ ys.length cm l (by rw[hl.len,hsz]) (vh hcl) (by omega) (by simp at hsum;omega) (by rw[hby];simp at hbound;omega)
       refine⟨_,_,_,_,hr,?_,⟨rfl,rfl,rfl,by simp,λk hk _=>heap_alloc_old w.drew _ k hk⟩,λg h=>.inr (by simp[bu]at h;omega)⟩
       have hge:=grownCap_ge w ys.length 0 t
       have hcm':grownCap w ys.length 0 t <=maxLen:=grownCap_le_maxLen w ys.length 0 t (by simp at hml;exact hml)
       refine⟨by simp,hge,hcm',.inr ⟨_,_,(0,0),rfl,heap_alloc_new w.drew _,λi _=>by simp,?_,?_⟩⟩
       · simp only[Array.size_append,List.size_toArray,size_zeroCells,hzc,hl.len,<- Nat.add_mul]
         congr 1;omega
       · rw[List.nil_append]
         simp only[Array.toList_append]
         rw[<- hl.len,List.take_left]
         exact hl.keep ⟨by simp,λk hk _=>heap_alloc_old w.drew _ k hk⟩
 · have hlt:g<w.heap.size:=(Array.getElem?_eq_some_iff.1 hg).1
   have hxl:(cur.toList.take (xs.length*T.k)).length=xs.length*T.k:=hrep.len
   obtain⟨l,hl,hfirst⟩:∃l,gy T w A l ys/\(Builtin.firstCells i.size ys.length (.slice y ys.length cm)).run P w=.ok l.toArray w:=by
     rcases hs2 with rfl|⟨b,off,rfl,l,hl,hcl⟩
     · refine⟨[],gy.nil T w A,?_⟩
       cases y with
       | none=>rfl
       | some y=>simp[Builtin.firstCells,loadCells,loadCellsFrom]
     · exact⟨l,hl,run_firstCells_some (P:=P) w i.size ys.length ⟨b,off,none⟩ _ _ l (by rw[hl.len,hsz]) (vh hcl)⟩
   have hlapp:((cur.toList.take (xs.length*T.k))++l).length=(xs.length+ys.length)*T.k:=by rw[List.length_append,hxl,hl.len,Nat.add_mul]
   by_cases hroom:xs.length+ys.length <=c
   · have hfit:xs.length*T.k+l.length <=cur.size:=by rw[hl.len,hcs,<- Nat.add_mul];exact Nat.mul_le_mul_right _ hroom
     have hst:=ic (P:=P) g (xs.length*T.k) t fr l 0 cur w hg (by simpa using hfit) hf hl.ones
     simp only[Nat.add_zero]at hst
     refine⟨w.setRow g (cur.toList.take (xs.length*T.k)++l++cur.toList.drop (xs.length*T.k+l.length)).toArray,some ⟨g,0,none⟩,xs.length+ys.length,c,?_,?_,fI w g _,λg' h=>.inl h⟩
     · have hadd:(⟨g,0,none⟩:Addr).add (xs.length*i.size)=⟨g,xs.length*T.k,none⟩:=by rw[dq,hsz,Nat.zero_add]
       simp only[Builtin.append_,Sem.run_bind,bh hu,dM hi,Builtin.lenOf,Sem.run_pure,Result.andThen_ok,hroom,List.getElem?_toArray,List.getElem?_cons_zero,List.getElem?_cons_succ,if_true,Bool.false_eq_true,if_false,Bool.not_false,hfirst,hadd,hst]
     · refine⟨by simp,hroom,hcm,.inr ⟨g,_,fr,rfl,setRow_heap w g cur _ t fr hg,?_,?_,?_⟩⟩
       · intro j hj
         refine hf j ?_
         simp at hj;omega
       · simp;omega
       · have e:((cur.toList.take (xs.length*T.k)++l++cur.toList.drop (xs.length*T.k+l.length)).toArray).toList.take ((xs.length+ys.length)*T.k)=cur.toList.take (xs.length*T.k)++l:=by
           rw[<- hlapp];simp only[];exact List.take_left
         rw[e]
         exact(hrep.append hl).keep (hkeepA (fI w g _))
   · have holds:∀j v,(cur.toList.take (xs.length*T.k))[j]? =some v->w.cell? ((⟨g,0,none⟩:Addr).add j)=some v:=λj v hv=>by
       rw[dq,Nat.zero_add,eG hg]
       rw[List.getElem?_take]at hv
       split at hv
       · simpa using hv
       · cases hv
     have hne:ys≠[]:=by
       intro e;subst e;simp at hroom;omega
     rcases hs2 with rfl|⟨b,off,rfl,l',hl',hcl⟩
     · exact absurd rfl hne
     · have hr:=run_append_grow (P:=P) w st ty t i z hu hi hz ⟨g,0,none⟩ xs.length c (cur.toList.take (xs.length*T.k)) (by rw[hxl,hsz]) holds ⟨b,off,none⟩ ys.length cm l' (by rw[hl'.len,hsz]) (vh hcl)
         (by omega) (by omega) (growslice_fits (by omega) (by rw[hby];exact hbound))
       refine⟨_,_,_,_,hr,?_,⟨rfl,rfl,rfl,by simp,λk hk _=>heap_alloc_old w.drew _ k hk⟩,λg' h=>.inr (by simp[bu]at h;omega)⟩
       have hge:=grownCap_ge w (xs.length+ys.length) c t
       have hcm':grownCap w (xs.length+ys.length) c t <=maxLen:=grownCap_le_maxLen w _ c t hml
       have hlapp':((cur.toList.take (xs.length*T.k))++l').length=(xs.length+ys.length)*T.k:=by rw[List.length_append,hxl,hl'.len,Nat.add_mul]
       refine⟨by simp,hge,hcm',.inr ⟨_,_,(0,0),rfl,heap_alloc_new w.drew _,λi _=>by simp,?_,?_⟩⟩
       · simp only[Array.size_append,List.size_toArray,size_zeroCells,hzc,hxl,hl'.len,<- Nat.add_mul]
         congr 1;omega
       · simp only[Array.toList_append]
         rw[<- hlapp',List.take_left]
         exact(hrep.append hl').keep ⟨by simp,λk hk _=>heap_alloc_old w.drew _ k hk⟩
theorem run_storeVar_row {P:Program}{t u:TypeId}{ti:TypeInfo}(hi:P.info? t=some ti){w:World}{g o:Nat}{cur:Array Value}{fr:Nat×Nat}(hg:w.heap[g]? =some (.cells cur u fr))
   (hf:∀i,i<cur.size-> ¬ (fr.1 <=i/\i<fr.2)) {v:Value} (hs:v.cells.size=ti.size) (hfit:o+ti.size <=cur.size) (h1:∀c∈v.cells.toList,c.oneCell'=true):
   (Instr.storeAt t (.pointer (some ⟨g,o,none⟩)) v).run P w=.ok () (w.setRow g (cur.toList.take o++v.cells.toList++cur.toList.drop (o+v.cells.size)).toArray):=by
 show(do storeVar t (<- Instr.sureAddr (.pointer (some ⟨g,o,none⟩))) v).run P w=_
 rw[Sem.run_bind,fH,Result.andThen_ok]
 unfold storeVar
 rw[Sem.run_bind,dM hi,Result.andThen_ok,if_neg (by simp[hs])]
 have:=ic (P:=P) g o u fr v.cells.toList 0 cur w hg (by simp;omega) hf h1
 simpa using this
theorem Ow.store {α:Type}{T:Ty α}{P:Program}{t:TypeId}{bytes:Nat}{z:Value}(tf:TF P t T.k bytes z){w:World}{A:Bl}{a:Option Addr}{n c:Nat}{xs:List α}(ho:Ow T t w A a n c xs)(hA:∀g,bu a=some g-> ¬ A g)
   {i:Int} (hi:i.toNat<xs.length) {k:Nat} (hk:T.k=k) {v:Value} {x:α} (hv:T.rep w A v.cells.toList x):
   ∃w',(Instr.storeAt t (.pointer (am a i k)) v).run P w=.ok () w'/\Ow T t w' A a n c (xs.set i.toNat x)/\w.grownBy w' (bu a):=by
 subst hk
 obtain⟨ti,hti,hsz,_,_⟩:=tf.info
 have hvl:=T.len hv
 have hA':=hA
 obtain⟨hn,hnc,hcm,ho4⟩:=ho
 rcases ho4 with⟨_,_,rfl⟩|⟨g,cur,fr,rfl,hg,hf,hcs,hrep⟩
 · cases hi
 · subst hn
   have hb:i.toNat*T.k+T.k <=xs.length*T.k:=by
     have:=Nat.mul_le_mul_right T.k (show i.toNat+1 <=xs.length from hi)
     rwa [Nat.add_mul,Nat.one_mul]at this
   have hb2:xs.length*T.k <=cur.size:=by rw[hcs];exact Nat.mul_le_mul_right _ hnc
   have hvs:v.cells.size=T.k:=by simpa using hvl
   rw[zX,Nat.zero_add]
   refine⟨_,run_storeVar_row hti hg hf (by rw[hvs,hsz]) (by rw[hsz];omega) (T.one hv),?_,fI w g _⟩
   refine⟨by simp,hnc,hcm,.inr ⟨g,_,fr,rfl,setRow_heap w g cur _ t fr hg,?_,?_,?_⟩⟩
   · intro j hj
     refine hf j ?_
     simp at hj;omega
   · simp;omega
   · have h1:=(hrep.set hi hv).keep (gI (fI w g (cur.toList.take (i.toNat*T.k)++v.cells.toList++cur.toList.drop (i.toNat*T.k+v.cells.size)).toArray) λb hb e=>hA g rfl (by cases e;exact hb))
     have e:((cur.toList.take (i.toNat*T.k)++v.cells.toList++cur.toList.drop (i.toNat*T.k+v.cells.size)).toArray).toList.take (xs.length*T.k)=
         (cur.toList.take (xs.length*T.k)).take (i.toNat*T.k)++v.cells.toList++(cur.toList.take (xs.length*T.k)).drop (i.toNat*T.k+v.cells.toList.length):=by
       simp only[]
       have e1:(cur.toList.take (xs.length*T.k)).take (i.toNat*T.k)=cur.toList.take (i.toNat*T.k):=by rw[List.take_take];congr 1;omega
       rw[e1,List.take_append,List.drop_take]
       have e2:(cur.toList.take (i.toNat*T.k)++v.cells.toList).length=i.toNat*T.k+T.k:=by simp[hvs];omega
       rw[e2,List.take_of_length_le (by rw[e2];omega)]
       congr 2
       rw[hvl]
     rw[e];exact h1
theorem q9 {w w':World}(hos:w'.os=w.os)(ht:w'.tape=w.tape)(ho:w'.output=w.output)(hs:w.heap.size <=w'.heap.size)(hb:∀k,k<w.heap.size->w'.heap[k]? =w.heap[k]?):Below w.heap.size w w':=⟨hos,ht,ho,hs,hb⟩
theorem gu {α:Type}{e:α->Value}{h1:∀x,(e x).oneCell'=true}{p:α->Prop}{w:World}{A:Bl}{xs:List α}(hp:∀x∈xs,p x):gy (Ty.enc e h1 p) w A (xs.map e) xs:=by
 refine⟨by simp[Ty.enc],λi hi=>?_⟩
 have:((xs.map e).drop (i*1)).take 1=[e xs[i]]:=by
   rw[Nat.mul_one,<- List.map_drop,List.drop_eq_getElem_cons hi];rfl
 exact⟨this,hp _ (List.getElem_mem hi)⟩
theorem ez {α:Type}{e:α->Value}{h1:∀x,(e x).oneCell'=true}{p:α->Prop}{w:World}{A:Bl} :∀{l:List Value} {xs:List α},gy (Ty.enc e h1 p) w A l xs->l=xs.map e:=by
 intro l xs h
 have hl:l.length=xs.length:=by have:=h.len;simpa[Ty.enc]using this
 apply List.ext_getElem (by simp[hl])
 intro i h1 h2
 have hi:i<xs.length:=by omega
 have h3:((l.drop (i*1)).take 1)=[e xs[i]]:=(h.rep i hi).1
 have h4:((l.drop (i*1)).take 1)[0]? =some (e xs[i]):=by rw[h3];rfl
 rw[Nat.mul_one,List.getElem?_take,if_pos (by decide),List.getElem?_drop,Nat.add_zero,List.getElem?_eq_getElem h1]at h4
 rw[List.getElem_map];exact Option.some.inj h4
theorem EP {α:Type}{e:α->Value}{h1:∀x,(e x).oneCell'=true}{p:α->Prop}{w:World}{A:Bl}{l:List Value}{xs:List α}(h:gy (Ty.enc e h1 p) w A l xs):∀x∈xs,p x:=λx hx=>by
 obtain⟨i,hi,rfl⟩:=List.getElem_of_mem hx
 exact(h.rep i hi).2
theorem oP {P:Program}{s d t:TypeId}(hs:P.underlying s=some .string)(hd:P.underlying d=some (.slice t))(ht:P.underlying t=some (.int .u8))(w:World)(l:List UInt8)(hl:l.length <=9223372036854775807)(A:Bl):
   ∃(w':World) (a:Option Addr) (n c:Nat),(convert s d (.string (mkS l))).run P w=.ok (.slice a n c) w'/\Ow tU8 t w' A a n c l/\Below w.heap.size w w'/\bp w.heap.size a:=by
 have hcap:∃cap,l.length <=cap/\cap <=maxLen/\(choose (.appendCap l.length 0 t)).run P w=.ok cap w.drew:=by
   refine⟨_,grownCap_ge w l.length 0 t,grownCap_le_maxLen w l.length 0 t (by unfold maxLen;omega),?_⟩
   rw[run_choose];rfl
 obtain⟨cap,h1,h2,hch⟩:=hcap
 have hsz:(mkS l).size=l.length:=rfl
 generalize hcs:(mkS l).data.map (λb=>Value.int .u8 (b.toNat:Nat))++Array.replicate (cap-l.length) (Value.int .u8 0)=cs
 have hcss:cs.size=cap:=by rw[<- hcs];simp[mkS];omega
 have hmark:(markStringish ⟨w.heap.size,0,none⟩).run P (w.drew.alloc (.cells cs t))=.ok () ((w.drew.alloc (.cells cs t)).freeze ⟨w.heap.size,cs.size,none⟩ 1):=by
   unfold markStringish
   have:(w.drew.alloc (.cells cs t)).shape? w.heap.size=some (t,cs.size):=by
     unfold World.shape?
     have:=heap_alloc_new w.drew (.cells cs t)
     rw[show w.drew.heap.size=w.heap.size from rfl]at this
     rw[this]
   simp[this]
 refine⟨(w.drew.alloc (.cells cs t)).freeze ⟨w.heap.size,cs.size,none⟩ 1,some ⟨w.heap.size,0,none⟩,l.length,cap,?_,?_,?_,λg hg=>by simp[bu]at hg;omega⟩
 · simp only[convert,Sem.run_bind,bh hs,bh hd,Result.andThen_ok,bh ht,Conv.stringToBytes,hsz,hch]
   show((newRow t _).run P w.drew).andThen _=_
   rw[hcs]
   simp only[newRow,Sem.run_bind,run_newObj,Result.andThen_ok,Sem.run_pure,World.alloc_eq]
   rw[show w.drew.heap.size=w.heap.size from rfl,hmark]
   rfl
 · have hheap:((w.drew.alloc (.cells cs t)).freeze ⟨w.heap.size,cs.size,none⟩ 1).heap[w.heap.size]? =some (.cells cs t (cs.size,cs.size+1)):=by
     have:=heap_alloc_new w.drew (.cells cs t)
     rw[show w.drew.heap.size=w.heap.size from rfl]at this
     simp only[World.freeze,if_neg (show ¬ (1:Nat)=0 by decide),Array.getElem?_modify,if_true,this]
     rfl
   refine⟨rfl,h1,h2,.inr ⟨_,_,_,rfl,hheap,λi hi=>by omega,by rw[hcss];exact(Nat.mul_one cap).symm,?_⟩⟩
   have e:cs.toList.take (l.length*tU8.k)=l.map λc=>Value.int .u8 (c.toNat:Nat):=by
     rw[<- hcs]
     simp[mkS,tU8,Ty.enc]
   rw[e]
   exact gu λ_ _=>trivial
 · refine q9 rfl rfl rfl (by simp[World.freeze]) λk hk=>?_
   simp only[World.freeze,if_neg (show ¬ (1:Nat)=0 by decide),Array.getElem?_modify]
   rw[if_neg (show ¬ w.heap.size=k by omega)]
   exact heap_alloc_old w.drew _ k hk
theorem oo {P:Program}{s d t:TypeId}(hs:P.underlying s=some (.slice t))(hd:P.underlying d=some .string)(ht:P.underlying t=some (.int .u8)){w:World}{A:Bl}{a:Option Addr}{n c:Nat}{xs:List UInt8}(h:Sl tU8 w A a n c xs):
   (convert s d (.slice a n c)).run P w=.ok (.string (mkS xs)) w:=by
 have conv:(convert s d (.slice a n c)).run P w=(Conv.bytesToString (.slice a n c)).run P w:=by
   cases a <;> simp[convert,bh hs,bh hd,bh ht]
 rw[conv]
 obtain⟨hn,_,_,h4⟩:=h
 have loop:∀(msg:String) (l:List UInt8) (acc:List UInt8),(do
     let r <- forIn (l.map λc=>Value.int .u8 (c.toNat:Nat)) (mkS acc) λc r=>do
       let .int .u8 n:=c|stuck msg
       pure (ForInStep.yield (r.push (UInt8.ofNat n.toNat)))
     pure (Value.string r):Sem Value).run P w=.ok (.string (mkS (acc++l))) w:=by
   intro msg l
   induction l with
   | nil=>intro acc;simp
   | cons x l ih=>
     intro acc
     have e1:(mkS acc).push x=mkS (acc++[x]):=by simp[mkS,ByteArray.push]
     have:=ih (acc++[x])
     simp only[List.map_cons,List.forIn_cons,bind_assoc,pure_bind,Int.toNat_natCast,UInt8.ofNat_toNat,e1]
     rw[this];simp
 cases a with
 | none=>
   have:xs=[]:=by
     rcases h4 with h4|⟨b,off,e,_⟩
     · exact h4
     · cases e
   subst this
   simp[Conv.bytesToString];rfl
 | some p=>
   have hcells:(loadCells p n).run P w=.ok (xs.map λc=>Value.int .u8 (c.toNat:Nat)).toArray w:=by
     rcases h4 with h4|⟨b,off,e,hb,hab,l,h5,h6⟩
     · subst h4;subst hn;simp[loadCells,loadCellsFrom]
     · cases e
       have:=Cq (P:=P) h6
       rw[h5.len]at this
       rw[ez h5]at this
       rw[hn]
       simpa[tU8,Ty.enc]using this
   have key:∃msg:String,(Conv.bytesToString (.slice (some p) n c)).run P w=((loadCells p n).run P w).andThen λcs w'=>(do
     let r <- forIn cs (mkS []) λc r=>do
       let .int .u8 n:=c|stuck msg
       pure (ForInStep.yield (r.push (UInt8.ofNat n.toNat)))
     pure (Value.string r):Sem Value).run P w':=by
     constructor
     unfold Conv.bytesToString
     simp only[Sem.run_bind]
     rfl
   obtain⟨msg,key⟩:=key
   rw[key,hcells,Result.andThen_ok]
   have:=loop msg xs []
   rw[List.nil_append]at this
   rw[<- this]
   simp only[List.forIn_toArray]
theorem wrap_i64 {n:Int}(h1: -9223372036854775808 <=n)(h2:n <=9223372036854775807):i64.wrap n=n:=IntWalk.i64_in n ⟨h1,h2⟩
theorem wrap_u8 {n:Int}(h1:0 <=n)(h2:n <=255):IntKind.u8.wrap n=n:=IntWalk.u8_in n ⟨h1,h2⟩
theorem mD (c:UInt8):(0:Int) <=(c.toNat:Nat)/\((c.toNat:Nat):Int) <=255:=by
 have:=c.toNat_lt;omega
theorem jG {s:List UInt8}{i:Int}(h:i.toNat<s.length):aX s i=((s[i.toNat]).toNat:Nat):=by
 simp[aX,h]
theorem HF {a b:UInt8}(h:((a.toNat:Nat):Int)=((b.toNat:Nat):Int)):a=b:=UInt8.toNat_inj.1 (by omega)
theorem qM {n:Nat}(h:n <=255):(UInt8.ofNat n).toNat=n:=by rw[UInt8.toNat_ofNat'];omega
theorem rz {w:World}{A:Bl}{n:Int}{c:UInt8}(h:n=((c.toNat:Nat):Int)):tU8.rep w A [.int .u8 n] c:=⟨by rw[h],trivial⟩
theorem eX {w:World}{A:Bl}{n:Int} :fu.rep w A [.int .i64 n] n:=⟨rfl,trivial⟩
theorem ry {w:World}{A:Bl}{b:Bool} :lg.rep w A [.bool b] b:=⟨rfl,trivial⟩
theorem sO {w:World}{A:Bl}{p:List UInt8->Prop}{s:List UInt8}(h:p s):(KI p).rep w A [.string (mkS s)] s:=⟨rfl,h⟩
theorem tT {w:World}{A:Bl}{v:Value}{c:UInt8}(h:tU8.rep w A [v] c):v=.int .u8 (c.toNat:Nat):=by have:=h.1;simpa using this
theorem GT {w:World}{A:Bl}{v:Value}{n:Int}(h:fu.rep w A [v] n):v=.int .i64 n:=by have:=h.1;simpa using this
theorem uF {w:World}{A:Bl}{v:Value}{n:Bool}(h:lg.rep w A [v] n):v=.bool n:=by have:=h.1;simpa using this
theorem kh {w:World}{A:Bl}{p:List UInt8->Prop}{v:Value}{s:List UInt8}(h:(KI p).rep w A [v] s):v=.string (mkS s)/\p s:=⟨by have:=h.1;simpa using this,h.2⟩
theorem bp.app {B:Nat}{w:World}{a a':Option Addr}(hf:bp B a)(hB:B <=w.heap.size)(h:∀g,bu a'=some g->bu a=some g\/w.heap.size <=g):bp B a':=λg hg=>by
 rcases h g hg with h|h
 · exact hf g h
 · exact Nat.le_trans hB h
theorem gv:Flat fu:=λ_ _ _ _ _ _ h=>h
theorem sD:Flat tU8:=λ_ _ _ _ _ _ h=>h
theorem vE:Flat lg:=λ_ _ _ _ _ _ h=>h
theorem gZ (p:List UInt8->Prop):Flat (KI p):=λ_ _ _ _ _ _ h=>h
theorem Ow.newF {α:Type}{T:Ty α}(hf:Flat T){w w':World}{A:Bl}{t:TypeId}{l:List Value}{xs:List α}{b:Nat}(hb:b=w.heap.size)(hw:w'=w.alloc (.cells l.toArray t))(h:gy T w A l xs)(hm:xs.length <=maxLen):
   Ow T t w' A (some ⟨b,0,none⟩) xs.length xs.length xs:=by
 subst hb hw
 refine⟨rfl,Nat.le_refl _,hm,.inr ⟨_,l.toArray,(0,0),rfl,heap_alloc_new w _,?_,by simpa using h.len,?_⟩⟩
 · intro i hi;simp
 · rw[<- h.len];simp;exact h.flat hf
theorem lu {w:World}{b:Nat}(hb:b=w.heap.size):bp w.heap.size (some ⟨b,0,none⟩):=λg hg=>by simp[bu]at hg;omega
theorem L4 {α:Type}{e:α->Value}{h1:∀x,(e x).oneCell'=true}{p:α->Prop}{w:World}{a:Addr}{len cap:Nat}{xs:List α}(hlen:xs.length=len)(hp:∀x∈xs,p x)(hl:len <=cap)(hm:cap <=maxLen)
   (hc:∀i (h:i<xs.length),w.cell? (a.add i)=some (e xs[i])):Sl (Ty.enc e h1 p) w iv (some a) len cap xs:=by
 refine⟨hlen.symm,hl,hm,?_⟩
 by_cases h0:xs.length=0
 · exact .inl (List.eq_nil_of_length_eq_zero h0)
 · obtain⟨b,off,spot⟩:=a
   have hc0:=hc 0 (by omega)
   have hspot:spot=none:=by simpa[Addr.add]using World.cell?_spot hc0
   subst hspot
   rw[dq]at hc0
   obtain⟨cs,t,fr,hh,_⟩:=Go.Sort.cells_of_cell? hc0
   refine .inr ⟨b,off,rfl,(Array.getElem?_eq_some_iff.1 hh).1,trivial,xs.map e,gu hp,λj hj=>?_⟩
   have hj':j<xs.length:=by simpa using hj
   have:=hc j hj'
   rw[dq]at this
   rw[this];simp[hj']
theorem Ht {α:Type}{e:α->Value}{h1:∀x,(e x).oneCell'=true}{p q:α->Prop}{w:World}{A:Bl}{a:Option Addr}{n c:Nat}{xs:List α}(h:Sl (Ty.enc e h1 p) w A a n c xs)(hq:∀x∈xs,p x->q x):Sl (Ty.enc e h1 q) w A a n c xs:=by
 obtain⟨h1',h2,h3,h4⟩:=h
 refine⟨h1',h2,h3,?_⟩
 rcases h4 with h4|⟨b,off,e',hb,hab,l,hl,hc⟩
 · exact .inl h4
 · exact .inr ⟨b,off,e',hb,hab,l,⟨hl.len,λi hi=>⟨(hl.rep i hi).1,hq _ (List.getElem_mem hi) (hl.rep i hi).2⟩⟩,hc⟩
theorem Hs {w:World}{a:Option Addr}{len cap:Nat}{ss:List ByteArray}
   (h:(a=none/\len=0/\cap=0/\ss=[])\/∃x,a=some x/\len <=cap/\cap <=maxLen/\ss.length=cap/\(∀i,i<ss.length->w.cell? (x.add i)=some (.string (ss.getD i ByteArray.empty)))/\∀s∈ss,s.size <=maxLen):
   Sl (KI λs=>s.length <=maxLen) w iv a len cap ((ss.take len).map toL):=by
 rcases h with⟨rfl,rfl,rfl,rfl⟩|⟨x,rfl,hl,hm,hz,hcell,hwf⟩
 · exact Sl.nil _ _ _ _ _ (Nat.zero_le _)
 · refine L4 (by rw[List.length_map,List.length_take];omega) (λs hs=>?_) hl hm λi hi=>?_
   · obtain⟨b,hb,rfl⟩:=List.mem_map.1 hs
     exact hwf b (List.mem_of_mem_take hb)
   · rw[List.length_map,List.length_take]at hi
     rw[hcell i (by omega)]
     simp only[List.getElem_map,List.getElem_take,Kk]
     simp[List.getD,show i<ss.length by omega]
def Ic {α:Type}(P:Program)(T:Ty α)(t:TypeId):Prop:=
 ∀(H:Type) (enc:TypeId×Value->H) (w:World) (fuel:Nat) (cs:List Value) (x:DataW H×List MemPlace),DataW.trod enc P w 0 (λ_=>true) true fuel t cs=some x->∃a,T.rep w iv cs a
theorem i6 {P:Program}{k:IntKind}{t:TypeId}(ht:P.underlying t=some (.int k)):Ic P (LD k λn=>(Lit.int k n).wf=true) t:=λH enc w fuel cs x h=>by
 obtain⟨n,e,_,hw⟩:=DataW.trod_int ht h
 exact⟨n,e,hw⟩
theorem oW {P:Program}{t:TypeId}(ht:P.underlying t=some .bool):Ic P lg t:=λH enc w fuel cs x h=>by
 obtain⟨b,e,_⟩:=DataW.trod_bool ht h
 exact⟨b,e,trivial⟩
theorem nT {P:Program}{t:TypeId}(ht:P.underlying t=some .string):Ic P (KI λs=>s.length <=maxLen) t:=λH enc w fuel cs x h=>by
 obtain⟨s,e,_,hs⟩:=DataW.trod_string ht h
 exact⟨toL s,e,hs⟩
theorem Hc {α:Type}{P:Program}{T:Ty α}{t e:TypeId}{n:Nat}(ht:P.underlying t=some (.array n e))(he:Ic P T e)(hk:P.cellsOf e=T.k)(hc:P.cellsOf t=n*T.k)
   {H:Type} {enc:TypeId×Value->H} {w:World} {fuel:Nat} {cs:List Value} {x:DataW H×List MemPlace} (h:DataW.trod enc P w 0 (λ_=>true) true fuel t cs=some x):∃xs:List α,xs.length=n/\gy T w iv cs xs:=by
 obtain⟨ys,m,_,_,hl,hy,hel⟩:=DataW.trod_array ht h
 have hall:∀i,i<n->∃a,T.rep w iv ((cs.drop (i*T.k)).take T.k) a:=λi hi=>by
   have:=hel i hi
   rw[hk,List.getElem?_eq_getElem (by omega)]at this
   exact he H enc w m _ _ this
 have build:∀j,j <=n->∃xs:List α,xs.length=j/\∀i (h:i<xs.length),T.rep w iv ((cs.drop (i*T.k)).take T.k) xs[i]:=by
   intro j
   induction j with
   | zero=>intro _;exact⟨[],rfl,λi h=>by cases h⟩
   | succ j ih=>
     intro hj
     obtain⟨xs,h1,h2⟩:=ih (by omega)
     obtain⟨a,ha⟩:=hall j hj
     refine⟨xs++[a],by simp[h1],λi hi=>?_⟩
     by_cases c:i<xs.length
     · rw[List.getElem_append_left c];exact h2 i c
     · have:i=xs.length:=by simp at hi;omega
       subst this
       rw[List.getElem_append_right (Nat.le_refl _)]
       simp only[Nat.sub_self,List.getElem_cons_zero]
       rw[h1];exact ha
 obtain⟨xs,h1,h2⟩:=build n (Nat.le_refl _)
 exact⟨xs,h1,by rw[hl,hc,h1],h2⟩
theorem zk {P:Program}{w:World}{r:Reach}{base:Nat}{t:TypeId}{v:Value}{d:TypeDesc}(ht:P.underlying t=some d)(ha:CO d=true)(h:Value.okWide P w r base t v):∃cs:List Value,v=.agg cs.toArray:=by
 unfold Value.okWide at h
 rw[ht]at h
 cases d <;> first|(obtain⟨cs,rfl,_⟩:=h;exact⟨cs.toList,by simp⟩)|(cases ha;done)
theorem sj {H:Type}{enc:TypeId×Value->H}{C:Checked}{os:Os}{f:FuncId}{fn:Func}{s:OpenSpec}{conds:List PathCond}{apart:Bool}{laid:List (String×DataW Unit)}(modest:Bool)(w0:World)(args:Array Value)(hos:w0.os=os)
   (hsh:(w0.forCall (λ_ _=>0) ⟨#[],args,[]⟩).Shaped C.prog)
   (hok:Input.okWideB C.prog (w0.forCall (λ_ _=>0) ⟨#[],args,[]⟩) f ⟨#[],args,[]⟩=true)
   (hrow:s.preRow enc C.prog fn conds apart laid (w0.forCall (λ_ _=>0) ⟨#[],args,[]⟩).memory args):
   ∃(w:World) (tape:Tape) (i:Input),w.os=os/\(w.forCall tape i).Shaped C.prog/\i.vars=[]/\Input.okWide C.prog (w.forCall tape i) .any w.heap.size f i/\
     s.preRow enc C.prog fn conds apart laid (w.forCall tape i).memory i.args/\({ modest:=modest } :Assume).holds C.prog (lone (Frame.enter C.prog f i.args .normal) [] (w.forCall tape i)):=
 ⟨w0,λ_ _=>0,⟨#[],args,[]⟩,hos,hsh,(Input.okWide_of_okWideB (base:=0) hok).1,(Input.okWide_of_okWideB hok).2,hrow,by
   simp only[Assume.holds]
   exact⟨by simp,by simp,λ_=>Modest.zero,by simp,by simp⟩⟩
abbrev jd:Nat:=6
abbrev kF:Nat:=11
abbrev fM:Nat:=12
abbrev dm:Nat:=14
abbrev jO:Nat:=15
abbrev jN:Nat:=16
abbrev mp:Nat:=21
abbrev kE:Nat:=22
abbrev jy:Nat:=23
abbrev eQ:Nat:=24
abbrev mj:Nat:=26
abbrev gn:Nat:=27
abbrev po:Nat:=28
abbrev gj:Nat:=29
abbrev eV:Nat:=30
abbrev cF:Nat:=31
abbrev eM:Nat:=33
abbrev lZ:Nat:=34
abbrev mr:Nat:=35
abbrev nt:Nat:=36
abbrev ma:Nat:=37
abbrev nz:Nat:=38
abbrev ny:Nat:=39
abbrev je:Nat:=42
abbrev kD:Nat:=44
abbrev ee:Nat:=45
abbrev fg:Nat:=46
abbrev cI:Nat:=47
abbrev gU:Nat:=48
abbrev oU:Nat:=49
abbrev aO:Nat:=50
abbrev jP:Nat:=51
abbrev cZ:Nat:=52
abbrev eS:Nat:=53
abbrev iH:Nat:=54
abbrev gV:Nat:=55
abbrev gk:Nat:=56
abbrev jx:Nat:=58
abbrev oV:Nat:=59
abbrev gm:Nat:=60
abbrev mi:Nat:=61
abbrev kT:Nat:=62
abbrev aU:Nat:=63
abbrev bJ:Nat:=64
abbrev iZ:Nat:=65
abbrev iT:Nat:=66
abbrev kA:Nat:=67
abbrev lW:Nat:=68
abbrev lX:Nat:=69
abbrev iL:Nat:=70
abbrev ji:Nat:=71
abbrev jA:Nat:=72
abbrev lV:Nat:=73
abbrev eI:Nat:=74
abbrev kC:Nat:=76
abbrev jS:Nat:=77
abbrev kS:Nat:=78
abbrev kR:Nat:=79
abbrev jT:Nat:=80
abbrev gp:Nat:=81
abbrev dC:Nat:=82
abbrev mq:Nat:=83
abbrev mn:Nat:=84
abbrev gW:Nat:=86
abbrev jR:Nat:=88
abbrev iS:Nat:=89
abbrev bC:Nat:=90
abbrev me:Nat:=92
abbrev mf:Nat:=93
abbrev eU:Nat:=94
abbrev fF:Nat:=95
abbrev bg:Nat:=96
abbrev dE:Nat:=97
abbrev lT:Nat:=98
abbrev lj:Nat:=99
abbrev kz:Nat:=100
abbrev aY:Nat:=101
abbrev iG:Nat:=102
abbrev nC:Nat:=103
abbrev nE:Nat:=104
abbrev xS:Nat:=105
abbrev mo:Nat:=106
abbrev nw:Nat:=107
abbrev fO:Nat:=108
abbrev sB:Nat:=109
abbrev mc:Nat:=110
abbrev iR:Nat:=111
abbrev sA:Nat:=112
abbrev ml:Nat:=113
abbrev jz:Nat:=114
abbrev bE:Nat:=115
abbrev jU:Nat:=116
abbrev qu:Nat:=117
abbrev vw:Nat:=118
abbrev gi:Nat:=119
abbrev fN:Nat:=120
abbrev ju:Nat:=121
abbrev vv:Nat:=122
abbrev bY:Nat:=123
abbrev ns:Nat:=124
abbrev nm:Nat:=128
abbrev np:Nat:=129
abbrev gR:Nat:=130
abbrev dh:Nat:=131
abbrev cq:Nat:=132
abbrev bZ:Nat:=134
abbrev jV:Nat:=135
abbrev fc:Nat:=136
abbrev sC:Nat:=137
abbrev iU:Nat:=138
abbrev jW:Nat:=139
abbrev nu:Nat:=140
abbrev nv:Nat:=141
abbrev gY:Nat:=144
abbrev bM:Nat:=145
abbrev jv:Nat:=146
abbrev fE:Nat:=147
abbrev dJ:Nat:=148
abbrev ix:Nat:=151
abbrev aJ:Nat:=152
abbrev bU:Nat:=153
abbrev jQ:Nat:=154
abbrev bT:Nat:=155
abbrev bN:Nat:=156
abbrev dt:Nat:=157
abbrev nB:Nat:=158
abbrev fX:Nat:=159
abbrev jw:Nat:=167
abbrev kQ:Nat:=168
abbrev zZ:Nat:=171
abbrev oT:Nat:=172
abbrev qt:Nat:=173
abbrev vy:Nat:=174
abbrev kP:Nat:=175
abbrev dQ:Nat:=176
abbrev cB:Nat:=177
abbrev lY:Nat:=178
abbrev pp:Nat:=181
abbrev lS:Nat:=182
abbrev nr:Nat:=183
abbrev gh:Nat:=184
abbrev mh:Nat:=190
abbrev bs:Nat:=202
abbrev lp:Nat:=204
abbrev gz:Nat:=205
abbrev fC:Nat:=206
abbrev mg:Nat:=211
abbrev nq:Nat:=214
abbrev fk:Nat:=216
abbrev fY:Nat:=220
abbrev eZ:Nat:=238
abbrev lk:Nat:=249
abbrev jt:Nat:=250
abbrev iI:Nat:=251
abbrev cH:Nat:=252
abbrev dP:Nat:=256
abbrev dD:Nat:=257
abbrev fD:Nat:=259
abbrev iJ:Nat:=278
abbrev du:Nat:=279
abbrev dv:Nat:=280
abbrev iK:Nat:=281
abbrev gX:Nat:=282
abbrev lO:Nat:=2
abbrev ay:Nat:=3
abbrev bR:Nat:=4
abbrev aF:Nat:=5
abbrev aq:Nat:=9
abbrev qm:Nat:=20
abbrev aR:Nat:=22
abbrev aA:Nat:=24
abbrev aQ:Nat:=25
abbrev ai:Nat:=27
abbrev fz:Nat:=28
abbrev aj:Nat:=32
abbrev ah:Nat:=34
abbrev au:Nat:=38
abbrev aM:Nat:=39
abbrev bt:Nat:=57
abbrev ax:Nat:=59
abbrev iB:Nat:=61
abbrev iC:Nat:=62
abbrev ar:Nat:=64
abbrev bi:Nat:=93
abbrev dN:Nat:=95
abbrev iD:Nat:=174
abbrev aK:Nat:=176
abbrev dp:Nat:=177
abbrev gT:Nat:=178
abbrev aH:Nat:=198
abbrev aP:Nat:=200
abbrev aC:Nat:=202
abbrev iE:Nat:=203
abbrev bo:Nat:=206
abbrev dx:Nat:=208
abbrev cT:Nat:=220
abbrev eF:Nat:=223
abbrev aG:Nat:=224
abbrev zK:Nat:=299
abbrev jp:Nat:=305
theorem kH:prog.underlying lO=some (.int .i64):=by kernel_rfl
theorem aI:prog.underlying ay=some (.int .i64):=by kernel_rfl
theorem ij:TF prog ay 1 8 (.int .i64 (0:Int)):=TF.of (by kernel_rfl) (by kernel_rfl) false (by kernel_rfl) (.inr rfl)
theorem di:prog.underlying bR=some (.bool):=by kernel_rfl
theorem qL:TF prog bR 1 1 (.bool false):=TF.of (by kernel_rfl) (by kernel_rfl) false (by kernel_rfl) (.inr rfl)
theorem bA:prog.underlying aF=some (.int .u8):=by kernel_rfl
theorem fQ:TF prog aF 1 1 (.int .u8 (0:Int)):=TF.of (by kernel_rfl) (by kernel_rfl) false (by kernel_rfl) (.inr rfl)
theorem aB:prog.underlying aq=some (.string):=by kernel_rfl
theorem lH:TF prog aq 1 16 (.string (mkS [])):=TF.of (by kernel_rfl) (by kernel_rfl) false (by kernel_rfl) (.inr rfl)
theorem gg:prog.underlying aR=some (.pointer dN):=by kernel_rfl
theorem bm:prog.underlying aA=some (.slice ay):=by kernel_rfl
theorem xu:TF prog aA 1 24 (.slice none 0 0):=TF.of (by kernel_rfl) (by kernel_rfl) false (by kernel_rfl) (.inr rfl)
theorem bf:prog.underlying aQ=some (.slice bR):=by kernel_rfl
theorem zA:TF prog aQ 1 24 (.slice none 0 0):=TF.of (by kernel_rfl) (by kernel_rfl) false (by kernel_rfl) (.inr rfl)
theorem FE:TF prog ai 4 64 (.agg #[.int .i64 (0:Int),.int .i64 (0:Int),.slice none 0 0,.slice none 0 0]):=TF.of (by kernel_rfl) (by kernel_rfl) true (by kernel_rfl) (.inl rfl)
theorem tU:prog.underlying fz=some (.int .i64):=by kernel_rfl
abbrev aS:Array Value:= #[.int .u8 (0:Int),.int .u8 (0:Int),.int .u8 (0:Int),.int .u8 (0:Int),.int .u8 (0:Int),.int .u8 (0:Int),.int .u8 (0:Int),.int .u8 (0:Int),.int .u8 (0:Int),.int .u8 (0:Int),.int .u8 (0:Int),.int .u8 (0:Int),.int .u8 (0:Int),.int .u8 (0:Int),.int .u8 (0:Int),.int .u8 (0:Int)]
theorem DG:TF prog aj 16 16 (.agg #[.int .u8 (0:Int),.int .u8 (0:Int),.int .u8 (0:Int),.int .u8 (0:Int),.int .u8 (0:Int),.int .u8 (0:Int),.int .u8 (0:Int),.int .u8 (0:Int),.int .u8 (0:Int),.int .u8 (0:Int),.int .u8 (0:Int),.int .u8 (0:Int),.int .u8 (0:Int),.int .u8 (0:Int),.int .u8 (0:Int),.int .u8 (0:Int)]):=TF.of (by kernel_rfl) (by kernel_rfl) true (by kernel_rfl) (.inl rfl)
abbrev br:Array Value:= #[.int .i64 (0:Int),.string (mkS []),.int .u8 (0:Int),.int .u8 (0:Int),.int .u8 (0:Int),.int .u8 (0:Int),.int .u8 (0:Int),.int .u8 (0:Int),.int .u8 (0:Int),.int .u8 (0:Int),.int .u8 (0:Int),.int .u8 (0:Int),.int .u8 (0:Int),.int .u8 (0:Int),.int .u8 (0:Int),.int .u8 (0:Int),.int .u8 (0:Int),.int .u8 (0:Int)]
theorem DH:TF prog ah 18 40 (.agg #[.int .i64 (0:Int),.string (mkS []),.int .u8 (0:Int),.int .u8 (0:Int),.int .u8 (0:Int),.int .u8 (0:Int),.int .u8 (0:Int),.int .u8 (0:Int),.int .u8 (0:Int),.int .u8 (0:Int),.int .u8 (0:Int),.int .u8 (0:Int),.int .u8 (0:Int),.int .u8 (0:Int),.int .u8 (0:Int),.int .u8 (0:Int),.int .u8 (0:Int),.int .u8 (0:Int)]):=TF.of (by kernel_rfl) (by kernel_rfl) true (by kernel_rfl) (.inl rfl)
theorem bF:prog.underlying au=some (.slice aq):=by kernel_rfl
theorem CG:TF prog au 1 24 (.slice none 0 0):=TF.of (by kernel_rfl) (by kernel_rfl) false (by kernel_rfl) (.inr rfl)
theorem bG:prog.underlying aM=some (.slice aF):=by kernel_rfl
theorem Bf:TF prog bt 29 144 (.agg #[.string (mkS []),.string (mkS []),.int .i64 (0:Int),.string (mkS []),.int .u8 (0:Int),.int .u8 (0:Int),.int .u8 (0:Int),.int .u8 (0:Int),.int .u8 (0:Int),.int .u8 (0:Int),.int .u8 (0:Int),.int .u8 (0:Int),.int .u8 (0:Int),.int .u8 (0:Int),.int .u8 (0:Int),.int .u8 (0:Int),.int .u8 (0:Int),.int .u8 (0:Int),.int .u8 (0:Int),.int .u8 (0:Int),.bool false,.string (mkS []),.bool false,.bool false,.int .i64 (0:Int),.int .i64 (0:Int),.int .i64 (0:Int),.int .i64 (0:Int),.int .i64 (0:Int)]):=TF.of (by kernel_rfl) (by kernel_rfl) true (by kernel_rfl) (.inl rfl)
abbrev jq:Array Value:= #[.bool false,.int .i64 (0:Int),.string (mkS []),.int .u8 (0:Int),.int .u8 (0:Int),.int .u8 (0:Int),.int .u8 (0:Int),.int .u8 (0:Int),.int .u8 (0:Int),.int .u8 (0:Int),.int .u8 (0:Int),.int .u8 (0:Int),.int .u8 (0:Int),.int .u8 (0:Int),.int .u8 (0:Int),.int .u8 (0:Int),.int .u8 (0:Int),.int .u8 (0:Int),.int .u8 (0:Int),.string (mkS []),.int .i64 (0:Int)]
theorem yN:TF prog ax 21 72 (.agg #[.bool false,.int .i64 (0:Int),.string (mkS []),.int .u8 (0:Int),.int .u8 (0:Int),.int .u8 (0:Int),.int .u8 (0:Int),.int .u8 (0:Int),.int .u8 (0:Int),.int .u8 (0:Int),.int .u8 (0:Int),.int .u8 (0:Int),.int .u8 (0:Int),.int .u8 (0:Int),.int .u8 (0:Int),.int .u8 (0:Int),.int .u8 (0:Int),.int .u8 (0:Int),.int .u8 (0:Int),.string (mkS []),.int .i64 (0:Int)]):=TF.of (by kernel_rfl) (by kernel_rfl) true (by kernel_rfl) (.inl rfl)
theorem CE:TF prog iB 2 2 (.agg #[.bool false,.bool false]):=TF.of (by kernel_rfl) (by kernel_rfl) true (by kernel_rfl) (.inl rfl)
theorem CF:TF prog iC 3 3 (.agg #[.bool false,.bool false,.bool false]):=TF.of (by kernel_rfl) (by kernel_rfl) true (by kernel_rfl) (.inl rfl)
abbrev fA:Array Value:= #[.int .i64 (0:Int),.int .i64 (0:Int),.slice none 0 0,.slice none 0 0,.int .i64 (0:Int),.int .i64 (0:Int),.slice none 0 0,.slice none 0 0,.bool false,.bool false,.bool false,.bool false,.bool false]
theorem Bg:TF prog ar 13 136 (.agg #[.int .i64 (0:Int),.int .i64 (0:Int),.slice none 0 0,.slice none 0 0,.int .i64 (0:Int),.int .i64 (0:Int),.slice none 0 0,.slice none 0 0,.bool false,.bool false,.bool false,.bool false,.bool false]):=TF.of (by kernel_rfl) (by kernel_rfl) true (by kernel_rfl) (.inl rfl)
theorem cu:prog.underlying bi=some (.map aq ay):=by kernel_rfl
theorem xt:TF prog aK 2 16 (.agg #[.int .i64 (0:Int),.int .i64 (0:Int)]):=TF.of (by kernel_rfl) (by kernel_rfl) true (by kernel_rfl) (.inl rfl)
theorem gE:prog.underlying dp=some (.map aK ay):=by kernel_rfl
theorem yP:prog.underlying gT=some (.slice aK):=by kernel_rfl
theorem be:prog.underlying aH=some (.slice aC):=by kernel_rfl
theorem pG:TF prog aH 1 24 (.slice none 0 0):=TF.of (by kernel_rfl) (by kernel_rfl) false (by kernel_rfl) (.inr rfl)
theorem jF:TF prog aC 2 16 (.agg #[.int .i64 (0:Int),.int .i64 (0:Int)]):=TF.of (by kernel_rfl) (by kernel_rfl) true (by kernel_rfl) (.inl rfl)
theorem rJ:prog.underlying iE=some (.slice bo):=by kernel_rfl
theorem kj:prog.underlying bo=some (.slice dx):=by kernel_rfl
theorem ot:TF prog bo 1 24 (.slice none 0 0):=TF.of (by kernel_rfl) (by kernel_rfl) false (by kernel_rfl) (.inr rfl)
theorem tR:TF prog dx 2 16 (.agg #[.int .i64 (0:Int),.int .i64 (0:Int)]):=TF.of (by kernel_rfl) (by kernel_rfl) true (by kernel_rfl) (.inl rfl)
theorem ou:prog.underlying cT=some (.slice eF):=by kernel_rfl
theorem xw:prog.underlying eF=some (.int .u16):=by kernel_rfl
theorem CH:TF prog eF 1 2 (.int .u16 (0:Int)):=TF.of (by kernel_rfl) (by kernel_rfl) false (by kernel_rfl) (.inr rfl)
theorem yO:TF prog aG 8 16 (.agg #[.int .u16 (0:Int),.int .u16 (0:Int),.int .u16 (0:Int),.int .u16 (0:Int),.int .u16 (0:Int),.int .u16 (0:Int),.int .u16 (0:Int),.int .u16 (0:Int)]):=TF.of (by kernel_rfl) (by kernel_rfl) true (by kernel_rfl) (.inl rfl)
abbrev zM:Array Value:= #[.int .u8 (0:Int),.int .u8 (0:Int),.int .u8 (0:Int),.int .u8 (0:Int),.int .u8 (0:Int),.int .u8 (0:Int),.int .u8 (0:Int),.int .u8 (0:Int),.int .u8 (0:Int),.int .u8 (0:Int),.int .u8 (0:Int),.int .u8 (0:Int),.int .u8 (0:Int),.int .u8 (0:Int),.int .u8 (0:Int),.int .u8 (0:Int),.int .u8 (0:Int),.int .u8 (0:Int),.int .u8 (0:Int),.int .u8 (0:Int),.int .u8 (0:Int),.int .u8 (0:Int),.int .u8 (0:Int),.int .u8 (0:Int)]
abbrev zN:Array Value:= #[.int .u8 (0:Int),.int .u8 (0:Int),.int .u8 (0:Int),.int .u8 (0:Int),.int .u8 (0:Int),.int .u8 (0:Int),.int .u8 (0:Int),.int .u8 (0:Int),.int .u8 (0:Int),.int .u8 (0:Int),.int .u8 (0:Int),.int .u8 (0:Int),.int .u8 (0:Int),.int .u8 (0:Int),.int .u8 (0:Int),.int .u8 (0:Int),.int .u8 (0:Int),.int .u8 (0:Int),.int .u8 (0:Int),.int .u8 (0:Int),.int .u8 (0:Int),.int .u8 (0:Int),.int .u8 (0:Int),.int .u8 (0:Int),.int .u8 (0:Int),.int .u8 (0:Int),.int .u8 (0:Int),.int .u8 (0:Int),.int .u8 (0:Int),.int .u8 (0:Int),.int .u8 (0:Int),.int .u8 (0:Int),.int .u8 (0:Int),.int .u8 (0:Int),.int .u8 (0:Int),.int .u8 (0:Int),.int .u8 (0:Int),.int .u8 (0:Int),.int .u8 (0:Int),.int .u8 (0:Int),.int .u8 (0:Int),.int .u8 (0:Int),.int .u8 (0:Int),.int .u8 (0:Int),.int .u8 (0:Int),.int .u8 (0:Int),.int .u8 (0:Int),.int .u8 (0:Int),.int .u8 (0:Int),.int .u8 (0:Int),.int .u8 (0:Int),.int .u8 (0:Int),.int .u8 (0:Int),.int .u8 (0:Int),.int .u8 (0:Int),.int .u8 (0:Int),.int .u8 (0:Int),.int .u8 (0:Int),.int .u8 (0:Int),.int .u8 (0:Int),.int .u8 (0:Int),.int .u8 (0:Int),.int .u8 (0:Int),.int .u8 (0:Int),.int .u8 (0:Int)]
end Go.Pk
