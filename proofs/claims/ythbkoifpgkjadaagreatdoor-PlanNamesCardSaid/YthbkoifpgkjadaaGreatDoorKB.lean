/- What the laws lean on: R, Open, Arr, H, Split, LinP, Big, Names, Flt; what is used. Its conditions: none. -/
import Derived.Test.YthbkoifpgkjadaaGreatDoorKA
import Derived.Laws.AppendOwn
import Derived.IntWalk
import Derived.ProofKit
import Derived.OpenShut
import Derived.Stop.LaidErr
import Derived.Lib.LaidTab
import Derived.Deep.DeepHandedRow
import Derived.Lib.SplitLaws
import Derived.Lib.IndexMore
import Derived.Test.YthbkoifpgkjadaaGreatDoorRows
set_option linter.unusedVariables false
set_option linter.unusedSimpArgs false
set_option linter.unusedSectionVars false
set_option maxRecDepth 100000
open Go.IntKind (i64)
open Go.Proofs.Tryz
namespace Go.Pk
open Go.RowKit (Below)
open Go.Proofs
abbrev Bl:=Nat->Prop
structure vV (A:Bl)(w w':World):Prop where
 size:w.heap.size <=w'.heap.size
 block:∀b,b<w.heap.size->A b->w'.heap[b]? =w.heap[b]?
theorem vV.refl (A:Bl)(w:World):vV A w w:=⟨Nat.le_refl _,λ_ _ _=>rfl⟩
theorem vV.trans {A:Bl}{a b c:World}(h:vV A a b)(k:vV A b c):vV A a c:=
 ⟨Nat.le_trans h.size k.size,λi hi ha=>(k.block i (Nat.lt_of_lt_of_le hi h.size) ha).trans (h.block i hi ha)⟩
theorem vV.mono {A A':Bl}{w w':World}(h:vV A w w')(ha:∀b,A' b->A b):vV A' w w':=⟨h.size,λb hb hab=>h.block b hb (ha b hab)⟩
theorem xU {w w':World}(h:Below w.heap.size w w')(A:Bl):vV A w w':=⟨h.size,λb hb _=>h.block b hb⟩
theorem fQ {w w':World}{row:Option Nat}(h:w.grownBy w' row){A:Bl}(ha:∀b,A b->some b≠row):vV A w w':=⟨h.size,λb hb hab=>h.block b hb (ha b hab)⟩
theorem cF (w:World):Below w.heap.size w w.drew:=(Below.refl _ w).drew
theorem ah (w:World)(o:Obj):Below w.heap.size w (w.alloc o):=(Below.refl _ w).alloc (Nat.le_refl _) o
theorem ab {B:Nat}{a b c:World}(h:Below B a b)(k:Below b.heap.size b c)(hB:B <=b.heap.size):Below B a c:=h.trans (k.mono hB)
structure Ty (α:Type) where
 k:Nat
 pos:0<k
 rep:World->Bl->List Value->α->Prop
 len:∀{w A vs x},rep w A vs x->vs.length=k
 one:∀{w A vs x},rep w A vs x->∀v∈vs,v.oneCell'=true
 keep:∀{w w' A vs x},rep w A vs x->vV A w w'->rep w' A vs x
 mono:∀{w A A' vs x},rep w A vs x->(∀b,b<w.heap.size->A b->A' b)->rep w A' vs x
def Ty.enc {α:Type}(e:α->Value)(h1:∀x,(e x).oneCell'=true)(p:α->Prop):Ty α where
 k:=1
 pos:=by decide
 rep:=λ_ _ vs x=>vs=[e x]/\p x
 len:=λh=>by rw[h.1];rfl
 one:=fun{_ _ _ x} h v hv=>by rw[h.1]at hv;simp at hv;rw[hv];exact h1 x
 keep:=λh _=>h
 mono:=λh _=>h
def Xe (k:IntKind)(p:Int->Prop):Ty Int:=Ty.enc (λn=>.int k n) (λ_=>rfl) p
def lS:Ty Int:=Xe .i64 λ_=>True
def tU8:Ty UInt8:=Ty.enc (λc=>.int .u8 (c.toNat:Nat)) (λ_=>rfl) λ_=>True
def AA:Ty Bool:=Ty.enc (λb=>.bool b) (λ_=>rfl) λ_=>True
def Wk (p:List UInt8->Prop):Ty (List UInt8):=Ty.enc (λs=>.string (mkS s)) (λ_=>rfl) p
abbrev tS:Ty (List UInt8):=Wk λ_=>True
def NoB:Bl:=λ_=>False
structure TF (P:Program)(t:TypeId)(k bytes:Nat)(z:Value):Prop where
 info:∃i,P.info? t=some i/\i.size=k/\i.bytes=bytes/\i.zero=some z
 cells:z.cells.size=k
 und:∃d,P.underlying t=some d/\(Et d=true\/k=1/\Et d=false)
theorem TF.of {P:Program}{t:TypeId}{k bytes:Nat}{z:Value}(h1:(P.info? t).map (λi=>(i.size,i.bytes,i.zero))=some (k,bytes,some z))(h2:z.cells.size=k)(b:Bool)
   (h3:(P.underlying t).map Et=some b) (h4:b=true\/k=1):TF P t k bytes z:=by
 cases hi:P.info? t with
 | none=>rw[hi]at h1;cases h1
 | some i=>
   rw[hi]at h1
   simp only[Option.map_some,Option.some.injEq,Prod.mk.injEq]at h1
   cases hu:P.underlying t with
   | none=>rw[hu]at h3;cases h3
   | some d=>
     rw[hu]at h3
     simp only[Option.map_some,Option.some.injEq]at h3
     refine⟨⟨i,hi,h1.1,h1.2.1,h1.2.2⟩,h2,d,hu,?_⟩
     cases b with
     | true=>exact .inl h3
     | false=>exact .inr ⟨h4.resolve_left (by simp),h3⟩
structure kg {α:Type}(T:Ty α)(w:World)(A:Bl)(l:List Value)(xs:List α):Prop where
 len:l.length=xs.length*T.k
 rep:∀i (h:i<xs.length),T.rep w A ((l.drop (i*T.k)).take T.k) xs[i]
theorem kg.nil {α:Type}(T:Ty α)(w:World)(A:Bl):kg T w A [] ([]:List α):=⟨by simp,λi h=>by cases h⟩
theorem kg.one {α:Type}{T:Ty α}{w:World}{A:Bl}{vs:List Value}{x:α}(h:T.rep w A vs x):kg T w A vs [x]:=by
 have hl:=T.len h
 refine⟨by simp[hl],λi hi=>?_⟩
 have:i=0:=by simpa using hi
 subst this
 simp only[Nat.zero_mul,List.drop_zero,List.getElem_cons_zero]
 rw[List.take_of_length_le (by omega)];exact h
theorem kg.append {α:Type}{T:Ty α}{w:World}{A:Bl}{l m:List Value}{xs ys:List α}(h:kg T w A l xs)(k:kg T w A m ys):kg T w A (l++m) (xs++ys):=by
 refine⟨by rw[List.length_append,List.length_append,h.len,k.len,Nat.add_mul],λi hi=>?_⟩
 by_cases c:i<xs.length
 · rw[List.getElem_append_left c]
   have h1:=h.rep i c
   have h2:i*T.k+T.k <=l.length:=by
     have:=Nat.mul_le_mul_right T.k (show i+1 <=xs.length from c)
     rw[Nat.add_mul,Nat.one_mul]at this
     rw[h.len];exact this
   rw[List.drop_append_of_le_length (by omega),List.take_append_of_le_length (by rw[List.length_drop];omega)]
   exact h1
 · have hi':i-xs.length<ys.length:=by simp at hi;omega
   rw[List.getElem_append_right (by omega)]
   have h1:=k.rep (i-xs.length) hi'
   have h2:i*T.k=l.length+(i-xs.length)*T.k:=by
     rw[h.len,<- Nat.add_mul];congr 1;omega
   rw[h2,List.drop_length_add_append]
   exact h1
theorem kg.keep {α:Type}{T:Ty α}{w w':World}{A:Bl}{l:List Value}{xs:List α}(h:kg T w A l xs)(hk:vV A w w'):kg T w' A l xs:=⟨h.len,λi hi=>T.keep (h.rep i hi) hk⟩
theorem kg.mono {α:Type}{T:Ty α}{w:World}{A A':Bl}{l:List Value}{xs:List α}(h:kg T w A l xs)(ha:∀b,b<w.heap.size->A b->A' b):kg T w A' l xs:=⟨h.len,λi hi=>T.mono (h.rep i hi) ha⟩
theorem kg.ones {α:Type}{T:Ty α}{w:World}{A:Bl} :∀{xs:List α} {l:List Value},kg T w A l xs->∀v∈l,v.oneCell'=true
 | [],l,h,v,hv=>by have:=h.len;simp at this;subst this;cases hv
 | x::xs,l,h,v,hv=>by
   have hl:=h.len
   have hk:=T.pos
   have h1:=h.rep 0 (by simp)
   rw[Nat.zero_mul,List.drop_zero]at h1
   have h2:kg T w A (l.drop T.k) xs:=by
     refine⟨by rw[List.length_drop,hl];simp[Nat.add_mul],λi hi=>?_⟩
     have:=h.rep (i+1) (by simp;omega)
     simp only[List.getElem_cons_succ]at this
     rw[List.drop_drop]
     rw[Nat.add_mul,Nat.one_mul,Nat.add_comm]at this
     exact this
   rw[<- List.take_append_drop T.k l]at hv
   rcases List.mem_append.1 hv with hv|hv
   · exact T.one h1 v hv
   · exact kg.ones h2 v hv
theorem kg.set {α:Type}{T:Ty α}{w:World}{A:Bl}{l:List Value}{xs:List α}(h:kg T w A l xs){i:Nat}(hi:i<xs.length){vs:List Value}{x:α}(hx:T.rep w A vs x):
   kg T w A (l.take (i*T.k)++vs++l.drop (i*T.k+vs.length)) (xs.set i x):=by
 have hv:=T.len hx
 have hb:i*T.k+T.k <=l.length:=by
   have:=Nat.mul_le_mul_right T.k (show i+1 <=xs.length from hi)
   rw[Nat.add_mul,Nat.one_mul]at this
   rw[h.len];exact this
 refine⟨?_,λj hj=>?_⟩
 · rw[List.length_set,<- h.len,List.length_append,List.length_append,List.length_take,List.length_drop,hv];omega
 · have hj':j<xs.length:=by simpa using hj
   have key:(l.take (i*T.k)++vs++l.drop (i*T.k+vs.length))=l.take (i*T.k)++(vs++l.drop (i*T.k+vs.length)):=List.append_assoc _ _ _
   have htl:(l.take (i*T.k)).length=i*T.k:=by rw[List.length_take];omega
   by_cases c1:j<i
   · have h1:=h.rep j hj'
     have h2:j*T.k+T.k <=i*T.k:=by
       have:=Nat.mul_le_mul_right T.k (show j+1 <=i from c1)
       rwa [Nat.add_mul,Nat.one_mul]at this
     rw[List.getElem_set_ne (by omega),key,List.drop_append_of_le_length (by omega),List.take_append_of_le_length (by rw[List.length_drop];omega)]
     rw[List.drop_take,List.take_take]
     rw[show min T.k (i*T.k-j*T.k)=T.k by omega]
     exact h1
   · by_cases c2:j=i
     · subst c2
       rw[List.getElem_set_self,key,List.drop_left' htl,<- hv,List.take_left]
       exact hx
     · have h1:=h.rep j hj'
       have h2:i*T.k+T.k <=j*T.k:=by
         have:=Nat.mul_le_mul_right T.k (show i+1 <=j by omega)
         rwa [Nat.add_mul,Nat.one_mul]at this
       rw[List.getElem_set_ne (by omega)]
       have e1:(l.take (i*T.k)++vs++l.drop (i*T.k+vs.length)).drop (j*T.k)=l.drop (j*T.k):=by
         have e2:j*T.k=(l.take (i*T.k)++vs).length+(j*T.k-(i*T.k+T.k)):=by rw[List.length_append,htl,hv];omega
         rw[e2,List.drop_length_add_append,List.drop_drop]
         congr 1
         omega
       rw[e1];exact h1
def At {α:Type}(T:Ty α)(w:World)(A:Bl)(b off:Nat)(xs:List α):Prop:=
 ∃l:List Value,kg T w A l xs/\∀j,j<l.length->w.cell? ⟨b,off+j,none⟩=l[j]?
def Sl {α:Type}(T:Ty α)(w:World)(A:Bl)(a:Option Addr)(n c:Nat)(xs:List α):Prop:=
 n=xs.length/\n <=c/\c <=maxLen/\(xs=[]\/∃b off,a=some ⟨b,off,none⟩/\b<w.heap.size/\A b/\At T w A b off xs)
theorem li {w w':World}{b:Nat}(h:w'.heap[b]? =w.heap[b]?)(o:Nat):w'.cell? ⟨b,o,none⟩=w.cell? ⟨b,o,none⟩:=by simp[World.cell?,h]
theorem At.keep {α:Type}{T:Ty α}{w w':World}{A:Bl}{b off:Nat}{xs:List α}(h:At T w A b off xs)(hb:b<w.heap.size)(ha:A b)(hk:vV A w w'):At T w' A b off xs:=by
 obtain⟨l,h1,h2⟩:=h
 exact⟨l,h1.keep hk,λj hj=>by rw[li (hk.block b hb ha)];exact h2 j hj⟩
theorem Sl.keep {α:Type}{T:Ty α}{w w':World}{A:Bl}{a:Option Addr}{n c:Nat}{xs:List α}(h:Sl T w A a n c xs)(hk:vV A w w'):Sl T w' A a n c xs:=by
 obtain⟨h1,h2,h3,h4⟩:=h
 refine⟨h1,h2,h3,?_⟩
 rcases h4 with h4|⟨b,off,e,hb,ha,h4⟩
 · exact .inl h4
 · exact .inr ⟨b,off,e,Nat.lt_of_lt_of_le hb hk.size,ha,h4.keep hb ha hk⟩
theorem Sl.below {α:Type}{T:Ty α}{w w':World}{A:Bl}{a:Option Addr}{n c:Nat}{xs:List α}(h:Sl T w A a n c xs)(hk:Below w.heap.size w w'):Sl T w' A a n c xs:=h.keep (xU hk A)
theorem Sl.mono {α:Type}{T:Ty α}{w:World}{A A':Bl}{a:Option Addr}{n c:Nat}{xs:List α}(h:Sl T w A a n c xs)(ha:∀b,b<w.heap.size->A b->A' b):Sl T w A' a n c xs:=by
 obtain⟨h1,h2,h3,h4⟩:=h
 refine⟨h1,h2,h3,?_⟩
 rcases h4 with h4|⟨b,off,e,hb,hab,h4⟩
 · exact .inl h4
 · obtain⟨l,h5,h6⟩:=h4
   exact .inr ⟨b,off,e,hb,ha b hb hab,l,h5.mono ha,h6⟩
theorem Sl.len {α:Type}{T:Ty α}{w:World}{A:Bl}{a:Option Addr}{n c:Nat}{xs:List α}(h:Sl T w A a n c xs):n=xs.length:=h.1
theorem Sl.le {α:Type}{T:Ty α}{w:World}{A:Bl}{a:Option Addr}{n c:Nat}{xs:List α}(h:Sl T w A a n c xs):xs.length <=9223372036854775807:=by
 have h1:=h.1;have h2:=h.2.1;have h3:=h.2.2.1;unfold maxLen at h3;omega
theorem Sl.nil {α:Type}(T:Ty α)(w:World)(A:Bl)(a:Option Addr)(c:Nat)(hc:c <=maxLen):Sl T w A a 0 c ([]:List α):=⟨rfl,Nat.zero_le _,hc,.inl rfl⟩
theorem Sl.isSome {α:Type}{T:Ty α}{w:World}{A:Bl}{a:Option Addr}{n c:Nat}{xs:List α}(h:Sl T w A a n c xs){i:Nat}(hi:i<xs.length):Option.isSome a=true:=by
 rcases h.2.2.2 with h4|⟨b,off,e,_⟩
 · subst h4;cases hi
 · rw[e];rfl
theorem gw (b o j:Nat):(⟨b,o,none⟩:Addr).add j=⟨b,o+j,none⟩:=by
 unfold Addr.add;split <;> simp_all
theorem gE {P:Program}{t:TypeId}{d:TypeDesc}(hu:P.underlying t=some d)(ha:Et d=false){w:World}{p:Addr}{v:Value}(hc:w.cell? p=some v):
   (loadVar t p).run P w=.ok v w:=by
 unfold loadVar
 rw[Sem.run_bind,sL hu,ha]
 simp[hc]
theorem Il {P:Program}{w:World}{b off:Nat}{vs:List Value}(h:∀j,j<vs.length->w.cell? ⟨b,off+j,none⟩=vs[j]?):(loadCells ⟨b,off,none⟩ vs.length).run P w=.ok vs.toArray w:=
 run_loadCells_list (P:=P) w ⟨b,off,none⟩ vs λj v hv=>by
   rw[gw,h j (by have:=(List.getElem?_eq_some_iff.1 hv).1;exact this)];exact hv
theorem vw {P:Program}{t:TypeId}{d:TypeDesc}{i:TypeInfo}(hu:P.underlying t=some d)(ha:Et d=true)(hi:P.info? t=some i){w:World}{b off:Nat}{vs:List Value}(hl:vs.length=i.size)
   (h:∀j,j<vs.length->w.cell? ⟨b,off+j,none⟩=vs[j]?):(loadVar t ⟨b,off,none⟩).run P w=.ok (.agg vs.toArray) w:=by
 unfold loadVar
 rw[Sem.run_bind,sL hu,ha]
 have:=Il (P:=P) h
 rw[hl]at this
 simp[fJ hi,this]
theorem jG (b off:Nat)(i:Int)(k:Nat):am (some ⟨b,off,none⟩) i k=some ⟨b,off+i.toNat*k,none⟩:=by
 simp[am,gw]
theorem At.elem {α:Type}{T:Ty α}{w:World}{A:Bl}{b off:Nat}{xs:List α}(h:At T w A b off xs){i:Nat}(hi:i<xs.length):
   ∃vs,T.rep w A vs xs[i]/\∀j,j<T.k->w.cell? ⟨b,off+i*T.k+j,none⟩=vs[j]? :=by
 obtain⟨l,h1,h2⟩:=h
 have hb:i*T.k+T.k <=l.length:=by
   have:=Nat.mul_le_mul_right T.k (show i+1 <=xs.length from hi)
   rw[Nat.add_mul,Nat.one_mul]at this
   rw[h1.len];exact this
 refine⟨_,h1.rep i hi,λj hj=>?_⟩
 rw[Nat.add_assoc,h2 _ (by omega),List.getElem?_take,if_pos hj,List.getElem?_drop]
theorem Sl.load1 {α:Type}{T:Ty α}{P:Program}{t:TypeId}{d:TypeDesc}(hu:P.underlying t=some d)(ha:Et d=false)(hk:T.k=1)
   {w:World} {A:Bl} {a:Option Addr} {n c:Nat} {xs:List α} (h:Sl T w A a n c xs) {i:Int} (hi:i.toNat<xs.length):
   ∃v,(Instr.loadAt t (.pointer (am a i 1))).run P w=.ok v w/\T.rep w A [v] xs[i.toNat]:=by
 rcases h.2.2.2 with h4|⟨b,off,e,hb,hab,h4⟩
 · subst h4;cases hi
 · obtain⟨vs,h5,h6⟩:=h4.elem hi
   have hl:=T.len h5
   rw[hk]at hl
   match vs,hl with
   | [v],_=>
     refine⟨v,?_,h5⟩
     have h7:=h6 0 (by rw[hk];decide)
     rw[hk]at h7
     rw[e,jG]
     show(do loadVar t (<- Instr.sureAddr (.pointer (some _)))).run P w=_
     rw[Sem.run_bind,gk]
     exact gE hu ha (by simpa using h7)
theorem Sl.loadA {α:Type}{T:Ty α}{P:Program}{t:TypeId}{d:TypeDesc}{ti:TypeInfo}(hu:P.underlying t=some d)(ha:Et d=true)(hi':P.info? t=some ti){k:Nat}(hk:T.k=k)(hs:ti.size=k)
   {w:World} {A:Bl} {a:Option Addr} {n c:Nat} {xs:List α} (h:Sl T w A a n c xs) {i:Int} (hi:i.toNat<xs.length):
   ∃vs,(Instr.loadAt t (.pointer (am a i k))).run P w=.ok (.agg vs.toArray) w/\T.rep w A vs xs[i.toNat]:=by
 subst hk
 rcases h.2.2.2 with h4|⟨b,off,e,hb,hab,h4⟩
 · subst h4;cases hi
 · obtain⟨vs,h5,h6⟩:=h4.elem hi
   have hl:=T.len h5
   refine⟨vs,?_,h5⟩
   rw[e,jG]
   show(do loadVar t (<- Instr.sureAddr (.pointer (some _)))).run P w=_
   rw[Sem.run_bind,gk]
   exact vw hu ha hi' (by omega) λj hj=>h6 j (by omega)
def dV (a:Option Addr):Option Nat:=a.map (·.block)
def Ow {α:Type}(T:Ty α)(t:TypeId)(w:World)(A:Bl)(a:Option Addr)(n c:Nat)(xs:List α):Prop:=
 n=xs.length/\n <=c/\c <=maxLen/\((a=none/\c=0/\xs=[])\/
   ∃g cur fr,a=some ⟨g,0,none⟩/\w.heap[g]? =some (.cells cur t fr)/\(∀i,i<cur.size-> ¬ (fr.1 <=i/\i<fr.2))/\cur.size=c*T.k/\kg T w A (cur.toList.take (n*T.k)) xs)
theorem Ow.nil {α:Type}(T:Ty α)(t:TypeId)(w:World)(A:Bl):Ow T t w A none 0 0 ([]:List α):=⟨rfl,Nat.le_refl _,Nat.zero_le _,.inl ⟨rfl,rfl,rfl⟩⟩
theorem Ow.len {α:Type}{T:Ty α}{t:TypeId}{w:World}{A:Bl}{a:Option Addr}{n c:Nat}{xs:List α}(h:Ow T t w A a n c xs):n=xs.length:=h.1
theorem Ow.le {α:Type}{T:Ty α}{t:TypeId}{w:World}{A:Bl}{a:Option Addr}{n c:Nat}{xs:List α}(h:Ow T t w A a n c xs):xs.length <=9223372036854775807:=by
 have h1:=h.1;have h2:=h.2.1;have h3:=h.2.2.1;unfold maxLen at h3;omega
theorem Ow.lt {α:Type}{T:Ty α}{t:TypeId}{w:World}{A:Bl}{a:Option Addr}{n c:Nat}{xs:List α}(h:Ow T t w A a n c xs):∀g,dV a=some g->g<w.heap.size:=by
 intro g hg
 rcases h.2.2.2 with⟨e,_⟩|⟨g',cur,fr,e,hh,_⟩
 · rw[e]at hg;cases hg
 · rw[e]at hg;simp[dV]at hg;subst hg;exact(Array.getElem?_eq_some_iff.1 hh).1
theorem Ow.keep {α:Type}{T:Ty α}{t:TypeId}{w w':World}{A:Bl}{a:Option Addr}{n c:Nat}{xs:List α}(h:Ow T t w A a n c xs)(hk:vV (λb=>A b\/some b=dV a) w w'):Ow T t w' A a n c xs:=by
 have hlt:=h.lt
 obtain⟨h1,h2,h3,h4⟩:=h
 refine⟨h1,h2,h3,?_⟩
 rcases h4 with h4|⟨g,cur,fr,e,hh,hf,hs,h4⟩
 · exact .inl h4
 · refine .inr ⟨g,cur,fr,e,?_,hf,hs,h4.keep (hk.mono λ_ h=>.inl h)⟩
   rw[hk.block g (hlt g (by rw[e];rfl)) (.inr (by rw[e];rfl))];exact hh
theorem Ow.below {α:Type}{T:Ty α}{t:TypeId}{w w':World}{A:Bl}{a:Option Addr}{n c:Nat}{xs:List α}(h:Ow T t w A a n c xs)(hk:Below w.heap.size w w'):Ow T t w' A a n c xs:=h.keep (xU hk _)
theorem Ow.mono {α:Type}{T:Ty α}{t:TypeId}{w:World}{A A':Bl}{a:Option Addr}{n c:Nat}{xs:List α}(h:Ow T t w A a n c xs)(ha:∀b,b<w.heap.size->A b->A' b):Ow T t w A' a n c xs:=by
 obtain⟨h1,h2,h3,h4⟩:=h
 refine⟨h1,h2,h3,?_⟩
 rcases h4 with h4|⟨g,cur,fr,e,hh,hf,hs,h4⟩
 · exact .inl h4
 · exact .inr ⟨g,cur,fr,e,hh,hf,hs,h4.mono ha⟩
theorem Ow.sl {α:Type}{T:Ty α}{t:TypeId}{w:World}{A A':Bl}{a:Option Addr}{n c:Nat}{xs:List α}(h:Ow T t w A a n c xs)(hA:∀b,b<w.heap.size->A b->A' b)(hg:∀g,dV a=some g->A' g):
   Sl T w A' a n c xs:=by
 have hlt:=h.lt
 obtain⟨h1,h2,h3,h4⟩:=h
 refine⟨h1,h2,h3,?_⟩
 rcases h4 with⟨_,_,h4⟩|⟨g,cur,fr,e,hh,hf,hs,h4⟩
 · exact .inl h4
 · refine .inr ⟨g,0,e,hlt g (by rw[e];rfl),hg g (by rw[e];rfl),_,h4.mono hA,λj hj=>?_⟩
   rw[List.length_take]at hj
   rw[cell_of_row w g _ cur t fr hh,Nat.zero_add,List.getElem?_take,if_pos (by omega)]
   simp
abbrev uc:Bl:=λ_=>True
theorem Ow.all {α:Type}{T:Ty α}{t:TypeId}{w:World}{A:Bl}{a:Option Addr}{n c:Nat}{xs:List α}(h:Ow T t w A a n c xs):Sl T w uc a n c xs:=h.sl (λ_ _ _=>trivial) (λ_ _=>trivial)
def bg (B:Nat)(a:Option Addr):Prop:=∀g,dV a=some g->B <=g
theorem bg.none (B:Nat):bg B none:=λ_ h=>by cases h
theorem bg.mono {B B':Nat}{a:Option Addr}(h:bg B a)(hb:B' <=B):bg B' a:=λg hg=>Nat.le_trans hb (h g hg)
theorem setRow_size (w:World)(g:Nat)(cs:Array Value):(w.setRow g cs).heap.size=w.heap.size:=by simp[World.setRow]
theorem fw (w:World)(g:Nat)(cs:Array Value):w.grownBy (w.setRow g cs) (some g):=
 ⟨rfl,rfl,rfl,by rw[setRow_size];exact Nat.le_refl _,λk _ hk=>setRow_other w g k cs λe=>hk (by rw[e])⟩
theorem hO {w:World}{g:Nat}{cur:Array Value}{t:TypeId}{fr:Nat×Nat}(hg:w.heap[g]? =some (.cells cur t fr))(o:Nat):w.cell? ⟨g,o,none⟩=cur[o]? :=cell_of_row w g o cur t fr hg
theorem EA {w:World}{g o:Nat}{cur:Array Value}{t:TypeId}{fr:Nat×Nat}(hg:w.heap[g]? =some (.cells cur t fr))(hf: ¬ (fr.1 <=o/\o<fr.2)):w.frozen? ⟨g,o,none⟩=false:=by
 obtain⟨lo,hi⟩:=fr
 simp only[World.frozen?,hg]
 simpa using hf
theorem Gu {P:Program}{w:World}{g o:Nat}{cur:Array Value}{t:TypeId}{fr:Nat×Nat}(hg:w.heap[g]? =some (.cells cur t fr))(ho:o<cur.size)(hf: ¬ (fr.1 <=o/\o<fr.2))
   {v:Value} (h1:v.oneCell'=true):(store ⟨g,o,none⟩ v).run P w=.ok () (w.setRow g (cur.setIfInBounds o v)):=by
 rw[run_store P w _ v .plain h1,hO hg,EA hg hf,Array.getElem?_eq_getElem ho]
 simp only[Bool.false_eq_true,if_false]
 congr 1
 obtain⟨heap,tape,drawn,os,output⟩:=w
 simp only[World.setCell,World.setRow]
 congr 1
 apply Array.ext_getElem?
 intro k
 rw[Array.getElem?_modify,Array.getElem?_modify]
 by_cases hk:g=k
 · subst hk
   simp only[if_true]
   have hg':heap[g]? =some (.cells cur t fr):=hg
   rw[hg']
   rfl
 · simp only[if_neg hk]
theorem j1 {P:Program}(g o:Nat)(t:TypeId)(fr:Nat×Nat):∀(vs:List Value) (i:Nat) (cur:Array Value) (w:World),w.heap[g]? =some (.cells cur t fr)->o+i+vs.length <=cur.size->
   (∀j,j<cur.size-> ¬ (fr.1 <=j/\j<fr.2))->(∀v∈vs,v.oneCell'=true)->
   (storeCells ⟨g,o,none⟩ vs i).run P w=.ok () (w.setRow g (cur.toList.take (o+i)++vs++cur.toList.drop (o+i+vs.length)).toArray)
 | [],i,cur,w,hg,_,_,_=>by
   simp only[storeCells,List.append_nil,List.length_nil,Nat.add_zero,List.take_append_drop,Array.toArray_toList]
   rw[setRow_self w g cur t fr hg]
   rfl
 | v::rest,i,cur,w,hg,hl,hf,h1=>by
   have hi:o+i<cur.size:=by simp at hl;omega
   simp only[storeCells,Sem.run_bind,gw]
   rw[Gu hg hi (hf _ hi) (h1 v List.mem_cons_self),Result.andThen_ok]
   rw[j1 g o t fr rest (i+1) (cur.setIfInBounds (o+i) v) _ (setRow_heap w g cur _ t fr hg) (by simp at hl ⊢;omega)
     (λj hj=>hf j (by simpa using hj)) (λu hu=>h1 u (List.mem_cons_of_mem _ hu))]
   congr 1
   have e2:∀(a b:Array Value),(w.setRow g a).setRow g b=w.setRow g b:=by
     intro a b
     obtain⟨heap,tape,drawn,os,output⟩:=w
     simp only[World.setRow]
     congr 1
     apply Array.ext_getElem?
     intro k
     rw[Array.getElem?_modify,Array.getElem?_modify,Array.getElem?_modify]
     by_cases hk:g=k
     · subst hk
       have hg':heap[g]? =some (.cells cur t fr):=hg
       simp[hg']
     · simp only[if_neg hk]
   rw[e2]
   congr 1
   apply Array.ext'
   simp only[Array.toList_setIfInBounds,List.length_cons]
   apply List.ext_getElem?
   intro k
   have hlen:cur.toList.length=cur.size:=by simp
   simp only[List.getElem?_append,List.length_append,List.length_take,List.length_set,List.getElem?_take,List.getElem?_drop,List.length_cons,hlen,List.getElem?_set]
   by_cases c1:k<o+i
   · have: ¬ o+i=k:=by omega
     simp[c1,this,show k<min (o+(i+1)) cur.size by omega,show k<min (o+i) cur.size by omega,show k<o+(i+1) by omega,
       show k<min (o+(i+1)) cur.size+rest.length by omega,show k<min (o+i) cur.size+(rest.length+1) by omega]
   · by_cases c2:k=o+i
     · subst c2
       have e3:min (o+i) cur.size=o+i:=by omega
       have e4:min (o+(i+1)) cur.size=o+i+1:=by omega
       simp[e3,e4,hi,show o+i<o+i+1+rest.length by omega,show o+i<o+(i+1) by omega]
     · have e3:min (o+i) cur.size=o+i:=by omega
       have e4:min (o+(i+1)) cur.size=o+i+1:=by omega
       by_cases c3:k<o+i+1+rest.length
       · have e5:k-(o+i)=(k-(o+i+1))+1:=by omega
         simp[e3,e4,c3,show k<o+i+(rest.length+1) by omega,show ¬ k<o+i+1 by omega,show ¬ k<o+i by omega,e5]
       · have e6: ¬ o+i=o+(i+1)+rest.length+(k-(o+i+1+rest.length)):=by omega
         have e7:o+(i+1)+rest.length+(k-(o+i+1+rest.length))=o+i+(rest.length+1)+(k-(o+i+(rest.length+1))):=by omega
         simp[e3,e4,c3,show ¬ k<o+i+(rest.length+1) by omega,e7]
         intro h;omega
def Src {α:Type}(T:Ty α)(w:World)(A:Bl)(y:Option Addr)(m:Nat)(ys:List α):Prop:=
 m=ys.length/\(ys=[]\/∃b off,y=some ⟨b,off,none⟩/\At T w A b off ys)
def Flat {α:Type}(T:Ty α):Prop:=∀w A w' A' vs x,T.rep w A vs x->T.rep w' A' vs x
theorem kg.flat {α:Type}{T:Ty α}(hf:Flat T){w w':World}{A A':Bl}{l:List Value}{xs:List α}(h:kg T w A l xs):kg T w' A' l xs:=⟨h.len,λi hi=>hf _ _ _ _ _ _ (h.rep i hi)⟩
theorem Sl.flat {α:Type}{T:Ty α}(hf:Flat T){w:World}{A A':Bl}{a:Option Addr}{n c:Nat}{xs:List α}(h:Sl T w A a n c xs):Src T w A' a n xs:=by
 obtain⟨h1,h2,h3,h4⟩:=h
 refine⟨h1,?_⟩
 rcases h4 with h4|⟨b,off,e,hb,hab,l,h5,h6⟩
 · exact .inl h4
 · exact .inr ⟨b,off,e,l,h5.flat hf,h6⟩
theorem Src.new1 {α:Type}{T:Ty α}{w:World}{A:Bl}{vs:List Value}{x:α}{t:TypeId}{b:Nat}{w':World}(hb:b=w.heap.size)(hw:w'=w.alloc (.cells vs.toArray t))(h:T.rep w A vs x)(hA:∀i,A i->i<w.heap.size):
   Src T w' A (some ⟨b,0,none⟩) 1 [x]:=by
 subst hb hw
 refine⟨rfl,.inr ⟨_,0,rfl,vs,kg.one (T.keep h ⟨by simp,λi hi _=>heap_alloc_old w _ i hi⟩),λj hj=>?_⟩⟩
 rw[hO (heap_alloc_new w _),Nat.zero_add]
 simp
theorem Src.new1F {α:Type}{T:Ty α}(hf:Flat T){w:World}{A:Bl}{vs:List Value}{x:α}{t:TypeId}{b:Nat}{w':World}(hb:b=w.heap.size)(hw:w'=w.alloc (.cells vs.toArray t))(h:T.rep w A vs x):
   Src T w' A (some ⟨b,0,none⟩) 1 [x]:=by
 subst hb hw
 refine⟨rfl,.inr ⟨_,0,rfl,vs,kg.one (hf _ _ _ _ _ _ h),λj hj=>?_⟩⟩
 rw[hO (heap_alloc_new w _),Nat.zero_add]
 simp
theorem Bu {w:World}{b off:Nat}{l:List Value}(h:∀j,j<l.length->w.cell? ⟨b,off+j,none⟩=l[j]?):∀j v,l[j]? =some v->w.cell? ((⟨b,off,none⟩:Addr).add j)=some v:=λj v hv=>by
 rw[gw,h j (List.getElem?_eq_some_iff.1 hv).1];exact hv
theorem dF {α:Type}{T:Ty α}{P:Program}{st t ty:TypeId}{bytes:Nat}{z:Value}(hu:P.underlying st=some (.slice t))(tf:TF P t T.k bytes z)(hb0:0<bytes)
   {w:World} {A:Bl} {a:Option Addr} {n c:Nat} {xs:List α} (ho:Ow T t w A a n c xs) (hA:∀g,dV a=some g-> ¬ A g)
   {y:Option Addr} {m cm:Nat} {ys:List α} (hs:Src T w A y m ys) (hbound:(xs.length+ys.length)*bytes <=140737488355328):
   ∃(w':World) (a':Option Addr) (n' c':Nat),(Builtin.append_ #[st,st] ty #[.slice a n c,.slice y m cm]).run P w=.ok (.slice a' n' c') w'/\Ow T t w' A a' n' c' (xs++ys)/\w.grownBy w' (dV a)/\
     (∀g,dV a'=some g->dV a=some g\/w.heap.size <=g):=by
 obtain⟨i,hi,hsz,hby,hz⟩:=tf.info
 have hzc:=tf.cells
 have hpos:=T.pos
 obtain⟨hn,hnc,hcm,ho4⟩:=ho
 obtain⟨hm,hs2⟩:=hs
 subst hn hm
 have hsum:xs.length+ys.length <=140737488355328:=Nat.le_trans (Nat.le_mul_of_pos_right _ hb0) hbound
 have hml:xs.length+ys.length <=maxLen:=by unfold maxLen;omega
 have hkeepA:∀{w'},w.grownBy w' (dV a)->vV A w w':=λhg=>fQ hg λb hb e=>hA b e.symm hb
 rcases ho4 with⟨rfl,rfl,rfl⟩|⟨g,cur,fr,rfl,hg,hf,hcs,hrep⟩
 ·
   rcases hs2 with rfl|⟨b,off,rfl,l,hl,hcl⟩
   · refine⟨w,none,0,0,?_,Ow.nil T t w A,⟨rfl,rfl,rfl,Nat.le_refl _,λ_ _ _=>rfl⟩,λg h=>by cases h⟩
     have hfc:(Builtin.firstCells i.size 0 (.slice y 0 cm)).run P w=.ok #[] w:=by
       cases y with
       | none=>rfl
       | some y=>simp[Builtin.firstCells,loadCells,loadCellsFrom]
     simp[Builtin.append_,bK hu,fJ hi,Builtin.lenOf,hfc]
   · by_cases h0:ys.length=0
     · have:ys=[]:=List.eq_nil_of_length_eq_zero h0
       subst this
       refine⟨w,none,0,0,?_,Ow.nil T t w A,⟨rfl,rfl,rfl,Nat.le_refl _,λ_ _ _=>rfl⟩,λg h=>by cases h⟩
       simp[Builtin.append_,bK hu,fJ hi,Builtin.lenOf,Builtin.firstCells,loadCells,loadCellsFrom]
     · have hr:=run_append_nil (P:=P) w st ty t i z hu hi hz ⟨b,off,none⟩ ys.length cm l (by rw[hl.len,hsz]) (Bu hcl) (by omega) (by simp at hsum;omega) (by rw[hby];simp at hbound;omega)
       refine⟨_,_,_,_,hr,?_,⟨rfl,rfl,rfl,by simp,λk hk _=>heap_alloc_old w.drew _ k hk⟩,λg h=>.inr (by simp[dV]at h;omega)⟩
       have hge:=grownCap_ge w ys.length 0 t
       have hcm':grownCap w ys.length 0 t <=maxLen:=grownCap_le_maxLen w ys.length 0 t (by simp at hml;exact hml)
       refine⟨by simp,hge,hcm',.inr ⟨_,_,(0,0),rfl,heap_alloc_new w.drew _,λi _=>by simp,?_,?_⟩⟩
       · simp only[Array.size_append,List.size_toArray,size_zeroCells,hzc,hl.len,<- Nat.add_mul]
         congr 1;omega
       · rw[List.nil_append]
         simp only[Array.toList_append]
         rw[<- hl.len,List.take_left]
         exact hl.keep ⟨by simp,λk hk _=>heap_alloc_old w.drew _ k hk⟩
 · have hlt:g<w.heap.size:=(Array.getElem?_eq_some_iff.1 hg).1
   have hxl:(cur.toList.take (xs.length*T.k)).length=xs.length*T.k:=hrep.len
   obtain⟨l,hl,hfirst⟩:∃l,kg T w A l ys/\(Builtin.firstCells i.size ys.length (.slice y ys.length cm)).run P w=.ok l.toArray w:=by
     rcases hs2 with rfl|⟨b,off,rfl,l,hl,hcl⟩
     · refine⟨[],kg.nil T w A,?_⟩
       cases y with
       | none=>rfl
       | some y=>simp[Builtin.firstCells,loadCells,loadCellsFrom]
     · exact⟨l,hl,run_firstCells_some (P:=P) w i.size ys.length ⟨b,off,none⟩ _ _ l (by rw[hl.len,hsz]) (Bu hcl)⟩
   have hlapp:((cur.toList.take (xs.length*T.k))++l).length=(xs.length+ys.length)*T.k:=by rw[List.length_append,hxl,hl.len,Nat.add_mul]
   by_cases hroom:xs.length+ys.length <=c
   · have hfit:xs.length*T.k+l.length <=cur.size:=by rw[hl.len,hcs,<- Nat.add_mul];exact Nat.mul_le_mul_right _ hroom
     have hst:=j1 (P:=P) g (xs.length*T.k) t fr l 0 cur w hg (by simpa using hfit) hf hl.ones
     simp only[Nat.add_zero]at hst
     refine⟨w.setRow g (cur.toList.take (xs.length*T.k)++l++cur.toList.drop (xs.length*T.k+l.length)).toArray,some ⟨g,0,none⟩,xs.length+ys.length,c,?_,?_,fw w g _,λg' h=>.inl h⟩
     · have hadd:(⟨g,0,none⟩:Addr).add (xs.length*i.size)=⟨g,xs.length*T.k,none⟩:=by rw[gw,hsz,Nat.zero_add]
       simp only[Builtin.append_,Sem.run_bind,bK hu,fJ hi,Builtin.lenOf,Sem.run_pure,Result.andThen_ok,hroom,List.getElem?_toArray,List.getElem?_cons_zero,List.getElem?_cons_succ,if_true,Bool.false_eq_true,if_false,Bool.not_false,hfirst,hadd,hst]
     · refine⟨by simp,hroom,hcm,.inr ⟨g,_,fr,rfl,setRow_heap w g cur _ t fr hg,?_,?_,?_⟩⟩
       · intro j hj
         refine hf j ?_
         simp at hj;omega
       · simp;omega
       · have e:((cur.toList.take (xs.length*T.k)++l++cur.toList.drop (xs.length*T.k+l.length)).toArray).toList.take ((xs.length+ys.length)*T.k)=cur.toList.take (xs.length*T.k)++l:=by
           rw[<- hlapp];simp only[];exact List.take_left
         rw[e]
         exact(hrep.append hl).keep (hkeepA (fw w g _))
   · have holds:∀j v,(cur.toList.take (xs.length*T.k))[j]? =some v->w.cell? ((⟨g,0,none⟩:Addr).add j)=some v:=λj v hv=>by
       rw[gw,Nat.zero_add,hO hg]
       rw[List.getElem?_take]at hv
       split at hv
       · simpa using hv
       · cases hv
     have hne:ys≠[]:=by
       intro e;subst e;simp at hroom;omega
     rcases hs2 with rfl|⟨b,off,rfl,l',hl',hcl⟩
     · exact absurd rfl hne
     · have hr:=run_append_grow (P:=P) w st ty t i z hu hi hz ⟨g,0,none⟩ xs.length c (cur.toList.take (xs.length*T.k)) (by rw[hxl,hsz]) holds ⟨b,off,none⟩ ys.length cm l' (by rw[hl'.len,hsz]) (Bu hcl)
         (by omega) (by omega) (growslice_fits (by omega) (by rw[hby];exact hbound))
       refine⟨_,_,_,_,hr,?_,⟨rfl,rfl,rfl,by simp,λk hk _=>heap_alloc_old w.drew _ k hk⟩,λg' h=>.inr (by simp[dV]at h;omega)⟩
       have hge:=grownCap_ge w (xs.length+ys.length) c t
       have hcm':grownCap w (xs.length+ys.length) c t <=maxLen:=grownCap_le_maxLen w _ c t hml
       have hlapp':((cur.toList.take (xs.length*T.k))++l').length=(xs.length+ys.length)*T.k:=by rw[List.length_append,hxl,hl'.len,Nat.add_mul]
       refine⟨by simp,hge,hcm',.inr ⟨_,_,(0,0),rfl,heap_alloc_new w.drew _,λi _=>by simp,?_,?_⟩⟩
       · simp only[Array.size_append,List.size_toArray,size_zeroCells,hzc,hxl,hl'.len,<- Nat.add_mul]
         congr 1;omega
       · simp only[Array.toList_append]
         rw[<- hlapp',List.take_left]
         exact(hrep.append hl').keep ⟨by simp,λk hk _=>heap_alloc_old w.drew _ k hk⟩
theorem run_storeVar_row {P:Program}{t u:TypeId}{ti:TypeInfo}(hi:P.info? t=some ti){w:World}{g o:Nat}{cur:Array Value}{fr:Nat×Nat}(hg:w.heap[g]? =some (.cells cur u fr))
   (hf:∀i,i<cur.size-> ¬ (fr.1 <=i/\i<fr.2)) {v:Value} (hs:v.cells.size=ti.size) (hfit:o+ti.size <=cur.size) (h1:∀c∈v.cells.toList,c.oneCell'=true):
   (Instr.storeAt t (.pointer (some ⟨g,o,none⟩)) v).run P w=.ok () (w.setRow g (cur.toList.take o++v.cells.toList++cur.toList.drop (o+v.cells.size)).toArray):=by
 show(do storeVar t (<- Instr.sureAddr (.pointer (some ⟨g,o,none⟩))) v).run P w=_
 rw[Sem.run_bind,gk,Result.andThen_ok]
 unfold storeVar
 rw[Sem.run_bind,fJ hi,Result.andThen_ok,if_neg (by simp[hs])]
 have:=j1 (P:=P) g o u fr v.cells.toList 0 cur w hg (by simp;omega) hf h1
 simpa using this
theorem Ow.store {α:Type}{T:Ty α}{P:Program}{t:TypeId}{bytes:Nat}{z:Value}(tf:TF P t T.k bytes z){w:World}{A:Bl}{a:Option Addr}{n c:Nat}{xs:List α}(ho:Ow T t w A a n c xs)(hA:∀g,dV a=some g-> ¬ A g)
   {i:Int} (hi:i.toNat<xs.length) {k:Nat} (hk:T.k=k) {v:Value} {x:α} (hv:T.rep w A v.cells.toList x):
   ∃w',(Instr.storeAt t (.pointer (am a i k)) v).run P w=.ok () w'/\Ow T t w' A a n c (xs.set i.toNat x)/\w.grownBy w' (dV a):=by
 subst hk
 obtain⟨ti,hti,hsz,_,_⟩:=tf.info
 have hvl:=T.len hv
 have hA':=hA
 obtain⟨hn,hnc,hcm,ho4⟩:=ho
 rcases ho4 with⟨_,_,rfl⟩|⟨g,cur,fr,rfl,hg,hf,hcs,hrep⟩
 · cases hi
 · subst hn
   have hb:i.toNat*T.k+T.k <=xs.length*T.k:=by
     have:=Nat.mul_le_mul_right T.k (show i.toNat+1 <=xs.length from hi)
     rwa [Nat.add_mul,Nat.one_mul]at this
   have hb2:xs.length*T.k <=cur.size:=by rw[hcs];exact Nat.mul_le_mul_right _ hnc
   have hvs:v.cells.size=T.k:=by simpa using hvl
   rw[jG,Nat.zero_add]
   refine⟨_,run_storeVar_row hti hg hf (by rw[hvs,hsz]) (by rw[hsz];omega) (T.one hv),?_,fw w g _⟩
   refine⟨by simp,hnc,hcm,.inr ⟨g,_,fr,rfl,setRow_heap w g cur _ t fr hg,?_,?_,?_⟩⟩
   · intro j hj
     refine hf j ?_
     simp at hj;omega
   · simp;omega
   · have h1:=(hrep.set hi hv).keep (fQ (fw w g (cur.toList.take (i.toNat*T.k)++v.cells.toList++cur.toList.drop (i.toNat*T.k+v.cells.size)).toArray) λb hb e=>hA g rfl (by cases e;exact hb))
     have e:((cur.toList.take (i.toNat*T.k)++v.cells.toList++cur.toList.drop (i.toNat*T.k+v.cells.size)).toArray).toList.take (xs.length*T.k)=
         (cur.toList.take (xs.length*T.k)).take (i.toNat*T.k)++v.cells.toList++(cur.toList.take (xs.length*T.k)).drop (i.toNat*T.k+v.cells.toList.length):=by
       simp only[]
       have e1:(cur.toList.take (xs.length*T.k)).take (i.toNat*T.k)=cur.toList.take (i.toNat*T.k):=by rw[List.take_take];congr 1;omega
       rw[e1,List.take_append,List.drop_take]
       have e2:(cur.toList.take (i.toNat*T.k)++v.cells.toList).length=i.toNat*T.k+T.k:=by simp[hvs];omega
       rw[e2,List.take_of_length_le (by rw[e2];omega)]
       congr 2
       rw[hvl]
     rw[e];exact h1
theorem qL {w w':World}(hos:w'.os=w.os)(ht:w'.tape=w.tape)(ho:w'.output=w.output)(hs:w.heap.size <=w'.heap.size)(hb:∀k,k<w.heap.size->w'.heap[k]? =w.heap[k]?):Below w.heap.size w w':=⟨hos,ht,ho,hs,hb⟩
theorem mj {α:Type}{e:α->Value}{h1:∀x,(e x).oneCell'=true}{p:α->Prop}{w:World}{A:Bl}{xs:List α}(hp:∀x∈xs,p x):kg (Ty.enc e h1 p) w A (xs.map e) xs:=by
 refine⟨by simp[Ty.enc],λi hi=>?_⟩
 have:((xs.map e).drop (i*1)).take 1=[e xs[i]]:=by
   rw[Nat.mul_one,<- List.map_drop,List.drop_eq_getElem_cons hi];rfl
 exact⟨this,hp _ (List.getElem_mem hi)⟩
theorem fx {α:Type}{e:α->Value}{h1:∀x,(e x).oneCell'=true}{p:α->Prop}{w:World}{A:Bl} :∀{l:List Value} {xs:List α},kg (Ty.enc e h1 p) w A l xs->l=xs.map e:=by
 intro l xs h
 have hl:l.length=xs.length:=by have:=h.len;simpa[Ty.enc]using this
 apply List.ext_getElem (by simp[hl])
 intro i h1 h2
 have hi:i<xs.length:=by omega
 have h3:((l.drop (i*1)).take 1)=[e xs[i]]:=(h.rep i hi).1
 have h4:((l.drop (i*1)).take 1)[0]? =some (e xs[i]):=by rw[h3];rfl
 rw[Nat.mul_one,List.getElem?_take,if_pos (by decide),List.getElem?_drop,Nat.add_zero,List.getElem?_eq_getElem h1]at h4
 rw[List.getElem_map];exact Option.some.inj h4
theorem mq {P:Program}{s d t:TypeId}(hs:P.underlying s=some .string)(hd:P.underlying d=some (.slice t))(ht:P.underlying t=some (.int .u8))(w:World)(l:List UInt8)(hl:l.length <=9223372036854775807)(A:Bl):
   ∃(w':World) (a:Option Addr) (n c:Nat),(convert s d (.string (mkS l))).run P w=.ok (.slice a n c) w'/\Ow tU8 t w' A a n c l/\Below w.heap.size w w'/\bg w.heap.size a:=by
 have hcap:∃cap,l.length <=cap/\cap <=maxLen/\(choose (.appendCap l.length 0 t)).run P w=.ok cap w.drew:=by
   refine⟨_,grownCap_ge w l.length 0 t,grownCap_le_maxLen w l.length 0 t (by unfold maxLen;omega),?_⟩
   rw[run_choose];rfl
 obtain⟨cap,h1,h2,hch⟩:=hcap
 have hsz:(mkS l).size=l.length:=rfl
 generalize hcs:(mkS l).data.map (λb=>Value.int .u8 (b.toNat:Nat))++Array.replicate (cap-l.length) (Value.int .u8 0)=cs
 have hcss:cs.size=cap:=by rw[<- hcs];simp[mkS];omega
 have hmark:(markStringish ⟨w.heap.size,0,none⟩).run P (w.drew.alloc (.cells cs t))=.ok () ((w.drew.alloc (.cells cs t)).freeze ⟨w.heap.size,cs.size,none⟩ 1):=by
   unfold markStringish
   have:(w.drew.alloc (.cells cs t)).shape? w.heap.size=some (t,cs.size):=by
     unfold World.shape?
     have:=heap_alloc_new w.drew (.cells cs t)
     rw[show w.drew.heap.size=w.heap.size from rfl]at this
     rw[this]
   simp[this]
 refine⟨(w.drew.alloc (.cells cs t)).freeze ⟨w.heap.size,cs.size,none⟩ 1,some ⟨w.heap.size,0,none⟩,l.length,cap,?_,?_,?_,λg hg=>by simp[dV]at hg;omega⟩
 · simp only[convert,Sem.run_bind,bK hs,bK hd,Result.andThen_ok,bK ht,Conv.stringToBytes,hsz,hch]
   show((newRow t _).run P w.drew).andThen _=_
   rw[hcs]
   simp only[newRow,Sem.run_bind,run_newObj,Result.andThen_ok,Sem.run_pure,World.alloc_eq]
   rw[show w.drew.heap.size=w.heap.size from rfl,hmark]
   rfl
 · have hheap:((w.drew.alloc (.cells cs t)).freeze ⟨w.heap.size,cs.size,none⟩ 1).heap[w.heap.size]? =some (.cells cs t (cs.size,cs.size+1)):=by
     have:=heap_alloc_new w.drew (.cells cs t)
     rw[show w.drew.heap.size=w.heap.size from rfl]at this
     simp only[World.freeze,if_neg (show ¬ (1:Nat)=0 by decide),Array.getElem?_modify,if_true,this]
     rfl
   refine⟨rfl,h1,h2,.inr ⟨_,_,_,rfl,hheap,λi hi=>by omega,by rw[hcss];exact(Nat.mul_one cap).symm,?_⟩⟩
   have e:cs.toList.take (l.length*tU8.k)=l.map λc=>Value.int .u8 (c.toNat:Nat):=by
     rw[<- hcs]
     simp[mkS,tU8,Ty.enc]
   rw[e]
   exact mj λ_ _=>trivial
 · refine qL rfl rfl rfl (by simp[World.freeze]) λk hk=>?_
   simp only[World.freeze,if_neg (show ¬ (1:Nat)=0 by decide),Array.getElem?_modify]
   rw[if_neg (show ¬ w.heap.size=k by omega)]
   exact heap_alloc_old w.drew _ k hk
theorem vL {P:Program}{s d t:TypeId}(hs:P.underlying s=some (.slice t))(hd:P.underlying d=some .string)(ht:P.underlying t=some (.int .u8)){w:World}{A:Bl}{a:Option Addr}{n c:Nat}{xs:List UInt8}(h:Sl tU8 w A a n c xs):
   (convert s d (.slice a n c)).run P w=.ok (.string (mkS xs)) w:=by
 have conv:(convert s d (.slice a n c)).run P w=(Conv.bytesToString (.slice a n c)).run P w:=by
   cases a <;> simp[convert,bK hs,bK hd,bK ht]
 rw[conv]
 obtain⟨hn,_,_,h4⟩:=h
 have loop:∀(msg:String) (l:List UInt8) (acc:List UInt8),(do
     let r <- forIn (l.map λc=>Value.int .u8 (c.toNat:Nat)) (mkS acc) λc r=>do
       let .int .u8 n:=c|stuck msg
       pure (ForInStep.yield (r.push (UInt8.ofNat n.toNat)))
     pure (Value.string r):Sem Value).run P w=.ok (.string (mkS (acc++l))) w:=by
   intro msg l
   induction l with
   | nil=>intro acc;simp
   | cons x l ih=>
     intro acc
     have e1:(mkS acc).push x=mkS (acc++[x]):=by simp[mkS,ByteArray.push]
     have:=ih (acc++[x])
     simp only[List.map_cons,List.forIn_cons,bind_assoc,pure_bind,Int.toNat_natCast,UInt8.ofNat_toNat,e1]
     rw[this];simp
 cases a with
 | none=>
   have:xs=[]:=by
     rcases h4 with h4|⟨b,off,e,_⟩
     · exact h4
     · cases e
   subst this
   simp[Conv.bytesToString];rfl
 | some p=>
   have hcells:(loadCells p n).run P w=.ok (xs.map λc=>Value.int .u8 (c.toNat:Nat)).toArray w:=by
     rcases h4 with h4|⟨b,off,e,hb,hab,l,h5,h6⟩
     · subst h4;subst hn;simp[loadCells,loadCellsFrom]
     · cases e
       have:=Il (P:=P) h6
       rw[h5.len]at this
       rw[fx h5]at this
       rw[hn]
       simpa[tU8,Ty.enc]using this
   have key:∃msg:String,(Conv.bytesToString (.slice (some p) n c)).run P w=((loadCells p n).run P w).andThen λcs w'=>(do
     let r <- forIn cs (mkS []) λc r=>do
       let .int .u8 n:=c|stuck msg
       pure (ForInStep.yield (r.push (UInt8.ofNat n.toNat)))
     pure (Value.string r):Sem Value).run P w':=by
     constructor
     unfold Conv.bytesToString
     simp only[Sem.run_bind]
     rfl
   obtain⟨msg,key⟩:=key
   rw[key,hcells,Result.andThen_ok]
   have:=loop msg xs []
   rw[List.nil_append]at this
   rw[<- this]
   simp only[List.forIn_toArray]
theorem wrap_i64 {n:Int}(h1: -9223372036854775808 <=n)(h2:n <=9223372036854775807):i64.wrap n=n:=IntWalk.i64_in n ⟨h1,h2⟩
theorem wrap_u8 {n:Int}(h1:0 <=n)(h2:n <=255):IntKind.u8.wrap n=n:=IntWalk.u8_in n ⟨h1,h2⟩
theorem Em (c:UInt8):(0:Int) <=(c.toNat:Nat)/\((c.toNat:Nat):Int) <=255:=by
 have:=c.toNat_lt;omega
theorem Eu {s:List UInt8}{i:Int}(h:i.toNat<s.length):eF s i=((s[i.toNat]).toNat:Nat):=by
 simp[eF,h]
theorem IE {a b:UInt8}(h:((a.toNat:Nat):Int)=((b.toNat:Nat):Int)):a=b:=UInt8.toNat_inj.1 (by omega)
theorem vO {n:Nat}(h:n <=255):(UInt8.ofNat n).toNat=n:=by rw[UInt8.toNat_ofNat'];omega
theorem zl {w:World}{A:Bl}{n:Int}{c:UInt8}(h:n=((c.toNat:Nat):Int)):tU8.rep w A [.int .u8 n] c:=⟨by rw[h],trivial⟩
theorem sF {w:World}{A:Bl}{n:Int} :lS.rep w A [.int .i64 n] n:=⟨rfl,trivial⟩
theorem AQ {w:World}{A:Bl}{b:Bool} :AA.rep w A [.bool b] b:=⟨rfl,trivial⟩
theorem qO {w:World}{A:Bl}{p:List UInt8->Prop}{s:List UInt8}(h:p s):(Wk p).rep w A [.string (mkS s)] s:=⟨rfl,h⟩
theorem xg {w:World}{A:Bl}{v:Value}{c:UInt8}(h:tU8.rep w A [v] c):v=.int .u8 (c.toNat:Nat):=by have:=h.1;simpa using this
theorem Oc {w:World}{A:Bl}{v:Value}{n:Int}(h:lS.rep w A [v] n):v=.int .i64 n:=by have:=h.1;simpa using this
theorem P4 {w:World}{A:Bl}{v:Value}{n:Bool}(h:AA.rep w A [v] n):v=.bool n:=by have:=h.1;simpa using this
theorem CU {w:World}{A:Bl}{p:List UInt8->Prop}{v:Value}{s:List UInt8}(h:(Wk p).rep w A [v] s):v=.string (mkS s)/\p s:=⟨by have:=h.1;simpa using this,h.2⟩
theorem bg.app {B:Nat}{w:World}{a a':Option Addr}(hf:bg B a)(hB:B <=w.heap.size)(h:∀g,dV a'=some g->dV a=some g\/w.heap.size <=g):bg B a':=λg hg=>by
 rcases h g hg with h|h
 · exact hf g h
 · exact Nat.le_trans hB h
theorem tV:Flat lS:=λ_ _ _ _ _ _ h=>h
theorem FG:Flat tU8:=λ_ _ _ _ _ _ h=>h
theorem HB:Flat AA:=λ_ _ _ _ _ _ h=>h
theorem jS (p:List UInt8->Prop):Flat (Wk p):=λ_ _ _ _ _ _ h=>h
theorem Ow.newF {α:Type}{T:Ty α}(hf:Flat T){w w':World}{A:Bl}{t:TypeId}{l:List Value}{xs:List α}{b:Nat}(hb:b=w.heap.size)(hw:w'=w.alloc (.cells l.toArray t))(h:kg T w A l xs)(hm:xs.length <=maxLen):
   Ow T t w' A (some ⟨b,0,none⟩) xs.length xs.length xs:=by
 subst hb hw
 refine⟨rfl,Nat.le_refl _,hm,.inr ⟨_,l.toArray,(0,0),rfl,heap_alloc_new w _,?_,by simpa using h.len,?_⟩⟩
 · intro i hi;simp
 · rw[<- h.len];simp;exact h.flat hf
theorem HC {w:World}{b:Nat}(hb:b=w.heap.size):bg w.heap.size (some ⟨b,0,none⟩):=λg hg=>by simp[dV]at hg;omega
theorem xN {H:Type}{enc:TypeId×Value->H}{C:Checked}{os:Os}{f:FuncId}{fn:Func}{s:OpenSpec}{conds:List PathCond}{apart:Bool}{laid:List (String×DataW Unit)}(modest:Bool)(w0:World)(args:Array Value)(hos:w0.os=os)
   (hsh:(w0.forCall (λ_ _=>0) ⟨#[],args,[]⟩).Shaped C.prog)
   (hok:Input.okWideB C.prog (w0.forCall (λ_ _=>0) ⟨#[],args,[]⟩) f ⟨#[],args,[]⟩=true)
   (hrow:s.preRow enc C.prog fn conds apart laid (w0.forCall (λ_ _=>0) ⟨#[],args,[]⟩).memory args):
   ∃(w:World) (tape:Tape) (i:Input),w.os=os/\(w.forCall tape i).Shaped C.prog/\i.vars=[]/\Input.okWide C.prog (w.forCall tape i) .any w.heap.size f i/\
     s.preRow enc C.prog fn conds apart laid (w.forCall tape i).memory i.args/\({ modest:=modest } :Assume).holds C.prog (lone (Frame.enter C.prog f i.args .normal) [] (w.forCall tape i)):=
 ⟨w0,λ_ _=>0,⟨#[],args,[]⟩,hos,hsh,(Input.okWide_of_okWideB (base:=0) hok).1,(Input.okWide_of_okWideB hok).2,hrow,by
   simp only[Assume.holds]
   exact⟨by simp,by simp,λ_=>Modest.zero,by simp,by simp⟩⟩
def ai (w:World)(k:Nat)(t:TypeId)(vs:List Value):Prop:=w.heap[k]? =some (.cells vs.toArray t (0,0))
theorem ai.new {w w':World}{k:Nat}{t:TypeId}{vs:List Value}(hk:k=w.heap.size)(hw:w'=w.alloc (.cells vs.toArray t)):ai w' k t vs:=by
 subst hk hw;exact heap_alloc_new w _
theorem ai.lt {w:World}{k:Nat}{t:TypeId}{vs:List Value}(h:ai w k t vs):k<w.heap.size:=(Array.getElem?_eq_some_iff.1 (show w.heap[k]? =_ from h)).1
theorem ai.block {w w':World}{k:Nat}{t:TypeId}{vs:List Value}(h:ai w k t vs)(e:w'.heap[k]? =w.heap[k]?):ai w' k t vs:=e.trans h
theorem ai.below {w w':World}{k:Nat}{t:TypeId}{vs:List Value}(h:ai w k t vs)(hb:Below w.heap.size w w'):ai w' k t vs:=h.block (hb.block k h.lt)
theorem ai.grown {w w':World}{k:Nat}{t:TypeId}{vs:List Value}{row:Option Nat}(h:ai w k t vs)(hg:w.grownBy w' row)(hne:some k≠row):ai w' k t vs:=h.block (hg.block k h.lt hne)
theorem ai.cell {w:World}{k:Nat}{t:TypeId}{vs:List Value}(h:ai w k t vs)(i:Nat):w.cell? ⟨k,i,none⟩=vs[i]? :=by rw[hO h];simp
theorem ai.load1 {P:Program}{u:TypeId}{d:TypeDesc}(hu:P.underlying u=some d)(ha:Et d=false){w:World}{k:Nat}{t:TypeId}{vs:List Value}(h:ai w k t vs){i:Nat}{v:Value}(hv:vs[i]? =some v):
   (Instr.loadAt u (.pointer (some ⟨k,i,none⟩))).run P w=.ok v w:=gE hu ha (by rw[h.cell];exact hv)
theorem ai.loadA {P:Program}{u:TypeId}{d:TypeDesc}{ti:TypeInfo}(hu:P.underlying u=some d)(ha:Et d=true)(hi:P.info? u=some ti){w:World}{k:Nat}{t:TypeId}{vs us:List Value}(h:ai w k t vs){i:Nat}(hl:us.length=ti.size)
   (hv:∀j,j<us.length->vs[i+j]? =us[j]?):(Instr.loadAt u (.pointer (some ⟨k,i,none⟩))).run P w=.ok (.agg us.toArray) w:=
 vw hu ha hi hl λj hj=>by rw[h.cell];exact hv j hj
theorem ai.res {P:Program}{u:TypeId}{p:Addr}{w w':World}{v:Value}(h:(Instr.loadAt u (.pointer (some p))).run P w=.ok v w'):(aV u (.pointer (some p))).run P w=.ok v w':=h
theorem ai.store {P:Program}{u:TypeId}{bytes n:Nat}{z:Value}(tf:TF P u n bytes z){w:World}{k:Nat}{t:TypeId}{vs:List Value}(h:ai w k t vs){i:Nat}{v:Value}(hs:v.cells.size=n)(hfit:i+n <=vs.length)(h1:∀c∈v.cells.toList,c.oneCell'=true):
   ∃w',(Instr.storeAt u (.pointer (some ⟨k,i,none⟩)) v).run P w=.ok () w'/\ai w' k t (vs.take i++v.cells.toList++vs.drop (i+n))/\w.grownBy w' (some k):=by
 obtain⟨ti,hti,hsz,_,_⟩:=tf.info
 refine⟨_,run_storeVar_row hti (o:=i) h (λi _=>by simp) (by rw[hs,hsz]) (by rw[hsz];simpa using hfit) h1,?_,fw w k _⟩
 have:=setRow_heap w k vs.toArray (vs.take i++v.cells.toList++vs.drop (i+n)).toArray t (0,0) h
 rw[<- hs]at this ⊢
 exact this
theorem nK {n:Nat}{w:World}{R:Bool->World->Prop}{B:(Bool->World->Prop)->Prop}(f:Bool)(hB:B (λb w'=>w'=w/\b=f))(h:R f w):
   ∃J:FP [.one (.bool)],B J/\∀b:Bool,aN n (∀wj:World,J b wj->R b wj):=by
 refine⟨λb w'=>w'=w/\b=f,hB,λb=>aN.of ?_ _⟩
 rintro wj ⟨rfl,rfl⟩;exact h
theorem Wb {n:Nat}{k:IntKind}{w:World}{R:Int->World->Prop}{B:(Int->World->Prop)->Prop}(f:Int)(hB:B (λb w'=>w'=w/\b=f))(h:R f w):
   ∃J:FP [.one (.int k)],B J/\∀b:Int,aN n (∀wj:World,J b wj->R b wj):=by
 refine⟨λb w'=>w'=w/\b=f,hB,λb=>aN.of ?_ _⟩
 rintro wj ⟨rfl,rfl⟩;exact h
theorem Xv {n:Nat}{w:World}{R:List UInt8->World->Prop}{B:(List UInt8->World->Prop)->Prop}(f:List UInt8)(hB:B (λb w'=>w'=w/\b=f))(h:R f w):
   ∃J:FP [.one (.str)],B J/\∀b:List UInt8,aN n (∀wj:World,J b wj->R b wj):=by
 refine⟨λb w'=>w'=w/\b=f,hB,λb=>aN.of ?_ _⟩
 rintro wj ⟨rfl,rfl⟩;exact h
theorem wu {n:Nat}{w:World}{R:World->Prop}{B:(World->Prop)->Prop}(Q:Prop)(hB:B (λw'=>w'=w/\Q))(h:Q->R w):
   ∃J:FP [],B J/\aN n (∀wj:World,J wj->R wj):=by
 refine⟨λw'=>w'=w/\Q,hB,aN.of ?_ _⟩
 rintro wj ⟨rfl,hq⟩;exact h hq
theorem j8 {n:Nat}{R:World->Prop}{B:(World->Prop)->Prop}(Q:World->Prop)(hB:B Q)(h:∀w,Q w->R w):
   ∃J:FP [],B J/\aN n (∀wj:World,J wj->R wj):=⟨Q,hB,aN.of h _⟩
theorem Kq {n:Nat}{R:Bool->World->Prop}{B:(Bool->World->Prop)->Prop}(Q:Bool->World->Prop)(hB:B Q)(h:∀b w,Q b w->R b w):
   ∃J:FP [.one (.bool)],B J/\∀b:Bool,aN n (∀wj:World,J b wj->R b wj):=⟨Q,hB,λb=>aN.of (h b) _⟩
theorem orJ {n:Nat}{w:World}{c x:Bool}{R:Bool->World->Prop}(h:R (c || x) w):∃J:FP [.one (.bool)],ae c (J true w) (J x w)/\∀b:Bool,aN n (∀wj:World,J b wj->R b wj):=
 nK (B:=λJ=>ae c (J true w) (J x w)) (c || x) (ae.of (λh=>⟨rfl,by rw[h];rfl⟩) (λh=>⟨rfl,by rw[h];rfl⟩)) h
theorem Cz {α:Type}{T:Ty α}(hfl:Flat T){P:Program}{st t ty:TypeId}{bytes:Nat}{z:Value}(hu:P.underlying st=some (.slice t))(tf:TF P t T.k bytes z)(hb0:0<bytes)
   {w0 w w1:World} {a:Option Addr} {n c:Nat} {xs:List α} (ho:Ow T t w NoB a n c xs) (hf:bg w0.heap.size a) (hb:Below w0.heap.size w0 w) {k1:Nat} {vs:List Value} {x:α} (hk:k1=w.heap.size)
   (hw:w1=w.alloc (.cells vs.toArray t)) (hx:T.rep w NoB vs x) {cm:Nat} (hbound:(xs.length+1)*bytes <=140737488355328):
   ∃(w2:World) (a':Option Addr) (n' c':Nat),(Builtin.append_ #[st,st] ty #[.slice a n c,.slice (some ⟨k1,0,none⟩) 1 cm]).run P w1=.ok (.slice a' n' c') w2/\Ow T t w2 NoB a' n' c' (xs++[x])/\bg w0.heap.size a'/\Below w0.heap.size w0 w2:=by
 have hB1:Below w.heap.size w w1:=hw▸ah w _
 have ho3:=ho.below hB1
 have hsrc:Src T w1 NoB (some ⟨k1,0,none⟩) 1 [x]:=Src.new1F hfl hk hw hx
 obtain⟨w4,a4,n4,c4,hr,ho4,hgr,hfr⟩:=dF (ty:=ty) hu tf hb0 ho3 (λ_ _ h=>h) (cm:=cm) hsrc (by simpa using hbound)
 have hB:=ab hb hB1 hb.size
 exact⟨w4,a4,n4,c4,hr,ho4,hf.app hB.size hfr,hB.grown hgr hB.size hf⟩
theorem jY {P:Program}{f:FuncId}{args:Array Value}{w u:World}{v:Value}(h:Calls P f args u (Ret λv' w'=>v'=v/\Below u.heap.size u w'))(hu:Below w.heap.size w u):
   Calls P f args u λe w'=>e=.returned v/\Below w.heap.size u w':=by
 refine h.mono ?_
 rintro _ w' ⟨_,rfl,rfl,hb⟩
 exact⟨rfl,hb.mono hu.size⟩
theorem fits {a b:Nat}(h:a+b <=9223372036854775807):((a+b:Nat):Int) <=i64.max:=by simp[IntKind.max,IntKind.bits];omega
theorem ID {t b:Int}(hb:0<b):(0 <=t->Int.tdiv t b=t/b/\Int.tmod t b=t%b)/\(t<0->Int.tdiv t b= -((-t)/b)/\Int.tmod t b= -((-t)%b)):=by
 refine⟨λh=>⟨Int.tdiv_eq_ediv_of_nonneg h,Int.tmod_eq_emod_of_nonneg h⟩,λh=>?_⟩
 obtain⟨u,rfl⟩:∃u,t= -u:=⟨-t,by omega⟩
 rw[Int.neg_tdiv,Int.neg_tmod,Int.neg_neg,Int.tdiv_eq_ediv_of_nonneg (by omega),Int.tmod_eq_emod_of_nonneg (by omega)]
 exact⟨rfl,rfl⟩
theorem nY {α:Type}(p:α->Bool)(s:List α):(s.takeWhile p).length <=s.length:=(List.takeWhile_sublist p).length_le
def dz (c:UInt8):List UInt8->List UInt8->List (List UInt8)
 | cur,[]=>[cur]
 | cur,x::r=>if x=c then cur::dz c [] r else dz c (cur++[x]) r
theorem Kv (c:UInt8):∀(a cur r:List UInt8),(∀x∈a,x≠c)->dz c cur (a++c::r)=(cur++a)::dz c [] r
 | [],cur,r,_=>by
   show(if c=c then _ else _)=_
   rw[if_pos rfl,List.append_nil]
 | x::a,cur,r,ha=>by
   show(if x=c then _ else _)=_
   rw[if_neg (ha x List.mem_cons_self)]
   exact(Kv c a (cur++[x]) r λy hy=>ha y (List.mem_cons_of_mem _ hy)).trans (by simp)
theorem Hm (c:UInt8):∀(a cur:List UInt8),(∀x∈a,x≠c)->dz c cur a=[cur++a]
 | [],cur,_=>by simp[dz]
 | x::a,cur,ha=>by
   show(if x=c then _ else _)=_
   rw[if_neg (ha x List.mem_cons_self)]
   exact(Hm c a (cur++[x]) λy hy=>ha y (List.mem_cons_of_mem _ hy)).trans (by simp)
theorem oF (c:UInt8):∀(s cur:List UInt8),dz c cur s≠[]
 | [],cur=>by simp[dz]
 | x::s,cur=>by
   show(if x=c then _ else _)≠_
   split
   · simp
   · exact oF c s _
theorem jE (c:UInt8):∀(s cur x:List UInt8),x∈dz c cur s->x.length <=cur.length+s.length
 | [],cur,x,h=>by simp[dz]at h;subst h;simp
 | y::r,cur,x,h=>by
   unfold dz at h
   split at h
   · rcases List.mem_cons.1 h with rfl|h
     · simp
     · have:=jE c r [] x h;simp at this ⊢;omega
   · have:=jE c r _ x h;simp at this ⊢;omega
theorem dZ (c:UInt8):∀(s cur:List UInt8),(dz c cur s).length <=s.length+1
 | [],cur=>by simp[dz]
 | y::r,cur=>by
   unfold dz
   split
   · have:=dZ c r [];simp;omega
   · have:=dZ c r (cur++[y]);simp;omega
theorem EE (s:List UInt8)(c:UInt8):(Lib.index s [c]= -1/\∀x∈s,x≠c)\/∃i:Nat,Lib.index s [c]=(i:Int)/\∃h:i<s.length,s=s.take i++c::s.drop (i+1)/\∀x∈s.take i,x≠c:=by
 induction s with
 | nil=>exact .inl ⟨rfl,λx h=>by cases h⟩
 | cons b l ih=>
   by_cases h:b=c
   · subst h
     refine .inr ⟨0,by rw[Lib.index];simp[List.isPrefixOf],by simp,rfl,λx h=>by simp at h⟩
   · have hp:([c]:List UInt8).isPrefixOf (b::l)=false:=by simp[List.isPrefixOf,Ne.symm h]
     have hix:Lib.index (b::l) [c]=if Lib.index l [c]== -1 then -1 else Lib.index l [c]+1:=by rw[Lib.index,hp];simp
     rcases ih with⟨h1,h2⟩|⟨i,h1,h2,h3,h4⟩
     · refine .inl ⟨by rw[hix,h1];rfl,λx hx=>?_⟩
       rcases List.mem_cons.1 hx with rfl|hx
       · exact h
       · exact h2 x hx
     · refine .inr ⟨i+1,?_,by simpa using h2,?_,λx hx=>?_⟩
       · rw[hix,h1,if_neg (by rw[beq_iff_eq];omega)];omega
       · simp only[List.take_succ_cons,List.drop_succ_cons,List.cons_append]
         rw[<- h3]
       · rw[List.take_succ_cons]at hx
         rcases List.mem_cons.1 hx with rfl|hx
         · exact h
         · exact h4 x hx
theorem CS (c:UInt8):∀(n:Nat) (s:List UInt8),s.length <=n->Lib.splitK [c] 0 (Lib.count s [c]) s=dz c [] s
 | n,s,hn=>by
   rcases EE s c with⟨h1,h2⟩|⟨i,h1,h2,h3,h4⟩
   · rw[Lib.count_miss h1,Hm c s [] h2];rfl
   · have hc:=Lib.count_hit (s:=s) (sub:=[c]) (by simp) h1
     cases n with
     | zero=>omega
     | succ n=>
       have ih:=CS c n (s.drop (i+1)) (by rw[List.length_drop];omega)
       rw[hc,Nat.add_comm 1]
       unfold Lib.splitK
       rw[if_neg (by rw[h1,beq_iff_eq];omega),h1]
       simp only[Int.toNat_natCast,Nat.add_zero,List.length_cons,List.length_nil,Nat.zero_add]
       rw[ih]
       conv=>rhs;rw[h3,Kv c _ _ _ h4]
       simp
theorem CT (s:List UInt8)(c:UInt8):(Lib.splitB (mkS [c]) 0 (Lib.countB (mkS s) (mkS [c])) (mkS s)).map Value.string=(dz c [] s).map λx=>Value.string (mkS x):=by
 have h:=Lib.splitB_data (mkS [c]) 0 (Lib.countB (mkS s) (mkS [c])) (mkS s)
 have h2:Lib.splitK (mkS [c]).data.toList 0 (Lib.countB (mkS s) (mkS [c])) (mkS s).data.toList=dz c [] s:=CS c _ s (Nat.le_refl _)
 rw[h2]at h
 rw[<- h,List.map_map]
 rfl
theorem J9 (s:List UInt8)(c:UInt8):Lib.countB (mkS s) (mkS [c])+1=(dz c [] s).length:=by
 have h:=CT s c
 have h2:=congrArg List.length h
 rw[List.length_map,List.length_map,Lib.splitB_all (mkS [c]) (Nat.le_refl 1) 0 _ _ rfl]at h2
 exact h2
theorem Qp (s:List UInt8)(c:UInt8):Lib.cut s [c]=if c∈s then(s.takeWhile (· !=c),(s.dropWhile (· !=c)).drop 1,true)else(s,[],false):=by
 unfold Lib.cut
 rcases EE s c with⟨h1,h2⟩|⟨i,h1,h2,h3,h4⟩
 · rw[h1,if_neg (by omega),if_neg (λh=>h2 c h rfl)]
 · have hmem:c∈s:=by rw[h3];simp
   rw[h1,if_pos (by omega),if_pos hmem]
   have ht:s.takeWhile (· !=c)=s.take i:=by
     conv=>lhs;rw[h3]
     rw[List.takeWhile_append_of_pos (by intro a ha;simpa using h4 a ha)]
     simp
   have hd:s.dropWhile (· !=c)=c::s.drop (i+1):=by
     conv=>lhs;rw[h3]
     rw[List.dropWhile_append_of_pos (by intro a ha;simpa using h4 a ha)]
     simp
   rw[ht,hd];rfl
def zS (x:List UInt8):List UInt8:=if x.getLast?=some 13 then x.dropLast else x
def nk (s:List UInt8):List (List UInt8):=((if(dz 10 [] s).getLast?=some []then(dz 10 [] s).dropLast else dz 10 [] s)).map zS
theorem EB {α:Type}{l:List α}{x:α}(h:0<l.length)(hx:l[l.length-1]'(by omega)=x):l.getLast?=some x:=by
 rw[List.getLast?_eq_getElem?,List.getElem?_eq_getElem (by omega),hx]
theorem Qo (x:List UInt8):(zS x).length <=x.length:=by unfold zS;split <;> simp
structure Whl (P:Program)(t:TypeId)(n:Nat):Prop where
 tf:∃bytes z,TF P t n bytes z
 ag:(P.underlying t).map Et=some true
def vX (cs:List Value):Prop:=∀c∈cs,c.oneCell'=true
theorem sD {a b:List Value}(h:vX a)(k:vX b):vX (a++b):=λc hc=>(List.mem_append.1 hc).elim (h c) (k c)
theorem aJ {x:Value}{b:List Value}(h:x.oneCell'=true)(k:vX b):vX (x::b):=λc hc=>(List.mem_cons.1 hc).elim (λe=>e▸h) (k c)
theorem gX:vX []:=λ_ h=>by cases h
theorem Vy (a:List UInt8):vX (a.map λc=>Value.int .u8 ((c.toNat:Nat):Int)):=λc hc=>by
 obtain⟨x,_,rfl⟩:=List.mem_map.1 hc;rfl
theorem Whl.store {P:Program}{t:TypeId}{n:Nat}(h:Whl P t n){cs:List Value}(hl:cs.length=n)(h1:vX cs){w:World}{k:Nat}{T:TypeId}{vs:List Value}(ha:ai w k T vs){i:Nat}(hfit:i+n <=vs.length):
   ∃wx,(Instr.storeAt t (.pointer (some ⟨k,i,none⟩)) (.agg cs.toArray)).run P w=.ok () wx/\ai wx k T (vs.take i++cs++vs.drop (i+n))/\w.grownBy wx (some k):=by
 obtain⟨bytes,z,tf⟩:=h.tf
 exact ha.store tf (i:=i) (v:=.agg cs.toArray) (by simpa[Value.cells]using hl) hfit (λc hc=>h1 c (by simpa[Value.cells]using hc))
theorem Whl.store0 {P:Program}{t:TypeId}{n:Nat}(h:Whl P t n){cs:List Value}(hl:cs.length=n)(h1:vX cs){w:World}{k:Nat}{T:TypeId}{vs:List Value}(ha:ai w k T vs)(hv:vs.length=n):
   ∃wx,(Instr.storeAt t (.pointer (some ⟨k,0,none⟩)) (.agg cs.toArray)).run P w=.ok () wx/\ai wx k T cs/\w.grownBy wx (some k):=by
 obtain⟨wx,hs,h2,hg⟩:=h.store hl h1 ha (i:=0) (by omega)
 refine⟨wx,hs,?_,hg⟩
 rw[List.take_zero,List.nil_append,List.drop_eq_nil_of_le (by omega),List.append_nil]at h2
 exact h2
theorem Whl.load {P:Program}{t:TypeId}{n:Nat}(h:Whl P t n){w:World}{k:Nat}{T:TypeId}{vs us:List Value}(ha:ai w k T vs){i:Nat}(hl:us.length=n)(hv:∀j,j<n->vs[i+j]? =us[j]?):
   (Instr.loadAt t (.pointer (some ⟨k,i,none⟩))).run P w=.ok (.agg us.toArray) w:=by
 obtain⟨bytes,z,tf⟩:=h.tf
 obtain⟨ti,hti,hsz,_,_⟩:=tf.info
 have hag:=h.ag
 cases hu:P.underlying t with
 | none=>rw[hu]at hag;cases hag
 | some d=>
   rw[hu]at hag
   simp only[Option.map_some,Option.some.injEq]at hag
   exact ha.loadA hu hag hti (us:=us) (i:=i) (by rw[hsz];exact hl) (λj hj=>hv j (by omega))
theorem Whl.load0 {P:Program}{t:TypeId}{n:Nat}(h:Whl P t n){w:World}{k:Nat}{T:TypeId}{cs:List Value}(ha:ai w k T cs)(hl:cs.length=n):
   (Instr.loadAt t (.pointer (some ⟨k,0,none⟩))).run P w=.ok (.agg cs.toArray) w:=h.load ha hl λj _=>by rw[Nat.zero_add]
theorem Whl.new {P:Program}{t:TypeId}{n:Nat}(h:Whl P t n){zs cs:List Value}(hz:zs.length=n)(hl:cs.length=n)(h1:vX cs)(w:World){R:Nat->World->Prop}
   (H:∀k wx,k=w.heap.size->ai wx k t cs->Below w.heap.size w wx->R k wx):
   ∀(k:Nat) (w1:World),k=w.heap.size->w1=w.alloc (.cells zs.toArray t)->∃(wx:World),(Instr.storeAt t (.pointer (some ⟨k,0,none⟩)) (.agg cs.toArray)).run P w1=.ok () wx/\R k wx:=by
 intro k w1 hk hw
 have hB:=(hw▸ah w _:Below w.heap.size w w1)
 obtain⟨wx,hs,h3,hg⟩:=h.store0 hl h1 (ai.new hk hw:ai w1 k t zs) hz
 exact⟨wx,hs,H k wx hk h3 (hB.grown hg hB.size λx e=>by cases e;omega)⟩
theorem Whl.fin {P:Program}{t:TypeId}{n:Nat}(h:Whl P t n){cs:List Value}(hl:cs.length=n)(h1:vX cs){w w':World}{k2:Nat}{vs:List Value}(h2:ai w' k2 t vs)(hv:vs.length=n)(hb:Below w.heap.size w w')(hk:w.heap.size <=k2)
   {K:Value->World->Prop} (hK:∀wx,Below w.heap.size w wx->K (.agg cs.toArray) wx):
   ∃(wx:World),(Instr.storeAt t (.pointer (some ⟨k2,0,none⟩)) (.agg cs.toArray)).run P w'=.ok () wx/\∃vr:Value,(aV t (.pointer (some ⟨k2,0,none⟩))).run P wx=.ok vr wx/\K vr wx:=by
 obtain⟨wx,hs,h3,hg⟩:=h.store0 hl h1 h2 hv
 exact⟨wx,hs,_,ai.res (h.load0 h3 hl),hK wx (hb.grown hg hb.size λx e=>by cases e;exact hk)⟩
theorem Below.put {w0 w w':World}{k:Nat}(h:Below w0.heap.size w0 w)(hg:w.grownBy w' (some k))(hk:w0.heap.size <=k):Below w0.heap.size w0 w':=h.grown hg h.size λx e=>by cases e;exact hk
theorem mc {x y:Nat}(h:x≠y):some x≠some y:=λe=>h (Option.some.inj e)
theorem oH (k o i:Nat):am (some ⟨k,o,none⟩) (i:Int) 1=some ⟨k,o+i,none⟩:=by
 unfold am
 simp only[Option.map_some,Int.toNat_natCast,Nat.mul_one,Option.some.injEq]
 unfold Addr.add;split <;> simp_all
theorem Ow.put {α:Type}{T:Ty α}{t:TypeId}{w w':World}{a:Option Addr}{n c k:Nat}{xs:List α}(h:Ow T t w NoB a n c xs)(hog:∀g,dV a=some g->g≠k)(hg:w.grownBy w' (some k)):Ow T t w' NoB a n c xs:=
 h.keep (fQ hg λb hb e=>by
   rcases hb with hb|hb
   · exact hb
   · exact hog b hb.symm (Option.some.inj e))
theorem Sl.text {P:Program}{u:TypeId}(hu:P.underlying u=some .string){w:World}{A:Bl}{a:Option Addr}{n c:Nat}{xs:List (List UInt8)}(h:Sl tS w A a n c xs){i:Nat}(hi:i<xs.length):(Instr.loadAt u (.pointer (am a (i:Int) 1))).run P w=.ok (.string (mkS xs[i])) w:=by
 obtain⟨v,hv,hrep⟩:=h.load1 (i:=(i:Int)) hu rfl rfl (by simpa using hi)
 obtain⟨rfl,-⟩:=CU hrep
 simpa using hv
abbrev pC:Nat:=3
abbrev iy:Nat:=8
abbrev kJ:Nat:=9
abbrev iA:Nat:=10
abbrev iV:Nat:=11
abbrev iU:Nat:=12
abbrev bh:Nat:=13
abbrev mT:Nat:=20
abbrev iz:Nat:=22
abbrev mY:Nat:=31
abbrev eP:Nat:=32
abbrev vf:Nat:=33
abbrev mX:Nat:=34
abbrev iW:Nat:=35
abbrev sn:Nat:=36
abbrev jn:Nat:=37
abbrev cE:Nat:=38
abbrev cQ:Nat:=39
abbrev js:Nat:=49
abbrev oZ:Nat:=50
abbrev mU:Nat:=51
abbrev cJ:Nat:=52
abbrev iZ:Nat:=54
abbrev iX:Nat:=55
abbrev jr:Nat:=56
abbrev qv:Nat:=57
abbrev kG:Nat:=58
abbrev iC:Nat:=59
abbrev kZ:Nat:=65
abbrev ur:Nat:=67
abbrev jL:Nat:=73
abbrev mZ:Nat:=74
abbrev cu:Nat:=75
abbrev kL:Nat:=76
abbrev qE:Nat:=77
abbrev qF:Nat:=78
abbrev dv:Nat:=79
abbrev gW:Nat:=80
abbrev ce:Nat:=81
abbrev bn:Nat:=82
abbrev vg:Nat:=83
abbrev jP:Nat:=84
abbrev nX:Nat:=85
abbrev so:Nat:=86
abbrev cr:Nat:=96
abbrev mE:Nat:=97
abbrev ji:Nat:=101
abbrev jQ:Nat:=102
abbrev iE:Nat:=103
abbrev iI:Nat:=104
abbrev fz:Nat:=105
abbrev lM:Nat:=106
abbrev pG:Nat:=107
abbrev kY:Nat:=108
abbrev sb:Nat:=109
abbrev qD:Nat:=110
abbrev iv:Nat:=111
abbrev rY:Nat:=112
abbrev rZ:Nat:=113
abbrev dN:Nat:=114
abbrev pb:Nat:=134
abbrev dH:Nat:=135
abbrev kK:Nat:=137
abbrev lZ:Nat:=138
abbrev iH:Nat:=140
abbrev o0:Nat:=143
abbrev du:Nat:=144
abbrev lY:Nat:=145
abbrev hX:Nat:=146
abbrev mv:Nat:=147
abbrev cI:Nat:=148
abbrev hZ:Nat:=149
abbrev jR:Nat:=150
abbrev cS:Nat:=151
abbrev jt:Nat:=152
abbrev fq:Nat:=153
abbrev qG:Nat:=154
abbrev jO:Nat:=155
abbrev fN:Nat:=156
abbrev fO:Nat:=157
abbrev aI:Nat:=158
abbrev dA:Nat:=159
abbrev qH:Nat:=160
abbrev gh:Nat:=161
abbrev gV:Nat:=162
abbrev eC:Nat:=163
abbrev jN:Nat:=176
abbrev bi:Nat:=177
abbrev de:Nat:=178
abbrev iD:Nat:=179
abbrev dM:Nat:=180
abbrev cw:Nat:=181
abbrev lJ:Nat:=183
abbrev mr:Nat:=184
abbrev jJ:Nat:=185
abbrev eJ:Nat:=186
abbrev qp:Nat:=187
abbrev oN:Nat:=188
abbrev oK:Nat:=189
abbrev mP:Nat:=190
abbrev mL:Nat:=191
abbrev fk:Nat:=192
abbrev mR:Nat:=193
abbrev vh:Nat:=194
abbrev BJ:Nat:=195
abbrev jb:Nat:=196
abbrev jc:Nat:=197
abbrev BI:Nat:=198
abbrev dd:Nat:=199
abbrev dt:Nat:=200
abbrev sj:Nat:=201
abbrev o4:Nat:=202
abbrev qo:Nat:=203
abbrev r9:Nat:=204
abbrev i7:Nat:=205
abbrev eA:Nat:=222
abbrev jA:Nat:=224
abbrev jK:Nat:=226
abbrev tU:Nat:=227
abbrev mO:Nat:=228
abbrev gQ:Nat:=229
abbrev jM:Nat:=230
abbrev BK:Nat:=231
abbrev dG:Nat:=233
abbrev o9:Nat:=235
abbrev bS:Nat:=243
abbrev bJ:Nat:=244
abbrev ct:Nat:=245
abbrev aQ:Nat:=246
abbrev fi:Nat:=247
abbrev bf:Nat:=248
abbrev bY:Nat:=249
abbrev aR:Nat:=250
abbrev vi:Nat:=251
abbrev gz:Nat:=252
abbrev iB:Nat:=253
abbrev ca:Nat:=254
abbrev cR:Nat:=261
abbrev cy:Nat:=262
abbrev kh:Nat:=263
abbrev qq:Nat:=265
abbrev si:Nat:=266
abbrev ud:Nat:=267
abbrev ja:Nat:=268
abbrev lm:Nat:=269
abbrev vj:Nat:=270
abbrev oO:Nat:=271
abbrev dh:Nat:=272
abbrev oQ:Nat:=273
abbrev oJ:Nat:=274
abbrev qI:Nat:=275
abbrev mS:Nat:=276
abbrev pz:Nat:=277
abbrev mV:Nat:=278
abbrev tT:Nat:=280
abbrev vd:Nat:=281
abbrev jd:Nat:=282
abbrev fG:Nat:=283
abbrev dU:Nat:=284
abbrev qw:Nat:=285
abbrev iY:Nat:=287
abbrev iN:Nat:=294
abbrev qu:Nat:=295
abbrev nV:Nat:=296
abbrev fM:Nat:=297
abbrev eM:Nat:=298
abbrev oY:Nat:=299
abbrev oS:Nat:=310
abbrev dq:Nat:=311
abbrev qJ:Nat:=312
abbrev vn:Nat:=313
abbrev vm:Nat:=314
abbrev fF:Nat:=315
abbrev dm:Nat:=321
abbrev sg:Nat:=322
abbrev jH:Nat:=323
abbrev mM:Nat:=324
abbrev lK:Nat:=326
abbrev eX:Nat:=328
abbrev r8:Nat:=329
abbrev ms:Nat:=330
abbrev gP:Nat:=331
abbrev dr:Nat:=334
abbrev mQ:Nat:=335
abbrev nW:Nat:=341
abbrev sk:Nat:=342
abbrev vk:Nat:=343
abbrev se:Nat:=356
abbrev jI:Nat:=357
abbrev sf:Nat:=358
abbrev qt:Nat:=359
abbrev aW:Nat:=360
abbrev mN:Nat:=361
abbrev eZ:Nat:=362
abbrev iu:Nat:=363
abbrev pB:Nat:=364
abbrev mu:Nat:=365
abbrev kI:Nat:=366
abbrev ez:Nat:=367
abbrev pF:Nat:=369
abbrev Dy:Nat:=380
abbrev ve:Nat:=381
abbrev sd:Nat:=382
abbrev fm:Nat:=383
abbrev fL:Nat:=386
abbrev fy:Nat:=387
abbrev zT:Nat:=391
abbrev iw:Nat:=393
abbrev jC:Nat:=2
abbrev aP:Nat:=3
abbrev cd:Nat:=4
abbrev bX:Nat:=5
abbrev ak:Nat:=9
abbrev gu:Nat:=23
abbrev aA:Nat:=25
abbrev ay:Nat:=27
abbrev au:Nat:=31
abbrev aS:Nat:=33
abbrev bI:Nat:=35
abbrev jD:Nat:=41
abbrev aC:Nat:=42
abbrev aw:Nat:=43
abbrev aH:Nat:=52
abbrev af:Nat:=54
abbrev av:Nat:=56
abbrev bt:Nat:=59
abbrev ao:Nat:=61
abbrev cv:Nat:=64
abbrev dE:Nat:=66
abbrev br:Nat:=69
abbrev aZ:Nat:=70
abbrev df:Nat:=71
abbrev ax:Nat:=73
abbrev mH:Nat:=74
abbrev va:Nat:=75
abbrev aK:Nat:=77
abbrev bB:Nat:=79
abbrev jh:Nat:=81
abbrev ep:Nat:=95
abbrev eo:Nat:=107
abbrev eW:Nat:=109
abbrev aG:Nat:=113
abbrev az:Nat:=130
abbrev bR:Nat:=147
abbrev aE:Nat:=149
abbrev aj:Nat:=153
abbrev aM:Nat:=155
abbrev bF:Nat:=158
abbrev bU:Nat:=159
abbrev bC:Nat:=161
abbrev cj:Nat:=178
abbrev cZ:Nat:=184
abbrev aY:Nat:=189
abbrev pt:Nat:=191
abbrev be:Nat:=193
abbrev bP:Nat:=207
abbrev cP:Nat:=210
abbrev gv:Nat:=273
abbrev aU:Nat:=274
abbrev eY:Nat:=279
abbrev Lt:Nat:=300
abbrev cY:Nat:=314
abbrev bp:Nat:=353
abbrev dy:Nat:=355
abbrev Fb:Nat:=357
abbrev mI:Nat:=360
abbrev E9:Nat:=388
abbrev qi:Nat:=407
abbrev mn:Nat:=410
theorem xh:prog.underlying jC=some (.int .i64):=by kernel_rfl
theorem Lk:TF prog jC 1 8 (.int .i64 (0:Int)):=TF.of (by kernel_rfl) (by kernel_rfl) false (by kernel_rfl) (.inr rfl)
theorem cD:prog.underlying aP=some (.int .i64):=by kernel_rfl
theorem fV:TF prog aP 1 8 (.int .i64 (0:Int)):=TF.of (by kernel_rfl) (by kernel_rfl) false (by kernel_rfl) (.inr rfl)
theorem dp:prog.underlying cd=some (.bool):=by kernel_rfl
theorem kU:TF prog cd 1 1 (.bool false):=TF.of (by kernel_rfl) (by kernel_rfl) false (by kernel_rfl) (.inr rfl)
theorem cH:prog.underlying bX=some (.int .u8):=by kernel_rfl
theorem mD:TF prog bX 1 1 (.int .u8 (0:Int)):=TF.of (by kernel_rfl) (by kernel_rfl) false (by kernel_rfl) (.inr rfl)
theorem aF:prog.underlying ak=some (.string):=by kernel_rfl
theorem eG:TF prog ak 1 16 (.string (mkS [])):=TF.of (by kernel_rfl) (by kernel_rfl) false (by kernel_rfl) (.inr rfl)
theorem lw:prog.underlying gu=some (.int .i64):=by kernel_rfl
theorem Ix:TF prog aA 3 24 (.agg #[.int .i64 (0:Int),.int .i64 (0:Int),.int .i64 (0:Int)]):=TF.of (by kernel_rfl) (by kernel_rfl) true (by kernel_rfl) (.inl rfl)
theorem Eh:TF prog ay 4 32 (.agg #[.int .i64 (0:Int),.int .i64 (0:Int),.int .i64 (0:Int),.int .i64 (0:Int)]):=TF.of (by kernel_rfl) (by kernel_rfl) true (by kernel_rfl) (.inl rfl)
theorem bT:prog.underlying au=some (.slice ao):=by kernel_rfl
theorem j2:TF prog au 1 24 (.slice none 0 0):=TF.of (by kernel_rfl) (by kernel_rfl) false (by kernel_rfl) (.inr rfl)
theorem fW:prog.underlying aS=some (.slice av):=by kernel_rfl
theorem yQ:TF prog aS 1 24 (.slice none 0 0):=TF.of (by kernel_rfl) (by kernel_rfl) false (by kernel_rfl) (.inr rfl)
theorem fK:prog.underlying bI=some (.pointer eW):=by kernel_rfl
theorem um:TF prog bI 1 8 (.pointer none):=TF.of (by kernel_rfl) (by kernel_rfl) false (by kernel_rfl) (.inr rfl)
theorem Eo:prog.underlying jD=some (.slice aE):=by kernel_rfl
theorem bQ:prog.underlying aC=some (.slice aG):=by kernel_rfl
theorem lV:TF prog aC 1 24 (.slice none 0 0):=TF.of (by kernel_rfl) (by kernel_rfl) false (by kernel_rfl) (.inr rfl)
theorem bG:prog.underlying aw=some (.slice ak):=by kernel_rfl
theorem nZ:TF prog aw 1 24 (.slice none 0 0):=TF.of (by kernel_rfl) (by kernel_rfl) false (by kernel_rfl) (.inr rfl)
abbrev gS:Array Value:= #[.int .u8 (0:Int),.int .u8 (0:Int),.int .u8 (0:Int),.int .u8 (0:Int),.int .u8 (0:Int),.int .u8 (0:Int),.int .u8 (0:Int),.int .u8 (0:Int),.int .u8 (0:Int),.int .u8 (0:Int),.int .u8 (0:Int),.int .u8 (0:Int),.int .u8 (0:Int),.int .u8 (0:Int),.int .u8 (0:Int),.int .u8 (0:Int)]
theorem Kc:TF prog aH 16 16 (.agg #[.int .u8 (0:Int),.int .u8 (0:Int),.int .u8 (0:Int),.int .u8 (0:Int),.int .u8 (0:Int),.int .u8 (0:Int),.int .u8 (0:Int),.int .u8 (0:Int),.int .u8 (0:Int),.int .u8 (0:Int),.int .u8 (0:Int),.int .u8 (0:Int),.int .u8 (0:Int),.int .u8 (0:Int),.int .u8 (0:Int),.int .u8 (0:Int)]):=TF.of (by kernel_rfl) (by kernel_rfl) true (by kernel_rfl) (.inl rfl)
abbrev cq:Array Value:= #[.int .i64 (0:Int),.string (mkS []),.int .u8 (0:Int),.int .u8 (0:Int),.int .u8 (0:Int),.int .u8 (0:Int),.int .u8 (0:Int),.int .u8 (0:Int),.int .u8 (0:Int),.int .u8 (0:Int),.int .u8 (0:Int),.int .u8 (0:Int),.int .u8 (0:Int),.int .u8 (0:Int),.int .u8 (0:Int),.int .u8 (0:Int),.int .u8 (0:Int),.int .u8 (0:Int)]
theorem Kd:TF prog af 18 40 (.agg #[.int .i64 (0:Int),.string (mkS []),.int .u8 (0:Int),.int .u8 (0:Int),.int .u8 (0:Int),.int .u8 (0:Int),.int .u8 (0:Int),.int .u8 (0:Int),.int .u8 (0:Int),.int .u8 (0:Int),.int .u8 (0:Int),.int .u8 (0:Int),.int .u8 (0:Int),.int .u8 (0:Int),.int .u8 (0:Int),.int .u8 (0:Int),.int .u8 (0:Int),.int .u8 (0:Int)]):=TF.of (by kernel_rfl) (by kernel_rfl) true (by kernel_rfl) (.inl rfl)
abbrev eI:Array Value:= #[.bool false,.int .i64 (0:Int),.string (mkS []),.int .u8 (0:Int),.int .u8 (0:Int),.int .u8 (0:Int),.int .u8 (0:Int),.int .u8 (0:Int),.int .u8 (0:Int),.int .u8 (0:Int),.int .u8 (0:Int),.int .u8 (0:Int),.int .u8 (0:Int),.int .u8 (0:Int),.int .u8 (0:Int),.int .u8 (0:Int),.int .u8 (0:Int),.int .u8 (0:Int),.int .u8 (0:Int),.bool false,.bool false,.string (mkS [])]
theorem pk:TF prog av 22 72 (.agg #[.bool false,.int .i64 (0:Int),.string (mkS []),.int .u8 (0:Int),.int .u8 (0:Int),.int .u8 (0:Int),.int .u8 (0:Int),.int .u8 (0:Int),.int .u8 (0:Int),.int .u8 (0:Int),.int .u8 (0:Int),.int .u8 (0:Int),.int .u8 (0:Int),.int .u8 (0:Int),.int .u8 (0:Int),.int .u8 (0:Int),.int .u8 (0:Int),.int .u8 (0:Int),.int .u8 (0:Int),.bool false,.bool false,.string (mkS [])]):=TF.of (by kernel_rfl) (by kernel_rfl) true (by kernel_rfl) (.inl rfl)
abbrev rQ:Array Value:= #[.bool false,.int .i64 (0:Int),.string (mkS []),.int .u8 (0:Int),.int .u8 (0:Int),.int .u8 (0:Int),.int .u8 (0:Int),.int .u8 (0:Int),.int .u8 (0:Int),.int .u8 (0:Int),.int .u8 (0:Int),.int .u8 (0:Int),.int .u8 (0:Int),.int .u8 (0:Int),.int .u8 (0:Int),.int .u8 (0:Int),.int .u8 (0:Int),.int .u8 (0:Int),.int .u8 (0:Int),.int .i64 (0:Int),.string (mkS [])]
theorem Mx:TF prog bt 21 72 (.agg #[.bool false,.int .i64 (0:Int),.string (mkS []),.int .u8 (0:Int),.int .u8 (0:Int),.int .u8 (0:Int),.int .u8 (0:Int),.int .u8 (0:Int),.int .u8 (0:Int),.int .u8 (0:Int),.int .u8 (0:Int),.int .u8 (0:Int),.int .u8 (0:Int),.int .u8 (0:Int),.int .u8 (0:Int),.int .u8 (0:Int),.int .u8 (0:Int),.int .u8 (0:Int),.int .u8 (0:Int),.int .i64 (0:Int),.string (mkS [])]):=TF.of (by kernel_rfl) (by kernel_rfl) true (by kernel_rfl) (.inl rfl)
abbrev kV:Array Value:= #[.string (mkS []),.bool false,.int .i64 (0:Int),.string (mkS []),.int .u8 (0:Int),.int .u8 (0:Int),.int .u8 (0:Int),.int .u8 (0:Int),.int .u8 (0:Int),.int .u8 (0:Int),.int .u8 (0:Int),.int .u8 (0:Int),.int .u8 (0:Int),.int .u8 (0:Int),.int .u8 (0:Int),.int .u8 (0:Int),.int .u8 (0:Int),.int .u8 (0:Int),.int .u8 (0:Int),.int .u8 (0:Int),.int .i64 (0:Int),.string (mkS []),.string (mkS []),.int .i64 (0:Int)]
theorem nz:TF prog ao 24 112 (.agg #[.string (mkS []),.bool false,.int .i64 (0:Int),.string (mkS []),.int .u8 (0:Int),.int .u8 (0:Int),.int .u8 (0:Int),.int .u8 (0:Int),.int .u8 (0:Int),.int .u8 (0:Int),.int .u8 (0:Int),.int .u8 (0:Int),.int .u8 (0:Int),.int .u8 (0:Int),.int .u8 (0:Int),.int .u8 (0:Int),.int .u8 (0:Int),.int .u8 (0:Int),.int .u8 (0:Int),.int .u8 (0:Int),.int .i64 (0:Int),.string (mkS []),.string (mkS []),.int .i64 (0:Int)]):=TF.of (by kernel_rfl) (by kernel_rfl) true (by kernel_rfl) (.inl rfl)
abbrev Fc:Array Value:= #[.bool false,.int .i64 (0:Int),.string (mkS []),.int .u8 (0:Int),.int .u8 (0:Int),.int .u8 (0:Int),.int .u8 (0:Int),.int .u8 (0:Int),.int .u8 (0:Int),.int .u8 (0:Int),.int .u8 (0:Int),.int .u8 (0:Int),.int .u8 (0:Int),.int .u8 (0:Int),.int .u8 (0:Int),.int .u8 (0:Int),.int .u8 (0:Int),.int .u8 (0:Int),.int .u8 (0:Int),.string (mkS []),.int .i64 (0:Int)]
theorem Eg:TF prog cv 21 72 (.agg #[.bool false,.int .i64 (0:Int),.string (mkS []),.int .u8 (0:Int),.int .u8 (0:Int),.int .u8 (0:Int),.int .u8 (0:Int),.int .u8 (0:Int),.int .u8 (0:Int),.int .u8 (0:Int),.int .u8 (0:Int),.int .u8 (0:Int),.int .u8 (0:Int),.int .u8 (0:Int),.int .u8 (0:Int),.int .u8 (0:Int),.int .u8 (0:Int),.int .u8 (0:Int),.int .u8 (0:Int),.string (mkS []),.int .i64 (0:Int)]):=TF.of (by kernel_rfl) (by kernel_rfl) true (by kernel_rfl) (.inl rfl)
theorem xi:prog.underlying dE=some (.slice bB):=by kernel_rfl
abbrev nT:Array Value:= #[.string (mkS []),.string (mkS []),.int .i64 (0:Int),.string (mkS []),.int .u8 (0:Int),.int .u8 (0:Int),.int .u8 (0:Int),.int .u8 (0:Int),.int .u8 (0:Int),.int .u8 (0:Int),.int .u8 (0:Int),.int .u8 (0:Int),.int .u8 (0:Int),.int .u8 (0:Int),.int .u8 (0:Int),.int .u8 (0:Int),.int .u8 (0:Int),.int .u8 (0:Int),.int .u8 (0:Int),.int .u8 (0:Int),.bool false,.string (mkS []),.bool false,.bool false,.int .i64 (0:Int),.int .i64 (0:Int),.int .i64 (0:Int),.int .i64 (0:Int),.int .i64 (0:Int)]
theorem GG:TF prog br 29 144 (.agg #[.string (mkS []),.string (mkS []),.int .i64 (0:Int),.string (mkS []),.int .u8 (0:Int),.int .u8 (0:Int),.int .u8 (0:Int),.int .u8 (0:Int),.int .u8 (0:Int),.int .u8 (0:Int),.int .u8 (0:Int),.int .u8 (0:Int),.int .u8 (0:Int),.int .u8 (0:Int),.int .u8 (0:Int),.int .u8 (0:Int),.int .u8 (0:Int),.int .u8 (0:Int),.int .u8 (0:Int),.int .u8 (0:Int),.bool false,.string (mkS []),.bool false,.bool false,.int .i64 (0:Int),.int .i64 (0:Int),.int .i64 (0:Int),.int .i64 (0:Int),.int .i64 (0:Int)]):=TF.of (by kernel_rfl) (by kernel_rfl) true (by kernel_rfl) (.inl rfl)
theorem fh:prog.underlying aZ=some (.slice aP):=by kernel_rfl
theorem CY:TF prog aZ 1 24 (.slice none 0 0):=TF.of (by kernel_rfl) (by kernel_rfl) false (by kernel_rfl) (.inr rfl)
theorem gT:prog.underlying df=some (.slice cd):=by kernel_rfl
theorem EX:TF prog df 1 24 (.slice none 0 0):=TF.of (by kernel_rfl) (by kernel_rfl) false (by kernel_rfl) (.inr rfl)
theorem Mw:TF prog ax 4 64 (.agg #[.int .i64 (0:Int),.int .i64 (0:Int),.slice none 0 0,.slice none 0 0]):=TF.of (by kernel_rfl) (by kernel_rfl) true (by kernel_rfl) (.inl rfl)
theorem Iz:TF prog mH 2 2 (.agg #[.bool false,.bool false]):=TF.of (by kernel_rfl) (by kernel_rfl) true (by kernel_rfl) (.inl rfl)
theorem IA:TF prog va 3 3 (.agg #[.bool false,.bool false,.bool false]):=TF.of (by kernel_rfl) (by kernel_rfl) true (by kernel_rfl) (.inl rfl)
abbrev io:Array Value:= #[.int .i64 (0:Int),.int .i64 (0:Int),.slice none 0 0,.slice none 0 0,.int .i64 (0:Int),.int .i64 (0:Int),.slice none 0 0,.slice none 0 0,.bool false,.bool false,.bool false,.bool false,.bool false]
theorem GH:TF prog aK 13 136 (.agg #[.int .i64 (0:Int),.int .i64 (0:Int),.slice none 0 0,.slice none 0 0,.int .i64 (0:Int),.int .i64 (0:Int),.slice none 0 0,.slice none 0 0,.bool false,.bool false,.bool false,.bool false,.bool false]):=TF.of (by kernel_rfl) (by kernel_rfl) true (by kernel_rfl) (.inl rfl)
abbrev Dr:Array Value:= #[.string (mkS []),.int .i64 (0:Int),.string (mkS []),.string (mkS []),.int .i64 (0:Int),.string (mkS []),.int .u8 (0:Int),.int .u8 (0:Int),.int .u8 (0:Int),.int .u8 (0:Int),.int .u8 (0:Int),.int .u8 (0:Int),.int .u8 (0:Int),.int .u8 (0:Int),.int .u8 (0:Int),.int .u8 (0:Int),.int .u8 (0:Int),.int .u8 (0:Int),.int .u8 (0:Int),.int .u8 (0:Int),.int .u8 (0:Int),.int .u8 (0:Int),.bool false,.string (mkS []),.bool false,.bool false,.int .i64 (0:Int),.int .i64 (0:Int),.int .i64 (0:Int),.int .i64 (0:Int),.int .i64 (0:Int),.int .i64 (0:Int),.int .i64 (0:Int),.slice none 0 0,.slice none 0 0,.int .i64 (0:Int),.int .i64 (0:Int),.slice none 0 0,.slice none 0 0,.bool false,.bool false,.bool false,.bool false,.bool false]
theorem sW:TF prog bB 44 304 (.agg #[.string (mkS []),.int .i64 (0:Int),.string (mkS []),.string (mkS []),.int .i64 (0:Int),.string (mkS []),.int .u8 (0:Int),.int .u8 (0:Int),.int .u8 (0:Int),.int .u8 (0:Int),.int .u8 (0:Int),.int .u8 (0:Int),.int .u8 (0:Int),.int .u8 (0:Int),.int .u8 (0:Int),.int .u8 (0:Int),.int .u8 (0:Int),.int .u8 (0:Int),.int .u8 (0:Int),.int .u8 (0:Int),.int .u8 (0:Int),.int .u8 (0:Int),.bool false,.string (mkS []),.bool false,.bool false,.int .i64 (0:Int),.int .i64 (0:Int),.int .i64 (0:Int),.int .i64 (0:Int),.int .i64 (0:Int),.int .i64 (0:Int),.int .i64 (0:Int),.slice none 0 0,.slice none 0 0,.int .i64 (0:Int),.int .i64 (0:Int),.slice none 0 0,.slice none 0 0,.bool false,.bool false,.bool false,.bool false,.bool false]):=TF.of (by kernel_rfl) (by kernel_rfl) true (by kernel_rfl) (.inl rfl)
theorem yR:prog.underlying jh=some (.pointer bC):=by kernel_rfl
theorem yP:TF prog jh 1 8 (.pointer none):=TF.of (by kernel_rfl) (by kernel_rfl) false (by kernel_rfl) (.inr rfl)
theorem iL:prog.underlying eo=some (.map ak aP):=by kernel_rfl
theorem wZ:TF prog aG 2 40 (.agg #[.string (mkS []),.slice none 0 0]):=TF.of (by kernel_rfl) (by kernel_rfl) true (by kernel_rfl) (.inl rfl)
theorem qV:TF prog az 11 112 (.agg #[.string (mkS []),.string (mkS []),.string (mkS []),.string (mkS []),.bool false,.int .i64 (0:Int),.bool false,.int .i64 (0:Int),.bool false,.bool false,.int .i64 (0:Int)]):=TF.of (by kernel_rfl) (by kernel_rfl) true (by kernel_rfl) (.inl rfl)
theorem gH:prog.underlying bR=some (.map aE aP):=by kernel_rfl
theorem vM:TF prog aE 2 24 (.agg #[.int .i64 (0:Int),.string (mkS [])]):=TF.of (by kernel_rfl) (by kernel_rfl) true (by kernel_rfl) (.inl rfl)
theorem aX:prog.underlying aj=some (.pointer aM):=by kernel_rfl
theorem bD:prog.underlying bF=some (.map cP aP):=by kernel_rfl
theorem fg:prog.underlying bU=some (.slice bP):=by kernel_rfl
theorem CX:TF prog bU 1 24 (.slice none 0 0):=TF.of (by kernel_rfl) (by kernel_rfl) false (by kernel_rfl) (.inr rfl)
theorem jp:prog.underlying cj=some (.slice be):=by kernel_rfl
theorem p8:prog.underlying cZ=some (.map aP ak):=by kernel_rfl
theorem yO:TF prog cZ 1 8 (.map none):=TF.of (by kernel_rfl) (by kernel_rfl) false (by kernel_rfl) (.inr rfl)
theorem cg:prog.underlying aY=some (.slice bX):=by kernel_rfl
theorem jk:TF prog be 2 24 (.agg #[.string (mkS []),.int .i64 (0:Int)]):=TF.of (by kernel_rfl) (by kernel_rfl) true (by kernel_rfl) (.inl rfl)
theorem IB:TF prog bP 4 4 (.agg #[.bool false,.bool false,.bool false,.bool false]):=TF.of (by kernel_rfl) (by kernel_rfl) true (by kernel_rfl) (.inl rfl)
theorem Ej:TF prog cP 2 24 (.agg #[.int .i64 (0:Int),.string (mkS [])]):=TF.of (by kernel_rfl) (by kernel_rfl) true (by kernel_rfl) (.inl rfl)
theorem C6:prog.underlying gv=some (.int .u16):=by kernel_rfl
theorem IC:TF prog gv 1 2 (.int .u16 (0:Int)):=TF.of (by kernel_rfl) (by kernel_rfl) false (by kernel_rfl) (.inr rfl)
theorem Ei:TF prog aU 8 16 (.agg #[.int .u16 (0:Int),.int .u16 (0:Int),.int .u16 (0:Int),.int .u16 (0:Int),.int .u16 (0:Int),.int .u16 (0:Int),.int .u16 (0:Int),.int .u16 (0:Int)]):=TF.of (by kernel_rfl) (by kernel_rfl) true (by kernel_rfl) (.inl rfl)
theorem sX:prog.underlying eY=some (.slice gv):=by kernel_rfl
theorem En:prog.underlying cY=some (.array 4 ak):=by kernel_rfl
theorem uA:TF prog cY 4 64 (.agg #[.string (mkS []),.string (mkS []),.string (mkS []),.string (mkS [])]):=TF.of (by kernel_rfl) (by kernel_rfl) true (by kernel_rfl) (.inl rfl)
theorem vQ:prog.underlying bp=some (.array 3 aP):=by kernel_rfl
theorem nB:TF prog bp 3 24 (.agg #[.int .i64 (0:Int),.int .i64 (0:Int),.int .i64 (0:Int)]):=TF.of (by kernel_rfl) (by kernel_rfl) true (by kernel_rfl) (.inl rfl)
abbrev Fe:Array Value:= #[.int .u8 (0:Int),.int .u8 (0:Int),.int .u8 (0:Int),.int .u8 (0:Int),.int .u8 (0:Int),.int .u8 (0:Int),.int .u8 (0:Int),.int .u8 (0:Int),.int .u8 (0:Int),.int .u8 (0:Int),.int .u8 (0:Int),.int .u8 (0:Int),.int .u8 (0:Int),.int .u8 (0:Int),.int .u8 (0:Int),.int .u8 (0:Int),.int .u8 (0:Int),.int .u8 (0:Int),.int .u8 (0:Int),.int .u8 (0:Int),.int .u8 (0:Int),.int .u8 (0:Int),.int .u8 (0:Int),.int .u8 (0:Int)]
abbrev Jh:Array Value:= #[.int .i64 (0:Int),.int .i64 (0:Int),.int .i64 (0:Int),.int .i64 (0:Int),.int .i64 (0:Int),.int .i64 (0:Int),.int .i64 (0:Int),.int .i64 (0:Int),.int .i64 (0:Int),.int .i64 (0:Int),.int .i64 (0:Int),.int .i64 (0:Int)]
theorem Iy:TF prog qi 12 96 (.agg #[.int .i64 (0:Int),.int .i64 (0:Int),.int .i64 (0:Int),.int .i64 (0:Int),.int .i64 (0:Int),.int .i64 (0:Int),.int .i64 (0:Int),.int .i64 (0:Int),.int .i64 (0:Int),.int .i64 (0:Int),.int .i64 (0:Int),.int .i64 (0:Int)]):=TF.of (by kernel_rfl) (by kernel_rfl) true (by kernel_rfl) (.inl rfl)
abbrev Ff:Array Value:= #[.int .u8 (0:Int),.int .u8 (0:Int),.int .u8 (0:Int),.int .u8 (0:Int),.int .u8 (0:Int),.int .u8 (0:Int),.int .u8 (0:Int),.int .u8 (0:Int),.int .u8 (0:Int),.int .u8 (0:Int),.int .u8 (0:Int),.int .u8 (0:Int),.int .u8 (0:Int),.int .u8 (0:Int),.int .u8 (0:Int),.int .u8 (0:Int),.int .u8 (0:Int),.int .u8 (0:Int),.int .u8 (0:Int),.int .u8 (0:Int),.int .u8 (0:Int),.int .u8 (0:Int),.int .u8 (0:Int),.int .u8 (0:Int),.int .u8 (0:Int),.int .u8 (0:Int),.int .u8 (0:Int),.int .u8 (0:Int),.int .u8 (0:Int),.int .u8 (0:Int),.int .u8 (0:Int),.int .u8 (0:Int),.int .u8 (0:Int),.int .u8 (0:Int),.int .u8 (0:Int),.int .u8 (0:Int),.int .u8 (0:Int),.int .u8 (0:Int),.int .u8 (0:Int),.int .u8 (0:Int),.int .u8 (0:Int),.int .u8 (0:Int),.int .u8 (0:Int),.int .u8 (0:Int),.int .u8 (0:Int),.int .u8 (0:Int),.int .u8 (0:Int),.int .u8 (0:Int),.int .u8 (0:Int),.int .u8 (0:Int),.int .u8 (0:Int),.int .u8 (0:Int),.int .u8 (0:Int),.int .u8 (0:Int),.int .u8 (0:Int),.int .u8 (0:Int),.int .u8 (0:Int),.int .u8 (0:Int),.int .u8 (0:Int),.int .u8 (0:Int),.int .u8 (0:Int),.int .u8 (0:Int),.int .u8 (0:Int),.int .u8 (0:Int),.int .u8 (0:Int)]
abbrev Flt:=Int×Int×Int
def Ez (x:Flt):Value:=.agg #[.int .i64 x.1,.int .i64 x.2.1,.int .i64 x.2.2]
def xW (x:Flt):List Value:=[.int .i64 x.1,.int .i64 x.2.1,.int .i64 x.2.2]
theorem BQ (x:Flt):vX (xW x):=aJ rfl (aJ rfl (aJ rfl gX))
theorem Ck (s:List UInt8):∀x∈nk s,x.length <=s.length:=by
 intro x hx
 unfold nk at hx
 obtain⟨y,hy,rfl⟩:=List.mem_map.1 hx
 have hc:y∈dz 10 [] s:=by
   split at hy
   · exact List.dropLast_subset _ hy
   · exact hy
 have:=jE 10 s [] y hc
 have:=Qo y
 simp at*;omega
theorem yh (s:List UInt8):(nk s).length <=s.length+1:=by
 unfold nk
 rw[List.length_map]
 have:=dZ 10 s []
 split
 · rw[List.length_dropLast];omega
 · exact this
theorem U5 {n k:Nat}(h:(((n:Nat):Int)==((k:Nat):Int))=true):n=k:=by have:=eq_of_beq h;omega
theorem SO {n k:Nat}(h:(((n:Nat):Int)==((k:Nat):Int))=false):n≠k:=by have:=beq_eq_false_iff_ne.1 h;omega
def AH (L:List (List UInt8))(k:Nat):Nat:=1+((L.take k).map λx=>x.length+1).sum
theorem Hh (L:List (List UInt8)):AH L 0=1:=rfl
theorem vZ {L:List (List UInt8)}{k:Nat}(h:k<L.length):AH L (k+1)=AH L k+(L[k].length+1):=by
 unfold AH
 rw[List.take_succ_eq_append_getElem h,List.map_append,List.sum_append]
 simp;omega
def rE {σ:Type}(step:Nat->σ->List UInt8->σ ⊕ (Int×Int)):Nat->List (List UInt8)->σ->σ ⊕ Flt
 | _,[],s=>.inl s
 | i,x::r,s=>match step i s x with
   | .inl s'=>rE step (i+1) r s'
   | .inr e=>.inr (e.1,(i:Int)+1,e.2)
def FC {σ:Type}(step:Nat->σ->List UInt8->σ ⊕ (Int×Int))(s0:σ)(s:List UInt8):σ ⊕ Flt:=
 if 20000<s.length then .inr (54,1,1)else rE step 0 (nk s) s0
theorem xV {σ:Type}{step:Nat->σ->List UInt8->σ ⊕ (Int×Int)}{s0:σ}{s:List UInt8}(h:20000<s.length):FC step s0 s=.inr (54,1,1):=by unfold FC;rw[if_pos h]
theorem vo {σ:Type}{step:Nat->σ->List UInt8->σ ⊕ (Int×Int)}{s0:σ}{s:List UInt8}(h: ¬ 20000<s.length):FC step s0 s=rE step 0 ((nk s).drop 0) s0:=by unfold FC;rw[if_neg h];rfl
theorem BM {σ:Type}(step:Nat->σ->List UInt8->σ ⊕ (Int×Int)){L:List (List UInt8)}{j:Nat}(h:L.length <=j)(s:σ):rE step j (L.drop j) s=.inl s:=by rw[List.drop_eq_nil_of_le h];rfl
theorem pI {σ:Type}{step:Nat->σ->List UInt8->σ ⊕ (Int×Int)}{L:List (List UInt8)}{j:Nat}(h:j<L.length){s s':σ}(e:step j s L[j]=.inl s'):rE step j (L.drop j) s=rE step (j+1) (L.drop (j+1)) s':=by
 rw[List.drop_eq_getElem_cons h,rE,e]
theorem BL {σ:Type}{step:Nat->σ->List UInt8->σ ⊕ (Int×Int)}{L:List (List UInt8)}{j:Nat}(h:j<L.length){s:σ}{c k:Int}(e:step j s L[j]=.inr (c,k)):rE step j (L.drop j) s=.inr (c,(j:Int)+1,k):=by
 rw[List.drop_eq_getElem_cons h,rE,e]
theorem Hy {σ:Type}{step:Nat->σ->List UInt8->σ ⊕ (Int×Int)}(I:σ->Prop)(hs:∀i s x s',I s->step i s x=.inl s'->I s'):∀(L:List (List UInt8)) (i:Nat) (s t:σ),I s->rE step i L s=.inl t->I t
 | [],_,s,t,h,e=>by cases e;exact h
 | x::r,i,s,t,h,e=>by
   unfold rE at e
   split at e
   · rename_i s' h1;exact Hy I hs r _ _ _ (hs _ _ _ _ h h1) e
   · cases e
theorem BN {σ:Type}{step:Nat->σ->List UInt8->σ ⊕ (Int×Int)}(I:σ->Prop)(hs:∀i s x s',I s->step i s x=.inl s'->I s'){s0 t:σ}(h0:I s0){s:List UInt8}(e:FC step s0 s=.inl t):I t:=by
 unfold FC at e
 split at e
 · cases e
 · exact Hy I hs _ _ _ _ h0 e
theorem gM:Whl prog aA 3:=⟨⟨_,_,Ix⟩,by kernel_rfl⟩
end Go.Pk
