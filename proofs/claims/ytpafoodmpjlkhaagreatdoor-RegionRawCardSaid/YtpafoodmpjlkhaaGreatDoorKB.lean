/- What the laws lean on: R, Law, Open, Names, V3, V1, Arr, H, Env, Split, DateP, DateQ, OctA; what is used. Its conditions: none. -/
import Derived.Test.YtpafoodmpjlkhaaGreatDoorKA
import Derived.Laws.AppendOwn
import Derived.IntWalk
import Derived.Sort.Row
import Derived.SliceStrings
import Derived.ProofKit
import Derived.OpenShut
import Derived.Stop.LaidErr
import Derived.Lib.LaidTab
import Derived.Deep.DeepHandedRow
import Derived.Test.YtpafoodmpjlkhaaGreatDoorRows
import Derived.Lib.ItoaMem
import Derived.Lib.SplitLaws
import Derived.Lib.IndexMore
import Init
set_option linter.unusedVariables false
set_option linter.unusedSimpArgs false
set_option linter.unusedSectionVars false
set_option maxRecDepth 100000
open Go.IntKind (i64)
open Go.Proofs.Tryz
open List (length)
open Option (isSome)
namespace Go.Pk
open Go.RowKit (Below)
open Go.Proofs
abbrev Bl:=Nat->Prop
structure oF (A:Bl)(w w':World):Prop where
 size:w.heap.size <=w'.heap.size
 block:∀b,b<w.heap.size->A b->w'.heap[b]? =w.heap[b]?
theorem oF.refl (A:Bl)(w:World):oF A w w:=⟨Nat.le_refl _,λ_ _ _=>rfl⟩
theorem oF.trans {A:Bl}{a b c:World}(h:oF A a b)(k:oF A b c):oF A a c:=
 ⟨Nat.le_trans h.size k.size,λi hi ha=>(k.block i (Nat.lt_of_lt_of_le hi h.size) ha).trans (h.block i hi ha)⟩
theorem oF.mono {A A':Bl}{w w':World}(h:oF A w w')(ha:∀b,A' b->A b):oF A' w w':=⟨h.size,λb hb hab=>h.block b hb (ha b hab)⟩
theorem rk {w w':World}(h:Below w.heap.size w w')(A:Bl):oF A w w':=⟨h.size,λb hb _=>h.block b hb⟩
theorem iC {w w':World}{row:Option Nat}(h:w.grownBy w' row){A:Bl}(ha:∀b,A b->some b≠row):oF A w w':=⟨h.size,λb hb hab=>h.block b hb (ha b hab)⟩
theorem aQ (w:World):Below w.heap.size w w.drew:=(Below.refl _ w).drew
theorem af (w:World)(o:Obj):Below w.heap.size w (w.alloc o):=(Below.refl _ w).alloc (Nat.le_refl _) o
theorem ab {B:Nat}{a b c:World}(h:Below B a b)(k:Below b.heap.size b c)(hB:B <=b.heap.size):Below B a c:=h.trans (k.mono hB)
structure Ty (α:Type) where
 k:Nat
 pos:0<k
 rep:World->Bl->List Value->α->Prop
 len:∀{w A vs x},rep w A vs x->vs.length=k
 one:∀{w A vs x},rep w A vs x->∀v∈vs,v.oneCell'=true
 keep:∀{w w' A vs x},rep w A vs x->oF A w w'->rep w' A vs x
 mono:∀{w A A' vs x},rep w A vs x->(∀b,b<w.heap.size->A b->A' b)->rep w A' vs x
def Ty.enc {α:Type}(e:α->Value)(h1:∀x,(e x).oneCell'=true)(p:α->Prop):Ty α where
 k:=1
 pos:=by decide
 rep:=λ_ _ vs x=>vs=[e x]/\p x
 len:=λh=>by rw[h.1];rfl
 one:=fun{_ _ _ x} h v hv=>by rw[h.1]at hv;simp at hv;rw[hv];exact h1 x
 keep:=λh _=>h
 mono:=λh _=>h
def KA (k:IntKind)(p:Int->Prop):Ty Int:=Ty.enc (λn=>.int k n) (λ_=>rfl) p
def bY:Ty Int:=KA .i64 λ_=>True
def tU8:Ty UInt8:=Ty.enc (λc=>.int .u8 (c.toNat:Nat)) (λ_=>rfl) λ_=>True
def ij:Ty Bool:=Ty.enc (λb=>.bool b) (λ_=>rfl) λ_=>True
def KB (p:List UInt8->Prop):Ty (List UInt8):=Ty.enc (λs=>.string (mkS s)) (λ_=>rfl) p
abbrev tS:Ty (List UInt8):=KB λ_=>True
def NoB:Bl:=λ_=>False
structure TF (P:Program)(t:TypeId)(k bytes:Nat)(z:Value):Prop where
 info:∃i,P.info? t=some i/\i.size=k/\i.bytes=bytes/\i.zero=some z
 cells:z.cells.size=k
 und:∃d,P.underlying t=some d/\(AK d=true\/k=1/\AK d=false)
theorem TF.of {P:Program}{t:TypeId}{k bytes:Nat}{z:Value}(h1:(P.info? t).map (λi=>(i.size,i.bytes,i.zero))=some (k,bytes,some z))(h2:z.cells.size=k)(b:Bool)
   (h3:(P.underlying t).map AK=some b) (h4:b=true\/k=1):TF P t k bytes z:=by
 cases hi:P.info? t with
 | none=>rw[hi]at h1;cases h1
 | some i=>
   rw[hi]at h1
   simp only[Option.map_some,Option.some.injEq,Prod.mk.injEq]at h1
   cases hu:P.underlying t with
   | none=>rw[hu]at h3;cases h3
   | some d=>
     rw[hu]at h3
     simp only[Option.map_some,Option.some.injEq]at h3
     refine⟨⟨i,hi,h1.1,h1.2.1,h1.2.2⟩,h2,d,hu,?_⟩
     cases b with
     | true=>exact .inl h3
     | false=>exact .inr ⟨h4.resolve_left (by simp),h3⟩
structure gr {α:Type}(T:Ty α)(w:World)(A:Bl)(l:List Value)(xs:List α):Prop where
 len:l.length=xs.length*T.k
 rep:∀i (h:i<xs.length),T.rep w A ((l.drop (i*T.k)).take T.k) xs[i]
theorem gr.nil {α:Type}(T:Ty α)(w:World)(A:Bl):gr T w A [] ([]:List α):=⟨by simp,λi h=>by cases h⟩
theorem gr.one {α:Type}{T:Ty α}{w:World}{A:Bl}{vs:List Value}{x:α}(h:T.rep w A vs x):gr T w A vs [x]:=by
 have hl:=T.len h
 refine⟨by simp[hl],λi hi=>?_⟩
 have:i=0:=by simpa using hi
 subst this
 simp only[Nat.zero_mul,List.drop_zero,List.getElem_cons_zero]
 rw[List.take_of_length_le (by omega)];exact h
theorem gr.append {α:Type}{T:Ty α}{w:World}{A:Bl}{l m:List Value}{xs ys:List α}(h:gr T w A l xs)(k:gr T w A m ys):gr T w A (l++m) (xs++ys):=by
 refine⟨by rw[List.length_append,List.length_append,h.len,k.len,Nat.add_mul],λi hi=>?_⟩
 by_cases c:i<xs.length
 · rw[List.getElem_append_left c]
   have h1:=h.rep i c
   have h2:i*T.k+T.k <=l.length:=by
     have:=Nat.mul_le_mul_right T.k (show i+1 <=xs.length from c)
     rw[Nat.add_mul,Nat.one_mul]at this
     rw[h.len];exact this
   rw[List.drop_append_of_le_length (by omega),List.take_append_of_le_length (by rw[List.length_drop];omega)]
   exact h1
 · have hi':i-xs.length<ys.length:=by simp at hi;omega
   rw[List.getElem_append_right (by omega)]
   have h1:=k.rep (i-xs.length) hi'
   have h2:i*T.k=l.length+(i-xs.length)*T.k:=by
     rw[h.len,<- Nat.add_mul];congr 1;omega
   rw[h2,List.drop_length_add_append]
   exact h1
theorem gr.keep {α:Type}{T:Ty α}{w w':World}{A:Bl}{l:List Value}{xs:List α}(h:gr T w A l xs)(hk:oF A w w'):gr T w' A l xs:=⟨h.len,λi hi=>T.keep (h.rep i hi) hk⟩
theorem gr.mono {α:Type}{T:Ty α}{w:World}{A A':Bl}{l:List Value}{xs:List α}(h:gr T w A l xs)(ha:∀b,b<w.heap.size->A b->A' b):gr T w A' l xs:=⟨h.len,λi hi=>T.mono (h.rep i hi) ha⟩
theorem gr.ones {α:Type}{T:Ty α}{w:World}{A:Bl} :∀{xs:List α} {l:List Value},gr T w A l xs->∀v∈l,v.oneCell'=true
 | [],l,h,v,hv=>by have:=h.len;simp at this;subst this;cases hv
 | x::xs,l,h,v,hv=>by
   have hl:=h.len
   have hk:=T.pos
   have h1:=h.rep 0 (by simp)
   rw[Nat.zero_mul,List.drop_zero]at h1
   have h2:gr T w A (l.drop T.k) xs:=by
     refine⟨by rw[List.length_drop,hl];simp[Nat.add_mul],λi hi=>?_⟩
     have:=h.rep (i+1) (by simp;omega)
     simp only[List.getElem_cons_succ]at this
     rw[List.drop_drop]
     rw[Nat.add_mul,Nat.one_mul,Nat.add_comm]at this
     exact this
   rw[<- List.take_append_drop T.k l]at hv
   rcases List.mem_append.1 hv with hv|hv
   · exact T.one h1 v hv
   · exact gr.ones h2 v hv
theorem gr.set {α:Type}{T:Ty α}{w:World}{A:Bl}{l:List Value}{xs:List α}(h:gr T w A l xs){i:Nat}(hi:i<xs.length){vs:List Value}{x:α}(hx:T.rep w A vs x):
   gr T w A (l.take (i*T.k)++vs++l.drop (i*T.k+vs.length)) (xs.set i x):=by
 have hv:=T.len hx
 have hb:i*T.k+T.k <=l.length:=by
   have:=Nat.mul_le_mul_right T.k (show i+1 <=xs.length from hi)
   rw[Nat.add_mul,Nat.one_mul]at this
   rw[h.len];exact this
 refine⟨?_,λj hj=>?_⟩
 · rw[List.length_set,<- h.len,List.length_append,List.length_append,List.length_take,List.length_drop,hv];omega
 · have hj':j<xs.length:=by simpa using hj
   have key:(l.take (i*T.k)++vs++l.drop (i*T.k+vs.length))=l.take (i*T.k)++(vs++l.drop (i*T.k+vs.length)):=List.append_assoc _ _ _
   have htl:(l.take (i*T.k)).length=i*T.k:=by rw[List.length_take];omega
   by_cases c1:j<i
   · have h1:=h.rep j hj'
     have h2:j*T.k+T.k <=i*T.k:=by
       have:=Nat.mul_le_mul_right T.k (show j+1 <=i from c1)
       rwa [Nat.add_mul,Nat.one_mul]at this
     rw[List.getElem_set_ne (by omega),key,List.drop_append_of_le_length (by omega),List.take_append_of_le_length (by rw[List.length_drop];omega)]
     rw[List.drop_take,List.take_take]
     rw[show min T.k (i*T.k-j*T.k)=T.k by omega]
     exact h1
   · by_cases c2:j=i
     · subst c2
       rw[List.getElem_set_self,key,List.drop_left' htl,<- hv,List.take_left]
       exact hx
     · have h1:=h.rep j hj'
       have h2:i*T.k+T.k <=j*T.k:=by
         have:=Nat.mul_le_mul_right T.k (show i+1 <=j by omega)
         rwa [Nat.add_mul,Nat.one_mul]at this
       rw[List.getElem_set_ne (by omega)]
       have e1:(l.take (i*T.k)++vs++l.drop (i*T.k+vs.length)).drop (j*T.k)=l.drop (j*T.k):=by
         have e2:j*T.k=(l.take (i*T.k)++vs).length+(j*T.k-(i*T.k+T.k)):=by rw[List.length_append,htl,hv];omega
         rw[e2,List.drop_length_add_append,List.drop_drop]
         congr 1
         omega
       rw[e1];exact h1
def At {α:Type}(T:Ty α)(w:World)(A:Bl)(b off:Nat)(xs:List α):Prop:=
 ∃l:List Value,gr T w A l xs/\∀j,j<l.length->w.cell? ⟨b,off+j,none⟩=l[j]?
def Sl {α:Type}(T:Ty α)(w:World)(A:Bl)(a:Option Addr)(n c:Nat)(xs:List α):Prop:=
 n=xs.length/\n <=c/\c <=maxLen/\(xs=[]\/∃b off,a=some ⟨b,off,none⟩/\b<w.heap.size/\A b/\At T w A b off xs)
theorem iW {w w':World}{b:Nat}(h:w'.heap[b]? =w.heap[b]?)(o:Nat):w'.cell? ⟨b,o,none⟩=w.cell? ⟨b,o,none⟩:=by simp[World.cell?,h]
theorem At.keep {α:Type}{T:Ty α}{w w':World}{A:Bl}{b off:Nat}{xs:List α}(h:At T w A b off xs)(hb:b<w.heap.size)(ha:A b)(hk:oF A w w'):At T w' A b off xs:=by
 obtain⟨l,h1,h2⟩:=h
 exact⟨l,h1.keep hk,λj hj=>by rw[iW (hk.block b hb ha)];exact h2 j hj⟩
theorem Sl.keep {α:Type}{T:Ty α}{w w':World}{A:Bl}{a:Option Addr}{n c:Nat}{xs:List α}(h:Sl T w A a n c xs)(hk:oF A w w'):Sl T w' A a n c xs:=by
 obtain⟨h1,h2,h3,h4⟩:=h
 refine⟨h1,h2,h3,?_⟩
 rcases h4 with h4|⟨b,off,e,hb,ha,h4⟩
 · exact .inl h4
 · exact .inr ⟨b,off,e,Nat.lt_of_lt_of_le hb hk.size,ha,h4.keep hb ha hk⟩
theorem Sl.below {α:Type}{T:Ty α}{w w':World}{A:Bl}{a:Option Addr}{n c:Nat}{xs:List α}(h:Sl T w A a n c xs)(hk:Below w.heap.size w w'):Sl T w' A a n c xs:=h.keep (rk hk A)
theorem Sl.mono {α:Type}{T:Ty α}{w:World}{A A':Bl}{a:Option Addr}{n c:Nat}{xs:List α}(h:Sl T w A a n c xs)(ha:∀b,b<w.heap.size->A b->A' b):Sl T w A' a n c xs:=by
 obtain⟨h1,h2,h3,h4⟩:=h
 refine⟨h1,h2,h3,?_⟩
 rcases h4 with h4|⟨b,off,e,hb,hab,h4⟩
 · exact .inl h4
 · obtain⟨l,h5,h6⟩:=h4
   exact .inr ⟨b,off,e,hb,ha b hb hab,l,h5.mono ha,h6⟩
theorem Sl.len {α:Type}{T:Ty α}{w:World}{A:Bl}{a:Option Addr}{n c:Nat}{xs:List α}(h:Sl T w A a n c xs):n=xs.length:=h.1
theorem Sl.le {α:Type}{T:Ty α}{w:World}{A:Bl}{a:Option Addr}{n c:Nat}{xs:List α}(h:Sl T w A a n c xs):xs.length <=9223372036854775807:=by
 have h1:=h.1;have h2:=h.2.1;have h3:=h.2.2.1;unfold maxLen at h3;omega
theorem Sl.nil {α:Type}(T:Ty α)(w:World)(A:Bl)(a:Option Addr)(c:Nat)(hc:c <=maxLen):Sl T w A a 0 c ([]:List α):=⟨rfl,Nat.zero_le _,hc,.inl rfl⟩
theorem Sl.isSome {α:Type}{T:Ty α}{w:World}{A:Bl}{a:Option Addr}{n c:Nat}{xs:List α}(h:Sl T w A a n c xs){i:Nat}(hi:i<xs.length):Option.isSome a=true:=by
 rcases h.2.2.2 with h4|⟨b,off,e,_⟩
 · subst h4;cases hi
 · rw[e];rfl
theorem dy (b o j:Nat):(⟨b,o,none⟩:Addr).add j=⟨b,o+j,none⟩:=by
 unfold Addr.add;split <;> simp_all
theorem dh {P:Program}{t:TypeId}{d:TypeDesc}(hu:P.underlying t=some d)(ha:AK d=false){w:World}{p:Addr}{v:Value}(hc:w.cell? p=some v):
   (loadVar t p).run P w=.ok v w:=by
 unfold loadVar
 rw[Sem.run_bind,ny hu,ha]
 simp[hc]
theorem Ag {P:Program}{w:World}{b off:Nat}{vs:List Value}(h:∀j,j<vs.length->w.cell? ⟨b,off+j,none⟩=vs[j]?):(loadCells ⟨b,off,none⟩ vs.length).run P w=.ok vs.toArray w:=
 run_loadCells_list (P:=P) w ⟨b,off,none⟩ vs λj v hv=>by
   rw[dy,h j (by have:=(List.getElem?_eq_some_iff.1 hv).1;exact this)];exact hv
theorem uz {P:Program}{t:TypeId}{d:TypeDesc}{i:TypeInfo}(hu:P.underlying t=some d)(ha:AK d=true)(hi:P.info? t=some i){w:World}{b off:Nat}{vs:List Value}(hl:vs.length=i.size)
   (h:∀j,j<vs.length->w.cell? ⟨b,off+j,none⟩=vs[j]?):(loadVar t ⟨b,off,none⟩).run P w=.ok (.agg vs.toArray) w:=by
 unfold loadVar
 rw[Sem.run_bind,ny hu,ha]
 have:=Ag (P:=P) h
 rw[hl]at this
 simp[dY hi,this]
theorem yb (b off:Nat)(i:Int)(k:Nat):ak (some ⟨b,off,none⟩) i k=some ⟨b,off+i.toNat*k,none⟩:=by
 simp[ak,dy]
theorem At.elem {α:Type}{T:Ty α}{w:World}{A:Bl}{b off:Nat}{xs:List α}(h:At T w A b off xs){i:Nat}(hi:i<xs.length):
   ∃vs,T.rep w A vs xs[i]/\∀j,j<T.k->w.cell? ⟨b,off+i*T.k+j,none⟩=vs[j]? :=by
 obtain⟨l,h1,h2⟩:=h
 have hb:i*T.k+T.k <=l.length:=by
   have:=Nat.mul_le_mul_right T.k (show i+1 <=xs.length from hi)
   rw[Nat.add_mul,Nat.one_mul]at this
   rw[h1.len];exact this
 refine⟨_,h1.rep i hi,λj hj=>?_⟩
 rw[Nat.add_assoc,h2 _ (by omega),List.getElem?_take,if_pos hj,List.getElem?_drop]
theorem Sl.load1 {α:Type}{T:Ty α}{P:Program}{t:TypeId}{d:TypeDesc}(hu:P.underlying t=some d)(ha:AK d=false)(hk:T.k=1)
   {w:World} {A:Bl} {a:Option Addr} {n c:Nat} {xs:List α} (h:Sl T w A a n c xs) {i:Int} (hi:i.toNat<xs.length):
   ∃v,(Instr.loadAt t (.pointer (ak a i 1))).run P w=.ok v w/\T.rep w A [v] xs[i.toNat]:=by
 rcases h.2.2.2 with h4|⟨b,off,e,hb,hab,h4⟩
 · subst h4;cases hi
 · obtain⟨vs,h5,h6⟩:=h4.elem hi
   have hl:=T.len h5
   rw[hk]at hl
   match vs,hl with
   | [v],_=>
     refine⟨v,?_,h5⟩
     have h7:=h6 0 (by rw[hk];decide)
     rw[hk]at h7
     rw[e,yb]
     show(do loadVar t (<- Instr.sureAddr (.pointer (some _)))).run P w=_
     rw[Sem.run_bind,fE]
     exact dh hu ha (by simpa using h7)
theorem Sl.loadA {α:Type}{T:Ty α}{P:Program}{t:TypeId}{d:TypeDesc}{ti:TypeInfo}(hu:P.underlying t=some d)(ha:AK d=true)(hi':P.info? t=some ti){k:Nat}(hk:T.k=k)(hs:ti.size=k)
   {w:World} {A:Bl} {a:Option Addr} {n c:Nat} {xs:List α} (h:Sl T w A a n c xs) {i:Int} (hi:i.toNat<xs.length):
   ∃vs,(Instr.loadAt t (.pointer (ak a i k))).run P w=.ok (.agg vs.toArray) w/\T.rep w A vs xs[i.toNat]:=by
 subst hk
 rcases h.2.2.2 with h4|⟨b,off,e,hb,hab,h4⟩
 · subst h4;cases hi
 · obtain⟨vs,h5,h6⟩:=h4.elem hi
   have hl:=T.len h5
   refine⟨vs,?_,h5⟩
   rw[e,yb]
   show(do loadVar t (<- Instr.sureAddr (.pointer (some _)))).run P w=_
   rw[Sem.run_bind,fE]
   exact uz hu ha hi' (by omega) λj hj=>h6 j (by omega)
def bi (a:Option Addr):Option Nat:=a.map (·.block)
def Ow {α:Type}(T:Ty α)(t:TypeId)(w:World)(A:Bl)(a:Option Addr)(n c:Nat)(xs:List α):Prop:=
 n=xs.length/\n <=c/\c <=maxLen/\((a=none/\c=0/\xs=[])\/
   ∃g cur fr,a=some ⟨g,0,none⟩/\w.heap[g]? =some (.cells cur t fr)/\(∀i,i<cur.size-> ¬ (fr.1 <=i/\i<fr.2))/\cur.size=c*T.k/\gr T w A (cur.toList.take (n*T.k)) xs)
theorem Ow.nil {α:Type}(T:Ty α)(t:TypeId)(w:World)(A:Bl):Ow T t w A none 0 0 ([]:List α):=⟨rfl,Nat.le_refl _,Nat.zero_le _,.inl ⟨rfl,rfl,rfl⟩⟩
theorem Ow.len {α:Type}{T:Ty α}{t:TypeId}{w:World}{A:Bl}{a:Option Addr}{n c:Nat}{xs:List α}(h:Ow T t w A a n c xs):n=xs.length:=h.1
theorem Ow.le {α:Type}{T:Ty α}{t:TypeId}{w:World}{A:Bl}{a:Option Addr}{n c:Nat}{xs:List α}(h:Ow T t w A a n c xs):xs.length <=9223372036854775807:=by
 have h1:=h.1;have h2:=h.2.1;have h3:=h.2.2.1;unfold maxLen at h3;omega
theorem Ow.lt {α:Type}{T:Ty α}{t:TypeId}{w:World}{A:Bl}{a:Option Addr}{n c:Nat}{xs:List α}(h:Ow T t w A a n c xs):∀g,bi a=some g->g<w.heap.size:=by
 intro g hg
 rcases h.2.2.2 with⟨e,_⟩|⟨g',cur,fr,e,hh,_⟩
 · rw[e]at hg;cases hg
 · rw[e]at hg;simp[bi]at hg;subst hg;exact(Array.getElem?_eq_some_iff.1 hh).1
theorem Ow.keep {α:Type}{T:Ty α}{t:TypeId}{w w':World}{A:Bl}{a:Option Addr}{n c:Nat}{xs:List α}(h:Ow T t w A a n c xs)(hk:oF (λb=>A b\/some b=bi a) w w'):Ow T t w' A a n c xs:=by
 have hlt:=h.lt
 obtain⟨h1,h2,h3,h4⟩:=h
 refine⟨h1,h2,h3,?_⟩
 rcases h4 with h4|⟨g,cur,fr,e,hh,hf,hs,h4⟩
 · exact .inl h4
 · refine .inr ⟨g,cur,fr,e,?_,hf,hs,h4.keep (hk.mono λ_ h=>.inl h)⟩
   rw[hk.block g (hlt g (by rw[e];rfl)) (.inr (by rw[e];rfl))];exact hh
theorem Ow.below {α:Type}{T:Ty α}{t:TypeId}{w w':World}{A:Bl}{a:Option Addr}{n c:Nat}{xs:List α}(h:Ow T t w A a n c xs)(hk:Below w.heap.size w w'):Ow T t w' A a n c xs:=h.keep (rk hk _)
theorem Ow.mono {α:Type}{T:Ty α}{t:TypeId}{w:World}{A A':Bl}{a:Option Addr}{n c:Nat}{xs:List α}(h:Ow T t w A a n c xs)(ha:∀b,b<w.heap.size->A b->A' b):Ow T t w A' a n c xs:=by
 obtain⟨h1,h2,h3,h4⟩:=h
 refine⟨h1,h2,h3,?_⟩
 rcases h4 with h4|⟨g,cur,fr,e,hh,hf,hs,h4⟩
 · exact .inl h4
 · exact .inr ⟨g,cur,fr,e,hh,hf,hs,h4.mono ha⟩
theorem Ow.sl {α:Type}{T:Ty α}{t:TypeId}{w:World}{A A':Bl}{a:Option Addr}{n c:Nat}{xs:List α}(h:Ow T t w A a n c xs)(hA:∀b,b<w.heap.size->A b->A' b)(hg:∀g,bi a=some g->A' g):
   Sl T w A' a n c xs:=by
 have hlt:=h.lt
 obtain⟨h1,h2,h3,h4⟩:=h
 refine⟨h1,h2,h3,?_⟩
 rcases h4 with⟨_,_,h4⟩|⟨g,cur,fr,e,hh,hf,hs,h4⟩
 · exact .inl h4
 · refine .inr ⟨g,0,e,hlt g (by rw[e];rfl),hg g (by rw[e];rfl),_,h4.mono hA,λj hj=>?_⟩
   rw[List.length_take]at hj
   rw[cell_of_row w g _ cur t fr hh,Nat.zero_add,List.getElem?_take,if_pos (by omega)]
   simp
abbrev jD:Bl:=λ_=>True
theorem Ow.all {α:Type}{T:Ty α}{t:TypeId}{w:World}{A:Bl}{a:Option Addr}{n c:Nat}{xs:List α}(h:Ow T t w A a n c xs):Sl T w jD a n c xs:=h.sl (λ_ _ _=>trivial) (λ_ _=>trivial)
def br (B:Nat)(a:Option Addr):Prop:=∀g,bi a=some g->B <=g
theorem br.none (B:Nat):br B none:=λ_ h=>by cases h
theorem br.mono {B B':Nat}{a:Option Addr}(h:br B a)(hb:B' <=B):br B' a:=λg hg=>Nat.le_trans hb (h g hg)
theorem BN (w:World)(g:Nat)(cs:Array Value):(w.setRow g cs).heap.size=w.heap.size:=by simp[World.setRow]
theorem ey (w:World)(g:Nat)(cs:Array Value):w.grownBy (w.setRow g cs) (some g):=
 ⟨rfl,rfl,rfl,by rw[BN];exact Nat.le_refl _,λk _ hk=>setRow_other w g k cs λe=>hk (by rw[e])⟩
theorem eQ {w:World}{g:Nat}{cur:Array Value}{t:TypeId}{fr:Nat×Nat}(hg:w.heap[g]? =some (.cells cur t fr))(o:Nat):w.cell? ⟨g,o,none⟩=cur[o]? :=cell_of_row w g o cur t fr hg
theorem wV {w:World}{g o:Nat}{cur:Array Value}{t:TypeId}{fr:Nat×Nat}(hg:w.heap[g]? =some (.cells cur t fr))(hf: ¬ (fr.1 <=o/\o<fr.2)):w.frozen? ⟨g,o,none⟩=false:=by
 obtain⟨lo,hi⟩:=fr
 simp only[World.frozen?,hg]
 simpa using hf
theorem yP {P:Program}{w:World}{g o:Nat}{cur:Array Value}{t:TypeId}{fr:Nat×Nat}(hg:w.heap[g]? =some (.cells cur t fr))(ho:o<cur.size)(hf: ¬ (fr.1 <=o/\o<fr.2))
   {v:Value} (h1:v.oneCell'=true):(store ⟨g,o,none⟩ v).run P w=.ok () (w.setRow g (cur.setIfInBounds o v)):=by
 rw[run_store P w _ v .plain h1,eQ hg,wV hg hf,Array.getElem?_eq_getElem ho]
 simp only[Bool.false_eq_true,if_false]
 congr 1
 obtain⟨heap,tape,drawn,os,output⟩:=w
 simp only[World.setCell,World.setRow]
 congr 1
 apply Array.ext_getElem?
 intro k
 rw[Array.getElem?_modify,Array.getElem?_modify]
 by_cases hk:g=k
 · subst hk
   simp only[if_true]
   have hg':heap[g]? =some (.cells cur t fr):=hg
   rw[hg']
   rfl
 · simp only[if_neg hk]
theorem fv {P:Program}(g o:Nat)(t:TypeId)(fr:Nat×Nat):∀(vs:List Value) (i:Nat) (cur:Array Value) (w:World),w.heap[g]? =some (.cells cur t fr)->o+i+vs.length <=cur.size->
   (∀j,j<cur.size-> ¬ (fr.1 <=j/\j<fr.2))->(∀v∈vs,v.oneCell'=true)->
   (storeCells ⟨g,o,none⟩ vs i).run P w=.ok () (w.setRow g (cur.toList.take (o+i)++vs++cur.toList.drop (o+i+vs.length)).toArray)
 | [],i,cur,w,hg,_,_,_=>by
   simp only[storeCells,List.append_nil,List.length_nil,Nat.add_zero,List.take_append_drop,Array.toArray_toList]
   rw[setRow_self w g cur t fr hg]
   rfl
 | v::rest,i,cur,w,hg,hl,hf,h1=>by
   have hi:o+i<cur.size:=by simp at hl;omega
   simp only[storeCells,Sem.run_bind,dy]
   rw[yP hg hi (hf _ hi) (h1 v List.mem_cons_self),Result.andThen_ok]
   rw[fv g o t fr rest (i+1) (cur.setIfInBounds (o+i) v) _ (setRow_heap w g cur _ t fr hg) (by simp at hl ⊢;omega)
     (λj hj=>hf j (by simpa using hj)) (λu hu=>h1 u (List.mem_cons_of_mem _ hu))]
   congr 1
   have e2:∀(a b:Array Value),(w.setRow g a).setRow g b=w.setRow g b:=by
     intro a b
     obtain⟨heap,tape,drawn,os,output⟩:=w
     simp only[World.setRow]
     congr 1
     apply Array.ext_getElem?
     intro k
     rw[Array.getElem?_modify,Array.getElem?_modify,Array.getElem?_modify]
     by_cases hk:g=k
     · subst hk
       have hg':heap[g]? =some (.cells cur t fr):=hg
       simp[hg']
     · simp only[if_neg hk]
   rw[e2]
   congr 1
   apply Array.ext'
   simp only[Array.toList_setIfInBounds,List.length_cons]
   apply List.ext_getElem?
   intro k
   have hlen:cur.toList.length=cur.size:=by simp
   simp only[List.getElem?_append,List.length_append,List.length_take,List.length_set,List.getElem?_take,List.getElem?_drop,List.length_cons,hlen,List.getElem?_set]
   by_cases c1:k<o+i
   · have: ¬ o+i=k:=by omega
     simp[c1,this,show k<min (o+(i+1)) cur.size by omega,show k<min (o+i) cur.size by omega,show k<o+(i+1) by omega,
       show k<min (o+(i+1)) cur.size+rest.length by omega,show k<min (o+i) cur.size+(rest.length+1) by omega]
   · by_cases c2:k=o+i
     · subst c2
       have e3:min (o+i) cur.size=o+i:=by omega
       have e4:min (o+(i+1)) cur.size=o+i+1:=by omega
       simp[e3,e4,hi,show o+i<o+i+1+rest.length by omega,show o+i<o+(i+1) by omega]
     · have e3:min (o+i) cur.size=o+i:=by omega
       have e4:min (o+(i+1)) cur.size=o+i+1:=by omega
       by_cases c3:k<o+i+1+rest.length
       · have e5:k-(o+i)=(k-(o+i+1))+1:=by omega
         simp[e3,e4,c3,show k<o+i+(rest.length+1) by omega,show ¬ k<o+i+1 by omega,show ¬ k<o+i by omega,e5]
       · have e6: ¬ o+i=o+(i+1)+rest.length+(k-(o+i+1+rest.length)):=by omega
         have e7:o+(i+1)+rest.length+(k-(o+i+1+rest.length))=o+i+(rest.length+1)+(k-(o+i+(rest.length+1))):=by omega
         simp[e3,e4,c3,show ¬ k<o+i+(rest.length+1) by omega,e7]
         intro h;omega
def Src {α:Type}(T:Ty α)(w:World)(A:Bl)(y:Option Addr)(m:Nat)(ys:List α):Prop:=
 m=ys.length/\(ys=[]\/∃b off,y=some ⟨b,off,none⟩/\At T w A b off ys)
def AM {α:Type}(T:Ty α):Prop:=∀w A w' A' vs x,T.rep w A vs x->T.rep w' A' vs x
theorem gr.flat {α:Type}{T:Ty α}(hf:AM T){w w':World}{A A':Bl}{l:List Value}{xs:List α}(h:gr T w A l xs):gr T w' A' l xs:=⟨h.len,λi hi=>hf _ _ _ _ _ _ (h.rep i hi)⟩
theorem Sl.flat {α:Type}{T:Ty α}(hf:AM T){w:World}{A A':Bl}{a:Option Addr}{n c:Nat}{xs:List α}(h:Sl T w A a n c xs):Src T w A' a n xs:=by
 obtain⟨h1,h2,h3,h4⟩:=h
 refine⟨h1,?_⟩
 rcases h4 with h4|⟨b,off,e,hb,hab,l,h5,h6⟩
 · exact .inl h4
 · exact .inr ⟨b,off,e,l,h5.flat hf,h6⟩
theorem Src.new1F {α:Type}{T:Ty α}(hf:AM T){w:World}{A:Bl}{vs:List Value}{x:α}{t:TypeId}{b:Nat}{w':World}(hb:b=w.heap.size)(hw:w'=w.alloc (.cells vs.toArray t))(h:T.rep w A vs x):
   Src T w' A (some ⟨b,0,none⟩) 1 [x]:=by
 subst hb hw
 refine⟨rfl,.inr ⟨_,0,rfl,vs,gr.one (hf _ _ _ _ _ _ h),λj hj=>?_⟩⟩
 rw[eQ (heap_alloc_new w _),Nat.zero_add]
 simp
theorem tO {w:World}{b off:Nat}{l:List Value}(h:∀j,j<l.length->w.cell? ⟨b,off+j,none⟩=l[j]?):∀j v,l[j]? =some v->w.cell? ((⟨b,off,none⟩:Addr).add j)=some v:=λj v hv=>by
 rw[dy,h j (List.getElem?_eq_some_iff.1 hv).1];exact hv
theorem cr {α:Type}{T:Ty α}{P:Program}{st t ty:TypeId}{bytes:Nat}{z:Value}(hu:P.underlying st=some (.slice t))(tf:TF P t T.k bytes z)(hb0:0<bytes)
   {w:World} {A:Bl} {a:Option Addr} {n c:Nat} {xs:List α} (ho:Ow T t w A a n c xs) (hA:∀g,bi a=some g-> ¬ A g)
   {y:Option Addr} {m cm:Nat} {ys:List α} (hs:Src T w A y m ys) (hbound:(xs.length+ys.length)*bytes <=140737488355328):
   ∃(w':World) (a':Option Addr) (n' c':Nat),(Builtin.append_ #[st,st] ty #[.slice a n c,.slice y m cm]).run P w=.ok (.slice a' n' c') w'/\Ow T t w' A a' n' c' (xs++ys)/\w.grownBy w' (bi a)/\
     (∀g,bi a'=some g->bi a=some g\/w.heap.size <=g):=by
 obtain⟨i,hi,hsz,hby,hz⟩:=tf.info
 have hzc:=tf.cells
 have hpos:=T.pos
 obtain⟨hn,hnc,hcm,ho4⟩:=ho
 obtain⟨hm,hs2⟩:=hs
 subst hn hm
 have hsum:xs.length+ys.length <=140737488355328:=Nat.le_trans (Nat.le_mul_of_pos_right _ hb0) hbound
 have hml:xs.length+ys.length <=maxLen:=by unfold maxLen;omega
 have hkeepA:∀{w'},w.grownBy w' (bi a)->oF A w w':=λhg=>iC hg λb hb e=>hA b e.symm hb
 rcases ho4 with⟨rfl,rfl,rfl⟩|⟨g,cur,fr,rfl,hg,hf,hcs,hrep⟩
 ·
   rcases hs2 with rfl|⟨b,off,rfl,l,hl,hcl⟩
   · refine⟨w,none,0,0,?_,Ow.nil T t w A,⟨rfl,rfl,rfl,Nat.le_refl _,λ_ _ _=>rfl⟩,λg h=>by cases h⟩
     have hfc:(Builtin.firstCells i.size 0 (.slice y 0 cm)).run P w=.ok #[] w:=by
       cases y with
       | none=>rfl
       | some y=>simp[Builtin.firstCells,loadCells,loadCellsFrom]
     simp[Builtin.append_,aY hu,dY hi,Builtin.lenOf,hfc]
   · by_cases h0:ys.length=0
     · have:ys=[]:=List.eq_nil_of_length_eq_zero h0
       subst this
       refine⟨w,none,0,0,?_,Ow.nil T t w A,⟨rfl,rfl,rfl,Nat.le_refl _,λ_ _ _=>rfl⟩,λg h=>by cases h⟩
       simp[Builtin.append_,aY hu,dY hi,Builtin.lenOf,Builtin.firstCells,loadCells,loadCellsFrom]
     · have hr:=run_append_nil (P:=P) w st ty t i z hu hi hz ⟨b,off,none⟩ ys.length cm l (by rw[hl.len,hsz]) (tO hcl) (by omega) (by simp at hsum;omega) (by rw[hby];simp at hbound;omega)
       refine⟨_,_,_,_,hr,?_,⟨rfl,rfl,rfl,by simp,λk hk _=>heap_alloc_old w.drew _ k hk⟩,λg h=>.inr (by simp[bi]at h;omega)⟩
       have hge:=grownCap_ge w ys.length 0 t
       have hcm':grownCap w ys.length 0 t <=maxLen:=grownCap_le_maxLen w ys.length 0 t (by simp at hml;exact hml)
       refine⟨by simp,hge,hcm',.inr ⟨_,_,(0,0),rfl,heap_alloc_new w.drew _,λi _=>by simp,?_,?_⟩⟩
       · simp only[Array.size_append,List.size_toArray,size_zeroCells,hzc,hl.len,<- Nat.add_mul]
         congr 1;omega
       · rw[List.nil_append]
         simp only[Array.toList_append]
         rw[<- hl.len,List.take_left]
         exact hl.keep ⟨by simp,λk hk _=>heap_alloc_old w.drew _ k hk⟩
 · have hlt:g<w.heap.size:=(Array.getElem?_eq_some_iff.1 hg).1
   have hxl:(cur.toList.take (xs.length*T.k)).length=xs.length*T.k:=hrep.len
   obtain⟨l,hl,hfirst⟩:∃l,gr T w A l ys/\(Builtin.firstCells i.size ys.length (.slice y ys.length cm)).run P w=.ok l.toArray w:=by
     rcases hs2 with rfl|⟨b,off,rfl,l,hl,hcl⟩
     · refine⟨[],gr.nil T w A,?_⟩
       cases y with
       | none=>rfl
       | some y=>simp[Builtin.firstCells,loadCells,loadCellsFrom]
     · exact⟨l,hl,run_firstCells_some (P:=P) w i.size ys.length ⟨b,off,none⟩ _ _ l (by rw[hl.len,hsz]) (tO hcl)⟩
   have hlapp:((cur.toList.take (xs.length*T.k))++l).length=(xs.length+ys.length)*T.k:=by rw[List.length_append,hxl,hl.len,Nat.add_mul]
   by_cases hroom:xs.length+ys.length <=c
   · have hfit:xs.length*T.k+l.length <=cur.size:=by rw[hl.len,hcs,<- Nat.add_mul];exact Nat.mul_le_mul_right _ hroom
     have hst:=fv (P:=P) g (xs.length*T.k) t fr l 0 cur w hg (by simpa using hfit) hf hl.ones
     simp only[Nat.add_zero]at hst
     refine⟨w.setRow g (cur.toList.take (xs.length*T.k)++l++cur.toList.drop (xs.length*T.k+l.length)).toArray,some ⟨g,0,none⟩,xs.length+ys.length,c,?_,?_,ey w g _,λg' h=>.inl h⟩
     · have hadd:(⟨g,0,none⟩:Addr).add (xs.length*i.size)=⟨g,xs.length*T.k,none⟩:=by rw[dy,hsz,Nat.zero_add]
       simp only[Builtin.append_,Sem.run_bind,aY hu,dY hi,Builtin.lenOf,Sem.run_pure,Result.andThen_ok,hroom,List.getElem?_toArray,List.getElem?_cons_zero,List.getElem?_cons_succ,if_true,Bool.false_eq_true,if_false,Bool.not_false,hfirst,hadd,hst]
     · refine⟨by simp,hroom,hcm,.inr ⟨g,_,fr,rfl,setRow_heap w g cur _ t fr hg,?_,?_,?_⟩⟩
       · intro j hj
         refine hf j ?_
         simp at hj;omega
       · simp;omega
       · have e:((cur.toList.take (xs.length*T.k)++l++cur.toList.drop (xs.length*T.k+l.length)).toArray).toList.take ((xs.length+ys.length)*T.k)=cur.toList.take (xs.length*T.k)++l:=by
           rw[<- hlapp];simp only[];exact List.take_left
         rw[e]
         exact(hrep.append hl).keep (hkeepA (ey w g _))
   · have holds:∀j v,(cur.toList.take (xs.length*T.k))[j]? =some v->w.cell? ((⟨g,0,none⟩:Addr).add j)=some v:=λj v hv=>by
       rw[dy,Nat.zero_add,eQ hg]
       rw[List.getElem?_take]at hv
       split at hv
       · simpa using hv
       · cases hv
     have hne:ys≠[]:=by
       intro e;subst e;simp at hroom;omega
     rcases hs2 with rfl|⟨b,off,rfl,l',hl',hcl⟩
     · exact absurd rfl hne
     · have hr:=run_append_grow (P:=P) w st ty t i z hu hi hz ⟨g,0,none⟩ xs.length c (cur.toList.take (xs.length*T.k)) (by rw[hxl,hsz]) holds ⟨b,off,none⟩ ys.length cm l' (by rw[hl'.len,hsz]) (tO hcl)
         (by omega) (by omega) (growslice_fits (by omega) (by rw[hby];exact hbound))
       refine⟨_,_,_,_,hr,?_,⟨rfl,rfl,rfl,by simp,λk hk _=>heap_alloc_old w.drew _ k hk⟩,λg' h=>.inr (by simp[bi]at h;omega)⟩
       have hge:=grownCap_ge w (xs.length+ys.length) c t
       have hcm':grownCap w (xs.length+ys.length) c t <=maxLen:=grownCap_le_maxLen w _ c t hml
       have hlapp':((cur.toList.take (xs.length*T.k))++l').length=(xs.length+ys.length)*T.k:=by rw[List.length_append,hxl,hl'.len,Nat.add_mul]
       refine⟨by simp,hge,hcm',.inr ⟨_,_,(0,0),rfl,heap_alloc_new w.drew _,λi _=>by simp,?_,?_⟩⟩
       · simp only[Array.size_append,List.size_toArray,size_zeroCells,hzc,hxl,hl'.len,<- Nat.add_mul]
         congr 1;omega
       · simp only[Array.toList_append]
         rw[<- hlapp',List.take_left]
         exact(hrep.append hl').keep ⟨by simp,λk hk _=>heap_alloc_old w.drew _ k hk⟩
theorem ms {P:Program}{t u:TypeId}{ti:TypeInfo}(hi:P.info? t=some ti){w:World}{g o:Nat}{cur:Array Value}{fr:Nat×Nat}(hg:w.heap[g]? =some (.cells cur u fr))
   (hf:∀i,i<cur.size-> ¬ (fr.1 <=i/\i<fr.2)) {v:Value} (hs:v.cells.size=ti.size) (hfit:o+ti.size <=cur.size) (h1:∀c∈v.cells.toList,c.oneCell'=true):
   (Instr.storeAt t (.pointer (some ⟨g,o,none⟩)) v).run P w=.ok () (w.setRow g (cur.toList.take o++v.cells.toList++cur.toList.drop (o+v.cells.size)).toArray):=by
 show(do storeVar t (<- Instr.sureAddr (.pointer (some ⟨g,o,none⟩))) v).run P w=_
 rw[Sem.run_bind,fE,Result.andThen_ok]
 unfold storeVar
 rw[Sem.run_bind,dY hi,Result.andThen_ok,if_neg (by simp[hs])]
 have:=fv (P:=P) g o u fr v.cells.toList 0 cur w hg (by simp;omega) hf h1
 simpa using this
theorem Ow.store {α:Type}{T:Ty α}{P:Program}{t:TypeId}{bytes:Nat}{z:Value}(tf:TF P t T.k bytes z){w:World}{A:Bl}{a:Option Addr}{n c:Nat}{xs:List α}(ho:Ow T t w A a n c xs)(hA:∀g,bi a=some g-> ¬ A g)
   {i:Int} (hi:i.toNat<xs.length) {k:Nat} (hk:T.k=k) {v:Value} {x:α} (hv:T.rep w A v.cells.toList x):
   ∃w',(Instr.storeAt t (.pointer (ak a i k)) v).run P w=.ok () w'/\Ow T t w' A a n c (xs.set i.toNat x)/\w.grownBy w' (bi a):=by
 subst hk
 obtain⟨ti,hti,hsz,_,_⟩:=tf.info
 have hvl:=T.len hv
 have hA':=hA
 obtain⟨hn,hnc,hcm,ho4⟩:=ho
 rcases ho4 with⟨_,_,rfl⟩|⟨g,cur,fr,rfl,hg,hf,hcs,hrep⟩
 · cases hi
 · subst hn
   have hb:i.toNat*T.k+T.k <=xs.length*T.k:=by
     have:=Nat.mul_le_mul_right T.k (show i.toNat+1 <=xs.length from hi)
     rwa [Nat.add_mul,Nat.one_mul]at this
   have hb2:xs.length*T.k <=cur.size:=by rw[hcs];exact Nat.mul_le_mul_right _ hnc
   have hvs:v.cells.size=T.k:=by simpa using hvl
   rw[yb,Nat.zero_add]
   refine⟨_,ms hti hg hf (by rw[hvs,hsz]) (by rw[hsz];omega) (T.one hv),?_,ey w g _⟩
   refine⟨by simp,hnc,hcm,.inr ⟨g,_,fr,rfl,setRow_heap w g cur _ t fr hg,?_,?_,?_⟩⟩
   · intro j hj
     refine hf j ?_
     simp at hj;omega
   · simp;omega
   · have h1:=(hrep.set hi hv).keep (iC (ey w g (cur.toList.take (i.toNat*T.k)++v.cells.toList++cur.toList.drop (i.toNat*T.k+v.cells.size)).toArray) λb hb e=>hA g rfl (by cases e;exact hb))
     have e:((cur.toList.take (i.toNat*T.k)++v.cells.toList++cur.toList.drop (i.toNat*T.k+v.cells.size)).toArray).toList.take (xs.length*T.k)=
         (cur.toList.take (xs.length*T.k)).take (i.toNat*T.k)++v.cells.toList++(cur.toList.take (xs.length*T.k)).drop (i.toNat*T.k+v.cells.toList.length):=by
       simp only[]
       have e1:(cur.toList.take (xs.length*T.k)).take (i.toNat*T.k)=cur.toList.take (i.toNat*T.k):=by rw[List.take_take];congr 1;omega
       rw[e1,List.take_append,List.drop_take]
       have e2:(cur.toList.take (i.toNat*T.k)++v.cells.toList).length=i.toNat*T.k+T.k:=by simp[hvs];omega
       rw[e2,List.take_of_length_le (by rw[e2];omega)]
       congr 2
       rw[hvl]
     rw[e];exact h1
theorem tu {w w':World}(hos:w'.os=w.os)(ht:w'.tape=w.tape)(ho:w'.output=w.output)(hs:w.heap.size <=w'.heap.size)(hb:∀k,k<w.heap.size->w'.heap[k]? =w.heap[k]?):Below w.heap.size w w':=⟨hos,ht,ho,hs,hb⟩
theorem gK {α:Type}{e:α->Value}{h1:∀x,(e x).oneCell'=true}{p:α->Prop}{w:World}{A:Bl}{xs:List α}(hp:∀x∈xs,p x):gr (Ty.enc e h1 p) w A (xs.map e) xs:=by
 refine⟨by simp[Ty.enc],λi hi=>?_⟩
 have:((xs.map e).drop (i*1)).take 1=[e xs[i]]:=by
   rw[Nat.mul_one,<- List.map_drop,List.drop_eq_getElem_cons hi];rfl
 exact⟨this,hp _ (List.getElem_mem hi)⟩
theorem dH {α:Type}{e:α->Value}{h1:∀x,(e x).oneCell'=true}{p:α->Prop}{w:World}{A:Bl} :∀{l:List Value} {xs:List α},gr (Ty.enc e h1 p) w A l xs->l=xs.map e:=by
 intro l xs h
 have hl:l.length=xs.length:=by have:=h.len;simpa[Ty.enc]using this
 apply List.ext_getElem (by simp[hl])
 intro i h1 h2
 have hi:i<xs.length:=by omega
 have h3:((l.drop (i*1)).take 1)=[e xs[i]]:=(h.rep i hi).1
 have h4:((l.drop (i*1)).take 1)[0]? =some (e xs[i]):=by rw[h3];rfl
 rw[Nat.mul_one,List.getElem?_take,if_pos (by decide),List.getElem?_drop,Nat.add_zero,List.getElem?_eq_getElem h1]at h4
 rw[List.getElem_map];exact Option.some.inj h4
theorem pX {P:Program}{s d t:TypeId}(hs:P.underlying s=some .string)(hd:P.underlying d=some (.slice t))(ht:P.underlying t=some (.int .u8))(w:World)(l:List UInt8)(hl:l.length <=9223372036854775807)(A:Bl):
   ∃(w':World) (a:Option Addr) (n c:Nat),(convert s d (.string (mkS l))).run P w=.ok (.slice a n c) w'/\Ow tU8 t w' A a n c l/\Below w.heap.size w w'/\br w.heap.size a:=by
 have hcap:∃cap,l.length <=cap/\cap <=maxLen/\(choose (.appendCap l.length 0 t)).run P w=.ok cap w.drew:=by
   refine⟨_,grownCap_ge w l.length 0 t,grownCap_le_maxLen w l.length 0 t (by unfold maxLen;omega),?_⟩
   rw[run_choose];rfl
 obtain⟨cap,h1,h2,hch⟩:=hcap
 have hsz:(mkS l).size=l.length:=rfl
 generalize hcs:(mkS l).data.map (λb=>Value.int .u8 (b.toNat:Nat))++Array.replicate (cap-l.length) (Value.int .u8 0)=cs
 have hcss:cs.size=cap:=by rw[<- hcs];simp[mkS];omega
 have hmark:(markStringish ⟨w.heap.size,0,none⟩).run P (w.drew.alloc (.cells cs t))=.ok () ((w.drew.alloc (.cells cs t)).freeze ⟨w.heap.size,cs.size,none⟩ 1):=by
   unfold markStringish
   have:(w.drew.alloc (.cells cs t)).shape? w.heap.size=some (t,cs.size):=by
     unfold World.shape?
     have:=heap_alloc_new w.drew (.cells cs t)
     rw[show w.drew.heap.size=w.heap.size from rfl]at this
     rw[this]
   simp[this]
 refine⟨(w.drew.alloc (.cells cs t)).freeze ⟨w.heap.size,cs.size,none⟩ 1,some ⟨w.heap.size,0,none⟩,l.length,cap,?_,?_,?_,λg hg=>by simp[bi]at hg;omega⟩
 · simp only[convert,Sem.run_bind,aY hs,aY hd,Result.andThen_ok,aY ht,Conv.stringToBytes,hsz,hch]
   show((newRow t _).run P w.drew).andThen _=_
   rw[hcs]
   simp only[newRow,Sem.run_bind,run_newObj,Result.andThen_ok,Sem.run_pure,World.alloc_eq]
   rw[show w.drew.heap.size=w.heap.size from rfl,hmark]
   rfl
 · have hheap:((w.drew.alloc (.cells cs t)).freeze ⟨w.heap.size,cs.size,none⟩ 1).heap[w.heap.size]? =some (.cells cs t (cs.size,cs.size+1)):=by
     have:=heap_alloc_new w.drew (.cells cs t)
     rw[show w.drew.heap.size=w.heap.size from rfl]at this
     simp only[World.freeze,if_neg (show ¬ (1:Nat)=0 by decide),Array.getElem?_modify,if_true,this]
     rfl
   refine⟨rfl,h1,h2,.inr ⟨_,_,_,rfl,hheap,λi hi=>by omega,by rw[hcss];exact(Nat.mul_one cap).symm,?_⟩⟩
   have e:cs.toList.take (l.length*tU8.k)=l.map λc=>Value.int .u8 (c.toNat:Nat):=by
     rw[<- hcs]
     simp[mkS,tU8,Ty.enc]
   rw[e]
   exact gK λ_ _=>trivial
 · refine tu rfl rfl rfl (by simp[World.freeze]) λk hk=>?_
   simp only[World.freeze,if_neg (show ¬ (1:Nat)=0 by decide),Array.getElem?_modify]
   rw[if_neg (show ¬ w.heap.size=k by omega)]
   exact heap_alloc_old w.drew _ k hk
theorem rZ {P:Program}{s d t:TypeId}(hs:P.underlying s=some (.slice t))(hd:P.underlying d=some .string)(ht:P.underlying t=some (.int .u8)){w:World}{A:Bl}{a:Option Addr}{n c:Nat}{xs:List UInt8}(h:Sl tU8 w A a n c xs):
   (convert s d (.slice a n c)).run P w=.ok (.string (mkS xs)) w:=by
 have conv:(convert s d (.slice a n c)).run P w=(Conv.bytesToString (.slice a n c)).run P w:=by
   cases a <;> simp[convert,aY hs,aY hd,aY ht]
 rw[conv]
 obtain⟨hn,_,_,h4⟩:=h
 have loop:∀(msg:String) (l:List UInt8) (acc:List UInt8),(do
     let r <- forIn (l.map λc=>Value.int .u8 (c.toNat:Nat)) (mkS acc) λc r=>do
       let .int .u8 n:=c|stuck msg
       pure (ForInStep.yield (r.push (UInt8.ofNat n.toNat)))
     pure (Value.string r):Sem Value).run P w=.ok (.string (mkS (acc++l))) w:=by
   intro msg l
   induction l with
   | nil=>intro acc;simp
   | cons x l ih=>
     intro acc
     have e1:(mkS acc).push x=mkS (acc++[x]):=by simp[mkS,ByteArray.push]
     have:=ih (acc++[x])
     simp only[List.map_cons,List.forIn_cons,bind_assoc,pure_bind,Int.toNat_natCast,UInt8.ofNat_toNat,e1]
     rw[this];simp
 cases a with
 | none=>
   have:xs=[]:=by
     rcases h4 with h4|⟨b,off,e,_⟩
     · exact h4
     · cases e
   subst this
   simp[Conv.bytesToString];rfl
 | some p=>
   have hcells:(loadCells p n).run P w=.ok (xs.map λc=>Value.int .u8 (c.toNat:Nat)).toArray w:=by
     rcases h4 with h4|⟨b,off,e,hb,hab,l,h5,h6⟩
     · subst h4;subst hn;simp[loadCells,loadCellsFrom]
     · cases e
       have:=Ag (P:=P) h6
       rw[h5.len]at this
       rw[dH h5]at this
       rw[hn]
       simpa[tU8,Ty.enc]using this
   have key:∃msg:String,(Conv.bytesToString (.slice (some p) n c)).run P w=((loadCells p n).run P w).andThen λcs w'=>(do
     let r <- forIn cs (mkS []) λc r=>do
       let .int .u8 n:=c|stuck msg
       pure (ForInStep.yield (r.push (UInt8.ofNat n.toNat)))
     pure (Value.string r):Sem Value).run P w':=by
     constructor
     unfold Conv.bytesToString
     simp only[Sem.run_bind]
     rfl
   obtain⟨msg,key⟩:=key
   rw[key,hcells,Result.andThen_ok]
   have:=loop msg xs []
   rw[List.nil_append]at this
   rw[<- this]
   simp only[List.forIn_toArray]
theorem ar {n:Int}(h1: -9223372036854775808 <=n)(h2:n <=9223372036854775807):i64.wrap n=n:=IntWalk.i64_in n ⟨h1,h2⟩
theorem sf {n:Int}(h1:0 <=n)(h2:n <=255):IntKind.u8.wrap n=n:=IntWalk.u8_in n ⟨h1,h2⟩
theorem za (c:UInt8):(0:Int) <=(c.toNat:Nat)/\((c.toNat:Nat):Int) <=255:=by
 have:=c.toNat_lt;omega
theorem De {s:List UInt8}{i:Int}(h:i.toNat<s.length):jh s i=((s[i.toNat]).toNat:Nat):=by
 simp[jh,h]
theorem Gd {a b:UInt8}(h:((a.toNat:Nat):Int)=((b.toNat:Nat):Int)):a=b:=UInt8.toNat_inj.1 (by omega)
theorem pP {n:Nat}(h:n <=255):(UInt8.ofNat n).toNat=n:=by rw[UInt8.toNat_ofNat'];omega
theorem uQ {w:World}{A:Bl}{n:Int}{c:UInt8}(h:n=((c.toNat:Nat):Int)):tU8.rep w A [.int .u8 n] c:=⟨by rw[h],trivial⟩
theorem cS {w:World}{A:Bl}{n:Int} :bY.rep w A [.int .i64 n] n:=⟨rfl,trivial⟩
theorem od {w:World}{A:Bl}{b:Bool} :ij.rep w A [.bool b] b:=⟨rfl,trivial⟩
theorem BG {w:World}{A:Bl}{p:List UInt8->Prop}{s:List UInt8}(h:p s):(KB p).rep w A [.string (mkS s)] s:=⟨rfl,h⟩
theorem vB {w:World}{A:Bl}{v:Value}{c:UInt8}(h:tU8.rep w A [v] c):v=.int .u8 (c.toNat:Nat):=by have:=h.1;simpa using this
theorem Fk {w:World}{A:Bl}{v:Value}{n:Int}(h:bY.rep w A [v] n):v=.int .i64 n:=by have:=h.1;simpa using this
theorem xW {w:World}{A:Bl}{v:Value}{n:Bool}(h:ij.rep w A [v] n):v=.bool n:=by have:=h.1;simpa using this
theorem vo {w:World}{A:Bl}{p:List UInt8->Prop}{v:Value}{s:List UInt8}(h:(KB p).rep w A [v] s):v=.string (mkS s)/\p s:=⟨by have:=h.1;simpa using this,h.2⟩
theorem br.app {B:Nat}{w:World}{a a':Option Addr}(hf:br B a)(hB:B <=w.heap.size)(h:∀g,bi a'=some g->bi a=some g\/w.heap.size <=g):br B a':=λg hg=>by
 rcases h g hg with h|h
 · exact hf g h
 · exact Nat.le_trans hB h
theorem dF:AM bY:=λ_ _ _ _ _ _ h=>h
theorem yg:AM tU8:=λ_ _ _ _ _ _ h=>h
theorem qh:AM ij:=λ_ _ _ _ _ _ h=>h
theorem qi (p:List UInt8->Prop):AM (KB p):=λ_ _ _ _ _ _ h=>h
theorem Ow.newF {α:Type}{T:Ty α}(hf:AM T){w w':World}{A:Bl}{t:TypeId}{l:List Value}{xs:List α}{b:Nat}(hb:b=w.heap.size)(hw:w'=w.alloc (.cells l.toArray t))(h:gr T w A l xs)(hm:xs.length <=maxLen):
   Ow T t w' A (some ⟨b,0,none⟩) xs.length xs.length xs:=by
 subst hb hw
 refine⟨rfl,Nat.le_refl _,hm,.inr ⟨_,l.toArray,(0,0),rfl,heap_alloc_new w _,?_,by simpa using h.len,?_⟩⟩
 · intro i hi;simp
 · rw[<- h.len];simp;exact h.flat hf
theorem uj {w:World}{b:Nat}(hb:b=w.heap.size):br w.heap.size (some ⟨b,0,none⟩):=λg hg=>by simp[bi]at hg;omega
theorem K4 {α:Type}{e:α->Value}{h1:∀x,(e x).oneCell'=true}{p:α->Prop}{w:World}{a:Addr}{len cap:Nat}{xs:List α}(hlen:xs.length=len)(hp:∀x∈xs,p x)(hl:len <=cap)(hm:cap <=maxLen)
   (hc:∀i (h:i<xs.length),w.cell? (a.add i)=some (e xs[i])):Sl (Ty.enc e h1 p) w jD (some a) len cap xs:=by
 refine⟨hlen.symm,hl,hm,?_⟩
 by_cases h0:xs.length=0
 · exact .inl (List.eq_nil_of_length_eq_zero h0)
 · obtain⟨b,off,spot⟩:=a
   have hc0:=hc 0 (by omega)
   have hspot:spot=none:=by simpa[Addr.add]using World.cell?_spot hc0
   subst hspot
   rw[dy]at hc0
   obtain⟨cs,t,fr,hh,_⟩:=Go.Sort.cells_of_cell? hc0
   refine .inr ⟨b,off,rfl,(Array.getElem?_eq_some_iff.1 hh).1,trivial,xs.map e,gK hp,λj hj=>?_⟩
   have hj':j<xs.length:=by simpa using hj
   have:=hc j hj'
   rw[dy]at this
   rw[this];simp[hj']
def GH {α:Type}(P:Program)(T:Ty α)(t:TypeId):Prop:=
 ∀(H:Type) (enc:TypeId×Value->H) (w:World) (fuel:Nat) (cs:List Value) (x:DataW H×List MemPlace),DataW.trod enc P w 0 (λ_=>true) true fuel t cs=some x->∃a,T.rep w jD cs a
theorem uH {P:Program}{k:IntKind}{t:TypeId}(ht:P.underlying t=some (.int k)):GH P (KA k λn=>(Lit.int k n).wf=true) t:=λH enc w fuel cs x h=>by
 obtain⟨n,e,_,hw⟩:=DataW.trod_int ht h
 exact⟨n,e,hw⟩
theorem rD {P:Program}{t:TypeId}(ht:P.underlying t=some .bool):GH P ij t:=λH enc w fuel cs x h=>by
 obtain⟨b,e,_⟩:=DataW.trod_bool ht h
 exact⟨b,e,trivial⟩
theorem z6 {α:Type}{P:Program}{T:Ty α}{t e:TypeId}{n:Nat}(ht:P.underlying t=some (.array n e))(he:GH P T e)(hk:P.cellsOf e=T.k)(hc:P.cellsOf t=n*T.k)
   {H:Type} {enc:TypeId×Value->H} {w:World} {fuel:Nat} {cs:List Value} {x:DataW H×List MemPlace} (h:DataW.trod enc P w 0 (λ_=>true) true fuel t cs=some x):∃xs:List α,xs.length=n/\gr T w jD cs xs:=by
 obtain⟨ys,m,_,_,hl,hy,hel⟩:=DataW.trod_array ht h
 have hall:∀i,i<n->∃a,T.rep w jD ((cs.drop (i*T.k)).take T.k) a:=λi hi=>by
   have:=hel i hi
   rw[hk,List.getElem?_eq_getElem (by omega)]at this
   exact he H enc w m _ _ this
 have build:∀j,j <=n->∃xs:List α,xs.length=j/\∀i (h:i<xs.length),T.rep w jD ((cs.drop (i*T.k)).take T.k) xs[i]:=by
   intro j
   induction j with
   | zero=>intro _;exact⟨[],rfl,λi h=>by cases h⟩
   | succ j ih=>
     intro hj
     obtain⟨xs,h1,h2⟩:=ih (by omega)
     obtain⟨a,ha⟩:=hall j hj
     refine⟨xs++[a],by simp[h1],λi hi=>?_⟩
     by_cases c:i<xs.length
     · rw[List.getElem_append_left c];exact h2 i c
     · have:i=xs.length:=by simp at hi;omega
       subst this
       rw[List.getElem_append_right (Nat.le_refl _)]
       simp only[Nat.sub_self,List.getElem_cons_zero]
       rw[h1];exact ha
 obtain⟨xs,h1,h2⟩:=build n (Nat.le_refl _)
 exact⟨xs,h1,by rw[hl,hc,h1],h2⟩
theorem xi {P:Program}{w:World}{r:Reach}{base:Nat}{t:TypeId}{v:Value}{d:TypeDesc}(ht:P.underlying t=some d)(ha:AK d=true)(h:Value.okWide P w r base t v):∃cs:List Value,v=.agg cs.toArray:=by
 unfold Value.okWide at h
 rw[ht]at h
 cases d <;> first|(obtain⟨cs,rfl,_⟩:=h;exact⟨cs.toList,by simp⟩)|(cases ha;done)
theorem ra {H:Type}{enc:TypeId×Value->H}{C:Checked}{os:Os}{f:FuncId}{fn:Func}{s:OpenSpec}{conds:List PathCond}{apart:Bool}{laid:List (String×DataW Unit)}(modest:Bool)(w0:World)(args:Array Value)(hos:w0.os=os)
   (hsh:(w0.forCall (λ_ _=>0) ⟨#[],args,[]⟩).Shaped C.prog)
   (hok:Input.okWideB C.prog (w0.forCall (λ_ _=>0) ⟨#[],args,[]⟩) f ⟨#[],args,[]⟩=true)
   (hrow:s.preRow enc C.prog fn conds apart laid (w0.forCall (λ_ _=>0) ⟨#[],args,[]⟩).memory args):
   ∃(w:World) (tape:Tape) (i:Input),w.os=os/\(w.forCall tape i).Shaped C.prog/\i.vars=[]/\Input.okWide C.prog (w.forCall tape i) .any w.heap.size f i/\
     s.preRow enc C.prog fn conds apart laid (w.forCall tape i).memory i.args/\({ modest:=modest } :Assume).holds C.prog (lone (Frame.enter C.prog f i.args .normal) [] (w.forCall tape i)):=
 ⟨w0,λ_ _=>0,⟨#[],args,[]⟩,hos,hsh,(Input.okWide_of_okWideB (base:=0) hok).1,(Input.okWide_of_okWideB hok).2,hrow,by
   simp only[Assume.holds]
   exact⟨by simp,by simp,λ_=>Modest.zero,by simp,by simp⟩⟩
abbrev lr:Nat:=7
abbrev nf:Nat:=11
abbrev fI:Nat:=12
abbrev dv:Nat:=14
abbrev jO:Nat:=15
abbrev jN:Nat:=16
abbrev fK:Nat:=23
abbrev oI:Nat:=28
abbrev oJ:Nat:=29
abbrev eW:Nat:=30
abbrev cv:Nat:=31
abbrev gy:Nat:=33
abbrev pC:Nat:=35
abbrev m5:Nat:=36
abbrev lZ:Nat:=40
abbrev jc:Nat:=42
abbrev eu:Nat:=45
abbrev fk:Nat:=46
abbrev cP:Nat:=47
abbrev gO:Nat:=48
abbrev nZ:Nat:=49
abbrev aO:Nat:=50
abbrev jP:Nat:=51
abbrev dn:Nat:=52
abbrev eU:Nat:=53
abbrev ix:Nat:=54
abbrev gP:Nat:=55
abbrev gk:Nat:=56
abbrev kO:Nat:=62
abbrev bf:Nat:=63
abbrev bK:Nat:=64
abbrev iY:Nat:=65
abbrev iK:Nat:=66
abbrev mZ:Nat:=67
abbrev lW:Nat:=68
abbrev lX:Nat:=69
abbrev iB:Nat:=70
abbrev ji:Nat:=71
abbrev jy:Nat:=72
abbrev lV:Nat:=73
abbrev eS:Nat:=74
abbrev kw:Nat:=76
abbrev jS:Nat:=77
abbrev kN:Nat:=78
abbrev iL:Nat:=81
abbrev jw:Nat:=85
abbrev fL:Nat:=86
abbrev jR:Nat:=88
abbrev iJ:Nat:=89
abbrev bG:Nat:=90
abbrev eV:Nat:=94
abbrev fD:Nat:=95
abbrev bs:Nat:=96
abbrev dO:Nat:=97
abbrev lT:Nat:=98
abbrev lj:Nat:=99
abbrev ku:Nat:=100
abbrev bm:Nat:=101
abbrev iv:Nat:=102
abbrev m8:Nat:=103
abbrev m9:Nat:=104
abbrev vV:Nat:=105
abbrev jx:Nat:=114
abbrev bI:Nat:=115
abbrev jT:Nat:=116
abbrev pD:Nat:=117
abbrev ua:Nat:=118
abbrev gj:Nat:=119
abbrev fJ:Nat:=120
abbrev jv:Nat:=121
abbrev t8:Nat:=122
abbrev ce:Nat:=123
abbrev m4:Nat:=124
abbrev mV:Nat:=128
abbrev mW:Nat:=129
abbrev gJ:Nat:=130
abbrev du:Nat:=131
abbrev cw:Nat:=132
abbrev cg:Nat:=134
abbrev jU:Nat:=135
abbrev fe:Nat:=136
abbrev iM:Nat:=138
abbrev jV:Nat:=139
abbrev ma:Nat:=142
abbrev gR:Nat:=144
abbrev dV:Nat:=148
abbrev im:Nat:=151
abbrev aJ:Nat:=152
abbrev cd:Nat:=153
abbrev jQ:Nat:=154
abbrev cb:Nat:=155
abbrev bN:Nat:=156
abbrev dC:Nat:=157
abbrev m7:Nat:=158
abbrev fW:Nat:=159
abbrev ye:Nat:=171
abbrev nY:Nat:=172
abbrev pA:Nat:=173
abbrev ub:Nat:=174
abbrev kM:Nat:=175
abbrev d5:Nat:=176
abbrev cJ:Nat:=177
abbrev lY:Nat:=178
abbrev oK:Nat:=181
abbrev lS:Nat:=182
abbrev mY:Nat:=183
abbrev gi:Nat:=184
abbrev d6:Nat:=187
abbrev mc:Nat:=188
abbrev jW:Nat:=189
abbrev aP:Nat:=202
abbrev ls:Nat:=204
abbrev gw:Nat:=205
abbrev fB:Nat:=206
abbrev mX:Nat:=214
abbrev fu:Nat:=216
abbrev fX:Nat:=220
abbrev jd:Nat:=222
abbrev je:Nat:=223
abbrev fc:Nat:=238
abbrev bM:Nat:=239
abbrev df:Nat:=240
abbrev aR:Nat:=241
abbrev lp:Nat:=249
abbrev ju:Nat:=250
abbrev iy:Nat:=251
abbrev cO:Nat:=252
abbrev d4:Nat:=256
abbrev dN:Nat:=257
abbrev fC:Nat:=259
abbrev iz:Nat:=278
abbrev dD:Nat:=279
abbrev dE:Nat:=280
abbrev iA:Nat:=281
abbrev gQ:Nat:=282
abbrev zi:Nat:=0
abbrev Er:Nat:=2
abbrev aq:Nat:=3
abbrev bv:Nat:=4
abbrev aW:Nat:=5
abbrev aI:Nat:=9
abbrev po:Nat:=20
abbrev aX:Nat:=22
abbrev aj:Nat:=24
abbrev aH:Nat:=25
abbrev ae:Nat:=27
abbrev dI:Nat:=28
abbrev av:Nat:=32
abbrev am:Nat:=34
abbrev az:Nat:=38
abbrev aZ:Nat:=39
abbrev kr:Nat:=57
abbrev aM:Nat:=59
abbrev gu:Nat:=61
abbrev gv:Nat:=62
abbrev ao:Nat:=64
abbrev oH:Nat:=72
abbrev gh:Nat:=74
abbrev jJ:Nat:=75
abbrev bt:Nat:=93
abbrev dZ:Nat:=95
abbrev iq:Nat:=174
abbrev aK:Nat:=176
abbrev dw:Nat:=177
abbrev gM:Nat:=178
abbrev aG:Nat:=198
abbrev aU:Nat:=200
abbrev aE:Nat:=202
abbrev ir:Nat:=203
abbrev bA:Nat:=206
abbrev dJ:Nat:=208
abbrev cZ:Nat:=220
abbrev eM:Nat:=223
abbrev aF:Nat:=224
abbrev jr:Nat:=271
abbrev aB:Nat:=272
abbrev ay:Nat:=274
abbrev bg:Nat:=276
abbrev gt:Nat:=289
abbrev xL:Nat:=299
abbrev jq:Nat:=305
theorem HD:prog.underlying Er=some (.int .i64):=by kernel_rfl
theorem aC:prog.underlying aq=some (.int .i64):=by kernel_rfl
theorem dk:TF prog aq 1 8 (.int .i64 (0:Int)):=TF.of (by kernel_rfl) (by kernel_rfl) false (by kernel_rfl) (.inr rfl)
theorem dl:prog.underlying bv=some (.bool):=by kernel_rfl
theorem kW:TF prog bv 1 1 (.bool false):=TF.of (by kernel_rfl) (by kernel_rfl) false (by kernel_rfl) (.inr rfl)
theorem cI:prog.underlying aW=some (.int .u8):=by kernel_rfl
theorem iT:TF prog aW 1 1 (.int .u8 (0:Int)):=TF.of (by kernel_rfl) (by kernel_rfl) false (by kernel_rfl) (.inr rfl)
theorem bC:prog.underlying aI=some (.string):=by kernel_rfl
theorem vy:TF prog aI 1 16 (.string (mkS [])):=TF.of (by kernel_rfl) (by kernel_rfl) false (by kernel_rfl) (.inr rfl)
theorem gc:prog.underlying aX=some (.pointer dZ):=by kernel_rfl
theorem aA:prog.underlying aj=some (.slice aq):=by kernel_rfl
theorem fF:TF prog aj 1 24 (.slice none 0 0):=TF.of (by kernel_rfl) (by kernel_rfl) false (by kernel_rfl) (.inr rfl)
theorem aS:prog.underlying aH=some (.slice bv):=by kernel_rfl
theorem r5:TF prog aH 1 24 (.slice none 0 0):=TF.of (by kernel_rfl) (by kernel_rfl) false (by kernel_rfl) (.inr rfl)
theorem DZ:TF prog ae 4 64 (.agg #[.int .i64 (0:Int),.int .i64 (0:Int),.slice none 0 0,.slice none 0 0]):=TF.of (by kernel_rfl) (by kernel_rfl) true (by kernel_rfl) (.inl rfl)
theorem sy:prog.underlying dI=some (.int .i64):=by kernel_rfl
abbrev fi:Array Value:= #[.int .u8 (0:Int),.int .u8 (0:Int),.int .u8 (0:Int),.int .u8 (0:Int),.int .u8 (0:Int),.int .u8 (0:Int),.int .u8 (0:Int),.int .u8 (0:Int),.int .u8 (0:Int),.int .u8 (0:Int),.int .u8 (0:Int),.int .u8 (0:Int),.int .u8 (0:Int),.int .u8 (0:Int),.int .u8 (0:Int),.int .u8 (0:Int)]
theorem BU:TF prog av 16 16 (.agg #[.int .u8 (0:Int),.int .u8 (0:Int),.int .u8 (0:Int),.int .u8 (0:Int),.int .u8 (0:Int),.int .u8 (0:Int),.int .u8 (0:Int),.int .u8 (0:Int),.int .u8 (0:Int),.int .u8 (0:Int),.int .u8 (0:Int),.int .u8 (0:Int),.int .u8 (0:Int),.int .u8 (0:Int),.int .u8 (0:Int),.int .u8 (0:Int)]):=TF.of (by kernel_rfl) (by kernel_rfl) true (by kernel_rfl) (.inl rfl)
abbrev cu:Array Value:= #[.int .i64 (0:Int),.string (mkS []),.int .u8 (0:Int),.int .u8 (0:Int),.int .u8 (0:Int),.int .u8 (0:Int),.int .u8 (0:Int),.int .u8 (0:Int),.int .u8 (0:Int),.int .u8 (0:Int),.int .u8 (0:Int),.int .u8 (0:Int),.int .u8 (0:Int),.int .u8 (0:Int),.int .u8 (0:Int),.int .u8 (0:Int),.int .u8 (0:Int),.int .u8 (0:Int)]
theorem BX:TF prog am 18 40 (.agg #[.int .i64 (0:Int),.string (mkS []),.int .u8 (0:Int),.int .u8 (0:Int),.int .u8 (0:Int),.int .u8 (0:Int),.int .u8 (0:Int),.int .u8 (0:Int),.int .u8 (0:Int),.int .u8 (0:Int),.int .u8 (0:Int),.int .u8 (0:Int),.int .u8 (0:Int),.int .u8 (0:Int),.int .u8 (0:Int),.int .u8 (0:Int),.int .u8 (0:Int),.int .u8 (0:Int)]):=TF.of (by kernel_rfl) (by kernel_rfl) true (by kernel_rfl) (.inl rfl)
theorem cM:prog.underlying az=some (.slice aI):=by kernel_rfl
theorem Ay:TF prog az 1 24 (.slice none 0 0):=TF.of (by kernel_rfl) (by kernel_rfl) false (by kernel_rfl) (.inr rfl)
theorem cj:prog.underlying aZ=some (.slice aW):=by kernel_rfl
abbrev js:Array Value:= #[.bool false,.int .i64 (0:Int),.string (mkS []),.int .u8 (0:Int),.int .u8 (0:Int),.int .u8 (0:Int),.int .u8 (0:Int),.int .u8 (0:Int),.int .u8 (0:Int),.int .u8 (0:Int),.int .u8 (0:Int),.int .u8 (0:Int),.int .u8 (0:Int),.int .u8 (0:Int),.int .u8 (0:Int),.int .u8 (0:Int),.int .u8 (0:Int),.int .u8 (0:Int),.int .u8 (0:Int),.string (mkS []),.int .i64 (0:Int)]
theorem wL:TF prog aM 21 72 (.agg #[.bool false,.int .i64 (0:Int),.string (mkS []),.int .u8 (0:Int),.int .u8 (0:Int),.int .u8 (0:Int),.int .u8 (0:Int),.int .u8 (0:Int),.int .u8 (0:Int),.int .u8 (0:Int),.int .u8 (0:Int),.int .u8 (0:Int),.int .u8 (0:Int),.int .u8 (0:Int),.int .u8 (0:Int),.int .u8 (0:Int),.int .u8 (0:Int),.int .u8 (0:Int),.int .u8 (0:Int),.string (mkS []),.int .i64 (0:Int)]):=TF.of (by kernel_rfl) (by kernel_rfl) true (by kernel_rfl) (.inl rfl)
theorem Aw:TF prog gu 2 2 (.agg #[.bool false,.bool false]):=TF.of (by kernel_rfl) (by kernel_rfl) true (by kernel_rfl) (.inl rfl)
theorem Ax:TF prog gv 3 3 (.agg #[.bool false,.bool false,.bool false]):=TF.of (by kernel_rfl) (by kernel_rfl) true (by kernel_rfl) (.inl rfl)
abbrev dx:Array Value:= #[.int .i64 (0:Int),.int .i64 (0:Int),.slice none 0 0,.slice none 0 0,.int .i64 (0:Int),.int .i64 (0:Int),.slice none 0 0,.slice none 0 0,.bool false,.bool false,.bool false,.bool false,.bool false]
theorem yZ:TF prog ao 13 136 (.agg #[.int .i64 (0:Int),.int .i64 (0:Int),.slice none 0 0,.slice none 0 0,.int .i64 (0:Int),.int .i64 (0:Int),.slice none 0 0,.slice none 0 0,.bool false,.bool false,.bool false,.bool false,.bool false]):=TF.of (by kernel_rfl) (by kernel_rfl) true (by kernel_rfl) (.inl rfl)
theorem vu:TF prog gh 8 128 (.agg #[.int .i64 (0:Int),.int .i64 (0:Int),.slice none 0 0,.slice none 0 0,.int .i64 (0:Int),.int .i64 (0:Int),.slice none 0 0,.slice none 0 0]):=TF.of (by kernel_rfl) (by kernel_rfl) true (by kernel_rfl) (.inl rfl)
theorem cA:prog.underlying bt=some (.map aI aq):=by kernel_rfl
theorem vw:TF prog aK 2 16 (.agg #[.int .i64 (0:Int),.int .i64 (0:Int)]):=TF.of (by kernel_rfl) (by kernel_rfl) true (by kernel_rfl) (.inl rfl)
theorem gC:prog.underlying dw=some (.map aK aq):=by kernel_rfl
theorem wN:prog.underlying gM=some (.slice aK):=by kernel_rfl
theorem bp:prog.underlying aG=some (.slice aE):=by kernel_rfl
theorem oT:TF prog aG 1 24 (.slice none 0 0):=TF.of (by kernel_rfl) (by kernel_rfl) false (by kernel_rfl) (.inr rfl)
theorem jC:TF prog aE 2 16 (.agg #[.int .i64 (0:Int),.int .i64 (0:Int)]):=TF.of (by kernel_rfl) (by kernel_rfl) true (by kernel_rfl) (.inl rfl)
theorem qL:prog.underlying ir=some (.slice bA):=by kernel_rfl
theorem j9:prog.underlying bA=some (.slice dJ):=by kernel_rfl
theorem nG:TF prog bA 1 24 (.slice none 0 0):=TF.of (by kernel_rfl) (by kernel_rfl) false (by kernel_rfl) (.inr rfl)
theorem sw:TF prog dJ 2 16 (.agg #[.int .i64 (0:Int),.int .i64 (0:Int)]):=TF.of (by kernel_rfl) (by kernel_rfl) true (by kernel_rfl) (.inl rfl)
theorem nH:prog.underlying cZ=some (.slice eM):=by kernel_rfl
theorem vC:prog.underlying eM=some (.int .u16):=by kernel_rfl
theorem Az:TF prog eM 1 2 (.int .u16 (0:Int)):=TF.of (by kernel_rfl) (by kernel_rfl) false (by kernel_rfl) (.inr rfl)
theorem wM:TF prog aF 8 16 (.agg #[.int .u16 (0:Int),.int .u16 (0:Int),.int .u16 (0:Int),.int .u16 (0:Int),.int .u16 (0:Int),.int .u16 (0:Int),.int .u16 (0:Int),.int .u16 (0:Int)]):=TF.of (by kernel_rfl) (by kernel_rfl) true (by kernel_rfl) (.inl rfl)
theorem kX:prog.underlying jr=some (.map aq aq):=by kernel_rfl
theorem be:prog.underlying aB=some (.pointer bg):=by kernel_rfl
theorem aV:prog.underlying ay=some (.slice aj):=by kernel_rfl
theorem kF:TF prog ay 1 24 (.slice none 0 0):=TF.of (by kernel_rfl) (by kernel_rfl) false (by kernel_rfl) (.inr rfl)
theorem iH:prog.underlying gt=some (.map aq aj):=by kernel_rfl
abbrev xN:Array Value:= #[.int .u8 (0:Int),.int .u8 (0:Int),.int .u8 (0:Int),.int .u8 (0:Int),.int .u8 (0:Int),.int .u8 (0:Int),.int .u8 (0:Int),.int .u8 (0:Int),.int .u8 (0:Int),.int .u8 (0:Int),.int .u8 (0:Int),.int .u8 (0:Int),.int .u8 (0:Int),.int .u8 (0:Int),.int .u8 (0:Int),.int .u8 (0:Int),.int .u8 (0:Int),.int .u8 (0:Int),.int .u8 (0:Int),.int .u8 (0:Int),.int .u8 (0:Int),.int .u8 (0:Int),.int .u8 (0:Int),.int .u8 (0:Int)]
abbrev xO:Array Value:= #[.int .u8 (0:Int),.int .u8 (0:Int),.int .u8 (0:Int),.int .u8 (0:Int),.int .u8 (0:Int),.int .u8 (0:Int),.int .u8 (0:Int),.int .u8 (0:Int),.int .u8 (0:Int),.int .u8 (0:Int),.int .u8 (0:Int),.int .u8 (0:Int),.int .u8 (0:Int),.int .u8 (0:Int),.int .u8 (0:Int),.int .u8 (0:Int),.int .u8 (0:Int),.int .u8 (0:Int),.int .u8 (0:Int),.int .u8 (0:Int),.int .u8 (0:Int),.int .u8 (0:Int),.int .u8 (0:Int),.int .u8 (0:Int),.int .u8 (0:Int),.int .u8 (0:Int),.int .u8 (0:Int),.int .u8 (0:Int),.int .u8 (0:Int),.int .u8 (0:Int),.int .u8 (0:Int),.int .u8 (0:Int),.int .u8 (0:Int),.int .u8 (0:Int),.int .u8 (0:Int),.int .u8 (0:Int),.int .u8 (0:Int),.int .u8 (0:Int),.int .u8 (0:Int),.int .u8 (0:Int),.int .u8 (0:Int),.int .u8 (0:Int),.int .u8 (0:Int),.int .u8 (0:Int),.int .u8 (0:Int),.int .u8 (0:Int),.int .u8 (0:Int),.int .u8 (0:Int),.int .u8 (0:Int),.int .u8 (0:Int),.int .u8 (0:Int),.int .u8 (0:Int),.int .u8 (0:Int),.int .u8 (0:Int),.int .u8 (0:Int),.int .u8 (0:Int),.int .u8 (0:Int),.int .u8 (0:Int),.int .u8 (0:Int),.int .u8 (0:Int),.int .u8 (0:Int),.int .u8 (0:Int),.int .u8 (0:Int),.int .u8 (0:Int),.int .u8 (0:Int)]
abbrev Ld (t:TypeId)(p:Option Addr)(w:World)(v:Value):Prop:=(Instr.loadAt t (.pointer p)).run prog w=.ok v w
abbrev Sv (t:TypeId)(p:Option Addr)(v:Value)(w x:World):Prop:=(Instr.storeAt t (.pointer p) v).run prog w=.ok () x
abbrev hV (a b c d:List UInt8)(e:Bool)(f:Int)(g:Bool)(h:Int)(i j:Bool)(k:Int):Value:=.agg #[.string (mkS a),.string (mkS b),.string (mkS c),.string (mkS d),.bool e,.int .i64 f,.bool g,.int .i64 h,.bool i,.bool j,.int .i64 k]
abbrev lU:=List UInt8
abbrev VP:=Value->World->Prop
abbrev vS (s:lU):Value:=.string (mkS s)
abbrev vI (n:Int):Value:=.int .i64 n
abbrev vA (k i:Nat):Option Addr:=some ⟨k,i,none⟩
abbrev Rv (t:TypeId)(p:Option Addr)(w:World)(v:Value):Prop:=(bE t (.pointer p)).run prog w=.ok v w
abbrev Cf (f:FuncId)(a:Array Value)(w:World)(R:Ending->World->Prop):Prop:=Calls prog f a w R
abbrev uS (f:FuncId)(a:Array Value)(w:World)(R:lU->World->Prop):Prop:=Calls prog f a w λe x=>∃s,e=.returned (.string (mkS s))/\R s x
abbrev uB (f:FuncId)(a:Array Value)(w:World)(R:Bool->World->Prop):Prop:=Calls prog f a w λe x=>∃s,e=.returned (.bool s)/\R s x
abbrev uI (f:FuncId)(a:Array Value)(w:World)(R:Int->World->Prop):Prop:=Calls prog f a w λe x=>∃s,e=.returned (.int .i64 s)/\R s x
abbrev uP (f:FuncId)(a:Array Value)(w:World)(R:Option Addr->World->Prop):Prop:=Calls prog f a w λe x=>∃s,e=.returned (.pointer s)/\R s x
abbrev uV (f:FuncId)(a:Array Value)(w:World)(R:Value->World->Prop):Prop:=Calls prog f a w λe x=>∃s,e=.returned s/\R s x
abbrev uL (f:FuncId)(a:Array Value)(w:World)(R:Option Addr->Nat->Nat->World->Prop):Prop:=Calls prog f a w λe x=>∃s n c,e=.returned (.slice s n c)/\R s n c x
abbrev uU (f:FuncId)(a:Array Value)(w:World)(R:World->Prop):Prop:=Calls prog f a w λe x=>e=.returned (.tuple #[])/\R x
abbrev rT (a:Array Value):Ending:=.returned (.tuple a)
abbrev bd (i n:Int):Prop:=0 <=i/\i <=n
abbrev bx (i n:Int):Prop:=0 <=i/\i<n
abbrev bW (w x:World):Prop:=Below w.heap.size w x
abbrev nA (w:World)(o:Obj)(R:Nat->World->Prop):Prop:=∀k x,k=w.heap.size->x=w.alloc o->R k x
theorem ru {f:FuncId}{fn:Func}{a:List Value}{w:World}{K:VP}{V:Prop}(hf:prog.funcs[f]? =some fn)(n:Ann)(h:V)(hm:prog.follows .mixedOrders=true:=by kernel_rfl)(hb:fn.body=some (ax fn):=by kernel_rfl)(hn:decide (a.length <=fn.ntmps)=true:=by kernel_rfl)(he:W prog fn.ntmps n 0 (ax fn) (WB prog fn K) (xw 0 a) w=V:=by kernel_rfl):Calls prog f a.toArray w (Ret K):=au hm hf hb n a (of_decide_eq_true hn) V he h
theorem wA (a:lU){w K}(h:nA w (.cells cu am) λb c=>Cf jT #[vS a,vS [91]] c λd e=>∃f g,d=rT #[vS f,.bool g]/\ah g (Cf pD #[vS f,vS [93]] e λi j=>∃k l,i=rT #[vS k,.bool l]/\Cf ua #[vS k] j λm n=>∃o p,m=rT #[o,.bool p]/\nA n (.cells fi av) λq r=>∃s,Sv av (vA q 0) o r s/\∃t,Ld av (vA q 0) s t/\ah p (Cf gj #[vI 3,t,.bool l] s λu v=>∃x y,u=rT #[x,vI y]/\∃z,Sv am (vA b 0) x v z/\∃A,Rv am (vA b 0) z A/\K (.tuple #[A,vI y]) z) (Cf gj #[vI 3,t,.bool false] s λu v=>∃x y,u=rT #[x,vI y]/\∃z,Sv am (vA b 0) x v z/\∃A,Rv am (vA b 0) z A/\K (.tuple #[A,vI y]) z)) (uS jv #[vS a] e λi j=>uL fJ #[vS i,.int .u8 46] j λk l m n=>(bx (i64.wrap (((l:Nat):Int)-(1:Int))) ((l:Nat):Int)/\Option.isSome k=true)/\∃o,Ld aI (ak k (i64.wrap (((l:Nat):Int)-(1:Int))) 1) n (vS o)/\uB gk #[vS o] n λp q=>ah p (Cf t8 #[vS a] q λr s=>∃t u,r=rT #[t,.bool u]/\nA s (.cells fi av) λv x=>∃y,Sv av (vA v 0) t x y/\∃z,Ld av (vA v 0) y z/\Cf gj #[vI 2,z,.bool u] y λA B=>∃C D,A=rT #[C,vI D]/\∃E,Sv am (vA b 0) C B E/\∃F,Rv am (vA b 0) E F/\K (.tuple #[F,vI D]) E) (∃r:FP [],(∃s:FP [.one .bool],(ah (decide (((List.length a:Nat):Int)>(253:Int))) (s true q) (uB bf #[.slice k l m,.func (.func ce) #[] #[]] q λt u=>s t u))/\∀t,aL 6 (∀u,s t u->ah t (∃v,Sv am (vA b 0) (.agg cu) u v/\∃x,Rv am (vA b 0) v x/\K (.tuple #[x,vI 31]) v) (r u)))/\aL 9 (∀s,r s->uS iK #[.slice k l m,vS [46]] s λt u=>∃v,Sv am (vA b 0) (.agg #[vI 1,vS t,.int .u8 0,.int .u8 0,.int .u8 0,.int .u8 0,.int .u8 0,.int .u8 0,.int .u8 0,.int .u8 0,.int .u8 0,.int .u8 0,.int .u8 0,.int .u8 0,.int .u8 0,.int .u8 0,.int .u8 0,.int .u8 0]) u v/\∃x,Rv am (vA b 0) v x/\K (.tuple #[x,vI 0]) v)))):Cf iY #[vS a] w (Ret K):=ru func65 [(28,[]),(29,[(63,.one .bool)])] h
theorem wC (a:Value){w K}(h:nA w (.cells (Value.cells a) am) λb c=>∃d,Ld am (vA b 0) c d/\uS lX #[d] c λe f=>Cf iY #[vS e] f λg i=>∃j k,g=rT #[j,vI k]/\nA i (.cells cu am) λl m=>∃n,Sv am (vA l 0) j m n/\ah (k==(0:Int)) (∃o,Ld am (vA l 0) n o/\∃p,Ld am (vA b 0) n p/\∃q,(do eqGuard .eql am (.tmp 14) (.tmp 15) o p;binOp .eql am o p:Sem Value).run prog n=.ok (.bool q) n/\K (.bool q) n) (K (.bool false) n)):Cf mZ #[a] w (Ret K):=ru func67 [] h
theorem uW (a:Value){w K}(h:nA w (.cells (Value.cells a) am) λb c=>∃d:FP [],(true/\∃e,Ld aq (vA b 0) c (vI e)/\ah (e !=(1:Int)) (K (.slice none 0 0) c) (∃f,Ld am (vA b 0) c f/\uB mZ #[f] c λg i=>ah (!g) (K (.slice none 0 0) i) (d i)))/\aL 9 (∀e,d e->true/\∃f,Ld aI (vA b 1) e (vS f)/\uL fJ #[vS f,.int .u8 46] e λg i j k=>K (.slice g i j) k)):Cf lW #[a] w (Ret K):=ru func68 [(2,[])] h
theorem yN (a:Value){w K}(h:nA w (.cells (Value.cells a) am) λb c=>true/\∃d,Ld aq (vA b 0) c (vI d)/\ah (d==(1:Int)) (true/\∃e,Ld aI (vA b 1) c (vS e)/\K (vS e) c) (ah (d==(2:Int)) (true/\∃e,Ld av (vA b 2) c e/\uS mV #[e] c λf g=>K (vS f) g) (ah (d==(3:Int)) (true/\∃e,Ld av (vA b 2) c e/\uS mW #[e] c λf g=>(((List.length [91]+List.length f:Nat):Int) <=i64.max)/\∀i,i=([91]++f)->(((List.length i+List.length [93]:Nat):Int) <=i64.max)/\∀j,j=(i++[93])->K (vS j) g) (K (vS []) c)))):Cf lX #[a] w (Ret K):=ru func69 [] h
theorem BI (a:lU){w K}(h:nA w (.cells fi av) λb c=>Cf ye #[vS a,vS [58,58]] c λd e=>∃f g i,d=rT #[vS f,vS g,.bool i]/\Cf nY #[vS f] e λj k=>∃l m n o,j=rT #[.slice l m n,.bool o]/\Cf nY #[vS g] k λp q=>∃r s t u,p=rT #[.slice r s t,.bool u]/\∃v:FP [],(∃x:FP [.one .bool],(ah (!o) (x true q) (ah (!u) (x true q) (ah i (ah (decide ((i64.wrap (((m:Nat):Int)+((s:Nat):Int))) >=(8:Int))) (x true q) (ah (!i) (x ((i64.wrap (((m:Nat):Int)+((s:Nat):Int))) !=(8:Int)) q) (x false q))) (ah (!i) (x ((i64.wrap (((m:Nat):Int)+((s:Nat):Int))) !=(8:Int)) q) (x false q)))))/\∀y,aL 20 (∀z,x y z->ah y (∃A,Sv av (vA b 0) (.agg fi) z A/\∃B,Rv av (vA b 0) A B/\K (.tuple #[B,.bool false]) A) (v z)))/\aL 23 (∀x,v x->nA x (.cells #[.int .u16 0,.int .u16 0,.int .u16 0,.int .u16 0,.int .u16 0,.int .u16 0,.int .u16 0,.int .u16 0] aF) λy z=>(True)/\∃A B,(Builtin.copy_ #[cZ,cZ] aq #[.slice (vA y 0) 8 8,.slice l m n]).run prog z=.ok (vI B) A/\bd (i64.wrap ((8:Int)-((s:Nat):Int))) ((8:Nat):Int)/\∃C D,(Builtin.copy_ #[cZ,cZ] aq #[.slice (some (if 8=(Int.toNat (i64.wrap ((8:Int)-((s:Nat):Int))))then⟨y,0,none⟩ else Addr.add ⟨y,0,none⟩ ((Int.toNat (i64.wrap ((8:Int)-((s:Nat):Int))))*1))) (8-(Int.toNat (i64.wrap ((8:Int)-((s:Nat):Int))))) (8-(Int.toNat (i64.wrap ((8:Int)-((s:Nat):Int))))),.slice r s t]).run prog A=.ok (vI D) C/\∃E F G H I J L M,Ld aF (vA y 0) C (.agg #[.int .u16 E,.int .u16 F,.int .u16 G,.int .u16 H,.int .u16 I,.int .u16 J,.int .u16 L,.int .u16 M])/\uV pA #[.agg #[.int .u16 E,.int .u16 F,.int .u16 G,.int .u16 H,.int .u16 I,.int .u16 J,.int .u16 L,.int .u16 M]] C λN O=>∃P,Sv av (vA b 0) N O P/\∃Q,Rv av (vA b 0) P Q/\K (.tuple #[Q,.bool true]) P)):Cf ua #[vS a] w (Ret K):=ru func118 [(10,[]),(11,[(54,.one .bool)])] h
theorem sU (a:Int)(b:Value)(c:Bool){w K}(h:nA w (.cells (Value.cells b) av) λd e=>nA e (.cells cu am) λf g=>ah (!c) (∃i,Sv am (vA f 0) (.agg cu) g i/\∃j,Rv am (vA f 0) i j/\K (.tuple #[j,vI 31]) i) (∃i,Ld av (vA d 0) g i/\∃j,(Instr.build am #[(0,vI a),(2,i)]).run prog g=.ok j g/\∃k,Sv am (vA f 0) j g k/\∃l,Rv am (vA f 0) k l/\K (.tuple #[l,vI 0]) k)):Cf gj #[vI a,b,.bool c] w (Ret K):=ru func119 [] h
theorem BH (a:lU){w K}(h:nA w (.cells fi av) λb c=>uL fJ #[vS a,.int .u8 46] c λd e f g=>ah (((e:Nat):Int) !=(4:Int)) (∃i,Sv av (vA b 0) (.agg fi) g i/\∃j,Rv av (vA b 0) i j/\K (.tuple #[j,.bool false]) i) (nA g (.cells fi av) λi j=>∃k:Nat->FP [.one (.int .i64)],(∃l,k l (0:Int) j)/\∀l m,aL 27 (∀n,k l m n->ah (decide (m<((e:Nat):Int))) ((bx m ((e:Nat):Int)/\Option.isSome d=true)/\∃o,Ld aI (ak d m 1) n (vS o)/\Cf kM #[vS o] n λp q=>∃r s,p=rT #[vI r,.bool s]/\∃t:FP [],(∃u:FP [.one .bool],(ah (!s) (u true q) (u (decide (r>(255:Int))) q))/\∀v,aL 5 (∀x,u v x->ah v (∃y,Sv av (vA b 0) (.agg fi) x y/\∃z,Rv av (vA b 0) y z/\K (.tuple #[z,.bool false]) y) (t x)))/\aL 8 (∀u,t u->(bx (i64.wrap ((12:Int)+m)) ((16:Nat):Int)/\true)/\∃v,Sv aW (ak (vA i 0) (i64.wrap ((12:Int)+m)) 1) (.int .u8 (IntKind.u8.wrap r)) u v/\∃x:Nat,x<l/\k x (i64.wrap (m+(1:Int))) v)) (∃o,Ld av (vA i 0) n o/\∃p,Sv av (vA b 0) o n p/\∃q,Rv av (vA b 0) p q/\K (.tuple #[q,.bool true]) p)))):Cf t8 #[vS a] w (Ret K):=ru func122 [(18,[(18,.one (.int .i64))]),(31,[]),(32,[(33,.one .bool)])] h
theorem rI (a:lU){w K}(h:uB m4 #[vS a] w λb c=>K (.bool (!b)) c):Cf ce #[vS a] w (Ret K):=ru func123 [] h
theorem wD (a:lU){w K}(h:ah (!(a==[])) (ah (decide (((List.length a:Nat):Int) <=(63:Int))) (∃b c d e,(convert aI aZ (vS a)).run prog w=.ok (.slice c d e) b/\uB d5 #[.slice c d e,.func (.func cJ) #[] #[]] b λf g=>K (.bool (!f)) g) (K (.bool false) w)) (K (.bool false) w)):Cf m4 #[vS a] w (Ret K):=ru func124 [] h
theorem wi (a:Value){w K}(h:nA w (.cells (Value.cells a) av) λb c=>bd (12:Int) ((16:Nat):Int)/\∃d:Nat->FP [.one .slice,.one (.int .i64)],(∃e,d e none 0 0 (0:Int) c)/\∀e f g i j,aL 11 (∀k,d e f g i j k->ah (decide (j<(((16-(Int.toNat 12)):Nat):Int))) ((bx j (((16-(Int.toNat 12)):Nat):Int)/\true)/\∃l,Ld aW (ak (some (if 16=(Int.toNat 12)then⟨b,0,none⟩ else Addr.add ⟨b,0,none⟩ ((Int.toNat 12)*1))) j 1) k (.int .u8 l)/\uS oK #[vI (i64.wrap l)] k λm n=>nA n (.cells #[vS m] aI) λo p=>∃q r s t,(Builtin.append_ #[az,az] az #[.slice f g i,.slice (vA o 0) 1 1]).run prog p=.ok (.slice r s t) q/\∃u:Nat,u<e/\d u r s t (i64.wrap (j+(1:Int))) q) (uS iK #[.slice f g i,vS [46]] k λl m=>K (vS l) m))):Cf mV #[a] w (Ret K):=ru func128 [(8,[(3,.one .slice),(8,.one (.int .i64))])] h
theorem wo (a:Value){w K}(h:nA w (.cells (Value.cells a) av) λb c=>∃d,Ld av (vA b 0) c d/\Cf lS #[d] c λe f=>∃g i j k l m n o,e=.returned (.agg #[.int .u16 g,.int .u16 i,.int .u16 j,.int .u16 k,.int .u16 l,.int .u16 m,.int .u16 n,.int .u16 o])/\nA f (.cells #[.int .u16 0,.int .u16 0,.int .u16 0,.int .u16 0,.int .u16 0,.int .u16 0,.int .u16 0,.int .u16 0] aF) λp q=>∃r,Sv aF (vA p 0) (.agg #[.int .u16 g,.int .u16 i,.int .u16 j,.int .u16 k,.int .u16 l,.int .u16 m,.int .u16 n,.int .u16 o]) q r/\∃s t u v x y z A,Ld aF (vA p 0) r (.agg #[.int .u16 s,.int .u16 t,.int .u16 u,.int .u16 v,.int .u16 x,.int .u16 y,.int .u16 z,.int .u16 A])/\Cf mY #[.agg #[.int .u16 s,.int .u16 t,.int .u16 u,.int .u16 v,.int .u16 x,.int .u16 y,.int .u16 z,.int .u16 A]] r λB C=>∃D E,B=rT #[vI D,vI E]/\ah (decide (E<(2:Int))) ((True)/\uS gi #[.slice (vA p 0) 8 8] C λF G=>K (vS F) G) (bd D ((8:Nat):Int)/\∃F,(∀G,bW C G->Cf gi #[.slice (vA p 0) (Int.toNat D) 8] G λH I=>H=.returned (vS F)/\Below C.heap.size G I)/\(((List.length F+List.length [58,58]:Nat):Int) <=i64.max)/\∀G,G=(F++[58,58])->bd (i64.wrap (D+E)) ((8:Nat):Int)/\∃H,(∀I,bW C I->Cf gi #[.slice (some (if 8=(Int.toNat (i64.wrap (D+E)))then⟨p,0,none⟩ else Addr.add ⟨p,0,none⟩ ((Int.toNat (i64.wrap (D+E)))*1))) (8-(Int.toNat (i64.wrap (D+E)))) (8-(Int.toNat (i64.wrap (D+E))))] I λJ L=>J=.returned (vS H)/\Below C.heap.size I L)/\(((List.length G+List.length H:Nat):Int) <=i64.max)/\∀I,I=(G++H)->∀J,bW C J->K (vS I) J)):Cf mW #[a] w (Ret K):=ru func129 [] h
theorem Af (a:lU){w K}(h:ah (a==[]) (K (.tuple #[.slice none 0 0,.bool true]) w) (uL fJ #[vS a,.int .u8 58] w λb c d e=>∃f:Nat->FP [.one .slice,.one (.int .i64)],(∃g,f g none 0 0 (0:Int) e)/\∀g i j k l,aL 20 (∀m,f g i j k l m->ah (decide (l<((c:Nat):Int))) ((bx l ((c:Nat):Int)/\Option.isSome b=true)/\∃n,Ld aI (ak b l 1) m (vS n)/\Cf mX #[vS n] m λo p=>∃q r,o=rT #[.int .u16 q,.bool r]/\ah (!r) (K (.tuple #[.slice none 0 0,.bool false]) p) (nA p (.cells #[.int .u16 q] eM) λs t=>∃u v x y,(Builtin.append_ #[cZ,cZ] cZ #[.slice i j k,.slice (vA s 0) 1 1]).run prog t=.ok (.slice v x y) u/\∃z:Nat,z<g/\f z v x y (i64.wrap (l+(1:Int))) u)) (K (.tuple #[.slice i j k,.bool true]) m)))):Cf nY #[vS a] w (Ret K):=ru func172 [(16,[(4,.one .slice),(14,.one (.int .i64))])] h
theorem yK (a b c d e f g i:Int){w K}(h:nA w (.cells #[.int .u16 a,.int .u16 b,.int .u16 c,.int .u16 d,.int .u16 e,.int .u16 f,.int .u16 g,.int .u16 i] aF) λj k=>nA k (.cells fi av) λl m=>nA m (.cells fi av) λn o=>∃p:Nat->FP [.one (.int .i64)],(∃q,p q (0:Int) o)/\∀q r,aL 20 (∀s,p q r s->ah (decide (r<(8:Int))) ((bx r ((8:Nat):Int)/\true)/\(bx r ((8:Nat):Int)/\true)/\(∃t,Ld eM (ak (vA j 0) r 1) (World.drew s) (.int .u16 t)/\(0 <=(8:Int))/\(bx (i64.wrap ((2:Int)*r)) ((16:Nat):Int)/\true)/\(∃u,Ld eM (ak (vA j 0) r 1) (World.drew s) (.int .u16 u)/\∃v,Sv aW (ak (vA n 0) (i64.wrap ((2:Int)*r)) 1) (.int .u8 (IntKind.u8.wrap (Int.fdiv t (2 ^ (min (Int.toNat 8) (IntKind.bits .u16)))))) (World.drew s) v/\(bx (i64.wrap ((i64.wrap ((2:Int)*r))+(1:Int))) ((16:Nat):Int)/\true)/\∃x,Sv aW (ak (vA n 0) (i64.wrap ((i64.wrap ((2:Int)*r))+(1:Int))) 1) (.int .u8 (IntKind.u8.wrap u)) v x/\∃y:Nat,y<q/\p y (i64.wrap (r+(1:Int))) x)/\∃u,Sv aW (ak (vA n 0) (i64.wrap ((2:Int)*r)) 1) (.int .u8 (IntKind.u8.wrap (Int.fdiv t (2 ^ (min (Int.toNat 8) (IntKind.bits .u16)))))) (World.drew s) u/\∃v,Ld eM (ak (vA j 0) r 1) u (.int .u16 v)/\(bx (i64.wrap ((i64.wrap ((2:Int)*r))+(1:Int))) ((16:Nat):Int)/\true)/\∃x,Sv aW (ak (vA n 0) (i64.wrap ((i64.wrap ((2:Int)*r))+(1:Int))) 1) (.int .u8 (IntKind.u8.wrap v)) u x/\∃y:Nat,y<q/\p y (i64.wrap (r+(1:Int))) x)/\∃t,Ld eM (ak (vA j 0) r 1) (World.drew s) (.int .u16 t)/\∃u,Ld eM (ak (vA j 0) r 1) (World.drew s) (.int .u16 u)/\(0 <=(8:Int))/\(bx (i64.wrap ((2:Int)*r)) ((16:Nat):Int)/\true)/\∃v,Sv aW (ak (vA n 0) (i64.wrap ((2:Int)*r)) 1) (.int .u8 (IntKind.u8.wrap (Int.fdiv u (2 ^ (min (Int.toNat 8) (IntKind.bits .u16)))))) (World.drew s) v/\(bx (i64.wrap ((i64.wrap ((2:Int)*r))+(1:Int))) ((16:Nat):Int)/\true)/\∃x,Sv aW (ak (vA n 0) (i64.wrap ((i64.wrap ((2:Int)*r))+(1:Int))) 1) (.int .u8 (IntKind.u8.wrap t)) v x/\∃y:Nat,y<q/\p y (i64.wrap (r+(1:Int))) x) (∃t,Ld av (vA n 0) s t/\∃u,Sv av (vA l 0) t s u/\∃v,Rv av (vA l 0) u v/\K v u))):Cf pA #[.agg #[.int .u16 a,.int .u16 b,.int .u16 c,.int .u16 d,.int .u16 e,.int .u16 f,.int .u16 g,.int .u16 i]] w (Ret K):=ru func173 [(8,[(5,.one (.int .i64))])] h
theorem rJ (a:Int){w K}(h:uB lY #[.int .u8 a] w λb c=>K (.bool (!b)) c):Cf cJ #[.int .u8 a] w (Ret K):=ru func177 [] h
theorem uX (a:Int){w K}(h:ah (decide (a >=(97:Int))) (ah (decide (a <=(122:Int))) (K (.bool true) w) (ah (decide (a >=(48:Int))) (ah (decide (a <=(57:Int))) (K (.bool true) w) (ah (a==(45:Int)) (K (.bool true) w) (K (.bool (a==(95:Int))) w))) (ah (a==(45:Int)) (K (.bool true) w) (K (.bool (a==(95:Int))) w)))) (ah (decide (a >=(48:Int))) (ah (decide (a <=(57:Int))) (K (.bool true) w) (ah (a==(45:Int)) (K (.bool true) w) (K (.bool (a==(95:Int))) w))) (ah (a==(45:Int)) (K (.bool true) w) (K (.bool (a==(95:Int))) w)))):Cf lY #[.int .u8 a] w (Ret K):=ru func178 [] h
theorem uR (a:Value){w K}(h:nA w (.cells (Value.cells a) av) λb c=>nA c (.cells #[.int .u16 0,.int .u16 0,.int .u16 0,.int .u16 0,.int .u16 0,.int .u16 0,.int .u16 0,.int .u16 0] aF) λd e=>nA e (.cells #[.int .u16 0,.int .u16 0,.int .u16 0,.int .u16 0,.int .u16 0,.int .u16 0,.int .u16 0,.int .u16 0] aF) λf g=>∃i:Nat->FP [.one (.int .i64)],(∃j,i j (0:Int) g)/\∀j k,aL 19 (∀l,i j k l->ah (decide (k<(8:Int))) ((bx (i64.wrap ((2:Int)*k)) ((16:Nat):Int)/\true)/\∃m,(∀n,bW l n->Ld aW (ak (vA b 0) (i64.wrap ((2:Int)*k)) 1) n (.int .u8 m))/\(0 <=(8:Int))/\(bx (i64.wrap ((i64.wrap ((2:Int)*k))+(1:Int))) ((16:Nat):Int)/\true)/\∃n,(∀o,bW l o->Ld aW (ak (vA b 0) (i64.wrap ((i64.wrap ((2:Int)*k))+(1:Int))) 1) o (.int .u8 n))/\(bx k ((8:Nat):Int)/\true)/\∀o,bW l o->∃p,Sv eM (ak (vA f 0) k 1) (.int .u16 (IntKind.u16.wrap (((BitVec.ofInt (IntKind.bits .u16) (IntKind.u16.wrap ((IntKind.u16.wrap m)*2 ^ (min (Int.toNat 8) (IntKind.bits .u16))))) ||| (BitVec.ofInt (IntKind.bits .u16) (IntKind.u16.wrap n))).toNat:Nat))) o p/\∃q:Nat,q<j/\i q (i64.wrap (k+(1:Int))) p) (∃m n o p q r s t,Ld aF (vA f 0) l (.agg #[.int .u16 m,.int .u16 n,.int .u16 o,.int .u16 p,.int .u16 q,.int .u16 r,.int .u16 s,.int .u16 t])/\∃u,Sv aF (vA d 0) (.agg #[.int .u16 m,.int .u16 n,.int .u16 o,.int .u16 p,.int .u16 q,.int .u16 r,.int .u16 s,.int .u16 t]) l u/\∃v x y z A B C D,Rv aF (vA d 0) u (.agg #[.int .u16 v,.int .u16 x,.int .u16 y,.int .u16 z,.int .u16 A,.int .u16 B,.int .u16 C,.int .u16 D])/\K (.agg #[.int .u16 v,.int .u16 x,.int .u16 y,.int .u16 z,.int .u16 A,.int .u16 B,.int .u16 C,.int .u16 D]) u))):Cf lS #[a] w (Ret K):=ru func182 [(8,[(5,.one (.int .i64))]),(2000019,[(15,.one .bool)])] h
theorem wu (a b c d e f g i:Int){w K}(h:nA w (.cells #[.int .u16 a,.int .u16 b,.int .u16 c,.int .u16 d,.int .u16 e,.int .u16 f,.int .u16 g,.int .u16 i] aF) λj k=>∃l:Nat->FP [.one (.int .i64),.one (.int .i64),.one (.int .i64),.one (.int .i64)],(∃m,l m (0:Int) (0:Int) (0:Int) (0:Int) k)/\∀m n o p q,aL 18 (∀r,l m n o p q r->ah (decide (q<(8:Int))) (∃s:FP [.one (.int .i64)],((bx q ((8:Nat):Int)/\true)/\∃t,Ld eM (ak (vA j 0) q 1) r (.int .u16 t)/\ah (t !=(0:Int)) (s (0:Int) r) (s (i64.wrap (p+(1:Int))) r))/\∀t,aL 4 (∀u,s t u->ah (decide (t>o)) (∃v:Nat,v<m/\l v (i64.wrap ((i64.wrap (q+(1:Int)))-t)) t t (i64.wrap (q+(1:Int))) u) (∃v:Nat,v<m/\l v n o t (i64.wrap (q+(1:Int))) u))) (K (.tuple #[vI n,vI o]) r))):Cf mY #[.agg #[.int .u16 a,.int .u16 b,.int .u16 c,.int .u16 d,.int .u16 e,.int .u16 f,.int .u16 g,.int .u16 i]] w (Ret K):=ru func183 [(8,[(4,.one (.int .i64)),(5,.one (.int .i64)),(6,.one (.int .i64)),(8,.one (.int .i64))]),(21,[(6,.one (.int .i64))])] h
theorem sQ (a:Option Addr)(b c:Nat){w K}(h:∃d:Nat->FP [.one .slice,.one (.int .i64)],(∃e,d e none 0 0 (0:Int) w)/\∀e f g i j,aL 11 (∀k,d e f g i j k->ah (decide (j<((b:Nat):Int))) ((bx j ((b:Nat):Int)/\Option.isSome a=true)/\∃l,Ld eM (ak a j 1) k (.int .u16 l)/\uS fX #[.int .u64 (IntKind.u64.wrap l),vI 16] k λm n=>nA n (.cells #[vS m] aI) λo p=>∃q r s t,(Builtin.append_ #[az,az] az #[.slice f g i,.slice (vA o 0) 1 1]).run prog p=.ok (.slice r s t) q/\∃u:Nat,u<e/\d u r s t (i64.wrap (j+(1:Int))) q) (uS iK #[.slice f g i,vS [58]] k λl m=>K (vS l) m))):Cf gi #[.slice a b c] w (Ret K):=ru func184 [(8,[(3,.one .slice),(8,.one (.int .i64))])] h
theorem wt (a:lU){w K}(h:∃b:FP [],(ah (decide (((List.length a:Nat):Int)<(1:Int))) (K (.tuple #[.int .u16 0,.bool false]) w) (ah (decide (((List.length a:Nat):Int)>(4:Int))) (K (.tuple #[.int .u16 0,.bool false]) w) (b w)))/\aL 10 (∀c,b c->uS jv #[vS a] c λd e=>∃f g i j,(convert aI aZ (vS d)).run prog e=.ok (.slice g i j) f/\∃k:Nat->FP [.one (.int .u16),.one (.int .i64)],(∃l,k l (0:Int) (0:Int) f)/\∀l m n,aL 17 (∀o,k l m n o->ah (decide (n<((i:Nat):Int))) ((bx n ((i:Nat):Int)/\Option.isSome g=true)/\∃p,Ld aW (ak g n 1) o (.int .u8 p)/\uI jV #[vS [48,49,50,51,52,53,54,55,56,57,97,98,99,100,101,102],.int .u8 p] o λq r=>ah (decide (q<(0:Int))) (K (.tuple #[.int .u16 0,.bool false]) r) ((0 <=(4:Int))/\∃s:Nat,s<l/\k s (IntKind.u16.wrap (((BitVec.ofInt (IntKind.bits .u16) (IntKind.u16.wrap (m*2 ^ (min (Int.toNat 4) (IntKind.bits .u16))))) ||| (BitVec.ofInt (IntKind.bits .u16) (IntKind.u16.wrap q))).toNat:Nat)) (i64.wrap (n+(1:Int))) r)) (K (.tuple #[.int .u16 m,.bool true]) o)))):Cf mX #[vS a] w (Ret K):=ru func214 [(2,[]),(16,[(4,.one (.int .u16)),(20,.one (.int .i64))])] h
theorem di (a:Option Addr)(b c:Nat){w K}(h:uI bI #[.slice a b c,.func (.func ce) #[] #[]] w λd e=>K (.bool (decide (d >=(0:Int)))) e):Cf bf #[.slice a b c,.func (.func ce) #[] #[]] w (Ret K):=ru func63 [] h
theorem dG (a:Option Addr)(b c:Nat){w K}(h:∃d:Nat->FP [.one (.int .i64)],(∃e,d e (0:Int) w)/\∀e f,aL 12 (∀g,d e f g->ah (decide (f<((b:Nat):Int))) ((bx f ((b:Nat):Int)/\Option.isSome a=true)/\∃i,Ld aI (ak a f 1) g (vS i)/\uB ce #[vS i] g λj k=>ah j (K (vI f) k) (∃l:Nat,l<e/\d l (i64.wrap (f+(1:Int))) k)) (K (vI (-1)) g))):Cf bI #[.slice a b c,.func (.func ce) #[] #[]] w (Ret K):=ru func115 [(6,[(8,.one (.int .i64))])] h
theorem dQ (a:Option Addr)(b c:Nat){w K}(h:uI fu #[.slice a b c,.func (.func cJ) #[] #[]] w λd e=>K (.bool (decide (d >=(0:Int)))) e):Cf d5 #[.slice a b c,.func (.func cJ) #[] #[]] w (Ret K):=ru func176 [] h
theorem eq (a:Option Addr)(b c:Nat){w K}(h:∃d:Nat->FP [.one (.int .i64)],(∃e,d e (0:Int) w)/\∀e f,aL 12 (∀g,d e f g->ah (decide (f<((b:Nat):Int))) ((bx f ((b:Nat):Int)/\Option.isSome a=true)/\∃i,Ld aW (ak a f 1) g (.int .u8 i)/\uB cJ #[.int .u8 i] g λj k=>ah j (K (vI f) k) (∃l:Nat,l<e/\d l (i64.wrap (f+(1:Int))) k)) (K (vI (-1)) g))):Cf fu #[.slice a b c,.func (.func cJ) #[] #[]] w (Ret K):=ru func216 [(6,[(8,.one (.int .i64))])] h
theorem mM (a b:Int){w K}(h:uS fc #[.int .u64 a,vI b] w λc d=>K (vS c) d):Cf fX #[.int .u64 a,vI b] w (Ret K):=ru func220 [] h
theorem iE (a b:Int){w K}(h:ah (b==(10:Int)) (ah (decide (a<(100:Int))) (uS lp #[vI (i64.wrap a)] w λc d=>K (vS c) d) (nA w (.cells xN xL) λc d=>uI ju #[.int .u64 a] d λe f=>bd e ((24:Nat):Int)/\uU iy #[.slice (vA c 0) (Int.toNat e) 24,.int .u64 a] f λg=>bd e ((24:Nat):Int)/\∃i,(convert aZ aI (.slice (vA c 0) (Int.toNat e) 24)).run prog g=.ok (vS i) g/\K (vS i) g)) (Cf cO #[.slice none 0 0,.int .u64 a,vI b,.bool false,.bool false] w λc d=>∃e f g i,c=rT #[.slice e f g,vS i]/\K (vS i) d)):Cf fc #[.int .u64 a,vI b] w (Ret K):=ru func238 [] h
theorem iF (a:Option Addr)(b c:Nat)(d e:Int)(f g:Bool){w K}(h:∃i:FP [],(∃j:FP [.one .bool],(ah (decide (e<(2:Int))) (j true w) (ah (e==(10:Int)) (j true w) (j (decide (e>(36:Int))) w)))/\∀k,aL 9 (∀l,j k l->ah k (False) (i l)))/\aL 11 (∀j,i j->nA j (.cells xO jq) λk l=>∃m:FP [.one (.int .u64)],(ah f (m (IntKind.u64.wrap (0-d)) l) (m d l))/\∀n,aL 3 (∀o,m n o->∃p:FP [.one (.int .i64)],(uB d4 #[vI e] o λq r=>ah q (uI dN #[.int .u64 (IntKind.u64.wrap e)] r λs t=>∃u:Nat->FP [.one (.int .u64),.one (.int .i64)],(∃v,u v n (65:Int) t)/\∀v x y,aL 14 (∀z,u v x y z->ah (decide (x >=(IntKind.u64.wrap e))) (bx (IntKind.u64.wrap (((BitVec.ofInt (IntKind.bits .u64) x) &&& (BitVec.ofInt (IntKind.bits .u64) (IntKind.u64.wrap ((IntKind.u64.wrap e)-(1:Int))))).toNat:Nat)) ((List.length [48,49,50,51,52,53,54,55,56,57,97,98,99,100,101,102,103,104,105,106,107,108,109,110,111,112,113,114,115,116,117,118,119,120,121,122]:Nat):Int)/\(bx (i64.wrap (y-(1:Int))) ((65:Nat):Int)/\true)/\∃A,Sv aW (ak (vA k 0) (i64.wrap (y-(1:Int))) 1) (.int .u8 (jh [48,49,50,51,52,53,54,55,56,57,97,98,99,100,101,102,103,104,105,106,107,108,109,110,111,112,113,114,115,116,117,118,119,120,121,122] (IntKind.u64.wrap (((BitVec.ofInt (IntKind.bits .u64) x) &&& (BitVec.ofInt (IntKind.bits .u64) (IntKind.u64.wrap ((IntKind.u64.wrap e)-(1:Int))))).toNat:Nat)))) z A/\(0 <=(IntKind.u64.wrap s))/\∃B:Nat,B<v/\u B (Int.fdiv x (2 ^ (min (Int.toNat (IntKind.u64.wrap s)) (IntKind.bits .u64)))) (i64.wrap (y-(1:Int))) A) (bx x ((List.length [48,49,50,51,52,53,54,55,56,57,97,98,99,100,101,102,103,104,105,106,107,108,109,110,111,112,113,114,115,116,117,118,119,120,121,122]:Nat):Int)/\(bx (i64.wrap (y-(1:Int))) ((65:Nat):Int)/\true)/\∃A,Sv aW (ak (vA k 0) (i64.wrap (y-(1:Int))) 1) (.int .u8 (jh [48,49,50,51,52,53,54,55,56,57,97,98,99,100,101,102,103,104,105,106,107,108,109,110,111,112,113,114,115,116,117,118,119,120,121,122] x)) z A/\p (i64.wrap (y-(1:Int))) A))) (∃s:Nat->FP [.one (.int .u64),.one (.int .i64)],(∃t,s t n (65:Int) r)/\∀t u v,aL 18 (∀x,s t u v x->ah (decide (u >=(IntKind.u64.wrap e))) (((IntKind.u64.wrap e)≠0)/\∀y,y=(IntKind.u64.wrap (Int.tdiv u (IntKind.u64.wrap e)))->bx (IntKind.u64.wrap (u-(IntKind.u64.wrap (y*(IntKind.u64.wrap e))))) ((List.length [48,49,50,51,52,53,54,55,56,57,97,98,99,100,101,102,103,104,105,106,107,108,109,110,111,112,113,114,115,116,117,118,119,120,121,122]:Nat):Int)/\(bx (i64.wrap (v-(1:Int))) ((65:Nat):Int)/\true)/\∃z,Sv aW (ak (vA k 0) (i64.wrap (v-(1:Int))) 1) (.int .u8 (jh [48,49,50,51,52,53,54,55,56,57,97,98,99,100,101,102,103,104,105,106,107,108,109,110,111,112,113,114,115,116,117,118,119,120,121,122] (IntKind.u64.wrap (u-(IntKind.u64.wrap (y*(IntKind.u64.wrap e))))))) x z/\∃A:Nat,A<t/\s A y (i64.wrap (v-(1:Int))) z) (bx u ((List.length [48,49,50,51,52,53,54,55,56,57,97,98,99,100,101,102,103,104,105,106,107,108,109,110,111,112,113,114,115,116,117,118,119,120,121,122]:Nat):Int)/\(bx (i64.wrap (v-(1:Int))) ((65:Nat):Int)/\true)/\∃y,Sv aW (ak (vA k 0) (i64.wrap (v-(1:Int))) 1) (.int .u8 (jh [48,49,50,51,52,53,54,55,56,57,97,98,99,100,101,102,103,104,105,106,107,108,109,110,111,112,113,114,115,116,117,118,119,120,121,122] u)) x y/\p (i64.wrap (v-(1:Int))) y))))/\∀q,aL 62 (∀r,p q r->∃s:FP [.one (.int .i64)],(ah f ((bx (i64.wrap (q-(1:Int))) ((65:Nat):Int)/\true)/\∃t,Sv aW (ak (vA k 0) (i64.wrap (q-(1:Int))) 1) (.int .u8 45) r t/\s (i64.wrap (q-(1:Int))) t) (s q r))/\∀t,aL 5 (∀u,s t u->ah g (bd t ((65:Nat):Int)/\∃v x y z,(Builtin.append_ #[aZ,aZ] aZ #[.slice a b c,.slice (some (if 65=(Int.toNat t)then⟨k,0,none⟩ else Addr.add ⟨k,0,none⟩ ((Int.toNat t)*1))) (65-(Int.toNat t)) (65-(Int.toNat t))]).run prog u=.ok (.slice x y z) v/\K (.tuple #[.slice x y z,vS []]) v) (bd t ((65:Nat):Int)/\∃v,(convert aZ aI (.slice (some (if 65=(Int.toNat t)then⟨k,0,none⟩ else Addr.add ⟨k,0,none⟩ ((Int.toNat t)*1))) (65-(Int.toNat t)) (65-(Int.toNat t)))).run prog u=.ok (vS v) u/\K (.tuple #[.slice none 0 0,vS v]) u)))))):Cf cO #[.slice a b c,.int .u64 d,vI e,.bool f,.bool g] w (Ret K):=ru func252 [(2,[]),(3,[(28,.one .bool)]),(12,[(1,.one (.int .u64))]),(18,[(13,.one (.int .i64))]),(30,[(1,.one (.int .u64)),(13,.one (.int .i64))]),(50,[(1,.one (.int .u64)),(13,.one (.int .i64))]),(68,[(13,.one (.int .i64))])] h
theorem gW (a:Int){w K}(h:K (.bool ((i64.wrap (((BitVec.ofInt (IntKind.bits .i64) a) &&& (BitVec.ofInt (IntKind.bits .i64) (i64.wrap (a-(1:Int))))).toNat:Nat))==(0:Int))) w):Cf d4 #[vI a] w (Ret K):=ru func256 [] h
theorem j4 (a:Int){w K}(h:uI fC #[.int .u64 a] w λb c=>K (vI b) c):Cf dN #[.int .u64 a] w (Ret K):=ru func257 [] h
theorem jf (a:Int){w K}(h:ah (a==(0:Int)) (K (vI 64) w) ((0 <=(58:Int))/\(bx (Int.fdiv (IntKind.u64.wrap ((IntKind.u64.wrap (((BitVec.ofInt (IntKind.bits .u64) a) &&& (BitVec.ofInt (IntKind.bits .u64) (IntKind.u64.wrap (0-a)))).toNat:Nat))*(285870213051353865:Int))) (2 ^ (min (Int.toNat 58) (IntKind.bits .u64)))) ((64:Nat):Int)/\true)/\∃b,Ld aW (ak (vA 5 0) (Int.fdiv (IntKind.u64.wrap ((IntKind.u64.wrap (((BitVec.ofInt (IntKind.bits .u64) a) &&& (BitVec.ofInt (IntKind.bits .u64) (IntKind.u64.wrap (0-a)))).toNat:Nat))*(285870213051353865:Int))) (2 ^ (min (Int.toNat 58) (IntKind.bits .u64)))) 1) w (.int .u8 b)/\K (vI (i64.wrap b)) w)):Cf fC #[.int .u64 a] w (Ret K):=ru func259 [] h
theorem sW (a:lU){w K}(h:ah (!(a==[])) (bd (10:Int) (((List.length [48,49,50,51,52,53,54,55,56,57,65,66,67,68,69,70]):Nat):Int)/\∀b,b=(List.take (Int.toNat 10) [48,49,50,51,52,53,54,55,56,57,65,66,67,68,69,70])->uS vV #[vS a,vS b] w λc d=>K (.bool (c==[])) d) (K (.bool false) w)):Cf gk #[vS a] w (Ret K):=ru func56 [] h
theorem u0 (a:lU)(b:Int){w K}(h:nA w (.cells #[.int .u8 b] aW) λc d=>∃e,(convert aZ aI (.slice (vA c 0) 1 1)).run prog d=.ok (vS e) d/\uL ub #[vS a,vS e] d λf g i j=>K (.slice f g i) j):Cf fJ #[vS a,.int .u8 b] w (Ret K):=ru func120 [] h
theorem uZ (a:lU){w K}(h:∃b c d e,(convert aI aZ (vS a)).run prog w=.ok (.slice c d e) b/\∃f:Nat->FP [.one (.int .i64)],(∃g,f g (0:Int) b)/\∀g i,aL 19 (∀j,f g i j->ah (decide (i<((d:Nat):Int))) ((bx i ((d:Nat):Int)/\Option.isSome c=true)/\∃k,Ld aW (ak c i 1) j (.int .u8 k)/\∃l:FP [.one .bool],(ah (decide (k >=(65:Int))) (l (decide (k <=(90:Int))) j) (l false j))/\∀m,aL 5 (∀n,l m n->ah m ((bx i ((d:Nat):Int)/\Option.isSome c=true)/\∃o,Sv aW (ak c i 1) (.int .u8 (IntKind.u8.wrap ((IntKind.u8.wrap (k-(65:Int)))+(97:Int)))) n o/\∃p:Nat,p<g/\f p (i64.wrap (i+(1:Int))) o) (∃o:Nat,o<g/\f o (i64.wrap (i+(1:Int))) n))) (∃k,(convert aZ aI (.slice c d e)).run prog j=.ok (vS k) j/\K (vS k) j))):Cf jv #[vS a] w (Ret K):=ru func121 [(8,[(10,.one (.int .i64))]),(19,[(20,.one .bool)])] h
theorem sX (a:lU){w K}(h:∃b:FP [],(uB gk #[vS a] w λc d=>ah (!c) (K (.tuple #[vI 0,.bool false]) d) (ah (decide (((List.length a:Nat):Int)>(18:Int))) (K (.tuple #[vI 0,.bool false]) d) (bx (0:Int) ((List.length a:Nat):Int)/\ah ((jh a (0:Int))==(48:Int)) (ah (decide (((List.length a:Nat):Int)>(1:Int))) (K (.tuple #[vI 0,.bool false]) d) (b d)) (b d))))/\aL 20 (∀c,b c->∃d e f g,(convert aI aZ (vS a)).run prog c=.ok (.slice e f g) d/\∃i:Nat->FP [.one (.int .i64),.one (.int .i64)],(∃j,i j (0:Int) (0:Int) d)/\∀j k l,aL 11 (∀m,i j k l m->ah (decide (l<((f:Nat):Int))) ((bx l ((f:Nat):Int)/\Option.isSome e=true)/\∃n,Ld aW (ak e l 1) m (.int .u8 n)/\∃o:Nat,o<j/\i o (i64.wrap ((i64.wrap ((10:Int)*k))+(i64.wrap (IntKind.u8.wrap (n-(48:Int)))))) (i64.wrap (l+(1:Int))) m) (K (.tuple #[vI k,.bool true]) m)))):Cf kM #[vS a] w (Ret K):=ru func175 [(2,[]),(16,[(4,.one (.int .i64)),(28,.one (.int .i64))])] h
def ai (w:World)(k:Nat)(t:TypeId)(vs:List Value):Prop:=w.heap[k]? =some (.cells vs.toArray t (0,0))
theorem ai.new {w w':World}{k:Nat}{t:TypeId}{vs:List Value}(hk:k=w.heap.size)(hw:w'=w.alloc (.cells vs.toArray t)):ai w' k t vs:=by
 subst hk hw;exact heap_alloc_new w _
theorem ai.lt {w:World}{k:Nat}{t:TypeId}{vs:List Value}(h:ai w k t vs):k<w.heap.size:=(Array.getElem?_eq_some_iff.1 (show w.heap[k]? =_ from h)).1
theorem ai.block {w w':World}{k:Nat}{t:TypeId}{vs:List Value}(h:ai w k t vs)(e:w'.heap[k]? =w.heap[k]?):ai w' k t vs:=e.trans h
theorem ai.below {w w':World}{k:Nat}{t:TypeId}{vs:List Value}(h:ai w k t vs)(hb:bW w w'):ai w' k t vs:=h.block (hb.block k h.lt)
theorem ai.grown {w w':World}{k:Nat}{t:TypeId}{vs:List Value}{row:Option Nat}(h:ai w k t vs)(hg:w.grownBy w' row)(hne:some k≠row):ai w' k t vs:=h.block (hg.block k h.lt hne)
theorem ai.cell {w:World}{k:Nat}{t:TypeId}{vs:List Value}(h:ai w k t vs)(i:Nat):w.cell? ⟨k,i,none⟩=vs[i]? :=by rw[eQ h];simp
theorem ai.load1 {P:Program}{u:TypeId}{d:TypeDesc}(hu:P.underlying u=some d)(ha:AK d=false){w:World}{k:Nat}{t:TypeId}{vs:List Value}(h:ai w k t vs){i:Nat}{v:Value}(hv:vs[i]? =some v):
   (Instr.loadAt u (.pointer (some ⟨k,i,none⟩))).run P w=.ok v w:=dh hu ha (by rw[h.cell];exact hv)
theorem ai.loadA {P:Program}{u:TypeId}{d:TypeDesc}{ti:TypeInfo}(hu:P.underlying u=some d)(ha:AK d=true)(hi:P.info? u=some ti){w:World}{k:Nat}{t:TypeId}{vs us:List Value}(h:ai w k t vs){i:Nat}(hl:us.length=ti.size)
   (hv:∀j,j<us.length->vs[i+j]? =us[j]?):(Instr.loadAt u (.pointer (some ⟨k,i,none⟩))).run P w=.ok (.agg us.toArray) w:=
 uz hu ha hi hl λj hj=>by rw[h.cell];exact hv j hj
theorem ai.res {P:Program}{u:TypeId}{p:Addr}{w w':World}{v:Value}(h:(Instr.loadAt u (.pointer (some p))).run P w=.ok v w'):(bE u (.pointer (some p))).run P w=.ok v w':=h
theorem ai.store {P:Program}{u:TypeId}{bytes n:Nat}{z:Value}(tf:TF P u n bytes z){w:World}{k:Nat}{t:TypeId}{vs:List Value}(h:ai w k t vs){i:Nat}{v:Value}(hs:v.cells.size=n)(hfit:i+n <=vs.length)(h1:∀c∈v.cells.toList,c.oneCell'=true):
   ∃w',(Instr.storeAt u (.pointer (some ⟨k,i,none⟩)) v).run P w=.ok () w'/\ai w' k t (vs.take i++v.cells.toList++vs.drop (i+n))/\w.grownBy w' (some k):=by
 obtain⟨ti,hti,hsz,_,_⟩:=tf.info
 refine⟨_,ms hti (o:=i) h (λi _=>by simp) (by rw[hs,hsz]) (by rw[hsz];simpa using hfit) h1,?_,ey w k _⟩
 have:=setRow_heap w k vs.toArray (vs.take i++v.cells.toList++vs.drop (i+n)).toArray t (0,0) h
 rw[<- hs]at this ⊢
 exact this
theorem KJ {n:Nat}{w:World}{R:Bool->World->Prop}{B:(Bool->World->Prop)->Prop}(f:Bool)(hB:B (λb w'=>w'=w/\b=f))(h:R f w):
   ∃J:FP [.one (.bool)],B J/\∀b:Bool,aL n (∀wj:World,J b wj->R b wj):=by
 refine⟨λb w'=>w'=w/\b=f,hB,λb=>aL.of ?_ _⟩
 rintro wj ⟨rfl,rfl⟩;exact h
theorem KS {n:Nat}{k:IntKind}{w:World}{R:Int->World->Prop}{B:(Int->World->Prop)->Prop}(f:Int)(hB:B (λb w'=>w'=w/\b=f))(h:R f w):
   ∃J:FP [.one (.int k)],B J/\∀b:Int,aL n (∀wj:World,J b wj->R b wj):=by
 refine⟨λb w'=>w'=w/\b=f,hB,λb=>aL.of ?_ _⟩
 rintro wj ⟨rfl,rfl⟩;exact h
theorem IW {n:Nat}{w:World}{R:World->Prop}{B:(World->Prop)->Prop}(Q:Prop)(hB:B (λw'=>w'=w/\Q))(h:Q->R w):
   ∃J:FP [],B J/\aL n (∀wj:World,J wj->R wj):=by
 refine⟨λw'=>w'=w/\Q,hB,aL.of ?_ _⟩
 rintro wj ⟨rfl,hq⟩;exact h hq
theorem mJ {n:Nat}{R:World->Prop}{B:(World->Prop)->Prop}(Q:World->Prop)(hB:B Q)(h:∀w,Q w->R w):
   ∃J:FP [],B J/\aL n (∀wj:World,J wj->R wj):=⟨Q,hB,aL.of h _⟩
theorem JQ {n:Nat}{R:Bool->World->Prop}{B:(Bool->World->Prop)->Prop}(Q:Bool->World->Prop)(hB:B Q)(h:∀b w,Q b w->R b w):
   ∃J:FP [.one (.bool)],B J/\∀b:Bool,aL n (∀wj:World,J b wj->R b wj):=⟨Q,hB,λb=>aL.of (h b) _⟩
theorem FN {α:Type}{T:Ty α}(hfl:AM T){P:Program}{st t ty:TypeId}{bytes:Nat}{z:Value}(hu:P.underlying st=some (.slice t))(tf:TF P t T.k bytes z)(hb0:0<bytes)
   {w0 w w1:World} {a:Option Addr} {n c:Nat} {xs:List α} (ho:Ow T t w NoB a n c xs) (hf:br w0.heap.size a) (hb:bW w0 w) {k1:Nat} {vs:List Value} {x:α} (hk:k1=w.heap.size)
   (hw:w1=w.alloc (.cells vs.toArray t)) (hx:T.rep w NoB vs x) {cm:Nat} (hbound:(xs.length+1)*bytes <=140737488355328):
   ∃(w2:World) (a':Option Addr) (n' c':Nat),(Builtin.append_ #[st,st] ty #[.slice a n c,.slice (some ⟨k1,0,none⟩) 1 cm]).run P w1=.ok (.slice a' n' c') w2/\Ow T t w2 NoB a' n' c' (xs++[x])/\br w0.heap.size a'/\bW w0 w2:=by
 have hB1:bW w w1:=hw▸af w _
 have ho3:=ho.below hB1
 have hsrc:Src T w1 NoB (some ⟨k1,0,none⟩) 1 [x]:=Src.new1F hfl hk hw hx
 obtain⟨w4,a4,n4,c4,hr,ho4,hgr,hfr⟩:=cr (ty:=ty) hu tf hb0 ho3 (λ_ _ h=>h) (cm:=cm) hsrc (by simpa using hbound)
 have hB:=ab hb hB1 hb.size
 exact⟨w4,a4,n4,c4,hr,ho4,hf.app hB.size hfr,hB.grown hgr hB.size hf⟩
theorem uO {P:Program}{f:FuncId}{args:Array Value}{w u:World}{v:Value}(h:Calls P f args u (Ret λv' w'=>v'=v/\bW u w'))(hu:bW w u):
   Calls P f args u λe w'=>e=.returned v/\Below w.heap.size u w':=by
 refine h.mono ?_
 rintro _ w' ⟨_,rfl,rfl,hb⟩
 exact⟨rfl,hb.mono hu.size⟩
theorem Kr {a b:Nat}(h:a+b <=9223372036854775807):((a+b:Nat):Int) <=i64.max:=by simp[IntKind.max,IntKind.bits];omega
theorem Ga {P:Program}{name:String}{k:IntKind}{zs:List Int}{w w':World}(h:Lib.TabIs P w name k zs)(hb:∀b,b<w.heap.size->w'.heap[b]? =w.heap[b]?):Lib.TabIs P w' name k zs:=by
 unfold Lib.TabIs World.var? at h ⊢
 cases hg:P.globalNamed name with
 | none=>rw[hg]at h;cases h
 | some g=>
   rw[hg]at h
   simp only[Option.bind_some]at h ⊢
   have hlt:g<w.heap.size:=by
     cases hh:w.heap[g]? with
     | none=>rw[hh]at h;cases h
     | some o=>exact(Array.getElem?_eq_some_iff.1 hh).1
   rw[hb g hlt];exact h
structure Env (w:World):Prop where
 tab:Lib.TabIs prog w "internal/strconv.uint64pow10" .u64 Lib.pow10Tab
 max:∃m:Int,w.cell? ⟨0,0,none⟩=some (vI m)
 tz:w.cell? ⟨5,15,none⟩=some (.int .u8 4)
theorem EI {w:World}{b o:Nat}{v:Value}(h:w.cell? ⟨b,o,none⟩=some v):b<w.heap.size:=by
 cases hh:w.heap[b]? with
 | none=>simp[World.cell?,hh]at h
 | some x=>exact(Array.getElem?_eq_some_iff.1 hh).1
theorem Env.same {w w':World}(h:Env w)(hb:∀b,b<w.heap.size->w'.heap[b]? =w.heap[b]?):Env w':=by
 obtain⟨m,hm⟩:=h.max
 exact⟨Ga h.tab hb,⟨m,by rw[iW (hb _ (EI hm))];exact hm⟩,by rw[iW (hb _ (EI h.tz))];exact h.tz⟩
theorem Env.step {w w':World}(h:Env w)(hb:bW w w'):Env w':=h.same λb hlt=>hb.block b hlt
theorem Env.grown {w0 w w':World}{row:Option Nat}(h0:Env w0)(h:Env w)(hg:w.grownBy w' row)(hr:∀x,row=some x->w0.heap.size <=x)(hb:bW w0 w):Env w':=
 h0.step (hb.grown hg hb.size hr)
def fV (c:UInt8):List UInt8->List UInt8->List (List UInt8)
 | cur,[]=>[cur]
 | cur,x::r=>if x=c then cur::fV c [] r else fV c (cur++[x]) r
theorem ya (c:UInt8):∀(a cur r:List UInt8),(∀x∈a,x≠c)->fV c cur (a++c::r)=(cur++a)::fV c [] r
 | [],cur,r,_=>by
   show(if c=c then _ else _)=_
   rw[if_pos rfl,List.append_nil]
 | x::a,cur,r,ha=>by
   show(if x=c then _ else _)=_
   rw[if_neg (ha x List.mem_cons_self)]
   exact(ya c a (cur++[x]) r λy hy=>ha y (List.mem_cons_of_mem _ hy)).trans (by simp)
theorem tW (c:UInt8):∀(a cur:List UInt8),(∀x∈a,x≠c)->fV c cur a=[cur++a]
 | [],cur,_=>by simp[fV]
 | x::a,cur,ha=>by
   show(if x=c then _ else _)=_
   rw[if_neg (ha x List.mem_cons_self)]
   exact(tW c a (cur++[x]) λy hy=>ha y (List.mem_cons_of_mem _ hy)).trans (by simp)
theorem tX (c:UInt8):∀(s cur:List UInt8),fV c cur s≠[]
 | [],cur=>by simp[fV]
 | x::s,cur=>by
   show(if x=c then _ else _)≠_
   split
   · simp
   · exact tX c s _
theorem qa (c:UInt8):∀(s cur x:List UInt8),x∈fV c cur s->x.length <=cur.length+s.length
 | [],cur,x,h=>by simp[fV]at h;subst h;simp
 | y::r,cur,x,h=>by
   unfold fV at h
   split at h
   · rcases List.mem_cons.1 h with rfl|h
     · simp
     · have:=qa c r [] x h;simp at this ⊢;omega
   · have:=qa c r _ x h;simp at this ⊢;omega
theorem jE (c:UInt8):∀(s cur:List UInt8),(fV c cur s).length <=s.length+1
 | [],cur=>by simp[fV]
 | y::r,cur=>by
   unfold fV
   split
   · have:=jE c r [];simp;omega
   · have:=jE c r (cur++[y]);simp;omega
theorem px (c:UInt8):∀(s cur r:List UInt8),fV c cur (s++c::r)=fV c cur s++fV c [] r
 | [],cur,r=>by
   show(if c=c then _ else _)=_
   rw[if_pos rfl];rfl
 | x::s,cur,r=>by
   show(if x=c then cur::fV c [] (s++c::r)else fV c (cur++[x]) (s++c::r))=(if x=c then cur::fV c [] s else fV c (cur++[x]) s)++fV c [] r
   split
   · rw[px c s];rfl
   · rw[px c s]
theorem DB (s:List UInt8)(c:UInt8):(Lib.index s [c]= -1/\∀x∈s,x≠c)\/∃i:Nat,Lib.index s [c]=(i:Int)/\∃h:i<s.length,s=s.take i++c::s.drop (i+1)/\∀x∈s.take i,x≠c:=by
 induction s with
 | nil=>exact .inl ⟨rfl,λx h=>by cases h⟩
 | cons b l ih=>
   by_cases h:b=c
   · subst h
     refine .inr ⟨0,by rw[Lib.index];simp[List.isPrefixOf],by simp,rfl,λx h=>by simp at h⟩
   · have hp:([c]:List UInt8).isPrefixOf (b::l)=false:=by simp[List.isPrefixOf,Ne.symm h]
     have hix:Lib.index (b::l) [c]=if Lib.index l [c]== -1 then -1 else Lib.index l [c]+1:=by rw[Lib.index,hp];simp
     rcases ih with⟨h1,h2⟩|⟨i,h1,h2,h3,h4⟩
     · refine .inl ⟨by rw[hix,h1];rfl,λx hx=>?_⟩
       rcases List.mem_cons.1 hx with rfl|hx
       · exact h
       · exact h2 x hx
     · refine .inr ⟨i+1,?_,by simpa using h2,?_,λx hx=>?_⟩
       · rw[hix,h1,if_neg (by rw[beq_iff_eq];omega)];omega
       · simp only[List.take_succ_cons,List.drop_succ_cons,List.cons_append]
         rw[<- h3]
       · rw[List.take_succ_cons]at hx
         rcases List.mem_cons.1 hx with rfl|hx
         · exact h
         · exact h4 x hx
theorem vl (c:UInt8):∀(n:Nat) (s:List UInt8),s.length <=n->Lib.splitK [c] 0 (Lib.count s [c]) s=fV c [] s
 | n,s,hn=>by
   rcases DB s c with⟨h1,h2⟩|⟨i,h1,h2,h3,h4⟩
   · rw[Lib.count_miss h1,tW c s [] h2];rfl
   · have hc:=Lib.count_hit (s:=s) (sub:=[c]) (by simp) h1
     cases n with
     | zero=>omega
     | succ n=>
       have ih:=vl c n (s.drop (i+1)) (by rw[List.length_drop];omega)
       rw[hc,Nat.add_comm 1]
       unfold Lib.splitK
       rw[if_neg (by rw[h1,beq_iff_eq];omega),h1]
       simp only[Int.toNat_natCast,Nat.add_zero,List.length_cons,List.length_nil,Nat.zero_add]
       rw[ih]
       conv=>rhs;rw[h3,ya c _ _ _ h4]
       simp
theorem vm (s:List UInt8)(c:UInt8):(Lib.splitB (mkS [c]) 0 (Lib.countB (mkS s) (mkS [c])) (mkS s)).map Value.string=(fV c [] s).map λx=>vS x:=by
 have h:=Lib.splitB_data (mkS [c]) 0 (Lib.countB (mkS s) (mkS [c])) (mkS s)
 have h2:Lib.splitK (mkS [c]).data.toList 0 (Lib.countB (mkS s) (mkS [c])) (mkS s).data.toList=fV c [] s:=vl c _ s (Nat.le_refl _)
 rw[h2]at h
 rw[<- h,List.map_map]
 rfl
theorem BO (s:List UInt8)(c:UInt8):Lib.countB (mkS s) (mkS [c])+1=(fV c [] s).length:=by
 have h:=vm s c
 have h2:=congrArg List.length h
 rw[List.length_map,List.length_map,Lib.splitB_all (mkS [c]) (Nat.le_refl 1) 0 _ _ rfl]at h2
 exact h2
def KX (y:Int):Bool:=(decide (Int.tmod y 4=0)&&decide (Int.tmod y 100≠0)) || decide (Int.tmod y 400=0)
def Lo (y m:Int):Int:=if m=2 then(if KX y then 29 else 28)else if m=4\/m=6\/m=9\/m=11 then 30 else 31
def Ft (y m d:Int):Prop:=1601 <=y/\y <=9999/\1 <=m/\m <=12/\1 <=d/\d <=Lo y m
instance  (y m d:Int):Decidable (Ft y m d):=by unfold Ft;infer_instance
def sN (k:Nat):Nat:=if k=400 then 146097 else 365*k+k/4-k/100
def CL (c:UInt8):UInt8:=if 65 <=c/\c <=90 then c+32 else c
def lg (s:List UInt8):List UInt8:=s.map CL
theorem Hl:∀n,n<256->((CL (UInt8.ofNat n)).toNat:Int)=if 65 <=(n:Int)/\(n:Int) <=90 then(n:Int)+32 else(n:Int):=by decide+kernel
theorem Hm (c:UInt8):((CL c).toNat:Int)=if 65 <=(c.toNat:Int)/\(c.toNat:Int) <=90 then(c.toNat:Int)+32 else(c.toNat:Int):=by
 have:=Hl c.toNat (by have:=c.toNat_lt;omega)
 rwa [UInt8.ofNat_toNat]at this
theorem oN (s:List UInt8)(hs:s.length <=9223372036854775800)(w:World):Cf jv #[vS s] w (Ret λv w'=>v=vS (lg s)/\bW w w'):=by
 apply uZ
 obtain⟨w1,a,n,c,hr,ho,hb,hf⟩:=pX bC cj cI w s (by omega) NoB
 have hn:=ho.len
 subst hn
 refine⟨w1,a,_,c,hr,?_⟩
 refine⟨λm i w'=>∃k:Nat,k <=s.length/\i=(k:Int)/\m=s.length-k/\Ow tU8 aW w' NoB a s.length c (lg (s.take k)++s.drop k)/\w1.grownBy w' (bi a),
   ⟨_,0,by omega,rfl,rfl,by simpa[lg]using ho,⟨rfl,rfl,rfl,Nat.le_refl _,λ_ _ _=>rfl⟩⟩,?_⟩
 intro m i
 refine aL.of ?_ _
 rintro w' ⟨k,hk,rfl,rfl,ho',hg⟩
 have hll:(lg (s.take k)++s.drop k).length=s.length:=by simp[lg];omega
 refine ah.of (λh=>?_) (λh=>?_) <;> simp at h
 · have hlk:(lg (s.take k)).length=k:=by simp[lg];omega
   have hsl:=ho'.all
   obtain⟨v,hv,hrep⟩:=hsl.load1 (i:=(k:Int)) cI rfl rfl (by rw[hll];simpa using h)
   have:=vB hrep
   subst this
   have eg:(lg (s.take k)++s.drop k)[(k:Int).toNat]'(by rw[hll];simpa using h)=s[k]:=by
     simp only[Int.toNat_natCast]
     rw[List.getElem_append_right (by rw[hlk];exact Nat.le_refl _)]
     simp[hlk]
   rw[eg]at hv
   have hin:(0 <=(k:Int)/\(k:Int)<((s.length:Nat):Int))/\Option.isSome a=true:=⟨⟨by omega,by omega⟩,hsl.isSome (i:=k) (by rw[hll];exact h)⟩
   have hlt:=za s[k]
   have hlow:=Hm s[k]
   have e1:i64.wrap ((k:Int)+1)=((k+1:Nat):Int):=by rw[ar (by omega) (by omega)];omega
   try dsimp only
   rw[e1]
   have hstep:∀x,(lg (s.take k)++s.drop k).set k x=lg (s.take k)++x::s.drop (k+1):=λx=>by
     rw[List.set_append_right _ _ (by rw[hlk];exact Nat.le_refl _),hlk,Nat.sub_self,List.drop_eq_getElem_cons h];rfl
   have hnext:lg (s.take (k+1))++s.drop (k+1)=lg (s.take k)++CL s[k]::s.drop (k+1):=by
     unfold lg;rw[List.take_succ_eq_append_getElem h,List.map_append,List.append_assoc];rfl
   refine⟨hin,_,hv,λb w''=>w''=w'/\b=decide (65 <=(s[k].toNat:Int)/\(s[k].toNat:Int) <=90),?_,?_⟩
   · refine ah.of (λh2=>?_) (λh2=>?_) <;> simp only[ge_iff_le,dTx,dFx]at h2
     · exact⟨rfl,by simp[h2]⟩
     · exact⟨rfl,by simp[h2]⟩
   · intro b
     refine aL.of ?_ _
     rintro w' ⟨rfl,rfl⟩
     refine ah.of (λh2=>?_) (λh2=>?_) <;> simp only[dTx,dFx]at h2
     · rw[if_pos h2]at hlow
       rw[sf (n:=(s[k].toNat:Int)-65) (by omega) (by omega),sf (by omega) (by omega)]
       obtain⟨w4,hs4,ho4,hg4⟩:=ho'.store (P:=prog) (bytes:=1) (z:=.int .u8 0) iT (λ_ _ h=>h) (i:=(k:Int)) (by rw[hll];simpa using h) (k:=1) rfl (v:=.int .u8 ((s[k].toNat:Int)-65+97)) (x:=CL s[k]) (uQ (by rw[hlow];omega))
       simp only[Int.toNat_natCast]at ho4
       rw[hstep,<- hnext]at ho4
       exact⟨hin,w4,hs4,s.length-(k+1),by omega,k+1,by omega,rfl,rfl,ho4,⟨hg4.os.trans hg.os,hg4.tape.trans hg.tape,hg4.output.trans hg.output,Nat.le_trans hg.size hg4.size,λq hq hne=>(hg4.block q (Nat.lt_of_lt_of_le hq hg.size) hne).trans (hg.block q hq hne)⟩⟩
     · rw[if_neg h2]at hlow
       have hc:CL s[k]=s[k]:=Gd hlow
       refine⟨s.length-(k+1),by omega,k+1,by omega,rfl,rfl,?_,hg⟩
       rw[hnext,hc,<- List.drop_eq_getElem_cons h];exact ho'
 · have:k=s.length:=by omega
   subst this
   have e2:lg (s.take s.length)++s.drop s.length=lg s:=by simp
   rw[e2]at ho'
   exact⟨_,rZ cj bC cI ho'.all,rfl,hb.grown hg hb.size hf⟩
end Go.Pk
