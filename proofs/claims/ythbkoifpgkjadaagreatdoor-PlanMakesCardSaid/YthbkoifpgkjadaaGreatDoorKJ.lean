/- What the laws lean on: MapI, Row, SufA, SufC, V51, RulFA, V58, V58b, PlnA, WrdD, V61, RfA; what is used. Its conditions: none. -/
import Derived.Test.YthbkoifpgkjadaaGreatDoorKI
set_option linter.unusedVariables false
set_option linter.unusedSimpArgs false
set_option linter.unusedSectionVars false
set_option maxRecDepth 100000
open List (append_nil getElem_mem length length_append length_cons length_map length_nil length_singleton map_append map_cons map_nil mem_cons_of_mem mem_cons_self mem_singleton nil_append take_length take_of_length_le take_succ_eq_append_getElem)
open Option (map_some)
open Go.World (drew)
variable {i j k:Nat}{w:Go.World}{t:Go.TypeId}{p q:Option Go.Addr}{A B:Go.Pk.Bl}{o:Type}{R:List Go.Pk.Rul}
open Go.IntKind (i64)
open Go.Proofs.Tryz
open List (length)
open Option (isSome)
namespace Go.Pk
open Go.RowKit (Below)
open Go.Proofs
section
variable {α β:Type} [DecidableEq α] {ek:α->Value} {ev:β->Value}
def EL (ek:α->Value)(ev:β->Value)(w:World)(r:Nat)(kvs:List (α×β))(k:α)(st:Nat):Prop:=
 ∃es clock i,w.heap[r]? =some (.map es clock)/\(es.toList.map (·.born)).Nodup/\(∀e∈es.toList,e.born<clock)/\es.findIdx? (λe=>(e.born:Int)==(st:Int))=some i/\∀v,KVg ek ev (es.modify i λe=> { e with val:=ev v }).toList (upG k v kvs)
theorem EL.keep {w w':World}{r:Nat}{y:List (α×β)}{k:α}{st:Nat}(h:EL ek ev w r y k st)(E:w'.heap[r]? =w.heap[r]?):EL ek ev w' r y k st:=by
 obtain⟨D,c,i,F,G⟩:=h;exact⟨D,c,i,E.trans F,G⟩
theorem Iy {y:Array MapEntry}(F:(y.toList.map (·.born)).Nodup)(D:i<y.size):y.findIdx? (λe=>(e.born:Int)==((y[i].born:Nat):Int))=some i:=by
 rw[Array.findIdx?_eq_some_iff_getElem];refine⟨D,by simp,λj E=>?_⟩;have hp:=List.pairwise_iff_getElem.1 F j i (by simp;omega) (by simpa using D) E;simp only[List.getElem_map,Array.getElem_toList]at hp;rw[beq_iff_eq];omega
theorem BD (f:o->o):∀(l:List o) (x:o),(l++[x]).modify l.length f=l++[f x]
 |[],_=>rfl
 |a::l,x=>by
  show a::((l++[x]).modify l.length f)=_;rw[BD f l x];rfl
theorem BE (f:o->o):∀(l:List o) (i:Nat),(∀x,l[i]? =some x->f x=x)->l.modify i f=l
 |[],i,_=>by cases i<;>rfl
 |a::l,0,h=>by
  show f a::l=_;rw[h a rfl]
 |a::l,i+1,h=>by
  show a::l.modify i f=_;rw[BE f l i λx y=>h x (by simpa using y)]
theorem zj.entry {P:Program}{mt ac Y:TypeId}{n bytes:Nat}{z:Value}(aa:P.underlying mt=some (.map ac Y))(M:Dd P ac ek)(bk:∀k,Instr.sameBits 10000 (ek k) (ek k)=true)(D:TF P Y n bytes z){r:Nat}{kvs:List (α×β)}(h:zj ek ev w r kvs)(k:α)(ad:β)(V:ev ad=z):
 ∃(w':World) (st:Nat),(Instr.mapEntry mt (.map (some r)) (ek k)).run P w=.ok (.tuple #[((mM k kvs).map ev).getD z,goInt (st:Int)]) w'/\EL ek ev w' r kvs k st/\w.grownBy w' (some r)/\∀R,z=ev R->xz ek ev w' r (upG k ((mM k kvs).getD R) kvs):=by
 obtain⟨y,c,H,E,U,J⟩:=h;obtain⟨bs,a8,_,_,bl⟩:=D.info;have O:r<w.heap.size:=(Array.getElem?_eq_some_iff.1 H).1;unfold Instr.mapEntry;rw[<- uM k kvs 0];cases G:kY k kvs 0 with
 |none=>
  refine⟨_,c,?_,⟨y.push { key:=ek k,val:=z,born:=c },c+1,y.size,?_,?_,?_,?_,?_⟩,Bh (.map (y.push { key:=ek k,val:=z,born:=c }) (c+1)),λR V=>⟨_,_,(by simp[O]:_=some (Obj.map (y.push { key:=ek k,val:=z,born:=c }) (c+1))),?_⟩⟩
  ·simp only[Sem.run_bind,bT aa,Result.andThen_ok,xM H,M.check,M.find ev k _ _ _ E,G,Option.map_none,zeroValue,kj a8,bl,yq H,Sem.run_pure,Option.getD_none]
  ·simp[O]
  ·rw[Array.toList_push,map_append,List.nodup_append];refine⟨U,by simp,λa an b av=>?_⟩;obtain⟨e,D,rfl⟩:=List.mem_map.1 an;simp only[map_cons,map_nil,mem_singleton]at av;have:=J e D;omega
  ·intro e D;rw[Array.toList_push]at D;rcases List.mem_append.1 D with D|D
   ·have:=J e D;omega
   ·rw[List.mem_singleton.1 D];exact Nat.lt_succ_self _
  ·rw[Array.findIdx?_eq_some_iff_getElem];refine⟨by simp,by simp,λj a9=>?_⟩;rw[Array.getElem_push_lt a9];have:=J y[j] (by simp);simp;omega
  ·intro v;unfold upG;rw[G,Array.toList_modify,Array.toList_push];unfold KVg at E ⊢;rw[<- Array.length_toList,BD];simp only[map_append,map_cons,map_nil,E]
  ·subst V;unfold upG KVg at*;rw[G,Array.toList_push];simp only[map_append,map_cons,map_nil,E,Option.map_none,Option.getD_none]
 |some p=>
  obtain⟨i,v'⟩:=p;obtain⟨_,F⟩:=Bw k kvs 0 i v' G;rw[Nat.sub_zero]at F;have bb:=UN E;have I:i<y.size:=by have:=(List.getElem?_eq_some_iff.1 F).1;rw[Array.length_toList]at bb;omega
  have Z:y[i].key=ek k:=by
   have:=congrArg (λl=>l[i]?) E;simp only[List.getElem?_map,F,Array.getElem?_toList,Array.getElem?_eq_getElem I]at this;exact congrArg Prod.fst (Option.some.inj this)
  refine⟨_,y[i].born,?_,⟨y.modify i (λe=> { e with key:=ek k }),c,i,?_,?_,?_,?_,?_⟩,Bh (.map (y.modify i λe=> { e with key:=ek k }) c),λR V=>⟨_,_,(by simp[O]:_=some (Obj.map (y.modify i λe=> { e with key:=ek k }) c)),?_⟩⟩
  ·simp only[Sem.run_bind,bT aa,Result.andThen_ok,xM H,M.check,M.find ev k _ _ _ E,G,map_some,Array.getElem?_eq_getElem I,Option.getD_some,Z,stays (bk k),yq H,Sem.run_pure]
  ·simp[O]
  ·rw[Array.toList_modify,lW y.toList i (λe=> { e with key:=ek k }) (λe=>rfl)];exact U
  ·rw[Array.toList_modify];exact N0 J (lW y.toList i (λe=> { e with key:=ek k }) (λe=>rfl))
  ·have be:((y.modify i (λe=> { e with key:=ek k })).toList.map (·.born)).Nodup:=by
    rw[Array.toList_modify,lW y.toList i (λe=> { e with key:=ek k }) (λe=>rfl)];exact U
   have a0:i<(y.modify i (λe=> { e with key:=ek k })).size:=by simpa using I
   have:=Iy be a0;rw[Array.getElem_modify_self]at this;exact this
  ·intro v;unfold upG;rw[G,Array.toList_modify,Array.toList_modify];have h1:=EZ (v:=v') E F (λe=> { e with key:=ek k,val:=ev v' }) λe _=>⟨rfl,rfl⟩
   have ag:(y.toList.modify i λe=> { e with key:=ek k }).modify i (λe=> { e with val:=ev v })=y.toList.modify i λe=> { e with key:=ek k,val:=ev v } :=by
    rw[List.modify_modify_eq];rfl
   rw[ag];exact EZ E F _ λe _=>⟨rfl,rfl⟩
  ·unfold upG;rw[G,Array.toList_modify];have bq:y[i].val=ev v':=by
    have:=congrArg (λl=>l[i]?) E;simp only[List.getElem?_map,F,Array.getElem?_toList,Array.getElem?_eq_getElem I]at this;exact congrArg Prod.snd (Option.some.inj this)
   have af:y.toList.modify i (λe=> { e with key:=ek k })=y.toList:=by
    refine BE _ _ _ λe D=>?_;rw[Array.getElem?_toList,Array.getElem?_eq_getElem I]at D;cases D;rw[<- Z]
   have aj:kvs.set i (k,v')=kvs:=by
    obtain⟨bp,e⟩:=List.getElem?_eq_some_iff.1 F;rw[<- e,List.set_getElem_self]
   rw[af];simp only[map_some,Option.getD_some];rw[aj];exact E
theorem EL.store {P:Program}{mt:TypeId}{r:Nat}{E:List (α×β)}{k:α}{st:Nat}(h:EL ek ev w r E k st)(v:β):
 ∃w',(Instr.entryStore mt (.map (some r)) (goInt st) (ev v)).run P w=.ok () w'/\zj ek ev w' r (upG k v E)/\w.grownBy w' (some r):=by
 obtain⟨y,c,i,D,J,F,G,H⟩:=h;have I:r<w.heap.size:=(Array.getElem?_eq_some_iff.1 D).1;refine⟨_,?_,⟨y.modify i (λe=> { e with val:=ev v }),c,?_,H v,?_,?_⟩,Bh (.map (y.modify i λe=> { e with val:=ev v }) c)⟩
 ·unfold Instr.entryStore;simp only[Sem.run_bind,xM D,Result.andThen_ok,goInt,asInt,mv,Sem.run_pure,G,yq D]
 ·simp[I]
 ·rw[Array.toList_modify,lW y.toList i (λe=> { e with val:=ev v }) (λe=>rfl)];exact J
 ·rw[Array.toList_modify];exact N0 F (lW y.toList i (λe=> { e with val:=ev v }) (λe=>rfl))
theorem LH (k:α)(v:β):∀(l:List (α×β)) (i j:Nat) (v':β),kY k l i=some (j,v')->mM k (l.set (j-i) (k,v))=some v
 |[],i,j,v',h=>by cases h
 |(k',x)::l,i,j,v',h=>by
  unfold kY at h;split at h
  ·cases h;rw[Nat.sub_self];exact if_pos rfl
  ·rename_i y;have h1:=(Bw k l (i+1) j v' h).1;rw[show j-i=(j-(i+1))+1 by omega];show(if k=k' then some x else mM k (l.set (j-(i+1)) (k,v)))=_;rw[if_neg y];exact LH k v l (i+1) j v' h
theorem LG (k:α)(v:β)(y:List (α×β)):mM k (upG k v y)=some v:=by
 unfold upG;split
 ·rename_i i v' h;have:=LH k v y 0 i v' h
  rwa [Nat.sub_zero]at this
 ·rename_i h;have e:mM k y=none:=by rw[<- uM k y 0,h];rfl
  rw[vO,e,if_pos rfl];rfl
end
theorem YM (g i k j:Nat):aw (aw (some ⟨g,0,none⟩) (i:Int) k) (j:Int) 1=some ⟨g,i*k+j,none⟩:=by
 rw[uv,uv];simp
theorem R6 (l:List o)(p k j:Nat)(v:o)(J:j<k)(M:p+k <=l.length):l.take (p+j)++[v]++l.drop (p+j+1)=l.take p++(((l.drop p).take k).set j v)++l.drop (p+k):=by
 have F:l=l.take p++((l.drop p).take k++l.drop (p+k)):=by
  rw[<- List.drop_drop,List.take_append_drop,List.take_append_drop]
 generalize y:l.take p=A at*;generalize D:(l.drop p).take k=B at*;generalize G:l.drop (p+k)=C at*;have E:A.length=p:=by rw[<- y];simp;omega
 have O:B.length=k:=by rw[<- D];simp;omega
 clear y D G;subst F;have H:(A++(B++C)).take (p+j)=A++B.take j:=by
  rw[List.take_append,take_of_length_le (by omega),E,show p+j-p=j by omega,List.take_append_of_le_length (by omega)]
 have I:(A++(B++C)).drop (p+j+1)=B.drop (j+1)++C:=by
  rw[List.drop_append,List.drop_of_length_le (by omega),nil_append,E,show p+j+1-p=j+1 by omega,List.drop_append_of_le_length (by omega)]
 rw[H,I,List.set_eq_take_append_cons_drop,if_pos (by omega)];simp
theorem Ow.store1 {I:Type}{T:Ty I}{P:Program}{t u:TypeId}{bytes:Nat}{z:Value}(bp:TF P u 1 bytes z){a:Option Addr}{n c:Nat}{xs:List I}(a8:Ow T t w A a n c xs)(ad:∀g,fm a=some g-> ¬ A g)
 (av:T.k=k) (F:i<xs.length) (aj:j<k) {v:Value} (h1:v.oneCell'=true) (G:v.cells= #[v]) {x:I} (bk:∀vs,T.rep w A vs xs[i]->T.rep w A (vs.set j v) x):
 ∃w',(Instr.storeAt u (.pointer (aw (aw a (i:Int) k) (j:Int) 1)) v).run P w=.ok () w'/\Ow T t w' A a n c (xs.set i x)/\w.grownBy w' (fm a):=by
 subst av;obtain⟨bs,be,Y,_,_⟩:=bp.info;obtain⟨a0,R,af,a9⟩:=a8;rcases a9 with⟨_,_,rfl⟩|⟨g,cur,fr,rfl,O,M,ag,U⟩
 ·cases F
 ·subst a0;have J:i*T.k+T.k <=xs.length*T.k:=by
   have:=Nat.mul_le_mul_right T.k (show i+1 <=xs.length from F)
   rwa [Nat.add_mul,Nat.one_mul]at this
  have bq:xs.length*T.k <=cur.size:=by rw[ag];exact Nat.mul_le_mul_right _ R
  have y:=U.rep i F;have Z:=bk _ y;have H:=T.len Z;rw[YM];have V:=run_storeVar_row (P:=P) be (o:=i*T.k+j) O M (v:=v) (by rw[G,Y];rfl) (by rw[Y];omega) (λx y=>by rw[G]at y;simp at y;rw[y];exact h1);have bb:(cur.toList.take (i*T.k+j)++v.cells.toList++cur.toList.drop (i*T.k+j+v.cells.size))=cur.toList.take (i*T.k)++(((cur.toList.take (xs.length*T.k)).drop (i*T.k)).take T.k).set j v++cur.toList.drop (i*T.k+T.k):=by
   rw[G];have e:=R6 cur.toList (i*T.k) T.k j v aj (by simp;omega);have E:((cur.toList.take (xs.length*T.k)).drop (i*T.k)).take T.k=(cur.toList.drop (i*T.k)).take T.k:=by
    rw[List.drop_take,List.take_take];congr 1;omega
   rw[E];exact e
  rw[bb]at V;generalize (((cur.toList.take (xs.length*T.k)).drop (i*T.k)).take T.k).set j v=D at*;refine⟨_,V,?_,gg w g _⟩;refine⟨by simp,R,af,.inr ⟨g,_,fr,rfl,setRow_heap w g cur _ t fr O,?_,?_,?_⟩⟩
  ·intro bl an;refine M bl ?_;simp at an;omega
  ·simp;omega
  ·have ac:=(U.set F Z).keep (jf (gg w g (cur.toList.take (i*T.k)++D++cur.toList.drop (i*T.k+T.k)).toArray) λb J e=>ad g rfl (by cases e;exact J));have e:((cur.toList.take (i*T.k)++D++cur.toList.drop (i*T.k+T.k)).toArray).toList.take (xs.length*T.k)=
    (cur.toList.take (xs.length*T.k)).take (i*T.k)++D++(cur.toList.take (xs.length*T.k)).drop (i*T.k+D.length):=by
    simp only[];have aa:(cur.toList.take (xs.length*T.k)).take (i*T.k)=cur.toList.take (i*T.k):=by rw[List.take_take];congr 1;omega
    rw[aa,List.take_append,List.drop_take];have E:(cur.toList.take (i*T.k)++D).length=i*T.k+T.k:=by simp[H];omega
    rw[E,take_of_length_le (by rw[E];omega)];congr 2
    ·rw[H]
    ·rw[H]
   rw[e];exact ac
def ekE (e:xB):Value:=.agg #[vI e.1,vS e.2]
def evI (n:Int):Value:=vI n
def tB4:Ty (List Bool) where
 k:=4
 pos:=by decide
 rep:=λ_ _ vs x=>vs=x.map Value.bool/\x.length=4
 len:=λh=>by rw[h.1,length_map,h.2]
 one:=fun{_ _ _ x} h v hv=>by rw[h.1]at hv;obtain⟨b,_,rfl⟩:=List.mem_map.1 hv;rfl
 keep:=λh _=>h
 mono:=λh _=>h
theorem OM:Flat tB4:=λ_ _ _ _ _ _ h=>h
def wv:Ty Rul where
 k:=2
 pos:=by decide
 rep:=λ_ _ vs r=>vs=rN r
 len:=λh=>by rw[h];rfl
 one:=fun{_ _ _ x} h v hv=>by rw[h]at hv;exact(bz rfl (bz rfl ja):zR (rN x)) v hv
 keep:=λh _=>h
 mono:=λh _=>h
structure xD (w0:World)(t te:TypeId)(kt km:Nat)(a:Option Addr)(n c:Nat)(ps:List Pth)(kvs:List (xB×Int))(es:List (List Bool))(rs:List Rul)(w:World):Prop where
 h1:aB w kt t [.map (some km),.slice a n c]
 h2:xz ekE evI w km kvs
 h3:Ow tB4 te w NoB a n c es
 T:NJ ps kvs
 t:Tab ps es rs
 hb:bW w0 w
 ne:km≠kt
 og:∀g,fm a=some g->g≠kt/\g≠km/\w0.heap.size <=g
 kt0:w0.heap.size <=kt
 km0:w0.heap.size <=km
theorem xD.below {w0:World}{t G:TypeId}{E D:Nat}{a:Option Addr}{n c:Nat}{ps:List Pth}{F:List (xB×Int)}{y:List (List Bool)}{w w':World}(S:xD w0 t G E D a n c ps F y R w)(h:bW w w'):xD w0 t G E D a n c ps F y R w':=
 ⟨S.h1.below h,S.h2.below h,S.h3.below h,S.T,S.t,ae S.hb h S.hb.size,S.ne,S.og,S.kt0,S.km0⟩
theorem vX {T:Ty o}{w w':World}{a:Option Addr}{n c:Nat}{xs:List o}(h:Ow T t w NoB a n c xs){r:Option Nat}(D:w.grownBy w' r)(E:∀g,fm a=some g->r≠some g):Ow T t w' NoB a n c xs:=
 h.keep (jf D λb y e=>by
  rcases y with y|y
  ·exact y
  ·exact E b y.symm e.symm)
theorem BC {y:xB->Value}{D:Int->Value}{w w':World}{r:Nat}{kvs:List (xB×Int)}(h:xz y D w r kvs){k:Option Nat}(E:w.grownBy w' k)(F:k≠some r):xz y D w' r kvs:=h.keep (E.block r h.lt λe=>F e.symm)
structure VZ (w0:World)(t te ts tr:TypeId)(kt km k3:Nat)(rs:List Rul)(r:Rul)(aL:Option Addr)(nL cL:Nat)(L:List lU)(N:Nat)(p:Pth)(node:Nat)(w:World):Prop where
 ex:∃a n c ps kvs es,xD w0 t te kt km a n c ps kvs es rs w/\Gy p ps 0=some node/\ps.length <=N/\(∀g,fm a=some g->g≠k3/\fm aL≠some g)
 hL:Ow tS ts w NoB aL nL cL L
 h3:aB w k3 tr (rN r)
 s1:kt≠k3
 s2:km≠k3
 s3:fm aL≠some kt
 s4:fm aL≠some km
theorem VZ.below {w0:World}{t I ts J:TypeId}{G F E:Nat}{r:Rul}{y:Option Addr}{H D:Nat}{L:List lU}{N:Nat}{p:Pth}{node:Nat}{w w':World}(S:VZ w0 t I ts J G F E R r y H D L N p node w)(h:bW w w'):VZ w0 t I ts J G F E R r y H D L N p node w':=by
 obtain⟨a,n,c,ps,Y,M,h1,O,U,V⟩:=S.ex;exact⟨⟨a,n,c,ps,Y,M,h1.below h,O,U,V⟩,S.hL.below h,S.h3.below h,S.s1,S.s2,S.s3,S.s4⟩
theorem VQ:∃y,prog.underlying cS=some (.struct y):=⟨_,rfl⟩
theorem Aa:Dd prog cS ekE:=by
 obtain⟨E,h⟩:=VQ;refine Dd.struct h (λa b=>?_) (λb k w=>?_)
 ·obtain⟨a1,a2⟩:=a;obtain⟨y,D⟩:=b;have e:eqV prog 10000 cS (ekE (a1,a2)) (ekE (y,D))=some ((a1==y)&&((a2==D)&&true)):=by kernel_rfl
  rw[e];congr 1;rw[Bool.eq_iff_iff];simp
 ·obtain⟨a1,a2⟩:=k;kernel_rfl
theorem Hp:Whl prog cS 2:=⟨⟨_,_,EI⟩,by kernel_rfl⟩
def TU (w0:World)(kt km:Nat)(rs:List Rul)(N:Nat)(v:Value)(w':World):Prop:=
 v=.tuple #[]/\∃a n c ps kvs es,xD w0 cx cy kt km a n c ps kvs es rs w'/\ps.length <=N
theorem Hf {w0:World}(e7:Env w0){I O:Nat}{a:Option Addr}{n c:Nat}{ps:List Pth}{bs:List (xB×Int)}{b0:List (List Bool)}(S:xD w0 cx cy I O a n c ps bs b0 R w)(r:Rul)
 (fa:∃k:Nat,r.1=(k:Int)/\k<4) (fx:r.2.length <=253) {N:Nat} (e1:ps.length <=N) (gb:N <=1000000000):
 Cf jp #[.pointer (some ⟨I,0,none⟩),BR r] w (Ret (TU w0 I O (R++[r]) (N+300))):=by
 obtain⟨gy,F⟩:=r;obtain⟨H,dv,du⟩:=fa;simp only at dv fx;subst dv;apply sX;intro k3 c2 fb d9;have dn:=(d9▸ar w _:bW w c2)
 have b1:aB c2 k3 aC (rN ((H:Int),F)):=aB.new fb d9;have gl:=S.h1.lt;have gm:=S.h2.lt;have b9:=S.below dn;refine⟨rfl,_,b1.load1 aI rfl rfl,?_⟩;refine aK (eH F 46 (by omega) c2 (e7.step b9.hb)) ?_;rintro _ w4 ⟨a0,gx,cc,rfl,d6,ch,dr⟩;have gc:(bE 46 [] F).length <=300:=by have:=dK 46 F [];omega
 have dk:GS ((H:Int),F)=(bE 46 [] F).reverse:=rfl;generalize bE 46 [] F=L at*;have fo:=d6.len;subst fo;refine⟨_,_,_,rfl,?_⟩;have gj:=dn.size;have c9:=b9.below dr;have ed:VZ w0 cx cy ai aC I O k3 R ((H:Int),F) a0 L.length cc L (N+0) [] 0 w4:=by
  refine⟨⟨a,n,c,ps,bs,b0,c9,?_,e1,λg y=>⟨?_,?_⟩⟩,d6,b1.below dr,by omega,by omega,λav=>?_,λav=>?_⟩
  ·exact S.T.first 0 [] S.T.root
  ·have:=S.h3.lt g y;omega
  ·intro av;have:=ch g av;have:=S.h3.lt g y;omega
  ·have:=ch _ av;omega
  ·have:=ch _ av;omega
 have ei:i64.wrap (((L.length:Nat):Int)-1)=((L.length:Nat):Int)-1:=wrJ
 try dsimp only
 rw[ei];clear b9 c9 S;refine⟨λm eb i w'=>∃(k node:Nat),k <=L.length/\i=((L.length:Nat):Int)-1-(k:Int)/\m=L.length-k/\eb=(node:Int)/\VZ w0 cx cy ai aC I O k3 R ((H:Int),F) a0 L.length cc L (N+k) ((GS ((H:Int),F)).take k) node w',⟨_,0,0,by omega,by omega,rfl,rfl,ed⟩,?_⟩;intro m eb i;refine aP.of ?_ _;rintro ga ⟨k,node,gh,rfl,rfl,rfl,V⟩;refine ab.of (λh=>?_) (λh=>?_)<;>simp only[ge_iff_le,dTx,dFx]at h
 ·have fl:k<L.length:=by omega
  have ek:((L.length:Nat):Int)-1-(k:Int)=((L.length-1-k:Nat):Int):=by omega
  rw[ek];refine⟨⟨⟨by omega,by omega⟩,V.hL.all.isSome (by omega)⟩,_,V.hL.all.text aI (by omega),?_⟩;have dm:(GS ((H:Int),F)).take (k+1)=(GS ((H:Int),F)).take k++[L[L.length-1-k]'(by omega)]:=by
   rw[dk,take_succ_eq_append_getElem (by simpa using fl),List.getElem_reverse]
  generalize L[L.length-1-k]'(by omega)=U at*;refine Hp.new (zs:=[vI 0,vS []]) (cs:=[vI (node:Int),vS U]) rfl rfl (bz rfl (bz rfl ja)) ga λk7 b6 ge b2 ds=>?_;have b8:=V.below ds;simp only[NO];obtain⟨a5,bt,c5,ad,b4,an,Z,cp,e2,bp⟩:=b8.ex;have aj:=(we cp).2;rw[Nat.sub_zero]at aj;have ac:=Z.T.edge node U;rw[aj]at ac;simp only at ac;have go:=b2.lt;have gs:=Z.h2.lt;have gu:=Z.h1.lt;have d1:k7≠O/\k7≠I/\k7≠k3:=by
   have:=V.h3.lt;obtain⟨_,_,_,_,_,_,J,_⟩:=V.ex;have:=J.h1.lt;have:=J.h2.lt;omega
  have fp:∀g,fm a5=some g->g≠k7:=λg y=>by
   obtain⟨a6,f7,c6,f8,f4,em,J,_⟩:=V.ex;have dd:=J.h1.below ds;have bw:=Z.h1;unfold aB at dd bw;rw[dd]at bw;simp only[Option.some.injEq,Obj.cells.injEq,and_true,true_and]at bw;have e3:a6=a5:=by
    have:=congrArg (λx:Array Value=>x[1]?) bw;simp at this;exact this.1
   subst e3;have:=J.h3.lt g y;omega
  have gi:∀g,fm a0=some g->g≠k7:=λg y=>by have:=V.hL.lt g y;omega
  have f6:∀u,bW b6 u->(Instr.loadAt cj (.pointer (some ⟨I,0,none⟩))).run prog u=.ok (.map (some O)) u:=λu D=>(Z.h1.below D).load1 cD rfl rfl;have f5:∀u,bW b6 u->(Instr.loadAt cS (.pointer (some ⟨k7,0,none⟩))).run prog u=.ok (.agg #[vI (node:Int),vS U]) u:=λu D=>Hp.load0 (b2.below D) rfl;refine⟨λb7=>∃ag:Nat,VZ w0 cx cy ai aC I O k3 R ((H:Int),F) a0 L.length cc L (N+(k+1)) ((GS ((H:Int),F)).take (k+1)) ag b7/\(∃a n c ps bs b0,xD w0 cx cy I O a n c ps bs b0 R b7/\mM ((node:Int),U) bs=some (ag:Int))/\aB b7 k7 cS [vI (node:Int),vS U],?_,?_⟩
  ·refine⟨rfl,rfl,_,f6,_,_,f5,?_⟩;cases bq:Gy ((GS ((H:Int),F)).take k++[U]) ad 0 with
   |some ag=>
    rw[bq]at ac;refine⟨(ag:Int),true,λu D=>?_,?_⟩
    ·have:=(Z.h2.below D).look2 (P:=prog) cD Aa mE ((node:Int),U);rw[ac]at this;exact this
    intro c8 M;refine ab.no rfl ?_;rw[dm];have af:=b8.below M;exact⟨ag,⟨⟨a5,bt,c5,ad,b4,an,Z.below M,bq,by omega,bp⟩,af.hL,af.h3,af.s1,af.s2,af.s3,af.s4⟩,⟨a5,bt,c5,ad,b4,an,Z.below M,ac⟩,b2.below M⟩
   |none=>
    rw[bq]at ac;have d5:=rI.1 bq;refine⟨0,false,λu D=>?_,?_⟩
    ·have:=(Z.h2.below D).look2 (P:=prog) cD Aa mE ((node:Int),U);rw[ac]at this;exact this
    intro c8 M;have cb:=Z.below M;have af:=b8.below M;have df:=b2.below M;refine ab.yes rfl ⟨rfl,rfl,_,λu D=>(cb.h1.below D).load1 cD rfl rfl,_,_,λu D=>Hp.load0 (df.below D) rfl,rfl,rfl,_,_,_,λu D=>(cb.h1.below D).load1 jA rfl rfl,?_⟩;intro wr cv;have E:=cb.below cv;have Y:=af.below cv;have es:=df.below cv;have d4:=E.h3.len;have gd:=E.t.len;obtain⟨c3,f0,d2,bb⟩:=E.h2.put (P:=prog) cD Aa (k:=((node:Int),U)) ac ((bt:Int));refine⟨c3,f0,?_⟩;have cd:=E.h1.grown bb (fM E.ne.symm);have eq:=vX E.h3 bb λg y e=>(E.og g y).2.1 (Option.some.inj e).symm;have dj:=vX Y.hL bb λg y e=>Y.s4 (by rw[y,<- e]);have dl:=Y.h3.grown bb (fM Y.s2.symm);have et:=es.grown bb (fM d1.1);have dg:=Below.put E.hb bb E.km0;refine⟨rfl,rfl,_,_,_,cd.load1 jA rfl rfl,?_⟩;intro f3 c4 fd ea;have aa:=(ea▸ar c3 _:bW c3 c4)
    have cf:=ae dg aa dg.size;have f2:Src tB4 c4 NoB (some ⟨f3,0,none⟩) 1 [[false,false,false,false]]:=Src.new1F OM fd ea ⟨rfl,rfl⟩;obtain⟨wc,a8,bu,bl,fy,er,be,e9⟩:=ff (P:=prog) (ty:=cO) jA Jm (by decide) (eq.below aa) (λ_ _ h=>h) (cm:=1) f2 (by simp;omega);refine⟨wc,a8,bu,bl,fy,rfl,rfl,?_⟩;have gr:=cd.lt;have gt:=d2.lt;have gz:=aa.size;have b5:∀x,(∀g,fm a5=some g->g≠x)->some x≠fm a5:=λx h e=>h x e.symm rfl;have en:=(cd.below aa).grown be (b5 I λg y=>(E.og g y).1);have d3:=BC (d2.below aa) be (b5 O λg y=>(E.og g y).2.1).symm;have e0:=vX (dj.below aa) be λg y e=>(bp g e).2 y;have e4:=(dl.below aa).grown be (b5 k3 λg y=>(bp g y).1);have eu:=(et.below aa).grown be (b5 k7 fp);have ew:bW w0 wc:=cf.grown be cf.size λx e=>(E.og x e).2.2;obtain⟨wd,f1,eo,bk⟩:=en.put (P:=prog) CJ (i:=1) (v:=.slice a8 bu bl) (show 1<2 by decide) rfl rfl;refine⟨wd,f1,?_⟩;have a9:∀g,fm a8=some g->g≠I/\g≠O/\w0.heap.size <=g/\g≠k3/\fm a0≠some g:=λg y=>by
     rcases e9 g y with e|e
     ·have:=E.og g e;have de:=bp g e;exact⟨this.1,this.2.1,this.2.2,de.1,de.2⟩
     ·have:=cf.size;have:=(dl.below aa).lt;have b1:∀x,fm a0=some x->x<c4.heap.size:=(dj.below aa).lt;exact⟨by omega,by omega,by omega,by omega,λav=>by have:=b1 g av;omega⟩
    have eg:=E.T.grow aj d5;have f9:=E.t.grow d5;have fn:(bt:Int)=((ad.length:Nat):Int):=by omega
    rw[fn]at d3;have dc:xD w0 cx cy I O a8 bu bl _ _ _ R wd:=⟨eo,BC d3 bk (fM E.ne.symm),vX er bk λg y e=>(a9 g y).1 (Option.some.inj e).symm,eg,f9,Below.put ew bk E.kt0,E.ne,λg y=>⟨(a9 g y).1,(a9 g y).2.1,(a9 g y).2.2.1⟩,E.kt0,E.km0⟩
    have fs:Gy ((GS ((H:Int),F)).take k++[U]) (ad++[(GS ((H:Int),F)).take k++[U]]) 0=some ad.length:=by
     rw[Ag,bq,if_pos rfl];simp
    rw[dm];refine⟨ad.length,⟨⟨a8,bu,bl,_,_,_,dc,fs,by simp;omega,λg y=>⟨(a9 g y).2.2.2.1,(a9 g y).2.2.2.2⟩⟩,vX e0 bk λg y e=>Y.s3 (by rw[y,<- e]),e4.grown bk (fM Y.s1.symm),Y.s1,Y.s2,Y.s3,Y.s4⟩,⟨a8,bu,bl,_,_,_,dc,?_⟩,eu.grown bk (fM d1.2.1)⟩;rw[vO,ac,if_pos rfl];rfl
  ·refine aP.of ?_ _;rintro b7 ⟨ag,ef,⟨a6,f7,c6,f8,f4,em,G,fe⟩,ev⟩;refine⟨rfl,rfl,_,λu D=>(G.h1.below D).load1 cD rfl rfl,_,_,λu D=>Hp.load0 (ev.below D) rfl,(ag:Int),λu D=>?_,λc8 M=>?_⟩
   ·have:=(G.h2.below D).look1 (P:=prog) cD Aa mE ((node:Int),U);rw[fe]at this;exact this
   ·exact⟨L.length-(k+1),by omega,k+1,ag,by omega,by rw[wrJ];omega,rfl,rfl,ef.below M⟩
 ·have:k=L.length:=by omega
  subst this;have e6:(GS ((H:Int),F)).take L.length=GS ((H:Int),F):=by rw[take_of_length_le];rw[dk];simp
  rw[e6]at V;simp only[NO];obtain⟨a5,bt,c5,ad,b4,an,J,cp,e2,bp⟩:=V.ex;have aj:=(we cp).2;rw[Nat.sub_zero]at aj;have cn:node<an.length:=by rw[J.t.len];exact(List.getElem?_eq_some_iff.1 aj).1
  have d4:=J.h3.len;subst d4;have d8:=J.h3.all.isSome cn;have d7:=J.t.mark node _ aj;refine⟨rfl,rfl,_,_,_,λu D=>(J.h1.below D).load1 jA rfl rfl,trivial,_,λu D=>(V.h3.below D).load1 eI rfl rfl,⟨⟨by omega,by omega⟩,d8⟩,⟨⟨by omega,by omega⟩,?_⟩,?_⟩
  ·cases a5 with
   |none=>cases d8
   |some x=>rfl
  intro c8 M;have G:=J.below M;obtain⟨b6,fz,ep,cl⟩:=G.h3.store1 (P:=prog) KI (λ_ _ h=>h) (k:=4) rfl (i:=node) (j:=H) cn du (v:=.bool true) (x:=(marks R (GS ((H:Int),F))).set H true) rfl rfl (by
   intro vs b3;rw[List.getElem?_eq_getElem cn]at d7;have b3:vs=an[node].map Value.bool/\an[node].length=4:=b3;rw[Option.some.inj d7]at b3;exact⟨by rw[b3.1,List.map_set],by rw[List.length_set,vQ]⟩)
  refine⟨b6,fz,rfl,a5,an.length,c5,ad,b4,_,⟨G.h1.grown cl (λe=>(G.og I e.symm).1 rfl),BC G.h2 cl (λe=>(G.og O e).2.1 rfl),ep,G.T,G.t.rule G.T rfl aj du,G.hb.grown cl G.hb.size (λx e=>(G.og x e).2.2),G.ne,G.og,G.kt0,G.km0⟩,by omega⟩
def TS (w:World)(rs:List Rul)(v:Value)(w':World):Prop:=∃kt km a n c ps kvs es,v=.pointer (some ⟨kt,0,none⟩)/\xD w cx cy kt km a n c ps kvs es (rs.filter Qg) w'
theorem R9 (w:World):(Instr.makeSlice cO (vI 1) (vI 1)).run prog w=.ok (.slice (some ⟨w.heap.size,0,none⟩) 1 1) (w.alloc (.cells #[.bool false,.bool false,.bool false,.bool false] cy)):=by kernel_rfl
theorem LF {a:Option Addr}{n c:Nat}(h:Sl wv w A a n c R)(F:i<R.length):(Instr.loadAt aC (.pointer (aw a (i:Int) 2))).run prog w=.ok (BR R[i]) w:=by
 obtain⟨I,H,G,_,_⟩:=pP.info;have y:(prog.underlying aC).map HI=some true:=by kernel_rfl
 cases E:prog.underlying aC with
 |none=>rw[E]at y;cases y
 |some d=>
  rw[E]at y;simp only[map_some,Option.some.injEq]at y;obtain⟨vs,h1,D⟩:=h.loadA E y H (k:=2) rfl G (i:=(i:Int)) (by simpa using F);have D:vs=rN R[i]:=D;rw[D]at h1;exact h1
theorem He {bp c0:Nat}(a8:Sl wv w A p bp c0 R)(c4:R.length <=1000000)(cc:∀r∈R,r.2.length <=1000000)(a0:Env w):
 Cf rm #[.slice p bp c0] w (Ret (TS w R)):=by
 apply EC;intro U y b8 bk;have M:=(bk▸ar w _:bW w y)
 have Y:xz ekE evI y U []:=xz.new b8 bk;refine⟨_,_,_,_,R9 y,?_⟩;generalize O:y.alloc (.cells #[.bool false,.bool false,.bool false,.bool false] cy)=E;have I:=(O▸ar y _:bW y E)
 have af:=ae M I M.size;have bq:Ow tB4 cy E NoB (some ⟨y.heap.size,0,none⟩) 1 1 [[false,false,false,false]]:=
  Ow.newF (T:=tB4) (l:=[.bool false,.bool false,.bool false,.bool false]) (xs:=[[false,false,false,false]]) (w:=y) OM rfl O.symm (jc.one ⟨rfl,rfl⟩) (by decide)
 intro bl w12 b7 be;have J:=(be▸ar E _:bW E w12)
 have b4:=ae af J af.size;have df:=Y.lt;have dg:=I.size;have dj:=M.size;have dk:E.heap.size=y.heap.size+1:=by rw[<- O];simp
 have b0:xD w cx cy bl U (some ⟨y.heap.size,0,none⟩) 1 1 [[]] [] [[false,false,false,false]] [] w12:=
  ⟨aB.new b7 be,(Y.below I).below J,bq.below J,SO,VH,b4,by omega,λg b6=>by
   simp[fm]at b6;omega,by omega,by omega⟩
 clear Y bq;have b9:=a8.len;subst b9;refine⟨λm i w'=>∃k:Nat,k <=R.length/\i=(k:Int)/\m=R.length-k/\∃a n c ps V H,xD w cx cy bl U a n c ps V H ((R.take k).filter Qg) w'/\ps.length <=1+300*k,⟨_,0,by omega,rfl,rfl,_,_,_,_,_,_,b0,by decide⟩,?_⟩;intro m i;refine aP.of ?_ _;rintro ch ⟨k,cv,rfl,rfl,a,n,c,ps,V,H,F,cb⟩;refine ab.of (λh=>?_) (λh=>?_)<;>simp only[dTx,dFx]at h
 ·have G:k<R.length:=by omega
  have a9:=a8.below F.hb;have c8:=cc _ (getElem_mem G);refine⟨⟨⟨by omega,h⟩,a9.isSome G⟩,_,_,LF a9 G,?_⟩;have bb:(R.take (k+1)).filter Qg=(R.take k).filter Qg++(if Qg R[k]=true then[R[k]]else[]):=by
   rw[take_succ_eq_append_getElem G,List.filter_append];congr 1;rw[List.filter_cons,List.filter_nil]
  generalize R[k]=r at*;refine gG.new (zs:=rN (0,[])) (cs:=rN r) rfl rfl (uW r) ch λdd cl c2 ac b5=>?_;refine⟨_,_,gG.load0 ac rfl,?_⟩;have bt:=F.below b5;refine aK (Jc r (by omega) cl) ?_;rintro _ cn ⟨rfl,aj⟩;have Z:=bt.below aj;have c9:(zv r).length <=1000002:=by
   have:(zo r.1).length <=2:=by unfold zo;split;decide;split;decide;decide
   unfold zv;simp;omega
  refine⟨_,rfl,?_⟩;refine aK (yM (zv r) (by omega) cn (a0.step Z.hb)) ?_;rintro _ cp ⟨rfl,an⟩;have bu:=Z.below an;refine⟨_,_,_,_,rfl,?_⟩;have ag:Qg r=(((eZ (zv r)).2.2==0)&&((eZ (zv r)).2.1&&M9 (eZ (zv r)).1 r)):=rfl;generalize eZ (zv r)=x at*;obtain⟨q,b,e⟩:=x;simp only at ag;refine gG.new (zs:=rN (0,[])) (cs:=rN q) rfl rfl (uW q) cp λde bs c3 b3 av=>?_;have aa:=bu.below av;have ad:=((ac.below aj).below an).below av;refine gX (w:=bs) (Qg r) ?_ ?_
  ·rw[ag];refine ab.of (λc1=>?_) (λc1=>⟨rfl,by simp only at c1;rw[c1];rfl⟩);refine ab.of (λD=>?_) (λD=>⟨rfl,by simp only at c1 D;rw[c1,D];rfl⟩);refine⟨_,_,gG.load0 b3 rfl,_,_,gG.load0 ad rfl,_,TE q r bs,rfl,?_⟩;simp only at c1 D;rw[c1,D];rfl
  ·refine ab.of (λc1=>?_) (λc1=>?_)
   ·have g:=SG c1;refine⟨_,_,gG.load0 ad rfl,?_⟩;refine aK (Hf a0 aa r ?_ g.len cb (by omega)) ?_
    ·rcases g.kind with e|e|e
     ·exact⟨1,e,by decide⟩
     ·exact⟨2,e,by decide⟩
     ·exact⟨3,e,by decide⟩
    rintro _ dl ⟨rfl,b1,n',c',cf,cd,b2,bw,dc⟩;refine⟨rfl,R.length-(k+1),by omega,k+1,by omega,by rw[wrJ];omega,rfl,b1,n',c',cf,cd,b2,?_,by omega⟩;rw[bb,if_pos c1];exact bw
   ·refine⟨R.length-(k+1),by omega,k+1,by omega,by rw[wrJ];omega,rfl,a,n,c,ps,V,H,?_,by omega⟩;rw[bb,if_neg (by rw[c1];decide),append_nil];exact aa
 ·have:k=R.length:=by omega
  subst this;rw[take_length]at F;exact⟨_,_,_,_,_,_,_,_,rfl,F⟩
theorem Cv (a:lU){w K}(h:uS vz #[vS a,vS [32,9]] w λb c=>K (vI (i64.wrap ((i64.wrap (((length a:Nat):Int)-((length b:Nat):Int)))+1))) c):Cf pq #[vS a] w (Ret K):=ru func78 [] h
theorem G1 (a:lU){w K}(h:nA w (.cells #[vI 0,vI 0,vI 0] ax) λb c=>ab (decide (((length a:Nat):Int)>(20000:Int))) (∃d,Sv ax (vA b 0) (.agg #[vI 54,vI 1,vI 1]) c d/\∃e f g,Rv ax (vA b 0) d (.agg #[vI e,vI f,vI g])/\K (.tuple #[.slice none 0 0,.agg #[vI e,vI f,vI g]]) d) (nA c (.map #[] 0) λd e=>uL jm #[vS a] e λf g i j=>∃k:Nat->FP [.one .slice,shI],(∃l,k l none 0 0 (0:Int) j)/\∀l m n o p,aP 50 (∀q,k l m n o p q->ab (decide (p<(g:Int))) ((bx p (g:Int)/\Option.isSome f=true)/\∃r,Ld ai (aw f p 1) q (vS r)/\Cf pp #[vS r] q λs t=>∃u v x y,s=rT #[.agg #[vI u,vS v],.bool x,vI y]/\nA t (.cells #[vI 0,vS []] aC) λz A=>∃B,Sv aC (vA z 0) (.agg #[vI u,vS v]) A B/\∃C:FP [shI],(∃D:FP [shB],(ab (y==0) (D x B) (D false B))/\∀E,aP 4 (∀F,D E F->ab E (∃G H,Ld aC (vA z 0) (drew F) (.agg #[vI G,vS H])/\(∃I,(Instr.lookup bR (.map (some d)) (.agg #[vI G,vS H]) false).run prog (drew F)=.ok (vI I) (drew F)/\∃J L M,(Instr.mapEntry bR (.map (some d)) (.agg #[vI G,vS H])).run prog (drew F)=.ok (.tuple #[L,vI M]) J/\∃N,(Instr.entryStore bR (.map (some d)) (vI M) (vI (i64.wrap (I+1)))).run prog J=.ok () N/\∃O P,Ld aC (vA z 0) N (.agg #[vI O,vS P])/\∃Q,(Instr.lookup bR (.map (some d)) (.agg #[vI O,vS P]) false).run prog N=.ok (vI Q) N/\ab (decide (Q>(1:Int))) (C (52:Int) N) (ab ((n:Int)==200) (C (53:Int) N) (C y N)))/\∃I J L,(Instr.mapEntry bR (.map (some d)) (.agg #[vI G,vS H])).run prog (drew F)=.ok (.tuple #[J,vI L]) I/\∃M,(Instr.lookup bR (.map (some d)) (.agg #[vI G,vS H]) false).run prog I=.ok (vI M) I/\∃N,(Instr.entryStore bR (.map (some d)) (vI L) (vI (i64.wrap (M+1)))).run prog I=.ok () N/\∃O P,Ld aC (vA z 0) N (.agg #[vI O,vS P])/\∃Q,(Instr.lookup bR (.map (some d)) (.agg #[vI O,vS P]) false).run prog N=.ok (vI Q) N/\ab (decide (Q>(1:Int))) (C (52:Int) N) (ab ((n:Int)==200) (C (53:Int) N) (C y N))) (C y F)))/\∀D,aP 20 (∀E,C D E->ab (D !=0) (uI pq #[vS r] E λF G=>∃H,Sv ax (vA b 0) (.agg #[vI D,vI (i64.wrap (p+1)),vI F]) G H/\∃I J L,Rv ax (vA b 0) H (.agg #[vI I,vI J,vI L])/\K (.tuple #[.slice none 0 0,.agg #[vI I,vI J,vI L]]) H) (ab x (∃F G,Ld aC (vA z 0) E (.agg #[vI F,vS G])/\nA E (.cells #[vI F,vS G] aC) λH I=>∃J L M N,(Builtin.append_ #[eD,eD] eD #[.slice m n o,.slice (vA H 0) 1 1]).run prog I=.ok (.slice L M N) J/\∃O:Nat,O<l/\k O L M N (i64.wrap (p+1)) J) (∃F:Nat,F<l/\k F m n o (i64.wrap (p+1)) E)))) (∃r,Sv ax (vA b 0) (.agg #[vI 0,vI 0,vI 0]) q r/\∃s t u,Rv ax (vA b 0) r (.agg #[vI s,vI t,vI u])/\K (.tuple #[.slice m n o,.agg #[vI s,vI t,vI u]]) r)))):Cf uz #[vS a] w (Ret K):=ru func33 [(18,[(4,.one .slice),(19,shI)]),(31,[(10,shI)]),(32,[(34,shB)]),(1000036,[])] h
theorem zZa:Flat wv:=λ_ _ _ _ _ _ h=>h
theorem BA (r:Rul):∀out:List Rul,mM r (out.map λx=>(x,(1:Int)))=if r∈out then some 1 else none
 |[]=>rfl
 |x::l=>by
  show(if r=x then some 1 else mM r (l.map λx=>(x,(1:Int))))=_;rw[BA r l];by_cases h:r=x
  ·rw[if_pos h,if_pos (by rw[h];exact mem_cons_self)]
  ·rw[if_neg h];by_cases y:r∈l
   ·rw[if_pos y,if_pos (mem_cons_of_mem _ y)]
   ·rw[if_neg y,if_neg (by rw[List.mem_cons];exact λk=>k.elim h y)]
theorem VS:∃y,prog.underlying aC=some (.struct y):=⟨_,rfl⟩
theorem Ab:Dd prog aC BR:=by
 obtain⟨E,h⟩:=VS;refine Dd.struct h (λa b=>?_) (λb k w=>?_)
 ·obtain⟨a1,a2⟩:=a;obtain⟨y,D⟩:=b;have e:eqV prog 10000 aC (BR (a1,a2)) (BR (y,D))=some ((a1==y)&&((a2==D)&&true)):=by kernel_rfl
  rw[e];congr 1;rw[Bool.eq_iff_iff];simp
 ·obtain⟨a1,a2⟩:=k;kernel_rfl
theorem Qm (r:Rul):Instr.sameBits 10000 (BR r) (BR r)=true:=by
 obtain⟨a,b⟩:=r;unfold BR rN;simp only[Instr.sameBits,List.zip_cons_cons,List.zip_nil_right,List.all_cons,List.all_nil,Pz,beq_self_eq_true,Bool.and_self,Bool.and_true,Bool.true_and]
theorem DD (s:lU)(G:s.length <=1000000)(w:World):Cf pq #[vS s] w (Ret λv w'=>v=vI (ER s)/\bW w w'):=by
 apply Cv;refine(Tryz.strings_TrimLeft_laid (mkS s) (mkS [32,9]) w (by decide) (ascii_of_all (by decide))).mono ?_;rintro _ H ⟨rfl,D⟩;refine⟨_,rfl,?_,D⟩;have E:(λc:UInt8=>([32,9]:lU).contains c)=pU:=funext Lw;have y:Lib.trimLeftS s [32,9]=s.dropWhile pU:=by unfold Lib.trimLeftS;rw[E]
 have e3:(s.takeWhile pU).length+(s.dropWhile pU).length=s.length:=by rw[<- length_append,List.takeWhile_append_dropWhile]
 have F:(length (toL (mkS (Lib.trimLeftS s [32,9]))))=(s.dropWhile pU).length:=by rw[y];rfl
 show vI (i64.wrap (i64.wrap (((s.length:Nat):Int)-((length (Lib.trimLeftS s [32,9]):Nat):Int))+1))=_;rw[y,wrJ (n:=((s.length:Nat):Int)-_),wrJ];unfold ER;congr 1;omega
def un (s:lU)(w:World)(v:Value)(w':World):Prop:=bW w w'/\match pJ s with
 |.inl rs=>∃a n c,v=.tuple #[.slice a n c,vE (0,0,0)]/\Ow wv aC w' NoB a n c rs/\bo w.heap.size a
 |.inr f=>v=.tuple #[.slice none 0 0,vE f]/\f.1≠0
set_option maxHeartbeats 1000000 in
theorem Jb (s:lU)(w:World)(cd:Env w):Cf uz #[vS s] w (Ret (un s w)):=by
 apply G1;intro a0 U eg cl;have H:=(cl▸ar w _:bW w U)
 have b1:aB U a0 ax (nG (0,0,0)):=aB.new eg cl;have fe:=b1.lt;have b6:∀{W:World} {a:Option Addr} {n c:Nat} (f:Flt),bW U W->(∀wx,bW w wx->W.grownBy wx (some a0)->un s w (.tuple #[.slice a n c,vE f]) wx)->∃wx,(Instr.storeAt ax (.pointer (some ⟨a0,0,none⟩)) (vE f)).run prog W=.ok () wx/\
  ∃(p q r:Int),(aS ax (.pointer (some ⟨a0,0,none⟩))).run prog wx=.ok (.agg #[vI p,vI q,vI r]) wx/\un s w (.tuple #[.slice a n c,.agg #[vI p,vI q,vI r]]) wx:=fun{W a n c} f an d8=>by
  obtain⟨wx,et,ev,b8⟩:=di.store0 (P:=prog) (cs:=nG f) rfl (pC _) (b1.below an) rfl;exact⟨wx,et,f.1,f.2.1,f.2.2,aB.res (di.load0 ev rfl),d8 wx (Below.put (ae H an H.size) b8 (by omega)) b8⟩
 have b4:∀{W:World} (f:Flt),pJ s=.inr f->f.1≠0->bW U W->_:=fun{W} f e G an=>b6 (a:=none) (n:=0) (c:=0) f an λwx B _=>⟨B,by rw[e];exact⟨rfl,G⟩⟩
 refine ab.of (λc1=>b4 (54,1,1) (lO (by have:=of_decide_eq_true c1;omega)) (show(54:Int)≠0 by decide) (Below.refl _ _)) (λc1=>?_);have c1: ¬ 20000<s.length:=by have:=of_decide_eq_false c1;omega
 intro y b0 ef ch;have bb:=(ch▸ar U _:bW U b0)
 have M15:zj BR evI b0 y ([]:List (Rul×Int)):=zj.new ef ch;refine aK (ny s (by omega) b0 (cd.step (ae H bb H.size))) ?_;rintro _ F ⟨b,nb,du,rfl,bt,d4,Y⟩;have B17:=ae bb Y bb.size;have d9:=nU s;have e4:=lP s;have hV:pJ s=jX Dc 0 ((fF s).drop 0) []:=jY c1;generalize fF s=L at*;have S:=bt.all;have em:=bt.len;subst em;have fd:=M15.lt;refine⟨_,_,_,rfl,λm a n c i w'=>∃(j:Nat) (out:List Rul),j <=L.length/\i=(j:Int)/\m=L.length-j/\out.length <=200/\Ow wv aC w' NoB a n c out/\bo F.heap.size a/\Chg [y] F w'/\zj BR evI w' y (out.map λx=>(x,(1:Int)))/\pJ s=jX Dc j (L.drop j) out,
  ⟨_,0,[],Nat.zero_le _,rfl,rfl,by decide,Ow.nil _ _ _ _,bo.none _,Chg.refl _ _,M15.below Y,hV⟩,λm a n c i=>aP.of ?_ _⟩
 rintro e1 ⟨j,out,e6,rfl,rfl,b9,bu,aa,Z,es,aj⟩;have en:=bu.len;subst en;have low:∀{W:World},Chg [y] F W->bW U W:=λh=>B17.trans (h.below B17.size λk ed=>by rw[mem_singleton]at ed;omega);refine ab.of (λbk=>?_) (λbk=>?_)<;>simp only[dTx,dFx]at bk
 rotate_left
 ·refine b6 (0,0,0) (low Z) λwx B g=>⟨B,?_⟩
  rw[aj,nM Dc (by omega)];exact⟨_,_,_,rfl,bu.put (λg E e=>by have:=aa g E;have:=B17.size;omega) g,aa.mono (ae H B17 H.size).size⟩
 have V:j<L.length:=by omega
 have d2:i64.wrap ((j:Int)+1)=(j:Int)+1:=wrJ;have e9:=d9 _ (getElem_mem V);have dn:∀{W:World},Chg [y] F W->Sl tS W qw b L.length du L:=λh=>(bt.keep (h.keep.mono λg E J=>by
  rcases E with E|E
  ·exact E.elim
  ·have:=d4 g E.symm;rw[mem_singleton]at J;omega)).all
 have dm:∀{W D:World} {a:Option Addr} {n c:Nat} {xs:List Rul},Ow wv aC W NoB a n c xs->bo F.heap.size a->Chg [y] W D->Ow wv aC D NoB a n c xs:=fun{W D a n c xs} o f h=>o.keep (h.keep.mono λg E J=>by
  rcases E with E|E
  ·exact E.elim
  ·have:=f g E.symm;have:=Y.size;rw[mem_singleton]at J;omega)
 refine⟨⟨⟨by omega,bk⟩,S.isSome V⟩,L[j],(dn Z).text aI V,?_⟩;rw[d2];generalize eo:L[j]=x at*;refine aK (yM x (by omega) e1 (cd.step (ae H (low Z) H.size))) ?_;rintro _ ex ⟨rfl,be⟩;have I:Dc j out L[j]=if(eZ x).2.2≠0 then .inr ((eZ x).2.2,ER x)else if(eZ x).2.1=false then .inl out else if(eZ x).1∈out then .inr (52,ER x)else if out.length=200 then .inr (53,ER x)else .inl (out++[(eZ x).1]):=by rw[eo];rfl
 generalize eZ x=er at*;obtain⟨r,af,bp⟩:=er;simp only at I;refine⟨_,_,_,_,rfl,gG.new (zs:=rN (0,[])) (cs:=rN r) rfl rfl (uW _) ex λk8 w8 e7 ag ea=>?_⟩;have bl:=ae be ea be.size;have b3:Chg [y] F w8:=Z.step bl;have c4:=es.below bl;have dd:=bu.below bl;have fl:=ag.lt;have fb:F.heap.size <=k8:=by have:=Z.size;have:=be.size;omega
 have dl:∀{W D:World},aB W k8 aC (rN r)->Chg [y] W D->aB D k8 aC (rN r):=λh eb=>eb.arr h (by rw[mem_singleton];have:=Y.size;omega);refine⟨λR D=>Chg [y] F D/\aB D k8 aC (rN r)/\Ow wv aC D NoB a out.length c out/\((R=0/\Dc j out L[j]=.inl (if af=true then out++[r]else out)/\(if af=true then out++[r]else out).length <=200/\zj BR evI D y ((if af=true then out++[r]else out).map λx=>(x,(1:Int))))\/(R≠0/\Dc j out L[j]=.inr (R,ER x))),?_,λR=>aP.of ?_ _⟩
 ·refine gX (w:=w8) ((bp==0)&&af) (ab.of (λh=>⟨rfl,by rw[h];rfl⟩) (λh=>⟨rfl,by rw[h];rfl⟩)) (ab.of (λh=>?_) (λh=>⟨b3,ag,dd,?_⟩))
  rotate_left
  ·by_cases G:bp=0
   ·subst G;have h1:af=false:=by simpa using h
    subst h1;exact .inl ⟨rfl,by rw[I,if_neg (by decide),if_pos rfl];rfl,b9,c4⟩
   ·exact .inr ⟨G,by rw[I,if_pos G]⟩
  rw[Bool.and_eq_true]at h;obtain⟨G,h1⟩:=h;have G:bp=0:=by simpa using G
  subst G h1;rw[if_neg (by decide),if_neg (by decide)]at I;have ad:=dJ w8;generalize drew w8=wd at*;have md:=c4.below ad;have dk:Chg [y] F wd:=b3.step ad;have bq:(mM r (out.map λx=>(x,(1:Int)))).getD 0=if r∈out then 1 else 0:=by rw[BA];split<;>rfl
  have av:∀o:Option Int,(o.map evI).getD (vI 0)=vI (o.getD 0):=λo=>by cases o<;>rfl
  obtain⟨dj,st,bw,d1,d5,a8⟩:=md.entry (P:=prog) gw Ab Qm mE r 0 rfl;rw[av,bq]at bw;have a8:=a8 0 rfl;rw[bq]at a8;generalize ac:(if r∈out then(1:Int)else 0)=N at*;have b5:i64.wrap (N+1)=N+1:=by rw[<- ac];split<;>rfl
  obtain⟨wx,df,bs,d6⟩:=d1.store (P:=prog) (mt:=bR) (N+1);have Cx:Chg [y] wd wx:=(Chg.grown d5 (by simp)).trans (Chg.grown d6 (by simp));have cp:=dl (ag.below ad) Cx;have eq:=gG.load0 (P:=prog) (ag.below ad) rfl;have cv:=md.g.look1 (P:=prog) gw Ab mE r;rw[av,bq]at cv;have c2:=a8.look1 (P:=prog) gw Ab mE r;rw[av,LG]at c2;have c3:=bs.g.look1 (P:=prog) gw Ab mE r;rw[av,LG]at c3;have b7:∃(c9:Int) (dg:lU),(Instr.loadAt aC (.pointer (some ⟨k8,0,none⟩))).run prog wx=.ok (.agg #[vI c9,vS dg]) wx/\
   ∃(dc:Int),(Instr.lookup bR (.map (some y)) (.agg #[vI c9,vS dg]) false).run prog wx=.ok (vI dc) wx/\
    ab (decide (dc>(1:Int))) (Chg [y] F wx/\aB wx k8 aC (rN r)/\Ow wv aC wx NoB a out.length c out/\(((52:Int)=0/\Dc j out L[j]=.inl (if true=true then out++[r]else out)/\(if true=true then out++[r]else out).length <=200/\zj BR evI wx y ((if true=true then out++[r]else out).map λx=>(x,(1:Int))))\/((52:Int)≠0/\Dc j out L[j]=.inr ((52:Int),ER x))))
     (ab (((out.length:Nat):Int)==200) (Chg [y] F wx/\aB wx k8 aC (rN r)/\Ow wv aC wx NoB a out.length c out/\(((53:Int)=0/\Dc j out L[j]=.inl (if true=true then out++[r]else out)/\(if true=true then out++[r]else out).length <=200/\zj BR evI wx y ((if true=true then out++[r]else out).map λx=>(x,(1:Int))))\/((53:Int)≠0/\Dc j out L[j]=.inr ((53:Int),ER x))))
      (Chg [y] F wx/\aB wx k8 aC (rN r)/\Ow wv aC wx NoB a out.length c out/\(((0:Int)=0/\Dc j out L[j]=.inl (if true=true then out++[r]else out)/\(if true=true then out++[r]else out).length <=200/\zj BR evI wx y ((if true=true then out++[r]else out).map λx=>(x,(1:Int))))\/((0:Int)≠0/\Dc j out L[j]=.inr ((0:Int),ER x))))):=by
   refine⟨_,_,gG.load0 cp rfl,_,c3,?_⟩;have base:=And.intro (dk.trans Cx) (And.intro cp (dm (dd.below ad) aa Cx));by_cases J:r∈out
   ·rw[if_pos J]at ac;subst ac;exact ab.yes rfl ⟨base.1,base.2.1,base.2.2,.inr ⟨by decide,by rw[I,if_pos J]⟩⟩
   ·rw[if_neg J]at ac I;subst ac;refine ab.no rfl (ab.of (λO=>⟨base.1,base.2.1,base.2.2,.inr ⟨by decide,by rw[I,if_pos (Q4 (k:=200) O)]⟩⟩) (λO=>⟨base.1,base.2.1,base.2.2,.inl ⟨rfl,?_,?_,?_⟩⟩))
    ·have O:out.length≠200:=Nx (k:=200) O;rw[I,if_neg O];rfl
    ·have O:out.length≠200:=Nx (k:=200) O;show(out++[r]).length <=200;rw[length_append,length_singleton];omega
    ·have e:upG r ((0:Int)+1) (out.map λx=>(x,(1:Int)))=(out++[r]).map λx=>(x,(1:Int)):=by
      unfold upG;have:kY r (out.map λx=>(x,(1:Int))) 0=none:=by
       have cb:=uM r (out.map λx=>(x,(1:Int))) 0;rw[BA,if_neg J]at cb;simpa using cb
      rw[this,map_append];rfl
     rw[e]at bs;exact bs
  refine⟨_,_,eq,⟨N,cv,dj,_,st,bw,wx,by rw[b5];exact df,b7⟩,dj,_,st,bw,N,c2,wx,by rw[b5];exact df,b7⟩
 rintro D ⟨a9,d7,de,cc⟩;have b2:=low a9;refine ab.of (λM=>?_) (λM=>?_)
 ·have cf:R≠0:=by simpa using M
  obtain⟨_,e⟩:=cc.resolve_left λh=>cf h.1;refine aK (DD x (by omega) D) ?_;rintro _ fn ⟨rfl,ds⟩;refine⟨_,rfl,b4 (R,(j:Int)+1,_) ?_ cf (ae b2 ds b2.size)⟩;rw[aj,kw V e];rfl
 have G:R=0:=by simpa using M
 obtain⟨_,e,ek,c8⟩:=cc.resolve_right λh=>h.1 G;refine ab.of (λM=>?_) (λM=>?_)
 ·subst M;refine⟨_,_,gG.load0 d7 rfl,λfa e0 ei cn=>?_⟩;have e2:=(cn▸ar D _:bW D e0)
  obtain⟨ew,dr,n',c',eu,o2,d3,dv,ep⟩:=Zn zZa tG pP (by decide) (ty:=eD) de aa a9 ei cn (x:=r) (vs:=rN r) rfl (cm:=1) (by omega);exact⟨ew,dr,n',c',eu,L.length-(j+1),by omega,j+1,out++[r],by omega,rfl,rfl,ek,o2,d3,dv,c8.keep (ep _ (by have:=Y.size;omega)),by rw[aj,je V e];rfl⟩
 ·subst M;exact⟨L.length-(j+1),by omega,j+1,out,by omega,rfl,rfl,b9,de,aa,a9,c8,by rw[aj,je V e];rfl⟩
theorem ye (a b:Value){w K}(h:nA w (.cells (Value.cells a) ak) λc d=>nA d (.cells (Value.cells b) bj) λe f=>true/\∃g,Ld am (vA e 1) f g/\true/\∃i,Ld am (vA c 1) f i/\∃j,(do eqGuard .eql am (.tmp 7) (.tmp 9) g i;binOp .eql am g i:Sem Value).run prog f=.ok (.bool j) f/\∃k:FP [shB],(true/\∃l,Ld iG (vA c 0) f (.bool l)/\ab l (true/\∃m,Ld am (vA e 1) f m/\true/\∃n,Ld am (vA c 1) f n/\uB qS #[m,n] f λo p=>k o p) (k j f))/\∀l,aP 7 (∀m,k l m->∃n,(∀o,bW m o->Ld bj (vA e 0) o n)/\∃o,(∀p,bW m p->Cf nt #[n] p λq r=>q=.returned (.bool o)/\Below m.heap.size p r)/\ab o (ab l (true/\∃p,(∀q,bW m q->Ld iG (vA c 19) q (.bool p))/\true/\∃q,(∀r,bW m r->Ld iG (vA c 20) r (.bool q))/\true/\∃r,(∀s,bW m s->Ld iG (vA e 0) s (.bool r))/\∃s,(∀t,bW m t->Cf lY #[.bool r] t λu v=>u=.returned (vI s)/\Below m.heap.size t v)/\∃t,(∀u,bW m u->(Instr.index Au (.agg #[.bool p,.bool q]) (vI s)).run prog u=.ok (.bool t) u)/\ab t (true/\∃u,(∀v,bW m v->Ld ai (vA e 19) v (vS u))/\true/\∃v,(∀x,bW m x->Ld ai (vA c 21) x (vS v))/\∃x,(∀y,bW m y->Cf dW #[vS u,vS v] y λz A=>z=.returned (.bool x)/\Below m.heap.size y A)/\∀y,bW m y->K (.bool x) y) (∀u,bW m u->K (.bool false) u)) (∀p,bW m p->K (.bool false) p)) (∀p,bW m p->K (.bool false) p))):Cf lX #[a,b] w (Ret K):=ru func20 [(4,[(5,shB)])] h
theorem zB (a b c d:Int){w K}(h:nA w (.cells #[vI b,vI c,vI d] ax) λe f=>nA f (.cells #[vI 0,vI 0,vI 0,vI 0] aF) λg i=>∃j k l,Ld ax (vA e 0) (drew i) (.agg #[vI j,vI k,vI l])/\∃m,Sv aF (vA g 0) (.agg #[vI a,vI j,vI k,vI l]) (drew i) m/\∃n o p q,Rv aF (vA g 0) m (.agg #[vI n,vI o,vI p,vI q])/\K (.tuple #[.pointer none,.agg #[vI n,vI o,vI p,vI q]]) m):Cf eG #[vI a,.agg #[vI b,vI c,vI d]] w (Ret K):=ru func32 [] h
theorem DR (a:Value){w K}(h:nA w (.cells (Value.cells a) am) λb c=>true/\∃d,Ld co (vA b 0) c (vI d)/\ab (d==1) (∃e,Ld am (vA b 0) c e/\uL cU #[e] c λf g i j=>K (.slice f g i) j) (∃e,Ld am (vA b 0) c e/\uS oY #[e] c λf g=>nA g (.cells #[vS f] ai) λi j=>K (.slice (vA i 0) 1 1) j)):Cf mU #[a] w (Ret K):=ru func85 [] h
theorem nD (a:Value)(b:Option Addr){w K}(h:nA w (.cells (Value.cells a) ak) λc d=>∃e,Ld ak (vA c 0) d e/\∃f,Ld bj b d f/\uB lX #[e,f] d λg i=>K (.bool g) i):Cf bv #[a,.pointer b] w (Ret K):=ru func82 [] h
theorem qt (a:Option Addr)(b:Value){w K}(h:nA w (.cells (Value.cells b) ah) λc d=>true/\true/\∃e,Ld iG (vA c 1) d (.bool e)/\true/\true/\∃f,Ld am (vA c 2) d f/\true/\true/\∃g,Ld ai (vA c 21) d (vS g)/\∃i,(Instr.build bj #[(0,.bool e),(1,f),(2,vS g)]).run prog d=.ok i d/\nA d (.cells Fu bj) λj k=>∃l,Sv bj (vA j 0) i k l/\(Option.isSome a=true)/\(Option.isSome a=true)/\∃m n o,Ld aN (Option.map (λp=>p.add 0) a) l (.slice m n o)/\uB ca #[.slice m n o,.func (.func bv) #[] #[.pointer (vA j 0)]] l λp q=>K (.bool p) q):Cf iD #[.pointer a,b] w (Ret K):=ru func35 [] h
theorem rR (a:Option Addr){w K}(h:(Option.isSome a=true)/\(Option.isSome a=true)/\∃b c d,Ld aN (Option.map (λe=>e.add 0) a) w (.slice b c d)/\∃e:Nat->FP [.one .slice,shI],(∃f,e f none 0 0 (0:Int) w)/\∀f g i j k,aP 10 (∀l,e f g i j k l->ab (decide (k<(c:Int))) ((bx k (c:Int)/\Option.isSome b=true)/\∃m,Ld ak (aw b k 22) l m/\nA l (.cells bg ak) λn o=>∃p,Sv ak (vA n 0) m o p/\true/\∃q,Ld am (vA n 1) p q/\uL mU #[q] p λr s t u=>∃v x y z,(Builtin.append_ #[aA,aA] aA #[.slice g i j,.slice r s t]).run prog u=.ok (.slice x y z) v/\∃A:Nat,A<f/\e A x y z (i64.wrap (k+1)) v) ((Option.isSome a=true)/\(Option.isSome a=true)/\∃m n o,Ld aE (Option.map (λp=>p.add 1) a) l (.slice m n o)/\∃p:Nat->FP [.one .slice,shI],(∃q,p q g i j (0:Int) l)/\∀q r s t u,aP 11 (∀v,p q r s t u v->ab (decide (u<(n:Int))) ((bx u (n:Int)/\Option.isSome m=true)/\∃x,Ld ah (aw m u 24) v x/\nA v (.cells dZ ah) λy z=>∃A,Sv ah (vA y 0) x z A/\true/\true/\∃B,Ld am (vA y 2) A B/\uL mU #[B] A λC D E F=>∃G H I J,(Builtin.append_ #[aA,aA] aA #[.slice r s t,.slice C D E]).run prog F=.ok (.slice H I J) G/\∃L:Nat,L<q/\p L H I J (i64.wrap (u+1)) G) (uP rq #[.slice r s t] v λx y=>K (.pointer x) y))))):Cf i7 #[.pointer a] w (Ret K):=ru func37 [(8,[(3,.one .slice),(13,shI)]),(25,[(3,.one .slice),(28,shI)])] h
theorem qq (a:Option Addr){w K}(h:(Option.isSome a=true)/\(Option.isSome a=true)/\∃b c d,Ld aN (Option.map (λe=>e.add 0) a) w (.slice b c d)/\uL cV #[.slice b c d] w λe f g i=>K (.slice e f g) i):Cf eC #[.pointer a] w (Ret K):=ru func11 [] h
theorem pK (a:Option Addr){w K}(h:(Option.isSome a=true)/\(Option.isSome a=true)/\∃b c d,Ld aE (Option.map (λe=>e.add 1) a) w (.slice b c d)/\uL cI #[.slice b c d] w λe f g i=>K (.slice e f g) i):Cf cK #[.pointer a] w (Ret K):=ru func10 [] h
theorem qp (a:Option Addr){w K}(h:(Option.isSome a=true)/\(Option.isSome a=true)/\∃b,Ld eM (Option.map (λc=>c.add 4) a) w (.pointer b)/\K (.pointer b) w):Cf bD #[.pointer a] w (Ret K):=ru func12 [] h
theorem dx (a:Option Addr)(b c:Nat)(d:Option Addr){w K}(h:∃e:Nat->FP [shI],(∃f,e f (0:Int) w)/\∀f g,aP 12 (∀i,e f g i->ab (decide (g<(b:Int))) ((bx g (b:Int)/\Option.isSome a=true)/\∃j,Ld ak (aw a g 22) i j/\uB bv #[j,.pointer d] i λk l=>ab k (K (vI g) l) (∃m:Nat,m<f/\e m (i64.wrap (g+1)) l)) (K (vI (-1)) i))):Cf dM #[.slice a b c,.func (.func bv) #[] #[.pointer d]] w (Ret K):=ru func159 [(6,[(8,shI)])] h
theorem db (a:Option Addr)(b c:Nat)(d:Option Addr){w K}(h:uI dM #[.slice a b c,.func (.func bv) #[] #[.pointer d]] w λe f=>K (.bool (decide (e >=0))) f):Cf ca #[.slice a b c,.func (.func bv) #[] #[.pointer d]] w (Ret K):=ru func81 [] h
theorem EX (s p:lU):Lib.hasPrefix s p=NZ s p:=by
 rw[Bool.eq_iff_iff,Rj];unfold Lib.hasPrefix;rw[List.isPrefixOf_iff_prefix]
def Mb (n:Int)(f:Flt):Value:=.agg #[vI n,vI f.1,vI f.2.1,vI f.2.2]
def vh (n:Int)(f:Flt):List Value:=[vI n,vI f.1,vI f.2.1,vI f.2.2]
theorem yw (n:Int)(f:Flt):zR (vh n f):=bz rfl (bz rfl (bz rfl (bz rfl ja)))
theorem zu {p:Pat}{r:Req}(E:p.ok)(or:r.ok)(bp:p.host.name.length <=80000000)(bl:r.host.name.length <=80000000)(ad:Env w):
 Cf lX #[p.v,r.v] w (Ret λv w'=>v=.bool (wk r&&jH p r)/\bW w w'):=by
 apply ye;intro aj M a9 af bk H bb ag;have aa:=(af▸ar w _:bW w M)
 have ac:=(ag▸ar M _:bW M H)
 have D:aB H aj ak p.cells:=(aB.new a9 af:aB M aj ak p.cells).below ac;have F:aB H bk bj r.cells:=aB.new bb ag;have O:=ae aa ac aa.size;have av:=bn.load (P:=prog) F (i:=1) (us:=r.host.cells) (Hst.len or) (λj Y=>Ai or Y);have an:=bn.load (P:=prog) D (i:=1) (us:=p.host.cells) (Hst.len E) (λj Y=>Af E Y);refine⟨rfl,_,av,rfl,_,an,_,Iw or E H,?_⟩;refine⟨λb W=>b=(if p.wild=true then pY r.host p.host else vH r.host p.host)/\bW H W,⟨rfl,_,D.load1 j5 rfl (i:=0) rfl,ab.of (λh=>⟨rfl,_,av,rfl,_,an,aK (FX or E (by omega) (by omega) H (ad.step O)) ?_⟩) (λh=>⟨by rw[if_neg (by rw[h];decide)],Below.refl _ _⟩)⟩,λb=>aP.of ?_ _⟩
 ·rintro _ bq ⟨rfl,a8⟩;exact⟨_,rfl,by rw[if_pos h],a8⟩
 rintro W ⟨rfl,R⟩;have I:=ae O R O.size;have D:=D.below R;have F:=F.below R;have J:∀{b:Bool} {G:World},bW W G->b=(wk r&&jH p r)->(Value.bool b=.bool (wk r&&jH p r)/\bW w G):=λhV e=>⟨by rw[e],ae I hV I.size⟩
 refine⟨_,λu y=>oA.load0 (F.below y) (Req.len or),wk r,λu y=>(SF or bl (ad.step (ae I y I.size))).mono ?_,ab.of (λh1=>?_) (λh1=>λG hV=>J hV (by rw[h1];rfl))⟩
 ·rintro _ w' ⟨_,rfl,rfl,a0⟩;exact⟨rfl,a0.mono y.size⟩
 have Z:(wk r&&jH p r)=(NZ r.path p.pre&&((if r.sec=true then p.sec else p.plain)&&(if p.wild=true then pY r.host p.host else vH r.host p.host))):=by unfold jH;rw[h1];rfl
 refine ab.of (λU=>?_) (λU=>λG hV=>J hV (by rw[Z,U];simp));have be:∀(a b s:Bool) (u:World),(Instr.index Au (.agg #[.bool a,.bool b]) (vI (if s=true then 1 else 0))).run prog u=.ok (.bool (if s=true then b else a)) u:=λa b s u=>by cases s<;>kernel_rfl
 refine⟨rfl,p.plain,λu y=>(D.below y).load1 j5 rfl (mX E 0),rfl,p.sec,λu y=>(D.below y).load1 j5 rfl (mX E 1),rfl,r.sec,λu y=>(F.below y).load1 j5 rfl rfl,_,λu y=>(Qo r.sec u).mono ?_,_,λu y=>be p.plain p.sec r.sec u,ab.of (λV=>?_) (λV=>λG hV=>J hV (by rw[Z,V];simp))⟩
 ·rintro _ w' ⟨_,rfl,rfl,rfl⟩;exact⟨rfl,Below.refl _ _⟩
 refine⟨rfl,r.path,λu y=>(F.below y).load1 aI rfl (mY or 0),rfl,p.pre,λu y=>(D.below y).load1 aI rfl (mX E 2),Lib.hasPrefix r.path p.pre,λu y=>(I3 r.path p.pre u).mono ?_,λG hV=>J hV (by rw[Z,U,V,EX];simp)⟩;rintro _ w' ⟨_,rfl,rfl,rfl⟩;exact⟨rfl,Below.refl _ _⟩
theorem eL:Whl prog aF 4:=⟨⟨_,_,EG⟩,by kernel_rfl⟩
theorem Nn (n:Int)(f:Flt)(w:World):Cf eG #[vI n,vE f] w (Ret λv w'=>v=.tuple #[.pointer none,Mb n f]/\bW w w'):=by
 refine zB n f.1 f.2.1 f.2.2 ?_;intro aa y Y I ac D Z J;have E:=(I▸ar w _:bW w y)
 have H:=(J▸ar y _:bW y D)
 have M:aB y aa ax (nG f):=aB.new Y I;have O:aB D ac aF (vh 0 (0,0,0)):=aB.new Z J;have F:=dJ D;generalize drew D=ag at*;have G:=ae E H E.size;have U:=ae G F G.size;obtain⟨af,ad,R,V⟩:=eL.store0 (P:=prog) (cs:=vh n f) rfl (yw n f) (O.below F) rfl;exact⟨f.1,f.2.1,f.2.2,di.load0 ((M.below H).below F) rfl,af,ad,n,f.1,f.2.1,f.2.2,aB.res (eL.load0 R rfl),rfl,Below.put U V (by have:=E.size;omega)⟩
theorem L5 {h:Hst}(o:h.ok)(ad:h.name.length <=1000000)(w:World)(G:Env w):Cf mU #[h.v] w (Ret λv w'=>∃a n c,v=.slice a n c/\Sl tS w' qw a n c (dN h)/\bW w w'):=by
 apply DR;intro aa D Y H;have y:=(H▸ar w _:bW w D)
 have E:aB D aa am h.cells:=aB.new Y H;have J:=bn.load0 (P:=prog) E (Hst.len o);refine⟨rfl,h.kind,E.load1 eI rfl (i:=0) rfl,ab.of (λc=>⟨_,J,aK (iN o (by omega) D (G.step y)) ?_⟩) (λc=>⟨_,J,aK (yI o D (G.step y)) ?_⟩)⟩
 ·rintro _ ag ⟨a,n,e,rfl,ac,_,U⟩;have c:h.kind=1:=by simpa using c
  refine⟨_,_,_,rfl,_,_,_,rfl,?_,ae y U y.size⟩;unfold dN;rw[if_pos c];exact ac.all
 ·rintro _ O ⟨rfl,V⟩;have c:h.kind≠1:=by simpa using c
  refine⟨_,rfl,λaf M Z I=>⟨_,_,_,rfl,?_,?_⟩⟩
  ·unfold dN;rw[if_neg c];exact(Ow.newF (T:=tS) (eX _) (A:=NoB) Z I (jc.one (mu trivial)) (by show 1 <=maxLen;decide):Ow tS ai M NoB _ 1 1 [mo h]).all
  ·have R:=(I▸ar O _:bW O M)
   have F:=ae y V y.size;exact ae F R F.size
theorem Dj {p:Pat}{r:Req}(E:p.ok)(or:r.ok)(R:p.host.name.length <=80000000)(U:r.host.name.length <=80000000)(I:Env w)(J:aB w k bj r.cells):
 Cf bv #[p.v,.pointer (some ⟨k,0,none⟩)] w (Ret λv w'=>v=.bool (wk r&&jH p r)/\bW w w'):=by
 apply nD;intro O F M D;have y:=(D▸ar w _:bW w F)
 have G:aB F O ak p.cells:=aB.new M D;refine⟨_,ck.load0 G (Pat.len E),_,oA.load0 (J.below y) (Req.len or),aK (zu E or R U (I.step y)) ?_⟩;rintro _ V ⟨rfl,H⟩;exact⟨_,rfl,rfl,ae y H y.size⟩
theorem Is {r:Req}(or:r.ok)(ad:r.host.name.length <=80000000)(U:Env w){a:Option Addr}{n c:Nat}{ps:List Pat}(D:Sl lS w A a n c ps)(M:∀p∈ps,p.host.name.length <=253)(V:aB w k bj r.cells):
 Cf ca #[.slice a n c,.func (.func bv) #[] #[.pointer (some ⟨k,0,none⟩)]] w (Ret λv w'=>v=.bool (ps.any λp=>wk r&&jH p r)/\bW w w'):=by
 apply db;have G:=D.len;have Z:=D.le;subst G;refine aK (K:=λv w'=>v=vI (MG (λp=>wk r&&jH p r) ps)/\bW w w') ?_ ?_
 ·apply dx;refine⟨qF (λp=>wk r&&jH p r) ps w,qF.start _ _ _,λm i=>aP.of ?_ _⟩;intro ag O;rcases O.go Z with⟨j,F,rfl,B,E,R,aa,G⟩|⟨E,y,B⟩
  ·obtain⟨Y,ac⟩:=lK (D.below B) F;refine ab.yes E ⟨⟨R,D.isSome F⟩,_,Y,aK (Dj ac or (Nat.le_trans (M _ (getElem_mem F)) (by decide)) ad (U.step B) (V.below B)) ?_⟩;rintro _ w' ⟨rfl,I⟩;have H:=ae B I B.size;exact⟨_,rfl,ab.of (λy=>⟨by rw[aa y],H⟩) (λy=>G y _ H)⟩
  ·exact ab.no E ⟨by rw[y],B⟩
 ·rintro _ af ⟨rfl,J⟩;exact⟨_,rfl,by rw[Bm],J⟩
theorem HR {t:Tpl}(o:t.ok)(w:World):(Instr.build bj #[(0,.bool t.url.sec),(1,t.url.host.v),(2,vS t.url.path)]).run prog w=.ok (Wi t).v w:=by
 obtain⟨E,⟨H,⟨y,D,e3⟩,G,F⟩,tx,ln⟩:=t;obtain⟨I,J,Z,aa,ac,ad,af,ag,aj,an,M,O,R,U,V,Y,rfl⟩:=pV e3 o;kernel_rfl
theorem J3 {t:Tpl}(o:t.ok)(af:t.url.host.name.length <=253)(U:Env w){vs:List Value}{a:Option Addr}{n c:Nat}{ps:List Pat}(Y:aB w k eO vs)(O:vs[0]? =some (.slice a n c))(aa:Sl lS w A a n c ps)(R:∀p∈ps,p.host.name.length <=253):
 Cf iD #[.pointer (some ⟨k,0,none⟩),t.v] w (Ret λv w'=>v=.bool (sV ps t)/\bW w w'):=by
 apply qt;intro ac D Z G;have F:=(G▸ar w _:bW w D)
 have E:aB D ac ah t.cells:=aB.new Z G;have H:t.url.ok:=o;have or:(Wi t).ok:=o;have ad:=bn.load (P:=prog) E (i:=2) (us:=t.url.host.cells) (Hst.len o) (λj V=>by
  rw[show 2+j=1+(1+j) by omega,CL o (by omega)];exact Hl H V)
 refine⟨rfl,rfl,t.url.sec,E.load1 j5 rfl (i:=1) rfl,rfl,rfl,_,ad,rfl,rfl,t.url.path,E.load1 aI rfl (i:=21) ((CL o (by decide)).trans (sU H)),_,HR o D,oA.new (zs:=(⟨false,jZ,[],0⟩:Req).cells) (cs:=(Wi t).cells) rfl (Req.len or) (Req.one _) D λaj av ag I M=>?_⟩;have y:=ae F M F.size;refine⟨rfl,rfl,a,n,c,by rw[vW];exact(Y.below y).load1 dy rfl O,aK (Is or (Nat.le_trans af (by decide)) (U.step y) (aa.below y) R I) ?_⟩;rintro _ an ⟨rfl,J⟩;exact⟨_,rfl,rfl,ae y J y.size⟩
theorem Uo {x:lU}(h:0<x.length):(aU x ((x.length-1:Nat):Int)==13)=decide (x.getLast?=some 13):=by
 rw[iq (i:=((x.length-1:Nat):Int)) (by simp;omega)];simp only[Int.toNat_natCast];rw[Bool.eq_iff_iff,beq_iff_eq,dTx,List.getLast?_eq_getElem?,List.getElem?_eq_getElem (by omega)];constructor
 ·intro e;rw[show x[x.length-1]'(by omega)=13 from yR (by simpa using e)]
 ·intro e;rw[Option.some.inj e];rfl
theorem nB (s:lU)(c2:s.length <=10000000)(w:World):
 Cf jn #[vS s] w (Ret λv w'=>∃a n an,v=.slice a n an/\Ow tS ai w' NoB a n an (fF s)/\bo w.heap.size a/\bW w w'):=by
 apply B4;intro bs w7 bk ag;have a0:bW w w7:=ag▸ar w _;have cc:Ow tS ai w7 NoB (some ⟨bs,0,none⟩) 0 0 []:=Ow.newF (eX _) bk ag (l:=[]) (jc.nil _ _ _) (by decide);refine aK (fq s 10 (by omega) w7) ?_;rintro _ dc ⟨U,c8,bu,rfl,G,b4,a8⟩;have b6:=G.len;subst b6;have b2:=ae a0 a8 a0.size;refine⟨_,_,_,rfl,?_⟩;have aa:=jN 10 s [];have a9:=dK 10 s [];have ac:=gp 10 s [];have M:fF s=((if(bE 10 [] s).getLast?=some []then(bE 10 [] s).dropLast else bE 10 [] s)).map oN:=rfl;revert G aa a9 ac M;generalize bE 10 [] s=L;intro G aa a9 ac M;have bp:0<L.length:=List.length_pos_iff.2 aa;have b7:∀_:L[L.length-1]'(by omega)=[],fF s=(L.take (L.length-1)).map oN:=λH=>by rw[M,if_pos (sJ bp H),List.dropLast_eq_take]
 have b8:∀_:L[L.length-1]'(by omega)≠[],fF s=L.map oN:=λH=>by
  rw[M,if_neg];rw[sJ bp rfl];exact λe=>H (Option.some.inj e)
 refine⟨λm a l c i w'=>∃k:Nat,k <=L.length/\i=(k:Int)/\m=L.length-k/\Ow tS ai w' NoB a l c ((L.take k).map oN)/\bo w.heap.size a/\bW w w'/\Ow tS ai w' NoB U L.length bu L/\(∀g,fm a=some g->fm U≠some g)/\(∀g,fm U=some g->g<w'.heap.size)/\(k=L.length->L[L.length-1]'(by omega)≠[]),
  ⟨_,0,by omega,rfl,rfl,cc.below a8,kx bk,b2,G,λg E e=>?_,λg E=>G.lt g E,λe=>by omega⟩,?_⟩
 ·have h1:=b4 g e;have D:bs=g:=by simpa[fm]using E
  have y:w7.heap.size=w.heap.size+1:=by rw[ag];simp
  omega
 intro m a l c i;refine aP.of ?_ _;rintro cn ⟨k,cv,rfl,rfl,R,J,I,ad,bb,bl,b3⟩;have b0:i64.wrap (((L.length:Nat):Int)-1)=((L.length-1:Nat):Int):=by rw[wrJ];omega
 refine ab.of (λh=>?_) (λh=>?_)<;>simp only[dTx,dFx]at h
 ·have O:k<L.length:=by omega
  obtain⟨v,bq,ch⟩:=ad.all.load1 (i:=(k:Int)) aI rfl rfl (by simpa using O);obtain⟨rfl,_⟩:=vd ch;simp only[Int.toNat_natCast]at bq;have cd:=ac L[k] (getElem_mem O);simp only[length_nil,Nat.zero_add]at cd;refine⟨⟨⟨by omega,h⟩,ad.all.isSome O⟩,L[k],bq,?_⟩;refine iV (λw'=>w'=cn/\ ¬ (k=L.length-1/\L[k]=[])) ?_ ?_
  ·rw[b0];refine ab.of (λD=>?_) (λD=>?_)
   ·have D:k=L.length-1:=by have:=eq_of_beq D;omega
    refine ab.of (λy=>?_) (λy=>?_)
    ·have y:L[k]=[]:=eq_of_beq y;subst D;exact⟨a,l,c,rfl,by rw[b7 y];exact R,J,I⟩
    ·exact⟨rfl,λe=>by rw[e.2]at y;cases y⟩
   ·exact⟨rfl,λe=>by rw[e.1]at D;simp at D⟩
  ·rintro bt ⟨rfl,b9⟩;have av:0<L[k].length->i64.wrap (((L[k].length:Nat):Int)-1)=((L[k].length-1:Nat):Int):=λ_=>by rw[wrJ];omega
   refine⟨λx w'=>w'=bt/\x=oN L[k],?_,λc9=>aP.of ?_ _⟩
   ·refine gX (w:=bt) (decide (L[k].getLast?=some 13)) ?_ ?_
    ·refine ab.of (λy=>?_) (λy=>?_)<;>simp only[gt_iff_lt,dTx,dFx]at y
     ·rw[av (by omega)];exact⟨⟨by omega,by omega⟩,rfl,Uo (by omega)⟩
     ·have:L[k]=[]:=List.length_eq_zero_iff.1 (by omega);exact⟨rfl,by rw[this];rfl⟩
    ·refine ab.of (λy=>?_) (λy=>?_)
     ·have y:L[k].getLast?=some 13:=of_decide_eq_true y;have hp:0<L[k].length:=by
       cases H:L[k]with
       |nil=>rw[H]at y;cases y
       |cons x r=>simp
      rw[av hp];refine⟨⟨by omega,by omega⟩,?_⟩;rintro _ rfl;refine⟨rfl,?_⟩;unfold oN;rw[if_pos y,List.dropLast_eq_take];rfl
     ·have y: ¬ L[k].getLast?=some 13:=of_decide_eq_false y;exact⟨rfl,by unfold oN;rw[if_neg y]⟩
   ·rintro aj ⟨rfl,rfl⟩;intro c4 w4 b5 af;have Y:bW aj w4:=af▸ar aj _;obtain⟨cp,a5,cl,c5,cf,cb,Z,be⟩:=ff (ty:=aA) bh dG (by decide) (R.below Y) (λ_ _ h=>h) (cm:=1) (Src.new1F (T:=tS) (eX _) b5 af (mu trivial)) (by simp;omega);have V:=ae I Y I.size;have c3:w4.heap.size=aj.heap.size+1:=by rw[af];simp
    refine⟨cp,a5,cl,c5,cf,L.length-(k+1),by omega,k+1,by omega,by rw[wrJ];omega,rfl,?_,J.app V.size be,V.grown Z V.size J,(ad.below Y).keep (jf Z λb F e=>?_),λg E e=>?_,λg E=>?_,λe bw=>?_⟩
    ·rw[take_succ_eq_append_getElem O,map_append];exact cb
    ·rcases F with F|F
     ·exact F
     ·exact bb b e.symm F.symm
    ·rcases be g E with q|q
     ·exact bb g q e
     ·have:=bl g e;omega
    ·have:=bl g E;have:=Z.size;omega
    ·have b1:k=L.length-1:=by omega
     subst b1;exact b9 ⟨rfl,bw⟩
 ·have:k=L.length:=by omega
  subst this;rw[take_length]at R;exact⟨a,l,c,rfl,by rw[b8 (b3 rfl)];exact R,J,I⟩
theorem zH (a:lU){w K}(h:∃b:Nat->FP [shI],(∃c,b c (1:Int) w)/\∀c d,aP 20 (∀e,b c d e->ab (decide (d <=((length a:Nat):Int))) (bx (i64.wrap (d-1)) ((length a:Nat):Int)/\ab ((aU a (i64.wrap (d-1)))==32) (∃f:Nat,f<c/\b f (i64.wrap (d+1)) e) (bx (i64.wrap (d-1)) ((length a:Nat):Int)/\ab ((aU a (i64.wrap (d-1)))==9) (∃f:Nat,f<c/\b f (i64.wrap (d+1)) e) (K (vI d) e))) (K (vI d) e))):Cf gM #[vS a] w (Ret K):=ru func90 [(6,[(3,shI)])] h
theorem DY (a:lU){w K}(h:nA w (.cells #[vI 0,vI 0,vI 0] ax) λb c=>nA c (.cells #[] aC) λd e=>ab (decide (((length a:Nat):Int)>(20000:Int))) (∃f,Sv ax (vA b 0) (.agg #[vI 54,vI 1,vI 1]) e f/\∃g i j,Rv ax (vA b 0) f (.agg #[vI g,vI i,vI j])/\K (.tuple #[.slice none 0 0,.agg #[vI g,vI i,vI j]]) f) (uL jn #[vS a] e λf g i j=>∃k:Nat->FP [.one .slice,shI],(∃l,k l (vA d 0) 0 0 (0:Int) j)/\∀l m n o p,aP 55 (∀q,k l m n o p q->ab (decide (p<(g:Int))) ((bx p (g:Int)/\Option.isSome f=true)/\∃r,Ld ai (aw f p 1) q (vS r)/\Cf ra #[vS r] q λs t=>∃u v x y,s=rT #[.agg #[vI u,vS v],.bool x,vI y]/\nA t (.cells #[vI 0,vS []] aC) λz A=>∃B,Sv aC (vA z 0) (.agg #[vI u,vS v]) A B/\ab (y !=0) (uI gM #[vS r] B λC D=>∃E,Sv ax (vA b 0) (.agg #[vI y,vI (i64.wrap (p+1)),vI C]) D E/\∃F G H,Rv ax (vA b 0) E (.agg #[vI F,vI G,vI H])/\K (.tuple #[.slice none 0 0,.agg #[vI F,vI G,vI H]]) E) (ab (!x) (∃C:Nat,C<l/\k C m n o (i64.wrap (p+1)) B) (∃C:Nat->FP [shI],(∃D,C D (0:Int) B)/\∀D E,aP 14 (∀F,C D E F->ab (decide (E<(n:Int))) ((bx E (n:Int)/\Option.isSome m=true)/\∃G H,Ld aC (aw m E 2) F (.agg #[vI G,vS H])/\nA F (.cells #[vI 0,vS []] aC) λI J=>∃L,Sv aC (vA I 0) (.agg #[vI G,vS H]) J L/\∃M N,Ld aC (vA I 0) L (.agg #[vI M,vS N])/\∃O P,Ld aC (vA z 0) L (.agg #[vI O,vS P])/\∃Q,(do eqGuard .eql aC (.tmp 47) (.tmp 48) (.agg #[vI M,vS N]) (.agg #[vI O,vS P]);binOp .eql aC (.agg #[vI M,vS N]) (.agg #[vI O,vS P]):Sem Value).run prog L=.ok (.bool Q) L/\ab Q (uI gM #[vS r] L λR S=>∃T,Sv ax (vA b 0) (.agg #[vI 52,vI (i64.wrap (p+1)),vI R]) S T/\∃U V X,Rv ax (vA b 0) T (.agg #[vI U,vI V,vI X])/\K (.tuple #[.slice none 0 0,.agg #[vI U,vI V,vI X]]) T) (∃R:Nat,R<D/\C R (i64.wrap (E+1)) L)) (ab (decide ((n:Int) >=200)) (uI gM #[vS r] F λG H=>∃I,Sv ax (vA b 0) (.agg #[vI 53,vI (i64.wrap (p+1)),vI G]) H I/\∃J L M,Rv ax (vA b 0) I (.agg #[vI J,vI L,vI M])/\K (.tuple #[.slice none 0 0,.agg #[vI J,vI L,vI M]]) I) (∃G H,Ld aC (vA z 0) F (.agg #[vI G,vS H])/\nA F (.cells #[vI G,vS H] aC) λI J=>∃L M N O,(Builtin.append_ #[eD,eD] eD #[.slice m n o,.slice (vA I 0) 1 1]).run prog J=.ok (.slice M N O) L/\∃P:Nat,P<l/\k P M N O (i64.wrap (p+1)) L)))))) (∃r,Sv ax (vA b 0) (.agg #[vI 0,vI 0,vI 0]) q r/\∃s t u,Rv ax (vA b 0) r (.agg #[vI s,vI t,vI u])/\K (.tuple #[.slice m n o,.agg #[vI s,vI t,vI u]]) r)))):Cf qZ #[vS a] w (Ret K):=ru func41 [(16,[(4,.one .slice),(20,shI)]),(47,[(43,shI)])] h
theorem D4 (a:lU){w K}(h:nA w (.cells bg ak) λb c=>uL eE #[vS a,.int .u8 32] c λd e f g=>∃i:FP [],(∃j:FP [shB],(ab ((e:Int) !=4) (j true g) ((bx (0:Int) (e:Int)/\Option.isSome d=true)/\∃k,Ld ai (aw d (0:Int) 1) g (vS k)/\ab (!(k==[104,111,115,116])) (j true g) ((bx (1:Int) (e:Int)/\Option.isSome d=true)/\∃l,Ld ai (aw d (1:Int) 1) g (vS l)/\ab (l==[]) (j true g) ((bx (2:Int) (e:Int)/\Option.isSome d=true)/\∃m,Ld ai (aw d (2:Int) 1) g (vS m)/\ab (m==[]) (j true g) ((bx (3:Int) (e:Int)/\Option.isSome d=true)/\∃n,Ld ai (aw d (3:Int) 1) g (vS n)/\j (n==[]) g)))))/\∀k,aP 26 (∀l,j k l->ab k (∃m,Sv ak (vA b 0) (.agg bg) l m/\∃n,Rv ak (vA b 0) m n/\K (.tuple #[n,vI 131,vI 1]) m) (i l)))/\aP 30 (∀j,i j->∃k:FP [.one .ptr],((bx (2:Int) (e:Int)/\Option.isSome d=true)/\(bx (2:Int) (e:Int)/\Option.isSome d=true)/\(bx (3:Int) (e:Int)/\Option.isSome d=true)/\∃l,(∀m,bW j m->Ld ai (aw d (2:Int) 1) m (vS l))/\ab (l==[104,116,116,112]) (∃m,(∀n,bW j n->Ld ai (aw d (2:Int) 1) n (vS m))/\ab (m==[104,116,116,112,115]) (∃n,(∀o,bW j o->Ld ai (aw d (3:Int) 1) o (vS n))/\∀o,j.heap.size <=o->∀p,bW j p->p.heap[o]? =some (.cells bg ak)->∃q,Sv ak (vA o 0) (.agg #[.bool false,vI 0,vS [],u0,u0,u0,u0,u0,u0,u0,u0,u0,u0,u0,u0,u0,u0,u0,u0,.bool true,.bool true,vS n]) p q/\k (vA o 0) q) ((bx (2:Int) (e:Int)/\Option.isSome d=true)/\∃n,(∀o,bW j o->Ld ai (aw d (2:Int) 1) o (vS n))/\∃o,(∀p,bW j p->Ld ai (aw d (3:Int) 1) p (vS o))/\∀p,j.heap.size <=p->∀q,bW j q->q.heap[p]? =some (.cells bg ak)->∃r,Sv ak (vA p 0) (.agg #[.bool false,vI 0,vS [],u0,u0,u0,u0,u0,u0,u0,u0,u0,u0,u0,u0,u0,u0,u0,u0,.bool true,.bool (n==[98,111,116,104]),vS o]) q r/\k (vA p 0) r)) ((bx (2:Int) (e:Int)/\Option.isSome d=true)/\∃m,(∀n,bW j n->Ld ai (aw d (2:Int) 1) n (vS m))/\∃n,(∀o,bW j o->Ld ai (aw d (2:Int) 1) o (vS n))/\ab (n==[104,116,116,112,115]) (∃o,(∀p,bW j p->Ld ai (aw d (3:Int) 1) p (vS o))/\∀p,j.heap.size <=p->∀q,bW j q->q.heap[p]? =some (.cells bg ak)->∃r,Sv ak (vA p 0) (.agg #[.bool false,vI 0,vS [],u0,u0,u0,u0,u0,u0,u0,u0,u0,u0,u0,u0,u0,u0,u0,u0,.bool (m==[98,111,116,104]),.bool true,vS o]) q r/\k (vA p 0) r) ((bx (2:Int) (e:Int)/\Option.isSome d=true)/\∃o,(∀p,bW j p->Ld ai (aw d (2:Int) 1) p (vS o))/\∃p,(∀q,bW j q->Ld ai (aw d (3:Int) 1) q (vS p))/\∀q,j.heap.size <=q->∀r,bW j r->r.heap[q]? =some (.cells bg ak)->∃s,Sv ak (vA q 0) (.agg #[.bool false,vI 0,vS [],u0,u0,u0,u0,u0,u0,u0,u0,u0,u0,u0,u0,u0,u0,u0,u0,.bool (m==[98,111,116,104]),.bool (o==[98,111,116,104]),vS p]) r s/\k (vA q 0) s)))/\∀l,aP 24 (∀m,k l m->(bx (1:Int) (e:Int)/\Option.isSome d=true)/\∃n,Ld ai (aw d (1:Int) 1) m (vS n)/\∃o:FP [.one .str],(uB ke #[vS n,vS [42,46]] m λp q=>ab p ((Option.isSome l=true)/\∃r,Sv iG (Option.map (λs=>s.add 0) l) (.bool true) q r/\bd (2:Int) (((length n):Nat):Int)/\∀s,s=(List.drop (Int.toNat 2) n)->o s r) (o n q))/\∀p,aP 5 (∀q,o p q->Cf iw #[vS p] q λr s=>∃t u,r=rT #[t,vI u]/\nA s (.cells bB am) λv x=>∃y,Sv am (vA v 0) t x y/\∃z,Ld am (vA v 0) y z/\(Option.isSome l=true)/\∃A,Sv am (Option.map (λB=>B.add 1) l) z y A/\∃B:FP [],(∃C:FP [shB],(ab (u !=0) (C true A) ((Option.isSome l=true)/\∃D,Ld iG (Option.map (λE=>E.add 0) l) A (.bool D)/\ab D (true/\∃E,Ld co (vA v 0) A (vI E)/\C (E !=1) A) (C false A)))/\∀D,aP 10 (∀E,C D E->ab D (∃F,Sv ak (vA b 0) (.agg bg) E F/\∃G,Rv ak (vA b 0) F G/\K (.tuple #[G,vI 31,vI 6]) F) (B E)))/\aP 14 (∀C,B C->∃D:FP [],(∃E:FP [shB],((Option.isSome l=true)/\∃F,Ld iG (Option.map (λG=>G.add 19) l) C (.bool F)/\ab (!F) ((Option.isSome l=true)/\∃G,Ld iG (Option.map (λH=>H.add 20) l) C (.bool G)/\E (!G) C) (E false C))/\∀F,aP 7 (∀G,E F G->ab F (∃H:World->Prop,H (drew G)/\(bx (1:Int) (e:Int)/\Option.isSome d=true)/\∃I,(∀J,H J->Ld ai (aw d (1:Int) 1) J (vS I))/\∃J,Sv ak (vA b 0) (.agg bg) (drew G) J/\H J/\∃L,Rv ak (vA b 0) J L/\K (.tuple #[L,vI 211,vI (i64.wrap ((7:Int)+((length I:Nat):Int)))]) J) (D G)))/\aP 16 (∀E,D E->(bx (3:Int) (e:Int)/\Option.isSome d=true)/\∃F,Ld ai (aw d (3:Int) 1) E (vS F)/\uB ic #[vS F] E λG H=>ab (!G) (∃I:World->Prop,I (drew H)/\(bx (1:Int) (e:Int)/\Option.isSome d=true)/\∃J,(∀L,I L->Ld ai (aw d (1:Int) 1) L (vS J))/\(bx (2:Int) (e:Int)/\Option.isSome d=true)/\∃L,(∀M,I M->Ld ai (aw d (2:Int) 1) M (vS L))/\∃M,Sv ak (vA b 0) (.agg bg) (drew H) M/\I M/\∃N,Rv ak (vA b 0) M N/\K (.tuple #[N,vI 43,vI (i64.wrap ((i64.wrap ((8:Int)+((length J:Nat):Int)))+((length L:Nat):Int)))]) M) (∃I,Ld ak l H I/\∃J,Sv ak (vA b 0) I H J/\∃L,Rv ak (vA b 0) J L/\K (.tuple #[L,vI 0,vI 1]) J))))))):Cf rc #[vS a] w (Ret K):=ru func88 [(4,[]),(5,[(38,shB)]),(12,[(6,.one .ptr)]),(3000013,[(0,shB),(1,shB),(10,shB),(11,shB),(20,shB),(21,shB),(2,shB),(3,shB),(4,shB),(5,shB),(6,shB),(7,shB),(8,shB),(9,shB),(12,shB),(13,shB),(14,shB),(15,shB),(16,shB),(17,shB),(18,shB),(19,shB),(22,shB),(23,shB),(24,shB)]),(16,[(7,.one .str)]),(28,[]),(29,[(89,shB)]),(36,[]),(37,[(98,shB)]),(4000041,[]),(4000049,[])] h
theorem D0 (a:lU){w K}(h:nA w (.cells #[vI 0,vI 0,vI 0] ax) λb c=>ab (decide (((length a:Nat):Int)>(20000:Int))) (∃d,Sv ax (vA b 0) (.agg #[vI 54,vI 1,vI 1]) c d/\∃e f g,Rv ax (vA b 0) d (.agg #[vI e,vI f,vI g])/\K (.tuple #[.slice none 0 0,.agg #[vI e,vI f,vI g]]) d) (nA c (.cells #[] ak) λd e=>uL jn #[vS a] e λf g i j=>∃k:Nat->FP [.one .slice,shI],(∃l,k l (vA d 0) 0 0 (0:Int) j)/\∀l m n o p,aP 55 (∀q,k l m n o p q->ab (decide (p<(g:Int))) ((bx p (g:Int)/\Option.isSome f=true)/\∃r,Ld ai (aw f p 1) q (vS r)/\∃s:FP [],(ab (r==[]) (∃t:Nat,t<l/\k t m n o (i64.wrap (p+1)) q) (bx (0:Int) ((length r:Nat):Int)/\ab ((aU r (0:Int))==35) (∃t:Nat,t<l/\k t m n o (i64.wrap (p+1)) q) (s q)))/\aP 7 (∀t,s t->Cf rc #[vS r] t λu v=>∃x y z,u=rT #[x,vI y,vI z]/\nA v (.cells bg ak) λA B=>∃C,Sv ak (vA A 0) x B C/\ab (y !=0) (∃D,Sv ax (vA b 0) (.agg #[vI y,vI (i64.wrap (p+1)),vI z]) C D/\∃E F G,Rv ax (vA b 0) D (.agg #[vI E,vI F,vI G])/\K (.tuple #[.slice none 0 0,.agg #[vI E,vI F,vI G]]) D) (∃D:Nat->FP [shI],(∃E,D E (0:Int) C)/\∀E F,aP 12 (∀G,D E F G->ab (decide (F<(n:Int))) ((bx F (n:Int)/\Option.isSome m=true)/\∃H,Ld ak (aw m F 22) G H/\nA G (.cells bg ak) λI J=>∃L,Sv ak (vA I 0) H J L/\∃M,Ld ak (vA A 0) L M/\∃N,Ld ak (vA I 0) L N/\∃O,(do eqGuard .eql ak (.tmp 51) (.tmp 52) M N;binOp .eql ak M N:Sem Value).run prog L=.ok (.bool O) L/\ab O (∃P,Sv ax (vA b 0) (.agg #[vI 52,vI (i64.wrap (p+1)),vI 1]) L P/\∃Q R S,Rv ax (vA b 0) P (.agg #[vI Q,vI R,vI S])/\K (.tuple #[.slice none 0 0,.agg #[vI Q,vI R,vI S]]) P) (∃P:Nat,P<E/\D P (i64.wrap (F+1)) L)) (ab (decide ((n:Int) >=12)) (∃H,Sv ax (vA b 0) (.agg #[vI 53,vI (i64.wrap (p+1)),vI 1]) G H/\∃I J L,Rv ax (vA b 0) H (.agg #[vI I,vI J,vI L])/\K (.tuple #[.slice none 0 0,.agg #[vI I,vI J,vI L]]) H) (∃H,Ld ak (vA A 0) G H/\∃I J L M,(Instr.buildSlice aN 1 #[(0,H)]).run prog G=.ok (.slice J L M) I/\∃N O P Q,(Builtin.append_ #[aN,aN] aN #[.slice m n o,.slice J L M]).run prog I=.ok (.slice O P Q) N/\∃R:Nat,R<l/\k R O P Q (i64.wrap (p+1)) N)))))) (∃r,Sv ax (vA b 0) (.agg #[vI 0,vI 0,vI 0]) q r/\∃s t u,Rv ax (vA b 0) r (.agg #[vI s,vI t,vI u])/\K (.tuple #[.slice m n o,.agg #[vI s,vI t,vI u]]) r)))):Cf rb #[vS a] w (Ret K):=ru func40 [(16,[(4,.one .slice),(20,shI)]),(27,[]),(47,[(47,shI)])] h
theorem D3 (a:Option Addr)(b c:Nat)(d:Option Addr)(e f:Nat){w K}(h:ab ((b:Int) !=(e:Int)) (K (.bool false) w) (∃g:Nat->FP [shI],(∃i,g i (0:Int) w)/\∀i j,aP 14 (∀k,g i j k->ab (decide (j<(b:Int))) ((bx j (b:Int)/\Option.isSome a=true)/\∃l,(∀m,bW k m->Ld ak (aw a j 22) m l)/\(bx j (e:Int)/\Option.isSome d=true)/\∃m,(∀n,bW k n->Ld ak (aw d j 22) n m)/\∃n,(∀o,bW k o->(do eqGuard .neq ak (.tmp 19) (.tmp 23) l m;binOp .neq ak l m:Sem Value).run prog o=.ok (.bool n) o)/\∀o,bW k o->ab n (K (.bool false) o) (∃p:Nat,p<i/\g p (i64.wrap (j+1)) o)) (K (.bool true) k)))):Cf kr #[.slice a b c,.slice d e f] w (Ret K):=ru func16 [(14,[(13,shI)])] h
theorem Qn (y:lU):((y==[104,116,116,112]) || (y==[98,111,116,104]))=(j3 y==1 || j3 y==3)/\((y==[104,116,116,112,115]) || (y==[98,111,116,104]))=(j3 y==2 || j3 y==3):=by
 unfold j3;by_cases h1:y=[]
 ·subst h1;decide
 by_cases D:y=[104,116,116,112]
 ·subst D;decide
 by_cases E:y=[104,116,116,112,115]
 ·subst E;decide
 by_cases F:y=[98,111,116,104]
 ·subst F;decide
 ·rw[if_neg h1,if_neg D,if_neg E,if_neg F];simp[D,E,F]
theorem TG (y:lU):(!(j3 y==1 || j3 y==3) && !(j3 y==2 || j3 y==3))=decide (j3 y<1):=by
 unfold j3;split
 ·rfl
 split
 ·rfl
 split
 ·rfl
 split<;>rfl
theorem T3:(Value.agg bg)=sP.v:=rfl
def Wl (s:lU)(w:World)(v:Value)(w':World):Prop:=v=.tuple #[(dA s).1.v,vI (dA s).2.1,vI ((qL (bE 32 [] s) (dA s).2.2:Nat):Int)]/\bW w w'
set_option maxHeartbeats 1000000 in
theorem GL (s:lU)(er:s.length <=10000000)(w:World):Cf rc #[vS s] w (Ret (Wl s w)):=by
 apply D4;intro Y ag eg dn;have ac:=(dn▸ar w _:bW w ag)
 have b1:aB ag Y ak sP.cells:=aB.new eg dn;have eu:=b1.lt;have dg:∀{W:World} {p:Pat} {e k:Int} {j:Nat},p.ok->k=((qL (bE 32 [] s) j:Nat):Int)->dA s=(p,e,j)->bW ag W->∃wx,(Instr.storeAt ak (.pointer (some ⟨Y,0,none⟩)) p.v).run prog W=.ok () wx/\
  ∃O:Value,(aS ak (.pointer (some ⟨Y,0,none⟩))).run prog wx=.ok O wx/\Wl s w (.tuple #[O,vI e,vI k]) wx:=fun{W p e k j} o M bb V=>
  ck.fin (K:=λO wx=>Wl s w (.tuple #[O,vI e,vI k]) wx) (cs:=p.cells) (Pat.len o) (Pat.one p) (b1.below V) rfl (ae ac V ac.size) (by omega) λwx d8=>⟨by rw[bb,M];rfl,d8⟩
 have b6:∀{W:World} {e k:Int} {j:Nat},k=((qL (bE 32 [] s) j:Nat):Int)->dA s=(sP,e,j)->bW ag W->∃wx,(Instr.storeAt ak (.pointer (some ⟨Y,0,none⟩)) (.agg bg)).run prog W=.ok () wx/\
  ∃O:Value,(aS ak (.pointer (some ⟨Y,0,none⟩))).run prog wx=.ok O wx/\Wl s w (.tuple #[O,vI e,vI k]) wx:=λM bb V=>by rw[T3];exact dg rfl M bb V
 have put0:∀{W:World},bW ag W->∃wx,(Instr.storeAt ak (.pointer (some ⟨Y,0,none⟩)) (.agg bg)).run prog W=.ok () wx/\W.grownBy wx (some Y)/\∀{e k:Int} {j:Nat},k=((qL (bE 32 [] s) j:Nat):Int)->dA s=(sP,e,j)->∃O:Value,(aS ak (.pointer (some ⟨Y,0,none⟩))).run prog wx=.ok O wx/\Wl s w (.tuple #[O,vI e,vI k]) wx:=fun{W} V=>by
  obtain⟨wx,af,J,U⟩:=ck.store0 (P:=prog) (cs:=sP.cells) rfl (Pat.one _) (b1.below V) rfl;refine⟨wx,af,U,fun{e k j} M bb=>⟨_,aB.res (ck.load0 J rfl),by rw[bb,M];rfl,Below.put (ae ac V ac.size) U (by omega)⟩⟩
 refine aK (fq s 32 (by omega) ag) ?_;rintro _ D ⟨a,n,c,rfl,cb,ed,aa⟩;refine⟨a,n,c,rfl,?_⟩;have a8:dA s=if[]∈bE 32 [] s then(sP,131,0)else Rc (bE 32 [] s):=rfl;have cc:∀x∈bE 32 [] s,x.length <=s.length:=λx dr=>by have:=gp 32 s [] x dr;simpa using this
 generalize bE 32 [] s=L at*;have ei:=cb.len;subst ei;by_cases bq:L.length=4
 rotate_left
 ·have hp:dA s=(sP,131,0):=by rw[a8];split<;>first|exact LO bq|rfl
  exact jE (w:=D) False (gX (w:=D) true (ab.yes (by simpa using(by omega: ¬ ((L.length:Nat):Int)=4)) ⟨rfl,rfl⟩) (ab.yes rfl (b6 (j:=0) rfl hp aa))) λh=>h.elim
 obtain⟨k,x,y,z,rfl⟩:=Xa bq;have S:=cb.all;have I:∀{u:World} (i:Nat) (t:lU),bW D u->[k,x,y,z][i]? =some t->(Instr.loadAt ai (.pointer (aw a (i:Int) 1))).run prog u=.ok (vS t) u:=fun{u} i t H cd=>by
  obtain⟨b9,e⟩:=List.getElem?_eq_some_iff.1 cd;rw[<- e];exact(S.below H).text aI b9
 have bt:a.isSome=true:=S.isSome (i:=0) (show 0<4 by decide);have cl:∀{W wx:World} (i:Nat) (t:lU),bW D W->W.grownBy wx (some Y)->[k,x,y,z][i]? =some t->(Instr.loadAt ai (.pointer (aw a (i:Int) 1))).run prog wx=.ok (vS t) wx:=fun{W wx} i t V aj cd=>by
  obtain⟨b9,e⟩:=List.getElem?_eq_some_iff.1 cd;rw[<- e];exact((cb.below V).put (λg ef e=>by have:=ed g ef;omega) aj).all.text aI b9
 have dr:x.length <=s.length:=cc x (by simp);have es:y.length <=s.length:=cc y (by simp);have em:(0 <=(0:Int)/\(0:Int)<(([k,x,y,z].length:Nat):Int))/\a.isSome=true:=⟨⟨by decide,show(0:Int)<4 by decide⟩,bt⟩
 have bu:(0 <=(1:Int)/\(1:Int)<(([k,x,y,z].length:Nat):Int))/\a.isSome=true:=⟨⟨by decide,show(1:Int)<4 by decide⟩,bt⟩
 have ad:(0 <=(2:Int)/\(2:Int)<(([k,x,y,z].length:Nat):Int))/\a.isSome=true:=⟨⟨by decide,show(2:Int)<4 by decide⟩,bt⟩
 have cf:(0 <=(3:Int)/\(3:Int)<(([k,x,y,z].length:Nat):Int))/\a.isSome=true:=⟨⟨by decide,show(3:Int)<4 by decide⟩,bt⟩
 refine jE (w:=D) (k=Ho/\x≠[]/\y≠[]/\z≠[]) (gX (w:=D) (!(k==Ho) || (x==[]) || (y==[]) || (z==[])) ?_ (ab.of (λh=>b6 (j:=0) rfl ?_ aa) (λh=>⟨rfl,by simpa[and_assoc]using h⟩))) ?_
 ·refine ab.no rfl ⟨em,k,I 0 k (Below.refl _ _) rfl,ab.of (λh=>⟨rfl,by rw[h];rfl⟩) (λh=>⟨bu,x,I 1 x (Below.refl _ _) rfl,ab.of (λE=>⟨rfl,by rw[h,E];rfl⟩) (λE=>⟨ad,y,I 2 y (Below.refl _ _) rfl,ab.of (λav=>⟨rfl,by rw[h,E,av];rfl⟩) (λav=>⟨cf,z,I 3 z (Below.refl _ _) rfl,rfl,by rw[h,E,av];rfl⟩)⟩)⟩)⟩
 ·rw[a8];split
  ·rfl
  rename_i dk;rw[vZ,if_neg];rintro rfl;simp only[List.mem_cons,List.not_mem_nil,or_false,not_or]at dk;obtain⟨_,d3,d4,e3⟩:=dk;simp[Ne.symm d3,Ne.symm d4,Ne.symm e3]at h
 rintro⟨rfl,hx0,hy0,hz0⟩;have a8:dA s=M1 x y z:=by
  rw[a8,if_neg,vZ,if_pos rfl];simp only[List.mem_cons,List.not_mem_nil,or_false,not_or];exact⟨by decide,Ne.symm hx0,Ne.symm hy0,Ne.symm hz0⟩
 obtain⟨c2,c3⟩:=Qn y;let Z:Pat:=⟨false,jZ,j3 y==1 || j3 y==3,j3 y==2 || j3 y==3,z⟩
 refine⟨λp W=>∃F,p=some ⟨F,0,none⟩/\aB W F ak Z.cells/\D.heap.size <=F/\bW D W,?_,λev=>aP.of ?_ _⟩
 ·have b8:∀{b2 ac:Bool} {cv:lU},b2=(j3 y==1 || j3 y==3)->ac=(j3 y==2 || j3 y==3)->cv=z->∀F:Nat,D.heap.size <=F->∀bk:World,bW D bk->bk.heap[F]? =some (.cells bg ak)->
   ∃(wx_1:World),(Instr.storeAt ak (.pointer (some ⟨F,0,none⟩)) (⟨false,jZ,b2,ac,cv⟩:Pat).v).run prog bk=.ok () wx_1/\∃ch,(some ⟨F,0,none⟩:Option Addr)=some ⟨ch,0,none⟩/\aB wx_1 ch ak Z.cells/\D.heap.size <=ch/\bW D wx_1:=fun{b2 ac cv} h1 E av F M bk ek d9=>by
   subst h1 E av;obtain⟨wx,af,J,U⟩:=ck.store0 (P:=prog) (cs:=Z.cells) rfl (Pat.one _) (show aB bk F ak sP.cells from d9) rfl;exact⟨wx,af,F,rfl,J,M,Below.put ek U M⟩
  have an:=fun(u:World) (H:bW D u)=>I 2 y H rfl;have cn:=fun(u:World) (H:bW D u)=>I 3 z H rfl;refine⟨ad,ad,cf,y,an,ab.of (λh=>⟨y,an,ab.of (λE=>?_) (λE=>⟨ad,y,an,z,cn,b8 ?_ ?_ rfl⟩)⟩) (λh=>⟨ad,y,an,y,an,ab.of (λE=>⟨z,cn,b8 ?_ ?_ rfl⟩) (λE=>⟨ad,y,an,z,cn,b8 ?_ ?_ rfl⟩)⟩)⟩
  ·rw[beq_iff_eq]at h E;rw[h]at E;exact absurd E (by decide)
  ·rw[<- c2,h];rfl
  ·rw[<- c3,E];rfl
  ·rw[<- c2,h];rfl
  ·rw[<- c3,E];rfl
  ·rw[<- c2,h];rfl
  ·rw[<- c3,E];rfl
 rintro du ⟨F,rfl,c8,dm,b3⟩;simp only[map_some,gQ,Nat.zero_add];refine⟨bu,x,I 1 x b3 rfl,?_⟩;let pw:Pat:= { Z with wild:=Lib.hasPrefix x [42,46] }
 let N:=if Lib.hasPrefix x [42,46]=true then x.drop 2 else x;have ea:NZ x [42,46]=Lib.hasPrefix x [42,46]:=(EX x _).symm;refine⟨λt W=>t=N/\aB W F ak pw.cells/\bW D W,aK (rM x [42,46] du) ?_,λew=>aP.of ?_ _⟩
 ·rintro _ _ ⟨rfl,rfl⟩;rw[ea];refine⟨_,rfl,ab.of (λh=>?_) (λh=>⟨(if_neg (by rw[h];decide)).symm,?_,b3⟩)⟩
  ·obtain⟨wx,af,J,U⟩:=aB.store (P:=prog) KI c8 (i:=0) (v:=.bool true) rfl (by rw[Pat.len (show Z.ok from rfl)];decide) (by decide);refine⟨by trivial,wx,af,⟨by decide,?_⟩,?_⟩
   ·have:=Lib.hasPrefix_le h;simp at this;omega
   ·rintro _ rfl;refine⟨(if_pos h).symm,?_,Below.put b3 U dm⟩;have e:pw.cells=_:=rfl;rw[show pw= { Z with wild:=true } by show({ Z with wild:=Lib.hasPrefix x [42,46] } :Pat)=_;rw[h]];exact J
  ·rw[show pw=Z by show({ Z with wild:=Lib.hasPrefix x [42,46] } :Pat)=_;rw[h]];exact c8
 rintro dv ⟨rfl,c9,dd⟩;have eo:N.length <=x.length:=by show(if _ then _ else _:lU).length <=_;split<;>simp
 have dl:dA s=match bY N with
  |none=>(sP,31,1)
  |some h=>if Lib.hasPrefix x [42,46]=true/\h.kind≠1 then(sP,31,1)else if j3 y<1 then(sP,211,2)else if mN z=false then(sP,43,3)else(⟨Lib.hasPrefix x [42,46],h,j3 y==1 || j3 y==3,j3 y==2 || j3 y==3,z⟩,0,0):=a8
 generalize N=N at*;refine aK (ki N (by omega) dv) ?_;rintro _ en ⟨rfl,b4⟩;rw[iy];refine⟨_,_,rfl,?_⟩;have b0:((bY N).getD jZ).ok:=pD λg aj=>iX aj;generalize a0:(bY N).getD jZ=G at*;refine bn.new (zs:=jZ.cells) (cs:=G.cells) rfl (Hst.len b0) (Hst.one _) en λet ex eq dj eb=>?_;have de:=ae b4 eb b4.size;have ds:=c9.below de;have ep:=c9.lt;obtain⟨wx,af,J,U⟩:=bn.store (P:=prog) (Hst.len b0) (Hst.one _) ds (i:=1) (by rw[Pat.len (show pw.ok from rfl)];decide);let be:Pat:= { pw with host:=G }
 have bw:be.ok:=b0;have e:pw.cells.take 1++G.cells++pw.cells.drop (1+18)=be.cells:=by show _=.bool be.wild::(G.cells++be.tail);rfl
 rw[e]at J;have d7:=dj.grown U (fM (by have:=b4.size;omega));have bl:bW D wx:=Below.put (ae dd de dd.size) U dm;have dc:bW ag wx:=ae aa bl aa.size;refine⟨_,bn.load0 dj (Hst.len b0),by trivial,wx,af,?_⟩;have d1:(i64.wrap ((7:Int)+((length x:Nat):Int)))=((qL [Ho,x,y,z] 2:Nat):Int):=by
  rw[wrJ];show _=((1+((4+1)+((x.length+1)+0)):Nat):Int)
  omega
 have d2:i64.wrap ((i64.wrap ((8:Int)+((length x:Nat):Int)))+((length y:Nat):Int))=((qL [Ho,x,y,z] 3:Nat):Int):=by
  rw[wrJ (n:=(8:Int)+_),wrJ];show _=((1+((4+1)+((x.length+1)+((y.length+1)+0))):Nat):Int)
  omega
 refine jE (w:=wx) (∃g,bY N=some g/\ ¬ (Lib.hasPrefix x [42,46]=true/\g.kind≠1)) (gX (w:=wx) (!((bY N).isSome) || (Lib.hasPrefix x [42,46]&&(G.kind !=1))) ?_ (ab.of (λh=>b6 (j:=1) rfl ?_ dc) (λh=>⟨rfl,?_⟩))) ?_
 ·cases a9:bY N with
  |none=>exact ab.yes rfl ⟨rfl,rfl⟩
  |some g=>exact ab.no rfl ⟨by trivial,Lib.hasPrefix x [42,46],J.load1 j5 rfl (i:=0) rfl,ab.of (λh=>⟨by trivial,G.kind,d7.load1 eI rfl rfl,rfl,by rw[h];rfl⟩) (λh=>⟨rfl,by rw[h];rfl⟩)⟩
 ·rw[dl];cases a9:bY N with
  |none=>rfl
  |some g=>
   rw[a9]at h a0;obtain rfl:g=G:=a0;have h:(Lib.hasPrefix x [42,46]&&(g.kind !=1))=true:=h;rw[Bool.and_eq_true]at h;exact if_pos ⟨h.1,by simpa using h.2⟩
 ·cases a9:bY N with
  |none=>rw[a9]at h;cases h
  |some g=>
   rw[a9]at h a0;obtain rfl:g=G:=a0;have h:(Lib.hasPrefix x [42,46]&&(g.kind !=1))=false:=h;exact⟨g,rfl,λ⟨bq,d6⟩=>by rw[bq]at h;exact d6 (by simpa using h)⟩
 rintro⟨g,aj,M⟩;obtain rfl:g=G:=by rw[<- a0,aj];rfl
 have bs:dA s=if j3 y<1 then(sP,211,2)else if mN z=false then(sP,43,3)else(be,0,0):=by rw[dl,aj];exact if_neg M
 have df:∀{u:World},bW D u->bW D u.drew:=λh=>ae h (dJ _) h.size;refine jE (w:=wx) (¬ j3 y<1) (gX (w:=wx) (decide (j3 y<1)) ⟨by trivial,j3 y==1 || j3 y==3,J.load1 j5 rfl (i:=19) (mX bw 0),ab.of (λh=>⟨by trivial,j3 y==2 || j3 y==3,J.load1 j5 rfl (i:=20) (mX bw 1),rfl,by rw[<- TG,h];rfl⟩) (λh=>⟨rfl,by rw[<- TG,h];rfl⟩)⟩ (ab.of (λh=>?_) (λh=>⟨rfl,of_decide_eq_false h⟩))) ?_
 ·have R:=df bl;obtain⟨c4,cp,bp,b7⟩:=put0 (W:=wx.drew) (ae aa R aa.size);exact⟨λu=>(Instr.loadAt ai (.pointer (aw a (1:Int) 1))).run prog u=.ok (vS x) u,I 1 x R rfl,bu,x,λu H=>H,c4,cp,cl 1 x R bp rfl,b7 (j:=2) d1 (bs.trans (if_pos (of_decide_eq_true h)))⟩
 intro d5;rw[if_neg d5]at bs;refine⟨cf,z,I 3 z bl rfl,aK (pH z (by have:=cc z (by simp);omega) wx) ?_⟩;rintro _ e0 ⟨rfl,b5⟩;have b5:=b5.symm;subst b5;refine⟨_,rfl,ab.of (λh=>?_) (λh=>⟨_,ck.load0 J (Pat.len bw),dg (j:=0) bw rfl (bs.trans (if_neg (by simpa using h))) dc⟩)⟩;have R:=df bl;obtain⟨c4,cp,bp,b7⟩:=put0 (W:=wx.drew) (ae aa R aa.size);exact⟨λu=>(Instr.loadAt ai (.pointer (aw a (1:Int) 1))).run prog u=.ok (vS x) u/\(Instr.loadAt ai (.pointer (aw a (2:Int) 1))).run prog u=.ok (vS y) u,⟨I 1 x R rfl,I 2 y R rfl⟩,bu,x,λu H=>H.1,ad,y,λu H=>H.2,c4,cp,⟨cl 1 x R bp rfl,cl 2 y R bp rfl⟩,b7 (j:=3) d2 (bs.trans (if_pos (by simpa using h)))⟩
set_option maxHeartbeats 1000000 in
theorem GJ (s:lU)(w:World):Cf rb #[vS s] w (Ret (xE s w)):=by
 apply D0;intro ad y de b8;have af:=(b8▸ar w _:bW w y)
 have bq:aB y ad ax (nG (0,0,0)):=aB.new de b8;have ed:=bq.lt;have b1:∀{W:World} {a:Option Addr} {n c:Nat} (f:Flt),bW y W->(∀wx,bW w wx->W.grownBy wx (some ad)->xE s w (.tuple #[.slice a n c,vE f]) wx)->∃wx,(Instr.storeAt ax (.pointer (some ⟨ad,0,none⟩)) (vE f)).run prog W=.ok () wx/\
  ∃(p q r:Int),(aS ax (.pointer (some ⟨ad,0,none⟩))).run prog wx=.ok (.agg #[vI p,vI q,vI r]) wx/\xE s w (.tuple #[.slice a n c,.agg #[vI p,vI q,vI r]]) wx:=fun{W a n c} f F c4=>by
  obtain⟨wx,dn,ds,b3⟩:=di.store0 (P:=prog) (cs:=nG f) rfl (pC _) (bq.below F) rfl;exact⟨wx,dn,f.1,f.2.1,f.2.2,aB.res (di.load0 ds rfl),c4 wx (Below.put (ae af F af.size) b3 (by omega)) b3⟩
 have aa:∀{W:World} (f:Flt),EJ s=.inr f->f.1≠0->bW y W->_:=fun{W} f e av F=>b1 (a:=none) (n:=0) (c:=0) f F λwx B _=>⟨B,by rw[e];exact⟨rfl,av⟩⟩
 refine ab.of (λc1=>aa (54,1,1) (lO (by have:=of_decide_eq_true c1;omega)) (show(54:Int)≠0 by decide) (Below.refl _ _)) (λc1=>?_);have c1: ¬ 20000<s.length:=by have:=of_decide_eq_false c1;omega
 intro be w16 dd b7;have av:Sp y [ptO lS ak (some ⟨be,0,none⟩) 0 0 []] w16:=(Sp.nil y).add (b7▸ar y _) (p:=ptO lS ak (some ⟨be,0,none⟩) 0 0 []) (Ow.newF vC dd b7 (l:=[]) (jc.nil _ _ _) (by decide)) λb F=>by have F:b∈(fm (some (⟨be,0,none⟩:Addr))).toList:=F;have:=bV.1 F;simp[fm]at this;omega
 refine aK (nB s (by omega) w16) ?_;rintro _ ef ⟨b,nb,O,rfl,ch,c2,cn⟩;have h1:=av.add cn (p:=ptO tS ai b nb O (fF s)) ch λg U=>c2 g (bV.1 U);have c8:=nU s;have d4:=lP s;have hV:EJ s=jX CK 0 ((fF s).drop 0) []:=jY c1;generalize fF s=L at*;have dg:=ch.len;subst dg;refine⟨_,_,_,rfl,λm a n c i W=>∃(j:Nat) (out:List Pat),j <=L.length/\i=(j:Int)/\m=L.length-j/\out.length <=12/\Sp y [ptO tS ai b L.length O L,ptO lS ak a n c out] W/\EJ s=jX CK j (L.drop j) out,
  ⟨_,0,[],Nat.zero_le _,rfl,rfl,by decide,h1,hV⟩,λm a n c i=>aP.of ?_ _⟩
 rintro bp ⟨j,out,d5,rfl,rfl,b4,E,R⟩;have cf:Ow tS ai bp NoB b L.length O L:=E.at 0 rfl;have cl:Ow lS ak bp NoB a n c out:=E.at 1 rfl;have df:=cl.len;subst df;refine ab.of (λag=>?_) (λag=>?_)<;>simp only[dTx,dFx]at ag
 rotate_left
 ·have b2:bo y.heap.size a:=λg U=>E.low (ptO lS ak a out.length c out) (mem_cons_of_mem _ mem_cons_self) g (bV.2 U);refine b1 (0,0,0) E.bw λwx B g=>⟨B,?_⟩
  rw[R,nM CK (by omega)];exact⟨_,_,_,rfl,cl.put (λg U e=>by have:=b2 g U;omega) g,b2.mono af.size⟩
 have H:j<L.length:=by omega
 have cv:i64.wrap ((j:Int)+1)=(j:Int)+1:=wrJ;have d9:=c8 _ (getElem_mem H);refine⟨⟨⟨by omega,ag⟩,cf.all.isSome H⟩,L[j],cf.all.text aI H,?_⟩;rw[cv];generalize b9:L[j]=x at*;have next:∀{W:World} {a:Option Addr} {n c:Nat} {Y:List Pat},CK j out L[j]=.inl Y->Y.length <=12->Sp y [ptO tS ai b L.length O L,ptO lS ak a n c Y] W->∃cc:Nat,cc<L.length-j/\∃(V:Nat) (out:List Pat),V <=L.length/\(j:Int)+1=(V:Int)/\cc=L.length-V/\out.length <=12/\Sp y [ptO tS ai b L.length O L,ptO lS ak a n c out] W/\EJ s=jX CK V (L.drop V) out:=
  fun{W a n c Y} e E h=>⟨L.length-(j+1),by omega,j+1,Y,by omega,rfl,rfl,E,h,by rw[R,je H e]⟩
 have cd:x=[]\/x.head?=some 35->CK j out L[j]=.inl out:=λh=>by rw[b9];unfold CK;rw[if_pos h]
 refine iV (λW=>W=bp/\ ¬ (x=[]\/x.head?=some 35)) ?_ ?_
 ·refine ab.of (λaj=>next (cd (.inl (eq_of_beq aj))) b4 E) (λaj=>?_);cases x with
  |nil=>cases aj
  |cons d3 r=>
   refine⟨⟨by decide,by simp only[length_cons];omega⟩,ab.of (λM=>next (cd (.inr ?_)) b4 E) (λM=>⟨rfl,?_⟩)⟩
   ·rw[FI rfl]at M;have:=Q4 (k:=35) M;rw[List.head?_cons,UInt8.toNat_inj.1 (show d3.toNat=(35:UInt8).toNat from this)]
   ·rw[FI rfl]at M;have:=Nx (k:=35) M;rintro(e|e)
    ·cases e
    ·rw[List.head?_cons]at e;cases e;exact this rfl
 rintro W ⟨rfl,dj⟩;have G:CK j out L[j]=if(dA x).2.1≠0 then .inr ((dA x).2.1,(qL (bE 32 [] x) (dA x).2.2:Nat))else if out.any (qn (dA x).1)=true then .inr (52,1)else if out.length=12 then .inr (53,1)else .inl (out++[(dA x).1]):=by rw[b9];unfold CK;rw[if_neg dj]
 refine aK (GL x (by omega) W) ?_;rintro _ dv ⟨rfl,bt⟩;have I:=Gx x;refine⟨_,_,_,rfl,ck.new (zs:=sP.cells) (cs:=(dA x).1.cells) rfl (Pat.len I) (Pat.one _) dv λeb d2 d8 b5 dc=>?_⟩;have bb:=E.below (ae bt dc bt.size);refine ab.of (λc5=>?_) (λc5=>?_)
 ·have b6:(dA x).2.1≠0:=by simpa using c5
  exact aa ((dA x).2.1,(j:Int)+1,_) (by rw[R,kw H (G.trans (if_pos b6))]) b6 bb.bw
 have c5:(dA x).2.1=0:=by simpa using c5
 rw[if_neg (by rw[c5];decide)]at G;refine⟨λm i J=>∃k:Nat,k <=out.length/\i=(k:Int)/\m=out.length-k/\(∀q∈out.take k,qn (dA x).1 q=false)/\bW d2 J,⟨_,0,by omega,rfl,rfl,λq D=>(by simp at D),Below.refl _ _⟩,λm i=>aP.of ?_ _⟩;rintro J ⟨k,d6,rfl,rfl,a0,Z⟩;have a9:=bb.below Z;have bk:Ow lS ak J NoB a out.length c out:=a9.at 1 rfl;refine ab.of (λc6=>?_) (λc6=>?_)<;>simp only[dTx,dFx]at c6
 ·have ac:k<out.length:=by omega
  obtain⟨dk,bl⟩:=lK bk.all ac;refine⟨⟨⟨by omega,c6⟩,bk.all.isSome ac⟩,_,dk,ck.new (zs:=sP.cells) (cs:=out[k].cells) rfl (Pat.len bl) (Pat.one _) J λea du d7 c3 c9=>?_⟩;have B11:=ae Z c9 Z.size;refine⟨_,ck.load0 (b5.below B11) (Pat.len I),_,ck.load0 c3 (Pat.len bl),_,Tz I bl du,ab.of (λan=>?_) (λan=>?_)⟩
  ·have a8:out.any (qn (dA x).1)=true:=List.any_eq_true.2 ⟨_,getElem_mem ac,an⟩;exact aa (52,(j:Int)+1,1) (by rw[R,kw H (G.trans (if_pos a8))]) (show(52:Int)≠0 by decide) (bb.below B11).bw
  ·refine⟨out.length-(k+1),by omega,k+1,by omega,by rw[wrJ];omega,rfl,λq D=>?_,B11⟩;rw[take_succ_eq_append_getElem ac]at D;rcases List.mem_append.1 D with D|D
   ·exact a0 q D
   ·rw[List.mem_singleton.1 D];exact an
 ·obtain rfl:k=out.length:=by omega
  rw[take_length]at a0;have a8:out.any (qn (dA x).1)=false:=by
   rw[List.any_eq_false];intro q D h;rw[a0 q D]at h;cases h
  rw[if_neg (by rw[a8];decide)]at G;refine ab.of (λb0=>?_) (λb0=>?_)<;>simp only[ge_iff_le,dTx,dFx]at b0
  ·exact aa (53,(j:Int)+1,1) (by rw[R,kw H (G.trans (if_pos (by omega)))]) (show(53:Int)≠0 by decide) a9.bw
  ·rw[if_neg (by omega)]at G;obtain⟨_,d1,bs,cb,bu,dr,dm,cp,dl⟩:=M5 (ty:=aN) vC dy ko (by decide) bk rfl rfl (x:=(dA x).1) (vs:=(dA x).1.cells) ⟨rfl,I⟩ (cm:=1) (by omega);exact⟨_,ck.load0 (b5.below Z) (Pat.len I),_,_,_,_,Pq I J,d1,bs,cb,bu,dr,next G (by simp;omega) (a9.upd 1 rfl cp (p':=ptO lS ak bs cb bu (out++[(dA x).1])) dm dl.fp)⟩
theorem XL {c d:Pat}(o:c.ok)(p:d.ok){x y:Operand}(w:World):((do eqGuard .neq ak x y c.v d.v;binOp .neq ak c.v d.v:Sem Value)).run prog w=.ok (.bool (!qn c d)) w:=
 Ql Ir (OB o p) w
theorem GK {V c0:Nat}{xs:List Pat}{Y c1:Nat}{ys:List Pat}(M:Sl lS w A p V c0 xs)(O:Sl lS w B q Y c1 ys)(an:xs.length <=1000000):
 Cf kr #[.slice p V c0,.slice q Y c1] w (Ret λv w'=>∃b:Bool,v=.bool b/\(b=true↔xs=ys)/\bW w w'):=by
 have af:=M.1;have ad:=O.1;subst af ad;apply D3;refine ab.of (λh=>?_) (λh=>?_)
 ·refine⟨_,rfl,⟨λe=>(by cases e),?_⟩,Below.refl _ _⟩;rintro rfl;simp at h
 have ac:xs.length=ys.length:=by
  have:((xs.length:Nat):Int)=((ys.length:Nat):Int):=by simpa using h
  omega
 refine⟨λm i w'=>∃k:Nat,k <=xs.length/\i=(k:Int)/\m=xs.length-k/\xs.take k=ys.take k/\bW w w',⟨_,0,by omega,rfl,rfl,rfl,Below.refl _ _⟩,λm i=>aP.of ?_ _⟩;rintro G ⟨k,aj,rfl,rfl,heq,y⟩;refine ab.of (λH=>?_) (λH=>?_)<;>simp only[dTx,dFx]at H
 ·have I:k<xs.length:=by omega
  have J:k<ys.length:=by omega
  have Z:=λu (D:bW G u)=>lK (M.below (ae y D y.size)) I;have aa:=λu (D:bW G u)=>lK (O.below (ae y D y.size)) J;have F:=(Z G (Below.refl _ _)).2;have R:=(aa G (Below.refl _ _)).2;refine⟨⟨⟨by omega,H⟩,M.isSome I⟩,xs[k].v,λu D=>(Z u D).1,⟨⟨by omega,by omega⟩,O.isSome (i:=k) J⟩,ys[k].v,λu D=>(aa u D).1,_,λu _=>XL F R u,λav ag=>?_⟩;have U:=ae y ag y.size;refine ab.of (λE=>?_) (λE=>?_)
  ·refine⟨_,rfl,⟨λe=>(by cases e),?_⟩,U⟩;rintro rfl;rw[(I1 F F).2 rfl]at E;cases E
  ·have E:xs[k]=ys[k]:=(I1 F R).1 (by simpa using E);refine⟨xs.length-(k+1),by omega,k+1,by omega,by rw[wrJ];omega,rfl,?_,U⟩;rw[take_succ_eq_append_getElem I,take_succ_eq_append_getElem J,heq,E]
 ·obtain rfl:k=xs.length:=by omega
  rw[take_length,ac,take_length]at heq;exact⟨_,rfl,⟨λ_=>heq,λ_=>rfl⟩,y⟩
end Go.Pk
