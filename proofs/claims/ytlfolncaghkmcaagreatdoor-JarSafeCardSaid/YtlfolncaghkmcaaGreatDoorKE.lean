/- What the laws lean on: AddrA, AddrP, AddrB, AddrC, AddrD, AddrE, AddrF, AddrG, AddrH, AddrI, Eq, HostA, HostB; what is used. Its conditions: none. -/
import Derived.Test.YtlfolncaghkmcaaGreatDoorKD
import Derived.Laws.CopyRow
import Derived.Lib.ItoaLen
import Derived.Laws.StructEq
variable {n i j k:Nat}{s:List UInt8}{t:Go.TypeId}{o:List Nat}{w:Go.World}{A:Go.Pk.Bl}{P:Go.Program}
open Go.IntKind (i64)
open Go.Proofs.Tryz
set_option linter.unusedVariables false
set_option linter.unusedSimpArgs false
set_option maxRecDepth 20000
namespace Go.Pk
open Go.RowKit (Below)
open Go.Proofs
def adC (a:List UInt8):List Value:=a.map λc=>Value.int .u8 ((c.toNat:Nat):Int)
def adV (a:List UInt8):Value:=.agg (adC a).toArray
def ad0:List UInt8:=List.replicate 16 0
theorem ja (a:List UInt8):(adC a).length=a.length:=by simp[adC]
theorem rH (a:List UInt8):Ie (adC a):=Xf a
theorem Fg (a:List UInt8)(i:Nat)(c:UInt8):(adC a).set i (.int .u8 ((c.toNat:Nat):Int))=adC (a.set i c):=by unfold adC;rw[List.map_set]
theorem tK {a:List UInt8}(h:i<a.length):(adC a)[i]? =some (.int .u8 ((a[i].toNat:Nat):Int)):=by unfold adC;rw[List.getElem?_map,List.getElem?_eq_getElem h];rfl
def adT:Option (List UInt8)->Value
 |some a=>.tuple #[adV a,.bool true]
 |none=>.tuple #[adV ad0,.bool false]
def K6 (x:List UInt8):Prop:=JU x/\jT x <=255
instance  (x:List UInt8):Decidable (K6 x):=by unfold K6;infer_instance
def ipB (x:List UInt8):UInt8:=UInt8.ofNat (jT x).toNat
def v4V (s:List UInt8):Option (List UInt8):=if(bY 46 [] s).length=4/\∀x∈bY 46 [] s,K6 x then some (List.replicate 12 0++(bY 46 [] s).map ipB)else none
theorem Ve {x:List UInt8}(h:K6 x):IntKind.u8.wrap (jT x)=(((ipB x).toNat:Nat):Int):=by
 have D:0 <=jT x:=by
  have:=h.1.1
  unfold fi at this
  rw[Bool.and_eq_true]at this
  exact(lM x 0 (by decide) (λc q=>List.all_eq_true.1 this.2 c q)).1
 have e:=h.2
 rw[wrap_u8 D e]
 unfold ipB
 rw[UInt8.toNat_ofNat']
 omega
def v4S (L:List (List UInt8))(k:Nat):List UInt8:=List.replicate 12 0++(L.take k).map ipB++List.replicate (4-k) 0
theorem NJ {L:List (List UInt8)}(h:L.length=4)(e:k <=4):(v4S L k).length=16:=by simp[v4S];omega
theorem TR {L:List (List UInt8)}(h:L.length=4)(q:k<4):(v4S L k).set (12+k) (ipB (L[k]'(by omega)))=v4S L (k+1):=by
 unfold v4S
 have e:(List.replicate 12 (0:UInt8)++(L.take k).map ipB).length=12+k:=by simp;omega
 rw[List.set_append_right _ _ (by omega),e,Nat.sub_self,List.take_succ_eq_append_getElem (by omega),List.map_append]
 rw[show 4-k=(4-(k+1))+1 by omega,List.replicate_succ (n:=4-(k+1)),List.set_cons_zero]
 simp
theorem Xm {L:List (List UInt8)}(h:L.length=4):v4S L 4=List.replicate 12 0++L.map ipB:=by unfold v4S;rw[List.take_of_length_le (by omega)];simp
theorem Vl (h: ¬ ((bY 46 [] s).length=4/\∀x∈bY 46 [] s,K6 x)):v4V s=none:=if_neg h
theorem dN:Whl prog aK 16:=⟨⟨_,_,PP⟩,by kernel_rfl⟩
theorem Dd (s:List UInt8)(an:s.length <=9223372036854775000)(w:World):
 Cf xg #[vS s] w (Ret λv w'=>v=(if JU s then .tuple #[vI (jT s),.bool true]else .tuple #[vI 0,.bool false])/\w'=w):=by
 apply II
 refine cw (λw'=>JU s/\w'=w) ?_ ?_
 ·refine az (i6 s (by omega) w) ?_
  rintro _ w' ⟨rfl,V⟩
  rw[V]
  refine⟨_,rfl,?_⟩
  have H: ¬ JU s->(.tuple #[vI 0,.bool false]:Value)=(if JU s then .tuple #[vI (jT s),.bool true]else .tuple #[vI 0,.bool false])/\w=w:=λe=>⟨by rw[if_neg e],rfl⟩
  refine ai.of (λh=>H λe=>by rw[e.1]at h;cases h) (λh=>?_)
  have X:fi s=true:=by simpa using h
  refine ai.of (λq=>H λe=>by have:=e.2.1;simp at q;omega) (λq=>?_)
  have M:s.length <=18:=by simp at q;omega
  refine ai.of (λI=>?_) (λI=>?_) <;> simp only[dTx,dFx]at I
  ·have ac:1<s.length:=by omega
   refine⟨⟨by decide,by omega⟩,?_⟩
   have E:=byte_at (s:=s) (k:=0) (by omega)
   rw[show((0:Nat):Int)=0 from rfl]at E
   have U:=fq s[0] 48
   rw[show(((48:UInt8).toNat:Nat):Int)=48 from rfl]at U
   rw[E,U]
   have Z:s.head?=some s[0]:=by rw[List.head?_eq_getElem?,List.getElem?_eq_getElem]
   refine ai.of (λD=>H λe=>e.2.2 ⟨?_,ac⟩) (λD=>⟨⟨X,M,λe=>?_⟩,rfl⟩)
   ·rw[beq_iff_eq]at D;rw[Z,D]
   ·rw[Z]at e
    rw[Option.some.inj e.1]at D;simp at D
  ·exact⟨⟨X,M,λe=>I (by omega)⟩,rfl⟩
 ·rintro w' ⟨e,V⟩
  rw[V]
  have Y:∀c∈s,gO c=true:=by
   have:=e.1
   unfold fi at this
   rw[Bool.and_eq_true]at this
   exact λc G=>List.all_eq_true.1 this.2 c G
  have M:=e.2.1
  refine⟨λm v i w'=>∃k:Nat,k <=s.length/\i=(k:Int)/\m=s.length-k/\v=jT (s.take k)/\w'=w,⟨_,0,by omega,rfl,rfl,rfl,rfl⟩,?_⟩
  intro m v i
  refine aP.of ?_ _
  rintro w' ⟨k,aj,rfl,rfl,rfl,ad⟩
  rw[ad]
  refine ai.of (λh=>?_) (λh=>?_) <;> simp only[dTx,dFx]at h
  ·have O:k<s.length:=by omega
   rw[byte_at O]
   have G:=Y s[k] (List.getElem_mem O)
   have U:=qi s[k]
   have E:=lM (s.take k) 0 (by decide) (λc G=>Y c (List.mem_of_mem_take G))
   have al:(10:Int) ^ (s.take k).length <=10 ^ 17:=by
    have:(s.take k).length <=17:=by rw[List.length_take];omega
    exact_mod_cast Nat.pow_le_pow_right (by decide:0<10) this
   have ag:0 <=jT (s.take k)/\jT (s.take k)<10 ^ 17:=⟨E.1,by
    have q:=E.2
    have:jT (s.take k)<(0+1)*10 ^ (s.take k).length:=q
    omega⟩
   refine⟨⟨by omega,h⟩,s.length-(k+1),by omega,k+1,by omega,by rw[wrap_i64 (by omega) (by omega)];omega,rfl,?_,rfl⟩
   rw[wrap_i64 (n:=jT (s.take k)*10) (by omega) (by omega),wrap_i64 (n:=((s[k].toNat:Nat):Int)) (by omega) (by omega),wrap_i64 (n:=_+_) (by omega) (by omega),wrap_i64 (by omega) (by omega),List.take_succ_eq_append_getElem O]
   unfold jT
   rw[List.foldl_append]
   show _=_*10+(((s[k].toNat:Nat):Int)-48)
   omega
  ·have:k=s.length:=by omega
   subst this
   rw[List.take_length,if_pos e];exact⟨rfl,rfl⟩
theorem QX (s:List UInt8)(c7:s.length<4294967281)(w:World)(cr:Env w):Cf Jy #[vS s] w (Ret λv w'=>v=adT (v4V s)/\bW w w'):=by
 apply PG
 intro a0 a9 c0 b6
 have X:=(b6▸au w _:bW w a9)
 have M:av a9 a0 aK (adC ad0):=av.new c0 b6
 refine az (sI s 46 c7 a9 (cr.step X)) ?_
 rintro _ cb ⟨a,n,c,rfl,al,dd,bz⟩
 have H:=ah X bz X.size
 have O:=M.below bz
 have c4:=al.len
 have b1:∀x∈bY 46 [] s,x.length <=s.length:=λx E=>by simpa using tg 46 s [] x E
 have b9:∀{bc:World},v4V s=none->av bc a0 aK (adC ad0)->bW w bc->_:=fun{bc} ar ch cn=>dN.fin (K:=λa8 G=>(.tuple #[a8,.bool false]:Value)=adT (v4V s)/\bW w G) (cs:=adC ad0) rfl (rH _) ch rfl cn (by omega) λG Z=>⟨by rw[ar];rfl,Z⟩
 refine⟨_,_,_,rfl,ai.of (λV=>?_) (λV=>?_)⟩
 ·refine b9 (Vl λe=>?_) O H
  rw[bne_iff_ne]at V;omega
 have q:(bY 46 [] s).length=4:=by simp at V;omega
 intro k5 cc c2 b7
 have ac:=(b7▸au cb _:bW cb cc)
 have cl:=ah H ac H.size
 have cf:=O.below ac
 have cj:av cc k5 aK (adC ad0):=av.new c2 b7
 have b3:=al.below ac
 have dk:=O.lt
 have c6:∀g,j0 a=some g->g≠k5:=λg ct bj=>by have:=al.lt g ct;omega
 have c3:w.heap.size <=k5:=by have:=H.size;omega
 obtain⟨L,bs⟩:∃L,L=bY 46 [] s:=⟨_,rfl⟩
 rw[<- bs]at b3 q b1 c4
 have b5:v4V s=if L.length=4/\∀x∈L,K6 x then some (List.replicate 12 0++L.map ipB)else none:=by rw[bs];rfl
 refine⟨λm i w'=>∃k:Nat,k <=4/\i=(k:Int)/\m=4-k/\(∀j (I:j<k) (h:j<L.length),K6 L[j])/\av w' k5 aK (adC (v4S L k))/\av w' a0 aK (adC ad0)/\Ow tS ao w' NoB a n c L/\bW w w',
  ⟨_,0,by omega,rfl,rfl,λj I=>by omega,cj,cf,b3,cl⟩,?_⟩
 intro m i
 refine aP.of ?_ _
 rintro c9 ⟨k,de,rfl,rfl,b4,bk,U,an,Y⟩
 refine ai.of (λh=>?_) (λh=>?_) <;> simp only[dTx,dFx]at h
 ·have c1:k<4:=by omega
  have aj:k<L.length:=by omega
  refine⟨⟨⟨by omega,h⟩,an.all.isSome (by omega)⟩,_,an.all.text ax aj,?_⟩
  have dg:=b1 L[k] (List.getElem_mem aj)
  refine az (Da L[k] (by omega) c9) ?_
  rintro _ bb ⟨rfl,D⟩
  have bq:=ah Y D Y.size
  have c5: ¬ K6 L[k]->v4V s=none:=λE=>by
   rw[b5,if_neg λe=>E (e.2 _ (List.getElem_mem aj))]
  refine⟨if JU L[k]then jT L[k]else 0,if JU L[k]then true else false,by split <;> rfl,?_⟩
  refine⟨λw'=>w'=bb/\K6 L[k],?_,?_⟩
  ·refine eJ (B:=λJ=>ai _ (J true bb) (J _ bb)) (!decide (K6 L[k])) (ai.of (λh1=>⟨rfl,?_⟩) (λh1=>⟨rfl,?_⟩)) ?_
   ·have: ¬ JU L[k]:=λe=>by rw[if_pos e]at h1;cases h1
    have M: ¬ K6 L[k]:=λe=>this e.1
    simp[M]
   ·have b2:JU L[k]:=Decidable.byContradiction λe=>by rw[if_neg e]at h1;cases h1
    rw[if_pos b2,Bool.eq_iff_iff]
    simp[K6,b2]
   ·refine ai.of (λh1=>b9 (c5 (by simpa using h1)) (U.below D) bq) (λh1=>⟨rfl,by simpa using h1⟩)
  ·refine aP.of ?_ _
   rintro dl ⟨b8,ag⟩
   rw[b8];clear b8
   have ce:i64.wrap (12+(k:Int))=((12+k:Nat):Int):=by rw[wrap_i64 (by omega) (by omega)];omega
   try dsimp only
   rw[ce,ni,if_pos ag.1,Ve ag,Nat.zero_add]
   refine⟨⟨⟨by omega,by omega⟩,rfl⟩,?_⟩
   have ck:=bk.below D
   obtain⟨dc,c8,bp,ad⟩:=ck.put (P:=prog) zX (i:=12+k) (v:=.int .u8 (((ipB L[k]).toNat:Nat):Int)) (by rw[ja,NJ q (by omega)];omega) rfl rfl
   rw[Fg,TR q c1]at bp
   refine⟨dc,c8,4-(k+1),by omega,k+1,by omega,by rw[wrap_i64 (by omega) (by omega)];omega,rfl,?_,bp,(U.below D).grown ad (bw (by omega)),(an.below D).put c6 ad,Below.put bq ad c3⟩
   intro j I cu
   by_cases bj:j=k
   ·subst bj;exact ag
   ·exact b4 j (by omega) cu
 ·have:k=4:=by omega
  subst this
  have cp:∀x∈L,K6 x:=λx E=>by
   obtain⟨j,I,rfl⟩:=List.mem_iff_getElem.1 E
   exact b4 j (by omega) I
  have ar:v4V s=some (v4S L 4):=by rw[b5,if_pos ⟨q,cp⟩,Xm q]
  have b0:(adC (v4S L 4)).length=16:=by rw[ja,NJ q (by omega)]
  refine⟨_,dN.load0 bk b0,?_⟩
  exact dN.fin (K:=λa8 G=>(.tuple #[a8,.bool true]:Value)=adT (v4V s)/\bW w G) b0 (rH _) U rfl Y (by omega) λG Z=>⟨by rw[ar];rfl,Z⟩
theorem PE (s:List UInt8)(dc:s.length <=100000000)(w:World):Cf Hg #[vS s] w (Ret λv w'=>v=adT (v4V s)/\bW w w'):=by
 apply OC
 intro ar M c4 b8
 have V:=(b8▸au w _:bW w M)
 have H:av M ar aK (adC ad0):=av.new c4 b8
 intro k5 ce c6 b9
 have b0:=(b9▸au M _:bW M ce)
 have ct:=ah V b0 V.size
 have cp:av ce k5 aK (adC ad0):=av.new c6 b9
 obtain⟨cf,dd,bc,b1⟩:=dN.store0 (cs:=adC ad0) rfl (rH _) cp rfl
 refine⟨cf,dd,?_⟩
 have b2:w.heap.size <=k5:=by have:=V.size;omega
 have dr:=H.lt
 have ck:=(H.below b0).grown b1 (bw (by omega))
 have bq:=Below.put ct b1 b2
 refine az (eH s 46 dc cf) ?_
 rintro _ d0 ⟨a,n,c,rfl,aj,c1,Z⟩
 have bp:=ah bq Z bq.size
 have bb:=ck.below Z
 have cn:=bc.below Z
 have c7:=aj.len
 have b4:∀x∈bY 46 [] s,x.length <=s.length:=λx E=>by simpa using tg 46 s [] x E
 have cc:∀{a8:World},v4V s=none->av a8 ar aK (adC ad0)->bW w a8->_:=fun{a8} an cl cu=>dN.fin (K:=λa0 G=>(.tuple #[a0,.bool false]:Value)=adT (v4V s)/\bW w G) (cs:=adC ad0) rfl (rH _) cl rfl cu (by omega) λG Y=>⟨by rw[an];rfl,Y⟩
 refine⟨_,_,_,rfl,ai.of (λU=>?_) (λU=>?_)⟩
 ·refine cc (Vl λe=>?_) bb bp
  rw[bne_iff_ne]at U;omega
 have q:(bY 46 [] s).length=4:=by simp at U;omega
 have ds:=bc.lt
 have c9:∀g,j0 a=some g->g≠k5:=λg c2 a9=>by have:=c1 g c2;omega
 obtain⟨L,bz⟩:∃L,L=bY 46 [] s:=⟨_,rfl⟩
 rw[<- bz]at aj q b4 c7
 have b7:v4V s=if L.length=4/\∀x∈L,K6 x then some (List.replicate 12 0++L.map ipB)else none:=by rw[bz];rfl
 refine⟨λm i w'=>∃k:Nat,k <=4/\i=(k:Int)/\m=4-k/\(∀j (I:j<k) (h:j<L.length),K6 L[j])/\av w' k5 aK (adC (v4S L k))/\av w' ar aK (adC ad0)/\Ow tS ao w' NoB a n c L/\bW w w',
  ⟨_,0,by omega,rfl,rfl,λj I=>by omega,cn,bb,aj,bp⟩,?_⟩
 intro m i
 refine aP.of ?_ _
 rintro ch ⟨k,dl,rfl,rfl,b6,bj,O,al,X⟩
 refine ai.of (λh=>?_) (λh=>?_) <;> simp only[dTx,dFx]at h
 ·have c5:k<4:=by omega
  have ag:k<L.length:=by omega
  refine⟨⟨⟨by omega,by omega⟩,al.all.isSome (by omega)⟩,_,al.all.text ax ag,?_⟩
  have dn:=b4 L[k] (List.getElem_mem ag)
  refine az (Dd L[k] (by omega) ch) ?_
  rintro _ w7 ⟨rfl,dg⟩
  have D:bW ch w7:=dg▸Below.refl _ _
  have bs:=ah X D X.size
  have c8: ¬ K6 L[k]->v4V s=none:=λE=>by
   rw[b7,if_neg λe=>E (e.2 _ (List.getElem_mem ag))]
  refine⟨if JU L[k]then jT L[k]else 0,if JU L[k]then true else false,by split <;> rfl,?_⟩
  refine⟨λw'=>w'=w7/\K6 L[k],?_,?_⟩
  ·refine eJ (B:=λJ=>ai _ (J true w7) (J _ w7)) (!decide (K6 L[k])) (ai.of (λh1=>⟨rfl,?_⟩) (λh1=>⟨rfl,?_⟩)) ?_
   ·have: ¬ JU L[k]:=λe=>by rw[if_pos e]at h1;cases h1
    have H: ¬ K6 L[k]:=λe=>this e.1
    simp[H]
   ·have b5:JU L[k]:=Decidable.byContradiction λe=>by rw[if_neg e]at h1;cases h1
    rw[if_pos b5,Bool.eq_iff_iff]
    simp[K6,b5]
   ·refine ai.of (λh1=>cc (c8 (by simpa using h1)) (O.below D) bs) (λh1=>⟨rfl,by simpa using h1⟩)
  ·refine aP.of ?_ _
   rintro d1 ⟨cb,ad⟩
   rw[cb];clear cb
   have cj:i64.wrap (12+(k:Int))=((12+k:Nat):Int):=by rw[wrap_i64 (by omega) (by omega)];omega
   try dsimp only
   rw[cj,ni,if_pos ad.1,Ve ad,Nat.zero_add]
   refine⟨⟨⟨by omega,by omega⟩,rfl⟩,?_⟩
   have cr:=bj.below D
   obtain⟨dk,de,bk,ac⟩:=cr.put (P:=prog) zX (i:=12+k) (v:=.int .u8 (((ipB L[k]).toNat:Nat):Int)) (by rw[ja,NJ q (by omega)];omega) rfl rfl
   rw[Fg,TR q c5]at bk
   refine⟨dk,de,4-(k+1),by omega,k+1,by omega,by rw[wrap_i64 (by omega) (by omega)];omega,rfl,?_,bk,(O.below D).grown ac (bw (by omega)),(al.below D).put c9 ac,Below.put bs ac b2⟩
   intro j I c3
   by_cases a9:j=k
   ·subst a9;exact ad
   ·exact b6 j (by omega) c3
 ·have:k=4:=by omega
  subst this
  have c0:∀x∈L,K6 x:=λx E=>by
   obtain⟨j,I,rfl⟩:=List.mem_iff_getElem.1 E
   exact b6 j (by omega) I
  have an:v4V s=some (v4S L 4):=by rw[b7,if_pos ⟨q,c0⟩,Xm q]
  have b3:(adC (v4S L 4)).length=16:=by rw[ja,NJ q (by omega)]
  refine⟨_,dN.load0 bj b3,?_⟩
  exact dN.fin (K:=λa0 G=>(.tuple #[a0,.bool true]:Value)=adT (v4V s)/\bW w G) b3 (rH _) O rfl X (by omega) λG Y=>⟨by rw[an];rfl,Y⟩
def IW (c:UInt8):Nat:=if 48 <=c.toNat/\c.toNat <=57 then c.toNat-48 else if 97 <=c.toNat/\c.toNat <=102 then c.toNat-87 else if 65 <=c.toNat/\c.toNat <=70 then c.toNat-55 else 16
def C8 (c:UInt8):Bool:=decide (IW c<16)
def Ck (s:List UInt8):Nat:=s.foldl (λn c=>n*16+IW c) 0
def pU (s:List UInt8):Bool:=decide (1 <=s.length)&&decide (s.length <=4)&&s.all C8
def oP (s:List UInt8):List (List UInt8):=if s=[]then[]else bY 58 [] s
def at2 (s:List UInt8)(i:Nat):Prop:=s[i]? =some 58/\s[i+1]? =some 58
def e8 (s:List UInt8):Bool:=decide ((bY 58 [] s).length=8)&&(bY 58 [] s).all pU
def v6L (A B:List (List UInt8)):List Nat:=A.map Ck++List.replicate (8-A.length-B.length) 0++B.map Ck
def Pi (gap:Bool)(A B:List (List UInt8)):Bool:=A.all pU&&B.all pU&&(if gap then decide (A.length+B.length<8)else decide (A.length+B.length=8))
def v6V (s:List UInt8):Option (List Nat):=
 if Pi (Lib.cut s [58,58]).2.2 (oP (Lib.cut s [58,58]).1) (oP (Lib.cut s [58,58]).2.1)=true then some (v6L (oP (Lib.cut s [58,58]).1) (oP (Lib.cut s [58,58]).2.1))else none
theorem Xv (s:List UInt8)(i:Nat):Lib.occAt s [58,58] i=true ↔ at2 s i:=by
 unfold Lib.occAt at2
 have e:s[i]? =(s.drop i)[0]? :=by rw[List.getElem?_drop];rfl
 have q:s[i+1]? =(s.drop i)[1]? :=by rw[List.getElem?_drop]
 rw[e,q]
 generalize s.drop i=d
 match d with
 |[]=>simp
 |[a]=>simp
 |a::b::r=>
  simp only[List.isPrefixOf,Bool.and_true,Bool.and_eq_true,beq_iff_eq,List.getElem?_cons_zero,List.getElem?_cons_succ,Option.some.injEq]
  exact⟨λh=>⟨h.1.symm,h.2.symm⟩,λh=>⟨h.1.symm,h.2.symm⟩⟩
theorem FW (s:List UInt8):(Lib.cut s [58,58]=(s,[],false)/\∀i,¬ at2 s i)\/∃p,Lib.cut s [58,58]=(s.take p,s.drop (p+2),true)/\at2 s p/\(∀j,j<p-> ¬ at2 s j)/\p+2 <=s.length:=by
 rcases Lib.index_spec s [58,58]with⟨h1,h2⟩|⟨p,h1,h2,h3,h4⟩
 ·refine .inl ⟨?_,λi e=>?_⟩
  ·unfold Lib.cut;rw[if_neg (by omega)]
  ·by_cases E:i <=s.length
   ·have:=h2 i E
    rw[(Xv s i).2 e]at this;cases this
   ·have:=e.1
    rw[List.getElem?_eq_none (by omega)]at this;cases this
 ·refine .inr ⟨p,?_,(Xv s p).1 h3,λj D q=>?_,?_⟩
  ·unfold Lib.cut;rw[if_pos (by omega),h1];rfl
  ·have:=h4 j D
   rw[(Xv s j).2 q]at this;cases this
  ·have:=((Xv s p).1 h3).2
   have G:=(List.getElem?_eq_some_iff.1 this).1
   omega
theorem NV {p:Nat}(h:at2 s p):s=s.take p++58::58::s.drop (p+2):=by
 obtain⟨h1,D⟩:=h
 obtain⟨E,e⟩:=List.getElem?_eq_some_iff.1 h1
 obtain⟨G,q⟩:=List.getElem?_eq_some_iff.1 D
 conv=>lhs;rw[<- List.take_append_drop p s,List.drop_eq_getElem_cons E,List.drop_eq_getElem_cons G,e,q]
theorem L9 (c:UInt8)(r:List UInt8)(h:r=[]\/∃t,r=c::t):([]:List UInt8)∈bY c [] r:=by
 rcases h with rfl|⟨t,rfl⟩
 ·simp[bY]
 ·show _∈(if c=c then _ else _)
  rw[if_pos rfl];simp
theorem Xe {l:List (List UInt8)}(h:([]:List UInt8)∈l):l.all pU=false:=by
 rw[Bool.eq_false_iff]
 intro e
 have:=List.all_eq_true.1 e [] h
 revert this;decide
theorem VO (h:e8 s=true)(i:Nat): ¬ at2 s i:=by
 intro e
 unfold e8 at h
 rw[Bool.and_eq_true]at h
 have q:([]:List UInt8)∈bY 58 [] s:=by
  rw[NV e,fE]
  exact List.mem_append_right _ (L9 58 _ (.inr ⟨_,rfl⟩))
 rw[Xe q]at h
 exact absurd h.2 (by decide)
theorem late {p e:Nat}(h:at2 s p)(O:p<e)(E:at2 s e):(oP (s.take e)).all pU=false:=by
 have I:=(List.getElem?_eq_some_iff.1 E.1).1
 have G:=NV h
 have M:p<s.length:=by omega
 have D:s.take e≠[]:=by
  intro q
  have:=congrArg List.length q
  rw[List.length_take,List.length_nil]at this
  omega
 unfold oP
 rw[if_neg D]
 have q:s.take e=s.take p++58::(58::s.drop (p+2)).take (e-p-1):=by
  conv=>lhs;rw[G]
  rw[List.take_append,List.length_take,Nat.min_eq_left (by omega),List.take_of_length_le (by rw[List.length_take];omega)]
  rw[show e-p=(e-p-1)+1 by omega,List.take_succ_cons];rfl
 rw[q,fE]
 refine Xe (List.mem_append_right _ (L9 58 _ ?_))
 cases H:e-p-1 with
 |zero=>exact .inl rfl
 |succ k=>exact .inr ⟨_,rfl⟩
def zsK:Nat->List UInt8
 |0=>[48]
 |k+1=>zsK k++[58,48]
theorem Vm:∀k,(zsK k).length=2*k+1
 |0=>rfl
 |k+1=>by rw[zsK,List.length_append,Vm k];simp;omega
theorem R8:∀k,bY 58 [] (zsK k)=List.replicate (k+1) [48]
 |0=>rfl
 |k+1=>by
  rw[zsK,fE,R8 k,List.replicate_succ' (n:=k+1)];rfl
def HR (f:List UInt8):List UInt8:=if f=[]then[]else f++[58]
def O5 (b:List UInt8):List UInt8:=if b=[]then[]else 58::b
def QT (f b:List UInt8)(k:Nat):List UInt8:=HR f++zsK k++O5 b
theorem R7 (f b:List UInt8)(k:Nat):bY 58 [] (QT f b k)=oP f++List.replicate (k+1) [48]++oP b:=by
 unfold QT HR O5 oP
 have q:∀b:List UInt8,bY 58 [] (zsK k++if b=[]then[]else 58::b)=List.replicate (k+1) [48]++(if b=[]then[]else bY 58 [] b):=by
  intro b
  split
  ·rw[List.append_nil,List.append_nil,R8]
  ·rw[fE,R8]
 by_cases e:f=[]
 ·rw[if_pos e,if_pos e,List.nil_append,q,List.nil_append]
 ·rw[if_neg e,if_neg e,List.append_assoc,List.append_assoc,List.singleton_append,fE,q,List.append_assoc]
theorem Sn (f b:List UInt8)(k:Nat):e8 (QT f b k)=true ↔ ((oP f).all pU=true/\(oP b).all pU=true)/\(oP f).length+(k+1)+(oP b).length=8:=by
 unfold e8
 rw[R7]
 have e:pU [48]=true:=by decide
 have D:(List.replicate (k+1) ([48]:List UInt8)).all pU=true:=List.all_eq_true.2 λx q=>by rw[(List.mem_replicate.1 q).2];exact e
 rw[List.all_append,List.all_append,D,Bool.and_true,Bool.and_eq_true,Bool.and_eq_true,dTx,List.length_append,List.length_append,List.length_replicate]
 exact And.comm
theorem Wv {f b:List UInt8}(h:e8 (QT f b k)=true):(bY 58 [] (QT f b k)).map Ck=v6L (oP f) (oP b):=by
 have e:=((Sn f b k).1 h).2
 rw[R7,List.map_append,List.map_append,List.map_replicate,show Ck [48]=0 by decide]
 unfold v6L
 rw[show 8-(oP f).length-(oP b).length=k+1 by omega]
theorem XW (h:e8 s=true):v6V s=some ((bY 58 [] s).map Ck):=by
 rcases FW s with⟨h1,q⟩|⟨p,h1,q,H⟩
 ·unfold v6V
  have e:=h
  unfold e8 at e
  rw[Bool.and_eq_true,dTx]at e
  have D:s≠[]:=by rintro rfl;exact absurd e.1 (by decide)
  have E:oP s=bY 58 [] s:=by unfold oP;rw[if_neg D]
  have G:oP []=[]:=rfl
  rw[h1]
  simp only[E,G]
  rw[if_pos]
  ·unfold v6L
   rw[e.1]
   simp
  ·unfold Pi
   rw[e.2]
   simp[e.1]
 ·exact absurd q (VO h p)
theorem XX (h:e8 s=false)(E:∀i,¬ at2 s i):v6V s=none:=by
 rcases FW s with⟨h1,D⟩|⟨p,h1,D,H⟩
 ·unfold v6V
  rw[h1]
  rw[if_neg]
  intro q
  have G:oP []=[]:=rfl
  unfold Pi at q
  simp only[G,List.all_nil,Bool.and_true,Bool.and_eq_true,List.length_nil,Nat.add_zero]at q
  have e:(oP s).all pU=true/\(oP s).length=8:=by simpa using q
  unfold oP at e
  split at e
  ·exact absurd e.2 (by decide)
  ·rw[<- Bool.not_eq_true]at h
   refine h ?_
   unfold e8
   rw[e.1,e.2];rfl
 ·exact absurd D (E p)
theorem Xn {p:Nat}(h:at2 s p)(G:∀j,j<p-> ¬ at2 s j):
 v6V s=if((oP (s.take p)).all pU=true/\(oP (s.drop (p+2))).all pU=true)/\(oP (s.take p)).length+(oP (s.drop (p+2))).length<8 then some (v6L (oP (s.take p)) (oP (s.drop (p+2))))else none:=by
 rcases FW s with⟨h1,q⟩|⟨D,h1,q,H,I⟩
 ·exact absurd h (q p)
 ·have E:D=p:=by
   rcases Nat.lt_trichotomy D p with e|e|e
   ·exact absurd q (G D e)
   ·exact e
   ·exact absurd h (H p e)
  subst E
  unfold v6V Pi
  rw[h1]
  simp only[if_true,Bool.and_eq_true,dTx]
theorem Xo {g:List Nat}(h:v6V s=some g):g.length=8:=by
 unfold v6V at h
 split at h
 ·rename_i e
  rw[<- Option.some.inj h]
  unfold v6L
  unfold Pi at e
  rw[Bool.and_eq_true]at e
  have:(oP (Lib.cut s [58,58]).1).length+(oP (Lib.cut s [58,58]).2.1).length <=8:=by
   have:=e.2
   split at this
   ·have:=of_decide_eq_true this;omega
   ·have:=of_decide_eq_true this;omega
  simp;omega
 ·cases h
theorem Gf:∀(s:List UInt8) (n:Nat),s.all C8=true->s.foldl (λn c=>n*16+IW c) n<(n+1)*16 ^ s.length
 |[],n,_=>by simp
 |c::s,n,h=>by
  rw[List.all_cons,Bool.and_eq_true]at h
  have e:IW c<16:=by simpa[C8]using h.1
  have:=Gf s (n*16+IW c) h.2
  rw[List.foldl_cons,List.length_cons,Nat.pow_succ]
  refine Nat.lt_of_lt_of_le this ?_
  rw[Nat.mul_comm (16 ^ s.length) 16,<- Nat.mul_assoc]
  exact Nat.mul_le_mul_right _ (by omega)
theorem Vd (h:pU s=true):Ck s<65536:=by
 unfold pU at h
 simp only[Bool.and_eq_true,dTx]at h
 have:=Gf s 0 h.2
 have e:16 ^ s.length <=16 ^ 4:=Nat.pow_le_pow_right (by decide) h.1.2
 unfold Ck
 have q:(16:Nat) ^ 4=65536:=rfl
 omega
def zH (l:List Nat):List UInt8:=l.flatMap λn=>[UInt8.ofNat (n/256),UInt8.ofNat (n%256)]
theorem C4:∀l:List Nat,(zH l).length=2*l.length
 |[]=>rfl
 |n::l=>by
  have:=C4 l
  unfold zH at this ⊢
  rw[List.flatMap_cons,List.length_append,this];simp;omega
theorem SH (a b:List Nat):zH (a++b)=zH a++zH b:=by unfold zH;rw[List.flatMap_append]
def Rj (gs:List Nat)(k:Nat):List UInt8:=zH (gs.take k)++List.replicate (16-2*k) 0
theorem IV (h:o.length=8)(e:k <=8):(Rj o k).length=16:=by
 unfold Rj;rw[List.length_append,C4,List.length_take,List.length_replicate];omega
theorem Qm (h:o.length=8)(q:k<8):((Rj o k).set (2*k) (UInt8.ofNat ((o[k]'(by omega))/256))).set (2*k+1) (UInt8.ofNat ((o[k]'(by omega))%256))=Rj o (k+1):=by
 unfold Rj
 have e:(zH (o.take k)).length=2*k:=by rw[C4,List.length_take];omega
 rw[show 16-2*k=(16-2*(k+1))+1+1 by omega,List.replicate_succ (n:=16-2*(k+1)+1),List.replicate_succ (n:=16-2*(k+1))]
 rw[List.set_append_right _ _ (by omega),e,Nat.sub_self,List.set_cons_zero,List.set_append_right _ _ (by omega),e,show 2*k+1-2*k=0+1 by omega,List.set_cons_succ,List.set_cons_zero,
  List.take_succ_eq_append_getElem (by omega),SH]
 simp[zH]
theorem Vc (h:o.length=8):Rj o 8=zH o:=by unfold Rj;rw[List.take_of_length_le (by omega)];simp
def e8V (s:List UInt8):Option (List UInt8):=if e8 s=true then some (zH ((bY 58 [] s).map Ck))else none
theorem Qn (x:List UInt8)(h:j<x.length):Ck (x.take (j+1))=Ck (x.take j)*16+IW x[j]:=by
 unfold Ck;rw[List.take_succ_eq_append_getElem h,List.foldl_append];rfl
theorem JE {x:List UInt8}(h:∀i (e:i<j) (h:i<x.length),C8 x[i]=true)(H:j <=4):Ck (x.take j)<65536:=by
 have q:(x.take j).all C8=true:=List.all_eq_true.2 λc D=>by
  obtain⟨i,e,rfl⟩:=List.mem_iff_getElem.1 D
  rw[List.length_take]at e
  rw[List.getElem_take]
  exact h i (by omega) (by omega)
 have h1:=Gf (x.take j) 0 q
 have E:16 ^ (x.take j).length <=16 ^ 4:=Nat.pow_le_pow_right (by decide) (by rw[List.length_take];omega)
 have G:(16:Nat) ^ 4=65536:=rfl
 unfold Ck;omega
theorem GK (h:n<256):((UInt8.ofNat n).toNat:Int)=(n:Int):=by rw[UInt8.toNat_ofNat'];omega
theorem Lf (c:UInt8)(w:World):Cf Bt #[.int .u8 ((c.toNat:Nat):Int)] w (Ret λv w'=>v=vI (if C8 c=true then(IW c:Int)else -1)/\w'=w):=by
 apply Kl
 have E:=qi c
 have q:C8 c=decide (IW c<16):=rfl
 refine iY (w:=w) (¬ (48 <=c.toNat/\c.toNat <=57)) (Q2 (ai.of (λh=>?_) (λh=>⟨rfl,by simp at h;omega⟩))) (λh1=>?_)
 ·have:48 <=c.toNat/\c.toNat <=57:=by simp at h;omega
  have e:IW c=c.toNat-48:=by unfold IW;rw[if_pos this]
  rw[q,e,if_pos (by simp;omega),wrap_i64 (n:=((c.toNat:Nat):Int)) (by omega) (by omega),wrap_i64 (by omega) (by omega)]
  exact⟨by congr 1;omega,rfl⟩
 refine iY (w:=w) (¬ (97 <=c.toNat/\c.toNat <=102)) (Q2 (ai.of (λh=>?_) (λh=>⟨rfl,by simp at h;omega⟩))) (λD=>?_)
 ·have:97 <=c.toNat/\c.toNat <=102:=by simp at h;omega
  have e:IW c=c.toNat-87:=by unfold IW;rw[if_neg h1,if_pos this]
  rw[q,e,if_pos (by simp;omega),wrap_i64 (n:=((c.toNat:Nat):Int)) (by omega) (by omega),wrap_i64 (by omega) (by omega)]
  exact⟨by congr 1;omega,rfl⟩
 refine Q2 (ai.of (λh=>?_) (λh=>?_))
 ·have:65 <=c.toNat/\c.toNat <=70:=by simp at h;omega
  have e:IW c=c.toNat-55:=by unfold IW;rw[if_neg h1,if_neg D,if_pos this]
  rw[q,e,if_pos (by simp;omega),wrap_i64 (n:=((c.toNat:Nat):Int)) (by omega) (by omega),wrap_i64 (by omega) (by omega)]
  exact⟨by congr 1;omega,rfl⟩
 ·have: ¬ (65 <=c.toNat/\c.toNat <=70):=by simp at h;omega
  have e:IW c=16:=by unfold IW;rw[if_neg h1,if_neg D,if_neg this]
  rw[q,e,if_neg (by decide)]
  exact⟨rfl,rfl⟩
theorem EG (s:List UInt8)(d5:s.length <=100000000)(w:World):Cf yg #[vS s] w (Ret λv w'=>v=adT (e8V s)/\bW w w'):=by
 apply Km
 intro b2 aj d1 c0
 have a0:=(c0▸au w _:bW w aj)
 have b6:av aj b2 aK (adC ad0):=av.new d1 c0
 intro k5 c2 d2 c1
 have ch:=(c1▸au aj _:bW aj c2)
 have dg:=ah a0 ch a0.size
 have de:av c2 k5 aK (adC ad0):=av.new d2 c1
 obtain⟨c3,d6,b8,cl⟩:=dN.store0 (cs:=adC ad0) rfl (rH _) de rfl
 refine⟨c3,d6,?_⟩
 have bk:w.heap.size <=k5:=by have:=a0.size;omega
 have eg:=b6.lt
 have c9:=(b6.below ch).grown cl (bw (by omega))
 have cf:=Below.put dg cl bk
 refine az (eH s 58 d5 c3) ?_
 rintro _ ek ⟨a,n,c,rfl,bs,dr,a8⟩
 have ce:=ah cf a8 cf.size
 have b7:=c9.below a8
 have dd:=b8.below a8
 have d4:=bs.len
 have cp:∀x∈bY 58 [] s,x.length <=s.length:=λx q=>by simpa using tg 58 s [] x q
 have b3:∀{b5:World},e8 s=false->av b5 b2 aK (adC ad0)->bW w b5->_:=fun{b5} b1 dc dk=>dN.fin (K:=λb4 U=>(.tuple #[b4,.bool false]:Value)=adT (e8V s)/\bW w U) (cs:=adC ad0) rfl (rH _) dc rfl dk (by omega) λU D=>⟨by unfold e8V;rw[b1];rfl,D⟩
 refine⟨_,_,_,rfl,ai.of (λan=>?_) (λan=>?_)⟩
 ·refine b3 ?_ b7 ce
  rw[bne_iff_ne]at an
  unfold e8
  rw[decide_eq_false (by omega),Bool.false_and]
 have bq:(bY 58 [] s).length=8:=by simp at an;omega
 have ei:=b8.lt
 have ct:∀g,j0 a=some g->g≠k5:=λg E V=>by have:=dr g E;omega
 have a9:e8 s=(bY 58 [] s).all pU:=by unfold e8;rw[decide_eq_true bq,Bool.true_and]
 have ck:e8 s=true->e8V s=some (zH ((bY 58 [] s).map Ck)):=λh=>if_pos h
 obtain⟨L,dn⟩:∃L,L=bY 58 [] s:=⟨_,rfl⟩
 rw[<- dn]at bs bq cp d4 a9 ck
 have cj:∀{x},x∈L->pU x=false->e8 s=false:=fun{x} q E=>by
  rw[a9,Bool.eq_false_iff]
  intro H
  rw[List.all_eq_true.1 H x q]at E;cases E
 have Z:(L.map Ck).length=8:=by simp[bq]
 refine⟨λm i w'=>∃k:Nat,k <=8/\i=(k:Int)/\m=8-k/\(∀j (ad:j<k) (h:j<L.length),pU L[j]=true)/\av w' k5 aK (adC (Rj (L.map Ck) k))/\av w' b2 aK (adC ad0)/\Ow tS ao w' NoB a n c L/\bW w w',
  ⟨_,0,by omega,rfl,rfl,λj ad=>by omega,dd,b7,bs,ce⟩,?_⟩
 intro m i
 refine aP.of ?_ _
 rintro al ⟨k,d0,rfl,rfl,cu,b9,X,bz,Y⟩
 refine ai.of (λh=>?_) (λh=>?_) <;> simp only[dTx,dFx]at h
 ·have d3:k<8:=by omega
  have bp:k<L.length:=by omega
  have ag:=bz.all.text (P:=prog) ax bp
  have ef:=cp L[k] (List.getElem_mem bp)
  have ac:(0 <=(k:Int)/\(k:Int)<((n:Nat):Int))/\Option.isSome a=true:=⟨⟨by omega,by omega⟩,bz.all.isSome (by omega)⟩
  have cr:L[k]∈L:=List.getElem_mem bp
  refine iY (w:=al) (1 <=L[k].length/\L[k].length <=4) ?_ (λcn=>?_)
  ·refine⟨λb w'=>w'=al/\b=(!(decide (1 <=L[k].length)&&decide (L[k].length <=4))),⟨ac,_,ag,ai.of (λh1=>⟨rfl,?_⟩) (λh1=>⟨ac,_,ag,rfl,?_⟩)⟩,?_⟩
   ·have: ¬ 1 <=L[k].length:=by simp at h1;omega
    simp[this]
   ·have:1 <=L[k].length:=by simp at h1;omega
    rw[decide_eq_true this,Bool.true_and,Bool.eq_iff_iff];simp;omega
   ·intro b
    refine aP.of ?_ _
    rintro ed ⟨O,D⟩
    rw[O,D];clear O D
    refine ai.of (λh1=>b3 (cj cr ?_) X Y) (λh1=>⟨rfl,by simpa using h1⟩)
    unfold pU
    have c8:(decide (1 <=L[k].length)&&decide (L[k].length <=4))=false:=by simpa only[Bool.not_eq_true']using h1
    rw[c8,Bool.false_and]
  ·refine⟨λm v i w'=>w'=al/\∃j:Nat,j <=L[k].length/\i=(j:Int)/\m=L[k].length-j/\v=((Ck (L[k].take j):Nat):Int)/\∀e (G:e<j) (h:e<L[k].length),C8 (L[k][e])=true,
    ⟨_,rfl,0,by omega,rfl,rfl,rfl,λe G=>by omega⟩,?_⟩
   intro m v i
   refine aP.of ?_ _
   rintro ed ⟨O,j,ad,rfl,rfl,rfl,q⟩
   rw[O];clear O
   refine⟨ac,_,ag,?_⟩
   have ds:=JE q (by omega)
   refine ai.of (λar=>?_) (λar=>?_) <;> simp only[dTx,dFx]at ar
   ·have bj:j<L[k].length:=by omega
    refine⟨ac,_,ag,⟨by omega,ar⟩,?_⟩
    rw[byte_at bj]
    refine az (Lf (L[k][j]) al) ?_
    rintro _ el ⟨rfl,d9⟩
    rw[d9]
    refine⟨_,rfl,?_⟩
    by_cases I:C8 (L[k][j])=true
    ·rw[if_pos I]
     have ee:IW (L[k][j])<16:=by simpa[C8]using I
     refine ai.no (by simp) ⟨L[k].length-(j+1),by omega,rfl,j+1,by omega,by rw[wrap_i64 (by omega) (by omega)];omega,rfl,?_,λe G b0=>?_⟩
     ·rw[wrap_i64 (n:=_*_) (by omega) (by omega),wrap_i64 (by omega) (by omega),Qn _ bj];omega
     ·by_cases V:e=j
      ·subst V;exact I
      ·exact q e (by omega) b0
    ·rw[if_neg I]
     refine ai.yes (by decide) (b3 (cj cr ?_) X Y)
     unfold pU
     have:(L[k]).all C8=false:=by
      rw[Bool.eq_false_iff]
      intro H
      exact I (List.all_eq_true.1 H _ (List.getElem_mem bj))
     rw[this,Bool.and_false]
   ·have:j=L[k].length:=by omega
    subst this
    rw[List.take_length]at ds ⊢
    have E:pU L[k]=true:=by
     unfold pU
     rw[decide_eq_true cn.1,decide_eq_true cn.2,Bool.true_and,Bool.true_and]
     exact List.all_eq_true.2 λc H=>by
      obtain⟨e,G,rfl⟩:=List.mem_iff_getElem.1 H
      exact q e G G
    have dl:(L.map Ck)[k]'(by omega)=Ck L[k]:=by simp
    refine⟨by decide,?_⟩
    rintro _ rfl
    have c4:i64.wrap (2*(k:Int))=((2*k:Nat):Int):=by rw[wrap_i64 (by omega) (by omega)];omega
    have c5:i64.wrap (((2*k:Nat):Int)+1)=((2*k+1:Nat):Int):=by rw[wrap_i64 (by omega) (by omega)];omega
    have c6:IntKind.u8.wrap (i64.wrap (Int.tdiv ((Ck L[k]:Nat):Int) 256))=(((UInt8.ofNat (Ck L[k]/256)).toNat:Nat):Int):=by
     rw[bL (by omega),wrap_i64 (by omega) (by omega),wrap_u8 (by omega) (by omega),GK (by omega)];omega
    have c7:IntKind.u8.wrap (Int.tmod ((Ck L[k]:Nat):Int) 256)=(((UInt8.ofNat (Ck L[k]%256)).toNat:Nat):Int):=by
     rw[bP (by omega),wrap_u8 (by omega) (by omega),GK (by omega)];omega
    rw[c4,c5,ni,ni,c6]
    simp only[Nat.zero_add]
    have M:=IV Z d0
    obtain⟨ea,d7,cb,bb⟩:=b9.put (P:=prog) zX (i:=2*k) (v:=.int .u8 (((UInt8.ofNat (Ck L[k]/256)).toNat:Nat):Int)) (by rw[ja,M];omega) rfl rfl
    rw[Fg]at cb
    refine⟨⟨⟨by omega,by omega⟩,trivial⟩,ea,d7,by decide,?_⟩
    rintro _ rfl
    rw[c7]
    obtain⟨eb,d8,cc,bc⟩:=cb.put (P:=prog) zX (i:=2*k+1) (v:=.int .u8 (((UInt8.ofNat (Ck L[k]%256)).toNat:Nat):Int)) (by rw[ja,List.length_set,M];omega) rfl rfl
    rw[Fg,<- dl,Qm Z d3]at cc
    refine⟨⟨⟨by omega,by omega⟩,trivial⟩,eb,d8,8-(k+1),by omega,k+1,by omega,by rw[wrap_i64 (by omega) (by omega)];omega,rfl,?_,cc,(X.grown bb (bw (by omega))).grown bc (bw (by omega)),(bz.put ct bb).put ct bc,Below.put (Below.put Y bb bk) bc bk⟩
    intro e G b0
    by_cases V:e=k
    ·subst V;exact E
    ·exact cu e (by omega) b0
 ·have:k=8:=by omega
  subst this
  have b1:e8 s=true:=by
   rw[a9]
   exact List.all_eq_true.2 λx q=>by
    obtain⟨j,ad,rfl⟩:=List.mem_iff_getElem.1 q
    exact cu j (by omega) ad
  have M:(adC (Rj (L.map Ck) 8)).length=16:=by rw[ja,IV Z (by omega)]
  refine⟨_,dN.load0 b9 M,?_⟩
  exact dN.fin (K:=λb4 U=>(.tuple #[b4,.bool true]:Value)=adT (e8V s)/\bW w U) M (rH _) X rfl Y (by omega) λU D=>⟨by rw[ck b1,<- Vc Z];rfl,D⟩
def v6A (s:List UInt8):Option (List UInt8):=(v6V s).map zH
def Xq (o:Option (List UInt8)):Prop:=∀a,o=some a->a.length=16
theorem L3 (o:Option (List UInt8)):adT o=.tuple #[adV (o.getD ad0),.bool o.isSome]:=by cases o <;> rfl
theorem HM {o:Option (List UInt8)}(h:Xq o):(adC (o.getD ad0)).length=16:=by
 rw[ja]
 cases o with
 |none=>rfl
 |some a=>exact h a rfl
theorem Uk (s:List UInt8):Xq (e8V s):=λa h=>by
 unfold e8V at h
 split at h
 ·rename_i e
  unfold e8 at e
  rw[Bool.and_eq_true,dTx]at e
  rw[<- Option.some.inj h,C4,List.length_map,e.1]
 ·cases h
theorem TS (s:List UInt8):Xq (v6A s):=λa h=>by
 unfold v6A at h
 cases e:v6V s with
 |none=>rw[e]at h;cases h
 |some g=>
  rw[e]at h
  rw[<- Option.some.inj h,C4,Xo e]
theorem Wu (s:List UInt8):Xq (v4V s):=λa h=>by
 unfold v4V at h
 split at h
 ·rename_i e
  rw[<- Option.some.inj h];simp;omega
 ·cases h
theorem PF (s:List UInt8)(d3:s.length <=99999000)(w:World):Cf Hh #[vS s] w (Ret λv w'=>v=adT (v6A s)/\bW w w'):=by
 apply OD
 intro O b0 c9 c0
 have b9:=(c0▸au w _:bW w b0)
 have H:av b0 O aK (adC ad0):=av.new c9 c0
 refine az (EG s (by omega) b0) ?_
 rintro _ dg ⟨rfl,ch⟩
 have cb:=ah b9 ch b9.size
 have c7:=H.below ch
 refine⟨_,_,by rw[L3],?_⟩
 refine dN.new (zs:=adC ad0) (cs:=adC ((e8V s).getD ad0)) rfl (HM (Uk s)) (rH _) dg λd6 ed d1 c8 cj=>?_
 have cc:=ah cb cj cb.size
 have b4:=c7.below cj
 have b3:∀{x:List UInt8} {wx:World},v6A s=some x->av wx O aK (adC ad0)->bW w wx->_:=fun{x wx} ar a9 bc=>dN.fin (K:=λbz ag=>(.tuple #[bz,.bool true]:Value)=adT (v6A s)/\bW w ag) (cs:=adC x) (by rw[ja];exact TS s _ ar) (rH _) a9 rfl bc (by omega) λag bj=>⟨by rw[ar];rfl,bj⟩
 refine ai.of (λh=>?_) (λh=>?_)
 ·have al:e8 s=true:=by
   unfold e8V at h
   split at h
   ·assumption
   ·cases h
  refine⟨_,dN.load0 c8 (HM (Uk s)),?_⟩
  have V:e8V s=some (zH ((bY 58 [] s).map Ck)):=if_pos al
  rw[V]
  exact b3 (x:=zH ((bY 58 [] s).map Ck)) (by unfold v6A;rw[XW al];rfl) b4 cc
 have al:e8 s=false:=by
  unfold e8V at h
  split at h
  ·cases h
  ·rename_i dc;simpa using dc
 refine⟨λm i w'=>∃k:Nat,k <=s.length/\i=(k:Int)/\m=s.length-k/\
  (∀j,j<k->at2 s j->(∀i,i<j-> ¬ at2 s i)-> ¬ (((oP (s.take j)).all pU=true/\(oP (s.drop (j+2))).all pU=true)/\(oP (s.take j)).length+(oP (s.drop (j+2))).length<8))/\
  av w' O aK (adC ad0)/\bW w w',⟨_,0,by omega,rfl,rfl,λj X=>by omega,b4,cc⟩,?_⟩
 intro m i
 refine aP.of ?_ _
 rintro ad ⟨k,dr,rfl,rfl,cr,aj,an⟩
 have c5:i64.wrap ((k:Int)+2)=((k+2:Nat):Int):=by rw[wrap_i64 (by omega) (by omega)];omega
 have c4:i64.wrap ((k:Int)+1)=((k+1:Nat):Int):=by rw[wrap_i64 (by omega) (by omega)];omega
 rw[c5,c4]
 refine ai.of (λh=>?_) (λh=>?_) <;> simp only[dTx,dFx]at h
 ·have d0:k+2 <=s.length:=by omega
  have bk:k<s.length:=by omega
  have bp:k+1<s.length:=by omega
  have bq:∀{wx:World},(at2 s k->(∀i,i<k-> ¬ at2 s i)-> ¬ (((oP (s.take k)).all pU=true/\(oP (s.drop (k+2))).all pU=true)/\(oP (s.take k)).length+(oP (s.drop (k+2))).length<8))->
   av wx O aK (adC ad0)->bW w wx->∃c1:Nat,c1<s.length-k/\∃k':Nat,k' <=s.length/\((k+1:Nat):Int)=(k':Int)/\c1=s.length-k'/\
   (∀j,j<k'->at2 s j->(∀i,i<j-> ¬ at2 s i)-> ¬ (((oP (s.take j)).all pU=true/\(oP (s.drop (j+2))).all pU=true)/\(oP (s.take j)).length+(oP (s.drop (j+2))).length<8))/\
   av wx O aK (adC ad0)/\bW w wx:=fun{wx} M a9 bc=>⟨s.length-(k+1),by omega,k+1,by omega,rfl,rfl,λj X=>by
    by_cases a0:j=k
    ·subst a0;exact M
    ·exact cr j (by omega),a9,bc⟩
  have c2:=fq s[k] 58
  have c3:=fq s[k+1] 58
  rw[show(((58:UInt8).toNat:Nat):Int)=58 from rfl]at c2 c3
  refine iY (w:=ad) (at2 s k) ⟨⟨by omega,by omega⟩,?_⟩ (λI=>?_)
  ·rw[byte_at bk,bne,c2]
   refine ai.of (λE=>bq (λI=>?_) aj an) (λE=>⟨⟨by omega,by omega⟩,?_⟩)
   ·have:=I.1
    rw[List.getElem?_eq_getElem bk]at this
    rw[Option.some.inj this]at E;simp at E
   ·rw[byte_at bp,bne,c3]
    refine ai.of (λZ=>bq (λI=>?_) aj an) (λZ=>⟨rfl,?_⟩)
    ·have:=I.2
     rw[List.getElem?_eq_getElem bp]at this
     rw[Option.some.inj this]at Z;simp at Z
    ·exact⟨by rw[List.getElem?_eq_getElem bk];simp at E;rw[E],by rw[List.getElem?_eq_getElem bp];simp at Z;rw[Z]⟩
  ·refine⟨⟨by omega,by omega⟩,?_⟩
   intro e G
   refine⟨⟨by omega,by omega⟩,?_⟩
   intro D U
   simp only[Int.toNat_natCast]at G U
   have d8:e.length <=s.length:=by rw[G,List.length_take];omega
   have d9:D.length <=s.length:=by rw[U,List.length_drop];omega
   have d7:e.length+D.length+2=s.length:=by rw[G,U,List.length_take,List.length_drop];omega
   refine vU (B:=λJ=>ai _ (_/\∀ac,ac=(e++[58])->J ac ad) (J e ad)) (HR e) (ai.of (λE=>⟨fits (by simp;omega),?_⟩) (λE=>⟨rfl,?_⟩)) ?_
   ·rintro _ rfl
    exact⟨rfl,by unfold HR;rw[if_neg (by simpa using E)]⟩
   ·unfold HR;rw[if_pos (by simpa using E)];simpa using E
   refine vU (B:=λJ=>ai _ (_/\∀ac,ac=([58]++D)->J ac ad) (J D ad)) (O5 D) (ai.of (λE=>⟨fits (by simp;omega),?_⟩) (λE=>⟨rfl,?_⟩)) ?_
   ·rintro _ rfl
    exact⟨rfl,by unfold O5;rw[if_neg (by simpa using E)];rfl⟩
   ·unfold O5;rw[if_pos (by simpa using E)];simpa using E
   have eb:(HR e).length <=e.length+1:=by unfold HR;split <;> simp
   have lb:(O5 D).length <=D.length+1:=by unfold O5;split <;> simp
   refine⟨λm z i w'=>∃q:Nat,q <=8/\i=(q:Int)/\m=8-q/\z=zsK q/\(∀j,j<q->e8 (QT e D j)=false)/\av w' O aK (adC ad0)/\bW w w',⟨_,0,by omega,rfl,rfl,rfl,λj X=>by omega,aj,an⟩,?_⟩
   intro m z i
   refine aP.of ?_ _
   rintro dk ⟨q,d2,rfl,rfl,rfl,ct,b5,bb⟩
   have d4:=Vm q
   refine ai.of (λb8=>?_) (λb8=>?_) <;> simp only[dTx,dFx]at b8
   ·refine⟨fits (by omega),?_⟩
    intro de b1
    have ea:de.length=(HR e).length+(zsK q).length:=by rw[b1,List.length_append]
    refine⟨fits (by omega),?_⟩
    intro bs b2
    have c6:bs=QT e D q:=by rw[b2,b1];rfl
    have dd:bs.length <=100000000:=by rw[b2,List.length_append];omega
    refine az (EG bs dd dk) ?_
    rintro _ dl ⟨rfl,ck⟩
    have ce:=ah bb ck bb.size
    rw[c6]
    refine⟨_,_,by rw[L3],?_⟩
    refine dN.new (zs:=adC ad0) (cs:=adC ((e8V (QT e D q)).getD ad0)) rfl (HM (Uk _)) (rH _) dl λd5 ee ds a8 cl=>?_
    have cf:=ah ce cl ce.size
    have b6:=(b5.below ck).below cl
    by_cases Y:e8 (QT e D q)=true
    ·have V:e8V (QT e D q)=some (zH ((bY 58 [] (QT e D q)).map Ck)):=if_pos Y
     have cp:=HM (Uk (QT e D q))
     rw[V]at a8 cp ⊢
     refine ai.yes rfl ⟨_,dN.load0 a8 cp,?_⟩
     refine b3 (x:=zH ((bY 58 [] (QT e D q)).map Ck)) ?_ b6 cf
     have cu:=(Sn e D q).1 Y
     rw[Wv Y]
     have cn:∀j,j<k-> ¬ at2 s j:=λj X M=>by
      have:=late M X I
      rw[<- G,cu.1.1]at this;cases this
     unfold v6A
     rw[Xn I cn,<- G,<- U,if_pos ⟨cu.1,by omega⟩];rfl
    ·have V:e8V (QT e D q)=none:=if_neg Y
     rw[V]at a8 ⊢
     refine ai.no rfl ⟨fits (by simp;omega),?_⟩
     rintro _ rfl
     refine⟨8-(q+1),by omega,q+1,by omega,by rw[wrap_i64 (by omega) (by omega)];omega,rfl,rfl,λj X=>?_,b6,cf⟩
     by_cases a0:j=q
     ·subst a0;simpa using Y
     ·exact ct j (by omega)
   ·have:q=8:=by omega
    subst this
    refine bq (λ_ cn M=>?_) b5 bb
    rw[<- G,<- U]at M
    have:=(Sn e D (7-(oP e).length-(oP D).length)).2 ⟨M.1,by omega⟩
    rw[ct _ (by omega)]at this;cases this
 ·have ar:v6A s=none:=by
   unfold v6A
   rcases FW s with⟨h1,H⟩|⟨p,h1,H,b7,dn⟩
   ·rw[XX al H];rfl
   ·rw[Xn H b7,if_neg (cr p (by omega) H b7)];rfl
  exact dN.fin (K:=λbz ag=>(.tuple #[bz,.bool false]:Value)=adT (v6A s)/\bW w ag) (cs:=adC ad0) rfl (rH _) aj rfl an (by omega) λag bj=>⟨by rw[ar];rfl,bj⟩
def Wk:Ty Int:=TH .u16 λ_=>True
theorem Ul:Flat Wk:=λ_ _ _ _ _ _ h=>h
def i16 (l:List Int):List Value:=l.map λn=>Value.int .u16 n
theorem Wf {n:Int} :Wk.rep w A [.int .u16 n] n:=⟨rfl,trivial⟩
theorem TA:∀n,n<256->Lib.indexByte [48,49,50,51,52,53,54,55,56,57,97,98,99,100,101,102] (EE (UInt8.ofNat n))=if IW (UInt8.ofNat n)<16 then(IW (UInt8.ofNat n):Int)else -1:=by decide+kernel
theorem TB (c:UInt8):Lib.indexByte [48,49,50,51,52,53,54,55,56,57,97,98,99,100,101,102] (EE c)=if IW c<16 then(IW c:Int)else -1:=by
 have:=TA c.toNat (by have:=c.toNat_lt;omega)
 rwa [UInt8.ofNat_toNat]at this
theorem Yh {a d:Nat}(M:a<4096)(H:d<16):IntKind.u16.wrap (((BitVec.ofInt (IntKind.bits .u16) (IntKind.u16.wrap ((a:Int)*2 ^ (min (Int.toNat (4:Int)) (IntKind.bits .u16))))) ||| (BitVec.ofInt (IntKind.bits .u16) (IntKind.u16.wrap (d:Int)))).toNat:Nat)=((a*16+d:Nat):Int):=by
 have D:(2:Int) ^ (min (Int.toNat (4:Int)) (IntKind.bits .u16))=16:=by decide
 have e:∀n:Nat,n<65536->IntKind.u16.wrap (n:Int)=(n:Int):=λn I=>by
  have:IntKind.u16.wrap (n:Int)=(n:Int)%65536:=rfl
  rw[this];omega
 have E:(a:Int)*16=((a*16:Nat):Int):=by omega
 have q:∀n:Nat,n<65536->(BitVec.ofInt (IntKind.bits .u16) (n:Int)).toNat=n:=λn I=>by
  show(BitVec.ofInt 16 (n:Int)).toNat=n
  rw[BitVec.toNat_ofInt]
  have:((n:Int)%((2 ^ 16:Nat):Int)).toNat=n:=by
   have h:((2 ^ 16:Nat):Int)=65536:=by decide
   rw[h];omega
  exact this
 rw[D,E,e (a*16) (by omega),e d (by omega),BitVec.toNat_or,q (a*16) (by omega),q d (by omega)]
 have G:a*16 ||| d=a*16+d:=by
  have:=Nat.two_pow_add_eq_or_of_lt (i:=4) H a
  rw[Nat.mul_comm a 16];exact this.symm
 rw[G,e _ (by omega)]
def Mk (s:List UInt8):List Int:=(oP s).map λx=>(Ck x:Int)
theorem MH (s:List UInt8)(bz:s.length <=9223372036854775800)(w:World):Cf CQ #[vS s] w
 (Ret λv w'=>v=(if pU s=true then .tuple #[.int .u16 (Ck s:Int),.bool true]else .tuple #[.int .u16 0,.bool false])/\bW w w'):=by
 apply Lm
 have I:∀{wx:World},pU s=false->bW w wx->(.tuple #[.int .u16 0,.bool false]:Value)=(if pU s=true then .tuple #[.int .u16 (Ck s:Int),.bool true]else .tuple #[.int .u16 0,.bool false])/\bW w wx:=λM a9=>⟨by rw[M];rfl,a9⟩
 refine iY (w:=w) (1 <=s.length/\s.length <=4) ?_ (λZ=>?_)
 ·refine ai.of (λh=>I ?_ (Below.refl _ _)) (λh=>ai.of (λG=>I ?_ (Below.refl _ _)) (λG=>⟨rfl,?_⟩))
  ·unfold pU;rw[decide_eq_false (by simp only[dTx]at h;omega),Bool.false_and,Bool.false_and]
  ·unfold pU;rw[decide_eq_false (p:=s.length <=4) (by simp only[dTx]at G;omega),Bool.and_false,Bool.false_and]
  ·simp only[dFx]at h G
   exact⟨by omega,by omega⟩
 refine az (pQ s bz w) ?_
 rintro _ b1 ⟨rfl,Y⟩
 refine⟨_,rfl,?_⟩
 have b0:(cN s).length=s.length:=by simp[cN]
 obtain⟨V,a,n,c,bq,O,bb,b3⟩:=DO (P:=prog) ax fF dm b1 (cN s) (by omega) NoB
 have X:=ah Y bb Y.size
 have bk:=O.len
 subst bk
 refine⟨V,a,_,c,bq,?_⟩
 refine⟨λm v i w'=>∃j:Nat,j <=s.length/\i=(j:Int)/\m=s.length-j/\v=((Ck (s.take j):Nat):Int)/\(∀e (E:e<j) (h:e<s.length),C8 s[e]=true)/\w'=V,⟨_,0,by omega,rfl,rfl,rfl,λe E=>by omega,rfl⟩,?_⟩
 intro m v i
 refine aP.of ?_ _
 rintro w' ⟨j,b5,rfl,rfl,rfl,H,ag⟩
 rw[ag];clear ag
 rw[b0]
 refine ai.of (λh=>?_) (λh=>?_) <;> simp only[dTx,dFx]at h
 ·have ac:j<s.length:=by omega
  have b4:=JE H (by omega)
  have ad:j<(cN s).length:=by omega
  obtain⟨v,U,bs⟩:=O.all.load1 (i:=(j:Int)) dm rfl rfl (by simpa using ad)
  have:=Mq bs
  subst this
  simp only[Int.toNat_natCast]at U
  have ar:(cN s)[j]=EE s[j]:=by simp[cN]
  rw[ar]at U
  refine⟨⟨⟨by omega,h⟩,O.all.isSome ad⟩,_,U,?_⟩
  refine(Tryz.strings_IndexByte (mkS [48,49,50,51,52,53,54,55,56,57,97,98,99,100,101,102]) _ V).mono ?_
  rintro _ b6 ⟨rfl,aj⟩
  rw[aj];clear aj
  have an:Lib.indexByte (mkS [48,49,50,51,52,53,54,55,56,57,97,98,99,100,101,102]).data.toList (Int.toNat (((EE s[j]).toNat:Nat):Int)).toUInt8=if IW s[j]<16 then(IW s[j]:Int)else -1:=by
   rw[Int.toNat_natCast,show(EE s[j]).toNat.toUInt8=EE s[j] from UInt8.ofNat_toNat]
   exact TB s[j]
  rw[an]
  refine⟨_,rfl,?_⟩
  by_cases D:IW s[j]<16
  ·rw[if_pos D]
   have bc:C8 s[j]=true:=by simpa[C8]using D
   have a0:Ck (s.take j)<4096:=by
    have a8:(s.take j).all C8=true:=List.all_eq_true.2 λc q=>by
     obtain⟨i,bj,rfl⟩:=List.mem_iff_getElem.1 q
     rw[List.length_take]at bj
     rw[List.getElem_take]
     exact H i (by omega) (by omega)
    have h1:=Gf (s.take j) 0 a8
    have G:16 ^ (s.take j).length <=16 ^ 3:=Nat.pow_le_pow_right (by decide) (by rw[List.length_take];omega)
    have b2:(16:Nat) ^ 3=4096:=rfl
    unfold Ck;omega
   refine ai.no (by simp) ⟨by decide,s.length-(j+1),by omega,j+1,by omega,by rw[wrap_i64 (by omega) (by omega)];omega,rfl,?_,λe E bp=>?_,rfl⟩
   ·rw[Yh a0 D,Qn _ ac]
   ·by_cases al:e=j
    ·subst al;exact bc
    ·exact H e (by omega) bp
  ·rw[if_neg D]
   refine ai.yes (by decide) (I ?_ X)
   unfold pU
   have:s.all C8=false:=by
    rw[Bool.eq_false_iff]
    intro q
    have:=List.all_eq_true.1 q _ (List.getElem_mem ac)
    exact D (by simpa[C8]using this)
   rw[this,Bool.and_false]
 ·have:j=s.length:=by omega
  subst this
  have M:pU s=true:=by
   unfold pU
   rw[decide_eq_true Z.1,decide_eq_true Z.2,Bool.true_and,Bool.true_and]
   exact List.all_eq_true.2 λc q=>by
    obtain⟨e,E,rfl⟩:=List.mem_iff_getElem.1 q
    exact H e E E
  rw[List.take_length,if_pos M]
  exact⟨rfl,X⟩
def RL (s:List UInt8)(w:World)(v:Value)(w':World):Prop:=
 ∃(a:Option Addr) (n c:Nat),v=.tuple #[.slice a n c,.bool ((oP s).all pU)]/\((oP s).all pU=true->Ow Wk r8 w' NoB a n c (Mk s)/\ci w.heap.size a/\(Mk s=[]->a=none/\n=0/\c=0))/\((oP s).all pU=false->n=0)/\bW w w'
theorem I6 (s:List UInt8)(b3:s.length<4294967281)(w:World)(bc:Env w):Cf DS #[vS s] w (Ret (RL s w)):=by
 apply Ox
 refine ai.of (λh=>?_) (λh=>?_)
 ·have I:s=[]:=by simpa using h
  subst I
  exact⟨none,0,0,rfl,λ_=>⟨Ow.nil _ _ _ _,ci.none _,λ_=>⟨rfl,rfl,rfl⟩⟩,λ_=>rfl,Below.refl _ _⟩
 have bs:s≠[]:=by simpa using h
 have al:oP s=bY 58 [] s:=by unfold oP;rw[if_neg bs]
 have a8:Mk s=(bY 58 [] s).map λx=>(Ck x:Int):=by unfold Mk;rw[al]
 unfold RL
 rw[al,a8]
 refine az (sI s 58 b3 w bc) ?_
 rintro _ X ⟨a,n,c,rfl,ad,b9,e⟩
 have ce:=ad.len
 have bq:∀x∈bY 58 [] s,x.length <=s.length:=λx U=>by simpa using tg 58 s [] x U
 have b8:=jQ 58 s []
 have bz:=j7 58 s []
 refine⟨_,_,_,rfl,?_⟩
 generalize bY 58 [] s=L at*
 refine⟨λm a4 V H i w'=>∃k:Nat,k <=L.length/\i=(k:Int)/\m=L.length-k/\(∀j (E:j<k) (h:j<L.length),pU L[j]=true)/\Ow Wk r8 w' NoB a4 V H ((L.take k).map λx=>(Ck x:Int))/\ci X.heap.size a4/\bW X w',
  ⟨_,0,by omega,rfl,rfl,λj E=>by omega,Ow.nil _ _ _ _,ci.none _,Below.refl _ _⟩,?_⟩
 intro m a4 V H i
 refine aP.of ?_ _
 rintro b6 ⟨k,cb,rfl,rfl,aj,O,ac,q⟩
 have ag:=ad.below q
 refine ai.of (λh=>?_) (λh=>?_) <;> simp only[dTx,dFx]at h
 ·have G:k<L.length:=by omega
  have cc:=bq L[k] (List.getElem_mem G)
  refine⟨⟨⟨by omega,h⟩,ag.all.isSome (by omega)⟩,_,ag.all.text ax G,?_⟩
  refine az (MH L[k] (by omega) b6) ?_
  rintro _ ch ⟨rfl,Z⟩
  have Y:=ah q Z q.size
  by_cases D:pU L[k]=true
  ·rw[if_pos D]
   refine⟨_,_,rfl,ai.no rfl ?_⟩
   intro cf cj bp b4
   have b0:=O.below Z
   obtain⟨b7,an,b5,ar,b2,b1,bj,a9⟩:=AM (ty:=pW) (w0:=X) (cm:=1) (vs:=[_]) Ul Ds OP (by decide) b0 ac Y bp b4 (Wf) (by simp;omega)
   refine⟨b7,an,b5,ar,b2,L.length-(k+1),by omega,k+1,by omega,by rw[wrap_i64 (by omega) (by omega)];omega,rfl,λj E bk=>?_,?_,bj,a9⟩
   ·by_cases a0:j=k
    ·subst a0;exact D
    ·exact aj j (by omega) bk
   ·rw[List.take_succ_eq_append_getElem G,List.map_append];exact b1
  ·rw[if_neg D]
   refine⟨_,_,rfl,ai.yes rfl ?_⟩
   have M:L.all pU=false:=by
    rw[Bool.eq_false_iff]
    intro bb
    exact D (List.all_eq_true.1 bb _ (List.getElem_mem G))
   rw[M]
   exact⟨none,0,0,rfl,(λh=>by cases h),(λ_=>rfl),ah e Y e.size⟩
 ·have:k=L.length:=by omega
  subst this
  have M:L.all pU=true:=List.all_eq_true.2 λx U=>by
   obtain⟨j,E,rfl⟩:=List.mem_iff_getElem.1 U
   exact aj j (by omega) E
  rw[List.take_length]at O
  rw[M]
  refine⟨a4,V,H,rfl,(λ_=>⟨O,ac.mono e.size,λI=>?_⟩),(λh=>by cases h),ah e q e.size⟩
  exact absurd (List.map_eq_nil_iff.1 I) bz
theorem SO (l:List Int):Ie (i16 l):=λc e=>by
 obtain⟨x,_,rfl⟩:=List.mem_map.1 e;rfl
theorem Ri (w:World)(k:Nat):w.grownBy w (some k):=⟨rfl,rfl,rfl,Nat.le_refl _,λ_ _ _=>rfl⟩
theorem Qc {e sT ty elem:TypeId}(M:P.underlying e=some (.slice elem))(I:(P.info? elem).map (·.size)=some 1){T:TypeId}{vs:List Value}(h:av w k T vs)
 {a:Option Addr} {n c:Nat} {xs:List Int} (G:Ow Wk elem w NoB a n c xs) (aj:xs=[]->a=none/\n=0/\c=0) {o dLen dCap:Nat} {A:Addr} (hA:xs≠[]->A=⟨k,o,none⟩) (a9:xs.length <=dLen) (X:o+xs.length <=vs.length):
 ∃w',(Builtin.copy_ #[e,sT] ty #[.slice (some A) dLen dCap,.slice a n c]).run P w=.ok (vI ((xs.length:Nat):Int)) w'/\av w' k T (vs.take o++i16 xs++vs.drop (o+xs.length))/\w.grownBy w' (some k):=by
 by_cases q:xs=[]
 ·obtain⟨rfl,rfl,rfl⟩:=aj q
  subst q
  refine⟨w,run_copy_nil P w e sT ty elem A dLen dCap M (by rw[I];rfl),?_,Ri w k⟩
  simpa[i16]using h
 ·have ag:=G.len
  obtain⟨h1,ar,a0,U⟩:=G.all
  obtain⟨b,off,rfl,a8,-,l,al,V⟩:=U.resolve_left q
  have ac:l=i16 xs:=tJ (h1:=λ_=>rfl) al
  subst ac
  rw[hA q]
  have D:(i16 xs).length=xs.length:=by simp[i16]
  have an:∀(j:Nat) (v:Value),(i16 xs)[j]? =some v->w.cell? ((⟨b,off,none⟩:Addr).add j)=some v:=by
   intro j v E
   have Z:j<(i16 xs).length:=(List.getElem?_eq_some_iff.1 E).1
   have O:(⟨b,off,none⟩:Addr).add j=⟨b,off+j,none⟩:=by unfold Addr.add;split <;> simp_all
   rw[O,V j Z,E]
  have ad:(i16 xs).length=Nat.min n dLen:=by rw[D,ag];exact(Nat.min_eq_left (by omega)).symm
  have H:=run_copy_row P w e sT ty elem k o dLen dCap ⟨b,off,none⟩ n c vs.toArray T (i16 xs) M I h ad an (by rw[D];simpa using X) (SO xs)
  rw[D]at H
  have Y:=setRow_heap w k vs.toArray (vs.take o++i16 xs++vs.drop (o+xs.length)).toArray T (0,0) h
  exact⟨_,H,Y,qV w k _⟩
theorem PS:IntKind.u8.wrap (n:Int)=(((UInt8.ofNat (n%256)).toNat:Nat):Int):=by
 have e:IntKind.u8.wrap (n:Int)=(n:Int)%256:=rfl
 try dsimp only
 rw[e,GK (by omega)];omega
theorem XT (h:n<65536):IntKind.u8.wrap (Int.fdiv (n:Int) (2 ^ (min (Int.toNat (8:Int)) (IntKind.bits .u16))))=(((UInt8.ofNat (n/256)).toNat:Nat):Int):=by
 have e:(2:Int) ^ (min (Int.toNat (8:Int)) (IntKind.bits .u16))=256:=by decide
 have q:Int.fdiv (n:Int) 256=((n/256:Nat):Int):=by rw[Int.fdiv_eq_ediv_of_nonneg _ (by decide)];omega
 rw[e,q,wrap_u8 (by omega) (by omega),GK (by omega)]
theorem NT (E G H I M O U V:Nat)(Z:∀g∈[E,G,H,I,M,O,U,V],g<65536)(w:World):
 Cf Fl #[.agg #[.int .u16 (E:Int),.int .u16 (G:Int),.int .u16 (H:Int),.int .u16 (I:Int),.int .u16 (M:Int),.int .u16 (O:Int),.int .u16 (U:Int),.int .u16 (V:Int)]] w
  (Ret λv w'=>v=adV (zH [E,G,H,I,M,O,U,V])/\bW w w'):=by
 apply Nu
 intro q al c6 cb
 have b5:=(cb▸au w _:bW w al)
 have a0:av al q cJ (i16 ([E,G,H,I,M,O,U,V].map λg:Nat=>(g:Int))):=av.new c6 cb
 obtain⟨e,bb⟩:∃e,e=[E,G,H,I,M,O,U,V]:=⟨_,rfl⟩
 have ac:e.length=8:=by rw[bb];rfl
 rw[<- bb]at a0 Z ⊢
 clear bb
 intro aj an c7 cc
 have b6:=(cc▸au al _:bW al an)
 have a8:=ah b5 b6 b5.size
 have b0:av an aj aK (adC ad0):=av.new c7 cc
 intro k3 ch c8 ce
 have bc:=(ce▸au an _:bW an ch)
 have c1:=ah a8 bc a8.size
 have c0:av ch k3 aK (adC ad0):=av.new c8 ce
 have cu:=b0.below bc
 have cr:=(a0.below b6).below bc
 have de:=a0.lt
 have dg:=b0.lt
 have b9:w.heap.size <=k3:=by have:=a8.size;omega
 refine⟨λm i w'=>∃k:Nat,k <=8/\i=(k:Int)/\m=8-k/\av w' k3 aK (adC (Rj e k))/\av w' aj aK (adC ad0)/\av w' q cJ (i16 (e.map λg:Nat=>(g:Int)))/\bW w w',
  ⟨_,0,by omega,rfl,rfl,c0,cu,cr,c1⟩,?_⟩
 intro m i
 refine aP.of ?_ _
 rintro ar ⟨k,c5,rfl,rfl,b2,b1,ct,a9⟩
 refine ai.of (λh=>?_) (λh=>?_) <;> simp only[dTx,dFx]at h
 ·have c9:k<8:=by omega
  have c4:=Z e[k] (List.getElem_mem (by omega))
  have cn:i64.wrap (2*(k:Int))=((2*k:Nat):Int):=by rw[wrap_i64 (by omega) (by omega)];omega
  have cp:i64.wrap (((2*k:Nat):Int)+1)=((2*k+1:Nat):Int):=by rw[wrap_i64 (by omega) (by omega)];omega
  rw[cn,cp,ni,ni,ni]
  simp only[Nat.zero_add]
  have b7:(0 <=(k:Int)/\(k:Int)<((8:Nat):Int))/\True:=⟨⟨by omega,by omega⟩,trivial⟩
  have b8:(0 <=((2*k:Nat):Int)/\((2*k:Nat):Int)<((16:Nat):Int))/\True:=⟨⟨by omega,by omega⟩,trivial⟩
  have bq:(0 <=((2*k+1:Nat):Int)/\((2*k+1:Nat):Int)<((16:Nat):Int))/\True:=⟨⟨by omega,by omega⟩,trivial⟩
  have c2:bW w (World.drew ar):=ah a9 (uE rfl rfl rfl (Nat.le_refl _) (λ_ _=>rfl)) a9.size
  have cl:av (World.drew ar) k3 aK (adC (Rj e k)):=b2
  have ck:av (World.drew ar) aj aK (adC ad0):=b1
  have D:av (World.drew ar) q cJ (i16 (e.map λg:Nat=>(g:Int))):=ct
  have c3:(i16 (e.map λg:Nat=>(g:Int)))[k]? =some (.int .u16 ((e[k]'(by omega):Nat):Int)):=by
   unfold i16
   rw[List.getElem?_map,List.getElem?_map,List.getElem?_eq_getElem (by omega)];rfl
  have Y:∀{wx:World},av wx q cJ (i16 (e.map λg:Nat=>(g:Int)))->(Instr.loadAt r8 (.pointer (some ⟨q,k,none⟩))).run prog wx=.ok (.int .u16 ((e[k]'(by omega):Nat):Int)) wx:=λdc=>dc.load1 KE rfl c3
  have X:=IV ac c5
  obtain⟨bs,ad,b3,bk⟩:=cl.put (P:=prog) zX (i:=2*k) (v:=.int .u8 (((UInt8.ofNat (e[k]/256)).toNat:Nat):Int)) (by rw[ja,X];omega) rfl rfl
  rw[Fg]at b3
  have bz:=D.grown bk (bw (by omega))
  obtain⟨w9,ag,b4,bp⟩:=b3.put (P:=prog) zX (i:=2*k+1) (v:=.int .u8 (((UInt8.ofNat (e[k]%256)).toNat:Nat):Int)) (by rw[ja,List.length_set,X];omega) rfl rfl
  rw[Fg,Qm ac c9]at b4
  have bj:∃cf:Nat,cf<8-k/\∃k':Nat,k' <=8/\i64.wrap ((k:Int)+1)=(k':Int)/\cf=8-k'/\av w9 k3 aK (adC (Rj e k'))/\av w9 aj aK (adC ad0)/\av w9 q cJ (i16 (e.map λg:Nat=>(g:Int)))/\bW w w9:=
   ⟨8-(k+1),by omega,k+1,by omega,by rw[wrap_i64 (by omega) (by omega)];omega,rfl,b4,(ck.grown bk (bw (by omega))).grown bp (bw (by omega)),bz.grown bp (bw (by omega)),Below.put (Below.put c2 bk b9) bp b9⟩
  rw[<- XT c4]at ad
  rw[<- PS]at ag
  refine⟨b7,b7,⟨_,Y D,by decide,b8,⟨_,Y D,bs,ad,bq,w9,ag,bj⟩,bs,ad,_,Y bz,bq,w9,ag,bj⟩,_,Y D,_,Y D,by decide,b8,bs,ad,bq,w9,ag,bj⟩
 ·have:k=8:=by omega
  subst this
  have X:(adC (Rj e 8)).length=16:=by rw[ja,IV ac (by omega)]
  refine⟨_,dN.load0 b2 X,?_⟩
  exact dN.fin (K:=λdd cj=>dd=adV (zH e)/\bW w cj) X (rH _) b1 rfl a9 (by omega) λcj Z=>⟨by rw[Vc ac];rfl,Z⟩
theorem HI:Whl prog cJ 8:=⟨⟨_,_,LW⟩,by kernel_rfl⟩
theorem QY (s:List UInt8)(ei:s.length<4294967281)(w:World)(bb:Env w):Cf Jz #[vS s] w (Ret λv w'=>v=adT (v6A s)/\bW w w'):=by
 apply PH
 intro c1 H d8 cu
 have an:=(cu▸au w _:bW w H)
 have E:av H c1 aK (adC ad0):=av.new d8 cu
 obtain⟨m,d9⟩:=(bb.step an).max
 refine(Tryz.strings_Cut (mkS s) (mkS [58,58]) m H ei d9).mono ?_
 rintro _ fn ⟨rfl,et,rfl⟩
 have b5:bW H (H.drewN et):=uE rfl rfl rfl (Nat.le_refl _) (λ_ _=>rfl)
 have ar:=ah an b5 an.size
 have ds:=E.below b5
 have bp:(Lib.cut s [58,58]).1.length <=s.length/\(Lib.cut s [58,58]).2.1.length <=s.length:=by
  rcases FW s with⟨h1,-⟩|⟨p,h1,-⟩ <;> rw[h1]
  ·exact⟨Nat.le_refl _,Nat.zero_le _⟩
  ·exact⟨by rw[List.length_take];omega,by rw[List.length_drop];omega⟩
 have cr:v6A s=(if Pi (Lib.cut s [58,58]).2.2 (oP (Lib.cut s [58,58]).1) (oP (Lib.cut s [58,58]).2.1)=true then some (v6L (oP (Lib.cut s [58,58]).1) (oP (Lib.cut s [58,58]).2.1))else none).map zH:=rfl
 show ∃(ev:List UInt8) (ew:List UInt8) (c4:Bool),(Ending.returned (.tuple #[.string (mkS (Lib.cut s [58,58]).1),.string (mkS (Lib.cut s [58,58]).2.1),.bool (Lib.cut s [58,58]).2.2]):Ending)=.returned (.tuple #[vS ev,vS ew,.bool c4])/\_
 generalize Lib.cut s [58,58]=C at*
 obtain⟨f,b,g⟩:=C
 refine⟨f,b,g,rfl,?_⟩
 have e6:f.length <=s.length:=bp.1
 have e5:b.length <=s.length:=bp.2
 have cp:v6A s=(if Pi g (oP f) (oP b)=true then some (v6L (oP f) (oP b))else none).map zH:=cr
 clear cr bp
 refine az (I6 f (by omega) _ (bb.step ar)) ?_
 rintro _ ex ⟨a4,en,e0,rfl,cj,e7,b6⟩
 have a0:=ah ar b6 ar.size
 refine⟨_,_,_,_,rfl,?_⟩
 refine az (I6 b (by omega) ex (bb.step a0)) ?_
 rintro _ ad ⟨a5,eq,e1,rfl,ck,e9,Z⟩
 have X:=ah a0 Z a0.size
 have al:=(ds.below b6).below Z
 refine⟨_,_,_,_,rfl,?_⟩
 have cn:∀t:List UInt8,(oP t).length <=t.length+1:=λt=>by
  unfold oP
  split
  ·simp
  ·exact jQ 58 t []
 have q:∀t:List UInt8,(Mk t).length=(oP t).length:=λt=>by simp[Mk]
 have fd:=cn f
 have fb:=cn b
 have ea:(oP f).all pU=true->en=(oP f).length:=λh=>by rw[<- q];exact(cj h).1.len
 have bq:(oP b).all pU=true->eq=(oP b).length:=λh=>by rw[<- q];exact(ck h).1.len
 have er:∀{b0:World},Pi g (oP f) (oP b)=false->av b0 c1 aK (adC ad0)->bW w b0->_:=fun{b0} d6 d1 d4=>dN.fin (K:=λbz I=>(.tuple #[bz,.bool false]:Value)=adT (v6A s)/\bW w I) (cs:=adC ad0) rfl (rH _) d1 rfl d4 (by omega) λI a9=>⟨by rw[cp,d6];rfl,a9⟩
 refine iY (w:=ad) (Pi g (oP f) (oP b)=true) ?_ (λb9=>?_)
 ·refine⟨λx w'=>w'=ad/\x= !(Pi g (oP f) (oP b)),?_,?_⟩
  ·refine ai.of (λh1=>⟨rfl,?_⟩) (λh1=>?_)
   ·have O:(oP f).all pU=false:=by simpa only[Bool.not_eq_true']using h1
    unfold Pi;rw[O,Bool.false_and,Bool.false_and];rfl
   have O:(oP f).all pU=true:=by simpa only[Bool.not_eq_false']using h1
   refine ai.of (λE=>⟨rfl,?_⟩) (λE=>?_)
   ·have V:(oP b).all pU=false:=by simpa only[Bool.not_eq_true']using E
    unfold Pi;rw[V,Bool.and_false,Bool.false_and];rfl
   have V:(oP b).all pU=true:=by simpa only[Bool.not_eq_false']using E
   have c7:Pi g (oP f) (oP b)=if g then decide ((oP f).length+(oP b).length<8)else decide ((oP f).length+(oP b).length=8):=by unfold Pi;rw[O,V,Bool.and_self,Bool.true_and]
   rw[c7,ea O,bq V,wrap_i64 (by omega) (by omega)]
   cases g with
   |true=>
    refine ai.yes rfl (ai.of (λb3=>⟨rfl,?_⟩) (λb3=>ai.no rfl ⟨rfl,?_⟩)) <;> simp at b3 ⊢ <;> omega
   |false=>
    refine ai.no rfl (ai.yes rfl ⟨rfl,?_⟩)
    rw[Bool.eq_iff_iff];simp;omega
  ·intro x
   refine aP.of ?_ _
   rintro fp ⟨c0,e⟩
   rw[c0,e];clear c0 e
   exact ai.of (λh1=>er (by simpa only[Bool.not_eq_true']using h1) al X) (λh1=>⟨rfl,by simpa only[Bool.not_eq_false']using h1⟩)
 ·have bc:=b9
  unfold Pi at bc
  rw[Bool.and_eq_true,Bool.and_eq_true]at bc
  obtain⟨⟨b2,M⟩,aj⟩:=bc
  have e4:(oP f).length+(oP b).length <=8:=by
   split at aj
   ·have:=of_decide_eq_true aj;omega
   ·have:=of_decide_eq_true aj;omega
  obtain⟨cf,e2,el⟩:=cj b2
  obtain⟨ch,e3,em⟩:=ck M
  rw[bq M]
  intro k12 c2 d7 ct
  have Y:=(ct▸au ad _:bW ad c2)
  have d2:=ah X Y X.size
  have dn:av c2 k12 cJ (i16 [0,0,0,0,0,0,0,0]):=av.new d7 ct
  have ed:=(cf.below Z).below Y
  have ee:=ch.below Y
  have fm:∀g,j0 a4=some g->g≠k12:=λg bj ag=>by have:=cf.lt g bj;have:=Z.size;omega
  have es:∀g,j0 a5=some g->g≠k12:=λg bj ag=>by have:=ch.lt g bj;omega
  have cc:w.heap.size <=k12:=by have:=X.size;omega
  have fl:=al.lt
  obtain⟨ey,eg,dr,bk⟩:=Qc (P:=prog) (sT:=pW) (ty:=aJ) (dLen:=8) (dCap:=8) (o:=0) (A:=⟨k12,0,none⟩) Ds (by kernel_rfl) dn ed el (λ_=>rfl) (by rw[q];omega) (by rw[q];simp[i16];omega)
  have c6:Int.toNat (i64.wrap ((8:Int)-(((oP b).length:Nat):Int)))=8-(oP b).length:=by rw[wrap_i64 (by omega) (by omega)];omega
  have b1:i64.wrap ((8:Int)-(((oP b).length:Nat):Int))=((8-(oP b).length:Nat):Int):=by rw[wrap_i64 (by omega) (by omega)];omega
  refine⟨trivial,ey,_,eg,⟨by rw[b1];omega,by rw[b1];omega⟩,?_⟩
  rw[c6]
  have ef:=ee.put es bk
  have ce:(List.take 0 (i16 [0,0,0,0,0,0,0,0])++i16 (Mk f)++List.drop (0+(Mk f).length) (i16 [0,0,0,0,0,0,0,0])).length=8:=by
   have:=q f
   simp[i16];omega
  obtain⟨c3,cl,U,cb⟩:=Qc (P:=prog) (sT:=pW) (ty:=aJ) (dLen:=8-(8-(oP b).length)) (dCap:=8-(8-(oP b).length)) (o:=8-(oP b).length) (A:=if 8=8-(oP b).length then⟨k12,0,none⟩ else Addr.add ⟨k12,0,none⟩ ((8-(oP b).length)*1)) Ds (by kernel_rfl) dr ef em
   (λeb=>by
    have:(oP b).length≠0:=λag=>eb (List.length_eq_zero_iff.1 (by rw[q];exact ag))
    rw[if_neg (by omega)]
    unfold Addr.add;split <;> simp_all) (by rw[q];omega) (by rw[q,ce];omega)
  rw[bq M]at cl
  refine⟨c3,_,cl,?_⟩
  obtain⟨D,G⟩:∃D,D=v6L (oP f) (oP b):=⟨_,rfl⟩
  have d5:D.length=8:=by rw[G];simp[v6L];omega
  have a8:∀x∈D,x<65536:=λx e=>by
   rw[G]at e
   unfold v6L at e
   rcases List.mem_append.1 e with e|e
   ·rcases List.mem_append.1 e with e|e
    ·obtain⟨y,bs,rfl⟩:=List.mem_map.1 e;exact Vd (List.all_eq_true.1 b2 y bs)
    ·rw[(List.mem_replicate.1 e).2];decide
   ·obtain⟨y,bs,rfl⟩:=List.mem_map.1 e;exact Vd (List.all_eq_true.1 M y bs)
  have b8:(List.take 0 (i16 [0,0,0,0,0,0,0,0])++i16 (Mk f)++List.drop (0+(Mk f).length) (i16 [0,0,0,0,0,0,0,0])).take (8-(oP b).length)++i16 (Mk b)++(List.take 0 (i16 [0,0,0,0,0,0,0,0])++i16 (Mk f)++List.drop (0+(Mk f).length) (i16 [0,0,0,0,0,0,0,0])).drop (8-(oP b).length+(Mk b).length)=i16 (D.map λx:Nat=>(x:Int)):=by
   have ek:i16 [0,0,0,0,0,0,0,0]=List.replicate 8 (Value.int .u16 0):=rfl
   rw[ek,List.take_zero,List.nil_append,List.drop_replicate,q,q,Nat.zero_add,G]
   rw[show 8-(oP b).length+(oP b).length=8 by omega,List.drop_eq_nil_of_le (by simp[i16,Mk];omega),List.append_nil]
   rw[List.take_append,List.take_of_length_le (by simp[i16,Mk];omega),List.take_replicate]
   have c5:min (8-(oP b).length-(i16 (Mk f)).length) (8-(oP f).length)=8-(oP f).length-(oP b).length:=by
    have:(i16 (Mk f)).length=(oP f).length:=by simp[i16,Mk]
    omega
   rw[c5]
   unfold v6L i16 Mk
   simp
   rfl
  rw[b8]at U
  have b4:=Below.put (Below.put d2 bk cc) cb cc
  have d0:=((al.below Y).grown bk (bw (by omega))).grown cb (bw (by omega))
  have ac:v6A s=some (zH D):=by rw[cp,b9,G];rfl
  clear G b8 ce
  match D,d5,a8,U,ac with
  |[c8,c9,dc,dd,de,dg,dk,dl],_,a8,U,ac=>
   refine⟨_,_,_,_,_,_,_,_,HI.load0 U rfl,?_⟩
   refine az (NT c8 c9 dc dd de dg dk dl a8 c3) ?_
   rintro _ fo ⟨rfl,b7⟩
   have d3:=ah b4 b7 b4.size
   refine⟨_,rfl,?_⟩
   exact dN.fin (K:=λbz I=>(.tuple #[bz,.bool true]:Value)=adT (v6A s)/\bW w I) (by rw[ja];exact TS s _ ac) (rH _) (d0.below b7) rfl d3 (by omega) λI a9=>⟨by rw[ac];rfl,a9⟩
abbrev tH (n:Nat):List UInt8:=Lib.decDigits n
theorem Qs:Lib.itoa (n:Int)=tH n:=by unfold Lib.itoa;rw[if_neg (by omega)];rfl
theorem gX (h:n <=9223372036854775807):(tH n).length <=21:=by rw[<- Qs];exact Lib.itoa_length_le n (by omega) (by omega)
def vV (a:List UInt8):List UInt8:=Lib.join ((a.drop 12).map λc=>tH c.toNat) [46]
theorem JK (xs:List (List UInt8))(c:UInt8)(e:Nat)(h:∀x∈xs,x.length <=e):(Lib.join xs [c]).length <=xs.length*(e+1):=by
 cases xs with
 |nil=>simp[Lib.join_nil]
 |cons x r=>
  rw[Lib.join_cons]
  have:∀r:List (List UInt8),(∀x∈r,x.length <=e)->(Lib.joinTail [c] r).length <=r.length*(e+1):=by
   intro r
   induction r with
   |nil=>intro _;simp[Lib.joinTail]
   |cons y r I=>
    intro q
    have h1:=I λx G=>q x (List.mem_cons_of_mem _ G)
    have E:=q y List.mem_cons_self
    have D:Lib.joinTail [c] (y::r)=[c]++y++Lib.joinTail [c] r:=by simp[Lib.joinTail]
    rw[D]
    simp only[List.length_append,List.length_cons,List.length_nil,Nat.add_mul];omega
  have h1:=this r λy H=>h y (List.mem_cons_of_mem _ H)
  have E:=h x List.mem_cons_self
  simp only[List.length_append,List.length_cons,Nat.add_mul];omega
theorem JH {a:Option Addr}{n c:Nat}{xs:List (List UInt8)}(ac:Sl tS w A a n c xs)(sep:List UInt8)(e:xs.length <=140737488355328)(X:(Lib.join xs sep).length <=140737488355328):
 Cf lY #[.slice a n c,vS sep] w (Ret λv w'=>v=vS (Lib.join xs sep)/\bW w w'):=by
 obtain⟨Y,Z,ad,D⟩:=ac
 subst Y
 rcases D with D|⟨b,off,rfl,M,_,cs,U,O⟩
 ·subst D
  refine(Tryz.strings_Join_none a c (mkS sep) w).mono ?_
  rintro _ _ ⟨rfl,rfl⟩
  exact⟨_,rfl,rfl,Below.refl _ _⟩
 ·have G:=tJ U
  have E:(xs.map mkS).map (λs=>s.data.toList)=xs:=by rw[List.map_map];exact List.map_id xs
  have H:=Tryz.strings_Join b off c (xs.map mkS) (mkS sep) w (λj x e=>by
   rw[List.getElem?_map]at e
   cases q:xs[j]? with
   |none=>rw[q]at e;cases e
   |some y=>
    rw[q]at e
    cases e
    have V:=(List.getElem?_eq_some_iff.1 q).1
    rw[O j (by rw[G];simpa using V),G,List.getElem?_map,q];rfl) M (by rw[List.length_map];omega) (by rw[List.length_map];exact Z) (by
    rw[E];exact X)
  rw[List.length_map]at H
  refine H.mono ?_
  rintro _ w' ⟨rfl,I⟩
  rw[E]
  exact⟨_,rfl,rfl,I⟩
theorem V5 (n:Nat)(h:n <=9223372036854775807)(w:World)(e:Env w):Cf Ak #[vI (n:Int)] w (Ret λv w'=>v=vS (tH n)/\bW w w'):=by
 refine(Tryz.strconv_Itoa n (by omega) (by omega) w e.tab).mono ?_
 rintro _ _ ⟨rfl,k,q,rfl⟩
 rw[Qs]
 exact⟨_,rfl,rfl,Fh w k q⟩
theorem MF (a:List UInt8)(bq:a.length=16)(w:World)(ac:Env w):Cf CO #[adV a] w (Ret λv w'=>v=vS (vV a)/\bW w w'):=by
 apply Lk
 intro E q aj O
 have G:=(O▸au w _:bW w q)
 have h1:av q E aK (adC a):=av.new aj O
 have X:(if 16=(Int.toNat (12:Int))then(⟨E,0,none⟩:Addr)else Addr.add ⟨E,0,none⟩ ((Int.toNat (12:Int))*1))=⟨E,12,none⟩:=by
  rw[if_neg (by decide)];unfold Addr.add;split <;> simp_all
 have Y:(16-(Int.toNat (12:Int)):Nat)=4:=rfl
 rw[X,Y]
 refine⟨⟨by decide,by decide⟩,?_⟩
 refine⟨λm a3 U M i w'=>∃k:Nat,k <=4/\i=(k:Int)/\m=4-k/\Ow tS ao w' NoB a3 U M (((a.drop 12).take k).map λc=>tH c.toNat)/\ci q.heap.size a3/\bW q w',
  ⟨_,0,by omega,rfl,rfl,Ow.nil _ _ _ _,ci.none _,Below.refl _ _⟩,?_⟩
 intro m a3 U M i
 refine aP.of ?_ _
 rintro bj ⟨k,bs,rfl,rfl,I,ad,e⟩
 have an:(a.drop 12).length=4:=by rw[List.length_drop];omega
 refine ai.of (λh=>?_) (λh=>?_) <;> simp only[dTx,dFx]at h
 ·have bz:k<4:=by omega
  rw[ni]
  have b1:=qi (a[12+k]'(by omega))
  refine⟨⟨⟨by omega,h⟩,rfl⟩,_,(h1.below e).load1 dm rfl (tK (i:=12+k) (by omega)),?_⟩
  rw[wrap_i64 (by omega) (by omega)]
  refine az (V5 _ (by omega) bj ((ac.step G).step e)) ?_
  rintro _ bk ⟨rfl,D⟩
  have H:=ah e D e.size
  refine⟨_,rfl,?_⟩
  intro b2 b3 al a9
  have b0:(((a.drop 12).take k).map λc=>tH c.toNat).length <=4:=by simp;omega
  obtain⟨bp,a5,bc,V,a8,a0,ag,Z⟩:=AM (ty:=bI) (w0:=q) (cm:=1) (vs:=[_]) (gI _) lQ bS (by decide) (I.below D) ad H al a9 (qk trivial) (by omega)
  refine⟨bp,a5,bc,V,a8,4-(k+1),by omega,k+1,by omega,by rw[wrap_i64 (by omega) (by omega)];omega,rfl,?_,ag,Z⟩
  rw[List.take_succ_eq_append_getElem (by omega),List.map_append]
  have:(a.drop 12)[k]'(by omega)=a[12+k]'(by omega):=by rw[List.getElem_drop]
  rw[this];exact a0
 ·have:k=4:=by omega
  subst this
  rw[List.take_of_length_le (by omega)]at I
  have ar:(vV a).length <=4*(21+1):=by
   have:=JK ((a.drop 12).map λc=>tH c.toNat) 46 21 (λx bb=>by
    obtain⟨c,_,rfl⟩:=List.mem_map.1 bb
    have:=qi c
    exact gX (by omega))
   rw[List.length_map,an]at this
   exact this
  refine az (JH I.all [46] (by rw[List.length_map];omega) (Nat.le_trans ar (by decide))) ?_
  rintro _ bk ⟨rfl,D⟩
  have H:=ah e D e.size
  exact⟨_,rfl,rfl,ah G H G.size⟩
def Qp (d:Nat):UInt8:=UInt8.ofNat (if d<10 then 48+d else 87+d)
def CJ (n:Nat):List UInt8:=if n<16 then[Qp n]else CJ (n/16)++[Qp (n%16)]
termination_by n
theorem zR (h:n<16):CJ n=[Qp n]:=by rw[CJ,if_pos h]
theorem uz (h: ¬ n<16):CJ n=CJ (n/16)++[Qp (n%16)]:=by rw[CJ,if_neg h]
theorem uF (h:n<65536):(CJ n).length <=4:=by
 have step:∀m q:Nat,(m/16<q->(CJ (m/16)).length <=3)->True:=λ_ _ _=>trivial
 have e:∀n,n<16->(CJ n).length=1:=λn h=>by rw[zR h];rfl
 have D:∀n,n<256->(CJ n).length <=2:=λn h=>by
  by_cases c:n<16
  ·rw[e n c];omega
  ·rw[uz c,List.length_append,e (n/16) (by omega)];simp
 have E:∀n,n<4096->(CJ n).length <=3:=λn h=>by
  by_cases c:n<16
  ·rw[e n c];omega
  ·have:=D (n/16) (by omega)
   rw[uz c,List.length_append];simp;omega
 by_cases c:n<16
 ·rw[e n c];omega
 ·have:=E (n/16) (by omega)
  rw[uz c,List.length_append];simp;omega
def XH:List UInt8:=[48,49,50,51,52,53,54,55,56,57,97,98,99,100,101,102,103,104,105,106,107,108,109,110,111,112,113,114,115,116,117,118,119,120,121,122]
theorem N6:∀d:Nat,d<16->bm XH (d:Int)=(((Qp d).toNat:Nat):Int):=by decide
theorem u64_in {n:Int}(q:0 <=n)(h1:n<18446744073709551616):IntKind.u64.wrap n=n:=by
 have e:IntKind.u64.wrap n=n%18446744073709551616:=rfl
 try dsimp only
 rw[e];omega
theorem XD {u:Nat}(h:u<65536):IntKind.u64.wrap (((BitVec.ofInt (IntKind.bits .u64) (u:Int)) &&& (BitVec.ofInt (IntKind.bits .u64) (IntKind.u64.wrap ((IntKind.u64.wrap (16:Int))-(1:Int))))).toNat:Nat)=((u%16:Nat):Int):=by
 have q:IntKind.u64.wrap ((IntKind.u64.wrap (16:Int))-(1:Int))=((15:Nat):Int):=by decide
 have e:∀n:Nat,n<65536->(BitVec.ofInt (IntKind.bits .u64) (n:Int)).toNat=n:=λn D=>by
  show(BitVec.ofInt 64 (n:Int)).toNat=n
  rw[BitVec.toNat_ofInt]
  have h:((2 ^ 64:Nat):Int)=18446744073709551616:=by decide
  rw[h];omega
 rw[q,BitVec.toNat_and,e u h,e 15 (by decide)]
 have:u &&& 15=u%16:=Nat.and_two_pow_sub_one_eq_mod u 4
 rw[this,u64_in (by omega) (by omega)]
theorem Yj {u:Nat} :Int.fdiv (u:Int) (2 ^ (min (Int.toNat (IntKind.u64.wrap (4:Int))) (IntKind.bits .u64)))=((u/16:Nat):Int):=by
 have e:(2:Int) ^ (min (Int.toNat (IntKind.u64.wrap (4:Int))) (IntKind.bits .u64))=16:=by decide
 try dsimp only
 rw[e,Int.fdiv_eq_ediv_of_nonneg _ (by decide)];omega
theorem U5 (k o j:Nat):Addr.add ⟨k,o,none⟩ j=⟨k,o+j,none⟩:=by unfold Addr.add;split <;> simp_all
theorem av.sl8 {T:TypeId}{p xs:List UInt8}(h:av w k T (adC (p++xs)))(e:xs.length <=maxLen):Sl tU8 w wu (some ⟨k,p.length,none⟩) xs.length xs.length xs:=by
 refine⟨rfl,Nat.le_refl _,e,.inr ⟨k,p.length,rfl,h.lt,trivial,adC xs,o5 (λ_ _=>trivial),λj q=>?_⟩⟩
 rw[h.cell]
 unfold adC
 rw[List.map_append,List.getElem?_append_right (by simp)]
 simp
theorem CK (w:World)(E:Env w):Cf rb #[.int .u64 (IntKind.u64.wrap (16:Int))] w (Ret λv w'=>v=vI 4/\w'=w):=by
 have q:IntKind.u64.wrap (16:Int)=16:=by decide
 try dsimp only
 rw[q]
 apply zo
 refine az (K:=λv w'=>v=vI 4/\w'=w) ?_ ?_
 ·apply xN
  refine ai.no (by decide) ⟨by decide,⟨⟨by decide+kernel,by decide+kernel⟩,rfl⟩,4,?_,rfl,rfl⟩
  have D:∀e:Int,e=15->(Instr.loadAt bF (.pointer (aw (some ⟨7,0,none⟩) e 1))).run prog w=.ok (.int .u8 4) w:=by
   rintro _ rfl
   exact qb dm rfl E.tz
  exact D _ (by decide+kernel)
 ·rintro _ H ⟨rfl,G⟩
  exact⟨_,rfl,rfl,G⟩
theorem M0 (n:Nat)(bq:n<65536)(w:World)(bc:Env w):Cf oW #[.slice none 0 0,.int .u64 (n:Int),vI 16,.bool false,.bool false] w
 (Ret λv w'=>v=.tuple #[.slice none 0 0,vS (CJ n)]/\bW w w'):=by
 apply wW
 refine iY (w:=w) True ?_ (λ_=>?_)
 ·refine⟨λb w'=>w'=w/\b=false,ai.no (by decide) (ai.no (by decide) ⟨rfl,by decide⟩),λb=>aP.of ?_ _⟩
  rintro cc ⟨b1,bb⟩
  rw[b1,bb]
  exact ai.no rfl ⟨rfl,trivial⟩
 intro k D bj aj
 have X:=(aj▸au w _:bW w D)
 have h1:av D k xU (adC (List.replicate 65 0++[])):=av.new bj aj
 have ac:w.heap.size <=k:=by omega
 refine IX (w:=D) (n:Int) (ai.no rfl ⟨rfl,rfl⟩) ?_
 refine⟨λi w'=>∃xs:List UInt8,i=((65-xs.length:Nat):Int)/\xs=CJ n/\av w' k xU (adC (List.replicate (65-xs.length) 0++xs))/\bW w w',?_,λi=>aP.of ?_ _⟩
 ·refine az (K:=λv w'=>v=.bool true/\w'=D) ?_ ?_
  ·apply vR
   exact⟨congrArg Value.bool (by decide+kernel),rfl⟩
  rintro _ b8 ⟨rfl,b2⟩
  rw[b2]
  refine⟨_,rfl,ai.yes rfl ?_⟩
  refine az (CK D (bc.step X)) ?_
  rintro _ b9 ⟨rfl,b3⟩
  rw[b3]
  refine⟨_,rfl,?_⟩
  refine⟨λm u i w'=>∃(q t:Nat) (xs:List UInt8),u=(q:Int)/\m=q/\t=xs.length/\i=((65-t:Nat):Int)/\CJ n=CJ q++xs/\q*16 ^ t <=65535/\(t=0\/0<q)/\av w' k xU (adC (List.replicate (65-t) 0++xs))/\bW w w',
   ⟨_,n,0,[],rfl,rfl,rfl,rfl,by rw[List.append_nil],by omega,.inl rfl,h1,X⟩,?_⟩
  intro m u i
  refine aP.of ?_ _
  rintro cb ⟨q,t,xs,rfl,bp,rfl,rfl,al,bs,b0,a8,Y⟩
  obtain rfl:q=m:=bp.symm
  have b7:xs.length <=3:=by
   rcases b0 with V|V
   ·omega
   ·refine Decidable.byContradiction λb5=>?_
    have b4:16 ^ 4 <=16 ^ xs.length:=Nat.pow_le_pow_right (by decide) (by omega)
    have:16 ^ xs.length <=q*16 ^ xs.length:=Nat.le_mul_of_pos_left _ V
    have O:(16:Nat) ^ 4=65536:=rfl
    omega
  have bz:q<65536:=by
   have:q <=q*16 ^ xs.length:=Nat.le_mul_of_pos_right _ (Nat.pos_of_ne_zero (by simp))
   omega
  have U:IntKind.u64.wrap (16:Int)=16:=by decide
  have ar:i64.wrap (((65-xs.length:Nat):Int)-1)=((65-(xs.length+1):Nat):Int):=by rw[wrap_i64 (by omega) (by omega)];omega
  have ag:∀c:UInt8,(adC (List.replicate (65-xs.length) 0++xs)).set (65-(xs.length+1)) (.int .u8 ((c.toNat:Nat):Int))=adC (List.replicate (65-(xs.length+1)) 0++(c::xs)):=λc=>by
   rw[Fg,show 65-xs.length=(65-(xs.length+1))+1 by omega,List.replicate_succ' (n:=65-(xs.length+1)),List.append_assoc,List.set_append_right _ _ (by simp),List.length_replicate,Nat.sub_self];rfl
  have ad:=λc:UInt8=>a8.put (P:=prog) zX (i:=65-(xs.length+1)) (v:=.int .u8 ((c.toNat:Nat):Int)) (by rw[ja];simp;omega) rfl rfl
  rw[ar,ni,Nat.zero_add]
  have Z:(0 <=((65-(xs.length+1):Nat):Int)/\((65-(xs.length+1):Nat):Int)<((65:Nat):Int))/\true=true:=⟨⟨by omega,by omega⟩,rfl⟩
  refine ai.of (λh=>?_) (λh=>?_)
  ·rw[U]at h
   simp only[ge_iff_le,dTx]at h
   have H:16 <=q:=by omega
   rw[XD bz,Yj,show bm [48,49,50,51,52,53,54,55,56,57,97,98,99,100,101,102,103,104,105,106,107,108,109,110,111,112,113,114,115,116,117,118,119,120,121,122] ((q%16:Nat):Int)=_ from N6 (q%16) (by omega)]
   obtain⟨E,I,e,G⟩:=ad (Qp (q%16))
   rw[ag]at e
   refine⟨⟨by omega,by simp;omega⟩,Z,E,I,by decide,q/16,by omega,q/16,xs.length+1,Qp (q%16)::xs,rfl,rfl,by simp,rfl,?_,?_,.inr (by omega),e,Below.put Y G ac⟩
   ·rw[al,uz (n:=q) (by omega)];simp
   ·have O:q/16*16 ^ (xs.length+1)=(q/16*16)*16 ^ xs.length:=by rw[Nat.pow_succ,Nat.mul_comm (16 ^ xs.length) 16,Nat.mul_assoc]
    rw[O]
    exact Nat.le_trans (Nat.mul_le_mul_right _ (by omega)) bs
  ·rw[U]at h
   simp only[ge_iff_le,dFx]at h
   have H:q<16:=by omega
   rw[show bm [48,49,50,51,52,53,54,55,56,57,97,98,99,100,101,102,103,104,105,106,107,108,109,110,111,112,113,114,115,116,117,118,119,120,121,122] (q:Int)=_ from N6 q H]
   obtain⟨E,I,e,G⟩:=ad (Qp q)
   rw[ag]at e
   refine⟨⟨by omega,by simp;omega⟩,Z,E,I,Qp q::xs,rfl,?_,e,Below.put Y G ac⟩
   rw[al,zR H];rfl
 ·rintro E ⟨xs,rfl,M,e,a9⟩
  have bk:=uF bq
  rw[<- M]at bk
  refine IX (w:=E) ((65-xs.length:Nat):Int) (ai.no rfl ⟨rfl,rfl⟩) ?_
  refine ai.no rfl ⟨⟨by omega,by omega⟩,?_⟩
  have b6:0<xs.length:=by
   rw[M]
   by_cases c:n<16
   ·rw[zR c];exact Nat.one_pos
   ·rw[uz c];simp
  have an:(if 65=(Int.toNat ((65-xs.length:Nat):Int))then(⟨k,0,none⟩:Addr)else Addr.add ⟨k,0,none⟩ ((Int.toNat ((65-xs.length:Nat):Int))*1))=⟨k,(List.replicate (65-xs.length) (0:UInt8)).length,none⟩:=by
   rw[List.length_replicate,Int.toNat_natCast,if_neg (by omega),U5,Nat.zero_add,Nat.mul_one]
  have a0:65-(Int.toNat ((65-xs.length:Nat):Int))=xs.length:=by rw[Int.toNat_natCast];omega
  rw[an,a0]
  refine⟨xs,uX fF ax dm (e.sl8 (by unfold maxLen;omega)),?_⟩
  rw[M]
  exact⟨rfl,a9⟩
theorem M2 (n:Nat)(D:n<65536)(w:World)(q:Env w):Cf uk #[.int .u64 (n:Int),vI 16] w (Ret λv w'=>v=vS (CJ n)/\bW w w'):=by
 apply CI
 refine az (K:=λv w'=>v=vS (CJ n)/\bW w w') ?_ ?_
 ·apply wV
  refine ai.no (by decide) ?_
  refine az (M0 n D w q) ?_
  rintro _ E ⟨rfl,e⟩
  exact⟨_,_,_,_,rfl,rfl,e⟩
 ·rintro _ E ⟨rfl,e⟩
  exact⟨_,rfl,rfl,e⟩
def yI (a:List UInt8)(k:Nat):Nat:=(a.getD (2*k) 0).toNat*256+(a.getD (2*k+1) 0).toNat
def gL (a:List UInt8):List Nat:=[yI a 0,yI a 1,yI a 2,yI a 3,yI a 4,yI a 5,yI a 6,yI a 7]
theorem vb (a:List UInt8):(gL a).length=8:=rfl
theorem yY (a:List UInt8)(k:Nat):yI a k<65536:=by
 have h1:=qi (a.getD (2*k) 0);have e:=qi (a.getD (2*k+1) 0)
 unfold yI;omega
theorem Cj (a:List UInt8):∀(k:Nat) (h:k<(gL a).length),(gL a)[k]=yI a k
 |0,_=>rfl
 |1,_=>rfl
 |2,_=>rfl
 |3,_=>rfl
 |4,_=>rfl
 |5,_=>rfl
 |6,_=>rfl
 |7,_=>rfl
 |n+8,h=>by rw[vb]at h;omega
theorem An (a:List UInt8):∀x∈gL a,x<65536:=λx e=>by
 obtain⟨i,q,rfl⟩:=List.mem_iff_getElem.1 e
 rw[Cj];exact yY a i
def wrL (l:List Nat):List UInt8:=Lib.join (l.map CJ) [58]
theorem rq {l:List Nat}(h:∀x∈l,x<65536):(wrL l).length <=l.length*5:=by
 have:=JK (l.map CJ) 58 4 (λx q=>by
  obtain⟨c,e,rfl⟩:=List.mem_map.1 q
  exact uF (h c e))
 rwa [List.length_map]at this
def zst (s:Nat×Nat×Nat)(i:Nat)(z:Bool):Nat×Nat×Nat:=
 if s.2.1<(if z=true then s.2.2+1 else 0)then(i+1-(if z=true then s.2.2+1 else 0),(if z=true then s.2.2+1 else 0),(if z=true then s.2.2+1 else 0))else(s.1,s.2.1,(if z=true then s.2.2+1 else 0))
def zF (zs:List Bool):Nat->Nat×Nat×Nat
 |0=>(0,0,0)
 |k+1=>zst (zF zs k) k (zs.getD k false)
def eN (zs:List Bool):Nat×Nat:=((zF zs 8).1,(zF zs 8).2.1)
def DN (zs:List Bool)(p l:Nat):Bool:=(List.range l).all λj=>zs.getD (p+j) false
def zok (zs:List Bool):Bool:=
 decide ((eN zs).1+(eN zs).2 <=8)&&(decide ((eN zs).2<2) || DN zs (eN zs).1 (eN zs).2) &&
  (List.range 9).all λL=>(List.range 9).all λA=> !(decide (2 <=L)&&decide (A+L <=8)&&DN zs A L) || (decide (L<(eN zs).2) || (decide (L=(eN zs).2)&&decide ((eN zs).1 <=A)))
theorem WC:∀e q D E G H I M:Bool,zok [e,q,D,E,G,H,I,M]=true:=by decide+kernel
theorem yL {zs:List Bool}(h:zs.length=8):(eN zs).1+(eN zs).2 <=8/\(2 <=(eN zs).2->DN zs (eN zs).1 (eN zs).2=true)/\
 ∀L A,2 <=L->A+L <=8->DN zs A L=true->L<(eN zs).2\/(L=(eN zs).2/\(eN zs).1 <=A):=by
 match zs,h with
 |[q,D,E,G,H,I,M,O],_=>
  have:=WC q D E G H I M O
  unfold zok at this
  rw[Bool.and_eq_true,Bool.and_eq_true]at this
  obtain⟨⟨h1,e⟩,U⟩:=this
  refine⟨of_decide_eq_true h1,λY=>?_,λL A V hA X=>?_⟩
  ·rw[Bool.or_eq_true,dTx]at e
   exact e.resolve_left (by omega)
  ·have:=List.all_eq_true.1 (List.all_eq_true.1 U L (List.mem_range.2 (by omega))) A (List.mem_range.2 (by omega))
   rw[decide_eq_true V,decide_eq_true hA,X]at this
   simpa using this
theorem OV (zs:List Bool):∀k,(zF zs k).2.2 <=k/\(zF zs k).2.1 <=k/\(zF zs k).1 <=k
 |0=>⟨Nat.le_refl _,Nat.le_refl _,Nat.le_refl _⟩
 |k+1=>by
  obtain⟨h1,e,q⟩:=OV zs k
  unfold zF zst
  cases zs.getD k false <;> simp only[Bool.false_eq_true,if_false,if_true] <;> split <;> simp <;> omega
def zsA (a:List UInt8):List Bool:=(gL a).map (· ==0)
theorem HJ (a:List UInt8):(zsA a).length=8:=rfl
def zt (a:List UInt8):List UInt8:=
 if(eN (zsA a)).2<2 then wrL (gL a)else wrL ((gL a).take (eN (zsA a)).1)++[58,58]++wrL ((gL a).drop ((eN (zsA a)).1+(eN (zsA a)).2))
theorem XQ {a d:Nat}(M:a<256)(H:d<256):IntKind.u16.wrap (((BitVec.ofInt (IntKind.bits .u16) (IntKind.u16.wrap ((IntKind.u16.wrap (a:Int))*2 ^ (min (Int.toNat (8:Int)) (IntKind.bits .u16))))) ||| (BitVec.ofInt (IntKind.bits .u16) (IntKind.u16.wrap (d:Int)))).toNat:Nat)=((a*256+d:Nat):Int):=by
 have D:(2:Int) ^ (min (Int.toNat (8:Int)) (IntKind.bits .u16))=256:=by decide
 have e:∀n:Nat,n<65536->IntKind.u16.wrap (n:Int)=(n:Int):=λn I=>by
  have:IntKind.u16.wrap (n:Int)=(n:Int)%65536:=rfl
  rw[this];omega
 have E:(a:Int)*256=((a*256:Nat):Int):=by omega
 have q:∀n:Nat,n<65536->(BitVec.ofInt (IntKind.bits .u16) (n:Int)).toNat=n:=λn I=>by
  show(BitVec.ofInt 16 (n:Int)).toNat=n
  rw[BitVec.toNat_ofInt]
  have h:((2 ^ 16:Nat):Int)=65536:=by decide
  rw[h];omega
 rw[D,e a (by omega),E,e (a*256) (by omega),e d (by omega),BitVec.toNat_or,q (a*256) (by omega),q d (by omega)]
 have G:a*256 ||| d=a*256+d:=by
  have:=Nat.two_pow_add_eq_or_of_lt (i:=8) H a
  rw[Nat.mul_comm a 256];exact this.symm
 rw[G,e _ (by omega)]
def K2 (l:List Nat):List Value:=i16 (l.map λx:Nat=>(x:Int))
theorem M8 (l:List Nat):(K2 l).length=l.length:=by simp[K2,i16]
theorem Qq (l:List Nat):Ie (K2 l):=SO _
theorem Uq (l:List Nat)(i x:Nat):(K2 l).set i (.int .u16 (x:Int))=K2 (l.set i x):=by unfold K2 i16;rw[List.map_set,List.map_set]
theorem M7 {l:List Nat}(h:i<l.length):(K2 l)[i]? =some (.int .u16 ((l[i]:Nat):Int)):=by
 unfold K2 i16;rw[List.getElem?_map,List.getElem?_map,List.getElem?_eq_getElem h];rfl
theorem av.sl16 {T:TypeId}{l:List Nat}(h:av w k T (K2 l)){o n c:Nat}{A:Addr}(hA:0<n->A=⟨k,o,none⟩)(I:o+n <=l.length)(D:n <=c)(G:c <=maxLen):Sl Wk w wu (some A) n c (((l.drop o).take n).map λx:Nat=>(x:Int)):=by
 have E:(((l.drop o).take n).map λx:Nat=>(x:Int)).length=n:=by simp;omega
 refine⟨E.symm,D,G,?_⟩
 by_cases q:0<n
 ·refine .inr ⟨k,o,by rw[hA q],h.lt,trivial,K2 ((l.drop o).take n),o5 (h1:=λ_=>rfl) (λ_ _=>trivial),λj e=>?_⟩
  rw[M8]at e
  have H:j<n:=by rw[List.length_take]at e;omega
  rw[h.cell,M7 (by omega),M7 e]
  simp
 ·exact .inl (List.length_eq_zero_iff.1 (by omega))
theorem KV (a:List UInt8)(c0:a.length=16)(w:World):Cf Bf #[adV a] w (Ret λv w'=>v=.agg (K2 (gL a)).toArray/\bW w w'):=by
 apply JZ
 intro D E ce a8
 have ag:=(a8▸au w _:bW w E)
 have X:av E D aK (adC a):=av.new ce a8
 intro V G cf a9
 have aj:=(a9▸au E _:bW E G)
 have I:=ah ag aj ag.size
 have Z:av G V cJ (K2 [0,0,0,0,0,0,0,0]):=av.new cf a9
 intro k3 bk ch bb
 have O:=(bb▸au G _:bW G bk)
 have b5:=ah I O I.size
 have b4:av bk k3 cJ (K2 [0,0,0,0,0,0,0,0]):=av.new ch bb
 have b2:=Z.below O
 have b1:=(X.below aj).below O
 have c3:=X.lt
 have c4:=Z.lt
 have cj:w.heap.size <=k3:=by have:=I.size;omega
 refine⟨λm i w'=>∃k:Nat,k <=8/\i=(k:Int)/\m=8-k/\av w' k3 cJ (K2 ((gL a).take k++List.replicate (8-k) 0))/\av w' V cJ (K2 [0,0,0,0,0,0,0,0])/\av w' D aK (adC a)/\bW w w',
  ⟨_,0,by omega,rfl,rfl,b4,b2,b1,b5⟩,?_⟩
 intro m i
 refine aP.of ?_ _
 rintro ct ⟨k,c1,rfl,rfl,H,ac,Y,M⟩
 refine ai.of (λh=>?_) (λh=>?_) <;> simp only[dTx,dFx]at h
 ·have c2:k<8:=by omega
  have bz:i64.wrap (2*(k:Int))=((2*k:Nat):Int):=by rw[wrap_i64 (by omega) (by omega)];omega
  have b0:i64.wrap (((2*k:Nat):Int)+1)=((2*k+1:Nat):Int):=by rw[wrap_i64 (by omega) (by omega)];omega
  rw[bz,b0,ni,ni,ni]
  simp only[Nat.zero_add]
  have b9:(0 <=(k:Int)/\(k:Int)<((8:Nat):Int))/\True:=⟨⟨by omega,by omega⟩,trivial⟩
  have cb:(0 <=((2*k:Nat):Int)/\((2*k:Nat):Int)<((16:Nat):Int))/\True:=⟨⟨by omega,by omega⟩,trivial⟩
  have cc:(0 <=((2*k+1:Nat):Int)/\((2*k+1:Nat):Int)<((16:Nat):Int))/\True:=⟨⟨by omega,by omega⟩,trivial⟩
  have bc:∀(i:Nat) (an:i<a.length) (u:World),bW ct u->(Instr.loadAt bF (.pointer (some ⟨D,i,none⟩))).run prog u=.ok (.int .u8 ((a[i].toNat:Nat):Int)) u:=λi an u cp=>(Y.below cp).load1 dm rfl (tK an)
  refine⟨cb,_,bc _ (by omega),by decide,cc,_,bc _ (by omega),b9,?_⟩
  intro c5 q
  have b6:=ah M q M.size
  have bs:=H.below q
  have bq:=ac.below q
  have bp:=Y.below q
  have cr:(a[2*k]'(by omega)).toNat*256+(a[2*k+1]'(by omega)).toNat=yI a k:=by
   unfold yI
   rw[List.getD_eq_getElem?_getD,List.getD_eq_getElem?_getD,List.getElem?_eq_getElem (by omega),List.getElem?_eq_getElem (by omega)];rfl
  have ar:=XQ (a:=(a[2*k]'(by omega)).toNat) (d:=(a[2*k+1]'(by omega)).toNat) (by have:=qi (a[2*k]'(by omega));omega) (by have:=qi (a[2*k+1]'(by omega));omega)
  rw[cr]at ar
  have al:=vb a
  have e:((gL a).take k++List.replicate (8-k) 0).length=8:=by simp[al];omega
  obtain⟨w8,a0,ad,U⟩:=bs.put (P:=prog) OP (i:=k) (v:=.int .u16 ((yI a k:Nat):Int)) (by rw[M8,e];omega) rfl rfl
  have cn:((gL a).take k++List.replicate (8-k) 0).set k (yI a k)=(gL a).take (k+1)++List.replicate (8-(k+1)) 0:=by
   have ck:((gL a).take k).length=k:=by rw[List.length_take,al];omega
   rw[List.set_append_right _ _ (by omega),ck,Nat.sub_self,show 8-k=(8-(k+1))+1 by omega,List.replicate_succ (n:=8-(k+1)),List.set_cons_zero,List.take_succ_eq_append_getElem (by omega),Cj,List.append_assoc];rfl
  rw[Uq,cn]at ad
  rw[<- ar]at a0
  have b7:∃bj:Nat,bj<8-k/\∃k':Nat,k' <=8/\i64.wrap ((k:Int)+1)=(k':Int)/\bj=8-k'/\av w8 k3 cJ (K2 ((gL a).take k'++List.replicate (8-k') 0))/\av w8 V cJ (K2 [0,0,0,0,0,0,0,0])/\av w8 D aK (adC a)/\bW w w8:=
   ⟨8-(k+1),by omega,k+1,by omega,by rw[wrap_i64 (by omega) (by omega)];omega,rfl,ad,bq.grown U (bw (by omega)),bp.grown U (bw (by omega)),Below.put b6 U cj⟩
  exact⟨w8,a0,b7⟩
 ·have:k=8:=by omega
  subst this
  have e8:(gL a).take 8++List.replicate (8-8) 0=gL a:=by rw[List.take_of_length_le (by rw[vb];exact Nat.le_refl _)];simp
  rw[e8]at H
  have e:(K2 (gL a)).length=8:=by rw[M8];rfl
  obtain⟨cu,cl,b3,b8⟩:=HI.store0 e (Qq _) ac rfl
  refine⟨_,_,_,_,_,_,_,_,HI.load0 H e,cu,cl,_,_,_,_,_,_,_,_,av.res (HI.load0 b3 e),rfl,Below.put M b8 (by omega)⟩
theorem yO {A:Bl}{a:Option Addr}{n c:Nat}{l:List Nat}(M:Sl Wk w wu a n c (l.map λx:Nat=>(x:Int)))(bq:l.length <=8)(G:∀x∈l,x<65536)(ac:Env w):
 Cf uu #[.slice a n c] w (Ret λv w'=>v=vS (wrL l)/\bW w w'):=by
 apply Iu
 have an:=M.len
 rw[List.length_map]at an
 refine⟨λm a3 V E i w'=>∃k:Nat,k <=l.length/\i=(k:Int)/\m=l.length-k/\Ow tS ao w' NoB a3 V E ((l.take k).map CJ)/\ci w.heap.size a3/\bW w w',
  ⟨_,0,by omega,rfl,rfl,Ow.nil _ _ _ _,ci.none _,Below.refl _ _⟩,?_⟩
 intro m a3 V E i
 refine aP.of ?_ _
 rintro bc ⟨k,bp,rfl,rfl,D,ad,e⟩
 refine ai.of (λh=>?_) (λh=>?_) <;> simp only[dTx,dFx]at h
 ·have H:k<l.length:=by omega
  have O:=M.below e
  obtain⟨v,U,I⟩:=O.load1 (i:=(k:Int)) KE rfl rfl (by simp;omega)
  simp only[Int.toNat_natCast,List.getElem_map]at U I
  obtain⟨a8,-⟩:=I
  obtain rfl:=(List.cons.inj a8).1
  have aj:=G l[k] (List.getElem_mem H)
  refine⟨⟨⟨by omega,h⟩,O.isSome (by simp;omega)⟩,_,U,?_⟩
  rw[u64_in (by omega) (by omega)]
  refine az (M2 _ aj bc (ac.step e)) ?_
  rintro _ bj ⟨rfl,q⟩
  have Y:=ah e q e.size
  refine⟨_,rfl,?_⟩
  intro b0 b1 al a9
  have bz:((l.take k).map CJ).length <=8:=by simp;omega
  obtain⟨bk,a5,bb,X,a0,ar,ag,Z⟩:=AM (ty:=bI) (w0:=w) (cm:=1) (vs:=[_]) (gI _) lQ bS (by decide) (D.below q) ad Y al a9 (qk trivial) (by omega)
  refine⟨bk,a5,bb,X,a0,l.length-(k+1),by omega,k+1,by omega,by rw[wrap_i64 (by omega) (by omega)];omega,rfl,?_,ag,Z⟩
  rw[List.take_succ_eq_append_getElem H,List.map_append]
  exact ar
 ·have:k=l.length:=by omega
  subst this
  rw[List.take_length]at D
  have bs:=rq G
  refine az (JH D.all [58] (by rw[List.length_map];omega) (by show(wrL l).length <=_;omega)) ?_
  rintro _ bj ⟨rfl,q⟩
  exact⟨_,rfl,rfl,ah e q e.size⟩
theorem MI (E G H I M O U V:Nat)(w:World):
 Cf CR #[.agg #[.int .u16 (E:Int),.int .u16 (G:Int),.int .u16 (H:Int),.int .u16 (I:Int),.int .u16 (M:Int),.int .u16 (O:Int),.int .u16 (U:Int),.int .u16 (V:Int)]] w
  (Ret λv w'=>v=.tuple #[vI ((eN ([E,G,H,I,M,O,U,V].map (· ==0))).1:Int),vI ((eN ([E,G,H,I,M,O,U,V].map (· ==0))).2:Int)]/\bW w w'):=by
 apply Ln
 intro a8 X ar ad
 have an:=(ad▸au w _:bW w X)
 have Z:av X a8 cJ (K2 [E,G,H,I,M,O,U,V]):=av.new ar ad
 obtain⟨e,Y⟩:∃e,e=[E,G,H,I,M,O,U,V]:=⟨_,rfl⟩
 have bp:e.length=8:=by rw[Y];rfl
 rw[<- Y]at Z ⊢
 clear Y
 refine⟨λm p aj ru i w'=>∃k:Nat,k <=8/\i=(k:Int)/\m=8-k/\p=((zF (e.map (· ==0)) k).1:Int)/\aj=((zF (e.map (· ==0)) k).2.1:Int)/\ru=((zF (e.map (· ==0)) k).2.2:Int)/\w'=X,⟨_,0,by omega,rfl,rfl,rfl,rfl,rfl,rfl⟩,?_⟩
 intro m p aj ru i
 refine aP.of ?_ _
 rintro bs ⟨k,bk,rfl,rfl,rfl,rfl,rfl,ag⟩
 rw[ag];clear ag
 obtain⟨bb,bc,bj⟩:=OV (e.map (· ==0)) k
 refine ai.of (λh=>?_) (λh=>?_) <;> simp only[dTx,dFx]at h
 ·have ac:k<e.length:=by omega
  have a0:(e.map (· ==0)).getD k false=(e[k]==0):=by
   rw[List.getD_eq_getElem?_getD,List.getElem?_map,List.getElem?_eq_getElem ac];rfl
  rw[ni,Nat.zero_add]
  have al:i64.wrap ((k:Int)+1)=((k+1:Nat):Int):=by rw[wrap_i64 (by omega) (by omega)];omega
  try dsimp only
  rw[al]
  refine IX (B:=λJ=>_/\∃a9:Int,_/\ai (a9 !=0) (J 0 X) (J _ X)) ((if(e[k]==0)=true then(zF (e.map (· ==0)) k).2.2+1 else 0:Nat):Int) ⟨⟨⟨by omega,by omega⟩,rfl⟩,_,Z.load1 KE rfl (M7 ac),ai.of (λD=>⟨rfl,?_⟩) (λD=>⟨rfl,?_⟩)⟩ ?_
  ·rw[if_neg (by simp at D ⊢;omega)];rfl
  ·rw[if_pos (by simp at D ⊢;omega),wrap_i64 (by omega) (by omega)];omega
  ·have q:zF (e.map (· ==0)) (k+1)=zst (zF (e.map (· ==0)) k) k (e[k]==0):=by rw[<- a0];rfl
   have bq:(if(e[k]==0)=true then(zF (e.map (· ==0)) k).2.2+1 else 0) <=k+1:=by split <;> omega
   unfold zst at q
   generalize (if(e[k]==0)=true then(zF (e.map (· ==0)) k).2.2+1 else 0)=ru at*
   refine ai.of (λD=>?_) (λD=>?_) <;> simp only[gt_iff_lt,dTx,dFx]at D
   ·rw[if_pos (by omega)]at q
    refine⟨8-(k+1),by omega,k+1,by omega,rfl,rfl,?_,?_,?_,rfl⟩
    ·rw[q,wrap_i64 (by omega) (by omega)];show _=((k+1-ru:Nat):Int);omega
    ·rw[q]
    ·rw[q]
   ·rw[if_neg (by omega)]at q
    exact⟨8-(k+1),by omega,k+1,by omega,rfl,rfl,by rw[q],by rw[q],by rw[q],rfl⟩
 ·have:k=8:=by omega
  subst this
  exact⟨rfl,an⟩
theorem MG (a:List UInt8)(ac:a.length=16)(w:World)(I:Env w):Cf CP #[adV a] w (Ret λv w'=>v=vS (zt a)/\bW w w'):=by
 apply Ll
 intro bq U bj an
 have X:=(an▸au w _:bW w U)
 have a8:av U bq aK (adC a):=av.new bj an
 refine⟨_,dN.load0 a8 (by rw[ja,ac]),?_⟩
 refine az (KV a ac U) ?_
 rintro _ b2 ⟨rfl,a9⟩
 have Y:=ah X a9 X.size
 refine⟨_,_,_,_,_,_,_,_,rfl,?_⟩
 refine HI.new (zs:=K2 [0,0,0,0,0,0,0,0]) (cs:=K2 (gL a)) rfl rfl (Qq _) b2 λG b3 b4 V bb=>?_
 have Z:=ah Y bb Y.size
 refine⟨_,_,_,_,_,_,_,_,HI.load0 V rfl,?_⟩
 refine az (MI (yI a 0) (yI a 1) (yI a 2) (yI a 3) (yI a 4) (yI a 5) (yI a 6) (yI a 7) b3) ?_
 rintro _ b7 ⟨rfl,aj⟩
 have D:=ah Z aj Z.size
 have H:=V.below aj
 have bp:=yL (HJ a)
 show ∃b0 b1:Int,(Ending.returned (.tuple #[vI ((eN (zsA a)).1:Int),vI ((eN (zsA a)).2:Int)]):Ending)=.returned (.tuple #[vI b0,vI b1])/\_
 have al:zt a=if(eN (zsA a)).2<2 then wrL (gL a)else wrL ((gL a).take (eN (zsA a)).1)++[58,58]++wrL ((gL a).drop ((eN (zsA a)).1+(eN (zsA a)).2)):=rfl
 rw[al];clear al
 generalize eN (zsA a)=ar at*
 obtain⟨p,e⟩:=ar
 have b6:p+e <=8:=bp.1
 refine⟨(p:Int),(e:Int),rfl,?_⟩
 show ai _ _ _
 have M:=vb a
 refine ai.of (λh=>?_) (λh=>?_) <;> simp only[dTx,dFx]at h
 ·rw[if_pos (show e<2 by omega)]
  have q:=H.sl16 (o:=0) (n:=8) (c:=8) (A:=⟨G,0,none⟩) (λ_=>rfl) (by rw[M];omega) (Nat.le_refl _) (by unfold maxLen;omega)
  have e8:((gL a).drop 0).take 8=gL a:=by rw[List.drop_zero,List.take_of_length_le (by omega)]
  rw[e8]at q
  refine⟨trivial,?_⟩
  refine az (yO (A:=wu) q (by omega) (An a) (I.step D)) ?_
  rintro _ b8 ⟨rfl,bc⟩
  exact⟨_,rfl,rfl,ah D bc D.size⟩
 ·rw[if_neg (show ¬ e<2 by omega)]
  have a0:i64.wrap ((p:Int)+(e:Int))=((p+e:Nat):Int):=by rw[wrap_i64 (by omega) (by omega)];omega
  try dsimp only
  rw[a0]
  simp only[Int.toNat_natCast]
  have ad:∀x∈(gL a).take p,x<65536:=λx O=>An a x (List.mem_of_mem_take O)
  have ag:∀x∈(gL a).drop (p+e),x<65536:=λx O=>An a x (List.mem_of_mem_drop O)
  have bs:=rq ad
  have bz:=rq ag
  rw[List.length_take]at bs
  rw[List.length_drop]at bz
  refine⟨⟨by omega,by omega⟩,wrL ((gL a).take p),λu E=>?_,fits (by simp;omega),?_⟩
  ·have q:=(H.below E).sl16 (o:=0) (n:=p) (c:=8) (A:=⟨G,0,none⟩) (λ_=>rfl) (by rw[M];omega) (by omega) (by unfold maxLen;omega)
   rw[List.drop_zero]at q
   exact fZ (yO (A:=wu) q (by rw[List.length_take];omega) ad ((I.step D).step E)) E
  rintro _ rfl
  refine⟨⟨by omega,by omega⟩,wrL ((gL a).drop (p+e)),λu E=>?_,fits (by simp;omega),?_⟩
  ·have q:=(H.below E).sl16 (o:=p+e) (n:=8-(p+e)) (c:=8-(p+e)) (A:=if 8=p+e then⟨G,0,none⟩ else Addr.add ⟨G,0,none⟩ ((p+e)*1)) (λb5=>by rw[if_neg (by omega),U5,Nat.zero_add,Nat.mul_one]) (by rw[M];omega) (Nat.le_refl _) (by unfold maxLen;omega)
   rw[List.take_of_length_le (by rw[List.length_drop];omega)]at q
   exact fZ (yO (A:=wu) q (by rw[List.length_drop];omega) ag ((I.step D).step E)) E
  rintro _ rfl
  intro b9 bk
  exact⟨by simp only[List.append_assoc],ah D bk D.size⟩
def eqV (P:Program):Nat->TypeId->Value->Value->Option Bool
 |0,_,_,_=>none
 |d+1,t,x,y=>match P.underlying t,x,y with
  |some .bool,.bool a,.bool b=>some (a==b)
  |some (.int _),.int k a,.int k' b=>if k=k' then some (a==b)else none
  |some .string,.string a,.string b=>some (toL a==toL b)
  |some (.struct fs),.agg xs,.agg ys=>if P.stoodInHeld t then none else
   fs.toList.foldr (λf r=>if f.name= "_" then r else match Oq P f.type xs f.offset,Oq P f.type ys f.offset with
    |some a,some b=>match eqV P d f.type a b,r with
     |some p,some q=>some (p&&q)
     |_,_=>none
    |_,_=>none) (some true)
  |some (.array n e),.agg xs,.agg ys=>match P.info? e with
   |some i=>(List.range n).foldr (λj r=>match Oq P e xs (j*i.size),Oq P e ys (j*i.size)with
    |some a,some b=>match eqV P d e a b,r with
     |some p,some q=>some (p&&q)
     |_,_=>none
    |_,_=>none) (some true)
   |none=>none
  |_,_,_=>none
theorem Sp:∀(d:Nat) (t:TypeId) (x y:Value) (b:Bool) (w:World),eqV P d t x y=some b->(Op.equalIn d t x y).run P w=.ok b w:=by
 intro d
 induction d with
 |zero=>intro t x y b w h;cases h
 |succ d Y=>
  intro t x y b w h
  unfold eqV at h
  split at h
  ·rename_i e;cases h
   exact run_equalIn_bool' w d t _ _ e
  ·rename_i ad k a k' c e
   split at h
   ·rename_i E;subst E;cases h
    exact run_equalIn_int w d t _ _ _ _ e
   ·cases h
  ·rename_i a c e;cases h
   rw[run_equalIn_string w d t _ _ e]
   rw[ByteArray.toList_eq,ByteArray.toList_eq];rfl
  ·rename_i fs xs ys e
   split at h
   ·cases h
   ·rename_i ac
    have X:P.fieldsOf t=fs:=by unfold Program.fieldsOf;rw[e]
    rw[run_equalIn_struct w d t xs ys (by rw[X];exact e) (by simpa using ac),X]
    revert h
    generalize fs.toList=l
    induction l generalizing b with
    |nil=>intro h;cases h;rfl
    |cons f l D=>
     intro h
     rw[List.foldr_cons]at h
     unfold Op.eqFields
     by_cases q:f.name= "_"
     ·rw[if_pos q]at h
      rw[if_neg (by simpa using q)]
      exact D b h
     ·rw[if_neg q]at h
      rw[if_pos q]
      split at h
      ·rename_i a c H I
       split at h
       ·rename_i p U M O
        cases h
        have h1:=Y f.type a c p w M
        have G:=D U O
        simp only[Sem.run_bind,Gs H,Gs I,Result.andThen_ok,h1]
        cases p
        ·simp
        ·simpa using G
       ·cases h
      ·cases h
  ·rename_i n E xs ys e
   split at h
   ·rename_i i Z
    simp only[Op.equalIn,Sem.run_bind,ft e,Result.andThen_ok,rE Z]
    rw[Std.Legacy.Range.forIn_eq_forIn_range']
    have V:List.range' 0 ([0:n]:Std.Legacy.Range).size 1=List.range n:=by
     rw[List.range_eq_range'];simp[Std.Legacy.Range.size]
    rw[V]
    clear V
    revert h
    generalize List.range n=l
    induction l generalizing b with
    |nil=>intro h;cases h;simp
    |cons j l D=>
     intro h
     rw[List.foldr_cons]at h
     split at h
     ·rename_i a c H I
      split at h
      ·rename_i p U M O
       cases h
       have h1:=Y E a c p w M
       have G:=D U O
       simp only[List.forIn_cons,Sem.run_bind,Gs H,Gs I,Result.andThen_ok,h1]
       cases p
       ·simp
       ·simpa using G
      ·cases h
     ·cases h
   ·cases h
  ·cases h
theorem QL {x y:Operand}{xs ys:Array Value}{b:Bool}(e:P.eqGuardType P.depth t=false)(h:eqV P 10000 t (.agg xs) (.agg ys)=some b)(w:World):
 ((do eqGuard .eql t x y (.agg xs) (.agg ys);binOp .eql t (.agg xs) (.agg ys):Sem Value)).run P w=.ok (.bool b) w:=by
 rw[Sem.run_bind,run_eqGuard_agg w .eql t x y xs ys e,Result.andThen_ok,run_eql_struct,Sp _ _ _ _ _ w h,Result.andThen_ok]
theorem GF {x y:Operand}{xs ys:Array Value}{b:Bool}(e:P.eqGuardType P.depth t=false)(h:eqV P 10000 t (.agg xs) (.agg ys)=some b)(w:World):
 ((do eqGuard .neq t x y (.agg xs) (.agg ys);binOp .neq t (.agg xs) (.agg ys):Sem Value)).run P w=.ok (.bool (!b)) w:=by
 rw[Sem.run_bind,run_eqGuard_agg w .neq t x y xs ys e,Result.andThen_ok,run_neq_struct,Sp _ _ _ _ _ w h,Result.andThen_ok]
structure Hst where
 kind:Int
 name:List UInt8
 ad:List UInt8
def Hst.cells (h:Hst):List Value:=vI h.kind::vS h.name::adC h.ad
def Hst.v (h:Hst):Value:=.agg h.cells.toArray
def nG:Hst:=⟨0,[],ad0⟩
def Hst.ok (h:Hst):Prop:=h.ad.length=16
theorem Hst.len {h:Hst}(o:h.ok):h.cells.length=18:=by unfold Hst.cells;rw[List.length_cons,List.length_cons,ja,o]
theorem Hst.one (h:Hst):Ie h.cells:=aR rfl (aR rfl (rH _))
def Vv:List UInt8->List UInt8->Bool
 |x::xs,y::ys=>((((x.toNat:Nat):Int))==((y.toNat:Nat):Int))&&Vv xs ys
 |_,_=>true
theorem PZ:∀(xs ys:List UInt8),xs.length=ys.length->(Vv xs ys=true ↔ xs=ys)
 |[],[],_=>by simp[Vv]
 |x::xs,[],h=>by simp at h
 |[],y::ys,h=>by simp at h
 |x::xs,y::ys,h=>by
  unfold Vv
  rw[Bool.and_eq_true,PZ xs ys (by simpa using h),beq_iff_eq]
  have e:((x.toNat:Nat):Int)=((y.toNat:Nat):Int) ↔ x=y:=⟨λh=>UInt8.toNat_inj.1 (by omega),λh=>by rw[h]⟩
  rw[e]
  simp
theorem oS {α:Type} :∀(a:List α),a.length=16->∃e q O U V X Y Z ac ad D E G H I M,a=[e,q,O,U,V,X,Y,Z,ac,ad,D,E,G,H,I,M]
 |[e,q,O,U,V,X,Y,Z,ac,ad,D,E,G,H,I,M],_=>⟨e,q,O,U,V,X,Y,Z,ac,ad,D,E,G,H,I,M,rfl⟩
def iU (h g:Hst):Bool:=(h.kind==g.kind)&&((h.name==g.name)&&(Vv h.ad g.ad&&true))
theorem fC {h g:Hst}(o:h.ok)(p:g.ok):iU h g=true ↔ h=g:=by
 unfold iU
 rw[Bool.and_eq_true,Bool.and_eq_true,Bool.and_true,PZ _ _ (o.trans p.symm),beq_iff_eq,beq_iff_eq]
 cases h;cases g;simp
def AF (c:UInt8):Bool:=(decide (97 <=c.toNat)&&decide (c.toNat <=122)) || (decide (48 <=c.toNat)&&decide (c.toNat <=57)) || c==45 || c==95
def o0 (s:List UInt8):Bool:=decide (1 <=s.length)&&decide (s.length <=63)&&s.all AF
def K8 (L:List (List UInt8)):List UInt8:=L[L.length-1]?.getD []
def dR (s:List UInt8):Option Hst:=
 if s.head?=some 91 then(if s.getLast?=some 93 then(v6A ((s.drop 1).take (s.length-2))).map λa=>⟨3,[],a⟩ else none)
 else if fi (K8 (bY 46 [] (cN s)))=true then(v4V s).map λa=>⟨2,[],a⟩
 else if s.length <=253/\(bY 46 [] (cN s)).all o0=true then some ⟨1,cN s,ad0⟩ else none
def SM:Option Hst->Value
 |some h=>.tuple #[h.v,.int .i64 0]
 |none=>.tuple #[nG.v,.int .i64 31]
theorem mg {h:Hst}(e:dR s=some h):h.ok:=by
 unfold dR at e
 split at e
 ·split at e
  ·cases q:v6A ((s.drop 1).take (s.length-2))with
   |none=>rw[q]at e;cases e
   |some a=>rw[q]at e;cases e;exact TS _ a q
  ·cases e
 split at e
 ·cases q:v4V s with
  |none=>rw[q]at e;cases e
  |some a=>rw[q]at e;cases e;exact Wu _ a q
 split at e
 ·cases e;rfl
 ·cases e
theorem eY (c:UInt8):∀(s cur:List UInt8),Lib.join (bY c cur s) [c]=cur++s
 |[],cur=>by simp[bY,Lib.join_one]
 |x::r,cur=>by
  show Lib.join (if x=c then cur::bY c [] r else bY c (cur++[x]) r) [c]=_
  split
  ·rename_i h
   subst h
   have q:=eY x r []
   have E:=j7 x r []
   cases e:bY x [] r with
   |nil=>exact absurd e E
   |cons y l=>
    rw[e,Lib.join_cons,List.nil_append]at q
    rw[Lib.join_cons]
    have D:Lib.joinTail [x] (y::l)=[x]++y++Lib.joinTail [x] l:=by simp[Lib.joinTail]
    rw[D,List.append_assoc [x] y,q];rfl
  ·rw[eY c r (cur++[x])];simp
theorem QO (s:List UInt8)(c:UInt8):Lib.hasSuffix s [c]=decide (s.getLast?=some c)/\Lib.trimSuffix s [c]=if s.getLast?=some c then s.take (s.length-1)else s:=by
 have h1:Lib.hasSuffix s [c]=decide (s.getLast?=some c):=by
  unfold Lib.hasSuffix
  rw[Bool.eq_iff_iff,dTx,List.isSuffixOf_iff_suffix]
  constructor
  ·rintro⟨t,rfl⟩;simp
  ·intro h
   obtain⟨t,rfl⟩:=List.getLast?_eq_some_iff.1 h
   exact⟨t,rfl⟩
 refine⟨h1,?_⟩
 unfold Lib.trimSuffix
 rw[h1]
 by_cases h:s.getLast?=some c
 ·rw[if_pos (decide_eq_true h),if_pos h];rfl
 ·rw[if_neg (by rw[decide_eq_false h];decide),if_neg h]
theorem SZ (h:s.head?=some 91):((s.drop 1).getLast?=some 93 ↔ s.getLast?=some 93):=by
 cases s with
 |nil=>cases h
 |cons x r=>
  obtain rfl:x=91:=Option.some.inj h
  cases r with
  |nil=>simp
  |cons y r=>simp[List.getLast?_cons_cons]
theorem Gh {L:List (List UInt8)}(h:0<L.length):K8 L=L[L.length-1]'(by omega):=by unfold K8;rw[List.getElem?_eq_getElem (by omega)];rfl
theorem aO:Whl prog ak 18:=⟨⟨_,_,PQ⟩,by kernel_rfl⟩
theorem So {h g:Hst}(o:h.ok)(p:g.ok):eqV prog 10000 ak h.v g.v=some (iU h g):=by
 obtain⟨k,n,a⟩:=h
 obtain⟨k',e,a'⟩:=g
 obtain⟨q,D,U,V,X,Y,Z,ac,ad,ag,E,G,H,I,M,O,rfl⟩:=oS a o
 obtain⟨aj,al,bc,bj,bk,bp,bq,bs,bz,b0,an,ar,a0,a8,a9,bb,rfl⟩:=oS a' p
 kernel_rfl
theorem Od:prog.eqGuardType prog.depth ak=false:=by kernel_rfl
theorem qD {h g:Hst}(o:h.ok)(p:g.ok){x y:Operand}(w:World):((do eqGuard .eql ak x y h.v g.v;binOp .eql ak h.v g.v:Sem Value)).run prog w=.ok (.bool (iU h g)) w:=
 QL Od (So o p) w
theorem C7 {h g:Hst}(o:h.ok)(p:g.ok){x y:Operand}(w:World):((do eqGuard .neq ak x y h.v g.v;binOp .neq ak h.v g.v:Sem Value)).run prog w=.ok (.bool (!iU h g)) w:=
 GF Od (So o p) w
theorem G9 (k:Int){a:List UInt8}(o:a.length=16)(w:World):(Instr.build ak #[(0,vI k),(2,adV a)]).run prog w=.ok (Hst.v ⟨k,[],a⟩) w:=by
 obtain⟨e,q,O,U,V,X,Y,Z,ac,ad,D,E,G,H,I,M,rfl⟩:=oS a o
 kernel_rfl
theorem K1 (c:UInt8)(w:World):Cf Bk #[.int .u8 ((c.toNat:Nat):Int)] w (Ret λv w'=>v=.bool (AF c)/\w'=w):=by
 apply Kb
 have G:=fq c 45
 have H:=fq c 95
 rw[show(((45:UInt8).toNat:Nat):Int)=45 from rfl]at G
 rw[show(((95:UInt8).toNat:Nat):Int)=95 from rfl]at H
 rw[G,H]
 unfold AF
 have e:∀{b:Bool} {x:Bool},b=x->(.bool b:Value)=.bool x/\w=w:=λh=>⟨by rw[h],rfl⟩
 refine ai.of (λh=>?_) (λh=>?_) <;> simp only[ge_iff_le,dTx,dFx]at h
 ·refine ai.of (λE=>e ?_) (λE=>?_) <;> simp only[ge_iff_le,dTx,dFx]at E
  ·rw[decide_eq_true (p:=97 <=c.toNat) (by omega),decide_eq_true (p:=c.toNat <=122) (by omega)];rfl
  ·rw[decide_eq_false (p:=c.toNat <=122) (by omega),Bool.and_false,Bool.false_or]
   refine ai.yes (by simp;omega) (ai.no (by simp;omega) ?_)
   rw[decide_eq_false (p:=c.toNat <=57) (by omega),Bool.and_false,Bool.false_or]
   exact ai.of (λD=>e (by rw[D];rfl)) (λD=>e (by rw[D,Bool.false_or]))
 ·rw[decide_eq_false (p:=97 <=c.toNat) (by omega),Bool.false_and,Bool.false_or]
  refine ai.of (λE=>?_) (λE=>?_) <;> simp only[ge_iff_le,dTx,dFx]at E
  ·rw[decide_eq_true (p:=48 <=c.toNat) (by omega),Bool.true_and]
   refine ai.of (λD=>e ?_) (λD=>?_) <;> simp only[ge_iff_le,dTx,dFx]at D
   ·rw[decide_eq_true (p:=c.toNat <=57) (by omega)];rfl
   ·rw[decide_eq_false (p:=c.toNat <=57) (by omega),Bool.false_or]
    exact ai.of (λq=>e (by rw[q];rfl)) (λq=>e (by rw[q,Bool.false_or]))
  ·rw[decide_eq_false (p:=48 <=c.toNat) (by omega),Bool.false_and,Bool.false_or]
   exact ai.of (λq=>e (by rw[q];rfl)) (λq=>e (by rw[q,Bool.false_or]))
theorem M6 (s:List UInt8)(ar:s.length <=9223372036854775800)(w:World):Cf CX #[vS s] w (Ret λv w'=>v=.bool (o0 s)/\bW w w'):=by
 apply LF
 refine ai.of (λh=>?_) (λh=>⟨?_,Below.refl _ _⟩)
 ·have G:s≠[]:=by simpa using h
  have h1:1 <=s.length:=List.length_pos_iff.2 G
  refine ai.of (λO=>?_) (λO=>⟨?_,Below.refl _ _⟩) <;> simp only[dTx,dFx]at O
  ·obtain⟨q,a,n,c,ag,I,X,al⟩:=DO (P:=prog) ax fF dm w s (by omega) NoB
   have ad:=I.len
   subst ad
   refine⟨q,a,_,c,ag,?_⟩
   have ac:o0 s=s.all AF:=by unfold o0;rw[decide_eq_true h1,decide_eq_true (by omega),Bool.true_and,Bool.true_and]
   refine az (K:=λv w'=>v=.bool (!(s.all AF))/\w'=q) ?_ ?_
   ·apply rj
    refine az (K:=λv w'=>∃i:Int,v=vI i/\(decide (i >=0))=(!(s.all AF))/\w'=q) ?_ ?_
    ·apply rU
     refine⟨λm i w'=>∃k:Nat,k <=s.length/\i=(k:Int)/\m=s.length-k/\(s.take k).all AF=true/\w'=q,⟨_,0,by omega,rfl,rfl,rfl,rfl⟩,?_⟩
     intro m i
     refine aP.of ?_ _
     rintro w' ⟨k,an,rfl,rfl,H,V⟩
     rw[V];clear V
     refine ai.of (λh=>?_) (λh=>?_) <;> simp only[dTx,dFx]at h
     ·have E:k<s.length:=by omega
      obtain⟨v,U,aj⟩:=I.all.load1 (i:=(k:Int)) dm rfl rfl (by simpa using E)
      have:=Mq aj
      subst this
      simp only[Int.toNat_natCast]at U
      refine⟨⟨⟨by omega,h⟩,I.all.isSome E⟩,_,U,?_⟩
      refine az (K:=λv w'=>v=.bool (!AF s[k])/\w'=q) ?_ ?_
      ·apply Hw
       refine az (K1 _ q) ?_
       rintro _ M ⟨rfl,e⟩
       exact⟨_,rfl,rfl,e⟩
      rintro _ M ⟨rfl,e⟩
      rw[e]
      refine⟨_,rfl,ai.of (λD=>?_) (λD=>?_)⟩
      ·refine⟨_,rfl,?_,rfl⟩
       have:s.all AF=false:=by
        rw[Bool.eq_false_iff]
        intro Y
        rw[List.all_eq_true.1 Y _ (List.getElem_mem E)]at D;cases D
       rw[this,decide_eq_true (by omega)];rfl
      ·refine⟨s.length-(k+1),by omega,k+1,by omega,by rw[wrap_i64 (by omega) (by omega)];omega,rfl,?_,rfl⟩
       rw[List.take_succ_eq_append_getElem E,List.all_append,H]
       simpa using D
     ·have:k=s.length:=by omega
      subst this
      rw[List.take_length]at H
      exact⟨_,rfl,by rw[H];decide,rfl⟩
    ·rintro _ M ⟨i,rfl,Z,e⟩
     exact⟨_,rfl,by rw[Z],e⟩
   ·rintro _ M ⟨rfl,e⟩
    rw[e]
    exact⟨_,rfl,by rw[ac,Bool.not_not],X⟩
  ·unfold o0;rw[decide_eq_false (p:=s.length <=63) (by omega),Bool.and_false,Bool.false_and]
 ·have G:s=[]:=by simpa using h
  subst G;rfl
theorem Lg (s:List UInt8)(ar:s.length <=9223372036854775800)(w:World):Cf Bu #[vS s] w (Ret λv w'=>v=.bool (o0 s)/\w'=w):=by
 apply Ko
 refine⟨λm i w'=>∃k:Nat,k <=s.length/\i=(k:Int)/\m=s.length-k/\(s.take k).all AF=true/\w'=w,⟨_,0,by omega,rfl,rfl,rfl,rfl⟩,?_⟩
 intro m i
 refine aP.of ?_ _
 rintro w' ⟨k,an,rfl,rfl,U,Z⟩
 rw[Z];clear Z
 refine ai.of (λh=>?_) (λh=>?_) <;> simp only[dTx,dFx]at h
 ·have O:k<s.length:=by omega
  rw[byte_at O]
  have X:=fq s[k] 45
  have Y:=fq s[k] 95
  rw[show(((45:UInt8).toNat:Nat):Int)=45 from rfl]at X
  rw[show(((95:UInt8).toNat:Nat):Int)=95 from rfl]at Y
  simp only[bne,X,Y]
  have G:AF s[k]=true->∃E:Nat,E<s.length-k/\∃e:Nat,e <=s.length/\i64.wrap ((k:Int)+1)=(e:Int)/\E=s.length-e/\(s.take e).all AF=true/\True:=λq=>
   ⟨s.length-(k+1),by omega,k+1,by omega,by rw[wrap_i64 (by omega) (by omega)];omega,rfl,by rw[List.take_succ_eq_append_getElem O,List.all_append,U];simp[q],trivial⟩
  have V:AF s[k]=false->(.bool false:Value)=.bool (o0 s)/\True:=λq=>⟨by
   have:s.all AF=false:=by
    rw[Bool.eq_false_iff]
    intro ag
    rw[List.all_eq_true.1 ag _ (List.getElem_mem O)]at q;cases q
   unfold o0;rw[this,Bool.and_false],trivial⟩
  refine⟨⟨by omega,h⟩,?_⟩
  generalize s[k]=c at*
  have tail: ¬ (97 <=c.toNat/\c.toNat <=122)-> ¬ (48 <=c.toNat/\c.toNat <=57)->ai (!(c==45)) (ai (!(c==95)) ((.bool false:Value)=.bool (o0 s)/\True) (∃E:Nat,E<s.length-k/\∃e:Nat,e <=s.length/\i64.wrap ((k:Int)+1)=(e:Int)/\E=s.length-e/\(s.take e).all AF=true/\True)) (∃E:Nat,E<s.length-k/\∃e:Nat,e <=s.length/\i64.wrap ((k:Int)+1)=(e:Int)/\E=s.length-e/\(s.take e).all AF=true/\True):=λaj al=>by
   have ac:(decide (97 <=c.toNat)&&decide (c.toNat <=122))=false:=by rw[Bool.eq_false_iff];intro q;simp at q;exact aj q
   have ad:(decide (48 <=c.toNat)&&decide (c.toNat <=57))=false:=by rw[Bool.eq_false_iff];intro q;simp at q;exact al q
   have q:AF c=(c==45 || c==95):=by unfold AF;rw[ac,ad];simp
   rw[q]at G V
   refine ai.of (λD=>ai.of (λM=>V ?_) (λM=>G ?_)) (λD=>G ?_)
   ·rw[Bool.not_eq_true']at D M;rw[D,M];rfl
   ·rw[Bool.not_eq_false']at M;rw[M];simp
   ·rw[Bool.not_eq_false']at D;rw[D];simp
  refine ai.of (λH=>?_) (λH=>?_) <;> simp only[dTx,dFx]at H
  ·refine ai.of (λI=>tail (by omega) ?_) (λI=>?_) <;> simp only[gt_iff_lt,dTx,dFx]at I
   ·omega
   ·refine ai.of (λD=>tail (by omega) ?_) (λD=>G ?_) <;> simp only[gt_iff_lt,dTx,dFx]at D
    ·omega
    ·unfold AF;rw[decide_eq_true (p:=48 <=c.toNat) (by omega),decide_eq_true (p:=c.toNat <=57) (by omega)];simp
  ·refine ai.of (λI=>?_) (λI=>G ?_) <;> simp only[gt_iff_lt,dTx,dFx]at I
   ·refine ai.no (by simp;omega) (ai.yes (by simp;omega) (tail (by omega) (by omega)))
   ·unfold AF;rw[decide_eq_true (p:=97 <=c.toNat) (by omega),decide_eq_true (p:=c.toNat <=122) (by omega)];simp
 ·have:k=s.length:=by omega
  subst this
  rw[List.take_length]at U
  unfold o0
  rw[U,Bool.and_true]
  refine ai.of (λH=>⟨?_,rfl⟩) (λH=>⟨?_,rfl⟩) <;> simp only[ge_iff_le,dTx,dFx]at H
  ·rw[decide_eq_true (p:=1 <=s.length) (by omega),Bool.true_and];congr 1;rw[Bool.eq_iff_iff];simp;omega
  ·rw[decide_eq_false (p:=1 <=s.length) (by omega),Bool.false_and]
theorem lS (o:Option Hst):SM o=.tuple #[(o.getD nG).v,vI (if o.isSome then 0 else 31)]:=by cases o <;> rfl
theorem rf {o:Option Hst}(h:∀x,o=some x->x.ok):(o.getD nG).ok:=by
 cases o with
 |none=>rfl
 |some x=>exact h x rfl
theorem zd (k:Int)(a:List UInt8)(o:a.length=16)(b:Bool)(w:World):Cf uw #[vI k,adV a,.bool b] w (Ret λv w'=>v=SM (if b=true then some ⟨k,[],a⟩ else none)/\bW w w'):=by
 apply IB
 intro ad D Z V
 have E:=(V▸au w _:bW w D)
 have Y:av D ad aK (adC a):=av.new Z V
 intro k6 H ac X
 have O:=(X▸au D _:bW D H)
 have M:=ah E O E.size
 have I:av H k6 ak nG.cells:=av.new ac X
 have U:w.heap.size <=k6:=by have:=E.size;omega
 refine ai.of (λh=>?_) (λh=>?_)
 ·have e:b=false:=by simpa using h
  rw[e]
  exact aO.fin (K:=λG q=>(.tuple #[G,vI 31]:Value)=SM (if false=true then some ⟨k,[],a⟩ else none)/\bW w q) (cs:=nG.cells) rfl (Hst.one _) I rfl M U λq e=>⟨rfl,e⟩
 ·have e:b=true:=by simpa using h
  rw[e]
  refine⟨_,dN.load0 (Y.below O) (by rw[ja,o]),_,G9 k o H,?_⟩
  exact aO.fin (K:=λG q=>(.tuple #[G,vI 0]:Value)=SM (if true=true then some ⟨k,[],a⟩ else none)/\bW w q) (cs:=Hst.cells ⟨k,[],a⟩) (Hst.len o) (Hst.one _) I rfl M U λq e=>⟨rfl,e⟩
theorem SX {A:Bl}{a:Option Addr}{n c:Nat}{L:List (List UInt8)}(I:Sl tS w wu a n c L)(Y:∀x∈L,x.length <=9223372036854775800)(Z:L.length <=9223372036854775800):
 Cf lG #[.slice a n c,.func (.func me) #[] #[]] w (Ret λv w'=>v=.bool (!(L.all o0))/\bW w w'):=by
 have ad:=I.len
 apply qd
 refine az (K:=λv w'=>∃i:Int,v=vI i/\(decide (i >=0))=(!(L.all o0))/\bW w w') ?_ ?_
 ·apply qU
  refine⟨λm i w'=>∃k:Nat,k <=L.length/\i=(k:Int)/\m=L.length-k/\(L.take k).all o0=true/\bW w w',⟨_,0,by omega,rfl,rfl,rfl,Below.refl _ _⟩,?_⟩
  intro m i
  refine aP.of ?_ _
  rintro O ⟨k,ac,rfl,rfl,H,q⟩
  refine ai.of (λh=>?_) (λh=>?_) <;> simp only[dTx,dFx]at h
  ·have E:k<L.length:=by omega
   have M:=I.below q
   refine⟨⟨⟨by omega,h⟩,M.isSome (by omega)⟩,_,M.text ax E,?_⟩
   refine az (K:=λv w'=>v=.bool (!o0 L[k])/\bW O w') ?_ ?_
   ·apply Hv
    refine az (M6 _ (Y _ (List.getElem_mem E)) O) ?_
    rintro _ U ⟨rfl,G⟩
    exact⟨_,rfl,rfl,G⟩
   rintro _ U ⟨rfl,G⟩
   have D:=ah q G q.size
   refine⟨_,rfl,ai.of (λe=>?_) (λe=>?_)⟩
   ·refine⟨_,rfl,?_,D⟩
    have:L.all o0=false:=by
     rw[Bool.eq_false_iff]
     intro V
     rw[List.all_eq_true.1 V _ (List.getElem_mem E)]at e;cases e
    rw[this,decide_eq_true (by omega)];rfl
   ·refine⟨L.length-(k+1),by omega,k+1,by omega,by rw[wrap_i64 (by omega) (by omega)];omega,rfl,?_,D⟩
    rw[List.take_succ_eq_append_getElem E,List.all_append,H]
    simpa using e
  ·have:k=L.length:=by omega
   subst this
   rw[List.take_length]at H
   exact⟨_,rfl,by rw[H];decide,q⟩
 ·rintro _ U ⟨i,rfl,X,D⟩
  exact⟨_,rfl,by rw[X],D⟩
def DL (s:List UInt8)(w:World)(v:Value)(w':World):Prop:=v=SM (dR s)/\bW w w'
theorem BE (s:List UInt8)(dg:s.length <=2000000000)(w:World)(bs:Env w):Cf xr #[vS s] w (Ret (DL s w)):=by
 apply Lw
 intro k2 V c4 cf
 have Y:=(cf▸au w _:bW w V)
 have b4:av V k2 ak nG.cells:=av.new c4 cf
 have c5:w.heap.size <=k2:=by omega
 refine az (N1 s 91 V) ?_
 rintro _ b1 ⟨rfl,al⟩
 rw[al];clear al
 refine⟨_,_,rfl,?_⟩
 have X:∀{bc:World} (o:Option Hst),(∀x,o=some x->x.ok)->dR s=o->av bc k2 ak nG.cells->bW w bc->
  ∃wy,(Instr.storeAt ak (.pointer (some ⟨k2,0,none⟩)) (o.getD nG).v).run prog bc=.ok () wy/\∃a8:Value,(aI ak (.pointer (some ⟨k2,0,none⟩))).run prog wy=.ok a8 wy/\DL s w (.tuple #[a8,vI (if o.isSome then 0 else 31)]) wy:=fun{bc} o U G ct c0=>
  aO.fin (K:=λa8 wy=>DL s w (.tuple #[a8,vI (if o.isSome then 0 else 31)]) wy) (cs:=(o.getD nG).cells) (Hst.len (rf U)) (Hst.one _) ct rfl c0 c5 λwy c1=>⟨by rw[G,lS];rfl,c1⟩
 by_cases I:s.head?=some 91
 ·rw[if_pos I,decide_eq_true I]
  refine ai.yes rfl ?_
  have G:dR s=if s.getLast?=some 93 then(v6A ((s.drop 1).take (s.length-2))).map λa=>⟨3,[],a⟩ else none:=by unfold dR;rw[if_pos I]
  have cb:=SZ I
  refine(Tryz.strings_CutSuffix (mkS (s.drop 1)) (mkS [93]) V (by show(s.drop 1).length <=_;rw[List.length_drop];omega)).mono ?_
  rintro _ b1 ⟨rfl,al⟩
  rw[al];clear al
  have cc:=QO (s.drop 1) 93
  have ck:(mkS (s.drop 1)).data.toList=s.drop 1:=rfl
  have cl:(mkS [93]).data.toList=[93]:=rfl
  rw[ck,cl,cc.1,cc.2]
  obtain⟨inner,a0⟩:∃inner,inner=if(s.drop 1).getLast?=some 93 then(s.drop 1).take ((s.drop 1).length-1)else s.drop 1:=⟨_,rfl⟩
  rw[<- a0]
  have dd:inner.length <=s.length:=by rw[a0];split <;> simp <;> omega
  refine⟨inner,_,rfl,?_⟩
  refine az (QY inner (by omega) V (bs.step Y)) ?_
  rintro _ b2 ⟨rfl,ag⟩
  have Z:=ah Y ag Y.size
  refine⟨_,_,by rw[L3],?_⟩
  have E:=HM (TS inner)
  refine dN.new (zs:=adC ad0) (cs:=adC ((v6A inner).getD ad0)) rfl E (rH _) b2 λc8 bb c6 bk aj=>?_
  have O:=ah Z aj Z.size
  have an:=(b4.below ag).below aj
  refine⟨_,dN.load0 bk E,?_⟩
  have ce:dR s=if(v6A inner).isSome=true/\(s.drop 1).getLast?=some 93 then some ⟨3,[],(v6A inner).getD ad0⟩ else none:=by
   rw[G]
   by_cases D:s.getLast?=some 93
   ·have b7:=cb.2 D
    rw[if_pos D,if_pos b7]at*
    rw[List.length_drop,show s.length-1-1=s.length-2 by omega]at a0
    rw[<- a0]
    cases v6A inner with
    |none=>rw[if_neg (λh=>by cases h.1)];rfl
    |some x=>rw[if_pos ⟨rfl,b7⟩];rfl
   ·rw[if_neg D,if_neg (λh=>D (cb.1 h.2))]
  refine ai.of (λb0=>?_) (λb0=>?_)
  ·refine az (zd 3 _ (by rw[<- ja];exact E) _ bb) ?_
   rintro _ cj ⟨rfl,H⟩
   have ad:=ah O H O.size
   refine⟨_,_,by rw[lS],?_⟩
   refine X _ (λx e=>?_) ?_ (an.below H) ad
   ·split at e
    ·cases e;show((v6A inner).getD ad0).length=16;rw[<- ja];exact E
    ·cases e
   ·rw[ce,b0]
    by_cases D:(s.drop 1).getLast?=some 93
    ·rw[if_pos ⟨rfl,D⟩,if_pos (by simpa using D)]
    ·rw[if_neg (λh=>D h.2),if_neg (by simpa using D)]
  ·refine az (zd 3 _ (by rw[<- ja];exact E) _ bb) ?_
   rintro _ cj ⟨rfl,H⟩
   have ad:=ah O H O.size
   refine⟨_,_,by rw[lS],?_⟩
   refine X _ (λx e=>by cases e) ?_ (an.below H) ad
   rw[ce,b0,if_neg (λh=>by cases h.1)];rfl
 ·rw[if_neg I,decide_eq_false I]
  refine ai.no rfl ?_
  have G:dR s=if fi (K8 (bY 46 [] (cN s)))=true then(v4V s).map λa=>⟨2,[],a⟩ else if s.length <=253/\(bY 46 [] (cN s)).all o0=true then some ⟨1,cN s,ad0⟩ else none:=by unfold dR;rw[if_neg I]
  refine az (pQ s (by omega) V) ?_
  rintro _ b1 ⟨rfl,b5⟩
  have bp:=ah Y b5 Y.size
  refine⟨_,rfl,?_⟩
  have ch:(cN s).length=s.length:=by simp[cN]
  refine az (sI (cN s) 46 (by omega) b1 (bs.step bp)) ?_
  rintro _ b2 ⟨a,n,c,rfl,U,dc,ag⟩
  have Z:=ah bp ag bp.size
  have cp:=(b4.below b5).below ag
  have c7:=U.len
  subst c7
  have b9:∀x∈bY 46 [] (cN s),x.length <=s.length:=λx e=>by have:=tg 46 (cN s) [] x e;simp[ch]at this;omega
  have c9:=jQ 46 (cN s) []
  have bz:0<(bY 46 [] (cN s)).length:=List.length_pos_iff.2 (j7 46 (cN s) [])
  have b8:=eY 46 (cN s) []
  refine⟨_,_,_,rfl,?_⟩
  generalize bY 46 [] (cN s)=L at*
  have cn:i64.wrap (((L.length:Nat):Int)-1)=((L.length-1:Nat):Int):=by rw[wrap_i64 (by omega) (by omega)];omega
  try dsimp only
  rw[cn]
  refine⟨⟨⟨by omega,by omega⟩,U.all.isSome bz⟩,_,U.all.text ax (by omega),?_⟩
  rw[<- Gh bz]
  have de:(K8 L).length <=s.length:=by rw[Gh bz];exact b9 _ (List.getElem_mem _)
  refine az (zg (K8 L) (by omega) b2) ?_
  rintro _ b3 ⟨rfl,ar⟩
  have M:=ah Z ar Z.size
  have bj:=cp.below ar
  refine⟨_,rfl,ai.of (λbq=>?_) (λbq=>?_)⟩
  ·rw[if_pos bq]at G
   refine az (QX s (by omega) b3 (bs.step M)) ?_
   rintro _ a9 ⟨rfl,q⟩
   have ac:=ah M q M.size
   refine⟨_,_,by rw[L3],?_⟩
   have E:=HM (Wu s)
   refine dN.new (zs:=adC ad0) (cs:=adC ((v4V s).getD ad0)) rfl E (rH _) a9 λc8 bb c6 bk aj=>?_
   have O:=ah ac aj ac.size
   have an:=(bj.below q).below aj
   refine⟨_,dN.load0 bk E,?_⟩
   refine az (zd 2 _ (by rw[<- ja];exact E) _ bb) ?_
   rintro _ cj ⟨rfl,H⟩
   have ad:=ah O H O.size
   refine⟨_,_,by rw[lS],?_⟩
   refine X _ (λx e=>?_) ?_ (an.below H) ad
   ·split at e
    ·cases e;show((v4V s).getD ad0).length=16;rw[<- ja];exact E
    ·cases e
   ·rw[G]
    cases v4V s <;> rfl
  ·rw[if_neg (by rw[bq];decide)]at G
   have c2: ¬ (s.length <=253/\L.all o0=true)->dR s=none:=λh=>by rw[G,if_neg h]
   refine cw (λw'=>(s.length <=253/\L.all o0=true)/\bW b3 w') ?_ ?_
   ·refine qs (λb w'=>b=(!decide (s.length <=253/\L.all o0=true))/\bW b3 w') ?_ ?_
    ·refine ai.of (λh=>⟨?_,Below.refl _ _⟩) (λh=>?_) <;> simp only[gt_iff_lt,dTx,dFx]at h
     ·rw[decide_eq_false (λD=>by have:=D.1;omega)];rfl
     ·refine az (SX (A:=wu) (U.below ar).all (λx e=>by have:=b9 x e;omega) (by omega)) ?_
      rintro _ a9 ⟨rfl,q⟩
      refine⟨_,rfl,?_,q⟩
      have cr:s.length <=253:=by omega
      congr 1
      rw[Bool.eq_iff_iff,dTx]
      exact⟨λh=>⟨cr,h⟩,λh=>h.2⟩
    ·rintro b a9 ⟨rfl,q⟩
     refine ai.of (λh=>?_) (λh=>⟨by rw[Bool.not_eq_false']at h;exact of_decide_eq_true h,q⟩)
     exact X none (λx e=>by cases e) (c2 (by rw[Bool.not_eq_true']at h;exact of_decide_eq_false h)) (bj.below q) (ah M q M.size)
   ·rintro a9 ⟨c3,q⟩
    have ac:=ah M q M.size
    refine az (JH ((U.below ar).below q).all [46] (by omega) (by rw[b8];simp[ch];omega)) ?_
    rintro _ dk ⟨rfl,b6⟩
    have cu:=ah ac b6 ac.size
    rw[b8,List.nil_append]
    refine⟨_,rfl,?_⟩
    exact X (some ⟨1,cN s,ad0⟩) (λx e=>by cases e;rfl) (by rw[G,if_pos c3]) ((bj.below q).below b6) cu
end Go.Pk
