/- What the laws lean on: HostC, Sub, HostD, V4, UrlA, UrlB, MatA, MapG; what is used. Its conditions: none. -/
import Derived.Test.YtlfolncaghkmcaaGreatDoorKE
import Derived.Lib.LastIndexByte
variable {n m i j k:Nat}{w:Go.World}{t:Go.TypeId}{P:Go.Program}{s:List UInt8}
open Go.IntKind (i64)
open Go.Proofs.Tryz
set_option linter.unusedVariables false
set_option linter.unusedSimpArgs false
set_option maxRecDepth 20000
open List (length)
open Option (isSome)
namespace Go.Pk
open Go.RowKit (Below)
open Go.Proofs
def pZ (h:Hst):List UInt8:=if h.kind=1 then h.name else if h.kind=2 then vV h.ad else if h.kind=3 then[91]++zt h.ad++[93]else[]
def dO (h:Hst):Bool:=match dR (pZ h)with|some g=>iU g h|none=>false
def ay (h:Hst):List (List UInt8):=if h.kind=1/\dO h=true then bY 46 [] h.name else[]
theorem TL {a:List UInt8}(h:a.length=16):(vV a).length <=88:=by
 have:=JK ((a.drop 12).map λc=>tH c.toNat) 46 21 (λx e=>by
  obtain⟨c,_,rfl⟩:=List.mem_map.1 e
  have:=qi c
  exact gX (by omega))
 rw[List.length_map,List.length_drop,h]at this
 exact this
theorem zu (a:List UInt8):(zt a).length <=90:=by
 have E:=vb a
 unfold zt
 split
 ·have:=rq (An a);omega
 ·have q:=rq (l:=(gL a).take (eN (zsA a)).1) λx e=>An a x (List.mem_of_mem_take e)
  have D:=rq (l:=(gL a).drop ((eN (zsA a)).1+(eN (zsA a)).2)) λx e=>An a x (List.mem_of_mem_drop e)
  rw[List.length_take]at q
  rw[List.length_drop]at D
  simp;omega
theorem AE {h:Hst}(o:h.ok):(pZ h).length <=h.name.length+100:=by
 have e:=TL o
 have q:=zu h.ad
 unfold pZ
 split
 ·omega
 split
 ·omega
 split
 ·simp;omega
 ·simp
theorem Ub {h:Hst}(j:Nat):h.cells[2+j]? =(adC h.ad)[j]? :=by rw[Nat.add_comm];rfl
theorem Cm {h:Hst}(o:h.ok){T:TypeId}(e:av w k T h.cells):(Instr.loadAt aK (.pointer (some ⟨k,2,none⟩))).run prog w=.ok (adV h.ad) w:=
 dN.load e (i:=2) (us:=adC h.ad) (by rw[ja,o]) λj _=>Ub j
theorem fB (s:List UInt8)(de:s.length <=90000000)(w:World):Cf fu #[vS s] w (Ret (DL s w)):=by
 apply Kn
 intro k2 U cr cf
 have ad:=(cf▸au w _:bW w U)
 have bp:av U k2 ak nG.cells:=av.new cr cf
 have ct:w.heap.size <=k2:=by omega
 have a9:∀{M:World} (o:Option Hst),(∀x,o=some x->x.ok)->dR s=o->av M k2 ak nG.cells->bW w M->
  ∃wy,(Instr.storeAt ak (.pointer (some ⟨k2,0,none⟩)) (o.getD nG).v).run prog M=.ok () wy/\∃bj:Value,(aI ak (.pointer (some ⟨k2,0,none⟩))).run prog wy=.ok bj wy/\DL s w (.tuple #[bj,vI (if o.isSome then 0 else 31)]) wy:=fun{M} o q e bq bs=>
  aO.fin (K:=λbj wy=>DL s w (.tuple #[bj,vI (if o.isSome then 0 else 31)]) wy) (cs:=(o.getD nG).cells) (Hst.len (rf q)) (Hst.one _) bq rfl bs ct λwy I=>⟨by rw[e,lS];rfl,I⟩
 have X:=fun{M:World} (e:dR s=none) (bq:av M k2 ak nG.cells) (bs:bW w M)=>a9 none (λx a8=>by cases a8) e bq bs
 refine iY (w:=U) (¬ s.head?=some 91) ?_ (λac=>?_)
 ·refine⟨λb w'=>w'=U/\b=decide (s.head?=some 91),ai.of (λh=>⟨⟨by decide,by simpa using h⟩,rfl,?_⟩) (λh=>⟨rfl,?_⟩),λb=>aP.of ?_ _⟩
  ·have an:0<s.length:=by simpa using h
   have I:=byte_at (s:=s) (k:=0) an
   rw[show((0:Nat):Int)=0 from rfl]at I
   have ar:=fq s[0] 91
   rw[show(((91:UInt8).toNat:Nat):Int)=91 from rfl]at ar
   rw[I,ar,List.head?_eq_getElem?,List.getElem?_eq_getElem an,Bool.eq_iff_iff]
   simp
  ·have an:s=[]:=by
    simp only[gt_iff_lt,dFx]at h
    exact List.length_eq_zero_iff.1 (by omega)
   subst an;rfl
  ·rintro dk ⟨cj,I⟩
   rw[cj,I];clear cj I
   refine ai.of (λh=>?_) (λh=>⟨rfl,of_decide_eq_false h⟩)
   have ac:s.head?=some 91:=of_decide_eq_true h
   have c1:s≠[]:=by rintro rfl;cases ac
   have an:0<s.length:=List.length_pos_iff.2 c1
   have e:dR s=if s.getLast?=some 93 then(v6A ((s.drop 1).take (s.length-2))).map λa=>⟨3,[],a⟩ else none:=by unfold dR;rw[if_pos ac]
   have bk:i64.wrap (((s.length:Nat):Int)-1)=((s.length-1:Nat):Int):=by rw[wrap_i64 (by omega) (by omega)];omega
   try dsimp only
   rw[bk,byte_at (show s.length-1<s.length by omega)]
   have cc:s.getLast?=some (s[s.length-1]'(by omega)):=by rw[List.getLast?_eq_getElem?,List.getElem?_eq_getElem (by omega)]
   have ar:=fq (s[s.length-1]'(by omega)) 93
   rw[show(((93:UInt8).toNat:Nat):Int)=93 from rfl]at ar
   refine⟨⟨by omega,by omega⟩,?_⟩
   simp only[bne,ar]
   refine ai.of (λG=>X ?_ bp ad) (λG=>?_)
   ·rw[e,if_neg]
    rw[cc]
    intro cl
    rw[Option.some.inj cl]at G;simp at G
   ·have b0:s.getLast?=some 93:=by rw[cc];simpa using G
    have dc:2 <=s.length:=by
     refine Decidable.byContradiction λc6=>?_
     have cn:s.length=1:=by omega
     obtain⟨x,rfl⟩:=List.length_eq_one_iff.1 cn
     rw[Option.some.inj (show some x=some 91 from ac)]at b0
     cases b0
    rw[if_pos b0]at e
    simp only[Int.toNat_natCast]
    refine⟨⟨⟨by omega,by omega⟩,by decide,by omega⟩,?_⟩
    intro O cp
    have b5:O=(s.drop 1).take (s.length-2):=by
     rw[cp,show(Int.toNat 1)=1 from rfl,List.drop_take,show s.length-1-1=s.length-2 by omega]
    rw[<- b5]at e
    have dg:O.length <=s.length:=by rw[b5];simp;omega
    refine az (PF O (by omega) U) ?_
    rintro _ V ⟨rfl,aj⟩
    have E:=ah ad aj ad.size
    refine⟨_,_,by rw[L3],?_⟩
    have D:=HM (TS O)
    refine dN.new (zs:=adC ad0) (cs:=adC ((v6A O).getD ad0)) rfl D (rH _) V λc2 b4 cu Z al=>?_
    have ag:=ah E al E.size
    have Y:=(bp.below aj).below al
    cases q:v6A O with
    |none=>
     exact ai.yes rfl (X (by rw[e,q];rfl) Y ag)
    |some x=>
     rw[q]at Z D
     refine ai.no rfl ⟨_,dN.load0 Z D,_,G9 3 (by rw[<- ja];exact D) b4,?_⟩
     exact a9 (some ⟨3,[],x⟩) (λy b3=>by cases b3;show x.length=16;rw[<- ja];exact D) (by rw[e,q];rfl) Y ag
 ·have e:dR s=if fi (K8 (bY 46 [] (cN s)))=true then(v4V s).map λa=>⟨2,[],a⟩ else if s.length <=253/\(bY 46 [] (cN s)).all o0=true then some ⟨1,cN s,ad0⟩ else none:=by unfold dR;rw[if_neg ac]
  refine az (cZ s (by omega) U) ?_
  rintro _ c4 ⟨rfl,b8⟩
  have b6:=ah ad b8 ad.size
  refine⟨_,rfl,?_⟩
  have c3:(cN s).length=s.length:=by simp[cN]
  refine az (eH (cN s) 46 (by omega) c4) ?_
  rintro _ V ⟨a,n,c,rfl,q,c8,aj⟩
  have E:=ah b6 aj b6.size
  have bb:=(bp.below b8).below aj
  have c0:=q.len
  subst c0
  have ce:∀x∈bY 46 [] (cN s),x.length <=s.length:=λx a8=>by have:=tg 46 (cN s) [] x a8;simp[c3]at this;omega
  have c7:=jQ 46 (cN s) []
  have b2:0<(bY 46 [] (cN s)).length:=List.length_pos_iff.2 (j7 46 (cN s) [])
  refine⟨_,_,_,rfl,?_⟩
  generalize bY 46 [] (cN s)=L at*
  have bk:i64.wrap (((L.length:Nat):Int)-1)=((L.length-1:Nat):Int):=by rw[wrap_i64 (by omega) (by omega)];omega
  try dsimp only
  rw[bk]
  refine⟨⟨⟨by omega,by omega⟩,q.all.isSome b2⟩,_,q.all.text ax (by omega),?_⟩
  rw[<- Gh b2]
  have dd:(K8 L).length <=s.length:=by rw[Gh b2];exact ce _ (List.getElem_mem _)
  refine az (i6 (K8 L) (by omega) V) ?_
  rintro _ c5 ⟨rfl,a0⟩
  rw[a0];clear a0
  refine⟨_,rfl,ai.of (λbz=>?_) (λbz=>?_)⟩
  ·rw[if_pos bz]at e
   refine az (PE s (by omega) V) ?_
   rintro _ ck ⟨rfl,b9⟩
   have b7:=ah E b9 E.size
   refine⟨_,_,by rw[L3],?_⟩
   have D:=HM (Wu s)
   refine dN.new (zs:=adC ad0) (cs:=adC ((v4V s).getD ad0)) rfl D (rH _) ck λc2 b4 cu Z al=>?_
   have ag:=ah b7 al b7.size
   have Y:=(bb.below b9).below al
   cases q:v4V s with
   |none=>
    rw[q]at e
    exact ai.yes rfl (X e Y ag)
   |some x=>
    rw[q]at e Z D
    refine ai.no rfl ⟨_,dN.load0 Z D,_,G9 2 (by rw[<- ja];exact D) b4,?_⟩
    exact a9 (some ⟨2,[],x⟩) (λy b3=>by cases b3;show x.length=16;rw[<- ja];exact D) e Y ag
  ·rw[if_neg (by rw[bz];decide)]at e
   have cb: ¬ (s.length <=253/\L.all o0=true)->dR s=none:=λh=>by rw[e,if_neg h]
   refine⟨λm i w'=>∃k:Nat,k <=L.length/\i=(k:Int)/\m=L.length-k/\(L.take k).all o0=true/\w'=V,⟨_,0,by omega,rfl,rfl,rfl,rfl⟩,?_⟩
   intro m i
   refine aP.of ?_ _
   rintro c5 ⟨k,c9,rfl,rfl,b1,a0⟩
   rw[a0];clear a0
   refine ai.of (λh=>?_) (λh=>?_) <;> simp only[dTx,dFx]at h
   ·have bc:k<L.length:=by omega
    refine⟨⟨⟨by omega,h⟩,q.all.isSome (by omega)⟩,_,q.all.text ax bc,?_⟩
    refine az (Lg L[k] (by have:=ce _ (List.getElem_mem bc);omega) V) ?_
    rintro _ ck ⟨rfl,ch⟩
    rw[ch];clear ch
    refine⟨_,rfl,ai.of (λH=>X (cb λG=>?_) bb E) (λH=>?_)⟩
    ·rw[List.all_eq_true.1 G.2 _ (List.getElem_mem bc)]at H;cases H
    ·refine⟨L.length-(k+1),by omega,k+1,by omega,by rw[wrap_i64 (by omega) (by omega)];omega,rfl,?_,rfl⟩
     rw[List.take_succ_eq_append_getElem bc,List.all_append,b1]
     simpa using H
   ·have:k=L.length:=by omega
    subst this
    rw[List.take_length]at b1
    refine ai.of (λH=>X (cb λG=>?_) bb E) (λH=>?_) <;> simp only[gt_iff_lt,dTx,dFx]at H
    ·have:=G.1;omega
    ·exact a9 (some ⟨1,cN s,ad0⟩) (λx a8=>by cases a8;rfl) (by rw[e,if_pos ⟨by omega,b1⟩]) bb E
theorem C6 {h:Hst}(o:h.ok)(w:World)(I:Env w):Cf yT #[h.v] w (Ret λv w'=>v=vS (pZ h)/\bW w w'):=by
 apply Nz
 intro U G O M
 have e:=(M▸au w _:bW w G)
 have h1:av G U ak h.cells:=av.new O M
 refine⟨rfl,_,h1.load1 br rfl rfl,?_⟩
 unfold pZ
 refine ai.of (λq=>?_) (λq=>?_) <;> simp only[beq_iff_eq,beq_eq_false_iff_ne,ne_eq]at q
 ·rw[if_pos q]
  exact⟨rfl,_,h1.load1 ax rfl rfl,rfl,e⟩
 rw[if_neg q]
 refine ai.of (λD=>?_) (λD=>?_) <;> simp only[beq_iff_eq,beq_eq_false_iff_ne,ne_eq]at D
 ·rw[if_pos D]
  refine⟨rfl,_,Cm o h1,?_⟩
  refine az (MF h.ad o G (I.step e)) ?_
  rintro _ V ⟨rfl,H⟩
  exact⟨_,rfl,rfl,ah e H e.size⟩
 rw[if_neg D]
 refine ai.of (λE=>?_) (λE=>?_) <;> simp only[beq_iff_eq,beq_eq_false_iff_ne,ne_eq]at E
 ·rw[if_pos E]
  refine⟨rfl,_,Cm o h1,?_⟩
  refine az (MG h.ad o G (I.step e)) ?_
  rintro _ V ⟨rfl,H⟩
  have X:=zu h.ad
  refine⟨_,rfl,fits (by simp;omega),?_⟩
  rintro _ rfl
  refine⟨fits (by simp;omega),?_⟩
  rintro _ rfl
  exact⟨rfl,ah e H e.size⟩
 ·rw[if_neg E]
  exact⟨rfl,e⟩
theorem vz {h:Hst}(o:h.ok)(a0:h.name.length <=1000000000)(w:World)(V:Env w):Cf tP #[h.v] w (Ret λv w'=>v=.bool (dO h)/\bW w w'):=by
 apply LC
 have a8:=AE o
 intro ag E Z X
 have q:=(X▸au w _:bW w E)
 have h1:av E ag ak h.cells:=av.new Z X
 refine⟨_,aO.load0 h1 (Hst.len o),?_⟩
 refine az (C6 o E (V.step q)) ?_
 rintro _ aj ⟨rfl,M⟩
 have D:=ah q M q.size
 refine⟨_,rfl,?_⟩
 refine az (BE (pZ h) (by omega) aj (V.step D)) ?_
 rintro _ al ⟨rfl,O⟩
 have H:=ah D O D.size
 refine⟨_,_,by rw[lS],?_⟩
 have e:((dR (pZ h)).getD nG).ok:=rf λx ad=>mg ad
 refine aO.new (zs:=nG.cells) (cs:=((dR (pZ h)).getD nG).cells) rfl (Hst.len e) (Hst.one _) al λa9 an ar G U=>?_
 have I:=ah H U H.size
 have Y:=((h1.below M).below O).below U
 unfold dO
 cases ac:dR (pZ h)with
 |none=>exact ai.no rfl ⟨rfl,I⟩
 |some g=>
  rw[ac]at G e
  exact ai.yes rfl ⟨_,aO.load0 G (Hst.len e),_,aO.load0 Y (Hst.len o),_,qD e o an,rfl,I⟩
def xC (h:Hst)(w:World)(v:Value)(w':World):Prop:=∃(a:Option Addr) (n c:Nat),v=.slice a n c/\Ow tS ao w' NoB a n c (ay h)/\ci w.heap.size a/\bW w w'
theorem sG {h:Hst}(o:h.ok)(ad:h.name.length <=1000000000)(w:World)(I:Env w):Cf jj #[h.v] w (Ret (xC h w)):=by
 apply Ka
 intro aj H ac M
 have q:=(M▸au w _:bW w H)
 have h1:av H aj ak h.cells:=av.new ac M
 have O:∀{wx:World},¬ (h.kind=1/\dO h=true)->bW w wx->xC h w (.slice none 0 0) wx:=λe V=>⟨none,0,0,rfl,by unfold ay;rw[if_neg e];exact Ow.nil _ _ _ _,ci.none _,V⟩
 refine cw (λw'=>(h.kind=1/\dO h=true)/\bW H w') ⟨rfl,_,h1.load1 br rfl rfl,?_⟩ ?_
 ·refine ai.of (λc=>O (λe=>?_) q) (λc=>?_)
  ·rw[e.1]at c;simp at c
  ·have Z:h.kind=1:=by simpa using c
   refine⟨_,aO.load0 h1 (Hst.len o),?_⟩
   refine az (vz o ad H (I.step q)) ?_
   rintro _ U ⟨rfl,D⟩
   refine⟨_,rfl,ai.of (λE=>O (λe=>?_) (ah q D q.size)) (λE=>⟨⟨Z,by simpa using E⟩,D⟩)⟩
   rw[e.2]at E;cases E
 ·rintro U ⟨e,D⟩
  have G:=ah q D q.size
  refine⟨rfl,_,(h1.below D).load1 ax rfl rfl,?_⟩
  refine az (sI h.name 46 (by omega) U (I.step G)) ?_
  rintro _ al ⟨a,n,c,rfl,ag,Y,X⟩
  exact⟨_,_,_,rfl,_,_,_,rfl,by unfold ay;rw[if_pos e];exact ag,Y.mono G.size,ah G X G.size⟩
theorem kK.drop {α:Type}{T:Ty α}{A:Bl}{l:List Value}{xs:List α}(h:kK T w A l xs)(j:Nat):kK T w A (l.drop (j*T.k)) (xs.drop j):=by
 refine⟨by rw[List.length_drop,List.length_drop,h.len,Nat.sub_mul],λi e=>?_⟩
 have q:j+i<xs.length:=by rw[List.length_drop]at e;omega
 have:=h.rep (j+i) q
 rw[List.drop_drop,List.getElem_drop]
 rw[Nat.add_mul]at this
 exact this
theorem Sl.from {α:Type}{T:Ty α}{A:Bl}{a:Option Addr}{n c:Nat}{xs:List α}(h:Sl T w A a n c xs)(j:Nat)(X:j <=xs.length)(O:T.k=k):Sl T w A (aS a c j k) (n-j) (c-j) (xs.drop j):=by
 subst O
 obtain⟨h1,U,V,e⟩:=h
 refine⟨by rw[List.length_drop,h1],by omega,by omega,?_⟩
 rcases e with e|⟨b,off,q,H,G,l,D,E⟩
 ·left;rw[e];simp
 ·by_cases I:c=j
  ·left
   exact List.drop_eq_nil_of_le (by omega)
  ·right
   refine⟨b,off+j*T.k,?_,H,G,l.drop (j*T.k),D.drop j,λi M=>?_⟩
   ·unfold aS;rw[if_neg I,q,Option.map_some,dF]
   ·rw[List.length_drop]at M
    rw[Nat.add_assoc,E _ (by omega),List.getElem?_drop]
def wY (L:List (List UInt8))(n:Nat):List UInt8:=Lib.join (L.drop (L.length-n)) [46]
def FH (L:List (List UInt8))(n:Nat):Value:=if 1 <=n/\n <=L.length then .tuple #[(⟨1,wY L n,ad0⟩:Hst).v,.bool true]else .tuple #[nG.v,.bool false]
def lR (h d:Hst):Bool:=if(ay d).length=0\/(ay h).length <=(ay d).length then false else iU ⟨1,wY (ay h) (ay d).length,ad0⟩ d
theorem zZc {o:Option (List UInt8)}{h:Hst}(e:(o.map λa=>(⟨3,[],a⟩:Hst))=some h):h.kind=3:=by
 cases o with
 |none=>cases e
 |some a=>cases e;rfl
theorem ec {d:Hst}(o:d.ok)(O:d.kind=1)(q:dO d=true):d=⟨1,d.name,ad0⟩/\cN d.name=d.name/\(bY 46 [] d.name).all o0=true/\d.name.length <=253/\fi (K8 (bY 46 [] d.name))=false/\dR d.name=some d:=by
 have U:pZ d=d.name:=by unfold pZ;rw[if_pos O]
 unfold dO at q
 rw[U]at q
 cases D:dR d.name with
 |none=>rw[D]at q;cases q
 |some g=>
  rw[D]at q
  obtain rfl:=(fC (mg D) o).1 q
  have e:=D
  unfold dR at e
  split at e
  ·split at e
   ·have:=zZc e;omega
   ·cases e
  split at e
  ·cases I:v4V g.name with
   |none=>rw[I]at e;cases e
   |some a=>
    rw[I]at e
    have:g.kind=2:=by rw[<- Option.some.inj e]
    omega
  rename_i M
  split at e
  ·rename_i G
   have E:=Option.some.inj e
   have H:cN g.name=g.name:=congrArg Hst.name E
   rw[H]at G E M
   exact⟨E.symm,H,G.2,G.1,by simpa using M,rfl⟩
  ·cases e
theorem ze (c:UInt8):∀(L:List (List UInt8)) (k:Nat),(Lib.join (L.drop k) [c]).length <=(Lib.join L [c]).length
 |L,0=>by simp
 |[],k+1=>by simp
 |x::r,k+1=>by
  rw[List.drop_succ_cons]
  refine Nat.le_trans (ze c r k) ?_
  cases r with
  |nil=>simp[Lib.join_nil]
  |cons y l=>
   rw[Lib.join_cons,Lib.join_cons]
   unfold Lib.joinTail
   simp;omega
theorem lI (h:Hst):(ay h).length <=h.name.length+1:=by
 unfold ay
 split
 ·exact jQ 46 _ _
 ·simp
theorem HS {h:Hst}(o:h.ok)(bj:h.name.length <=1000000000)(n:Nat)(bz:n <=4000000000)(w:World)(a0:Env w):Cf uO #[h.v,vI (n:Int)] w (Ret λv w'=>v=FH (ay h) n/\bW w w'):=by
 apply Ny
 intro bk q a9 ad
 have D:=(ad▸au w _:bW w q)
 have al:av q bk ak h.cells:=av.new a9 ad
 intro k4 M bb ag
 have U:=(ag▸au q _:bW q M)
 have E:=ah D U D.size
 have an:av M k4 ak nG.cells:=av.new bb ag
 have Z:w.heap.size <=k4:=by have:=D.size;omega
 refine⟨_,aO.load0 (al.below U) (Hst.len o),?_⟩
 refine az (sG o bj M (a0.step E)) ?_
 rintro _ bp ⟨a,l,c,rfl,ac,bq,V⟩
 have G:=ah E V E.size
 have O:=an.below V
 have bs:=lI h
 have a8:∀n,(wY (ay h) n).length <=140737488355328:=λn=>by
  unfold wY
  refine Nat.le_trans (ze 46 (ay h) _) ?_
  unfold ay
  split
  ·rw[eY,List.nil_append];omega
  ·simp[Lib.join_nil]
 have bc:=ac.len
 subst bc
 generalize ay h=L at*
 refine⟨_,_,_,rfl,?_⟩
 unfold FH
 refine iY (w:=bp) (1 <=n/\n <=L.length) ?_ (λY=>?_)
 ·refine orJ (ai.of (λh=>?_) (λh=>⟨rfl,?_⟩))
  ·rw[if_neg (λY=>by simp at h;omega)]
   exact aO.fin (K:=λI e=>(.tuple #[I,.bool false]:Value)=.tuple #[nG.v,.bool false]/\bW w e) (cs:=nG.cells) rfl (Hst.one _) O rfl G Z λe H=>⟨rfl,H⟩
  ·simp at h;omega
 ·rw[if_pos Y]
  have aj:i64.wrap (((L.length:Nat):Int)-(n:Int))=((L.length-n:Nat):Int):=by rw[wrap_i64 (by omega) (by omega)];omega
  try dsimp only
  rw[aj]
  simp only[Int.toNat_natCast]
  refine⟨⟨by omega,by omega⟩,?_⟩
  refine az (JH ((ac.all).from (L.length-n) (by omega) rfl) [46] (by simp;omega) (a8 n)) ?_
  rintro _ b0 ⟨rfl,X⟩
  have ar:=ah G X G.size
  refine⟨_,rfl,?_⟩
  exact aO.fin (K:=λI e=>(.tuple #[I,.bool true]:Value)=.tuple #[(⟨1,wY L n,ad0⟩:Hst).v,.bool true]/\bW w e) (cs:=(⟨1,wY L n,ad0⟩:Hst).cells) rfl (Hst.one _) (O.below X) rfl ar Z λe H=>⟨rfl,H⟩
theorem M5 {h d:Hst}(O:h.ok)(I:d.ok)(b4:h.name.length <=1000000000)(cf:d.name.length <=1000000000)(w:World)(al:Env w):Cf xt #[h.v,d.v] w (Ret λv w'=>v=.bool (lR h d)/\bW w w'):=by
 apply LD
 intro a0 U cu b5
 have bs:=(b5▸au w _:bW w U)
 have ck:av U a0 ak h.cells:=av.new cu b5
 intro a8 q c0 b6
 have b1:=(b6▸au U _:bW U q)
 have bz:=ah bs b1 bs.size
 have cn:av q a8 ak d.cells:=av.new c0 b6
 have cl:=ck.below b1
 have H:bW w (World.drew q):=ah bz (uE rfl rfl rfl (Nat.le_refl _) (λ_ _=>rfl)) bz.size
 have bq:av (World.drew q) a0 ak h.cells:=cl
 have ac:av (World.drew q) a8 ak d.cells:=cn
 have b7:=aO.load0 (P:=prog) bq (Hst.len O)
 have b8:=aO.load0 (P:=prog) ac (Hst.len I)
 have c4:=lI h
 have c3:=lI d
 have a9:∀{Q:Nat->World->Prop},(∀e,Below (World.drew q).heap.size (World.drew q) e->Q (ay h).length e)->
  Cf jj #[h.v] (World.drew q) λad w'=>∃(a:Option Addr) (l c:Nat),ad=.returned (.slice a l c)/\Q l w':=λag=>by
  refine az (sG O b4 _ (al.step H)) ?_
  rintro _ bk ⟨a,l,c,rfl,an,-,aj⟩
  refine⟨_,_,_,rfl,?_⟩
  rw[an.len]
  exact ag bk aj
 have bb:∀{Q:Nat->World->Prop} (Y:World),Below (World.drew q).heap.size (World.drew q) Y->(∀e,Below (World.drew q).heap.size (World.drew q) e->Q (ay d).length e)->
  Cf jj #[d.v] Y λad w'=>∃(a:Option Addr) (l c:Nat),ad=.returned (.slice a l c)/\Q l w':=λY ar ag=>by
  refine az (sG I cf Y (al.step (ah H ar H.size))) ?_
  rintro _ bk ⟨a,l,c,rfl,an,-,aj⟩
  refine⟨_,_,_,rfl,?_⟩
  rw[an.len]
  exact ag bk (ah ar aj ar.size)
 have bc:∀e,Below (World.drew q).heap.size (World.drew q) e->∃J:FP [],
  (ai ((((ay d).length:Nat):Int)==(0:Int)) ((.bool false:Value)=.bool (lR h d)/\bW w e)
   (ai (decide ((((ay d).length:Nat):Int) >=(((ay h).length:Nat):Int))) ((.bool false:Value)=.bool (lR h d)/\bW w e) (J e)))/\
  aP 11 (∀(X:World),J X->∃(b9:Value),(Instr.loadAt ak (.pointer (some ⟨a0,0,none⟩))).run prog X=.ok b9 X/\
   Cf uO #[b9,vI (((ay d).length:Nat):Int)] X λch cc=>∃(cb:Value) (ce:Bool),ch=.returned (.tuple #[cb,.bool ce])/\
   ∀(M:Nat) (V:World),M=cc.heap.size->V=cc.alloc (.cells bK ak)->
   ∃(e:World),(Instr.storeAt ak (.pointer (some ⟨M,0,none⟩)) cb).run prog V=.ok () e/\
   ∃(v30:Value),(Instr.loadAt ak (.pointer (some ⟨M,0,none⟩))).run prog e=.ok v30 e/\
   ∃(bj:Value),(Instr.loadAt ak (.pointer (some ⟨a8,0,none⟩))).run prog e=.ok bj e/\
   ∃(bp:Bool),((do eqGuard .eql ak (.tmp 30) (.tmp 31) v30 bj;binOp .eql ak v30 bj:Sem Value)).run prog e=.ok (.bool bp) e/\
   ((.bool bp:Value)=.bool (lR h d)/\bW w e)):=λe D=>by
  have G:=ah H D H.size
  have u:lR h d=if(ay d).length=0\/(ay h).length <=(ay d).length then false else iU ⟨1,wY (ay h) (ay d).length,ad0⟩ d:=rfl
  refine iY (w:=e) (¬ ((ay d).length=0\/(ay h).length <=(ay d).length)) ?_ (λct=>?_)
  ·refine ai.of (λE=>⟨?_,G⟩) (λE=>ai.of (λZ=>⟨?_,G⟩) (λZ=>⟨rfl,?_⟩))
   ·rw[u,if_pos (.inl (by simp at E;simp[E]))]
   ·rw[u,if_pos (.inr (by simp at Z;omega))]
   ·simp at E Z
    rintro(hx|hx)
    ·exact E (List.length_eq_zero_iff.1 hx)
    ·omega
  ·refine⟨_,aO.load0 (bq.below D) (Hst.len O),?_⟩
   refine az (HS O b4 (ay d).length (by omega) e (al.step G)) ?_
   rintro _ c1 ⟨rfl,b2⟩
   have b0:=ah G b2 G.size
   have cj:FH (ay h) (ay d).length=.tuple #[(⟨1,wY (ay h) (ay d).length,ad0⟩:Hst).v,.bool true]:=if_pos ⟨by omega,by omega⟩
   rw[cj,u,if_neg ct]
   refine⟨_,_,rfl,?_⟩
   refine aO.new (zs:=nG.cells) (cs:=(⟨1,wY (ay h) (ay d).length,ad0⟩:Hst).cells) rfl rfl (Hst.one _) c1 λM V c2 cp b3=>?_
   have cr:=ah b0 b3 b0.size
   exact⟨_,aO.load0 cp rfl,_,aO.load0 (((ac.below D).below b2).below b3) (Hst.len I),_,qD (show(⟨1,wY (ay h) (ay d).length,ad0⟩:Hst).ok from rfl) I V,rfl,cr⟩
 refine⟨⟨_,b7,?_,_,b8,?_⟩,_,b8,_,b7,?_⟩
 ·exact a9 λe D=>⟨_,aO.load0 (ac.below D) (Hst.len I),bb e D bc⟩
 ·exact a9 λe D=>bb e D bc
 ·exact a9 λe D=>bb e D bc
set_option maxRecDepth 100000
theorem LM (a:Option Addr)(b c:Nat){w K}(h:nA w (.map #[] 0) λd e=>∃f g i j,(Instr.makeSlice gE (vI 1) (vI 1)).run prog e=.ok (.slice g i j) f/\nA f (.cells #[.map (some d),.slice g i j] cB) λk l=>∃m:Nat->FP [.one (.int .i64)],(∃n,m n (0:Int) l)/\∀n o,aP 28 (∀p,m n o p->ai (decide (o<((b:Nat):Int))) ((bx o ((b:Nat):Int)/\Option.isSome a=true)/\∃q r,Ld aG (aw a o 2) p (.agg #[vI q,vS r])/\nA p (.cells #[vI 0,vS []] aG) λs t=>∃u,Sv aG (vA s 0) (.agg #[vI q,vS r]) t u/\∃v x,Ld aG (vA s 0) u (.agg #[vI v,vS x])/\uS Fp #[.agg #[vI v,vS x]] u λy z=>Cf Fo #[vS y] z λA B=>∃C D E F,A=rT #[.agg #[vI C,vS D],.bool E,vI F]/\nA B (.cells #[vI 0,vS []] aG) λG H=>∃I,Sv aG (vA G 0) (.agg #[vI C,vS D]) H I/\∃J:FP [.one .bool],(ai (F==(0:Int)) (ai E (∃L M,Ld aG (vA G 0) I (.agg #[vI L,vS M])/\∃N O,Ld aG (vA s 0) I (.agg #[vI N,vS O])/\∃P,(do eqGuard .eql aG (.tmp 32) (.tmp 33) (.agg #[vI L,vS M]) (.agg #[vI N,vS O]);binOp .eql aG (.agg #[vI L,vS M]) (.agg #[vI N,vS O]):Sem Value).run prog I=.ok (.bool P) I/\J P I) (J false I)) (J false I))/\∀L,aP 9 (∀M,J L M->ai L (∃N O,Ld aG (vA s 0) M (.agg #[vI N,vS O])/\uU vx #[.pointer (vA k 0),.agg #[vI N,vS O]] M λP=>∃Q:Nat,Q<n/\m Q (i64.wrap (o+(1:Int))) P) (∃N:Nat,N<n/\m N (i64.wrap (o+(1:Int))) M))) (K (.pointer (vA k 0)) p))):Cf pN #[.slice a b c] w (Ret K):=ru func10 [(8,[(15,.one (.int .i64))]),(21,[(35,.one .bool)])] h
theorem NA (a:lU){w K}(h:nA w (.cells #[vI 0,vS []] aG) λb c=>uS uZ #[vS a] c λd e=>∃f:FP [],(∃g:FP [.one .bool],(ai (d==[]) (g true e) (uB sb #[vS d,vS [47,47]] e λi j=>g i j))/\∀i,aP 5 (∀j,g i j->ai i (∃k,Sv aG (vA b 0) (.agg #[vI 0,vS []]) j k/\∃l m,Rv aG (vA b 0) k (.agg #[vI l,vS m])/\K (.tuple #[.agg #[vI l,vS m],.bool false,vI 0]) k) (f j)))/\aP 9 (∀g,f g->∃i:FP [.one .str],(uI zP #[vS d,vS [32,9]] g λj k=>ai (decide (j >=(0:Int))) (bd j (((List.length d):Nat):Int)/\∀l,l=(List.take (Int.toNat j) d)->i l k) (i d k))/\∀j,aP 8 (∀k,i j k->Cf Bw #[vS j] k λl m=>∃n o,l=rT #[vI n,vS o]/\Cf xr #[vS o] m λp q=>∃r s,p=rT #[r,vI s]/\nA q (.cells bK ak) λt u=>∃v,Sv ak (vA t 0) r u v/\∃x:FP [],(∃y:FP [.one .bool],(ai (s !=(0:Int)) (y true v) (true/\∃z,Ld aJ (vA t 0) v (vI z)/\ai (z !=(1:Int)) (y true v) (ai (n==(3:Int)) (∃A,Ld ak (vA t 0) v A/\uL jj #[A] v λB C D E=>y (decide (((C:Nat):Int)<(2:Int))) E) (y false v))))/\∀z,aP 16 (∀A,y z A->ai z (∃B,Sv aG (vA b 0) (.agg #[vI 0,vS []]) A B/\∃C D,Rv aG (vA b 0) B (.agg #[vI C,vS D])/\K (.tuple #[.agg #[vI C,vS D],.bool false,vI 51]) B) (x A)))/\aP 20 (∀y,x y->true/\∃z,Ld ao (vA t 1) y (vS z)/\∃A,Sv aG (vA b 0) (.agg #[vI n,vS z]) y A/\∃B C,Rv aG (vA b 0) A (.agg #[vI B,vS C])/\K (.tuple #[.agg #[vI B,vS C],.bool true,vI 0]) A)))):Cf Fo #[vS a] w (Ret K):=ru func27 [(4,[]),(5,[(17,.one .bool)]),(12,[(0,.one .str)]),(24,[]),(25,[(52,.one .bool)])] h
theorem NB (a:Int)(b:lU){w K}(h:nA w (.cells #[vI a,vS b] aG) λc d=>true/\∃e,(∀f,bW d f->Ld aJ (vA c 0) f (vI e))/\∃f,(∀g,bW d g->Cf BA #[vI e] g λi j=>i=.returned (vS f)/\Below d.heap.size g j)/\true/\∃g,(∀i,bW d i->Ld ao (vA c 1) i (vS g))/\(((List.length f+List.length g:Nat):Int) <=i64.max)/\∀i,i=(f++g)->∀j,bW d j->K (vS i) j):Cf Fp #[.agg #[vI a,vS b]] w (Ret K):=ru func28 [] h
theorem Eu (a:Option Addr)(b:Int)(c:lU){w K}(h:nA w (.cells #[vI b,vS c] aG) λd e=>true/\∃f,Ld ao (vA d 1) e (vS f)/\uL qx #[vS f,.int .u8 46] e λg i j k=>∃l:Nat->FP [.one (.int .i64),.one (.int .i64)],(∃m,l m (0:Int) (i64.wrap (((i:Nat):Int)-(1:Int))) k)/\∀m n o,aP 50 (∀p,l m n o p->ai (decide (o >=(0:Int))) ((bx o ((i:Nat):Int)/\Option.isSome g=true)/\∃q,Ld ao (aw g o 1) p (vS q)/\nA p (.cells #[vI 0,vS []] j5) λr s=>∃t,Sv j5 (vA r 0) (.agg #[vI n,vS q]) s t/\∃u:FP [],((Option.isSome a=true)/\(Option.isSome a=true)/\∃v,(∀x,bW t x->Ld fg (Option.map (λy=>y.add 0) a) x (.map v))/\∃x y,(∀z,bW t z->Ld j5 (vA r 0) z (.agg #[vI x,vS y]))/\∃z A,(∀B,bW t B->(Instr.lookup fg (.map v) (.agg #[vI x,vS y]) true).run prog B=.ok (.tuple #[vI z,.bool A]) B)/\∀B,bW t B->ai (!A) ((Option.isSome a=true)/\(Option.isSome a=true)/\∃C,(∀D,bW B D->Ld fg (Option.map (λE=>E.add 0) a) D (.map C))/\∃D E,(∀F,bW B F->Ld j5 (vA r 0) F (.agg #[vI D,vS E]))/\(Option.isSome a=true)/\(Option.isSome a=true)/\∃F G H,(∀I,bW B I->Ld gE (Option.map (λJ=>J.add 1) a) I (.slice F G H))/\∀I,bW B I->∃J,(Instr.mapUpdate fg (.map C) (.agg #[vI D,vS E]) (vI ((G:Nat):Int))).run prog I=.ok () J/\(Option.isSome a=true)/\(Option.isSome a=true)/\∃L M N,Ld gE (Option.map (λO=>O.add 1) a) J (.slice L M N)/\nA J (.cells #[.bool false,.bool false,.bool false,.bool false] dq) λO P=>∃Q R S T,(Builtin.append_ #[gE,gE] gE #[.slice L M N,.slice (vA O 0) 1 1]).run prog P=.ok (.slice R S T) Q/\(Option.isSome a=true)/\(Option.isSome a=true)/\∃U,Sv gE (Option.map (λV=>V.add 1) a) (.slice R S T) Q U/\u U) (u B))/\aP 33 (∀v,u v->(Option.isSome a=true)/\(Option.isSome a=true)/\∃x,(∀y,bW v y->Ld fg (Option.map (λz=>z.add 0) a) y (.map x))/\∃y z,(∀A,bW v A->Ld j5 (vA r 0) A (.agg #[vI y,vS z]))/\∃A,(∀B,bW v B->(Instr.lookup fg (.map x) (.agg #[vI y,vS z]) false).run prog B=.ok (vI A) B)/\∀B,bW v B->∃C:Nat,C<m/\l C A (i64.wrap (o-(1:Int))) B)) ((Option.isSome a=true)/\(Option.isSome a=true)/\∃q r s,(∀t,bW p t->Ld gE (Option.map (λu=>u.add 1) a) t (.slice q r s))/\true/\∃t,(∀u,bW p u->Ld aJ (vA d 0) u (vI t))/\(bx n ((r:Nat):Int)/\Option.isSome q=true)/\(bx t ((4:Nat):Int)/\isSome (aw q n 4))/\∀u,bW p u->∃v,Sv bu (aw (aw q n 4) t 1) (.bool true) u v/\K (.tuple #[]) v))):Cf vx #[.pointer a,.agg #[vI b,vS c]] w (Ret K):=ru func29 [(10,[(4,.one (.int .i64)),(6,.one (.int .i64))]),(21,[]),(2000028,[(10,.one .bool)]),(2000033,[(9,.one .bool)])] h
theorem NF (a:Value){w K}(h:nA w (.cells (Value.cells a) aQ) λb c=>true/\∃d,Ld ak (vA b 1) c d/\uB tP #[d] c λe f=>ai e (true/\∃g,Ld aJ (vA b 19) f (vI g)/\ai (decide (g >=(1:Int))) (true/\∃i,Ld aJ (vA b 19) f (vI i)/\ai (decide (i <=(65535:Int))) (true/\∃j,Ld ao (vA b 20) f (vS j)/\uB Hi #[vS j] f λk l=>K (.bool k) l) (K (.bool false) f)) (K (.bool false) f)) (K (.bool false) f)):Cf BC #[a] w (Ret K):=ru func30 [] h
theorem Lo (a:Option Addr)(b:Value)(c d e f:lU)(g:Bool)(i:Int)(j:Bool)(k:Int)(l m:Bool)(n o:Int){w K}(h:nA w (.cells (Value.cells b) aQ) λp q=>nA q (.cells #[vS c,vS d,vS e,vS f,.bool g,vI i,.bool j,vI k,.bool l,.bool m,vI n] aq) λr s=>nA s (.cells bf af) λt u=>∃v,Ld aQ (vA p 0) u v/\∃x y z A B C D E F G H,Ld aq (vA r 0) u (hV x y z A B C D E F G H)/\uI Bg #[v,(hV x y z A B C D E F G H),vI o] u λI J=>ai (I !=(0:Int)) (∃L,Sv af (vA t 0) (.agg bf) J L/\∃M,Rv af (vA t 0) L M/\K (.tuple #[M,vI I]) L) (true/\∃L,Ld ak (vA p 1) J L/\true/\∃M,Ld ao (vA r 2) J (vS M)/\Cf Ah #[.pointer a,L,vS M] J λN O=>∃P Q R,N=rT #[P,.bool Q,vI R]/\nA O (.cells bK ak) λS T=>∃U,Sv ak (vA S 0) P T U/\∃V:FP [.one (.int .i64)],(ai (R !=(0:Int)) (V R U) (∃X:FP [.one .bool],(true/\∃Y,Ld bu (vA r 8) U (.bool Y)/\ai Y (true/\∃Z,Ld bu (vA p 0) U (.bool Z)/\X (!Z) U) (X false U))/\∀Y,aP 7 (∀Z,X Y Z->ai Y (V (104:Int) Z) (∃ac:FP [.one .bool],(true/\∃ad,Ld aJ (vA r 10) Z (vI ad)/\ai (ad==(1:Int)) (true/\∃ag,Ld bu (vA r 8) Z (.bool ag)/\ac (!ag) Z) (ac false Z))/\∀ad,aP 8 (∀ag,ac ad ag->ai ad (V (105:Int) ag) (∃aj al an ar bb bc bd bj bk bo bp,Ld aq (vA r 0) ag (hV aj al an ar bb bc bd bj bk bo bp)/\uB Ag #[(hV aj al an ar bb bc bd bj bk bo bp),.bool Q] ag λbq bs=>ai bq (V (106:Int) bs) (V R bs)))))))/\∀X,aP 24 (∀Y,V X Y->ai (X !=(0:Int)) (∃Z,Sv af (vA t 0) (.agg bf) Y Z/\∃ac,Rv af (vA t 0) Z ac/\K (.tuple #[ac,vI X]) Z) (true/\∃Z,Ld ao (vA r 3) Y (vS Z)/\∃ac:FP [.one .str],(ai (Z==[]) (true/\∃ad,Ld ao (vA p 20) Y (vS ad)/\uS yV #[vS ad] Y λag aj=>ac ag aj) (ac Z Y))/\∀ad,aP 5 (∀ag,ac ad ag->true/\∃aj,(∀al,bW ag al->Ld ao (vA r 0) al (vS aj))/\true/\∃al,(∀an,bW ag an->Ld ao (vA r 1) an (vS al))/\∃an,(∀ar,bW ag ar->Ld ak (vA S 0) ar an)/\true/\∃ar,(∀bb,bW ag bb->Ld bu (vA r 8) bb (.bool ar))/\true/\∃bb,(∀bc,bW ag bc->Ld bu (vA r 9) bc (.bool bb))/\true/\∃bc,(∀bd,bW ag bd->Ld aJ (vA r 10) bd (vI bc))/\∃bd bj bk bo bp bq bs bx bz cb cc,(∀ce,bW ag ce->Ld aq (vA r 0) ce (hV bd bj bk bo bp bq bs bx bz cb cc))/\∃ce,(∀cf,bW ag cf->Cf yQ #[(hV bd bj bk bo bp bq bs bx bz cb cc),vI o] cf λch cj=>ch=.returned (vI ce)/\Below ag.heap.size cf cj)/\∃cf,(∀ch,bW ag ch->(Instr.build af #[(0,vS aj),(1,vS al),(2,an),(3,.bool Q),(4,vS ad),(5,.bool ar),(6,.bool bb),(7,vI bc),(8,vI ce),(9,vI o),(10,vI o)]).run prog ch=.ok cf ch)/\∀ch,bW ag ch->∃cj,Sv af (vA t 0) cf ch cj/\∃ck,Rv af (vA t 0) cj ck/\K (.tuple #[ck,vI 0]) cj))))):Cf zN #[.pointer a,b,.agg #[vS c,vS d,vS e,vS f,.bool g,vI i,.bool j,vI k,.bool l,.bool m,vI n],vI o] w (Ret K):=ru func32 [(14,[(13,.one (.int .i64))]),(20,[(36,.one .bool)]),(24,[(44,.one .bool)]),(43,[(14,.one .str)]),(2000050,[(19,.one .bool)])] h
theorem Kp (a:lU){w K}(h:nA w (.cells sn aQ) λb c=>nA c (.cells sn aQ) λd e=>∃f,Sv aQ (vA d 0) (.agg #[.bool false,vI 0,vS [],.int .u8 0,.int .u8 0,.int .u8 0,.int .u8 0,.int .u8 0,.int .u8 0,.int .u8 0,.int .u8 0,.int .u8 0,.int .u8 0,.int .u8 0,.int .u8 0,.int .u8 0,.int .u8 0,.int .u8 0,.int .u8 0,vI 80,vS []]) e f/\∃g:FP [.one .str],(∃i:FP [.one .bool],(ai (decide (((List.length a:Nat):Int) >=(7:Int))) (bd (7:Int) (((List.length a):Nat):Int)/\∀j,j=(List.take (Int.toNat 7) a)->uS df #[vS j] f λk l=>i (k==[104,116,116,112,58,47,47]) l) (i false f))/\∀j,aP 8 (∀k,i j k->ai j (bd (7:Int) (((List.length a):Nat):Int)/\∀l,l=(List.drop (Int.toNat 7) a)->g l k) (∃l:FP [.one .bool],(ai (decide (((List.length a:Nat):Int) >=(8:Int))) (bd (8:Int) (((List.length a):Nat):Int)/\∀m,m=(List.take (Int.toNat 8) a)->uS df #[vS m] k λn o=>l (n==[104,116,116,112,115,58,47,47]) o) (l false k))/\∀m,aP 8 (∀n,l m n->ai m (bd (8:Int) (((List.length a):Nat):Int)/\∀o,o=(List.drop (Int.toNat 8) a)->true/\∃p,Sv bu (vA d 0) (.bool true) n p/\true/\∃q,Sv aJ (vA d 19) (vI 443) p q/\g o q) (∃o,Sv aQ (vA b 0) (.agg sn) n o/\∃p,Rv aQ (vA b 0) o p/\K (.tuple #[p,vI 41]) o)))))/\∀i,aP 26 (∀j,g i j->uI rX #[vS i,vS [47,63,35]] j λk l=>bd k (((List.length i):Nat):Int)/\∀m,m=(List.take (Int.toNat k) i)->uI rX #[vS m,vS [58]] l λn o=>∃p:FP [.one (.int .i64)],(∃q:FP [.one .bool],(ai (decide (((List.length m:Nat):Int)>(0:Int))) (bx (0:Int) ((List.length m:Nat):Int)/\q ((bm m (0:Int))==(91:Int)) o) (q false o))/\∀r,aP 7 (∀s,q r s->ai r (uI rX #[vS m,vS [93]] s λt u=>∃v,(Builtin.min_ #[aJ,aJ] aJ #[vI (i64.wrap (t+(1:Int))),vI ((List.length m:Nat):Int)]).run prog u=.ok (vI v) u/\p v u) (p n s)))/\∀q,aP 14 (∀r,p q r->bd q (((List.length m):Nat):Int)/\∀s,s=(List.take (Int.toNat q) m)->Cf fu #[vS s] r λt u=>∃v x,t=rT #[v,vI x]/\nA u (.cells bK ak) λy z=>∃A,Sv ak (vA y 0) v z A/\bd q (((List.length m):Nat):Int)/\∀B,B=(List.drop (Int.toNat q) m)->∃C:FP [],(∃D:FP [.one .bool],(ai (x !=(0:Int)) (D true A) (ai (decide (((List.length B:Nat):Int)>(0:Int))) (bx (0:Int) ((List.length B:Nat):Int)/\D ((bm B (0:Int)) !=(58:Int)) A) (D false A)))/\∀E,aP 11 (∀F,D E F->ai E (∃G,Sv aQ (vA b 0) (.agg sn) F G/\∃H,Rv aQ (vA b 0) G H/\K (.tuple #[H,vI 31]) G) (C F)))/\aP 14 (∀D,C D->∃E,Ld ak (vA y 0) D E/\true/\∃F,Sv ak (vA d 1) E D F/\∃G:FP [],(ai (decide (((List.length B:Nat):Int)>(0:Int))) (bd (1:Int) (((List.length B):Nat):Int)/\∀H,H=(List.drop (Int.toNat 1) B)->Cf xg #[vS H] F λI J=>∃L M,I=rT #[vI L,.bool M]/\∃N:FP [.one .bool],(ai (!M) (N true J) (ai (decide (L<(1:Int))) (N true J) (N (decide (L>(65535:Int))) J)))/\∀O,aP 9 (∀P,N O P->ai O (∃Q,Sv aQ (vA b 0) (.agg sn) P Q/\∃R,Rv aQ (vA b 0) Q R/\K (.tuple #[R,vI 42]) Q) (true/\∃Q,Sv aJ (vA d 19) (vI L) P Q/\G Q))) (G F))/\aP 25 (∀H,G H->bd k (((List.length i):Nat):Int)/\∀I,I=(List.drop (Int.toNat k) i)->true/\∃J,Sv ao (vA d 20) (vS I) H J/\true/\true/\(∃L,Ld ao (vA d 20) (World.drew J) (vS L)/\∃M,Ld ao (vA d 20) (World.drew J) (vS M)/\uI rX #[vS M,vS [63,35]] (World.drew J) λN O=>bd N (((List.length L):Nat):Int)/\∀P,P=(List.take (Int.toNat N) L)->true/\∃Q,Sv ao (vA d 20) (vS P) O Q/\∃R:FP [],(true/\∃S,Ld ao (vA d 20) Q (vS S)/\ai (S==[]) (true/\∃T,Sv ao (vA d 20) (vS [47]) Q T/\R T) (R Q))/\aP 4 (∀S,R S->true/\∃T,Ld ao (vA d 20) S (vS T)/\uB pL #[vS T] S λU V=>ai (!U) (∃X,Sv aQ (vA b 0) (.agg sn) V X/\∃Y,Rv aQ (vA b 0) X Y/\K (.tuple #[Y,vI 43]) X) (∃X,Ld aQ (vA d 0) V X/\∃Y,Sv aQ (vA b 0) X V Y/\∃Z,Rv aQ (vA b 0) Y Z/\K (.tuple #[Z,vI 0]) Y)))/\∃L,Ld ao (vA d 20) (World.drew J) (vS L)/\(∃M,Ld ao (vA d 20) (World.drew J) (vS M)/\uI rX #[vS L,vS [63,35]] (World.drew J) λN O=>bd N (((List.length M):Nat):Int)/\∀P,P=(List.take (Int.toNat N) M)->true/\∃Q,Sv ao (vA d 20) (vS P) O Q/\∃R:FP [],(true/\∃S,Ld ao (vA d 20) Q (vS S)/\ai (S==[]) (true/\∃T,Sv ao (vA d 20) (vS [47]) Q T/\R T) (R Q))/\aP 4 (∀S,R S->true/\∃T,Ld ao (vA d 20) S (vS T)/\uB pL #[vS T] S λU V=>ai (!U) (∃X,Sv aQ (vA b 0) (.agg sn) V X/\∃Y,Rv aQ (vA b 0) X Y/\K (.tuple #[Y,vI 43]) X) (∃X,Ld aQ (vA d 0) V X/\∃Y,Sv aQ (vA b 0) X V Y/\∃Z,Rv aQ (vA b 0) Y Z/\K (.tuple #[Z,vI 0]) Y)))/\uI rX #[vS L,vS [63,35]] (World.drew J) λM N=>∃O,Ld ao (vA d 20) N (vS O)/\bd M (((List.length O):Nat):Int)/\∀P,P=(List.take (Int.toNat M) O)->true/\∃Q,Sv ao (vA d 20) (vS P) N Q/\∃R:FP [],(true/\∃S,Ld ao (vA d 20) Q (vS S)/\ai (S==[]) (true/\∃T,Sv ao (vA d 20) (vS [47]) Q T/\R T) (R Q))/\aP 4 (∀S,R S->true/\∃T,Ld ao (vA d 20) S (vS T)/\uB pL #[vS T] S λU V=>ai (!U) (∃X,Sv aQ (vA b 0) (.agg sn) V X/\∃Y,Rv aQ (vA b 0) X Y/\K (.tuple #[Y,vI 43]) X) (∃X,Ld aQ (vA d 0) V X/\∃Y,Sv aQ (vA b 0) X V Y/\∃Z,Rv aQ (vA b 0) Y Z/\K (.tuple #[Z,vI 0]) Y))))))):Cf Bv #[vS a] w (Ret K):=ru func38 [(6,[(5,.one .str)]),(7,[(23,.one .bool)]),(11,[(34,.one .bool)]),(28,[(8,.one (.int .i64))]),(29,[(54,.one .bool)]),(38,[]),(39,[(82,.one .bool)]),(48,[]),(55,[(104,.one .bool)]),(68,[]),(68,[]),(68,[])] h
theorem Kg (a b:Value)(c:Int){w K}(h:nA w (.cells (Value.cells a) af) λd e=>nA e (.cells (Value.cells b) aU) λf g=>true/\∃i,Ld aX (vA d 25) g (vI i)/\ai (decide (c<i)) (true/\∃j,Ld bu (vA f 0) g (.bool j)/\ai j (true/\∃k,Ld aJ (vA d 24) g (vI k)/\true/\∃l,Ld aJ (vA f 20) g (vI l)/\uB tQ #[vI k,vI l] g λm n=>ai m (true/\∃o,Ld ao (vA f 19) n (vS o)/\true/\∃p,Ld ao (vA d 21) n (vS p)/\uB uY #[vS o,vS p] n λq r=>ai q (∃s,Ld af (vA d 0) r s/\true/\∃t,Ld ak (vA f 1) r t/\uB AC #[s,t] r λu v=>K (.bool u) v) (K (.bool false) r)) (K (.bool false) n)) (true/\∃k,Ld bu (vA d 22) g (.bool k)/\ai (!k) (true/\∃l,Ld aJ (vA d 24) g (vI l)/\true/\∃m,Ld aJ (vA f 20) g (vI m)/\uB tQ #[vI l,vI m] g λn o=>ai n (true/\∃p,Ld ao (vA f 19) o (vS p)/\true/\∃q,Ld ao (vA d 21) o (vS q)/\uB uY #[vS p,vS q] o λr s=>ai r (∃t,Ld af (vA d 0) s t/\true/\∃u,Ld ak (vA f 1) s u/\uB AC #[t,u] s λv x=>K (.bool v) x) (K (.bool false) s)) (K (.bool false) o)) (K (.bool false) g))) (K (.bool false) g)):Cf Bp #[a,b,vI c] w (Ret K):=ru func43 [] h
theorem Kf (a b:Value){w K}(h:nA w (.cells (Value.cells a) af) λc d=>nA d (.cells (Value.cells b) af) λe f=>true/\∃g,Ld ao (vA c 21) f (vS g)/\true/\∃i,Ld ao (vA e 21) f (vS i)/\ai (((List.length g:Nat):Int) !=((List.length i:Nat):Int)) (true/\∃j,Ld ao (vA c 21) f (vS j)/\true/\∃k,Ld ao (vA e 21) f (vS k)/\K (.bool (decide (((List.length j:Nat):Int)>((List.length k:Nat):Int)))) f) (true/\∃j,Ld aJ (vA c 28) f (vI j)/\true/\∃k,Ld aJ (vA e 28) f (vI k)/\K (.bool (decide (j<k))) f)):Cf Bo #[a,b] w (Ret K):=ru func46 [] h
theorem Kq (a:lU){w K}(h:∃b:Nat->FP [.one (.int .i64)],(∃c,b c (0:Int) w)/\∀c d,aP 18 (∀e,b c d e->ai (decide (d<(2:Int))) (∃f,(Instr.index QW (.agg #[vI 2,vI 3]) (vI d)).run prog e=.ok (vI f) e/\uS BA #[vI f] e λg i=>Cf jU #[vS a,vS g] i λj k=>∃l m,j=rT #[vS l,.bool m]/\ai m (K (.tuple #[vI f,vS l]) k) (∃n:Nat,n<c/\b n (i64.wrap (d+(1:Int))) k)) (K (.tuple #[vI 1,vS a]) e))):Cf Bw #[vS a] w (Ret K):=ru func55 [(6,[(9,.one (.int .i64))])] h
def H9 (a:Int)(b:World)(c:VP):Prop:=ai (a==(2:Int)) (c (vS [42,46]) b) (ai (a==(3:Int)) (c (vS [33]) b) (c (vS []) b))
theorem NC (a:Int){w K}(h:H9 a w K):Cf BA #[vI a] w (Ret K):=ru func58 [] h
theorem OG (a:lU){w K}(h:∃b:FP [],(ai (a==[]) (K (.bool false) w) (ai (decide (((List.length a:Nat):Int)>(2048:Int))) (K (.bool false) w) (bx (0:Int) ((List.length a:Nat):Int)/\ai ((bm a (0:Int)) !=(47:Int)) (K (.bool false) w) (b w))))/\aP 13 (∀c,b c->∃d e f g,(convert ao bM (vS a)).run prog c=.ok (.slice e f g) d/\∃i:Nat->FP [.one (.int .i64)],(∃j,i j (0:Int) d)/\∀j k,aP 20 (∀l,i j k l->ai (decide (k<((f:Nat):Int))) ((bx k ((f:Nat):Int)/\Option.isSome e=true)/\∃m,Ld bF (aw e k 1) l (.int .u8 m)/\ai (decide (m<(33:Int))) (K (.bool false) l) (ai (decide (m>(126:Int))) (K (.bool false) l) (ai (m==(63:Int)) (K (.bool false) l) (ai (m==(35:Int)) (K (.bool false) l) (∃n:Nat,n<j/\i n (i64.wrap (k+(1:Int))) l))))) (K (.bool true) l)))):Cf Hi #[vS a] w (Ret K):=ru func61 [(2,[]),(14,[(20,.one (.int .i64))])] h
theorem J0 (a:Value)(b c d e:lU)(f:Bool)(g:Int)(i:Bool)(j:Int)(k l:Bool)(m n:Int){w K}(h:nA w (.cells (Value.cells a) aQ) λo p=>nA p (.cells #[vS b,vS c,vS d,vS e,.bool f,vI g,.bool i,vI j,.bool k,.bool l,vI m] aq) λq r=>∃s,Ld aQ (vA o 0) r s/\uB BC #[s] r λt u=>ai (!t) (K (vI 41) u) (∃v x y z A B C D E F G,Ld aq (vA q 0) u (hV v x y z A B C D E F G)/\uB Ai #[(hV v x y z A B C D E F G)] u λH I=>ai (!H) (K (vI 82) I) (ai (decide (n<(0:Int))) (K (vI 122) I) (ai (decide (n>(1099511627776:Int))) (K (vI 122) I) (K (vI 0) I))))):Cf Bg #[a,.agg #[vS b,vS c,vS d,vS e,.bool f,vI g,.bool i,vI j,.bool k,.bool l,vI m],vI n] w (Ret K):=ru func66 [] h
theorem Ix (a:Option Addr)(b:Value)(c:lU){w K}(h:nA w (.cells (Value.cells b) ak) λd e=>nA e (.cells bK ak) λf g=>ai (c==[]) (∃i,Ld ak (vA d 0) g i/\∃j,Sv ak (vA f 0) i g j/\∃k,Rv ak (vA f 0) j k/\K (.tuple #[k,.bool true,vI 0]) j) (Cf xr #[vS c] g λi j=>∃k l,i=rT #[k,vI l]/\nA j (.cells bK ak) λm n=>∃o,Sv ak (vA m 0) k n o/\∃p:FP [],(ai (l !=(0:Int)) (∃q,Ld ak (vA m 0) o q/\∃r,Sv ak (vA f 0) q o r/\∃s,Rv ak (vA f 0) r s/\K (.tuple #[s,.bool false,vI 101]) r) (∃q:FP [.one .bool],(∃r,Ld ak (vA m 0) o r/\uB lN #[.pointer a,r] o λs t=>ai s (∃u,Ld ak (vA m 0) t u/\∃v,Ld ak (vA d 0) t v/\∃x,(do eqGuard .neq ak (.tmp 28) (.tmp 29) u v;binOp .neq ak u v:Sem Value).run prog t=.ok (.bool x) t/\q x t) (q false t))/\∀r,aP 8 (∀s,q r s->ai r (∃t,Ld ak (vA m 0) s t/\∃u,Sv ak (vA f 0) t s u/\∃v,Rv ak (vA f 0) u v/\K (.tuple #[v,.bool false,vI 102]) u) (∃t,Ld ak (vA d 0) s t/\∃u,Ld ak (vA m 0) s u/\uB sF #[t,u] s λv x=>ai (!v) (∃y,Ld ak (vA m 0) x y/\∃z,Sv ak (vA f 0) y x z/\∃A,Rv ak (vA f 0) z A/\K (.tuple #[A,.bool false,vI 103]) z) (p x)))))/\aP 22 (∀q,p q->(∃r,Ld ak (vA m 0) (World.drew q) r/\∃s,Ld ak (vA m 0) (World.drew q) s/\uB lN #[.pointer a,s] (World.drew q) λt u=>∃v,Sv ak (vA f 0) r u v/\∃x,Rv ak (vA f 0) v x/\K (.tuple #[x,.bool t,vI 0]) v)/\∃r,Ld ak (vA m 0) (World.drew q) r/\(∃s,Ld ak (vA m 0) (World.drew q) s/\uB lN #[.pointer a,r] (World.drew q) λt u=>∃v,Sv ak (vA f 0) s u v/\∃x,Rv ak (vA f 0) v x/\K (.tuple #[x,.bool t,vI 0]) v)/\uB lN #[.pointer a,r] (World.drew q) λs t=>∃u,Ld ak (vA m 0) t u/\∃v,Sv ak (vA f 0) u t v/\∃x,Rv ak (vA f 0) v x/\K (.tuple #[x,.bool s,vI 0]) v))):Cf Ah #[.pointer a,b,vS c] w (Ret K):=ru func67 [(12,[]),(20,[(23,.one .bool)])] h
theorem Iw (a b c d:lU)(e:Bool)(f:Int)(g:Bool)(i:Int)(j k:Bool)(l:Int)(m:Bool){w K}(h:nA w (.cells #[vS a,vS b,vS c,vS d,.bool e,vI f,.bool g,vI i,.bool j,.bool k,vI l] aq) λn o=>true/\∃p,Ld ao (vA n 0) o (vS p)/\∃q:FP [.one .str],(ai (p==[]) (true/\∃r,Ld ao (vA n 1) o (vS r)/\q r o) (q p o))/\∀r,aP 4 (∀s,q r s->uI Af #[vS r] s λt u=>ai (t==(1:Int)) (true/\∃v,Ld bu (vA n 8) u (.bool v)/\K (.bool (!v)) u) (ai (t==(2:Int)) (true/\∃v,Ld bu (vA n 8) u (.bool v)/\ai (!v) (K (.bool true) u) (ai (!m) (K (.bool true) u) (true/\∃x,Ld ao (vA n 3) u (vS x)/\K (.bool (!(x==[47]))) u))) (K (.bool false) u)))):Cf Ag #[.agg #[vS a,vS b,vS c,vS d,.bool e,vI f,.bool g,vI i,.bool j,.bool k,vI l],.bool m] w (Ret K):=ru func68 [(4,[(5,.one .str)])] h
theorem HC (a:lU){w K}(h:uI BB #[vS a,.int .u8 47] w λb c=>∃d:FP [.one .bool],(ai (decide (b>(0:Int))) (bx (0:Int) ((List.length a:Nat):Int)/\d ((bm a (0:Int))==(47:Int)) c) (d false c))/\∀e,aP 6 (∀f,d e f->ai e (bd b (((List.length a):Nat):Int)/\∀g,g=(List.take (Int.toNat b) a)->K (vS g) f) (K (vS [47]) f))):Cf yV #[vS a] w (Ret K):=ru func69 [(5,[(12,.one .bool)])] h
theorem Hs (a b c d:lU)(e:Bool)(f:Int)(g:Bool)(i:Int)(j k:Bool)(l m:Int){w K}(h:nA w (.cells #[vS a,vS b,vS c,vS d,.bool e,vI f,.bool g,vI i,.bool j,.bool k,vI l] aq) λn o=>true/\∃p,Ld bu (vA n 6) o (.bool p)/\ai p (true/\∃q,Ld aX (vA n 7) o (vI q)/\K (vI (i64.wrap (m+q))) o) (true/\∃q,Ld bu (vA n 4) o (.bool q)/\ai q (true/\∃r,Ld aX (vA n 5) o (vI r)/\∃s,(Builtin.min_ #[aX,aX] aX #[vI r,vI (i64.wrap (m+(34560000:Int)))]).run prog o=.ok (vI s) o/\K (vI s) o) (K (vI 9223372036854775807) o))):Cf yQ #[.agg #[vS a,vS b,vS c,vS d,.bool e,vI f,.bool g,vI i,.bool j,.bool k,vI l],vI m] w (Ret K):=ru func70 [] h
theorem IE (a b:Value){w K}(h:nA w (.cells (Value.cells a) ak) λc d=>nA d (.cells (Value.cells b) ak) λe f=>∃g,Ld ak (vA c 0) f g/\∃i,Ld ak (vA e 0) f i/\∃j,(do eqGuard .eql ak (.tmp 5) (.tmp 6) g i;binOp .eql ak g i:Sem Value).run prog f=.ok (.bool j) f/\ai j (∃k,Ld ak (vA c 0) f k/\uB tP #[k] f λl m=>ai l (K (.bool true) m) (∃n,Ld ak (vA c 0) m n/\∃o,Ld ak (vA e 0) m o/\uB xt #[n,o] m λp q=>K (.bool p) q)) (∃k,Ld ak (vA c 0) f k/\∃l,Ld ak (vA e 0) f l/\uB xt #[k,l] f λm n=>K (.bool m) n)):Cf sF #[a,b] w (Ret K):=ru func73 [] h
theorem LG (a b:lU){w K}(h:Cf jU #[vS a,vS b] w λc d=>∃e f,c=rT #[vS e,.bool f]/\ai f (ai (e==[]) (K (.bool true) d) (bx (0:Int) ((List.length e:Nat):Int)/\ai ((bm e (0:Int))==(47:Int)) (K (.bool true) d) (uB yW #[vS b,vS [47]] d λg i=>K (.bool g) i))) (K (.bool false) d)):Cf uY #[vS a,vS b] w (Ret K):=ru func74 [] h
theorem LL (a b:lU){w K}(h:∃c:Nat->FP [.one (.int .i64)],(∃d,c d (0:Int) w)/\∀d e,aP 22 (∀f,c d e f->ai (decide (e<((List.length a:Nat):Int))) (∃g:Nat->FP [.one (.int .i64)],(∃i,g i (0:Int) f)/\∀i j,aP 15 (∀k,g i j k->ai (decide (j<((List.length b:Nat):Int))) (bx e ((List.length a:Nat):Int)/\bx j ((List.length b:Nat):Int)/\∀l,bW k l->ai ((bm a e)==(bm b j)) (K (vI e) l) (∃m:Nat,m<i/\g m (i64.wrap (j+(1:Int))) l)) (∃l:Nat,l<d/\c l (i64.wrap (e+(1:Int))) k))) (K (vI ((List.length a:Nat):Int)) f))):Cf rX #[vS a,vS b] w (Ret K):=ru func84 [(6,[(5,.one (.int .i64))]),(18,[(6,.one (.int .i64))])] h
theorem LK (a:lU){w K}(h:∃b:Nat->FP [.one (.int .i64)],(∃c,b c (0:Int) w)/\∀c d,aP 29 (∀e,b c d e->ai (decide (d<((List.length a:Nat):Int))) (bx d ((List.length a:Nat):Int)/\ai (decide ((bm a d)<(33:Int))) (K (.bool false) e) (bx d ((List.length a:Nat):Int)/\ai (decide ((bm a d)>(126:Int))) (K (.bool false) e) (bx d ((List.length a:Nat):Int)/\ai ((bm a d)==(63:Int)) (K (.bool false) e) (bx d ((List.length a:Nat):Int)/\ai ((bm a d)==(35:Int)) (K (.bool false) e) (∃f:Nat,f<c/\b f (i64.wrap (d+(1:Int))) e))))) (ai (decide (((List.length a:Nat):Int) >=(1:Int))) (ai (decide (((List.length a:Nat):Int) <=(2048:Int))) (bx (0:Int) ((List.length a:Nat):Int)/\K (.bool ((bm a (0:Int))==(47:Int))) e) (K (.bool false) e)) (K (.bool false) e)))):Cf pL #[vS a] w (Ret K):=ru func87 [(6,[(3,.one (.int .i64))])] h
theorem HE (a b:Int){w K}(h:ai (b==(0:Int)) (K (.bool true) w) (ai (b==(1:Int)) (K (.bool (a !=(3:Int))) w) (ai (b==(2:Int)) (K (.bool (a==(1:Int))) w) (K (.bool false) w)))):Cf tQ #[vI a,vI b] w (Ret K):=ru func94 [] h
theorem OB (a b:Value){w K}(h:nA w (.cells (Value.cells a) af) λc d=>nA d (.cells (Value.cells b) ak) λe f=>true/\∃g,Ld bu (vA c 20) f (.bool g)/\ai g (true/\∃i,Ld ak (vA c 2) f i/\∃j,Ld ak (vA e 0) f j/\∃k,(do eqGuard .eql ak (.tmp 8) (.tmp 9) i j;binOp .eql ak i j:Sem Value).run prog f=.ok (.bool k) f/\ai k (∃l,Ld ak (vA e 0) f l/\uB tP #[l] f λm n=>K (.bool m) n) (K (.bool false) f)) (∃i,Ld ak (vA e 0) f i/\true/\∃j,Ld ak (vA c 2) f j/\uB sF #[i,j] f λk l=>K (.bool k) l)):Cf AC #[a,b] w (Ret K):=ru func95 [] h
theorem BS (a:Option Addr)(b:Value){w K}(h:nA w (.cells (Value.cells b) ak) λc d=>∃e,Ld ak (vA c 0) d e/\uL jj #[e] d λf g i j=>ai (decide (((g:Nat):Int)>(0:Int))) (∃k,Ld ak (vA c 0) j k/\uI qy #[.pointer a,k] j λl m=>K (.bool (l==((g:Nat):Int))) m) (K (.bool false) j)):Cf lN #[.pointer a,b] w (Ret K):=ru func126 [] h
theorem Iv (a:lU){w K}(h:∃b:Nat->FP [.one (.int .i64)],(∃c,b c (0:Int) w)/\∀c d,aP 26 (∀e,b c d e->ai (decide (d<(3:Int))) (∃f,(Instr.index MB (.agg #[vS [],vS [95,95,115,101,99,117,114,101,45],vS [95,95,104,111,115,116,45]]) (vI d)).run prog e=.ok (vS f) e/\ai (decide (d>(0:Int))) (ai (decide (((List.length a:Nat):Int) >=((List.length f:Nat):Int))) (bd ((List.length f:Nat):Int) (((List.length a):Nat):Int)/\∀g,g=(List.take (Int.toNat ((List.length f:Nat):Int)) a)->uS o8 #[vS g] e λi j=>ai (i==f) (K (vI d) j) (∃k:Nat,k<c/\b k (i64.wrap (d+(1:Int))) j)) (∃g:Nat,g<c/\b g (i64.wrap (d+(1:Int))) e)) (∃g:Nat,g<c/\b g (i64.wrap (d+(1:Int))) e)) (K (vI 0) e))):Cf Af #[vS a] w (Ret K):=ru func127 [(6,[(6,.one (.int .i64))])] h
theorem BU (a:Option Addr)(b:Value){w K}(h:nA w (.cells (Value.cells b) ak) λc d=>∃e,Ld ak (vA c 0) d e/\uL jj #[e] d λf g i j=>∃k,(Builtin.min_ #[aJ,aJ] aJ #[vI 1,vI ((g:Nat):Int)]).run prog j=.ok (vI k) j/\∃l:FP [.one (.int .i64),.one (.int .i64)],(∃m:Nat->FP [.one (.int .i64),.one (.int .i64),.one (.int .i64),.one (.int .i64)],(∃n,m n (0:Int) k (0:Int) (1:Int) j)/\∀n o p q r,aP 56 (∀s,m n o p q r s->ai (decide (r <=((g:Nat):Int))) (∃t:FP [.one (.int .i64)],((Option.isSome a=true)/\(Option.isSome a=true)/\∃u v x,Ld gE (Option.map (λy=>y.add 1) a) s (.slice u v x)/\(bx o ((v:Nat):Int)/\Option.isSome u=true)/\(bx (2:Int) ((4:Nat):Int)/\isSome (aw u o 4))/\∃y,Ld bu (aw (aw u o 4) (2:Int) 1) s (.bool y)/\ai y (t r s) (t p s))/\∀u,aP 9 (∀v,t u v->(Option.isSome a=true)/\(Option.isSome a=true)/\∃x,(∀y,bW v y->Ld fg (Option.map (λz=>z.add 0) a) y (.map x))/\(bx (i64.wrap (((g:Nat):Int)-r)) ((g:Nat):Int)/\Option.isSome f=true)/\∃y,(∀z,bW v z->Ld ao (aw f (i64.wrap (((g:Nat):Int)-r)) 1) z (vS y))/\∃z A,(∀B,bW v B->(Instr.lookup fg (.map x) (.agg #[vI o,vS y]) true).run prog B=.ok (.tuple #[vI z,.bool A]) B)/\∀B,bW v B->ai (!A) (l u q B) (∃C:FP [.one (.int .i64)],((Option.isSome a=true)/\(Option.isSome a=true)/\∃D E F,Ld gE (Option.map (λG=>G.add 1) a) B (.slice D E F)/\(bx z ((E:Nat):Int)/\Option.isSome D=true)/\(bx (1:Int) ((4:Nat):Int)/\isSome (aw D z 4))/\∃G,Ld bu (aw (aw D z 4) (1:Int) 1) B (.bool G)/\ai G (C r B) (C u B))/\∀D,aP 9 (∀E,C D E->(Option.isSome a=true)/\(Option.isSome a=true)/\∃F G H,Ld gE (Option.map (λI=>I.add 1) a) E (.slice F G H)/\(bx z ((G:Nat):Int)/\Option.isSome F=true)/\(bx (3:Int) ((4:Nat):Int)/\isSome (aw F z 4))/\∃I,Ld bu (aw (aw F z 4) (3:Int) 1) E (.bool I)/\ai I (∃J:Nat,J<n/\m J z D (i64.wrap (r-(1:Int))) (i64.wrap (r+(1:Int))) E) (∃J:Nat,J<n/\m J z D q (i64.wrap (r+(1:Int))) E))))) (l p q s)))/\∀m n,aP 58 (∀o,l m n o->ai (decide (n>(0:Int))) (K (vI n) o) (K (vI m) o))):Cf qy #[.pointer a,b] w (Ret K):=ru func132 [(6,[(7,.one (.int .i64)),(8,.one (.int .i64))]),(10,[(6,.one (.int .i64)),(7,.one (.int .i64)),(8,.one (.int .i64)),(9,.one (.int .i64))]),(19,[(7,.one (.int .i64))]),(35,[(7,.one (.int .i64))])] h
set_option maxRecDepth 20000
def FC (c:UInt8):Bool:= !(decide (((c.toNat:Nat):Int)<33) || (decide (((c.toNat:Nat):Int)>126) || (c==63 || c==35)))
def Gt (s:List UInt8):Bool:=decide (s.head?=some 47)&&(decide (s.length <=2048)&&s.all FC)
structure Url where
 sec:Bool
 host:Hst
 port:Int
 path:List UInt8
def Url.cells (u:Url):List Value:=.bool u.sec::(u.host.cells++[vI u.port,vS u.path])
def Url.v (u:Url):Value:=.agg u.cells.toArray
def Ex:Url:=⟨false,nG,0,[]⟩
def Url.ok (u:Url):Prop:=u.host.ok
theorem Url.len {u:Url}(o:u.ok):u.cells.length=21:=by unfold Url.cells;rw[List.length_cons,List.length_append,Hst.len o];rfl
theorem Url.one (u:Url):Ie u.cells:=aR rfl (Db (Hst.one _) (aR rfl (aR rfl di)))
theorem nq {u:Url}(o:u.ok)(h:j<18):u.cells[1+j]? =u.host.cells[j]? :=by
 unfold Url.cells
 rw[Nat.add_comm,List.getElem?_cons_succ,List.getElem?_append_left (by rw[Hst.len o];exact h)]
theorem uM {u:Url}(o:u.ok):u.cells[19]? =some (vI u.port):=by
 unfold Url.cells
 rw[List.getElem?_cons_succ,List.getElem?_append_right (by rw[Hst.len o];exact Nat.le_refl _),Hst.len o];rfl
theorem rG {u:Url}(o:u.ok):u.cells[20]? =some (vS u.path):=by
 unfold Url.cells
 rw[List.getElem?_cons_succ,List.getElem?_append_right (by rw[Hst.len o];decide),Hst.len o];rfl
theorem UT (u:Url)(b:Bool):u.cells.set 0 (.bool b)=({ u with sec:=b } :Url).cells:=rfl
theorem OR {u:Url}(o:u.ok)(n:Int):u.cells.set 19 (vI n)=({ u with port:=n } :Url).cells:=by
 unfold Url.cells
 rw[List.set_cons_succ,List.set_append_right _ _ (by rw[Hst.len o];exact Nat.le_refl _),Hst.len o];rfl
theorem KF {u:Url}(o:u.ok)(p:List UInt8):u.cells.set 20 (vS p)=({ u with path:=p } :Url).cells:=by
 unfold Url.cells
 rw[List.set_cons_succ,List.set_append_right _ _ (by rw[Hst.len o];decide),Hst.len o];rfl
theorem UU {u:Url}(o:u.ok)(h:Hst):u.cells.take 1++h.cells++u.cells.drop (1+18)=({ u with host:=h } :Url).cells:=by
 unfold Url.cells
 rw[show 1+18=18+1 from rfl,List.drop_succ_cons,List.drop_append_of_le_length (by rw[Hst.len o];exact Nat.le_refl _),List.drop_of_length_le (by rw[Hst.len o];exact Nat.le_refl _)];rfl
def nB (u:Url):Bool:=dO u.host&&(decide (u.port >=1)&&(decide (u.port <=65535)&&Gt u.path))
def vy (p s:List UInt8):Nat:=(s.takeWhile λc=> !p.contains c).length
theorem Gd (p s:List UInt8):vy p s <=s.length:=bN _ _
def WK (s:List UInt8):Option (List UInt8×Bool):=
 if cN (s.take 7)=[104,116,116,112,58,47,47]then some (s.drop 7,false)else if cN (s.take 8)=[104,116,116,112,115,58,47,47]then some (s.drop 8,true)else none
def zl (p:List UInt8):Nat:=if p.head?=some 91 then min (vy [93] p+1) p.length else vy [58] p
theorem Ts (p:List UInt8):zl p <=p.length:=by
 unfold zl
 split
 ·omega
 ·exact Gd _ _
def M4 (p:List UInt8):Option Hst:=if p.drop (zl p)≠[]/\(p.drop (zl p)).head?≠some 58 then none else dR (p.take (zl p))
def Ry (sec:Bool)(b:List UInt8):Option Int:=if b=[]then some (if sec then 443 else 80)else if JU (b.drop 1)/\1 <=jT (b.drop 1)/\jT (b.drop 1) <=65535 then some (jT (b.drop 1))else none
def JX (r:List UInt8):List UInt8:=if r.take (vy [63,35] r)=[]then[47]else r.take (vy [63,35] r)
def WL (r:List UInt8)(sec:Bool):Url×Int:=
 match M4 (r.take (vy [47,63,35] r))with
 |none=>(Ex,31)
 |some h=>match Ry sec ((r.take (vy [47,63,35] r)).drop (zl (r.take (vy [47,63,35] r))))with
  |none=>(Ex,42)
  |some n=>if Gt (JX (r.drop (vy [47,63,35] r)))=true then(⟨sec,h,n,JX (r.drop (vy [47,63,35] r))⟩,0)else(Ex,43)
def Mr (s:List UInt8):Url×Int:=match WK s with
 |none=>(Ex,41)
 |some (r,b)=>WL r b
theorem Up {p:List UInt8}{h:Hst}(e:M4 p=some h):h.ok:=by
 unfold M4 at e
 split at e
 ·cases e
 ·exact mg e
theorem Wr (r:List UInt8)(b:Bool):(WL r b).1.ok:=by
 unfold WL
 split
 ·rfl
 ·rename_i h e
  split
  ·rfl
  ·split
   ·exact Up e
   ·rfl
theorem Ws (s:List UInt8):(Mr s).1.ok:=by
 unfold Mr
 split
 ·rfl
 ·exact Wr _ _
theorem QH (e:k<s.length)(h:FC s[k]=false):Gt s=false:=by
 have:s.all FC=false:=by
  rw[Bool.eq_false_iff];intro q;rw[List.all_eq_true.1 q _ (List.getElem_mem e)]at h;cases h
 unfold Gt;rw[this,Bool.and_false,Bool.and_false]
theorem Mj (c:UInt8)(q:Prop)(H:q){I N:Prop}(U:FC c=true->I)(E:FC c=false->N):
 ai (decide (((c.toNat:Nat):Int)<33)) N (q/\ai (decide (((c.toNat:Nat):Int)>126)) N (q/\ai (((c.toNat:Nat):Int)==(63:Int)) N (q/\ai (((c.toNat:Nat):Int)==(35:Int)) N I))):=by
 have O:=fq c 63
 have M:=fq c 35
 rw[show(((63:UInt8).toNat:Nat):Int)=63 from rfl]at O
 rw[show(((35:UInt8).toNat:Nat):Int)=35 from rfl]at M
 rw[O,M]
 refine ai.of (λh=>E ?_) (λh=>⟨H,ai.of (λe=>E ?_) (λe=>⟨H,ai.of (λD=>E ?_) (λD=>⟨H,ai.of (λG=>E ?_) (λG=>U ?_)⟩)⟩)⟩)
 ·unfold FC;rw[h];rfl
 ·unfold FC;rw[h,e];rfl
 ·unfold FC;rw[h,e,D];rfl
 ·unfold FC;rw[h,e,D,G];rfl
 ·unfold FC;rw[h,e,D,G];rfl
theorem PC (c:UInt8){e N:Prop}(D:FC c=true->e)(q:FC c=false->N):
 ai (decide (((c.toNat:Nat):Int)<33)) N (ai (decide (((c.toNat:Nat):Int)>126)) N (ai (((c.toNat:Nat):Int)==(63:Int)) N (ai (((c.toNat:Nat):Int)==(35:Int)) N e))):=by
 have:=Mj c True trivial D q
 simpa only[true_and]using this
theorem nf:Whl prog aQ 21:=⟨⟨_,_,RF⟩,by kernel_rfl⟩
theorem PU (s:List UInt8)(w:World):Cf Hi #[vS s] w (Ret λv w'=>v=.bool (Gt s)/\bW w w'):=by
 apply OG
 refine iY (w:=w) (s.head?=some 47/\s.length <=2048) ?_ ?_
 ·refine ai.of (λh=>⟨?_,Below.refl _ _⟩) (λh=>?_)
  ·have:s=[]:=by simpa using h
   subst this;rfl
  have ac:s≠[]:=by simpa using h
  have q:0<s.length:=List.length_pos_iff.2 ac
  have e:s.head?=some s[0]:=by rw[List.head?_eq_getElem?,List.getElem?_eq_getElem q]
  refine ai.of (λh=>⟨?_,Below.refl _ _⟩) (λZ=>⟨⟨by decide,by omega⟩,?_⟩)
  ·unfold Gt;rw[decide_eq_false (p:=s.length <=2048) (by simp at h;omega),Bool.false_and,Bool.and_false]
  have M:=byte_at (s:=s) (k:=0) q
  rw[show((0:Nat):Int)=0 from rfl]at M
  have U:=fq s[0] 47
  rw[show(((47:UInt8).toNat:Nat):Int)=47 from rfl]at U
  simp only[bne,M,U]
  refine ai.of (λE=>⟨?_,Below.refl _ _⟩) (λE=>⟨trivial,?_,by simp at Z;omega⟩)
  ·unfold Gt;rw[e,decide_eq_false (p:=some s[0]=some 47) (by simpa using E),Bool.false_and]
  ·rw[e];simpa using E
 ·rintro⟨e,q⟩
  have ag:Gt s=s.all FC:=by unfold Gt;rw[decide_eq_true e,decide_eq_true q,Bool.true_and,Bool.true_and]
  obtain⟨Y,a,n,c,aj,I,O,an⟩:=DO (P:=prog) ax fF dm w s (by omega) NoB
  have ad:=I.len
  subst ad
  refine⟨Y,a,_,c,aj,?_⟩
  refine⟨λm i w'=>∃k:Nat,k <=s.length/\i=(k:Int)/\m=s.length-k/\(s.take k).all FC=true/\w'=Y,⟨_,0,by omega,rfl,rfl,rfl,rfl⟩,?_⟩
  intro m i
  refine aP.of ?_ _
  rintro w' ⟨k,ar,rfl,rfl,H,X⟩
  rw[X];clear X
  refine ai.of (λh=>?_) (λh=>?_) <;> simp only[dTx,dFx]at h
  ·have D:k<s.length:=by omega
   obtain⟨v,V,al⟩:=I.all.load1 (i:=(k:Int)) dm rfl rfl (by simpa using D)
   have:=Mq al
   subst this
   simp only[Int.toNat_natCast]at V
   refine⟨⟨⟨by omega,h⟩,I.all.isSome D⟩,_,V,PC _ (λG=>?_) (λG=>⟨by rw[QH D G],O⟩)⟩
   exact⟨s.length-(k+1),by omega,k+1,by omega,by rw[wrap_i64 (by omega) (by omega)];omega,rfl,by rw[List.take_succ_eq_append_getElem D,List.all_append,H];simp[G],rfl⟩
  ·have:k=s.length:=by omega
   subst this
   rw[List.take_length]at H
   exact⟨by rw[ag,H],O⟩
theorem uc (s:List UInt8)(X:s.length <=9223372036854775800)(w:World):Cf pL #[vS s] w (Ret λv w'=>v=.bool (Gt s)/\w'=w):=by
 apply LK
 refine⟨λm i w'=>∃k:Nat,k <=s.length/\i=(k:Int)/\m=s.length-k/\(s.take k).all FC=true/\w'=w,⟨_,0,by omega,rfl,rfl,rfl,rfl⟩,?_⟩
 intro m i
 refine aP.of ?_ _
 rintro w' ⟨k,V,rfl,rfl,D,U⟩
 rw[U];clear U
 refine ai.of (λh=>?_) (λh=>?_) <;> simp only[dTx,dFx]at h
 ·have q:k<s.length:=by omega
  rw[byte_at q]
  have I:(0 <=(k:Int)/\(k:Int)<((s.length:Nat):Int)):=⟨by omega,h⟩
  refine⟨I,Mj _ _ I (λe=>?_) (λe=>⟨by rw[QH q e],rfl⟩)⟩
  exact⟨s.length-(k+1),by omega,k+1,by omega,by rw[wrap_i64 (by omega) (by omega)];omega,rfl,by rw[List.take_succ_eq_append_getElem q,List.all_append,D];simp[e],rfl⟩
 ·have:k=s.length:=by omega
  subst this
  rw[List.take_length]at D
  unfold Gt
  rw[D,Bool.and_true]
  refine ai.of (λE=>?_) (λE=>⟨?_,rfl⟩) <;> simp only[ge_iff_le,dTx,dFx]at E
  ·refine ai.of (λG=>?_) (λG=>⟨?_,rfl⟩) <;> simp only[dTx,dFx]at G
   ·have M:0<s.length:=by omega
    have H:=byte_at (s:=s) (k:=0) M
    rw[show((0:Nat):Int)=0 from rfl]at H
    have O:=fq s[0] 47
    rw[show(((47:UInt8).toNat:Nat):Int)=47 from rfl]at O
    refine⟨⟨by decide,by omega⟩,?_,rfl⟩
    rw[H,O,decide_eq_true (p:=s.length <=2048) (by omega),Bool.and_true,List.head?_eq_getElem?,List.getElem?_eq_getElem M]
    congr 1
    rw[Bool.eq_iff_iff];simp
   ·rw[decide_eq_false (p:=s.length <=2048) (by omega),Bool.and_false]
  ·have:s=[]:=List.length_eq_zero_iff.1 (by omega)
   subst this;rfl
theorem yy (s p:List UInt8)(aj:s.length <=9223372036854775800)(ag:p.length <=9223372036854775800)(w:World):Cf rX #[vS s,vS p] w (Ret λv w'=>v=vI ((vy p s:Nat):Int)/\bW w w'):=by
 apply LL
 refine⟨λm i w'=>∃k:Nat,k <=s.length/\i=(k:Int)/\m=s.length-k/\k <=vy p s/\bW w w',⟨_,0,by omega,rfl,rfl,Nat.zero_le _,Below.refl _ _⟩,?_⟩
 intro m i
 refine aP.of ?_ _
 rintro ar ⟨k,M,rfl,ac,U,I⟩
 refine ai.of (λh=>?_) (λh=>?_) <;> simp only[dTx,dFx]at h
 ·have O:k<s.length:=by omega
  have V:=na (λc=> !p.contains c) s k O U
  refine⟨λm i w'=>∃j:Nat,j <=p.length/\i=(j:Int)/\m=p.length-j/\(p.take j).contains s[k]=false/\bW w w',⟨_,0,by omega,rfl,rfl,rfl,I⟩,?_⟩
  intro an al
  refine aP.of ?_ _
  rintro a0 ⟨j,Z,rfl,ad,q,G⟩
  refine ai.of (λE=>?_) (λE=>?_) <;> simp only[dTx,dFx]at E
  ·have H:j<p.length:=by omega
   rw[byte_at O,byte_at H,fq]
   refine⟨⟨by omega,h⟩,⟨by omega,E⟩,λa8 Y=>?_⟩
   have hB:=ah G Y G.size
   refine ai.of (λe=>⟨?_,hB⟩) (λe=>?_)
   ·have X:p.contains s[k]=true:=by rw[List.contains_iff_mem,eq_of_beq e];exact List.getElem_mem H
    have: ¬ k<(s.takeWhile λc=> !p.contains c).length:=λM=>by have:=V.2 M;rw[X]at this;cases this
    have D:vy p s=k:=by unfold vy at U ⊢;omega
    rw[D]
   ·refine⟨p.length-(j+1),by omega,j+1,by omega,by rw[wrap_i64 (by omega) (by omega)];omega,rfl,?_,hB⟩
    rw[List.take_succ_eq_append_getElem H]
    simp only[List.contains_eq_mem,dFx,List.mem_append,List.mem_singleton]at q ⊢
    rintro(hx|hx)
    ·exact q hx
    ·rw[hx]at e;simp at e
  ·have:j=p.length:=by omega
   subst this
   rw[List.take_length]at q
   have:k<vy p s:=V.1 (by rw[q];rfl)
   exact⟨s.length-(k+1),by omega,k+1,by omega,by rw[wrap_i64 (by omega) (by omega)];omega,rfl,by omega,G⟩
 ·have:=Gd p s
  have D:vy p s=s.length:=by omega
  exact⟨by rw[D],I⟩
theorem H0 {u:Url}(o:u.ok)(Z:u.host.name.length <=1000000000)(w:World)(V:Env w):Cf BC #[u.v] w (Ret λv w'=>v=.bool (nB u)/\bW w w'):=by
 apply NF
 intro ac I Y O
 have H:=(O▸au w _:bW w I)
 have h1:av I ac aQ u.cells:=av.new Y O
 refine⟨rfl,_,aO.load h1 (i:=1) (us:=u.host.cells) (Hst.len o) (λj X=>nq o X),?_⟩
 refine az (vz o Z I (V.step H)) ?_
 rintro _ ad ⟨rfl,M⟩
 have q:=ah H M H.size
 have G:=h1.below M
 refine⟨_,rfl,?_⟩
 unfold nB
 refine ai.of (λe=>?_) (λe=>⟨by rw[e];rfl,q⟩)
 refine⟨rfl,_,G.load1 br rfl (uM o),ai.of (λD=>?_) (λD=>⟨by rw[e,D];rfl,q⟩)⟩
 refine⟨rfl,_,G.load1 br rfl (uM o),ai.of (λE=>?_) (λE=>⟨by rw[e,D,E];rfl,q⟩)⟩
 refine⟨rfl,_,G.load1 ax rfl (rG o),?_⟩
 refine az (PU _ ad) ?_
 rintro _ ag ⟨rfl,U⟩
 exact⟨_,rfl,by rw[e,D,E];rfl,ah q U q.size⟩
structure StU (w0:World)(t:TypeId)(k2 k4:Nat)(u:Url)(w:World):Prop where
 h4:av w k4 t u.cells
 h2:av w k2 t Ex.cells
 hb:bW w0 w
 hne:k2≠k4
 hk4:w0.heap.size <=k4
 hk2:w0.heap.size <=k2
 ho:u.ok
theorem StU.below {w0:World}{u:Url}{w w':World}(S:StU w0 t n m u w)(e:bW w w'):StU w0 t n m u w':=
 ⟨S.h4.below e,S.h2.below e,ah S.hb e S.hb.size,S.hne,S.hk4,S.hk2,S.ho⟩
theorem StU.put {x:TypeId}{bytes:Nat}{z:Value}(M:TF P x 1 bytes z){w0:World}{u e:Url}(S:StU w0 t n m u w)
 {v:Value} (H:i<21) (h1:v.oneCell'=true) (G:v.cells= #[v]) (D:u.cells.set i v=e.cells) (o:e.ok):
 ∃wx,(Instr.storeAt x (.pointer (some ⟨m,i,none⟩)) v).run P w=.ok () wx/\StU w0 t n m e wx:=by
 obtain⟨wx,I,E,q⟩:=S.h4.put M (i:=i) (v:=v) (by rw[Url.len S.ho];exact H) h1 G
 exact⟨wx,I,D▸E,S.h2.grown q (bw S.hne),Below.put S.hb q S.hk4,S.hne,S.hk4,S.hk2,o⟩
theorem StU.putH {x:TypeId}(E:Whl P x 18){w0:World}{u:Url}(S:StU w0 t n m u w){h:Hst}(o:h.ok):
 ∃wx,(Instr.storeAt x (.pointer (some ⟨m,1,none⟩)) h.v).run P w=.ok () wx/\StU w0 t n m { u with host:=h } wx:=by
 obtain⟨wx,D,e,q⟩:=E.store (Hst.len o) (Hst.one h) S.h4 (i:=1) (by rw[Url.len S.ho];decide)
 rw[UU S.ho]at e
 exact⟨wx,D,e,S.h2.grown q (bw S.hne),Below.put S.hb q S.hk4,S.hne,S.hk4,S.hk2,o⟩
def X7 (x:Url×Int):Value:=.tuple #[x.1.v,vI x.2]
theorem Xu {s p:List UInt8}(h:cN s=p):s.length=p.length:=by rw[<- h];simp[cN]
def I5 (s:List UInt8)(w:World)(v:Value)(w':World):Prop:=v=X7 (Mr s)/\bW w w'
theorem Lh (s:List UInt8)(ef:s.length <=90000000)(w:World):Cf Bv #[vS s] w (Ret (I5 s w)):=by
 apply Kp
 intro e ce ck cb
 have bj:=(cb▸au w _:bW w ce)
 have X:av ce e aQ Ex.cells:=av.new ck cb
 refine nf.new (zs:=Ex.cells) (cs:=({ Ex with port:=80 } :Url).cells) rfl rfl (Url.one _) ce λG w4 dd ch b4=>?_
 have de:=X.lt
 have S0:StU w aQ e G { Ex with port:=80 } w4:=⟨ch,X.below b4,ah bj b4 bj.size,by omega,by have:=bj.size;omega,by omega,rfl⟩
 clear bj X ch b4 de ck cb dd
 have ag:∀{U:World} {u:Url} {H:Int},StU w aQ e G u U->Mr s=(Ex,H)->
  ∃wy,(Instr.storeAt aQ (.pointer (some ⟨e,0,none⟩)) (.agg sn)).run prog U=.ok () wy/\∃O:Value,(aI aQ (.pointer (some ⟨e,0,none⟩))).run prog wy=.ok O wy/\I5 s w (.tuple #[O,vI H]) wy:=fun{U u H} S b7=>
  nf.fin (K:=λO wy=>I5 s w (.tuple #[O,vI H]) wy) (cs:=Ex.cells) rfl (Url.one _) S.h2 rfl S.hb S.hk2 λwy M=>⟨by rw[b7];rfl,M⟩
 have d5:∀b:Bool,(Value.bool b).cells= #[Value.bool b]:=λ_=>rfl
 refine⟨λr w'=>∃b,WK s=some (r,b)/\StU w aQ e G { Ex with sec:=b,port:=if b then 443 else 80 } w',?_,?_⟩
 ·refine qs (λb w'=>b=decide (cN (s.take 7)=[104,116,116,112,58,47,47])/\StU w aQ e G { Ex with port:=80 } w') ?_ ?_
  ·refine ai.of (λh=>⟨⟨by decide,by simpa using h⟩,?_⟩) (λh=>⟨?_,S0⟩)
   ·rintro _ rfl
    refine az (cZ _ (by simp;omega) w4) ?_
    rintro _ bq ⟨rfl,c4⟩
    refine⟨_,rfl,?_,S0.below c4⟩
    rw[Bool.eq_iff_iff,beq_iff_eq,dTx];rfl
   ·rw[eq_comm,dFx]
    intro Z
    have:=Xu Z
    simp at this h;omega
  ·rintro b bq ⟨rfl,an⟩
   refine ai.of (λh=>?_) (λh=>?_)
   ·rw[dTx]at h
    have E:=Xu h
    refine⟨⟨by decide,by simp at E;omega⟩,?_⟩
    rintro _ rfl
    exact⟨false,by unfold WK;rw[if_pos h];rfl,an⟩
   ·have cj: ¬ cN (s.take 7)=[104,116,116,112,58,47,47]:=of_decide_eq_false h
    clear h
    refine qs (λb w'=>b=decide (cN (s.take 8)=[104,116,116,112,115,58,47,47])/\StU w aQ e G { Ex with port:=80 } w') ?_ ?_
    ·refine ai.of (λh=>⟨⟨by decide,by simpa using h⟩,?_⟩) (λh=>⟨?_,an⟩)
     ·rintro _ rfl
      refine az (cZ _ (by simp;omega) bq) ?_
      rintro _ cf ⟨rfl,b5⟩
      refine⟨_,rfl,?_,an.below b5⟩
      rw[Bool.eq_iff_iff,beq_iff_eq,dTx];rfl
     ·rw[eq_comm,dFx]
      intro Z
      have:=Xu Z
      simp at this h;omega
    ·rintro b cf ⟨rfl,bb⟩
     refine ai.of (λh=>?_) (λh=>?_)
     ·rw[dTx]at h
      have E:=Xu h
      refine⟨⟨by decide,by simp at E;omega⟩,?_⟩
      rintro _ rfl
      obtain⟨bs,ds,ar⟩:=bb.put (P:=prog) jY (i:=0) (v:=.bool true) (by decide) rfl rfl (UT _ true) rfl
      refine⟨rfl,bs,ds,rfl,?_⟩
      obtain⟨bz,d0,b0⟩:=ar.put (P:=prog) fk (i:=19) (v:=vI 443) (by decide) rfl rfl (OR ar.ho 443) rfl
      exact⟨bz,d0,true,by unfold WK;rw[if_neg cj,if_pos h];rfl,b0⟩
     ·exact ag bb (by unfold Mr WK;rw[if_neg cj,if_neg (of_decide_eq_false h)])
 ·intro r
  refine aP.of ?_ _
  rintro bq ⟨sec,Y,an⟩
  have ee:r.length <=s.length:=by
   unfold WK at Y
   split at Y
   ·cases Y;simp
   split at Y
   ·cases Y;simp
   ·cases Y
  have hV:Mr s=WL r sec:=by unfold Mr;rw[Y]
  rw[hV]at ag
  have c1:∀{U:World} {u:Url},StU w aQ e G u U->WL r sec=(u,0)->∃v:Value,(Instr.loadAt aQ (.pointer (some ⟨G,0,none⟩))).run prog U=.ok v U/\
   ∃wy,(Instr.storeAt aQ (.pointer (some ⟨e,0,none⟩)) v).run prog U=.ok () wy/\∃O:Value,(aI aQ (.pointer (some ⟨e,0,none⟩))).run prog wy=.ok O wy/\I5 s w (.tuple #[O,vI 0]) wy:=fun{U u} S b7=>
   ⟨u.v,nf.load0 S.h4 (Url.len S.ho),nf.fin (K:=λO wy=>I5 s w (.tuple #[O,vI 0]) wy) (cs:=u.cells) (Url.len S.ho) (Url.one _) S.h2 rfl S.hb S.hk2 λwy M=>⟨by rw[hV,b7];rfl,M⟩⟩
  clear Y S0
  refine az (yy r [47,63,35] (by omega) (by decide) bq) ?_
  rintro _ cf ⟨rfl,b5⟩
  have bb:=an.below b5
  have d6:=Gd [47,63,35] r
  refine⟨_,rfl,⟨by omega,by omega⟩,?_⟩
  rw[Int.toNat_natCast]
  have I:WL r sec=match M4 (r.take (vy [47,63,35] r))with
   |none=>(Ex,31)
   |some h=>match Ry sec ((r.take (vy [47,63,35] r)).drop (zl (r.take (vy [47,63,35] r))))with
    |none=>(Ex,42)
    |some n=>if Gt (JX (r.drop (vy [47,63,35] r)))=true then(⟨sec,h,n,JX (r.drop (vy [47,63,35] r))⟩,0)else(Ex,43):=rfl
  have dk:(r.take (vy [47,63,35] r)).length <=s.length:=by simp;omega
  intro p cl
  rw[<- cl]at I dk
  clear cl
  refine az (yy p [58] (by omega) (by decide) cf) ?_
  rintro _ bs ⟨rfl,c5⟩
  have ar:=bb.below c5
  refine⟨_,rfl,?_⟩
  refine⟨λn w'=>n=((zl p:Nat):Int)/\StU w aQ e G { Ex with sec:=sec,port:=if sec then 443 else 80 } w',?_,?_⟩
  ·refine eJ (w:=bs) (decide (p.head?=some 91)) ?_ ?_
   ·refine ai.of (λh=>⟨⟨by decide,by simpa using h⟩,rfl,?_⟩) (λh=>⟨rfl,?_⟩)
    ·have E:0<p.length:=by simpa using h
     have M:=byte_at (s:=p) (k:=0) E
     rw[show((0:Nat):Int)=0 from rfl]at M
     have a8:=fq p[0] 91
     rw[show(((91:UInt8).toNat:Nat):Int)=91 from rfl]at a8
     rw[M,a8,List.head?_eq_getElem?,List.getElem?_eq_getElem E,Bool.eq_iff_iff];simp
    ·have:p=[]:=by
      simp only[gt_iff_lt,dFx]at h
      exact List.length_eq_zero_iff.1 (by omega)
     subst this;rfl
   ·refine ai.of (λh=>?_) (λh=>⟨?_,ar⟩)
    ·refine az (yy p [93] (by omega) (by decide) bs) ?_
     rintro _ bz ⟨rfl,c6⟩
     have d8:=Gd [93] p
     refine⟨_,rfl,_,run_min_int2 _ _ _ _ _ _ _,?_,ar.below c6⟩
     unfold zl
     rw[if_pos (of_decide_eq_true h),wrap_i64 (by omega) (by omega)]
     omega
    ·unfold zl;rw[if_neg (of_decide_eq_false h)]
  ·intro n
   refine aP.of ?_ _
   rintro bz ⟨rfl,b0⟩
   have eb:=Ts p
   refine⟨⟨by omega,by omega⟩,?_⟩
   rw[Int.toNat_natCast]
   have al:M4 p=if p.drop (zl p)≠[]/\(p.drop (zl p)).head?≠some 58 then none else dR (p.take (zl p)):=rfl
   have c9:(p.take (zl p)).length <=s.length:=by simp;omega
   intro c Z
   rw[<- Z]at al c9
   clear Z
   refine az (fB c (by omega) bz) ?_
   rintro _ d4 ⟨rfl,c7⟩
   have cu:=b0.below c7
   have a0:=rf λx D=>mg (s:=c) D
   rw[lS]
   refine⟨_,_,rfl,?_⟩
   refine aO.new (zs:=nG.cells) (cs:=((dR c).getD nG).cells) rfl (Hst.len a0) (Hst.one _) d4 λei ct ea b1 c2=>?_
   have S10:=cu.below c2
   refine⟨⟨by omega,by omega⟩,?_⟩
   have c8:(p.drop (zl p)).length <=s.length:=by simp;omega
   intro q cn
   rw[<- cn]at I al c8
   clear cn
   refine cw (λw'=>w'=ct/\∃h,dR c=some h/\M4 p=some h) ?_ ?_
   ·refine eJ (w:=ct) (decide (M4 p=none)) ?_ ?_
    ·have Z:∀(aj:dR c=none),M4 p=none:=λaj=>by rw[al,aj];split <;> rfl
     refine ai.of (λh=>⟨rfl,?_⟩) (λh=>ai.of (λX=>⟨⟨by decide,by simpa using X⟩,rfl,?_⟩) (λX=>⟨rfl,?_⟩))
     ·have:dR c=none:=by
       cases ac:dR c with
       |none=>rfl
       |some x=>rw[ac]at h;cases h
      rw[decide_eq_true (Z this)]
     all_goals
      have ac:dR c≠none:=λac=>by rw[ac]at h;cases h
     ·have E:0<q.length:=by simpa using X
      have M:=byte_at (s:=q) (k:=0) E
      rw[show((0:Nat):Int)=0 from rfl]at M
      have a8:=fq q[0] 58
      rw[show(((58:UInt8).toNat:Nat):Int)=58 from rfl]at a8
      have dg:q≠[]:=List.length_pos_iff.1 E
      have dc:q.head?=some q[0]:=by rw[List.head?_eq_getElem?,List.getElem?_eq_getElem E]
      have H:((bm q 0) !=(58:Int))= !(q[0]==58):=by rw[M];show(!_)=_;rw[a8]
      rw[H,al,dc]
      by_cases c:q[0]=58
      ·rw[if_neg (by rintro⟨-,D⟩;exact D (by rw[c])),decide_eq_false ac,c];rfl
      ·rw[if_pos ⟨dg,λD=>c (Option.some.inj D)⟩,beq_eq_false_iff_ne.2 c];rfl
     ·have:q=[]:=by
       simp only[gt_iff_lt,dFx]at X
       exact List.length_eq_zero_iff.1 (by omega)
      rw[al,if_neg (λD=>D.1 this),decide_eq_false ac]
    ·refine ai.of (λh=>?_) (λh=>⟨rfl,?_⟩)
     ·exact ag S10 (by rw[I,of_decide_eq_true h])
     ·have b8:=of_decide_eq_false h
      cases ad:M4 p with
      |none=>exact absurd ad b8
      |some x=>
       refine⟨x,?_,rfl⟩
       rw[al]at ad
       split at ad
       ·cases ad
       ·exact ad
   ·rintro ek ⟨rfl,h,ac,ad⟩
    rw[ad]at I
    rw[ac]at b1 a0
    simp only[Option.getD_some]at b1 a0
    refine⟨_,aO.load0 b1 (Hst.len a0),rfl,?_⟩
    obtain⟨bp,dl,S12⟩:=S10.putH (P:=prog) aO a0
    refine⟨bp,dl,?_⟩
    refine cw (λw'=>∃n,Ry sec q=some n/\StU w aQ e G ⟨sec,h,n,[]⟩ w') ?_ ?_
    ·refine ai.of (λaj=>?_) (λaj=>?_)
     ·have E:0<q.length:=by simpa using aj
      refine⟨⟨by decide,by omega⟩,?_⟩
      intro d b6
      rw[show Int.toNat 1=1 from rfl]at b6
      have d7:d.length <=q.length:=by rw[b6];simp
      have b2:Ry sec q=if JU d/\1 <=jT d/\jT d <=65535 then some (jT d)else none:=by unfold Ry;rw[if_neg (List.length_pos_iff.1 E),<- b6]
      refine az (Dd d (by omega) bp) ?_
      rintro _ d2 ⟨rfl,cp⟩
      rw[cp];clear cp
      by_cases bc:JU d
      ·rw[if_pos bc]
       refine⟨_,_,rfl,?_⟩
       refine eJ (w:=bp) (decide (¬ (1 <=jT d/\jT d <=65535))) ?_ ?_
       ·refine ai.no rfl (ai.of (λV=>⟨rfl,?_⟩) (λV=>⟨rfl,?_⟩))
        ·rw[eq_comm,dTx];simp at V;omega
        ·rw[Bool.eq_iff_iff,dTx,dTx];simp at V;omega
       ·refine ai.of (λV=>?_) (λV=>⟨rfl,?_⟩)
        ·rw[dTx]at V
         exact ag S12 (by rw[I,b2,if_neg (λD=>V D.2)])
        ·have c0:1 <=jT d/\jT d <=65535:=Decidable.not_not.1 (of_decide_eq_false V)
         obtain⟨a9,b9,S14⟩:=S12.put (P:=prog) fk (i:=19) (v:=vI (jT d)) (by decide) rfl rfl (OR S12.ho _) S12.ho
         exact⟨a9,b9,jT d,by rw[b2,if_pos ⟨bc,c0⟩],S14⟩
      ·rw[if_neg bc]
       refine⟨_,_,rfl,?_⟩
       refine eJ (w:=bp) true (ai.yes rfl ⟨rfl,rfl⟩) (ai.yes rfl ?_)
       exact ag S12 (by rw[I,b2,if_neg (λD=>bc D.1)])
     ·have:q=[]:=by
       simp only[gt_iff_lt,dFx]at aj
       exact List.length_eq_zero_iff.1 (by omega)
      exact⟨_,by unfold Ry;rw[if_pos this],S12⟩
    ·rintro d2 ⟨n,b8,S13⟩
     rw[b8]at I
     refine⟨⟨by omega,by omega⟩,?_⟩
     have d1:(r.drop (vy [47,63,35] r)).length <=s.length:=by simp;omega
     intro x D
     rw[<- D]at I d1
     clear D
     refine⟨rfl,?_⟩
     obtain⟨a9,b9,S14⟩:=S13.put (P:=prog) bS (i:=20) (v:=vS x) (by decide) rfl rfl (KF S13.ho _) S13.ho
     refine⟨a9,b9,rfl,rfl,?_⟩
     have S15:StU w aQ e G ⟨sec,h,n,x⟩ (World.drew a9):=S14.below (bD a9)
     have bk:=S15.h4.load1 (P:=prog) ax rfl (rG S15.ho)
     have d9:=Gd [63,35] x
     have b3:JX x=if x.take (vy [63,35] x)=[]then[47]else x.take (vy [63,35] x):=rfl
     refine⟨⟨_,bk,_,bk,?_⟩,_,bk,⟨_,bk,?_⟩,?_⟩
     all_goals
      refine az (yy x [63,35] (by omega) (by decide) _) ?_
      rintro _ el ⟨rfl,c3⟩
      have S16:=S15.below c3
      refine⟨_,rfl,?_⟩
      try refine⟨_,S16.h4.load1 (P:=prog) ax rfl (rG S16.ho),?_⟩
      refine⟨⟨by omega,by show((vy [63,35] x:Nat):Int) <=((x.length:Nat):Int);omega⟩,?_⟩
      rw[Int.toNat_natCast]
      rintro _ rfl
      have eg:(x.take (vy [63,35] x)).length <=s.length:=by simp;omega
      obtain⟨d3,dn,S17⟩:=S16.put (P:=prog) bS (i:=20) (v:=vS (x.take (vy [63,35] x))) (by decide) rfl rfl (KF S16.ho _) S16.ho
      refine⟨rfl,d3,dn,?_⟩
      refine cw (λw'=>StU w aQ e G ⟨sec,h,n,JX x⟩ w') ?_ ?_
      ·refine⟨rfl,_,S17.h4.load1 (P:=prog) ax rfl (rG S17.ho),ai.of (λc=>⟨rfl,?_⟩) (λc=>?_)⟩
       ·obtain⟨cc,dr,S18⟩:=S17.put (P:=prog) bS (i:=20) (v:=vS [47]) (by decide) rfl rfl (KF S17.ho _) S17.ho
        have H:JX x=[47]:=by rw[b3,if_pos (eq_of_beq c)]
        rw[H]
        exact⟨cc,dr,S18⟩
       ·have H:JX x=x.take (vy [63,35] x):=by rw[b3,if_neg (beq_eq_false_iff_ne.1 c)]
        rw[H];exact S17
      ·intro cc S18
       have ed:(JX x).length <=s.length+1:=by
        rw[b3]
        split
        ·simp
        ·omega
       refine⟨rfl,_,S18.h4.load1 (P:=prog) ax rfl (rG S18.ho),?_⟩
       refine az (uc _ (by show(JX x).length <=_;omega) cc) ?_
       rintro _ em ⟨rfl,cr⟩
       rw[cr];clear cr
       refine⟨_,rfl,ai.of (λc=>?_) (λc=>?_)⟩
       ·exact ag S18 (by rw[I];exact if_neg (by rw[Bool.not_eq_true']at c;rw[show Gt (JX x)=false from c];decide))
       ·exact c1 S18 (by rw[I];exact if_pos (by rw[Bool.not_eq_false']at c;exact c))
def vi (h d:Hst):Bool:=dO h&&(dO d&&(iU h d || lR h d))
theorem HU {h:Hst}(e:(ay h).length≠0):dO h=true:=by
 unfold ay at e
 split at e
 ·rename_i c;exact c.2
 ·exact absurd rfl e
theorem Ui {h d:Hst}(I:h.ok)(H:d.ok):((iU h d&&dO h) || lR h d)=vi h d:=by
 unfold vi
 by_cases e:lR h d=true
 ·have M: ¬ ((ay d).length=0\/(ay h).length <=(ay d).length):=λD=>by unfold lR at e;rw[if_pos D]at e;cases e
  rw[e,HU (h:=h) (by omega),HU (h:=d) (by omega)];simp
 ·have G:lR h d=false:=by simpa using e
  rw[G,Bool.or_false,Bool.or_false]
  by_cases q:iU h d=true
  ·have:=(fC I H).1 q
   subst this
   rw[q];cases dO h <;> rfl
  ·have E:iU h d=false:=by simpa using q
   rw[E];cases dO h <;> cases dO d <;> rfl
def tI (s:List UInt8):Nat->Nat
 |0=>0
 |k+1=>if s[k]? =some 47 then k else tI s k
theorem BG (s:List UInt8):∀k,tI s k <=k
 |0=>Nat.le_refl _
 |k+1=>by
  have:=BG s k
  unfold tI;split <;> omega
def AA (s:List UInt8):List UInt8:=if tI s s.length=0\/s.head?≠some 47 then[47]else s.take (tI s s.length)
theorem SY (s:List UInt8):∀k,k <=s.length->(0<Lib.lastIdx (mkS s) 47 k ↔ tI s k≠0)/\(0<Lib.lastIdx (mkS s) 47 k->Lib.lastIdx (mkS s) 47 k=(tI s k:Nat))
 |0,_=>⟨by simp[Lib.lastIdx,tI],by simp[Lib.lastIdx]⟩
 |k+1,h=>by
  have q:(mkS s).data[k]! =s[k]'(by omega):=by
   have:(mkS s).data=s.toArray:=rfl
   rw[this,getElem!_pos s.toArray k (by simp;omega)];simp
  have D:=SY s k (by omega)
  unfold Lib.lastIdx tI
  rw[q,List.getElem?_eq_getElem (by omega)]
  by_cases c:s[k]'(by omega)=47
  ·rw[if_pos (by rw[c];rfl),if_pos (by rw[c])]
   exact⟨by omega,λ_=>rfl⟩
  ·rw[if_neg (λe=>c (UInt8.toNat_inj.1 (by rw[show(UInt8.toNat 47)=47 from rfl];omega))),if_neg (λe=>c (Option.some.inj e))]
   exact D
def wR (p o:List UInt8):Bool:=(p==o) || (decide (o.length<p.length)&&((p.take o.length==o)&&(decide (p[o.length]? =some 47) || decide (o.getLast?=some 47))))
structure Cky where
 name:List UInt8
 value:List UInt8
 host:Hst
 only:Bool
 path:List UInt8
 sec:Bool
 http:Bool
 same:Int
 exp:Int
 born:Int
 used:Int
 seq:Int
def Cky.tail (c:Cky):List Value:=[.bool c.only,vS c.path,.bool c.sec,.bool c.http,vI c.same,vI c.exp,vI c.born,vI c.used,vI c.seq]
def Cky.cells (c:Cky):List Value:=vS c.name::vS c.value::(c.host.cells++c.tail)
def Cky.v (c:Cky):Value:=.agg c.cells.toArray
def je:Cky:=⟨[],[],nG,false,[],false,false,0,0,0,0,0⟩
def Cky.ok (c:Cky):Prop:=c.host.ok
theorem Cky.len {c:Cky}(o:c.ok):c.cells.length=29:=by unfold Cky.cells;rw[List.length_cons,List.length_cons,List.length_append,Hst.len o];rfl
theorem Cky.one (c:Cky):Ie c.cells:=aR rfl (aR rfl (Db (Hst.one _) (aR rfl (aR rfl (aR rfl (aR rfl (aR rfl (aR rfl (aR rfl (aR rfl (aR rfl di)))))))))))
theorem fK {c:Cky}(o:c.ok)(h:j<18):c.cells[2+j]? =c.host.cells[j]? :=by
 unfold Cky.cells
 rw[show 2+j=j+1+1 by omega,List.getElem?_cons_succ,List.getElem?_cons_succ,List.getElem?_append_left (by rw[Hst.len o];exact h)]
theorem be {c:Cky}(o:c.ok)(j:Nat):c.cells[20+j]? =c.tail[j]? :=by
 unfold Cky.cells
 rw[show 20+j=(18+j)+1+1 by omega,List.getElem?_cons_succ,List.getElem?_cons_succ,List.getElem?_append_right (by rw[Hst.len o];omega),Hst.len o]
 congr 1;omega
structure Req where
 sec:Bool
 host:Hst
 path:List UInt8
 cross:Int
def Req.tail (r:Req):List Value:=[vS r.path,vI r.cross]
def Req.cells (r:Req):List Value:=.bool r.sec::(r.host.cells++r.tail)
def Req.v (r:Req):Value:=.agg r.cells.toArray
def Req.ok (r:Req):Prop:=r.host.ok
theorem Req.len {r:Req}(o:r.ok):r.cells.length=21:=by unfold Req.cells;rw[List.length_cons,List.length_append,Hst.len o];rfl
theorem Req.one (r:Req):Ie r.cells:=aR rfl (Db (Hst.one _) (aR rfl (aR rfl di)))
theorem DY {r:Req}(o:r.ok)(h:j<18):r.cells[1+j]? =r.host.cells[j]? :=by
 unfold Req.cells
 rw[Nat.add_comm,List.getElem?_cons_succ,List.getElem?_append_left (by rw[Hst.len o];exact h)]
theorem uH {r:Req}(o:r.ok)(j:Nat):r.cells[19+j]? =r.tail[j]? :=by
 unfold Req.cells
 rw[show 19+j=(18+j)+1 by omega,List.getElem?_cons_succ,List.getElem?_append_right (by rw[Hst.len o];omega),Hst.len o]
 congr 1;omega
def tM (same cross:Int):Bool:=if cross=1 then same !=3 else if cross=2 then same==1 else cross==0
def dD (c:Cky)(r:Req)(now:Int):Bool:=
 !(c.only && !iU c.host r.host)&&(vi r.host c.host&&(wR r.path c.path&&(!(c.sec && !r.sec)&&(!(decide (now >=c.exp))&&tM c.same r.cross))))
theorem vK {h d:Hst}(q:h.ok)(G:d.ok)(aj:h.name.length <=1000000000)(bj:d.name.length <=1000000000)(w:World)(ag:Env w):Cf sF #[h.v,d.v] w (Ret λv w'=>v=.bool (vi h d)/\bW w w'):=by
 rw[<- Ui q G]
 apply IE
 intro ar M bq al
 have ac:=(al▸au w _:bW w M)
 have bp:av M ar ak h.cells:=av.new bq al
 intro a0 D bs an
 have ad:=(an▸au M _:bW M D)
 have E:=ah ac ad ac.size
 have Z:av D a0 ak d.cells:=av.new bs an
 have U:=bp.below ad
 have a8:∀e,bW D e->∃a9:Value,(Instr.loadAt ak (.pointer (some ⟨ar,0,none⟩))).run prog e=.ok a9 e/\∃bb:Value,(Instr.loadAt ak (.pointer (some ⟨a0,0,none⟩))).run prog e=.ok bb e/\
  Cf xt #[a9,bb] e λbk bz=>∃(Y:Bool),bk=.returned (.bool Y)/\((.bool Y:Value)=.bool (lR h d)/\bW w bz):=λe X=>by
  refine⟨_,aO.load0 (U.below X) (Hst.len q),_,aO.load0 (Z.below X) (Hst.len G),?_⟩
  have V:=ah E X E.size
  refine az (M5 q G aj bj e (ag.step V)) ?_
  rintro _ bc ⟨rfl,I⟩
  exact⟨_,rfl,rfl,ah V I V.size⟩
 refine⟨_,aO.load0 U (Hst.len q),_,aO.load0 Z (Hst.len G),_,qD q G D,?_⟩
 refine ai.of (λH=>?_) (λH=>?_)
 ·refine⟨_,aO.load0 U (Hst.len q),?_⟩
  refine az (vz q aj D (ag.step E)) ?_
  rintro _ bc ⟨rfl,I⟩
  refine⟨_,rfl,ai.of (λO=>⟨by rw[H,O];rfl,ah E I E.size⟩) (λO=>?_)⟩
  rw[H,O]
  exact a8 bc I
 ·rw[H]
  exact a8 D (Below.refl _ _)
theorem Iq (s:List UInt8)(U:s.length<4611686018427387904)(w:World):Cf yV #[vS s] w (Ret λv w'=>v=vS (AA s)/\w'=w):=by
 apply HC
 refine(Tryz.strings_LastIndexByte (mkS s) 47 (show s.toArray.size<_ by simpa using U) w).mono ?_
 rintro _ w' ⟨rfl,I⟩
 rw[I];clear I
 refine⟨_,rfl,?_⟩
 have q:=SY s s.length (Nat.le_refl _)
 have M:Lib.lastIndexByte (mkS s) 47=Lib.lastIdx (mkS s) 47 s.length:=by unfold Lib.lastIndexByte;rw[show(mkS s).size=s.length from by show s.toArray.size=_;simp]
 rw[M]
 generalize Lib.lastIdx (mkS s) 47 s.length=n at*
 have V:=BG s s.length
 refine eJ (w:=w) (decide (¬ (tI s s.length=0\/s.head?≠some 47))) ?_ ?_
 ·refine ai.of (λh=>?_) (λh=>⟨rfl,?_⟩) <;> simp only[gt_iff_lt,dTx,dFx]at h
  ·have D:=q.1.1 h
   have G:0<s.length:=by omega
   have E:=byte_at (s:=s) (k:=0) G
   rw[show((0:Nat):Int)=0 from rfl]at E
   have H:=fq s[0] 47
   rw[show(((47:UInt8).toNat:Nat):Int)=47 from rfl]at H
   refine⟨⟨by decide,by omega⟩,rfl,?_⟩
   rw[E,H,List.head?_eq_getElem?,List.getElem?_eq_getElem G,Bool.eq_iff_iff]
   simp[D]
  ·have D:tI s s.length=0:=Decidable.byContradiction λe=>h (q.1.2 e)
   rw[eq_comm,dFx]
   exact λe=>e (.inl D)
 ·refine ai.of (λh=>?_) (λh=>⟨?_,rfl⟩)
  ·have h:=of_decide_eq_true h
   have O:=q.2 (q.1.2 λe=>h (.inl e))
   subst O
   refine⟨⟨by omega,by omega⟩,?_⟩
   rintro _ rfl
   exact⟨by unfold AA;rw[if_neg h];rfl,rfl⟩
  ·have h:=of_decide_eq_false h
   unfold AA;rw[if_pos (Decidable.not_not.1 h)]
theorem aC:Whl prog af 29:=⟨⟨_,_,yD⟩,by kernel_rfl⟩
theorem fA:Whl prog aU 21:=⟨⟨_,_,LV⟩,by kernel_rfl⟩
set_option linter.unusedSectionVars false
section
variable {α β:Type} [DecidableEq α]
def KVg (ek:α->Value)(ev:β->Value)(es:List MapEntry)(kvs:List (α×β)):Prop:=es.map (λe=>(e.key,e.val))=kvs.map λp=>(ek p.1,ev p.2)
def G8 (ek:α->Value)(ev:β->Value)(w:World)(r:Nat)(kvs:List (α×β)):Prop:=∃es clock,w.heap[r]? =some (.map es clock)/\KVg ek ev es.toList kvs
def rz (k:α):List (α×β)->Option β
 |[]=>none
 |(k',v)::l=>if k=k' then some v else rz k l
def rM (k:α):List (α×β)->Nat->Option (Nat×β)
 |[],_=>none
 |(k',v)::l,i=>if k=k' then some (i,v)else rM k l (i+1)
theorem FA (k:α):∀(l:List (α×β)) (i:Nat),(rM k l i).map (·.2)=rz k l
 |[],_=>rfl
 |(k',v)::l,i=>by
  unfold rM rz
  split
  ·rfl
  ·exact FA k l (i+1)
theorem Gj (k:α)(v:β)(k':α):∀l:List (α×β),rz k' (l++[(k,v)])=(rz k' l).or (if k'=k then some v else none)
 |[]=>by
  show(if k'=k then some v else none)=_
  rfl
 |(x,y)::l=>by
  show(if k'=x then some y else rz k' (l++[(k,v)]))=(if k'=x then some y else rz k' l).or _
  split
  ·rfl
  ·exact Gj k v k' l
structure Ff (P:Program)(kt:TypeId)(ek:α->Value):Prop where
 check:∀(b:Bool) (k:α) (w:World),(Instr.checkKey b 10000 kt (ek k)).run P w=.ok () w
 find:∀{β:Type} (ev:β->Value) (k:α) (es:List MapEntry) (kvs:List (α×β)) (w:World),KVg ek ev es kvs->(Instr.findKey kt (ek k) es).run P w=.ok ((rM k kvs 0).map λp=>(p.1,ev p.2)) w
theorem Ff.struct {I:Array Field}(V:P.underlying t=some (.struct I)){D:α->Value}(heq:∀a b,eqV P 10000 t (D a) (D b)=some (decide (a=b)))
 (check:∀(b:Bool) (k:α) (w:World),(Instr.checkKey b 10000 t (D k)).run P w=.ok () w):Ff P t D where
 check:=check
 find:=by
  intro β H k q e w h
  have ask:∀(q:List MapEntry) (e:List (α×β)) (i:Nat),KVg D H q e->(Instr.findAsking t (D k) q i).run P w=.ok ((rM k e i).map λp=>(p.1,H p.2)) w:=by
   intro q
   induction q with
   |nil=>
    intro e i h
    have:e=[]:=by unfold KVg at h;simp at h;exact h
    subst this;rfl
   |cons E q Y=>
    intro e i h
    cases e with
    |nil=>unfold KVg at h;simp at h
    |cons p e=>
     obtain⟨k',v⟩:=p
     unfold KVg at h
     simp only[List.map_cons,List.cons.injEq,Prod.mk.injEq]at h
     obtain⟨⟨O,X⟩,U⟩:=h
     unfold Instr.findAsking rM
     rw[O]
     have M:(Op.equal t (D k) (D k')).run P w=.ok (decide (k=k')) w:=Sp 10000 t _ _ _ w (heq k k')
     rw[Sem.run_bind,M,Result.andThen_ok]
     by_cases G:k=k'
     ·simp[G,X]
     ·simp only[G,decide_false,if_false]
      exact Y e (i+1) U
  unfold Instr.findKey
  rw[Sem.run_bind,ft V,Result.andThen_ok]
  cases q with
  |nil=>
   have:e=[]:=by unfold KVg at h;simp at h;exact h
   subst this;rfl
  |cons E q=>exact ask (E::q) e 0 h
variable {ek:α->Value} {ev:β->Value}
theorem G8.below {w w':World}{r:Nat}{kvs:List (α×β)}(h:G8 ek ev w r kvs)(D:bW w w'):G8 ek ev w' r kvs:=by
 obtain⟨q,c,e,E⟩:=h
 exact⟨q,c,(D.block r (Array.getElem?_eq_some_iff.1 e).1).trans e,E⟩
theorem G8.lt {r:Nat}{q:List (α×β)}(h:G8 ek ev w r q):r<w.heap.size:=by
 obtain⟨D,c,e,E⟩:=h
 exact(Array.getElem?_eq_some_iff.1 e).1
theorem G8.keep {w w':World}{r:Nat}{kvs:List (α×β)}(h:G8 ek ev w r kvs)(q:w'.heap[r]? =w.heap[r]?):G8 ek ev w' r kvs:=by
 obtain⟨e,c,D,E⟩:=h
 exact⟨e,c,q.trans D,E⟩
theorem G8.grown {w w':World}{r:Nat}{kvs:List (α×β)}(h:G8 ek ev w r kvs)(q:w.grownBy w' (some k))(D:r≠k):G8 ek ev w' r kvs:=h.keep (q.block r h.lt λe=>D (Option.some.inj e))
theorem G8.new {w w':World}{r:Nat}(e:r=w.heap.size)(q:w'=w.alloc (.map #[] 0)):G8 ek ev w' r []:=by
 subst e q
 exact⟨#[],0,heap_alloc_new w _,rfl⟩
theorem BD {r:Nat}{e:Array MapEntry}{c:Nat}(h:w.heap[r]? =some (.map e c)):(getObj r).run P w=.ok (.map e c) w:=by
 simp only[getObj,Sem.run,h]
theorem G8.look2 {G E q:TypeId}{n bytes:Nat}{z:Value}(U:P.underlying G=some (.map E q))(D:Ff P E ek)(H:TF P q n bytes z){r:Nat}{e:List (α×β)}(h:G8 ek ev w r e)(k:α):
 (Instr.lookup G (.map (some r)) (ek k) true).run P w=.ok (.tuple #[((rz k e).map ev).getD z,.bool (rz k e).isSome]) w:=by
 obtain⟨X,c,I,O⟩:=h
 obtain⟨i,M,_,_,V⟩:=H.info
 unfold Instr.lookup
 simp only[Sem.run_bind,ft U,Result.andThen_ok,BD I,Sem.run_pure,D.check,D.find ev k _ _ _ O]
 rw[<- FA k e 0]
 cases rM k e 0 with
 |none=>simp[zeroValue,BQ M,V]
 |some p=>simp
theorem G8.look1 {G E q:TypeId}{n bytes:Nat}{z:Value}(U:P.underlying G=some (.map E q))(D:Ff P E ek)(H:TF P q n bytes z){r:Nat}{e:List (α×β)}(h:G8 ek ev w r e)(k:α):
 (Instr.lookup G (.map (some r)) (ek k) false).run P w=.ok (((rz k e).map ev).getD z) w:=by
 obtain⟨X,c,I,O⟩:=h
 obtain⟨i,M,_,_,V⟩:=H.info
 unfold Instr.lookup
 simp only[Sem.run_bind,ft U,Result.andThen_ok,BD I,Sem.run_pure,D.check,D.find ev k _ _ _ O]
 rw[<- FA k e 0]
 cases rM k e 0 with
 |none=>simp[zeroValue,BQ M,V]
 |some p=>simp
theorem G8.put {I H O:TypeId}(V:P.underlying I=some (.map H O))(G:Ff P H ek){r:Nat}{e:List (α×β)}(h:G8 ek ev w r e){k:α}(Y:rz k e=none)(v:β):
 ∃w',(Instr.mapUpdate I (.map (some r)) (ek k) (ev v)).run P w=.ok () w'/\G8 ek ev w' r (e++[(k,v)])/\w.grownBy w' (some r):=by
 obtain⟨E,c,q,D⟩:=h
 have U:r<w.heap.size:=(Array.getElem?_eq_some_iff.1 q).1
 have Z:rM k e 0=none:=by
  have:=FA k e 0
  rw[Y]at this
  simpa using this
 refine⟨{ w with heap:=w.heap.setIfInBounds r (.map (E.push { key:=ek k,val:=ev v,born:=c }) (c+1)) },?_,⟨E.push { key:=ek k,val:=ev v,born:=c },c+1,by simp[U],?_⟩,⟨rfl,rfl,rfl,by simp,λj ac X=>?_⟩⟩
 ·unfold Instr.mapUpdate
  simp only[Sem.run_bind,ft V,Result.andThen_ok,BD q,G.check,G.find ev k _ _ _ D,Z,Option.map_none]
  simp only[setObj,Sem.run,q]
 ·unfold KVg at D ⊢
  simp only[Array.toList_push,List.map_append,List.map_cons,List.map_nil,D]
 ·have:r≠j:=λM=>X (by rw[M])
  simp[Array.getElem?_setIfInBounds_ne this]
end
end Go.Pk
