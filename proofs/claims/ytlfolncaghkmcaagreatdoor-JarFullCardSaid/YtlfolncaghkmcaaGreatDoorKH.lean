/- What the laws lean on: HdrE, HdrF, V2, HdrG, HdrH, DateV, DateX, HdrI, HdrJ, AdmA, AdmB, ShS, V10, ShT, ShU, ShV; what is used. Its conditions: none. -/
import Derived.Test.YtlfolncaghkmcaaGreatDoorKG
import Derived.Lib.Join
variable {n m i j k:Nat}{a:Int}{w u:Go.World}{s r:List UInt8}{L M:List Go.Pk.Kpt}{t:Go.TypeId}{c:Go.Pk.Cky}
open Go.IntKind (i64)
open Go.Proofs.Tryz
set_option linter.unusedVariables false
set_option linter.unusedSimpArgs false
set_option maxRecDepth 20000
open List (length)
open Option (isSome)
namespace Go.Pk
open Go.RowKit (Below)
open Go.Proofs
def sj (s:List UInt8)(w:World)(v:Value)(w':World):Prop:=v=.tuple #[(bB s).1.v,vI (bB s).2]/\bW w w'
theorem wJ (s:List UInt8):(bY 59 [] s).length≠0/\∀h:0<(bY 59 [] s).length,(bY 59 [] s)[0]=(bY 59 [] s).headD []:=by
 have h:=j7 59 s []
 cases e:bY 59 [] s with
 |nil=>exact absurd e h
 |cons x l=>exact⟨by simp,λ_=>rfl⟩
theorem kl {A:Bl}{a:Option Addr}{n c:Nat}{xs:List (List UInt8)}(h:Sl tS w A a n c xs)(e:i<xs.length):(Instr.loadAt ao (.pointer (aw a (i:Int) 1))).run prog w=.ok (.string (mkS xs[i])) w:=by
 obtain⟨v,D,q⟩:=h.load1 (i:=(i:Int)) ax rfl rfl (by simpa using e)
 obtain⟨rfl,-⟩:=nw q
 simpa using D
theorem C5 (s:List UInt8)(ew:s.length <=2000000000)(w:World)(bk:Env w):Cf xe #[vS s] w (Ret (sj s w)):=by
 apply Iy
 intro k2 an dl b0
 have b5:=(b0▸au w _:bW w an)
 have c5:av an k2 aq iJ.cells:=av.new dl b0
 have aj:w.heap.size <=k2:=by omega
 have ex:an.heap.size=w.heap.size+1:=by rw[b0];simp
 refine az (Hk s (by omega) an) ?_
 rintro _ eb ⟨rfl,b8⟩
 have V:=ah b5 b8 b5.size
 have b6:=c5.below b8
 refine⟨_,rfl,?_⟩
 have post:∀{h:Hdr} {e:Int},bB s=(h,e)->∀wx,bW w wx->sj s w (.tuple #[h.v,vI e]) wx:=λd3 wx D=>⟨by rw[d3],D⟩
 refine ai.of (λh1=>?_) (λh1=>?_)
 ·exact pa iJ b6 rfl V aj (post (by unfold bB;rw[if_pos h1]))
 have c4: ¬ s.any jP=true:=by rw[h1];decide
 refine az (sI s 59 (by omega) eb (bk.step V)) ?_
 rintro _ c0 ⟨a,n,c,rfl,ck,ek,b9⟩
 have a8:=ah V b9 V.size
 have b7:=b6.below b9
 refine⟨_,_,_,rfl,?_⟩
 intro k5 b1 dn cp
 have bj:=(cp▸au c0 _:bW c0 b1)
 have a9:=ah a8 bj a8.size
 have c6:=b7.below bj
 have dc:av b1 k5 aq iJ.cells:=av.new dn cp
 have al:=ck.below bj
 have en:=b7.lt
 have cf:k2≠k5:=by omega
 have dr:w.heap.size <=k5:=by have:=a8.size;omega
 have d2:∀g,j0 a=some g->g≠k5:=λg bp e=>by have:=ck.lt g bp;omega
 have ds:=al.len
 obtain⟨em,cb⟩:=wJ s
 have ce:∀x∈bY 59 [] s,x.length <=s.length:=λx d7=>by simpa using tg 59 s [] x d7
 have q:bB s=if(nameOf ((bY 59 [] s).headD [])).1++(nameOf ((bY 59 [] s).headD [])).2=[]then(iJ,82)
  else if 4096<(nameOf ((bY 59 [] s).headD [])).1.length+(nameOf ((bY 59 [] s).headD [])).2.length then(iJ,83)
  else(((bY 59 [] s).drop 1).foldl cW { iJ with name:=(nameOf ((bY 59 [] s).headD [])).1,value:=(nameOf ((bY 59 [] s).headD [])).2 },0):=by
  unfold bB;rw[if_neg c4]
 have eg:=jQ 59 s []
 generalize bY 59 [] s=L at*
 have O:0<L.length:=by omega
 subst ds
 have ct:=kl al.all O
 rw[cb O]at ct
 have d8:=ce _ (List.getElem_mem O)
 rw[cb O]at d8
 generalize L.headD []=M at*
 refine⟨⟨⟨by decide,by omega⟩,al.all.isSome O⟩,M,ct,?_⟩
 refine az (EC M (by omega) b1 (bk.step a9)) ?_
 rintro _ ed ⟨rfl,ac⟩
 have X:=ah a9 ac a9.size
 refine⟨_,_,_,rfl,?_⟩
 have er:=sp M
 have es:=so M
 refine⟨λa b w'=>w'=ed/\a=(nameOf M).1/\b=(nameOf M).2,?_,?_⟩
 ·unfold nameOf
  cases xI M
  ·exact ai.yes rfl ⟨rfl,rfl,rfl⟩
  ·exact ai.no rfl ⟨rfl,rfl,rfl⟩
 intro G I
 refine aP.of ?_ _
 rintro e1 ⟨d6,cj,cn⟩
 subst d6
 have eq:G.length <=s.length/\I.length <=s.length:=by
  rw[cj,cn];unfold nameOf
  split
  ·exact⟨by simp only;omega,by simp only;omega⟩
  ·exact⟨by simp,by simp only;omega⟩
 rw[<- cj,<- cn]at q
 refine⟨fits (by omega),?_⟩
 rintro _ rfl
 have bb:=c6.below ac
 have dd:=dc.below ac
 have d1:=al.below ac
 refine ai.of (λU=>?_) (λU=>?_)
 ·rw[beq_iff_eq]at U
  rw[if_pos U]at q
  exact pa iJ bb rfl X aj (post q)
 rw[beq_eq_false_iff_ne]at U
 rw[if_neg U]at q
 rw[wrap_i64 (by omega) (by omega)]
 refine ai.of (λb2=>?_) (λb2=>?_) <;> simp only[gt_iff_lt,dTx,dFx]at b2
 ·rw[if_pos (by omega)]at q
  exact pa iJ bb rfl X aj (post q)
 rw[if_neg (by omega)]at q
 refine⟨rfl,?_⟩
 obtain⟨ee,d4,de,c7⟩:=dd.put (P:=prog) bS (i:=0) (v:=vS G) (by simp[Hdr.cells]) rfl rfl
 refine⟨ee,d4,rfl,?_⟩
 obtain⟨c1,d5,dg,c8⟩:=de.put (P:=prog) bS (i:=1) (v:=vS I) (by simp[Hdr.cells]) rfl rfl
 have bs:=gF c7 c8
 have dk:av c1 k5 aq ({ iJ with name:=G,value:=I } :Hdr).cells:=dg
 have cc:∀x,some k5=some x->w.heap.size <=x:=λx e=>by cases e;exact dr
 refine⟨c1,d5,⟨by decide,by omega⟩,?_⟩
 have cr:∀{u cu:World},Ow tS ao u NoB a L.length c L->u.grownBy cu (some k5)->Ow tS ao cu NoB a L.length c L:=λd0 bp=>d0.keep (jR bp λb D e=>by
  rcases D with D|D
  ·exact D
  ·exact d2 b D.symm (Option.some.inj e))
 have c2:Int.toNat (1:Int)=1:=rfl
 rw[c2]
 refine⟨λm i w'=>∃j:Nat,j <=(L.drop 1).length/\i=(j:Int)/\m=(L.drop 1).length-j/\av w' k5 aq (((L.drop 1).take j).foldl cW { iJ with name:=G,value:=I }).cells/\
  av w' k2 aq iJ.cells/\Ow tS ao w' NoB a L.length c L/\bW w w',
  ⟨_,0,by omega,rfl,rfl,dk,bb.grown bs (λe=>cf (Option.some.inj e)),cr d1 bs,X.grown bs X.size cc⟩,?_⟩
 intro m i
 refine aP.of ?_ _
 rintro ef ⟨j,el,rfl,rfl,ad,bc,bz,Y⟩
 have ei:(L.drop 1).length=L.length-1:=List.length_drop ..
 refine ai.of (λar=>?_) (λar=>?_) <;> simp only[dTx,dFx]at ar
 ·have ag:j<(L.drop 1).length:=by omega
  have cl:=bz.all.from 1 O (k:=1) rfl
  have c3:i64.wrap ((j:Int)+1)=((j+1:Nat):Int):=by rw[wrap_i64 (by omega) (by omega)];omega
  try dsimp only
  rw[c3]
  have ch:((L.drop 1).take (j+1)).foldl cW { iJ with name:=G,value:=I } =cW (((L.drop 1).take j).foldl cW { iJ with name:=G,value:=I }) (L.drop 1)[j]:=by
   rw[List.take_succ_eq_append_getElem ag,List.foldl_append];rfl
  have ey:=ce _ (List.mem_of_mem_drop (List.getElem_mem ag))
  refine⟨⟨⟨by omega,ar⟩,cl.isSome ag⟩,_,kl cl ag,?_⟩
  generalize (L.drop 1)[j]=x at*
  generalize ((L.drop 1).take j).foldl cW { iJ with name:=G,value:=I } =H at*
  have et:=sp x
  have ev:=so x
  refine az (EC x (by omega) ef (bk.step Y)) ?_
  rintro _ d9 ⟨rfl,E⟩
  have a0:=ah Y E Y.size
  refine⟨_,_,_,rfl,?_⟩
  refine ai.of (λb3=>?_) (λb3=>?_) <;> simp only[dTx,dFx]at b3
  ·refine az (pQ _ (by omega) d9) ?_
   rintro _ ea ⟨rfl,Z⟩
   have b4:=ah a0 Z a0.size
   refine⟨_,rfl,?_⟩
   refine az (Fw k5 H _ (du x) (by omega) ea ((ad.below E).below Z)) ?_
   rintro _ e0 ⟨rfl,c9,bq⟩
   refine⟨rfl,(L.drop 1).length-(j+1),by omega,j+1,by omega,rfl,rfl,?_,((bc.below E).below Z).grown bq (λe=>cf (Option.some.inj e)),cr ((bz.below E).below Z) bq,b4.grown bq b4.size cc⟩
   rw[ch];unfold cW
   rw[if_pos (by omega)];exact c9
  ·refine⟨(L.drop 1).length-(j+1),by omega,j+1,by omega,rfl,rfl,?_,bc.below E,bz.below E,a0⟩
   rw[ch];unfold cW
   rw[if_neg (by omega)];exact ad.below E
 ·have:j=(L.drop 1).length:=by omega
  subst this
  rw[List.take_length]at ad
  refine⟨_,_,_,_,_,_,_,_,_,_,_,fX _ ad,?_⟩
  exact pa _ bc rfl Y aj (post q)
abbrev kE:List UInt8:=[101,120,112,105,114,101,115]
abbrev kA:List UInt8:=[109,97,120,45,97,103,101]
abbrev kD:List UInt8:=[100,111,109,97,105,110]
abbrev kP:List UInt8:=[112,97,116,104]
abbrev kS:List UInt8:=[115,101,99,117,114,101]
abbrev kH:List UInt8:=[104,116,116,112,111,110,108,121]
abbrev kM:List UInt8:=[115,97,109,101,115,105,116,101]
def a1 (key v:List UInt8)(h:Hdr):Hdr:=if key=kE then(if we (qh v)then{ h with hasE:=true,exp:=rJ (qh v) } else h)else h
def a2 (key v:List UInt8)(h:Hdr):Hdr:=if key=kA then(match Ce v with|some n=> { h with hasA:=true,age:=n }|none=>h)else h
def a3 (key v:List UInt8)(h:Hdr):Hdr:=if key=kD then{ h with domain:=cN (if v.head?=some 46 then v.drop 1 else v) } else h
def a4 (key v:List UInt8)(h:Hdr):Hdr:=if key=kP then{ h with path:=if v.head?=some 47 then v else[] } else h
def a5 (key:List UInt8)(h:Hdr):Hdr:=if key=kS then{ h with sec:=true } else h
def a6 (key:List UInt8)(h:Hdr):Hdr:=if key=kH then{ h with http:=true } else h
def a7 (key v:List UInt8)(h:Hdr):Hdr:=if key=kM then{ h with same:=Dn v } else h
set_option maxRecDepth 100000
theorem Dm (a b:Int){w K}(h:uS ye #[vI a,vI b] w λc d=>K (vS c) d):Cf pY #[vI a,vI b] w (Ret K):=ru func242 [] h
set_option maxRecDepth 20000
def pX (s:List UInt8):List UInt8:=if cq s=s/\s.head?≠some 46 then s else 46::s
def pE:List UInt8:=[69,120,112,105,114,101,115,61]
def pA:List UInt8:=[77,97,120,45,65,103,101,61]
def pD:List UInt8:=[68,111,109,97,105,110,61]
def pP:List UInt8:=[80,97,116,104,61]
def pS:List UInt8:=[83,101,99,117,114,101]
def pH:List UInt8:=[72,116,116,112,79,110,108,121]
def pM:List UInt8:=[83,97,109,101,83,105,116,101,61]
def opt (b:Bool)(x:List UInt8):List (List UInt8):=if b then[x]else[]
noncomputable def tV (h:Hdr):List (List UInt8):=
 [h.name++[61]++h.value]++opt h.hasE (pE++lK h.exp)++opt h.hasA (pA++Lib.itoa h.age)++opt (!(h.domain==[])) (pD++pX h.domain)++opt (!(h.path==[])) (pP++h.path)++opt h.sec pS++opt h.http pH++
  opt (decide (0<h.same)&&decide (h.same <=3)) (pM++nmL[h.same.toNat]?.getD [])
noncomputable def cX (h:Hdr):List UInt8:=Lib.join (tV h) [59,32]
structure A2 (h:Hdr):Prop where
 name:h.name.length <=20000
 value:h.value.length <=20000
 domain:h.domain.length <=20000
 path:h.path.length <=20000
 exp: -9223372036854775808 <=h.exp/\h.exp <=9223372036854775807
 age: -9223372036854775808 <=h.age/\h.age <=9223372036854775807
theorem MX (s:List UInt8):(pX s).length <=s.length+1:=by unfold pX;split <;> simp
theorem sv (t:Int):(lK t).length <=29:=by
 by_cases H:t/86400 < -134774\/2932896<t/86400
 ·rw[wZ H];simp
 ·obtain⟨y,m,d,e,G⟩:=Jk (n:=t/86400) (by omega) (by omega)
  rw[zW e G]
  have h1:∀k:Nat,k<7->(rQ (k:Int)).length=3:=by decide
  have E:∀k:Nat,k<12->(zJ ((k:Int)+1)).length=3:=by decide
  have q:=h1 (t/86400%7).toNat (by omega)
  have D:=E (m-1).toNat (by have:=e.2.2.1;have:=e.2.2.2.1;omega)
  rw[show(((t/86400%7).toNat:Nat):Int)=t/86400%7 by omega]at q
  rw[show(((m-1).toNat:Nat):Int)+1=m by have:=e.2.2.1;omega]at D
  unfold xO rI
  simp only[List.length_append,aY,q,D,List.length_cons,List.length_nil]
  omega
def CB (h g:Hdr):Bool:=(h.name==g.name)&&((h.value==g.value)&&((h.domain==g.domain)&&((h.path==g.path)&&((h.hasE==g.hasE)&&((h.exp==g.exp)&&((h.hasA==g.hasA)&&((h.age==g.age)&&((h.sec==g.sec)&&((h.http==g.http)&&((h.same==g.same)&&true))))))))))
structure KR (w0:World)(tl ts th:TypeId)(k1 k3:Nat)(h:Hdr)(xs:List (List UInt8))(w:World):Prop where
 slot:∃a l c,av w k3 tl [.slice a l c]/\Ow tS ts w NoB a l c xs/\ci w0.heap.size a/\∀g,j0 a=some g->g≠k3/\g≠k1
 hdr:av w k1 th h.cells
 hb:bW w0 w
 hk1:w0.heap.size <=k1
 hk3:w0.heap.size <=k3
 hne:k1≠k3
theorem KR.below {w0:World}{D E q:TypeId}{h:Hdr}{xs:List (List UInt8)}{w w':World}(S:KR w0 D E q n m h xs w)(e:bW w w'):KR w0 D E q n m h xs w':=by
 obtain⟨a,l,c,h1,G,H,I⟩:=S.slot
 exact⟨⟨a,l,c,h1.below e,G.below e,H,I⟩,S.hdr.below e,ah S.hb e S.hb.size,S.hk1,S.hk3,S.hne⟩
theorem KR.get {P:Program}{u:TypeId}{d:TypeDesc}(q:P.underlying u=some d)(e:El d=false){w0:World}{G H E:TypeId}{h:Hdr}{xs:List (List UInt8)}(S:KR w0 G H E n m h xs w)
 {v:Value} (D:h.cells[i]? =some v):(Instr.loadAt u (.pointer (some ⟨n,i,none⟩))).run P w=.ok v w:=S.hdr.load1 q e D
abbrev OW (w0:World)(k1 k3:Nat)(h:Hdr)(xs:List (List UInt8))(w:World):Prop:=KR w0 bI ao aq k1 k3 h xs w
theorem rZ {w0:World}{h:Hdr}{xs:List (List UInt8)}(S:OW w0 n m h xs w)(bs:xs.length <=1000)(b:Bool)(s:List UInt8):
 Cf cT #[.bool b,vS s,.pointer (some ⟨m,0,none⟩)] w (Ret λv w'=>v=.tuple #[]/\OW w0 n m h (xs++opt b s) w'):=by
 apply Dh
 refine ai.of (λU=>?_) (λU=>?_)
 ·subst U
  obtain⟨a,l,c,h1,aj,M,O⟩:=S.slot
  refine⟨a,l,c,h1.load1 lQ rfl rfl,?_⟩
  intro bc ad ar ac
  have D:=(ac▸au w _:bW w ad)
  have a9:Src tS ad NoB (some ⟨bc,0,none⟩) 1 [s]:=Src.new1F (gI _) ar ac (qk trivial)
  obtain⟨bj,G,X,I,a8,a0,H,Z⟩:=j6 (ty:=bI) lQ bS (by decide) (aj.below D) (λ_ _ h=>h) (cm:=1) a9 (by simp;omega)
  have bp:=S.hdr.lt
  have bq:=h1.lt
  have ag:=(h1.below D).grown H (λe=>(O m e.symm).1 rfl)
  have an:=(S.hdr.below D).grown H (λe=>(O n e.symm).2 rfl)
  have E:=ah S.hb D S.hb.size
  have Y:∀g,j0 G=some g->g≠m/\g≠n:=λg q=>by
   rcases Z g q with e|e
   ·exact O g e
   ·have:=D.size;exact⟨by omega,by omega⟩
  refine⟨bj,G,X,I,a8,?_⟩
  obtain⟨bk,bb,al,V⟩:=ag.put (P:=prog) HZ (i:=0) (v:=.slice G X I) (by simp) rfl rfl
  refine⟨bk,bb,rfl,⟨G,X,I,al,a0.keep (jR V λg q e=>?_),?_,Y⟩,an.grown V (λe=>S.hne (Option.some.inj e)),(E.grown H E.size M).grown V ?_ ?_,S.hk1,S.hk3,S.hne⟩
  ·rcases q with q|q
   ·exact q
   ·exact(Y g q.symm).1 (Option.some.inj e)
  ·exact M.app E.size Z
  ·exact(E.grown H E.size M).size
  ·intro x e;cases e;exact S.hk3
 ·subst U
  refine⟨rfl,?_⟩
  show OW w0 n m h (xs++[]) w
  rw[List.append_nil];exact S
theorem Ij (s:List UInt8)(I:s.length <=1000000)(w:World):Cf tO #[vS s] w (Ret λv w'=>v=vS (pX s)/\bW w w'):=by
 apply Hu
 refine az (yt s (by omega) w) ?_
 rintro _ H ⟨rfl,q⟩
 refine⟨_,rfl,?_⟩
 refine ai.of (λh=>?_) (λh=>?_)
 ·refine⟨fits (by simp;omega),?_⟩
  rintro _ rfl
  refine⟨?_,q⟩
  unfold pX
  rw[if_neg (λD=>by rw[D.1]at h;simp at h)];rfl
 ·have G:cq s=s:=by simpa using h
  refine(Tryz.strings_HasPrefix (mkS s) (mkS [46]) H).mono ?_
  rintro _ _ ⟨rfl,rfl⟩
  have E:Lib.hasPrefix (mkS s).data.toList (mkS [46]).data.toList=decide (s.head?=some 46):=(yw s 46).1
  rw[E]
  refine⟨_,rfl,?_⟩
  refine ai.of (λe=>?_) (λe=>?_) <;> simp only[dTx,dFx]at e
  ·refine⟨fits (by simp;omega),?_⟩
   rintro _ rfl
   refine⟨?_,q⟩
   unfold pX
   rw[if_neg (λD=>D.2 e)];rfl
  ·refine⟨?_,q⟩
   unfold pX
   rw[if_pos ⟨G,e⟩]
theorem Pm (n:Int)(e: -9223372036854775808 <=n)(h1:n <=9223372036854775807)(w:World)(q:Ek prog w):Cf pY #[vI n,vI 10] w (Ret λv w'=>v=vS (Lib.itoa n)/\bW w w'):=by
 apply Dm
 refine(Tryz.internal_strconv_FormatInt_10 n e h1 w q).mono ?_
 rintro _ _ ⟨rfl,k,D,rfl⟩
 exact⟨Lib.itoa n,rfl,rfl,Fh w k D⟩
theorem JJ (xs:List (List UInt8)){w0:World}{h:Hdr}(S:OW w0 n m h xs w)(e:xs.length <=1000)(ag:(Lib.join xs [59,32]).length <=1000000)(K:Value->World->Prop)(G:∀w',bW w0 w'->K (vS (Lib.join xs [59,32])) w'):
 ∃(a:Option Addr) (l c:Nat),(Instr.loadAt bI (.pointer (some ⟨m,0,none⟩))).run prog w=.ok (.slice a l c) w/\
  Cf lY #[.slice a l c,vS [59,32]] w λq w'=>∃(s:List UInt8),q=.returned (vS s)/\K (vS s) w':=by
 obtain⟨a,l,c,h1,M,_,_⟩:=S.slot
 refine⟨a,l,c,h1.load1 lQ rfl rfl,?_⟩
 obtain⟨Z,ac,ad,E⟩:=M.all
 subst Z
 rcases E with E|⟨b,off,rfl,U,_,cs,X,V⟩
 ·subst E
  refine(Tryz.strings_Join_none a c (mkS [59,32]) w).mono ?_
  rintro _ _ ⟨rfl,rfl⟩
  exact⟨[],rfl,G _ S.hb⟩
 ·have H:=tJ X
  have I:=Tryz.strings_Join b off c (xs.map mkS) (mkS [59,32]) w (λj x e=>by
   rw[List.getElem?_map]at e
   cases D:xs[j]? with
   |none=>rw[D]at e;cases e
   |some y=>
    rw[D]at e
    cases e
    have Y:=(List.getElem?_eq_some_iff.1 D).1
    rw[V j (by rw[H];simpa using Y),H,List.getElem?_map,D];rfl) U (by rw[List.length_map];omega) (by rw[List.length_map];exact ac) (by
    have q:(xs.map mkS).map (λs=>s.data.toList)=xs:=by rw[List.map_map];exact List.map_id xs
    rw[q];show(Lib.join xs [59,32]).length <=_;omega)
  rw[List.length_map]at I
  refine I.mono ?_
  rintro _ w' ⟨rfl,O⟩
  have q:(xs.map mkS).map (λs=>s.data.toList)=xs:=by rw[List.map_map];exact List.map_id xs
  rw[q]
  exact⟨_,rfl,G _ (ah S.hb O S.hb.size)⟩
theorem Ut (xs:List (List UInt8))(e:Nat)(h:∀x∈xs,x.length <=e):(Lib.join xs [59,32]).length <=xs.length*(e+2):=by
 cases xs with
 |nil=>simp[Lib.join_nil]
 |cons x r=>
  rw[Lib.join_cons]
  have:∀r:List (List UInt8),(∀x∈r,x.length <=e)->(Lib.joinTail [59,32] r).length <=r.length*(e+2):=by
   intro r
   induction r with
   |nil=>intro _;simp[Lib.joinTail]
   |cons y r I=>
    intro q
    have h1:=I λx G=>q x (List.mem_cons_of_mem _ G)
    have E:=q y List.mem_cons_self
    have D:Lib.joinTail [59,32] (y::r)=[59,32]++y++Lib.joinTail [59,32] r:=by simp[Lib.joinTail]
    rw[D]
    simp only[List.length_append,List.length_cons,List.length_nil,Nat.add_mul];omega
  have h1:=this r λy H=>h y (List.mem_cons_of_mem _ H)
  have E:=h x List.mem_cons_self
  simp only[List.length_append,List.length_cons,Nat.add_mul];omega
theorem Tp (b:Bool)(x:List UInt8):(opt b x).length <=1:=by unfold opt;split <;> simp
theorem FB {b:Bool}{x y:List UInt8}(h:y∈opt b x):y=x:=by unfold opt at h;split at h <;> simp_all
theorem X9 (h:Hdr)(D:A2 h):(Lib.join (tV h) [59,32]).length <=1000000:=by
 have M:=D.name;have O:=D.value;have U:=D.domain;have V:=D.path
 have Y:=sv h.exp
 have X:=Lib.itoa_length_le h.age D.age.1 D.age.2
 have H:=MX h.domain
 have q:=Tp
 have h1:(tV h).length <=8:=by
  unfold tV
  simp only[List.length_append]
  exact Nat.add_le_add (Nat.add_le_add (Nat.add_le_add (Nat.add_le_add (Nat.add_le_add (Nat.add_le_add (Nat.add_le_add (Nat.le_refl 1) (q _ _)) (q _ _)) (q _ _)) (q _ _)) (q _ _)) (q _ _)) (q _ _)
 have I:=Ut (tV h) 41000 λx e=>by
  unfold tV at e
  simp only[List.mem_append]at e
  rcases e with((((((e|e)|e)|e)|e)|e)|e)|e
  ·rw[List.mem_singleton.1 e];simp;omega
  ·rw[FB e];simp[pE];omega
  ·rw[FB e];simp[pA];omega
  ·rw[FB e];simp[pD];omega
  ·rw[FB e];simp[pP];omega
  ·rw[FB e];simp[pS]
  ·rw[FB e];simp[pH]
  ·rw[FB e]
   have G:∀k:Nat,(nmL[k]?.getD []).length <=6:=λk=>by
    by_cases E:k<4
    ·have:∀k:Nat,k<4->(nmL[k]?.getD []).length <=6:=by decide
     exact this k E
    ·rw[List.getElem?_eq_none (by simp[nmL];omega)];simp
   have:=G h.same.toNat
   simp only[List.length_append];simp only[pM,List.length_cons,List.length_nil];omega
 have:(tV h).length*(41000+2) <=8*(41000+2):=Nat.mul_le_mul_right _ h1
 omega
theorem Hl (h:Hdr)(G:A2 h)(w:World)(c2:Env w):Cf xG #[h.v] w (Ret λv w'=>v=vS (cX h)/\bW w w'):=by
 refine Gy h.name h.value h.domain h.path h.hasE h.exp h.hasA h.age h.sec h.http h.same ?_
 have dn:=G.name;have dr:=G.value;have ds:=G.domain;have d0:=G.path
 intro q V c3 bc
 have ag:=(bc▸au w _:bW w V)
 have bb:av V q aq h.cells:=av.new c3 bc
 refine⟨rfl,_,bb.load1 ax rfl rfl,fits (by simp;omega),?_⟩
 rintro _ rfl
 refine⟨rfl,_,bb.load1 ax rfl rfl,fits (by simp;omega),?_⟩
 rintro _ rfl
 intro k11 al c4 bj D c0 c5 b9
 have a0:=(bj▸au V _:bW V al)
 have a8:=(b9▸au al _:bW al c0)
 have cr:Ow tS ao al NoB (some ⟨k11,0,none⟩) 1 1 [h.name++[61]++h.value]:=Ow.newF (l:=[_]) (gI _) c4 bj (kK.one (qk trivial)) (show 1 <=maxLen by decide)
 have cj:av c0 D bI [.slice none 0 0]:=av.new c5 b9
 have d1:V.heap.size=w.heap.size+1:=by rw[bc];simp
 have d2:al.heap.size=V.heap.size+1:=by rw[bj];simp
 obtain⟨wx,ct,ck,a9⟩:=cj.put (P:=prog) HZ (i:=0) (v:=.slice (some ⟨k11,0,none⟩) 1 1) (by simp) rfl rfl
 refine⟨wx,ct,?_⟩
 have b6:=ah (ah ag a0 ag.size) a8 (ah ag a0 ag.size).size
 have S0:OW w q D h [h.name++[61]++h.value] wx:=by
  refine⟨⟨_,_,_,ck,(cr.below a8).keep (jR a9 λg I ad=>?_),λg I=>?_,λg I=>?_⟩,((bb.below a0).below a8).grown a9 (λad=>by cases ad;omega),b6.grown a9 b6.size (λx ad=>by cases ad;omega),by omega,by omega,by omega⟩
  ·rcases I with I|I
   ·exact I
   ·have cn:g=k11:=by simpa[j0]using I
    cases ad;omega
  ·have cn:g=k11:=by simpa[j0]using I.symm
   omega
  ·have cn:g=k11:=by simpa[j0]using I.symm
   exact⟨by omega,by omega⟩
 have cu:∀{u:World} {xs:List (List UInt8)},OW w q D h xs u->Ek prog u:=λS=>(c2.step S.hb).tab
 have b8:true=true:=rfl
 clear ck a9 ct cj cr bb b6 a8 a0 ag b9 bj bc
 have O:=Tp
 have d6:=sv h.exp
 have d3:=Lib.itoa_length_le h.age G.age.1 G.age.2
 have dk:=MX h.domain
 obtain⟨cb,bz⟩:∃x,x=[h.name++[61]++h.value]:=⟨_,rfl⟩
 rw[<- bz]at S0
 have c7:cb.length <=1:=by rw[bz];simp
 refine cw (λw'=>OW w q D h (cb++opt h.hasE (pE++lK h.exp)) w') ?_ ?_
 ·have U:=S0.below (bD _)
  repeat' (first
   |exact b8
   |refine Exists.intro _ (And.intro (KR.get bA rfl (by assumption) rfl) ?_)
   |refine Exists.intro _ (And.intro (KR.get bn rfl (by assumption) rfl) ?_)
   |(refine az (N3 _ G.exp.1 G.exp.2 _ (cu (by assumption))) ?_;rintro _ u ⟨rfl,H⟩;have e:=KR.below (by assumption) H;refine Exists.intro _ (And.intro rfl ?_);refine And.intro (fits (by simp only[List.length_cons,List.length_nil];omega)) ?_;rintro _ rfl)
   |(refine az (rZ (by assumption) (by omega) _ _) ?_;rintro _ u ⟨rfl,e⟩;exact And.intro rfl e)
   |refine And.intro ?_ ?_)
 intro d7 bp
 clear S0
 obtain⟨cc,b0⟩:∃x,x=cb++opt h.hasE (pE++lK h.exp):=⟨_,rfl⟩
 have c8:cc.length <=2:=by rw[b0,List.length_append];exact Nat.add_le_add c7 (O _ _)
 rw[<- b0]at bp
 refine cw (λw'=>OW w q D h (cc++opt h.hasA (pA++Lib.itoa h.age)) w') ?_ ?_
 ·have U:=bp.below (bD _)
  repeat' (first
   |exact b8
   |refine Exists.intro _ (And.intro (KR.get bA rfl (by assumption) rfl) ?_)
   |refine Exists.intro _ (And.intro (KR.get bn rfl (by assumption) rfl) ?_)
   |(refine az (Pm _ G.age.1 G.age.2 _ (cu (by assumption))) ?_;rintro _ u ⟨rfl,H⟩;have e:=KR.below (by assumption) H;refine Exists.intro _ (And.intro rfl ?_);refine And.intro (fits (by simp only[List.length_cons,List.length_nil];omega)) ?_;rintro _ rfl)
   |(refine az (rZ (by assumption) (by omega) _ _) ?_;rintro _ u ⟨rfl,e⟩;exact And.intro rfl e)
   |refine And.intro ?_ ?_)
 intro d8 bq
 clear bp
 obtain⟨ce,b1⟩:∃x,x=cc++opt h.hasA (pA++Lib.itoa h.age):=⟨_,rfl⟩
 have c9:ce.length <=3:=by rw[b1,List.length_append];exact Nat.add_le_add c8 (O _ _)
 rw[<- b1]at bq
 refine cw (λw'=>OW w q D h (ce++opt (!(h.domain==[])) (pD++pX h.domain)) w') ?_ ?_
 ·have U:=bq.below (bD _)
  repeat' (first
   |exact b8
   |refine Exists.intro _ (And.intro (KR.get ax rfl (by assumption) rfl) ?_)
   |(refine az (Ij _ (by omega) _) ?_;rintro _ u ⟨rfl,H⟩;have e:=KR.below (by assumption) H;refine Exists.intro _ (And.intro rfl ?_);refine And.intro (fits (by simp only[List.length_cons,List.length_nil];omega)) ?_;rintro _ rfl)
   |(refine az (rZ (by assumption) (by omega) _ _) ?_;rintro _ u ⟨rfl,e⟩;exact And.intro rfl e)
   |refine And.intro ?_ ?_)
 intro d9 X
 clear bq
 obtain⟨c1,b2⟩:∃x,x=ce++opt (!(h.domain==[])) (pD++pX h.domain):=⟨_,rfl⟩
 have dc:c1.length <=4:=by rw[b2,List.length_append];exact Nat.add_le_add c9 (O _ _)
 rw[<- b2]at X
 refine⟨rfl,_,KR.get ax rfl X rfl,?_⟩
 refine⟨rfl,_,KR.get ax rfl X rfl,fits (by simp only[List.length_cons,List.length_nil];omega),?_⟩
 rintro _ rfl
 refine az (rZ X (by omega) _ _) ?_
 rintro _ w7 ⟨rfl,Y⟩
 refine⟨rfl,?_⟩
 obtain⟨cf,b3⟩:∃x,x=c1++opt (!(h.path==[])) (pP++h.path):=⟨_,rfl⟩
 have dd:cf.length <=5:=by rw[b3,List.length_append];exact Nat.add_le_add dc (O _ _)
 replace Y:OW w q D h cf w7:=by rw[b3];exact Y
 clear X
 refine⟨rfl,_,KR.get bA rfl Y rfl,?_⟩
 refine az (rZ Y (by omega) _ _) ?_
 rintro _ w8 ⟨rfl,Z⟩
 refine⟨rfl,?_⟩
 obtain⟨ch,b4⟩:∃x,x=cf++opt h.sec pS:=⟨_,rfl⟩
 have de:ch.length <=6:=by rw[b4,List.length_append];exact Nat.add_le_add dd (O _ _)
 replace Z:OW w q D h ch w8:=by rw[b4];exact Z
 clear Y
 refine⟨rfl,_,KR.get bA rfl Z rfl,?_⟩
 refine az (rZ Z (by omega) _ _) ?_
 rintro _ w9 ⟨rfl,M⟩
 refine⟨rfl,?_⟩
 obtain⟨x6,b5⟩:∃x,x=ch++opt h.http pH:=⟨_,rfl⟩
 have dg:x6.length <=7:=by rw[b5,List.length_append];exact Nat.add_le_add de (O _ _)
 replace M:OW w q D h x6 w9:=by rw[b5];exact M
 clear Z
 obtain⟨x7,an⟩:∃x,x=x6++opt (decide (0<h.same)&&decide (h.same <=3)) (pM++nmL[h.same.toNat]?.getD []):=⟨_,rfl⟩
 have d4:x7.length <=8:=by rw[an,List.length_append];exact Nat.add_le_add dg (O _ _)
 have ar:tV h=x7:=by subst an;subst b5;subst b4;subst b3;subst b2;subst b1;subst b0;subst bz;rfl
 have b7:(Lib.join x7 [59,32]).length <=1000000:=by rw[<- ar];exact X9 h G
 refine qs (λb w'=>b=(decide (0<h.same)&&decide (h.same <=3))/\OW w q D h x6 w') ?_ ?_
 ·refine⟨rfl,_,KR.get br rfl M rfl,?_⟩
  refine ai.of (λE=>?_) (λE=>?_) <;> simp only[dTx,dFx,gt_iff_lt]at E
  ·exact⟨rfl,_,KR.get br rfl M rfl,by rw[decide_eq_true E];rfl,M⟩
  ·exact⟨by rw[decide_eq_false E];rfl,M⟩
 rintro b w10 ⟨cl,S⟩
 refine ai.of (λE=>?_) (λE=>?_)
 ·rw[cl]at E
  have dl:0<h.same/\h.same <=3:=by simpa using E
  have bk:x7=x6++opt true (pM++nmL[h.same.toNat]?.getD []):=by rw[an,E]
  have c6:((h.same.toNat:Nat):Int)=h.same:=by omega
  have cp:∀u,(Instr.index kQ nmV (vI h.same)).run prog u=.ok (vS (nmL[h.same.toNat]?.getD [])) u:=λu=>by
   have:=Qr u h.same.toNat (by omega)
   rwa [c6]at this
  have d5:(nmL[h.same.toNat]?.getD []).length <=6:=by
   have:∀k:Nat,k<4->(nmL[k]?.getD []).length <=6:=by decide
   exact this _ (by omega)
  have U:=S.below (bD _)
  clear M
  refine⟨rfl,?_,?_⟩
  ·refine az (zb _) ?_
   rintro _ u ⟨rfl,H⟩
   have e:=U.below H
   refine⟨_,_,_,_,rfl,_,KR.get br rfl e rfl,_,cp u,fits (by simp only[List.length_cons,List.length_nil];omega),?_⟩
   rintro _ rfl
   refine az (rZ e (by omega) _ _) ?_
   rintro _ u2 ⟨rfl,bs⟩
   have ac:OW w q D h x7 u2:=by rw[bk];exact bs
   refine⟨rfl,?_⟩
   exact JJ x7 ac (by omega) b7 (λv w'=>v=vS (cX h)/\bW w w') λw' aj=>⟨by rw[cX,ar],aj⟩
  ·refine⟨_,KR.get br rfl U rfl,?_⟩
   refine az (zb _) ?_
   rintro _ u ⟨rfl,H⟩
   have e:=U.below H
   refine⟨_,_,_,_,rfl,_,cp u,fits (by simp only[List.length_cons,List.length_nil];omega),?_⟩
   rintro _ rfl
   refine az (rZ e (by omega) _ _) ?_
   rintro _ u2 ⟨rfl,bs⟩
   have ac:OW w q D h x7 u2:=by rw[bk];exact bs
   refine⟨rfl,?_⟩
   exact JJ x7 ac (by omega) b7 (λv w'=>v=vS (cX h)/\bW w w') λw' aj=>⟨by rw[cX,ar],aj⟩
 ·rw[cl]at E
  have bk:x7=x6:=by rw[an,E];exact List.append_nil _
  have ac:OW w q D h x7 w10:=by rw[bk];exact S
  exact JJ x7 ac (by omega) b7 (λv w'=>v=vS (cX h)/\bW w w') λw' aj=>⟨by rw[cX,ar],aj⟩
noncomputable def ij (h:Hdr):Bool:=decide ((bB (cX h)).2=0)&&CB (bB (cX h)).1 h
theorem xJ (h:Hdr)(w:World){R:Nat->World->Prop}(E:∀k wx,k=w.heap.size->av wx k aq h.cells->bW w wx->R k wx):
 ∀(k:Nat) (e:World),k=w.heap.size->e=w.alloc (.cells #[vS [],vS [],vS [],vS [],.bool false,vI 0,.bool false,vI 0,.bool false,.bool false,vI 0] aq)->
  ∃(wx:World),(Instr.storeAt aq (.pointer (some ⟨k,0,none⟩)) h.v).run prog e=.ok () wx/\R k wx:=by
 intro k e q D
 have hB:=(D▸au w _:bW w e)
 obtain⟨wx,M,H,I⟩:=za h (av.new q D:av e k aq iJ.cells) rfl
 exact⟨wx,M,E k wx q H (hB.grown I hB.size λx G=>by cases G;omega)⟩
theorem uT (h:Hdr)(w:World){w1:World}(q:k=w.heap.size)(e:w1=w.alloc (.cells h.cells.toArray aq)):av w1 k aq h.cells/\bW w w1:=
 ⟨av.new q e,e▸au w _⟩
theorem Hd (h g:Hdr):eqV prog 10000 aq h.v g.v=some (CB h g):=by kernel_rfl
theorem AD:prog.eqGuardType prog.depth aq=false:=by kernel_rfl
theorem W5 (h g:Hdr){x y:Operand}(w:World):((do eqGuard .eql aq x y h.v g.v;binOp .eql aq h.v g.v:Sem Value)).run prog w=.ok (.bool (CB h g)) w:=
 QL AD (Hd h g) w
theorem JF (h:Hdr)(V:A2 h)(w:World)(O:Env w):Cf Ai #[h.v] w (Ret λv w'=>v=.bool (ij h)/\bW w w'):=by
 refine Iz h.name h.value h.domain h.path h.hasE h.exp h.hasA h.age h.sec h.http h.same ?_
 intro a0 aj ad ag
 obtain⟨U,q⟩:=uT h w ad ag
 refine⟨h.name,h.value,h.domain,h.path,h.hasE,h.exp,h.hasA,h.age,h.sec,h.http,h.same,fX h U,?_⟩
 refine az (Hl h V aj (O.step q)) ?_
 rintro _ al ⟨rfl,H⟩
 have D:=ah q H q.size
 have Y:=U.below H
 refine⟨_,rfl,?_⟩
 refine az (C5 (cX h) (by have:=X9 h V;unfold cX;omega) al (O.step D)) ?_
 rintro _ an ⟨rfl,I⟩
 have E:=ah D I D.size
 have Z:=Y.below I
 refine⟨_,_,_,_,_,_,_,_,_,_,_,_,rfl,?_⟩
 refine xJ (bB (cX h)).1 an λa8 a9 ar X M=>?_
 have G:=ah E M E.size
 have ac:=Z.below M
 refine ai.of (λe=>?_) (λe=>?_)
 ·rw[beq_iff_eq]at e
  refine⟨_,_,_,_,_,_,_,_,_,_,_,fX _ X,_,_,_,_,_,_,_,_,_,_,_,fX _ ac,_,W5 _ _ _,?_,G⟩
  rw[ij,decide_eq_true e];rfl
 ·rw[beq_eq_false_iff_ne]at e
  refine⟨?_,G⟩
  rw[ij,decide_eq_false e];rfl
abbrev Vp (w:World)(v:Value)(w':World):Prop:=v=.bool true/\bW w w'
theorem DQ:∀(a cur r:List UInt8) (c:UInt8),(∀x∈a,vC x=false)->vC c=true->xB cur (a++c::r)=(cur++a)::xB [] r
 |[],cur,r,c,_,e=>by
  show(if vC c=true then _ else _)=_
  rw[if_pos e,List.append_nil]
 |x::a,cur,r,c,q,e=>by
  have D:=q x List.mem_cons_self
  show(if vC x=true then _ else _)=_
  rw[if_neg (by rw[D];decide)]
  exact(DQ a (cur++[x]) r c (λy E=>q y (List.mem_cons_of_mem _ E)) e).trans (by simp)
theorem Qh:∀(a r:List UInt8),(∀x∈a,gO x=true)->fI (a++r)=a++fI r
 |[],r,_=>rfl
 |x::a,r,h=>by
  unfold fI
  rw[List.cons_append,List.takeWhile_cons,if_pos (h x List.mem_cons_self)]
  show x::fI (a++r)=_
  rw[Qh a r λy e=>h y (List.mem_cons_of_mem _ e)];rfl
theorem zx (n:Int):∀x∈gU n,gO x=true:=by
 intro x e
 simp only[gU,List.mem_cons,List.mem_nil_iff,or_false]at e
 rcases e with rfl|rfl
 ·exact(sK _).1
 ·exact(sK _).1
theorem N7:∀n,n<256->gO (UInt8.ofNat n)=true->vC (UInt8.ofNat n)=false:=by decide+kernel
theorem FX {x:UInt8}(h:gO x=true):vC x=false:=by
 have:=N7 x.toNat (by have:=x.toNat_lt;omega)
 rw[UInt8.ofNat_toNat]at this;exact this h
theorem X2 {n:Int}(e:0 <=n)(h1:n<100):jT (gU n)=n:=by
 have h:=(sK (n/10)).2
 have q:=(sK n).2
 show(0*10+(((Ju (n/10)).toNat:Int)-48))*10+(((Ju n).toNat:Int)-48)=n
 omega
theorem Ye {n:Int}(e:0 <=n)(h1:n<10000):jT (gU (n/100)++gU (n%100))=n:=by
 have h:=(sK (n/100/10)).2
 have q:=(sK (n/100)).2
 have D:=(sK (n%100/10)).2
 have E:=(sK (n%100)).2
 show(((0*10+(((Ju (n/100/10)).toNat:Int)-48))*10+(((Ju (n/100)).toNat:Int)-48))*10+(((Ju (n%100/10)).toNat:Int)-48))*10+(((Ju (n%100)).toNat:Int)-48)=n
 omega
theorem Kx {s u:List UInt8}(D:xm i s=some u){n:Int}(e:u=gU n++r)(G:fI r=[])(q:0 <=n)(h1:n<100):IK i s=some (n,r):=by
 unfold IK
 have E:fI u=gU n:=by rw[e,Qh _ _ (zx n),G,List.append_nil]
 rw[D,Option.bind_some,E,if_pos ⟨by rw[aY];decide,by rw[aY];decide⟩,X2 q h1,e]
 rfl
theorem Rc {s:Int}(q:0 <=s)(h1:s<86400):kj (rI s)=some [s/3600,s/60%60,s%60]:=by
 have e:rI s=gU (s/3600)++(58::(gU (s/60%60)++(58::gU (s%60)))):=by simp[rI]
 unfold kj
 rw[e]
 unfold gM
 rw[Kx (u:=_) (n:=s/3600) rfl rfl rfl (by omega) (by omega),Option.bind_some]
 unfold gM
 rw[Kx (i:=1) (u:=gU (s/60%60)++(58::gU (s%60))) rfl rfl rfl (by omega) (by omega),Option.bind_some]
 unfold gM
 rw[Kx (i:=2) (u:=gU (s%60)) (r:=[]) rfl (List.append_nil _).symm rfl (by omega) (by omega),Option.bind_some]
 rfl
theorem L7 (h:∀c r,s.drop (fI s).length=c::r->c≠58):kj s=none:=by
 unfold kj gM
 have e:IK 0 s=su s:=rfl
 rw[e]
 unfold su
 split
 ·rw[Option.bind_some]
  have:gM 2 (0+1) (s.drop (fI s).length)=none:=by
   rw[kL]
   have q:xm (0+1) (s.drop (fI s).length)=none:=by
    unfold xm
    rw[if_neg (by decide)]
    cases D:s.drop (fI s).length with
    |nil=>rfl
    |cons c r=>rw[if_neg (by have:=h c r D;simpa using this)]
   rw[q];rfl
  show(gM 2 (0+1) (s.drop (fI s).length)).map _=none
  rw[this];rfl
 ·rfl
theorem Wn {f:Fnd}{d:Int}(D:0 <=d)(h1:d<100)(G:f.day=false):xa f (gU d)= { f with d:=d,day:=true } :=by
 have q:fI (gU d)=gU d:=by have:=Qh (gU d) [] (zx d);rw[List.append_nil]at this;rw[this];exact List.append_nil _
 have E:kj (gU d)=none:=L7 λc r h=>by rw[q,List.drop_length]at h;cases h
 rcases yK f (gU d)with⟨_,_,_,h,_⟩|⟨_,e⟩
 ·rw[E]at h;cases h
 ·rw[e,if_pos ⟨by unfold oX;rw[q];rfl,G⟩,q,X2 D h1]
theorem Ok:∀k:Nat,k<12->kj (zJ ((k:Int)+1))=none/\oX (zJ ((k:Int)+1)) 1 2=false/\ny (zJ ((k:Int)+1))=(k:Int)+1/\(zJ ((k:Int)+1)).all (λx=> !vC x)=true:=by decide+kernel
theorem Wo {f:Fnd}{m:Int}(H:1 <=m)(h1:m <=12)(G:f.month=false):xa f (zJ m)= { f with m:=m,month:=true } :=by
 have h:=Ok (m-1).toNat (by omega)
 rw[show(((m-1).toNat:Nat):Int)+1=m by omega]at h
 obtain⟨q,D,E,_⟩:=h
 rcases yK f (zJ m)with⟨_,_,_,h,_⟩|⟨_,e⟩
 ·rw[q]at h;cases h
 ·rw[e,if_neg (λh=>by rw[D]at h;cases h.1),if_pos ⟨by omega,G⟩,E]
theorem UO {f:Fnd}{y:Int}(D:0 <=y)(h1:y<10000)(I:f.month=true)(H:f.year=false):xa f (gU (y/100)++gU (y%100))= { f with y:=y,year:=true } :=by
 have E:∀x∈gU (y/100)++gU (y%100),gO x=true:=λx U=>(List.mem_append.1 U).elim (zx _ x) (zx _ x)
 have q:fI (gU (y/100)++gU (y%100))=gU (y/100)++gU (y%100):=by have:=Qh _ [] E;rw[List.append_nil]at this;rw[this];exact List.append_nil _
 have G:kj (gU (y/100)++gU (y%100))=none:=L7 λc r h=>by rw[q,List.drop_length]at h;cases h
 rcases yK f (gU (y/100)++gU (y%100))with⟨_,_,_,h,_⟩|⟨_,e⟩
 ·rw[G]at h;cases h
 ·have M:oX (gU (y/100)++gU (y%100)) 1 2=false:=by unfold oX;rw[q];rfl
  have O:oX (gU (y/100)++gU (y%100)) 2 4=true:=by unfold oX;rw[q];rfl
  rw[e,if_neg (λh=>by rw[M]at h;cases h.1),if_neg (λh=>by rw[I]at h;cases h.2),if_pos ⟨O,H⟩,q,Ye D h1]
theorem TO {f:Fnd}{s:Int}(e:0 <=s)(h1:s<86400)(q:f.time=false):xa f (rI s)= { f with s0:=s/3600,s1:=s/60%60,s2:=s%60,time:=true } :=zw (Rc e h1) q
theorem UN {f:Fnd}(h1:f.day=true)(q:f.month=true)(D:f.year=true)(E:f.time=true):xa f s=f:=by
 rcases yK f s with⟨_,_,_,_,h,_⟩|⟨_,e⟩
 ·rw[E]at h;cases h
 ·rw[e,if_neg (λh=>by rw[h1]at h;cases h.2),if_neg (λh=>by rw[q]at h;cases h.2),if_neg (λh=>by rw[D]at h;cases h.2)]
theorem RI:∀k:Nat,k<7->(rQ (k:Int)).all (λx=> !vC x)=true:=by decide
theorem U0:∀k:Nat,k<7->xa EB (rQ (k:Int))=EB
 |0,_=>by kernel_rfl
 |1,_=>by kernel_rfl
 |2,_=>by kernel_rfl
 |3,_=>by kernel_rfl
 |4,_=>by kernel_rfl
 |5,_=>by kernel_rfl
 |6,_=>by kernel_rfl
 |n+7,h=>by omega
def PO (c:UInt8)(y m d s:Int):List UInt8:=gU d++c::(zJ m++c::((gU (y/100)++gU (y%100))++c::(rI s++c::[71,77,84])))
def Pn (y m d s:Int):Fnd:=⟨true,true,true,true,s/3600,s/60%60,s%60,y,m,d⟩
theorem Rb {s:Int}(x:UInt8)(h:x∈rI s):vC x=false:=by
 unfold rI at h
 simp only[List.mem_append,List.mem_singleton]at h
 rcases h with(((h|h)|h)|h)|h
 ·exact FX (zx _ x h)
 ·subst h;decide
 ·exact FX (zx _ x h)
 ·subst h;decide
 ·exact FX (zx _ x h)
theorem TJ {c:UInt8}(q:vC c=true){y m d s:Int}(h:cH y m d)(M:0 <=s)(h1:s<86400)(r:List UInt8)(ag:r=[]\/∃V,r=c::V):
 (xB [] (PO c y m d s++r)).foldl xa EB=Pn y m d s:=by
 obtain⟨X,Y,H,I,Z,ac⟩:=h
 have ad:=pd y m
 have D:=Ok (m-1).toNat (by omega)
 rw[show(((m-1).toNat:Nat):Int)+1=m by omega]at D
 have O:∀x∈zJ m,vC x=false:=λx e=>by have:=List.all_eq_true.1 D.2.2.2 x e;simpa using this
 have E:PO c y m d s++r=gU d++c::(zJ m++c::((gU (y/100)++gU (y%100))++c::(rI s++c::([71,77,84]++r)))):=by simp[PO]
 rw[E,DQ _ _ _ _ (λx e=>FX (zx _ x e)) q,DQ _ _ _ _ O q,
  DQ _ _ _ _ (λx e=>FX ((List.mem_append.1 e).elim (zx _ x) (zx _ x))) q,DQ _ _ _ _ Rb q]
 simp only[List.nil_append,List.foldl_cons]
 rw[Wn (by omega) (by omega) rfl,Wo H I rfl,UO (by omega) (by omega) rfl rfl,TO M h1 rfl]
 have G:∀l:List (List UInt8),l.foldl xa (Pn y m d s)=Pn y m d s:=by
  intro l
  induction l with
  |nil=>rfl
  |cons x l U=>rw[List.foldl_cons,UN rfl rfl rfl rfl,U]
 exact G _
theorem SA {t y m d:Int}(h:cH y m d)(D:fx y m d=t/86400):ug (Pn y m d (t%86400))=.tuple #[vI t,.bool true]:=by
 have h1:=h.1
 have e:oJ y=y:=by unfold oJ;rw[if_neg (by omega),if_neg (by omega)]
 have q:we (Pn y m d (t%86400)):=by
  refine⟨?_,rfl,rfl,?_,?_,?_⟩
  ·show cH (oJ y) m d
   rw[e];exact h
  ·show t%86400/3600 <=23;omega
  ·show t%86400/60%60 <=59;omega
  ·show t%86400%60 <=59;omega
 unfold ug
 rw[if_pos q]
 have:rJ (Pn y m d (t%86400))=t:=by
  show fx (oJ y) m d*86400+t%86400/3600*3600+t%86400/60%60*60+t%86400%60=t
  rw[e,D];omega
 rw[this]
theorem RD (n y m d s:Int):xO n y m d s=rQ (n%7)++44::32::PO 32 y m d s:=by simp[xO,PO]
theorem TM {n y m d s:Int}(h:cH y m d)(E:0 <=s)(h1:s<86400):qh (xO n y m d s)=Pn y m d s:=by
 have e:=RI (n%7).toNat (by omega)
 have q:=U0 (n%7).toNat (by omega)
 rw[show(((n%7).toNat:Nat):Int)=n%7 by omega]at e q
 unfold qh
 rw[RD,DQ _ _ _ _ (λx G=>by have:=List.all_eq_true.1 e x G;simpa using this) (by decide)]
 have D:xB [] (32::PO 32 y m d s)=[]::xB [] (PO 32 y m d s):=rfl
 rw[D,List.foldl_cons,List.foldl_cons,List.nil_append,q,QQ]
 have:=TJ (c:=32) (by decide) h E h1 [] (.inl rfl)
 rwa [List.append_nil]at this
def Lok (s:List UInt8):Prop:=ik lH s=s
def Hok (s:List UInt8):Prop:=s.dropWhile lH=s
theorem Pf (p:UInt8->Bool):∀s:List UInt8,(s.dropWhile p).dropWhile p=s.dropWhile p
 |[]=>rfl
 |x::s=>by
  by_cases h:p x=true
  ·rw[List.dropWhile_cons,if_pos h];exact Pf p s
  ·rw[List.dropWhile_cons,if_neg h,List.dropWhile_cons,if_neg h]
theorem QR (s:List UInt8):Hok (cq s):=by unfold Hok cq;rw[<- Ed];exact Pf _ _
theorem QS (s:List UInt8):Lok (cq s):=by unfold Lok cq r3 ik;rw[List.reverse_reverse,Pf]
theorem xb (h:Hok s)(l:Lok s):cq s=s:=by
 unfold cq r3
 rw[show s.dropWhile lH=s from h];exact l
theorem zY:cq s=s ↔ Hok s/\Lok s:=⟨λh=>⟨h▸QR s,h▸QS s⟩,λh=>xb h.1 h.2⟩
theorem rD {c:UInt8}(h:lH c=false):Hok (c::s):=by unfold Hok;rw[List.dropWhile_cons,if_neg (by rw[h];decide)]
theorem vH {c:UInt8}(h:Lok s)(q:s≠[]\/lH c=false):Lok (c::s):=by
 unfold Lok
 rw[zr,show ik lH s=s from h]
 by_cases e:s=[]
 ·subst e
  have:lH c=false:=q.resolve_left λh=>h rfl
  rw[this];rfl
 ·rw[if_neg e]
theorem Tb:∀(a:List UInt8) {s:List UInt8},Lok s->s≠[]->Lok (a++s)
 |[],_,h,_=>h
 |c::a,s,h,e=>vH (Tb a h e) (.inl λq=>e (List.append_eq_nil_iff.1 q).2)
theorem Uz {c:UInt8}(h:Lok (c::s)):Lok s:=by
 unfold Lok at h ⊢
 rw[zr]at h
 split at h
 ·rename_i h1
  split at h
  ·cases h
  ·injection h with _ h2;rw[h1];exact h2
 ·injection h
theorem Rr:∀n,n<256->lH (EE (UInt8.ofNat n))=lH (UInt8.ofNat n):=by decide+kernel
theorem Xa (c:UInt8):lH (EE c)=lH c:=by
 have:=Rr c.toNat (by have:=c.toNat_lt;omega)
 rwa [UInt8.ofNat_toNat]at this
theorem Pv:∀n,n<256->EE (EE (UInt8.ofNat n))=EE (UInt8.ofNat n):=by decide+kernel
theorem V9 (s:List UInt8):cN (cN s)=cN s:=by
 unfold cN
 rw[List.map_map]
 refine List.map_congr_left λc _=>?_
 have:=Pv c.toNat (by have:=c.toNat_lt;omega)
 rw[UInt8.ofNat_toNat]at this
 exact this
theorem Sm:∀s:List UInt8,(cN s).dropWhile lH=cN (s.dropWhile lH)
 |[]=>rfl
 |c::s=>by
  show(EE c::cN s).dropWhile lH=_
  rw[List.dropWhile_cons,List.dropWhile_cons,Xa]
  split
  ·exact Sm s
  ·rfl
theorem Tf (s:List UInt8):(cN s).reverse=cN s.reverse:=by unfold cN;rw[List.map_reverse]
theorem Tc (h:Lok s):Lok (cN s):=by
 unfold Lok ik at*
 rw[Tf,Sm,Tf,h]
def Clean (s:List UInt8):Prop:=∀c∈s,jP c=false/\c≠59
def okB (c:UInt8):Bool:= !jP c && !(c==59)
theorem JV {c:UInt8} :okB c=true ↔ jP c=false/\c≠59:=by simp[okB]
theorem gK (h:s.all okB=true):Clean s:=λc e=>JV.1 (List.all_eq_true.1 h c e)
theorem FU:Clean []:=λ_ h=>by cases h
theorem fL {a b:List UInt8}(h:Clean a)(k:Clean b):Clean (a++b):=λc e=>(List.mem_append.1 e).elim (h c) (k c)
theorem FV {a b:List UInt8}(h:Clean b)(k:∀c∈a,c∈b):Clean a:=λc e=>h c (k c e)
theorem L6 (h:Clean s):Clean (cq s):=FV h (Mp _ _)
theorem Nk:∀n,n<256->okB (UInt8.ofNat n)=true->okB (EE (UInt8.ofNat n))=true:=by decide+kernel
theorem R3 (h:Clean s):Clean (cN s):=by
 intro c e
 obtain⟨d,q,rfl⟩:=List.mem_map.1 e
 have:=Nk d.toNat (by have:=d.toNat_lt;omega)
 rw[UInt8.ofNat_toNat]at this
 exact JV.1 (this (JV.2 (h d q)))
theorem MW:∀n,n<256->gO (UInt8.ofNat n)=true->okB (UInt8.ofNat n)=true/\lH (UInt8.ofNat n)=false:=by decide+kernel
theorem oY {c:UInt8}(h:gO c=true):(jP c=false/\c≠59)/\lH c=false:=by
 have:=MW c.toNat (by have:=c.toNat_lt;omega)
 rw[UInt8.ofNat_toNat]at this
 exact⟨JV.1 (this h).1,(this h).2⟩
theorem Jp (h:Clean s):Clean (dE s):=L6 (FV h λc e=>(List.takeWhile_sublist _).subset e)
theorem Jo (h:Clean s):Clean (du s):=L6 (FV h λc e=>(List.dropWhile_sublist _).subset (List.mem_of_mem_drop e))
theorem Ww:∀k:Nat,k<7->(rQ (k:Int)).all (λc=>okB c && !lH c)=true/\rQ (k:Int)≠[]:=by decide
theorem Xc:∀k:Nat,k<12->(zJ ((k:Int)+1)).all okB=true:=by decide
theorem RE {f:Fnd}(E:FQ f)(e:we f):qh (lK (rJ f))=qh (lK (rJ f))/\we (qh (lK (rJ f)))/\rJ (qh (lK (rJ f)))=rJ f/\cq (lK (rJ f))=lK (rJ f)/\Clean (lK (rJ f))/\(-9223372036854775808 <=rJ f/\rJ f <=9223372036854775807):=by
 obtain⟨D,-,-,Y,Z,ac⟩:=e
 have ad:=Jt D
 have O:rJ f/86400=fx (oJ f.y) f.m f.d:=by
  unfold rJ;have:=E.s0;have:=E.s1;have:=E.s2;omega
 have M:=zW D O.symm
 have V:=TM (n:=rJ f/86400) (s:=rJ f%86400) D (by omega) (by omega)
 have q:=SA D O.symm
 rw[<- M]at V
 rw[<- V]at q
 unfold ug at q
 by_cases I:we (qh (lK (rJ f)))
 ·rw[if_pos I]at q
  injection q with q
  have X:rJ (qh (lK (rJ f)))=rJ f:=by
   have:=congrArg (λa:Array Value=>a[0]?) q
   simpa using this
  have H:=Ww (rJ f/86400%7).toNat (by omega)
  rw[show(((rJ f/86400%7).toNat:Nat):Int)=rJ f/86400%7 by omega]at H
  have U:=Xc (f.m-1).toNat (by have:=D.2.2.1;have:=D.2.2.2.1;omega)
  rw[show(((f.m-1).toNat:Nat):Int)+1=f.m by have:=D.2.2.1;omega]at U
  refine⟨rfl,I,X,?_,?_,?_⟩
  ·rw[M]
   refine xb ?_ ?_
   ·unfold xO
    cases e:rQ (rJ f/86400%7)with
    |nil=>exact absurd e H.2
    |cons c r=>
     have:=List.all_eq_true.1 H.1 c (by rw[e];exact List.mem_cons_self)
     simp only[List.cons_append]
     exact rD (by rw[Bool.and_eq_true]at this;simpa using this.2)
   ·unfold xO
    exact Tb _ (show Lok [32,71,77,84] from rfl) (by simp)
  ·rw[M]
   have G:∀n,Clean (gU n):=λn c e=>(oY (zx n c e)).1
   unfold xO rI
   refine fL (fL (fL (fL (fL (fL (fL (fL (fL ?_ ?_) (G _)) ?_) ?_) ?_) (fL (G _) (G _))) ?_) (fL (fL (fL (fL (G _) ?_) (G _)) ?_) (G _))) ?_
   ·intro c e
    have:=List.all_eq_true.1 H.1 c e
    rw[Bool.and_eq_true]at this
    exact JV.1 this.1
   ·exact gK (by decide)
   ·exact gK (by decide)
   ·exact gK U
   ·exact gK (by decide)
   ·exact gK (by decide)
   ·exact gK (by decide)
   ·exact gK (by decide)
   ·exact gK (by decide)
  ·have:=E.s0;have:=E.s1;have:=E.s2
   unfold rJ;omega
 ·rw[if_neg I]at q
  have:=congrArg (λv:Value=>match v with|.tuple a=>a[1]?|_=>none) q
  simp at this
structure Good (h:Hdr):Prop where
 nc:Clean h.name
 vc:Clean h.value
 nt:cq h.name=h.name
 vt:cq h.value=h.value
 ne:∀c∈h.name,c≠61
 nz:h.name++h.value≠[]
 nl:h.name.length+h.value.length <=4096
 dc:Clean h.domain
 de:Lok h.domain
 dl:cN h.domain=h.domain
 dn:(pX h.domain).length <=1024
 pc:Clean h.path
 pt:cq h.path=h.path
 ph:h.path=[]\/h.path.head?=some 47
 pl:h.path.length <=1024
 ex:if h.hasE=true then we (qh (lK h.exp))/\rJ (qh (lK h.exp))=h.exp/\cq (lK h.exp)=lK h.exp/\Clean (lK h.exp)/\(-9223372036854775808 <=h.exp/\h.exp <=9223372036854775807)else h.exp=0
 ag:0 <=h.age/\h.age <=34560000/\(h.hasA=false->h.age=0)
 sm:0 <=h.same/\h.same <=3
theorem QZ {n:Int}(h:Ce s=some n):0 <=n/\n <=34560000:=by
 unfold Ce at h
 split at h
 ·split at h
  ·cases h;decide
  ·cases h
 ·split at h
  ·rename_i e
   have:=(lM s 0 (by decide) (λc q=>by
    unfold fi at e
    rw[Bool.and_eq_true]at e
    exact List.all_eq_true.1 e.2 c q)).1
   have D:min (jT s) 34560000=n:=Option.some.inj h
   have E:0 <=jT s:=this
   omega
  ·cases h
theorem PJ (v:List UInt8):0 <=Dn v/\Dn v <=3:=by unfold Dn;split;decide;split;decide;split <;> decide
theorem Uj {v:List UInt8}(H:cq v=v)(G:v.length <=1024):(pX (cN (if v.head?=some 46 then v.drop 1 else v))).length <=1024:=by
 split
 ·rename_i h
  have h1:=MX (cN (v.drop 1))
  have q:(cN (v.drop 1)).length=v.length-1:=by unfold cN;simp
  have I:0<v.length:=by cases v with
   |nil=>cases h
   |cons=>simp
  omega
 ·rename_i h
  have h1:cq (cN v)=cN v:=by
   obtain⟨a,b⟩:=zY.1 H
   refine xb ?_ (Tc b)
   unfold Hok;rw[Sm,show v.dropWhile lH=v from a]
  have q:(cN v).head?≠some 46:=by
   intro e
   cases v with
   |nil=>cases e
   |cons c v=>
    have D:EE c=46:=Option.some.inj e
    have E:∀n,n<256->EE (UInt8.ofNat n)=46->UInt8.ofNat n=46:=by decide+kernel
    have:=E c.toNat (by have:=c.toNat_lt;omega)
    rw[UInt8.ofNat_toNat]at this
    exact h (by rw[this D];rfl)
  unfold pX
  rw[if_pos ⟨h1,q⟩]
  unfold cN;simpa using G
theorem RV {h:Hdr}(g:Good h)(key:List UInt8){v:List UInt8}(D:cq v=v)(e:Clean v)(E:v.length <=1024):Good (jS h key v):=by
 unfold jS
 split
 ·split
  ·rename_i U
   have O:FQ (qh v):=FJ _ Fu
   obtain⟨-,h1,G,H,I,M⟩:=RE O U
   exact{ g with ex:=by show if true=true then _ else _;rw[if_pos rfl];exact⟨h1,G,H,I,M⟩ }
  ·exact g
 split
 ·split
  ·rename_i n V
   have:=QZ V
   exact{ g with ag:=⟨this.1,this.2,λh=>by cases h⟩ }
  ·exact g
 split
 ·refine{ g with dc:=R3 ?_,de:=Tc ?_,dl:=V9 _,dn:=Uj D E }
  ·split
   ·exact FV e λc e=>List.mem_of_mem_drop e
   ·exact e
  ·have:=(zY.1 D).2
   split
   ·cases v with
    |nil=>exact this
    |cons c v=>exact Uz this
   ·exact this
 split
 ·by_cases q:v.head?=some 47
  ·rw[if_pos q]
   exact{ g with pc:=e,pt:=D,ph:=.inr q,pl:=E }
  ·rw[if_neg q]
   exact{ g with pc:=FU,pt:=rfl,ph:=.inl rfl,pl:=(show([]:List UInt8).length <=1024 by decide) }
 split
 ·exact{ g with }
 split
 ·exact{ g with }
 split
 ·exact{ g with sm:=PJ v }
 ·exact g
theorem GJ (s:List UInt8):cq (cq s)=cq s:=zY.2 ⟨QR s,QS s⟩
theorem TE {h:Hdr}(g:Good h){x:List UInt8}(e:Clean x):Good (cW h x):=by
 unfold cW
 split
 ·rename_i q
  exact RV g _ (GJ _) (Jo e) q
 ·exact g
theorem Oc:∀(l:List (List UInt8)) {h:Hdr},Good h->(∀x∈l,Clean x)->Good (l.foldl cW h)
 |[],_,g,_=>g
 |x::l,_,g,e=>Oc l (TE g (e x List.mem_cons_self)) λy q=>e y (List.mem_cons_of_mem _ q)
theorem pV {h:Hdr}(e:bB s=(h,0)):Good h:=by
 unfold bB at e
 split at e
 ·cases e
 split at e
 ·cases e
 split at e
 ·cases e
 rename_i h1 O V
 obtain⟨rfl,-⟩:=Prod.mk.inj e
 have M:∀x∈bY 59 [] s,Clean x:=λx H c q=>by
  obtain⟨E,U⟩:=MQ 59 s [] x H (λ_ h=>by cases h) c q
  refine⟨?_,U⟩
  rcases E with E|E
  ·cases E
  ·cases G:jP c
   ·rfl
   ·exact absurd (List.any_eq_true.2 ⟨c,E,G⟩) h1
 have I:Clean ((bY 59 [] s).headD []):=by
  have:=j7 59 s []
  cases G:bY 59 [] s with
  |nil=>exact absurd G this
  |cons x l=>exact M x (by rw[G];exact List.mem_cons_self)
 refine Oc _ ?_ λx H=>M x (List.mem_of_mem_drop H)
 generalize (bY 59 [] s).headD []=x at*
 have D:Clean (nameOf x).1/\Clean (nameOf x).2/\cq (nameOf x).1=(nameOf x).1/\cq (nameOf x).2=(nameOf x).2/\∀c∈(nameOf x).1,c≠61:=by
  unfold nameOf
  split
  ·refine⟨Jp I,Jo I,GJ _,GJ _,λc q=>?_⟩
   have h1:c∈x.takeWhile (· !=61):=Mp _ _ c q
   have:=List.all_eq_true.1 (List.all_takeWhile (p:=(· !=(61:UInt8))) (l:=x)) c h1
   simpa using this
  ·exact⟨FU,Jp I,rfl,GJ _,λc q=>by cases q⟩
 exact{ nc:=D.1,vc:=D.2.1,nt:=D.2.2.1,vt:=D.2.2.2.1,ne:=D.2.2.2.2,nz:=O,nl:=by show(nameOf x).1.length+(nameOf x).2.length <=4096;omega,dc:=FU,de:=rfl,dl:=rfl,dn:=by show(pX []).length <=1024;decide,pc:=FU,pt:=rfl,ph:=.inl rfl,pl:=(show([]:List UInt8).length <=1024 by decide),ex:=rfl,ag:=⟨Int.le_refl 0,(show(0:Int) <=34560000 by decide),λ_=>rfl⟩,sm:=⟨Int.le_refl 0,(show(0:Int) <=3 by decide)⟩ }
theorem VW {h:Hdr}(g:Good h):A2 h:=by
 have:=g.nl;have:=g.pl
 have D:h.domain.length <=(pX h.domain).length:=by unfold pX;split <;> simp
 have:=g.dn
 refine⟨by omega,by omega,by omega,by omega,?_,by have:=g.ag;omega⟩
 have e:=g.ex
 by_cases q:h.hasE=true
 ·rw[if_pos q]at e;exact e.2.2.2.2
 ·rw[if_neg q]at e;omega
def Lc:List UInt8:=[95,95,115,101,99,117,114,101,45]
def Mi:List UInt8:=[95,95,104,111,115,116,45]
def nj (s:List UInt8):Int:=if cN (s.take 9)=Lc then 1 else if cN (s.take 7)=Mi then 2 else 0
def qj (rs:List Rul)(u:Hst)(t:List UInt8):Hst×Bool×Int:=if t=[]then(u,true,0)else match dR t with
 |none=>(nG,false,101)
 |some d=>if(vf rs d && !iU d u)=true then(d,false,102)else if(!vi u d)=true then(d,false,103)else(d,vf rs d,0)
def Ql (h:Hdr)(now:Int):Int:=if h.hasA=true then i64.wrap (now+h.age)else if h.hasE=true then(if i64.wrap (now+34560000)<h.exp then i64.wrap (now+34560000)else h.exp)else 9223372036854775807
def qg (h:Hdr):List UInt8:=if h.name=[]then h.value else h.name
def sa (h:Hdr)(only:Bool):Bool:=if nj (qg h)=1 then !h.sec else if nj (qg h)=2 then(!h.sec || (!only || !(h.path==[47])))else false
noncomputable def FO (u:Url)(h:Hdr)(now:Int):Int:=if(!nB u)=true then 41 else if(!ij h)=true then 82 else if now<0 then 122 else if 1099511627776<now then 122 else 0
def zG (u:Url)(h:Hdr)(d:Hst×Bool×Int):Int:=
 if d.2.2≠0 then d.2.2 else if(h.sec && !u.sec)=true then 104 else if(decide (h.same=1) && !h.sec)=true then 105 else if sa h d.2.1=true then 106 else 0
def OY (u:Url)(h:Hdr)(d:Hst×Bool×Int)(now:Int):Cky:=⟨h.name,h.value,d.1,d.2.1,if h.path=[]then AA u.path else h.path,h.sec,h.http,h.same,Ql h now,now,now,0⟩
noncomputable def jZ (rs:List Rul)(u:Url)(h:Hdr)(now:Int):Cky×Int:=
 if FO u h now≠0 then(je,FO u h now)else if zG u h (qj rs u.host h.domain)≠0 then(je,zG u h (qj rs u.host h.domain))else(OY u h (qj rs u.host h.domain) now,0)
def U9 (x:Cky×Int):Value:=.tuple #[x.1.v,vI x.2]
theorem Sf {rs:List Rul}{u:Hst}(o:u.ok)(t:List UInt8):(qj rs u t).1.ok:=by
 unfold qj
 split
 ·exact o
 split
 ·rfl
 ·rename_i d e
  have:=mg e
  split
  ·exact this
  split <;> exact this
theorem BW {rs:List Rul}{u:Url}(o:u.ok)(h:Hdr)(now:Int):(jZ rs u h now).1.ok:=by
 unfold jZ
 split
 ·rfl
 split
 ·rfl
 ·exact Sf o _
theorem I7 (s:List UInt8)(w:World):Cf Af #[vS s] w (Ret λv w'=>v=vI (nj s)/\bW w w'):=by
 apply Iv
 refine⟨λm i w'=>bW w w'/\(m=3/\i=0\/m=2/\i=1\/m=1/\i=2/\cN (s.take 9)≠Lc\/m=0/\i=3/\cN (s.take 9)≠Lc/\cN (s.take 7)≠Mi),⟨3,Below.refl _ _,.inl ⟨rfl,rfl⟩⟩,?_⟩
 intro m i
 refine aP.of ?_ _
 rintro G ⟨hB,h⟩
 rcases h with⟨rfl,rfl⟩|⟨rfl,rfl⟩|⟨rfl,rfl,h1⟩|⟨rfl,rfl,h1,H⟩
 ·exact ai.yes (by decide) ⟨[],by kernel_rfl,ai.no (by decide) ⟨2,by decide,hB,.inr (.inl ⟨rfl,rfl⟩)⟩⟩
 ·refine ai.yes (by decide) ⟨Lc,by kernel_rfl,ai.yes (by decide) (ai.of (λc=>?_) (λc=>⟨1,by decide,hB,.inr (.inr (.inl ⟨rfl,rfl,?_⟩))⟩))⟩
  ·refine⟨⟨by omega,by simpa using c⟩,?_⟩
   rintro _ rfl
   refine az (pQ _ (by show(s.take 9).length <=_;rw[List.length_take];omega) G) ?_
   rintro _ I ⟨rfl,E⟩
   have q:=ah hB E hB.size
   refine⟨_,rfl,ai.of (λe=>⟨?_,q⟩) (λe=>⟨1,by decide,q,.inr (.inr (.inl ⟨rfl,rfl,beq_eq_false_iff_ne.1 e⟩))⟩)⟩
   have e:cN (s.take 9)=Lc:=eq_of_beq e
   unfold nj;rw[if_pos e]
  ·intro D
   have:=congrArg List.length D
   simp[cN,Lc]at this c;omega
 ·refine ai.yes (by decide) ⟨Mi,by kernel_rfl,ai.yes (by decide) (ai.of (λc=>?_) (λc=>⟨0,by decide,hB,.inr (.inr (.inr ⟨rfl,rfl,h1,?_⟩))⟩))⟩
  ·refine⟨⟨by omega,by simpa using c⟩,?_⟩
   rintro _ rfl
   refine az (pQ _ (by show(s.take 7).length <=_;rw[List.length_take];omega) G) ?_
   rintro _ I ⟨rfl,E⟩
   have q:=ah hB E hB.size
   refine⟨_,rfl,ai.of (λe=>⟨?_,q⟩) (λe=>⟨0,by decide,q,.inr (.inr (.inr ⟨rfl,rfl,h1,beq_eq_false_iff_ne.1 e⟩))⟩)⟩
   have e:cN (s.take 7)=Mi:=eq_of_beq e
   unfold nj;rw[if_neg h1,if_pos e]
  ·intro D
   have:=congrArg List.length D
   simp[cN,Mi]at this c;omega
 ·refine ai.no (by decide) ⟨?_,hB⟩
  unfold nj;rw[if_neg h1,if_neg H]
theorem Ig (h:Hdr)(now:Int)(w:World):Cf yQ #[h.v,vI now] w (Ret λv w'=>v=vI (Ql h now)/\bW w w'):=by
 refine Hs h.name h.value h.domain h.path h.hasE h.exp h.hasA h.age h.sec h.http h.same now ?_
 intro G H D E
 obtain⟨e,q⟩:=uT h w D E
 unfold Ql
 refine⟨rfl,_,e.load1 bA rfl rfl,ai.of (λc=>?_) (λc=>?_)⟩
 ·rw[if_pos c]
  exact⟨rfl,_,e.load1 bn rfl rfl,rfl,q⟩
 rw[if_neg (by rw[c];decide)]
 refine⟨rfl,_,e.load1 bA rfl rfl,ai.of (λc=>?_) (λc=>?_)⟩
 ·rw[if_pos c]
  exact⟨rfl,_,e.load1 bn rfl rfl,_,run_min_int2 _ _ _ _ _ _ _,rfl,q⟩
 ·rw[if_neg (by rw[c];decide)]
  exact⟨rfl,q⟩
theorem I8 (h:Hdr)(only:Bool)(w:World):Cf Ag #[h.v,.bool only] w (Ret λv w'=>v=.bool (sa h only)/\bW w w'):=by
 refine Iw h.name h.value h.domain h.path h.hasE h.exp h.hasA h.age h.sec h.http h.same only ?_
 intro V M O U
 obtain⟨E,H⟩:=uT h w O U
 refine⟨rfl,_,E.load1 ax rfl rfl,?_⟩
 refine vU (w:=M) (qg h) ?_ ?_
 ·unfold qg
  exact ai.of (λc=>⟨rfl,_,E.load1 ax rfl rfl,rfl,by rw[if_pos (eq_of_beq c)]⟩) (λc=>⟨rfl,by rw[if_neg (beq_eq_false_iff_ne.1 c)]⟩)
 refine az (I7 (qg h) M) ?_
 rintro _ X ⟨rfl,I⟩
 have e:=ah H I H.size
 have G:=E.below I
 unfold sa
 refine⟨_,rfl,ai.of (λc=>?_) (λc=>?_)⟩
 ·rw[if_pos (eq_of_beq c)]
  exact⟨rfl,_,G.load1 bA rfl rfl,rfl,e⟩
 rw[if_neg (beq_eq_false_iff_ne.1 c)]
 refine ai.of (λc=>?_) (λc=>?_)
 ·rw[if_pos (eq_of_beq c)]
  refine⟨rfl,_,G.load1 bA rfl rfl,ai.of (λq=>⟨by rw[q];rfl,e⟩) (λq=>?_)⟩
  rw[q,Bool.false_or]
  refine ai.of (λD=>⟨by rw[D];rfl,e⟩) (λD=>?_)
  rw[D,Bool.false_or]
  exact⟨rfl,_,G.load1 ax rfl rfl,rfl,e⟩
 ·rw[if_neg (beq_eq_false_iff_ne.1 c)]
  exact⟨rfl,e⟩
theorem KW {u:Url}(o:u.ok)(ad:u.host.name.length <=1000000000)(h:Hdr)(ag:A2 h)(now:Int)(w:World)(M:Env w):Cf Bg #[u.v,h.v,vI now] w (Ret λv w'=>v=vI (FO u h now)/\bW w w'):=by
 refine J0 u.v h.name h.value h.domain h.path h.hasE h.exp h.hasA h.age h.sec h.http h.same now ?_
 intro al E Z O
 have G:=(O▸au w _:bW w E)
 have U:av E al aQ u.cells:=av.new Z O
 intro a0 an ac aj
 obtain⟨X,H⟩:=uT h E ac aj
 have D:=ah G H G.size
 unfold FO
 refine⟨_,nf.load0 (U.below H) (Url.len o),?_⟩
 refine az (H0 o ad an (M.step D)) ?_
 rintro _ ar ⟨rfl,I⟩
 have e:=ah D I D.size
 have Y:=X.below I
 refine⟨_,rfl,ai.of (λc=>⟨by rw[if_pos c],e⟩) (λc=>?_)⟩
 rw[if_neg (by rw[c];decide)]
 refine⟨_,_,_,_,_,_,_,_,_,_,_,fX h Y,?_⟩
 refine az (JF h ag ar (M.step e)) ?_
 rintro _ a8 ⟨rfl,V⟩
 have q:=ah e V e.size
 refine⟨_,rfl,ai.of (λc=>⟨by rw[if_pos c],q⟩) (λc=>?_)⟩
 rw[if_neg (by rw[c];decide)]
 refine ai.of (λc=>⟨by rw[if_pos (of_decide_eq_true c)],q⟩) (λc=>?_)
 rw[if_neg (of_decide_eq_false c)]
 exact ai.of (λc=>⟨by rw[if_pos (show 1099511627776<now from of_decide_eq_true c)],q⟩) (λc=>⟨by rw[if_neg (show ¬ 1099511627776<now from of_decide_eq_false c)],q⟩)
theorem VN {h:Hst}(o:h.ok){w w':World}(q:av w' n ak nG.cells)(E:bW w w')(H:w.heap.size <=n){b:Bool}{K:Value->World->Prop}
 (D:∀wx,bW w wx->K (.tuple #[h.v,.bool b,vI a]) wx):
 ∃(wx:World),(Instr.storeAt ak (.pointer (some ⟨n,0,none⟩)) h.v).run prog w'=.ok () wx/\∃e:Value,(aI ak (.pointer (some ⟨n,0,none⟩))).run prog wx=.ok e wx/\K (.tuple #[e,.bool b,vI a]) wx:=
 aO.fin (K:=λe wx=>K (.tuple #[e,.bool b,vI a]) wx) (cs:=h.cells) (Hst.len o) (Hst.one h) q rfl E H λwx G=>D wx G
def Xs (x:Hst×Bool×Int):Value:=.tuple #[x.1.v,.bool x.2.1,vI x.2.2]
theorem I9 {w0:World}(ag:Env w0){b2 cn:Nat}{a:Option Addr}{n c:Nat}{ct:List Pth}{cp:List (xj×Int)}{b5:List (List Bool)}{rs:List Rul}(S:xV w0 cB dq b2 cn a n c ct cp b5 rs w){u:Hst}(o:u.ok)(ch:u.name.length <=1000000000)(t:List UInt8)(c1:t.length <=100000000):
 Cf Ah #[.pointer (some ⟨b2,0,none⟩),u.v,vS t] w (Ret λv w'=>v=Xs (qj rs u t)/\bW w w'):=by
 apply Ix
 intro b1 aj cc bz
 have ar:=(bz▸au w _:bW w aj)
 have b6:av aj b1 ak u.cells:=av.new cc bz
 intro k6 ad ce b0
 have bp:=(b0▸au aj _:bW aj ad)
 have H:=ah ar bp ar.size
 have b7:av ad k6 ak nG.cells:=av.new ce b0
 have bk:=b6.below bp
 have cf:w.heap.size <=k6:=by have:=ar.size;omega
 have U:∀{wx:World} {h:Hst} {b:Bool} {an:Int},h.ok->qj rs u t=(h,b,an)->bW ad wx->∃X,(Instr.storeAt ak (.pointer (some ⟨k6,0,none⟩)) h.v).run prog wx=.ok () X/\∃b4:Value,(aI ak (.pointer (some ⟨k6,0,none⟩))).run prog X=.ok b4 X/\
  ((.tuple #[b4,.bool b,vI an]:Value)=Xs (qj rs u t)/\bW w X):=fun{wx h b an} cr cj bs=>
  VN cr (b7.below bs) (ah H bs H.size) cf (K:=λv X=>v=Xs (qj rs u t)/\bW w X) λX Z=>⟨by rw[cj];rfl,Z⟩
 refine ai.of (λM=>?_) (λM=>?_)
 ·have M:t=[]:=eq_of_beq M
  exact⟨_,aO.load0 bk (Hst.len o),U o (by unfold qj;rw[if_pos M]) (Below.refl _ _)⟩
 have M:t≠[]:=beq_eq_false_iff_ne.1 M
 have hV:qj rs u t=match dR t with
  |none=>(nG,false,101)
  |some d=>if(vf rs d && !iU d u)=true then(d,false,102)else if(!vi u d)=true then(d,false,103)else(d,vf rs d,0):=if_neg M
 refine az (BE t (by omega) ad (ag.step (S.below H).hb)) ?_
 rintro _ cu ⟨rfl,bq⟩
 rw[lS]
 refine⟨_,_,rfl,?_⟩
 have q:=rf λx ck=>mg (s:=t) ck
 refine aO.new (zs:=nG.cells) (cs:=((dR t).getD nG).cells) rfl (Hst.len q) (Hst.one _) cu λcl bj c0 Y b8=>?_
 have E:=ah bq b8 bq.size
 cases a8:dR t with
 |none=>
  rw[a8]at hV Y
  refine cw (λ_=>False) (ai.yes rfl ⟨_,aO.load0 Y rfl,U rfl hV E⟩) (λw cb=>cb.elim)
 |some d=>
  rw[a8]at hV Y q
  simp only[Option.getD_some]at Y q
  have a9:d.name.length <=1000000000:=by have:=qm a8;omega
  have G:∀{wx},bW bj wx->(Instr.loadAt ak (.pointer (some ⟨cl,0,none⟩))).run prog wx=.ok d.v wx:=λZ=>aO.load0 (Y.below Z) (Hst.len q)
  have b3:∀{wx},bW ad wx->(Instr.loadAt ak (.pointer (some ⟨b1,0,none⟩))).run prog wx=.ok u.v wx:=λZ=>aO.load0 (bk.below Z) (Hst.len o)
  have hV:qj rs u t=if(vf rs d && !iU d u)=true then(d,false,102)else if(!vi u d)=true then(d,false,103)else(d,vf rs d,0):=hV
  refine cw (λw'=>qj rs u t=(d,vf rs d,0)/\bW bj w') ?_ ?_
  ·refine ai.no rfl ?_
   refine qs (λb w'=>b=(vf rs d && !iU d u)/\bW bj w') ?_ ?_
   ·refine⟨_,G (Below.refl _ _),?_⟩
    refine az (Cn ag (S.below (ah H E H.size)) q a9) ?_
    rintro _ ac ⟨rfl,e⟩
    refine⟨_,rfl,ai.of (λO=>?_) (λO=>⟨by rw[O];rfl,e⟩)⟩
    exact⟨_,G e,_,b3 (ah E e E.size),_,C7 q o ac,by rw[O];rfl,e⟩
   ·rintro b ac ⟨rfl,e⟩
    have D:=ah E e E.size
    refine ai.of (λO=>⟨_,G e,U q (by rw[hV,if_pos O]) D⟩) (λO=>?_)
    rw[if_neg (by rw[O];decide)]at hV
    refine⟨_,b3 D,_,G e,?_⟩
    refine az (vK o q ch a9 ac (ag.step (S.below (ah H D H.size)).hb)) ?_
    rintro _ bc ⟨rfl,I⟩
    have a0:=ah e I e.size
    refine⟨_,rfl,ai.of (λal=>⟨_,G a0,U q (by rw[hV,if_pos al]) (ah E a0 E.size)⟩) (λal=>⟨?_,a0⟩)⟩
    rw[hV,if_neg (by rw[al];decide)]
  ·rintro ac ⟨hV,e⟩
   have b9:=bD ac
   have V:=ah e b9 e.size
   have D:=ah E V E.size
   have bb:=Cn ag (S.below (ah H D H.size)) q a9
   refine⟨⟨_,G V,_,G V,?_⟩,_,G V,⟨_,G V,?_⟩,?_⟩
   ·refine az bb ?_
    rintro _ bc ⟨rfl,I⟩
    exact⟨_,rfl,U q hV (ah D I D.size)⟩
   ·refine az bb ?_
    rintro _ bc ⟨rfl,I⟩
    exact⟨_,rfl,U q hV (ah D I D.size)⟩
   ·refine az bb ?_
    rintro _ bc ⟨rfl,I⟩
    exact⟨_,rfl,_,G (ah V I V.size),U q hV (ah D I D.size)⟩
theorem Ax (name value:List UInt8){d:Hst}(o:d.ok)(only:Bool)(E:List UInt8)(G D:Bool)(same q e H:Int)(w:World):
 (Instr.build af #[(0,vS name),(1,vS value),(2,d.v),(3,.bool only),(4,vS E),(5,.bool G),(6,.bool D),(7,vI same),(8,vI q),(9,vI e),(10,vI H)]).run prog w=
  .ok (Cky.v ⟨name,value,d,only,E,G,D,same,q,e,H,0⟩) w:=by
 obtain⟨k,n,a⟩:=d
 obtain⟨I,M,ac,ad,ag,aj,al,an,ar,a0,O,U,V,X,Y,Z,rfl⟩:=oS a o
 kernel_rfl
def nh (rs:List Rul)(u:Url)(h:Hdr)(now:Int)(w:World)(v:Value)(w':World):Prop:=v=U9 (jZ rs u h now)/\bW w w'
theorem MJ {w0:World}(b5:Env w0){cf c8:Nat}{a:Option Addr}{n c:Nat}{dd:List Pth}{c9:List (xj×Int)}{ck:List (List Bool)}{rs:List Rul}(S:xV w0 cB dq cf c8 a n c dd c9 ck rs w)
 {u:Url} (o:u.ok) (cb:u.host.name.length <=1000000000) (dl:u.path.length <=1000000000) (h:Hdr) (cc:A2 h) (now:Int):
 Cf zN #[.pointer (some ⟨cf,0,none⟩),u.v,h.v,vI now] w (Ret (nh rs u h now w)):=by
 refine Lo _ u.v h.name h.value h.domain h.path h.hasE h.exp h.hasA h.age h.sec h.http h.same now ?_
 intro c7 bs b7 bk
 have a9:=(bk▸au w _:bW w bs)
 have b0:av bs c7 aQ u.cells:=av.new b7 bk
 intro dr ch b8 ce
 obtain⟨b6,bc⟩:=uT h bs b8 ce
 have Z:=ah a9 bc a9.size
 intro k8 al b9 bp
 have ac:=(bp▸au ch _:bW ch al)
 have X:=ah Z ac Z.size
 have cr:av al k8 af je.cells:=av.new b9 bp
 have a0:=(b0.below bc).below ac
 have a8:=b6.below ac
 have c4:w.heap.size <=k8:=by have:=Z.size;omega
 have cu:=b5.step (S.below X).hb
 clear b0 b6 bc ac b7 bk b8 ce b9 bp a9 Z
 have ar:∀{bz:World} {c:Cky} {E:Int},c.ok->jZ rs u h now=(c,E)->bW al bz->∃wy,(Instr.storeAt af (.pointer (some ⟨k8,0,none⟩)) c.v).run prog bz=.ok () wy/\∃ag:Value,(aI af (.pointer (some ⟨k8,0,none⟩))).run prog wy=.ok ag wy/\
  nh rs u h now w (.tuple #[ag,vI E]) wy:=fun{bz c E} dc e b3=>
  aC.fin (K:=λag wy=>nh rs u h now w (.tuple #[ag,vI E]) wy) (cs:=c.cells) (Cky.len dc) (Cky.one c) (cr.below b3) rfl (ah X b3 X.size) c4 λwy c0=>⟨by rw[e];rfl,c0⟩
 refine⟨_,nf.load0 a0 (Url.len o),_,_,_,_,_,_,_,_,_,_,_,fX h a8,?_⟩
 refine az (KW o cb h cc now al cu) ?_
 rintro _ d0 ⟨rfl,U⟩
 refine⟨_,rfl,ai.of (λH=>?_) (λH=>?_)⟩
 ·have H:FO u h now≠0:=by simpa using H
  exact ar (c:=je) rfl (by unfold jZ;rw[if_pos H]) U
 have H: ¬ FO u h now≠0:=by simpa using H
 have bb:jZ rs u h now=if zG u h (qj rs u.host h.domain)≠0 then(je,zG u h (qj rs u.host h.domain))else(OY u h (qj rs u.host h.domain) now,0):=by unfold jZ;rw[if_neg H]
 have ct:=ah X U X.size
 refine⟨rfl,_,aO.load (a0.below U) (i:=1) (us:=u.host.cells) (Hst.len o) (λj c3=>nq o c3),rfl,_,(a8.below U).load1 ax rfl rfl,?_⟩
 refine az (I9 b5 (S.below ct) o cb h.domain (by have:=cc.domain;omega)) ?_
 rintro _ de ⟨rfl,c1⟩
 have b2:=ah U c1 U.size
 have Y:=Sf (rs:=rs) o h.domain
 have G:zG u h (qj rs u.host h.domain)=if(qj rs u.host h.domain).2.2≠0 then(qj rs u.host h.domain).2.2 else if(h.sec && !u.sec)=true then 104 else if(decide (h.same=1) && !h.sec)=true then 105 else if sa h (qj rs u.host h.domain).2.1=true then 106 else 0:=rfl
 have b4:OY u h (qj rs u.host h.domain) now=⟨h.name,h.value,(qj rs u.host h.domain).1,(qj rs u.host h.domain).2.1,if h.path=[]then AA u.path else h.path,h.sec,h.http,h.same,Ql h now,now,now,0⟩:=rfl
 unfold Xs
 generalize qj rs u.host h.domain=cj at*
 obtain⟨d,only,E⟩:=cj
 simp only at Y G b4
 refine⟨_,_,_,rfl,?_⟩
 refine aO.new (zs:=nG.cells) (cs:=d.cells) rfl (Hst.len Y) (Hst.one d) de λdn aj dk cl c2=>?_
 have ad:=ah b2 c2 b2.size
 have b1:=a0.below ad
 have V:=a8.below ad
 refine⟨λn w'=>n=zG u h (d,only,E)/\bW aj w',?_,?_⟩
 ·refine ai.of (λq=>⟨?_,Below.refl _ _⟩) (λq=>?_)
  ·have q:E≠0:=by simpa using q
   rw[G,if_pos q]
  have q: ¬ E≠0:=by simpa using q
  rw[if_neg q]at G
  refine eJ (w:=aj) (h.sec && !u.sec) ?_ ?_
  ·exact⟨rfl,_,V.load1 bA rfl rfl,ai.of (λD=>⟨rfl,_,b1.load1 bA rfl (i:=0) rfl,rfl,by rw[D];rfl⟩) (λD=>⟨rfl,by rw[D];rfl⟩)⟩
  refine ai.of (λD=>⟨by rw[G,if_pos D],Below.refl _ _⟩) (λD=>?_)
  rw[if_neg (by rw[D];decide)]at G
  refine eJ (w:=aj) (decide (h.same=1) && !h.sec) ?_ ?_
  ·exact⟨rfl,_,V.load1 br rfl rfl,ai.of (λI=>⟨rfl,_,V.load1 bA rfl rfl,rfl,by rw[decide_eq_true (eq_of_beq I)];rfl⟩) (λI=>⟨rfl,by rw[decide_eq_false (beq_eq_false_iff_ne.1 I)];rfl⟩)⟩
  refine ai.of (λI=>⟨by rw[G,if_pos I],Below.refl _ _⟩) (λI=>?_)
  rw[if_neg (by rw[I];decide)]at G
  refine⟨_,_,_,_,_,_,_,_,_,_,_,fX h V,?_⟩
  refine az (I8 h only aj) ?_
  rintro _ bq ⟨rfl,O⟩
  refine⟨_,rfl,ai.of (λan=>⟨by rw[G,if_pos an],O⟩) (λan=>⟨?_,O⟩)⟩
  rw[G,if_neg (by rw[an];decide)]
  exact Decidable.not_not.1 q
 intro dg
 refine aP.of ?_ _
 rintro bq ⟨rfl,O⟩
 have bj:=ah ad O ad.size
 refine ai.of (λq=>?_) (λq=>?_)
 ·have q:zG u h (d,only,E)≠0:=by simpa using q
  exact ar (c:=je) rfl (by rw[bb,if_pos q]) bj
 have q: ¬ zG u h (d,only,E)≠0:=by simpa using q
 rw[if_neg q]at bb
 have cp:=b1.below O
 have M:=V.below O
 have cn:=cl.below O
 refine⟨rfl,_,M.load1 ax rfl rfl,?_⟩
 refine vU (w:=bq) (if h.path=[]then AA u.path else h.path) ?_ ?_
 ·refine ai.of (λD=>?_) (λD=>⟨rfl,by rw[if_neg (beq_eq_false_iff_ne.1 D)]⟩)
  refine⟨rfl,_,cp.load1 ax rfl (rG o),?_⟩
  refine az (Iq u.path (by omega) bq) ?_
  rintro _ ds ⟨rfl,c6⟩
  exact⟨_,rfl,c6,by rw[if_pos (eq_of_beq D)]⟩
 refine⟨rfl,_,λv e=>(M.below e).load1 ax rfl rfl,rfl,_,λv e=>(M.below e).load1 ax rfl rfl,_,λv e=>aO.load0 (cn.below e) (Hst.len Y),rfl,_,λv e=>(M.below e).load1 bA rfl rfl,rfl,_,λv e=>(M.below e).load1 bA rfl rfl,rfl,_,λv e=>(M.below e).load1 br rfl rfl,_,_,_,_,_,_,_,_,_,_,_,λv e=>fX h (M.below e),_,λv e=>fZ (Ig h now v) e,_,λv e=>Ax _ _ Y _ _ _ _ _ _ _ _ v,?_⟩
 intro d1 c5
 exact ar Y (by rw[bb,b4]) (ah bj c5 bj.size)
set_option linter.unusedSectionVars false
def evS (s:List UInt8):Value:=vS s
def evN (n:Int):Value:=vI n
theorem Ff.str {P:Program}(G:P.underlying t=some .string):Ff P t evS where
 check:=by
  intro b k w
  unfold Instr.checkKey
  rw[Sem.run_bind,ft G,Result.andThen_ok]
  rfl
 find:=by
  intro X E k q e w h
  have now:∀(q:List MapEntry) (e:List (List UInt8×X)) (i:Nat),KVg evS E q e->Instr.findNow .string (evS k) q i=some ((rM k e i).map λp=>(p.1,E p.2)):=by
   intro q
   induction q with
   |nil=>
    intro e i h
    have:e=[]:=by unfold KVg at h;simp at h;exact h
    subst this;rfl
   |cons Y q V=>
    intro e i h
    cases e with
    |nil=>unfold KVg at h;simp at h
    |cons p e=>
     obtain⟨k',v⟩:=p
     unfold KVg at h
     simp only[List.map_cons,List.cons.injEq,Prod.mk.injEq]at h
     obtain⟨⟨M,U⟩,O⟩:=h
     unfold Instr.findNow rM
     rw[M]
     have I:Instr.sameNow .string (evS k) (evS k')=some (decide (k=k')):=by
      have H:(mkS k==mkS k')=(k==k'):=by
       show((mkS k).data==(mkS k').data)=_
       simp[mkS]
      show some (mkS k==mkS k')=_
      rw[H]
      congr 1
      rw[Bool.eq_iff_iff];simp
     rw[I]
     by_cases D:k=k'
     ·simp[D,U]
     ·simp only[D,decide_false,if_false]
      exact V e (i+1) O
  unfold Instr.findKey
  rw[Sem.run_bind,ft G,Result.andThen_ok,now q e 0 h]
  rfl
theorem Qw (s:List UInt8):(mkS s==mkS s)=true:=by
 show((mkS s).data==(mkS s).data)=true
 simp
theorem UJ (s:List UInt8):Instr.sameBits 10000 (evS s) (evS s)=true:=by
 simp[Instr.sameBits,evS,Qw]
def Plc.tail (p:Plc):List Value:=[.bool p.only,vS p.path]
def Plc.cells (p:Plc):List Value:=vS p.name::(p.host.cells++p.tail)
def Plc.v (p:Plc):Value:=.agg p.cells.toArray
theorem Plc.len (p:Plc):p.cells.length=21:=by unfold Plc.cells;rw[List.length_cons,List.length_append,Hst.len p.hk];rfl
theorem Plc.one (p:Plc):Ie p.cells:=aR rfl (Db (Hst.one _) (aR rfl (aR rfl di)))
def Kpt.cells (k:Kpt):List Value:=k.c.cells++[vS k.site]
def Kpt.v (k:Kpt):Value:=.agg k.cells.toArray
theorem Kpt.len (k:Kpt):k.cells.length=30:=by unfold Kpt.cells;rw[List.length_append,Cky.len k.ok];rfl
theorem Kpt.one (k:Kpt):Ie k.cells:=Db (Cky.one _) (aR rfl di)
def mW:Kpt:=⟨je,[],rfl⟩
theorem oZ (k:Kpt)(h:j<29):k.cells[j]? =k.c.cells[j]? :=by
 unfold Kpt.cells
 rw[List.getElem?_append_left (by rw[Cky.len k.ok];exact h)]
theorem tA (k:Kpt):k.cells[29]? =some (vS k.site):=by
 unfold Kpt.cells
 rw[List.getElem?_append_right (by rw[Cky.len k.ok];decide),Cky.len k.ok];rfl
structure Shf (t:TypeId)(p ma ms:Nat)(L:List Kpt)(last:Int)(w:World):Prop where
 cell:av w p t [.map (some ma),.map (some ms),vI last]
 ex:∃M S,Ej Plc.v Kpt.v w ma M/\Ej evS evN w ms S/\HK M L/\KU S L
 inv:ShI L last
 n1:p≠ma
 n2:p≠ms
 n3:ma≠ms
theorem Shf.lts {p e q:Nat}(h:Shf t p e q L a w):p<w.heap.size/\e<w.heap.size/\q<w.heap.size:=by
 obtain⟨E,S,h1,D,_⟩:=h.ex
 exact⟨h.cell.lt,h1.lt,D.lt⟩
theorem Shf.keep {p e q:Nat}{w w':World}(h:Shf t p e q L a w)(D:∀k∈[p,e,q],w'.heap[k]? =w.heap[k]?):Shf t p e q L a w':=by
 obtain⟨E,S,h1,G,H⟩:=h.ex
 exact⟨h.cell.block (D p (by simp)),⟨E,S,h1.keep (D e (by simp)),G.keep (D q (by simp)),H⟩,h.inv,h.n1,h.n2,h.n3⟩
theorem Shf.below {p q D:Nat}{w w':World}(h:Shf t p q D L a w)(E:bW w w'):Shf t p q D L a w':=
 h.keep λk e=>E.block k (by have:=h.lts;simp at e;rcases e with rfl|rfl|rfl <;> omega)
theorem Shf.put {p q D:Nat}{w w':World}{r:Nat}(h:Shf t p q D L a w)(G:w.grownBy w' (some r))(H:r ∉ [p,q,D]):Shf t p q D L a w':=
 h.keep λk e=>G.block k (by have:=h.lts;simp at e;rcases e with rfl|rfl|rfl <;> omega) (λE=>H (by cases E;exact e))
theorem Shf.chg {S:List Nat}{p q D:Nat}{w w':World}(h:Shf t p q D L a w)(E:Chg S w w')(G:∀k∈[p,q,D],k ∉ S):Shf t p q D L a w':=
 h.keep λk e=>E.block k (by have:=h.lts;simp at e;rcases e with rfl|rfl|rfl <;> omega) (G k e)
theorem US:∃e,prog.underlying gR=some (.struct e):=⟨_,rfl⟩
theorem Sr (a b:Plc):eqV prog 10000 gR a.v b.v=some (decide (a=b)):=by
 have E:eqV prog 10000 gR a.v b.v=some ((a.name==b.name)&&(iU a.host b.host&&((a.only==b.only)&&((a.path==b.path)&&true)))):=by
  obtain⟨a1,⟨k,n,a⟩,a4,a5,o⟩:=a
  obtain⟨e,⟨k',H,b⟩,q,D,p⟩:=b
  obtain⟨I,M,ac,ad,ag,aj,al,an,ar,a0,O,U,V,X,Y,Z,rfl⟩:=oS a o
  obtain⟨a8,a9,bs,bz,b0,b1,b2,b3,b4,b5,bb,bc,bj,bk,bp,bq,rfl⟩:=oS b p
  kernel_rfl
 rw[E]
 congr 1
 rw[Bool.eq_iff_iff]
 simp only[Bool.and_eq_true,beq_iff_eq,fC a.hk b.hk,dTx,and_true]
 obtain⟨a1,a2,a4,a5,o⟩:=a
 obtain⟨e,G,q,D,p⟩:=b
 simp
theorem JM:Ff prog gR Plc.v:=by
 obtain⟨e,h⟩:=US
 refine Ff.struct h Sr (λb k w=>?_)
 obtain⟨a1,⟨k,n,a⟩,a4,a5,o⟩:=k
 obtain⟨q,D,U,V,X,Y,Z,ac,ad,ag,E,G,H,I,M,O,rfl⟩:=oS a o
 kernel_rfl
theorem RB (k:Plc):Instr.sameBits 10000 k.v k.v=true:=by
 obtain⟨a1,⟨k,n,a⟩,a4,a5,o⟩:=k
 obtain⟨e,q,O,U,V,X,Y,Z,ac,ad,D,E,G,H,I,M,rfl⟩:=oS a o
 simp[Plc.v,Plc.cells,Plc.tail,Hst.cells,adC,Instr.sameBits,Qw]
theorem Ng:Ff prog ao evS:=Ff.str ax
theorem U1:Whl prog gR 21:=⟨⟨_,_,LX⟩,by kernel_rfl⟩
theorem ur:Whl prog bC 30:=⟨⟨_,_,GI⟩,by kernel_rfl⟩
set_option maxRecDepth 100000
theorem ND {w K}(h:nA w (.map #[] 0) λa b=>nA b (.map #[] 0) λc d=>nA d (.cells #[.map (some a),.map (some c),vI 0] bR) λe f=>K (.pointer (vA e 0)) f):Cf tT #[] w (Ret K):=ru func26 [] h
theorem FF (a:Option Addr)(b:Value)(c:lU){w K}(h:nA w (.cells (Value.cells b) af) λd e=>(Option.isSome a=true)/\(Option.isSome a=true)/\∃f,(∀g,bW e g->Ld bg (Option.map (λi=>i.add 0) a) g (.map f))/\∃g,(∀i,bW e i->Ld af (vA d 0) i g)/\∃i,(∀j,bW e j->Cf va #[g] j λk l=>k=.returned i/\bW j l)/\∃j k,(∀l,bW e l->(Instr.lookup bg (.map f) i true).run prog l=.ok (.tuple #[j,.bool k]) l)/\∀l,e.heap.size <=l->∀m,bW e m->m.heap[l]? =some (.cells rV bC)->∃n,Sv bC (vA l 0) j m n/\∃o:FP [],(ai k (∃p,Ld af (vA d 0) n p/\uB oQ #[.pointer a,p] n λq r=>true/\true/\true/\true/\(∃s,Ld aX (vA l 26) (World.drew r) (vI s)/\true/\(∃t,Ld aJ (vA l 28) (World.drew r) (vI t)/\∃u,Sv aX (vA d 26) (vI s) (World.drew r) u/\true/\∃v,Sv aJ (vA d 28) (vI t) u v/\o v)/\∃t,Sv aX (vA d 26) (vI s) (World.drew r) t/\∃u,Ld aJ (vA l 28) t (vI u)/\true/\∃v,Sv aJ (vA d 28) (vI u) t v/\o v)/\∃s,Ld aJ (vA l 28) (World.drew r) (vI s)/\∃t,Ld aX (vA l 26) (World.drew r) (vI t)/\true/\∃u,Sv aX (vA d 26) (vI t) (World.drew r) u/\true/\∃v,Sv aJ (vA d 28) (vI s) u v/\o v) ((Option.isSome a=true)/\(Option.isSome a=true)/\∃p,Ld aJ (Option.map (λq=>q.add 2) a) n (vI p)/\(Option.isSome a=true)/\(Option.isSome a=true)/\∃q,Sv aJ (Option.map (λr=>r.add 2) a) (vI (i64.wrap (p+(1:Int)))) n q/\(Option.isSome a=true)/\(Option.isSome a=true)/\∃r,Ld aJ (Option.map (λs=>s.add 2) a) q (vI r)/\true/\∃s,Sv aJ (vA d 28) (vI r) q s/\o s))/\aP 24 (∀p,o p->(Option.isSome a=true)/\(Option.isSome a=true)/\∃q,(∀r,bW p r->Ld bg (Option.map (λs=>s.add 0) a) r (.map q))/\∃r,(∀s,bW p s->Ld af (vA d 0) s r)/\∃s,(∀t,bW p t->Cf va #[r] t λu v=>u=.returned s/\bW t v)/\∃t,(∀u,bW p u->Ld af (vA d 0) u t)/\∃u,(∀v,bW p v->(Instr.build bC #[(0,t),(1,vS c)]).run prog v=.ok u v)/\∀v,bW p v->∃x,(Instr.mapUpdate bg (.map q) s u).run prog v=.ok () x/\(Option.isSome a=true)/\(Option.isSome a=true)/\∃y,Ld db (Option.map (λz=>z.add 1) a) x (.map y)/\∃z,(Instr.lookup db (.map y) (vS c) false).run prog x=.ok (vI z) x/\∃A,(Instr.mapUpdate db (.map y) (vS c) (vI (i64.wrap (z+(1:Int))))).run prog x=.ok () A/\K (.bool k) A)):Cf wH #[.pointer a,b,vS c] w (Ret K):=ru func35 [(3000003,[(0,.one .bool),(1,.one .bool),(2,.one .bool),(3,.one .bool),(4,.one .bool),(5,.one .bool),(6,.one .bool),(7,.one .bool),(8,.one .bool),(9,.one .bool),(10,.one .bool)]),(4,[]),(3000015,[(0,.one .bool),(1,.one .bool),(2,.one .bool),(7,.one .bool),(3,.one .bool),(4,.one .bool),(5,.one .bool),(6,.one .bool),(8,.one .bool)])] h
theorem CG (a:Option Addr)(b:Int){w K}(h:(Option.isSome a=true)/\(Option.isSome a=true)/\∃c,Ld bg (Option.map (λd=>d.add 0) a) w (.map c)/\∃d e,(Instr.range bg (.map c)).run prog w=.ok (.pointer e) d/\∃f:Nat->FP [.one .slice],(∃g,f g none 0 0 d)/\∀g i j k,aP 15 (∀l,f g i j k l->((∃m,(Instr.next (.pointer e) false xk).run prog l=.ok (.tuple #[.bool false]) m/\∃n:Nat->FP [.one (.int .i64)],(∃o,n o (0:Int) m)/\∀o p,aP 8 (∀q,n o p q->ai (decide (p<((j:Nat):Int))) ((bx p ((j:Nat):Int)/\Option.isSome i=true)/\∃r,Ld af (aw i p 29) q r/\nA q (.cells bf af) λs t=>∃u,Sv af (vA s 0) r t u/\∃v,Ld af (vA s 0) u v/\uB oQ #[.pointer a,v] u λx y=>∃z:Nat,z<o/\n z (i64.wrap (p+(1:Int))) y) (K (vI ((j:Nat):Int)) q)))\/(∃m n o,(Instr.next (.pointer e) false xk).run prog l=.ok (.tuple #[.bool true,n,o]) m/\∃p q,(Instr.entry (.pointer e)).run prog m=.ok (.tuple #[p,q]) m/\nA m (.cells rV bC) λr s=>∃t,Sv bC (vA r 0) q s t/\true/\true/\∃u,Ld aX (vA r 25) t (vI u)/\ai (decide (u <=b)) (true/\∃v,Ld af (vA r 0) t v/\∃x y z A,(Instr.buildSlice aN 1 #[(0,v)]).run prog t=.ok (.slice y z A) x/\∃B C D E,(Builtin.append_ #[aN,aN] aN #[.slice i j k,.slice y z A]).run prog x=.ok (.slice C D E) B/\∃F:Nat,F<g/\f F C D E B) (∃v:Nat,v<g/\f v i j k t))))):Cf rC #[.pointer a,vI b] w (Ret K):=ru func36 [(8,[(5,.one .slice)]),(27,[(31,.one (.int .i64))])] h
theorem FG (a:Option Addr)(b:Value)(c:Int){w K}(h:nA w (.cells (Value.cells b) af) λd e=>(Option.isSome a=true)/\(Option.isSome a=true)/\∃f,(∀g,bW e g->Ld bg (Option.map (λi=>i.add 0) a) g (.map f))/\∃g,(∀i,bW e i->Ld af (vA d 0) i g)/\∃i,(∀j,bW e j->Cf va #[g] j λk l=>k=.returned i/\bW j l)/\∃j k,(∀l,bW e l->(Instr.lookup bg (.map f) i true).run prog l=.ok (.tuple #[j,.bool k]) l)/\∀l,e.heap.size <=l->∀m,bW e m->m.heap[l]? =some (.cells rV bC)->∃n,Sv bC (vA l 0) j m n/\ai k (true/\true/\∃o,Sv aX (vA l 27) (vI c) n o/\(Option.isSome a=true)/\(Option.isSome a=true)/\∃p,(∀q,bW o q->Ld bg (Option.map (λr=>r.add 0) a) q (.map p))/\∃q,(∀r,bW o r->Ld af (vA d 0) r q)/\∃r,(∀s,bW o s->Cf va #[q] s λt u=>t=.returned r/\bW s u)/\∃s,(∀t,bW o t->Ld bC (vA l 0) t s)/\∀t,bW o t->∃u,(Instr.mapUpdate bg (.map p) r s).run prog t=.ok () u/\K (.bool k) u) (K (.bool k) n)):Cf wI #[.pointer a,b,vI c] w (Ret K):=ru func47 [(3000003,[(0,.one .bool),(1,.one .bool),(2,.one .bool),(3,.one .bool),(4,.one .bool),(5,.one .bool),(6,.one .bool),(7,.one .bool),(8,.one .bool),(9,.one .bool),(10,.one .bool)]),(3000010,[(0,.one .bool),(1,.one .bool),(2,.one .bool),(3,.one .bool),(4,.one .bool),(5,.one .bool),(6,.one .bool)])] h
theorem OE (a:Value){w K}(h:nA w (.cells (Value.cells a) af) λb c=>nA c (.cells ME gR) λd e=>true/\∃f,Ld ao (vA b 0) e (vS f)/\true/\∃g,Ld ak (vA b 2) e g/\true/\∃i,Ld bu (vA b 20) e (.bool i)/\true/\∃j,Ld ao (vA b 21) e (vS j)/\∃k,(Instr.build gR #[(0,vS f),(1,g),(2,.bool i),(3,vS j)]).run prog e=.ok k e/\∃l,Sv gR (vA d 0) k e l/\∃m,Rv gR (vA d 0) l m/\K m l):Cf va #[a] w (Ret K):=ru func77 [] h
theorem Et (a:Option Addr)(b:Value){w K}(h:nA w (.cells (Value.cells b) af) λc d=>(Option.isSome a=true)/\(Option.isSome a=true)/\∃e,(∀f,bW d f->Ld bg (Option.map (λg=>g.add 0) a) f (.map e))/\∃f,(∀g,bW d g->Ld af (vA c 0) g f)/\∃g,(∀i,bW d i->Cf va #[f] i λj k=>j=.returned g/\bW i k)/\∃i j,(∀k,bW d k->(Instr.lookup bg (.map e) g true).run prog k=.ok (.tuple #[i,.bool j]) k)/\∀k,d.heap.size <=k->∀l,bW d l->l.heap[k]? =some (.cells rV bC)->∃m,Sv bC (vA k 0) i l m/\ai (!j) (K (.bool false) m) ((Option.isSome a=true)/\(Option.isSome a=true)/\∃n,(∀o,bW m o->Ld bg (Option.map (λp=>p.add 0) a) o (.map n))/\∃o,(∀p,bW m p->Ld af (vA c 0) p o)/\∃p,(∀q,bW m q->Cf va #[o] q λr s=>r=.returned p/\bW q s)/\∀q,bW m q->∃r,(Builtin.delete_ #[bg,gR] xk #[.map n,p]).run prog q=.ok (.tuple #[]) r/\(Option.isSome a=true)/\(Option.isSome a=true)/\true/\∃s,(∀t,bW r t->Ld db (Option.map (λu=>u.add 1) a) t (.map s))/\∃t,(∀u,bW r u->Ld ao (vA k 29) u (vS t))/\∃u,(∀v,bW r v->(Instr.lookup db (.map s) (vS t) false).run prog v=.ok (vI u) v)/\∀v,bW r v->∃x,(Instr.mapUpdate db (.map s) (vS t) (vI (i64.wrap (u-(1:Int))))).run prog v=.ok () x/\(Option.isSome a=true)/\(Option.isSome a=true)/\∃y,(∀z,bW x z->Ld db (Option.map (λA=>A.add 1) a) z (.map y))/\true/\∃z,(∀A,bW x A->Ld ao (vA k 29) A (vS z))/\∃A,(∀B,bW x B->(Instr.lookup db (.map y) (vS z) false).run prog B=.ok (vI A) B)/\∀B,bW x B->ai (A==(0:Int)) ((Option.isSome a=true)/\(Option.isSome a=true)/\true/\∃C,(∀D,bW B D->Ld db (Option.map (λE=>E.add 1) a) D (.map C))/\∃D,(∀E,bW B E->Ld ao (vA k 29) E (vS D))/\∀E,bW B E->∃F,(Builtin.delete_ #[db,ao] xk #[.map C,vS D]).run prog E=.ok (.tuple #[]) F/\K (.bool true) F) (K (.bool true) B))):Cf oQ #[.pointer a,b] w (Ret K):=ru func78 [(3000003,[(0,.one .bool),(1,.one .bool),(2,.one .bool),(3,.one .bool),(4,.one .bool),(5,.one .bool),(6,.one .bool),(7,.one .bool),(8,.one .bool),(9,.one .bool),(10,.one .bool)]),(3000013,[(0,.one .bool),(1,.one .bool),(2,.one .bool),(3,.one .bool),(4,.one .bool),(5,.one .bool)]),(3000016,[(0,.one .bool),(1,.one .bool),(2,.one .bool),(4,.one .bool),(3,.one .bool),(5,.one .bool),(6,.one .bool),(7,.one .bool)]),(3000020,[(0,.one .bool),(1,.one .bool),(2,.one .bool),(4,.one .bool),(3,.one .bool),(5,.one .bool)])] h
theorem Dk (a:Option Addr)(b:lU){w K}(h:(Option.isSome a=true)/\(Option.isSome a=true)/\∃c,Ld db (Option.map (λd=>d.add 1) a) w (.map c)/\∃d,(Instr.lookup db (.map c) (vS b) false).run prog w=.ok (vI d) w/\K (vI d) w):Cf uQ #[.pointer a,vS b] w (Ret K):=ru func79 [] h
theorem CH (a:Option Addr)(b:lU){w K}(h:nA w (.cells #[vS b] ao) λc d=>nA d (.cells bf af) λe f=>Cf mV #[.pointer a,.func (.func iS) #[] #[.pointer (vA c 0)]] f λg i=>∃j k,g=rT #[j,.bool k]/\∃l,Sv af (vA e 0) j i l/\∃m,Rv af (vA e 0) l m/\K (.tuple #[m,.bool k]) l):Cf uj #[.pointer a,vS b] w (Ret K):=ru func80 [] h
theorem FE (a:Option Addr){w K}(h:(Option.isSome a=true)/\(Option.isSome a=true)/\∃b,Ld bg (Option.map (λc=>c.add 0) a) w (.map b)/\∃c,(Builtin.len_ #[bg] aJ #[.map b]).run prog w=.ok (vI c) w/\K (vI c) w):Cf wF #[.pointer a] w (Ret K):=ru func81 [] h
theorem zp (a:Option Addr){w K}(h:nA w (.cells bf af) λb c=>Cf mV #[.pointer a,.func (.func eW) #[] #[]] c λd e=>∃f g,d=rT #[f,.bool g]/\∃i,Sv af (vA b 0) f e i/\∃j,Rv af (vA b 0) i j/\K (.tuple #[j,.bool g]) i):Cf rc #[.pointer a] w (Ret K):=ru func82 [] h
theorem lV (a:Option Nat){w K}(h:nA w (.cells #[.map a] bg) λb c=>K (.func (.func fy) #[] #[.pointer (vA b 0)]) c):Cf mf #[.map a] w (Ret K):=ru func91 [] h
theorem CF (a b:Value){w K}(h:nA w (.cells (Value.cells a) af) λc d=>nA d (.cells (Value.cells b) af) λe f=>true/\∃g,Ld aJ (vA c 28) f (vI g)/\true/\∃i,Ld aJ (vA e 28) f (vI i)/\K (vI (i64.wrap (g-i))) f):Cf ui #[a,b] w (Ret K):=ru func92 [] h
theorem Ar (a:Value)(b:Option Addr){w K}(h:nA w (.cells (Value.cells a) bC) λc d=>true/\∃e,Ld ao (vA c 29) d (vS e)/\∃f,Ld ao b d (vS f)/\K (.bool (e==f)) d):Cf iS #[a,.pointer b] w (Ret K):=ru func136 [] h
theorem xv (a:Value){w K}(h:nA w (.cells (Value.cells a) bC) λb c=>K (.bool true) c):Cf eW #[a] w (Ret K):=ru func137 [] h
theorem rS (a b:Option Addr){w K}(h:nA w (.cells bf af) λc d=>nA d (.cells rV bC) λe f=>(Option.isSome a=true)/\(Option.isSome a=true)/\∃g,Ld bg (Option.map (λi=>i.add 0) a) f (.map g)/\∃i j,(Instr.range bg (.map g)).run prog f=.ok (.pointer j) i/\∃k:Nat->FP [.one .bool],(∃l,k l false i)/\∀l m,aP 42 (∀n,k l m n->((∃o,(Instr.next (.pointer j) false xk).run prog n=.ok (.tuple #[.bool false]) o/\true/\∃p,Ld af (vA e 0) o p/\∃q,Sv af (vA c 0) p o q/\∃r,Rv af (vA c 0) q r/\K (.tuple #[r,.bool m]) q)\/(∃o p q,(Instr.next (.pointer j) false xk).run prog n=.ok (.tuple #[.bool true,p,q]) o/\∃r s,(Instr.entry (.pointer j)).run prog o=.ok (.tuple #[r,s]) o/\nA o (.cells rV bC) λt u=>∃v,Sv bC (vA t 0) s u v/\∃x:FP [.one .bool],(ai (!m) (x true v) (true/\true/\∃y,Ld aX (vA t 27) v (vI y)/\true/\true/\∃z,Ld aX (vA e 27) v (vI z)/\ai (decide (y<z)) (x true v) (true/\true/\∃A,Ld aX (vA t 27) v (vI A)/\true/\true/\∃B,Ld aX (vA e 27) v (vI B)/\ai (A==B) (true/\true/\∃C,Ld aJ (vA t 28) v (vI C)/\true/\true/\∃D,Ld aJ (vA e 28) v (vI D)/\x (decide (C<D)) v) (x false v))))/\∀y,aP 29 (∀z,x y z->∃A:FP [.one .bool],(∃B,Ld bC (vA t 0) z B/\uB iS #[B,.pointer b] z λC D=>ai C (A y D) (A false D))/\∀B,aP 5 (∀C,A B C->ai B (∃D,Ld bC (vA t 0) C D/\∃E,Sv bC (vA e 0) D C E/\∃F:Nat,F<l/\k F true E) (∃D:Nat,D<l/\k D m C))))))):Cf mV #[.pointer a,.func (.func iS) #[] #[.pointer b]] w (Ret K):=ru func135 [(10,[(7,.one .bool)]),(20,[(10,.one .bool)]),(22,[(54,.one .bool)])] h
theorem ql (a:Option Addr){w K}(h:nA w (.cells bf af) λb c=>nA c (.cells rV bC) λd e=>(Option.isSome a=true)/\(Option.isSome a=true)/\∃f,Ld bg (Option.map (λg=>g.add 0) a) e (.map f)/\∃g i,(Instr.range bg (.map f)).run prog e=.ok (.pointer i) g/\∃j:Nat->FP [.one .bool],(∃k,j k false g)/\∀k l,aP 42 (∀m,j k l m->((∃n,(Instr.next (.pointer i) false xk).run prog m=.ok (.tuple #[.bool false]) n/\true/\∃o,Ld af (vA d 0) n o/\∃p,Sv af (vA b 0) o n p/\∃q,Rv af (vA b 0) p q/\K (.tuple #[q,.bool l]) p)\/(∃n o p,(Instr.next (.pointer i) false xk).run prog m=.ok (.tuple #[.bool true,o,p]) n/\∃q r,(Instr.entry (.pointer i)).run prog n=.ok (.tuple #[q,r]) n/\nA n (.cells rV bC) λs t=>∃u,Sv bC (vA s 0) r t u/\∃v:FP [.one .bool],(ai (!l) (v true u) (true/\true/\∃x,Ld aX (vA s 27) u (vI x)/\true/\true/\∃y,Ld aX (vA d 27) u (vI y)/\ai (decide (x<y)) (v true u) (true/\true/\∃z,Ld aX (vA s 27) u (vI z)/\true/\true/\∃A,Ld aX (vA d 27) u (vI A)/\ai (z==A) (true/\true/\∃B,Ld aJ (vA s 28) u (vI B)/\true/\true/\∃C,Ld aJ (vA d 28) u (vI C)/\v (decide (B<C)) u) (v false u))))/\∀x,aP 29 (∀y,v x y->∃z:FP [.one .bool],(∃A,Ld bC (vA s 0) y A/\uB eW #[A] y λB C=>ai B (z x C) (z false C))/\∀A,aP 5 (∀B,z A B->ai A (∃C,Ld bC (vA s 0) B C/\∃D,Sv bC (vA d 0) C B D/\∃E:Nat,E<k/\j E true D) (∃C:Nat,C<k/\j C l B))))))):Cf mV #[.pointer a,.func (.func eW) #[] #[]] w (Ret K):=ru func135 [(10,[(7,.one .bool)]),(20,[(10,.one .bool)]),(22,[(54,.one .bool)])] h
set_option maxRecDepth 20000
theorem CE {P:Program}{f:FuncId}{args:Array Value}{v:Value}(h:Calls P f args u (Ret λq w'=>q=v/\bW u w')):Calls P f args u λe w'=>e=.returned v/\bW u w':=
 h.mono (by rintro e w' ⟨q,rfl,rfl,D⟩;exact⟨rfl,D⟩)
def Yi:Plc:=⟨[],nG,false,[],rfl⟩
theorem O8 (o:c.ok)(w:World):(Instr.build gR #[(0,vS c.name),(1,c.host.v),(2,.bool c.only),(3,vS c.path)]).run prog w=.ok (c.plc o).v w:=by
 obtain⟨H,val,⟨G,D,a⟩,only,I,M,E,same,q,e,O,seq⟩:=c
 obtain⟨U,V,aj,al,an,ar,a0,a8,a9,bb,X,Y,Z,ac,ad,ag,rfl⟩:=oS a o
 kernel_rfl
theorem Q5 (k:Kpt)(w:World):(Instr.build bC #[(0,k.c.v),(1,vS k.site)]).run prog w=.ok k.v w:=by
 obtain⟨⟨H,val,⟨G,D,a⟩,only,I,M,E,same,q,e,O,seq⟩,s,o⟩:=k
 obtain⟨U,V,aj,al,an,ar,a0,a8,a9,bb,X,Y,Z,ac,ad,ag,rfl⟩:=oS a o
 kernel_rfl
theorem wX (o:c.ok)(w:World):Cf va #[c.v] w (Ret λv w'=>v=(c.plc o).v/\bW w w'):=by
 apply OE
 intro M e X H Y q G I
 have D:=(H▸au w _:bW w e)
 have E:=(I▸au e _:bW e q)
 have a1:av q M af c.cells:=(av.new X H:av e M af c.cells).below E
 have a2:av q Y gR Yi.cells:=av.new G I
 have O:=ah D E D.size
 refine⟨rfl,_,a1.load1 ax rfl (i:=0) rfl,rfl,_,aO.load a1 (i:=2) (us:=c.host.cells) (Hst.len o) (λj V=>fK o V),rfl,_,a1.load1 bA rfl (i:=20) (be o 0),rfl,_,a1.load1 ax rfl (i:=21) (be o 1),_,O8 o q,?_⟩
 exact U1.fin (Plc.len _) (Plc.one _) a2 (Plc.len _) O (by rw[G];exact D.size) λZ U=>⟨rfl,U⟩
structure SS (w0:World)(p ma ms:Nat)(M:List (Plc×Kpt))(S:List (List UInt8×Int))(last:Int)(w:World):Prop where
 ch:Chg [p,ma,ms] w0 w
 cell:av w p bR [.map (some ma),.map (some ms),vI last]
 mM:Ej Plc.v Kpt.v w ma M
 mS:Ej evS evN w ms S
 n1:p≠ma
 n2:p≠ms
 n3:ma≠ms
 l1:p<w0.heap.size
 l2:ma<w0.heap.size
 l3:ms<w0.heap.size
section
variable {w0 w:World} {p ma ms:Nat} {M:List (Plc×Kpt)} {S:List (List UInt8×Int)} {last:Int} {L:List Kpt}
theorem SS.of (h:Shf bR p ma ms L last w):∃M S,SS w p ma ms M S last w/\HK M L/\KU S L:=by
 obtain⟨E,G,H⟩:=h.lts
 obtain⟨M,S,h1,e,q,D⟩:=h.ex
 exact⟨M,S,⟨Chg.refl _ _,h.cell,h1,e,h.n1,h.n2,h.n3,E,G,H⟩,q,D⟩
theorem SS.shf (h:SS w0 p ma ms M S last w)(e:HK M L)(q:KU S L)(D:ShI L last):Shf bR p ma ms L last w:=⟨h.cell,⟨M,S,h.mM,h.mS,e,q⟩,D,h.n1,h.n2,h.n3⟩
theorem SS.below (h:SS w0 p ma ms M S last w){w':World}(e:bW w w'):SS w0 p ma ms M S last w':=
 ⟨h.ch.step e,h.cell.below e,h.mM.below e,h.mS.below e,h.n1,h.n2,h.n3,h.l1,h.l2,h.l3⟩
theorem SS.size (h:SS w0 p ma ms M S last w):w0.heap.size <=w.heap.size:=h.ch.size
theorem SS.put (h:SS w0 p ma ms M S last w){w':World}{r:Nat}(e:w.grownBy w' (some r))(q:w0.heap.size <=r):SS w0 p ma ms M S last w':=by
 have D:=h.l1
 have E:=h.l2
 have G:=h.l3
 exact⟨h.ch.put e q,h.cell.grown e (bw (by omega)),h.mM.grown e (by omega),h.mS.grown e (by omega),h.n1,h.n2,h.n3,D,E,G⟩
theorem SS.arr {w':World}{k r:Nat}{vs:List Value}(e:av w k t vs)(D:w0.heap.size <=k)(q:w.grownBy w' (some r))(E:r<w0.heap.size):av w' k t vs:=e.grown q (bw (by omega))
theorem SS.upM (h:SS w0 p ma ms M S last w)(k:Plc)(v:Kpt):∃w',(Instr.mapUpdate bg (.map (some ma)) k.v v.v).run prog w=.ok () w'/\SS w0 p ma ms (upG k v M) S last w'/\w.grownBy w' (some ma):=by
 obtain⟨w',D,q,e⟩:=h.mM.up dj JM RB k v
 exact⟨w',D,⟨h.ch.trans (Chg.grown e (by simp)),h.cell.grown e (bw h.n1),q,h.mS.grown e (Ne.symm h.n3),h.n1,h.n2,h.n3,h.l1,h.l2,h.l3⟩,e⟩
theorem SS.delM (h:SS w0 p ma ms M S last w)(k:Plc):∃w',(Builtin.delete_ #[bg,gR] xk #[.map (some ma),k.v]).run prog w=.ok (.tuple #[]) w'/\SS w0 p ma ms (TU k M) S last w'/\w.grownBy w' (some ma):=by
 obtain⟨w',D,q,e⟩:=h.mM.del dj JM k #[bg,gR] xk rfl
 exact⟨w',D,⟨h.ch.trans (Chg.grown e (by simp)),h.cell.grown e (bw h.n1),q,h.mS.grown e (Ne.symm h.n3),h.n1,h.n2,h.n3,h.l1,h.l2,h.l3⟩,e⟩
theorem SS.upS (h:SS w0 p ma ms M S last w)(k:List UInt8)(v:Int):∃w',(Instr.mapUpdate db (.map (some ms)) (vS k) (vI v)).run prog w=.ok () w'/\SS w0 p ma ms M (upG k v S) last w'/\w.grownBy w' (some ms):=by
 obtain⟨w',D,q,e⟩:=h.mS.up rP Ng UJ k v
 exact⟨w',D,⟨h.ch.trans (Chg.grown e (by simp)),h.cell.grown e (bw h.n2),h.mM.grown e h.n3,q,h.n1,h.n2,h.n3,h.l1,h.l2,h.l3⟩,e⟩
theorem SS.delS (h:SS w0 p ma ms M S last w)(k:List UInt8):∃w',(Builtin.delete_ #[db,ao] xk #[.map (some ms),vS k]).run prog w=.ok (.tuple #[]) w'/\SS w0 p ma ms M (TU k S) last w'/\w.grownBy w' (some ms):=by
 obtain⟨w',D,q,e⟩:=h.mS.del rP Ng k #[db,ao] xk rfl
 exact⟨w',D,⟨h.ch.trans (Chg.grown e (by simp)),h.cell.grown e (bw h.n2),h.mM.grown e h.n3,q,h.n1,h.n2,h.n3,h.l1,h.l2,h.l3⟩,e⟩
theorem SS.num (h:SS w0 p ma ms M S last w)(n:Int):∃w',(Instr.storeAt aJ (.pointer (some ⟨p,2,none⟩)) (vI n)).run prog w=.ok () w'/\SS w0 p ma ms M S n w'/\w.grownBy w' (some p):=by
 obtain⟨w',D,q,e⟩:=h.cell.put fk (i:=2) (v:=vI n) (show 2<3 by decide) rfl rfl
 exact⟨w',D,⟨h.ch.trans (Chg.grown e (by simp)),q,h.mM.grown e (Ne.symm h.n1),h.mS.grown e (Ne.symm h.n2),h.n1,h.n2,h.n3,h.l1,h.l2,h.l3⟩,e⟩
theorem EH (h:SS w0 p ma ms M S last w):(Instr.loadAt bg (.pointer (Option.map (λx:Addr=>x.add 0) (some (⟨p,0,none⟩:Addr))))).run prog w=.ok (.map (some ma)) w:=h.cell.load1 dj rfl (i:=0) rfl
theorem GG (h:SS w0 p ma ms M S last w):(Instr.loadAt db (.pointer (Option.map (λx:Addr=>x.add 1) (some (⟨p,0,none⟩:Addr))))).run prog w=.ok (.map (some ms)) w:=h.cell.load1 rP rfl (i:=1) rfl
theorem TD (h:SS w0 p ma ms M S last w):(Instr.loadAt aJ (.pointer (Option.map (λx:Addr=>x.add 2) (some (⟨p,0,none⟩:Addr))))).run prog w=.ok (vI last) w:=h.cell.load1 br rfl (i:=2) rfl
theorem PM (h:SS w0 p ma ms M S last w)(e:HK M L)(q:ShI L last)(k:Plc):(Instr.lookup bg (.map (some ma)) k.v true).run prog w=.ok (.tuple #[((atK L k).getD mW).v,.bool (atK L k).isSome]) w:=by
 have:=h.mM.g.look2 dj JM GI k
 rw[e.look q k]at this
 rw[this]
 cases atK L k <;> rfl
theorem TC (h:SS w0 p ma ms M S last w)(e:KU S L)(s:List UInt8):(Instr.lookup db (.map (some ms)) (vS s) false).run prog w=.ok (vI ((np L s:Nat):Int)) w:=by
 have:=h.mS.g.look1 rP Ng fk s
 rw[<- e.val s]
 rw[show(vS s)=evS s from rfl,this]
 cases rz s S <;> rfl
theorem Xk (h:SS w0 p ma ms M S last w)(s:List UInt8):(Instr.lookup db (.map (some ms)) (vS s) false).run prog w=.ok (vI ((rz s S).getD 0)) w:=by
 have:=h.mS.g.look1 rP Ng fk s
 rw[show(vS s)=evS s from rfl,this]
 cases rz s S <;> rfl
end
theorem WX (L:List Kpt)(s:List UInt8)(h:L.length <=4611686018427387904):((np L s:Nat):Int) <=4611686018427387904:=by
 have:np L s <=L.length:=List.countP_le_length
 omega
def Yc (w:World)(v:Value)(w':World):Prop:=∃p ma ms,v=.pointer (some ⟨p,0,none⟩)/\Shf bR p ma ms [] 0 w'/\w.heap.size <=p/\w.heap.size <=ma/\w.heap.size <=ms/\bW w w'
theorem vg (w:World):Cf tT #[] w (Ret (Yc w)):=by
 apply ND
 intro O e Y H U q Z I ad al ac M
 have D:=(H▸au w _:bW w e)
 have E:=(I▸au e _:bW e q)
 have G:=(M▸au q _:bW q al)
 have V:Ej Plc.v Kpt.v e O []:=Ej.new Y H
 have X:Ej evS evN q U []:=Ej.new Z I
 have an:=V.lt
 have ar:=X.lt
 have aj:=E.size
 have ag:=D.size
 exact⟨ad,O,U,rfl,⟨av.new ac M,⟨[],[],(V.below E).below G,X.below G,HK.nil,KU.nil⟩,ShI.nil,by omega,by omega,by omega⟩,by omega,by omega,by omega,ah (ah D E D.size) G (Nat.le_trans ag aj)⟩
theorem OI {p H I:Nat}(h:Shf bR p H I L a w):Cf wF #[.pointer (some ⟨p,0,none⟩)] w (Ret λv w'=>v=vI ((L.length:Nat):Int)/\w'=w):=by
 obtain⟨M,S,s,q,U⟩:=SS.of h
 apply FE
 refine⟨rfl,rfl,_,EH s,((L.length:Nat):Int),?_,rfl,rfl⟩
 obtain⟨O,c,D,E,_⟩:=s.mM
 have G:=Pt E
 have e:=q.perm.length_eq
 rw[List.length_map]at e
 rw[<- e,<- G]
 simp[Builtin.len_,ft dj,BD D,goInt]
theorem LO {p q D:Nat}(h:Shf bR p q D L a w)(t:List UInt8):Cf uQ #[.pointer (some ⟨p,0,none⟩),vS t] w (Ret λv w'=>v=vI ((np L t:Nat):Int)/\w'=w):=by
 obtain⟨E,S,s,G,e⟩:=SS.of h
 apply Dk
 exact⟨rfl,rfl,_,GG s,_,TC s e t,rfl,rfl⟩
theorem xq {p:Plc}(h:atK L p=none):iI L p=L:=by
 unfold iI
 exact List.filter_eq_self.2 λk e=>by simpa using r9 h k e
theorem Eg {p:Plc}{now:Int}(h:atK L p=none):z6 L p now=L:=by
 unfold z6
 have:(L.map λk=>if k.plc=p then(⟨{ k.c with used:=now },k.site,k.ok⟩:Kpt)else k)=L.map λk=>k:=List.map_congr_left λk e=>by
  rw[if_neg (r9 h k e)]
 rw[this];simp
def uq (x:Kpt)(now:Int):Kpt:=⟨{ x.c with used:=now },x.site,x.ok⟩
theorem UW (s:ShI L a){p:Plc}{x:Kpt}(h:atK L p=some x)(now:Int):z6 L p now=L.map λy=>if y.plc=(uq x now).plc then uq x now else y:=by
 obtain⟨D,e⟩:=qq h
 have q:(uq x now).plc=p:=e
 rw[q]
 unfold z6
 exact List.map_congr_left λy E=>by
  by_cases c:y.plc=p
  ·rw[if_pos c,if_pos c,s.one E D (c.trans e.symm)];rfl
  ·rw[if_neg c,if_neg c]
theorem VJ (L:List Kpt)(p:Plc)(now:Int)(s:List UInt8):np (z6 L p now) s=np L s:=by
 unfold np z6
 rw[List.countP_map]
 exact List.countP_congr λk _=>by
  show decide _=true ↔ _
  simp only[Function.comp_apply,dTx]
  split <;> rfl
theorem kT (o:c.ok)(j:Nat)(v:Value):c.cells.set (20+j) v=vS c.name::vS c.value::(c.host.cells++c.tail.set j v):=by
 unfold Cky.cells
 rw[show 20+j=(18+j)+1+1 by omega,List.set_cons_succ,List.set_cons_succ,List.set_append_right _ _ (by rw[Hst.len o];omega),Hst.len o]
 congr 4;omega
theorem Hn {k:Kpt}(h:j<29)(v:Value):k.cells.set j v=k.c.cells.set j v++[vS k.site]:=by
 unfold Kpt.cells
 rw[List.set_append_left _ _ (by rw[Cky.len k.ok];exact h)]
def WM (p ma ms:Nat)(L:List Kpt)(last:Int)(pl:Plc)(w:World)(v:Value)(w':World):Prop:=v=.bool (atK L pl).isSome/\Shf bR p ma ms (iI L pl) last w'/\Chg [p,ma,ms] w w'
theorem yB {p M D:Nat}(h:Shf bR p M D L a w)(b8:L.length <=4611686018427387904)(o:c.ok):
 Cf oQ #[.pointer (some ⟨p,0,none⟩),c.v] w (Ret (WM p M D L a (c.plc o) w)):=by
 obtain⟨bz,S,s,H,I⟩:=SS.of h
 have q:=h.inv
 apply Et
 intro k3 bp b6 bj
 have an:=(bj▸au w _:bW w bp)
 have a3:av bp k3 af c.cells:=av.new b6 bj
 have ac:=s.below an
 refine⟨rfl,rfl,some M,λu e=>EH (ac.below e),c.v,λu e=>aC.load0 (a3.below e) (Cky.len o),(c.plc o).v,λu e=>CE (wX o u),_,_,λu e=>PM (ac.below e) H q _,?_⟩
 intro k5 b7 cp a8 cj
 have a5:av cp k5 bC mW.cells:=cj
 have cn:=ac.below a8
 have a4:=a3.below a8
 obtain⟨aj,cc,E,ar⟩:=ur.store0 (Kpt.len ((atK L (c.plc o)).getD mW)) (Kpt.one _) a5 (Kpt.len _)
 refine⟨aj,cc,?_⟩
 have Z:w.heap.size <=k5:=Nat.le_trans an.size b7
 have cu:w.heap.size <=k3:=by omega
 have O:=cn.put ar Z
 have b0:av aj k3 af c.cells:=a4.grown ar (bw (by have:=a3.lt;omega))
 have ck:=s.l2
 have cl:=s.l3
 unfold WM
 cases X:atK L (c.plc o)with
 |none=>
  refine ai.yes rfl ⟨rfl,?_,O.ch⟩
  rw[xq X];exact O.shf H I q
 |some x=>
  rw[X]at E
  have E:av aj k5 bC x.cells:=E
  refine ai.no rfl ?_
  refine⟨rfl,rfl,some M,λu e=>EH (O.below e),c.v,λu e=>aC.load0 (b0.below e) (Cky.len o),(c.plc o).v,λu e=>CE (wX o u),?_⟩
  intro c0 a9
  obtain⟨bq,b2,ad,b4⟩:=(O.below a9).delM (c.plc o)
  have a6:av bq k5 bC x.cells:=SS.arr (E.below a9) Z b4 ck
  refine⟨bq,b2,rfl,rfl,rfl,some D,λu e=>GG (ad.below e),x.site,λu e=>(a6.below e).load1 ax rfl (i:=29) (tA x),((np L x.site:Nat):Int),λu e=>TC (ad.below e) I _,?_⟩
  have Y:=Uc q X
  have b9:=Y x.site
  rw[if_pos rfl]at b9
  have ct:=WX L x.site b8
  have cf:i64.wrap (((np L x.site:Nat):Int)-1)=((np L x.site:Nat):Int)-1:=wrap_i64 (by omega) (by omega)
  intro c1 bb
  obtain⟨bs,ce,ag,b5⟩:=(ad.below bb).upS x.site (((np L x.site:Nat):Int)-1)
  have a7:av bs k5 bC x.cells:=SS.arr (a6.below bb) Z b5 cl
  rw[cf]
  refine⟨bs,ce,rfl,rfl,some D,λu e=>GG (ag.below e),rfl,x.site,λu e=>(a7.below e).load1 ax rfl (i:=29) (tA x),((np L x.site:Nat):Int)-1,λu e=>?_,?_⟩
  ·rw[Xk (ag.below e),IZ,if_pos rfl];rfl
  intro c2 bc
  have U:=ag.below bc
  have b1:=a7.below bc
  have al:HK (TU (c.plc o) bz) (iI L (c.plc o)):=by rw[Fi (H.nodup q)];exact H.drop _
  have a0:ShI (iI L (c.plc o)) a:=q.filter _
  refine ai.of (λG=>?_) (λG=>?_)
  ·have V:np (iI L (c.plc o)) x.site=0:=by
    have:=eq_of_beq G
    omega
   refine⟨rfl,rfl,rfl,some D,λu e=>GG (U.below e),x.site,λu e=>(b1.below e).load1 ax rfl (i:=29) (tA x),?_⟩
   intro c3 cb
   obtain⟨cr,b3,bk,_⟩:=(U.below cb).delS x.site
   exact⟨cr,b3,rfl,bk.shf al (I.last Y V _) a0,bk.ch⟩
  ·have V:np (iI L (c.plc o)) x.site≠0:=by
    have: ¬ (((np L x.site:Nat):Int)-1=0):=λx=>by rw[x]at G;cases G
    omega
   exact⟨rfl,U.shf al (I.dec Y V) a0,U.ch⟩
def X0 (p ma ms:Nat)(L:List Kpt)(last:Int)(pl:Plc)(now:Int)(w:World)(v:Value)(w':World):Prop:=v=.bool (atK L pl).isSome/\Shf bR p ma ms (z6 L pl now) last w'/\Chg [p,ma,ms] w w'
theorem OK {p G an:Nat}(h:Shf bR p G an L a w)(o:c.ok)(now:Int):
 Cf wI #[.pointer (some ⟨p,0,none⟩),c.v,vI now] w (Ret (X0 p G an L a (c.plc o) now w)):=by
 obtain⟨b6,S,s,I,Y⟩:=SS.of h
 have D:=h.inv
 apply FG
 intro k3 a9 bk al
 have Z:=(al▸au w _:bW w a9)
 have a3:av a9 k3 af c.cells:=av.new bk al
 have O:=s.below Z
 refine⟨rfl,rfl,some G,λu e=>EH (O.below e),c.v,λu e=>aC.load0 (a3.below e) (Cky.len o),(c.plc o).v,λu e=>CE (wX o u),_,_,λu e=>PM (O.below e) I D _,?_⟩
 intro k5 bp b3 aj b1
 have a5:av b3 k5 bC mW.cells:=b1
 have b2:=O.below aj
 have a4:=a3.below aj
 obtain⟨V,bz,E,ac⟩:=ur.store0 (Kpt.len ((atK L (c.plc o)).getD mW)) (Kpt.one _) a5 (Kpt.len _)
 refine⟨V,bz,?_⟩
 have ag:w.heap.size <=k5:=Nat.le_trans Z.size bp
 have b8:w.heap.size <=k3:=by omega
 have U:=b2.put ac ag
 have ar:k3≠k5:=by have:=a3.lt;omega
 have bb:av V k3 af c.cells:=a4.grown ac (bw ar)
 unfold X0
 cases q:atK L (c.plc o)with
 |none=>
  refine ai.no rfl ⟨rfl,?_,U.ch⟩
  rw[Eg q];exact U.shf I Y D
 |some x=>
  rw[q]at E
  have E:av V k5 bC x.cells:=E
  refine ai.yes rfl ?_
  obtain⟨b4,bq,a6,ad⟩:=E.put eF (i:=27) (v:=vI now) (by rw[Kpt.len];decide) rfl rfl
  have a0:=U.put ad ag
  have bc:=bb.grown ad (bw ar)
  have bj:x.cells.set 27 (vI now)=(uq x now).cells:=by
   rw[Hn (by decide),show(27:Nat)=20+7 from rfl,kT x.ok];rfl
  rw[bj]at a6
  refine⟨rfl,rfl,b4,bq,rfl,rfl,some G,λu e=>EH (a0.below e),c.v,λu e=>aC.load0 (bc.below e) (Cky.len o),(c.plc o).v,λu e=>CE (wX o u),(uq x now).v,λu e=>ur.load0 (a6.below e) (Kpt.len _),?_⟩
  intro b9 bs
  have H:(uq x now).plc=c.plc o:=(qq q).2
  obtain⟨b5,b0,a8,b7⟩:=(a0.below bs).upM (c.plc o) (uq x now)
  refine⟨b5,b0,rfl,?_,a8.ch⟩
  have M:=I.over D (k:=uq x now) (o:=x) (by rw[H];exact q)
  rw[H]at M
  have X:=UW D q now
  rw[H]at X
  rw[<- X]at M
  exact a8.shf M (Y.perm λt=>VJ L _ now t) (D.use _ _)
theorem ShI.up_to {last last':Int}(h:ShI L last)(q:last <=last'):ShI L last':=
 ⟨h.up,λk e=>⟨(h.lo k e).1,by have:=(h.lo k e).2;omega⟩,h.key,by have:=h.l0;omega⟩
theorem HK.perm' {e:List (Plc×Kpt)}(h:HK e L)(q:L.Perm M):HK e M:=⟨h.perm.trans q,h.own⟩
theorem T6 (L:List Kpt)(p:Plc):atK (iI L p) p=none:=by
 unfold atK iI
 rw[List.find?_eq_none]
 intro k e
 simpa using(List.mem_filter.1 e).2
theorem AJ {last:Int}(s:ShI L last){p:Plc}{x k:Kpt}(h:atK L p=some x):(iI L p++[k]).Perm (L.map λy=>if y.plc=p then k else y):=by
 obtain⟨q,O⟩:=qq h
 clear h
 revert s q
 induction L with
 |nil=>intro _ q;cases q
 |cons a L V=>
  intro s q
  have I:=(List.pairwise_cons.1 s.key).1
  have X:ShI L last:=⟨(List.pairwise_cons.1 s.up).2,λk M=>s.lo k (List.mem_cons_of_mem _ M),(List.pairwise_cons.1 s.key).2,s.l0⟩
  by_cases e:a.plc=p
  ·have G:∀y∈L,y.plc≠p:=λy D c=>I y D (e.trans c.symm)
   have E:iI (a::L) p=L:=by
    unfold iI
    rw[List.filter_cons,if_neg (by simp[e])]
    exact List.filter_eq_self.2 λy D=>by simpa using G y D
   have H:(L.map λy=>if y.plc=p then k else y)=L:=by
    have:(L.map λy=>if y.plc=p then k else y)=L.map λy=>y:=List.map_congr_left λy D=>by rw[if_neg (G y D)]
    rw[this];simp
   rw[E,List.map_cons,if_pos e,H]
   exact List.perm_append_singleton k L
  ·have U:x∈L:=by
    rcases List.mem_cons.1 q with c|c
    ·exact absurd (c▸O) e
    ·exact c
   have E:iI (a::L) p=a::iI L p:=by
    unfold iI
    rw[List.filter_cons,if_pos (by simpa using e)]
   rw[E,List.map_cons,if_neg e,List.cons_append]
   exact(V X U).cons a
theorem Ud (h:L.Perm M)(s:List UInt8):np L s=np M s:=h.countP_eq _
def It (L:List Kpt)(last:Int)(c:Kpt):Kpt:=match atK L c.plc with
 |some o=>⟨{ c.c with born:=o.c.born,seq:=o.c.seq },c.site,c.ok⟩
 |none=>⟨{ c.c with seq:=last+1 },c.site,c.ok⟩
theorem UI (s:ShI L a)(c:Kpt):(iI L c.plc++[It L a c]).Perm (nK L a c).1:=by
 unfold It nK
 cases h:atK L c.plc with
 |none=>rw[xq h]
 |some x=>exact AJ s h
theorem UH (L:List Kpt)(last:Int)(c:Kpt):(It L last c).plc=c.plc:=by
 unfold It
 split <;> rfl
def XZ (p ma ms:Nat)(L:List Kpt)(last:Int)(c:Kpt)(w:World)(v:Value)(w':World):Prop:=v=.bool (atK L c.plc).isSome/\Shf bR p ma ms (nK L last c).1 (nK L last c).2 w'/\Chg [p,ma,ms] w w'
theorem OJ {p q D:Nat}(h:Shf bR p q D L a w)(c7:L.length <=4611686018427387904)(d4:a <=4611686018427387904)(c:Kpt):
 Cf wH #[.pointer (some ⟨p,0,none⟩),c.c.v,vS c.site] w (Ret (XZ p q D L a c w)):=by
 obtain⟨dr,S,s,bs,b7⟩:=SS.of h
 have O:=h.inv
 have o:=c.ok
 apply FF
 intro k3 cr c5 cj
 have b9:=(cj▸au w _:bW w cr)
 have a3:av cr k3 af c.c.cells:=av.new c5 cj
 have b2:=s.below b9
 refine⟨rfl,rfl,some q,λu e=>EH (b2.below e),c.c.v,λu e=>aC.load0 (a3.below e) (Cky.len o),c.plc.v,λu e=>CE (wX o u),_,_,λu e=>PM (b2.below e) bs O _,?_⟩
 intro k5 c6 dn cf de
 have a5:av dn k5 bC mW.cells:=de
 have dk:=b2.below cf
 have a4:=a3.below cf
 obtain⟨wx,dd,ac,cb⟩:=ur.store0 (Kpt.len ((atK L c.plc).getD mW)) (Kpt.one _) a5 (Kpt.len _)
 refine⟨wx,dd,?_⟩
 have cc:w.heap.size <=k5:=Nat.le_trans b9.size c6
 have G:w.heap.size <=k3:=by omega
 have al:=dk.put cb cc
 have ck:k3≠k5:=by have:=a3.lt;omega
 have a0:av wx k3 af c.c.cells:=a4.grown cb (bw ck)
 have dg:=s.l1
 refine cw (λan=>∃V,av an k3 af (It L a c).c.cells/\Shf bR p q D (iI L c.plc) V an/\Chg [p,q,D] w an/\V=(nK L a c).2) ?_ ?_
 ·cases M:atK L c.plc with
  |some x=>
   rw[M]at ac
   have ac:av wx k5 bC x.cells:=ac
   have b0:Shf bR p q D L a wx:=al.shf bs b7 O
   refine ai.yes rfl ⟨c.c.v,aC.load0 a0 (Cky.len o),?_⟩
   refine az (yB b0 c7 o) ?_
   rintro _ cp ⟨rfl,dc,bz⟩
   have c0:=al.ch.trans bz
   have U:∀k,w.heap.size <=k->k ∉ [p,q,D]:=λk d3 c8=>by
    have d5:=s.l1
    have d6:=s.l2
    have d7:=s.l3
    simp only[List.mem_cons,List.not_mem_nil,or_false]at c8
    omega
   have a8:=bz.arr a0 (U _ G)
   have ct:=bz.arr ac (U _ cc)
   have bq:It L a c=⟨{ c.c with born:=x.c.born,seq:=x.c.seq },c.site,c.ok⟩:=by unfold It;rw[M]
   have Y:(nK L a c).2=a:=by unfold nK;rw[M]
   have c1:x.cells[26]? =some (vI x.c.born):=(oZ x (by decide)).trans (be x.ok 6)
   have b5:x.cells[28]? =some (vI x.c.seq):=(oZ x (by decide)).trans (be x.ok 8)
   have dl:∀X,av X k3 af c.c.cells->av X k5 bC x.cells->Shf bR p q D (iI L c.plc) a X->Chg [p,q,D] w X->
    ∃wb,(Instr.storeAt aX (.pointer (some ⟨k3,26,none⟩)) (vI x.c.born)).run prog X=.ok () wb/\(av wb k5 bC x.cells)/\
    ∃wc,(Instr.storeAt aJ (.pointer (some ⟨k3,28,none⟩)) (vI x.c.seq)).run prog wb=.ok () wc/\
     av wc k3 af (It L a c).c.cells/\Shf bR p q D (iI L c.plc) a wc/\Chg [p,q,D] w wc:=by
    intro X E bb bj bc
    obtain⟨wb,H,cu,Z⟩:=E.put eF (i:=26) (v:=vI x.c.born) (by rw[Cky.len o];decide) rfl rfl
    obtain⟨wc,I,b4,ag⟩:=cu.put fk (i:=28) (v:=vI x.c.seq) (by rw[List.length_set,Cky.len o];decide) rfl rfl
    refine⟨wb,H,bb.grown Z (bw (Ne.symm ck)),wc,I,?_,(bj.put Z (U _ G)).put ag (U _ G),(bc.put Z G).put ag G⟩
    have bk:(c.c.cells.set 26 (vI x.c.born)).set 28 (vI x.c.seq)=(It L a c).c.cells:=by
     rw[bq,show(26:Nat)=20+6 from rfl,kT o]
     have:=kT (c:= { c.c with born:=x.c.born }) o 8 (vI x.c.seq)
     exact this
    rw[bk]at b4
    exact b4
   refine⟨_,rfl,?_⟩
   have ad:=bD cp
   have a9:=ct.below ad
   obtain⟨wb,H,bb,wc,I,E,bj,bc⟩:=dl (World.drew cp) (a8.below ad) a9 (dc.below ad) (c0.step ad)
   have c2:∃V,av wc k3 af (It L a c).c.cells/\Shf bR p q D (iI L c.plc) V wc/\Chg [p,q,D] w wc/\V=(nK L a c).2:=⟨a,E,bj,bc,Y.symm⟩
   repeat' (first
    |exact c2
    |exact rfl
    |refine And.intro ?_ ?_
    |refine⟨_,a9.load1 bn rfl (i:=26) c1,?_⟩
    |refine⟨_,a9.load1 br rfl (i:=28) b5,?_⟩
    |refine⟨_,bb.load1 br rfl (i:=28) b5,?_⟩
    |refine⟨wb,H,?_⟩
    |refine⟨wc,I,?_⟩)
  |none=>
   have bq:It L a c=⟨{ c.c with seq:=a+1 },c.site,c.ok⟩:=by unfold It;rw[M]
   have Y:(nK L a c).2=a+1:=by unfold nK;rw[M]
   have d1:=O.l0
   have b1:i64.wrap (a+1)=a+1:=wrap_i64 (by omega) (by omega)
   obtain⟨ar,H,cl,Z⟩:=al.num (a+1)
   have a8:av ar k3 af c.c.cells:=SS.arr a0 G Z dg
   obtain⟨b3,I,E,ag⟩:=a8.put fk (i:=28) (v:=vI (a+1)) (by rw[Cky.len o];decide) rfl rfl
   have cn:=cl.put ag G
   have bk:c.c.cells.set 28 (vI (a+1))=(It L a c).c.cells:=by
    rw[bq,show(28:Nat)=20+8 from rfl,kT o];rfl
   rw[bk]at E
   refine ai.no rfl ⟨rfl,rfl,_,TD al,rfl,rfl,ar,by rw[b1];exact H,rfl,rfl,_,TD cl,rfl,b3,I,a+1,E,?_,cn.ch,Y.symm⟩
   rw[xq M]
   exact cn.shf bs b7 (O.up_to (by omega))
 ·rintro an ⟨V,E,b0,c4,Y⟩
  obtain⟨ds,d0,t,c3,b8⟩:=SS.of b0
  have aj:=(It L a c).ok
  have bp:=UH L a c
  refine⟨rfl,rfl,some q,λu e=>EH (t.below e),(It L a c).c.v,λu e=>aC.load0 (E.below e) (Cky.len aj),c.plc.v,λu e=>?_,(It L a c).c.v,λu e=>aC.load0 (E.below e) (Cky.len aj),(It L a c).v,λu e=>?_,?_⟩
  ·have:=CE (wX aj u)
   rw[show(It L a c).c.plc aj=c.plc from bp]at this
   exact this
  ·have:=Q5 (It L a c) u
   rw[show(It L a c).site=c.site by unfold It;split <;> rfl]at this
   exact this
  intro d8 c9
  have t2:=t.below c9
  obtain⟨ar,H,t3,_⟩:=t2.upM c.plc (It L a c)
  have U:atK (iI L c.plc) (It L a c).plc=none:=by rw[bp];exact T6 L _
  have b6:=c3.new U
  rw[bp]at b6
  have d2:np (iI L c.plc) c.site <=L.length:=Nat.le_trans List.countP_le_length (List.length_filter_le ..)
  have b1:i64.wrap (((np (iI L c.plc) c.site:Nat):Int)+1)=((np (iI L c.plc) c.site:Nat):Int)+1:=wrap_i64 (by omega) (by omega)
  obtain⟨b3,I,t4,_⟩:=t3.upS c.site (((np (iI L c.plc) c.site:Nat):Int)+1)
  refine⟨ar,H,rfl,rfl,some D,GG t3,_,TC t3 b8 _,b3,by rw[b1];exact I,rfl,?_,c4.trans t4.ch⟩
  have ce:=UI O c
  subst Y
  refine t4.shf (b6.perm' ce) (b8.inc λs=>?_) (O.put c)
  rw[<- Ud ce,VI]
  rw[show(It L a c).site=c.site by unfold It;split <;> rfl]
end Go.Pk
