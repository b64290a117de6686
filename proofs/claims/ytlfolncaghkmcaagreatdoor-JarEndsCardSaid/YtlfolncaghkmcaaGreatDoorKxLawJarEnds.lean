/- What the law alone leans on: R, Open, Names, V3, V1, H, DateP, DateA, DateC, DateE, DateL, DateN, DateO, DateR, HdrA, HdrB, HdrC, AddrF, AddrG, AddrI, HostC, HostD, V4, UrlA, MatA, RulA, RulB, SufB, SufD, HdrF, HdrG, HdrH, DateU, HdrI, HdrJ, HdrN, AdmA, AdmB, AdmC, Col, V12, DocA, DocB, DocC, DocD, AdmE, V13, MatB, MatC, AdmN, JarQ, DocE, JarR, V11, DocF, JarF, DocG, DocH, JarA, V14, V15, JlwA, JlwB, JlwC, JlwD, JlwE, OpenA, OpenC, JlwF; what is used. Its conditions: none. -/
import Derived.Test.YtlfolncaghkmcaaGreatDoorKyLawJarEnds
variable {n m i j k:Nat}{w u v:Go.World}{p q:Option Go.Addr}{A B:Go.Pk.Bl}{a b:Int}{t:Go.TypeId}{s:List UInt8}{L:List Go.Pk.Kpt}{o:Type}{h:Go.Pk.Hst}{c:Go.Pk.Cky}{P:Go.Program}{K:List Go.Pk.OpR}
open Go.IntKind (i64)
open Go.Proofs.Tryz
set_option linter.unusedVariables false
set_option linter.unusedSimpArgs false
open List (length)
open Option (isSome)
namespace Go.Pk
open Go.RowKit (Below)
open Go.Proofs
set_option maxRecDepth 100000
set_option maxRecDepth 20000
theorem mN {h:Hdr} :ij h=true ↔ bB (w7V h (eK h.domain))=(h,0):=by
 constructor
 ·intro q
  have g:=oT q
  rw[yb g.de,<- ud];exact qA g
 ·intro e
  exact mn (pV e)
theorem kV (n:Nat)(I:n <=9223372036854775807)(w:World):Cf dJ #[vI (n:Int)] w (Ret λv w'=>v=vS (tH n)/\bW w w'):=by
 apply kg
 refine⟨λm i s w'=>∃q:Nat,i=(q:Int)/\m=q/\q <=9223372036854775807/\tH q++s=tH n/\bW w w',⟨_,n,rfl,rfl,I,List.append_nil _,Below.refl _ _⟩,?_⟩
 intro m i s
 refine aP.of ?_ _
 rintro Z ⟨q,rfl,rfl,X,G,D⟩
 have V:=gX I
 have Y:s.length <=21:=by have:=congrArg List.length G;rw[List.length_append]at this;omega
 refine ai.of (λh=>?_) (λh=>?_) <;> simp only[gt_iff_lt,dTx,dFx]at h
 ·refine⟨by decide,?_⟩
  rintro _ rfl
  have O:Int.tmod (m:Int) 10=((m%10:Nat):Int):=by rw[bP (by omega)];omega
  have M:i64.wrap (Int.tdiv (m:Int) 10)=((m/10:Nat):Int):=by rw[bL (by omega),wrap_i64 (by omega) (by omega)];omega
  rw[O,M]
  intro U H E e
  refine⟨_,dG (d:=m%10) (by omega) rfl E e H (Below.refl _ _),fits (by simp;omega),?_⟩
  rintro _ rfl
  refine⟨by decide,?_⟩
  rintro _ rfl
  refine⟨m/10,by omega,m/10,rfl,rfl,by omega,?_,ah D (e▸au _ _) D.size⟩
  rw[<- G,qt (n:=m) (by omega)];simp
 ·intro U H E e
  refine⟨_,dG (d:=m) (by omega) rfl E e H (Below.refl _ _),fits (by simp;omega),?_⟩
  rintro _ rfl
  refine⟨?_,ah D (e▸au _ _) D.size⟩
  rw[<- G,tp (by omega)]
theorem pp (h:Hdr)(H:A2 h)(w:World):Cf fS #[h.v] w (Ret λv w'=>∃s,v=.tuple #[vS s,.bool (ij h)]/\bW w w'):=by
 refine ov h.name h.value h.domain h.path h.hasE h.exp h.hasA h.age h.sec h.http h.same ?_
 have cn:=H.name;have cp:=H.value;have cr:=H.domain;have ct:=H.path
 have bc:bB (w7V h (eK h.domain))≠(h,0)->ij h=false:=λE=>by
  rw[Bool.eq_false_iff];exact λaj=>E (mN.1 aj)
 intro c0 bs b4 b6
 obtain⟨M,ar⟩:=uT h w b4 b6
 refine⟨rfl,_,M.load1 ax rfl rfl,fits (by simp;omega),?_⟩
 rintro _ rfl
 refine⟨rfl,_,M.load1 ax rfl rfl,fits (by simp;omega),?_⟩
 rintro _ rfl
 have c4:=sv h.exp
 have cu:=Lib.itoa_length_le h.age H.age.1 H.age.2
 have b8:(w1V h).length <=40100:=by
  have:=gG (h.name++[61]++h.value) h.hasE (pE++lK h.exp)
  unfold w1V
  simp[pE]at this ⊢;omega
 refine⟨λs w'=>s=w1V h/\bW bs w',?_,?_⟩
 ·refine⟨rfl,_,M.load1 bA rfl rfl,ai.of (λc=>?_) (λc=>⟨by unfold w1V kR;rw[c];rfl,Below.refl _ _⟩)⟩
  refine⟨rfl,_,M.load1 bn rfl rfl,?_⟩
  refine az (pm h.exp H.exp.1 H.exp.2 bs) ?_
  rintro _ an ⟨rfl,U⟩
  refine⟨_,rfl,fits (by simp;omega),?_⟩
  rintro _ rfl
  refine⟨fits (by simp;omega),?_⟩
  rintro _ rfl
  exact⟨by unfold w1V kR;rw[c];rfl,U⟩
 intro c2
 refine aP.of ?_ _
 rintro an ⟨rfl,U⟩
 have Z:=ah ar U ar.size
 have Y:=M.below U
 have b9:(w2V h).length <=40200:=by
  have:=gG (w1V h) h.hasA (pA++Lib.itoa h.age)
  unfold w2V
  simp[pA]at this ⊢;omega
 refine⟨λs w'=>s=w2V h/\bW an w',?_,?_⟩
 ·refine⟨rfl,_,Y.load1 bA rfl rfl,ai.of (λc=>?_) (λc=>⟨by unfold w2V kR;rw[c];rfl,Below.refl _ _⟩)⟩
  refine⟨rfl,_,Y.load1 bn rfl rfl,ai.of (λe=>?_) (λe=>?_)⟩
  ·have e:h.age<0:=of_decide_eq_true e
   refine⟨[],?_,Z⟩
   have:ij h=false:=by
    rw[Bool.eq_false_iff]
    intro aj
    have:=(oT aj).ag.1
    omega
   rw[this]
  ·have e: ¬ h.age<0:=of_decide_eq_false e
   refine⟨rfl,_,Y.load1 bn rfl rfl,?_⟩
   have b0:h.age=((h.age.toNat:Nat):Int):=by omega
   have bj:=kV h.age.toNat (by have:=H.age.2;omega) an
   rw[<- b0]at bj
   refine az bj ?_
   rintro _ G ⟨rfl,V⟩
   have b1:tH h.age.toNat=Lib.itoa h.age:=by rw[pb (by omega)]
   rw[b1]
   refine⟨_,rfl,fits (by simp;omega),?_⟩
   rintro _ rfl
   refine⟨fits (by simp;omega),?_⟩
   rintro _ rfl
   exact⟨by unfold w2V kR;rw[c];rfl,V⟩
 intro c3
 refine aP.of ?_ _
 rintro G ⟨rfl,V⟩
 have a0:=ah Z V Z.size
 have D:=Y.below V
 have ck:(eK h.domain).length <=20001:=by
  unfold eK
  split
  ·simp;omega
  ·omega
 have cb:(w3V h (eK h.domain)).length <=60300:=by
  have:=gG (w2V h) (!(h.domain==[])) (pD++eK h.domain)
  unfold w3V
  simp only[pD,List.length_append,List.length_cons,List.length_nil]at this ⊢;omega
 refine vU (w:=G) (w3V h (eK h.domain)) ?_ ?_
 ·refine⟨rfl,_,D.load1 ax rfl rfl,ai.of (λc=>⟨fits (by simp;omega),?_⟩) (λc=>⟨rfl,?_⟩)⟩
  ·rintro _ rfl
   have b5:h.domain≠[]:=by simpa using c
   have bk:0<h.domain.length:=List.length_pos_iff.2 b5
   have O:=byte_at (s:=h.domain) (k:=0) bk
   rw[show((0:Nat):Int)=0 from rfl]at O
   have bp:=fq h.domain[0] 46
   have u32:=fq h.domain[0] 32
   have bq:=fq h.domain[0] 9
   rw[show(((46:UInt8).toNat:Nat):Int)=46 from rfl]at bp
   rw[show(((32:UInt8).toNat:Nat):Int)=32 from rfl]at u32
   rw[show(((9:UInt8).toNat:Nat):Int)=9 from rfl]at bq
   have X:h.domain.head?=some h.domain[0]:=by rw[List.head?_eq_getElem?,List.getElem?_eq_getElem bk]
   have ad:(0 <=(0:Int)/\(0:Int)<((h.domain.length:Nat):Int)):=⟨by decide,by omega⟩
   refine vU (w:=G) (w2V h++[59,32,68,111,109,97,105,110,61]++(if h.domain.head?=some 46\/h.domain.head?=some 32\/h.domain.head?=some 9 then[46]else[])) ?_ ?_
   ·refine⟨rfl,_,D.load1 ax rfl rfl,ad,?_⟩
    rw[O,bp]
    refine ai.of (λq=>⟨fits (by simp;omega),?_⟩) (λq=>?_)
    ·rintro _ rfl
     exact⟨rfl,by rw[if_pos (.inl (by rw[X,eq_of_beq q]))]⟩
    refine⟨rfl,_,D.load1 ax rfl rfl,ad,?_⟩
    rw[O,u32]
    refine ai.of (λe=>⟨fits (by simp;omega),?_⟩) (λe=>?_)
    ·rintro _ rfl
     exact⟨rfl,by rw[if_pos (.inr (.inl (by rw[X,eq_of_beq e])))]⟩
    refine⟨rfl,_,D.load1 ax rfl rfl,ad,?_⟩
    rw[O,bq]
    refine ai.of (λI=>⟨fits (by simp;omega),?_⟩) (λI=>⟨rfl,?_⟩)
    ·rintro _ rfl
     exact⟨rfl,by rw[if_pos (.inr (.inr (by rw[X,eq_of_beq I])))]⟩
    ·rw[if_neg,List.append_nil]
     rw[X]
     rintro(E|E|E)
     ·rw[Option.some.inj E]at q;simp at q
     ·rw[Option.some.inj E]at e;simp at e
     ·rw[Option.some.inj E]at I;simp at I
   ·refine⟨rfl,_,D.load1 ax rfl rfl,fits (by simp;split <;> simp <;> omega),?_⟩
    rintro _ rfl
    refine⟨rfl,?_⟩
    unfold w3V kR
    rw[if_pos c]
    unfold eK
    split <;> simp[pD]
  ·unfold w3V kR
   rw[if_neg (by rw[c];decide)]
 have cc:(w4V h (eK h.domain)).length <=80400:=by
  have:=gG (w3V h (eK h.domain)) (!(h.path==[])) (pP++h.path)
  unfold w4V
  simp only[pP,List.length_append,List.length_cons,List.length_nil]at this ⊢;omega
 refine vU (w:=G) (w4V h (eK h.domain)) ?_ ?_
 ·refine⟨rfl,_,D.load1 ax rfl rfl,ai.of (λc=>?_) (λc=>⟨rfl,by unfold w4V kR;rw[if_neg (by rw[c];decide)]⟩)⟩
  refine⟨rfl,_,D.load1 ax rfl rfl,fits (by simp;omega),?_⟩
  rintro _ rfl
  refine⟨fits (by simp;omega),?_⟩
  rintro _ rfl
  exact⟨rfl,by unfold w4V kR;rw[if_pos c];rfl⟩
 have ce:(w5V h (eK h.domain)).length <=80500:=by
  have:=gG (w4V h (eK h.domain)) h.sec pS
  unfold w5V
  simp only[pS,List.length_cons,List.length_nil]at this ⊢;omega
 refine vU (w:=G) (w5V h (eK h.domain)) ?_ ?_
 ·refine⟨rfl,_,D.load1 bA rfl rfl,ai.of (λc=>⟨fits (by simp;omega),?_⟩) (λc=>⟨rfl,by unfold w5V kR;rw[if_neg (by rw[c];decide)]⟩)⟩
  rintro _ rfl
  exact⟨rfl,by unfold w5V kR;rw[if_pos c];rfl⟩
 have cf:(w6V h (eK h.domain)).length <=80600:=by
  have:=gG (w5V h (eK h.domain)) h.http pH
  unfold w6V
  simp only[pH,List.length_cons,List.length_nil]at this ⊢;omega
 refine vU (w:=G) (w6V h (eK h.domain)) ?_ ?_
 ·refine⟨rfl,_,D.load1 bA rfl rfl,ai.of (λc=>⟨fits (by simp;omega),?_⟩) (λc=>⟨rfl,by unfold w6V kR;rw[if_neg (by rw[c];decide)]⟩)⟩
  rintro _ rfl
  exact⟨rfl,by unfold w6V kR;rw[if_pos c];rfl⟩
 have al:w7V h (eK h.domain)=if h.same=1 then w6V h (eK h.domain)++[59,32,83,97,109,101,83,105,116,101,61,78,111,110,101]else if h.same=2 then w6V h (eK h.domain)++[59,32,83,97,109,101,83,105,116,101,61,76,97,120]
  else if h.same=3 then w6V h (eK h.domain)++[59,32,83,97,109,101,83,105,116,101,61,83,116,114,105,99,116]else w6V h (eK h.domain):=by
  unfold w7V kR
  by_cases q:h.same=1
  ·rw[q];rfl
  by_cases e:h.same=2
  ·rw[e];rfl
  by_cases I:h.same=3
  ·rw[I];rfl
  rw[if_neg q,if_neg e,if_neg I,if_neg (by simp;omega)]
 refine vU (w:=G) (if h.same=1 then w6V h (eK h.domain)++[59,32,83,97,109,101,83,105,116,101,61,78,111,110,101]else w6V h (eK h.domain)) ?_ ?_
 ·refine⟨rfl,_,D.load1 br rfl rfl,ai.of (λc=>⟨fits (by simp;omega),?_⟩) (λc=>⟨rfl,by rw[if_neg (beq_eq_false_iff_ne.1 c)]⟩)⟩
  rintro _ rfl
  exact⟨rfl,by rw[if_pos (eq_of_beq c)]⟩
 have bz:(if h.same=1 then w6V h (eK h.domain)++[59,32,83,97,109,101,83,105,116,101,61,78,111,110,101]else w6V h (eK h.domain)).length <=80700:=by
  split
  ·simp;omega
  ·omega
 refine vU (w:=G) (if h.same=2 then w6V h (eK h.domain)++[59,32,83,97,109,101,83,105,116,101,61,76,97,120]else(if h.same=1 then w6V h (eK h.domain)++[59,32,83,97,109,101,83,105,116,101,61,78,111,110,101]else w6V h (eK h.domain))) ?_ ?_
 ·refine⟨rfl,_,D.load1 br rfl rfl,ai.of (λc=>⟨fits (by simp only[List.length_cons,List.length_nil];omega),?_⟩) (λc=>⟨rfl,by rw[if_neg (beq_eq_false_iff_ne.1 c)]⟩)⟩
  rintro _ rfl
  have c:=eq_of_beq c
  exact⟨rfl,by rw[if_pos c,if_neg (by omega)]⟩
 have ch:(if h.same=2 then w6V h (eK h.domain)++[59,32,83,97,109,101,83,105,116,101,61,76,97,120]else(if h.same=1 then w6V h (eK h.domain)++[59,32,83,97,109,101,83,105,116,101,61,78,111,110,101]else w6V h (eK h.domain))).length <=80700:=by
  split
  ·simp;omega
  ·exact bz
 have cj:(w7V h (eK h.domain)).length <=80800:=by
  rw[al]
  split
  ·simp;omega
  split
  ·simp;omega
  split
  ·simp;omega
  ·omega
 refine vU (w:=G) (w7V h (eK h.domain)) ?_ ?_
 ·refine⟨rfl,_,D.load1 br rfl rfl,ai.of (λc=>⟨fits (by simp only[List.length_cons,List.length_nil];omega),?_⟩) (λc=>⟨rfl,?_⟩)⟩
  ·rintro _ rfl
   have c:=eq_of_beq c
   refine⟨rfl,?_⟩
   have q: ¬ h.same=1:=by omega
   have e: ¬ h.same=2:=by omega
   rw[al]
   simp only[if_neg q,if_neg e,if_pos c]
  ·have c:=beq_eq_false_iff_ne.1 c
   rw[al]
   by_cases q:h.same=1
   ·have e: ¬ h.same=2:=by omega
    simp only[if_pos q,if_neg e]
   by_cases e:h.same=2
   ·simp only[if_pos e,if_neg q]
   ·simp only[if_neg q,if_neg e,if_neg c]
 refine az (ic _ (by omega) G) ?_
 rintro _ b7 ⟨rfl,a9⟩
 have a8:=ah a0 a9 a0.size
 have b3:=D.below a9
 refine⟨_,_,_,_,_,_,_,_,_,_,_,_,rfl,?_⟩
 refine xJ (bB (w7V h (eK h.domain))).1 b7 λc1 c5 cl b2 bb=>?_
 have ac:=ah a8 bb a8.size
 refine ai.of (λc=>⟨[],?_,ac⟩) (λc=>?_)
 ·have c:(bB (w7V h (eK h.domain))).2≠0:=by simpa using c
  rw[bc λE=>c (by rw[E])]
 have c:(bB (w7V h (eK h.domain))).2=0:=by simpa using c
 refine⟨_,_,_,_,_,_,_,_,_,_,_,fX _ b2,_,_,_,_,_,_,_,_,_,_,_,fX _ (b3.below bb),_,Gg _ _ _,ai.of (λe=>⟨[],?_,ac⟩) (λe=>⟨w7V h (eK h.domain),?_,ac⟩)⟩
 ·rw[Bool.not_eq_true']at e
  rw[bc λE=>?_]
  rw[E]at e
  have:=(jl h h).2 rfl
  rw[this]at e;cases e
 ·rw[Bool.not_eq_false',jl]at e
  rw[mN.2 (Prod.ext e c)]
theorem gi (s p:List UInt8)(D:p.length <=1000)(w:World):Cf cQ #[vS s,vS p] w (Ret λv w'=>v=.bool (decide (cN (s.take p.length)=p))/\bW w w'):=by
 apply lz
 refine ai.of (λc=>?_) (λc=>⟨?_,Below.refl _ _⟩)
 ·refine⟨⟨by omega,by simpa using c⟩,?_⟩
  rintro _ rfl
  rw[Int.toNat_natCast]
  refine az (cZ _ (by rw[List.length_take];omega) w) ?_
  rintro _ E ⟨rfl,q⟩
  refine⟨_,rfl,?_,q⟩
  congr 1
  rw[Bool.eq_iff_iff];simp
 ·rw[decide_eq_false]
  intro e
  have:=congrArg List.length e
  simp[cN]at this c;omega
theorem ml (s:List UInt8)(w:World):Cf ep #[vS s] w (Ret λv w'=>v=vI (nj s)/\bW w w'):=by
 apply ly
 refine az (gi s Lc (by decide) w) ?_
 rintro _ G ⟨rfl,q⟩
 refine⟨_,rfl,ai.of (λc=>⟨?_,q⟩) (λc=>?_)⟩
 ·have c:cN (s.take 9)=Lc:=of_decide_eq_true c
  unfold nj;rw[if_pos c]
 have c: ¬ cN (s.take 9)=Lc:=of_decide_eq_false c
 refine az (gi s Mi (by decide) G) ?_
 rintro _ H ⟨rfl,E⟩
 have D:=ah q E q.size
 refine⟨_,rfl,ai.of (λe=>⟨?_,D⟩) (λe=>⟨?_,D⟩)⟩
 ·have e:cN (s.take 7)=Mi:=of_decide_eq_true e
  unfold nj;rw[if_neg c,if_pos e]
 ·have e: ¬ cN (s.take 7)=Mi:=of_decide_eq_false e
  unfold nj;rw[if_neg c,if_neg e]
theorem o6 {c c':Cky}(o:c.ok)(j:Nat)(v:Value)(q:c'.host=c.host)(D:c'.name=c.name)(E:c'.value=c.value)(e:c.tail.set j v=c'.tail):c.cells.set (20+j) v=c'.cells:=by
 unfold Cky.cells
 rw[show 20+j=(18+j)+1+1 by omega,List.set_cons_succ,List.set_cons_succ,List.set_append_right _ _ (by rw[Hst.len o];omega),Hst.len o,show 18+j-18=j by omega,e,q,D,E]
theorem xZ (o:c.ok)(h:Hst):c.cells.take 2++h.cells++c.cells.drop (2+18)=({ c with host:=h } :Cky).cells:=by
 unfold Cky.cells
 rw[show 2+18=18+1+1 from rfl,List.drop_succ_cons,List.drop_succ_cons,List.drop_append_of_le_length (by rw[Hst.len o];exact Nat.le_refl _),List.drop_of_length_le (by rw[Hst.len o];exact Nat.le_refl _)];rfl
structure StC (w0:World)(tc tu th:TypeId)(k8 k10 k13 k5 k6:Nat)(u:Url)(h:Hdr)(c:Cky)(w:World):Prop where
 hc:av w k13 tc c.cells
 h8:av w k8 tc je.cells
 hX:av w k10 tc je.cells
 h5:av w k5 tu u.cells
 h6:av w k6 th h.cells
 hb:bW w0 w
 n8:k8≠k13
 nX:k10≠k13
 n5:k5≠k13
 n6:k6≠k13
 p8:w0.heap.size <=k8
 p13:w0.heap.size <=k13
 ok:c.ok
theorem StC.below {w0:World}{q E D:TypeId}{u:Url}{h:Hdr}{w w':World}(S:StC w0 q E D n m i j k u h c w)(e:bW w w'):StC w0 q E D n m i j k u h c w':=
 ⟨S.hc.below e,S.h8.below e,S.hX.below e,S.h5.below e,S.h6.below e,ah S.hb e S.hb.size,S.n8,S.nX,S.n5,S.n6,S.p8,S.p13,S.ok⟩
theorem StC.put {x:TypeId}{bytes:Nat}{z:Value}(Z:TF P x 1 bytes z){w0:World}{I O M:TypeId}{H D q E G:Nat}{u:Url}{h:Hdr}{c c':Cky}(S:StC w0 I O M H D q E G u h c w)
 {v:Value} (ac:j<9) (h1:v.oneCell'=true) (Y:v.cells= #[v]) (U:c.cells.set (20+j) v=c'.cells) (o:c'.ok):
 ∃wx,(Instr.storeAt x (.pointer (some ⟨q,20+j,none⟩)) v).run P w=.ok () wx/\StC w0 I O M H D q E G u h c' wx:=by
 obtain⟨wx,X,V,e⟩:=S.hc.put Z (i:=20+j) (v:=v) (by rw[Cky.len S.ok];omega) h1 Y
 exact⟨wx,X,U▸V,S.h8.grown e (bw S.n8),S.hX.grown e (bw S.nX),S.h5.grown e (bw S.n5),S.h6.grown e (bw S.n6),Below.put S.hb e S.p13,S.n8,S.nX,S.n5,S.n6,S.p8,S.p13,o⟩
theorem StC.putH {x:TypeId}(X:Whl P x 18){w0:World}{M U O:TypeId}{I E q G H:Nat}{u:Url}{h:Hdr}(S:StC w0 M U O I E q G H u h c w){d:Hst}(o:d.ok):
 ∃wx,(Instr.storeAt x (.pointer (some ⟨q,2,none⟩)) d.v).run P w=.ok () wx/\StC w0 M U O I E q G H u h { c with host:=d } wx:=by
 obtain⟨wx,V,D,e⟩:=X.store (Hst.len o) (Hst.one d) S.hc (i:=2) (by rw[Cky.len S.ok];decide)
 rw[xZ S.ok]at D
 exact⟨wx,V,D,S.h8.grown e (bw S.n8),S.hX.grown e (bw S.nX),S.h5.grown e (bw S.n5),S.h6.grown e (bw S.n6),Below.put S.hb e S.p13,S.n8,S.nX,S.n5,S.n6,S.p8,S.p13,o⟩
theorem pq {rs:List Rul}(e6:Sl sV w A p n m rs)(e4:rs.length <=1000000)(e5:∀r∈rs,r.2.length <=80000000)
 {u:Url} (o:u.ok) (cj:u.host.name.length <=80000000) (f0:u.path.length <=1000000000) (h:Hdr) (eb:A2 h) (now:Int):
 Cf fT #[.slice p n m,u.v,h.v,vI now] w (Ret (nh (rs.filter bQ) u h now w)):=by
 refine oz _ _ _ u.v h.name h.value h.domain h.path h.hasE h.exp h.hasA h.age h.sec h.http h.same now ?_
 intro aj dc d7 c5
 have ct:=(c5▸au w _:bW w dc)
 have dl:av dc aj aQ u.cells:=av.new d7 c5
 intro al en d8 ef
 obtain⟨d6,c1⟩:=uT h dc d8 ef
 have ce:=ah ct c1 ct.size
 intro k8 dd d9 c6
 have ch:=(c6▸au en _:bW en dd)
 have cu:=ah ce ch ce.size
 have d0:av dd k8 af je.cells:=av.new d9 c6
 have dn:=(dl.below c1).below ch
 have ds:=d6.below ch
 have ea:w.heap.size <=k8:=by have:=ce.size;omega
 clear dl d6 c1 ch d7 c5 d8 ef d9 c6 ct ce
 refine aC.new (zs:=je.cells) (cs:=je.cells) rfl rfl (Cky.one _) dd λag fp e2 bq b4=>?_
 have b0:=dn.below b4
 have b1:=ds.below b4
 have bp:=d0.below b4
 have a8:=ah cu b4 cu.size
 have fb:=b0.lt
 have fd:=b1.lt
 have fl:=bp.lt
 have fm:=bq.lt
 clear dn ds d0 cu e2 b4
 generalize et:rs.filter bQ=D at*
 have cn:∀{wx:World} {c:Cky} {e:Int},c.ok->jZ D u h now=(c,e)->av wx k8 af je.cells->bW w wx->∃wy,(Instr.storeAt af (.pointer (some ⟨k8,0,none⟩)) c.v).run prog wx=.ok () wy/\∃ac:Value,(aI af (.pointer (some ⟨k8,0,none⟩))).run prog wy=.ok ac wy/\
  nh D u h now w (.tuple #[ac,vI e]) wy:=fun{wx c e} fn c4 cr c0=>
  aC.fin (K:=λac wy=>nh D u h now w (.tuple #[ac,vI e]) wy) (cs:=c.cells) (Cky.len fn) (Cky.one c) cr rfl c0 ea λwy ew=>⟨by rw[c4];rfl,ew⟩
 have b8:∀{wx:World} {e:Int},jZ D u h now=(je,e)->av wx ag af je.cells->av wx k8 af je.cells->bW w wx->∃v:Value,(Instr.loadAt af (.pointer (some ⟨ag,0,none⟩))).run prog wx=.ok v wx/\
  ∃wy,(Instr.storeAt af (.pointer (some ⟨k8,0,none⟩)) v).run prog wx=.ok () wy/\∃ac:Value,(aI af (.pointer (some ⟨k8,0,none⟩))).run prog wy=.ok ac wy/\nh D u h now w (.tuple #[ac,vI e]) wy:=fun{wx e} c4 ev cr c0=>
  ⟨_,aC.load0 ev rfl,cn (c:=je) rfl c4 cr c0⟩
 have a9:FO u h now=if(!nB u)=true then 41 else if(!ij h)=true then 82 else if now<0 then 122 else if 1099511627776<now then 122 else 0:=rfl
 have b9:∀{e:Int},FO u h now=e->e≠0->jZ D u h now=(je,e):=fun{e} b6 b7=>by unfold jZ;rw[b6,if_pos b7]
 refine⟨_,nf.load0 b0 (Url.len o),?_⟩
 refine az (ia o cj (by omega) fp) ?_
 rintro _ fr ⟨rfl,bb⟩
 have d1:=ah a8 bb a8.size
 refine⟨_,rfl,ai.of (λI=>b8 (b9 (by rw[a9,if_pos I]) (by decide)) (bq.below bb) (bp.below bb) d1) (λI=>?_)⟩
 rw[if_neg (by rw[I];decide)]at a9
 refine⟨_,_,_,_,_,_,_,_,_,_,_,fX h (b1.below bb),?_⟩
 refine az (pp h eb fr) ?_
 rintro _ cl ⟨f2,rfl,d2⟩
 have Z:=ah bb d2 bb.size
 have cc:=ah a8 Z a8.size
 refine⟨_,_,rfl,ai.of (λE=>b8 (b9 (by rw[a9,if_pos E]) (by decide)) (bq.below Z) (bp.below Z) cc) (λE=>?_)⟩
 rw[if_neg (by rw[E];decide)]at a9
 refine iY (w:=cl) (FO u h now=0) ?_ ?_
 ·refine eJ (w:=cl) (decide (now<0) || decide (1099511627776<now)) ?_ ?_
  ·exact ai.of (λq=>⟨rfl,by rw[q];rfl⟩) (λq=>⟨rfl,by rw[q];rfl⟩)
  refine ai.of (λq=>b8 (b9 ?_ (by decide)) (bq.below Z) (bp.below Z) cc) (λq=>⟨rfl,?_⟩)
  ·rw[a9]
   rw[Bool.or_eq_true,dTx,dTx]at q
   by_cases H:now<0
   ·rw[if_pos H]
   ·rw[if_neg H,if_pos (q.resolve_left H)]
  ·rw[Bool.or_eq_false_iff,dFx,dFx]at q
   rw[a9,if_neg q.1,if_neg q.2]
 intro e1
 have b3:jZ D u h now=if zG u h (qj D u.host h.domain)≠0 then(je,zG u h (qj D u.host h.domain))else(OY u h (qj D u.host h.domain) now,0):=by unfold jZ;rw[if_neg (by rw[e1];decide)]
 clear a9 b9 I E
 have a0:=b1.below Z
 have dr:=b0.below Z
 refine⟨rfl,_,a0.load1 ax rfl rfl,rfl,_,a0.load1 ax rfl rfl,rfl,_,aO.load dr (i:=1) (us:=u.host.cells) (Hst.len o) (λj c2=>nq o c2),rfl,_,a0.load1 ax rfl rfl,rfl,_,a0.load1 bA rfl rfl,rfl,_,a0.load1 bA rfl rfl,rfl,_,a0.load1 br rfl rfl,_,Ax _ _ o _ _ _ _ _ _ _ _ cl,?_⟩
 have ek:(⟨h.name,h.value,u.host,true,h.path,h.sec,h.http,h.same,9223372036854775807,now,now,0⟩:Cky).ok:=o
 refine aC.new (zs:=je.cells) (cs:=(⟨h.name,h.value,u.host,true,h.path,h.sec,h.http,h.same,9223372036854775807,now,now,0⟩:Cky).cells) rfl (Cky.len ek) (Cky.one _) cl λbj w13 e3 dk d3=>?_
 have fo:=Z.size
 have bs:=ah Z d3 Z.size
 have S0:StC w af aQ aq k8 ag bj aj al u h ⟨h.name,h.value,u.host,true,h.path,h.sec,h.http,h.same,9223372036854775807,now,now,0⟩ w13:=
  ⟨dk,bp.below bs,bq.below bs,b0.below bs,b1.below bs,ah a8 bs a8.size,by omega,by omega,by omega,by omega,ea,by have:=cc.size;omega,ek⟩
 clear dk bp bq b0 b1 a8 d1 cc bb d2 Z bs e3 a0 dr d3 fb fd fl fm fo
 have ar:∀{wx:World} {c:Cky} {e:Int},zG u h (qj D u.host h.domain)=e->e≠0->StC w af aQ aq k8 ag bj aj al u h c wx->∃v:Value,(Instr.loadAt af (.pointer (some ⟨ag,0,none⟩))).run prog wx=.ok v wx/\
  ∃wy,(Instr.storeAt af (.pointer (some ⟨k8,0,none⟩)) v).run prog wx=.ok () wy/\∃ac:Value,(aI af (.pointer (some ⟨k8,0,none⟩))).run prog wy=.ok ac wy/\nh D u h now w (.tuple #[ac,vI e]) wy:=fun{wx c e} b6 b7 S=>
  b8 (by rw[b3,b6,if_pos b7]) S.hX S.h8 S.hb
 have ei:∀{wx c},StC w af aQ aq k8 ag bj aj al u h c wx->(Instr.loadAt ak (.pointer (some ⟨aj,1,none⟩))).run prog wx=.ok u.host.v wx:=λS=>aO.load S.h5 (i:=1) (us:=u.host.cells) (Hst.len o) (λj c2=>nq o c2)
 refine cw (λw'=>∃d only,qj D u.host h.domain=(d,only,0)/\StC w af aQ aq k8 ag bj aj al u h ⟨h.name,h.value,d,only,h.path,h.sec,h.http,h.same,9223372036854775807,now,now,0⟩ w') ?_ ?_
 ·refine⟨rfl,_,S0.h6.load1 ax rfl rfl,ai.of (λI=>?_) (λI=>?_)⟩
  ·have I:h.domain≠[]:=by simpa using I
   have hV:qj D u.host h.domain=match dR h.domain with
    |none=>(nG,false,101)
    |some d=>if(vf D d && !iU d u.host)=true then(d,false,102)else if(!vi u.host d)=true then(d,false,103)else(d,vf D d,0):=if_neg I
   refine⟨rfl,_,S0.h6.load1 ax rfl rfl,?_⟩
   refine az (fB h.domain (by have:=eb.domain;omega) w13) ?_
   rintro _ c7 ⟨rfl,ex⟩
   rw[lS]
   refine⟨_,_,rfl,?_⟩
   have O:=rf λx X=>mg (s:=h.domain) X
   refine aO.new (zs:=nG.cells) (cs:=((dR h.domain).getD nG).cells) rfl (Hst.len O) (Hst.one _) c7 λf1 an fv cb ey=>?_
   have Y:=(S0.below ex).below ey
   have err:∀{d:Hst} {b:Bool} {e:Int},qj D u.host h.domain=(d,b,e)->e≠0->zG u h (qj D u.host h.domain)=e:=fun{d b e} b5 b7=>by rw[b5];unfold zG;rw[if_pos b7]
   cases b5:dR h.domain with
   |none=>
    rw[b5]at hV
    exact ai.yes rfl (ar (err hV (by decide)) (by decide) Y)
   |some d=>
    rw[b5]at hV cb O
    simp only[Option.getD_some]at cb O
    have hV:qj D u.host h.domain=if(vf D d && !iU d u.host)=true then(d,false,102)else if(!vi u.host d)=true then(d,false,103)else(d,vf D d,0):=hV
    have d5:d.name.length <=80000000:=by have:=qm b5;omega
    refine ai.no rfl ⟨_,aO.load0 cb (Hst.len O),?_⟩
    refine az (mh (e6.below Y.hb) e4 e5 O d5) ?_
    rw[et]
    rintro _ G ⟨rfl,cf⟩
    have M:=Y.below cf
    have cp:=cb.below cf
    refine⟨_,rfl,?_⟩
    refine iY (w:=G) ((vf D d && !iU d u.host)=false) ?_ ?_
    ·refine eJ (w:=G) (vf D d && !iU d u.host) ?_ ?_
     ·refine ai.of (λE=>?_) (λE=>⟨rfl,by rw[E];rfl⟩)
      exact⟨_,aO.load0 cp (Hst.len O),rfl,_,ei M,_,C7 O o G,rfl,by rw[E];rfl⟩
     ·exact ai.of (λE=>ar (err (by rw[hV,if_pos E]) (by decide)) (by decide) M) (λE=>⟨rfl,E⟩)
    intro E
    rw[if_neg (by rw[E];decide)]at hV
    refine⟨rfl,_,ei M,_,aO.load0 cp (Hst.len O),?_⟩
    refine az (cG o O cj d5 G) ?_
    rintro _ c8 ⟨rfl,d4⟩
    have U:=M.below d4
    have er:=cp.below d4
    refine⟨_,rfl,ai.of (λq=>ar (err (by rw[hV,if_pos q]) (by decide)) (by decide) U) (λq=>?_)⟩
    rw[if_neg (by rw[q];decide)]at hV
    refine ai.of (λH=>?_) (λH=>?_)
    ·have H:vf D d=false:=by simpa using H
     obtain⟨c9,c3,V⟩:=U.putH (P:=prog) aO O
     refine⟨_,aO.load0 er (Hst.len O),rfl,c9,c3,rfl,?_⟩
     obtain⟨fs,e9,bk⟩:=V.put (P:=prog) jY (j:=0) (v:=.bool false) (by decide) rfl rfl (o6 (c':=⟨h.name,h.value,d,false,h.path,h.sec,h.http,h.same,9223372036854775807,now,now,0⟩) V.ok 0 _ rfl rfl rfl rfl) O
     exact⟨fs,e9,d,false,by rw[hV,H],bk⟩
    ·have H:vf D d=true:=by simpa using H
     rw[H,Bool.true_and,Bool.not_eq_false']at E
     have e:=(fC O o).1 E
     exact⟨u.host,true,by rw[hV,H,e],U⟩
  ·have I:h.domain=[]:=by simpa using I
   exact⟨u.host,true,by unfold qj;rw[if_pos I],S0⟩
 rintro c7 ⟨d,only,es,Y⟩
 rw[es]at b3 ar
 have ck:d.ok:=Y.ok
 have bc:zG u h (d,only,0)=if(h.sec && !u.sec)=true then 104 else if(decide (h.same=1) && !h.sec)=true then 105 else if sa h only=true then 106 else 0:=rfl
 have e0:OY u h (d,only,0) now=⟨h.name,h.value,d,only,if h.path=[]then AA u.path else h.path,h.sec,h.http,h.same,Ql h now,now,now,0⟩:=rfl
 generalize b2:(if h.path=[]then AA u.path else h.path)=P at*
 refine cw (λw'=>StC w af aQ aq k8 ag bj aj al u h ⟨h.name,h.value,d,only,P,h.sec,h.http,h.same,9223372036854775807,now,now,0⟩ w') ?_ ?_
 ·refine⟨rfl,_,Y.hc.load1 ax rfl (be Y.ok 1),ai.of (λI=>?_) (λI=>?_)⟩
  ·have I:h.path=[]:=eq_of_beq I
   rw[if_pos I]at b2
   refine⟨rfl,_,Y.h5.load1 ax rfl (rG o),?_⟩
   refine az (kW u.path (by omega) c7) ?_
   rintro _ an ⟨rfl,ee⟩
   rw[ee];clear ee
   refine⟨_,rfl,rfl,?_⟩
   obtain⟨G,ed,M⟩:=Y.put (P:=prog) bS (j:=1) (v:=vS (AA u.path)) (by decide) rfl rfl (o6 (c':=⟨h.name,h.value,d,only,AA u.path,h.sec,h.http,h.same,9223372036854775807,now,now,0⟩) Y.ok 1 _ rfl rfl rfl rfl) ck
   rw[b2]at M ed
   rw[b2]
   exact⟨G,ed,M⟩
  ·have I: ¬ h.path=[]:=beq_eq_false_iff_ne.1 I
   rw[if_neg I]at b2
   rw[<- b2];exact Y
 intro an M
 refine iY (w:=an) ((h.sec && !u.sec)=false) ?_ ?_
 ·refine eJ (w:=an) (h.sec && !u.sec) ?_ ?_
  ·exact⟨rfl,_,M.h6.load1 bA rfl rfl,ai.of (λq=>⟨rfl,_,M.h5.load1 bA rfl (i:=0) rfl,rfl,by rw[q];rfl⟩) (λq=>⟨rfl,by rw[q];rfl⟩)⟩
  ·exact ai.of (λq=>ar (by rw[bc,if_pos q]) (by decide) M) (λq=>⟨rfl,q⟩)
 intro q
 rw[if_neg (by rw[q];decide)]at bc
 refine iY (w:=an) ((decide (h.same=1) && !h.sec)=false) ?_ ?_
 ·refine eJ (w:=an) (decide (h.same=1) && !h.sec) ?_ ?_
  ·exact⟨rfl,_,M.h6.load1 br rfl rfl,ai.of (λH=>⟨rfl,_,M.h6.load1 bA rfl rfl,rfl,by rw[decide_eq_true (eq_of_beq H)];rfl⟩) (λH=>⟨rfl,by rw[decide_eq_false (beq_eq_false_iff_ne.1 H)];rfl⟩)⟩
  ·exact ai.of (λH=>ar (by rw[bc,if_pos H]) (by decide) M) (λH=>⟨rfl,H⟩)
 intro H
 rw[if_neg (by rw[H];decide)]at bc
 refine⟨rfl,_,M.h6.load1 ax rfl rfl,?_⟩
 refine vU (w:=an) (qg h) ?_ ?_
 ·unfold qg
  exact ai.of (λc=>⟨rfl,_,M.h6.load1 ax rfl rfl,rfl,by rw[if_pos (eq_of_beq c)]⟩) (λc=>⟨rfl,by rw[if_neg (beq_eq_false_iff_ne.1 c)]⟩)
 refine az (ml (qg h) an) ?_
 rintro _ G ⟨rfl,cf⟩
 have U:=M.below cf
 have bz:sa h only=if nj (qg h)=1 then !h.sec else if nj (qg h)=2 then(!h.sec || (!only || !(h.path==[47])))else false:=rfl
 have eg:=U.h6.load1 (P:=prog) (i:=8) bA rfl rfl
 refine⟨_,rfl,?_⟩
 refine iY (w:=G) (sa h only=false) ?_ ?_
 ·refine eJ (w:=G) (sa h only) ?_ ?_
  ·have em:∀{J:FP [.one (.bool)]},(nj (qg h)=2->J (!h.sec || (!only || !(h.path==[47]))) G)->(¬ nj (qg h)=2->J false G)->ai (nj (qg h)==2)
    ((true=true)/\∃de:Bool,(Instr.loadAt bu (.pointer (some ⟨al,8,none⟩))).run prog G=.ok (.bool de) G/\ai (!de) (J true G)
     ((true=true)/\∃dg:Bool,(Instr.loadAt bu (.pointer (some ⟨bj,20,none⟩))).run prog G=.ok (.bool dg) G/\ai (!dg) (J true G)
      ((true=true)/\∃el:List UInt8,(Instr.loadAt ao (.pointer (some ⟨al,3,none⟩))).run prog G=.ok (vS el) G/\J (!(el==[47])) G))) (J false G):=fun{J} ad cj=>by
    refine ai.of (λc=>?_) (λc=>cj (beq_eq_false_iff_ne.1 c))
    have ad:=ad (eq_of_beq c)
    refine⟨rfl,_,eg,ai.of (λE=>by rw[E]at ad;exact ad) (λE=>?_)⟩
    rw[E,Bool.false_or]at ad
    refine⟨rfl,_,U.hc.load1 bA rfl (be U.ok 0),ai.of (λq=>by rw[q]at ad;exact ad) (λq=>?_)⟩
    rw[q,Bool.false_or]at ad
    exact⟨rfl,_,U.h6.load1 ax rfl rfl,ad⟩
   refine ai.of (λc=>?_) (λc=>?_)
   ·have c:=eq_of_beq c
    rw[if_pos c]at bz
    refine⟨rfl,_,eg,ai.of (λE=>⟨rfl,by rw[bz,E]⟩) (λE=>?_)⟩
    exact em (J:=λb w'=>w'=G/\b=sa h only) (λX=>by rw[c]at X;exact absurd X (by decide)) (λ_=>⟨rfl,by rw[bz,E]⟩)
   ·have c:=beq_eq_false_iff_ne.1 c
    rw[if_neg c]at bz
    exact em (J:=λb w'=>w'=G/\b=sa h only) (λX=>⟨rfl,by rw[bz,if_pos X]⟩) (λX=>⟨rfl,by rw[bz,if_neg X]⟩)
  ·exact ai.of (λc=>ar (by rw[bc,if_pos c]) (by decide) U) (λc=>⟨rfl,c⟩)
 intro eq
 rw[if_neg (by rw[eq];decide)]at bc
 rw[bc,if_neg (by decide),e0]at b3
 refine cw (λw'=>∃e,e=(if h.hasE=true then(if i64.wrap (now+34560000)<h.exp then i64.wrap (now+34560000)else h.exp)else 9223372036854775807)/\StC w af aQ aq k8 ag bj aj al u h ⟨h.name,h.value,d,only,P,h.sec,h.http,h.same,e,now,now,0⟩ w') ?_ ?_
 ·refine⟨rfl,_,U.h6.load1 bA rfl rfl,ai.of (λc=>?_) (λc=>⟨_,by rw[if_neg (by rw[c];decide)],U⟩)⟩
  refine⟨rfl,_,U.h6.load1 bn rfl rfl,_,run_min_int2 _ _ _ _ _ _ _,rfl,?_⟩
  rw[if_pos c]
  generalize (if i64.wrap (now+34560000)<h.exp then i64.wrap (now+34560000)else h.exp)=e
  obtain⟨c8,e7,V⟩:=U.put (P:=prog) eF (j:=5) (v:=vI e) (by decide) rfl rfl (o6 (c':=⟨h.name,h.value,d,only,P,h.sec,h.http,h.same,e,now,now,0⟩) U.ok 5 _ rfl rfl rfl rfl) ck
  exact⟨c8,e7,_,rfl,V⟩
 rintro c8 ⟨e,b6,V⟩
 have X:Ql h now=if h.hasA=true then i64.wrap (now+h.age)else e:=by rw[b6];rfl
 have O:∀x:Int,(⟨h.name,h.value,d,only,P,h.sec,h.http,h.same,x,now,now,0⟩:Cky).ok:=λ_=>ck
 refine⟨rfl,_,V.h6.load1 bA rfl rfl,ai.of (λc=>?_) (λc=>?_)⟩
 ·rw[if_pos c]at X
  refine⟨rfl,_,V.h6.load1 bn rfl rfl,rfl,?_⟩
  obtain⟨c9,c3,bk⟩:=V.put (P:=prog) eF (j:=5) (v:=vI (i64.wrap (now+h.age))) (by decide) rfl rfl (o6 (c':=⟨h.name,h.value,d,only,P,h.sec,h.http,h.same,i64.wrap (now+h.age),now,now,0⟩) V.ok 5 _ rfl rfl rfl rfl) ck
  refine⟨c9,c3,_,aC.load0 bk.hc (Cky.len bk.ok),?_⟩
  exact cn (O _) (by rw[b3,X]) bk.h8 bk.hb
 ·rw[if_neg (by rw[c];decide)]at X
  refine⟨_,aC.load0 V.hc (Cky.len V.ok),?_⟩
  exact cn (O _) (by rw[b3,X]) V.h8 V.hb
set_option linter.unusedSectionVars false
def ff:Ty Kpt where
 k:=30
 pos:=by decide
 rep:=λ_ _ vs k=>vs=k.cells
 len:=fun{_ _ _ x} h=>by rw[h];exact Kpt.len x
 one:=fun{_ _ _ x} h v hv=>by rw[h]at hv;exact Kpt.one x v hv
 keep:=λh _=>h
 mono:=λh _=>h
theorem eX:Flat ff:=λ_ _ _ _ _ _ h=>h
theorem gJ (D:Whl P t 30){a:Option Addr}{l c:Nat}{xs:List Kpt}(h:Sl ff w A a l c xs)(q:i<xs.length):
 (Instr.loadAt t (.pointer (aw a (i:Int) 30))).run P w=.ok xs[i].v w:=by
 obtain⟨vs,h1,e⟩:=D.elem (T:=ff) rfl h q
 subst e
 exact h1
def mb (A:Bl)(w:World):Bl:=λb=>A b\/w.heap.size <=b
theorem Ow.orNew {α:Type}{T:Ty α}{w w':World}{a:Option Addr}{n c:Nat}{xs:List α}(h:Ow T t w' NoB a n c xs)(q:ci w.heap.size a):Sl T w' (mb A w) a n c xs:=
 h.sl (λ_ _ e=>e.elim) λg D=>.inr (q g D)
theorem Sl.orNew {α:Type}{T:Ty α}{w w':World}{a:Option Addr}{n c:Nat}{xs:List α}(h:Sl T w' A a n c xs):Sl T w' (mb A w) a n c xs:=h.mono λ_ _ e=>.inl e
theorem T1 {α:Type}{T:Ty α}(I:Flat T){st t ty:TypeId}{bytes:Nat}{z:Value}(Z:P.underlying st=some (.slice t))(ad:TF P t T.k bytes z)(G:0<bytes)
 {w0 w:World} {a:Option Addr} {n c:Nat} {xs:List α} (U:Ow T t w NoB a n c xs) (q:ci w0.heap.size a) (e:bW w0 w) {y:Option Addr} {m cm:Nat} {ys:List α}
 (Y:Sl T w A y m cm ys) (H:(xs.length+ys.length)*bytes <=140737488355328) {cm':Nat} :
 ∃(w2:World) (a':Option Addr) (D c':Nat),(Builtin.append_ #[st,st] ty #[.slice a n c,.slice y m cm']).run P w=.ok (.slice a' D c') w2/\Ow T t w2 NoB a' D c' (xs++ys)/\ci w0.heap.size a'/\bW w0 w2:=by
 obtain⟨ag,a4,ac,E,X,V,O,M⟩:=j6 (ty:=ty) Z ad G U (λ_ _ h=>h) (cm:=cm') (Y.flat I) H
 exact⟨ag,a4,ac,E,X,V,q.app e.size M,e.grown O e.size q⟩
theorem vG (k:Kpt)(w:World):(Instr.buildSlice aa 1 #[(0,k.v)]).run prog w=.ok (.slice (some ⟨w.heap.size,0,none⟩) 1 1) (w.alloc (.cells k.cells.toArray am)):=by
 obtain⟨⟨H,val,⟨G,D,a⟩,only,I,M,E,same,q,e,O,seq⟩,s,o⟩:=k
 obtain⟨U,V,aj,al,an,ar,a0,a8,a9,bb,X,Y,Z,ac,ad,ag,rfl⟩:=oS a o
 kernel_rfl
theorem bV:Whl prog am 30:=⟨⟨_,_,bl⟩,by kernel_rfl⟩
theorem yx {w0 w:World}{a:Option Addr}{n c:Nat}{xs:List Kpt}(I:Ow ff am w NoB a n c xs)(H:ci w0.heap.size a)(G:bW w0 w)(x:Kpt)(M:xs.length <=1000000):
 ∃(E:World) (a1:Option Addr) (q e:Nat),(Instr.buildSlice aa 1 #[(0,x.v)]).run prog w=.ok (.slice a1 q e) E/\
  ∃(w2:World) (a':Option Addr) (D c':Nat),(Builtin.append_ #[aa,aa] aa #[.slice a n c,.slice a1 q e]).run prog E=.ok (.slice a' D c') w2/\
   Ow ff am w2 NoB a' D c' (xs++[x])/\ci w0.heap.size a'/\bW w0 w2:=
 ⟨_,_,_,_,vG x w,AM eX aF bl (by decide) I H G rfl rfl rfl (by omega)⟩
theorem jX {α:Type}{T:Ty α}(e:Flat T){w w':World}(q:k=w.heap.size)(D:w'=w.alloc (.cells #[] t)):Ow T t w' NoB (some ⟨k,0,none⟩) 0 0 ([]:List α):=
 Ow.newF e (l:=[]) q D (kK.nil T w NoB) (Nat.zero_le _)
set_option maxRecDepth 100000
theorem pF (a:Option Addr)(b c:Nat)(d:Int){w K}(h:nA w (.cells #[.slice a b c,vI d] ab) λe f=>nA f (.cells #[] af) λg i=>true/\∃j k l,Ld aa (vA e 0) i (.slice j k l)/\∃m:Nat->FP [.one .slice,.one (.int .i64)],(∃n,m n (vA g 0) 0 0 (0:Int) i)/\∀n o p q r,aP 10 (∀s,m n o p q r s->ai (decide (r<((k:Nat):Int))) ((bx r ((k:Nat):Int)/\Option.isSome j=true)/\∃t,Ld am (aw j r 30) s t/\nA s (.cells bv am) λu v=>∃x,Sv am (vA u 0) t v x/\true/\∃y,Ld af (vA u 0) x y/\∃z A B C,(Instr.buildSlice aN 1 #[(0,y)]).run prog x=.ok (.slice A B C) z/\∃D E F G,(Builtin.append_ #[aN,aN] aN #[.slice o p q,.slice A B C]).run prog z=.ok (.slice E F G) D/\∃H:Nat,H<n/\m H E F G (i64.wrap (r+(1:Int))) D) (K (.slice o p q) s))):Cf dZ #[.agg #[.slice a b c,vI d]] w (Ret K):=ru func19 [(8,[(3,.one .slice),(10,.one (.int .i64))])] h
theorem oD (a:Value){w K}(h:nA w (.cells (Value.cells a) af) λb c=>true/\∃d,Ld ao (vA b 0) c (vS d)/\ai (d==[]) (true/\∃e,Ld ao (vA b 1) c (vS e)/\K (vS e) c) (true/\∃e,Ld ao (vA b 0) c (vS e)/\(((List.length e+List.length [61]:Nat):Int) <=i64.max)/\∀f,f=(e++[61])->true/\∃g,Ld ao (vA b 1) c (vS g)/\(((List.length f+List.length g:Nat):Int) <=i64.max)/\∀i,i=(f++g)->K (vS i) c)):Cf fz #[a] w (Ret K):=ru func23 [] h
theorem qT (a:Option Addr)(b c:Nat)(d:Option Addr)(e f:Nat)(g i:Int)(j:Value){w K}(h:nA w (.cells #[.slice a b c,.slice d e f,vI g,vI i] ae) λk l=>nA l (.cells (Value.cells j) bh) λm n=>nA n (.cells #[.slice none 0 0,.slice none 0 0,vI 0,vI 0] ae) λo p=>true/\∃q,Ld aJ (vA m 0) p (vI q)/\ai (q==(1:Int)) (∃r s t u v x y z,Ld ae (vA k 0) p (.agg #[.slice r s t,.slice u v x,vI y,vI z])/\true/\∃A,Ld aQ (vA m 1) p A/\true/\∃B,Ld ao (vA m 22) p (vS B)/\Cf iR #[.agg #[.slice r s t,.slice u v x,vI y,vI z],A,vS B] p λC D=>∃E F G H I J L M N,C=rT #[.agg #[.slice E F G,.slice H I J,vI L,vI M],vI N]/\nA D (.cells #[.slice none 0 0,.slice none 0 0,vI 0,vI 0] ae) λO P=>∃Q,Sv ae (vA O 0) (.agg #[.slice E F G,.slice H I J,vI L,vI M]) P Q/\∃R S T U V X Y Z,Ld ae (vA O 0) Q (.agg #[.slice R S T,.slice U V X,vI Y,vI Z])/\∃ac,Sv ae (vA o 0) (.agg #[.slice R S T,.slice U V X,vI Y,vI Z]) Q ac/\∃ad ag aj al an ar bb bc,Rv ae (vA o 0) ac (.agg #[.slice ad ag aj,.slice al an ar,vI bb,vI bc])/\K (.tuple #[.agg #[.slice ad ag aj,.slice al an ar,vI bb,vI bc],vI N,vS []]) ac) (ai (q==(2:Int)) (∃r s t u v x y z,Ld ae (vA k 0) p (.agg #[.slice r s t,.slice u v x,vI y,vI z])/\true/\∃A,Ld aU (vA m 23) p A/\Cf iQ #[.agg #[.slice r s t,.slice u v x,vI y,vI z],A] p λB C=>∃D E F G H I J L M,B=rT #[.agg #[.slice D E F,.slice G H I,vI J,vI L],vS M]/\nA C (.cells #[.slice none 0 0,.slice none 0 0,vI 0,vI 0] ae) λN O=>∃P,Sv ae (vA N 0) (.agg #[.slice D E F,.slice G H I,vI J,vI L]) O P/\∃Q R S T U V X Y,Ld ae (vA N 0) P (.agg #[.slice Q R S,.slice T U V,vI X,vI Y])/\∃Z,Sv ae (vA o 0) (.agg #[.slice Q R S,.slice T U V,vI X,vI Y]) P Z/\∃ac ad ag aj al an ar bb,Rv ae (vA o 0) Z (.agg #[.slice ac ad ag,.slice aj al an,vI ar,vI bb])/\K (.tuple #[.agg #[.slice ac ad ag,.slice aj al an,vI ar,vI bb],vI 0,vS M]) Z) (ai (q==(3:Int)) (∃r s t u v x y z,Ld ae (vA k 0) p (.agg #[.slice r s t,.slice u v x,vI y,vI z])/\true/\∃A,Ld aX (vA m 44) p (vI A)/\Cf fV #[.agg #[.slice r s t,.slice u v x,vI y,vI z],vI A] p λB C=>∃D E F G H I J L M,B=rT #[.agg #[.slice D E F,.slice G H I,vI J,vI L],vI M]/\nA C (.cells #[.slice none 0 0,.slice none 0 0,vI 0,vI 0] ae) λN O=>∃P,Sv ae (vA N 0) (.agg #[.slice D E F,.slice G H I,vI J,vI L]) O P/\∃Q R S T U V X Y,Ld ae (vA N 0) P (.agg #[.slice Q R S,.slice T U V,vI X,vI Y])/\∃Z,Sv ae (vA o 0) (.agg #[.slice Q R S,.slice T U V,vI X,vI Y]) P Z/\∃ac ad ag aj al an ar bb,Rv ae (vA o 0) Z (.agg #[.slice ac ad ag,.slice aj al an,vI ar,vI bb])/\K (.tuple #[.agg #[.slice ac ad ag,.slice aj al an,vI ar,vI bb],vI M,vS []]) Z) (ai (q==(4:Int)) (true/\∃r s t,Ld cI (vA k 0) p (.slice r s t)/\true/\∃u,Ld aX (vA k 3) p (vI u)/\∃v,Sv ae (vA o 0) (.agg #[.slice r s t,.slice none 0 0,vI 0,vI u]) p v/\∃x y z A B C D E,Rv ae (vA o 0) v (.agg #[.slice x y z,.slice A B C,vI D,vI E])/\K (.tuple #[.agg #[.slice x y z,.slice A B C,vI D,vI E],vI 0,vS []]) v) (∃r s t u v x y z,Ld ae (vA k 0) p (.agg #[.slice r s t,.slice u v x,vI y,vI z])/\∃A,Sv ae (vA o 0) (.agg #[.slice r s t,.slice u v x,vI y,vI z]) p A/\∃B C D E F G H I,Rv ae (vA o 0) A (.agg #[.slice B C D,.slice E F G,vI H,vI I])/\K (.tuple #[.agg #[.slice B C D,.slice E F G,vI H,vI I],vI 131,vS []]) A))))):Cf j9 #[.agg #[.slice a b c,.slice d e f,vI g,vI i],j] w (Ret K):=ru func39 [] h
theorem pK (a:Option Addr)(b c:Nat)(d:Option Addr)(e f:Nat)(g i:Int)(j:Value)(k:lU){w K}(h:nA w (.cells #[.slice a b c,.slice d e f,vI g,vI i] ae) λl m=>nA m (.cells (Value.cells j) aQ) λn o=>nA o (.cells #[.slice none 0 0,.slice none 0 0,vI 0,vI 0] ae) λp q=>∃r,Ld aQ (vA n 0) q r/\uB dy #[r] q λs t=>ai (!s) (∃u v x y z A B C,Ld ae (vA l 0) t (.agg #[.slice u v x,.slice y z A,vI B,vI C])/\∃D,Sv ae (vA p 0) (.agg #[.slice u v x,.slice y z A,vI B,vI C]) t D/\∃E F G H I J L M,Rv ae (vA p 0) D (.agg #[.slice E F G,.slice H I J,vI L,vI M])/\K (.tuple #[.agg #[.slice E F G,.slice H I J,vI L,vI M],vI 41]) D) (Cf dA #[vS k] t λu v=>∃x y z A B C D E F G H I,u=rT #[(hV x y z A B C D E F G H),vI I]/\nA v (.cells #[vS [],vS [],vS [],vS [],.bool false,vI 0,.bool false,vI 0,.bool false,.bool false,vI 0] aq) λJ L=>∃M,Sv aq (vA J 0) (hV x y z A B C D E F G H) L M/\ai (I !=(0:Int)) (∃N O P Q R S T U,Ld ae (vA l 0) M (.agg #[.slice N O P,.slice Q R S,vI T,vI U])/\∃V,Sv ae (vA p 0) (.agg #[.slice N O P,.slice Q R S,vI T,vI U]) M V/\∃X Y Z ac ad ag aj al,Rv ae (vA p 0) V (.agg #[.slice X Y Z,.slice ac ad ag,vI aj,vI al])/\K (.tuple #[.agg #[.slice X Y Z,.slice ac ad ag,vI aj,vI al],vI I]) V) (true/\∃N O P,Ld cI (vA l 0) M (.slice N O P)/\∃Q,Ld aQ (vA n 0) M Q/\∃R S T U V X Y Z ac ad ag,Ld aq (vA J 0) M (hV R S T U V X Y Z ac ad ag)/\true/\∃aj,Ld aX (vA l 3) M (vI aj)/\Cf fT #[.slice N O P,Q,(hV R S T U V X Y Z ac ad ag),vI aj] M λal an=>∃ar bb,al=rT #[ar,vI bb]/\nA an (.cells bf af) λbc bd=>∃bj,Sv af (vA bc 0) ar bd bj/\ai (bb !=(0:Int)) (∃bk bo bp bq bs bz cb cc,Ld ae (vA l 0) bj (.agg #[.slice bk bo bp,.slice bq bs bz,vI cb,vI cc])/\∃ce,Sv ae (vA p 0) (.agg #[.slice bk bo bp,.slice bq bs bz,vI cb,vI cc]) bj ce/\∃cf ch cj ck cl cm cn cp,Rv ae (vA p 0) ce (.agg #[.slice cf ch cj,.slice ck cl cm,vI cn,vI cp])/\K (.tuple #[.agg #[.slice cf ch cj,.slice ck cl cm,vI cn,vI cp],vI bb]) ce) (true/\∃bk bo bp bq,Ld ab (vA l 1) bj (.agg #[.slice bk bo bp,vI bq])/\uL dZ #[.agg #[.slice bk bo bp,vI bq]] bj λbs bz cb cc=>∃ce:Nat->FP [.one (.int .i64)],(∃cf,ce cf (0:Int) cc)/\∀cf ch,aP 15 (∀cj,ce cf ch cj->ai (decide (ch<((bz:Nat):Int))) ((bx ch ((bz:Nat):Int)/\Option.isSome bs=true)/\∃ck,Ld af (aw bs ch 29) cj ck/\nA cj (.cells bf af) λcl cm=>∃cn,Sv af (vA cl 0) ck cm cn/\∃cp:FP [.one .bool],(true/\∃cr,Ld bu (vA n 0) cn (.bool cr)/\ai (!cr) (∃cs,Ld af (vA cl 0) cn cs/\∃ct,Ld af (vA bc 0) cn ct/\uB dh #[cs,ct] cn λcu dc=>cp cu dc) (cp false cn))/\∀cr,aP 7 (∀cs,cp cr cs->ai cr (∃ct cu dc dd de dg dk dl,Ld ae (vA l 0) cs (.agg #[.slice ct cu dc,.slice dd de dg,vI dk,vI dl])/\∃dn,Sv ae (vA p 0) (.agg #[.slice ct cu dc,.slice dd de dg,vI dk,vI dl]) cs dn/\∃dr ds ea eb ed ee ef eg,Rv ae (vA p 0) dn (.agg #[.slice dr ds ea,.slice eb ed ee,vI ef,vI eg])/\K (.tuple #[.agg #[.slice dr ds ea,.slice eb ed ee,vI ef,vI eg],vI 121]) dn) (∃ct:Nat,ct<cf/\ce ct (i64.wrap (ch+(1:Int))) cs))) (true/\∃ck cl cm,Ld cI (vA l 0) cj (.slice ck cl cm)/\true/\∃cn,Ld ak (vA bc 2) cj cn/\uS fW #[.slice ck cl cm,cn] cj λcp cr=>true/\∃cs ct cu dc,Ld ab (vA l 1) cr (.agg #[.slice cs ct cu,vI dc])/\∃dd,Ld af (vA bc 0) cr dd/\Cf iO #[.agg #[.slice cs ct cu,vI dc],dd,vS cp] cr λde dg=>∃dk dl dn dr ds,de=rT #[.agg #[.slice dk dl dn,vI dr],.bool ds]/\true/\∃ea,Sv ab (vA l 1) (.agg #[.slice dk dl dn,vI dr]) dg ea/\true/\∃eb ed ee ef,Ld ab (vA l 1) ea (.agg #[.slice eb ed ee,vI ef])/\true/\∃eg,Ld aX (vA l 3) ea (vI eg)/\Cf cR #[.agg #[.slice eb ed ee,vI ef],vI eg] ea λei ek=>∃el em en eq er,ei=rT #[.agg #[.slice el em en,vI eq],vI er]/\true/\∃es,Sv ab (vA l 1) (.agg #[.slice el em en,vI eq]) ek es/\∃et:Nat->FP [],(∃ev,et ev es)/\∀ev,aP 22 (∀ew,et ev ew->true/\∃ex ey fb fd,Ld ab (vA l 1) ew (.agg #[.slice ex ey fb,vI fd])/\uI eV #[.agg #[.slice ex ey fb,vI fd],vS cp] ew λfn fr=>ai (decide (fn>(50:Int))) (true/\∃fs fv ga gb,Ld ab (vA l 1) fr (.agg #[.slice fs fv ga,vI gb])/\Cf cS #[.agg #[.slice fs fv ga,vI gb],vS cp,.bool false] fr λgc ge=>∃gf gl,gc=rT #[gf,.bool gl]/\nA ge (.cells bf af) λgo gs=>∃gt,Sv af (vA go 0) gf gs gt/\true/\∃ha hb hc hd,Ld ab (vA l 1) gt (.agg #[.slice ha hb hc,vI hd])/\∃he,Ld af (vA go 0) gt he/\Cf dX #[.agg #[.slice ha hb hc,vI hd],he] gt λhf hg=>∃hh hi hj hk hl,hf=rT #[.agg #[.slice hh hi hj,vI hk],.bool hl]/\true/\∃hm,Sv ab (vA l 1) (.agg #[.slice hh hi hj,vI hk]) hg hm/\∃hn:Nat,hn<ev/\et hn hm) (∃fs:Nat->FP [],(∃fv,fs fv fr)/\∀fv,aP 21 (∀ga,fs fv ga->true/\true/\∃gb gc ge,Ld aa (vA l 1) ga (.slice gb gc ge)/\ai (decide (((gc:Nat):Int)>(3000:Int))) (true/\∃gf gl go gs,Ld ab (vA l 1) ga (.agg #[.slice gf gl go,vI gs])/\Cf cS #[.agg #[.slice gf gl go,vI gs],vS [],.bool true] ga λgt ha=>∃hb hc,gt=rT #[hb,.bool hc]/\nA ha (.cells bf af) λhd he=>∃hf,Sv af (vA hd 0) hb he hf/\true/\∃hg hh hi hj,Ld ab (vA l 1) hf (.agg #[.slice hg hh hi,vI hj])/\∃hk,Ld af (vA hd 0) hf hk/\Cf dX #[.agg #[.slice hg hh hi,vI hj],hk] hf λhl hm=>∃hn ho hp hq hr,hl=rT #[.agg #[.slice hn ho hp,vI hq],.bool hr]/\true/\∃hs,Sv ab (vA l 1) (.agg #[.slice hn ho hp,vI hq]) hm hs/\∃ht:Nat,ht<fv/\fs ht hs) (∃gf gl go gs gt ha hb hc,Ld ae (vA l 0) ga (.agg #[.slice gf gl go,.slice gs gt ha,vI hb,vI hc])/\∃hd,Sv ae (vA p 0) (.agg #[.slice gf gl go,.slice gs gt ha,vI hb,vI hc]) ga hd/\∃he hf hg hh hi hj hk hl,Rv ae (vA p 0) hd (.agg #[.slice he hf hg,.slice hh hi hj,vI hk,vI hl])/\K (.tuple #[.agg #[.slice he hf hg,.slice hh hi hj,vI hk,vI hl],vI 0]) hd)))))))))):Cf iR #[.agg #[.slice a b c,.slice d e f,vI g,vI i],j,vS k] w (Ret K):=ru func88 [(34,[(49,.one (.int .i64))]),(45,[(60,.one .bool)]),(61,[]),(74,[])] h
theorem pJ (a:Option Addr)(b c:Nat)(d:Option Addr)(e f:Nat)(g i:Int)(j:Value){w K}(h:nA w (.cells #[.slice a b c,.slice d e f,vI g,vI i] ae) λk l=>nA l (.cells (Value.cells j) aU) λm n=>nA n (.cells #[.slice none 0 0,.slice none 0 0,vI 0,vI 0] ae) λo p=>∃q r s t u v x y,Ld ae (vA k 0) p (.agg #[.slice q r s,.slice t u v,vI x,vI y])/\∃z,Ld aU (vA m 0) p z/\uL fU #[.agg #[.slice q r s,.slice t u v,vI x,vI y],z] p λA B C D=>∃E:Nat->FP [.one .str,.one (.int .i64)],(∃F,E F [] (0:Int) D)/\∀F G H,aP 25 (∀I,E F G H I->ai (decide (H<((B:Nat):Int))) ((bx H ((B:Nat):Int)/\Option.isSome A=true)/\∃J,Ld af (aw A H 29) I J/\nA I (.cells bf af) λL M=>∃N,Sv af (vA L 0) J M N/\∃O:FP [.one .str],(ai (decide (H>(0:Int))) ((((List.length G+List.length [59,32]:Nat):Int) <=i64.max)/\∀P,P=(G++[59,32])->O P N) (O G N))/\∀P,aP 4 (∀Q,O P Q->∃R,Ld af (vA L 0) Q R/\uS fz #[R] Q λS T=>(((List.length P+List.length S:Nat):Int) <=i64.max)/\∀U,U=(P++S)->true/\∃V X Y Z,Ld ab (vA k 1) T (.agg #[.slice V X Y,vI Z])/\∃ac,Ld af (vA L 0) T ac/\true/\∃ad,Ld aX (vA k 3) T (vI ad)/\Cf iP #[.agg #[.slice V X Y,vI Z],ac,vI ad] T λag aj=>∃al an ar bb bc,ag=rT #[.agg #[.slice al an ar,vI bb],.bool bc]/\true/\∃bd,Sv ab (vA k 1) (.agg #[.slice al an ar,vI bb]) aj bd/\∃bj:Nat,bj<F/\E bj U (i64.wrap (H+(1:Int))) bd)) (∃J L M N O P Q R,Ld ae (vA k 0) I (.agg #[.slice J L M,.slice N O P,vI Q,vI R])/\∃S,Sv ae (vA o 0) (.agg #[.slice J L M,.slice N O P,vI Q,vI R]) I S/\∃T U V X Y Z ac ad,Rv ae (vA o 0) S (.agg #[.slice T U V,.slice X Y Z,vI ac,vI ad])/\K (.tuple #[.agg #[.slice T U V,.slice X Y Z,vI ac,vI ad],vS G]) S))):Cf iQ #[.agg #[.slice a b c,.slice d e f,vI g,vI i],j] w (Ret K):=ru func89 [(8,[(6,.one .str),(13,.one (.int .i64))]),(19,[(6,.one .str)])] h
theorem oE (a:Option Addr)(b c:Nat)(d:Option Addr)(e f:Nat)(g i j:Int){w K}(h:nA w (.cells #[.slice a b c,.slice d e f,vI g,vI i] ae) λk l=>nA l (.cells #[.slice none 0 0,.slice none 0 0,vI 0,vI 0] ae) λm n=>∃o:FP [],(∃p:FP [.one .bool],(ai (decide (j<(0:Int))) (p true n) (true/\∃q,Ld aX (vA k 3) n (vI q)/\p (decide (j>(i64.wrap ((1099511627776:Int)-q)))) n))/\∀q,aP 8 (∀r,p q r->ai q (∃s t u v x y z A,Ld ae (vA k 0) r (.agg #[.slice s t u,.slice v x y,vI z,vI A])/\∃B,Sv ae (vA m 0) (.agg #[.slice s t u,.slice v x y,vI z,vI A]) r B/\∃C D E F G H I J,Rv ae (vA m 0) B (.agg #[.slice C D E,.slice F G H,vI I,vI J])/\K (.tuple #[.agg #[.slice C D E,.slice F G H,vI I,vI J],vI 122]) B) (o r)))/\aP 11 (∀p,o p->true/\∃q,Ld aX (vA k 3) p (vI q)/\true/\∃r,Sv aX (vA k 3) (vI (i64.wrap (q+j))) p r/\true/\∃s t u v,Ld ab (vA k 1) r (.agg #[.slice s t u,vI v])/\true/\∃x,Ld aX (vA k 3) r (vI x)/\Cf cR #[.agg #[.slice s t u,vI v],vI x] r λy z=>∃A B C D E,y=rT #[.agg #[.slice A B C,vI D],vI E]/\true/\∃F,Sv ab (vA k 1) (.agg #[.slice A B C,vI D]) z F/\∃G H I J L M N O,Ld ae (vA k 0) F (.agg #[.slice G H I,.slice J L M,vI N,vI O])/\∃P,Sv ae (vA m 0) (.agg #[.slice G H I,.slice J L M,vI N,vI O]) F P/\∃Q R S T U V X Y,Rv ae (vA m 0) P (.agg #[.slice Q R S,.slice T U V,vI X,vI Y])/\K (.tuple #[.agg #[.slice Q R S,.slice T U V,vI X,vI Y],vI 0]) P)):Cf fV #[.agg #[.slice a b c,.slice d e f,vI g,vI i],vI j] w (Ret K):=ru func90 [(2,[]),(3,[(14,.one .bool)])] h
theorem jr (a b:Value){w K}(h:nA w (.cells (Value.cells a) af) λc d=>nA d (.cells (Value.cells b) af) λe f=>∃g:FP [.one .bool],(true/\∃i,Ld ak (vA c 2) f i/\true/\∃j,Ld ak (vA e 2) f j/\uB bH #[i,j] f λk l=>ai k (g true l) (true/\∃m,Ld ak (vA e 2) l m/\true/\∃n,Ld ak (vA c 2) l n/\uB bH #[m,n] l λo p=>g o p))/\∀i,aP 12 (∀j,g i j->true/\∃k,Ld bu (vA c 22) j (.bool k)/\ai k (true/\∃l,Ld ao (vA c 0) j (vS l)/\true/\∃m,Ld ao (vA e 0) j (vS m)/\ai (l==m) (ai i (true/\∃n,Ld ao (vA e 21) j (vS n)/\true/\∃o,Ld ao (vA c 21) j (vS o)/\uB dW #[vS n,vS o] j λp q=>K (.bool p) q) (K (.bool false) j)) (K (.bool false) j)) (K (.bool false) j))):Cf dh #[a,b] w (Ret K):=ru func146 [(2,[(5,.one .bool)])] h
theorem oF (a:Option Addr)(b c:Nat)(d:Value){w K}(h:nA w (.cells (Value.cells d) ak) λe f=>∃g,Ld ak (vA e 0) f g/\uS fP #[.slice a b c,g] f λi j=>ai (i==[]) (∃k,Ld ak (vA e 0) j k/\uS cU #[k] j λl m=>K (vS l) m) (K (vS i) j)):Cf fW #[.slice a b c,d] w (Ret K):=ru func147 [] h
abbrev aD (t:TypeId)(b:Option Addr)(c d:Nat)(e:Option Addr)(g h:Nat)(i:Int)(w:World)(o:Option Addr)(p q:Nat)(x:World):Prop:=(Builtin.append_ #[t,t] t #[.slice b c d,.slice (aS e h (Int.toNat i) 30) (g-(Int.toNat i)) (h-(Int.toNat i))]).run prog w=.ok (.slice o p q) x
abbrev aT (a:Option Addr)(b c:Nat)(d:Int):Value:=.tuple #[.agg #[.slice a b c,vI d],.bool true]
theorem pG (a:Option Addr)(b c:Nat)(d:Int)(e:Value)(f:lU){w K}(h:nA w (.cells #[.slice a b c,vI d] ab) λg i=>nA i (.cells (Value.cells e) af) λj k=>nA k (.cells #[.slice none 0 0,vI 0] ab) λl m=>nA m (.cells #[] am) λn o=>true/\∃p q r,Ld aa (vA g 0) o (.slice p q r)/\∃s t u v,(Builtin.append_ #[aa,aa] aa #[.slice (vA n 0) 0 0,.slice p q r]).run prog o=.ok (.slice t u v) s/\∃x y z A,Ld ab (vA g 0) s (.agg #[.slice x y z,vI A])/\∃B,Ld af (vA j 0) s B/\uI eE #[.agg #[.slice x y z,vI A],B] s λC D=>ai (decide (C >=(0:Int))) ((bx C ((u:Nat):Int)/\Option.isSome t=true)/\(isSome (aw t C 30))/\(isSome (Option.map (λE=>E.add 0) (aw t C 30)))/\∃E,Ld aX (Option.map (λF=>F.add 26) (Option.map (λF=>F.add 0) (aw t C 30))) D (vI E)/\true/\∃F,Sv aX (vA j 26) (vI E) D F/\(bx C ((u:Nat):Int)/\Option.isSome t=true)/\(isSome (aw t C 30))/\(isSome (Option.map (λG=>G.add 0) (aw t C 30)))/\∃G,Ld aJ (Option.map (λH=>H.add 28) (Option.map (λH=>H.add 0) (aw t C 30))) F (vI G)/\true/\∃H,Sv aJ (vA j 28) (vI G) F H/\∃I,Ld af (vA j 0) H I/\∃J,(Instr.build am #[(0,I),(1,vS f)]).run prog H=.ok J H/\(bx C ((u:Nat):Int)/\Option.isSome t=true)/\∃L,Sv am (aw t C 30) J H L/\true/\∃M,Ld aJ (vA g 1) L (vI M)/\∃N,Sv ab (vA l 0) (.agg #[.slice t u v,vI M]) L N/\∃O P Q R,Rv ab (vA l 0) N (.agg #[.slice O P Q,vI R])/\K (aT O P Q R) N) (true/\∃E,Ld aJ (vA g 1) D (vI E)/\true/\∃F,Sv aJ (vA j 28) (vI (i64.wrap (E+(1:Int)))) D F/\true/\(∃G,Ld af (vA j 0) (World.drew F) G/\(∃H,(Instr.build am #[(0,G),(1,vS f)]).run prog (World.drew F)=.ok H (World.drew F)/\(∃I J L M,(Instr.buildSlice aa 1 #[(0,H)]).run prog (World.drew F)=.ok (.slice J L M) I/\(∃N O P Q,(Builtin.append_ #[aa,aa] aa #[.slice t u v,.slice J L M]).run prog I=.ok (.slice O P Q) N/\∃R,Ld aJ (vA g 1) N (vI R)/\∃S,Sv ab (vA l 0) (.agg #[.slice O P Q,vI (i64.wrap (R+(1:Int)))]) N S/\∃T U V X,Rv ab (vA l 0) S (.agg #[.slice T U V,vI X])/\K (.tuple #[.agg #[.slice T U V,vI X],.bool false]) S)/\∃N,Ld aJ (vA g 1) I (vI N)/\∃O P Q R,(Builtin.append_ #[aa,aa] aa #[.slice t u v,.slice J L M]).run prog I=.ok (.slice P Q R) O/\∃S,Sv ab (vA l 0) (.agg #[.slice P Q R,vI (i64.wrap (N+(1:Int)))]) O S/\∃T U V X,Rv ab (vA l 0) S (.agg #[.slice T U V,vI X])/\K (.tuple #[.agg #[.slice T U V,vI X],.bool false]) S)/\∃I,Ld aJ (vA g 1) (World.drew F) (vI I)/\∃J L M N,(Instr.buildSlice aa 1 #[(0,H)]).run prog (World.drew F)=.ok (.slice L M N) J/\∃O P Q R,(Builtin.append_ #[aa,aa] aa #[.slice t u v,.slice L M N]).run prog J=.ok (.slice P Q R) O/\∃S,Sv ab (vA l 0) (.agg #[.slice P Q R,vI (i64.wrap (I+(1:Int)))]) O S/\∃T U V X,Rv ab (vA l 0) S (.agg #[.slice T U V,vI X])/\K (.tuple #[.agg #[.slice T U V,vI X],.bool false]) S)/\∃H,Ld aJ (vA g 1) (World.drew F) (vI H)/\∃I,(Instr.build am #[(0,G),(1,vS f)]).run prog (World.drew F)=.ok I (World.drew F)/\∃J L M N,(Instr.buildSlice aa 1 #[(0,I)]).run prog (World.drew F)=.ok (.slice L M N) J/\∃O P Q R,(Builtin.append_ #[aa,aa] aa #[.slice t u v,.slice L M N]).run prog J=.ok (.slice P Q R) O/\∃S,Sv ab (vA l 0) (.agg #[.slice P Q R,vI (i64.wrap (H+(1:Int)))]) O S/\∃T U V X,Rv ab (vA l 0) S (.agg #[.slice T U V,vI X])/\K (.tuple #[.agg #[.slice T U V,vI X],.bool false]) S)/\∃G,Ld aJ (vA g 1) (World.drew F) (vI G)/\∃H,Ld af (vA j 0) (World.drew F) H/\∃I,(Instr.build am #[(0,H),(1,vS f)]).run prog (World.drew F)=.ok I (World.drew F)/\∃J L M N,(Instr.buildSlice aa 1 #[(0,I)]).run prog (World.drew F)=.ok (.slice L M N) J/\∃O P Q R,(Builtin.append_ #[aa,aa] aa #[.slice t u v,.slice L M N]).run prog J=.ok (.slice P Q R) O/\∃S,Sv ab (vA l 0) (.agg #[.slice P Q R,vI (i64.wrap (G+(1:Int)))]) O S/\∃T U V X,Rv ab (vA l 0) S (.agg #[.slice T U V,vI X])/\K (.tuple #[.agg #[.slice T U V,vI X],.bool false]) S)):Cf iO #[.agg #[.slice a b c,vI d],e,vS f] w (Ret K):=ru func148 [] h
theorem lC (a:Option Addr)(b c:Nat)(d e:Int){w K}(h:nA w (.cells #[.slice a b c,vI d] ab) λf g=>nA g (.cells #[.slice none 0 0,vI 0] ab) λi j=>nA j (.cells #[] am) λk l=>true/\∃m n o,Ld aa (vA f 0) l (.slice m n o)/\∃p:Nat->FP [.one .slice,.one (.int .i64)],(∃q,p q (vA k 0) 0 0 (0:Int) l)/\∀q r s t u,aP 14 (∀v,p q r s t u v->ai (decide (u<((n:Nat):Int))) ((bx u ((n:Nat):Int)/\Option.isSome m=true)/\∃x,Ld am (aw m u 30) v x/\nA v (.cells bv am) λy z=>∃A,Sv am (vA y 0) x z A/\true/\true/\∃B,Ld aX (vA y 25) A (vI B)/\ai (decide (B>e)) (∃C,Ld am (vA y 0) A C/\∃D E F G,(Instr.buildSlice aa 1 #[(0,C)]).run prog A=.ok (.slice E F G) D/\∃H I J L,(Builtin.append_ #[aa,aa] aa #[.slice r s t,.slice E F G]).run prog D=.ok (.slice I J L) H/\∃M:Nat,M<q/\p M I J L (i64.wrap (u+(1:Int))) H) (∃C:Nat,C<q/\p C r s t (i64.wrap (u+(1:Int))) A)) (true/\true/\(∃x,Ld aJ (vA f 1) (World.drew v) (vI x)/\(∃y z A,Ld aa (vA f 0) (World.drew v) (.slice y z A)/\∃B,Sv ab (vA i 0) (.agg #[.slice r s t,vI x]) (World.drew v) B/\∃C D E F,Rv ab (vA i 0) B (.agg #[.slice C D E,vI F])/\K (.tuple #[.agg #[.slice C D E,vI F],vI (i64.wrap (((z:Nat):Int)-((s:Nat):Int)))]) B)/\∃y,Sv ab (vA i 0) (.agg #[.slice r s t,vI x]) (World.drew v) y/\∃z A B,Ld aa (vA f 0) y (.slice z A B)/\∃C D E F,Rv ab (vA i 0) y (.agg #[.slice C D E,vI F])/\K (.tuple #[.agg #[.slice C D E,vI F],vI (i64.wrap (((A:Nat):Int)-((s:Nat):Int)))]) y)/\∃x y z,Ld aa (vA f 0) (World.drew v) (.slice x y z)/\∃A,Ld aJ (vA f 1) (World.drew v) (vI A)/\∃B,Sv ab (vA i 0) (.agg #[.slice r s t,vI A]) (World.drew v) B/\∃C D E F,Rv ab (vA i 0) B (.agg #[.slice C D E,vI F])/\K (.tuple #[.agg #[.slice C D E,vI F],vI (i64.wrap (((y:Nat):Int)-((s:Nat):Int)))]) B))):Cf cR #[.agg #[.slice a b c,vI d],vI e] w (Ret K):=ru func149 [(8,[(6,.one .slice),(13,.one (.int .i64))])] h
theorem mJ (a:Option Addr)(b c:Nat)(d:Int)(e:lU){w K}(h:nA w (.cells #[.slice a b c,vI d] ab) λf g=>true/\∃i j k,Ld aa (vA f 0) g (.slice i j k)/\∃l:Nat->FP [.one (.int .i64),.one (.int .i64)],(∃m,l m (0:Int) (0:Int) g)/\∀m n o,aP 11 (∀p,l m n o p->ai (decide (o<((j:Nat):Int))) ((bx o ((j:Nat):Int)/\Option.isSome i=true)/\∃q,Ld am (aw i o 30) p q/\nA p (.cells bv am) λr s=>∃t,Sv am (vA r 0) q s t/\true/\∃u,Ld ao (vA r 29) t (vS u)/\ai (u==e) (∃v:Nat,v<m/\l v (i64.wrap (n+(1:Int))) (i64.wrap (o+(1:Int))) t) (∃v:Nat,v<m/\l v n (i64.wrap (o+(1:Int))) t)) (K (vI n) p))):Cf eV #[.agg #[.slice a b c,vI d],vS e] w (Ret K):=ru func150 [(8,[(5,.one (.int .i64)),(11,.one (.int .i64))])] h
theorem lD (a:Option Addr)(b c:Nat)(d:Int)(e:lU)(f:Bool){w K}(h:nA w (.cells #[.slice a b c,vI d] ab) λg i=>nA i (.cells bf af) λj k=>nA k (.cells bf af) λl m=>∃n,Sv af (vA l 0) (.agg bf) m n/\true/\∃o p q,Ld aa (vA g 0) n (.slice o p q)/\∃r:Nat->FP [.one .bool,.one (.int .i64)],(∃s,r s false (0:Int) n)/\∀s t u,aP 26 (∀v,r s t u v->ai (decide (u<((p:Nat):Int))) ((bx u ((p:Nat):Int)/\Option.isSome o=true)/\∃x,Ld am (aw o u 30) v x/\nA v (.cells bv am) λy z=>∃A,Sv am (vA y 0) x z A/\∃B:FP [.one .bool],(ai f (ai (!t) (B true A) (true/\true/\∃C,Ld aX (vA y 27) A (vI C)/\true/\∃D,Ld aX (vA l 27) A (vI D)/\B (decide (C<D)) A)) (true/\∃C,Ld ao (vA y 29) A (vS C)/\ai (C==e) (ai (!t) (B true A) (true/\true/\∃D,Ld aX (vA y 27) A (vI D)/\true/\∃E,Ld aX (vA l 27) A (vI E)/\B (decide (D<E)) A)) (B false A)))/\∀C,aP 18 (∀D,B C D->ai C (true/\∃E,Ld af (vA y 0) D E/\∃F,Sv af (vA l 0) E D F/\∃G:Nat,G<s/\r G true (i64.wrap (u+(1:Int))) F) (∃E:Nat,E<s/\r E t (i64.wrap (u+(1:Int))) D))) (∃x,Ld af (vA l 0) v x/\∃y,Sv af (vA j 0) x v y/\∃z,Rv af (vA j 0) y z/\K (.tuple #[z,.bool t]) y))):Cf cS #[.agg #[.slice a b c,vI d],vS e,.bool f] w (Ret K):=ru func151 [(10,[(9,.one .bool),(16,.one (.int .i64))]),(21,[(38,.one .bool)])] h
theorem oA (a:Option Addr)(b c:Nat)(d:Int)(e:Value){w K}(h:nA w (.cells #[.slice a b c,vI d] ab) λf g=>nA g (.cells (Value.cells e) af) λi j=>nA j (.cells #[.slice none 0 0,vI 0] ab) λk l=>∃m n o p,Ld ab (vA f 0) l (.agg #[.slice m n o,vI p])/\∃q,Ld af (vA i 0) l q/\uI eE #[.agg #[.slice m n o,vI p],q] l λr s=>ai (decide (r<(0:Int))) (∃t u v x,Ld ab (vA f 0) s (.agg #[.slice t u v,vI x])/\∃y,Sv ab (vA k 0) (.agg #[.slice t u v,vI x]) s y/\∃z A B C,Rv ab (vA k 0) y (.agg #[.slice z A B,vI C])/\K (.tuple #[.agg #[.slice z A B,vI C],.bool false]) y) (true/\true/\true/\(∀t u,t=(World.drew s).heap.size->u=(World.drew s).alloc (.cells #[] am)->(∃v x y,Ld aa (vA f 0) u (.slice v x y)/\bd r ((y:Nat):Int)/\(∃z A B C,(Builtin.append_ #[aa,aa] aa #[.slice (vA t 0) 0 0,.slice v (Int.toNat r) y]).run prog u=.ok (.slice A B C) z/\(∃D E F,Ld aa (vA f 0) z (.slice D E F)/\bd (i64.wrap (r+(1:Int))) ((E:Nat):Int)/\(∃G H I J,aD aa A B C D E F (i64.wrap (r+(1:Int))) z H I J G/\∃L,Ld aJ (vA f 1) G (vI L)/\∃M,Sv ab (vA k 0) (.agg #[.slice H I J,vI L]) G M/\∃N O P Q,Rv ab (vA k 0) M (.agg #[.slice N O P,vI Q])/\K (aT N O P Q) M)/\∃G,Ld aJ (vA f 1) z (vI G)/\∃H I J L,aD aa A B C D E F (i64.wrap (r+(1:Int))) z I J L H/\∃M,Sv ab (vA k 0) (.agg #[.slice I J L,vI G]) H M/\∃N O P Q,Rv ab (vA k 0) M (.agg #[.slice N O P,vI Q])/\K (aT N O P Q) M)/\∃D,Ld aJ (vA f 1) z (vI D)/\∃E F G,Ld aa (vA f 0) z (.slice E F G)/\bd (i64.wrap (r+(1:Int))) ((F:Nat):Int)/\∃H I J L,aD aa A B C E F G (i64.wrap (r+(1:Int))) z I J L H/\∃M,Sv ab (vA k 0) (.agg #[.slice I J L,vI D]) H M/\∃N O P Q,Rv ab (vA k 0) M (.agg #[.slice N O P,vI Q])/\K (aT N O P Q) M)/\(∃z A B,Ld aa (vA f 0) u (.slice z A B)/\bd (i64.wrap (r+(1:Int))) ((A:Nat):Int)/\(∃C D E F,(Builtin.append_ #[aa,aa] aa #[.slice (vA t 0) 0 0,.slice v (Int.toNat r) y]).run prog u=.ok (.slice D E F) C/\(∃G H I J,aD aa D E F z A B (i64.wrap (r+(1:Int))) C H I J G/\∃L,Ld aJ (vA f 1) G (vI L)/\∃M,Sv ab (vA k 0) (.agg #[.slice H I J,vI L]) G M/\∃N O P Q,Rv ab (vA k 0) M (.agg #[.slice N O P,vI Q])/\K (aT N O P Q) M)/\∃G,Ld aJ (vA f 1) C (vI G)/\∃H I J L,aD aa D E F z A B (i64.wrap (r+(1:Int))) C I J L H/\∃M,Sv ab (vA k 0) (.agg #[.slice I J L,vI G]) H M/\∃N O P Q,Rv ab (vA k 0) M (.agg #[.slice N O P,vI Q])/\K (aT N O P Q) M)/\∃C,Ld aJ (vA f 1) u (vI C)/\∃D E F G,(Builtin.append_ #[aa,aa] aa #[.slice (vA t 0) 0 0,.slice v (Int.toNat r) y]).run prog u=.ok (.slice E F G) D/\∃H I J L,aD aa E F G z A B (i64.wrap (r+(1:Int))) D I J L H/\∃M,Sv ab (vA k 0) (.agg #[.slice I J L,vI C]) H M/\∃N O P Q,Rv ab (vA k 0) M (.agg #[.slice N O P,vI Q])/\K (aT N O P Q) M)/\∃z,Ld aJ (vA f 1) u (vI z)/\(∃A B C D,(Builtin.append_ #[aa,aa] aa #[.slice (vA t 0) 0 0,.slice v (Int.toNat r) y]).run prog u=.ok (.slice B C D) A/\∃E F G,Ld aa (vA f 0) A (.slice E F G)/\bd (i64.wrap (r+(1:Int))) ((F:Nat):Int)/\∃H I J L,aD aa B C D E F G (i64.wrap (r+(1:Int))) A I J L H/\∃M,Sv ab (vA k 0) (.agg #[.slice I J L,vI z]) H M/\∃N O P Q,Rv ab (vA k 0) M (.agg #[.slice N O P,vI Q])/\K (aT N O P Q) M)/\∃A B C,Ld aa (vA f 0) u (.slice A B C)/\bd (i64.wrap (r+(1:Int))) ((B:Nat):Int)/\∃D E F G,(Builtin.append_ #[aa,aa] aa #[.slice (vA t 0) 0 0,.slice v (Int.toNat r) y]).run prog u=.ok (.slice E F G) D/\∃H I J L,aD aa E F G A B C (i64.wrap (r+(1:Int))) D I J L H/\∃M,Sv ab (vA k 0) (.agg #[.slice I J L,vI z]) H M/\∃N O P Q,Rv ab (vA k 0) M (.agg #[.slice N O P,vI Q])/\K (aT N O P Q) M)/\(∃v x y,Ld aa (vA f 0) u (.slice v x y)/\bd (i64.wrap (r+(1:Int))) ((x:Nat):Int)/\(∃z A B,Ld aa (vA f 0) u (.slice z A B)/\bd r ((B:Nat):Int)/\(∃C D E F,(Builtin.append_ #[aa,aa] aa #[.slice (vA t 0) 0 0,.slice z (Int.toNat r) B]).run prog u=.ok (.slice D E F) C/\(∃G H I J,aD aa D E F v x y (i64.wrap (r+(1:Int))) C H I J G/\∃L,Ld aJ (vA f 1) G (vI L)/\∃M,Sv ab (vA k 0) (.agg #[.slice H I J,vI L]) G M/\∃N O P Q,Rv ab (vA k 0) M (.agg #[.slice N O P,vI Q])/\K (aT N O P Q) M)/\∃G,Ld aJ (vA f 1) C (vI G)/\∃H I J L,aD aa D E F v x y (i64.wrap (r+(1:Int))) C I J L H/\∃M,Sv ab (vA k 0) (.agg #[.slice I J L,vI G]) H M/\∃N O P Q,Rv ab (vA k 0) M (.agg #[.slice N O P,vI Q])/\K (aT N O P Q) M)/\∃C,Ld aJ (vA f 1) u (vI C)/\∃D E F G,(Builtin.append_ #[aa,aa] aa #[.slice (vA t 0) 0 0,.slice z (Int.toNat r) B]).run prog u=.ok (.slice E F G) D/\∃H I J L,aD aa E F G v x y (i64.wrap (r+(1:Int))) D I J L H/\∃M,Sv ab (vA k 0) (.agg #[.slice I J L,vI C]) H M/\∃N O P Q,Rv ab (vA k 0) M (.agg #[.slice N O P,vI Q])/\K (aT N O P Q) M)/\∃z,Ld aJ (vA f 1) u (vI z)/\∃A B C,Ld aa (vA f 0) u (.slice A B C)/\bd r ((C:Nat):Int)/\∃D E F G,(Builtin.append_ #[aa,aa] aa #[.slice (vA t 0) 0 0,.slice A (Int.toNat r) C]).run prog u=.ok (.slice E F G) D/\∃H I J L,aD aa E F G v x y (i64.wrap (r+(1:Int))) D I J L H/\∃M,Sv ab (vA k 0) (.agg #[.slice I J L,vI z]) H M/\∃N O P Q,Rv ab (vA k 0) M (.agg #[.slice N O P,vI Q])/\K (aT N O P Q) M)/\∃v,Ld aJ (vA f 1) u (vI v)/\(∃x y z,Ld aa (vA f 0) u (.slice x y z)/\bd r ((z:Nat):Int)/\(∃A B C D,(Builtin.append_ #[aa,aa] aa #[.slice (vA t 0) 0 0,.slice x (Int.toNat r) z]).run prog u=.ok (.slice B C D) A/\∃E F G,Ld aa (vA f 0) A (.slice E F G)/\bd (i64.wrap (r+(1:Int))) ((F:Nat):Int)/\∃H I J L,aD aa B C D E F G (i64.wrap (r+(1:Int))) A I J L H/\∃M,Sv ab (vA k 0) (.agg #[.slice I J L,vI v]) H M/\∃N O P Q,Rv ab (vA k 0) M (.agg #[.slice N O P,vI Q])/\K (aT N O P Q) M)/\∃A B C,Ld aa (vA f 0) u (.slice A B C)/\bd (i64.wrap (r+(1:Int))) ((B:Nat):Int)/\∃D E F G,(Builtin.append_ #[aa,aa] aa #[.slice (vA t 0) 0 0,.slice x (Int.toNat r) z]).run prog u=.ok (.slice E F G) D/\∃H I J L,aD aa E F G A B C (i64.wrap (r+(1:Int))) D I J L H/\∃M,Sv ab (vA k 0) (.agg #[.slice I J L,vI v]) H M/\∃N O P Q,Rv ab (vA k 0) M (.agg #[.slice N O P,vI Q])/\K (aT N O P Q) M)/\∃x y z,Ld aa (vA f 0) u (.slice x y z)/\bd (i64.wrap (r+(1:Int))) ((y:Nat):Int)/\∃A B C,Ld aa (vA f 0) u (.slice A B C)/\bd r ((C:Nat):Int)/\∃D E F G,(Builtin.append_ #[aa,aa] aa #[.slice (vA t 0) 0 0,.slice A (Int.toNat r) C]).run prog u=.ok (.slice E F G) D/\∃H I J L,aD aa E F G x y z (i64.wrap (r+(1:Int))) D I J L H/\∃M,Sv ab (vA k 0) (.agg #[.slice I J L,vI v]) H M/\∃N O P Q,Rv ab (vA k 0) M (.agg #[.slice N O P,vI Q])/\K (aT N O P Q) M)/\(∃t u v,Ld aa (vA f 0) (World.drew s) (.slice t u v)/\bd r ((v:Nat):Int)/\(∀x y,x=(World.drew s).heap.size->y=(World.drew s).alloc (.cells #[] am)->(∃z A B C,(Builtin.append_ #[aa,aa] aa #[.slice (vA x 0) 0 0,.slice t (Int.toNat r) v]).run prog y=.ok (.slice A B C) z/\(∃D E F,Ld aa (vA f 0) z (.slice D E F)/\bd (i64.wrap (r+(1:Int))) ((E:Nat):Int)/\(∃G H I J,aD aa A B C D E F (i64.wrap (r+(1:Int))) z H I J G/\∃L,Ld aJ (vA f 1) G (vI L)/\∃M,Sv ab (vA k 0) (.agg #[.slice H I J,vI L]) G M/\∃N O P Q,Rv ab (vA k 0) M (.agg #[.slice N O P,vI Q])/\K (aT N O P Q) M)/\∃G,Ld aJ (vA f 1) z (vI G)/\∃H I J L,aD aa A B C D E F (i64.wrap (r+(1:Int))) z I J L H/\∃M,Sv ab (vA k 0) (.agg #[.slice I J L,vI G]) H M/\∃N O P Q,Rv ab (vA k 0) M (.agg #[.slice N O P,vI Q])/\K (aT N O P Q) M)/\∃D,Ld aJ (vA f 1) z (vI D)/\∃E F G,Ld aa (vA f 0) z (.slice E F G)/\bd (i64.wrap (r+(1:Int))) ((F:Nat):Int)/\∃H I J L,aD aa A B C E F G (i64.wrap (r+(1:Int))) z I J L H/\∃M,Sv ab (vA k 0) (.agg #[.slice I J L,vI D]) H M/\∃N O P Q,Rv ab (vA k 0) M (.agg #[.slice N O P,vI Q])/\K (aT N O P Q) M)/\(∃z A B,Ld aa (vA f 0) y (.slice z A B)/\bd (i64.wrap (r+(1:Int))) ((A:Nat):Int)/\(∃C D E F,(Builtin.append_ #[aa,aa] aa #[.slice (vA x 0) 0 0,.slice t (Int.toNat r) v]).run prog y=.ok (.slice D E F) C/\(∃G H I J,aD aa D E F z A B (i64.wrap (r+(1:Int))) C H I J G/\∃L,Ld aJ (vA f 1) G (vI L)/\∃M,Sv ab (vA k 0) (.agg #[.slice H I J,vI L]) G M/\∃N O P Q,Rv ab (vA k 0) M (.agg #[.slice N O P,vI Q])/\K (aT N O P Q) M)/\∃G,Ld aJ (vA f 1) C (vI G)/\∃H I J L,aD aa D E F z A B (i64.wrap (r+(1:Int))) C I J L H/\∃M,Sv ab (vA k 0) (.agg #[.slice I J L,vI G]) H M/\∃N O P Q,Rv ab (vA k 0) M (.agg #[.slice N O P,vI Q])/\K (aT N O P Q) M)/\∃C,Ld aJ (vA f 1) y (vI C)/\∃D E F G,(Builtin.append_ #[aa,aa] aa #[.slice (vA x 0) 0 0,.slice t (Int.toNat r) v]).run prog y=.ok (.slice E F G) D/\∃H I J L,aD aa E F G z A B (i64.wrap (r+(1:Int))) D I J L H/\∃M,Sv ab (vA k 0) (.agg #[.slice I J L,vI C]) H M/\∃N O P Q,Rv ab (vA k 0) M (.agg #[.slice N O P,vI Q])/\K (aT N O P Q) M)/\∃z,Ld aJ (vA f 1) y (vI z)/\(∃A B C D,(Builtin.append_ #[aa,aa] aa #[.slice (vA x 0) 0 0,.slice t (Int.toNat r) v]).run prog y=.ok (.slice B C D) A/\∃E F G,Ld aa (vA f 0) A (.slice E F G)/\bd (i64.wrap (r+(1:Int))) ((F:Nat):Int)/\∃H I J L,aD aa B C D E F G (i64.wrap (r+(1:Int))) A I J L H/\∃M,Sv ab (vA k 0) (.agg #[.slice I J L,vI z]) H M/\∃N O P Q,Rv ab (vA k 0) M (.agg #[.slice N O P,vI Q])/\K (aT N O P Q) M)/\∃A B C,Ld aa (vA f 0) y (.slice A B C)/\bd (i64.wrap (r+(1:Int))) ((B:Nat):Int)/\∃D E F G,(Builtin.append_ #[aa,aa] aa #[.slice (vA x 0) 0 0,.slice t (Int.toNat r) v]).run prog y=.ok (.slice E F G) D/\∃H I J L,aD aa E F G A B C (i64.wrap (r+(1:Int))) D I J L H/\∃M,Sv ab (vA k 0) (.agg #[.slice I J L,vI z]) H M/\∃N O P Q,Rv ab (vA k 0) M (.agg #[.slice N O P,vI Q])/\K (aT N O P Q) M)/\(∃x y z,Ld aa (vA f 0) (World.drew s) (.slice x y z)/\bd (i64.wrap (r+(1:Int))) ((y:Nat):Int)/\(∀A B,A=(World.drew s).heap.size->B=(World.drew s).alloc (.cells #[] am)->(∃C D E F,(Builtin.append_ #[aa,aa] aa #[.slice (vA A 0) 0 0,.slice t (Int.toNat r) v]).run prog B=.ok (.slice D E F) C/\(∃G H I J,aD aa D E F x y z (i64.wrap (r+(1:Int))) C H I J G/\∃L,Ld aJ (vA f 1) G (vI L)/\∃M,Sv ab (vA k 0) (.agg #[.slice H I J,vI L]) G M/\∃N O P Q,Rv ab (vA k 0) M (.agg #[.slice N O P,vI Q])/\K (aT N O P Q) M)/\∃G,Ld aJ (vA f 1) C (vI G)/\∃H I J L,aD aa D E F x y z (i64.wrap (r+(1:Int))) C I J L H/\∃M,Sv ab (vA k 0) (.agg #[.slice I J L,vI G]) H M/\∃N O P Q,Rv ab (vA k 0) M (.agg #[.slice N O P,vI Q])/\K (aT N O P Q) M)/\∃C,Ld aJ (vA f 1) B (vI C)/\∃D E F G,(Builtin.append_ #[aa,aa] aa #[.slice (vA A 0) 0 0,.slice t (Int.toNat r) v]).run prog B=.ok (.slice E F G) D/\∃H I J L,aD aa E F G x y z (i64.wrap (r+(1:Int))) D I J L H/\∃M,Sv ab (vA k 0) (.agg #[.slice I J L,vI C]) H M/\∃N O P Q,Rv ab (vA k 0) M (.agg #[.slice N O P,vI Q])/\K (aT N O P Q) M)/\∃A,Ld aJ (vA f 1) (World.drew s) (vI A)/\∀B C,B=(World.drew s).heap.size->C=(World.drew s).alloc (.cells #[] am)->∃D E F G,(Builtin.append_ #[aa,aa] aa #[.slice (vA B 0) 0 0,.slice t (Int.toNat r) v]).run prog C=.ok (.slice E F G) D/\∃H I J L,aD aa E F G x y z (i64.wrap (r+(1:Int))) D I J L H/\∃M,Sv ab (vA k 0) (.agg #[.slice I J L,vI A]) H M/\∃N O P Q,Rv ab (vA k 0) M (.agg #[.slice N O P,vI Q])/\K (aT N O P Q) M)/\∃x,Ld aJ (vA f 1) (World.drew s) (vI x)/\(∀y z,y=(World.drew s).heap.size->z=(World.drew s).alloc (.cells #[] am)->(∃A B C D,(Builtin.append_ #[aa,aa] aa #[.slice (vA y 0) 0 0,.slice t (Int.toNat r) v]).run prog z=.ok (.slice B C D) A/\∃E F G,Ld aa (vA f 0) A (.slice E F G)/\bd (i64.wrap (r+(1:Int))) ((F:Nat):Int)/\∃H I J L,aD aa B C D E F G (i64.wrap (r+(1:Int))) A I J L H/\∃M,Sv ab (vA k 0) (.agg #[.slice I J L,vI x]) H M/\∃N O P Q,Rv ab (vA k 0) M (.agg #[.slice N O P,vI Q])/\K (aT N O P Q) M)/\∃A B C,Ld aa (vA f 0) z (.slice A B C)/\bd (i64.wrap (r+(1:Int))) ((B:Nat):Int)/\∃D E F G,(Builtin.append_ #[aa,aa] aa #[.slice (vA y 0) 0 0,.slice t (Int.toNat r) v]).run prog z=.ok (.slice E F G) D/\∃H I J L,aD aa E F G A B C (i64.wrap (r+(1:Int))) D I J L H/\∃M,Sv ab (vA k 0) (.agg #[.slice I J L,vI x]) H M/\∃N O P Q,Rv ab (vA k 0) M (.agg #[.slice N O P,vI Q])/\K (aT N O P Q) M)/\∃y z A,Ld aa (vA f 0) (World.drew s) (.slice y z A)/\bd (i64.wrap (r+(1:Int))) ((z:Nat):Int)/\∀B C,B=(World.drew s).heap.size->C=(World.drew s).alloc (.cells #[] am)->∃D E F G,(Builtin.append_ #[aa,aa] aa #[.slice (vA B 0) 0 0,.slice t (Int.toNat r) v]).run prog C=.ok (.slice E F G) D/\∃H I J L,aD aa E F G y z A (i64.wrap (r+(1:Int))) D I J L H/\∃M,Sv ab (vA k 0) (.agg #[.slice I J L,vI x]) H M/\∃N O P Q,Rv ab (vA k 0) M (.agg #[.slice N O P,vI Q])/\K (aT N O P Q) M)/\(∃t u v,Ld aa (vA f 0) (World.drew s) (.slice t u v)/\bd (i64.wrap (r+(1:Int))) ((u:Nat):Int)/\(∀x y,x=(World.drew s).heap.size->y=(World.drew s).alloc (.cells #[] am)->(∃z A B,Ld aa (vA f 0) y (.slice z A B)/\bd r ((B:Nat):Int)/\(∃C D E F,(Builtin.append_ #[aa,aa] aa #[.slice (vA x 0) 0 0,.slice z (Int.toNat r) B]).run prog y=.ok (.slice D E F) C/\(∃G H I J,aD aa D E F t u v (i64.wrap (r+(1:Int))) C H I J G/\∃L,Ld aJ (vA f 1) G (vI L)/\∃M,Sv ab (vA k 0) (.agg #[.slice H I J,vI L]) G M/\∃N O P Q,Rv ab (vA k 0) M (.agg #[.slice N O P,vI Q])/\K (aT N O P Q) M)/\∃G,Ld aJ (vA f 1) C (vI G)/\∃H I J L,aD aa D E F t u v (i64.wrap (r+(1:Int))) C I J L H/\∃M,Sv ab (vA k 0) (.agg #[.slice I J L,vI G]) H M/\∃N O P Q,Rv ab (vA k 0) M (.agg #[.slice N O P,vI Q])/\K (aT N O P Q) M)/\∃C,Ld aJ (vA f 1) y (vI C)/\∃D E F G,(Builtin.append_ #[aa,aa] aa #[.slice (vA x 0) 0 0,.slice z (Int.toNat r) B]).run prog y=.ok (.slice E F G) D/\∃H I J L,aD aa E F G t u v (i64.wrap (r+(1:Int))) D I J L H/\∃M,Sv ab (vA k 0) (.agg #[.slice I J L,vI C]) H M/\∃N O P Q,Rv ab (vA k 0) M (.agg #[.slice N O P,vI Q])/\K (aT N O P Q) M)/\∃z,Ld aJ (vA f 1) y (vI z)/\∃A B C,Ld aa (vA f 0) y (.slice A B C)/\bd r ((C:Nat):Int)/\∃D E F G,(Builtin.append_ #[aa,aa] aa #[.slice (vA x 0) 0 0,.slice A (Int.toNat r) C]).run prog y=.ok (.slice E F G) D/\∃H I J L,aD aa E F G t u v (i64.wrap (r+(1:Int))) D I J L H/\∃M,Sv ab (vA k 0) (.agg #[.slice I J L,vI z]) H M/\∃N O P Q,Rv ab (vA k 0) M (.agg #[.slice N O P,vI Q])/\K (aT N O P Q) M)/\(∃x y z,Ld aa (vA f 0) (World.drew s) (.slice x y z)/\bd r ((z:Nat):Int)/\(∀A B,A=(World.drew s).heap.size->B=(World.drew s).alloc (.cells #[] am)->(∃C D E F,(Builtin.append_ #[aa,aa] aa #[.slice (vA A 0) 0 0,.slice x (Int.toNat r) z]).run prog B=.ok (.slice D E F) C/\(∃G H I J,aD aa D E F t u v (i64.wrap (r+(1:Int))) C H I J G/\∃L,Ld aJ (vA f 1) G (vI L)/\∃M,Sv ab (vA k 0) (.agg #[.slice H I J,vI L]) G M/\∃N O P Q,Rv ab (vA k 0) M (.agg #[.slice N O P,vI Q])/\K (aT N O P Q) M)/\∃G,Ld aJ (vA f 1) C (vI G)/\∃H I J L,aD aa D E F t u v (i64.wrap (r+(1:Int))) C I J L H/\∃M,Sv ab (vA k 0) (.agg #[.slice I J L,vI G]) H M/\∃N O P Q,Rv ab (vA k 0) M (.agg #[.slice N O P,vI Q])/\K (aT N O P Q) M)/\∃C,Ld aJ (vA f 1) B (vI C)/\∃D E F G,(Builtin.append_ #[aa,aa] aa #[.slice (vA A 0) 0 0,.slice x (Int.toNat r) z]).run prog B=.ok (.slice E F G) D/\∃H I J L,aD aa E F G t u v (i64.wrap (r+(1:Int))) D I J L H/\∃M,Sv ab (vA k 0) (.agg #[.slice I J L,vI C]) H M/\∃N O P Q,Rv ab (vA k 0) M (.agg #[.slice N O P,vI Q])/\K (aT N O P Q) M)/\∃A,Ld aJ (vA f 1) (World.drew s) (vI A)/\∀B C,B=(World.drew s).heap.size->C=(World.drew s).alloc (.cells #[] am)->∃D E F G,(Builtin.append_ #[aa,aa] aa #[.slice (vA B 0) 0 0,.slice x (Int.toNat r) z]).run prog C=.ok (.slice E F G) D/\∃H I J L,aD aa E F G t u v (i64.wrap (r+(1:Int))) D I J L H/\∃M,Sv ab (vA k 0) (.agg #[.slice I J L,vI A]) H M/\∃N O P Q,Rv ab (vA k 0) M (.agg #[.slice N O P,vI Q])/\K (aT N O P Q) M)/\∃x,Ld aJ (vA f 1) (World.drew s) (vI x)/\(∀y z,y=(World.drew s).heap.size->z=(World.drew s).alloc (.cells #[] am)->∃A B C,Ld aa (vA f 0) z (.slice A B C)/\bd r ((C:Nat):Int)/\∃D E F G,(Builtin.append_ #[aa,aa] aa #[.slice (vA y 0) 0 0,.slice A (Int.toNat r) C]).run prog z=.ok (.slice E F G) D/\∃H I J L,aD aa E F G t u v (i64.wrap (r+(1:Int))) D I J L H/\∃M,Sv ab (vA k 0) (.agg #[.slice I J L,vI x]) H M/\∃N O P Q,Rv ab (vA k 0) M (.agg #[.slice N O P,vI Q])/\K (aT N O P Q) M)/\∃y z A,Ld aa (vA f 0) (World.drew s) (.slice y z A)/\bd r ((A:Nat):Int)/\∀B C,B=(World.drew s).heap.size->C=(World.drew s).alloc (.cells #[] am)->∃D E F G,(Builtin.append_ #[aa,aa] aa #[.slice (vA B 0) 0 0,.slice y (Int.toNat r) A]).run prog C=.ok (.slice E F G) D/\∃H I J L,aD aa E F G t u v (i64.wrap (r+(1:Int))) D I J L H/\∃M,Sv ab (vA k 0) (.agg #[.slice I J L,vI x]) H M/\∃N O P Q,Rv ab (vA k 0) M (.agg #[.slice N O P,vI Q])/\K (aT N O P Q) M)/\∃t,Ld aJ (vA f 1) (World.drew s) (vI t)/\(∀u v,u=(World.drew s).heap.size->v=(World.drew s).alloc (.cells #[] am)->(∃x y z,Ld aa (vA f 0) v (.slice x y z)/\bd r ((z:Nat):Int)/\(∃A B C D,(Builtin.append_ #[aa,aa] aa #[.slice (vA u 0) 0 0,.slice x (Int.toNat r) z]).run prog v=.ok (.slice B C D) A/\∃E F G,Ld aa (vA f 0) A (.slice E F G)/\bd (i64.wrap (r+(1:Int))) ((F:Nat):Int)/\∃H I J L,aD aa B C D E F G (i64.wrap (r+(1:Int))) A I J L H/\∃M,Sv ab (vA k 0) (.agg #[.slice I J L,vI t]) H M/\∃N O P Q,Rv ab (vA k 0) M (.agg #[.slice N O P,vI Q])/\K (aT N O P Q) M)/\∃A B C,Ld aa (vA f 0) v (.slice A B C)/\bd (i64.wrap (r+(1:Int))) ((B:Nat):Int)/\∃D E F G,(Builtin.append_ #[aa,aa] aa #[.slice (vA u 0) 0 0,.slice x (Int.toNat r) z]).run prog v=.ok (.slice E F G) D/\∃H I J L,aD aa E F G A B C (i64.wrap (r+(1:Int))) D I J L H/\∃M,Sv ab (vA k 0) (.agg #[.slice I J L,vI t]) H M/\∃N O P Q,Rv ab (vA k 0) M (.agg #[.slice N O P,vI Q])/\K (aT N O P Q) M)/\∃x y z,Ld aa (vA f 0) v (.slice x y z)/\bd (i64.wrap (r+(1:Int))) ((y:Nat):Int)/\∃A B C,Ld aa (vA f 0) v (.slice A B C)/\bd r ((C:Nat):Int)/\∃D E F G,(Builtin.append_ #[aa,aa] aa #[.slice (vA u 0) 0 0,.slice A (Int.toNat r) C]).run prog v=.ok (.slice E F G) D/\∃H I J L,aD aa E F G x y z (i64.wrap (r+(1:Int))) D I J L H/\∃M,Sv ab (vA k 0) (.agg #[.slice I J L,vI t]) H M/\∃N O P Q,Rv ab (vA k 0) M (.agg #[.slice N O P,vI Q])/\K (aT N O P Q) M)/\(∃u v x,Ld aa (vA f 0) (World.drew s) (.slice u v x)/\bd r ((x:Nat):Int)/\(∀y z,y=(World.drew s).heap.size->z=(World.drew s).alloc (.cells #[] am)->(∃A B C D,(Builtin.append_ #[aa,aa] aa #[.slice (vA y 0) 0 0,.slice u (Int.toNat r) x]).run prog z=.ok (.slice B C D) A/\∃E F G,Ld aa (vA f 0) A (.slice E F G)/\bd (i64.wrap (r+(1:Int))) ((F:Nat):Int)/\∃H I J L,aD aa B C D E F G (i64.wrap (r+(1:Int))) A I J L H/\∃M,Sv ab (vA k 0) (.agg #[.slice I J L,vI t]) H M/\∃N O P Q,Rv ab (vA k 0) M (.agg #[.slice N O P,vI Q])/\K (aT N O P Q) M)/\∃A B C,Ld aa (vA f 0) z (.slice A B C)/\bd (i64.wrap (r+(1:Int))) ((B:Nat):Int)/\∃D E F G,(Builtin.append_ #[aa,aa] aa #[.slice (vA y 0) 0 0,.slice u (Int.toNat r) x]).run prog z=.ok (.slice E F G) D/\∃H I J L,aD aa E F G A B C (i64.wrap (r+(1:Int))) D I J L H/\∃M,Sv ab (vA k 0) (.agg #[.slice I J L,vI t]) H M/\∃N O P Q,Rv ab (vA k 0) M (.agg #[.slice N O P,vI Q])/\K (aT N O P Q) M)/\∃y z A,Ld aa (vA f 0) (World.drew s) (.slice y z A)/\bd (i64.wrap (r+(1:Int))) ((z:Nat):Int)/\∀B C,B=(World.drew s).heap.size->C=(World.drew s).alloc (.cells #[] am)->∃D E F G,(Builtin.append_ #[aa,aa] aa #[.slice (vA B 0) 0 0,.slice u (Int.toNat r) x]).run prog C=.ok (.slice E F G) D/\∃H I J L,aD aa E F G y z A (i64.wrap (r+(1:Int))) D I J L H/\∃M,Sv ab (vA k 0) (.agg #[.slice I J L,vI t]) H M/\∃N O P Q,Rv ab (vA k 0) M (.agg #[.slice N O P,vI Q])/\K (aT N O P Q) M)/\∃u v x,Ld aa (vA f 0) (World.drew s) (.slice u v x)/\bd (i64.wrap (r+(1:Int))) ((v:Nat):Int)/\(∀y z,y=(World.drew s).heap.size->z=(World.drew s).alloc (.cells #[] am)->∃A B C,Ld aa (vA f 0) z (.slice A B C)/\bd r ((C:Nat):Int)/\∃D E F G,(Builtin.append_ #[aa,aa] aa #[.slice (vA y 0) 0 0,.slice A (Int.toNat r) C]).run prog z=.ok (.slice E F G) D/\∃H I J L,aD aa E F G u v x (i64.wrap (r+(1:Int))) D I J L H/\∃M,Sv ab (vA k 0) (.agg #[.slice I J L,vI t]) H M/\∃N O P Q,Rv ab (vA k 0) M (.agg #[.slice N O P,vI Q])/\K (aT N O P Q) M)/\∃y z A,Ld aa (vA f 0) (World.drew s) (.slice y z A)/\bd r ((A:Nat):Int)/\∀B C,B=(World.drew s).heap.size->C=(World.drew s).alloc (.cells #[] am)->∃D E F G,(Builtin.append_ #[aa,aa] aa #[.slice (vA B 0) 0 0,.slice y (Int.toNat r) A]).run prog C=.ok (.slice E F G) D/\∃H I J L,aD aa E F G u v x (i64.wrap (r+(1:Int))) D I J L H/\∃M,Sv ab (vA k 0) (.agg #[.slice I J L,vI t]) H M/\∃N O P Q,Rv ab (vA k 0) M (.agg #[.slice N O P,vI Q])/\K (aT N O P Q) M)):Cf dX #[.agg #[.slice a b c,vI d],e] w (Ret K):=ru func152 [] h
theorem oB (a:Option Addr)(b c:Nat)(d:Option Addr)(e f:Nat)(g i:Int)(j:Value){w K}(h:nA w (.cells #[.slice a b c,.slice d e f,vI g,vI i] ae) λk l=>nA l (.cells (Value.cells j) aU) λm n=>nA n (.cells #[] af) λo p=>true/\∃q r s t,Ld ab (vA k 1) p (.agg #[.slice q r s,vI t])/\uL dZ #[.agg #[.slice q r s,vI t]] p λu v x y=>∃z:Nat->FP [.one .slice,.one (.int .i64)],(∃A,z A (vA o 0) 0 0 (0:Int) y)/\∀A B C D E,aP 44 (∀F,z A B C D E F->ai (decide (E<((v:Nat):Int))) ((bx E ((v:Nat):Int)/\Option.isSome u=true)/\∃G,Ld af (aw u E 29) F G/\nA F (.cells bf af) λH I=>∃J,Sv af (vA H 0) G I J/\∃L,Ld af (vA H 0) J L/\∃M,Ld aU (vA m 0) J M/\true/\∃N,Ld aX (vA k 3) J (vI N)/\uB dQ #[L,M,vI N] J λO P=>ai (!O) (∃Q:Nat,Q<A/\z Q B C D (i64.wrap (E+(1:Int))) P) (nA P (.cells #[] af) λQ R=>∃S:Nat->FP [.one .slice,.one .bool,.one (.int .i64)],(∃T,S T (vA Q 0) 0 0 false (0:Int) R)/\∀T U V X Y Z,aP 20 (∀ac,S T U V X Y Z ac->ai (decide (Z<((C:Nat):Int))) ((bx Z ((C:Nat):Int)/\Option.isSome B=true)/\∃ad,Ld af (aw B Z 29) ac ad/\nA ac (.cells bf af) λag aj=>∃al,Sv af (vA ag 0) ad aj al/\∃an:FP [.one .slice,.one .bool],(∃ar:FP [.one .bool],(ai (!Y) (∃bb,Ld af (vA H 0) al bb/\∃bc,Ld af (vA ag 0) al bc/\uB eU #[bb,bc] al λbd bj=>ar bd bj) (ar false al))/\∀bb,aP 6 (∀bc,ar bb bc->ai bb (∃bd,Ld af (vA H 0) bc bd/\∃bj bk bo bp,(Instr.buildSlice aN 1 #[(0,bd)]).run prog bc=.ok (.slice bk bo bp) bj/\∃bq bs bz cb,(Builtin.append_ #[aN,aN] aN #[.slice U V X,.slice bk bo bp]).run prog bj=.ok (.slice bs bz cb) bq/\an bs bz cb true bq) (an U V X Y bc)))/\∀ar bb bc bd,aP 11 (∀bj,an ar bb bc bd bj->∃bk,Ld af (vA ag 0) bj bk/\∃bo bp bq bs,(Instr.buildSlice aN 1 #[(0,bk)]).run prog bj=.ok (.slice bp bq bs) bo/\∃bz cb cc ce,(Builtin.append_ #[aN,aN] aN #[.slice ar bb bc,.slice bp bq bs]).run prog bo=.ok (.slice cb cc ce) bz/\∃cf:Nat,cf<T/\S cf cb cc ce bd (i64.wrap (Z+(1:Int))) bz)) (ai (!Y) (∃ad,Ld af (vA H 0) ac ad/\∃ag aj al an,(Instr.buildSlice aN 1 #[(0,ad)]).run prog ac=.ok (.slice aj al an) ag/\∃ar bb bc bd,(Builtin.append_ #[aN,aN] aN #[.slice U V X,.slice aj al an]).run prog ag=.ok (.slice bb bc bd) ar/\∃bj:Nat,bj<A/\z bj bb bc bd (i64.wrap (E+(1:Int))) ar) (∃ad:Nat,ad<A/\z ad U V X (i64.wrap (E+(1:Int))) ac))))) (K (.slice B C D) F))):Cf fU #[.agg #[.slice a b c,.slice d e f,vI g,vI i],j] w (Ret K):=ru func153 [(8,[(5,.one .slice),(17,.one (.int .i64))]),(33,[(8,.one .slice),(9,.one .bool),(30,.one (.int .i64))]),(44,[(8,.one .slice),(9,.one .bool)]),(45,[(40,.one .bool)])] h
theorem pI (a:Option Addr)(b c:Nat)(d:Int)(e:Value)(f:Int){w K}(h:nA w (.cells #[.slice a b c,vI d] ab) λg i=>nA i (.cells (Value.cells e) af) λj k=>nA k (.cells #[.slice none 0 0,vI 0] ab) λl m=>∃n o p q,Ld ab (vA g 0) m (.agg #[.slice n o p,vI q])/\∃r,Ld af (vA j 0) m r/\uI eE #[.agg #[.slice n o p,vI q],r] m λs t=>ai (decide (s<(0:Int))) (∃u v x y,Ld ab (vA g 0) t (.agg #[.slice u v x,vI y])/\∃z,Sv ab (vA l 0) (.agg #[.slice u v x,vI y]) t z/\∃A B C D,Rv ab (vA l 0) z (.agg #[.slice A B C,vI D])/\K (.tuple #[.agg #[.slice A B C,vI D],.bool false]) z) (nA t (.cells #[] am) λu v=>true/\∃x y z,Ld aa (vA g 0) v (.slice x y z)/\∃A B C D,(Builtin.append_ #[aa,aa] aa #[.slice (vA u 0) 0 0,.slice x y z]).run prog v=.ok (.slice B C D) A/\(bx s ((C:Nat):Int)/\Option.isSome B=true)/\∃E,Ld am (aw B s 30) A E/\nA A (.cells bv am) λF G=>∃H,Sv am (vA F 0) E G H/\true/\true/\∃I,Sv aX (vA F 27) (vI f) H I/\∃J,Ld am (vA F 0) I J/\(bx s ((C:Nat):Int)/\Option.isSome B=true)/\∃L,Sv am (aw B s 30) J I L/\true/\∃M,Ld aJ (vA g 1) L (vI M)/\∃N,Sv ab (vA l 0) (.agg #[.slice B C D,vI M]) L N/\∃O P Q R,Rv ab (vA l 0) N (.agg #[.slice O P Q,vI R])/\K (aT O P Q R) N)):Cf iP #[.agg #[.slice a b c,vI d],e,vI f] w (Ret K):=ru func154 [] h
theorem qS (a:Option Addr)(b c:Nat)(d:Int)(e:Value){w K}(h:nA w (.cells #[.slice a b c,vI d] ab) λf g=>nA g (.cells (Value.cells e) af) λi j=>true/\∃k l m,Ld aa (vA f 0) j (.slice k l m)/\∃n:Nat->FP [.one (.int .i64)],(∃o,n o (0:Int) j)/\∀o p,aP 13 (∀q,n o p q->ai (decide (p<((l:Nat):Int))) ((bx p ((l:Nat):Int)/\Option.isSome k=true)/\∃r,Ld am (aw k p 30) q r/\nA q (.cells bv am) λs t=>∃u,Sv am (vA s 0) r t u/\true/\∃v,Ld af (vA s 0) u v/\∃x,Ld af (vA i 0) u x/\uB gV #[v,x] u λy z=>ai y (K (vI p) z) (∃A:Nat,A<o/\n A (i64.wrap (p+(1:Int))) z)) (K (vI (-1)) q))):Cf eE #[.agg #[.slice a b c,vI d],e] w (Ret K):=ru func215 [(6,[(10,.one (.int .i64))])] h
set_option maxRecDepth 20000
theorem at_one (s:ShI L a)(e:i<L.length){p:Plc}(q:L[i].plc=p):atK L p=some L[i]:=by
 cases h:atK L p with
 |none=>exact absurd q (r9 h _ (List.getElem_mem e))
 |some x=>
  obtain⟨E,D⟩:=qq h
  rw[s.one E (List.getElem_mem e) (D.trans q.symm)]
def AtP (L:List Kpt)(p:Plc)(n:Int):Prop:=(n= -1/\atK L p=none)\/∃(i:Nat) (h:i<L.length),n=(i:Int)/\L[i].plc=p/\atK L p=some L[i]
theorem yc (s:ShI L a)(E:i<L.length){p:Plc}(e:L[i].plc=p):iI L p=L.take i++L.drop (i+1):=by
 have D:L=L.take i++L[i]::L.drop (i+1):=by rw[<- List.drop_eq_getElem_cons E,List.take_append_drop]
 have key:=s.key
 rw[D]at key
 rw[List.pairwise_append,List.pairwise_cons]at key
 obtain⟨-,⟨G,-⟩,H⟩:=key
 unfold iI
 conv=>lhs;rw[D]
 rw[List.filter_append,List.filter_cons,if_neg (by simp[e])]
 congr 1
 ·rw[List.filter_eq_self]
  intro x q
  have:=H x q _ (List.mem_cons_self ..)
  rw[e]at this
  simpa using this
 ·rw[List.filter_eq_self]
  intro x q
  have:=G x q
  rw[e]at this
  simpa using λc=>this c.symm
def ShP (A:Bl)(L:List Kpt)(la:Int)(x:Value)(w:World)(v:Value)(w':World):Prop:=
 ∃(a:Option Addr) (l c:Nat),v=.tuple #[.agg #[.slice a l c,vI la],x]/\Sl ff w' (mb A w) a l c L/\bW w w'
def Nf (c d:Cky):Bool:=(c.name==d.name)&&(iU c.host d.host&&((c.only==d.only)&&(c.path==d.path)))
theorem Gu {c d:Cky}(o:c.ok)(p:d.ok):c.plc o=d.plc p ↔ c.name=d.name/\c.host=d.host/\c.only=d.only/\c.path=d.path:=by
 constructor
 ·intro h
  exact⟨congrArg Plc.name h,congrArg Plc.host h,congrArg Plc.only h,congrArg Plc.path h⟩
 ·obtain⟨a1,a2,a3,a4,a5,a6,a7,E,G,e,q,D⟩:=c
  obtain⟨H,U,V,X,Y,Z,ac,ad,ag,I,M,O⟩:=d
  rintro⟨h1,h2,h3,h4⟩
  subst h1 h2 h3 h4
  rfl
theorem yl {c d:Cky}(o:c.ok)(p:d.ok):Nf c d=decide (c.plc o=d.plc p):=by
 unfold Nf
 rw[Bool.eq_iff_iff,decide_eq_true_iff,Gu o p]
 simp only[Bool.and_eq_true,beq_iff_eq,fC o p]
theorem gC:Whl prog ab 2:=⟨⟨_,_,fw⟩,by kernel_rfl⟩
theorem dv {a:Option Addr}{l c:Nat}{e:Int}(h:av w k ab [.slice a l c,vI e]):(Instr.loadAt ab (.pointer (some ⟨k,0,none⟩))).run prog w=.ok (.agg #[.slice a l c,vI e]) w:=gC.load0 h rfl
theorem j8 {w0 w:World}{a:Option Addr}{l c:Nat}{e:Int}{vs:List Value}(h:av w k ab vs)(V:vs.length=2)(M:bW w0 w)(O:w0.heap.size <=k){K:Value->World->Prop}
 (H:∀wx,w.grownBy wx (some k)->bW w0 wx->K (.agg #[.slice a l c,vI e]) wx):
 ∃wx:World,(Instr.storeAt ab (.pointer (some ⟨k,0,none⟩)) (.agg #[.slice a l c,vI e])).run prog w=.ok () wx/\
  ∃(a1:Option Addr) (E q:Nat) (G:Int),(aI ab (.pointer (some ⟨k,0,none⟩))).run prog wx=.ok (.agg #[.slice a1 E q,vI G]) wx/\K (.agg #[.slice a1 E q,vI G]) wx:=by
 obtain⟨wx,U,I,D⟩:=gC.store0 (P:=prog) (cs:=[.slice a l c,vI e]) rfl (aR rfl (aR rfl di)) h V
 exact⟨wx,U,a,l,c,e,av.res (dv I),H wx D (Below.put M D O)⟩
theorem pR {c d:Cky}(o:c.ok)(p:d.ok)(w:World):Cf gV #[c.v,d.v] w (Ret λv w'=>v=.bool (decide (c.plc o=d.plc p))/\bW w w'):=by
 apply pC
 intro V ac I O Z H M U
 obtain⟨ad,X,ag⟩:=dP (P:=prog) (Below.refl w.heap.size w) I O
 obtain⟨Y,q,aj⟩:=dP (P:=prog) X M U
 have a2:av H V af c.cells:=(av.new I O:av ac V af c.cells).below Y
 have a3:av H Z af d.cells:=av.new M U
 rw[<- yl o p]
 unfold Nf
 refine⟨rfl,_,a2.load1 ax rfl (i:=0) rfl,rfl,_,a3.load1 ax rfl (i:=0) rfl,?_⟩
 refine ai.of (λe=>?_) (λe=>⟨by rw[e];rfl,q⟩)
 refine⟨rfl,_,aO.load a2 (i:=2) (us:=c.host.cells) (Hst.len o) (λj G=>fK o G),rfl,_,aO.load a3 (i:=2) (us:=d.host.cells) (Hst.len p) (λj G=>fK p G),_,qD o p H,?_⟩
 refine ai.of (λD=>?_) (λD=>⟨by rw[e,D];rfl,q⟩)
 refine⟨rfl,_,a2.load1 bA rfl (i:=20) (be o 0),rfl,_,a3.load1 bA rfl (i:=20) (be p 0),?_⟩
 refine ai.of (λE=>?_) (λE=>⟨by rw[e,D,E];rfl,q⟩)
 exact⟨rfl,_,a2.load1 ax rfl (i:=21) (be o 1),rfl,_,a3.load1 ax rfl (i:=21) (be p 1),by rw[e,D,E];rfl,q⟩
theorem iV {a:Option Addr}{l c:Nat}{last:Int}(ad:Sl ff w A a l c L)(s:ShI L last)(b2:L.length <=1000000){x:Cky}(o:x.ok)(M:Int):
 Cf eE #[.agg #[.slice a l c,vI M],x.v] w (Ret λv w'=>(∃n:Int,v=vI n/\AtP L (x.plc o) n)/\bW w w'):=by
 apply qS
 intro an bq Y aj bk O Z al
 obtain⟨bz,ar,b4⟩:=dP (P:=prog) (Below.refl w.heap.size w) Y aj
 obtain⟨a0,D,b5⟩:=dP (P:=prog) ar Z al
 have a2:av O an ab [.slice a l c,vI M]:=(av.new Y aj:av bq an ab [.slice a l c,vI M]).below a0
 have a3:av O bk af x.cells:=av.new Z al
 have bc:=ad.len
 subst bc
 refine⟨rfl,_,_,_,a2.load1 aF rfl (i:=0) rfl,?_⟩
 refine⟨λm i w'=>∃k:Nat,k <=L.length/\i=(k:Int)/\m=L.length-k/\(∀j (h:j<L.length),j<k->L[j].plc≠x.plc o)/\bW O w',⟨_,0,by omega,rfl,rfl,λj _ h=>by omega,Below.refl _ _⟩,?_⟩
 intro m i
 refine aP.of ?_ _
 rintro bp ⟨k,b0,rfl,rfl,ac,G⟩
 have X:=ah D G D.size
 refine ai.of (λI=>?_) (λI=>?_) <;> simp only[dTx,dFx]at I
 ·have E:k<L.length:=by omega
  have ag:=ad.below X
  refine⟨⟨⟨by omega,I⟩,ag.isSome E⟩,_,gJ bV ag E,?_⟩
  refine bV.new (zs:=mW.cells) (cs:=L[k].cells) (Kpt.len mW) (Kpt.len _) (Kpt.one _) bp λb3 bs b1 a8 bb=>?_
  have H:=ah G bb G.size
  refine⟨rfl,L[k].c.v,aC.load a8 (i:=0) (us:=L[k].c.cells) (Cky.len L[k].ok) (λj q=>by rw[Nat.zero_add];exact oZ _ q),x.v,aC.load0 (a3.below H) (Cky.len o),?_⟩
  refine az (pR L[k].ok o bs) ?_
  rintro _ b6 ⟨rfl,a9⟩
  have V:=ah H a9 H.size
  refine⟨_,rfl,ai.of (λe=>?_) (λe=>?_)⟩
  ·have e:L[k].plc=x.plc o:=of_decide_eq_true e
   exact⟨⟨_,rfl,.inr ⟨k,E,rfl,e,at_one s E e⟩⟩,ah D V D.size⟩
  ·have e:L[k].plc≠x.plc o:=of_decide_eq_false e
   refine⟨L.length-(k+1),by omega,k+1,by omega,by rw[wrap_i64 (by omega) (by omega)];omega,rfl,λj h q=>?_,V⟩
   rcases Nat.lt_or_ge j k with U|U
   ·exact ac j h U
   ·have:j=k:=by omega
    subst this;exact e
 ·have:k=L.length:=by omega
  subst this
  refine⟨⟨_,rfl,.inl ⟨rfl,?_⟩⟩,X⟩
  unfold atK
  rw[List.find?_eq_none]
  intro y bj
  obtain⟨j,q,rfl⟩:=List.getElem_of_mem bj
  simpa using ac j q q
theorem iK {a:Option Addr}{l c:Nat}(Y:Sl ff w A a l c L)(b5:L.length <=1000000)(H:Int):
 Cf dZ #[.agg #[.slice a l c,vI H]] w (Ret λv w'=>∃(a':Option Addr) (e c':Nat),v=.slice a' e c'/\Ow rF af w' NoB a' e c' (L.map Kpt.c)/\ci w.heap.size a'/\bW w w'):=by
 apply pF
 intro ag M V ac b6 b0 X ad
 obtain⟨b1,aj,b8⟩:=dP (P:=prog) (Below.refl w.heap.size w) V ac
 obtain⟨ar,al,b9⟩:=dP (P:=prog) aj X ad
 have a2:av b0 ag ab [.slice a l c,vI H]:=(av.new V ac:av M ag ab [.slice a l c,vI H]).below ar
 have bq:=Y.len
 subst bq
 refine⟨rfl,_,_,_,a2.load1 aF rfl (i:=0) rfl,?_⟩
 refine⟨λm a' e c' i w'=>∃k:Nat,k <=L.length/\i=(k:Int)/\m=L.length-k/\Ow rF af w' NoB a' e c' ((L.take k).map Kpt.c)/\ci w.heap.size a'/\bW w w',
  ⟨_,0,by omega,rfl,rfl,jX qz X ad,λg bk=>by simp[j0]at bk;omega,al⟩,?_⟩
 intro m a5 cb b2 i
 refine aP.of ?_ _
 rintro I ⟨k,b3,rfl,rfl,G,U,q⟩
 refine ai.of (λD=>?_) (λD=>?_) <;> simp only[dTx,dFx]at D
 ·have E:k<L.length:=by omega
  have Z:=Y.below q
  refine⟨⟨⟨by omega,D⟩,Z.isSome E⟩,_,gJ bV Z E,?_⟩
  refine bV.new (zs:=mW.cells) (cs:=L[k].cells) (Kpt.len mW) (Kpt.len _) (Kpt.one _) I λb7 cc b4 bc O=>?_
  have bj:=ah q O q.size
  refine⟨rfl,L[k].c.v,aC.load bc (i:=0) (us:=L[k].c.cells) (Cky.len L[k].ok) (λj bp=>by rw[Nat.zero_add];exact oZ _ bp),?_⟩
  obtain⟨I,a1,bs,a0,a8,M,a',e,c',a9,bz,bb,an,_⟩:=nJ (G.below O) U bj L[k].ok (by rw[List.length_map,List.length_take];omega)
  refine⟨I,a1,bs,a0,a8,M,a',e,c',a9,L.length-(k+1),by omega,k+1,by omega,by rw[wrap_i64 (by omega) (by omega)];omega,rfl,?_,bb,an⟩
  rw[List.take_succ_eq_append_getElem E,List.map_append]
  exact bz
 ·have:k=L.length:=by omega
  subst this
  rw[List.take_length]at G
  exact⟨_,_,_,rfl,G,U,q⟩
theorem nS {a:Option Addr}{l c:Nat}(M:Sl ff w A a l c L)(a8:L.length <=1000000)(V:Int)(t:List UInt8):
 Cf eV #[.agg #[.slice a l c,vI V],vS t] w (Ret λv w'=>v=vI ((np L t:Nat):Int)/\bW w w'):=by
 apply mJ
 intro ad aj I U
 obtain⟨al,X,bb⟩:=dP (P:=prog) (Below.refl w.heap.size w) I U
 have a2:av aj ad ab [.slice a l c,vI V]:=av.new I U
 have ac:=M.len
 subst ac
 refine⟨rfl,_,_,_,a2.load1 aF rfl (i:=0) rfl,?_⟩
 refine⟨λm n i w'=>∃k:Nat,k <=L.length/\i=(k:Int)/\m=L.length-k/\n=((np (L.take k) t:Nat):Int)/\bW w w',⟨_,0,by omega,rfl,rfl,rfl,X⟩,?_⟩
 intro m n i
 refine aP.of ?_ _
 rintro ag ⟨k,ar,rfl,rfl,rfl,q⟩
 have an:np (L.take k) t <=L.length:=Nat.le_trans List.countP_le_length (by rw[List.length_take];omega)
 refine ai.of (λD=>?_) (λD=>?_) <;> simp only[dTx,dFx]at D
 ·have E:k<L.length:=by omega
  have O:=M.below q
  refine⟨⟨⟨by omega,D⟩,O.isSome E⟩,_,gJ bV O E,?_⟩
  refine bV.new (zs:=mW.cells) (cs:=L[k].cells) (Kpt.len mW) (Kpt.len _) (Kpt.one _) ag λa9 bc a0 Y Z=>?_
  have G:=ah q Z q.size
  have H:np (L.take (k+1)) t=np (L.take k) t+if L[k].site=t then 1 else 0:=by
   unfold np
   rw[List.take_succ_eq_append_getElem E,List.countP_append,List.countP_cons,List.countP_nil]
   simp
  refine⟨rfl,_,Y.load1 ax rfl (i:=29) (tA _),ai.of (λe=>?_) (λe=>?_)⟩
  ·have e:L[k].site=t:=by simpa using e
   rw[if_pos e]at H
   exact⟨L.length-(k+1),by omega,k+1,by omega,by rw[wrap_i64 (by omega) (by omega)];omega,rfl,by rw[wrap_i64 (by omega) (by omega)];omega,G⟩
  ·have e: ¬ L[k].site=t:=by simpa using e
   rw[if_neg e]at H
   exact⟨L.length-(k+1),by omega,k+1,by omega,by rw[wrap_i64 (by omega) (by omega)];omega,rfl,by omega,G⟩
 ·have:k=L.length:=by omega
  subst this
  rw[List.take_length]
  exact⟨rfl,q⟩
theorem qJ (of:Kpt->Bool)(k:Kpt):∀(l:List Kpt) (b:Option Kpt),Ao of (l++[k]) b=(if of k=true then(match Ao of l b with|none=>some k|some x=>if k.c.used<x.c.used then some k else some x)else Ao of l b)
 |[],b=>rfl
 |x::l,b=>qJ of k l _
def ofD (b:Bool)(t:List UInt8)(k:Kpt):Bool:=b || decide (k.site=t)
def xY (b:Bool)(t:List UInt8)(o:Option Kpt)(k:Kpt):Bool:=ofD b t k&&(match o with|none=>true|some x=>decide (k.c.used<x.c.used))
theorem yu (b:Bool)(t:List UInt8)(k:Kpt)(l:List Kpt):Ao (ofD b t) (l++[k]) none=bif xY b t (Ao (ofD b t) l none) k then some k else Ao (ofD b t) l none:=by
 rw[qJ]
 unfold xY
 cases h:ofD b t k with
 |false=>simp
 |true=>
  cases Ao (ofD b t) l none with
  |none=>simp
  |some x=>
   by_cases c:k.c.used<x.c.used
   ·simp[c]
   ·simp[c]
theorem gk {a:Option Addr}{l c:Nat}(a9:Sl ff w A a l c L)(cn:L.length <=1000000)(ac:Int)(t:List UInt8)(b:Bool):
 Cf cS #[.agg #[.slice a l c,vI ac],vS t,.bool b] w (Ret (TW L (ofD b t) w)):=by
 apply lD
 intro bk cc a0 bc Z ad a8 bj
 obtain⟨ch,bs,cp⟩:=dP (P:=prog) (Below.refl w.heap.size w) a0 bc
 obtain⟨b0,G,b8⟩:=dP (P:=prog) bs a8 bj
 have a3:av ad bk ab [.slice a l c,vI ac]:=(av.new a0 bc:av cc bk ab [.slice a l c,vI ac]).below b0
 have a6:av ad Z af je.cells:=av.new a8 bj
 have b5:=a9.len
 subst b5
 refine aC.new (zs:=je.cells) (cs:=je.cells) (Cky.len (by rfl)) (Cky.len (by rfl)) (Cky.one _) ad λk8 ce cl b1 U=>?_
 have bz:=ah G U G.size
 have b9:Z≠k8:=by have:=a6.lt;omega
 refine⟨rfl,_,_,_,(a3.below U).load1 aF rfl (i:=0) rfl,?_⟩
 refine⟨λm f i w'=>∃(k:Nat) (o:Option Kpt),k <=L.length/\i=(k:Int)/\m=L.length-k/\o=Ao (ofD b t) (L.take k) none/\f=o.isSome/\av w' k8 af (o.getD mW).c.cells/\av w' Z af je.cells/\bW w w',
  ⟨_,0,none,by omega,rfl,rfl,rfl,rfl,b1,a6.below U,bz⟩,?_⟩
 intro m f i
 refine aP.of ?_ _
 rintro cb ⟨k,o,cj,rfl,rfl,Y,rfl,aj,ag,E⟩
 refine ai.of (λV=>?_) (λV=>?_) <;> simp only[dTx,dFx]at V
 ·have X:k<L.length:=by omega
  have bb:=a9.below E
  refine⟨⟨⟨by omega,V⟩,bb.isSome X⟩,_,gJ bV bb X,?_⟩
  refine bV.new (zs:=mW.cells) (cs:=L[k].cells) (Kpt.len mW) (Kpt.len _) (Kpt.one _) cb λb7 q ck M O=>?_
  have an:=ah E O E.size
  have H:=aj.below O
  have al:=ag.below O
  have D:=yu b t L[k] (L.take k)
  rw[<- List.take_succ_eq_append_getElem X,<- Y]at D
  have b4:L[k].cells[27]? =some (vI L[k].c.used):=(oZ _ (by decide)).trans (be L[k].ok 7)
  refine eJ (w:=q) (xY b t o L[k]) ?_ ?_
  ·have tail:ofD b t L[k]=true->ai (!o.isSome) ((q=q/\true=xY b t o L[k]))
    ((true=true)/\(true=true)/\∃(bp:Int),(Instr.loadAt aX (.pointer (some ⟨b7,27,none⟩))).run prog q=.ok (vI bp) q/\(true=true)/\
     ∃(bq:Int),(Instr.loadAt aX (.pointer (some ⟨k8,27,none⟩))).run prog q=.ok (vI bq) q/\(q=q/\decide (bp<bq)=xY b t o L[k])):=λe=>by
    unfold xY
    rw[e]
    cases o with
    |none=>exact ai.yes rfl ⟨rfl,rfl⟩
    |some x=>exact ai.no rfl ⟨rfl,rfl,_,M.load1 bn rfl (i:=27) b4,rfl,_,H.load1 bn rfl (i:=27) (be x.ok 7),rfl,rfl⟩
   refine ai.of (λe=>tail (by unfold ofD;rw[e];rfl)) (λe=>?_)
   refine⟨rfl,_,M.load1 ax rfl (i:=29) (tA _),ai.of (λI=>tail (by unfold ofD;rw[e];simpa using I)) (λI=>⟨rfl,?_⟩)⟩
   have:ofD b t L[k]=false:=by unfold ofD;rw[e];simpa using I
   unfold xY
   rw[this];rfl
  ·refine ai.of (λe=>?_) (λe=>?_)
   ·rw[show xY b t o L[k]=true from e]at D
    obtain⟨cf,b6,e8,ar⟩:=aC.store0 (P:=prog) (Cky.len L[k].ok) (Cky.one _) H (Cky.len (o.getD mW).ok)
    refine⟨rfl,_,aC.load M (i:=0) (us:=L[k].c.cells) (Cky.len L[k].ok) (λj b3=>by rw[Nat.zero_add];exact oZ _ b3),cf,b6,L.length-(k+1),by omega,k+1,some L[k],by omega,by rw[wrap_i64 (by omega) (by omega)];omega,rfl,D.symm,rfl,e8,al.grown ar (bw b9),Below.put an ar (by have:=G.size;omega)⟩
   ·rw[show xY b t o L[k]=false from e]at D
    exact⟨L.length-(k+1),by omega,k+1,o,by omega,by rw[wrap_i64 (by omega) (by omega)];omega,rfl,D.symm,rfl,H,al,an⟩
 ·have:k=L.length:=by omega
  subst this
  rw[List.take_length]at Y
  refine⟨_,aC.load0 aj (Cky.len (o.getD mW).ok),?_⟩
  refine aC.fin (Cky.len (o.getD mW).ok) (Cky.one _) ag (Cky.len (by rfl)) E b8 λce b2=>⟨?_,b2⟩
  rw[Y];rfl
theorem gj {a:Option Addr}{l c:Nat}(b1:Sl ff w A a l c L)(c7:L.length <=1000000)(e now:Int):
 Cf cR #[.agg #[.slice a l c,vI e],vI now] w (Ret λv w'=>∃n:Int,ShP A (sO L now) e (vI n) w v w'):=by
 apply lC
 intro D bk V Y k4 q a0 bb cp dg b0 b3
 obtain⟨c4,b6,c9⟩:=dP (P:=prog) (Below.refl w.heap.size w) V Y
 obtain⟨bp,I,cr⟩:=dP (P:=prog) b6 a0 bb
 obtain⟨bq,c3,dd⟩:=dP (P:=prog) I b0 b3
 have a2:av q D ab [.slice a l c,vI e]:=(av.new V Y:av bk D ab [.slice a l c,vI e]).below bp
 have a4:av q k4 ab [.slice none 0 0,vI 0]:=av.new a0 bb
 have ck:=b1.len
 subst ck
 have ct:D≠k4:=by have:=(av.new V Y:av bk D ab [.slice a L.length c,vI e]).lt;omega
 refine⟨rfl,_,_,_,(a2.below bq).load1 aF rfl (i:=0) rfl,?_⟩
 have cc:ci q.heap.size (some (⟨cp,0,none⟩:Addr)):=λg G=>by simp[j0]at G;omega
 have dc:D<q.heap.size/\k4<q.heap.size:=by
  have:=(av.new a0 bb:av q k4 ab [.slice none 0 0,vI 0]).lt
  have:=((av.new V Y:av bk D ab [.slice a L.length c,vI e]).below bp).lt
  omega
 refine⟨λm a' bc c' i w'=>∃k:Nat,k <=L.length/\i=(k:Int)/\m=L.length-k/\Ow ff am w' NoB a' bc c' (sO (L.take k) now)/\ci q.heap.size a'/\bW q w',
  ⟨_,0,by omega,rfl,rfl,jX eX b0 b3,cc,bq⟩,?_⟩
 intro m a5 bj Z i
 refine aP.of ?_ _
 rintro H ⟨k,c5,rfl,rfl,X,U,E⟩
 have al:=ah I E I.size
 refine ai.of (λar=>?_) (λar=>?_) <;> simp only[dTx,dFx]at ar
 ·have a8:k<L.length:=by omega
  have b2:=b1.below al
  refine⟨⟨⟨by omega,ar⟩,b2.isSome a8⟩,_,gJ bV b2 a8,?_⟩
  refine bV.new (zs:=mW.cells) (cs:=L[k].cells) (Kpt.len mW) (Kpt.len _) (Kpt.one _) H λc8 de c6 bs an=>?_
  have bz:=ah E an E.size
  have O:sO (L.take (k+1)) now=sO (L.take k) now++if now<L[k].c.exp then[L[k]]else[]:=by
   unfold sO
   rw[List.take_succ_eq_append_getElem a8,List.filter_append,List.filter_cons,List.filter_nil]
   simp
  have cj:(sO (L.take k) now).length <=1000000:=Nat.le_trans (List.length_filter_le ..) (by rw[List.length_take];omega)
  refine⟨rfl,rfl,_,bs.load1 bn rfl (i:=25) ((oZ _ (by decide)).trans (be L[k].ok 5)),ai.of (λM=>?_) (λM=>?_)⟩ <;> simp only[gt_iff_lt,dTx,dFx]at M
  ·rw[if_pos M]at O
   refine⟨_,bV.load0 bs (Kpt.len _),?_⟩
   obtain⟨c1,a1,cu,b8,ad,c2,a',bc,c',cb,c0,ce,b7⟩:=yx (w0:=q) (X.below an) U bz L[k] cj
   refine⟨c1,a1,cu,b8,ad,c2,a',bc,c',cb,L.length-(k+1),by omega,k+1,by omega,by rw[wrap_i64 (by omega) (by omega)];omega,rfl,by rw[O];exact c0,ce,b7⟩
  ·rw[if_neg M,List.append_nil]at O
   exact⟨L.length-(k+1),by omega,k+1,by omega,by rw[wrap_i64 (by omega) (by omega)];omega,rfl,by rw[O];exact X.below an,U,bz⟩
 ·have:k=L.length:=by omega
  subst this
  rw[List.take_length]at X
  have ac:=(a2.below E).below (bD H)
  have b9:=(a4.below E).below (bD H)
  have cl:=X.below (bD H)
  have cf:=ah al (bD H) al.size
  obtain⟨wy,a9,ag,G⟩:=gC.store0 (P:=prog) (cs:=[.slice a5 bj Z,vI e]) rfl (aR rfl (aR rfl di)) b9 rfl
  have ad:=ac.grown G (bw ct)
  have cn:=cl.put (λg ch=>by have:=U g ch;omega) G
  have aj:∀n:Int,∃m:Int,ShP A (sO L now) e (vI m) w (.tuple #[.agg #[.slice a5 bj Z,vI e],vI n]) wy:=λn=>
   ⟨n,a5,bj,Z,rfl,cn.orNew (U.mono I.size),Below.put cf G cr⟩
  have b4:=ac.load1 (P:=prog) aF rfl (i:=0) rfl
  have b5:=ac.load1 (P:=prog) br rfl (i:=1) rfl
  exact⟨rfl,rfl,⟨_,b5,⟨_,_,_,b4,wy,a9,_,_,_,_,av.res (dv ag),aj _⟩,wy,a9,_,_,_,ad.load1 aF rfl (i:=0) rfl,_,_,_,_,av.res (dv ag),aj _⟩,_,_,_,b4,_,b5,wy,a9,_,_,_,_,av.res (dv ag),aj _⟩
theorem yF (s:ShI L a)(e:i<L.length){p:Plc}(q:L[i].plc=p)(now:Int):z6 L p now=L.set i (uq L[i] now):=um s e q λk=>uq k now
theorem yn (k:Kpt)(now:Int):k.cells.set 27 (vI now)=(uq k now).cells:=by
 rw[Hn (by decide),show(27:Nat)=20+7 from rfl,kT k.ok];rfl
theorem yE {α:Type}(l:List α)(i:Nat)(h:i <=l.length):(l.take i).length=i:=by rw[List.length_take];omega
theorem kK.upto {α:Type}{T:Ty α}{l:List Value}{xs:List α}(h:kK T w A l xs)(j:Nat):kK T w A (l.take (j*T.k)) (xs.take j):=by
 have q:=h.len
 have D:min (j*T.k) (xs.length*T.k)=min j xs.length*T.k:=by
  rcases Nat.le_total j xs.length with h1|h1
  ·rw[Nat.min_eq_left h1,Nat.min_eq_left (Nat.mul_le_mul_right _ h1)]
  ·rw[Nat.min_eq_right h1,Nat.min_eq_right (Nat.mul_le_mul_right _ h1)]
 refine⟨by rw[List.length_take,List.length_take,q,D],λi e=>?_⟩
 rw[List.length_take]at e
 have E:i*T.k+T.k <=j*T.k:=by
  have:=Nat.mul_le_mul_right T.k (show i+1 <=j by omega)
  rwa [Nat.add_mul,Nat.one_mul]at this
 rw[List.getElem_take,List.drop_take,List.take_take,Nat.min_eq_left (by omega)]
 exact h.rep i (by omega)
theorem Sl.upto {α:Type}{T:Ty α}{a:Option Addr}{n c:Nat}{xs:List α}(h:Sl T w A a n c xs)(j:Nat)(O:j <=xs.length):Sl T w A a j c (xs.take j):=by
 obtain⟨h1,U,D,e⟩:=h
 refine⟨(yE xs j O).symm,by omega,D,?_⟩
 rcases e with e|⟨b,off,q,I,H,l,E,G⟩
 ·exact .inl (by rw[e];simp)
 ·exact .inr ⟨b,off,q,I,H,_,E.upto j,λi M=>by
   rw[List.length_take]at M
   rw[List.getElem?_take,if_pos (by omega)]
   exact G i (by omega)⟩
theorem mc (k:Kpt)(w:World):(Instr.build am #[(0,k.c.v),(1,vS k.site)]).run prog w=.ok k.v w:=by
 obtain⟨⟨H,val,⟨G,D,a⟩,only,I,M,E,same,q,e,O,seq⟩,s,o⟩:=k
 obtain⟨U,V,aj,al,an,ar,a0,a8,a9,bb,X,Y,Z,ac,ad,ag,rfl⟩:=oS a o
 kernel_rfl
theorem tb {a:Option Addr}{l c:Nat}(O:k=w.heap.size)(q:u=w.alloc (.cells #[] am))(U:Sl ff u A a l c L)(V:L.length <=1000000){cm:Nat} :
 ∃(w2:World) (a':Option Addr) (e c':Nat),(Builtin.append_ #[aa,aa] aa #[.slice (some ⟨k,0,none⟩) 0 0,.slice a l cm]).run prog u=.ok (.slice a' e c') w2/\Ow ff am w2 NoB a' e c' L/\ci w.heap.size a'/\bW w w2:=by
 have H:=(q▸au w _:bW w u)
 have I:ci w.heap.size (some (⟨k,0,none⟩:Addr)):=λg M=>by simp[j0]at M;omega
 obtain⟨w2,a',e,c',h1,D,E,G⟩:=T1 (st:=aa) (ty:=aa) eX aF bl (by decide) (jX (T:=ff) eX O q) I H U (by simp;omega) (cm':=cm)
 exact⟨w2,a',e,c',h1,D,E,G⟩
theorem qM {a:Option Addr}{l c:Nat}{last:Int}(Y:Sl ff w A a l c L)(s:ShI L last)(bk:L.length <=1000000){x:Cky}(o:x.ok)(e now:Int):
 Cf iP #[.agg #[.slice a l c,vI e],x.v,vI now] w (Ret (ShP A (z6 L (x.plc o) now) e (.bool (atK L (x.plc o)).isSome) w)):=by
 apply pI
 intro b3 c1 bb b0 b4 c2 bc b1 cu Z bj b2
 obtain⟨c5,b9,dc⟩:=dP (P:=prog) (Below.refl w.heap.size w) bb b0
 obtain⟨ce,cb,dd⟩:=dP (P:=prog) b9 bc b1
 obtain⟨aj,I,b5⟩:=dP (P:=prog) cb bj b2
 have a3:av Z b3 ab [.slice a l c,vI e]:=((av.new bb b0:av c1 b3 ab [.slice a l c,vI e]).below ce).below aj
 have a4:av Z b4 af x.cells:=(av.new bc b1:av c2 b4 af x.cells).below aj
 have a6:av Z cu ab [.slice none 0 0,vI 0]:=av.new bj b2
 refine⟨_,_,_,_,dv a3,_,aC.load0 a4 (Cky.len o),?_⟩
 refine az (iV (Y.below I) s bk o e) ?_
 rintro _ b6 ⟨⟨n,rfl,V⟩,X⟩
 have B13:=ah I X I.size
 have U:=a3.below X
 have an:=a6.below X
 refine⟨n,rfl,?_⟩
 rcases V with⟨rfl,bp⟩|⟨i,D,rfl,cn,V⟩
 ·refine ai.yes rfl ⟨_,_,_,_,dv U,?_⟩
  refine j8 (K:=λr G=>ShP A (z6 L (x.plc o) now) e (.bool (atK L (x.plc o)).isSome) w (.tuple #[r,.bool false]) G) an rfl B13 b5 λG q H=>⟨a,l,c,by rw[bp];rfl,?_,H⟩
  rw[Eg bp]
  exact(Y.below H).orNew
 ·refine ai.no (by simp) ?_
  intro c8 c0 ck bz
  have ag:=(bz▸au b6 _:bW b6 c0)
  refine⟨rfl,_,_,_,(U.below ag).load1 aF rfl (i:=0) rfl,?_⟩
  obtain⟨b7,ac,c9,al,cp,E,a9,O⟩:=tb ck bz (Y.below (ah B13 ag B13.size)) bk (cm:=c)
  have cl:=E.len
  subst cl
  refine⟨b7,ac,_,al,cp,⟨⟨by omega,by omega⟩,E.all.isSome D⟩,_,gJ bV E.all D,?_⟩
  refine bV.new (zs:=mW.cells) (cs:=L[i].cells) (Kpt.len mW) (Kpt.len _) (Kpt.one _) b7 λc7 de c6 cf a8=>?_
  obtain⟨c3,cr,a0,q⟩:=cf.put eF (i:=27) (v:=vI now) (by rw[Kpt.len];decide) rfl rfl
  rw[yn]at a0
  have cc:=ah O a8 O.size
  have ad:=Below.put cc q (by have:=O.size;omega)
  have bq:=(E.below a8).put (λg ch=>by have:=E.lt g ch;omega) q
  refine⟨rfl,rfl,c3,cr,_,bV.load0 a0 (Kpt.len _),⟨⟨by omega,by omega⟩,bq.all.isSome D⟩,?_⟩
  obtain⟨c4,ct,bs,cj⟩:=Ow.store (k:=30) bl bq (λ_ _ h=>h) (i:=(i:Int)) (by simpa using D) rfl (v:=(uq L[i] now).v) (x:=uq L[i] now) (by show _=_;simp[Kpt.v,Value.cells])
  have M:=ad.grown cj ad.size a9
  have b8:=ah B13 M B13.size
  refine⟨c4,ct,rfl,_,(U.below M).load1 br rfl (i:=1) rfl,?_⟩
  have ar:=an.below M
  refine j8 (K:=λr G=>ShP A (z6 L (x.plc o) now) e (.bool (atK L (x.plc o)).isSome) w (.tuple #[r,.bool true]) G) ar rfl b8 b5 λG q H=>⟨ac,_,al,by rw[V];rfl,?_,H⟩
  rw[yF s D cn]
  have:=bs.put (bs.ne ar (by decide)) q
  rw[Int.toNat_natCast]at this
  exact this.orNew (a9.mono B13.size)
theorem Sl.kcell {u:TypeId}{d:TypeDesc}(M:P.underlying u=some d)(H:El d=false){a:Option Addr}{l c:Nat}{xs:List Kpt}(h:Sl ff w A a l c xs)(D:i<xs.length){v:Value}(I:j<30)(O:xs[i].cells[j]? =some v):
 (Instr.loadAt u (.pointer (Option.map (λx:Addr=>x.add j) (Option.map (λx:Addr=>x.add 0) (aw a (i:Int) 30))))).run P w=.ok v w/\Option.isSome (aw a (i:Int) 30)=true/\Option.isSome (Option.map (λx:Addr=>x.add 0) (aw a (i:Int) 30))=true:=by
 rcases h.2.2.2 with e|⟨b,off,E,V,U,e⟩
 ·subst e;cases D
 ·obtain⟨vs,q,G⟩:=e.elem D
  have q:vs=xs[i].cells:=q
  subst q
  rw[E,qZ]
  refine⟨?_,rfl,rfl⟩
  show(do loadVar u (<- Instr.sureAddr (.pointer (some _)))).run P w=_
  rw[Sem.run_bind,oN]
  refine qb M H ?_
  show w.cell? (((⟨b,off+(i:Int).toNat*30,none⟩:Addr).add 0).add j)=some v
  rw[dF,dF]
  have:=G j I
  rw[O]at this
  exact this
theorem qL {a:Option Addr}{l c:Nat}{last:Int}(c8:Sl ff w A a l c L)(s:ShI L last)(c5:L.length <=1000000)(e3:last <=4611686018427387904)(x:Kpt):
 Cf iO #[.agg #[.slice a l c,vI last],x.c.v,vS x.site] w (Ret (ShP A (nK L last x).1 (nK L last x).2 (.bool (atK L x.plc).isSome) w)):=by
 have o:=x.ok
 apply pG
 intro Z d3 b5 b8 k4 ey c3 dd k6 V c4 de e4 ew ek dc
 obtain⟨e1,d4,e6⟩:=dP (P:=prog) (Below.refl w.heap.size w) b5 b8
 obtain⟨d8,d5,cb⟩:=dP (P:=prog) d4 c3 dd
 obtain⟨ct,G,dk⟩:=dP (P:=prog) d5 c4 de
 have cr:=(dc▸au V _:bW V ew)
 have ce:Z≠k4:=by have:=(av.new b5 b8:av d3 Z ab [.slice a l c,vI last]).lt;omega
 have a3:av V Z ab [.slice a l c,vI last]:=((av.new b5 b8:av d3 Z ab [.slice a l c,vI last]).below d8).below ct
 have cn:av ey k4 af x.c.cells:=av.new c3 dd
 have cf:k4≠k6:=by have:=cn.lt;omega
 have a4:av V k4 af x.c.cells:=cn.below ct
 have a6:av V k6 ab [.slice none 0 0,vI 0]:=av.new c4 de
 refine⟨rfl,_,_,_,(a3.below cr).load1 aF rfl (i:=0) rfl,?_⟩
 obtain⟨ex,a13,e5,cu,eq,c6,D,ad⟩:=tb ek dc (c8.below (ah G cr G.size)) c5 (cm:=c)
 have el:=c6.len
 subst el
 have B13:=ah G ad G.size
 refine⟨ex,a13,_,cu,eq,_,_,_,_,dv (a3.below ad),_,aC.load0 (a4.below ad) (Cky.len o),?_⟩
 refine az (iV (c8.below B13) s c5 o last) ?_
 rintro _ fb ⟨⟨n,rfl,Y⟩,bp⟩
 have b0:=ah ad bp ad.size
 have b1:=a3.below b0
 have c0:=a4.below b0
 have c1:=a6.below b0
 have b6:=c6.below bp
 have dg:=a3.lt
 have e7:=a4.lt
 have dl:=a6.lt
 refine⟨n,rfl,?_⟩
 rcases Y with⟨rfl,bq⟩|⟨i,M,rfl,b7,Y⟩
 ·have bq:atK L x.plc=none:=bq
  refine ai.no rfl ?_
  have e2:=s.l0
  have c9:i64.wrap (last+1)=last+1:=wrap_i64 (by omega) (by omega)
  have al:nK L last x=(L++[⟨{ x.c with seq:=last+1 },x.site,x.ok⟩],last+1):=by unfold nK;rw[bq]
  obtain⟨e,ch,bb,q⟩:=c0.put fk (i:=28) (v:=vI (last+1)) (by rw[Cky.len o];decide) rfl rfl
  have bc:x.c.cells.set 28 (vI (last+1))=(⟨{ x.c with seq:=last+1 },x.site,x.ok⟩:Kpt).c.cells:=by
   rw[show(28:Nat)=20+8 from rfl,kT o];rfl
  rw[bc]at bb
  have B16:=ah B13 bp B13.size
  have a9:=Below.put B16 q cb
  have ea:=b1.grown q (bw ce)
  have eb:=c1.grown q (bw (Ne.symm cf))
  have bs:=b6.put (λg a0=>by have:=D g a0;omega) q
  have ag:=bD e
  have X:=ea.below ag
  have ed:=bb.below ag
  have bj:=eb.below ag
  have em:=bs.below ag
  have ck:=ah a9 ag a9.size
  generalize b9:(⟨{ x.c with seq:=last+1 },x.site,x.ok⟩:Kpt)=z at*
  have fl:z.c.v=(({ x.c with seq:=last+1 } :Cky)).v:=by rw[<- b9]
  have zs:z.site=x.site:=by rw[<- b9]
  have ac:=vG z (World.drew e)
  have d9:=au (World.drew e) (.cells z.cells.toArray am)
  obtain⟨E,H,O,I,U,row,ee,d6,d0⟩:=Rz (ty:=aa) eX aF bl (by decide) em (D.mono G.size) ck rfl rfl (x:=z) (cm:=1) rfl (by omega)
  have a8:∀b,b<V.heap.size->j0 a13≠some b:=λb ef aj=>by have:=D b aj;omega
  have e9:=ck.size
  have b2:av E Z ab [.slice a l c,vI last]:=X.block (d0 Z X.lt (a8 _ dg))
  have an:av E k6 ab [.slice none 0 0,vI 0]:=bj.block (d0 k6 bj.lt (a8 _ dl))
  have cc:=X.load1 (P:=prog) br rfl (i:=1) rfl
  have er:=(X.below d9).load1 (P:=prog) br rfl (i:=1) rfl
  have es:=b2.load1 (P:=prog) br rfl (i:=1) rfl
  have bld:=mc z (World.drew e)
  rw[zs]at bld
  have dn:=aC.load0 ed (Cky.len z.ok)
  have ar:∃wx_5:World,(Instr.storeAt ab (.pointer (some ⟨k6,0,none⟩)) (.agg #[.slice H O I,vI (i64.wrap (last+1))])).run prog E=.ok () wx_5/\
   ∃(cp:Option Addr) (dr c2:Nat) (ds:Int),(aI ab (.pointer (some ⟨k6,0,none⟩))).run prog wx_5=.ok (.agg #[.slice cp dr c2,vI ds]) wx_5/\
    ShP A (nK L last x).1 (nK L last x).2 (.bool (atK L x.plc).isSome) w (.tuple #[.agg #[.slice cp dr c2,vI ds],.bool false]) wx_5:=by
   refine j8 (K:=λr e=>ShP A (nK L last x).1 (nK L last x).2 (.bool (atK L x.plc).isSome) w (.tuple #[r,.bool false]) e) an rfl d6 dk λcj b4 ei=>⟨H,O,I,by rw[bq,al,c9];rfl,?_,ei⟩
   rw[al]
   exact(row.put (row.ne an (by decide)) b4).orNew ee
  refine⟨rfl,_,b1.load1 br rfl (i:=1) rfl,rfl,e,by rw[c9];exact ch,rfl,?_⟩
  exact⟨⟨_,dn,⟨_,bld,⟨_,_,_,_,ac,⟨E,H,O,I,U,_,es,ar⟩,_,er,E,H,O,I,U,ar⟩,_,cc,_,_,_,_,ac,E,H,O,I,U,ar⟩,_,cc,_,bld,_,_,_,_,ac,E,H,O,I,U,ar⟩,
   _,cc,_,dn,_,bld,_,_,_,_,ac,E,H,O,I,U,ar⟩
 ·have Y:atK L x.plc=some L[i]:=Y
  have b7:L[i].plc=x.plc:=b7
  have al:nK L last x=(L.set i ⟨{ x.c with born:=L[i].c.born,seq:=L[i].c.seq },x.site,x.ok⟩,last):=by
   unfold nK
   rw[Y]
   show((L.map λk=>if k.plc=x.plc then _ else k),last)=_
   rw[um s M b7 λ_=>(⟨{ x.c with born:=L[i].c.born,seq:=L[i].c.seq },x.site,x.ok⟩:Kpt)]
  refine ai.yes (by simp) ?_
  have B16:=ah B13 bp B13.size
  have bz:=b6.all
  obtain⟨ch,d1,d2⟩:=bz.kcell (P:=prog) bn rfl M (j:=26) (by decide) ((oZ _ (by decide)).trans (be L[i].ok 6))
  obtain⟨e,ac,bb,q⟩:=c0.put eF (i:=26) (v:=vI L[i].c.born) (by rw[Cky.len o];decide) rfl rfl
  have a9:=Below.put B16 q cb
  have bs:=b6.put (λg a0=>by have:=D g a0;omega) q
  obtain⟨ev,-,-⟩:=bs.all.kcell (P:=prog) br rfl M (j:=28) (by decide) ((oZ _ (by decide)).trans (be L[i].ok 8))
  obtain⟨cj,U,bc,bk⟩:=bb.put fk (i:=28) (v:=vI L[i].c.seq) (by rw[List.length_set,Cky.len o];decide) rfl rfl
  have cl:=Below.put a9 bk cb
  have en:=bs.put (λg a0=>by have:=D g a0;omega) bk
  have aj:(x.c.cells.set 26 (vI L[i].c.born)).set 28 (vI L[i].c.seq)=(⟨{ x.c with born:=L[i].c.born,seq:=L[i].c.seq },x.site,x.ok⟩:Kpt).c.cells:=by
   rw[show(26:Nat)=20+6 from rfl,kT o]
   have:=kT (c:= { x.c with born:=L[i].c.born }) o 8 (vI L[i].c.seq)
   exact this
  rw[aj]at bc
  have zs:(⟨{ x.c with born:=L[i].c.born,seq:=L[i].c.seq },x.site,x.ok⟩:Kpt).site=x.site:=rfl
  generalize b9:(⟨{ x.c with born:=L[i].c.born,seq:=L[i].c.seq },x.site,x.ok⟩:Kpt)=z at*
  have bld:=mc z cj
  rw[zs]at bld
  have X:=(b1.grown q (bw ce)).grown bk (bw ce)
  have bj:=(c1.grown q (bw (Ne.symm cf))).grown bk (bw (Ne.symm cf))
  obtain⟨e0,et,c7,b3⟩:=Ow.store (k:=30) bl en (λ_ _ h=>h) (i:=(i:Int)) (by simpa using M) rfl (v:=z.v) (x:=z) (by show _=_;simp[Kpt.v,Value.cells])
  have a8:∀b,b<V.heap.size->some b≠j0 a13:=λb ef aj=>by have:=D b aj.symm;omega
  have d7:=cl.grown b3 cl.size (D.mono G.size)
  have b2:=X.grown b3 (a8 _ dg)
  have an:=bj.grown b3 (a8 _ dl)
  refine⟨⟨⟨by omega,by omega⟩,bz.isSome M⟩,d1,d2,_,ch,rfl,e,ac,⟨⟨by omega,by omega⟩,bz.isSome M⟩,d1,d2,_,ev,rfl,cj,U,_,aC.load0 bc (Cky.len z.ok),_,bld,⟨⟨by omega,by omega⟩,bz.isSome M⟩,e0,et,rfl,_,b2.load1 br rfl (i:=1) rfl,?_⟩
  refine j8 (K:=λr e=>ShP A (nK L last x).1 (nK L last x).2 (.bool (atK L x.plc).isSome) w (.tuple #[r,.bool true]) e) an rfl d7 dk λfd b4 eg=>⟨a13,_,cu,by rw[Y,al];rfl,?_,eg⟩
  rw[al]
  have:=c7.put (c7.ne an (by decide)) b4
  rw[Int.toNat_natCast]at this
  exact this.orNew (D.mono G.size)
structure DrA (A:Bl)(w0:World)(k2 k4:Nat)(a:Option Addr)(l c:Nat)(last:Int)(L:List Kpt)(w:World):Prop where
 h2:av w k2 ab [.slice a l c,vI last]
 h4:av w k4 ab [.slice none 0 0,vI 0]
 hs:Sl ff w0 A a l c L
 hb:bW w0 w
 l2:k2<w0.heap.size
 l4:k4<w0.heap.size
theorem DrA.below {w0:World}{a:Option Addr}{l c:Nat}{last:Int}{w w':World}(h:DrA A w0 n m a l c last L w)(e:bW w w'):DrA A w0 n m a l c last L w':=
 ⟨h.h2.below e,h.h4.below e,h.hs,ah h.hb e h.hb.size,h.l2,h.l4⟩
structure DrB (A:Bl)(w0:World)(k2 k4:Nat)(a:Option Addr)(l c:Nat)(last:Int)(L:List Kpt)(a':Option Addr)(l' c':Nat)(xs:List Kpt)(w:World):Prop where
 b:DrA A w0 k2 k4 a l c last L w
 o:Ow ff am w NoB a' l' c' xs
 f:ci w0.heap.size a'
section
variable {A:Bl} {w0 w:World} {k2 k4:Nat} {a:Option Addr} {l c:Nat} {last:Int} {L:List Kpt}
theorem F7 (h:DrA A w0 k2 k4 a l c last L w){R:Nat->World->Prop}(q:∀k w',DrB A w0 k2 k4 a l c last L (some ⟨k,0,none⟩) 0 0 [] w'->R k w'):
 ∀(k:Nat) (w':World),k=w.heap.size->w'=w.alloc (.cells #[] am)->R k w':=λk w' E e=>
 q k w' ⟨h.below (e▸au w _),jX eX E e,λg D=>by have:=h.hb.size;simp[j0]at D;omega⟩
theorem MY (h:DrA A w0 k2 k4 a l c last L w):(Instr.loadAt aa (.pointer (some ⟨k2,0,none⟩))).run prog w=.ok (.slice a l c) w:=h.h2.load1 aF rfl (i:=0) rfl
theorem MZ (h:DrA A w0 k2 k4 a l c last L w):(Instr.loadAt aJ (.pointer (some ⟨k2,1,none⟩))).run prog w=.ok (vI last) w:=h.h2.load1 br rfl (i:=1) rfl
theorem zM {xs:List Kpt}(h:DrB A w0 k2 k4 a l c last L p n m xs w){ys:List Kpt}(U:Sl ff w0 A q i j ys)(Z:xs.length+ys.length <=1000000)
 {R:World->Option Addr->Nat->Nat->Prop} (E:∀w' a' l' c',DrB A w0 k2 k4 a l c last L a' l' c' (xs++ys) w'->R w' a' l' c'):
 ∃(w':World) (a':Option Addr) (l' c':Nat),(Builtin.append_ #[aa,aa] aa #[.slice p n m,.slice q i j]).run prog w=.ok (.slice a' l' c') w'/\R w' a' l' c':=by
 obtain⟨X,a4,V,G,O,M,e,I⟩:=j6 (ty:=aa) aF bl (by decide) h.o (λ_ _ h=>h) (cm:=j) ((U.below h.b.hb).flat eX) (by omega)
 have D:∀b,b<w0.heap.size->some b≠j0 p:=λb Y H=>by have:=h.f b H.symm;omega
 refine⟨X,a4,V,G,O,E _ _ _ _ ⟨⟨h.b.h2.grown e (D _ h.b.l2),h.b.h4.grown e (D _ h.b.l4),h.b.hs,h.b.hb.grown e h.b.hb.size h.f,h.b.l2,h.b.l4⟩,M,h.f.app h.b.hb.size I⟩⟩
theorem FZ {xs:List Kpt}(h:DrB A w0 k2 k4 a l c last L p n m xs w){wb:World}(hB:bW wb w0)(H:wb.heap.size <=k4){r:Value}{b:Bool}{e:List Kpt}(M:xs=e)(I:r=.bool b):
 ∃wx:World,(Instr.storeAt ab (.pointer (some ⟨k4,0,none⟩)) (.agg #[.slice p n m,vI last])).run prog w=.ok () wx/\
  ∃(p:Option Addr) (n m:Nat) (q:Int),(aI ab (.pointer (some ⟨k4,0,none⟩))).run prog wx=.ok (.agg #[.slice p n m,vI q]) wx/\ShP A e last (.bool b) wb (.tuple #[.agg #[.slice p n m,vI q],r]) wx:=by
 subst M I
 have D:=ah hB h.b.hb hB.size
 refine j8 (K:=λO wx=>ShP A xs last (.bool b) wb (.tuple #[O,.bool b]) wx) h.b.h4 rfl D H λwx G E=>⟨p,n,m,rfl,?_,E⟩
 exact(h.o.put (h.o.ne h.b.h4 (by decide)) G).orNew (h.f.mono hB.size)
end
set_option maxHeartbeats 2000000 in
theorem jq {a:Option Addr}{l c:Nat}{last:Int}(e:Sl ff w A a l c L)(s:ShI L last)(b6:L.length <=1000000){x:Cky}(o:x.ok):
 Cf dX #[.agg #[.slice a l c,vI last],x.v] w (Ret (ShP A (iI L (x.plc o)) last (.bool (atK L (x.plc o)).isSome) w)):=by
 apply oA
 intro ad cf U Y bk ch V Z bp ag X ac
 obtain⟨b0,aj,ck⟩:=dP (P:=prog) (Below.refl w.heap.size w) U Y
 obtain⟨an,al,cl⟩:=dP (P:=prog) aj V Z
 obtain⟨O,E,bq⟩:=dP (P:=prog) al X ac
 have a2:av ag ad ab [.slice a l c,vI last]:=((av.new U Y:av cf ad ab [.slice a l c,vI last]).below an).below O
 have a3:av ag bk af x.cells:=(av.new V Z:av ch bk af x.cells).below O
 have a4:av ag bp ab [.slice none 0 0,vI 0]:=av.new X ac
 refine⟨_,_,_,_,dv a2,_,aC.load0 a3 (Cky.len o),?_⟩
 refine az (iV (e.below E) s b6 o last) ?_
 rintro _ D ⟨⟨n,rfl,I⟩,M⟩
 have q:=ah E M E.size
 have G:=a2.below M
 have H:=a4.below M
 refine⟨n,rfl,?_⟩
 rcases I with⟨rfl,bb⟩|⟨i,b4,rfl,bc,I⟩
 ·refine ai.yes rfl ⟨_,_,_,_,dv G,?_⟩
  refine j8 (K:=λr bz=>ShP A (iI L (x.plc o)) last (.bool (atK L (x.plc o)).isSome) w (.tuple #[r,.bool false]) bz) H rfl q bq λbz cj ar=>⟨a,l,c,by rw[bb];rfl,?_,ar⟩
  rw[xq bb]
  exact(e.below ar).orNew
 ·refine ai.no (by simp) ?_
  have b8:=e.len
  have b2:=e.2.1
  have bj:i64.wrap ((i:Int)+1)=((i+1:Nat):Int):=by rw[wrap_i64 (by omega) (by omega)];omega
  try dsimp only
  rw[bj]
  have S:DrA A D ad bp a l c last L (World.drew D):=⟨G.below (bD D),H.below (bD D),e.below q,bD D,G.lt,H.lt⟩
  have a0:=yc s b4 bc
  have b9:=(e.below q).upto (Int.toNat (i:Int)) (by rw[Int.toNat_natCast];omega)
  have cb:=(e.below q).from (Int.toNat ((i+1:Nat):Int)) (by rw[Int.toNat_natCast];omega) (k:=30) rfl
  have cc:(0:Int) <=(i:Int)/\(i:Int) <=((c:Nat):Int):=by omega
  have ce:(0:Int) <=((i+1:Nat):Int)/\((i+1:Nat):Int) <=((l:Nat):Int):=by omega
  have b7:(L.take (Int.toNat (i:Int))).length <=L.length:=by rw[List.length_take];omega
  have a9:(L.take (Int.toNat (i:Int))).length+(L.drop (Int.toNat ((i+1:Nat):Int))).length <=1000000:=by
   rw[List.length_take,List.length_drop,Int.toNat_natCast,Int.toNat_natCast];omega
  have b3:[]++L.take (Int.toNat (i:Int))++L.drop (Int.toNat ((i+1:Nat):Int))=iI L (x.plc o):=by
   rw[List.nil_append,Int.toNat_natCast,Int.toNat_natCast,<- a0]
  have h1:([]:List Kpt).length+(L.take (Int.toNat (i:Int))).length <=1000000:=by rw[List.length_nil];omega
  have b1:([]++L.take (Int.toNat (i:Int))).length+(L.drop (Int.toNat ((i+1:Nat):Int))).length <=1000000:=by rw[List.nil_append];exact a9
  rw[I,show(some L[i]).isSome=true from rfl]
  clear e a2 a3 a4 U Y V Z X ac b0 an O aj al E G H I bc b8 b2 M b7 a9 a0 bj
  repeat' (first
   |with_reducible exact rfl
   |with_reducible exact cc
   |with_reducible exact ce
   |with_reducible refine And.intro ?_ ?_
   |(with_reducible refine F7 (by assumption) ?_;intro k bs b5;have a8:=b5.b)
   |with_reducible refine⟨_,_,_,MY (by assumption),?_⟩
   |with_reducible refine⟨_,MZ (by assumption),?_⟩
   |(with_reducible refine zM (by assumption) b9 h1 ?_;intro bs a' l' c' h;have a8:=h.b)
   |(with_reducible refine zM (by assumption) cb b1 ?_;intro bs a' l' c' h;have a8:=h.b)
   |with_reducible exact FZ (by assumption) q bq b3 rfl)
theorem VV {u:Url}{h:Hdr}{now:Int}(q:nB u=true)(e:ij h=true)(D:0 <=now)(h1:now <=1099511627776):FO u h now=0:=by
 unfold FO;rw[q,e,if_neg (by decide),if_neg (by decide),if_neg (by omega),if_neg (by omega)]
theorem TK {rs:List Rul}{u:Url}{h:Hdr}{now:Int}(D:FO u h now=0)(q:zG u h (qj rs u.host h.domain)=0)(e:OY u h (qj rs u.host h.domain) now=c):jZ rs u h now=(c,0):=by
 unfold jZ;rw[D,if_neg (by decide),q,if_neg (by decide),e]
set_option maxRecDepth 100000
theorem lg (a:Option Addr)(b c:Nat)(d:Value){w K}(h:nA w (.cells (Value.cells d) ak) λe f=>true/\∃g,Ld aJ (vA e 0) f (vI g)/\ai (g !=(1:Int)) (∃i,Ld ak (vA e 0) f i/\uB bO #[i] f λj k=>ai j (∃l,Ld ak (vA e 0) k l/\uS cU #[l] k λm n=>K (vS m) n) (K (vS []) k)) (∃i,(∀j,bW f j->Ld ak (vA e 0) j i)/\∃j,(∀k,bW f k->Ld ak (vA e 0) k j)/\∃k,(∀l,bW f l->Cf cO #[.slice a b c,j] l λm n=>m=.returned (vI k)/\bW l n)/\∃l m,(∀n,bW f n->Cf fM #[i,vI (i64.wrap (k+(1:Int)))] n λo p=>o=rT #[l,.bool m]/\bW n p)/\∀n,f.heap.size <=n->∀o,bW f o->o.heap[n]? =some (.cells bK ak)->∃p,Sv ak (vA n 0) l o p/\true/\∃q,Ld ao (vA n 1) p (vS q)/\K (vS q) p)):Cf fP #[.slice a b c,d] w (Ret K):=ru func214 [(3000019,[(1,.one .bool),(0,.one .bool),(2,.one .bool),(3,.one .bool),(4,.one .bool),(5,.one .bool),(6,.one .bool),(7,.one .bool),(8,.one .bool),(9,.one .bool)])] h
set_option maxRecDepth 20000
theorem vF (o:h.ok):∀x∈ay h,x≠[]:=by
 intro x e
 obtain⟨⟨E,G⟩,q⟩:=co o (d:=h) (λq=>by rw[List.length_eq_zero_iff.1 q]at e;cases e)
 obtain⟨-,-,D,-,-,-⟩:=ec o E G
 rw[q]at e
 have:=List.all_eq_true.1 D x e
 unfold o0 at this
 simp only[Bool.and_eq_true,dTx]at this
 intro c
 rw[c]at this
 simp at this
theorem qF {c:List UInt8} :∀{L:List (List UInt8)},(∀x∈L,x≠[])->(Lib.join L c=[] ↔ L=[])
 |[],_=>by simp[Lib.join_nil]
 |x::L,h=>by
  rw[Lib.join_cons]
  have:=h x (List.mem_cons_self ..)
  simp[this]
theorem qG (c:UInt8)(L:List (List UInt8))(x:List UInt8):Lib.join (L++[x]) [c]=if L=[]then x else Lib.join L [c]++[c]++x:=by
 split
 ·rename_i h;subst h;exact Lib.join_one _ _
 ·rename_i h
  rw[lT c L [x] h (by simp),Lib.join_one];simp
theorem nR {c d:Cky}(E:c.ok)(G:d.ok)(w:World):Cf eU #[c.v,d.v] w (Ret λv w'=>v=.bool (dt c d)/\bW w w'):=by
 apply mH
 intro V q X O Z H Y U
 have I:=(O▸au w _:bW w q)
 have M:=(U▸au q _:bW q H)
 have D:=ah I M I.size
 have a2:av H V af c.cells:=(av.new X O:av q V af c.cells).below M
 have a3:av H Z af d.cells:=av.new Y U
 unfold dt
 refine⟨rfl,_,a2.load1 ax rfl (i:=21) (be E 1),rfl,_,a3.load1 ax rfl (i:=21) (be G 1),ai.of (λe=>⟨?_,D⟩) (λe=>?_)⟩
 ·have e:d.path.length<c.path.length:=by have:=of_decide_eq_true e;omega
  rw[decide_eq_true e,Bool.true_or]
 ·have e: ¬ d.path.length<c.path.length:=by have:=of_decide_eq_false e;omega
  rw[decide_eq_false e,Bool.false_or]
  refine⟨rfl,_,a2.load1 ax rfl (i:=21) (be E 1),rfl,_,a3.load1 ax rfl (i:=21) (be G 1),ai.of (λe=>?_) (λe=>⟨?_,D⟩)⟩
  ·have e:c.path.length=d.path.length:=by have:=eq_of_beq e;omega
   exact⟨rfl,_,a2.load1 br rfl (i:=28) (be E 8),rfl,_,a3.load1 br rfl (i:=28) (be G 8),by rw[decide_eq_true e,Bool.true_and],D⟩
  ·have e:c.path.length≠d.path.length:=λc=>by rw[c]at e;simp at e
   rw[decide_eq_false e,Bool.false_and]
theorem qH (c:UInt8)(L:List (List UInt8))(j:Nat):(Lib.join (L.take j) [c]).length <=(Lib.join L [c]).length:=by
 by_cases h1:L.take j=[]
 ·rw[h1];simp[Lib.join_nil]
 ·by_cases e:L.drop j=[]
  ·have:L.take j=L:=by conv=>rhs;rw[<- List.take_append_drop j L,e,List.append_nil]
   rw[this];exact Nat.le_refl _
  ·have:=lT c (L.take j) (L.drop j) h1 e
   rw[List.take_append_drop]at this
   rw[this,List.length_append];omega
theorem pf (o:h.ok)(b1:h.name.length <=80000000)(n:Nat)(cf:n <=4000000000)(w:World):Cf fM #[h.v,vI (n:Int)] w (Ret λv w'=>v=FH (ay h) n/\bW w w'):=by
 apply nW
 intro b5 D bq a9
 have E:=(a9▸au w _:bW w D)
 have bj:av D b5 ak h.cells:=av.new bq a9
 intro k4 Y bs bb
 have aj:=(bb▸au D _:bW D Y)
 have ad:=ah E aj E.size
 have bk:av Y k4 ak nG.cells:=av.new bs bb
 have ar:w.heap.size <=k4:=by have:=E.size;omega
 refine⟨_,aO.load0 (bj.below aj) (Hst.len o),?_⟩
 refine az (bJ o b1 Y) ?_
 rintro _ Z ⟨a,l,c,rfl,M,b8,al⟩
 have ag:=ah ad al ad.size
 have ac:=bk.below al
 have cc:=lI h
 have b2:=vF o
 have bp:(Lib.join (ay h) [46]).length <=140737488355328:=by
  unfold ay
  split
  ·rw[eY,List.nil_append];omega
  ·simp[Lib.join_nil]
 have bz:=M.len
 subst bz
 generalize ay h=L at*
 refine⟨_,_,_,rfl,?_⟩
 unfold FH
 refine iY (w:=Z) (1 <=n/\n <=L.length) ?_ (λan=>?_)
 ·refine orJ (ai.of (λh=>?_) (λh=>⟨rfl,?_⟩))
  ·rw[if_neg (λan=>by simp at h;omega)]
   exact aO.fin (K:=λX q=>(.tuple #[X,.bool false]:Value)=.tuple #[nG.v,.bool false]/\bW w q) (cs:=nG.cells) rfl (Hst.one _) ac rfl ag ar λq G=>⟨rfl,G⟩
  ·simp at h;omega
 ·rw[if_pos an]
  have e:i64.wrap (((L.length:Nat):Int)-(n:Int))=((L.length-n:Nat):Int):=by rw[wrap_i64 (by omega) (by omega)];omega
  try dsimp only
  rw[e]
  have b7:(L.drop (L.length-n)).length=n:=by rw[List.length_drop];omega
  have cb:(Lib.join (L.drop (L.length-n)) [46]).length <=140737488355328:=Nat.le_trans (ze 46 L _) bp
  have b3:∀x∈L.drop (L.length-n),x≠[]:=λx V=>b2 x (List.mem_of_mem_drop V)
  refine⟨λm s i w'=>∃j:Nat,j <=n/\i=((L.length-n+j:Nat):Int)/\m=n-j/\s=Lib.join ((L.drop (L.length-n)).take j) [46]/\w'=Z,⟨_,0,by omega,rfl,rfl,by simp[Lib.join_nil],rfl⟩,?_⟩
  intro m s i
  refine aP.of ?_ _
  rintro ck ⟨j,b9,rfl,rfl,rfl,b4⟩
  rw[b4]
  refine ai.of (λI=>?_) (λI=>?_) <;> simp only[dTx,dFx]at I
  ·have ce:j<n:=by omega
   have b0:j<(L.drop (L.length-n)).length:=by omega
   have a8:=List.take_succ_eq_append_getElem b0
   have bc:(L.drop (L.length-n))[j]=L[L.length-n+j]'(by omega):=List.getElem_drop
   have ch:=qH 46 (L.drop (L.length-n)) j
   have U:=qH 46 (L.drop (L.length-n)) (j+1)
   rw[a8,qG]at U
   have a0:Lib.join ((L.drop (L.length-n)).take j) [46]=[] ↔ (L.drop (L.length-n)).take j=[]:=qF λx V=>b3 x (List.mem_of_mem_take V)
   refine vU (w:=Z) (if(L.drop (L.length-n)).take j=[]then[]else Lib.join ((L.drop (L.length-n)).take j) [46]++[46]) ?_ ?_
   ·refine ai.of (λe=>⟨fits (by simp;omega),λs O=>⟨rfl,?_⟩⟩) (λe=>⟨rfl,?_⟩)
    ·rw[if_neg,O]
     intro c
     rw[a0.2 c]at e;cases e
    ·have e:Lib.join ((L.drop (L.length-n)).take j) [46]=[]:=by simpa using e
     rw[if_pos (a0.1 e),e]
   ·refine⟨⟨⟨by omega,I⟩,M.all.isSome (i:=L.length-n+j) (by omega)⟩,_,M.all.text ax (i:=L.length-n+j) (by omega),fits ?_,λcj O=>⟨n-(j+1),by omega,j+1,by omega,?_,rfl,?_,rfl⟩⟩
    ·have b6:((L.length-n+j:Nat):Int).toNat=L.length-n+j:=Int.toNat_natCast _
     rw[<- bc]
     split at U
     ·rename_i H
      rw[if_pos H]
      simp only[List.length_nil,Nat.zero_add]
      omega
     ·rename_i H
      rw[if_neg H]
      simp only[List.length_append,List.length_cons,List.length_nil]at U ⊢
      omega
    ·rw[wrap_i64 (by omega) (by omega)];omega
    ·rw[O,a8,qG,<- bc]
     split <;> simp
  ·have:j=n:=by omega
   subst this
   rw[List.take_of_length_le (by omega)]
   exact aO.fin (K:=λX q=>(.tuple #[X,.bool true]:Value)=.tuple #[(⟨1,wY L j,ad0⟩:Hst).v,.bool true]/\bW w q) (cs:=(⟨1,wY L j,ad0⟩:Hst).cells) rfl (Hst.one _) ac rfl ag ar λq G=>⟨rfl,G⟩
theorem pk {rs:List Rul}(aj:Sl sV w A p n m rs)(ac:rs.length <=1000000)(ag:∀r∈rs,r.2.length <=80000000)(o:h.ok)(H:h.name.length <=80000000):
 Cf fP #[.slice p n m,h.v] w (Ret λv w'=>v=vS (zq (rs.filter bQ) h)/\bW w w'):=by
 apply lg
 intro a0 I Y M
 have q:=(M▸au w _:bW w I)
 have a3:av I a0 ak h.cells:=av.new Y M
 have bj:=lI h
 have bk:=HG (rs.filter bQ) h
 rw[AO]
 refine⟨rfl,_,a3.load1 br rfl (i:=0) rfl,ai.of (λe=>?_) (λe=>?_)⟩
 ·have e:h.kind≠1:=by simpa using e
  refine⟨_,aO.load0 a3 (Hst.len o),?_⟩
  refine az (cd o H I) ?_
  rintro _ a9 ⟨rfl,G⟩
  refine⟨_,rfl,ai.of (λE=>?_) (λE=>⟨?_,ah q G q.size⟩)⟩
  ·refine⟨_,aO.load0 (a3.below G) (Hst.len o),?_⟩
   refine az (fc o a9) ?_
   rintro _ bp ⟨rfl,V⟩
   rw[if_pos ⟨e,E⟩]
   exact⟨_,rfl,rfl,ah q (ah G V G.size) q.size⟩
  ·rw[if_neg (λc=>by rw[c.2]at E;cases E),wO e]
   rfl
 ·have e:h.kind=1:=by simpa using e
  rw[if_neg (λc=>c.1 e)]
  have al:=aj.below q
  refine⟨_,λu D=>aO.load0 (a3.below D) (Hst.len o),_,λu D=>aO.load0 (a3.below D) (Hst.len o),_,λu D=>CE (gd (al.below D) ac ag o H),?_⟩
  have U:i64.wrap (((uK (rs.filter bQ) (ay h).reverse:Nat):Int)+1)=((uK (rs.filter bQ) (ay h).reverse+1:Nat):Int):=by rw[wrap_i64 (by omega) (by omega)];omega
  try dsimp only
  rw[U]
  refine⟨_,_,λu D=>by
   have:=CE (v:=.tuple #[(IL (ay h) (uK (rs.filter bQ) (ay h).reverse+1)).v,.bool (decide (1 <=uK (rs.filter bQ) (ay h).reverse+1/\uK (rs.filter bQ) (ay h).reverse+1 <=(ay h).length))]) (by rw[<- Ef];exact pf o H (uK (rs.filter bQ) (ay h).reverse+1) (by omega) u)
   exact this,?_⟩
  intro a8 Z bb ad ar
  have a5:av bb a8 ak nG.cells:=ar
  obtain⟨bc,an,O,X⟩:=aO.store0 (P:=prog) (Hst.len (Ee (ay h) (uK (rs.filter bQ) (ay h).reverse+1))) (Hst.one _) a5 rfl
  refine⟨bc,an,rfl,_,O.load1 ax rfl (i:=1) rfl,rfl,Below.put (ah q ad q.size) X (Nat.le_trans q.size Z)⟩
def xl (n v:List UInt8):Hdr:=⟨n,v,[],[],false,0,false,0,false,false,0⟩
theorem NZ (L:List Kpt)(s:List UInt8):np L s <=L.length:=List.countP_le_length
theorem Ge (h:L.length <=50):G7 s L=L:=by
 have e:∀f,IU s f L=L:=λf=>by
  cases f with
  |zero=>rfl
  |succ f=>
   unfold IU
   rw[if_neg]
   have:=NZ L s
   omega
 have q:∀f,K0 f L=L:=λf=>by
  cases f with
  |zero=>rfl
  |succ f=>
   unfold K0
   rw[if_neg]
   omega
 unfold G7
 rw[e,q]
def djC (ar:Option Addr)(lr cr:Nat)(a:Option Addr)(l c:Nat)(last now:Int):List Value:=[.slice ar lr cr,.slice a l c,vI last,vI now]
def JaP (A:Bl)(ar:Option Addr)(lr cr:Nat)(s:JS)(x:Value)(w:World)(v:Value)(w':World):Prop:=
 ∃(a:Option Addr) (l c:Nat),v=.tuple #[.agg #[.slice ar lr cr,.slice a l c,vI s.last,vI s.now],x]/\Sl ff w' (mb A w) a l c s.L/\bW w w'
def FR (A:Bl)(w:World):Bl:=λb=>A b/\b<w.heap.size
theorem Sl.old {α:Type}{T:Ty α}{a:Option Addr}{n c:Nat}{xs:List α}(h:Sl T w A a n c xs):Sl T w (FR A w) a n c xs:=h.mono λb q e=>⟨e,q⟩
theorem BH (h:w.heap.size <=u.heap.size):∀b,mb (FR A w) u b->mb A w b:=λb e=>e.elim (λh1=>.inl h1.1) λh1=>.inr (Nat.le_trans h h1)
theorem vM (h1:w.heap.size <=k)(e:k<u.heap.size): ¬ mb (FR A w) u k:=λh=>h.elim (λh=>by have:=h.2;omega) λh=>by omega
theorem yi {c x:Kpt}{G r:List Kpt}{p:Bool}(h:L++(bif p then x::r else nH c (x::r))=G):
 (bif (!p&&dt c.c x.c)then L++[c]else L)++[x]++(bif (p || (!p&&dt c.c x.c))then r else nH c r)=G:=by
 cases p with
 |true=>simpa using h
 |false=>
  cases q:dt c.c x.c with
  |true=>
   have e:nH c (x::r)=c::x::r:=by unfold nH;rw[if_pos q]
   simp only[cond_false,e]at h
   simpa using h
  |false=>
   have e:nH c (x::r)=x::nH c r:=by
    conv=>lhs;unfold nH
    rw[if_neg (by rw[q];decide)]
   simp only[cond_false,e]at h
   simpa using h
theorem fG:Whl prog ae 4:=⟨⟨_,_,gS⟩,by kernel_rfl⟩
theorem bU {a:Option Addr}{l c:Nat}{e now:Int}(h:av w k ae (djC p n m a l c e now)):
 (Instr.loadAt ae (.pointer (some ⟨k,0,none⟩))).run prog w=.ok (.agg #[.slice p n m,.slice a l c,vI e,vI now]) w:=fG.load0 h rfl
theorem cx {a:Option Addr}{l c:Nat}{e now:Int}(h:av w k ae (djC p n m a l c e now)):
 (Instr.loadAt ab (.pointer (some ⟨k,1,none⟩))).run prog w=.ok (.agg #[.slice a l c,vI e]) w:=
 gC.load h (i:=1) (us:=[.slice a l c,vI e]) rfl (λj q=>match j,q with|0,_=>rfl|1,_=>rfl)
theorem vp {a:Option Addr}{l c:Nat}{H now:Int}(h:av w k ae (djC p n m a l c H now))(a':Option Addr)(l' c':Nat)(q:Int):
 ∃e,(Instr.storeAt ab (.pointer (some ⟨k,1,none⟩)) (.agg #[.slice a' l' c',vI q])).run prog w=.ok () e/\av e k ae (djC p n m a' l' c' q now)/\w.grownBy e (some k):=by
 obtain⟨e,G,D,E⟩:=gC.store (P:=prog) (cs:=[.slice a' l' c',vI q]) rfl (aR rfl (aR rfl di)) h (i:=1) (show 1+2 <=4 by decide)
 exact⟨e,G,D,E⟩
theorem qv {w0 w:World}{a:Option Addr}{l c:Nat}{e now:Int}{vs:List Value}(h:av w k ae vs)(ac:vs.length=4)(X:bW w0 w)(Y:w0.heap.size <=k){K:Value->World->Prop}
 (U:∀wx,w.grownBy wx (some k)->bW w0 wx->K (.agg #[.slice p n m,.slice a l c,vI e,vI now]) wx):
 ∃wx:World,(Instr.storeAt ae (.pointer (some ⟨k,0,none⟩)) (.agg #[.slice p n m,.slice a l c,vI e,vI now])).run prog w=.ok () wx/\
  ∃(q:Option Addr) (H D:Nat) (a1:Option Addr) (I E:Nat) (M O:Int),(aI ae (.pointer (some ⟨k,0,none⟩))).run prog wx=.ok (.agg #[.slice q H D,.slice a1 I E,vI M,vI O]) wx/\K (.agg #[.slice q H D,.slice a1 I E,vI M,vI O]) wx:=by
 obtain⟨wx,Z,V,G⟩:=fG.store0 (P:=prog) (cs:=djC p n m a l c e now) rfl (aR rfl (aR rfl (aR rfl (aR rfl di)))) h ac
 exact⟨wx,Z,p,n,m,a,l,c,e,now,av.res (bU V),U wx G (Below.put X G Y)⟩
theorem ka {x c:Cky}(D:x.ok)(G:c.ok)(bb:x.host.name.length <=80000000)(ag:c.host.name.length <=80000000)(b6:x.path.length <=1000000000)(b1:c.path.length <=1000000000)(w:World):
 Cf dh #[x.v,c.v] w (Ret λv w'=>v=.bool (rR x c)/\bW w w'):=by
 apply jr
 intro Y bq aj an a0 q al ar
 obtain⟨b0,bc,b2⟩:=dP (P:=prog) (Below.refl w.heap.size w) aj an
 obtain⟨bj,Z,b3⟩:=dP (P:=prog) bc al ar
 have a2:av q Y af x.cells:=(av.new aj an:av bq Y af x.cells).below bj
 have a3:av q a0 af c.cells:=av.new al ar
 have a9:∀{wx},bW q wx->(Instr.loadAt ak (.pointer (some ⟨Y,2,none⟩))).run prog wx=.ok x.host.v wx:=λU=>aO.load (a2.below U) (i:=2) (us:=x.host.cells) (Hst.len D) (λj X=>fK D X)
 have a8:∀{wx},bW q wx->(Instr.loadAt ak (.pointer (some ⟨a0,2,none⟩))).run prog wx=.ok c.host.v wx:=λU=>aO.load (a3.below U) (i:=2) (us:=c.host.cells) (Hst.len G) (λj X=>fK G X)
 have ac:=Below.refl q.heap.size q
 refine qs (λb w'=>b=(vi x.host c.host || vi c.host x.host)/\bW q w') ?_ ?_
 ·refine⟨rfl,_,a9 ac,rfl,_,a8 ac,?_⟩
  refine az (cG D G bb ag q) ?_
  rintro _ bs ⟨rfl,E⟩
  refine⟨_,rfl,ai.of (λe=>⟨by rw[e];rfl,E⟩) (λe=>?_)⟩
  refine⟨rfl,_,a8 E,rfl,_,a9 E,?_⟩
  refine az (cG G D ag bb bs) ?_
  rintro _ b4 ⟨rfl,bk⟩
  exact⟨_,rfl,by rw[e];rfl,ah E bk E.size⟩
 ·rintro b bz ⟨rfl,V⟩
  have I:=ah Z V Z.size
  have M:=a2.below V
  have ad:=a3.below V
  unfold rR
  refine⟨rfl,_,M.load1 bA rfl (i:=22) (be D 2),ai.of (λe=>?_) (λe=>⟨by rw[e];rfl,I⟩)⟩
  refine⟨rfl,_,M.load1 ax rfl (i:=0) rfl,rfl,_,ad.load1 ax rfl (i:=0) rfl,ai.of (λH=>?_) (λH=>⟨by rw[e,H];rfl,I⟩)⟩
  refine ai.of (λO=>?_) (λO=>⟨by rw[e,H,O];rfl,I⟩)
  refine⟨rfl,_,ad.load1 ax rfl (i:=21) (be G 1),rfl,_,M.load1 ax rfl (i:=21) (be D 1),?_⟩
  refine az (jp c.path x.path (by omega) (by omega) bz) ?_
  rintro _ b5 ⟨rfl,bp⟩
  rw[bp]
  exact⟨_,rfl,by rw[e,H,O];rfl,I⟩
theorem pw {rs:List Rul}(V:Sl sV w A p n m rs)(M:rs.length <=1000000)(U:∀r∈rs,r.2.length <=80000000)(o:h.ok)(O:h.name.length <=80000000):
 Cf fW #[.slice p n m,h.v] w (Ret λv w'=>v=vS (lJ (rs.filter bQ) h)/\bW w w'):=by
 apply oF
 intro X Y G H
 obtain⟨ac,q,ad⟩:=dP (P:=prog) (Below.refl w.heap.size w) G H
 have a3:av Y X ak h.cells:=av.new G H
 refine⟨_,aO.load0 a3 (Hst.len o),?_⟩
 refine az (pk (V.below q) M U o O) ?_
 rintro _ Z ⟨rfl,E⟩
 have D:=ah q E q.size
 unfold lJ
 refine⟨_,rfl,ai.of (λe=>?_) (λe=>?_)⟩
 ·have e:zq (rs.filter bQ) h=[]:=by simpa using e
  rw[if_pos e]
  refine⟨_,aO.load0 (a3.below E) (Hst.len o),?_⟩
  refine az (fc o Z) ?_
  rintro _ ag ⟨rfl,I⟩
  exact⟨_,rfl,rfl,ah D I D.size⟩
 ·have e: ¬ zq (rs.filter bQ) h=[]:=by simpa using e
  rw[if_neg e]
  exact⟨rfl,D⟩
theorem nT (o:c.ok)(s:OX c)(w:World):Cf fz #[c.v] w (Ret λv w'=>v=vS (ki c)/\bW w w'):=by
 apply oD
 intro I M D G
 obtain⟨O,q,V⟩:=dP (P:=prog) (Below.refl w.heap.size w) D G
 have a1:av M I af c.cells:=av.new D G
 have h1:=s.nm
 have U:=s.vl
 unfold ki
 refine⟨rfl,_,a1.load1 ax rfl (i:=0) rfl,ai.of (λe=>?_) (λe=>?_)⟩
 ·have e:c.name=[]:=by simpa using e
  rw[if_pos e]
  exact⟨rfl,_,a1.load1 ax rfl (i:=1) rfl,rfl,q⟩
 ·have e: ¬ c.name=[]:=by simpa using e
  rw[if_neg e]
  refine⟨rfl,_,a1.load1 ax rfl (i:=0) rfl,fits (by simp;omega),λX E=>⟨rfl,_,a1.load1 ax rfl (i:=1) rfl,fits (by rw[E];simp;omega),λY H=>⟨by rw[H,E],q⟩⟩⟩
theorem pu {G E:Nat}{a:Option Addr}{l c:Nat}{s:JS}(bb:Sl ff w A a l c s.L)(Y:JI s m)(cl:m <=1000000)(n:Int)(cn:n <=9223372036854775807):
 Cf fV #[.agg #[.slice p G E,.slice a l c,vI s.last,vI s.now],vI n] w (Ret (JaP A p G E (ju s n).1 (vI (ju s n).2) w)):=by
 apply oE
 intro Z ce a8 M k4 ag a9 bc
 obtain⟨ch,bk,ac⟩:=dP (P:=prog) (Below.refl w.heap.size w) a8 M
 obtain⟨bs,aj,ad⟩:=dP (P:=prog) bk a9 bc
 have al:av ce Z ae (djC p G E a l c s.last s.now):=av.new a8 M
 have a2:=al.below bs
 have a4:av ag k4 ae (djC none 0 0 none 0 0 0 0):=av.new a9 bc
 have bj:Z≠k4:=by have:=al.lt;omega
 have cj:=Y.n0
 have h1:=Y.n1
 have b7:i64.wrap ((1099511627776:Int)-s.now)=1099511627776-s.now:=wrap_i64 (by omega) (by omega)
 refine⟨λH=>H=ag/\ ¬ (n<0\/1099511627776-s.now<n),⟨λb H=>H=ag/\b=decide (n<0\/1099511627776-s.now<n),?_,λb=>aP.of ?_ _⟩,aP.of ?_ _⟩
 ·refine ai.of (λe=>⟨rfl,?_⟩) (λe=>⟨rfl,_,a2.load1 bn rfl (i:=3) rfl,rfl,?_⟩)
  ·rw[decide_eq_true (.inl (of_decide_eq_true e))]
  ·rw[b7]
   have:=of_decide_eq_false e
   rw[Bool.eq_iff_iff,dTx,dTx];omega
 ·rintro H ⟨X,rfl⟩
  rw[X]
  refine ai.of (λe=>?_) (λe=>⟨rfl,of_decide_eq_false e⟩)
  have e:=of_decide_eq_true e
  refine⟨_,_,_,_,_,_,_,_,bU a2,?_⟩
  refine qv (K:=λr q=>JaP A p G E (ju s n).1 (vI (ju s n).2) w (.tuple #[r,vI 122]) q) a4 rfl aj ad λq a0 ar=>?_
  unfold ju
  rw[if_pos e]
  exact⟨a,l,c,rfl,(bb.below ar).orNew,ar⟩
 ·rintro H ⟨X,b5⟩
  rw[X]
  have M:i64.wrap (s.now+n)=s.now+n:=wrap_i64 (by omega) (by omega)
  obtain⟨q,cb,D,O⟩:=a2.put eF (i:=3) (v:=vI (s.now+n)) (show 3<4 by decide) rfl rfl
  have D:av q Z ae (djC p G E a l c s.last (s.now+n)):=D
  have I:=Below.put aj O ac
  have an:=a4.grown O (bw (Ne.symm bj))
  have ck:=Y.few
  refine⟨rfl,_,a2.load1 bn rfl (i:=3) rfl,rfl,q,by rw[M];exact cb,rfl,_,_,_,_,cx D,rfl,_,D.load1 bn rfl (i:=3) rfl,?_⟩
  refine az (gj (bb.old.below I) (by omega) s.last (s.now+n)) ?_
  rintro _ ct ⟨cp,a',l',c',rfl,b6,V⟩
  have bz:=D.below V
  have b0:=an.below V
  have bp:=ah I V I.size
  obtain⟨cf,cc,b1,U⟩:=vp bz a' l' c' s.last
  have bq:=Below.put bp U ac
  have b2:=b0.grown U (bw (Ne.symm bj))
  refine⟨_,_,_,_,_,rfl,rfl,cf,cc,_,_,_,_,_,_,_,_,bU b1,?_⟩
  refine qv (K:=λr q=>JaP A p G E (ju s n).1 (vI (ju s n).2) w (.tuple #[r,vI 0]) q) b2 rfl bq ad λcu a0 b4=>?_
  unfold ju
  rw[if_neg b5]
  have cr:=O.size
  have b8:=D.lt
  have b9:=an.lt
  exact⟨a',l',c',rfl,((b6.wr U (vM ac b8)).wr a0 (vM ad b9)).mono λb _ b3=>BH I.size b b3,b4⟩
theorem pr {b8 b2:Nat}{a:Option Addr}{l c:Nat}{s:JS}(er:Sl ff w A a l c s.L)(b7:JI s m)(f2:m <=100000){r:Req}(or:r.ok)(gm:r.host.name.length <=1000000)(gn:r.path.length <=1000000):
 Cf fU #[.agg #[.slice p b8 b2,.slice a l c,vI s.last,vI s.now],r.v] w
  (Ret λv w'=>∃(a':Option Addr) (O c':Nat),v=.slice a' O c'/\Ow rF af w' NoB a' O c' ((tU s.L r s.now).map Kpt.c)/\ci w.heap.size a'/\bW w w'):=by
 apply oB
 intro d1 V c4 dl ey b9 c5 dr d0 d4 c3 dk
 obtain⟨fl,d6,gb⟩:=dP (P:=prog) (Below.refl w.heap.size w) c4 dl
 obtain⟨d8,cb,gc⟩:=dP (P:=prog) d6 c5 dr
 obtain⟨D,B12,f9⟩:=dP (P:=prog) cb c3 dk
 have a2:av b9 d1 ae (djC p b8 b2 a l c s.last s.now):=(av.new c4 dl:av V d1 ae (djC p b8 b2 a l c s.last s.now)).below d8
 have a3:av b9 ey aU r.cells:=av.new c5 dr
 have fr:=b7.few
 have e1:Ow rF af d4 NoB (some ⟨d0,0,none⟩) 0 0 []:=jX qz c3 dk
 have d9:ci b9.heap.size (some (⟨d0,0,none⟩:Addr)):=λg ar=>by simp[j0]at ar;omega
 refine⟨rfl,_,_,_,_,cx (a2.below D),?_⟩
 refine az (iK (er.below B12) (by omega) s.last) ?_
 rintro _ e2 ⟨e9,ga,fn,rfl,dc,eg,U⟩
 have B15:=ah B12 U B12.size
 have fd:=ah D U D.size
 have es:=dc.sl (A':=λb=>d4.heap.size <=b) (λ_ _ ed=>ed.elim) λg ar=>eg g ar
 have c6:=dc.len
 rw[List.length_map]at c6
 subst c6
 have eb:∀k,((s.L.take k).filter λx=>dD x.c r s.now).length <=s.L.length:=λk=>Nat.le_trans (List.length_filter_le ..) (by rw[List.length_take];omega)
 refine⟨_,_,_,rfl,?_⟩
 refine⟨λm a5 d2 cf i w'=>∃k:Nat,k <=s.L.length/\i=(k:Int)/\m=s.L.length-k/\Ow rF af w' NoB a5 d2 cf ((((s.L.take k).filter λx=>dD x.c r s.now).foldl (λout c=>nH c out) []).map Kpt.c)/\ci w.heap.size a5/\bW e2 w',
  ⟨_,0,by omega,rfl,rfl,e1.below U,d9.mono cb.size,Below.refl _ _⟩,?_⟩
 intro m a5 d2 cf i
 refine aP.of ?_ _
 rintro e4 ⟨k,fv,rfl,rfl,b5,cu,M⟩
 have b4:=ah B15 M B15.size
 refine ai.of (λa0=>?_) (λa0=>?_) <;> simp only[dTx,dFx]at a0
 ·have bz:k<s.L.length:=by omega
  have c9:k<(s.L.map Kpt.c).length:=by rw[List.length_map];exact bz
  have de:=es.below M
  obtain⟨c7,-⟩:=fj aC de c9
  rw[List.getElem_map]at c7
  refine⟨⟨⟨by omega,by omega⟩,de.isSome c9⟩,_,c7,?_⟩
  have E:=s.L[k].ok
  have e7:=b7.sm _ (List.getElem_mem bz)
  have gq:=iW E (b7.right _ (List.getElem_mem bz))
  have gp:=e7.pt
  have a9:((s.L.take (k+1)).filter λx=>dD x.c r s.now).foldl (λout c=>nH c out) []=if dD s.L[k].c r s.now=true then nH s.L[k] (((s.L.take k).filter λx=>dD x.c r s.now).foldl (λout c=>nH c out) [])else((s.L.take k).filter λx=>dD x.c r s.now).foldl (λout c=>nH c out) []:=by
   rw[List.take_succ_eq_append_getElem bz,List.filter_append,List.filter_cons,List.filter_nil,List.foldl_append]
   split <;> rfl
  have fp:(((s.L.take k).filter λx=>dD x.c r s.now).foldl (λout c=>nH c out) []).length <=s.L.length:=by
   rw[(re _ []).length_eq,List.nil_append];exact eb k
  have ex:i64.wrap ((k:Int)+1)=((k+1:Nat):Int):=by rw[wrap_i64 (by omega) (by omega)];omega
  try dsimp only
  rw[ex]
  generalize f4:s.L[k]=x at*
  generalize ((s.L.take k).filter λx=>dD x.c r s.now).foldl (λout c=>nH c out) []=G at*
  refine aC.new (zs:=je.cells) (cs:=x.c.cells) (Cky.len (by rfl)) (Cky.len E) (Cky.one _) e4 λf8 e6 f1 ck an=>?_
  have cr:=ah b4 an b4.size
  have ce:=ah (ah (ah D U D.size) M (ah D U D.size).size) an (ah (ah D U D.size) M (ah D U D.size).size).size
  refine⟨_,aC.load0 ck (Cky.len E),_,fA.load0 (a3.below ce) (Req.len or),rfl,_,(a2.below ce).load1 bn rfl (i:=3) rfl,?_⟩
  refine az (lZ E or (by omega) (by omega) (by omega) (by omega) s.now e6) ?_
  rintro _ I ⟨rfl,bp⟩
  have cp:=ah cr bp cr.size
  have ac:=ah (ah M an M.size) bp (ah M an M.size).size
  have b6:=(b5.below an).below bp
  have cl:=ck.below bp
  refine⟨_,rfl,ai.of (λe=>?_) (λe=>?_)⟩
  ·rw[if_neg (by rw[Bool.not_eq_true']at e;rw[e];decide)]at a9
   exact⟨s.L.length-(k+1),by omega,k+1,by omega,rfl,rfl,by rw[a9];exact b6,cu,ac⟩
  ·rw[if_pos (by rwa [Bool.not_eq_false']at e)]at a9
   have c0:=b6.len
   rw[List.length_map]at c0
   subst c0
   have et:=b6.all
   have el:(nH x G).length=G.length+1:=by rw[(yj x G).length_eq];rfl
   intro f7 e3 em dn
   have d7:=(dn▸au I _:bW I e3)
   refine⟨λm a8 d3 ch b i w'=>∃(j:Nat) (q:List Kpt),j <=G.length/\i=(j:Int)/\m=G.length-j/\q++(bif b then G.drop j else nH x (G.drop j))=nH x G/\Ow rF af w' NoB a8 d3 ch (q.map Kpt.c)/\ci I.heap.size a8/\bW I w',
    ⟨_,0,[],by omega,rfl,rfl,rfl,jX qz em dn,λg ar=>by simp[j0]at ar;omega,d7⟩,?_⟩
   intro gl a8 d3 ch H f6
   refine aP.of ?_ _
   rintro e5 ⟨j,q,fs,rfl,rfl,heq,b0,bs,Y⟩
   have f3:q.length <=G.length+1:=by
    have:=congrArg List.length heq
    rw[List.length_append,el]at this;omega
   refine ai.of (λa0=>?_) (λa0=>?_) <;> simp only[dTx,dFx]at a0
   ·have c1:j<G.length:=by omega
    have c2:j<(G.map Kpt.c).length:=by rw[List.length_map];exact c1
    have dg:=et.below Y
    obtain⟨c8,-⟩:=fj aC dg c2
    rw[List.getElem_map]at c8
    have bb:=G[j].ok
    rw[List.drop_eq_getElem_cons c1]at heq
    refine⟨⟨⟨by omega,by omega⟩,dg.isSome c2⟩,_,c8,?_⟩
    have ew:i64.wrap ((j:Int)+1)=((j+1:Nat):Int):=by rw[wrap_i64 (by omega) (by omega)];omega
    try dsimp only
    rw[ew]
    generalize f5:G[j]=y at*
    refine aC.new (zs:=je.cells) (cs:=y.c.cells) (Cky.len (by rfl)) (Cky.len bb) (Cky.one _) e5 λds d5 f0 cj ct=>?_
    have b1:=ah Y ct Y.size
    have cn:=cl.below b1
    have ev:=yi heq
    refine⟨λa l c b X=>Ow rF af X NoB a l c ((bif (!H&&dt x.c y.c)then q++[x]else q).map Kpt.c)/\b=(H || (!H&&dt x.c y.c))/\ci I.heap.size a/\bW I X/\av X ds af y.c.cells,
     ⟨λb X=>b=(!H&&dt x.c y.c)/\bW d5 X,?_,λb=>aP.of ?_ _⟩,λfb ge fo fm=>aP.of ?_ _⟩
    ·refine ai.of (λe=>?_) (λe=>⟨by rw[e];rfl,Below.refl _ _⟩)
     refine⟨_,aC.load0 cn (Cky.len E),_,aC.load0 cj (Cky.len bb),?_⟩
     refine az (nR E bb d5) ?_
     rintro _ go ⟨rfl,ee⟩
     exact⟨_,rfl,by rw[e];rfl,ee⟩
    ·rintro X ⟨rfl,bq⟩
     have cc:=ah b1 bq b1.size
     have dd:=(b0.below ct).below bq
     have b3:=cj.below bq
     refine ai.of (λe=>?_) (λe=>?_)
     ·refine⟨_,aC.load0 (cn.below bq) (Cky.len E),?_⟩
      obtain⟨bk,a1,bc,ad,ag,V,a',O,c',aj,bj,al,Z,e0⟩:=nJ (w0:=I) dd bs cc E (by rw[List.length_map];omega)
      refine⟨bk,a1,bc,ad,ag,V,a',O,c',aj,?_,?_,al,Z,b3.block (e0 ds b3.lt λc=>?_)⟩
      ·rw[e]
       have:(q++[x]).map Kpt.c=q.map Kpt.c++[x.c]:=by simp
       show Ow _ _ _ _ _ _ _ ((q++[x]).map Kpt.c)
       rw[this];exact bj
      ·rw[e,Bool.or_true]
      ·have:=b0.lt _ c
       omega
     ·rw[e]
      exact⟨dd,by rw[Bool.or_false],bs,cc,b3⟩
    ·rintro X ⟨eq,rfl,ei,ef,ea⟩
     refine⟨_,aC.load0 ea (Cky.len bb),?_⟩
     have en:((bif (!H&&dt x.c y.c)then q++[x]else q).map Kpt.c).length <=1000000:=by
      rw[List.length_map]
      cases(!H&&dt x.c y.c)
      ·show q.length <=_;omega
      ·show(q++[x]).length <=_;simp;omega
     obtain⟨bk,a1,bc,ad,ag,V,a',O,c',aj,bj,al,Z,-⟩:=nJ (w0:=I) eq ei ef bb en
     refine⟨bk,a1,bc,ad,ag,V,a',O,c',aj,G.length-(j+1),by omega,j+1,(bif (!H&&dt x.c y.c)then q++[x]else q)++[y],by omega,rfl,rfl,ev,?_,al,Z⟩
     rw[List.map_append]
     exact bj
   ·have:j=G.length:=by omega
    subst this
    rw[List.drop_length]at heq
    have ek:ci w.heap.size a8:=bs.mono cp.size
    refine ai.of (λe=>?_) (λe=>?_)
    ·have e:H=false:=by simpa using e
     subst e
     have heq:q++[x]=nH x G:=heq
     refine⟨_,aC.load0 (cl.below Y) (Cky.len E),?_⟩
     obtain⟨bk,a1,bc,ad,ag,V,a',O,c',aj,bj,al,Z,-⟩:=nJ (w0:=I) b0 bs Y E (by rw[List.length_map];omega)
     refine⟨bk,a1,bc,ad,ag,V,a',O,c',aj,s.L.length-(k+1),by omega,k+1,by omega,rfl,rfl,?_,al.mono cp.size,ah ac Z ac.size⟩
     rw[a9,<- heq,List.map_append]
     exact bj
    ·have e:H=true:=by simpa using e
     subst e
     have heq:q++[]=nH x G:=heq
     rw[List.append_nil]at heq
     refine⟨s.L.length-(k+1),by omega,k+1,by omega,rfl,rfl,?_,ek,ah ac Y ac.size⟩
     rw[a9,<- heq]
     exact b0
 ·have:k=s.L.length:=by omega
  subst this
  rw[List.take_length]at b5
  exact⟨_,_,_,rfl,b5,cu,b4⟩
theorem qP (rs:List Rul)(o:OpK):∀(l:List OpK) (s:JS),vQ rs s (l++[o])=doV rs (vQ rs s l) o.o o.ok
 |[],s=>rfl
 |x::l,s=>qP rs o l _
theorem VR {s:JS}(h:JI s m)(q:i<s.L.length):
 s.now<s.L[i].c.exp/\s.L[i].c.born <=s.now/\s.L[i].c.used <=s.now/\(∀j (e:j<i),s.L[j].c.seq<s.L[i].c.seq)/\(∀j (e:j<i),s.L[j].plc≠s.L[i].plc):=by
 have h1:=h.live _ (List.getElem_mem q)
 have D:=List.pairwise_iff_getElem.1 h.sh.up
 have E:=List.pairwise_iff_getElem.1 h.sh.key
 exact⟨h1.1,h1.2.1,h1.2.2,λj e=>D j i (by omega) q e,λj e=>E j i (by omega) q e⟩
set_option maxRecDepth 100000
theorem nv (a:Option Addr){w K}(h:(Option.isSome a=true)/\(Option.isSome a=true)/\∃b,Ld aX (Option.map (λc=>c.add 0) a) w (vI b)/\K (vI b) w):Cf cA #[.pointer a] w (Ret K):=ru func15 [] h
theorem ke (a:Option Addr){w K}(h:uP tT #[] w λb c=>(Option.isSome a=true)/\(Option.isSome a=true)/\∃d,Sv cD (Option.map (λe=>e.add 2) a) (.pointer b) c d/\K (.tuple #[]) d):Cf cY #[.pointer a] w (Ret K):=ru func25 [] h
set_option maxRecDepth 20000
def xc (A:Bl)(w ws:World):Bl:=λb=>(A b/\b<w.heap.size)\/ws.heap.size <=b
theorem Sl.newB {α:Type}{T:Ty α}{a:Option Addr}{n c:Nat}{xs:List α}(h:Sl T w A a n c xs)(e:bW w u):Sl T u (xc A w u) a n c xs:=
 (h.old.below e).mono λb _ e=>.inl e
theorem fY (h:u.heap.size <=v.heap.size):∀b,mb (xc A w u) v b->xc A w u b:=λb e=>e.elim id λh1=>.inr (Nat.le_trans h h1)
theorem pe (h:w.heap.size <=u.heap.size):∀b,xc A w u b->mb A w b:=λb e=>e.elim (λh1=>.inl h1.1) λh1=>.inr (Nat.le_trans h h1)
theorem jm (h1:w.heap.size <=k)(e:k<u.heap.size): ¬ xc A w u k:=λh=>h.elim (λh=>by have:=h.2;omega) λh=>by omega
theorem tC:∀(l:List (List UInt8)) (x:List UInt8),ut (l++[x])=if l=[]then x else ut l++[59,32]++x
 |[],x=>rfl
 |[y],x=>rfl
 |y::z::r,x=>by
  have:=tC (z::r) x
  rw[if_neg (by simp)]at this
  rw[if_neg (by simp)]
  show y++[59,32]++ut (z::r++[x])=y++[59,32]++ut (z::r)++[59,32]++x
  rw[this];simp
def Eb (l:List (List UInt8)):List UInt8:=if l=[]then[]else ut l++[59,32]
theorem yA (l:List (List UInt8))(x:List UInt8):ut (l++[x])=Eb l++x:=by
 rw[tC];unfold Eb;split <;> simp
theorem qN {V H:Nat}{a:Option Addr}{l c:Nat}{s:JS}(b6:Sl ff w A a l c s.L)(U:JI s m)(c6:m <=100000){r:Req}(or:r.ok)(d0:r.host.name.length <=1000000)(d1:r.path.length <=1000000):
 Cf iQ #[.agg #[.slice p V H,.slice a l c,vI s.last,vI s.now],r.v] w (Ret (JaP A p V H (xH s r).1 (.string (mkS (xH s r).2)) w)):=by
 apply pJ
 intro Z d2 bz b8 ce d3 b0 b9 k4 q b1 cb
 obtain⟨d6,cp,cf⟩:=dP (P:=prog) (Below.refl w.heap.size w) bz b8
 obtain⟨ar,cr,el⟩:=dP (P:=prog) cp b0 b9
 obtain⟨a0,G,ch⟩:=dP (P:=prog) cr b1 cb
 have an:av d2 Z ae (djC p V H a l c s.last s.now):=av.new bz b8
 have a2:=(an.below ar).below a0
 have a3:av q ce aU r.cells:=(av.new b0 b9:av d3 ce aU r.cells).below a0
 have a4:av q k4 ae (djC none 0 0 none 0 0 0 0):=av.new b1 cb
 have dr:Z≠k4:=by have:=(an.below ar).lt;omega
 have dl:=a2.lt
 have dn:=a4.lt
 refine⟨_,_,_,_,_,_,_,_,bU a2,_,fA.load0 a3 (Req.len or),?_⟩
 refine az (pr (b6.newB G) U c6 or d0 d1) ?_
 rintro _ ev ⟨cu,ek,c0,rfl,b5,c5,M⟩
 have cn:=ah G M G.size
 have dc:=b5.sl (A':=λb=>q.heap.size <=b) (λ_ _ I=>I.elim) λg ag=>c5 g ag
 have b2:=b5.len
 rw[List.length_map]at b2
 have bk:∀x∈tU s.L r s.now,x∈s.L:=λx Y=>(List.mem_filter.1 ((oK s.L r s.now).mem_iff.1 Y)).1
 have d8:(tU s.L r s.now).length <=m:=by
  rw[(oK s.L r s.now).length_eq];exact Nat.le_trans (List.length_filter_le ..) U.few
 unfold xH
 generalize d7:tU s.L r s.now=e at*
 subst b2
 refine⟨_,_,_,rfl,λm t i w'=>∃(k:Nat) (a':Option Addr) (l' c':Nat),k <=e.length/\i=(k:Int)/\m=e.length-k/\t=ut ((e.take k).map λx=>ki x.c)/\av w' Z ae (djC p V H a' l' c' s.last s.now)/\
  Sl ff w' (xc A w q) a' l' c' (rm s.L (e.take k) s.now)/\av w' k4 ae (djC none 0 0 none 0 0 0 0)/\Sl rF w' (λb=>q.heap.size <=b) cu e.length c0 (e.map Kpt.c)/\q.heap.size <=w'.heap.size/\bW w w',
  ⟨_,0,a,l,c,by omega,rfl,rfl,rfl,a2.below M,(b6.newB G).below M,a4.below M,dc,M.size,cn⟩,?_⟩
 intro em t i
 refine aP.of ?_ _
 rintro d4 ⟨k,a',l',c',d9,rfl,rfl,rfl,bb,ad,bc,al,ef,hB⟩
 refine ai.of (λbs=>?_) (λbs=>?_) <;> simp only[dTx,dFx]at bs
 ·have aj:k<e.length:=by omega
  have b4:k<(e.map Kpt.c).length:=by rw[List.length_map];exact aj
  obtain⟨b3,-⟩:=fj aC al b4
  rw[List.getElem_map]at b3
  refine⟨⟨⟨by omega,by omega⟩,al.isSome b4⟩,_,b3,?_⟩
  have E:=e[k].ok
  have cl:=U.sm _ (bk _ (List.getElem_mem aj))
  have dg:i64.wrap ((k:Int)+1)=((k+1:Nat):Int):=by rw[wrap_i64 (by omega) (by omega)];omega
  try dsimp only
  rw[dg]
  have b7:e.take (k+1)=e.take k++[e[k]]:=fD aj
  have eb:(ut ((e.take k).map λx=>ki x.c)).length <=100000*2300002:=by
   have h1:=Kr (B:=2300000) ((e.take k).map λx=>ki x.c) (λz dk=>by
    obtain⟨x,Y,rfl⟩:=List.mem_map.1 dk
    exact uJ (U.sm _ (bk _ (List.mem_of_mem_take Y))))
   rw[List.length_map,List.length_take]at h1
   refine Nat.le_trans h1 (Nat.mul_le_mul ?_ (Nat.le_refl _))
   omega
  have ee:=uJ cl
  generalize Y:e[k]=x at*
  refine aC.new (zs:=je.cells) (cs:=x.c.cells) (Cky.len (by rfl)) (Cky.len E) (Cky.one _) d4 λei X ea bj bq=>?_
  refine⟨λt ck=>ck=X/\t=Eb ((e.take k).map λx=>ki x.c),?_,λt=>aP.of ?_ _⟩
  ·unfold Eb
   refine ai.of (λa9=>⟨fits (by simp only[List.length_cons,List.length_nil];omega),λen c7=>⟨rfl,?_⟩⟩) (λa9=>⟨rfl,?_⟩) <;> simp only[dTx,dFx]at a9
   ·rw[if_neg,c7]
    intro h
    have:=congrArg List.length h
    rw[List.length_map,List.length_take,List.length_nil]at this
    omega
   ·have:k=0:=by omega
    subst this
    rfl
  ·rintro ck ⟨de,rfl⟩
   rw[de]
   refine⟨_,aC.load0 bj (Cky.len E),?_⟩
   refine az (nT E cl X) ?_
   rintro _ ew ⟨rfl,bp⟩
   have D:=ah bq bp bq.size
   have B24:=ah hB D hB.size
   have ac:=bb.below D
   have c2:=bc.below D
   have c3:=ad.below D
   have dd:rm s.L (e.take (k+1)) s.now=z6 (rm s.L (e.take k) s.now) (x.c.plc E) s.now:=by
    unfold rm
    rw[b7,List.foldl_append];rfl
   have cc:=U.uses (e.take k)
   have eg:(rm s.L (e.take k) s.now).length <=m:=cc.few
   have ed:(Eb ((e.take k).map λx=>ki x.c)).length <=100000*2300002+2:=by
    unfold Eb
    split
    ·exact Nat.zero_le _
    ·rw[List.length_append];simp only[List.length_cons,List.length_nil];omega
   refine⟨_,rfl,fits (by omega),λeq c8=>⟨rfl,_,_,_,_,cx ac,_,aC.load0 (bj.below bp) (Cky.len E),rfl,_,ac.load1 bn rfl (i:=3) rfl,?_⟩⟩
   refine az (qM c3 cc.sh (by omega) E s.last s.now) ?_
   rintro _ ex ⟨a5,cj,a8,rfl,c9,O⟩
   have ct:=ah B24 O B24.size
   obtain⟨d5,ds,c1,g⟩:=vp (ac.below O) a5 cj a8 s.last
   have er:=D.size
   have es:=O.size
   have et:=g.size
   refine⟨_,_,_,_,_,rfl,rfl,d5,ds,e.length-(k+1),by omega,k+1,a5,cj,a8,by omega,rfl,rfl,?_,c1,?_,?_,?_,by omega,Below.put ct g cf⟩
   ·rw[c8,b7,List.map_append]
    exact(yA _ _).symm
   ·rw[dd]
    exact((c9.mono λb _ I=>fY (by omega) b I).wr g (jm cf dl))
   ·exact(c2.below O).grown g (bw (Ne.symm dr))
   ·exact((al.below D).below O).wr g (by show ¬ q.heap.size <=Z;omega)
 ·have:k=e.length:=by omega
  subst this
  rw[List.take_length]at ad ⊢
  refine⟨_,_,_,_,_,_,_,_,bU bb,?_⟩
  refine qv (K:=λr X=>JaP A p V H ⟨rm s.L e s.now,s.last,s.now⟩ (vS (ut (e.map λx=>ki x.c))) w (.tuple #[r,vS (ut (e.map λx=>ki x.c))]) X) bc rfl hB ch λX ag c4=>?_
  exact⟨a',l',c',rfl,((ad.wr ag (jm ch dn)).mono λb _ I=>pe G.size b I),c4⟩
def uOf (h:Hst):Url:=⟨false,h,80,[47]⟩
theorem MP {rs:List Rul}{s:JS}{o:c.ok}{t:List UInt8}(h:lJ rs c.host=t):xE rs s c o=⟨G7 t (sO (nK s.L s.last ⟨c,t,o⟩).1 s.now),(nK s.L s.last ⟨c,t,o⟩).2,s.now⟩:=by
 subst h;rfl
def ckF (h:Hst)(s:List UInt8)(now:Int):Cky:=⟨s,[49],h,true,[47],false,false,0,9223372036854775807,now,now,0⟩
theorem Jc {rs:List Rul}{u:Url}{n v:List UInt8}{now:Int}(M:nB u=true)(G:ij (xl n v)=true)(I:nj n=0)(H:n≠[])(D:0 <=now)(h1:now <=1099511627776):
 jZ rs u (xl n v) now=(⟨n,v,u.host,true,AA u.path,false,false,0,9223372036854775807,now,now,0⟩,0):=by
 have e:qj rs u.host (xl n v).domain=(u.host,true,0):=by unfold qj;exact if_pos rfl
 refine TK (VV M G D h1) ?_ ?_
 ·rw[e]
  have E:sa (xl n v) true=false:=by
   unfold sa qg
   rw[show(xl n v).name=n from rfl,if_neg H,I];rfl
  unfold zG
  rw[if_neg (λq=>q rfl),if_neg (show ¬ ((xl n v).sec && !u.sec)=true by show ¬ (false && !u.sec)=true;simp),if_neg (show ¬ (decide ((xl n v).same=1) && !(xl n v).sec)=true by show ¬ (decide ((0:Int)=1) && !false)=true;decide),E]
  rfl
 ·rw[e];rfl
theorem I2 {rs:List Rul}{s:JS}(e:JI s m)(o:h.ok)(E:nB (uOf h)=true){n:List UInt8}(q:bB (n++[61,49])=(xl n [49],0))(G:nj n=0)(M:n≠[])(U:∀k∈s.L,k.c.sec=false){t:List UInt8}(V:lJ rs h=t):
 oO rs s (uOf h) o (n++[61,49])=(⟨G7 t (sO (nK s.L s.last ⟨ckF h n s.now,t,o⟩).1 s.now),(nK s.L s.last ⟨ckF h n s.now,t,o⟩).2,s.now⟩,0):=by
 suffices H:oO rs s (uOf h) o (n++[61,49])=(xE rs s (ckF h n s.now) o,0) from H.trans (congrArg (λx=>(x,(0:Int))) (MP (c:=ckF h n s.now) V))
 have D:jZ rs (uOf h) (xl n [49]) s.now=(ckF h n s.now,0):=Jc E (mn (pV q)) G M e.n0 e.n1
 have O: ¬ ((uOf h).sec=false/\s.L.any (λk=>rR k.c (jZ rs (uOf h) (xl n [49]) s.now).1)=true):=by
  rintro⟨_,c⟩
  obtain⟨k,I,c⟩:=List.any_eq_true.1 c
  unfold rR at c
  rw[U k I]at c
  cases c
 unfold oO
 simp only[q]
 rw[if_neg (by rw[E];decide),if_neg (by decide),if_neg (by rw[D];exact λc=>c rfl),if_neg O]
 simp only[D]
theorem Jw {now:Int}(h:∀k∈L,now<k.c.exp):sO L now=L:=List.filter_eq_self.2 λk e=>by simpa using h k e
theorem Uu {t:List UInt8}{s:JS}{c:Kpt}{e q D:List Kpt}(h1:nK s.L s.last c=(e,a))(E:sO e s.now=q)(G:G7 t q=D):
 (⟨G7 t (sO (nK s.L s.last c).1 s.now),(nK s.L s.last c).2,s.now⟩:JS)=⟨D,a,s.now⟩:=by rw[h1,E,G]
theorem at_mem (s:ShI L a){k:Kpt}(e:k∈L):atK L k.plc=some k:=by
 cases h:atK L k.plc with
 |none=>exact absurd rfl (r9 h k e)
 |some x=>
  obtain⟨D,q⟩:=qq h
  rw[s.one D e q]
theorem xd (s:ShI L a){k:Kpt}(e:k∈L):(iI L k.plc).length+1=L.length:=by
 have:=(AJ s (k:=k) (at_mem s e)).length_eq
 rw[List.length_append,List.length_map]at this
 exact this
theorem Nm (t:List UInt8):ofD false t=λk=>decide (k.site=t):=rfl
theorem Nn (t:List UInt8):ofD true t=λ_=>true:=rfl
structure DJ (w ws:World)(R A:Bl)(rs:List Rul)(ar:Option Addr)(lr cr:Nat)(k3 k4 k6:Nat)(u:Url)(s:JS)(wl:World):Prop where
 B:bW w wl
 sz:ws.heap.size <=wl.heap.size
 h4:av wl k4 aQ u.cells
 h6:av wl k6 ae (djC none 0 0 none 0 0 0 0)
 hR:Sl sV wl (FR R w) ar lr cr rs
 hL:∃(a:Option Addr) (l c:Nat),av wl k3 ae (djC ar lr cr a l c s.last s.now)/\Sl ff wl (xc A w ws) a l c s.L
 g3:w.heap.size <=k3/\k3<ws.heap.size
 g4:w.heap.size <=k4/\k4<ws.heap.size
 g6:w.heap.size <=k6/\k6<ws.heap.size
 n34:k3≠k4
 n36:k3≠k6
theorem DJ.below {w D:World}{R A:Bl}{rs:List Rul}{u:Url}{s:JS}{q wx:World}(e:DJ w D R A rs p n m i j k u s q)(h:bW q wx):DJ w D R A rs p n m i j k u s wx:=by
 obtain⟨a,l,c,E,G⟩:=e.hL
 exact⟨ah e.B h e.B.size,Nat.le_trans e.sz h.size,e.h4.below h,e.h6.below h,e.hR.below h,⟨a,l,c,E.below h,G.below h⟩,e.g3,e.g4,e.g6,e.n34,e.n36⟩
theorem DJ.fin {w ag:World}{R A:Bl}{rs:List Rul}{u:Url}{s:JS}{I:World}(e:DJ w ag R A rs p n m i j k u s I){s':JS×Int}{H:Int}(ac:s'=(s,H)):
 ∃(a:Option Addr) (l c:Nat) (a1:Option Addr) (D q:Nat) (E G:Int),(Instr.loadAt ae (.pointer (some ⟨i,0,none⟩))).run prog I=.ok (.agg #[.slice a l c,.slice a1 D q,vI E,vI G]) I/\
 ∃wx:World,(Instr.storeAt ae (.pointer (some ⟨k,0,none⟩)) (.agg #[.slice a l c,.slice a1 D q,vI E,vI G])).run prog I=.ok () wx/\
  ∃(M:Option Addr) (U O:Nat) (a1:Option Addr) (D q:Nat) (E G:Int),(aI ae (.pointer (some ⟨k,0,none⟩))).run prog wx=.ok (.agg #[.slice M U O,.slice a1 D q,vI E,vI G]) wx/\
   JaP A p n m s'.1 (vI s'.2) w (.tuple #[.agg #[.slice M U O,.slice a1 D q,vI E,vI G],vI H]) wx:=by
 subst ac
 obtain⟨a,l,c,V,X⟩:=e.hL
 refine⟨_,_,_,_,_,_,_,_,bU V,?_⟩
 refine qv (K:=λr wx=>JaP A p n m s (vI H) w (.tuple #[r,vI H]) wx) e.h6 rfl e.B e.g6.1 λwx ad Z=>?_
 exact⟨a,l,c,rfl,((X.wr ad (jm e.g6.1 e.g6.2)).mono λb _ Y=>pe (Nat.le_trans e.g3.1 (Nat.le_of_lt e.g3.2)) b Y),Z⟩
theorem DJ.put {w E:World}{R A:Bl}{rs:List Rul}{u:Url}{s:JS}{D:World}(e:DJ w E R A rs p n m i j k u s D){a:Option Addr}{l c:Nat}{last':Int}(M:Sl ff D (xc A w E) a l c L):
 ∃q,(Instr.storeAt ab (.pointer (some ⟨i,1,none⟩)) (.agg #[.slice a l c,vI last'])).run prog D=.ok () q/\DJ w E R A rs p n m i j k u ⟨L,last',s.now⟩ q/\D.grownBy q (some i):=by
 obtain⟨U,Y,V,G,X⟩:=e.hL
 obtain⟨q,O,H,g⟩:=vp G a l c last'
 have I: ¬ FR R w i:=λh=>by have:=h.2;have:=e.g3.1;omega
 exact⟨q,O,⟨Below.put e.B g e.g3.1,Nat.le_trans e.sz g.size,e.h4.grown g (bw (Ne.symm e.n34)),e.h6.grown g (bw (Ne.symm e.n36)),e.hR.wr g I,⟨a,l,c,H,M.wr g (jm e.g3.1 e.g3.2)⟩,e.g3,e.g4,e.g6,e.n34,e.n36⟩,g⟩
theorem qO {A R:Bl}{Z V:Nat}{a:Option Addr}{l c:Nat}{s:JS}(ev:Sl ff w A a l c s.L)(an:JI s m)(i1:m <=100000)
 {rs:List Rul} (er:Sl sV w R p Z V rs) (es:rs.length <=1000000) (et:∀r∈rs,r.2.length <=80000000) {u:Url} (o:u.ok) (kc:u.host.name.length <=1000000) (up:u.path.length <=1000000) (t:List UInt8) (g7:t.length <=10000000):
 Cf iR #[.agg #[.slice p Z V,.slice a l c,vI s.last,vI s.now],u.v,vS t] w (Ret (JaP A p Z V (oO (rs.filter bQ) s u o t).1 (vI (oO (rs.filter bQ) s u o t).2) w)):=by
 apply pK
 intro bk ho cl c4 bp hq cn c5 bq w6 cp c6
 obtain⟨fv,dg,dc⟩:=dP (P:=prog) (Below.refl w.heap.size w) cl c4
 obtain⟨ch,dk,e3⟩:=dP (P:=prog) dg cn c5
 obtain⟨b0,bs,e4⟩:=dP (P:=prog) dk cp c6
 have dl:DJ w w6 R A rs p Z V bk bp bq u s w6:=by
  have d2:av ho bk ae (djC p Z V a l c s.last s.now):=av.new cl c4
  have d3:av hq bp aQ u.cells:=av.new cn c5
  have d4:av w6 bq ae (djC none 0 0 none 0 0 0 0):=av.new cp c6
  have ha:=d2.lt
  have jw:=d3.lt
  have hb:=d4.lt
  have j4:=ch.size
  have kb:=b0.size
  exact⟨bs,Nat.le_refl _,d3.below b0,d4,er.old.below bs,⟨a,l,c,(d2.below ch).below b0,ev.newB bs⟩,⟨dc,by omega⟩,⟨e3,by omega⟩,⟨e4,hb⟩,by omega,by omega⟩
 clear ev er cl c4 cn c5 cp c6 fv dg dc ch dk e3 b0 bs e4
 refine⟨_,nf.load0 dl.h4 (Url.len o),?_⟩
 refine az (ia o (by omega) (by omega) w6) ?_
 rintro _ hm ⟨rfl,gq⟩
 have dn:=dl.below gq
 refine⟨_,rfl,ai.of (λad=>dn.fin (by unfold oO;rw[if_pos (by simpa using ad)])) (λad=>?_)⟩
 have ad: ¬ nB u=false:=by simpa using ad
 refine az (ic t g7 hm) ?_
 rintro _ hn ⟨rfl,gr⟩
 have e6:=dn.below gr
 refine⟨_,_,_,_,_,_,_,_,_,_,_,_,rfl,?_⟩
 refine xJ (bB t).1 hn λi8 ks iz ga gv=>?_
 have ar:=e6.below gv
 refine ai.of (λal=>ar.fin (by unfold oO;rw[if_neg ad,if_pos (by simpa using al)])) (λal=>⟨rfl,?_⟩)
 have al: ¬ (bB t).2≠0:=by simpa using al
 obtain⟨a3,dc,h2,d8,iq⟩:=ar.hL
 refine⟨_,_,_,d8.load1 da rfl (i:=0) rfl,_,nf.load0 ar.h4 (Url.len o),_,_,_,_,_,_,_,_,_,_,_,fX _ ga,rfl,_,d8.load1 bn rfl (i:=3) rfl,?_⟩
 refine az (pq ar.hR es et o (by omega) (by omega) (bB t).1 (tZ t) s.now) ?_
 rintro _ hp ⟨rfl,gs⟩
 have e7:=ar.below gs
 have e:(jZ (rs.filter bQ) u (bB t).1 s.now).1.ok:=BW o _ _
 have I: ¬ (jZ (rs.filter bQ) u (bB t).1 s.now).2≠0->oO (rs.filter bQ) s u o t=if u.sec=false/\s.L.any (λk=>rR k.c (jZ (rs.filter bQ) u (bB t).1 s.now).1)=true then(s,121)
  else(xE (rs.filter bQ) s (jZ (rs.filter bQ) u (bB t).1 s.now).1 e,0):=λX=>by
  unfold oO;rw[if_neg ad,if_neg al,if_neg X]
 have ex:(jZ (rs.filter bQ) u (bB t).1 s.now).2≠0->oO (rs.filter bQ) s u o t=(s,(jZ (rs.filter bQ) u (bB t).1 s.now).2):=λX=>by
  unfold oO;rw[if_neg ad,if_neg al,if_pos X]
 have ef:(jZ (rs.filter bQ) u (bB t).1 s.now).2=0->OX (jZ (rs.filter bQ) u (bB t).1 s.now).1/\dO (jZ (rs.filter bQ) u (bB t).1 s.now).1.host=true/\(jZ (rs.filter bQ) u (bB t).1 s.now).1.born=s.now/\(jZ (rs.filter bQ) u (bB t).1 s.now).1.used=s.now:=
  λX=>⟨Ky up (tZ t) X,BX X⟩
 unfold U9
 generalize oO (rs.filter bQ) s u o t=fr at*
 generalize jZ (rs.filter bQ) u (bB t).1 s.now=f1 at*
 obtain⟨q,X⟩:=f1
 simp only at e I ex ef
 refine⟨_,_,rfl,?_⟩
 refine aC.new (zs:=je.cells) (cs:=q.cells) (Cky.len (by rfl)) (Cky.len e) (Cky.one _) hp λi3 hk iv d6 ge=>?_
 have b7:=e7.below ge
 refine ai.of (λa9=>b7.fin (ex (by simpa using a9))) (λa9=>⟨rfl,?_⟩)
 have a9:X=0:=by simpa using a9
 obtain⟨f3,f2,h9,im⟩:=ef a9
 have I:=I (by omega)
 have ih:=iW e f2
 have il:=f3.pt
 obtain⟨a5,jd,h5,d9,eb⟩:=b7.hL
 have it:=an.few
 refine⟨_,_,_,_,cx d9,?_⟩
 refine az (iK eb (by omega) s.last) ?_
 rintro _ hr ⟨hw,jc,h3,rfl,c1,ei,Y⟩
 have dr:=b7.below Y
 have ew:=c1.sl (A':=λb=>hk.heap.size <=b) (λ_ _ O=>O.elim) λg g0=>ei g g0
 have el:=c1.len
 rw[List.length_map]at el
 subst el
 refine⟨_,_,_,rfl,λm i aj=>∃k:Nat,k <=s.L.length/\i=(k:Int)/\m=s.L.length-k/\(∀x∈s.L.take k,(!u.sec&&rR x.c q)=false)/\bW hr aj,
  ⟨_,0,by omega,rfl,rfl,(λx bj=>by rw[List.take_zero]at bj;cases bj),Below.refl _ _⟩,?_⟩
 intro jt c7
 refine aP.of ?_ _
 rintro aj ⟨k,iu,rfl,rfl,b3,M⟩
 have bz:=dr.below M
 refine ai.of (λek=>?_) (λek=>?_) <;> simp only[dTx,dFx]at ek
 ·have cu:k<s.L.length:=by omega
  have en:k<(s.L.map Kpt.c).length:=by rw[List.length_map];exact cu
  have ey:=ew.below M
  obtain⟨em,-⟩:=fj aC ey en
  rw[List.getElem_map]at em
  refine⟨⟨⟨by omega,by omega⟩,ey.isSome en⟩,_,em,?_⟩
  have c0:=List.getElem_mem cu
  have b5:=s.L[k].ok
  have hu:=an.sm _ c0
  have kz:=iW b5 (an.right _ c0)
  have ky:=hu.pt
  have g9:i64.wrap ((k:Int)+1)=((k+1:Nat):Int):=by rw[wrap_i64 (by omega) (by omega)];omega
  try dsimp only
  rw[g9]
  have g8:=fD cu
  generalize bj:s.L[k]=x at*
  refine aC.new (zs:=je.cells) (cs:=x.c.cells) (Cky.len (by rfl)) (Cky.len b5) (Cky.one _) aj λi4 e5 iw f5 b1=>?_
  have fs:=ah (ah Y M Y.size) b1 (ah Y M Y.size).size
  have ds:=bz.below b1
  refine qs (λb w'=>b=(!u.sec&&rR x.c q)/\bW e5 w') ?_ ?_
  ·refine⟨rfl,_,ds.h4.load1 bA rfl (i:=0) rfl,ai.of (λE=>?_) (λE=>⟨by rw[E];rfl,Below.refl _ _⟩)⟩
   refine⟨_,aC.load0 f5 (Cky.len b5),_,aC.load0 (d6.below fs) (Cky.len e),?_⟩
   refine az (ka b5 e (by omega) (by omega) (by omega) (by omega) e5) ?_
   rintro _ kp ⟨rfl,gt⟩
   exact⟨_,rfl,by rw[E];rfl,gt⟩
  ·rintro b kv ⟨rfl,ee⟩
   have fb:=ds.below ee
   have f0:=ah (ah M b1 M.size) ee (ah M b1 M.size).size
   refine ai.of (λE=>fb.fin ?_) (λE=>⟨s.L.length-(k+1),by omega,k+1,by omega,rfl,rfl,?_,f0⟩)
   ·rw[Bool.and_eq_true,Bool.not_eq_true']at E
    rw[I,if_pos ⟨E.1,List.any_eq_true.2 ⟨x,c0,E.2⟩⟩]
   ·intro y ag
    rw[g8,List.mem_append]at ag
    rcases ag with ag|ag
    ·exact b3 y ag
    ·rw[List.mem_singleton]at ag;subst ag;exact E
 ·have:k=s.L.length:=by omega
  subst this
  rw[List.take_length]at b3
  have I:fr=(xE (rs.filter bQ) s q e,0):=by
   rw[I,if_neg]
   rintro⟨E,G⟩
   obtain⟨x,bj,H⟩:=List.any_eq_true.1 G
   have:=b3 x bj
   rw[E,H]at this
   cases this
  have d5:=ah Y M Y.size
  have d7:=d6.below d5
  clear b3 ew c1 ei Y M dr d5 d9 eb
  obtain⟨hz,jk,ie,g2,i0⟩:=bz.hL
  refine⟨rfl,_,_,_,g2.load1 da rfl (i:=0) rfl,rfl,_,aO.load d7 (i:=2) (us:=q.host.cells) (Hst.len e) (λj g1=>fK e g1),?_⟩
  refine az (pw bz.hR es et e (by omega)) ?_
  rintro _ kq ⟨rfl,ed⟩
  have b8:=bz.below ed
  have f4:=d7.below ed
  obtain⟨a7,jf,h6,f8,f9⟩:=b8.hL
  refine⟨_,rfl,rfl,_,_,_,_,cx f8,_,aC.load0 f4 (Cky.len e),?_⟩
  have i2:=an.last
  have g4:=Dc s.L s.last ⟨q,lJ (rs.filter bQ) q.host,e⟩
  have eq:=an.sh.put ⟨q,lJ (rs.filter bQ) q.host,e⟩
  refine az (qL f9 an.sh (by omega) (by omega) ⟨q,lJ (rs.filter bQ) q.host,e⟩) ?_
  unfold xE at I
  generalize nK s.L s.last ⟨q,lJ (rs.filter bQ) q.host,e⟩=P at*
  generalize lJ (rs.filter bQ) q.host=st at*
  obtain⟨a8,lp⟩:=P
  simp only at g4 eq I
  rintro _ kr ⟨hx,jg,h7,rfl,g6,gu⟩
  have e9:=b8.below gu
  obtain⟨hs,hh,b9,ip⟩:=e9.put (g6.mono λb _ O=>fY b8.sz b O) (last':=lp)
  obtain⟨hy,ji,h8,ea,gb⟩:=b9.hL
  refine⟨_,_,_,_,_,rfl,rfl,hs,hh,rfl,_,_,_,_,cx ea,rfl,_,ea.load1 bn rfl (i:=3) rfl,?_⟩
  refine az (gj gb (by show a8.length <=1000000;omega) lp s.now) ?_
  rintro _ kt ⟨jx,hv,i9,h0,rfl,g5,gw⟩
  have D10:=b9.below gw
  obtain⟨w11,he,b6,io⟩:=D10.put (g5.mono λb _ O=>fY b9.sz b O) (last':=lp)
  have gy:ShI (sO a8 s.now) lp:=eq.filter _
  have ir:=He a8 s.now
  have b6:DJ w w6 R A rs p Z V bk bp bq u ⟨sO a8 s.now,lp,s.now⟩ w11:=b6
  refine⟨_,_,_,_,_,rfl,rfl,w11,he,?_⟩
  generalize sO a8 s.now=cf at*
  refine⟨λm aj=>∃D:List Kpt,m=D.length/\D.length <=1000000/\ShI D lp/\Mv st (IU st cf.length cf) D/\DJ w w6 R A rs p Z V bk bp bq u ⟨D,lp,s.now⟩ aj,
   ⟨_,cf,rfl,by omega,gy,Mv.of _ _,b6⟩,?_⟩
  intro jv
  refine aP.of ?_ _
  rintro kw ⟨ac,rfl,bb,b4,eg,d0⟩
  obtain⟨jy,j1,j2,c7,e1⟩:=d0.hL
  refine⟨rfl,_,_,_,_,cx c7,?_⟩
  refine az (nS e1 bb lp st) ?_
  rintro _ ku ⟨rfl,ck⟩
  have d1:=d0.below ck
  refine⟨_,rfl,ai.of (λG=>⟨rfl,?_⟩) (λG=>?_)⟩
  ·have G:50<np ac st:=by have G:((np ac st:Nat):Int)>50:=of_decide_eq_true G;omega
   obtain⟨U,cr,ct,b2⟩:=eg.next b4 G
   refine⟨_,_,_,_,cx (c7.below ck),?_⟩
   refine az (gk (e1.below ck) bb lp st false) ?_
   rintro _ ht ⟨rfl,gx⟩
   have fd:=d1.below gx
   refine⟨_,_,rfl,?_⟩
   rw[Nm,cr]
   refine aC.new (zs:=je.cells) (cs:=U.c.cells) (Cky.len (by rfl)) (Cky.len U.ok) (Cky.one _) ht λi5 km ix f6 go=>?_
   have cb:=fd.below go
   obtain⟨hc,hf,hi,c8,c9⟩:=cb.hL
   refine⟨rfl,_,_,_,_,cx c8,_,aC.load0 f6 (Cky.len U.ok),?_⟩
   refine az (jq c9 b4 bb U.ok) ?_
   rintro _ kd ⟨hd,hg,hj,rfl,c3,gl⟩
   have fl:=cb.below gl
   obtain⟨de,dd,fm,-⟩:=fl.put (c3.mono λb _ O=>fY cb.sz b O) (last':=lp)
   have bc:=tv ct
   exact⟨_,_,_,_,_,rfl,rfl,de,dd,_,bc,_,rfl,Nat.le_trans (Nat.le_of_lt bc) bb,b4.filter _,b2,fm⟩
  ·have G: ¬ 50<np ac st:=by have G: ¬ ((np ac st:Nat):Int)>50:=of_decide_eq_false G;omega
   have gc:=eg.stop G
   unfold G7 at I
   rw[<- gc]at I
   refine⟨λm aj=>∃D:List Kpt,m=D.length/\D.length <=1000000/\ShI D lp/\Mw (K0 ac.length ac) D/\DJ w w6 R A rs p Z V bk bp bq u ⟨D,lp,s.now⟩ aj,
    ⟨_,ac,rfl,bb,b4,Mw.of _,d1⟩,?_⟩
   intro ha
   refine aP.of ?_ _
   rintro kx ⟨a0,rfl,cj,c2,b2,cc⟩
   obtain⟨jz,q2,j3,e0,e2⟩:=cc.hL
   have g3:a0.length=q2:=by have:=e2.len;exact this.symm
   subst g3
   refine⟨rfl,rfl,_,_,_,e0.load1 aF rfl (i:=1) rfl,ai.of (λH=>⟨rfl,?_⟩) (λH=>?_)⟩
   ·have H:3000<a0.length:=by have H:((a0.length:Nat):Int)>3000:=of_decide_eq_true H;omega
    obtain⟨U,cr,ct,gz⟩:=b2.next c2 H
    refine⟨_,_,_,_,cx e0,?_⟩
    refine az (gk e2 cj lp [] true) ?_
    rintro _ hl ⟨rfl,gm⟩
    have fn:=cc.below gm
    refine⟨_,_,rfl,?_⟩
    rw[Nn,cr]
    refine aC.new (zs:=je.cells) (cs:=U.c.cells) (Cky.len (by rfl)) (Cky.len U.ok) (Cky.one _) hl λi7 kn iy f7 gp=>?_
    have ce:=fn.below gp
    obtain⟨hc,hf,hi,c8,c9⟩:=ce.hL
    refine⟨rfl,_,_,_,_,cx c8,_,aC.load0 f7 (Cky.len U.ok),?_⟩
    refine az (jq c9 c2 cj U.ok) ?_
    rintro _ kk ⟨hd,hg,hj,rfl,c3,gn⟩
    have fo:=ce.below gn
    obtain⟨de,dd,fp,-⟩:=fo.put (c3.mono λb _ O=>fY ce.sz b O) (last':=lp)
    have bc:=tv ct
    exact⟨_,_,_,_,_,rfl,rfl,de,dd,_,bc,_,rfl,Nat.le_trans (Nat.le_of_lt bc) cj,c2.filter _,gz,fp⟩
   ·have H: ¬ 3000<a0.length:=by have H: ¬ ((a0.length:Nat):Int)>3000:=of_decide_eq_false H;omega
    exact cc.fin (by rw[I,b2.stop H])
theorem zT {o:OpR}(k:o.ok)(h:j<21):o.cells[1+j]? =o.url.cells[j]? :=by
 unfold OpR.cells
 rw[Nat.add_comm,List.getElem?_cons_succ,List.getElem?_append_left (by rw[Url.len k.uo];exact h)]
theorem vO {o:OpR}(k:o.ok):o.cells[22]? =some (vS o.text):=by
 unfold OpR.cells
 rw[show 22=21+1 from rfl,List.getElem?_cons_succ,List.getElem?_append_right (by rw[Url.len k.uo];exact Nat.le_refl _),Url.len k.uo]
 rfl
theorem zS {o:OpR}(k:o.ok)(h:j<21):o.cells[23+j]? =o.req.cells[j]? :=by
 unfold OpR.cells
 rw[show 23+j=(22+j)+1 by omega,List.getElem?_cons_succ,List.getElem?_append_right (by rw[Url.len k.uo];omega),Url.len k.uo,show 22+j-21=j+1 by omega,List.getElem?_cons_succ,List.getElem?_append_left (by rw[Req.len k.ro];exact h)]
theorem QC {o:OpR}(k:o.ok):o.cells[44]? =some (vI o.n):=by
 unfold OpR.cells
 rw[show 44=43+1 from rfl,List.getElem?_cons_succ,List.getElem?_append_right (by rw[Url.len k.uo];decide),Url.len k.uo,show 43-21=21+1 from rfl,List.getElem?_cons_succ,List.getElem?_append_right (by rw[Req.len k.ro];exact Nat.le_refl _),Req.len k.ro]
 rfl
noncomputable def qp (rs:List Rul)(s:JS)(o:OpR)(ok:o.ok):Int×List UInt8:=
 if o.kind=1 then((oO rs s o.url ok.uo o.text).2,[])else if o.kind=2 then(0,(xH s o.req).2)else if o.kind=3 then((ju s o.n).2,[])else if o.kind=4 then(0,[])else(131,[])
def Mx (A:Bl)(ar:Option Addr)(lr cr:Nat)(s:JS)(x:Int×List UInt8)(w:World)(v:Value)(w':World):Prop:=
 ∃(a:Option Addr) (l c:Nat),v=.tuple #[.agg #[.slice ar lr cr,.slice a l c,vI s.last,vI s.now],vI x.1,vS x.2]/\Sl ff w' (mb A w) a l c s.L/\bW w w'
theorem sE:Whl prog bh 45:=⟨⟨_,_,sA⟩,by kernel_rfl⟩
theorem sg {A R:Bl}{G E:Nat}{a:Option Addr}{l c:Nat}{s:JS}(c0:Sl ff w A a l c s.L)(a0:JI s m)(bs:m <=100000)
 {rs:List Rul} (cp:Sl sV w R p G E rs) (ct:rs.length <=1000000) (cu:∀r∈rs,r.2.length <=80000000) (o:OpR) (e:o.ok) (cn:o.n <=9223372036854775807):
 Cf j9 #[.agg #[.slice p G E,.slice a l c,vI s.last,vI s.now],o.v] w (Ret (Mx A p G E (doV (rs.filter bQ) s o e) (qp (rs.filter bQ) s o e) w)):=by
 apply qT
 intro b2 c2 bj bz b3 c3 bk b0 an Z bp b1
 obtain⟨c4,cc,c5⟩:=dP (P:=prog) (Below.refl w.heap.size w) bj bz
 obtain⟨cf,ce,c6⟩:=dP (P:=prog) cc bk b0
 obtain⟨a9,H,b7⟩:=dP (P:=prog) ce bp b1
 have a2:av Z b2 ae (djC p G E a l c s.last s.now):=((av.new bj bz:av c2 b2 ae (djC p G E a l c s.last s.now)).below cf).below a9
 have a3:av Z b3 bh o.cells:=(av.new bk b0:av c3 b3 bh o.cells).below a9
 have a4:av Z an ae (djC none 0 0 none 0 0 0 0):=av.new bp b1
 have c1:=a4.lt
 have al:=c0.newB H
 have cr:=cp.old.below H
 have ac:∀{aj:World} {s':JS} {x:Int×List UInt8} {a':Option Addr} {l' c':Nat},s'=doV (rs.filter bQ) s o e->x=qp (rs.filter bQ) s o e->av aj an ae (djC none 0 0 none 0 0 0 0)->bW w aj->Sl ff aj (xc A w Z) a' l' c' s'.L->
  ∃wx:World,(Instr.storeAt ae (.pointer (some ⟨an,0,none⟩)) (.agg #[.slice p G E,.slice a' l' c',vI s'.last,vI s'.now])).run prog aj=.ok () wx/\
  ∃(a8:Option Addr) (b5 bb:Nat) (a1:Option Addr) (b6 bc:Nat) (b8 b9:Int),(aI ae (.pointer (some ⟨an,0,none⟩))).run prog wx=.ok (.agg #[.slice a8 b5 bb,.slice a1 b6 bc,vI b8,vI b9]) wx/\
   Mx A p G E (doV (rs.filter bQ) s o e) (qp (rs.filter bQ) s o e) w (.tuple #[.agg #[.slice a8 b5 bb,.slice a1 b6 bc,vI b8,vI b9],vI x.1,vS x.2]) wx:=by
  intro aj s' x a' l' c' q D ch hB cj
  subst q D
  refine qv (K:=λr wx=>Mx A p G E (doV (rs.filter bQ) s o e) (qp (rs.filter bQ) s o e) w (.tuple #[r,vI (qp (rs.filter bQ) s o e).1,.string (mkS (qp (rs.filter bQ) s o e).2)]) wx) ch rfl hB b7 λwx cl ck=>?_
  exact⟨a',l',c',rfl,((cj.wr cl (jm b7 c1)).mono λb _ X=>pe H.size b X),ck⟩
 have via:∀{Y:World} {s':JS} {x:Int×List UInt8} {y:Value},JaP (xc A w Z) p G E s' y Z (.tuple #[.agg #[.slice p G E,.slice a l c,vI s.last,vI s.now],y]) Y->True:=λ_=>trivial
 clear via
 refine⟨rfl,_,a3.load1 br rfl (i:=0) rfl,ai.of (λq=>?_) (λq=>?_)⟩
 ·have q:o.kind=1:=by simpa using q
  refine⟨_,_,_,_,_,_,_,_,bU a2,rfl,_,nf.load a3 (i:=1) (us:=o.url.cells) (Url.len e.uo) (λj ar=>zT e ar),rfl,_,a3.load1 ax rfl (i:=22) (vO e),?_⟩
  have c7:=e.tx
  refine az (qO al a0 bs cr ct cu e.uo e.un e.up o.text (by omega)) ?_
  rintro _ Y ⟨a',l',c',rfl,ag,U⟩
  refine⟨_,_,_,_,_,_,_,_,_,rfl,?_⟩
  refine fG.new (zs:=djC none 0 0 none 0 0 0 0) (cs:=djC p G E a' l' c' _ _) rfl rfl (aR rfl (aR rfl (aR rfl (aR rfl di)))) Y λb4 cb bq ad V=>?_
  have O:=ah U V U.size
  refine⟨_,_,_,_,_,_,_,_,bU ad,ac (x:=(_,[])) ?_ ?_ (a4.below O) (ah H O H.size) ((ag.mono λb _ X=>fY (Nat.le_refl _) b X).below V)⟩
  ·unfold doV;rw[if_pos q]
  ·unfold qp;rw[if_pos q]
 refine ai.of (λD=>?_) (λD=>?_)
 ·have q: ¬ o.kind=1:=by simpa using q
  have D:o.kind=2:=by simpa using D
  refine⟨_,_,_,_,_,_,_,_,bU a2,rfl,_,fA.load a3 (i:=23) (us:=o.req.cells) (Req.len e.ro) (λj ar=>zS e ar),?_⟩
  refine az (qN al a0 bs e.ro e.rn e.rp) ?_
  rintro _ Y ⟨a',l',c',rfl,ag,U⟩
  refine⟨_,_,_,_,_,_,_,_,_,rfl,?_⟩
  refine fG.new (zs:=djC none 0 0 none 0 0 0 0) (cs:=djC p G E a' l' c' _ _) rfl rfl (aR rfl (aR rfl (aR rfl (aR rfl di)))) Y λb4 cb bq ad V=>?_
  have O:=ah U V U.size
  refine⟨_,_,_,_,_,_,_,_,bU ad,ac (x:=(_,_)) ?_ ?_ (a4.below O) (ah H O H.size) ((ag.mono λb _ X=>fY (Nat.le_refl _) b X).below V)⟩
  ·unfold doV;rw[if_neg q,if_pos D]
  ·unfold qp;rw[if_neg q,if_pos D]
 refine ai.of (λI=>?_) (λI=>?_)
 ·have q: ¬ o.kind=1:=by simpa using q
  have D: ¬ o.kind=2:=by simpa using D
  have I:o.kind=3:=by simpa using I
  refine⟨_,_,_,_,_,_,_,_,bU a2,rfl,_,a3.load1 bn rfl (i:=44) (QC e),?_⟩
  refine az (pu al a0 (by omega) o.n cn) ?_
  rintro _ Y ⟨a',l',c',rfl,ag,U⟩
  refine⟨_,_,_,_,_,_,_,_,_,rfl,?_⟩
  refine fG.new (zs:=djC none 0 0 none 0 0 0 0) (cs:=djC p G E a' l' c' _ _) rfl rfl (aR rfl (aR rfl (aR rfl (aR rfl di)))) Y λb4 cb bq ad V=>?_
  have O:=ah U V U.size
  refine⟨_,_,_,_,_,_,_,_,bU ad,ac (x:=(_,[])) ?_ ?_ (a4.below O) (ah H O H.size) ((ag.mono λb _ X=>fY (Nat.le_refl _) b X).below V)⟩
  ·unfold doV;rw[if_neg q,if_neg D,if_pos I]
  ·unfold qp;rw[if_neg q,if_neg D,if_pos I]
 have q: ¬ o.kind=1:=by simpa using q
 have D: ¬ o.kind=2:=by simpa using D
 have I: ¬ o.kind=3:=by simpa using I
 refine ai.of (λM=>?_) (λM=>?_)
 ·have M:o.kind=4:=by simpa using M
  refine⟨rfl,_,_,_,a2.load1 da rfl (i:=0) rfl,rfl,_,a2.load1 bn rfl (i:=3) rfl,ac (s':=js0 s.now) (x:=(0,[])) (a':=none) (l':=0) (c':=0) ?_ ?_ a4 H (Sl.nil ff Z _ none 0 (Nat.zero_le _))⟩
  ·unfold doV;rw[if_neg q,if_neg D,if_neg I,if_pos M]
  ·unfold qp;rw[if_neg q,if_neg D,if_neg I,if_pos M]
 ·have M: ¬ o.kind=4:=by simpa using M
  refine⟨_,_,_,_,_,_,_,_,bU a2,ac (x:=(131,[])) ?_ ?_ a4 H al⟩
  ·unfold doV;rw[if_neg q,if_neg D,if_neg I,if_neg M]
  ·unfold qp;rw[if_neg q,if_neg D,if_neg I,if_neg M]
section
variable {w0:World} {pj:Nat} {F:List Nat} {rs:List Rul} {s:JS} {w:World}
theorem tY (J:yM w0 pj F rs s w):Cf cA #[.pointer (some ⟨pj,0,none⟩)] w (Ret λv w'=>v=vI s.now/\w'=w):=by
 obtain⟨p,G,H,D,q,a,n,c,I,E,e,rfl,J⟩:=J
 apply nv
 exact⟨rfl,rfl,_,J.cell.load1 bn rfl (i:=0) rfl,rfl,rfl⟩
theorem pO (J:yM w0 pj F rs s w):Cf cY #[.pointer (some ⟨pj,0,none⟩)] w (Ret λv w'=>v=.tuple #[]/\Cd w0 pj F rs (js0 s.now) w w'):=by
 obtain⟨p,a8,a9,Y,X,a,n,c,ac,Z,O,rfl,J⟩:=J
 apply ke
 refine az (vg w) ?_
 rintro _ bc ⟨E,I,M,rfl,H,an,ar,a0,q⟩
 have G:=J.below q
 have aj:=H.lts
 have al:=J.cell.lt
 obtain⟨ag,ad,V,g⟩:=G.cell.put lE (i:=2) (v:=.pointer (some ⟨E,0,none⟩)) (show 2<3 by decide) rfl rfl
 have t1:=J.tab.h1.lt
 have t2:=J.tab.h2.lt
 have t3:=J.tab.h3.lt
 have bb:=J.tab.hb.size
 refine⟨_,rfl,rfl,rfl,ag,ad,rfl,[pj,E,I,M],⟨E,I,M,Y,X,a,n,c,ac,Z,O,rfl,V,H.put g (by simp;omega),G.tab.chg (Chg.grown (S:=[pj]) g (List.mem_singleton.2 rfl)) (λk e=>J.far k (by rw[List.mem_singleton]at e;subst e;exact List.mem_cons_self ..)),λk e=>?_,by simp;omega⟩,
  ⟨g.os.trans q.os,g.tape.trans q.tape,g.output.trans q.output,Nat.le_trans q.size g.size,λk e U=>(g.block k (Nat.lt_of_lt_of_le e q.size) (λD=>U (by cases D;exact List.mem_cons_self ..))).trans (q.block k e)⟩,λk e=>?_⟩
 ·rcases List.mem_cons.1 e with rfl|e
  ·exact J.far _ (List.mem_cons_self ..)
  ·have:w.heap.size <=k:=by
    simp at e
    rcases e with rfl|rfl|rfl <;> omega
   exact⟨by omega,by omega,by omega,λD=>by have:=t3 _ D;omega⟩
 ·rcases List.mem_cons.1 e with rfl|e
  ·exact .inl (List.mem_cons_self ..)
  ·refine .inr ?_
   simp at e
   rcases e with rfl|rfl|rfl <;> omega
end
set_option maxRecDepth 100000
theorem qQ (a b:Option Addr)(c d:Nat)(e:Option Addr)(f g:Nat)(i j:Int)(k:Value){w K}(h:nA w (.cells #[.slice b c d,.slice e f g,vI i,vI j] ae) λl m=>nA m (.cells (Value.cells k) bh) λn o=>nA o (.cells #[.slice none 0 0,.slice none 0 0,vI 0,vI 0] ae) λp q=>∃r s t u v x y z,Ld ae (vA l 0) q (.agg #[.slice r s t,.slice u v x,vI y,vI z])/\∃A,Ld bh (vA n 0) q A/\Cf j9 #[.agg #[.slice r s t,.slice u v x,vI y,vI z],A] q λB C=>∃D E F G H I J L M N,B=rT #[.agg #[.slice D E F,.slice G H I,vI J,vI L],vI M,vS N]/\nA C (.cells #[.slice none 0 0,.slice none 0 0,vI 0,vI 0] ae) λO P=>∃Q,Sv ae (vA O 0) (.agg #[.slice D E F,.slice G H I,vI J,vI L]) P Q/\true/\∃R,Ld aJ (vA n 0) Q (vI R)/\ai (R==(1:Int)) (true/\true/\(∃S T U V X Y Z ac,Ld ae (vA O 0) (World.drew Q) (.agg #[.slice S T U,.slice V X Y,vI Z,vI ac])/\(∃ad,Ld aQ (vA n 1) (World.drew Q) ad/\∃ag,Ld ao (vA n 22) (World.drew Q) (vS ag)/\uI bE #[.pointer a,ad,vS ag] (World.drew Q) λaj al=>∃an,Sv ae (vA p 0) (.agg #[.slice S T U,.slice V X Y,vI Z,vI ac]) al an/\∃ar bb bc bd bj bk bo bp,Rv ae (vA p 0) an (.agg #[.slice ar bb bc,.slice bd bj bk,vI bo,vI bp])/\K (.tuple #[.agg #[.slice ar bb bc,.slice bd bj bk,vI bo,vI bp],.bool (aj==M)]) an)/\∃ad,Ld ao (vA n 22) (World.drew Q) (vS ad)/\∃ag,Ld aQ (vA n 1) (World.drew Q) ag/\uI bE #[.pointer a,ag,vS ad] (World.drew Q) λaj al=>∃an,Sv ae (vA p 0) (.agg #[.slice S T U,.slice V X Y,vI Z,vI ac]) al an/\∃ar bb bc bd bj bk bo bp,Rv ae (vA p 0) an (.agg #[.slice ar bb bc,.slice bd bj bk,vI bo,vI bp])/\K (.tuple #[.agg #[.slice ar bb bc,.slice bd bj bk,vI bo,vI bp],.bool (aj==M)]) an)/\(∃S,Ld aQ (vA n 1) (World.drew Q) S/\(∃T U V X Y Z ac ad,Ld ae (vA O 0) (World.drew Q) (.agg #[.slice T U V,.slice X Y Z,vI ac,vI ad])/\∃ag,Ld ao (vA n 22) (World.drew Q) (vS ag)/\uI bE #[.pointer a,S,vS ag] (World.drew Q) λaj al=>∃an,Sv ae (vA p 0) (.agg #[.slice T U V,.slice X Y Z,vI ac,vI ad]) al an/\∃ar bb bc bd bj bk bo bp,Rv ae (vA p 0) an (.agg #[.slice ar bb bc,.slice bd bj bk,vI bo,vI bp])/\K (.tuple #[.agg #[.slice ar bb bc,.slice bd bj bk,vI bo,vI bp],.bool (aj==M)]) an)/\∃T,Ld ao (vA n 22) (World.drew Q) (vS T)/\(∃U V X Y Z ac ad ag,Ld ae (vA O 0) (World.drew Q) (.agg #[.slice U V X,.slice Y Z ac,vI ad,vI ag])/\uI bE #[.pointer a,S,vS T] (World.drew Q) λaj al=>∃an,Sv ae (vA p 0) (.agg #[.slice U V X,.slice Y Z ac,vI ad,vI ag]) al an/\∃ar bb bc bd bj bk bo bp,Rv ae (vA p 0) an (.agg #[.slice ar bb bc,.slice bd bj bk,vI bo,vI bp])/\K (.tuple #[.agg #[.slice ar bb bc,.slice bd bj bk,vI bo,vI bp],.bool (aj==M)]) an)/\uI bE #[.pointer a,S,vS T] (World.drew Q) λU V=>∃X Y Z ac ad ag aj al,Ld ae (vA O 0) V (.agg #[.slice X Y Z,.slice ac ad ag,vI aj,vI al])/\∃an,Sv ae (vA p 0) (.agg #[.slice X Y Z,.slice ac ad ag,vI aj,vI al]) V an/\∃ar bb bc bd bj bk bo bp,Rv ae (vA p 0) an (.agg #[.slice ar bb bc,.slice bd bj bk,vI bo,vI bp])/\K (.tuple #[.agg #[.slice ar bb bc,.slice bd bj bk,vI bo,vI bp],.bool (U==M)]) an)/\∃S,Ld ao (vA n 22) (World.drew Q) (vS S)/\(∃T U V X Y Z ac ad,Ld ae (vA O 0) (World.drew Q) (.agg #[.slice T U V,.slice X Y Z,vI ac,vI ad])/\∃ag,Ld aQ (vA n 1) (World.drew Q) ag/\uI bE #[.pointer a,ag,vS S] (World.drew Q) λaj al=>∃an,Sv ae (vA p 0) (.agg #[.slice T U V,.slice X Y Z,vI ac,vI ad]) al an/\∃ar bb bc bd bj bk bo bp,Rv ae (vA p 0) an (.agg #[.slice ar bb bc,.slice bd bj bk,vI bo,vI bp])/\K (.tuple #[.agg #[.slice ar bb bc,.slice bd bj bk,vI bo,vI bp],.bool (aj==M)]) an)/\∃T,Ld aQ (vA n 1) (World.drew Q) T/\(∃U V X Y Z ac ad ag,Ld ae (vA O 0) (World.drew Q) (.agg #[.slice U V X,.slice Y Z ac,vI ad,vI ag])/\uI bE #[.pointer a,T,vS S] (World.drew Q) λaj al=>∃an,Sv ae (vA p 0) (.agg #[.slice U V X,.slice Y Z ac,vI ad,vI ag]) al an/\∃ar bb bc bd bj bk bo bp,Rv ae (vA p 0) an (.agg #[.slice ar bb bc,.slice bd bj bk,vI bo,vI bp])/\K (.tuple #[.agg #[.slice ar bb bc,.slice bd bj bk,vI bo,vI bp],.bool (aj==M)]) an)/\uI bE #[.pointer a,T,vS S] (World.drew Q) λU V=>∃X Y Z ac ad ag aj al,Ld ae (vA O 0) V (.agg #[.slice X Y Z,.slice ac ad ag,vI aj,vI al])/\∃an,Sv ae (vA p 0) (.agg #[.slice X Y Z,.slice ac ad ag,vI aj,vI al]) V an/\∃ar bb bc bd bj bk bo bp,Rv ae (vA p 0) an (.agg #[.slice ar bb bc,.slice bd bj bk,vI bo,vI bp])/\K (.tuple #[.agg #[.slice ar bb bc,.slice bd bj bk,vI bo,vI bp],.bool (U==M)]) an) (ai (R==(2:Int)) (true/\(∃S T U V X Y Z ac,Ld ae (vA O 0) (World.drew Q) (.agg #[.slice S T U,.slice V X Y,vI Z,vI ac])/\∃ad,Ld aU (vA n 23) (World.drew Q) ad/\uS eh #[.pointer a,ad] (World.drew Q) λag aj=>∃al,Sv ae (vA p 0) (.agg #[.slice S T U,.slice V X Y,vI Z,vI ac]) aj al/\∃an ar bb bc bd bj bk bo,Rv ae (vA p 0) al (.agg #[.slice an ar bb,.slice bc bd bj,vI bk,vI bo])/\K (.tuple #[.agg #[.slice an ar bb,.slice bc bd bj,vI bk,vI bo],.bool (ag==N)]) al)/\∃S,Ld aU (vA n 23) (World.drew Q) S/\(∃T U V X Y Z ac ad,Ld ae (vA O 0) (World.drew Q) (.agg #[.slice T U V,.slice X Y Z,vI ac,vI ad])/\uS eh #[.pointer a,S] (World.drew Q) λag aj=>∃al,Sv ae (vA p 0) (.agg #[.slice T U V,.slice X Y Z,vI ac,vI ad]) aj al/\∃an ar bb bc bd bj bk bo,Rv ae (vA p 0) al (.agg #[.slice an ar bb,.slice bc bd bj,vI bk,vI bo])/\K (.tuple #[.agg #[.slice an ar bb,.slice bc bd bj,vI bk,vI bo],.bool (ag==N)]) al)/\uS eh #[.pointer a,S] (World.drew Q) λT U=>∃V X Y Z ac ad ag aj,Ld ae (vA O 0) U (.agg #[.slice V X Y,.slice Z ac ad,vI ag,vI aj])/\∃al,Sv ae (vA p 0) (.agg #[.slice V X Y,.slice Z ac ad,vI ag,vI aj]) U al/\∃an ar bb bc bd bj bk bo,Rv ae (vA p 0) al (.agg #[.slice an ar bb,.slice bc bd bj,vI bk,vI bo])/\K (.tuple #[.agg #[.slice an ar bb,.slice bc bd bj,vI bk,vI bo],.bool (T==N)]) al) (ai (R==(3:Int)) (true/\(∃S T U V X Y Z ac,Ld ae (vA O 0) (World.drew Q) (.agg #[.slice S T U,.slice V X Y,vI Z,vI ac])/\∃ad,Ld aX (vA n 44) (World.drew Q) (vI ad)/\uI dH #[.pointer a,vI ad] (World.drew Q) λag aj=>∃al,Sv ae (vA p 0) (.agg #[.slice S T U,.slice V X Y,vI Z,vI ac]) aj al/\∃an ar bb bc bd bj bk bo,Rv ae (vA p 0) al (.agg #[.slice an ar bb,.slice bc bd bj,vI bk,vI bo])/\K (.tuple #[.agg #[.slice an ar bb,.slice bc bd bj,vI bk,vI bo],.bool (ag==M)]) al)/\∃S,Ld aX (vA n 44) (World.drew Q) (vI S)/\(∃T U V X Y Z ac ad,Ld ae (vA O 0) (World.drew Q) (.agg #[.slice T U V,.slice X Y Z,vI ac,vI ad])/\uI dH #[.pointer a,vI S] (World.drew Q) λag aj=>∃al,Sv ae (vA p 0) (.agg #[.slice T U V,.slice X Y Z,vI ac,vI ad]) aj al/\∃an ar bb bc bd bj bk bo,Rv ae (vA p 0) al (.agg #[.slice an ar bb,.slice bc bd bj,vI bk,vI bo])/\K (.tuple #[.agg #[.slice an ar bb,.slice bc bd bj,vI bk,vI bo],.bool (ag==M)]) al)/\uI dH #[.pointer a,vI S] (World.drew Q) λT U=>∃V X Y Z ac ad ag aj,Ld ae (vA O 0) U (.agg #[.slice V X Y,.slice Z ac ad,vI ag,vI aj])/\∃al,Sv ae (vA p 0) (.agg #[.slice V X Y,.slice Z ac ad,vI ag,vI aj]) U al/\∃an ar bb bc bd bj bk bo,Rv ae (vA p 0) al (.agg #[.slice an ar bb,.slice bc bd bj,vI bk,vI bo])/\K (.tuple #[.agg #[.slice an ar bb,.slice bc bd bj,vI bk,vI bo],.bool (T==M)]) al) (ai (R==(4:Int)) (uU cY #[.pointer a] Q λS=>∃T U V X Y Z ac ad,Ld ae (vA O 0) S (.agg #[.slice T U V,.slice X Y Z,vI ac,vI ad])/\∃ag,Sv ae (vA p 0) (.agg #[.slice T U V,.slice X Y Z,vI ac,vI ad]) S ag/\∃aj al an ar bb bc bd bj,Rv ae (vA p 0) ag (.agg #[.slice aj al an,.slice ar bb bc,vI bd,vI bj])/\K (.tuple #[.agg #[.slice aj al an,.slice ar bb bc,vI bd,vI bj],.bool true]) ag) (∃S T U V X Y Z ac,Ld ae (vA O 0) Q (.agg #[.slice S T U,.slice V X Y,vI Z,vI ac])/\∃ad,Sv ae (vA p 0) (.agg #[.slice S T U,.slice V X Y,vI Z,vI ac]) Q ad/\∃ag aj al an ar bb bc bd,Rv ae (vA p 0) ad (.agg #[.slice ag aj al,.slice an ar bb,vI bc,vI bd])/\K (.tuple #[.agg #[.slice ag aj al,.slice an ar bb,vI bc,vI bd],.bool true]) ad))))):Cf iM #[.pointer a,.agg #[.slice b c d,.slice e f g,vI i,vI j],k] w (Ret K):=ru func16 [] h
theorem qc (a:Option Addr)(b c:Nat)(d:Option Addr)(e f:Nat){w K}(h:∃g:Nat->FP [.one (.int .i64)],(∃i,g i (0:Int) w)/\∀i j,aP 10 (∀k,g i j k->ai (decide (j<((b:Nat):Int))) ((bx j ((b:Nat):Int)/\Option.isSome a=true)/\∃l m,Ld aG (aw a j 2) k (.agg #[vI l,vS m])/\nA k (.cells #[vI 0,vS []] aG) λn o=>∃p,Sv aG (vA n 0) (.agg #[vI l,vS m]) o p/\true/\∃q,Ld ao (vA n 1) p (vS q)/\ai (decide (((List.length q:Nat):Int)>(200:Int))) (K (.bool true) p) (∃r:Nat,r<i/\g r (i64.wrap (j+(1:Int))) p)) (∃l:Nat->FP [.one (.int .i64)],(∃m,l m (0:Int) k)/\∀m n,aP 40 (∀o,l m n o->ai (decide (n<((e:Nat):Int))) ((bx n ((e:Nat):Int)/\Option.isSome d=true)/\∃p,Ld bh (aw d n 45) o p/\nA o (.cells sZ bh) λq r=>∃s,Sv bh (vA q 0) p r s/\true/\∃t,Ld ao (vA q 22) s (vS t)/\ai (decide (((List.length t:Nat):Int)>(1500:Int))) (K (.bool true) s) (true/\true/\true/\∃u,Ld ao (vA q 3) s (vS u)/\ai (decide (((List.length u:Nat):Int)>(300:Int))) (K (.bool true) s) (true/\true/\∃v,Ld ao (vA q 21) s (vS v)/\ai (decide (((List.length v:Nat):Int)>(500:Int))) (K (.bool true) s) (true/\true/\true/\∃x,Ld ao (vA q 25) s (vS x)/\ai (decide (((List.length x:Nat):Int)>(300:Int))) (K (.bool true) s) (true/\true/\∃y,Ld ao (vA q 42) s (vS y)/\ai (decide (((List.length y:Nat):Int)>(500:Int))) (K (.bool true) s) (∃z:Nat,z<m/\l z (i64.wrap (n+(1:Int))) s)))))) (ai (decide (((b:Nat):Int)>(12:Int))) (K (.bool true) o) (K (.bool (decide (((e:Nat):Int)>(90:Int)))) o)))))):Cf cK #[.slice a b c,.slice d e f] w (Ret K):=ru func20 [(6,[(11,.one (.int .i64))]),(29,[(22,.one (.int .i64))])] h
theorem Hy (a:Option Addr)(b c:Nat)(d:Option Addr)(e f:Nat){w K}(h:uB mZ #[] w λg i=>ai (!g) (K (.bool false) i) (uB cK #[.slice a b c,.slice d e f] i λj k=>ai j (K (.bool true) k) (uP pN #[.slice a b c] k λl m=>uP ux #[.pointer l] m λn o=>∃p:Nat->FP [.one (.int .i64)],(∃q,p q (0:Int) o)/\∀q r,aP 76 (∀s,p q r s->ai (decide (r<((e:Nat):Int))) ((bx r ((e:Nat):Int)/\Option.isSome d=true)/\∃t,Ld bh (aw d r 45) s t/\nA s (.cells sZ bh) λu v=>∃x,Sv bh (vA u 0) t v x/\∃y,Ld bh (vA u 0) x y/\Cf iM #[.pointer n,.agg #[.slice none 0 0,.slice none 0 0,vI 0,vI 0],y] x λz A=>∃B C D E F G H I J,z=rT #[.agg #[.slice B C D,.slice E F G,vI H,vI I],.bool J]/\uL eC #[.pointer n] A λL M N O=>∃P:Nat->FP [.one (.int .i64)],(∃Q,P Q (0:Int) O)/\∀Q R,aP 61 (∀S,P Q R S->ai (decide (R<((M:Nat):Int))) ((bx R ((M:Nat):Int)/\Option.isSome L=true)/\∃T,Ld af (aw L R 29) S T/\nA S (.cells bf af) λU V=>∃X,Sv af (vA U 0) T V X/\∃Y:FP [],(true/\∃Z,(∀ac,bW X ac->Ld aX (vA U 25) ac (vI Z))/\(Option.isSome n=true)/\(Option.isSome n=true)/\∃ac,(∀ad,bW X ad->Cf cA #[.pointer (Option.map (λag=>ag.add 0) n)] ad λag aj=>ag=.returned (vI ac)/\Below X.heap.size ad aj)/\ai (decide (Z <=ac)) (∀ad,bW X ad->K (.bool false) ad) (true/\∃ad,(∀ag,bW X ag->Ld aX (vA U 26) ag (vI ad))/\(Option.isSome n=true)/\(Option.isSome n=true)/\∃ag,(∀aj,bW X aj->Cf cA #[.pointer (Option.map (λal=>al.add 0) n)] aj λal an=>al=.returned (vI ag)/\Below X.heap.size aj an)/\ai (decide (ad>ag)) (∀aj,bW X aj->K (.bool false) aj) (true/\∃aj,(∀al,bW X al->Ld aX (vA U 27) al (vI aj))/\(Option.isSome n=true)/\(Option.isSome n=true)/\∃al,(∀an,bW X an->Cf cA #[.pointer (Option.map (λar=>ar.add 0) n)] an λar bb=>ar=.returned (vI al)/\Below X.heap.size an bb)/\ai (decide (aj>al)) (∀an,bW X an->K (.bool false) an) (ai (decide (R>(0:Int))) ((bx (i64.wrap (R-(1:Int))) ((M:Nat):Int)/\Option.isSome L=true)/\(isSome (aw L (i64.wrap (R-(1:Int))) 29))/\∃an,(∀ar,bW X ar->Ld aJ (Option.map (λbb=>bb.add 28) (aw L (i64.wrap (R-(1:Int))) 29)) ar (vI an))/\true/\∃ar,(∀bb,bW X bb->Ld aJ (vA U 28) bb (vI ar))/\∀bb,bW X bb->ai (decide (an >=ar)) (K (.bool false) bb) (Y bb)) (∀an,bW X an->Y an)))))/\aP 41 (∀Z,Y Z->bd R ((N:Nat):Int)/\∃ac:Nat->FP [.one (.int .i64)],(∃ad,ac ad (0:Int) Z)/\∀ad ag,aP 9 (∀aj,ac ad ag aj->ai (decide (ag<(((Int.toNat R):Nat):Int))) ((bx ag (((Int.toNat R):Nat):Int)/\Option.isSome L=true)/\∃al,Ld af (aw L ag 29) aj al/\nA aj (.cells bf af) λan ar=>∃bb,Sv af (vA an 0) al ar bb/\∃bc,Ld af (vA U 0) bb bc/\∃bj,Ld af (vA an 0) bb bj/\uB gV #[bc,bj] bb λbk bo=>ai bk (K (.bool false) bo) (∃bp:Nat,bp<ad/\ac bp (i64.wrap (ag+(1:Int))) bo)) (∃al:Nat,al<Q/\P al (i64.wrap (R+(1:Int))) aj)))) (∃T:Nat,T<q/\p T (i64.wrap (r+(1:Int))) S))) ((Option.isSome n=true)/\(Option.isSome n=true)/\uI cA #[.pointer (Option.map (λt=>t.add 0) n)] s λt u=>uU cY #[.pointer n] u λv=>∃x:FP [],(uL eC #[.pointer n] v λy z A B=>ai (((z:Nat):Int) !=(0:Int)) (K (.bool false) B) ((Option.isSome n=true)/\(Option.isSome n=true)/\uI cA #[.pointer (Option.map (λC=>C.add 0) n)] B λC D=>ai (C !=t) (K (.bool false) D) (uV pT #[vS [104,116,116,112,58,47,47,104,47]] D λE F=>uI bE #[.pointer n,E,vS [97,61,49]] F λG H=>ai (G !=(0:Int)) (K (.bool false) H) (x H))))/\aP 19 (∀y,x y->uL eC #[.pointer n] y λz A B C=>ai (((A:Nat):Int)==(1:Int)) ((bx (0:Int) ((A:Nat):Int)/\Option.isSome z=true)/\(isSome (aw z (0:Int) 29))/\∃D,Ld aJ (Option.map (λE=>E.add 28) (aw z (0:Int) 29)) C (vI D)/\K (.bool (D==(1:Int))) C) (K (.bool false) C))))))):Cf CY #[.slice a b c,.slice d e f] w (Ret K):=ru func8 [(24,[(25,.one (.int .i64))]),(42,[(37,.one (.int .i64))]),(53,[]),(64,[(86,.one (.int .i64))]),(89,[])] h
set_option maxRecDepth 20000
section
variable {wb:World} {pj:Nat} {rs:List Rul} {s:JS} {w:World}
theorem Us (J:Cz wb pj rs s w):Cf cY #[.pointer (some ⟨pj,0,none⟩)] w (Ret λv w'=>v=.tuple #[]/\Cz wb pj rs (js0 s.now) w'):=by
 obtain⟨w0,F,D,J,q,e⟩:=J
 refine(pO J).mono ?_
 rintro E w' ⟨v,rfl,rfl,h⟩
 exact⟨_,rfl,rfl,Cz.step D q e h⟩
theorem Me (J:Cz wb pj rs s w):Cf cA #[.pointer (some ⟨pj,0,none⟩)] w (Ret λv w'=>v=vI s.now/\w'=w):=by
 obtain⟨w0,F,D,J,q,e⟩:=J
 exact tY J
end
theorem Xl:up.host.name.length <=1000000:=of_decide_eq_true (by kernel_rfl)
theorem WJ:up.path.length <=1000000:=of_decide_eq_true (by kernel_rfl)
structure OpW (o:OpR):Prop where
 uo:o.url.ok
 ro:o.req.host.ok
 hi:o.n <=9223372036854775807
theorem OpW.len {o:OpR}(k:OpW o):o.cells.length=45:=by
 unfold OpR.cells
 rw[List.length_cons,List.length_append,List.length_cons,List.length_append,Url.len k.uo,Req.len k.ro]
 rfl
theorem wQ {o:OpR}(k:OpW o)(h:j<21):o.cells[1+j]? =o.url.cells[j]? :=by
 unfold OpR.cells
 rw[Nat.add_comm,List.getElem?_cons_succ,List.getElem?_append_left (by rw[Url.len k.uo];exact h)]
theorem BK {o:OpR}(k:OpW o):o.cells[22]? =some (vS o.text):=by
 unfold OpR.cells
 rw[show 22=21+1 from rfl,List.getElem?_cons_succ,List.getElem?_append_right (by rw[Url.len k.uo];exact Nat.le_refl _),Url.len k.uo]
 rfl
theorem zk {o:OpR}(k:OpW o)(h:j<21):o.cells[23+j]? =o.req.cells[j]? :=by
 unfold OpR.cells
 rw[show 23+j=(22+j)+1 by omega,List.getElem?_cons_succ,List.getElem?_append_right (by rw[Url.len k.uo];omega),Url.len k.uo,show 22+j-21=j+1 by omega,List.getElem?_cons_succ,List.getElem?_append_left (by rw[Req.len k.ro];exact h)]
theorem zy {u:Url}(o:u.ok):u.cells[20]? =some (vS u.path):=by
 unfold Url.cells
 rw[show 20=19+1 from rfl,List.getElem?_cons_succ,List.getElem?_append_right (by rw[Hst.len o];decide),Hst.len o];rfl
theorem zm {r:Req}(o:r.ok):r.cells[2]? =some (vS r.host.name):=by
 unfold Req.cells
 rw[show 2=1+1 from rfl,List.getElem?_cons_succ,List.getElem?_append_left (by rw[Hst.len o];decide)];rfl
theorem zn {r:Req}(o:r.ok):r.cells[19]? =some (vS r.path):=by
 unfold Req.cells
 rw[show 19=18+1 from rfl,List.getElem?_cons_succ,List.getElem?_append_right (by rw[Hst.len o];decide),Hst.len o];rfl
def tOp:Ty OpR where
 k:=45
 pos:=by decide
 rep:=λ_ _ vs o=>vs=o.cells/\OpW o
 len:=λh=>by rw[h.1];exact OpW.len h.2
 one:=fun{_ _ _ x} h v hv=>by rw[h.1]at hv;exact OpR.one x v hv
 keep:=λh _=>h
 mono:=λh _=>h
theorem sQ (D:Whl P t 45){a:Option Addr}{l c:Nat}{xs:List OpR}(h:Sl tOp w A a l c xs)(q:i<xs.length):
 (Instr.loadAt t (.pointer (aw a (i:Int) 45))).run P w=.ok xs[i].v w/\OpW xs[i]:=by
 obtain⟨vs,h1,e,o⟩:=D.elem (T:=tOp) rfl h q
 subst e
 exact⟨h1,o⟩
def op0:OpR:=⟨0,Ex,[],⟨false,nG,[],0⟩,0⟩
theorem Gp:OpW op0:=⟨rfl,rfl,by decide⟩
structure OpS (o:OpR):Prop where
 tx:o.text.length <=1500
 un:o.url.host.name.length <=300
 up:o.url.path.length <=500
 rn:o.req.host.name.length <=300
 rp:o.req.path.length <=500
theorem OpS.ok {o:OpR}(h:OpS o)(k:OpW o):o.ok:=⟨k.uo,k.ro,by have:=h.up;omega,by have:=h.un;omega,by have:=h.rp;omega,by have:=h.rn;omega,by have:=h.tx;omega⟩
structure rA (rs:List Rul)(os:List OpR):Prop where
 r:∀r∈rs,r.2.length <=200
 o:∀o∈os,OpS o
 rl:rs.length <=12
 ol:os.length <=90
theorem ri {bk an:Nat}{rs:List Rul}{bp ar:Nat}(bj:Sl sV w A p bk an rs)(bc:Sl tOp w B q bp ar K)(b7:rs.length <=9223372036854775807)(b6:K.length <=9223372036854775807):
 Cf cK #[.slice p bk an,.slice q bp ar] w (Ret λv w'=>∃b:Bool,v=.bool b/\(b=false->rA rs K)/\bW w w'):=by
 apply qc
 have b1:=bj.len
 have b2:=bc.len
 subst b1 b2
 refine⟨λm i X=>∃k:Nat,k <=rs.length/\i=(k:Int)/\m=rs.length-k/\(∀r∈rs.take k,r.2.length <=200)/\bW w X,⟨_,0,by omega,rfl,rfl,(λx V=>by rw[List.take_zero]at V;cases V),Below.refl _ _⟩,?_⟩
 intro ce b8
 refine aP.of ?_ _
 rintro X ⟨k,b0,rfl,rfl,ad,Z⟩
 have G:∀{wx:World},bW w wx->∃b:Bool,Value.bool true=.bool b/\(b=false->rA rs K)/\bW w wx:=λh=>⟨true,rfl,(λD=>by cases D),h⟩
 refine ai.of (λO=>?_) (λO=>?_) <;> simp only[dTx,dFx]at O
 ·have H:k<rs.length:=by omega
  have U:=bj.below Z
  have ac:=xh U H
  have al:i64.wrap ((k:Int)+1)=((k+1:Nat):Int):=by rw[wrap_i64 (by omega) (by omega)];omega
  have aj:=fD H
  refine⟨⟨⟨by omega,by omega⟩,U.isSome H⟩,rs[k].1,rs[k].2,ac,?_⟩
  rw[al]
  generalize rs[k]=x at*
  refine eB.new (zs:=[vI 0,vS []]) (cs:=qn x) rfl rfl (aR rfl (aR rfl di)) X λcb wx b4 bq bs=>?_
  have E:=ah Z bs Z.size
  refine⟨rfl,_,bq.load1 ax rfl (i:=1) rfl,ai.of (λD=>G E) (λD=>⟨rs.length-(k+1),by omega,k+1,by omega,rfl,rfl,?_,E⟩)⟩
  have D:=of_decide_eq_false D
  intro y e
  rw[aj,List.mem_append]at e
  rcases e with e|e
  ·exact ad y e
  ·rw[List.mem_singleton]at e;subst e;omega
 ·have:k=rs.length:=by omega
  subst this
  rw[List.take_length]at ad
  refine⟨λm i X=>∃k:Nat,k <=K.length/\i=(k:Int)/\m=K.length-k/\(∀o∈K.take k,OpS o)/\bW w X,⟨_,0,by omega,rfl,rfl,(λx V=>by rw[List.take_zero]at V;cases V),Z⟩,?_⟩
  intro cf b9
  refine aP.of ?_ _
  rintro b3 ⟨k,b0,rfl,rfl,ag,M⟩
  refine ai.of (λO=>?_) (λO=>?_) <;> simp only[dTx,dFx]at O
  ·have H:k<K.length:=by omega
   have U:=bc.below M
   obtain⟨ac,W⟩:=sQ sE U H
   have al:i64.wrap ((k:Int)+1)=((k+1:Nat):Int):=by rw[wrap_i64 (by omega) (by omega)];omega
   have aj:=fD H
   refine⟨⟨⟨by omega,by omega⟩,U.isSome H⟩,_,ac,?_⟩
   rw[al]
   generalize K[k]=x at*
   refine sE.new (zs:=op0.cells) (cs:=x.cells) (OpW.len Gp) (OpW.len W) (OpR.one _) b3 λcc wx b5 I bz=>?_
   have E:=ah M bz M.size
   refine⟨rfl,_,I.load1 ax rfl (i:=22) (BK W),ai.of (λD=>G E) (λa0=>⟨rfl,rfl,rfl,_,I.load1 ax rfl (i:=3) ((wQ W (j:=2) (by decide)).trans ((nq W.uo (j:=1) (by decide)).trans rfl)),ai.of (λD=>G E) (λY=>⟨rfl,rfl,_,I.load1 ax rfl (i:=21) ((wQ W (j:=20) (by decide)).trans (zy W.uo)),ai.of (λD=>G E) (λa8=>⟨rfl,rfl,rfl,_,I.load1 ax rfl (i:=25) ((zk W (j:=2) (by decide)).trans (zm W.ro)),ai.of (λD=>G E) (λa9=>⟨rfl,rfl,_,I.load1 ax rfl (i:=42) ((zk W (j:=19) (by decide)).trans (zn W.ro)),ai.of (λD=>G E) (λbb=>?_)⟩)⟩)⟩)⟩)⟩
   have a0:=of_decide_eq_false a0
   have Y:=of_decide_eq_false Y
   have a8:=of_decide_eq_false a8
   have a9:=of_decide_eq_false a9
   have bb:=of_decide_eq_false bb
   refine⟨K.length-(k+1),by omega,k+1,by omega,rfl,rfl,?_,E⟩
   intro y e
   rw[aj,List.mem_append]at e
   rcases e with e|e
   ·exact ag y e
   ·rw[List.mem_singleton]at e;subst e;exact⟨by omega,by omega,by omega,by omega,by omega⟩
  ·have:k=K.length:=by omega
   subst this
   rw[List.take_length]at ag
   refine ai.of (λD=>G M) (λD=>⟨_,rfl,λY=>⟨ad,ag,?_,?_⟩,M⟩)
   ·have:=of_decide_eq_false D;omega
   ·have:=of_decide_eq_false Y;omega
theorem vk {k k':Nat}{t t':TypeId}{vs D:List Value}(h:av w k t vs)(h':av w k' t' D)(q:t≠t'):k≠k':=λe=>by
 subst e
 have h':w.heap[k]? =_:=h'
 rw[show w.heap[k]? =_ from h]at h'
 have:=Option.some.inj h'
 injection this with _ h2 _
 exact q h2
section
variable {w0:World} {pj:Nat} {F:List Nat} {rs:List Rul} {s:JS} {w:World}
theorem vD (J:yM w0 pj F rs s w){vs:List Value}(D:av w k t vs)(h1:t≠sk)(G:t≠bR)(I:t≠cB)(M:t≠dq)(X:w0.heap.size <=k){w':World}(V:w.grownBy w' (some k)):yM w0 pj F rs s w':=by
 obtain⟨p,ma,ms,Z,km,a,n,c,a8,ac,H,rfl,J⟩:=J
 obtain⟨a9,S,O,U,_,_⟩:=J.shf.ex
 have ad:=vk D J.cell h1
 have ag:=vk D J.shf.cell G
 have aj:=vk D J.tab.h1 I
 have al:k≠ma:=λq=>by
  obtain⟨x,y,e,_⟩:=O
  subst q;rw[show w.heap[k]? =_ from D]at e;cases e
 have an:k≠ms:=λq=>by
  obtain⟨x,y,e,_⟩:=U
  subst q;rw[show w.heap[k]? =_ from D]at e;cases e
 have ar:k≠km:=λq=>by
  obtain⟨x,y,e,_⟩:=J.tab.h2
  subst q;rw[show w.heap[k]? =_ from D]at e;cases e
 have a0:j0 a≠some k:=λq=>by
  rcases J.tab.h3.2.2.2 with⟨E,_⟩|⟨g,cur,bb,E,e,_⟩
  ·rw[E]at q;cases q
  ·rw[E]at q
   have:g=k:=by simpa[j0]using q
   subst this
   rw[show w.heap[g]? =_ from D]at e
   have:=Option.some.inj e
   injection this with _ G _
   exact M G
 refine⟨p,ma,ms,Z,km,a,n,c,a8,ac,H,rfl,J.row V λr Y=>?_⟩
 cases Y
 exact⟨by simp;exact⟨ad,ag,al,an⟩,X,aj,ar,a0⟩
def DoP (A:Bl)(w0:World)(pj:Nat)(F:List Nat)(rs:List Rul)(s':JS)(same:Prop)(ar:Option Addr)(lr cr:Nat)(D:JS)(w:World)(v:Value)(w':World):Prop:=
 ∃(a':Option Addr) (l' c':Nat) (b:Bool) (F':List Nat),v=.tuple #[.agg #[.slice ar lr cr,.slice a' l' c',vI D.last,vI D.now],.bool b]/\(same->b=true)/\Sl ff w' (λb=>mb A w b/\b ∉ F') a' l' c' D.L/\yM w0 pj F' rs s' w'/\Chg F w w'/\∀k∈F',k∈F\/w.heap.size <=k
theorem se (cb:Env w0)(J:yM w0 pj F rs s w)(bs:JI s m)(Z:m <=100000){G D:Nat}{a:Option Addr}{l c:Nat}{sd:JS}(ds:Sl ff w A a l c sd.L)(hA:∀b,A b->b ∉ F){cu:Nat}(d4:JI sd cu)(dk:cu <=100000)
 {R:Bl} {rd:List Rul} (dl:Sl sV w R p G D rd) (dn:rd.length <=1000000) (dr:∀r∈rd,r.2.length <=80000000) (o:OpR) (ok:o.ok) (ch:o.n <=9223372036854775807):
 Cf iM #[.pointer (some ⟨pj,0,none⟩),.agg #[.slice p G D,.slice a l c,vI sd.last,vI sd.now],o.v] w (Ret (DoP A w0 pj F rs (doV rs s o ok) (rs=rd.filter bQ/\s=sd) p G D (doV (rd.filter bQ) sd o ok) w)):=by
 have ar:=J.base
 apply qQ
 intro cn d8 cc cj aj d9 ce ck bz a9 cf cl
 obtain⟨ea,c2,ee⟩:=dP (P:=prog) (Below.refl w.heap.size w) cc cj
 obtain⟨c9,c3,ef⟩:=dP (P:=prog) c2 ce ck
 obtain⟨b5,al,d5⟩:=dP (P:=prog) c3 cf cl
 have a4:av a9 cn ae (djC p G D a l c sd.last sd.now):=((av.new cc cj:av d8 cn ae (djC p G D a l c sd.last sd.now)).below c9).below b5
 have a5:av a9 aj bh o.cells:=(av.new ce ck:av d9 aj bh o.cells).below b5
 have a6:av a9 bz ae (djC none 0 0 none 0 0 0 0):=av.new cf cl
 have eg:=a6.lt
 refine⟨_,_,_,_,_,_,_,_,bU a4,_,sE.load0 a5 (OpR.len ok),?_⟩
 refine az (sg (ds.old.below al) d4 dk (dl.below al) dn dr o ok ch) ?_
 generalize eb:doV (rd.filter bQ) sd o ok=H
 rintro _ d7 ⟨a',l',c',rfl,d1,bp⟩
 refine⟨_,_,_,_,_,_,_,_,_,_,rfl,?_⟩
 refine fG.new (zs:=djC none 0 0 none 0 0 0 0) (cs:=djC p G D a' l' c' _ _) rfl rfl (aR rfl (aR rfl (aR rfl (aR rfl di)))) d7 λcp wx ed b8 b9=>?_
 have a8:=ah bp b9 bp.size
 have b0:=ah al a8 al.size
 have bc:=J.below b0
 have an:=a5.below a8
 have c8:=a6.below a8
 have ei:=bp.size
 have ek:=al.size
 have el:=a8.size
 have a0:∀{I w28:World} {s':JS},bW wx I->Cd w0 pj F rs s' I w28->(Instr.loadAt ae (.pointer (some ⟨cp,0,none⟩))).run prog w28=.ok (.agg #[.slice p G D,.slice a' l' c',vI H.last,vI H.now]) w28:=by
  rintro I w28 s' ad ⟨b1,b2,ag,bk⟩
  exact bU (ag.arr (b8.below ad) λh=>by have:=(ar.2 _ h).2;omega)
 have U:∀{I w28:World} {s':JS} {b:Bool},bW wx I->Cd w0 pj F rs s' I w28->s'=doV rs s o ok->(rs=rd.filter bQ/\s=sd->b=true)->
  ∃wy:World,(Instr.storeAt ae (.pointer (some ⟨bz,0,none⟩)) (.agg #[.slice p G D,.slice a' l' c',vI H.last,vI H.now])).run prog w28=.ok () wy/\
   ∃(b3:Option Addr) (cr b6:Nat) (a1:Option Addr) (ct b7:Nat) (c0 c1:Int),(aI ae (.pointer (some ⟨bz,0,none⟩))).run prog wy=.ok (.agg #[.slice b3 cr b6,.slice a1 ct b7,vI c0,vI c1]) wy/\
    DoP A w0 pj F rs (doV rs s o ok) (rs=rd.filter bQ/\s=sd) p G D H w (.tuple #[.agg #[.slice b3 cr b6,.slice a1 ct b7,vI c0,vI c1],.bool b]) wy:=by
  rintro I w28 s' b ad ⟨b1,b2,ag,bk⟩ rfl d2
  have em:=ad.size
  have en:=ag.size
  have b4:=ag.arr (c8.below ad) λh=>by have:=(ar.2 _ h).2;omega
  obtain⟨wy,d6,d3,g⟩:=fG.store0 (P:=prog) (cs:=djC p G D a' l' c' H.last H.now) rfl (aR rfl (aR rfl (aR rfl (aR rfl di)))) b4 rfl
  refine⟨wy,d6,_,_,_,_,_,_,_,_,av.res (bU d3),a',l',c',b,b1,rfl,d2,?_,?_,?_,?_⟩
  ·have d0:Sl ff I (λx=>((A x/\x<w.heap.size)\/a9.heap.size <=x)/\x<I.heap.size) a' l' c' H.L:=((d1.below b9).below ad).mono λx ac h=>⟨h.elim (λh=>.inl ⟨h.1,h.2⟩) .inr,ac⟩
   refine((d0.chg ag λx ac Z=>?_).wr g ?_).mono λx _ ac=>⟨ac.1.elim (λh=>.inl h.1) (λh=>.inr (by omega)),λZ=>?_⟩
   ·have:=(ar.2 _ Z).2
    rcases ac.1 with h|h
    ·exact hA x h.1 Z
    ·omega
   ·rintro⟨h|h,_⟩
    ·have:=h.2;omega
    ·omega
   ·rcases bk x Z with O|O
    ·have:=(ar.2 _ O).2
     rcases ac.1 with h|h
     ·exact hA x h.1 O
     ·omega
    ·have:=ac.2;omega
  ·exact vD b2 b4 (by decide) (by decide) (by decide) (by decide) (by have:=ar.1.size;omega) g
  ·exact(((Chg.of b0).step ad).trans ag).put g d5
  ·intro k dg
   rcases bk k dg with h|h
   ·exact .inl h
   ·exact .inr (by omega)
 refine⟨rfl,_,an.load1 br rfl (i:=0) rfl,?_⟩
 have bd:=bD wx
 have bb:=bc.below bd
 have bj:(Instr.loadAt ae (.pointer (some ⟨cp,0,none⟩))).run prog wx.drew=.ok (.agg #[.slice p G D,.slice a' l' c',vI H.last,vI H.now]) wx.drew:=bU (b8.below bd)
 have c7:(Instr.loadAt aQ (.pointer (some ⟨aj,1,none⟩))).run prog wx.drew=.ok o.url.v wx.drew:=nf.load (an.below bd) (i:=1) (us:=o.url.cells) (Url.len ok.uo) (λj bq=>zT ok bq)
 have c6:(Instr.loadAt ao (.pointer (some ⟨aj,22,none⟩))).run prog wx.drew=.ok (vS o.text) wx.drew:=(an.below bd).load1 ax rfl (i:=22) (vO ok)
 have c5:(Instr.loadAt aU (.pointer (some ⟨aj,23,none⟩))).run prog wx.drew=.ok o.req.v wx.drew:=fA.load (an.below bd) (i:=23) (us:=o.req.cells) (Req.len ok.ro) (λj bq=>zS ok bq)
 have c4:(Instr.loadAt aX (.pointer (some ⟨aj,44,none⟩))).run prog wx.drew=.ok (vI o.n) wx.drew:=(an.below bd).load1 bn rfl (i:=44) (QC ok)
 have eq:=ok.tx
 refine ai.of (λq=>?_) (λq=>?_)
 ·have q:o.kind=1:=by simpa using q
  have dd:=wM cb bb bs Z ok.uo ok.un ok.up o.text (by omega)
  have X:(oO rs s o.url ok.uo o.text).1=doV rs s o ok:=by unfold doV;rw[if_pos q]
  have V:rs=rd.filter bQ/\s=sd->((oO rs s o.url ok.uo o.text).2==(qp (rd.filter bQ) sd o ok).1)=true:=by
   rintro⟨h1,O⟩
   unfold qp
   rw[if_pos q,<- h1,<- O];simp
  refine⟨rfl,rfl,?_⟩
  repeat' (first
   |with_reducible refine⟨_,_,_,_,_,_,_,_,bj,?_⟩
   |with_reducible refine⟨_,c7,?_⟩
   |with_reducible refine⟨_,c6,?_⟩
   |with_reducible refine az dd ?_
   |with_reducible refine And.intro ?_ ?_)
  all_goals
   rintro _ w28 ⟨rfl,e⟩
   first
    |exact⟨_,rfl,U bd e X V⟩
    |exact⟨_,rfl,_,_,_,_,_,_,_,_,a0 bd e,U bd e X V⟩
 have q: ¬ o.kind=1:=by simpa using q
 refine ai.of (λE=>?_) (λE=>?_)
 ·have E:o.kind=2:=by simpa using E
  have dc:=vd cb bb bs Z ok.ro ok.rn
  have X:(xH s o.req).1=doV rs s o ok:=by unfold doV;rw[if_neg q,if_pos E]
  have V:rs=rd.filter bQ/\s=sd->((xH s o.req).2==(qp (rd.filter bQ) sd o ok).2)=true:=by
   rintro⟨h1,O⟩
   unfold qp
   rw[if_neg q,if_pos E,<- O];simp
  refine⟨rfl,?_⟩
  repeat' (first
   |with_reducible refine⟨_,_,_,_,_,_,_,_,bj,?_⟩
   |with_reducible refine⟨_,c5,?_⟩
   |with_reducible refine az dc ?_
   |with_reducible refine And.intro ?_ ?_)
  all_goals
   rintro _ w28 ⟨rfl,e⟩
   first
    |exact⟨_,rfl,U bd e X V⟩
    |exact⟨_,rfl,_,_,_,_,_,_,_,_,a0 bd e,U bd e X V⟩
 have E: ¬ o.kind=2:=by simpa using E
 refine ai.of (λM=>?_) (λM=>?_)
 ·have M:o.kind=3:=by simpa using M
  have de:=wN bb bs (by omega) o.n ch
  have X:(ju s o.n).1=doV rs s o ok:=by unfold doV;rw[if_neg q,if_neg E,if_pos M]
  have V:rs=rd.filter bQ/\s=sd->((ju s o.n).2==(qp (rd.filter bQ) sd o ok).1)=true:=by
   rintro⟨h1,O⟩
   unfold qp
   rw[if_neg q,if_neg E,if_pos M,<- O];simp
  refine⟨rfl,?_⟩
  repeat' (first
   |with_reducible refine⟨_,_,_,_,_,_,_,_,bj,?_⟩
   |with_reducible refine⟨_,c4,?_⟩
   |with_reducible refine az de ?_
   |with_reducible refine And.intro ?_ ?_)
  all_goals
   rintro _ w28 ⟨rfl,e⟩
   first
    |exact⟨_,rfl,U bd e X V⟩
    |exact⟨_,rfl,_,_,_,_,_,_,_,_,a0 bd e,U bd e X V⟩
 have M: ¬ o.kind=3:=by simpa using M
 refine ai.of (λY=>?_) (λY=>?_)
 ·have Y:o.kind=4:=by simpa using Y
  refine az (pO bc) ?_
  rintro _ er ⟨rfl,e⟩
  exact⟨rfl,_,_,_,_,_,_,_,_,a0 (Below.refl _ _) e,U (Below.refl _ _) e (by unfold doV;rw[if_neg q,if_neg E,if_neg M,if_pos Y]) λ_=>rfl⟩
 ·have Y: ¬ o.kind=4:=by simpa using Y
  have e:Cd w0 pj F rs s wx wx:=Cd.same bc (Chg.refl _ _)
  exact⟨_,_,_,_,_,_,_,_,a0 (Below.refl _ _) e,U (Below.refl _ _) e (by unfold doV;rw[if_neg q,if_neg E,if_neg M,if_neg Y]) λ_=>rfl⟩
end
theorem Fy (h:∀o∈K,o.ok):∃q:List OpK,q.map (·.o)=K:=by
 obtain⟨ys,e⟩:=Gi h
 exact⟨ys.map λy=>⟨y.1,y.2⟩,by rw[List.map_map];exact e⟩
section
open Go.ChangeShapes Go.WideShapes
theorem jV {e:Type}{enc:TypeId×Value->e}{fuel:Nat}{q:Array Field}{cs:List Value}{x:DataW e×List MemPlace}(M:P.underlying t=some (.struct q))
 (h:DataW.trod enc P w 0 (λ_=>true) true fuel t cs=some x):
 ∃n,cs.length=P.cellsOf t/\∀(i:Nat) (u:TypeId) (o k:Nat),(∃f:Field,q[i]? =some f/\f.type=u/\f.offset=o)->P.cellsOf u=k->∃y,DataW.trod enc P w 0 (λ_=>true) true n u ((cs.drop o).take k)=some y:=by
 obtain⟨xs,n,_,_,G,H,E⟩:=DataW.trod_struct M h
 refine⟨n,G,?_⟩
 rintro i _ _ _ ⟨f,D,rfl,rfl⟩ rfl
 have I:i<xs.length:=by rw[H];exact(Array.getElem?_eq_some_iff.1 D).1
 exact⟨xs[i],by rw[E i f D,List.getElem?_eq_getElem I]⟩
theorem dU {α:Type}(cs:List α)(a b:Nat):cs.drop a=(cs.drop a).take b++cs.drop (a+b):=by
 rw[<- List.drop_drop,List.take_append_drop]
theorem qe {α:Type}(cs:List α)(n:Nat)(h:cs.length=n):cs.drop n=[]:=List.drop_of_length_le (by omega)
theorem Cb {n:Int}(h:(Lit.int .u8 n).wf=true):∃c:UInt8,n=((c.toNat:Nat):Int):=by
 have:=bounds_u8 h
 refine⟨UInt8.ofNat n.toNat,?_⟩
 rw[UInt8.toNat_ofNat',Nat.mod_eq_of_lt (by omega)];omega
theorem yN:∀{zs:List Int},(∀n∈zs,(Lit.int .u8 n).wf=true)->∃a:List UInt8,a.length=zs.length/\(zs.map λn=>Value.int .u8 n)=adC a
 |[],_=>⟨[],rfl,rfl⟩
 |z::zs,h=>by
  obtain⟨c,rfl⟩:=Cb (h z (List.mem_cons_self ..))
  obtain⟨a,e,q⟩:=yN (zs:=zs) λn D=>h n (List.mem_cons_of_mem _ D)
  exact⟨c::a,by rw[List.length_cons,List.length_cons,e],by rw[List.map_cons,q];rfl⟩
end
section
open Go.ChangeShapes Go.WideShapes
theorem rO {enc:TypeId×Value->o}{fuel:Nat}{cs:List Value}{x:DataW o×List MemPlace}(h:DataW.trod enc prog w 0 (λ_=>true) true fuel ak cs=some x):∃u:Hst,u.ok/\cs=u.cells:=by
 obtain⟨n,Y,e⟩:=jV Tryz.underlying32 h
 have Z:cs.length=18:=Y.trans (by kernel_rfl)
 obtain⟨ad,O⟩:=e 0 aJ 0 1 ⟨_,rfl,rfl,rfl⟩ (by kernel_rfl)
 obtain⟨ag,h1⟩:=e 1 ao 1 1 ⟨_,rfl,rfl,rfl⟩ (by kernel_rfl)
 obtain⟨aj,U⟩:=e 2 30 2 16 ⟨_,rfl,rfl,rfl⟩ (by kernel_rfl)
 obtain⟨k,H,_⟩:=eM br o enc w n _ _ O
 obtain⟨s,I,_⟩:=jW ax o enc w n _ _ h1
 obtain⟨zs,ac,D⟩:=zh Tryz.underlying30 (eM dm) (by kernel_rfl) (by kernel_rfl) U
 have M:=tJ D
 obtain⟨a,V,X⟩:=yN (ww D)
 refine⟨⟨k,s,a⟩,V.trans ac,?_⟩
 have q:=dU cs 0 1
 have E:=dU cs 1 1
 have G:=dU cs 2 16
 rw[H]at q
 rw[I]at E
 rw[M,X,qe cs (2+16) Z,List.append_nil]at G
 rw[List.drop_zero]at q
 rw[q,E,G];rfl
theorem zj {enc:TypeId×Value->o}{fuel:Nat}{cs:List Value}{x:DataW o×List MemPlace}(h:DataW.trod enc prog w 0 (λ_=>true) true fuel aQ cs=some x):∃u:Url,u.ok/\cs=u.cells:=by
 obtain⟨n,Z,e⟩:=jV Tryz.underlying34 h
 have ac:cs.length=21:=Z.trans (by kernel_rfl)
 obtain⟨ad,U⟩:=e 0 bu 0 1 ⟨_,rfl,rfl,rfl⟩ (by kernel_rfl)
 obtain⟨ag,h1⟩:=e 1 ak 1 18 ⟨_,rfl,rfl,rfl⟩ (by kernel_rfl)
 obtain⟨aj,V⟩:=e 2 aJ 19 1 ⟨_,rfl,rfl,rfl⟩ (by kernel_rfl)
 obtain⟨al,X⟩:=e 3 ao 20 1 ⟨_,rfl,rfl,rfl⟩ (by kernel_rfl)
 obtain⟨b,H,_⟩:=rN bA o enc w n _ _ U
 obtain⟨g,Y,I⟩:=rO h1
 obtain⟨p,M,_⟩:=eM br o enc w n _ _ V
 obtain⟨s,O,_⟩:=jW ax o enc w n _ _ X
 refine⟨⟨b,g,p,s⟩,Y,?_⟩
 have q:=dU cs 0 1
 have D:=dU cs 1 18
 have E:=dU cs 19 1
 have G:=dU cs 20 1
 rw[H]at q
 rw[I]at D
 rw[M]at E
 rw[O,qe cs (20+1) ac,List.append_nil]at G
 rw[List.drop_zero]at q
 rw[q,D,E,G];rfl
theorem wP {enc:TypeId×Value->o}{fuel:Nat}{cs:List Value}{x:DataW o×List MemPlace}(h:DataW.trod enc prog w 0 (λ_=>true) true fuel aG cs=some x):∃r:Rul,cs=qn r:=by
 obtain⟨n,I,e⟩:=jV Tryz.underlying78 h
 have M:cs.length=2:=I.trans (by kernel_rfl)
 obtain⟨O,H⟩:=e 0 aJ 0 1 ⟨_,rfl,rfl,rfl⟩ (by kernel_rfl)
 obtain⟨U,h1⟩:=e 1 ao 1 1 ⟨_,rfl,rfl,rfl⟩ (by kernel_rfl)
 obtain⟨k,E,_⟩:=eM br o enc w n _ _ H
 obtain⟨s,G,_⟩:=jW ax o enc w n _ _ h1
 refine⟨(k,s),?_⟩
 have q:=dU cs 0 1
 have D:=dU cs 1 1
 rw[E,List.drop_zero]at q
 rw[G,qe cs (1+1) M,List.append_nil]at D
 rw[q,D];rfl
theorem wU {enc:TypeId×Value->o}{n b off:Nat}(m:Nat)
 (H:∀i,i<m->∃cs,(∀j,j<2->w.cell? ⟨b,off+(i*2+j),none⟩=cs[j]?)/\∃y,DataW.trod enc prog w 0 (λ_=>true) true n aG cs=some y):
 ∃rs:List Rul,rs.length=m/\At sV w wu b off rs:=by
 induction m with
 |zero=>exact⟨[],rfl,[],kK.nil _ _ _,λj e=>by cases e⟩
 |succ m U=>
  obtain⟨rs,q,l,G,I⟩:=U λi V=>H i (by omega)
  obtain⟨cs,M,y,O⟩:=H m (by omega)
  obtain⟨r,rfl⟩:=wP O
  refine⟨rs++[r],by rw[List.length_append,q];rfl,l++qn r,G.append (kK.one (T:=sV) rfl),λj e=>?_⟩
  have D:l.length=m*2:=by rw[G.len,q];rfl
  rw[List.length_append,D,show(qn r).length=2 from rfl]at e
  by_cases E:j<l.length
  ·rw[List.getElem?_append_left E];exact I j E
  ·rw[List.getElem?_append_right (by omega),<- M (j-l.length) (by omega),D,show off+(m*2+(j-m*2))=off+j by omega]
theorem uW {enc:TypeId×Value->o}{fuel:Nat}{v:Value}{x:DataW o×List MemPlace}(h:DataW.trod enc prog w 0 (λ_=>true) true fuel cI [v]=some x):
 ∃(a:Option Addr) (len cap:Nat) (rs:List Rul),v=.slice a len cap/\Sl sV w wu a len cap rs/\rs.length <=9223372036854775807:=by
 rcases Go.Deep.open_slice da h with⟨e,_⟩|⟨a,len,cap,m,n,al,an,e,_,I,H,M,_,q⟩
 ·obtain rfl:v=_:=by injection e
  exact⟨none,0,0,[],rfl,Sl.nil _ _ _ _ _ (Nat.zero_le _),Nat.zero_le _⟩
 ·obtain rfl:v=_:=by injection e
  have bb:maxLen <=9223372036854775807:=by unfold maxLen;decide
  rw[if_pos rfl]at M
  subst M
  rw[show prog.cellsOf aG=2 by kernel_rfl]at q
  by_cases O:len=0
  ·subst O
   exact⟨_,_,_,[],rfl,⟨rfl,I,H,.inl rfl⟩,Nat.zero_le _⟩
  ·obtain⟨b,off,aj⟩:=a
   obtain⟨ar,G,_⟩:=q 0 (by omega)
   have E:=World.cells?_block G (by decide)
   obtain⟨_,a8,V⟩:=World.cells?_some G
   have D:=V 0 (by decide)
   rw[List.getElem?_eq_getElem (by omega)]at D
   have ad:aj=none:=by simpa[Addr.add]using World.cell?_spot D
   subst ad
   obtain⟨rs,ac,U⟩:=wU (b:=b) (off:=off) len λi a0=>by
    obtain⟨cs,Y,ag⟩:=q i (by omega)
    obtain⟨_,a9,X⟩:=World.cells?_some Y
    refine⟨cs,λj Z=>?_,_,ag⟩
    rw[<- X j Z,dF,dF,Nat.add_assoc]
   exact⟨_,_,_,rs,rfl,⟨ac.symm,I,H,.inr ⟨b,off,rfl,(by rw[Nat.zero_mul,dF]at E;exact E),trivial,U⟩⟩,by omega⟩
end
section
open Go.ChangeShapes Go.WideShapes
theorem xu {enc:TypeId×Value->o}{fuel:Nat}{cs:List Value}{x:DataW o×List MemPlace}(h:DataW.trod enc prog w 0 (λ_=>true) true fuel aU cs=some x):∃r:Req,r.ok/\cs=r.cells:=by
 obtain⟨n,Z,e⟩:=jV Tryz.underlying52 h
 have ac:cs.length=21:=Z.trans (by kernel_rfl)
 obtain⟨ad,U⟩:=e 0 bu 0 1 ⟨_,rfl,rfl,rfl⟩ (by kernel_rfl)
 obtain⟨ag,h1⟩:=e 1 ak 1 18 ⟨_,rfl,rfl,rfl⟩ (by kernel_rfl)
 obtain⟨aj,V⟩:=e 2 ao 19 1 ⟨_,rfl,rfl,rfl⟩ (by kernel_rfl)
 obtain⟨al,X⟩:=e 3 aJ 20 1 ⟨_,rfl,rfl,rfl⟩ (by kernel_rfl)
 obtain⟨b,H,_⟩:=rN bA o enc w n _ _ U
 obtain⟨g,Y,I⟩:=rO h1
 obtain⟨s,M,_⟩:=jW ax o enc w n _ _ V
 obtain⟨p,O,_⟩:=eM br o enc w n _ _ X
 refine⟨⟨b,g,s,p⟩,Y,?_⟩
 have q:=dU cs 0 1
 have D:=dU cs 1 18
 have E:=dU cs 19 1
 have G:=dU cs 20 1
 rw[H]at q
 rw[I]at D
 rw[M]at E
 rw[O,qe cs (20+1) ac,List.append_nil]at G
 rw[List.drop_zero]at q
 rw[q,D,E,G];rfl
theorem BI {e:Type}{enc:TypeId×Value->e}{fuel:Nat}{cs:List Value}{x:DataW e×List MemPlace}(h:DataW.trod enc prog w 0 (λ_=>true) true fuel bh cs=some x):∃o:OpR,OpW o/\cs=o.cells:=by
 obtain⟨n,aj,q⟩:=jV Tryz.underlying54 h
 have al:cs.length=45:=aj.trans (by kernel_rfl)
 obtain⟨a8,Z⟩:=q 0 aJ 0 1 ⟨_,rfl,rfl,rfl⟩ (by kernel_rfl)
 obtain⟨a9,h1⟩:=q 1 aQ 1 21 ⟨_,rfl,rfl,rfl⟩ (by kernel_rfl)
 obtain⟨bb,ac⟩:=q 2 ao 22 1 ⟨_,rfl,rfl,rfl⟩ (by kernel_rfl)
 obtain⟨bc,ad⟩:=q 3 aU 23 21 ⟨_,rfl,rfl,rfl⟩ (by kernel_rfl)
 obtain⟨bj,ag⟩:=q 4 aX 44 1 ⟨_,rfl,rfl,rfl⟩ (by kernel_rfl)
 obtain⟨k,O,_⟩:=eM br e enc w n _ _ Z
 obtain⟨u,ar,U⟩:=zj h1
 obtain⟨s,V,_⟩:=jW ax e enc w n _ _ ac
 obtain⟨r,an,X⟩:=xu ad
 obtain⟨a0,Y,M⟩:=eM bn e enc w n _ _ ag
 refine⟨⟨k,u,s,r,a0⟩,⟨ar,an,(bounds_i64 M).2⟩,?_⟩
 have D:=dU cs 0 1
 have E:=dU cs 1 21
 have G:=dU cs 22 1
 have H:=dU cs 23 21
 have I:=dU cs 44 1
 rw[O]at D
 rw[U]at E
 rw[V]at G
 rw[X]at H
 rw[Y,qe cs (44+1) al,List.append_nil]at I
 rw[List.drop_zero]at D
 rw[D,E,G,H,I];rfl
theorem BJ {enc:TypeId×Value->o}{n b off:Nat}(m:Nat)
 (I:∀i,i<m->∃cs,(∀j,j<45->w.cell? ⟨b,off+(i*45+j),none⟩=cs[j]?)/\∃y,DataW.trod enc prog w 0 (λ_=>true) true n bh cs=some y):
 ∃rs:List OpR,rs.length=m/\At tOp w wu b off rs:=by
 induction m with
 |zero=>exact⟨[],rfl,[],kK.nil _ _ _,λj e=>by cases e⟩
 |succ m V=>
  obtain⟨rs,q,l,G,M⟩:=V λi X=>I i (by omega)
  obtain⟨cs,O,y,U⟩:=I m (by omega)
  obtain⟨r,H,rfl⟩:=BI U
  refine⟨rs++[r],by rw[List.length_append,q];rfl,l++r.cells,G.append (kK.one (T:=tOp) ⟨rfl,H⟩),λj e=>?_⟩
  have D:l.length=m*45:=by rw[G.len,q];rfl
  rw[List.length_append,D,OpW.len H]at e
  by_cases E:j<l.length
  ·rw[List.getElem?_append_left E];exact M j E
  ·rw[List.getElem?_append_right (by omega),<- O (j-l.length) (by omega),D,show off+(m*45+(j-m*45))=off+j by omega]
theorem zi {enc:TypeId×Value->o}{fuel:Nat}{v:Value}{x:DataW o×List MemPlace}(h:DataW.trod enc prog w 0 (λ_=>true) true fuel aV [v]=some x):
 ∃(a:Option Addr) (len cap:Nat) (rs:List OpR),v=.slice a len cap/\Sl tOp w wu a len cap rs/\rs.length <=9223372036854775807:=by
 rcases Go.Deep.open_slice nb h with⟨e,_⟩|⟨a,len,cap,m,n,al,an,e,_,I,H,M,_,q⟩
 ·obtain rfl:v=_:=by injection e
  exact⟨none,0,0,[],rfl,Sl.nil _ _ _ _ _ (Nat.zero_le _),Nat.zero_le _⟩
 ·obtain rfl:v=_:=by injection e
  have bb:maxLen <=9223372036854775807:=by unfold maxLen;decide
  rw[if_pos rfl]at M
  subst M
  rw[show prog.cellsOf bh=45 by kernel_rfl]at q
  by_cases O:len=0
  ·subst O
   exact⟨_,_,_,[],rfl,⟨rfl,I,H,.inl rfl⟩,Nat.zero_le _⟩
  ·obtain⟨b,off,aj⟩:=a
   obtain⟨ar,G,_⟩:=q 0 (by omega)
   have E:=World.cells?_block G (by decide)
   obtain⟨_,a8,V⟩:=World.cells?_some G
   have D:=V 0 (by decide)
   rw[List.getElem?_eq_getElem (by omega)]at D
   have ad:aj=none:=by simpa[Addr.add]using World.cell?_spot D
   subst ad
   obtain⟨rs,ac,U⟩:=BJ (b:=b) (off:=off) len λi a0=>by
    obtain⟨cs,Y,ag⟩:=q i (by omega)
    obtain⟨_,a9,X⟩:=World.cells?_some Y
    refine⟨cs,λj Z=>?_,_,ag⟩
    rw[<- X j Z,dF,dF,Nat.add_assoc]
   exact⟨_,_,_,rs,rfl,⟨ac.symm,I,H,.inr ⟨b,off,rfl,(by rw[Nat.zero_mul,dF]at E;exact E),trivial,U⟩⟩,by omega⟩
end
theorem CN {a:Option Addr}{i:Int}(h:Option.isSome a=true):Option.isSome (aw a i k)=true:=by
 cases a with
 |none=>cases h
 |some x=>rfl
theorem IY {u:TypeId}{d:TypeDesc}(V:P.underlying u=some d)(D:El d=false){a:Option Addr}{n c:Nat}{xs:List Cky}(M:Ow rF af w NoB a n c xs)(q:i<xs.length)(H:j<29){v:Value}(X:xs[i].cells[j]? =some v):
 (Instr.loadAt u (.pointer (Option.map (λx:Addr=>x.add j) (aw a (i:Int) 29)))).run P w=.ok v w:=by
 obtain⟨ag,aj,Z,O⟩:=M
 rcases O with⟨_,_,rfl⟩|⟨g,cur,Y,rfl,G,ad,ac,U⟩
 ·cases q
 ·have h1:=(U.rep i q).1
  have I:rF.k=29:=rfl
  rw[I]at h1
  have e:(((cur.toList.take (n*29)).drop (i*29)).take 29)[j]? =some v:=by rw[h1];exact X
  rw[List.getElem?_take,if_pos H,List.getElem?_drop,List.getElem?_take,if_pos (by omega)]at e
  have E:w.cell? ⟨g,i*29+j,none⟩=some v:=by rw[A6 G];simpa using e
  rw[qZ]
  show(Instr.loadAt u (.pointer (some ((⟨g,0+(i:Int).toNat*29,none⟩:Addr).add j)))).run P w=_
  rw[dF]
  exact qb V D (by rw[<- E];congr 2;simp)
theorem Hj:(Fx [104]).ok:=rfl
theorem Tw (rs:List Rul){now:Int}(E:0 <=now)(h1:now <=1099511627776):∃k:Kpt,oO rs (js0 now) up L0 [97,61,49]=(⟨[k],1,now⟩,0)/\k.c.seq=1:=by
 have q:=I2 (rs:=rs) (JI.new E h1 0) (h:=Fx [104]) Hj (by kernel_rfl) (n:=[97]) (by kernel_rfl) (by kernel_rfl) (by decide) (λk e=>by cases e) (t:=lJ rs (Fx [104])) rfl
 refine⟨⟨{ ckF (Fx [104]) [97] now with seq:=1 },lJ rs (Fx [104]),Hj⟩,?_,rfl⟩
 have D:oO rs (js0 now) up L0 [97,61,49]=oO rs (js0 now) (uOf (Fx [104])) Hj ([97]++[61,49]):=by
  congr 1
 rw[D,q]
 have G:nK (js0 now).L (js0 now).last ⟨ckF (Fx [104]) [97] (js0 now).now,lJ rs (Fx [104]),Hj⟩=([⟨{ ckF (Fx [104]) [97] now with seq:=1 },lJ rs (Fx [104]),Hj⟩],1):=rfl
 refine Prod.ext ?_ rfl
 refine Uu (s:=js0 now) (c:=⟨ckF (Fx [104]) [97] (js0 now).now,lJ rs (Fx [104]),Hj⟩) G (Jw λk e=>?_) (Ge (by simp))
 rw[List.mem_singleton.1 e]
 show now<9223372036854775807
 omega
section
variable {wb:World} {pj:Nat} {rs:List Rul} {s:JS} {w:World}
theorem SV (J:Cz wb pj rs s w)(V:JI s m)(O:m <=100000)(o:OpR)(q:o.ok)(U:o.n <=9223372036854775807):
 Cf iM #[.pointer (some ⟨pj,0,none⟩),.agg #[.slice none 0 0,.slice none 0 0,vI 0,vI 0],o.v] w
  (Ret λv w'=>(∃(a:Option Addr) (l c:Nat) (a':Option Addr) (l' c':Nat) (X Y:Int) (b:Bool),v=.tuple #[.agg #[.slice a l c,.slice a' l' c',vI X,vI Y],.bool b])/\Cz wb pj rs (doV rs s o q) w'):=by
 obtain⟨w0,F,e,J,I,G⟩:=J
 refine(se e J V O (sd:=js0 0) (A:=λ_=>False) (Sl.nil ff w _ none 0 (Nat.zero_le _)) (λb h=>h.elim) (JI.new (by decide) (by decide) 0) (by decide) (R:=λ_=>False) (rd:=[]) (Sl.nil sV w _ none 0 (Nat.zero_le _)) (by decide) (λr h=>by cases h) o q U).mono ?_
 rintro Z w' ⟨v,rfl,a',l',c',b,D,rfl,-,-,E,M,H⟩
 exact⟨_,rfl,⟨_,_,_,_,_,_,_,_,_,rfl⟩,Cz.step e I G ⟨D,E,M,H⟩⟩
end
theorem Il {c7 b7:Nat}{rs:List Rul}{c8 b8:Nat}(cc:Env w)(cu:Sl sV w A p c7 b7 rs)(a0:Sl tOp w B q c8 b8 K)(eg:rs.length <=9223372036854775807)(ee:K.length <=9223372036854775807):
 Cf CY #[.slice p c7 b7,.slice q c8 b8] w (Ret (Vp w)):=by
 apply Hy
 refine az (wL w cc) ?_
 rintro _ gp ⟨rfl,an⟩
 refine⟨_,rfl,ai.no rfl ?_⟩
 refine az (ri (cu.below an) (a0.below an) eg ee) ?_
 rintro _ gu ⟨b,rfl,eb,d1⟩
 have B15:=ah an d1 an.size
 refine⟨_,rfl,ai.of (λ_=>⟨rfl,B15⟩) (λV=>?_)⟩
 have a9:=eb V
 have gn:=a9.rl
 have gm:=a9.ol
 have ef:∀r∈rs,r.2.length <=1000000:=λr h=>by have:=a9.r r h;omega
 refine az (zf (wb:=w) B15 (cc.step B15) (cu.below B15) (by omega) ef) ?_
 rintro _ gv ⟨ga,rfl,fb,ea⟩
 refine⟨_,rfl,?_⟩
 refine az ea ?_
 rintro _ gw ⟨b2,rfl,J,fd⟩
 refine⟨_,rfl,?_⟩
 have ed:∀o∈K,o.ok:=λo h=>by
  obtain⟨i,I,rfl⟩:=List.getElem_of_mem h
  exact(a9.o _ h).ok (sQ sE a0 I).2
 obtain⟨e,ch⟩:=Fy ed
 have f0:e.length=K.length:=by rw[<- ch,List.length_map]
 have d8:=a0.len
 subst d8
 have c5:JI (js0 0) 0:=JI.new (by decide) (by decide) 0
 generalize rs.filter bQ=E at*
 refine⟨λm i U=>∃k:Nat,k <=K.length/\i=(k:Int)/\m=K.length-k/\Cz w b2 E (vQ E (js0 0) (e.take k)) U,⟨_,0,by omega,rfl,rfl,J⟩,?_⟩
 intro gc f4
 refine aP.of ?_ _
 rintro U ⟨k,fp,rfl,rfl,al⟩
 have bs:JI (vQ E (js0 0) (e.take k)) 90:=(JI.run (rs:=E) (e.take k) c5).mono (by rw[List.length_take];omega)
 refine ai.of (λI=>?_) (λI=>?_) <;> simp only[dTx,dFx]at I
 ·have cn:k<K.length:=by omega
  obtain⟨w0,F,fm,e2,d5,e9⟩:=id al
  have c2:=a0.below d5
  obtain⟨d7,W⟩:=sQ sE c2 cn
  have er:i64.wrap ((k:Int)+1)=((k+1:Nat):Int):=by rw[wrap_i64 (by omega) (by omega)];omega
  have ce:k<e.length:=by omega
  have ei:vQ E (js0 0) (e.take (k+1))=doV E (vQ E (js0 0) (e.take k)) e[k].o e[k].ok:=by
   rw[fD ce,qP]
  have cf:e[k].o=K[k]:=by
   have:(e.map (·.o))[k]'(by rw[List.length_map];exact ce)=K[k]:=by simp only[ch]
   rw[List.getElem_map]at this;exact this
  have bz:JI (vQ E (js0 0) (e.take (k+1))) 91:=(JI.run (rs:=E) (e.take (k+1)) c5).mono (by rw[List.length_take];omega)
  refine⟨⟨⟨by omega,by omega⟩,c2.isSome cn⟩,_,d7,?_⟩
  rw[er,<- cf]
  rw[<- cf]at W
  generalize e[k]=o at*
  generalize vQ E (js0 0) (e.take k)=s at*
  generalize ek:vQ E (js0 0) (e.take (k+1))=G at*
  refine sE.new (zs:=op0.cells) (cs:=o.o.cells) (OpW.len Gp) (OpW.len W) (OpR.one _) U λf9 g0 fv dl d3=>?_
  refine⟨_,sE.load0 dl (OpW.len W),?_⟩
  refine az (SV (al.below d3) bs (by decide) o.o o.ok W.hi) ?_
  rw[<- ei]
  rintro _ gx ⟨⟨_,_,_,_,_,_,_,_,_,rfl⟩,J32⟩
  refine⟨_,_,_,_,_,_,_,_,_,rfl,?_⟩
  refine az (yJ J32 bz (by decide)) ?_
  rintro _ ew ⟨e3,gb,e4,rfl,aj,fn,d2⟩
  have J34:=J32.below d2
  have cj:=aj.len
  rw[List.length_map]at cj
  have fl:=aj.2.1
  subst cj
  refine⟨_,_,_,rfl,λm i U=>∃D:Nat,D <=G.L.length/\i=(D:Int)/\m=G.L.length-D/\bW ew U,⟨_,0,by omega,rfl,rfl,Below.refl _ _⟩,?_⟩
  intro ge f5
  refine aP.of ?_ _
  rintro ex ⟨D,a8,rfl,rfl,ar⟩
  have fo:=bz.few
  refine ai.of (λI=>?_) (λI=>?_) <;> simp only[dTx,dFx]at I
  ·have cr:D<G.L.length:=by omega
   have ct:D<(G.L.map Kpt.c).length:=by rw[List.length_map];exact cr
   have bp:=aj.all.below ar
   obtain⟨ck,-⟩:=fj aC bp ct
   rw[List.getElem_map]at ck
   obtain⟨e5,e6,e7,dd,de⟩:=VR bz cr
   have es:i64.wrap ((D:Int)+1)=((D+1:Nat):Int):=by rw[wrap_i64 (by omega) (by omega)];omega
   refine⟨⟨⟨by omega,by omega⟩,bp.isSome ct⟩,_,ck,?_⟩
   have O:=G.L[D].ok
   generalize f3:G.L[D]=x at*
   refine aC.new (zs:=je.cells) (cs:=x.c.cells) (Cky.len (by rfl)) (Cky.len O) (Cky.one _) ex λf7 b3 fr ac dn=>?_
   have Z:=ah ar dn ar.size
   have dc:=J34.below Z
   have bj:∀u:World,bW b3 u->Cf cA #[.pointer (Option.map (λx=>x.add 0) (some (⟨b2,0,none⟩:Addr)))] u λV w'=>V=.returned (vI G.now)/\Below b3.heap.size u w':=λu H=>by
    refine(Me (dc.below H)).mono ?_
    rintro V w' ⟨v,rfl,rfl,rfl⟩
    exact⟨rfl,(Below.refl _ _).mono (by have:=H.size;omega)⟩
   refine⟨λY=>bW b3 Y,⟨rfl,_,λu H=>(ac.below H).load1 bn rfl (i:=25) (be O 5),rfl,rfl,_,bj,ai.no (decide_eq_false (by omega)) ⟨rfl,_,λu H=>(ac.below H).load1 bn rfl (i:=26) (be O 6),rfl,rfl,_,bj,ai.no (decide_eq_false (by omega)) ⟨rfl,_,λu H=>(ac.below H).load1 bn rfl (i:=27) (be O 7),rfl,rfl,_,bj,ai.no (decide_eq_false (by omega)) ?_⟩⟩⟩,aP.of ?_ _⟩
   ·refine ai.of (λbk=>?_) (λbk=>λe0 a8=>a8)
    have bk:=of_decide_eq_true bk
    obtain⟨M,rfl⟩:∃M,D=M+1:=⟨D-1,by omega⟩
    have em:i64.wrap (((M+1:Nat):Int)-1)=(M:Int):=by rw[wrap_i64 (by omega) (by omega)];omega
    try dsimp only
    rw[em]
    have cp:M<(G.L.map Kpt.c).length:=by rw[List.length_map];omega
    have f2:=dd M (by omega)
    have c4:=bp.isSome cp
    refine⟨⟨⟨by omega,by omega⟩,c4⟩,?_,G.L[M].c.seq,λu H=>?_,rfl,_,λu H=>(ac.below H).load1 br rfl (i:=28) (be O 8),λe0 a8=>ai.no (decide_eq_false (by omega)) a8⟩
    ·exact CN c4
    ·exact IY br rfl (aj.below (ah Z H Z.size)) cp (j:=28) (by decide) (by rw[List.getElem_map];exact be G.L[M].ok 8)
   ·intro Y ad
    have b4:=ah Z ad Z.size
    have dg:=ac.below ad
    refine⟨⟨by omega,by omega⟩,λm i U=>∃r:Nat,r <=D/\i=(r:Int)/\m=D-r/\bW Y U,⟨_,0,by omega,rfl,rfl,Below.refl _ _⟩,?_⟩
    intro gl f6
    refine aP.of ?_ _
    rintro ey ⟨r,f1,rfl,rfl,bc⟩
    have b5:=ah b4 bc b4.size
    refine ai.of (λI=>?_) (λI=>⟨G.L.length-(D+1),by omega,D+1,by omega,es,rfl,b5⟩)
    simp only[dTx]at I
    have c0:r<(G.L.map Kpt.c).length:=by rw[List.length_map];omega
    have c3:=aj.all.below b5
    obtain⟨cl,-⟩:=fj aC c3 c0
    rw[List.getElem_map]at cl
    have d9:=de r (by omega)
    have et:i64.wrap ((r:Int)+1)=((r+1:Nat):Int):=by rw[wrap_i64 (by omega) (by omega)];omega
    refine⟨⟨⟨by omega,by omega⟩,c3.isSome c0⟩,_,cl,?_⟩
    rw[et]
    have b1:=G.L[r].ok
    generalize G.L[r]=y at*
    refine aC.new (zs:=je.cells) (cs:=y.c.cells) (Cky.len (by rfl)) (Cky.len b1) (Cky.one _) ey λf8 e1 fs dk ds=>?_
    have bb:=ah bc ds bc.size
    refine⟨_,aC.load0 (dg.below bb) (Cky.len O),_,aC.load0 dk (Cky.len b1),?_⟩
    refine az (pR O b1 e1) ?_
    rintro _ gy ⟨rfl,d4⟩
    exact⟨_,rfl,ai.no (decide_eq_false λV=>d9 V.symm) ⟨D-(r+1),by omega,r+1,by omega,rfl,rfl,ah bb d4 bb.size⟩⟩
  ·exact⟨K.length-(k+1),by omega,k+1,by omega,rfl,rfl,by rw[ek];exact J34.below ar⟩
 ·generalize vQ E (js0 0) (e.take k)=s at*
  have b9:=bs.n0
  have h1:=bs.n1
  refine⟨rfl,rfl,?_⟩
  refine az (Me al) ?_
  rintro _ gz ⟨rfl,eq⟩
  rw[eq]
  refine⟨_,rfl,?_⟩
  refine az (Us al) ?_
  rintro _ go ⟨rfl,J101⟩
  have bq:JI (js0 s.now) 0:=JI.new b9 h1 0
  obtain⟨b0,c1,el⟩:=Tw E b9 h1
  have c6:=bq.set (rs:=E) up L0 [97,61,49] WJ
  rw[c1]at c6
  refine⟨rfl,λY=>Cz w b2 E ⟨[b0],1,s.now⟩ Y,?_,aP.of ?_ _⟩
  ·refine az (yJ J101 bq (by decide)) ?_
   rintro _ ev ⟨a,l,c,rfl,X,d6,cb⟩
   have ag:=X.len
   have ag:l=0:=ag
   subst ag
   refine⟨_,_,_,rfl,ai.no rfl ⟨rfl,rfl,?_⟩⟩
   refine az (Me (J101.below cb)) ?_
   rintro _ gq ⟨rfl,en⟩
   rw[en]
   refine⟨_,rfl,ai.no (by show(s.now !=s.now)=false;simp) ?_⟩
   refine az (qa _ (by decide) ev) ?_
   rintro _ gr ⟨rfl,dr⟩
   refine⟨_,rfl,?_⟩
   refine az (HT ((J101.below cb).below dr) bq (by decide) (u:=up) L0 Xl WJ [97,61,49] (by decide)) ?_
   rw[c1]
   rintro _ gs ⟨rfl,c9⟩
   exact⟨_,rfl,ai.no rfl c9⟩
  ·intro Y b6
   refine az (yJ b6 c6 (by decide)) ?_
   rintro _ gt ⟨a,l,c,rfl,X,d6,d0⟩
   have ag:l=1:=X.len
   subst ag
   refine⟨_,_,_,rfl,ai.yes rfl ⟨⟨⟨by decide,by decide⟩,X.all.isSome (i:=0) (by simp)⟩,?_,b0.c.seq,?_,(by show Value.bool _=_;rw[el];rfl),?_⟩⟩
   ·exact CN (X.all.isSome (i:=0) (by simp))
   ·exact IY br rfl X (i:=0) (by simp) (j:=28) (by decide) (by exact be b0.ok 8)
   ·obtain⟨_,_,_,_,ad,_⟩:=b6
    exact ah ad d0 ad.size
end Go.Pk
