/- What the law alone leans on: Names, V31, V39, RegA, RegC, RegF, RegU, V49, RegV; what is used. Its conditions: none. -/
import Derived.Test.YtpafoodmpjlkhaaGreatDoorKK
set_option linter.unusedVariables false
set_option linter.unusedSimpArgs false
set_option linter.unusedSectionVars false
set_option maxRecDepth 100000
open Go.IntKind (i64)
open Go.Proofs.Tryz
open List (length)
open Option (isSome)
namespace Go.Pk
open Go.RowKit (Below)
open Go.Proofs
abbrev ny:Nat:=10
abbrev ck:Nat:=38
abbrev fQ:Nat:=79
abbrev eX:Nat:=80
abbrev bM:Nat:=82
theorem sg (a b:Int)(c:Option Addr)(d e:Nat)(f:Option Addr)(g i:Nat)(j:Option Addr)(k l:Nat){w K}(h:nA w (.cells #[vI a,vI b,.slice c d e,.slice f g i] af) λm n=>∃o p q r s t u v,Ld af (vA m 0) n (.agg #[vI o,vI p,.slice q r s,.slice t u v])/\uB iM #[.agg #[vI o,vI p,.slice q r s,.slice t u v]] n λx y=>ae (!x) (K (.bool false) y) (true/\∃z,Ld aw (vA m 1) y (vI z)/\∃A:Nat->FP [.one (.int .i64),.one (.int .i64)],(∃B,A B z (0:Int) y)/\∀B C D,aC 24 (∀E,A B C D E->ae (decide (D<((k:Nat):Int))) ((bx D ((k:Nat):Int)/\Option.isSome j=true)/\∃F,Ld aw (ao j D 1) E (vI F)/\∃G:FP [],(ae (decide (F<(0:Int))) (K (.bool false) E) (true/\∃H,Ld aw (vA m 0) E (vI H)/\ae (decide (F >=H)) (K (.bool false) E) (G E)))/\aC 9 (∀H,G H->true/\∃I J L,Ld ar (vA m 2) H (.slice I J L)/\true/\∃M,Ld aw (vA m 0) H (vI M)/\(bx (i64.wrap ((i64.wrap (C*M))+F)) ((J:Nat):Int)/\Option.isSome I=true)/\∃N,Ld aw (ao I (i64.wrap ((i64.wrap (C*M))+F)) 1) H (vI N)/\∃O:Nat,O<B/\A O N (i64.wrap (D+(1:Int))) H)) (true/\∃F G H,Ld aO (vA m 3) E (.slice F G H)/\(bx C ((G:Nat):Int)/\Option.isSome F=true)/\∃I,Ld aX (ao F C 1) E (.bool I)/\K (.bool I) E)))):Cf bM #[.agg #[vI a,vI b,.slice c d e,.slice f g i],.slice j k l] w (Ret K):=ru func82 [(16,[(5,.one (.int .i64)),(15,.one (.int .i64))]),(27,[])] h
theorem qH (a:Option Addr)(b c:Value){w K}(h:nA w (.cells (Value.cells b) aj) λd e=>nA e (.cells (Value.cells c) aq) λf g=>∃i:FP [],(∃j,Ld aq (vA f 0) g j/\uB fQ #[j] g λk l=>ae (!k) (K (.bool false) l) (true/\∃m,Ld aX (vA f 0) l (.bool m)/\uI eX #[.bool m] l λn o=>true/\(bx n ((2:Nat):Int)/\true)/\∃p,Ld aX (ao (vA d 8) n 1) o (.bool p)/\ae (!p) (K (.bool false) o) (true/\∃q,Ld aw (vA f 20) o (vI q)/\true/\(bx q ((3:Nat):Int)/\true)/\∃r,Ld aX (ao (vA d 10) q 1) o (.bool r)/\ae (!r) (K (.bool false) o) (i o))))/\aC 21 (∀j,i j->true/\∃k,Ld au (vA f 19) j (vS k)/\Cf iB #[vS k] j λl m=>∃n o p q,l=rT #[.slice n o p,.bool q]/\true/\true/\(∃r s t u v x y z,Ld af (vA d 0) (World.drew m) (.agg #[vI r,vI s,.slice t u v,.slice x y z])/\∃A,Ld ai (vA f 1) (World.drew m) A/\uL eG #[.pointer a,A] (World.drew m) λB C D E=>uB bM #[.agg #[vI r,vI s,.slice t u v,.slice x y z],.slice B C D] E λF G=>ae F (true/\∃H I J L M N O P,Ld af (vA d 4) G (.agg #[vI H,vI I,.slice J L M,.slice N O P])/\uB bM #[.agg #[vI H,vI I,.slice J L M,.slice N O P],.slice n o p] G λQ R=>K (.bool Q) R) (K (.bool false) G))/\∃r,Ld ai (vA f 1) (World.drew m) r/\(∃s t u v x y z A,Ld af (vA d 0) (World.drew m) (.agg #[vI s,vI t,.slice u v x,.slice y z A])/\uL eG #[.pointer a,r] (World.drew m) λB C D E=>uB bM #[.agg #[vI s,vI t,.slice u v x,.slice y z A],.slice B C D] E λF G=>ae F (true/\∃H I J L M N O P,Ld af (vA d 4) G (.agg #[vI H,vI I,.slice J L M,.slice N O P])/\uB bM #[.agg #[vI H,vI I,.slice J L M,.slice N O P],.slice n o p] G λQ R=>K (.bool Q) R) (K (.bool false) G))/\uL eG #[.pointer a,r] (World.drew m) λs t u v=>∃x y z A B C D E,Ld af (vA d 0) v (.agg #[vI x,vI y,.slice z A B,.slice C D E])/\uB bM #[.agg #[vI x,vI y,.slice z A B,.slice C D E],.slice s t u] v λF G=>ae F (true/\∃H I J L M N O P,Ld af (vA d 4) G (.agg #[vI H,vI I,.slice J L M,.slice N O P])/\uB bM #[.agg #[vI H,vI I,.slice J L M,.slice N O P],.slice n o p] G λQ R=>K (.bool Q) R) (K (.bool false) G))):Cf ck #[.pointer a,b,c] w (Ret K):=ru func38 [(2,[]),(1000013,[])] h
theorem nu (a:Value){w K}(h:nA w (.cells (Value.cells a) aq) λb c=>true/\∃d,Ld ai (vA b 1) c d/\uB mJ #[d] c λe f=>ae e (true/\∃g,Ld au (vA b 19) f (vS g)/\uB qY #[vS g] f λi j=>ae i (true/\∃k,Ld aw (vA b 20) j (vI k)/\ae (decide (k >=(0:Int))) (true/\∃l,Ld aw (vA b 20) j (vI l)/\K (.bool (decide (l <=(2:Int)))) j) (K (.bool false) j)) (K (.bool false) j)) (K (.bool false) f)):Cf fQ #[a] w (Ret K):=ru func79 [] h
theorem mr (a:Bool){w K}(h:ae a (K (vI 1) w) (K (vI 0) w)):Cf eX #[.bool a] w (Ret K):=ru func80 [] h
theorem FZ {r:Req}(o:r.ok)(hn:r.host.name.length <=80000000){w:World}(he:Env w):Cf fQ #[r.v] w (Ret λv w'=>v=.bool (mi r)/\bW w w'):=by
 apply nu
 intro k1 w1 hk1 hw1
 have b1:=(hw1▸ah w _:bW w w1)
 have A1:am w1 k1 aq r.cells:=am.new hk1 hw1
 refine⟨rfl,_,aJ.load A1 (i:=1) (us:=r.host.cells) (Hst.len o) (λj hj=>jp o hj),?_⟩
 refine ax (nY o (by omega) w1 (he.step b1)) ?_
 rintro _ w5 ⟨rfl,b5⟩
 have B5:=ab b1 b5 b1.size
 refine⟨_,rfl,ae.of (λh=>?_) (λh=>⟨by unfold mi;rw[h];rfl,B5⟩)⟩
 refine⟨rfl,_,(A1.below b5).load1 aA rfl (i:=19) (cK o 0),?_⟩
 refine ax (xE r.path w5) ?_
 rintro _ w9 ⟨rfl,b9⟩
 have B9:=ab B5 b9 B5.size
 have A9:=(A1.below b5).below b9
 refine⟨_,rfl,ae.of (λh2=>?_) (λh2=>⟨by unfold mi;rw[h,h2];rfl,B9⟩)⟩
 refine⟨rfl,_,A9.load1 aB rfl (i:=20) (cK o 1),ae.of (λh3=>?_) (λh3=>⟨by unfold mi;rw[h,h2,h3];rfl,B9⟩)⟩
 exact⟨rfl,_,A9.load1 aB rfl (i:=20) (cK o 1),by unfold mi;rw[h,h2,h3];rfl,B9⟩
theorem De (b:Bool)(w:World):Cf eX #[.bool b] w (Ret λv w'=>v=vI (if b=true then 1 else 0)/\w'=w):=by
 apply mr
 cases b
 · exact ae.no rfl ⟨rfl,rfl⟩
 · exact ae.yes rfl ⟨rfl,rfl⟩
theorem mH {w:World}{a b a1:Option Addr}{n c m e l1 c1:Nat}{d:DA}{ws:List Int}(h:DaS w a n c b m e d)(hs:Sl cI w kj a1 l1 c1 ws):
   Cf bM #[daV a n c b m e d,.slice a1 l1 c1] w (Ret λv w'=>v=.bool (dm d ws)/\bW w w'):=by
 apply sg
 intro k2 w2 hk2 hw2
 have hb2:=(hw2▸ah w _:bW w w2)
 have A2:am w2 k2 af [vI d.k,vI d.st,.slice a n c,.slice b m e]:=am.new hk2 hw2
 refine⟨_,_,a,n,c,b,m,e,bG.load0 (cs:=[vI d.k,vI d.st,.slice a n c,.slice b m e]) A2 rfl,?_⟩
 refine ax (ko (h.below hb2)) ?_
 rintro _ w9 ⟨rfl,hb9⟩
 have hB:=ab hb2 hb9 hb2.size
 have A9:=A2.below hb9
 have hx:=h.below hB
 have hy:=hs.below hB
 have hl1:=hy.len
 have hl1':=hy.le
 subst hl1
 refine⟨_,rfl,ae.of (λh1=>⟨?_,hB⟩) (λh1=>⟨rfl,d.st,A9.load1 aB rfl rfl,?_⟩)⟩
 · unfold dm
   rw[show okD d=false by simpa using h1];rfl
 have hok:okD d=true:=by simpa using h1
 have o:=di.1 hok
 have hkk:=o.kk
 have hm:=hx.ac.len
 have hn:=hx.nx.len
 refine⟨λM s i w'=>∃j:Nat,j <=ws.length/\i=(j:Int)/\M=ws.length-j/\Gh d.k (ws.take j)=true/\s=((d.run d.s ((ws.take j).map Int.toNat):Nat):Int)/\w'=w9,⟨_,0,by omega,rfl,rfl,rfl,by have:=o.s0;show d.st=((d.st.toNat:Nat):Int);omega,rfl⟩,?_⟩
 intro M s i
 refine aC.of ?_ _
 rintro w' ⟨j,hj,rfl,rfl,hsy,rfl,hw'⟩
 rw[hw'];clear hw' w'
 have hsl:∀x∈(ws.take j).map Int.toNat,x<d.K:=by
   intro x hx'
   obtain⟨y,hy',rfl⟩:=List.mem_map.1 hx'
   have:=List.all_eq_true.1 hsy y hy'
   simp only[Bool.and_eq_true,dTx]at this
   omega
 have hrl:=o.run_lt o.s_lt hsl
 refine ae.of (λh6=>?_) (λh6=>?_) <;> simp only[dTx,dFx]at h6
 · have hlt:j<ws.length:=by omega
   have bad: ¬ (0 <=ws[j]/\ws[j]<d.k)->dm d ws=false:=λhno=>by
     unfold dm
     have:Gh d.k ws=false:=by
       rw[Bool.eq_false_iff]
       intro hc
       have:=List.all_eq_true.1 hc _ (List.getElem_mem hlt)
       simp only[Bool.and_eq_true,dTx]at this
       exact hno this
     rw[this,Bool.false_and,Bool.and_false]
   refine⟨⟨⟨by omega,h6⟩,hy.isSome hlt⟩,_,hy.num aB hlt,λw'=>w'=w9/\0 <=ws[j]/\ws[j]<d.k,?_,aC.of ?_ _⟩
   · refine ae.of (λh7=>⟨?_,hB⟩) (λh7=>⟨rfl,_,A9.load1 aB rfl rfl,ae.of (λh8=>⟨?_,hB⟩) (λh8=>?_)⟩)
     · rw[bad (by simp only[dTx]at h7;omega)]
     · rw[bad (by simp only[dTx]at h8;omega)]
     · simp only[dFx]at h7 h8
       exact⟨rfl,by omega,by omega⟩
   · rintro wj ⟨hwj,h7,h8⟩
     rw[hwj];clear hwj wj
     obtain⟨x,hxx⟩:∃x:Nat,ws[j]=(x:Int):=⟨ws[j].toNat,by omega⟩
     have hxk:x<d.K:=by omega
     have hN:=o.n2
     have hK:=o.k2
     obtain⟨e1,e2⟩:=kI (s:=d.run d.s ((ws.take j).map Int.toNat)) (x:=x) (k:=d.K) (N:=d.n) hrl hxk hN (by omega)
     have hnl:=o.lenN
     obtain⟨v,hv,hv0,hv1,hto⟩:=o.at hrl hxk
     rw[hkk]at e1
     refine⟨rfl,a,n,c,A9.load1 aI rfl rfl,rfl,d.k,A9.load1 aB rfl rfl,?_⟩
     rw[hxx,e1]
     have hidx:d.run d.s ((ws.take j).map Int.toNat)*d.K+x<d.nx.length:=by omega
     have hgv:d.nx[d.run d.s ((ws.take j).map Int.toNat)*d.K+x]=v:=by
       rw[List.getElem?_eq_getElem hidx]at hv;exact Option.some.inj hv
     refine⟨⟨⟨by omega,by omega⟩,hx.nx.isSome hidx⟩,v,by rw[<- hgv];exact hx.nx.num aB hidx,ws.length-(j+1),by omega,j+1,by omega,by rw[wrap_i64 (by omega) (by omega)];omega,rfl,?_,?_,rfl⟩
     · unfold Gh at hsy ⊢
       rw[List.take_succ_eq_append_getElem hlt,List.all_append,hsy]
       rw[List.all_cons,List.all_nil,decide_eq_true h7,decide_eq_true h8];rfl
     · rw[List.take_succ_eq_append_getElem hlt,List.map_append,oA,List.map_cons,List.map_nil,hxx,Int.toNat_natCast]
       show v=((d.to _ x:Nat):Int)
       rw[hto];omega
 · have:j=ws.length:=by omega
   subst this
   rw[List.take_length]at hsy hrl ⊢
   have hidx:d.run d.s (ws.map Int.toNat)<d.ac.length:=hrl
   obtain⟨v,hv,hrep⟩:=hx.ac.load1 (P:=prog) (i:=((d.run d.s (ws.map Int.toNat):Nat):Int)) bv rfl rfl (by rw[Int.toNat_natCast];exact hidx)
   have hb:=xP hrep
   subst hb
   refine⟨rfl,b,m,e,A9.load1 bf rfl rfl,⟨⟨by omega,by omega⟩,hx.ac.isSome hidx⟩,_,hv,?_,hB⟩
   unfold dm
   rw[hok,hsy,Bool.true_and,Bool.true_and]
   congr 1
   simp only[Int.toNat_natCast]
   exact zg hidx
set_option maxHeartbeats 1000000 in
theorem r9 {q:Req}(o:q.ok)(hn:q.host.name.length <=1000000)(hp:q.path.length <=1000000){w:World}(he:Env w){p:Option Addr}{ts:List Txt}(hA:gB w p ts){r:Rgn}{x y:Rgp}(hr:RgS w r x y):
   Cf ck #[.pointer p,r.v x y,q.v] w (Ret λv w'=>v=.bool (hasB ts r q)/\bW w w'):=by
 apply qH
 intro k4 w4 hk4 hw4 k5 w5 hk5 hw5
 have b4:=(hw4▸ah w _:bW w w4)
 have b5:=(hw5▸ah w4 _:bW w4 w5)
 have A4:am w4 k4 aj (r.cells x y):=am.new hk4 hw4
 have A5:am w5 k5 aq q.cells:=am.new hk5 hw5
 have B5:=ab b4 b5 b4.size
 have A45:=A4.below b5
 refine⟨λW=>bW w5 W/\mi q=true/\(if q.sec=true then r.s1 else r.s0)=true/\(if q.cross=0 then r.c0 else if q.cross=1 then r.c1 else r.c2)=true,⟨_,bQ.load0 A5 (Req.len o),?_⟩,aC.of ?_ _⟩
 · refine ax (FZ o (by omega) (he.step B5)) ?_
   rintro _ w10 ⟨rfl,b10⟩
   have B10:=ab B5 b10 B5.size
   refine⟨_,rfl,ae.of (λh=>?_) (λh=>?_)⟩
   · have h:mi q=false:=by simpa using h
     exact⟨by unfold hasB;rw[h];rfl,B10⟩
   have h:mi q=true:=by simpa using h
   have hc:0 <=q.cross/\q.cross <=2:=by
     unfold mi at h
     simp only[Bool.and_eq_true,dTx]at h
     exact⟨h.2.2.1,h.2.2.2⟩
   refine⟨rfl,_,(A5.below b10).load1 bv rfl (i:=0) rfl,?_⟩
   refine ax (De q.sec w10) ?_
   rintro _ w15 ⟨rfl,hw15⟩
   rw[hw15];clear hw15 w15
   have AA:=A45.below b10
   refine⟨_,rfl,rfl,⟨⟨by split <;> omega,by split <;> omega⟩,rfl⟩,(if q.sec=true then r.s1 else r.s0),?_,ae.of (λh2=>?_) (λh2=>?_)⟩
   · by_cases hs:q.sec=true
     · rw[if_pos hs,if_pos hs]
       exact AA.load1 bv rfl (i:=9) rfl
     · rw[if_neg hs,if_neg hs]
       exact AA.load1 bv rfl (i:=8) rfl
   · have h2:(if q.sec=true then r.s1 else r.s0)=false:=by simpa using h2
     exact⟨by unfold hasB;rw[h,h2];rfl,B10⟩
   have h2:(if q.sec=true then r.s1 else r.s0)=true:=by simpa using h2
   refine⟨rfl,_,(A5.below b10).load1 aB rfl (i:=20) (cK o 1),rfl,⟨⟨hc.1,by omega⟩,rfl⟩,(if q.cross=0 then r.c0 else if q.cross=1 then r.c1 else r.c2),?_,ae.of (λh3=>?_) (λh3=>?_)⟩
   · have h4:q.cross=0\/q.cross=1\/q.cross=2:=by omega
     rcases h4 with h4|h4|h4 <;> rw[h4]
     · exact AA.load1 bv rfl (i:=10) rfl
     · exact AA.load1 bv rfl (i:=11) rfl
     · exact AA.load1 bv rfl (i:=12) rfl
   · have h3:(if q.cross=0 then r.c0 else if q.cross=1 then r.c1 else r.c2)=false:=by simpa using h3
     exact⟨by unfold hasB;rw[h,h2,h3];rfl,B10⟩
   · have h3:(if q.cross=0 then r.c0 else if q.cross=1 then r.c1 else r.c2)=true:=by simpa using h3
     exact⟨b10,h,h2,h3⟩
 rintro wj ⟨bj,h,h2,h3⟩
 have Bj:=ab B5 bj B5.size
 refine⟨rfl,_,(A5.below bj).load1 aA rfl (i:=19) (cK o 0),?_⟩
 refine ax (kX q.path hp wj) ?_
 rintro _ w32 ⟨a3,n3,c3,rfl,o3,f3,b32⟩
 have bd:=(ab bj b32 bj.size).drew
 have B0:=ab B5 bd B5.size
 have o0:Sl cI w32.drew kj a3 n3 c3 (p9 q.path):=o3.all.below (bg w32)
 have hst:∀{W:World},Below w32.drew.heap.size w32.drew W->(Instr.loadAt ai (.pointer (some ⟨k5,1,none⟩))).run prog W=.ok q.host.v W:=λhb=>aJ.load ((A5.below bd).below hb) (i:=1) (us:=q.host.cells) (Hst.len o) (λj hj=>jp o hj)
 have hos:∀{W:World},Below w32.drew.heap.size w32.drew W->(Instr.loadAt af (.pointer (some ⟨k4,0,none⟩))).run prog W=.ok (daV x.a x.n x.c x.b x.m x.e r.h) W:=λhb=>vi ((A45.below bd).below hb)
 have pas:∀{W:World},Below w32.drew.heap.size w32.drew W->(Instr.loadAt af (.pointer (some ⟨k4,4,none⟩))).run prog W=.ok (daV y.a y.n y.c y.b y.m y.e r.p) W:=λhb=>vj ((A45.below bd).below hb)
 have r0:Below w32.drew.heap.size w32.drew w32.drew:=Below.refl _ _
 have word:=oW o hn (he.step B0) (hA.below B0)
 have ask:∀{W:World} {a n c},Below w32.drew.heap.size w32.drew W->Ow cI aw W NoB a n c (hwV ts q.host)->
     Cf bM #[daV x.a x.n x.c x.b x.m x.e r.h,.slice a n c] W λe41 w41=>∃(b41:Bool),e41=.returned (.bool b41)/\
       ae b41
       ((true=true)/\
       ∃(n0:Int) (n1:Int) (a2:Option Addr) (l2 c2:Nat) (a3':Option Addr) (l3 c3':Nat),(Instr.loadAt af (.pointer (some ⟨k4,4,none⟩))).run prog w41=.ok (.agg #[vI n0,vI n1,.slice a2 l2 c2,.slice a3' l3 c3']) w41/\
       Cf bM #[.agg #[vI n0,vI n1,.slice a2 l2 c2,.slice a3' l3 c3'],.slice a3 n3 c3] w41 λe46 w46=>∃(b46:Bool),e46=.returned (.bool b46)/\
       ((.bool b46:Value)=.bool (hasB ts r q)/\bW w w46))
       ((.bool false:Value)=.bool (hasB ts r q)/\bW w w41):=by
   intro W a n c hb hO
   have BW:=ab B0 hb B0.size
   refine ax (mH (hr.h.below BW) hO.all) ?_
   rintro _ w41 ⟨rfl,b41⟩
   have b41':=ab hb b41 hb.size
   have B41:=ab BW b41 BW.size
   refine⟨_,rfl,ae.of (λh5=>⟨rfl,_,_,y.a,y.n,y.c,y.b,y.m,y.e,pas b41',?_⟩) (λh5=>⟨by unfold hasB;rw[h,h2,h3,h5];rfl,B41⟩)⟩
   refine ax (mH (hr.p.below B41) (o0.below b41')) ?_
   rintro _ w46 ⟨rfl,b46⟩
   exact⟨_,rfl,by unfold hasB;rw[h,h2,h3,h5];rfl,ab B41 b46 B41.size⟩
 refine⟨a3,n3,c3,_,rfl,rfl,rfl,⟨_,_,x.a,x.n,x.c,x.b,x.m,x.e,hos r0,_,hst r0,?_⟩,_,hst r0,⟨_,_,x.a,x.n,x.c,x.b,x.m,x.e,hos r0,?_⟩,?_⟩
 · refine ax word ?_
   rintro _ w40 ⟨a,n,c,rfl,hO,hF,hb⟩
   exact⟨a,n,c,rfl,ask hb hO⟩
 · refine ax word ?_
   rintro _ w40 ⟨a,n,c,rfl,hO,hF,hb⟩
   exact⟨a,n,c,rfl,ask hb hO⟩
 · refine ax word ?_
   rintro _ w40 ⟨a,n,c,rfl,hO,hF,hb⟩
   exact⟨a,n,c,rfl,_,_,x.a,x.n,x.c,x.b,x.m,x.e,hos hb,ask hb hO⟩
theorem CR {P:Program}{f:FuncId}{args:Array Value}{u:World}{b:Bool}(h:Calls P f args u (Ret λv w'=>v=.bool b/\bW u w')):Calls P f args u λe w'=>e=.returned (.bool b)/\bW u w':=
 h.mono λe w' ⟨v,he,hv,hb⟩=>⟨by rw[he,hv],hb⟩
theorem JP {ts:List Txt}(htl:ts.length <=60){x y:Rgn}{h p:DA}(t:RgT ts x y)(mh:oC x.h y.h h)(mp:oC x.p y.p p):hB ts h=true/\pB p=true/\Few h (Bi ts)/\Few p (dE [47]):=by
 obtain⟨oh,kh⟩:=mh.ok
 obtain⟨op,kp⟩:=mp.ok
 have nh:=mh.len t.fh
 have np:=mp.len t.fp
 obtain⟨b1,b2,_,b4⟩:=qk (s:=[47]) (by decide)
 have b4:(dE [47]).n <=3:=b4
 have k1:h.k=(ts.length:Int)+1:=by rw[kh,t.kx];omega
 refine⟨?_,?_,zm oh (Fe htl) (k1.trans (I6 ts).symm) ?_,zm op b1 ((kp.trans t.kp).trans b2.symm) ?_⟩
 · unfold hB;rw[di.2 oh,decide_eq_true k1];rfl
 · unfold pB;rw[di.2 op,decide_eq_true (kp.trans t.kp)];rfl
 · show h.n*4 <=65536;omega
 · exact Nat.le_trans (Nat.mul_le_mul np b4) (by decide)
theorem tl (a:Option Addr)(b c:Nat)(d e:Value){w K}(h:nA w (.cells (Value.cells d) aL) λf g=>nA g (.cells (Value.cells e) aq) λi j=>uB du #[] j λk l=>ae (!k) (K (.bool false) l) (true/\true/\true/\∃m,Ld au (vA f 3) l (vS m)/\true/\true/\∃n,Ld au (vA f 21) l (vS n)/\true/\true/\true/\∃o,Ld au (vA f 31) l (vS o)/\true/\true/\∃p,Ld au (vA f 50) l (vS p)/\true/\true/\∃q,Ld au (vA i 2) l (vS q)/\true/\∃r,Ld au (vA i 19) l (vS r)/\nA l (.cells #[vS m,vS n,vS o,vS p,vS q,vS r] au) λs t=>uB ji #[.slice a b c,.slice (vA s 0) 6 6] t λu v=>ae u (K (.bool true) v) (∃x,Ld aL (vA f 0) v x/\Cf gu #[.slice a b c,x] v λy z=>∃A B C,y=rT #[A,B,.bool C]/\nA z (.cells aV aj) λD E=>nA E (.cells aV aj) λF G=>∃H,Sv aj (vA D 0) A G H/\∃I,Sv aj (vA F 0) B H I/\ae (!C) (K (.bool true) I) (uP gI #[.slice a b c] I λJ L=>∃M,Ld aj (vA D 0) L M/\∃N,Ld aj (vA F 0) L N/\Cf dI #[M,N] L λO P=>∃Q R,O=rT #[Q,vI R]/\nA P (.cells aV aj) λS T=>∃U,Sv aj (vA S 0) Q T U/\∃V,Ld aj (vA F 0) U V/\∃X,Ld aj (vA D 0) U X/\Cf dI #[V,X] U λY Z=>∃aa ac,Y=rT #[aa,vI ac]/\nA Z (.cells aV aj) λad ag=>∃al,Sv aj (vA ad 0) aa ag al/\∃an,Ld aj (vA S 0) al an/\∃ba,Ld aj (vA D 0) al ba/\Cf dI #[an,ba] al λbb bc=>∃bd bj,bb=rT #[bd,vI bj]/\nA bc (.cells aV aj) λbk bl=>∃bn,Sv aj (vA bk 0) bd bl bn/\∃bo,Ld aj (vA D 0) bn bo/\∃bq,Ld aj (vA D 0) bn bq/\Cf dI #[bo,bq] bn λbw bx=>∃bz ca,bw=rT #[bz,vI ca]/\nA bx (.cells aV aj) λcc ch=>∃cl,Sv aj (vA cc 0) bz ch cl/\∃cm,Ld aj (vA S 0) cl cm/\Cf dV #[.pointer J,cm] cl λcn cp=>∃cs cx da,cn=rT #[cs,.bool cx,vI da]/\nA cp (.cells dD aq) λdb dc=>∃dd,Sv aq (vA db 0) cs dc dd/\∃dg,Ld aj (vA ad 0) dd dg/\Cf dV #[.pointer J,dg] dd λdk dl=>∃dn dr ds,dk=rT #[dn,.bool dr,vI ds]/\nA dl (.cells dD aq) λea eb=>∃ec,Sv aq (vA ea 0) dn eb ec/\ae (R==(0:Int)) (ae (ac==(0:Int)) (ae (bj==(0:Int)) (ae (ca==(0:Int)) (ae (da==(0:Int)) (ae (ds==(0:Int)) (∃ed,(∀ef,bW ec ef->Ld aq (vA db 0) ef ed)/\∃ef,(∀eg,bW ec eg->Ld aq (vA ea 0) eg ef)/\∃eg,(∀eh,bW ec eh->(do eqGuard .eql aq (.tmp 121) (.tmp 122) ed ef;binOp .eql aq ed ef:Sem Value).run prog eh=.ok (.bool eg) eh)/\ae eg (ae (cx==dr) (∃eh,(∀ei,bW ec ei->Ld aj (vA S 0) ei eh)/\∃ei,(∀ej,bW ec ej->Ld aq (vA i 0) ej ei)/\∃ej,(∀ek,bW ec ek->Cf ck #[.pointer J,eh,ei] ek λel em=>el=.returned (.bool ej)/\bW ek em)/\∃ek,(∀el,bW ec el->Ld aj (vA ad 0) el ek)/\∃el,(∀em,bW ec em->Ld aq (vA i 0) em el)/\∃em,(∀en,bW ec en->Cf ck #[.pointer J,ek,el] en λeo ep=>eo=.returned (.bool em)/\bW en ep)/\ae (ej==em) (∃en,(∀eo,bW ec eo->Ld aj (vA bk 0) eo en)/\∃eo,(∀ep,bW ec ep->Ld aq (vA i 0) ep eo)/\∃ep,(∀eq,bW ec eq->Cf ck #[.pointer J,en,eo] eq λer es=>er=.returned (.bool ep)/\bW eq es)/\∃eq,(∀er,bW ec er->Ld aj (vA S 0) er eq)/\∃er,(∀es,bW ec es->Ld aq (vA i 0) es er)/\∃es,(∀et,bW ec et->Cf ck #[.pointer J,eq,er] et λev ew=>ev=.returned (.bool es)/\bW et ew)/\ae (ep==es) (∃et,(∀ev,bW ec ev->Ld aj (vA cc 0) ev et)/\∃ev,(∀ew,bW ec ew->Ld aq (vA i 0) ew ev)/\∃ew,(∀ex,bW ec ex->Cf ck #[.pointer J,et,ev] ex λey ez=>ey=.returned (.bool ew)/\bW ex ez)/\∃ex,(∀ey,bW ec ey->Ld aj (vA D 0) ey ex)/\∃ey,(∀ez,bW ec ez->Ld aq (vA i 0) ez ey)/\∃ez,(∀fa,bW ec fa->Cf ck #[.pointer J,ex,ey] fa λfb fd=>fb=.returned (.bool ez)/\bW fa fd)/\ae (ew==ez) (∃fa,(∀fb,bW ec fb->Ld aj (vA S 0) fb fa)/\∃fb,(∀fd,bW ec fd->Ld aq (vA i 0) fd fb)/\∃fd,(∀fh,bW ec fh->Cf ck #[.pointer J,fa,fb] fh λfl fn=>fl=.returned (.bool fd)/\bW fh fn)/\∃fh,(∀fl,bW ec fl->Ld aj (vA D 0) fl fh)/\∃fl,(∀fn,bW ec fn->Ld aq (vA i 0) fn fl)/\∃fn,(∀fo,bW ec fo->Cf ck #[.pointer J,fh,fl] fo λfp fr=>fp=.returned (.bool fn)/\bW fo fr)/\ae fn (∃fo,(∀fp,bW ec fp->Ld aj (vA F 0) fp fo)/\∃fp,(∀fr,bW ec fr->Ld aq (vA i 0) fr fp)/\∃fr,(∀fs,bW ec fs->Cf ck #[.pointer J,fo,fp] fs λft fw=>ft=.returned (.bool fr)/\bW fs fw)/\∀fs,bW ec fs->K (.bool (fd==fr)) fs) (∀fo,bW ec fo->K (.bool (fd==false)) fo)) (∀fa,bW ec fa->K (.bool false) fa)) (∀et,bW ec et->K (.bool false) et)) (∀en,bW ec en->K (.bool false) en)) (∀eh,bW ec eh->K (.bool false) eh)) (∀eh,bW ec eh->K (.bool false) eh)) (∀ed,bW ec ed->K (.bool false) ed)) (∀ed,bW ec ed->K (.bool false) ed)) (∀ed,bW ec ed->K (.bool false) ed)) (∀ed,bW ec ed->K (.bool false) ed)) (∀ed,bW ec ed->K (.bool false) ed)) (∀ed,bW ec ed->K (.bool false) ed))))):Cf ny #[.slice a b c,d,e] w (Ret K):=ru func10 [(1000043,[]),(3000043,[(0,.one .bool),(1,.one .bool),(2,.one .bool),(3,.one .bool),(4,.one .bool),(5,.one .bool),(6,.one .bool),(7,.one .bool),(8,.one .bool),(9,.one .bool),(10,.one .bool),(11,.one .bool),(12,.one .bool),(13,.one .bool),(14,.one .bool),(15,.one .bool),(16,.one .bool),(17,.one .bool),(18,.one .bool),(19,.one .bool),(20,.one .bool),(21,.one .bool),(22,.one .bool),(23,.one .bool),(24,.one .bool),(25,.one .bool),(26,.one .bool),(27,.one .bool),(28,.one .bool),(29,.one .bool),(30,.one .bool),(31,.one .bool),(32,.one .bool),(33,.one .bool),(37,.one .bool),(34,.one .bool),(35,.one .bool),(36,.one .bool),(38,.one .bool),(39,.one .bool),(40,.one .bool),(41,.one .bool),(42,.one .bool),(43,.one .bool),(44,.one .bool),(48,.one .bool),(45,.one .bool),(46,.one .bool),(47,.one .bool),(49,.one .bool),(50,.one .bool),(51,.one .bool),(52,.one .bool),(53,.one .bool),(54,.one .bool),(55,.one .bool),(59,.one .bool),(56,.one .bool),(57,.one .bool),(58,.one .bool),(60,.one .bool),(61,.one .bool),(62,.one .bool),(63,.one .bool),(64,.one .bool),(65,.one .bool),(66,.one .bool),(70,.one .bool),(67,.one .bool),(68,.one .bool),(69,.one .bool),(71,.one .bool),(72,.one .bool),(73,.one .bool),(74,.one .bool),(75,.one .bool),(76,.one .bool),(77,.one .bool),(78,.one .bool),(79,.one .bool),(80,.one .bool),(81,.one .bool),(82,.one .bool)])] h
theorem oB.one {ts:List Txt}{L:List Nat->Prop}{r r':Option Hst}(h:oB ts L r)(k:oB ts L r'):r=r':=by
 cases r with
 | none=>
   cases r' with
   | none=>rfl
   | some p=>
     obtain⟨v,h1,h2,h3⟩:=k
     have:=h v h1.1.1 h1.1.2
     omega
 | some p=>
   obtain⟨v,h1,h2,h3⟩:=h
   cases r' with
   | none=>
     have:=k v h1.1.1 h1.1.2
     omega
   | some q=>
     obtain⟨u,k1,k2,k3⟩:=k
     have e:=h1.one k1
     subst e
     rw[h3]at k3;exact k3
theorem zB {w:World}{x y:Rgn}{X1 X2 Y1 Y2:Rgp}(hx:RgS w x X1 X2)(hy:RgS w y Y1 Y2)(fh:Few x.h y.h)(fp:Few x.p y.p)(hok:uj x y=true)(R:Nat->Int->World->Prop)
   (H:∀(k:Nat) (W:World) (h p:DA) (Z1 Z2:Rgp),bW w W->am W k aj ((mM x y h p).cells Z1 Z2)->RgS W (mM x y h p) Z1 Z2->oC x.h y.h h->oC x.p y.p p->R k 0 W):
   Cf dI #[x.v X1 X2,y.v Y1 Y2] w λe w'=>∃(v0:Value) (n1:Int),e=.returned (.tuple #[v0,vI n1])/\
     ∀(k:Nat) (w11:World),k=w'.heap.size->w11=w'.alloc (.cells aV aj)->∃(wx:World),(Instr.storeAt aj (.pointer (some ⟨k,0,none⟩)) v0).run prog w11=.ok () wx/\R k n1 wx:=by
 refine ax (KR hx hy (λ_ _ _=>fh) (λ_ _ _=>fp)) ?_
 rintro v w51 ⟨b51,hv⟩
 rw[if_pos hok]at hv
 obtain⟨h,pt,Z1,Z2,mh,mp,rfl,sz⟩:=hv
 refine⟨_,0,rfl,?_⟩
 intro k11 w11 hk11 hw11
 have b11:=(hw11▸ah w51 _:bW w51 w11)
 obtain⟨wz,q3,v11,gr3⟩:=aE.store0 (P:=prog) (cs:=(mM x y h pt).cells Z1 Z2) rfl (Rgn.one _ _ _) (am.new hk11 hw11:am w11 k11 aj (rg0.cells rp0 rp0)) rfl
 have bz:bW w51 wz:=Below.put b11 gr3 (by omega)
 exact⟨wz,q3,H k11 wz h pt Z1 Z2 (ab b51 bz b51.size) v11 (sz.below bz) mh mp⟩
theorem HL {w:World}(he:Env w){p:Option Addr}{ts:List Txt}(hA:gB w p ts)(htl:ts.length <=60)(hx:∀t∈ts,t.length <=70){r:Rgn}{x y:Rgp}(hr:RgS w r x y)(hk:hB ts r.h=true/\pB r.p=true/\Few r.h (Bi ts)/\Few r.p (dE [47]))(R:Nat->Bool->Int->World->Prop)
   (H:∀(k:Nat) (W:World) (rh:Option Hst) (rp:Option (List UInt8)),bW w W->oB ts (r.h.Lang r.h.s) rh->j6 (r.p.Lang r.p.s) rp->((zc r rh rp).getD Gt).ok->am W k aq ((zc r rh rp).getD Gt).cells->R k (zc r rh rp).isSome 0 W):
   Cf dV #[.pointer p,r.v x y] w λe w'=>∃(v0:Value) (b1:Bool) (n1:Int),e=.returned (.tuple #[v0,.bool b1,vI n1])/\
     ∀(k:Nat) (w11:World),k=w'.heap.size->w11=w'.alloc (.cells dD aq)->∃(wx:World),(Instr.storeAt aq (.pointer (some ⟨k,0,none⟩)) v0).run prog w11=.ok () wx/\R k b1 n1 wx:=by
 refine ax (mg he hA htl hx hr hk.1 hk.2.1 hk.2.2.1 hk.2.2.2) ?_
 rintro _ w61 ⟨b61,rh,rp,hL,hok,hP,rfl⟩
 have o:((zc r rh rp).getD Gt).ok:=by
   cases rh with
   | none=>exact(rfl:Gt.ok)
   | some g=>
     cases rp with
     | none=>exact(rfl:Gt.ok)
     | some t=>
       have og:=hok g rfl
       unfold zc
       dsimp only
       split
       · exact(rfl:Gt.ok)
       · exact og
 refine⟨_,_,0,rfl,?_⟩
 intro k13 w13 hk13 hw13
 have b13:=(hw13▸ah w61 _:bW w61 w13)
 obtain⟨wx,q1,v13,gr⟩:=bQ.store0 (P:=prog) (Req.len o) (Req.one _) (am.new hk13 hw13:am w13 k13 aq Gt.cells) rfl
 have bx:bW w61 wx:=Below.put b13 gr (by omega)
 exact⟨wx,q1,H k13 wx rh rp (ab b61 bx b61.size) hL hP o v13⟩
theorem N8 {x y:Rgn}(h p h' p':DA)(rh:Option Hst)(rp:Option (List UInt8)):zc (mM x y h p) rh rp=zc (mM y x h' p') rh rp:=by
 have e1:(mM x y h p).sch=(mM y x h' p').sch:=by show[_,_]=[_,_];simp[mM,Bool.and_comm]
 have e2:(mM x y h p).crs=(mM y x h' p').crs:=by show[_,_,_]=[_,_,_];simp[mM,Bool.and_comm]
 unfold zc
 rw[e1,e2]
set_option maxHeartbeats 1000000 in
theorem BG {w:World}(he:Env w){a:Option Addr}{n c:Nat}{l:List Txt}(hs:Sl tS w kj a n c l){k:Cas}(o:k.ok){q:Req}(oq:q.ok):
   Cf ny #[.slice a n c,k.v,q.v] w (Ret λv w'=>v=.bool true/\bW w w'):=by
 apply tl
 refine Ff he hs o oq (K:=λv w'=>v=.bool true/\bW w w') _ (λw' h=>⟨rfl,h⟩) ?_
 intro k4 k5 k7 k8 p k11 W x y z X1 X2 Y1 Y2 Z1 Z2 F
 have htl:(pZ l).length <=16:=Nat.le_trans (sq l) F.ll
 have g5:=F.qn
 have g6:=F.qp
 have T:=F.rt
 have U:=T.swap
 have ez:=F.ze
 have hk:=T.kp.trans T.kq.symm
 have zh:=F.mh.ok
 have zp:=F.mp.ok
 refine⟨_,aE.load0 F.a8 rfl,_,aE.load0 F.a7 rfl,?_⟩
 refine zB F.sy F.sx (U.fh.few (by decide)) (U.fp.few (by decide)) U.meet _ ?_
 intro k13 W1 h1 p1 V1 V2 b1 a13 s13 mh1 mp1
 have B1:=ab F.bel b1 F.bel.size
 refine⟨_,aE.load0 (F.a11.below b1) rfl,_,aE.load0 (F.a7.below b1) rfl,?_⟩
 have ok2:uj z x=true:=by
   unfold uj
   rw[ov.2 ⟨zh.1,T.xh,zh.2⟩,ov.2 ⟨zp.1,T.xp,zp.2⟩];rfl
 refine zB (F.sz.below b1) (F.sx.below b1) (F.mh.few T.fh (by decide)).1 (F.mp.few T.fp (by decide)).1 ok2 _ ?_
 intro k15 W2 h2 p2 U1 U2 b2 a15 s15 mh2 mp2
 have c2:=ab b1 b2 b1.size
 have B2:=ab F.bel c2 F.bel.size
 refine⟨_,aE.load0 (F.a7.below c2) rfl,_,aE.load0 (F.a7.below c2) rfl,?_⟩
 have ok3:uj x x=true:=by
   unfold uj
   rw[ov.2 ⟨T.xh,T.xh,rfl⟩,ov.2 ⟨T.xp,T.xp,rfl⟩];rfl
 refine zB (F.sx.below c2) (F.sx.below c2) (F.mh.few T.fh (by decide)).2 (F.mp.few T.fp (by decide)).2 ok3 _ ?_
 intro k17 W3 h3 p3 T1 T2 b3 a17 s17 mh3 mp3
 have c3:=ab c2 b3 c2.size
 have B3:=ab F.bel c3 F.bel.size
 refine⟨_,aE.load0 (F.a11.below c3) rfl,?_⟩
 refine HL (he.step B3) (F.al.below c3) (by omega) F.lx (F.sz.below c3) (JP (by omega) T F.mh F.mp) _ ?_
 intro k19 W4 rh rp b4 hL hP or a19
 have c4:=ab c3 b4 c3.size
 have B4:=ab F.bel c4 F.bel.size
 have d4:=ab b2 (ab b3 b4 b3.size) b2.size
 have a13:=a13.below d4
 have s13:=s13.below d4
 have hw:=JP (by omega) U mh1 mp1
 refine⟨_,aE.load0 a13 rfl,?_⟩
 refine HL (he.step B4) (F.al.below c4) (by omega) F.lx s13 hw _ ?_
 intro k22 W5 rh' rp' b5 hL' hP' or' a22
 have c5:=ab c4 b5 c4.size
 have B5:=ab F.bel c5 F.bel.size
 have e1:rh'=rh:=oB.one (oB.congr hL' λv=>by rw[show(mM y x h1 p1).h=h1 from rfl,mh1.lang U.kh,F.mh.lang T.kh];exact And.comm) hL
 have e2:rp'=rp:=j6.one (j6.congr hP' λv=>by rw[show(mM y x h1 p1).p=p1 from rfl,mp1.lang (U.kp.trans U.kq.symm),F.mp.lang hk];exact And.comm) hP
 have e3:zc (mM y x h1 p1) rh' rp'=zc z rh rp:=by rw[e1,e2,ez];exact N8 _ _ _ _ _ _
 rw[e3]at a22 or' ⊢
 obtain⟨rq,erq⟩:∃rq,rq=(zc z rh rp).getD Gt:=⟨_,rfl⟩
 rw[<- erq]at a19 a22 or
 clear e1 e2 e3 hL hL' hP hP'
 have f3:=ab b4 b5 b4.size
 have f2:=ab b3 f3 b3.size
 have A13:=a13.below b5
 have A15:=a15.below f2
 have A17:=a17.below f3
 have A19:=a19.below b5
 have A5:=F.a5.below c5
 have A7:=F.a7.below c5
 have A8:=F.a8.below c5
 have A11:=F.a11.below c5
 have S13:=s13.below b5
 have S15:=s15.below f2
 have S17:=s17.below f3
 have Sz:=F.sz.below c5
 have Sx:=F.sx.below c5
 have Sy:=F.sy.below c5
 have Al:=F.al.below c5
 have lq:=fun(u:World) (hu:bW W5 u)=>bQ.load0 (P:=prog) (A5.below hu) (Req.len oq)
 have ask:=fun{r:Rgn} {P1 P2:Rgp} (hr:RgS W5 r P1 P2) (u:World) (hu:bW W5 u)=>CR (r9 oq (by omega) (by omega) (he.step (ab B5 hu B5.size)) (Al.below hu) (hr.below hu))
 have hz:hasB (pZ l) z q=(hasB (pZ l) x q&&hasB (pZ l) y q):=by rw[ez];exact ya F.mh F.mp T.xh T.yh T.xp T.yp T.kh hk q
 have hv:hasB (pZ l) (mM y x h1 p1) q=(hasB (pZ l) x q&&hasB (pZ l) y q):=by rw[ya mh1 mp1 T.yh T.xh T.yp T.xp U.kh (U.kp.trans U.kq.symm) q,Bool.and_comm]
 have h2':hasB (pZ l) (mM z x h2 p2) q=hasB (pZ l) z q:=by
   rw[ya mh2 mp2 zh.1 T.xh zp.1 T.xp zh.2 zp.2 q,hz]
   cases hasB (pZ l) x q <;> cases hasB (pZ l) y q <;> rfl
 have h3':hasB (pZ l) (mM x x h3 p3) q=hasB (pZ l) x q:=by rw[ya mh3 mp3 T.xh T.xh T.xp T.xp rfl rfl q,Bool.and_self]
 refine ae.yes rfl (ae.yes rfl (ae.yes rfl (ae.yes rfl (ae.yes rfl (ae.yes rfl ⟨_,λu hu=>bQ.load0 (A19.below hu) (Req.len or),_,λu hu=>bQ.load0 (a22.below hu) (Req.len or),_,λu hu=>Mu or or u,ae.yes ((CT or or).2 rfl) (ae.yes (beq_self_eq_true _) ⟨_,λu hu=>aE.load0 (A11.below hu) rfl,_,lq,_,ask Sz,_,λu hu=>aE.load0 (A13.below hu) rfl,_,lq,_,ask S13,ae.yes (by rw[hz,hv];exact beq_self_eq_true _) ⟨_,λu hu=>aE.load0 (A15.below hu) rfl,_,lq,_,ask S15,_,λu hu=>aE.load0 (A11.below hu) rfl,_,lq,_,ask Sz,ae.yes (by rw[h2'];exact beq_self_eq_true _) ⟨_,λu hu=>aE.load0 (A17.below hu) rfl,_,lq,_,ask S17,_,λu hu=>aE.load0 (A7.below hu) rfl,_,lq,_,ask Sx,ae.yes (by rw[h3'];exact beq_self_eq_true _) ⟨_,λu hu=>aE.load0 (A11.below hu) rfl,_,lq,_,ask Sz,_,λu hu=>aE.load0 (A7.below hu) rfl,_,lq,_,ask Sx,ae.of (λhx=>⟨_,λu hu=>aE.load0 (A8.below hu) rfl,_,lq,_,ask Sy,λwq hq=>⟨?_,ab B5 hq B5.size⟩⟩) (λhx wq hq=>⟨?_,ab B5 hq B5.size⟩)⟩⟩⟩⟩)⟩)))))
 · rw[hz,hx,Bool.true_and,beq_self_eq_true]
 · rw[hz,hx];rfl
end Go.Pk
