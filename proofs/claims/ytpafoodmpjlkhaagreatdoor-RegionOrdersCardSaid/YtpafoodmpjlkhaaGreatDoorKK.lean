/- What the laws lean on: TigS, TigH, TigD, TigE, TigF, RegN, RegO, RegR, RegS, OpenH, OpenG, OpenP; what is used. Its conditions: none. -/
import Derived.Test.YtpafoodmpjlkhaaGreatDoorKJ
import Derived.ChangeArms
import Derived.ChangeSame
import Derived.Deep.Slices
set_option linter.unusedVariables false
set_option linter.unusedSimpArgs false
set_option linter.unusedSectionVars false
set_option maxRecDepth 100000
open Go.IntKind (i64)
open Go.Proofs.Tryz
namespace Go.Pk
open Go.RowKit (Below)
open Go.Proofs
def KO (d:DA)(f j:Nat)(hs:List Hi):Prop:=hs.length=d.n*d.K/\∀i h,hs[i]? =some h->h.xs=nI (bkN d f j i)
theorem KO.push {d:DA}{f j:Nat}{hs:List Hi}(h:KO d f j hs)(hj:j<d.K){x x':Hi}(hx:hs[d.to f j*d.K+j]? =some x)(e:x'.xs=x.xs++[((f:Nat):Int)]):KO d f (j+1) (hs.set (d.to f j*d.K+j) x'):=by
 refine⟨by rw[List.length_set];exact h.1,λi y hy=>?_⟩
 rcases nv hy with⟨rfl,rfl⟩|⟨hne,hy⟩
 · rw[e,h.2 _ x hx,QG hj rfl];simp[nI]
 · rw[QH hj hne];exact h.2 i y hy
theorem KO.row {d:DA}(hK:0<d.K){f:Nat}{hs:List Hi}(h:KO d f d.K hs):KO d (f+1) 0 hs:=⟨h.1,λi x hx=>by rw[<- Pg d hK];exact h.2 i x hx⟩
def nX (hs:List Hi):List (List Int):=hs.map Hi.xs
theorem JF (ti:TypeId)(w:World)(m:Nat):Rws ti w (List.replicate m hi0):=by
 refine⟨λh hm=>?_,List.pairwise_iff_getElem.2 λi j hi hj _ b hb=>?_⟩
 · rw[(List.mem_replicate.1 hm).2];exact Ow.nil _ _ _ _
 · rw[List.getElem_replicate]at hb;cases hb
theorem Ht (m:Nat):BA (List.replicate m hi0)=[]:=by
 cases h:BA (List.replicate m hi0)with
 | nil=>rfl
 | cons b l=>
   have:b∈BA (List.replicate m hi0):=by rw[h];exact List.mem_cons_self
   obtain⟨x,hx,e⟩:=pX.1 this
   rw[(List.mem_replicate.1 hx).2]at e;cases e
abbrev sPs (kS:Nat)(vs:List Value)(B C M T:H3)(pool mems tods:List Hi)(cl:List Nat)(backs:List Hi):List Pt:=
 [ptR aw pool,ptO tHi ar M.a M.n M.c mems,ptO tHi ar T.a T.n T.c tods,ptO cI aw C.a C.n C.c (nI cl),ptR aw backs,ptO tHi ar B.a B.n B.c backs,ptA kS bJ (vs++[B.v,C.v,M.v,T.v])]
abbrev pPs (k1 kS:Nat)(vs:List Value)(B C M:H3)(pool mems:List Hi)(cl:List Nat)(backs:List Hi):List Pt:=
 [ptR aw pool,ptO tHi ar M.a M.n M.c mems,ptO cI aw C.a C.n C.c (nI cl),ptR aw backs,ptO tHi ar B.a B.n B.c backs,ptA kS bJ (vs++[B.v,C.v,M.v,.slice none 0 0]),ptA k1 af vs]
def Nn (d:DA)(vs:List Value)(w:World)(v:Value)(w':World):Prop:=
 ∃(kS:Nat) (B C M T:H3) (pool mems tods backs:List Hi),v=.pointer (some ⟨kS,0,none⟩)/\KO d d.n 0 backs/\nX mems=[nI (zC d d.n false),nI (zC d d.n true)]/\nX tods=[nI (zC d d.n false),nI (zC d d.n true)]/\pool.Perm (mems++tods)/\
   Sp w (sPs kS vs B C M T pool mems tods (xI d d.n) backs) w'
set_option maxHeartbeats 1000000 in
theorem ID {w:World}{a b:Option Addr}{n c m e:Nat}{d:DA}(h:DaS w a n c b m e d)(hd:d.Ok):
   Cf mZ #[daV a n c b m e d] w (Ret (Nn d (daL a n c b m e d) w)):=by
 apply yA
 have hN:d.n <=65536:=hd.n2
 have hKK:=hd.kk
 have hK1:1 <=d.K/\d.K <=512:=by have:=hd.k1;have:=hd.k2;show 1 <=d.k.toNat/\d.k.toNat <=512;omega
 have hm:m=d.n:=h.ac.len
 subst hm
 have hnn:=h.nx.len
 have hnl:=hd.lenN
 have hmul:d.n*d.K <=65536*512:=Nat.mul_le_mul hN hK1.2
 have hmK:i64.wrap (((d.n:Nat):Int)*((d.K:Nat):Int))=((d.n*d.K:Nat):Int):=by
   rw[show((d.n:Nat):Int)*((d.K:Nat):Int)=((d.n*d.K:Nat):Int) from(Int.natCast_mul _ _).symm]
   exact wrap_i64 (by omega) (by omega)
 intro k1 w1 hk1 hw1
 have S1:Sp w [ptA k1 af (daL a n c b d.n e d)] w1:=(Sp.nil w).add (hw1▸ah w _) (show am w1 k1 _ _ from am.new hk1 hw1) (fp1 (by omega))
 have A1:am w1 k1 af (daL a n c b d.n e d):=S1.at 0 rfl
 refine⟨rfl,b,_,e,A1.load1 bf rfl rfl,?_⟩
 refine⟨λp u=>∃(kS:Nat) (B C M:H3),p=some ⟨kS,0,none⟩/\B.n=d.n*d.K/\C.n=d.n/\M.n=2/\Sp w (pPs k1 kS (daL a n c b d.n e d) B C M (List.replicate 2 hi0) (List.replicate 2 hi0) (List.replicate d.n 0) (List.replicate (d.n*d.K) hi0)) u,?_,?_⟩
 · have S1d:=S1.below (bg w1)
   have mkB:∀{ps:List Pt} {u:World},Sp w ps u->∃(u':World) (x:Option Addr),(Instr.makeSlice aF (vI ((d.n*d.K:Nat):Int)) (vI ((d.n*d.K:Nat):Int))).run prog u=.ok (.slice x (d.n*d.K) (d.n*d.K)) u'/\bW u u'/\Sp w (ptO tHi ar x (d.n*d.K) (d.n*d.K) (List.replicate (d.n*d.K) hi0)::ps) u':=fun{ps u} S=>by
     obtain⟨u',x,r,o,hb,hf⟩:=yk (P:=prog) (e:=Hi.v) (h1:=λ_=>rfl) (p:=λ_=>True) bu iY (x0:=hi0) rfl rfl trivial .i64 .i64 (d.n*d.K) (by omega) (by omega) u NoB
     exact⟨u',x,r,hb,S.add hb (p:=ptO tHi ar x (d.n*d.K) (d.n*d.K) (List.replicate (d.n*d.K) hi0)) o λb hb2=>hf b (dQ.1 hb2)⟩
   have mkM:∀{ps:List Pt} {u:World},Sp w ps u->∃(u':World) (x:Option Addr),(Instr.makeSlice aF (vI 2) (vI 2)).run prog u=.ok (.slice x 2 2) u'/\bW u u'/\Sp w (ptO tHi ar x 2 2 (List.replicate 2 hi0)::ps) u':=fun{ps u} S=>by
     obtain⟨u',x,r,o,hb,hf⟩:=yk (P:=prog) (e:=Hi.v) (h1:=λ_=>rfl) (p:=λ_=>True) bu iY (x0:=hi0) rfl rfl trivial .i64 .i64 2 (by omega) (by omega) u NoB
     exact⟨u',x,r,hb,S.add hb (p:=ptO tHi ar x 2 2 (List.replicate 2 hi0)) o λb hb2=>hf b (dQ.1 hb2)⟩
   have mkC:∀{ps:List Pt} {u:World},Sp w ps u->∃(u':World) (x:Option Addr),(Instr.makeSlice ar (vI ((d.n:Nat):Int)) (vI ((d.n:Nat):Int))).run prog u=.ok (.slice x d.n d.n) u'/\bW u u'/\Sp w (ptO cI aw x d.n d.n (nI (List.replicate d.n 0))::ps) u':=fun{ps u} S=>by
     obtain⟨u',x,r,o,hb,hf⟩:=yk (P:=prog) (e:=λn=>vI n) (h1:=λ_=>rfl) (p:=λ_=>True) aI ff (x0:=0) rfl rfl trivial .i64 .i64 d.n (by omega) (by omega) u NoB
     have e0:nI (List.replicate d.n 0)=List.replicate d.n (0:Int):=by simp[nI]
     exact⟨u',x,r,hb,S.add hb (p:=ptO cI aw x d.n d.n (nI (List.replicate d.n 0))) (by rw[e0];exact o) λb hb2=>hf b (dQ.1 hb2)⟩
   have leaf:∀{u u2:World} {k:Nat} {xb xc xm:Option Addr},Sp w [ptO tHi ar xm 2 2 (List.replicate 2 hi0),ptO cI aw xc d.n d.n (nI (List.replicate d.n 0)),ptO tHi ar xb (d.n*d.K) (d.n*d.K) (List.replicate (d.n*d.K) hi0),ptA k1 af (daL a n c b d.n e d)] u->
       k=u.heap.size->u2=u.alloc (.cells #[vI d.k,vI d.st,.slice a n c,.slice b d.n e,.slice xb (d.n*d.K) (d.n*d.K),.slice xc d.n d.n,.slice xm 2 2,.slice none 0 0] bJ)->
       ∃(kS:Nat) (B C M:H3),(some ⟨k,0,none⟩:Option Addr)=some ⟨kS,0,none⟩/\B.n=d.n*d.K/\C.n=d.n/\M.n=2/\Sp w (pPs k1 kS (daL a n c b d.n e d) B C M (List.replicate 2 hi0) (List.replicate 2 hi0) (List.replicate d.n 0) (List.replicate (d.n*d.K) hi0)) u2:=fun{u u2 k xb xc xm} S hk hu=>by
     have S2:=S.add (hu▸ah u _) (p:=ptA k bJ (daL a n c b d.n e d++[.slice xb (d.n*d.K) (d.n*d.K),.slice xc d.n d.n,.slice xm 2 2,.slice none 0 0])) (show am u2 k _ _ from am.new hk hu) (fp1 (by omega))
     have S3:=(S2.add (Below.refl _ _) (p:=ptR aw (List.replicate 2 hi0)) (JF _ _ _) (λb hb=>by rw[show(ptR aw (List.replicate 2 hi0)).fp=[] from Ht 2]at hb;cases hb)).add (Below.refl _ _) (p:=ptR aw (List.replicate (d.n*d.K) hi0)) (JF _ _ _) (λb hb=>by rw[show(ptR aw (List.replicate (d.n*d.K) hi0)).fp=[] from Ht _]at hb;cases hb)
     refine⟨k,⟨xb,d.n*d.K,d.n*d.K⟩,⟨xc,d.n,d.n⟩,⟨xm,2,2⟩,rfl,rfl,rfl,rfl,S3.sub (λi=>[1,3,4,0,5,2,6].getD i 0) (λi q hq=>?_) λi j hi hj=>?_⟩
     · match i,hq with
       | 0,hq=>exact hq
       | 1,hq=>exact hq
       | 2,hq=>exact hq
       | 3,hq=>exact hq
       | 4,hq=>exact hq
       | 5,hq=>exact hq
       | 6,hq=>exact hq
       | i+7,hq=>simp at hq
     · have h7:∀i<7,∀j<7,[1,3,4,0,5,2,6].getD i 0=[1,3,4,0,5,2,6].getD j 0->i=j:=by decide
       exact h7 i hi j hj
   have p1:∀{x y:Pt} {l:List Pt},(y::x::l).Perm (x::y::l):=fun{x y l} =>List.Perm.swap _ _ _
   have p2:∀{z x y:Pt} {l:List Pt},(z::y::x::l).Perm (z::x::y::l):=fun{z x y l} =>List.Perm.cons _ (List.Perm.swap _ _ _)
   have hS:∀{u:World},Below w1.drew.heap.size w1.drew u->am u k1 af (daL a n c b d.n e d):=λhb=>(A1.below (bg w1)).below hb
   refine⟨λu=>am u k1 af (daL a n c b d.n e d),A1.below (bg w1),_,_,a,n,c,b,_,e,λu hu=>bG.load0 (cs:=daL a n c b d.n e d) hu rfl,rfl,((d.K:Nat):Int),λu hu=>by rw[hKK];exact am.load1 aB rfl hu rfl,?_⟩
   rw[hmK]
   have al:∀{u u2:World} {o:Obj},am u k1 af (daL a n c b d.n e d)->u2=u.alloc o->am u2 k1 af (daL a n c b d.n e d):=λhA hu=>hA.below (hu▸ah _ _)
   refine⟨?_,?_,?_⟩
   · obtain⟨u1,xb,r1,b1,T1⟩:=mkB S1d
     have A2:=hS b1
     refine⟨u1,xb,_,_,r1,A2,?_,?_⟩
     · obtain⟨u2,xc,r2,b2,T2⟩:=mkC T1
       have A3:=A2.below b2
       obtain⟨u3,xm,r3,b3,T3⟩:=mkM T2
       exact⟨u2,xc,_,_,r2,A3,u3,xm,_,_,r3,A3.below b3,λk u4 hk hu=>⟨al (A3.below b3) hu,leaf T3 hk hu⟩⟩
     · obtain⟨u2,xm,r2,b2,T2⟩:=mkM T1
       have A3:=A2.below b2
       obtain⟨u3,xc,r3,b3,T3⟩:=mkC T2
       exact⟨u2,xm,_,_,r2,A3,u3,xc,_,_,r3,A3.below b3,λk u4 hk hu=>⟨al (A3.below b3) hu,leaf (T3.perm p1) hk hu⟩⟩
   · obtain⟨u1,xc,r1,b1,T1⟩:=mkC S1d
     have A2:=hS b1
     refine⟨u1,xc,_,_,r1,A2,?_,?_⟩
     · obtain⟨u2,xb,r2,b2,T2⟩:=mkB T1
       have A3:=A2.below b2
       obtain⟨u3,xm,r3,b3,T3⟩:=mkM T2
       exact⟨u2,xb,_,_,r2,A3,u3,xm,_,_,r3,A3.below b3,λk u4 hk hu=>⟨al (A3.below b3) hu,leaf (T3.perm p2) hk hu⟩⟩
     · obtain⟨u2,xm,r2,b2,T2⟩:=mkM T1
       have A3:=A2.below b2
       obtain⟨u3,xb,r3,b3,T3⟩:=mkB T2
       exact⟨u2,xm,_,_,r2,A3,u3,xb,_,_,r3,A3.below b3,λk u4 hk hu=>⟨al (A3.below b3) hu,leaf (T3.perm (p1.trans p2)) hk hu⟩⟩
   · obtain⟨u1,xm,r1,b1,T1⟩:=mkM S1d
     have A2:=hS b1
     refine⟨u1,xm,_,_,r1,A2,?_,?_⟩
     · obtain⟨u2,xb,r2,b2,T2⟩:=mkB T1
       have A3:=A2.below b2
       obtain⟨u3,xc,r3,b3,T3⟩:=mkC T2
       exact⟨u2,xb,_,_,r2,A3,u3,xc,_,_,r3,A3.below b3,λk u4 hk hu=>⟨al (A3.below b3) hu,leaf (T3.perm (p2.trans p1)) hk hu⟩⟩
     · obtain⟨u2,xc,r2,b2,T2⟩:=mkC T1
       have A3:=A2.below b2
       obtain⟨u3,xb,r3,b3,T3⟩:=mkB T2
       exact⟨u2,xc,_,_,r2,A3,u3,xb,_,_,r3,A3.below b3,λk u4 hk hu=>⟨al (A3.below b3) hu,leaf (T3.perm (p1.trans (p2.trans p1))) hk hu⟩⟩
 clear S1 A1
 intro p4
 refine aC.of ?_ _
 rintro wj ⟨kS,B,C,M,rfl,hB,hC,hM,S0⟩
 have BK0:KO d 0 0 (List.replicate (d.n*d.K) hi0):=⟨List.length_replicate,λi x hx=>by
   have:=List.mem_of_getElem? hx
   rw[(List.mem_replicate.1 this).2]
   unfold bkN kR
   rw[if_neg (Nat.not_lt_zero _)];rfl⟩
 refine⟨λmm i wl=>∃(f:Nat) (backs mems pool:List Hi),i=(f:Int)/\f <=d.n/\mm=d.n-f/\KO d f 0 backs/\nX mems=[nI (zC d f false),nI (zC d f true)]/\pool.Perm mems/\Sp w (pPs k1 kS (daL a n c b d.n e d) B C M pool mems (xI d f) backs) wl,
   ⟨_,0,_,_,_,rfl,Nat.zero_le _,rfl,BK0,rfl,List.Perm.refl _,by rw[Lk];exact S0⟩,?_⟩
 clear S0 BK0
 intro mm i
 refine aC.of ?_ _
 rintro wl ⟨f,backs,mems,pool,rfl,hf,rfl,BK,hmx,hpm,S⟩
 have acl:=(h.below S.bw).ac
 refine ae.of (λh1=>?_) (λh1=>?_) <;> simp only[dTx,dFx]at h1
 · have hfn:f<d.n:=by omega
   refine⟨rfl,((d.K:Nat):Int),by rw[hKK];exact am.load1 aB rfl (S.at 6 rfl) rfl,?_⟩
   refine⟨λm1 xx wl=>∃(j:Nat) (backs:List Hi),xx=(j:Int)/\j <=d.K/\m1=d.K-j/\KO d f j backs/\Sp w (pPs k1 kS (daL a n c b d.n e d) B C M pool mems (xI d f) backs) wl,⟨_,0,backs,rfl,Nat.zero_le _,rfl,BK,S⟩,?_⟩
   clear S BK acl backs
   intro m1 xx
   refine aC.of ?_ _
   rintro wl1 ⟨j,backs,rfl,hj,rfl,BK,S⟩
   refine ae.of (λh5=>?_) (λh5=>?_) <;> simp only[dTx,dFx]at h5
   · have hjK:j<d.K:=by omega
     have ia:=kI hfn hjK hN hK1.2
     obtain⟨va,va1,va2,va3,va4⟩:=hd.at hfn hjK
     have ga:f*d.K+j<d.nx.length:=cF va1
     have eto:d.nx[f*d.K+j]=((d.to f j:Nat):Int):=by
       rw[List.getElem?_eq_getElem ga]at va1
       rw[Option.some.inj va1,va4];omega
     have hto:d.to f j<d.n:=hd.to_lt hfn hjK
     have ib:=kI hto hjK hN hK1.2
     have kA:∀{u:World},bW wl1 u->am u k1 af (daL a n c b d.n e d):=λhb=>(S.below hb).at 6 rfl
     refine⟨rfl,a,n,c,λu hu=>(kA hu).load1 aI rfl rfl,rfl,((d.K:Nat):Int),λu hu=>by rw[hKK];exact(kA hu).load1 aB rfl rfl,?_⟩
     rw[ia.1]
     refine⟨⟨⟨by omega,by omega⟩,h.nx.isSome ga⟩,((d.to f j:Nat):Int),λu hu=>by rw[<- eto];exact(h.below (S.below hu).bw).nx.num aB ga,rfl,((d.K:Nat):Int),λu hu=>by rw[hKK];exact(kA hu).load1 aB rfl rfl,λwq hq=>?_⟩
     rw[ib.1]
     have Sd:=(S.below hq).below (bg wq)
     have hib:d.to f j*d.K+j<backs.length:=by rw[BK.1];exact ib.2
     obtain⟨x,hx⟩:∃x,backs[d.to f j*d.K+j]? =some x:=⟨_,List.getElem?_eq_getElem hib⟩
     obtain⟨rest,pr,prs⟩:=FV hx
     have hxl:x.xs.length <=1000000:=by
       rw[BK.2 _ x hx,fm]
       have:=Mn d (if(d.to f j*d.K+j)%d.K<j then f+1 else f) ((d.to f j*d.K+j)%d.K) ((d.to f j*d.K+j)/d.K)
       unfold bkN
       split at this <;> rename_i hc <;> simp only[hc] <;> simp only[if_true,if_false] <;> omega
     have OB:Ow tHi ar wq.drew NoB B.a B.n B.c backs:=Sd.at 4 rfl
     refine⟨λu=>Chg (BA backs) wq.drew u,Chg.refl _ _,rfl,rfl,B.a,B.n,B.c,λu hu=>am.load1 bu rfl (Sd.oth 3 rfl hu 5 rfl (by decide)) rfl,rfl,rfl,B.a,B.n,B.c,λu hu=>am.load1 bu rfl (Sd.oth 3 rfl hu 5 rfl (by decide)) rfl,⟨⟨by omega,by omega⟩,OB.all.isSome hib⟩,x.a,x.n,x.c,λu hu=>?_,?_⟩
     · have O:Ow tHi ar u NoB B.a B.n B.c backs:=Sd.oth 3 rfl hu 4 rfl (by decide)
       exact O.all.hd aI hx
     intro k59 w59 hk59 hw59
     obtain⟨c59,w60,x',r60,c60,ex,wx,qx,S2⟩:=Hk Sd 3 4 rfl rfl (by decide) hx pr hk59 hw59 hxl
     have S3:=(S2.upd 3 rfl (Chg.refl _ _) (p':=ptR aw (backs.set (d.to f j*d.K+j) x')) (Rws.perm (S2.at 3 rfl) (prs x').symm) λb hb=>.inl ((rz (prs x')).1 hb))
     exact⟨c59,w60,x'.a,x'.n,x'.c,r60,c60,⟨⟨by omega,by omega⟩,OB.all.isSome hib⟩,wx,qx,d.K-(j+1),by omega,j+1,_,by rw[wrap_i64 (by omega) (by omega)];omega,hjK,rfl,BK.push hjK hx ex,S3⟩
   · have:j=d.K:=by omega
     subst this
     have BK2:=BK.row (by omega)
     have hfa:f<d.ac.length:=hfn
     have hacg:=zg hfa
     refine⟨λu=>Sp w (pPs k1 kS (daL a n c b d.n e d) B C M pool mems (xI d (f+1)) backs) u,?_,aC.of ?_ _⟩
     · have hat:=(h.below S.bw).ac.tru (P:=prog) bv hfa
       rw[hacg]at hat
       refine⟨rfl,b,_,e,am.load1 bf rfl (S.at 6 rfl) rfl,⟨⟨by omega,by omega⟩,h.ac.isSome hfa⟩,_,hat,ae.of (λht=>?_) (λht=>?_)⟩
       · have OC:Ow cI aw wl1 NoB C.a C.n C.c (nI (xI d f)):=S.at 2 rfl
         have hcl:f<(nI (xI d f)).length:=by rw[fm,kG];exact hfn
         obtain⟨wx,q,o,g⟩:=Ow.store (k:=1) ff OC (λ_ _ h=>h) (i:=(f:Int)) (by simpa using hcl) rfl (v:=vI 1) (x:=1) ⟨rfl,trivial⟩
         refine⟨rfl,rfl,C.a,C.n,C.c,am.load1 aI rfl (S.at 5 rfl) rfl,⟨⟨by omega,by omega⟩,OC.all.isSome hcl⟩,wx,q,?_⟩
         have ec:(nI (xI d f)).set (f:Int).toNat 1=nI (xI d (f+1)):=by
           rw[GJ hfn,if_pos ht,Int.toNat_natCast]
           unfold nI
           rw[List.map_set];rfl
         rw[ec]at o
         exact S.upd 2 rfl (Chg.row g) (p':=ptO cI aw C.a C.n C.c (nI (xI d (f+1)))) o λb hb=>.inl hb
       · rw[GJ hfn,if_neg (by rw[ht];decide)]
         exact S
     intro wj1 S1
     have Sd:=S1.below (bg wj1)
     have hcg:cf (xI d (f+1)) f=Bh d f:=by rw[Jb hfn,if_pos (Nat.lt_succ_self f)]
     have hml:mems.length=2:=by have:=congrArg List.length hmx;simpa[nX]using this
     have ha2:Bh d f<mems.length:=by rw[hml];unfold Bh;split <;> omega
     obtain⟨x,hx⟩:∃x,mems[Bh d f]? =some x:=⟨_,List.getElem?_eq_getElem ha2⟩
     have hxx:x.xs=nI (zC d f (d.acc f)):=by
       have:(nX mems)[Bh d f]? =some x.xs:=by unfold nX;rw[List.getElem?_map,hx];rfl
       rw[hmx]at this
       unfold Bh at this
       cases hac:d.acc f <;> rw[hac]at this <;> exact(Option.some.inj this).symm
     obtain⟨rest,pr,prs⟩:=FV hx
     have OM:Ow tHi ar wj1.drew NoB M.a M.n M.c mems:=Sd.at 1 rfl
     have OC:Ow cI aw wj1.drew NoB C.a C.n C.c (nI (xI d (f+1))):=Sd.at 2 rfl
     have hcl:f<(xI d (f+1)).length:=by rw[kG];exact hfn
     have isC:Option.isSome C.a=true:=OC.all.isSome (i:=f) (by rw[fm];exact hcl)
     have isM:Option.isSome M.a=true:=OM.all.isSome ha2
     have ldC:∀u,Chg (BA pool) wj1.drew u->(Instr.loadAt aw (.pointer (ao C.a ((f:Nat):Int) 1))).run prog u=.ok (vI ((Bh d f:Nat):Int)) u:=λu hu=>by
       have O:Ow cI aw u NoB C.a C.n C.c (nI (xI d (f+1))):=Sd.oth 0 rfl hu 2 rfl (by decide)
       have:=O.all.cls (P:=prog) aB hcl
       rwa [hcg]at this
     have ldV:∀u,Chg (BA pool) wj1.drew u->am u kS bJ (daL a n c b d.n e d++[B.v,C.v,M.v,.slice none 0 0]):=λu hu=>Sd.oth 0 rfl hu 5 rfl (by decide)
     refine⟨λu=>Chg (BA pool) wj1.drew u,Chg.refl _ _,rfl,rfl,M.a,M.n,M.c,λu hu=>(ldV u hu).load1 bu rfl rfl,rfl,rfl,C.a,C.n,C.c,λu hu=>(ldV u hu).load1 aI rfl rfl,⟨⟨by omega,by omega⟩,isC⟩,_,ldC,?_⟩
     refine⟨rfl,rfl,M.a,M.n,M.c,λu hu=>(ldV u hu).load1 bu rfl rfl,rfl,rfl,C.a,C.n,C.c,λu hu=>(ldV u hu).load1 aI rfl rfl,⟨⟨by omega,by omega⟩,isC⟩,_,ldC,⟨⟨by omega,by omega⟩,isM⟩,x.a,x.n,x.c,λu hu=>?_,?_⟩
     · have O:Ow tHi ar u NoB M.a M.n M.c mems:=Sd.oth 0 rfl hu 1 rfl (by decide)
       exact O.all.hd aI hx
     intro k99 w99 hk99 hw99
     have hxl:x.xs.length <=1000000:=by
       rw[hxx,fm]
       have:=FN d f (d.acc f)
       omega
     obtain⟨c99,w100,x',r100,c100,ex,wx,qx,S2⟩:=Hk Sd 0 1 rfl rfl (by decide) hx (hpm.trans pr) hk99 hw99 hxl
     refine⟨c99,w100,x'.a,x'.n,x'.c,r100,c100,⟨⟨by omega,by omega⟩,isM⟩,wx,qx,d.n-(f+1),by omega,f+1,backs,mems.set (Bh d f) x',x'::rest,by rw[wrap_i64 (by omega) (by omega)];omega,hfn,rfl,BK2,?_,(prs x').symm,S2⟩
     unfold nX at hmx ⊢
     rw[List.map_set,hmx,ex,hxx,G8,G8]
     unfold Bh
     cases d.acc f <;> simp[nI]
 · have:f=d.n:=by omega
   subst this
   have hml:mems.length=2:=by have:=congrArg List.length hmx;simpa[nX]using this
   obtain⟨g0,g1,rfl⟩:∃g0 g1,mems=[g0,g1]:=by
     match mems,hml with
     | [g0,g1],_=>exact⟨g0,g1,rfl⟩
   simp only[nX,List.map_cons,List.map_nil,List.cons.injEq,and_true]at hmx
   have Sd:=S.below (bg wl)
   have OM:Ow tHi ar wl.drew NoB M.a M.n M.c [g0,g1]:=Sd.at 1 rfl
   have ldV:∀{u:World},Below wl.drew.heap.size wl.drew u->am u kS bJ (daL a n c b d.n e d++[B.v,C.v,M.v,.slice none 0 0]):=λhu=>(Sd.below hu).at 5 rfl
   have RG:Rws aw wl.drew [g0,g1]:=Rws.perm (Sd.at 0 rfl) hpm
   have l0:g0.xs.length <=1000000:=by rw[hmx.1,fm];have:=FN d d.n false;omega
   have l1:g1.xs.length <=1000000:=by rw[hmx.2,fm];have:=FN d d.n true;omega
   refine⟨λu=>Below wl.drew.heap.size wl.drew u,Below.refl _ _,rfl,rfl,M.a,M.n,M.c,λu hu=>(ldV hu).load1 bu rfl rfl,⟨⟨by omega,by omega⟩,OM.all.isSome (i:=0) (show 0<2 by decide)⟩,g0.a,g0.n,g0.c,λu hu=>(OM.below hu).all.hd aI (i:=0) rfl,rfl,rfl,M.a,M.n,M.c,λu hu=>(ldV hu).load1 bu rfl rfl,⟨⟨by omega,by omega⟩,OM.all.isSome (i:=1) (show 1<2 by decide)⟩,g1.a,g1.n,g1.c,λu hu=>(OM.below hu).all.hd aI (i:=1) rfl,?_⟩
   refine ax (Bo (RG.own g0 (by simp)).all l0) ?_
   rintro _ w110 ⟨a2,n2,c2,rfl,o2,f2,b2⟩
   refine⟨a2,n2,c2,rfl,b2,?_⟩
   refine ax (Bo ((RG.own g1 (by simp)).below b2).all l1) ?_
   rintro _ w117 ⟨a3,n3,c3,rfl,o3,f3,b3⟩
   have b23:=ab b2 b3 b2.size
   refine⟨a3,n3,c3,rfl,b23,?_⟩
   intro k118 w118 hk118 hw118
   have b4:=(hw118▸ah w117 _:bW w117 w118)
   have R0:Rws aw wl.drew pool:=Sd.at 0 rfl
   have R1:Rws aw w110 (⟨a2,n2,c2,g0.xs⟩::pool):=R0.add (h':=⟨a2,n2,c2,g0.xs⟩) b2 o2 f2
   have R2:Rws aw w117 (⟨a3,n3,c3,g1.xs⟩::⟨a2,n2,c2,g0.xs⟩::pool):=R1.add (h':=⟨a3,n3,c3,g1.xs⟩) b3 o3 f3
   have S2:=Sd.upd 0 rfl (Chg.of b23) (p':=ptR aw (⟨a3,n3,c3,g1.xs⟩::⟨a2,n2,c2,g0.xs⟩::pool)) R2 λb hb=>by
     rcases gA.1 hb with e|hb
     · have:=f3 b e;have:=b2.size;exact .inr (by omega)
     · rcases gA.1 hb with e|hb
       · exact .inr (f2 b e)
       · exact .inl hb
   have OT:Ow tHi ar w118 NoB (some ⟨k118,0,none⟩) 2 2 [⟨a2,n2,c2,g0.xs⟩,⟨a3,n3,c3,g1.xs⟩]:=Ow.newF (l:=[.slice a2 n2 c2,.slice a3 n3 c3]) Bq hk118 hw118 ((iK.one (T:=tHi) (x:=⟨a2,n2,c2,g0.xs⟩) ⟨rfl,trivial⟩).append (iK.one (T:=tHi) (x:=⟨a3,n3,c3,g1.xs⟩) ⟨rfl,trivial⟩)) (show 2 <=maxLen by decide)
   have S3:=S2.add b4 (p:=ptO tHi ar (some ⟨k118,0,none⟩) 2 2 [⟨a2,n2,c2,g0.xs⟩,⟨a3,n3,c3,g1.xs⟩]) OT (λb hb=>by have hb2:b∈(bK (some (⟨k118,0,none⟩:Addr))).toList:=hb;simp[bK]at hb2;omega)
   obtain⟨wx,q,S4,g4⟩:=S3.put qa 6 rfl (i:=7) (v:=.slice (some ⟨k118,0,none⟩) 2 2) rfl rfl (show 7<8 by decide)
   refine⟨ab b23 b4 b23.size,rfl,rfl,wx,q,kS,B,C,M,⟨some ⟨k118,0,none⟩,2,2⟩,(⟨a3,n3,c3,g1.xs⟩::⟨a2,n2,c2,g0.xs⟩::pool),[g0,g1],[⟨a2,n2,c2,g0.xs⟩,⟨a3,n3,c3,g1.xs⟩],backs,rfl,BK,?_,?_,?_,S4.sub (λi=>[1,2,0,3,4,5,6].getD i 0) (λi q hq=>?_) λi j hi hj=>?_⟩
   · simp[nX,hmx]
   · simp[nX,hmx]
   · refine((List.Perm.swap _ _ _).trans ?_)
     refine(List.Perm.cons _ (List.Perm.cons _ hpm)).trans ?_
     exact List.perm_append_comm (l₁:=[⟨a2,n2,c2,g0.xs⟩,⟨a3,n3,c3,g1.xs⟩]) (l₂:=[g0,g1])
   · match i,hq with
     | 0,hq=>exact hq
     | 1,hq=>exact hq
     | 2,hq=>exact hq
     | 3,hq=>exact hq
     | 4,hq=>exact hq
     | 5,hq=>exact hq
     | 6,hq=>exact hq
     | i+7,hq=>simp at hq
   · have h7:∀i<7,∀j<7,[1,2,0,3,4,5,6].getD i 0=[1,2,0,3,4,5,6].getD j 0->i=j:=by decide
     exact h7 i hi j hj
theorem EA {α β:Type}[DecidableEq α]{k:α} :∀{l:List (α×β)},jI k l=none->∀p∈l,p.1≠k
 | [],_,p,hp=>by cases hp
 | (x,y)::l,h,p,hp=>by
   unfold jI at h
   by_cases e:k=x
   · rw[if_pos e]at h;cases h
   · rw[if_neg e]at h
     rcases List.mem_cons.1 hp with rfl|hp
     · exact λe2=>e e2.symm
     · exact EA h p hp
theorem Dr {α β:Type}[DecidableEq α](k:α)(l:List (α×β)):(jI k l=none/\∀v,upG k v l=l++[(k,v)])\/∃h l1 l2,l=l1++(k,h)::l2/\jI k l=some h/\∀v,upG k v l=l1++(k,v)::l2:=by
 have h2:=zz k l 0
 unfold upG
 cases hl:mL k l 0 with
 | none=>rw[hl]at h2;exact .inl ⟨h2.symm,λ_=>rfl⟩
 | some p=>
   obtain⟨i,h⟩:=p
   rw[hl]at h2
   have h3:=(CJ k l 0 i h hl).2
   rw[Nat.sub_zero]at h3
   obtain⟨hlt,e⟩:=List.getElem?_eq_some_iff.1 h3
   refine .inr ⟨h,l.take i,l.drop (i+1),?_,h2.symm,λv=>?_⟩
   · conv=>lhs;rw[<- List.take_append_drop i l,List.drop_eq_getElem_cons hlt,e]
   · show l.set i (k,v)=_
     rw[List.set_eq_take_append_cons_drop,if_pos hlt]
structure M8 (c0:Nat->Nat)(P:List Nat)(kvs:List (Nat×Hi)):Prop where
 keys:(kvs.map (·.1)).Nodup
 val:∀p∈kvs,p.2.xs=nI (P.filter λs=>decide (c0 s=p.1))/\∃s∈P,c0 s=p.1
 all:∀s∈P,∃p∈kvs,p.1=c0 s
theorem M8.nil (c0:Nat->Nat):M8 c0 [] []:=⟨List.nodup_nil,λp hp=>(by cases hp),λs hs=>(by cases hs)⟩
theorem tR {c0:Nat->Nat}{P:List Nat}{s k:Nat} :(P++[s]).filter (λs=>decide (c0 s=k))=P.filter (λs=>decide (c0 s=k))++(if c0 s=k then[s]else[]):=by
 rw[List.filter_append]
 congr 1
 by_cases h:c0 s=k <;> simp[h]
theorem M8.add {c0:Nat->Nat}{P:List Nat}{kvs:List (Nat×Hi)}(h:M8 c0 P kvs){s:Nat}{h':Hi}(hx:h'.xs=((jI (c0 s) kvs).getD hi0).xs++[((s:Nat):Int)]):M8 c0 (P++[s]) (upG (c0 s) h' kvs):=by
 have old:∀p∈kvs,p.1≠c0 s->p.2.xs=nI ((P++[s]).filter λs=>decide (c0 s=p.1))/\∃t∈P++[s],c0 t=p.1:=λp hp hne=>by
   obtain⟨h1,t,ht,e⟩:=h.val p hp
   rw[tR,if_neg (λe2=>hne e2.symm),List.append_nil]
   exact⟨h1,t,List.mem_append_left _ ht,e⟩
 rcases Dr (c0 s) kvs with⟨h1,h2⟩|⟨g,l1,l2,h1,h2,h3⟩
 · have hno:=EA h1
   have hP:P.filter (λt=>decide (c0 t=c0 s))=[]:=by
     rw[List.filter_eq_nil_iff]
     intro t ht
     rw[dTx]
     intro e
     obtain⟨p,hp,e2⟩:=h.all t ht
     exact hno p hp (by rw[e2,e])
   rw[h2]
   refine⟨?_,λp hp=>?_,λt ht=>?_⟩
   · rw[List.map_append,List.nodup_append]
     refine⟨h.keys,by simp,λx hx y hy e=>?_⟩
     simp only[List.map_cons,List.map_nil,List.mem_singleton]at hy
     obtain⟨p,hp,rfl⟩:=List.mem_map.1 hx
     exact hno p hp (by rw[e,hy])
   · rcases List.mem_append.1 hp with hp|hp
     · exact old p hp (hno p hp)
     · rw[List.mem_singleton]at hp
       subst hp
       refine⟨?_,s,by simp,rfl⟩
       show h'.xs=_
       rw[hx,h1,tR,if_pos rfl,hP];rfl
   · rcases List.mem_append.1 ht with ht|ht
     · obtain⟨p,hp,e⟩:=h.all t ht
       exact⟨p,List.mem_append_left _ hp,e⟩
     · rw[List.mem_singleton]at ht
       subst ht
       exact⟨(c0 t,h'),by simp,rfl⟩
 · have hk:=h.keys
   rw[h1,List.map_append,List.map_cons,List.nodup_append,List.nodup_cons]at hk
   obtain⟨k1,⟨k2,k3⟩,k4⟩:=hk
   have hm:(c0 s,g)∈kvs:=by rw[h1];simp
   have hne1:∀p∈l1,p.1≠c0 s:=λp hp=>k4 p.1 (List.mem_map.2 ⟨p,hp,rfl⟩) (c0 s) List.mem_cons_self
   have hne2:∀p∈l2,p.1≠c0 s:=λp hp e=>k2 (List.mem_map.2 ⟨p,hp,e⟩)
   rw[h3]
   refine⟨?_,λp hp=>?_,λt ht=>?_⟩
   · have:=h.keys
     rw[h1,List.map_append,List.map_cons]at this
     rw[List.map_append,List.map_cons];exact this
   · rcases List.mem_append.1 hp with hp|hp
     · exact old p (by rw[h1];exact List.mem_append_left _ hp) (hne1 p hp)
     · rcases List.mem_cons.1 hp with rfl|hp
       · refine⟨?_,s,by simp,rfl⟩
         show h'.xs=_
         rw[hx,h2,tR,if_pos rfl]
         show g.xs++_=_
         rw[(h.val _ hm).1];simp[nI]
       · exact old p (by rw[h1];exact List.mem_append_right _ (List.mem_cons_of_mem _ hp)) (hne2 p hp)
   · rcases List.mem_append.1 ht with ht|ht
     · obtain⟨p,hp,e⟩:=h.all t ht
       rw[h1]at hp
       rcases List.mem_append.1 hp with hp|hp
       · exact⟨p,List.mem_append_left _ hp,e⟩
       · rcases List.mem_cons.1 hp with rfl|hp
         · exact⟨(c0 s,h'),by simp,e⟩
         · exact⟨p,List.mem_append_right _ (List.mem_cons_of_mem _ hp),e⟩
     · rw[List.mem_singleton]at ht
       subst ht
       exact⟨(c0 t,h'),by simp,rfl⟩
def unI (l:List Int):List Nat:=l.map Int.toNat
theorem MR (l:List Nat):unI (nI l)=l:=by
 unfold unI nI
 rw[List.map_map]
 conv=>rhs;rw[<- List.map_id l]
 exact List.map_congr_left λx _=>Int.toNat_natCast x
def unH (kvs:List (Nat×Hi)):List (Nat×List Nat):=kvs.map λp=>(p.1,unI p.2.xs)
def comes (d:DA)(S:List Nat)(x:Nat):List Nat:=S.flatMap λt=>kR d d.n x t
theorem re {d:DA}{S:List Nat}{x s:Nat} :s∈comes d S x ↔ s<d.n/\d.to s x∈S:=by
 unfold comes
 rw[List.mem_flatMap]
 constructor
 · rintro⟨t,ht,h⟩
   obtain⟨h1,rfl⟩:=ym.1 h
   exact⟨h1,ht⟩
 · rintro⟨h1,h2⟩
   exact⟨_,h2,ym.2 ⟨h1,rfl⟩⟩
theorem wU {d:DA}{x:Nat} :∀{S:List Nat},S.Nodup->(comes d S x).Nodup
 | [],_=>List.nodup_nil
 | t::S,h=>by
   obtain⟨h1,h2⟩:=List.nodup_cons.1 h
   show(kR d d.n x t++comes d S x).Nodup
   rw[List.nodup_append]
   refine⟨IC d _ _ _,wU h2,λa ha b hb e=>?_⟩
   subst e
   obtain⟨_,rfl⟩:=ym.1 ha
   exact h1 (re.1 hb).2
theorem M8.hit {d:DA}{c0:Nat->Nat}{S:List Nat}{x:Nat}{kvs:List (Nat×Hi)}(h:M8 c0 (comes d S x) kvs)(hS:S.Nodup):Hit d c0 S x (unH kvs) where
 keys:=by
   have:=h.keys
   unfold unH
   rw[List.map_map];exact this
 lists:=λp hp=>by
   obtain⟨q,hq,rfl⟩:=List.mem_map.1 hp
   obtain⟨h1,s,hs,e⟩:=h.val q hq
   show(unI q.2.xs).Nodup/\unI q.2.xs≠[]/\∀s,s∈unI q.2.xs ↔ s<d.n/\c0 s=q.1/\d.to s x∈S
   rw[h1,MR]
   refine⟨(wU hS).filter _,λh0=>?_,λt=>?_⟩
   · have:s∈(comes d S x).filter λs=>decide (c0 s=q.1):=List.mem_filter.2 ⟨hs,by simpa using e⟩
     rw[h0]at this;cases this
   · rw[List.mem_filter,re,dTx]
     constructor
     · rintro⟨⟨h3,h4⟩,h5⟩;exact⟨h3,h5,h4⟩
     · rintro⟨h3,h5,h4⟩;exact⟨⟨h3,h4⟩,h5⟩
 all:=λs hs hm=>by
   obtain⟨p,hp,e⟩:=h.all s (re.2 ⟨hs,hm⟩)
   exact⟨(p.1,unI p.2.xs),List.mem_map.2 ⟨p,hp,rfl⟩,e⟩
theorem Kt {l m:List Nat}(hl:l.Nodup)(hs:∀x∈l,x∈m)(he:m.length <=l.length):∀x∈m,x∈l:=λx hx=>Classical.byContradiction λhn=>by
 have:=mc (l:=x::l) (m:=m) (List.nodup_cons.2 ⟨hn,hl⟩) λy hy=>by
   rcases List.mem_cons.1 hy with rfl|hy
   · exact hx
   · exact hs y hy
 rw[List.length_cons]at this
 omega
def ptI {α β:Type}[DecidableEq α](ek:α->Value)(ev:β->Value)(r m:Nat)(kvs left:List (α×β)):Pt where
 fp:=[r,m]
 P:=λw=>mD ek ev w r m kvs left
 st:=λh hk=>h.keep (hk.block r h.lt (by simp)) (hk.block m h.map.lt (by simp))
 lt:=λh b hb=>by
   rcases List.mem_cons.1 hb with rfl|hb
   · exact h.lt
   · rw[List.mem_singleton]at hb;subst hb;exact h.map.lt
theorem Ml {w0 w:World}{ps:List Pt}(S:Sp w0 ps w)(iR:Nat){pool rest:List Hi}(hR:ps[iR]? =some (ptR aw pool)){h:Hi}(hp:pool.Perm (h::rest)){k1:Nat}{w1:World}{x:Int}(hk:k1=w.heap.size)(hw:w1=w.alloc (.cells #[vI x] aw))(hb:h.xs.length <=1000000):
   ∃(w2:World) (h':Hi),(Builtin.append_ #[ar,ar] ar #[h.v,.slice (some ⟨k1,0,none⟩) 1 1]).run prog w1=.ok h'.v w2/\h'.xs=h.xs++[x]/\Sp w0 (ps.set iR (ptR aw (h'::rest))) w2:=by
 have R:Rws aw w (h::rest):=Rws.perm (S.at iR hR) hp
 have inP:∀b∈(bK h.a).toList,b∈BA pool:=λb hb=>(rz hp).2 (gA.2 (.inl (dQ.1 hb)))
 obtain⟨c1,w2,a2,n2,c2,r2,o2,g2,f2⟩:=Kx (ty:=ar) fG aI ff (by decide) (R.own h List.mem_cons_self) hk (vs:=[vI x]) hw (x:=x) eE (cm:=1) (by omega)
 have R2:Rws aw w2 (⟨a2,n2,c2,h.xs++[x]⟩::rest):=R.upd (h':=⟨a2,n2,c2,h.xs++[x]⟩) g2 o2 f2
 exact⟨w2,⟨a2,n2,c2,h.xs++[x]⟩,r2,rfl,S.upd iR hR (g2.mono inP) (p':=ptR aw (⟨a2,n2,c2,h.xs++[x]⟩::rest)) R2 λb hb=>by
   rcases gA.1 hb with e|e
   · rcases f2 b e with e2|e2
     · exact .inl (inP b (dQ.2 e2))
     · exact .inr e2
   · exact .inl ((rz hp).2 (gA.2 (.inr e)))⟩
theorem Nz {u:World}{k3 kS k14:Nat}{cells:List Value}{C:H3}{cl:List Nat}{next s:Nat}(h3:am u k3 aK [.pointer (some ⟨kS,0,none⟩)])(hS:am u kS bJ cells)(h5:cells[5]? =some C.v)
   (hC:Ow cI aw u NoB C.a C.n C.c (nI cl)) (h14:am u k14 aw [vI ((next:Nat):Int)]) (hs:s<cl.length):
   Cf bp #[vI ((s:Nat):Int),.pointer (some ⟨k3,0,none⟩),.pointer (some ⟨k14,0,none⟩)] u (Ret λv w'=>v=.bool (((cf cl s:Nat):Int)==((next:Nat):Int))/\bW u w'):=by
 apply uv
 have hn:C.n=cl.length:=by rw[hC.len,fm]
 exact⟨_,λv hv=>(h3.below hv).load1 bF rfl rfl,rfl,rfl,C.a,C.n,C.c,λv hv=>(hS.below hv).load1 aI rfl h5,⟨⟨by omega,by omega⟩,hC.all.isSome (i:=s) (by rw[fm];exact hs)⟩,_,λv hv=>(hC.below hv).all.cls aB hs,_,λv hv=>(h14.below hv).load1 aB rfl rfl,λwq hq=>⟨rfl,hq⟩⟩
theorem Lm {d:DA}{x:Nat}{S:List Nat}(h:S.Nodup):(comes d S x).length <=d.n:=pY (wU h) λs hs=>(re.1 hs).1
theorem GL (d:DA)(x:Nat)(S U:List Nat):comes d (S++U) x=comes d S x++comes d U x:=List.flatMap_append
theorem Ll {d:DA}{x j:Nat}{S:List Nat}(hj:j<S.length):comes d S x=comes d (S.take j) x++(kR d d.n x S[j]++comes d (S.drop (j+1)) x):=by
 conv=>lhs;rw[<- List.take_append_drop j S,List.drop_eq_getElem_cons hj,GL]
 rfl
theorem J6 {d:DA}{x j:Nat}{S:List Nat}(hj:j<S.length):comes d (S.take (j+1)) x=comes d (S.take j) x++kR d d.n x S[j]:=by
 rw[List.take_succ_eq_append_getElem hj,GL]
 congr 1
 show kR d d.n x S[j]++[]=_
 rw[List.append_nil]
theorem IG (cl:List Nat)(c:Nat)(l:List Nat)(s:Nat):fe cl c (l++[s])=(fe cl c l).set s c:=by
 unfold fe
 rw[List.foldl_append];rfl
structure ByS (d:DA)(c0:Nat->Nat)(S:List Nat)(x:Nat)(left:List (Nat×Hi))(m0 t0:Nat)(cl:List Nat)(mem todo:List (List Nat))(mems tods:List Hi):Prop where
 inv:JQ d c0 S x (unH left) cl mem (todo++[S])
 nm:nX mems=mem.map nI
 nt:nX tods=todo.map nI
 full:Nh d cl mem.length
 grow:∃k,mem.length=m0+k/\todo.length=t0+2*k
 gd:∀U∈todo,U.Nodup/\∀t∈U,t<d.n
theorem ByS.len {d:DA}{c0:Nat->Nat}{S:List Nat}{x:Nat}{left:List (Nat×Hi)}{m0 t0:Nat}{cl:List Nat}{mem todo:List (List Nat)}{mems tods:List Hi}(h:ByS d c0 S x left m0 t0 cl mem todo mems tods):mems.length=mem.length/\tods.length=todo.length:=by
 have h1:=congrArg List.length h.nm
 have h2:=congrArg List.length h.nt
 simp only[nX,List.length_map]at h1 h2
 exact⟨h1,h2⟩
theorem QY {hs:List Hi}{mem:List (List Nat)}(h:nX hs=mem.map nI){c:Nat}{x:Hi}(hx:hs[c]? =some x):∃m,mem[c]? =some m/\x.xs=nI m:=by
 have h1:(nX hs)[c]? =some x.xs:=by unfold nX;rw[List.getElem?_map,hx];rfl
 rw[h,List.getElem?_map]at h1
 cases hm:mem[c]? with
 | none=>rw[hm]at h1;cases h1
 | some m=>rw[hm]at h1;exact⟨m,rfl,(Option.some.inj h1).symm⟩
theorem Ma (m:List Nat)(p:Int->Bool)(q:Nat->Bool)(h:∀s∈m,p ((s:Nat):Int)=q s):(nI m).filter p=nI (m.filter q):=by
 unfold nI
 rw[List.filter_map]
 congr 1
 exact List.filter_congr λs hs=>h s hs
theorem MQ {l1 l2:List (Nat×Hi)}{k:Nat}{h:Hi}(hn:((l1++(k,h)::l2).map (·.1)).Nodup)(q:Nat×List Nat):q∈unH (l1++l2) ↔ q∈unH (l1++(k,h)::l2)/\q.1≠k:=by
 rw[List.map_append,List.map_cons,List.nodup_append,List.nodup_cons]at hn
 obtain⟨_,⟨k2,_⟩,k4⟩:=hn
 unfold unH
 constructor
 · intro hq
   obtain⟨p,hp,rfl⟩:=List.mem_map.1 hq
   refine⟨List.mem_map.2 ⟨p,?_,rfl⟩,λe=>?_⟩
   · rcases List.mem_append.1 hp with hp|hp
     · exact List.mem_append_left _ hp
     · exact List.mem_append_right _ (List.mem_cons_of_mem _ hp)
   · rcases List.mem_append.1 hp with hp|hp
     · exact k4 p.1 (List.mem_map.2 ⟨p,hp,rfl⟩) k List.mem_cons_self e
     · exact k2 (by rw[<- e];exact List.mem_map.2 ⟨p,hp,rfl⟩)
 · rintro⟨hq,hne⟩
   obtain⟨p,hp,rfl⟩:=List.mem_map.1 hq
   refine List.mem_map.2 ⟨p,?_,rfl⟩
   rcases List.mem_append.1 hp with hp|hp
   · exact List.mem_append_left _ hp
   · rcases List.mem_cons.1 hp with rfl|hp
     · exact absurd rfl hne
     · exact List.mem_append_right _ hp
def Qu (w0:World)(d:DA)(vs:List Value)(kS:Nat)(B C:H3)(backs:List Hi)(c0:Nat->Nat)(S:List Nat)(x:Nat)(g:Hi)(m0 t0:Nat)(v:Value)(w':World):Prop:=
 v=.tuple #[]/\∃(M T:H3) (pool mems tods rest:List Hi) (cl:List Nat) (mem todo:List (List Nat)),Sp w0 (sPs kS vs B C M T pool mems tods cl backs) w'/\pool.Perm (mems++(tods++(g::rest)))/\ByS d c0 S x [] m0 t0 cl mem todo mems tods
set_option maxHeartbeats 4000000 in
theorem Rw {w0 w:World}{kS:Nat}{a b:Option Addr}{n c m e:Nat}{d:DA}(hd:d.Ok){B C M T:H3}{pool mems tods rest backs:List Hi}{cl:List Nat}{mem todo:List (List Nat)}{g:Hi}{S:List Nat}{x:Nat}
   (S0:Sp w0 (sPs kS (daL a n c b m e d) B C M T pool mems tods cl backs) w) (BK:KO d d.n 0 backs) (SI:KK d cl mem) (AP:xL d (cf cl) (todo++[S])) (FU:Nh d cl mem.length) (nm:nX mems=mem.map nI) (nt:nX tods=todo.map nI)
   (hp:pool.Perm (mems++(tods++(g::rest)))) (hg:g.xs=nI S) (hS:S.Nodup) (hSn:∀t∈S,t<d.n) (hx:x<d.K) (hT:todo.length <=400000) (hgd:∀U∈todo,U.Nodup/\∀t∈U,t<d.n):
   Cf nf #[.pointer (some ⟨kS,0,none⟩),g.v,vI ((x:Nat):Int)] w (Ret (Qu w0 d (daL a n c b m e d) kS B C backs (cf cl) S x g mem.length todo.length)):=by
 apply yB
 have hN:d.n <=65536:=hd.n2
 have hKK:=hd.kk
 have hK2:d.K <=512:=by have:=hd.k2;show d.k.toNat <=512;omega
 intro k3 w3 hk3 hw3 k17 w17 hk17 hw17
 have S3:=S0.add (hw3▸ah w _) (p:=ptA k3 aK [.pointer (some ⟨kS,0,none⟩)]) (show am w3 k3 _ _ from am.new hk3 hw3) (fp1 (by omega))
 have S17:=S3.add (hw17▸ah w3 _) (p:=ptM (ekN .i64) Hi.v k17 []) (wO.new hk17 hw17) (fp1 (by omega))
 have gSl:∀{u:World} {pl:List Hi},Rws aw u pl->g∈pl->Sl cI u kj g.a g.n g.c (nI S):=fun{u pl} R hm=>by rw[<- hg];exact(R.own g hm).all
 have hgm:g∈pool:=hp.symm.subset (by simp)
 have hgn:g.n=S.length:=by rw[(gSl (S0.at 0 rfl) hgm).len,fm]
 have hSl:S.length <=d.n:=pY hS hSn
 have hbn:B.n=d.n*d.K:=by
   have O:Ow tHi ar w NoB B.a B.n B.c backs:=S0.at 5 rfl
   rw[O.len,BK.1]
 have hcn:C.n=d.n:=by
   have O:Ow cI aw w NoB C.a C.n C.c (nI cl):=S0.at 3 rfl
   rw[O.len,fm,SI.len]
 have hcll:cl.length=d.n:=SI.len
 refine⟨λmm i wl=>∃(j:Nat) (kvs:List (Nat×Hi)) (pool:List Hi),i=(j:Int)/\j <=S.length/\mm=S.length-j/\M8 (cf cl) (comes d (S.take j) x) kvs/\pool.Perm (mems++(tods++(g::(kvs.map (·.2)++rest))))/\
     Sp w0 (ptM (ekN .i64) Hi.v k17 kvs::ptA k3 aK [.pointer (some ⟨kS,0,none⟩)]::sPs kS (daL a n c b m e d) B C M T pool mems tods cl backs) wl,
   ⟨_,0,[],pool,rfl,Nat.zero_le _,rfl,M8.nil _,hp,S17⟩,?_⟩
 clear S17 S3 hgm hp
 intro mm i
 refine aC.of ?_ _
 rintro wl ⟨j,kvs,pool,rfl,hj,rfl,HK,hp,S1⟩
 have hgm:g∈pool:=hp.symm.subset (by simp)
 have gS:=gSl (S1.at 2 rfl) hgm
 refine ae.of (λh1=>?_) (λh1=>?_) <;> simp only[dTx,dFx]at h1
 · have hjS:j<S.length:=by omega
   have hcf:cf S j=S[j]:=by unfold cf;rw[List.getD_eq_getElem?_getD,List.getElem?_eq_getElem hjS];rfl
   obtain⟨t,ht⟩:∃t,t=S[j]:=⟨_,rfl⟩
   have htn:t<d.n:=by rw[ht];exact hSn _ (List.getElem_mem hjS)
   have ld:=gS.cls (P:=prog) aB hjS
   rw[hcf,<- ht]at ld
   have ie:=kI htn hx hN hK2
   have hyb:t*d.K+x<backs.length:=by rw[BK.1];exact ie.2
   obtain⟨y,hy⟩:∃y,backs[t*d.K+x]? =some y:=⟨_,List.getElem?_eq_getElem hyb⟩
   have hyx:y.xs=nI (kR d d.n x t):=by rw[BK.2 _ y hy,Pf hx]
   have OB:Ow tHi ar wl NoB B.a B.n B.c backs:=S1.at 7 rfl
   refine⟨⟨⟨by omega,by omega⟩,gS.isSome (i:=j) (by rw[fm];exact hjS)⟩,_,ld,?_⟩
   refine⟨_,λu hu=>am.load1 bF rfl ((S1.below hu).at 1 rfl) rfl,rfl,rfl,B.a,B.n,B.c,λu hu=>am.load1 bu rfl ((S1.below hu).at 8 rfl) rfl,_,λu hu=>am.load1 bF rfl ((S1.below hu).at 1 rfl) rfl,rfl,rfl,rfl,((d.K:Nat):Int),λu hu=>by rw[hKK];exact am.load1 aB rfl ((S1.below hu).at 8 rfl) rfl,?_⟩
   rw[ie.1]
   refine⟨⟨⟨by omega,by omega⟩,OB.all.isSome hyb⟩,y.a,y.n,y.c,λu hu=>(OB.below hu).all.hd aI hy,λwq hq=>?_⟩
   have hPl:(comes d (S.take j) x).length+(kR d d.n x t).length <=d.n:=by
     have:=Lm (d:=d) (x:=x) hS
     rw[Ll hjS,<- ht,List.length_append,List.length_append]at this
     omega
   have yS:∀{u:World},Rws aw u backs->Sl cI u kj y.a y.n y.c (nI (kR d d.n x t)):=fun{u} R=>by rw[<- hyx];exact(R.own y (List.mem_of_getElem? hy)).all
   have hyn:y.n=(kR d d.n x t).length:=by rw[(yS (S1.at 6 rfl)).len,fm]
   refine⟨λm1 i wl=>∃(q:Nat) (kvs:List (Nat×Hi)) (pool:List Hi),i=(q:Int)/\q <=(kR d d.n x t).length/\m1=(kR d d.n x t).length-q/\M8 (cf cl) (comes d (S.take j) x++(kR d d.n x t).take q) kvs/\pool.Perm (mems++(tods++(g::(kvs.map (·.2)++rest))))/\
       Sp w0 (ptM (ekN .i64) Hi.v k17 kvs::ptA k3 aK [.pointer (some ⟨kS,0,none⟩)]::sPs kS (daL a n c b m e d) B C M T pool mems tods cl backs) wl,
     ⟨_,0,kvs,pool,rfl,Nat.zero_le _,rfl,by rw[List.take_zero,List.append_nil];exact HK,hp,S1.below hq⟩,?_⟩
   clear S1 HK hp gS OB hgm kvs pool
   intro m1 i
   refine aC.of ?_ _
   rintro wl1 ⟨q,kvs,pool,rfl,hq',rfl,HK,hp,S1⟩
   refine ae.of (λh2=>?_) (λh2=>?_) <;> simp only[dTx,dFx]at h2
   · have hqp:q<(kR d d.n x t).length:=by omega
     have yR:=yS (S1.at 6 rfl)
     obtain⟨s,hs⟩:∃s,s=(kR d d.n x t)[q]:=⟨_,rfl⟩
     have hsp:s∈kR d d.n x t:=by rw[hs];exact List.getElem_mem hqp
     have hsn:s<d.n:=(ym.1 hsp).1
     have hcs:cf (kR d d.n x t) q=s:=by unfold cf;rw[List.getD_eq_getElem?_getD,List.getElem?_eq_getElem hqp,hs];rfl
     have lds:=yR.cls (P:=prog) aB hqp
     rw[hcs]at lds
     have OC:Ow cI aw wl1 NoB C.a C.n C.c (nI cl):=S1.at 5 rfl
     have hscl:s<cl.length:=by rw[hcll];exact hsn
     have MK:wO (ekN .i64) Hi.v wl1 k17 kvs:=S1.at 0 rfl
     have lk:=MK.g.look1 (P:=prog) mv (wN.int aB) iY (cf cl s)
     obtain⟨h,hh⟩:∃h,h=(jI (cf cl s) kvs).getD hi0:=⟨_,rfl⟩
     have lk2:((jI (cf cl s) kvs).map Hi.v).getD (.slice none 0 0)=.slice h.a h.n h.c:=by
       rw[hh];cases jI (cf cl s) kvs <;> rfl
     rw[lk2]at lk
     refine⟨⟨⟨by omega,by omega⟩,yR.isSome (i:=q) (by rw[fm];exact hqp)⟩,_,lds,_,am.load1 bF rfl (S1.at 1 rfl) rfl,rfl,rfl,C.a,C.n,C.c,am.load1 aI rfl (S1.at 8 rfl) rfl,⟨⟨by omega,by omega⟩,OC.all.isSome (i:=s) (by rw[fm];exact hscl)⟩,_,OC.all.cls aB hscl,h.a,h.n,h.c,lk,?_⟩
     intro k57 w57 hk57 hw57
     have hxl:h.xs.length <=1000000:=by
       rw[hh]
       rcases Dr (cf cl s) kvs with⟨e1,_⟩|⟨h0,l1,l2,e1,e2,_⟩
       · rw[e1];exact Nat.zero_le _
       · rw[e2]
         show h0.xs.length <=_
         rw[(HK.val (cf cl s,h0) (by rw[e1];simp)).1,fm]
         have:=List.length_filter_le (λt=>decide (cf cl t=cf cl s)) (comes d (S.take j) x++(kR d d.n x t).take q)
         rw[List.length_append,List.length_take]at this
         show(List.filter (λt=>decide (cf cl t=cf cl s)) _).length <=_
         omega
     obtain⟨pl,prest,hpl,Sx,hback⟩:∃(pl prest:List Hi),pl.Perm (h::prest)/\Sp w0 (ptM (ekN .i64) Hi.v k17 kvs::ptA k3 aK [.pointer (some ⟨kS,0,none⟩)]::sPs kS (daL a n c b m e d) B C M T pl mems tods cl backs) wl1/\
         ∀h',(h'::prest).Perm (mems++(tods++(g::((upG (cf cl s) h' kvs).map (·.2)++rest)))):=by
       rcases Dr (cf cl s) kvs with⟨e1,e3⟩|⟨h0,l1,l2,e1,e2,e3⟩
       · rw[e1]at hh
         subst hh
         refine⟨hi0::pool,pool,List.Perm.refl _,S1.upd 2 rfl (Chg.refl _ _) (p':=ptR aw (hi0::pool)) (Rws.add (S1.at 2 rfl) (Below.refl _ _) (h':=hi0) (Ow.nil _ _ _ _) (bI.none _)) λb hb=>?_,λh'=>?_⟩
         · rcases gA.1 hb with e|e
           · cases e
           · exact .inl e
         · rw[e3 h']
           refine lQ λz=>?_
           have:=hp.count_eq z
           simp only[List.count_append,List.count_cons,List.map_append,List.map_cons,List.map_nil,List.count_nil]at this ⊢
           omega
       · rw[e2]at hh
         subst hh
         refine⟨pool,mems++(tods++(g::((l1++l2).map (·.2)++rest))),?_,S1,λh'=>?_⟩
         · refine lQ λz=>?_
           have:=hp.count_eq z
           rw[e1]at this
           simp only[List.count_append,List.count_cons,List.map_append,List.map_cons,List.map_nil,List.count_nil,Option.getD_some]at this ⊢
           omega
         · rw[e3 h']
           refine lQ λz=>?_
           simp only[List.count_append,List.count_cons,List.map_append,List.map_cons,List.map_nil,List.count_nil]
           omega
     obtain⟨w58,h',r58,ex,S2⟩:=Ml Sx 2 rfl hpl hk57 hw57 hxl
     obtain⟨wx,qx,Mx,gx⟩:=wO.up (P:=prog) mv (wN.int aB) (Ga .i64) (S2.at 0 rfl:wO (ekN .i64) Hi.v w58 k17 kvs) (cf cl s) h'
     have S4:=S2.upd 0 rfl (Chg.grown gx List.mem_cons_self) (p':=ptM (ekN .i64) Hi.v k17 (upG (cf cl s) h' kvs)) Mx λb hb=>.inl hb
     refine⟨w58,h'.a,h'.n,h'.c,r58,wx,qx,(kR d d.n x t).length-(q+1),by omega,q+1,_,_,by rw[wrap_i64 (by omega) (by omega)];omega,hqp,rfl,?_,hback h',S4⟩
     rw[List.take_succ_eq_append_getElem hqp,<- hs,<- List.append_assoc]
     exact HK.add (by rw[ex,hh])
   · have:q=(kR d d.n x t).length:=by omega
     subst this
     rw[List.take_length]at HK
     exact⟨S.length-(j+1),by omega,j+1,kvs,pool,by rw[wrap_i64 (by omega) (by omega)];omega,hjS,rfl,by rw[J6 hjS,<- ht];exact HK,hp,S1⟩
 · have:j=S.length:=by omega
   subst this
   rw[List.take_length]at HK
   have HT:=HK.hit hS
   obtain⟨w62,r62,R62,b62⟩:=Ms (P:=prog) mv (S1.at 0 rfl:wO (ekN .i64) Hi.v wl k17 kvs)
   have lk17:k17<wl.heap.size:=(ptM (ekN .i64) Hi.v k17 kvs).lt (S1.at 0 rfl) k17 List.mem_cons_self
   obtain⟨ki,hki⟩:∃ki,ki=wl.heap.size:=⟨_,rfl⟩
   rw[<- hki]at r62 R62
   have hkne:ki≠k17:=by omega
   have S2:=S1.upd 0 rfl (Chg.of b62) (p':=ptI (ekN .i64) Hi.v ki k17 kvs kvs) R62 λb hb=>by
     rcases List.mem_cons.1 hb with rfl|hb
     · right;omega
     · exact .inl hb
   have By0:ByS d (cf cl) S x kvs mem.length todo.length cl mem todo mems tods:=⟨JQ.start SI AP HT,nm,nt,FU,⟨0,rfl,rfl⟩,hgd⟩
   clear gS gSl S1
   refine⟨w62,_,r62,λm2 wl=>∃(left:List (Nat×Hi)) (M T:H3) (pool mems tods rest:List Hi) (cl':List Nat) (mem' todo':List (List Nat)),m2=left.length/\(left.map (·.1)).Nodup/\(∀p∈left,p∈kvs)/\ByS d (cf cl) S x left mem.length todo.length cl' mem' todo' mems tods/\pool.Perm (mems++(tods++(g::(left.map (·.2)++rest))))/\
       Sp w0 (ptI (ekN .i64) Hi.v ki k17 kvs left::ptA k3 aK [.pointer (some ⟨kS,0,none⟩)]::sPs kS (daL a n c b m e d) B C M T pool mems tods cl' backs) wl,
     ⟨_,kvs,M,T,pool,mems,tods,rest,cl,mem,todo,rfl,HK.keys,λp hp=>hp,By0,hp,S2⟩,?_⟩
   clear S2 By0 hp nm nt AP FU
   intro m2
   refine aC.of ?_ _
   rintro wl2 ⟨left,M,T,pool,mems,tods,rest,cl',mem',todo',rfl,hnd,hsub,By,hp,S2⟩
   rcases mD.step (P:=prog) (S2.at 0 rfl:mD (ekN .i64) Hi.v wl2 ki k17 kvs left) hkne Gx with⟨rfl,hnx⟩|⟨l1,k,h,l2,wn,rfl,hnx,RS,hent,gn⟩
   · exact .inl ⟨wl2,hnx,rfl,M,T,pool,mems,tods,rest,cl',mem',todo',S2.tail.tail,hp,By⟩
   refine .inr ⟨wn,_,_,hnx,λn' a' l' c' u=>n'=((k:Nat):Int)/\a'=h.a/\l'=h.n/\c'=h.c/\u=wn,⟨_,_,hent,⟨rfl,rfl,rfl,rfl,rfl⟩⟩,?_⟩
   intro n12 a13 l13 c13
   refine aC.of ?_ _
   rintro wj ⟨rfl,rfl,rfl,rfl,rfl⟩
   have S3:=S2.upd 0 rfl (Chg.grown gn List.mem_cons_self) (p':=ptI (ekN .i64) Hi.v ki k17 kvs (l1++l2)) RS λb hb=>.inl hb
   clear S2
   have hkm:(k,h)∈kvs:=hsub _ (by simp)
   obtain⟨hxs,s0,hs0,es0⟩:=HK.val (k,h) hkm
   obtain⟨l,hl⟩:∃l,l=(comes d S x).filter λs=>decide (cf cl s=k):=⟨_,rfl⟩
   have hxs:h.xs=nI l:=by rw[hl];exact hxs
   have hmH:(k,l)∈unH kvs:=List.mem_map.2 ⟨(k,h),hkm,by show(k,unI h.xs)=_;rw[hxs,MR]⟩
   have hmL:(k,l)∈unH (l1++(k,h)::l2):=List.mem_map.2 ⟨(k,h),by simp,by show(k,unI h.xs)=_;rw[hxs,MR]⟩
   obtain⟨ln,lne,lm⟩:=HT.lists (k,l) hmH
   have hkcl:=By.inv.same (k,l) hmL
   have SI':=By.inv.inv
   have s0n:s0<d.n:=(re.1 hs0).1
   have hkl:k<mem'.length:=by
     have:=SI'.mlt s0 s0n
     rw[hkcl s0 s0n es0]at this;exact this
   obtain⟨xk,hxk⟩:∃xk,mems[k]? =some xk:=⟨_,List.getElem?_eq_getElem (by rw[By.len.1];exact hkl)⟩
   obtain⟨mk,hmk,hxm⟩:=QY By.nm hxk
   obtain⟨mkn,mki⟩:=SI'.mems k mk hmk
   have lsub:∀s∈l,s∈mk:=λs hs=>(mki s).2 ⟨((lm s).1 hs).1,hkcl s ((lm s).1 hs).1 ((lm s).1 hs).2.1⟩
   have R3:Rws aw wj pool:=S3.at 2 rfl
   have hhm:h∈pool:=hp.symm.subset (by simp)
   have xkm:xk∈pool:=hp.symm.subset (List.mem_append_left _ (List.mem_of_getElem? hxk))
   have hhn:h.n=l.length:=by rw[(R3.own h hhm).len,hxs,fm]
   have xkn:xk.n=mk.length:=by rw[(R3.own xk xkm).len,hxm,fm]
   have OM:Ow tHi ar wj NoB M.a M.n M.c mems:=S3.at 3 rfl
   have hMn:M.n=mem'.length:=by rw[OM.len,By.len.1]
   have hkM:k<mems.length:=cF hxk
   have hll:l.length <=d.n:=pY ln λs hs=>((lm s).1 hs).1
   have hml:mk.length <=d.n:=pY mkn λs hs=>((mki s).1 hs).1
   have hnd2:((l1++l2).map (·.1)).Nodup:=by
     have:=hnd
     rw[List.map_append,List.map_cons]at this
     rw[List.map_append]
     exact this.sublist (List.Sublist.append (List.Sublist.refl _) (List.sublist_cons_self _ _))
   have hsub2:∀p∈l1++l2,p∈kvs:=λp hp=>hsub p (by
     rcases List.mem_append.1 hp with hp|hp
     · exact List.mem_append_left _ hp
     · exact List.mem_append_right _ (List.mem_cons_of_mem _ hp))
   have hlen2:(l1++l2).length<(l1++(k,h)::l2).length:=by simp
   refine⟨_,am.load1 bF rfl (S3.at 1 rfl) rfl,rfl,rfl,M.a,M.n,M.c,am.load1 bu rfl (S3.at 8 rfl) rfl,⟨⟨by omega,by omega⟩,OM.all.isSome hkM⟩,xk.a,xk.n,xk.c,OM.all.hd aI hxk,ae.of (λhe=>?_) (λhe=>?_)⟩
   · have he:l.length=mk.length:=by
       rw[beq_iff_eq]at he;omega
     refine⟨_,hlen2,l1++l2,M,T,pool,mems,tods,h::rest,cl',mem',todo',rfl,hnd2,hsub2,⟨By.inv.whole HT hmL hmH (MQ hnd) λs hs e=>Kt (m:=mk) ln lsub (Nat.le_of_eq he.symm) s ((mki s).2 ⟨hs,hkcl s hs e⟩),By.nm,By.nt,By.full,By.grow,By.gd⟩,?_,S3⟩
     refine lQ λz=>?_
     have:=hp.count_eq z
     simp only[List.count_append,List.count_cons,List.map_append,List.map_cons,List.map_nil,List.count_nil]at this ⊢
     omega
   have hne:l.length≠mk.length:=λe=>by
     rw[hhn,xkn,e]at he
     simp at he
   refine⟨_,am.load1 bF rfl (S3.at 1 rfl) rfl,rfl,rfl,M.a,M.n,M.c,am.load1 bu rfl (S3.at 8 rfl) rfl,?_⟩
   intro k14 w14 hk14 hw14
   have S4:=S3.add (hw14▸ah wj _) (p:=ptA k14 aw [vI 0]) (show am w14 k14 _ _ from am.new hk14 hw14) (fp1 (by omega))
   obtain⟨wx1,q1,S5,_⟩:=S4.put ff 0 rfl (i:=0) (v:=vI ((M.n:Nat):Int)) rfl rfl (show 0<1 by decide)
   refine⟨wx1,q1,λm3 i u=>∃q:Nat,i=(q:Int)/\q <=l.length/\m3=l.length-q/\Sp w0 (ptA k14 aw [vI ((M.n:Nat):Int)]::ptI (ekN .i64) Hi.v ki k17 kvs (l1++l2)::ptA k3 aK [.pointer (some ⟨kS,0,none⟩)]::sPs kS (daL a n c b m e d) B C M T pool mems tods (fe cl' M.n (l.take q)) backs) u,
     ⟨_,0,rfl,Nat.zero_le _,rfl,S5⟩,?_⟩
   clear S5 S4 S3 R3 OM
   have hcl':cl'.length=d.n:=SI'.len
   have hcll':∀q,(fe cl' M.n (l.take q)).length=d.n:=λq=>by rw[vk,hcl']
   intro m3 i
   refine aC.of ?_ _
   rintro u3 ⟨q,rfl,hq,rfl,S3⟩
   have hSl2:Sl cI u3 kj h.a h.n h.c (nI l):=by
     have R:Rws aw u3 pool:=S3.at 3 rfl
     rw[<- hxs];exact(R.own h hhm).all
   refine ae.of (λh2=>?_) (λh2=>?_) <;> simp only[dTx,dFx]at h2
   · have hql:q<l.length:=by omega
     obtain⟨s,hs⟩:∃s,s=l[q]:=⟨_,rfl⟩
     have hsn:s<d.n:=((lm s).1 (by rw[hs];exact List.getElem_mem hql)).1
     have hcs:cf l q=s:=by unfold cf;rw[List.getD_eq_getElem?_getD,List.getElem?_eq_getElem hql,hs];rfl
     have ld:=hSl2.cls (P:=prog) aB hql
     rw[hcs]at ld
     have Sd:=S3.below (bg u3)
     have OC:Ow cI aw u3.drew NoB C.a C.n C.c (nI (fe cl' M.n (l.take q))):=Sd.at 6 rfl
     have hsl:s<(nI (fe cl' M.n (l.take q))).length:=by rw[fm,hcll'];exact hsn
     obtain⟨wx2,q2,o2,g2⟩:=Ow.store (k:=1) ff OC (λ_ _ h=>h) (i:=((s:Nat):Int)) (by simpa using hsl) rfl (v:=vI ((M.n:Nat):Int)) (x:=((M.n:Nat):Int)) ⟨rfl,trivial⟩
     refine⟨⟨⟨by omega,by omega⟩,hSl2.isSome (i:=q) (by rw[fm];exact hql)⟩,_,ld,λu=>Below u3.drew.heap.size u3.drew u,Below.refl _ _,_,λu hu=>am.load1 bF rfl ((Sd.below hu).at 2 rfl) rfl,rfl,rfl,C.a,C.n,C.c,λu hu=>am.load1 aI rfl ((Sd.below hu).at 9 rfl) rfl,_,λu hu=>am.load1 aB rfl ((Sd.below hu).at 0 rfl) rfl,⟨⟨by omega,by omega⟩,OC.all.isSome hsl⟩,wx2,q2,l.length-(q+1),by omega,q+1,by rw[wrap_i64 (by omega) (by omega)];omega,hql,rfl,?_⟩
     have ec:(nI (fe cl' M.n (l.take q))).set ((s:Nat):Int).toNat ((M.n:Nat):Int)=nI (fe cl' M.n (l.take (q+1))):=by
       rw[List.take_succ_eq_append_getElem hql,<- hs,IG,Int.toNat_natCast]
       unfold nI
       rw[List.map_set]
     rw[ec]at o2
     exact Sd.upd 6 rfl (Chg.row g2) (p':=ptO cI aw C.a C.n C.c (nI (fe cl' M.n (l.take (q+1))))) o2 λb hb=>.inl hb
   have:q=l.length:=by omega
   subst this
   rw[List.take_length]at S3
   obtain⟨cln,hcln⟩:∃cln,cln=fe cl' M.n l:=⟨_,rfl⟩
   rw[<- hcln]at S3
   have hclnl:cln.length=d.n:=by rw[hcln,vk,hcl']
   have Sd:=S3.below (bg u3)
   clear S3 hSl2 h2 hq
   obtain⟨mrest,mp1,mp2⟩:=FV hxk
   obtain⟨prest,hprest⟩:∃prest,prest=mrest++(tods++(g::((l1++(k,h)::l2).map (·.2)++rest))):=⟨_,rfl⟩
   have hpx:pool.Perm (xk::prest):=by
     refine lQ λz=>?_
     have e1:=hp.count_eq z
     have e2:=mp1.count_eq z
     rw[hprest]
     simp only[List.count_append,List.count_cons]at e1 e2 ⊢
     omega
   have inP:∀b∈(bK xk.a).toList,b∈BA pool:=λb hb=>pX.2 ⟨xk,xkm,dQ.1 hb⟩
   have RP:Rws aw u3.drew (xk::prest):=Rws.perm (Sd.at 3 rfl) hpx
   have OM:Ow tHi ar u3.drew NoB M.a M.n M.c mems:=Sd.at 4 rfl
   have ldV:∀{u:World},Chg (BA pool) u3.drew u->am u kS bJ (daL a n c b m e d++[B.v,C.v,M.v,T.v]):=λhu=>Sd.oth 3 rfl hu 9 rfl (by decide)
   have ld3:∀{u:World},Chg (BA pool) u3.drew u->am u k3 aK [.pointer (some ⟨kS,0,none⟩)]:=λhu=>Sd.oth 3 rfl hu 2 rfl (by decide)
   have isM:Option.isSome M.a=true:=OM.all.isSome hkM
   refine⟨λu=>Chg (BA pool) u3.drew u,Chg.refl _ _,_,λu hu=>(ld3 hu).load1 bF rfl rfl,rfl,rfl,M.a,M.n,M.c,λu hu=>(ldV hu).load1 bu rfl rfl,_,λu hu=>(ld3 hu).load1 bF rfl rfl,rfl,rfl,M.a,M.n,M.c,λu hu=>(ldV hu).load1 bu rfl rfl,⟨⟨by omega,by omega⟩,isM⟩,xk.a,xk.n,xk.c,λu hu=>?_,?_⟩
   · have O:Ow tHi ar u NoB M.a M.n M.c mems:=Sd.oth 3 rfl hu 4 rfl (by decide)
     exact O.all.hd aI hxk
   have GA:OK (some ⟨k3,0,none⟩) (some ⟨k14,0,none⟩) (BA pool) (λt=>((cf cln t.toNat:Nat):Int)==((M.n:Nat):Int)) xk.xs u3.drew:=λt ht u hu=>by
     rw[hxm]at ht
     obtain⟨s,hs,rfl⟩:=List.mem_map.1 ht
     have:=Nz (u:=u) (k14:=k14) (next:=M.n) (C:=C) (cl:=cln) (s:=s) (ld3 hu) (ldV hu) rfl (Sd.oth 3 rfl hu 6 rfl (by decide)) (Sd.oth 3 rfl hu 0 rfl (by decide)) (by rw[hclnl];exact((mki s).1 hs).1)
     simp only[Int.toNat_natCast]
     exact this
   refine ax (Lp GA (RP.own xk List.mem_cons_self) (λb hb=>inP b (dQ.2 hb)) (by rw[hxm,fm];omega)) ?_
   rintro _ w111 ⟨n',rfl,o111,c111⟩
   obtain⟨mk',hmk'⟩:∃mk',mk'=mk.filter λt=> !decide (cf cln t=mem'.length):=⟨_,rfl⟩
   have efl:(xk.xs.filter λt=> !(((cf cln t.toNat:Nat):Int)==((M.n:Nat):Int)))=nI mk':=by
     rw[hxm,hmk']
     refine Ma mk _ _ λs hs=>?_
     rw[Int.toNat_natCast,hMn]
     congr 1
     rw[Bool.eq_iff_iff,beq_iff_eq,dTx]
     omega
   rw[efl]at o111
   obtain⟨x',hx'⟩:∃x':Hi,x'=⟨xk.a,n',xk.c,nI mk'⟩:=⟨_,rfl⟩
   have o111:Ow cI aw w111 NoB x'.a x'.n x'.c x'.xs:=by rw[hx'];exact o111
   have R111:Rws aw w111 (x'::prest):=RP.upd c111 o111 (λb hb=>.inl (by rw[hx']at hb;exact hb))
   have S6:=Sd.upd 3 rfl (c111.mono inP) (p':=ptR aw (x'::prest)) R111 λb hb=>by
     rcases gA.1 hb with e|e
     · rw[hx']at e;exact .inl (inP b (dQ.2 e))
     · exact .inl ((rz hpx).2 (gA.2 (.inr e)))
   have OM6:Ow tHi ar w111 NoB M.a M.n M.c mems:=S6.at 4 rfl
   obtain⟨wx3,q3,o3,g3⟩:=Ow.store (k:=1) iY OM6 (λ_ _ h=>h) (i:=((k:Nat):Int)) (by simpa using hkM) rfl (v:=x'.v) (x:=x') ⟨rfl,trivial⟩
   rw[Int.toNat_natCast]at o3
   have S7:=S6.upd 4 rfl (Chg.row g3) (p':=ptO tHi ar M.a M.n M.c (mems.set k x')) o3 λb hb=>.inl hb
   have q3':(Instr.storeAt ar (.pointer (ao M.a ((k:Nat):Int) 1)) (.slice xk.a n' xk.c)).run prog w111=.ok () wx3:=by rw[hx']at q3;exact q3
   refine⟨xk.a,n',xk.c,rfl,c111.mono inP,⟨⟨by omega,by omega⟩,isM⟩,wx3,q3',?_⟩
   clear S6 OM6 Sd ldV ld3 OM RP R111 GA o111
   have Sd:=S7.below (bg wx3)
   have OM:Ow tHi ar wx3.drew NoB M.a M.n M.c (mems.set k x'):=Sd.at 4 rfl
   refine⟨λu=>Chg (bK M.a).toList wx3.drew u,Chg.refl _ _,_,λu hu=>am.load1 bF rfl (Sd.oth 4 rfl hu 2 rfl (by decide)) rfl,_,λu hu=>am.load1 bF rfl (Sd.oth 4 rfl hu 2 rfl (by decide)) rfl,rfl,rfl,M.a,M.n,M.c,λu hu=>am.load1 bu rfl (Sd.oth 4 rfl hu 9 rfl (by decide)) rfl,?_⟩
   intro k119 w119 hk119 hw119
   have hml2:mem'.length <=d.n+2:=By.full.le
   obtain⟨c119,w120,a4,n4,c4,r120,o120,c120,f120⟩:=Kx (ty:=aF) Bq bu iY (by decide) OM hk119 (vs:=[h.v]) hw119 (x:=h) ⟨rfl,trivial⟩ (cm:=1) (by rw[List.length_set,By.len.1];omega)
   have S8:=Sd.upd 4 rfl c120 (p':=ptO tHi ar a4 n4 c4 (mems.set k x'++[h])) o120 f120.fp
   obtain⟨wx4,q4,S9,_⟩:=S8.put qa 9 rfl (i:=6) (v:=.slice a4 n4 c4) rfl rfl (show 6<8 by decide)
   refine⟨c119,w120,a4,n4,c4,r120,c120,rfl,rfl,wx4,q4,?_⟩
   clear S8 S7 Sd OM o120
   obtain⟨M',hM'⟩:∃M':H3,M'=⟨a4,n4,c4⟩:=⟨_,rfl⟩
   have S10:Sp w0 (ptA k14 aw [vI ((M.n:Nat):Int)]::ptI (ekN .i64) Hi.v ki k17 kvs (l1++l2)::ptA k3 aK [.pointer (some ⟨kS,0,none⟩)]::sPs kS (daL a n c b m e d) B C M' T (x'::prest) (mems.set k x'++[h]) tods cln backs) wx4:=by rw[hM'];exact S9
   clear S9
   have Sd:=S10.below (bg wx4)
   have hxk':(mems.set k x'++[h])[k]? =some x':=by
     rw[List.getElem?_append_left (by rw[List.length_set];exact hkM),List.getElem?_set_self hkM]
   have ldV:∀{u:World},Chg (bK T.a).toList wx4.drew u->am u kS bJ (daL a n c b m e d++[B.v,C.v,M'.v,T.v]):=λhu=>Sd.oth 5 rfl hu 9 rfl (by decide)
   have ld3:∀{u:World},Chg (bK T.a).toList wx4.drew u->am u k3 aK [.pointer (some ⟨kS,0,none⟩)]:=λhu=>Sd.oth 5 rfl hu 2 rfl (by decide)
   have OM:Ow tHi ar wx4.drew NoB M'.a M'.n M'.c (mems.set k x'++[h]):=Sd.at 4 rfl
   have RP:Rws aw wx4.drew (x'::prest):=Sd.at 3 rfl
   have hM'n:M'.n=mem'.length+1:=by rw[OM.len,List.length_append,List.length_set,By.len.1];rfl
   have hhp:h∈x'::prest:=by rw[hprest];simp
   refine⟨λu=>Chg (bK T.a).toList wx4.drew u,Chg.refl _ _,_,λu hu=>(ld3 hu).load1 bF rfl rfl,_,λu hu=>(ld3 hu).load1 bF rfl rfl,rfl,rfl,T.a,T.n,T.c,λu hu=>(ldV hu).load1 bu rfl rfl,_,λu hu=>(ld3 hu).load1 bF rfl rfl,rfl,rfl,M'.a,M'.n,M'.c,λu hu=>(ldV hu).load1 bu rfl rfl,⟨⟨by omega,by omega⟩,OM.all.isSome (cF hxk')⟩,x'.a,x'.n,x'.c,λu hu=>?_,?_⟩
   · have O:Ow tHi ar u NoB M'.a M'.n M'.c (mems.set k x'++[h]):=Sd.oth 5 rfl hu 4 rfl (by decide)
     exact O.all.hd aI hxk'
   refine ax (Bo (RP.own h hhp).all (by rw[hxs,fm];omega)) ?_
   rintro _ w129 ⟨a5,n5,c5,rfl,o5,f5,b5⟩
   refine⟨a5,n5,c5,rfl,Chg.of b5,?_⟩
   have hmk'l:mk'.length <=d.n:=by rw[hmk'];exact Nat.le_trans (List.length_filter_le _ _) hml
   refine ax (Bo ((RP.own x' List.mem_cons_self).below b5).all (by rw[hx'];show(nI mk').length <=_;rw[fm];omega)) ?_
   rintro _ w137 ⟨a6,n6,c6,rfl,o6,f6,b6⟩
   have b56:=ab b5 b6 b5.size
   refine⟨a6,n6,c6,rfl,Chg.of b56,?_⟩
   intro k138 w138 hk138 hw138
   have b7:=(hw138▸ah w137 _:bW w137 w138)
   have R5:Rws aw w129 ((⟨a5,n5,c5,h.xs⟩:Hi)::x'::prest):=RP.add (h':=⟨a5,n5,c5,h.xs⟩) b5 o5 f5
   have R6:Rws aw w137 ((⟨a6,n6,c6,x'.xs⟩:Hi)::(⟨a5,n5,c5,h.xs⟩:Hi)::x'::prest):=R5.add (h':=⟨a6,n6,c6,x'.xs⟩) b6 o6 f6
   have S11:=(Sd.upd 3 rfl (Chg.of b56) (p':=ptR aw ((⟨a6,n6,c6,x'.xs⟩:Hi)::(⟨a5,n5,c5,h.xs⟩:Hi)::x'::prest)) R6 λb hb=>by
     rcases gA.1 hb with e|hb
     · have:=f6 b e;have:=b5.size;exact .inr (by omega)
     · rcases gA.1 hb with e|hb
       · exact .inr (f5 b e)
       · exact .inl hb).below b7
   have OT:Ow tHi ar w138 NoB T.a T.n T.c tods:=S11.at 5 rfl
   have ON:Ow tHi ar w138 NoB (some ⟨k138,0,none⟩) 2 2 [(⟨a5,n5,c5,h.xs⟩:Hi),(⟨a6,n6,c6,x'.xs⟩:Hi)]:=Ow.newF (l:=[.slice a5 n5 c5,.slice a6 n6 c6]) Bq hk138 hw138 ((iK.one (T:=tHi) (x:=⟨a5,n5,c5,h.xs⟩) ⟨rfl,trivial⟩).append (iK.one (T:=tHi) (x:=⟨a6,n6,c6,x'.xs⟩) ⟨rfl,trivial⟩)) (show 2 <=maxLen by decide)
   obtain⟨kk,hkk1,hkk2⟩:=By.grow
   have htl:tods.length=todo'.length:=By.len.2
   obtain⟨w139,a7,n7,c7,r139,o139,g139,f139⟩:=dh (ty:=aF) bu iY (by decide) OT (λ_ _ h=>h) (cm:=2) (Sl.flat Bq ON.all) (by rw[htl];simp only[List.length_cons,List.length_nil];omega)
   have S12:=S11.upd 5 rfl (Chg.row g139) (p':=ptO tHi ar a7 n7 c7 (tods++[(⟨a5,n5,c5,h.xs⟩:Hi),(⟨a6,n6,c6,x'.xs⟩:Hi)])) o139 λb hb=>by
     rcases f139 b (dQ.1 hb)with e|e
     · exact .inl (dQ.2 e)
     · exact .inr e
   obtain⟨wx5,q5,S13,_⟩:=S12.put qa 9 rfl (i:=7) (v:=.slice a7 n7 c7) rfl rfl (show 7<8 by decide)
   have c138:Chg (bK T.a).toList wx4.drew w138:=Chg.of (ab b56 b7 b56.size)
   refine⟨c138,w139,a7,n7,c7,r139,c138.trans (Chg.row g139),rfl,rfl,wx5,q5,_,hlen2,l1++l2,M',⟨a7,n7,c7⟩,((⟨a6,n6,c6,x'.xs⟩:Hi)::(⟨a5,n5,c5,h.xs⟩:Hi)::x'::prest),mems.set k x'++[h],tods++[(⟨a5,n5,c5,h.xs⟩:Hi),(⟨a6,n6,c6,x'.xs⟩:Hi)],rest,cln,mem'.set k mk'++[l],todo'++[l,mk'],rfl,hnd2,hsub2,⟨?_,?_,?_,?_,⟨kk+1,?_,?_⟩,?_⟩,?_,S13.tail⟩
   · have cut:JQ d (cf cl) S x (unH (l1++l2)) (fe cl' mem'.length l) (mem'.set k (mk.filter λt=> !decide (cf (fe cl' mem'.length l) t=mem'.length))++[l]) ((todo'++[l,mk'])++[S]):=By.inv.cut HT hmL hmH (MQ hnd) hmk (λU hU=>by
       rcases List.mem_append.1 hU with hU|hU
       · exact List.mem_append_left _ (List.mem_append_left _ hU)
       · exact List.mem_append_right _ hU) (by simp) (λq hq=>by
         obtain⟨p,hpk,rfl⟩:=List.mem_map.1 hq
         obtain⟨_,s,hs,e⟩:=HK.val p hpk
         have:=SI.mlt s (re.1 hs).1
         rw[e]at this
         show p.1<_
         omega) (λq hq=>by
         obtain⟨p,hpk,rfl⟩:=List.mem_map.1 hq
         exact List.mem_map.2 ⟨p,hsub p hpk,rfl⟩)
     have e:mk'=mk.filter λt=> !decide (cf (fe cl' mem'.length l) t=mem'.length):=by rw[hmk',hcln,hMn]
     rw[<- e]at cut
     rw[hcln,hMn]
     exact cut
   · have:=By.nm
     unfold nX at this ⊢
     rw[List.map_append,List.map_set,this,List.map_append,List.map_set,hx']
     show _++[h.xs]=_
     rw[hxs];rfl
   · have:=By.nt
     unfold nX at this ⊢
     rw[List.map_append,this,List.map_append]
     show _++[h.xs,x'.xs]=_
     rw[hxs,hx'];rfl
   · rw[List.length_append,List.length_set,hcln,hMn]
     refine By.full.split SI' hmk lsub lne ?_
     refine Classical.byContradiction λhc=>hne ?_
     have hall:∀s∈mk,s∈l:=λs hs=>Classical.byContradiction λhn=>hc ⟨s,hs,hn⟩
     exact Nat.le_antisymm (mc (m:=mk) ln lsub) (mc (m:=l) mkn hall)
   · rw[List.length_append,List.length_set];simp only[List.length_cons,List.length_nil];omega
   · rw[List.length_append];simp only[List.length_cons,List.length_nil];omega
   · intro U hU
     rcases List.mem_append.1 hU with hU|hU
     · exact By.gd U hU
     · rcases List.mem_cons.1 hU with rfl|hU
       · exact⟨ln,λt ht=>((lm t).1 ht).1⟩
       · rw[List.mem_singleton]at hU
         subst hU
         rw[hmk']
         exact⟨mkn.filter _,λt ht=>((mki t).1 (List.mem_filter.1 ht).1).1⟩
   · refine lQ λz=>?_
     have e2:=(mp2 x').count_eq z
     rw[hprest]
     simp only[List.count_append,List.count_cons,List.map_append,List.map_cons,List.map_nil,List.count_nil]at e2 ⊢
     omega
structure mV (d o:DA):Prop where
 ok:o.Ok
 k:o.k=d.k
 n:o.n <=d.n
 lang:∀w,o.Lang o.s w ↔ d.Lang d.s w
 img:∃φ:Nat->Nat,∀w:List Nat,(∀x∈w,x<d.K)->o.run o.s w=φ (d.run d.s w)
theorem mV.kk {d o:DA}(h:mV d o):o.K=d.K:=by unfold DA.K;rw[h.k]
theorem mV.trans {d o p:DA}(h:mV d o)(k:mV o p):mV d p where
 ok:=k.ok
 k:=k.k.trans h.k
 n:=Nat.le_trans k.n h.n
 lang:=λw=>(k.lang w).trans (h.lang w)
 img:=by
   obtain⟨φ,h1⟩:=h.img
   obtain⟨ψ,h2⟩:=k.img
   exact⟨λs=>ψ (φ s),λw hw=>by rw[h2 w (by rw[h.kk];exact hw),h1 w hw]⟩
theorem LX {l:List Nat}(hn:l.Nodup){i v:Nat}(h:l[i]? =some v):l.idxOf v=i:=by
 obtain⟨hi,rfl⟩:=List.getElem?_eq_some_iff.1 h
 exact hn.idxOf_getElem i hi
theorem tt.tight {d:DA}{c:Nat->Nat}{o:DA}{rs:List Nat}(h:tt d c o rs)(hd:d.Ok)(hc:M6 d c):mV d o where
 ok:=h.ok hd
 k:=h.k
 n:=by have h1:o.ac.length=rs.length:=h.n;have h2:=h.le;show o.ac.length <=d.ac.length;omega
 lang:=h.lang hd hc
 img:=⟨λs=>(rs.map c).idxOf (c s),λw hw=>by
   have hs:o.s=0:=by unfold DA.s;rw[h.st];rfl
   obtain⟨q,e1,e2⟩:=h.run hd hc (w:=w) h.first hd.s_lt rfl hw
   rw[hs]
   refine(LX h.nd ?_).symm
   rw[List.getElem?_map,e1,<- e2];rfl⟩
structure R7 (d:DA)(cl:List Nat)(mem todo:List (List Nat))(mems tods:List Hi):Prop where
 inv:KK d cl mem
 nm:nX mems=mem.map nI
 nt:nX tods=todo.map nI
 full:Nh d cl mem.length
 le:todo.length <=2*mem.length
 gd:∀U∈todo,U.Nodup/\∀t∈U,t<d.n
def OL (d:DA)(w:World)(v:Value)(w':World):Prop:=∃(a:Option Addr) (n c:Nat) (cl:List Nat),v=.slice a n c/\Sl cI w' kj a n c (nI cl)/\cl.length=d.n/\M6 d (cf cl)/\bW w w'
set_option maxHeartbeats 1000000 in
theorem J4 {w:World}{a b:Option Addr}{n c m e:Nat}{d:DA}(h:DaS w a n c b m e d)(hd:d.Ok):
   Cf oR #[daV a n c b m e d] w (Ret (OL d w)):=by
 apply zY
 have hN:d.n <=65536:=hd.n2
 have hKK:=hd.kk
 intro k1 w1 hk1 hw1
 have b1:=(hw1▸ah w _:bW w w1)
 have A1:am w1 k1 af (daL a n c b m e d):=am.new hk1 hw1
 refine⟨_,_,a,n,c,b,m,e,bG.load0 (cs:=daL a n c b m e d) A1 rfl,?_⟩
 refine ax (ID (h.below b1) hd) ?_
 rintro _ w7 ⟨kS,B,C,M,T,pool,mems,tods,backs,rfl,BK,nm0,nt0,hp0,S0⟩
 refine⟨_,rfl,?_⟩
 have gd0:∀U∈[zC d d.n false,zC d d.n true],U.Nodup/\∀t∈U,t<d.n:=λU hU=>by
   have gen:∀b,(zC d d.n b).Nodup/\∀t∈zC d d.n b,t<d.n:=λb=>⟨List.nodup_range.filter _,λt ht=>(yl.1 ht).1⟩
   simp only[List.mem_cons,List.not_mem_nil,or_false]at hU
   rcases hU with rfl|rfl <;> exact gen _
 refine⟨λmm wl=>∃(M T:H3) (pool mems tods rest:List Hi) (cl:List Nat) (mem todo:List (List Nat)),mm=3*(d.n+2-mem.length)+todo.length/\R7 d cl mem todo mems tods/\xL d (cf cl) todo/\pool.Perm (mems++(tods++rest))/\Sp w1 (sPs kS (daL a n c b m e d) B C M T pool mems tods cl backs) wl,
   ⟨_,M,T,pool,mems,tods,[],xI d d.n,[zC d d.n false,zC d d.n true],[zC d d.n false,zC d d.n true],rfl,⟨RN d,nm0,nt0,λc h2 hc=>by simp at hc;omega,by simp,gd0⟩,QD d,by rw[List.append_nil];exact hp0,S0⟩,?_⟩
 clear S0 hp0 nm0 nt0 gd0 M T pool mems tods
 intro mm
 refine aC.of ?_ _
 rintro wl ⟨M,T,pool,mems,tods,rest,cl,mem,todo,rfl,CS,AP,hp,S1⟩
 have OT:Ow tHi ar wl NoB T.a T.n T.c tods:=S1.at 2 rfl
 have htl:tods.length=todo.length:=by
   have:=congrArg List.length CS.nt
   simpa[nX]using this
 have hTn:T.n=todo.length:=by rw[OT.len,htl]
 have ldV:∀{u:World},bW wl u->am u kS bJ (daL a n c b m e d++[B.v,C.v,M.v,T.v]):=λhu=>(S1.below hu).at 6 rfl
 have hfl:=CS.full.le
 have hle:=CS.le
 refine⟨rfl,rfl,T.a,T.n,T.c,(ldV (Below.refl _ _)).load1 bu rfl rfl,ae.of (λh1=>?_) (λh1=>?_)⟩ <;> simp only[gt_iff_lt,dTx,dFx]at h1
 · have hpos:0<todo.length:=by omega
   obtain⟨todo1,S,rfl⟩:∃todo1 S,todo=todo1++[S]:=⟨_,_,(List.dropLast_concat_getLast (List.ne_nil_of_length_pos hpos)).symm⟩
   obtain⟨tods1,g,rfl⟩:∃tods1 g,tods=tods1++[g]:=⟨_,_,(List.dropLast_concat_getLast (List.ne_nil_of_length_pos (by omega))).symm⟩
   have hl1:tods1.length=todo1.length:=by simpa using htl
   have hT1:T.n=tods1.length+1:=by rw[OT.len];simp
   obtain⟨nt1,hg⟩:nX tods1=todo1.map nI/\g.xs=nI S:=by
     have:=CS.nt
     unfold nX at this
     rw[List.map_append,List.map_append]at this
     obtain⟨e1,e2⟩:=List.append_inj this (by simp[hl1])
     exact⟨e1,by simpa using e2⟩
   have hwr:i64.wrap (((T.n:Nat):Int)-1)=((tods1.length:Nat):Int):=by
     rw[List.length_append]at hle
     simp only[List.length_cons,List.length_nil]at hle
     rw[hT1,wrap_i64 (by omega) (by omega)];omega
   have hgi:(tods1++[g])[tods1.length]? =some g:=by simp
   refine⟨rfl,rfl,T.a,T.n,T.c,λu hu=>(ldV hu).load1 bu rfl rfl,rfl,rfl,T.a,T.n,T.c,λu hu=>(ldV hu).load1 bu rfl rfl,?_⟩
   rw[hwr]
   refine⟨⟨⟨by omega,by omega⟩,OT.all.isSome (cF hgi)⟩,g.a,g.n,g.c,λu hu=>(OT.below hu).all.hd aI hgi,λwq hq=>?_⟩
   have Sd:=(S1.below hq).below (bg wq)
   have ldV2:∀{u:World},Below wq.drew.heap.size wq.drew u->am u kS bJ (daL a n c b m e d++[B.v,C.v,M.v,T.v]):=λhu=>(Sd.below hu).at 6 rfl
   refine⟨λu=>Below wq.drew.heap.size wq.drew u,Below.refl _ _,rfl,rfl,T.a,T.n,T.c,λu hu=>(ldV2 hu).load1 bu rfl rfl,rfl,rfl,T.a,T.n,T.c,λu hu=>(ldV2 hu).load1 bu rfl rfl,?_⟩
   rw[hwr,Int.toNat_natCast]
   have OT2:Ow tHi ar wq.drew NoB T.a T.n T.c (tods1++[g]):=Sd.at 2 rfl
   have hTc:=OT2.2.1
   have OT3:=OT2.takeN (j:=tods1.length) (by simp)
   rw[List.take_left' rfl]at OT3
   have S2:=Sd.upd 2 rfl (Chg.refl _ _) (p':=ptO tHi ar T.a tods1.length T.c tods1) OT3 λb hb=>.inl hb
   obtain⟨wx,q,S3,_⟩:=S2.put qa 6 rfl (i:=7) (v:=.slice T.a tods1.length T.c) rfl rfl (show 7<8 by decide)
   refine⟨⟨by omega,by omega⟩,rfl,rfl,wx,q,rfl,((d.K:Nat):Int),by rw[hKK];exact am.load1 aB rfl (A1.below S3.bw) rfl,?_⟩
   obtain⟨gS,gn⟩:=CS.gd S (by simp)
   have gd1:∀U∈todo1,U.Nodup/\∀t∈U,t<d.n:=λU hU=>CS.gd U (List.mem_append_left _ hU)
   have S3':Sp w1 (sPs kS (daL a n c b m e d) B C M ⟨T.a,tods1.length,T.c⟩ pool mems tods1 cl backs) wx:=S3
   clear S1 OT OT2 OT3 S2 S3 Sd ldV ldV2
   have hp1:pool.Perm (mems++(tods1++(g::rest))):=by
     refine lQ λz=>?_
     have:=hp.count_eq z
     simp only[List.count_append,List.count_cons,List.count_nil]at this ⊢
     omega
   refine⟨λm1 i u=>∃(x:Nat) (M T:H3) (pool mems tods rest:List Hi) (cl':List Nat) (mem' todo':List (List Nat)),i=(x:Int)/\x <=d.K/\m1=d.K-x/\KK d cl' mem'/\nX mems=mem'.map nI/\nX tods=todo'.map nI/\Nh d cl' mem'.length/\(∀U∈todo',U.Nodup/\∀t∈U,t<d.n)/\
       (∃k,mem'.length=mem.length+k/\todo'.length=todo1.length+2*k)/\xL d (cf cl') (todo'++[S])/\(∀y,y<x->BH d (cf cl') S y)/\pool.Perm (mems++(tods++(g::rest)))/\Sp w1 (sPs kS (daL a n c b m e d) B C M T pool mems tods cl' backs) u,
     ⟨_,0,M,_,pool,mems,tods1,rest,cl,mem,todo1,rfl,Nat.zero_le _,rfl,CS.inv,CS.nm,nt1,CS.full,gd1,⟨0,rfl,rfl⟩,AP,(λy hy=>by omega),hp1,S3'⟩,?_⟩
   clear S3' hp1 hp AP
   have hml:=CS.le
   rw[List.length_append]at hml
   simp only[List.length_cons,List.length_nil]at hml
   intro m1 i
   refine aC.of ?_ _
   rintro u ⟨x,M,T,pool,mems,tods,rest,cl',mem',todo',rfl,hx,rfl,SI,nm,nt,FU,gd,⟨k,hk1,hk2⟩,AP,ST,hp,S4⟩
   have hfl2:=FU.le
   refine ae.of (λh5=>?_) (λh5=>?_) <;> simp only[dTx,dFx]at h5
   · have hxK:x<d.K:=by omega
     have hd2:=hd.k2
     have hxk:x+1 <=512:=by
       have:d.K <=512:=by(show d.k.toNat <=512;omega)
       omega
     refine ax (Rw hd S4 BK SI AP FU nm nt hp hg gS gn hxK (by omega) gd) ?_
     rintro _ w48 ⟨rfl,M2,T2,pool2,mems2,tods2,rest2,cl2,mem2,todo2,S5,hp2,BS⟩
     obtain⟨k2,e1,e2⟩:=BS.grow
     refine⟨rfl,d.K-(x+1),by omega,x+1,M2,T2,pool2,mems2,tods2,rest2,cl2,mem2,todo2,by rw[wrap_i64 (by omega) (by omega)];omega,hxK,rfl,BS.inv.inv,BS.nm,BS.nt,BS.full,BS.gd,⟨k+k2,by omega,by omega⟩,BS.inv.apart,λy hy=>?_,hp2,S5⟩
     by_cases e:y=x
     · subst e;exact BS.inv.stable
     · exact(ST y (by omega)).finer BS.inv.finer
   · have:x=d.K:=by omega
     subst this
     refine⟨_,?_,M,T,pool,mems,tods,g::rest,cl',mem',todo',rfl,⟨SI,nm,nt,FU,by omega,gd⟩,AP.drop ST (λU hU=>?_),hp,S4⟩
     · rw[List.length_append]
       simp only[List.length_cons,List.length_nil]
       omega
     · rcases List.mem_append.1 hU with hU|hU
       · exact .inr hU
       · rw[List.mem_singleton]at hU;exact .inl hU
 · have h0:todo=[]:=List.eq_nil_of_length_eq_zero (by omega)
   subst h0
   have OC:Ow cI aw wl NoB C.a C.n C.c (nI cl):=S1.at 3 rfl
   exact⟨rfl,rfl,C.a,C.n,C.c,(ldV (Below.refl _ _)).load1 aI rfl rfl,C.a,C.n,C.c,cl,rfl,OC.all,CS.inv.len,AP.cong hd CS.inv.acc,ab b1 S1.bw b1.size⟩
theorem Bm {n s:Nat}(h:s<n):cf (List.range n) s=s:=by
 unfold cf
 rw[List.getD_eq_getElem?_getD,List.getElem?_range h];rfl
theorem Jd (d:DA):M6 d (cf (List.range d.n)) where
 acc:=λs t hs ht e=>by rw[Bm hs,Bm ht]at e;rw[e]
 «to»:=λs t x hs ht e hx=>by rw[Bm hs,Bm ht]at e;rw[e]
def xN (d:DA)(w:World)(v:Value)(w':World):Prop:=if okD d=true then ∃o,mV d o/\vo w o v w' else EZ w v w'
set_option maxHeartbeats 1000000 in
theorem Np {w:World}{a b:Option Addr}{n c m e:Nat}{d:DA}(h:DaS w a n c b m e d):
   Cf rW #[daV a n c b m e d] w (Ret (xN d w)):=by
 apply Dd
 intro k1 w1 hk1 hw1 k2 w2 hk2 hw2
 have b1:=(hw1▸ah w _:bW w w1)
 have b2:=(hw2▸ah w1 _:bW w1 w2)
 have A1':am w1 k1 af (daL a n c b m e d):=am.new hk1 hw1
 have A1:=A1'.below b2
 have A2:am w2 k2 af [vI 0,vI 0,.slice none 0 0,.slice none 0 0]:=am.new hk2 hw2
 have B2:=ab b1 b2 b1.size
 have s1:=b1.size
 refine⟨_,_,a,n,c,b,m,e,bG.load0 (cs:=daL a n c b m e d) A1 rfl,?_⟩
 refine ax (ko (h.below B2)) ?_
 rintro _ w6 ⟨rfl,b6⟩
 have B6:=ab B2 b6 B2.size
 refine⟨_,rfl,ae.of (λh1=>?_) (λh1=>?_)⟩
 · have h1:okD d=false:=by simpa using h1
   obtain⟨wx,s1,s2,g1⟩:=cX (A2.below b6) rfl none 0 0 none 0 0 d0
   refine⟨wx,s1,_,_,none,0,0,none,0,0,s2,?_⟩
   unfold xN
   rw[if_neg (by rw[h1];decide)]
   exact⟨rfl,Below.put B6 g1 (by omega)⟩
 have h1:okD d=true:=by simpa using h1
 have hd:=di.1 h1
 have Bd:=ab B6 (bg w6) B6.size
 have A1d:=(A1.below b6).below (bg w6)
 have A2d:=(A2.below b6).below (bg w6)
 have hdd:=h.below Bd
 have l2:=A2d.lt
 refine⟨λp u=>∃(k4:Nat) (o:DA) (a n c:_) (b:Option Addr) (m e:Nat),p=some ⟨k4,0,none⟩/\mV d o/\Below w6.drew.heap.size w6.drew u/\am u k4 af (daL a n c b m e o)/\DaS u a n c b m e o,?_,?_⟩
 · have own:=fun{u:World} (hu:Below w6.drew.heap.size w6.drew u)=>HD (hdd.below hu) hd
   have ord:=fun{u:World} {a':Option Addr} (hu:Below w6.drew.heap.size w6.drew u) (hs:Ow cI aw u NoB a' d.n d.n (Mj d.n))=>EG (hdd.below hu) hd (cl:=List.range d.n) hs.all (by simp) (Jd d)
   have fin:∀{u:World} {k4:Nat} {w0:World} {o:DA} {rs:List Nat} {a n c:_} {b:Option Addr} {m e:Nat},tt d (cf (List.range d.n)) o rs->Below w6.drew.heap.size w6.drew u->w6.drew.heap.size <=k4->am u k4 af [vI 0,vI 0,.slice none 0 0,.slice none 0 0]->zb w0.heap.size u a n c b m e o->(∀g,bK a=some g->g≠k4)->(∀g,bK b=some g->g≠k4)->
       ∃wx,(Instr.storeAt af (.pointer (some ⟨k4,0,none⟩)) (daV a n c b m e o)).run prog u=.ok () wx/\
         ∃(k4':Nat) (o:DA) (a n c:_) (b:Option Addr) (m e:Nat),(some ⟨k4,0,none⟩:Option Addr)=some ⟨k4',0,none⟩/\mV d o/\Below w6.drew.heap.size w6.drew wx/\am wx k4' af (daL a n c b m e o)/\DaS wx a n c b m e o:=fun{u k4 w0 o rs a n c b m e} hI hu hk hA hO ha hb=>by
     obtain⟨wx,q,v,g⟩:=bG.store0 (P:=prog) (cs:=daL a n c b m e o) rfl (fM _ _ _ _ _ _ _) hA rfl
     exact⟨wx,q,k4,o,a,n,c,b,m,e,rfl,hI.tight hd (Jd d),hu.grown g hu.size (λr hr=>by cases hr;exact hk),v,⟨(hO.nx.put (λg hg=>ha g hg) g).all,(hO.ac.put (λg hg=>hb g hg) g).all⟩⟩
   refine⟨λu=>Below w6.drew.heap.size w6.drew u,Below.refl _ _,_,_,a,n,c,b,m,e,λu hu=>bG.load0 (cs:=daL a n c b m e d) (A1d.below hu) rfl,_,_,a,n,c,b,m,e,λu hu=>bG.load0 (cs:=daL a n c b m e d) (A1d.below hu) rfl,⟨?_,?_⟩⟩
   · refine ax (own (Below.refl _ _)) ?_
     rintro _ w11 ⟨a11,rfl,o11,f11,b11⟩
     refine⟨a11,_,_,rfl,b11,?_,?_⟩
     · refine ax (ord b11 o11) ?_
       rintro _ w12 ⟨o,rs,hI,a2,n2,c2,b2',m2,e2,rfl,hO,b12⟩
       have B12:=ab b11 b12 b11.size
       refine⟨_,_,a2,n2,c2,b2',m2,e2,rfl,B12,λk4 w4 hk4 hw4=>?_⟩
       have b4:=(hw4▸ah w12 _:bW w12 w4)
       refine⟨ab B12 b4 B12.size,?_⟩
       have s12:=B12.size
       exact fin hI (ab B12 b4 B12.size) (by omega) (am.new hk4 hw4) (hO.below b4) (λg hg=>by have:=hO.nx.lt g hg;omega) (λg hg=>by have:=hO.ac.lt g hg;omega)
     · intro k4 w4 hk4 hw4
       have b4:=(hw4▸ah w11 _:bW w11 w4)
       have B4:=ab b11 b4 b11.size
       refine⟨B4,?_⟩
       refine ax (ord B4 (o11.below b4)) ?_
       rintro _ w12 ⟨o,rs,hI,a2,n2,c2,b2',m2,e2,rfl,hO,b12⟩
       have B12:=ab B4 b12 B4.size
       have s11:=b11.size
       have A4:am w4 k4 af [vI 0,vI 0,.slice none 0 0,.slice none 0 0]:=am.new hk4 hw4
       have l4:=A4.lt
       exact⟨_,_,a2,n2,c2,b2',m2,e2,rfl,B12,fin hI B12 (by omega) (A4.below b12) hO (λg hg=>by have:=hO.fa g hg;omega) (λg hg=>by have:=hO.fb g hg;omega)⟩
   · intro k4 w4 hk4 hw4
     have b4:=(hw4▸ah w6.drew _:Below w6.drew.heap.size w6.drew w4)
     refine⟨b4,?_⟩
     have A4:am w4 k4 af [vI 0,vI 0,.slice none 0 0,.slice none 0 0]:=am.new hk4 hw4
     have l4:=A4.lt
     refine ax (own b4) ?_
     rintro _ w11 ⟨a11,rfl,o11,f11,b11⟩
     have B11:=ab b4 b11 b4.size
     refine⟨a11,_,_,rfl,B11,?_⟩
     refine ax (ord B11 o11) ?_
     rintro _ w12 ⟨o,rs,hI,a2,n2,c2,b2',m2,e2,rfl,hO,b12⟩
     have B12:=ab B11 b12 B11.size
     have s11:=b11.size
     exact⟨_,_,a2,n2,c2,b2',m2,e2,rfl,B12,fin hI B12 (by omega) ((A4.below b11).below b12) hO (λg hg=>by have:=hO.fa g hg;omega) (λg hg=>by have:=hO.fb g hg;omega)⟩
 intro p4
 refine aC.of ?_ _
 rintro wj ⟨k4,o,a3,n3,c3,b3,m3,e3,rfl,hT,bj,A4,D4⟩
 have bjd:=ab bj (bg wj) bj.size
 have D5:=D4.below (bg wj)
 refine⟨λu=>Below wj.drew.heap.size wj.drew u,Below.refl _ _,_,_,a3,n3,c3,b3,m3,e3,λu hu=>bG.load0 (cs:=daL a3 n3 c3 b3 m3 e3 o) ((A4.below (bg wj)).below hu) rfl,_,_,a3,n3,c3,b3,m3,e3,λu hu=>bG.load0 (cs:=daL a3 n3 c3 b3 m3 e3 o) ((A4.below (bg wj)).below hu) rfl,?_⟩
 refine ax (J4 D5 hT.ok) ?_
 rintro _ w15 ⟨ac,nc,cc,cl,rfl,hcl,hcln,hcong,b15⟩
 refine⟨ac,nc,cc,rfl,b15,?_⟩
 refine ax (EG (D5.below b15) hT.ok hcl hcln hcong) ?_
 rintro _ w16 ⟨o2,rs2,hI2,a6,n6,c6,b6',m6,e6,rfl,hO,b16⟩
 have B16:=ab b15 b16 b15.size
 have Bf:=ab bjd B16 bjd.size
 obtain⟨wx,s1,s2,g1⟩:=cX (A2d.below Bf) rfl a6 n6 c6 b6' m6 e6 o2
 refine⟨_,_,a6,n6,c6,b6',m6,e6,rfl,B16,wx,s1,_,_,a6,n6,c6,b6',m6,e6,s2,?_⟩
 unfold xN
 rw[if_pos h1]
 have s15:=b15.size
 have sj:=bjd.size
 have sd:=Bd.size
 exact⟨o2,hT.trans (hI2.tight hT.ok hcong),a6,n6,c6,b6',m6,e6,rfl,(hO.put g1 (by omega)).mono (by omega),Below.put (ab Bd Bf Bd.size) g1 (by omega)⟩
def xM (da db:DA)(w:World)(v:Value)(w':World):Prop:=if iG da db=true then ∃p ps o,jr da db (λx y=>x&&y) p ps/\mV p o/\vo w o v w' else EZ w v w'
set_option maxHeartbeats 1000000 in
theorem La {w:World}{aa ba ca ea:Option Addr}{an ac bn bc cn cc en ec:Nat}{da db:DA}(hA:DaS w aa an ac ba bn bc da)(hB:DaS w ca cn cc ea en ec db)(hf:da.Ok->db.Ok->da.k=db.k->Few da db):
   Cf nS #[daV aa an ac ba bn bc da,daV ca cn cc ea en ec db] w (Ret (xM da db w)):=by
 apply C9
 intro k2 w2 hk2 hw2 k3 w3 hk3 hw3 k4 w4 hk4 hw4
 have b2:=(hw2▸ah w _:bW w w2)
 have b3:=(hw3▸ah w2 _:bW w2 w3)
 have b4:=(hw4▸ah w3 _:bW w3 w4)
 have A2:am w2 k2 af (daL aa an ac ba bn bc da):=am.new hk2 hw2
 have A3:am w3 k3 af (daL ca cn cc ea en ec db):=am.new hk3 hw3
 have A4:am w4 k4 af [vI 0,vI 0,.slice none 0 0,.slice none 0 0]:=am.new hk4 hw4
 have B4:bW w w4:=ab (ab b2 b3 b2.size) b4 (Nat.le_trans b2.size b3.size)
 have o4:w.heap.size <=k4:=by have:=b2.size;have:=b3.size;omega
 have l4:=A4.lt
 refine⟨_,_,aa,an,ac,ba,bn,bc,bG.load0 (cs:=daL aa an ac ba bn bc da) ((A2.below b3).below b4) rfl,_,_,ca,cn,cc,ea,en,ec,bG.load0 (cs:=daL ca cn cc ea en ec db) (A3.below b4) rfl,?_⟩
 refine ax (wX (hA.below B4) (hB.below B4) hf) ?_
 intro v w11 hP
 by_cases hok:iG da db=true
 · unfold rK at hP
   rw[if_pos hok]at hP
   obtain⟨p,ps,hI,a1,n1,c1,b1,m1,e1,rfl,O,hb⟩:=hP
   obtain⟨oka,okb,hk⟩:da.Ok/\db.Ok/\da.k=db.k:=by
     unfold iG at hok
     rw[Bool.and_eq_true,Bool.and_eq_true,beq_iff_eq]at hok
     exact⟨di.1 hok.1,di.1 hok.2.1,hok.2.2⟩
   have hpo:p.Ok:=hI.ok oka (hf oka okb hk ps hI.nd hI.reach)
   refine⟨_,_,a1,n1,c1,b1,m1,e1,_,rfl,?_⟩
   intro k6 w6 hk6 hw6
   have b6:=(hw6▸ah w11 _:bW w11 w6)
   have A6:am w6 k6 af [vI 0,vI 0,.slice none 0 0,.slice none 0 0]:=am.new hk6 hw6
   obtain⟨wx,q1,v1,g1⟩:=bG.store0 (P:=prog) (cs:=daL a1 n1 c1 b1 m1 e1 p) rfl (fM _ _ _ _ _ _ _) A6 rfl
   have bx:bW w11 wx:=Below.put b6 g1 (by omega)
   have Bx:=ab hb bx hb.size
   refine⟨wx,q1,ae.no rfl ?_⟩
   refine⟨_,_,a1,n1,c1,b1,m1,e1,bG.load0 (cs:=daL a1 n1 c1 b1 m1 e1 p) v1 rfl,?_⟩
   refine ax (Np (O.das.below bx)) ?_
   intro v w19 hv
   unfold xN at hv
   rw[if_pos (di.2 hpo)]at hv
   obtain⟨o,hT,a2,n2,c2,b2',m2,e2,rfl,O2,b19⟩:=hv
   have B19:=ab Bx b19 Bx.size
   obtain⟨wy,s1,s2,g2⟩:=cX (A4.below B19) rfl a2 n2 c2 b2' m2 e2 o
   refine⟨_,_,a2,n2,c2,b2',m2,e2,_,rfl,wy,s1,_,_,a2,n2,c2,b2',m2,e2,s2,?_⟩
   unfold xM
   rw[if_pos hok]
   have sx:=Bx.size
   have s4:=B4.size
   exact⟨p,ps,o,hI,hT,a2,n2,c2,b2',m2,e2,rfl,(O2.put g2 (by omega)).mono (by omega),Below.put (ab B4 B19 B4.size) g2 o4⟩
 · unfold rK at hP
   rw[if_neg hok]at hP
   obtain⟨rfl,hb⟩:=hP
   refine⟨_,_,none,0,0,none,0,0,_,rfl,?_⟩
   intro k6 w6 hk6 hw6
   have b6:=(hw6▸ah w11 _:bW w11 w6)
   have A6:am w6 k6 af [vI 0,vI 0,.slice none 0 0,.slice none 0 0]:=am.new hk6 hw6
   obtain⟨wx,q1,v1,g1⟩:=bG.store0 (P:=prog) (cs:=daL none 0 0 none 0 0 d0) rfl (fM _ _ _ _ _ _ _) A6 rfl
   have bx:bW w11 wx:=Below.put b6 g1 (by omega)
   have Bx:=ab hb bx hb.size
   obtain⟨wy,s1,s2,g2⟩:=cX (A4.below Bx) rfl none 0 0 none 0 0 d0
   refine⟨wx,q1,ae.yes rfl ⟨_,_,none,0,0,none,0,0,bG.load0 (cs:=daL none 0 0 none 0 0 d0) v1 rfl,wy,s1,_,_,none,0,0,none,0,0,s2,?_⟩⟩
   unfold xM
   rw[if_neg hok]
   exact⟨rfl,Below.put (ab B4 Bx B4.size) g2 o4⟩
def mM (x y:Rgn)(h p:DA):Rgn:=⟨h,p,x.s0&&y.s0,x.s1&&y.s1,x.c0&&y.c0,x.c1&&y.c1,x.c2&&y.c2⟩
def uj (x y:Rgn):Bool:=iG x.h y.h&&iG x.p y.p
def oC (a b o:DA):Prop:=∃p ps,jr a b (λx y=>x&&y) p ps/\mV p o
def Nl (x y:Rgn)(w:World)(v:Value)(w':World):Prop:=bW w w'/\
 if uj x y=true then ∃h p X Y,oC x.h y.h h/\oC x.p y.p p/\v=.tuple #[(mM x y h p).v X Y,vI 0]/\RgS w' (mM x y h p) X Y else v=.tuple #[rg0.v rp0 rp0,vI 151]
theorem GF {a b:DA}{w:World}{v:Value}{w':World}(h:xM a b w v w'):∃(o:DA) (er:Int) (X:Option Addr) (n c:Nat) (Y:Option Addr) (m e:Nat),v=.tuple #[daV X n c Y m e o,vI er]/\zb w.heap.size w' X n c Y m e o/\bW w w'/\(iG a b=true/\er=0/\oC a b o\/iG a b=false/\er=151):=by
 unfold xM at h
 cases hb:iG a b with
 | true=>
   rw[hb,if_pos rfl]at h
   obtain⟨p,ps,o,hI,hT,X,n,c,Y,m,e,rfl,O,b⟩:=h
   exact⟨o,0,X,n,c,Y,m,e,rfl,O,b,.inl ⟨rfl,rfl,p,ps,hI,hT⟩⟩
 | false=>
   rw[hb,if_neg (by decide)]at h
   obtain⟨rfl,b⟩:=h
   exact⟨d0,151,none,0,0,none,0,0,rfl,⟨Ow.nil _ _ _ _,Ow.nil _ _ _ _,(λg hg=>by cases hg),bI.none _,bI.none _⟩,b,.inr ⟨rfl,rfl⟩⟩
def stS (x y:Rgn)(h p:DA)(j:Nat):Rgn:=⟨h,p,decide (0<j)&&(x.s0&&y.s0),decide (1<j)&&(x.s1&&y.s1),false,false,false⟩
def stC (x y:Rgn)(h p:DA)(j:Nat):Rgn:=⟨h,p,x.s0&&y.s0,x.s1&&y.s1,decide (0<j)&&(x.c0&&y.c0),decide (1<j)&&(x.c1&&y.c1),decide (2<j)&&(x.c2&&y.c2)⟩
def sB (r:Rgn)(j:Nat):Bool:=if j=0 then r.s0 else r.s1
def cB (r:Rgn)(j:Nat):Bool:=if j=0 then r.c0 else if j=1 then r.c1 else r.c2
theorem MA (r:Rgn)(X Y:Rgp){j:Nat}(hj:j<2):(r.cells X Y)[8+j]? =some (.bool (sB r j)):=by
 match j,hj with
 | 0,_=>rfl
 | 1,_=>rfl
 | j+2,hj=>omega
theorem Le (r:Rgn)(X Y:Rgp){j:Nat}(hj:j<3):(r.cells X Y)[10+j]? =some (.bool (cB r j)):=by
 match j,hj with
 | 0,_=>rfl
 | 1,_=>rfl
 | 2,_=>rfl
 | j+3,hj=>omega
theorem N5 (x y:Rgn)(h p:DA)(X Y:Rgp){j:Nat}(hj:j<2):((stS x y h p j).cells X Y).set (8+j) (.bool (sB x j&&sB y j))=(stS x y h p (j+1)).cells X Y:=by
 match j,hj with
 | 0,_=>rfl
 | 1,_=>rfl
 | j+2,hj=>omega
theorem N4 (x y:Rgn)(h p:DA)(X Y:Rgp){j:Nat}(hj:j<3):((stC x y h p j).cells X Y).set (10+j) (.bool (cB x j&&cB y j))=(stC x y h p (j+1)).cells X Y:=by
 match j,hj with
 | 0,_=>rfl
 | 1,_=>rfl
 | 2,_=>rfl
 | j+3,hj=>omega
set_option maxHeartbeats 1000000 in
theorem KR {w:World}{x y:Rgn}{X1 X2 Y1 Y2:Rgp}(hx:RgS w x X1 X2)(hy:RgS w y Y1 Y2)(fh:x.h.Ok->y.h.Ok->x.h.k=y.h.k->Few x.h y.h)(fp:x.p.Ok->y.p.Ok->x.p.k=y.p.k->Few x.p y.p):
   Cf dI #[x.v X1 X2,y.v Y1 Y2] w (Ret (Nl x y w)):=by
 apply C8
 intro k2 w2 hk2 hw2 k3 w3 hk3 hw3 k4 w4 hk4 hw4
 have b2:=(hw2▸ah w _:bW w w2)
 have b3:=(hw3▸ah w2 _:bW w2 w3)
 have b4:=(hw4▸ah w3 _:bW w3 w4)
 have A2:am w4 k2 aj (x.cells X1 X2):=((am.new hk2 hw2:am w2 k2 aj (x.cells X1 X2)).below b3).below b4
 have A3:am w4 k3 aj (y.cells Y1 Y2):=(am.new hk3 hw3:am w3 k3 aj (y.cells Y1 Y2)).below b4
 have A4:am w4 k4 aj (rg0.cells rp0 rp0):=am.new hk4 hw4
 have B4:bW w w4:=ab (ab b2 b3 b2.size) b4 (Nat.le_trans b2.size b3.size)
 have o4:w.heap.size <=k4:=by have:=b2.size;have:=b3.size;omega
 refine⟨rfl,_,_,X1.a,X1.n,X1.c,X1.b,X1.m,X1.e,vi A2,rfl,_,_,Y1.a,Y1.n,Y1.c,Y1.b,Y1.m,Y1.e,vi A3,?_⟩
 refine ax (La (hx.h.below B4) (hy.h.below B4) fh) ?_
 intro v w18 hv
 obtain⟨oh,eh,a1,n1,c1,a2,m1,e1,rfl,D1,b18,hc1⟩:=GF hv
 have B18:=ab B4 b18 B4.size
 refine⟨_,_,a1,n1,c1,a2,m1,e1,eh,rfl,?_⟩
 intro k6 w6 hk6 hw6
 have b6:=(hw6▸ah w18 _:bW w18 w6)
 obtain⟨wx,q1,v6,g1⟩:=bG.store0 (P:=prog) (cs:=daL a1 n1 c1 a2 m1 e1 oh) rfl (fM _ _ _ _ _ _ _) (am.new hk6 hw6:am w6 k6 af [vI 0,vI 0,.slice none 0 0,.slice none 0 0]) rfl
 have bx:bW w18 wx:=Below.put b6 g1 (by omega)
 have b4x:=ab b18 bx b18.size
 have Bx:=ab B4 b4x B4.size
 refine⟨wx,q1,rfl,_,_,X2.a,X2.n,X2.c,X2.b,X2.m,X2.e,vj (A2.below b4x),rfl,_,_,Y2.a,Y2.n,Y2.c,Y2.b,Y2.m,Y2.e,vj (A3.below b4x),?_⟩
 refine ax (La (hx.p.below Bx) (hy.p.below Bx) fp) ?_
 intro v w26 hv
 obtain⟨op,ep,a3,n3,c3,a4,m3,e3,rfl,D2,b26,hc2⟩:=GF hv
 refine⟨_,_,a3,n3,c3,a4,m3,e3,ep,rfl,?_⟩
 intro k8 w8 hk8 hw8
 have b8:=(hw8▸ah w26 _:bW w26 w8)
 obtain⟨wy,q2,v8,g2⟩:=bG.store0 (P:=prog) (cs:=daL a3 n3 c3 a4 m3 e3 op) rfl (fM _ _ _ _ _ _ _) (am.new hk8 hw8:am w8 k8 af [vI 0,vI 0,.slice none 0 0,.slice none 0 0]) rfl
 have by_:bW w26 wy:=Below.put b8 g2 (by omega)
 have bxy:=ab b26 by_ b26.size
 have b4y:=ab b4x bxy b4x.size
 have By:=ab B4 b4y B4.size
 have O1:=(D1.below bx).below bxy
 have O2:=D2.below by_
 have A2y:=A2.below b4y
 have A3y:=A3.below b4y
 have A4y:=A4.below b4y
 refine⟨wy,q2,_,_,a1,n1,c1,a2,m1,e1,bG.load0 (cs:=daL a1 n1 c1 a2 m1 e1 oh) (v6.below bxy) rfl,_,_,a3,n3,c3,a4,m3,e3,bG.load0 (cs:=daL a3 n3 c3 a4 m3 e3 op) v8 rfl,?_⟩
 obtain⟨XH,hXH⟩:∃XH:Rgp,XH=⟨a1,n1,c1,a2,m1,e1⟩:=⟨_,rfl⟩
 obtain⟨XP,hXP⟩:∃XP:Rgp,XP=⟨a3,n3,c3,a4,m3,e3⟩:=⟨_,rfl⟩
 intro k10 w10 hk10 hw10
 have b10:=(hw10▸ah wy _:bW wy w10)
 obtain⟨wz,q3,v10,g3⟩:=aE.store0 (P:=prog) (cs:=(stS x y oh op 0).cells XH XP) rfl (Rgn.one _ _ _) (am.new hk10 hw10:am w10 k10 aj (rg0.cells rp0 rp0)) rfl
 have bz:bW wy wz:=Below.put b10 g3 (by omega)
 have S0:Sp wy [ptA k10 aj ((stS x y oh op 0).cells XH XP)] wz:=⟨⟨λp hp=>by rw[List.mem_singleton]at hp;subst hp;exact v10,λi j p q hp hq hne=>by
     have:=cF hp
     have:=cF hq
     simp at*;omega⟩,λp hp=>by rw[List.mem_singleton]at hp;subst hp;exact fp1 (by omega),bz⟩
 have q3':(Instr.storeAt aj (.pointer (some ⟨k10,0,none⟩)) (.agg #[vI oh.k,vI oh.st,.slice a1 n1 c1,.slice a2 m1 e1,vI op.k,vI op.st,.slice a3 n3 c3,.slice a4 m3 e3,.bool false,.bool false,.bool false,.bool false,.bool false])).run prog w10=.ok () wz:=by
   rw[hXH,hXP]at q3;exact q3
 refine⟨wz,q3',λmm i u=>∃j:Nat,i=(j:Int)/\j <=2/\mm=2-j/\Sp wy [ptA k10 aj ((stS x y oh op j).cells XH XP)] u,⟨_,0,rfl,by omega,rfl,S0⟩,?_⟩
 clear S0 v10 q3 q3'
 intro mm i
 refine aC.of ?_ _
 rintro u ⟨j,rfl,hj,rfl,S1⟩
 refine ae.of (λh1=>?_) (λh1=>?_) <;> simp only[dTx,dFx]at h1
 · have hj2:j<2:=by omega
   have l1:=(A2y.below S1.bw).load1 (P:=prog) bv rfl (MA x X1 X2 hj2)
   have l2:=(A3y.below S1.bw).load1 (P:=prog) bv rfl (MA y Y1 Y2 hj2)
   rw[cT,cT,cT]
   have put:∀b:Bool,b=(sB x j&&sB y j)->∃wx,(Instr.storeAt aX (.pointer (some ⟨k10,8+j,none⟩)) (.bool b)).run prog u=.ok () wx/\∃m':Nat,m'<2-j/\∃j2:Nat,i64.wrap ((j:Int)+1)=(j2:Int)/\j2 <=2/\m'=2-j2/\Sp wy [ptA k10 aj ((stS x y oh op j2).cells XH XP)] wx:=λb hb=>by
     obtain⟨wx,q,S2,_⟩:=S1.put (P:=prog) qO 0 rfl (i:=8+j) (v:=.bool b) rfl rfl (show 8+j<13 by omega)
     refine⟨wx,q,2-(j+1),by omega,j+1,by rw[wrap_i64 (by omega) (by omega)];omega,hj2,rfl,?_⟩
     have e:=N5 x y oh op XH XP hj2
     rw[<- hb]at e
     rw[<- e];exact S2
   refine⟨rfl,⟨⟨by omega,by omega⟩,rfl⟩,_,l1,ae.of (λhb=>?_) (λhb=>?_)⟩
   · obtain⟨wx,q,r⟩:=put (sB y j) (by rw[hb];rfl)
     exact⟨rfl,⟨⟨by omega,by omega⟩,rfl⟩,_,l2,rfl,⟨⟨by omega,by omega⟩,rfl⟩,wx,q,r⟩
   · obtain⟨wx,q,r⟩:=put false (by rw[hb];rfl)
     exact⟨rfl,⟨⟨by omega,by omega⟩,rfl⟩,wx,q,r⟩
 have:j=2:=by omega
 subst this
 refine⟨λmm i u=>∃j:Nat,i=(j:Int)/\j <=3/\mm=3-j/\Sp wy [ptA k10 aj ((stC x y oh op j).cells XH XP)] u,⟨_,0,rfl,by omega,rfl,S1⟩,?_⟩
 clear S1
 intro mm i
 refine aC.of ?_ _
 rintro u ⟨j,rfl,hj,rfl,S1⟩
 refine ae.of (λh1=>?_) (λh1=>?_) <;> simp only[dTx,dFx]at h1
 · have hj2:j<3:=by omega
   have l1:=(A2y.below S1.bw).load1 (P:=prog) bv rfl (Le x X1 X2 hj2)
   have l2:=(A3y.below S1.bw).load1 (P:=prog) bv rfl (Le y Y1 Y2 hj2)
   rw[cT,cT,cT]
   have put:∀b:Bool,b=(cB x j&&cB y j)->∃wx,(Instr.storeAt aX (.pointer (some ⟨k10,10+j,none⟩)) (.bool b)).run prog u=.ok () wx/\∃m':Nat,m'<3-j/\∃j2:Nat,i64.wrap ((j:Int)+1)=(j2:Int)/\j2 <=3/\m'=3-j2/\Sp wy [ptA k10 aj ((stC x y oh op j2).cells XH XP)] wx:=λb hb=>by
     obtain⟨wx,q,S2,_⟩:=S1.put (P:=prog) qO 0 rfl (i:=10+j) (v:=.bool b) rfl rfl (show 10+j<13 by omega)
     refine⟨wx,q,3-(j+1),by omega,j+1,by rw[wrap_i64 (by omega) (by omega)];omega,hj2,rfl,?_⟩
     have e:=N4 x y oh op XH XP hj2
     rw[<- hb]at e
     rw[<- e];exact S2
   refine⟨rfl,⟨⟨by omega,by omega⟩,rfl⟩,_,l1,ae.of (λhb=>?_) (λhb=>?_)⟩
   · obtain⟨wx,q,r⟩:=put (cB y j) (by rw[hb];rfl)
     exact⟨rfl,⟨⟨by omega,by omega⟩,rfl⟩,_,l2,rfl,⟨⟨by omega,by omega⟩,rfl⟩,wx,q,r⟩
   · obtain⟨wx,q,r⟩:=put false (by rw[hb];rfl)
     exact⟨rfl,⟨⟨by omega,by omega⟩,rfl⟩,wx,q,r⟩
 have:j=3:=by omega
 subst this
 have v3:am u k10 aj ((mM x y oh op).cells XH XP):=S1.at 0 rfl
 refine⟨_,aE.load0 v3 rfl,?_⟩
 intro k69 w69 hk69 hw69
 have b69:=(hw69▸ah u _:bW u w69)
 have SL:Sl cI w69 kj (some ⟨k69,0,none⟩) 2 2 [eh,ep]:=(Ow.newF (T:=cI) (A:=NoB) (t:=fJ) (l:=[vI eh,vI ep]) (xs:=[eh,ep]) fG hk69 hw69 ((iK.one (eE (n:=eh))).append (iK.one (eE (n:=ep)))) (show 2 <=maxLen by decide)).all
 refine ax (L8 SL (mM x y oh op) XH XP) ?_
 rintro _ w70 ⟨b70,rfl⟩
 have byu:=ab S1.bw (ab b69 b70 b69.size) S1.bw.size
 have b4z:=ab b4y byu b4y.size
 have Bf:=ab B4 b4z B4.size
 have A4z:=A4y.below byu
 have s4:=b4z.size
 have l4:=A4.lt
 by_cases hok:uj x y=true
 · have h2:=hok
   unfold uj at h2
   rw[Bool.and_eq_true]at h2
   rcases hc1 with⟨_,rfl,M1⟩|⟨hf,_⟩
   · rcases hc2 with⟨_,rfl,M2⟩|⟨hf,_⟩
     · rw[if_pos (show lK 0 0=0 from rfl)]
       obtain⟨wq,r3,u3,h3⟩:=aE.store0 (P:=prog) (cs:=(mM x y oh op).cells XH XP) rfl (Rgn.one _ _ _) A4z rfl
       refine⟨_,_,rfl,wq,r3,_,am.res (aE.load0 u3 rfl),Below.put Bf h3 o4,?_⟩
       rw[if_pos hok]
       refine⟨oh,op,XH,XP,M1,M2,rfl,?_,?_⟩
       · rw[hXH];exact((O1.below byu).put h3 l4).das
       · rw[hXP];exact((O2.below byu).put h3 (by have:=b4x.size;omega)).das
     · rw[hf]at h2;exact absurd h2.2 (by decide)
   · rw[hf]at h2;exact absurd h2.1 (by decide)
 · have e: ¬ lK eh ep=0:=by
     unfold uj at hok
     rcases hc1 with⟨h1,rfl,_⟩|⟨h1,rfl⟩
     · rcases hc2 with⟨h2,rfl,_⟩|⟨h2,rfl⟩
       · rw[h1,h2]at hok;exact absurd rfl hok
       · decide
     · unfold lK;rw[if_pos (by decide)];decide
   have e2:lK eh ep=151:=by
     rcases hc1 with⟨h1,rfl,_⟩|⟨h1,rfl⟩
     · rcases hc2 with⟨h2,rfl,_⟩|⟨h2,rfl⟩
       · exact absurd rfl e
       · rfl
     · unfold lK;rw[if_pos (by decide)]
   rw[if_neg e,e2]
   obtain⟨wq,r3,u3,h3⟩:=aE.store0 (P:=prog) (cs:=rg0.cells rp0 rp0) rfl (Rgn.one _ _ _) A4z rfl
   refine⟨_,_,rfl,wq,r3,_,am.res (aE.load0 u3 rfl),Below.put Bf h3 o4,?_⟩
   rw[if_neg hok];rfl
theorem oC.ok {a b o:DA}(h:oC a b o):o.Ok/\o.k=a.k:=by
 obtain⟨p,ps,hI,hT⟩:=h
 exact⟨hT.ok,hT.k.trans hI.k⟩
theorem oC.lang {a b o:DA}(h:oC a b o)(hk:a.k=b.k)(w:List Nat):o.Lang o.s w ↔ a.Lang a.s w/\b.Lang b.s w:=by
 obtain⟨p,ps,hI,hT⟩:=h
 rw[hT.lang,hI.lang]
 have hK:a.K=b.K:=by unfold DA.K;rw[hk]
 unfold DA.Lang
 rw[Bool.and_eq_true,<- hK]
 exact⟨λ⟨h1,h2,h3⟩=>⟨⟨h1,h2⟩,h1,h3⟩,λ⟨⟨h1,h2⟩,_,h3⟩=>⟨h1,h2,h3⟩⟩
theorem ov {a b:DA} :iG a b=true ↔ a.Ok/\b.Ok/\a.k=b.k:=by
 unfold iG
 rw[Bool.and_eq_true,Bool.and_eq_true,di,di,beq_iff_eq]
def wL (N:Nat)(a b:DA):Prop:=∀ps:List Pr,ps.Nodup->(∀p∈ps,∃w:List Nat,(∀x∈w,x<a.K)/\Gu a b (a.s,b.s) w=p)->ps.length <=N
theorem wL.few {N:Nat}{a b:DA}(h:wL N a b)(hN:N <=65536):Few a b:=λps hn hp=>Nat.le_trans (h ps hn hp) hN
theorem wL.mul {a b:DA}(ha:a.Ok)(hb:b.Ok)(hk:a.k=b.k){N:Nat}(h:a.n*b.n <=N):wL N a b:=λps hn hp=>by
 have hK:b.K=a.K:=by unfold DA.K;rw[hk]
 refine Nat.le_trans (G9 hn λp hpm=>?_) h
 obtain⟨w,hw,rfl⟩:=hp p hpm
 exact⟨ha.run_lt ha.s_lt hw,hb.run_lt hb.s_lt (by rw[hK];exact hw)⟩
theorem wL.swap {N:Nat}{a b:DA}(h:wL N a b)(hk:a.k=b.k):wL N b a:=λps hn hp=>by
 have hK:b.K=a.K:=by unfold DA.K;rw[hk]
 have hn2:(ps.map λp:Pr=>((p.2,p.1):Pr)).Nodup:=List.pairwise_map.2 (hn.imp fun{p q} hne e=>hne (Prod.ext (congrArg Prod.snd e) (congrArg Prod.fst e)))
 have:=h (ps.map λp=>(p.2,p.1)) hn2 (λp hpm=>by
   obtain⟨q,hq,rfl⟩:=List.mem_map.1 hpm
   obtain⟨w,hw,rfl⟩:=hp q hq
   exact⟨w,by rw[<- hK];exact hw,rfl⟩)
 rwa [List.length_map]at this
theorem wL.ch {a b:DA}{u v:List Nat}{m n:Nat}(ha:xG a u m)(hb:xG b v n)(hk:a.k=b.k):wL (4*u.length+3*v.length+19) a b:=λps hn hp=>by
 have cover:∀p∈ps,p∈(List.range (u.length+1)).map (λi=>(i,i))++((List.range (v.length+3)).map (λj=>(0,j))++((List.range (v.length+3)).map (λj=>(u.length+1,j))++((List.range (v.length+3)).map (λj=>(u.length+2,j))++
     ((List.range (u.length+3)).map (λi=>(i,0))++((List.range (u.length+3)).map (λi=>(i,v.length+1))++(List.range (u.length+3)).map (λi=>(i,v.length+2))))))):=by
   intro p hpm
   obtain⟨w,hw,rfl⟩:=hp p hpm
   have hw':∀x∈w,x<b.K:=by unfold DA.K at hw ⊢;rwa [<- hk]
   have h1:=ha.ok.run_lt ha.ok.s_lt hw
   have h2:=hb.ok.run_lt hb.ok.s_lt hw'
   have hna:=ha.n
   have hnb:=hb.n
   have hma:=ha.mm
   have hmb:=hb.mm
   unfold Gu
   rw[ha.st]at h1
   rw[hb.st]at h2
   rw[ha.st,hb.st]
   generalize hr1:a.run 1 w=i at*
   generalize hr2:b.run 1 w=j at*
   have hi:i<u.length+3:=by omega
   have hj:j<v.length+3:=by omega
   simp only[List.mem_append,List.mem_map,List.mem_range,Prod.mk.injEq]
   by_cases c1:i=0
   · exact .inr (.inl ⟨j,hj,c1.symm,rfl⟩)
   by_cases c2:i=u.length+1
   · exact .inr (.inr (.inl ⟨j,hj,c2.symm,rfl⟩))
   by_cases c3:i=u.length+2
   · exact .inr (.inr (.inr (.inl ⟨j,hj,c3.symm,rfl⟩)))
   by_cases c4:j=0
   · exact .inr (.inr (.inr (.inr (.inl ⟨i,hi,rfl,c4.symm⟩))))
   by_cases c5:j=v.length+1
   · exact .inr (.inr (.inr (.inr (.inr (.inl ⟨i,hi,rfl,c5.symm⟩)))))
   by_cases c6:j=v.length+2
   · exact .inr (.inr (.inr (.inr (.inr (.inr ⟨i,hi,rfl,c6.symm⟩)))))
   obtain⟨i',rfl⟩:∃i',i=i'+1:=⟨i-1,by omega⟩
   obtain⟨j',rfl⟩:∃j',j=j'+1:=⟨j-1,by omega⟩
   have e1:=(ha.run_at (i:=i') (by omega) (j:=0) (Nat.zero_le _) hw).1 (by rw[Nat.zero_add];exact hr1)
   have e2:=(hb.run_at (i:=j') (by omega) (j:=0) (Nat.zero_le _) hw').1 (by rw[Nat.zero_add];exact hr2)
   have l1:=congrArg List.length e1
   have l2:=congrArg List.length e2
   rw[List.drop_zero,List.length_take]at l1 l2
   have:i'=j':=by omega
   subst this
   exact .inl ⟨i'+1,by omega,rfl,rfl⟩
 have:=mc hn cover
 simp only[List.length_append,List.length_map,List.length_range]at this
 omega
theorem wL.mono {N M:Nat}{a b:DA}(h:wL N a b)(hN:N <=M):wL M a b:=λps hn hp=>Nat.le_trans (h ps hn hp) hN
theorem wL.congr {N:Nat}{a b a':DA}(h:wL N a b)(ka:a'.k=a.k)(sa:a'.st=a.st)(na:a'.nx=a.nx):wL N a' b:=λps hn hp=>by
 have CW:∀(w:List Nat) (s:Nat),a'.run s w=a.run s w:=by
   intro w
   induction w with
   | nil=>intro s;rfl
   | cons x w ih=>
     intro s
     show a'.run (a'.to s x) w=a.run (a.to s x) w
     rw[ih]
     unfold DA.to DA.K
     rw[ka,na]
 refine h ps hn λp hpm=>?_
 obtain⟨w,hw,e⟩:=hp p hpm
 refine⟨w,by unfold DA.K at hw ⊢;rwa [ka]at hw,?_⟩
 rw[<- e]
 unfold Gu DA.s
 rw[CW,sa]
theorem oC.len {N:Nat}{a b o:DA}(h:oC a b o)(f:wL N a b):o.n <=N:=by
 obtain⟨p,ps,hI,hT⟩:=h
 refine Nat.le_trans hT.n ?_
 show p.ac.length <=N
 rw[hI.n]
 exact f ps hI.nd hI.reach
theorem oC.few {N:Nat}{a b o:DA}(h:oC a b o)(f:wL N a b)(hN:N <=65536):Few o a/\Few a a:=by
 obtain⟨p,ps,hI,hT⟩:=h
 obtain⟨φ,hφ⟩:=hT.img
 have hpK:p.K=a.K:=hI.kk
 have hps:∀w:List Nat,(∀x∈w,x<a.K)->ps[p.run p.s w]? =some (Gu a b (a.s,b.s) w):=λw hw=>by
   have e:p.s=0:=by show p.st.toNat=0;rw[hI.st];rfl
   rw[e];exact hI.run hI.first hw
 have hl:=f ps hI.nd hI.reach
 refine⟨Few.image (f.few hN) (hT.kk.trans hpK) (λq=>(φ (ps.idxOf q),q.1)) (λw hw=>?_) (λw hw=>List.mem_of_getElem? (hps w hw)) (Nat.le_trans hl hN),
   Few.image (f.few hN) rfl (λq=>(q.1,q.1)) (λw hw=>rfl) (λw hw=>List.mem_of_getElem? (hps w hw)) (Nat.le_trans hl hN)⟩
 show(o.run o.s w,a.run a.s w)=_
 obtain⟨hi,e⟩:=List.getElem?_eq_some_iff.1 (hps w hw)
 have ei:ps.idxOf (Gu a b (a.s,b.s) w)=p.run p.s w:=by rw[<- e];exact hI.nd.idxOf_getElem _ hi
 rw[hφ w (by rw[hpK];exact hw),ei];rfl
theorem ET {a b o:DA}(h:oC a b o)(ha:a.Ok)(hb:b.Ok)(hk:a.k=b.k)(ws:List Int):dm o ws=(dm a ws&&dm b ws):=by
 obtain⟨oo,ok⟩:=h.ok
 cases hs:Gh a.k ws with
 | true=>
   obtain⟨v,rfl⟩:∃v:List Nat,ws=v.map fun(x:Nat)=>(x:Int):=by
     refine⟨ws.map Int.toNat,?_⟩
     rw[List.map_map]
     conv=>lhs;rw[<- List.map_id ws]
     refine List.map_congr_left λx hx=>?_
     have:=List.all_eq_true.1 hs x hx
     simp only[Bool.and_eq_true,dTx]at this
     show x=((x.toNat:Nat):Int)
     omega
   rw[Bool.eq_iff_iff,Bool.and_eq_true,iC oo,iC ha,iC hb,h.lang hk]
 | false=>
   unfold dm
   rw[ok,<- hk,hs];simp
theorem ya {ts:List Txt}{x y:Rgn}{h p:DA}(mh:oC x.h y.h h)(mp:oC x.p y.p p)(xh:x.h.Ok)(yh:y.h.Ok)(xp:x.p.Ok)(yp:y.p.Ok)(kh:x.h.k=y.h.k)(kp:x.p.k=y.p.k)(q:Req):
   hasB ts (mM x y h p) q=(hasB ts x q&&hasB ts y q):=by
 unfold hasB
 show(mi q&&((if q.sec=true then x.s1&&y.s1 else x.s0&&y.s0)&&((if q.cross=0 then x.c0&&y.c0 else if q.cross=1 then x.c1&&y.c1 else x.c2&&y.c2)&&(dm h _&&dm p _))))=_
 rw[ET mh xh yh kh,ET mp xp yp kp]
 have e1:(if q.sec=true then x.s1&&y.s1 else x.s0&&y.s0)=((if q.sec=true then x.s1 else x.s0)&&(if q.sec=true then y.s1 else y.s0)):=by split <;> rfl
 have e2:(if q.cross=0 then x.c0&&y.c0 else if q.cross=1 then x.c1&&y.c1 else x.c2&&y.c2)=((if q.cross=0 then x.c0 else if q.cross=1 then x.c1 else x.c2)&&(if q.cross=0 then y.c0 else if q.cross=1 then y.c1 else y.c2)):=by
   split
   · rfl
   · split <;> rfl
 rw[e1,e2]
 generalize mi q=A
 generalize (if q.sec=true then x.s1 else x.s0)=B
 generalize (if q.sec=true then y.s1 else y.s0)=C
 generalize (if q.cross=0 then x.c0 else if q.cross=1 then x.c1 else x.c2)=D
 generalize (if q.cross=0 then y.c0 else if q.cross=1 then y.c1 else y.c2)=E
 generalize dm x.h (hwV ts q.host)=F
 generalize dm y.h (hwV ts q.host)=G
 generalize dm x.p (p9 q.path)=H
 generalize dm y.p (p9 q.path)=I
 revert A B C D E F G H I;decide
structure RgT (ts:List Txt)(x y:Rgn):Prop where
 xh:x.h.Ok
 yh:y.h.Ok
 xp:x.p.Ok
 yp:y.p.Ok
 kh:x.h.k=y.h.k
 kx:x.h.k=((ts.length+1:Nat):Int)
 kp:x.p.k=92
 kq:y.p.k=92
 fh:wL 1000 x.h y.h
 fp:wL 3000 x.p y.p
 nh:x.h.n <=200/\y.h.n <=200
 np:x.p.n <=400/\y.p.n <=400
theorem RgT.swap {ts:List Txt}{x y:Rgn}(h:RgT ts x y):RgT ts y x:=⟨h.yh,h.xh,h.yp,h.xp,h.kh.symm,h.kh.symm.trans h.kx,h.kq,h.kp,h.fh.swap h.kh,h.fp.swap (h.kp.trans h.kq.symm),h.nh.symm,h.np.symm⟩
theorem RgT.meet {ts:List Txt}{x y:Rgn}(h:RgT ts x y):uj x y=true:=by
 unfold uj
 rw[ov.2 ⟨h.xh,h.yh,h.kh⟩,ov.2 ⟨h.xp,h.yp,h.kp.trans h.kq.symm⟩];rfl
theorem Q6 {ts:List Txt}(htl:ts.length <=60){k:Cas}(o:k.ok)(h2:k.c.path.length <=300)(h4:k.p.pre.length <=300){x y:Rgn}(h:Rg2 ts k x y):RgT ts x y:=by
 obtain⟨kc,rfl,kp,pp,rfl,_,_⟩:=h
 have lc:=rI ts o.1 kc
 have lp:=rI ts o.2 kp
 obtain⟨m,hm⟩:∃m,xG (HU ts k.c.host k.c.only) (cH ts k.c.host) m:=by
   unfold HU
   by_cases h:k.c.only=true
   · rw[if_pos h];exact⟨0,yq (by omega) o.1 lc⟩
   · rw[if_neg h]
     by_cases k1:k.c.host.kind=1
     · exact⟨_,GE (by omega) o.1 lc k1 true⟩
     · rw[(uW k1).1];exact⟨0,yq (by omega) o.1 lc⟩
 have hsk:(HU ts k.c.host k.c.only).k=((ts.length+1:Nat):Int):=by
   unfold HU
   by_cases h:k.c.only=true
   · rw[if_pos h];rfl
   · rw[if_neg h];exact Pd ..
 obtain⟨ph,pk,pn⟩:=P3 (ts:=ts) (by omega) o.2 kp
 have nm:=hm.n
 have mm:=hm.mm
 have hfew:wL 1000 (HU ts k.c.host k.c.only) (KM ts k.p):=by
   have one:∀{b:DA} {n:Nat},xG b (cH ts k.p.host) n->b.k=((ts.length+1:Nat):Int)->wL 1000 (HU ts k.c.host k.c.only) b:=λhb hk=>(wL.ch hm hb (hsk.trans hk.symm)).mono (by omega)
   unfold KM at ph pk ⊢
   by_cases h:k.p.wild=true
   · rw[if_pos h]at ph pk ⊢
     by_cases k1:k.p.host.kind=1
     · exact one (GE (by omega) o.2 lp k1 false) pk
     · rw[(uW k1).2]at ph pk ⊢
       refine wL.mul hm.ok ph (hsk.trans pk.symm) ?_
       show _*1 <=1000
       omega
   · rw[if_neg h]at ph pk ⊢
     exact one (yq (by omega) o.2 lp) pk
 obtain⟨mo,mk,mn⟩:=ui (o:=k.c.path) (by omega)
 obtain⟨bo,bk,_,bn⟩:=qk (s:=k.p.pre) (by omega)
 have gp:=(jo pp).1
 have hb:=oF gp (by omega:k.p.pre.length <=65534)
 have pfew:wL 3000 (cW k.c.path) (dE k.p.pre):=by
   have two:∀s:Txt,s.length <=301->wL 3000 (dE s) (dE k.p.pre):=λs hs=>by
     obtain⟨so,sk,_,sn⟩:=qk (s:=s) (by omega)
     by_cases g:kr s=true
     · exact(wL.ch (oF g (by omega)) hb (sk.trans bk.symm)).mono (by rw[yt,yt];omega)
     · have e:dE s=noD 92:=by unfold dE;rw[if_neg g]
       refine wL.mul so bo (sk.trans bk.symm) ?_
       rw[e]
       show 1*(dE k.p.pre).ac.length <=3000
       omega
   have none:wL 3000 (noD 92) (dE k.p.pre):=wL.mul (EF (k:=92) (by decide) (by decide)) bo bk.symm (by show 1*(dE k.p.pre).ac.length <=3000;omega)
   unfold cW
   by_cases h0:k.c.path=[]
   · rw[if_pos h0];exact two _ (by decide)
   rw[if_neg h0]
   by_cases h1:k.c.path.head?≠some 47
   · rw[if_pos h1];exact none
   rw[if_neg h1]
   by_cases h2':k.c.path.getLast?=some 47
   · rw[if_pos h2'];exact two _ (by omega)
   rw[if_neg h2']
   by_cases h3:kr k.c.path=true
   · rw[if_pos h3]
     have hl1:(k.c.path++[47]).length=k.c.path.length+1:=by simp
     obtain⟨q1,q2,_,q4⟩:=qk (s:=k.c.path++[47]) (by omega)
     have e:dE (k.c.path++[47])=chD 92 (pw (k.c.path++[47])) (((pw (k.c.path++[47])).length+1:Nat):Int):=by unfold dE;rw[if_pos (q6 h3)]
     have est:(dE (k.c.path++[47])).st=1:=by rw[e];rfl
     exact(two (k.c.path++[47]) (by omega)).congr q2.symm est.symm rfl
   · rw[if_neg h3];exact none
 exact⟨hm.ok,ph,mo,bo,hsk.trans pk.symm,hsk,mk,bk,hfew,pfew,⟨by show(HU ts k.c.host k.c.only).n <=200;omega,by show(KM ts k.p).ac.length <=200;omega⟩,⟨by show(cW k.c.path).ac.length <=400;omega,by show(dE k.p.pre).ac.length <=400;omega⟩⟩
structure Ro (w:World)(l:List Txt)(k:Cas)(q:Req)(k4 k5 k7 k8:Nat)(p:Option Addr)(k11:Nat)(W:World)(x y z:Rgn)(X1 X2 Y1 Y2 Z1 Z2:Rgp):Prop where
 bel:bW w W
 a4:am W k4 aL k.cells
 a5:am W k5 aq q.cells
 a7:am W k7 aj (x.cells X1 X2)
 a8:am W k8 aj (y.cells Y1 Y2)
 a11:am W k11 aj (z.cells Z1 Z2)
 sx:RgS W x X1 X2
 sy:RgS W y Y1 Y2
 sz:RgS W z Z1 Z2
 al:gB W p (pZ l)
 r2:Rg2 (pZ l) k x y
 rt:RgT (pZ l) x y
 mh:oC x.h y.h z.h
 mp:oC x.p y.p z.p
 ze:z=mM x y z.h z.p
 ll:l.length <=16
 lx:∀s∈pZ l,s.length <=70
 cn:k.c.host.name.length <=300
 cp:k.c.path.length <=300
 pn:k.p.host.name.length <=300
 pp:k.p.pre.length <=300
 qn:q.host.name.length <=300
 qp:q.path.length <=300
set_option maxHeartbeats 1000000 in
theorem Ff {w:World}(he:Env w){a:Option Addr}{n c:Nat}{l:List Txt}(hs:Sl tS w kj a n c l){k:Cas}(o:k.ok){q:Req}(oq:q.ok){K:Value->World->Prop}
   (R:Nat->Nat->Nat->Nat->Option Addr->Nat->Int->World->Prop)
   (hK:∀w',bW w w'->K (.bool true) w')
   (H:∀(k4 k5 k7 k8:Nat) (p:Option Addr) (k11:Nat) (W:World) (x y z:Rgn) (X1 X2 Y1 Y2 Z1 Z2:Rgp),Ro w l k q k4 k5 k7 k8 p k11 W x y z X1 X2 Y1 Y2 Z1 Z2->R k4 k5 k7 k8 p k11 0 W):
 ∀(k4:Nat) (w4:World),k4=w.heap.size->w4=w.alloc (.cells (Value.cells k.v) aL)->
 ∀(k5:Nat) (w5:World),k5=w4.heap.size->w5=w4.alloc (.cells (Value.cells q.v) aq)->
 Cf du #[] w5 λe13 w13=>∃(b13:Bool),e13=.returned (.bool b13)/\
 ae (!b13)
 (K (.bool false) w13)
 ((true=true)/\
 (true=true)/\
 (true=true)/\
 ∃(s19:List UInt8),(Instr.loadAt au (.pointer (some ⟨k4,3,none⟩))).run prog w13=.ok (vS s19) w13/\
 (true=true)/\
 (true=true)/\
 ∃(s22:List UInt8),(Instr.loadAt au (.pointer (some ⟨k4,21,none⟩))).run prog w13=.ok (vS s22) w13/\
 (true=true)/\
 (true=true)/\
 (true=true)/\
 ∃(s26:List UInt8),(Instr.loadAt au (.pointer (some ⟨k4,31,none⟩))).run prog w13=.ok (vS s26) w13/\
 (true=true)/\
 (true=true)/\
 ∃(s29:List UInt8),(Instr.loadAt au (.pointer (some ⟨k4,50,none⟩))).run prog w13=.ok (vS s29) w13/\
 (true=true)/\
 (true=true)/\
 ∃(s32:List UInt8),(Instr.loadAt au (.pointer (some ⟨k5,2,none⟩))).run prog w13=.ok (vS s32) w13/\
 (true=true)/\
 ∃(s34:List UInt8),(Instr.loadAt au (.pointer (some ⟨k5,19,none⟩))).run prog w13=.ok (vS s34) w13/\
 ∀(k35:Nat) (w35:World),k35=w13.heap.size->w35=w13.alloc (.cells #[vS s19,vS s22,vS s26,vS s29,vS s32,vS s34] au)->
 Cf ji #[.slice a n c,.slice (some ⟨k35,0,none⟩) 6 6] w35 λe36 w36=>∃(b36:Bool),e36=.returned (.bool b36)/\
 ae b36
 (K (.bool true) w36)
 (∃(v39:Value),(Instr.loadAt aL (.pointer (some ⟨k4,0,none⟩))).run prog w36=.ok v39 w36/\
 Cf gu #[.slice a n c,v39] w36 λe40 w40=>∃(v40_0:Value) (v40_1:Value) (b40_2:Bool),e40=.returned (.tuple #[v40_0,v40_1,.bool b40_2])/\
 ∀(k7:Nat) (w7:World),k7=w40.heap.size->w7=w40.alloc (.cells aV aj)->
 ∀(k8:Nat) (w8:World),k8=w7.heap.size->w8=w7.alloc (.cells aV aj)->
 ∃(wx:World),(Instr.storeAt aj (.pointer (some ⟨k7,0,none⟩)) v40_0).run prog w8=.ok () wx/\
 ∃(wx_1:World),(Instr.storeAt aj (.pointer (some ⟨k8,0,none⟩)) v40_1).run prog wx=.ok () wx_1/\
 ae (!b40_2)
 (K (.bool true) wx_1)
 (Cf gI #[.slice a n c] wx_1 λe47 w47=>∃(p47:Option Addr),e47=.returned (.pointer p47)/\
 ∃(v49:Value),(Instr.loadAt aj (.pointer (some ⟨k7,0,none⟩))).run prog w47=.ok v49 w47/\
 ∃(v50:Value),(Instr.loadAt aj (.pointer (some ⟨k8,0,none⟩))).run prog w47=.ok v50 w47/\
 Cf dI #[v49,v50] w47 λe51 w51=>∃(v51_0:Value) (n51_1:Int),e51=.returned (.tuple #[v51_0,vI n51_1])/\
 ∀(k11:Nat) (w11:World),k11=w51.heap.size->w11=w51.alloc (.cells aV aj)->
 ∃(wx_2:World),(Instr.storeAt aj (.pointer (some ⟨k11,0,none⟩)) v51_0).run prog w11=.ok () wx_2/\R k4 k5 k7 k8 p47 k11 n51_1 wx_2))):=by
 intro k4 w4 hk4 hw4 k5 w5 hk5 hw5
 have b4:=(hw4▸ah w _:bW w w4)
 have b5:=(hw5▸ah w4 _:bW w4 w5)
 have B5:=ab b4 b5 b4.size
 have A4:am w5 k4 aL k.cells:=(am.new hk4 hw4:am w4 k4 aL k.cells).below b5
 have A5:am w5 k5 aq q.cells:=am.new hk5 hw5
 refine ax (DP (he.step B5)) ?_
 rintro _ w13 ⟨rfl,b13⟩
 have B13:=ab B5 b13 B5.size
 have A4:=A4.below b13
 have A5:=A5.below b13
 refine⟨_,rfl,ae.no rfl ⟨rfl,rfl,rfl,k.c.host.name,A4.load1 aA rfl (i:=3) ((ql o (by decide)).trans ((Bn o.1 (j:=1) (by decide)).trans rfl)),rfl,rfl,k.c.path,A4.load1 aA rfl (i:=21) ((ql o (by decide)).trans (cO o.1 1)),rfl,rfl,rfl,k.p.host.name,A4.load1 aA rfl (i:=31) ((BP o 2).trans ((Bv o.2 (j:=1) (by decide)).trans rfl)),rfl,rfl,k.p.pre,A4.load1 aA rfl (i:=50) ((BP o 21).trans (mB o.2 2)),rfl,rfl,q.host.name,A5.load1 aA rfl (i:=2) ((jp oq (j:=1) (by decide)).trans rfl),rfl,q.path,A5.load1 aA rfl (i:=19) (cK oq 0),?_⟩⟩
 intro k35 w35 hk35 hw35
 have b35:=(hw35▸ah w13 _:bW w13 w35)
 have B35:=ab B13 b35 B13.size
 have O:Ow tS au w35 NoB (some ⟨k35,0,none⟩) 6 6 [k.c.host.name,k.c.path,k.p.host.name,k.p.pre,q.host.name,q.path]:=
   Ow.newF (l:=[vS k.c.host.name,vS k.c.path,vS k.p.host.name,vS k.p.pre,vS q.host.name,vS q.path]) (T:=tS) (j5 _) hk35 hw35 (j1 (e:=λs=>vS s) (h1:=λ_=>rfl) (p:=λ_=>True) (xs:=[k.c.host.name,k.c.path,k.p.host.name,k.p.pre,q.host.name,q.path]) (λ_ _=>trivial)) (show 6 <=maxLen by decide)
 refine ax (DO (hs.below B35) O.all) ?_
 rintro _ w36 ⟨rfl,hw36⟩
 rw[hw36];clear hw36 w36
 have A4:=A4.below b35
 have A5:=A5.below b35
 refine⟨_,rfl,ae.of (λ_=>hK _ B35) (λhg=>?_)⟩
 obtain⟨hlx,hgx,hll⟩:=Kf hg
 have g1:=hgx k.c.host.name (by simp)
 have g2:=hgx k.c.path (by simp)
 have g3:=hgx k.p.host.name (by simp)
 have g4:=hgx k.p.pre (by simp)
 have g5:=hgx q.host.name (by simp)
 have g6:=hgx q.path (by simp)
 refine⟨_,Ql.load0 A4 (Cas.len o),?_⟩
 refine ax (AO (he.step B35) (hs.below B35) (by omega) o (by omega) (by omega) (by omega) (by omega)) ?_
 rintro _ w40 ⟨b40,x,y,X1,X2,Y1,Y2,bb,rfl,sx,sy,hb⟩
 have B40:=ab B35 b40 B35.size
 refine⟨_,_,bb,rfl,?_⟩
 intro k7 w7 hk7 hw7 k8 w8 hk8 hw8
 have b7:=(hw7▸ah w40 _:bW w40 w7)
 have b8:=(hw8▸ah w7 _:bW w7 w8)
 have s7:=b7.size
 have A7:am w8 k7 aj (rg0.cells rp0 rp0):=(am.new hk7 hw7:am w7 k7 aj (rg0.cells rp0 rp0)).below b8
 have A8:am w8 k8 aj (rg0.cells rp0 rp0):=am.new hk8 hw8
 have l7:k7<k8:=by rw[hk8];exact(am.new hk7 hw7:am w7 k7 aj (rg0.cells rp0 rp0)).lt
 obtain⟨wx,q1,v7,gr1⟩:=aE.store0 (P:=prog) (cs:=x.cells X1 X2) rfl (Rgn.one _ _ _) A7 rfl
 obtain⟨wy,q2,v8,gr2⟩:=aE.store0 (P:=prog) (cs:=y.cells Y1 Y2) rfl (Rgn.one _ _ _) (A8.grown gr1 (fH (by omega))) rfl
 have v7:=v7.grown gr2 (fH (by omega))
 have b40y:bW w40 wy:=Below.put (Below.put (ab b7 b8 s7) gr1 (by omega)) gr2 (by omega)
 have By:=ab B40 b40y B40.size
 have b35y:=ab b40 b40y b40.size
 refine⟨wx,q1,wy,q2,ae.of (λ_=>hK _ By) (λh1=>?_)⟩
 have hbb:bb=true:=by simpa using h1
 have r2:=hb hbb
 have htl:(pZ l).length <=16:=Nat.le_trans (sq l) hll
 have rt:=Q6 (by omega) o g2 g4 r2
 refine ax (sA a n c l (by omega) wy (hs.below By)) ?_
 rintro _ w47 ⟨p,rfl,hA,b47⟩
 have B47:=ab By b47 By.size
 have v7:=v7.below b47
 have v8:=v8.below b47
 have b40z:=ab b40y b47 b40y.size
 have sx:=sx.below b40z
 have sy:=sy.below b40z
 refine⟨p,rfl,_,aE.load0 v7 rfl,_,aE.load0 v8 rfl,?_⟩
 refine ax (KR sx sy (λ_ _ _=>rt.fh.few (by decide)) (λ_ _ _=>rt.fp.few (by decide))) ?_
 rintro v w51 ⟨b51,hv⟩
 rw[if_pos rt.meet]at hv
 obtain⟨h,pt,Z1,Z2,mh,mp,rfl,sz⟩:=hv
 have B51:=ab B47 b51 B47.size
 refine⟨_,0,rfl,?_⟩
 intro k11 w11 hk11 hw11
 have b11:=(hw11▸ah w51 _:bW w51 w11)
 obtain⟨wz,q3,v11,gr3⟩:=aE.store0 (P:=prog) (cs:=(mM x y h pt).cells Z1 Z2) rfl (Rgn.one _ _ _) (am.new hk11 hw11:am w11 k11 aj (rg0.cells rp0 rp0)) rfl
 have bz:bW w51 wz:=Below.put b11 gr3 (by omega)
 have b47z:=ab b51 bz b51.size
 have b35z:=ab b35y (ab b47 b47z b47.size) b35y.size
 exact⟨wz,q3,H k4 k5 k7 k8 p k11 wz x y (mM x y h pt) X1 X2 Y1 Y2 Z1 Z2 ⟨ab B51 bz B51.size,A4.below b35z,A5.below b35z,v7.below b47z,v8.below b47z,v11,sx.below b47z,sy.below b47z,sz.below bz,hA.below b47z,r2,rt,mh,mp,rfl,hll,λs hs=>hlx s (Jz.1 hs),g1,g2,g3,g4,g5,g6⟩⟩
theorem Ro.has {w:World}{l:List Txt}{k:Cas}{q:Req}{k4 k5 k7 k8:Nat}{p:Option Addr}{k11:Nat}{W:World}{x y z:Rgn}{X1 X2 Y1 Y2 Z1 Z2:Rgp}(h:Ro w l k q k4 k5 k7 k8 p k11 W x y z X1 X2 Y1 Y2 Z1 Z2)(o:k.ok){r:Req}(or:r.ok):
   hasB (pZ l) z r=(Ct k.c r k.c.born&&(mi r&&sE k.p r)):=by
 obtain⟨kc,ex,kp,_,ey,s0,s3⟩:=h.r2
 have htl:(pZ l).length <=16:=Nat.le_trans (sq l) h.ll
 have l1:=h.cp
 have l2:=h.pp
 rw[h.ze,ya h.mh h.mp h.rt.xh h.rt.yh h.rt.xp h.rt.yp h.rt.kh (h.rt.kp.trans h.rt.kq.symm),ex,ey,NP (xy l) (by omega) o.1 or kc ⟨s0,s3⟩ (by omega),Ki (xy l) (by omega) o.2 or kp (by omega)]
section
open Go.ChangeShapes Go.WideShapes
theorem tO {H:Type}{enc:TypeId×Value->H}{P:Program}{w:World}{fuel:Nat}{t:TypeId}{fs:Array Field}{cs:List Value}{x:DataW H×List MemPlace}(ht:P.underlying t=some (.struct fs))
   (h:DataW.trod enc P w 0 (λ_=>true) true fuel t cs=some x):
   ∃n,cs.length=P.cellsOf t/\∀(i:Nat) (u:TypeId) (o k:Nat),(∃f:Field,fs[i]? =some f/\f.type=u/\f.offset=o)->P.cellsOf u=k->∃y,DataW.trod enc P w 0 (λ_=>true) true n u ((cs.drop o).take k)=some y:=by
 obtain⟨xs,n,_,_,hl,hlen,hf⟩:=DataW.trod_struct ht h
 refine⟨n,hl,?_⟩
 rintro i _ _ _ ⟨f,hi,rfl,rfl⟩ rfl
 have hlt:i<xs.length:=by rw[hlen];exact(Array.getElem?_eq_some_iff.1 hi).1
 exact⟨xs[i],by rw[hf i f hi,List.getElem?_eq_getElem hlt]⟩
theorem gJ {α:Type}(cs:List α)(a b:Nat):cs.drop a=(cs.drop a).take b++cs.drop (a+b):=by
 rw[<- List.drop_drop,List.take_append_drop]
theorem Df {α:Type}(cs:List α)(n:Nat)(h:cs.length=n):cs.drop n=[]:=List.drop_of_length_le (by omega)
theorem Qf {n:Int}(h:(Lit.int .u8 n).wf=true):∃c:UInt8,n=((c.toNat:Nat):Int):=by
 have:=bounds_u8 h
 refine⟨UInt8.ofNat n.toNat,?_⟩
 rw[UInt8.toNat_ofNat',Nat.mod_eq_of_lt (by omega)];omega
theorem KY:∀{zs:List Int},(∀n∈zs,(Lit.int .u8 n).wf=true)->∃a:List UInt8,a.length=zs.length/\(zs.map λn=>Value.int .u8 n)=adC a
 | [],_=>⟨[],rfl,rfl⟩
 | z::zs,h=>by
   obtain⟨c,rfl⟩:=Qf (h z (List.mem_cons_self ..))
   obtain⟨a,ha,hb⟩:=KY (zs:=zs) λn hn=>h n (List.mem_cons_of_mem _ hn)
   exact⟨c::a,by rw[List.length_cons,List.length_cons,ha],by rw[List.map_cons,hb];rfl⟩
end
section
open Go.ChangeShapes Go.WideShapes
theorem zF {H:Type}{enc:TypeId×Value->H}{w:World}{fuel:Nat}{cs:List Value}{x:DataW H×List MemPlace}(h:DataW.trod enc prog w 0 (λ_=>true) true fuel ai cs=some x):∃u:Hst,u.ok/\cs=u.cells:=by
 obtain⟨n,hl,hf⟩:=tO Tryz.underlying34 h
 have hl18:cs.length=18:=hl.trans (by kernel_rfl)
 obtain⟨y0,h0⟩:=hf 0 aw 0 1 ⟨_,rfl,rfl,rfl⟩ (by kernel_rfl)
 obtain⟨y1,h1⟩:=hf 1 au 1 1 ⟨_,rfl,rfl,rfl⟩ (by kernel_rfl)
 obtain⟨y2,h2⟩:=hf 2 32 2 16 ⟨_,rfl,rfl,rfl⟩ (by kernel_rfl)
 obtain⟨k,e0,_⟩:=mN aB H enc w n _ _ h0
 obtain⟨s,e1,_⟩:=ri aA H enc w n _ _ h1
 obtain⟨zs,hz,hr⟩:=Mh Tryz.underlying32 (mN bP) (by kernel_rfl) (by kernel_rfl) h2
 have e2:=gP hr
 obtain⟨a,ha,hb⟩:=KY (JS hr)
 refine⟨⟨k,s,a⟩,ha.trans hz,?_⟩
 have s0:=gJ cs 0 1
 have s1:=gJ cs 1 1
 have s2:=gJ cs 2 16
 rw[e0]at s0
 rw[e1]at s1
 rw[e2,hb,Df cs (2+16) hl18,List.append_nil]at s2
 rw[List.drop_zero]at s0
 rw[s0,s1,s2];rfl
theorem zG {H:Type}{enc:TypeId×Value->H}{w:World}{fuel:Nat}{v:Value}{x:DataW H×List MemPlace}(h:DataW.trod enc prog w 0 (λ_=>true) true fuel az [v]=some x):
   ∃(a:Option Addr) (len cap:Nat) (rs:List (List UInt8)),v=.slice a len cap/\Sl tS w kj a len cap rs/\rs.length <=9223372036854775807:=by
 rcases open_strings cb aA (by kernel_rfl) h with⟨e,_⟩|⟨a,len,cap,ss,e,_,hlc,hcm,hm,_,hx,hs⟩
 · obtain rfl:v=_:=by injection e
   exact⟨none,0,0,[],rfl,Sl.nil _ _ _ _ _ (Nat.zero_le _),Nat.zero_le _⟩
 · obtain rfl:v=_:=by injection e
   have hS:=Gf (Ge (.inr ⟨a,rfl,hlc,hcm,by simpa using hm,hx,hs⟩)) (q:=λ_=>True) λ_ _ _=>trivial
   exact⟨some a,len,cap,_,rfl,hS,hS.le⟩
end
section
open Go.ChangeShapes Go.WideShapes
theorem CO {H:Type}{enc:TypeId×Value->H}{w:World}{fuel:Nat}{cs:List Value}{x:DataW H×List MemPlace}(h:DataW.trod enc prog w 0 (λ_=>true) true fuel aq cs=some x):∃u:Req,u.ok/\cs=u.cells:=by
 obtain⟨n,hl,hf⟩:=tO Tryz.underlying59 h
 have hl':cs.length=21:=hl.trans (by kernel_rfl)
 obtain⟨y0,h0⟩:=hf 0 aX 0 1 ⟨_,rfl,rfl,rfl⟩ (by kernel_rfl)
 obtain⟨y1,h1⟩:=hf 1 ai 1 18 ⟨_,rfl,rfl,rfl⟩ (by kernel_rfl)
 obtain⟨y2,h2⟩:=hf 2 au 19 1 ⟨_,rfl,rfl,rfl⟩ (by kernel_rfl)
 obtain⟨y3,h3⟩:=hf 3 aw 20 1 ⟨_,rfl,rfl,rfl⟩ (by kernel_rfl)
 obtain⟨x0,e0,_⟩:=me bv H enc w n _ _ h0
 obtain⟨x1,o1,e1⟩:=zF h1
 obtain⟨x2,e2,_⟩:=ri aA H enc w n _ _ h2
 obtain⟨x3,e3,b3⟩:=mN aB H enc w n _ _ h3
 refine⟨⟨x0,x1,x2,x3⟩,o1,?_⟩
 have s0:=gJ cs 0 1
 have s1:=gJ cs 1 18
 have s2:=gJ cs 19 1
 have s3:=gJ cs 20 1
 rw[e0,List.drop_zero]at s0
 rw[e1]at s1
 rw[e2]at s2
 rw[e3,Df cs (20+1) hl',List.append_nil]at s3
 rw[s0,s1,s2,s3];rfl
theorem Hc {H:Type}{enc:TypeId×Value->H}{w:World}{fuel:Nat}{cs:List Value}{x:DataW H×List MemPlace}(h:DataW.trod enc prog w 0 (λ_=>true) true fuel bE cs=some x):∃u:Cky,u.ok/\cs=u.cells:=by
 obtain⟨n,hl,hf⟩:=tO Tryz.underlying57 h
 have hl':cs.length=29:=hl.trans (by kernel_rfl)
 obtain⟨y0,h0⟩:=hf 0 au 0 1 ⟨_,rfl,rfl,rfl⟩ (by kernel_rfl)
 obtain⟨y1,h1⟩:=hf 1 au 1 1 ⟨_,rfl,rfl,rfl⟩ (by kernel_rfl)
 obtain⟨y2,h2⟩:=hf 2 ai 2 18 ⟨_,rfl,rfl,rfl⟩ (by kernel_rfl)
 obtain⟨y3,h3⟩:=hf 3 aX 20 1 ⟨_,rfl,rfl,rfl⟩ (by kernel_rfl)
 obtain⟨y4,h4⟩:=hf 4 au 21 1 ⟨_,rfl,rfl,rfl⟩ (by kernel_rfl)
 obtain⟨y5,h5⟩:=hf 5 aX 22 1 ⟨_,rfl,rfl,rfl⟩ (by kernel_rfl)
 obtain⟨y6,h6⟩:=hf 6 aX 23 1 ⟨_,rfl,rfl,rfl⟩ (by kernel_rfl)
 obtain⟨y7,h7⟩:=hf 7 aw 24 1 ⟨_,rfl,rfl,rfl⟩ (by kernel_rfl)
 obtain⟨y8,h8⟩:=hf 8 lO 25 1 ⟨_,rfl,rfl,rfl⟩ (by kernel_rfl)
 obtain⟨y9,h9⟩:=hf 9 lO 26 1 ⟨_,rfl,rfl,rfl⟩ (by kernel_rfl)
 obtain⟨y10,h10⟩:=hf 10 lO 27 1 ⟨_,rfl,rfl,rfl⟩ (by kernel_rfl)
 obtain⟨y11,h11⟩:=hf 11 aw 28 1 ⟨_,rfl,rfl,rfl⟩ (by kernel_rfl)
 obtain⟨x0,e0,_⟩:=ri aA H enc w n _ _ h0
 obtain⟨x1,e1,_⟩:=ri aA H enc w n _ _ h1
 obtain⟨x2,o2,e2⟩:=zF h2
 obtain⟨x3,e3,_⟩:=me bv H enc w n _ _ h3
 obtain⟨x4,e4,_⟩:=ri aA H enc w n _ _ h4
 obtain⟨x5,e5,_⟩:=me bv H enc w n _ _ h5
 obtain⟨x6,e6,_⟩:=me bv H enc w n _ _ h6
 obtain⟨x7,e7,b7⟩:=mN aB H enc w n _ _ h7
 obtain⟨x8,e8,b8⟩:=mN kZ H enc w n _ _ h8
 obtain⟨x9,e9,b9⟩:=mN kZ H enc w n _ _ h9
 obtain⟨x10,e10,b10⟩:=mN kZ H enc w n _ _ h10
 obtain⟨x11,e11,b11⟩:=mN aB H enc w n _ _ h11
 refine⟨⟨x0,x1,x2,x3,x4,x5,x6,x7,x8,x9,x10,x11⟩,o2,?_⟩
 have s0:=gJ cs 0 1
 have s1:=gJ cs 1 1
 have s2:=gJ cs 2 18
 have s3:=gJ cs 20 1
 have s4:=gJ cs 21 1
 have s5:=gJ cs 22 1
 have s6:=gJ cs 23 1
 have s7:=gJ cs 24 1
 have s8:=gJ cs 25 1
 have s9:=gJ cs 26 1
 have s10:=gJ cs 27 1
 have s11:=gJ cs 28 1
 rw[e0,List.drop_zero]at s0
 rw[e1]at s1
 rw[e2]at s2
 rw[e3]at s3
 rw[e4]at s4
 rw[e5]at s5
 rw[e6]at s6
 rw[e7]at s7
 rw[e8]at s8
 rw[e9]at s9
 rw[e10]at s10
 rw[e11,Df cs (28+1) hl',List.append_nil]at s11
 rw[s0,s1,s2,s3,s4,s5,s6,s7,s8,s9,s10,s11];rfl
end
section
open Go.ChangeShapes Go.WideShapes
theorem zZa {H:Type}{enc:TypeId×Value->H}{w:World}{fuel:Nat}{cs:List Value}{x:DataW H×List MemPlace}(h:DataW.trod enc prog w 0 (λ_=>true) true fuel bT cs=some x):∃u:Pat,u.ok/\cs=u.cells:=by
 obtain⟨n,hl,hf⟩:=tO Tryz.underlying78 h
 have hl':cs.length=22:=hl.trans (by kernel_rfl)
 obtain⟨y0,h0⟩:=hf 0 aX 0 1 ⟨_,rfl,rfl,rfl⟩ (by kernel_rfl)
 obtain⟨y1,h1⟩:=hf 1 ai 1 18 ⟨_,rfl,rfl,rfl⟩ (by kernel_rfl)
 obtain⟨y2,h2⟩:=hf 2 aX 19 1 ⟨_,rfl,rfl,rfl⟩ (by kernel_rfl)
 obtain⟨y3,h3⟩:=hf 3 aX 20 1 ⟨_,rfl,rfl,rfl⟩ (by kernel_rfl)
 obtain⟨y4,h4⟩:=hf 4 au 21 1 ⟨_,rfl,rfl,rfl⟩ (by kernel_rfl)
 obtain⟨x0,e0,_⟩:=me bv H enc w n _ _ h0
 obtain⟨x1,o1,e1⟩:=zF h1
 obtain⟨x2,e2,_⟩:=me bv H enc w n _ _ h2
 obtain⟨x3,e3,_⟩:=me bv H enc w n _ _ h3
 obtain⟨x4,e4,_⟩:=ri aA H enc w n _ _ h4
 refine⟨⟨x0,x1,x2,x3,x4⟩,o1,?_⟩
 have s0:=gJ cs 0 1
 have s1:=gJ cs 1 18
 have s2:=gJ cs 19 1
 have s3:=gJ cs 20 1
 have s4:=gJ cs 21 1
 rw[e0,List.drop_zero]at s0
 rw[e1]at s1
 rw[e2]at s2
 rw[e3]at s3
 rw[e4,Df cs (21+1) hl',List.append_nil]at s4
 rw[s0,s1,s2,s3,s4];rfl
theorem zE {H:Type}{enc:TypeId×Value->H}{w:World}{fuel:Nat}{cs:List Value}{x:DataW H×List MemPlace}(h:DataW.trod enc prog w 0 (λ_=>true) true fuel aL cs=some x):∃u:Cas,u.ok/\cs=u.cells:=by
 obtain⟨n,hl,hf⟩:=tO Tryz.underlying80 h
 have hl':cs.length=51:=hl.trans (by kernel_rfl)
 obtain⟨y0,h0⟩:=hf 0 bE 0 29 ⟨_,rfl,rfl,rfl⟩ (by kernel_rfl)
 obtain⟨y1,h1⟩:=hf 1 bT 29 22 ⟨_,rfl,rfl,rfl⟩ (by kernel_rfl)
 obtain⟨x0,o0,e0⟩:=Hc h0
 obtain⟨x1,o1,e1⟩:=zZa h1
 refine⟨⟨x0,x1⟩,⟨o0,o1⟩,?_⟩
 have s0:=gJ cs 0 29
 have s1:=gJ cs 29 22
 rw[e0,List.drop_zero]at s0
 rw[e1,Df cs (29+22) hl',List.append_nil]at s1
 rw[s0,s1];rfl
end
end Go.Pk
