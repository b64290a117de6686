/- What the laws lean on: TplE, TplF, WD, V55, V56, TplG, PatP, TopP, RulF, PlnP, PlnQ, SymA, SymB, SymC, PthP, V38, PthA, PthB, DaD, Fnv, V39, RegA, PatA, WrdG; what is used. Its conditions: none. -/
import Derived.Test.YthbkoifpgkjadaaGreatDoorKI
import Derived.Defers
import Derived.Recover
set_option linter.unusedVariables false
set_option linter.unusedSimpArgs false
set_option linter.unusedSectionVars false
set_option maxRecDepth 100000
open Go.IntKind (i64)
open Go.Proofs.Tryz
open List (length)
open Option (isSome)
namespace Go.Pk
open Go.RowKit (Below)
open Go.Proofs
theorem RH (nm s:List UInt8)(ln:Int){u v:Url}(ou:u.ok):(Tpl.cells ⟨nm,u,s,ln⟩).take 1++v.cells++(Tpl.cells ⟨nm,u,s,ln⟩).drop (1+21)=Tpl.cells ⟨nm,v,s,ln⟩:=by
 unfold Tpl.cells
 rw[show 1+21=21+1 from rfl,List.drop_succ_cons,List.drop_append_of_le_length (by rw[Url.len ou];exact Nat.le_refl _),List.drop_eq_nil_of_le (by rw[Url.len ou];exact Nat.le_refl _)]
 rfl
theorem RG (nm s t:List UInt8)(ln:Int){u:Url}(ou:u.ok):(Tpl.cells ⟨nm,u,s,ln⟩).set 22 (vS t)=Tpl.cells ⟨nm,u,t,ln⟩:=by
 unfold Tpl.cells
 rw[show 22=21+1 from rfl,List.set_cons_succ,List.set_append_right _ _ (by rw[Url.len ou];exact Nat.le_refl _),Url.len ou]
 rfl
theorem Lp {t:Tpl}(o:t.ok):t.cells[22]? =some (vS t.text):=Lo o 0
theorem TJ {o:Tpl}(k:o.ok)(w:World):(Instr.buildSlice au 1 #[(0,o.v)]).run prog w=.ok (.slice (some ⟨w.heap.size,0,none⟩) 1 1) (w.alloc (.cells o.cells.toArray ao)):=by
 obtain⟨nm,⟨sc,⟨e1,e2,e3⟩,po,pa⟩,tx,ln⟩:=o
 obtain⟨x0,x1,x2,x3,x4,x5,x6,x7,x8,x9,x10,x11,x12,x13,x14,x15,rfl⟩:=pN e3 k
 kernel_rfl
def Xy (w0:World)(k:Nat)(r:Rdr)(ts:List Tpl)(cs:List Cho)(L:List (List UInt8))(S:List Nat)(ex:List Pt):Ending->World->Prop:=Jb (λv w'=>v=.tuple #[]/\∃(t:Tpl) (r':Rdr),GI L r.ln ts cs=.inl t/\t.ok/\r'.ln=r.ln/\Sp w0 (RdP k r' (ts++[t]) cs L S ex) w')
 λch w'=>∃(e:Int) (i:Nat),GI L r.ln ts cs=.inr (e,i)/\ch=PH (e,r.ln,(AH L i:Nat))/\bW w0 w'
theorem Ig {w0 w:World}{k:Nat}{r:Rdr}{ts:List Tpl}{cs:List Cho}{L:List (List UInt8)}{S:List Nat}{ex:List Pt}(h:Sp w0 (RdP k r ts cs L S ex) w)(hL:LW L)(hl:L.length=4)(hI:MQ cs)(ht8:ts.length <=8)(he:Env w0):
   Cf fO #[.pointer (some ⟨k,0,none⟩)] w (Xy w0 k r ts cs L S ex):=by
 apply nP
 unfold fE
 intro k1 w1 hk1 hw1
 have b1:=(hw1▸ah w _:bW w w1)
 have A1:ai w1 k1 aj [.pointer (some ⟨k,0,none⟩)]:=ai.new hk1 hw1
 have h1:Sp w0 (ptA k1 aj [.pointer (some ⟨k,0,none⟩)]::RdP k r ts cs L S ex) w1:=h.add b1 A1 λb hb=>by rw[List.mem_singleton.1 hb];omega
 have hd:=cF w1
 generalize World.drew w1=wd at*
 have h1:=h1.below hd
 clear A1 hd
 have A1:ai wd k1 aj [.pointer (some ⟨k,0,none⟩)]:=h1.at 0 rfl
 have Ak:ai wd k aM r.cells:=h1.at 1 rfl
 have oT:Ow vW ao wd NoB r.a r.n r.c ts:=h1.at 2 rfl
 have oL:Ow tS ak wd NoB r.d r.p r.q L:=h1.at 4 rfl
 have hp:=oL.len
 have hU0:AZ.ok:=rfl
 have NM:∀{W:World},bW wd W->Cf bS #[.pointer (some ⟨k,0,none⟩),.func (.func bf) #[] #[.pointer (some ⟨k1,0,none⟩)]] W (Wm L r.ln (ts.any λc=>c.name==L.getD 1 []) W):=λhb=>
   H5 (A1.below hb) (Ak.below hb) rfl rfl rfl (oT.below hb).all (oL.below hb).all hL (by omega)
 have ADD:∀{W W':World} {k2:Nat} {nm:List UInt8},bW wd W->bW W W'->ai W' k2 ao (Tpl.cells ⟨nm,AZ,[],r.ln⟩)->W.heap.size <=k2->Sp w0 (ptA k2 ao (Tpl.cells ⟨nm,AZ,[],r.ln⟩)::ptA k1 aj [.pointer (some ⟨k,0,none⟩)]::RdP k r ts cs L S ex) W':=fun{W W' k2 nm} hb hb2 A hk=>(h1.below hb).add hb2 A λb hb=>by rw[List.mem_singleton.1 hb];exact hk
 refine⟨λp2 W=>∃k2:Nat,p2=some ⟨k2,0,none⟩/\nmF (L.getD 1 []) (ts.any λc=>c.name==L.getD 1 [])=0/\bW wd W/\Sp w0 (ptA k2 ao (Tpl.cells ⟨L.getD 1 [],AZ,[],r.ln⟩)::ptA k1 aj [.pointer (some ⟨k,0,none⟩)]::RdP k r ts cs L S ex) W,
   ⟨λu=>ai u k1 aj [.pointer (some ⟨k,0,none⟩)]/\ai u k aM r.cells,⟨A1,Ak⟩,_,λu hu=>hu.1.load1 aX rfl rfl,rfl,rfl,r.ln,λu hu=>by rw[dI];exact hu.2.load1 cD rfl rfl,_,λu hu=>hu.1.load1 aX rfl rfl,(NM (Below.refl _ _)).mono ?_,λk2 w2 hk2 hw2=>?_⟩,λp2=>aN.of ?_ _⟩
 · rintro _ w13 (⟨_,rfl,e0,rfl,b13⟩|⟨ch,rfl,e0,rfl,b13⟩)
   rotate_left
   · exact .inr ⟨_,rfl,λ_=>⟨_,1,Ph rfl e0,rfl,(h1.below b13).bw⟩⟩
   refine .inl ⟨_,rfl,⟨A1.below b13,Ak.below b13⟩,λk2 w2 hk2 hw2=>?_⟩
   have b2:=(hw2▸ah w13 _:bW w13 w2)
   have B2:=ab b13 b2 b13.size
   have A2:ai w2 k2 ao (Tpl.cells ⟨[],AZ,[],0⟩):=ai.new hk2 hw2
   obtain⟨wx,qx,Ax,gx⟩:=jq.store0 (P:=prog) (cs:=Tpl.cells ⟨L.getD 1 [],AZ,[],r.ln⟩) rfl (Tpl.one _) A2 rfl
   have bxq:bW w13 wx:=Below.put b2 gx (by omega)
   exact⟨⟨A1.below B2,Ak.below B2⟩,wx,qx,k2,rfl,e0,ab b13 bxq b13.size,ADD b13 bxq Ax (by omega)⟩
 · have b2:=(hw2▸ah wd _:bW wd w2)
   have A2:ai w2 k2 ao (Tpl.cells ⟨[],AZ,[],0⟩):=ai.new hk2 hw2
   refine⟨⟨A1.below b2,Ak.below b2⟩,(NM b2).mono ?_⟩
   rintro _ w13 (⟨_,rfl,e0,rfl,b13⟩|⟨ch,rfl,e0,rfl,b13⟩)
   · have B13:=ab b2 b13 b2.size
     obtain⟨wx,qx,Ax,gx⟩:=jq.store0 (P:=prog) (cs:=Tpl.cells ⟨L.getD 1 [],AZ,[],r.ln⟩) rfl (Tpl.one _) (A2.below b13) rfl
     have bxq:bW wd wx:=Below.put B13 gx (by omega)
     exact .inl ⟨_,rfl,⟨A1.below B13,Ak.below B13⟩,wx,qx,k2,rfl,e0,bxq,ADD (Below.refl _ _) bxq Ax (by omega)⟩
   · exact .inr ⟨_,rfl,λ_=>⟨_,1,Ph rfl e0,rfl,(h1.below (ab b2 b13 b2.size)).bw⟩⟩
 rintro W ⟨k2,rfl,e0,bWq,hs⟩
 have hV:=Ut (ln:=r.ln) (cs:=cs) rfl e0
 clear A1 Ak oT oL NM ADD e0 h1
 have A1:ai W k1 aj [.pointer (some ⟨k,0,none⟩)]:=hs.at 1 rfl
 have Ak:ai W k aM r.cells:=hs.at 2 rfl
 have oL:Ow tS ak W NoB r.d r.p r.q L:=hs.at 5 rfl
 have g2:L.getD 2 []=L[2]:=by simp[List.getD,List.getElem?_eq_getElem (show 2<L.length by omega)]
 have g3:L.getD 3 []=L[3]:=by simp[List.getD,List.getElem?_eq_getElem (show 3<L.length by omega)]
 rw[g2,g3]at hV
 clear g2 g3
 generalize L.getD 1 []=nm at*
 have tx:(Instr.loadAt ak (.pointer (am r.d ((2:Nat):Int) 1))).run prog W=.ok (.string (mkS L[2])) W:=oL.all.text aF (by omega)
 have fl:∀{W':World} {t:Tpl} {e:Int} {j:Nat} {G:World->Prop},Sp w0 (ptA k2 ao t.cells::ptA k1 aj [.pointer (some ⟨k,0,none⟩)]::RdP k r ts cs L S ex) W'->j <=L.length->GI L r.ln ts cs=.inr (e,j)->Cf aI #[.pointer (some ⟨k,0,none⟩),vI e,vI (j:Int)] W' λe28 w28=>(e28=.returned (.tuple #[])/\G w28)\/∃ch_2,e28=.panicked ch_2/\(∃(e:Int) (i:Nat),GI L r.ln ts cs=.inr (e,i)/\ch_2=PH (e,r.ln,(AH L i:Nat))/\bW w0 w28):=fun{W' t e j G} hs hj hE=>by
   have Ak:ai W' k aM r.cells:=hs.at 2 rfl
   have oL:Ow tS ak W' NoB r.d r.p r.q L:=hs.at 5 rfl
   refine(jv Ak rfl rfl oL.all hL e j hj).mono ?_
   rintro _ _ (⟨v,rfl,hf⟩|⟨ch,rfl,rfl,rfl⟩)
   · exact hf.elim
   · exact .inr ⟨_,rfl,e,j,hE,rfl,hs.bw⟩
 refine⟨_,A1.load1 aX rfl rfl,rfl,rfl,r.d,r.p,r.q,by rw[dI];exact Ak.load1 bG rfl rfl,⟨⟨by decide,by omega⟩,oL.all.isSome (i:=2) (by omega)⟩,L[2],tx,aB (II L[2] (by have:=hL.2 _ (List.getElem_mem (show 2<L.length by omega));omega) W (he.step hs.bw)) ?_⟩
 rintro _ w22 ⟨rfl,b22⟩
 have hu:=Uz L[2]
 generalize I9 L[2]=uu at*
 obtain⟨u,eu⟩:=uu
 simp only at hu hV
 refine⟨_,_,rfl,zL.new (zs:=AZ.cells) (cs:=u.cells) (Url.len hU0) (Url.len hu) (Url.one _) w22 λk3 w3 hk3 A3 b3=>?_⟩
 have B3:=ab b22 b3 b22.size
 have hs3:=hs.below B3
 have k3n:∀b∈[k2],b≠k3:=λb hb=>by
   rw[List.mem_singleton.1 hb]
   have:ai W k2 ao (Tpl.cells ⟨nm,AZ,[],r.ln⟩):=hs.at 0 rfl
   have:=this.lt
   have:=b22.size
   omega
 refine⟨λW'=>W'=w3/\eu=0,ae.of (λh4=>⟨_,(A1.below B3).load1 aX rfl rfl,fl hs3 (j:=2) (by omega) ?_⟩) (λh4=>⟨rfl,?_⟩),aN.of ?_ _⟩
 · have h4:eu≠0:=by simpa using h4
   rw[hV,if_pos h4]
 · simpa using h4
 rintro wj ⟨rfl,rfl⟩
 rw[if_neg (by decide)]at hV
 have hd:=cF wj
 generalize World.drew wj=wd2 at*
 have hsd:=hs3.below hd
 have A1d:ai wd2 k1 aj [.pointer (some ⟨k,0,none⟩)]:=hsd.at 1 rfl
 have Akd:ai wd2 k aM r.cells:=hsd.at 2 rfl
 have oLd:Ow tS ak wd2 NoB r.d r.p r.q L:=hsd.at 5 rfl
 have A3d:=A3.below hd
 refine⟨λu'=>ai u' k3 bt u.cells/\ai u' k1 aj [.pointer (some ⟨k,0,none⟩)],⟨A3d,A1d⟩,u.v,λu' hu'=>zL.load0 hu'.1 (Url.len hu),_,λu' hu'=>hu'.2.load1 aX rfl rfl,rfl,(EQ Akd rfl rfl oLd.all hL 3 (by omega)).mono ?_⟩
 rintro _ w32 (⟨_,rfl,⟨s,hun,rfl⟩,b32⟩|⟨ch,rfl,hun,rfl,b32⟩)
 rotate_left
 · exact .inr ⟨_,rfl,λ_=>⟨131,3,by rw[hV,hun],rfl,(hsd.below b32).bw⟩⟩
 rw[hun]at hV
 have hs32:=hsd.below b32
 have A2c:ai w32 k2 ao (Tpl.cells ⟨nm,AZ,[],r.ln⟩):=hs32.at 0 rfl
 obtain⟨wx3,q3,Ax3,g3⟩:=zL.store (P:=prog) (cs:=u.cells) (Url.len hu) (Url.one _) A2c (i:=1) (by rw[Tpl.len (t:=⟨nm,AZ,[],r.ln⟩) hU0];decide)
 rw[RH nm [] r.ln hU0]at Ax3
 have c3:Chg [k2] w32 wx3:=Chg.grown g3 List.mem_cons_self
 have hs4:=hs32.upd 0 rfl c3 (p':=ptA k2 ao (Tpl.cells ⟨nm,u,[],r.ln⟩)) Ax3 λb hb=>.inl hb
 have A1x:ai wx3 k1 aj [.pointer (some ⟨k,0,none⟩)]:=hs4.at 1 rfl
 have A3x:ai wx3 k3 bt u.cells:=c3.arr (A3d.below b32) λhm=>k3n _ List.mem_cons_self (List.mem_singleton.1 hm).symm
 have o1:(Tpl.mk nm u [] r.ln).ok:=hu
 obtain⟨wx4,q4,hs5,g4⟩:=hs4.put eG 0 rfl (i:=22) (v:=vS s) rfl rfl (by rw[Tpl.len o1];decide)
 rw[RG nm [] s r.ln hu]at hs5
 have hs5:Sp w0 (ptA k2 ao (Tpl.cells ⟨nm,u,s,r.ln⟩)::ptA k1 aj [.pointer (some ⟨k,0,none⟩)]::RdP k r ts cs L S ex) wx4:=hs5
 have o2:(Tpl.mk nm u s r.ln).ok:=hu
 have sl:s.length <=100000:=Nat.le_trans (Sw hun) (hL.2 _ (List.getElem_mem (show 3<L.length by omega)))
 have A2:ai wx4 k2 ao (Tpl.cells ⟨nm,u,s,r.ln⟩):=hs5.at 0 rfl
 have A1:ai wx4 k1 aj [.pointer (some ⟨k,0,none⟩)]:=hs5.at 1 rfl
 have Ak:ai wx4 k aM r.cells:=hs5.at 2 rfl
 have tail22:(Tpl.cells ⟨nm,u,s,r.ln⟩)[22]? =some (vS s):=Lp o2
 refine .inl ⟨s,rfl,⟨A3d.below b32,(hs32.at 1 rfl:ai w32 k1 aj [.pointer (some ⟨k,0,none⟩)])⟩,wx3,q3,⟨A3x,A1x⟩,rfl,wx4,by rw[dI];exact q4,rfl,s,λu' hb=>by rw[dI];exact(A2.below hb).load1 aF rfl tail22,_,λu' hb=>(A1.below hb).load1 aX rfl rfl,rfl,rfl,r.b,r.m,r.e,λu' hb=>by rw[dI];exact(Ak.below hb).load1 bQ rfl rfl,λwq hq=>?_⟩
 have hsq:=hs5.below hq
 have oC:Ow Ee aG wq (λb=>b∈S) r.b r.m r.e cs:=(hsq.at 4 rfl:(ptD aG S r.b r.m r.e cs).P wq).1
 refine aB (K5 s (by omega) oC.all (he.step hsq.bw)) ?_
 rintro v w42 ⟨b42,hm⟩
 have hs42:=hsq.below b42
 have A1:ai w42 k1 aj [.pointer (some ⟨k,0,none⟩)]:=hs42.at 1 rfl
 have Ak:ai w42 k aM r.cells:=hs42.at 2 rfl
 have oC:Ow Ee aG w42 (λb=>b∈S) r.b r.m r.e cs:=(hs42.at 4 rfl:(ptD aG S r.b r.m r.e cs).P w42).1
 have lk:∀{W':World},bW w42 W'->(Instr.loadAt aj (.pointer (some ⟨k1,0,none⟩))).run prog W'=.ok (.pointer (some ⟨k,0,none⟩)) W':=λhb=>(A1.below hb).load1 aX rfl rfl
 have lc:∀{W':World},bW w42 W'->(Instr.loadAt aC (.pointer (Option.map (λx=>x.add 1) (some (⟨k,0,none⟩:Addr))))).run prog W'=.ok (.slice r.b r.m r.e) W':=λhb=>by rw[dI];exact(Ak.below hb).load1 bQ rfl rfl
 have hsplit:∃(a:Option Addr) (n c:Nat) (b:Bool),v=.tuple #[.slice a n c,.bool b]/\((b=false/\Cy cs s=none)\/∃ps,b=true/\Cy cs s=some ps/\Ow Rz be w42 NoB a n c ps):=by
   cases hpv:Cy cs s with
   | none=>rw[hpv]at hm;exact⟨_,_,_,_,hm,.inl ⟨rfl,rfl⟩⟩
   | some ps=>
     rw[hpv]at hm
     obtain⟨a,n,c,e,o,_⟩:=hm
     exact⟨a,n,c,true,e,.inr ⟨ps,rfl,rfl,o⟩⟩
 clear hm
 obtain⟨a,n,c,b,rfl,hcase⟩:=hsplit
 refine⟨a,n,c,b,rfl,λW'=>GI L r.ln ts cs=.inl ⟨nm,u,s,r.ln⟩/\Sp w0 (ptA k2 ao (Tpl.cells ⟨nm,u,s,r.ln⟩)::ptA k1 aj [.pointer (some ⟨k,0,none⟩)]::RdP k r ts cs L S ex) W',?_,aN.of ?_ _⟩
 · rcases hcase with⟨rfl,hpv⟩|⟨ps,rfl,hpv,oP⟩
   · exact ae.yes rfl ⟨_,lk (Below.refl _ _),fl hs42 (j:=3) (by omega) (by rw[hV];simp only[hpv])⟩
   simp only[hpv]at hV
   obtain⟨pl,pf⟩:=EO hpv
   have hU:=GM (l:=cs) ps [] (λi hi=>by cases hi) λp hp=>(pf p hp).1
   rw[<- Ls]at hU
   refine ae.no rfl ⟨_,λu' hb=>lk hb,rfl,rfl,r.b,r.m,r.e,λu' hb=>lc hb,λa52 l52 c52 W'=>Ow lS aP W' NoB a52 l52 c52 (sY ps),λ_ _ _ _ _ ho hb=>ho.below hb,λu' hb=>(Pq (oP.below hb).all (by omega)).mono ?_,λa52 l52 c52=>⟨Ge cs (sY ps),λu' hb hJ=>(J4 hJ.all (oC.below hb).all hU hI.w).mono ?_,λwq1 hb hJ=>?_⟩⟩
   · rintro _ w' ⟨_,rfl,a5,n5,c5,rfl,o5,_,b5⟩
     exact⟨a5,n5,c5,rfl,o5,b5⟩
   · rintro _ w' ⟨_,rfl,rfl,rfl⟩
     exact⟨rfl,Below.refl _ _⟩
   have hsq1:=hs42.below hb
   refine ae.of (λh5=>⟨_,lk hb,fl hsq1 (j:=3) (by omega) ?_⟩) (λh5=>⟨_,lk hb,rfl,rfl,r.b,r.m,r.e,lc hb,aB (HX (oP.below hb).all (oC.below hb).all (λp hp=>(pf p hp).1) hI.w (by omega) λp hp=>by have:=(pf p hp).2;omega) ?_⟩)
   · rw[hV,if_pos (of_decide_eq_true h5)]
   have h5:=of_decide_eq_false h5
   rw[if_neg (by omega)]at hV
   rintro _ w67 ⟨rfl,b67⟩
   have hb67:=ab hb b67 hb.size
   have hs67:=hs42.below hb67
   have oT:Ow vW ao w67 NoB r.a r.n r.c ts:=hs67.at 3 rfl
   have hn:=oT.len
   refine⟨_,rfl,ae.of (λh6=>⟨_,lk hb67,fl hs67 (j:=3) (by omega) ?_⟩) (λh6=>⟨_,lk hb67,rfl,rfl,r.a,r.n,r.c,by rw[dI];exact(Ak.below hb67).load1 bT rfl rfl,ae.of (λh7=>⟨_,lk hb67,fl hs67 (j:=0) (by omega) ?_⟩) (λh7=>⟨?_,hs67⟩)⟩)⟩
   · rw[hV,if_pos (of_decide_eq_true h6)]
   · have h6:=of_decide_eq_false h6
     have h7:r.n=8:=U5 (k:=8) h7
     rw[hV,if_neg (by omega),if_pos (by omega)]
   · have h6:=of_decide_eq_false h6
     have h7:r.n≠8:=SO (k:=8) h7
     rw[hV,if_neg (by omega),if_neg (by omega)]
 rintro w9 ⟨hE,hs9⟩
 have hd9:=cF w9
 generalize World.drew w9=wd3 at*
 have hs9:=hs9.below hd9
 have A2:ai wd3 k2 ao (Tpl.cells ⟨nm,u,s,r.ln⟩):=hs9.at 0 rfl
 have A1:ai wd3 k1 aj [.pointer (some ⟨k,0,none⟩)]:=hs9.at 1 rfl
 have Ak:ai wd3 k aM r.cells:=hs9.at 2 rfl
 have oT:Ow vW ao wd3 NoB r.a r.n r.c ts:=hs9.at 3 rfl
 have hb86:=ah wd3 (.cells (Tpl.cells ⟨nm,u,s,r.ln⟩).toArray ao)
 have hts:=Ln hE
 obtain⟨_,w87,a87,l87,c87,r87,o87,ch87,n87⟩:=T8 (ty:=au) FF bT nz (by decide) oT rfl rfl (x:=⟨nm,u,s,r.ln⟩) (vs:=Tpl.cells ⟨nm,u,s,r.ln⟩) ⟨rfl,o2⟩ (cm:=1) (by omega)
 have hs87:=hs9.upd 3 rfl ch87 (p':=ptO vW ao a87 l87 c87 (ts++[Tpl.mk nm u s r.ln])) o87 n87.fp
 obtain⟨wx,qx,hx,_⟩:=hs87.put j2 2 rfl (i:=0) (v:=.slice a87 l87 c87) rfl rfl (by show 0<4;decide)
 refine⟨λu'=>ai u' k1 aj [.pointer (some ⟨k,0,none⟩)]/\ai u' k aM r.cells/\ai u' k2 ao (Tpl.cells ⟨nm,u,s,r.ln⟩),⟨A1,Ak,A2⟩,_,λu' hu'=>hu'.1.load1 aX rfl rfl,_,λu' hu'=>hu'.1.load1 aX rfl rfl,rfl,rfl,r.a,r.n,r.c,λu' hu'=>by rw[tY];exact hu'.2.1.load1 bT rfl rfl,Tpl.v ⟨nm,u,s,r.ln⟩,λu' hu'=>jq.load0 hu'.2.2 (Tpl.len o2),_,_,_,_,TJ o2 wd3,⟨A1.below hb86,Ak.below hb86,A2.below hb86⟩,w87,a87,l87,c87,r87,⟨hs87.at 1 rfl,hs87.at 2 rfl,hs87.at 0 rfl⟩,rfl,rfl,wx,by rw[tY];exact qx,rfl,⟨nm,u,s,r.ln⟩,{ r with a:=a87,n:=l87,c:=c87 },hE,o2,rfl,hx.tail.tail⟩
theorem Rm {L:List (List UInt8)}{ln:Int}{st:List Tpl×List Cho}(h:[]∈L):rdV L ln st=.inr (131,0):=by unfold rdV;rw[if_pos h]
theorem T9 {L:List (List UInt8)}{ln:Int}{ts:List Tpl}{cs:List Cho}(h: ¬ []∈L)(h1:L.head?=some vR/\2<L.length):rdV L ln (ts,cs)=match Jt L cs with|.inr e=>.inr e|.inl c=>.inl (ts,cs++[c]):=by unfold rdV;rw[if_neg h,if_pos h1];rfl
theorem Ua {L:List (List UInt8)}{ln:Int}{ts:List Tpl}{cs:List Cho}(h: ¬ []∈L)(h1: ¬ (L.head?=some vR/\2<L.length))(h2:L.head?=some Df/\L.length=4):rdV L ln (ts,cs)=match GI L ln ts cs with|.inr e=>.inr e|.inl t=>.inl (ts++[t],cs):=by unfold rdV;rw[if_neg h,if_neg h1,if_pos h2];rfl
theorem Ro {L:List (List UInt8)}{ln:Int}{st:List Tpl×List Cho}(h: ¬ []∈L)(h1: ¬ (L.head?=some vR/\2<L.length))(h2: ¬ (L.head?=some Df/\L.length=4)):rdV L ln st=.inr (131,0):=by unfold rdV;rw[if_neg h,if_neg h1,if_neg h2]
def mv4:Nat->Nat
 | 0=>1
 | 1=>2
 | 2=>3
 | 3=>0
 | n+4=>n+5
theorem TS (i j:Nat)(e:mv4 i=mv4 j):i=j:=by
 match i,j with
 | 0,0|1,1|2,2|3,3=>rfl
 | 0,1|0,2|0,3|1,0|1,2|1,3|2,0|2,1|2,3|3,0|3,1|3,2=>cases e
 | 0,n+4|1,n+4|2,n+4|3,n+4=>simp[mv4]at e
 | n+4,0|n+4,1|n+4,2|n+4,3=>simp[mv4]at e
 | n+4,m+4=>simp[mv4]at e;omega
def RdI (st:List Tpl×List Cho):Prop:=st.1.length <=8/\MQ st.2/\∀t∈st.1,t.ok
theorem Vc {x:List UInt8}(h:x.length <=20000):LW (dz 32 [] x):=by
 have:=dZ 32 x []
 refine⟨by omega,λy hy=>?_⟩
 have:=jE 32 x [] y hy
 simp at this
 omega
def Xz (w0:World)(k:Nat)(ln:Int)(ts:List Tpl)(cs:List Cho)(x:List UInt8)(ex:List Pt):Ending->World->Prop:=Jb (λv w'=>v=.tuple #[]/\∃(ts':List Tpl) (cs':List Cho) (r':Rdr) (L':List (List UInt8)) (S':List Nat),rdV (dz 32 [] x) ln (ts,cs)=.inl (ts',cs')/\RdI (ts',cs')/\LW L'/\r'.ln=ln/\Sp w0 (RdP k r' ts' cs' L' S' ex) w')
 λch w'=>∃(e:Int) (i:Nat),rdV (dz 32 [] x) ln (ts,cs)=.inr (e,i)/\ch=PH (e,ln,(AH (dz 32 [] x) i:Nat))/\bW w0 w'
theorem Mo {w0 w:World}{k:Nat}{r:Rdr}{ts:List Tpl}{cs:List Cho}{L:List (List UInt8)}{S:List Nat}{ex:List Pt}(h:Sp w0 (RdP k r ts cs L S ex) w)(hL:LW L)(hI:RdI (ts,cs))(x:List UInt8)(hx:x.length <=20000)(he:Env w0):
   Cf gW #[.pointer (some ⟨k,0,none⟩),vS x] w (Xz w0 k r.ln ts cs x ex):=by
 apply pX
 unfold gJ
 obtain⟨h8,hC,hT⟩:=hI
 refine aB (ux x (by omega) w (he.step h.bw)) ?_
 rintro v w8 ⟨hv,b8⟩
 have hs:=h.below b8
 have hLW:=Vc hx
 have hne:dz 32 [] x≠[]:=oF 32 x []
 generalize dz 32 [] x=M at*
 have fl:∀{W':World},bW w8 W'->rdV M r.ln (ts,cs)=.inr (131,0)->Cf aI #[.pointer (some ⟨k,0,none⟩),vI 131,vI ((0:Nat):Int)] W' λe28 w28=>(e28=.returned (.tuple #[])/\((Value.tuple #[]:Value)=.tuple #[]/\∃(ts':List Tpl) (cs':List Cho) (r':Rdr) (L':List (List UInt8)) (S':List Nat),rdV M r.ln (ts,cs)=.inl (ts',cs')/\RdI (ts',cs')/\LW L'/\r'.ln=r.ln/\Sp w0 (RdP k r' ts' cs' L' S' ex) w28))\/∃ch_2,e28=.panicked ch_2/\(∃(e:Int) (i:Nat),rdV M r.ln (ts,cs)=.inr (e,i)/\ch_2=PH (e,r.ln,(AH M i:Nat))/\bW w0 w28):=fun{W'} hb hE=>by
   have hs':=hs.below hb
   have Ak:ai W' k aM r.cells:=hs'.at 0 rfl
   have oL:Ow tS ak W' NoB r.d r.p r.q L:=hs'.at 3 rfl
   refine(jv Ak rfl rfl oL.all hL 131 0 (Nat.zero_le _)).mono ?_
   rintro _ _ (⟨v,rfl,hf⟩|⟨ch,rfl,rfl,rfl⟩)
   · exact hf.elim
   · exact .inr ⟨_,rfl,131,0,hE,rfl,hs'.bw⟩
 have kp:∀{a:Option Addr} {n c:Nat},Ow tS ak w8 NoB a n c M->bg w.heap.size a->∃wx,(Instr.storeAt aw (.pointer (Option.map (λx=>x.add 3) (some (⟨k,0,none⟩:Addr)))) (.slice a n c)).run prog w8=.ok () wx/\Sp w0 (RdP k { r with d:=a,p:=n,q:=c } ts cs M S ex) wx:=fun{a n c} o f=>by
   have hs2:=h.add b8 (p:=ptO tS ak a n c M) o λb hb=>f b (fU.1 hb)
   obtain⟨wx,qx,hx,_⟩:=hs2.put nZ 1 rfl (i:=3) (v:=.slice a n c) rfl rfl (by show 3<4;decide)
   exact⟨wx,by rw[dI];exact qx,hx.sub mv4 (λi q hq=>match i,hq with|0,hq=>hq|1,hq=>hq|2,hq=>hq|3,hq=>hq|_+4,hq=>hq) (λi j _ _ e=>TS i j e)⟩
 have hsplit:∃(a:Option Addr) (n c:Nat) (b:Bool),v=.tuple #[.slice a n c,.bool b]/\((b=false/\[]∈M)\/(b=true/\[] ∉ M/\Ow tS ak w8 NoB a n c M/\bg w.heap.size a)):=by
   by_cases hh:([]:List UInt8)∈M
   · rw[if_pos hh]at hv
     exact⟨_,_,_,_,hv,.inl ⟨rfl,hh⟩⟩
   · rw[if_neg hh]at hv
     obtain⟨a,n,c,e,o,f⟩:=hv
     exact⟨a,n,c,true,e,.inr ⟨rfl,hh,o,f⟩⟩
 clear hv
 obtain⟨a,n,c,b,rfl,hcase⟩:=hsplit
 obtain⟨m0,M',rfl⟩:∃m0 M',M=m0::M':=by
   cases M with
   | nil=>exact absurd rfl hne
   | cons m0 M'=>exact⟨m0,M',rfl⟩
 have wd:∀(wt:List UInt8) (q:Int->Prop) [DecidablePred q] (Q:List (List UInt8)->Prop) (hq:q (((m0::M').length:Nat):Int) ↔ Q (m0::M')) [Decidable ([] ∉ m0::M'/\(m0::M').head?=some wt/\Q (m0::M'))],
     ae b (((0 <=(0:Int)/\(0:Int)<((n:Nat):Int))/\Option.isSome a=true)/\∃(s18:List UInt8),(Instr.loadAt ak (.pointer (am a (0:Int) 1))).run prog w8=.ok (vS s18) w8/\
       ae (s18==wt) (w8=w8/\decide (q ((n:Nat):Int))=decide ([] ∉ m0::M'/\(m0::M').head?=some wt/\Q (m0::M'))) (w8=w8/\false=decide ([] ∉ m0::M'/\(m0::M').head?=some wt/\Q (m0::M'))))
       (w8=w8/\false=decide ([] ∉ m0::M'/\(m0::M').head?=some wt/\Q (m0::M'))):=λwt q _ Q hq _=>by
   rcases hcase with⟨rfl,hh⟩|⟨rfl,hh,o,f⟩
   · exact ae.no rfl ⟨rfl,(decide_eq_false λh=>h.1 hh).symm⟩
   · have hn:=o.len
     subst hn
     refine ae.yes rfl ⟨⟨⟨by decide,by simp only[List.length_cons];omega⟩,o.all.isSome (i:=0) (Nat.zero_lt_succ _)⟩,m0,o.all.text aF (i:=0) (Nat.zero_lt_succ _),ae.of (λh=>⟨rfl,?_⟩) (λh=>⟨rfl,?_⟩)⟩
     · have h:m0=wt:=eq_of_beq h
       rw[decide_eq_decide]
       exact⟨λh2=>⟨hh,by rw[h];rfl,hq.1 h2⟩,λh2=>hq.2 h2.2.2⟩
     · have h:m0≠wt:=beq_eq_false_iff_ne.1 h
       exact(decide_eq_false λh2=>h (Option.some.inj h2.2.1)).symm
 have ow:[] ∉ m0::M'->Ow tS ak w8 NoB a n c (m0::M')/\bg w.heap.size a:=λhh=>by
   rcases hcase with⟨_,h2⟩|⟨_,_,o,f⟩
   · exact absurd h2 hh
   · exact⟨o,f⟩
 refine⟨a,n,c,b,rfl,nK (w:=w8) (decide ([] ∉ m0::M'/\(m0::M').head?=some vR/\2<(m0::M').length)) (wd vR (λz=>z>2) (λl=>2<l.length) ⟨λh=>by omega,λh=>by omega⟩) (ae.of (λh1=>?_) (λh1=>?_))⟩
 · obtain⟨hh,h2⟩:=of_decide_eq_true h1
   obtain⟨o,f⟩:=ow hh
   obtain⟨wx,qx,hx⟩:=kp o f
   have hV:=T9 (ln:=r.ln) (ts:=ts) (cs:=cs) hh h2
   refine⟨rfl,rfl,wx,qx,(Ie hx hLW (Nat.le_of_lt h2.2) hC).mono ?_⟩
   rintro _ w31 (⟨_,rfl,rfl,ch,r',S',e,er,h31⟩|⟨_,rfl,e,i,hE,rfl,hb⟩)
   · rw[e]at hV
     exact .inl ⟨rfl,rfl,ts,cs++[ch],r',_,S',hV,⟨h8,Qh hLW hC e,hT⟩,hLW,er,h31⟩
   · rw[hE]at hV
     exact .inr ⟨_,rfl,e,i,hV,rfl,hb⟩
 have n1:[] ∉ m0::M'-> ¬ ((m0::M').head?=some vR/\2<(m0::M').length):=λhh h=>of_decide_eq_false h1 ⟨hh,h⟩
 refine nK (w:=w8) (decide ([] ∉ m0::M'/\(m0::M').head?=some Df/\(m0::M').length=4)) (wd Df (λz=>z=4) (λl=>l.length=4) ⟨λh=>by omega,λh=>by omega⟩) (ae.of (λh3=>?_) (λh3=>?_))
 · obtain⟨hh,h2⟩:=of_decide_eq_true h3
   obtain⟨o,f⟩:=ow hh
   obtain⟨wx,qx,hx⟩:=kp o f
   have hV:=Ua (ln:=r.ln) (ts:=ts) (cs:=cs) hh (n1 hh) h2
   refine⟨rfl,rfl,wx,qx,(Ig hx hLW h2.2 hC h8 he).mono ?_⟩
   rintro _ w31 (⟨_,rfl,rfl,t,r',e,ot,er,h31⟩|⟨_,rfl,e,i,hE,rfl,hb⟩)
   · have e:GI (m0::M') r.ln ts cs=.inl t:=e
     have h9:=Ln e
     rw[e]at hV
     refine .inl ⟨rfl,rfl,ts++[t],cs,r',_,S,hV,⟨by show(ts++[t]).length <=8;rw[List.length_append,List.length_singleton];have:ts.length <=8:=h8;omega,hC,λt' ht'=>?_⟩,hLW,er,h31⟩
     rcases List.mem_append.1 ht' with ht'|ht'
     · exact hT t' ht'
     · rw[List.mem_singleton]at ht';rw[ht'];exact ot
   · have hE:GI (m0::M') r.ln ts cs=.inr (e,i):=hE
     rw[hE]at hV
     exact .inr ⟨_,rfl,e,i,hV,rfl,hb⟩
 · refine fl (Below.refl _ _) ?_
   by_cases hh:([]:List UInt8)∈m0::M'
   · exact Rm hh
   · exact Ro hh (n1 hh) λh=>of_decide_eq_false h3 ⟨hh,h⟩
def kc:Code->Code|.seq a _=>a|c=>c
def seqB:Code->Code|.seq _ b=>b|c=>c
def opsOf:Code->Array Oper|.region _ o _=>o|_=> #[]
def Ts:Code->Nat|.region i _ _=>i|_=>0
def Nn:Op->Call|.defer c=>c|.call c=>c|_=>default
def WE:Code->Code|.cond _ a _=>a|c=>c
def PF:Code->Code|.cond _ _ b=>b|c=>c
def Wz:Code->Operand|.cond e _ _=>e|_=>.tmp 0
def U6:Code->Nat|.block i _=>i|_=>0
def ii:Code->Code|.block _ c=>c|c=>c
def PG (P:Program)(fn:Func)(K:Value->World->Prop)(a:Fr)(w:World):Prop:=match Ll fn.results.toList with
 | some l=>K (qN (l.map λt=>ij a t)) w
 | none=>WR P (ij a) w fn.results.toList λvs=>K (qN vs) w
def Pa (P:Program)(fn:Func)(K:Value->World->Prop)(N:Fr->World->Prop):Exit->Fr->World->Prop
 | .normal,a,w=>N a w
 | .ret,a,w=>PG P fn K a w
 | _,_,_=>False
def WBD (P:Program)(fn:Func)(l:List Tmp)(K:Value->World->Prop)(X:List Value->List PanicEntry->World->Prop):Exit->Fr->World->Prop
 | .normal,a,w|.ret,a,w=>PG P fn K a w
 | .panic ch,a,w=>X (l.map (ij a)) ch w
 | _,_,_=>False
def WD (a:Program)(b:Func)(c:Ann)(d e f:Code)(g:Tmp)(h:FuncId)(i:List Tmp)(j:VP)(k:List Value->List PanicEntry->World->Prop)(l:Fr)(m:World):Prop:=W a b.ntmps c 1 d (Pa a b j λn o=>W a b.ntmps c (wh d+2) e (Pa a b j λp q=>W a b.ntmps c (wh d+wh e+4) f (WBD a b i j k) (jf b.ntmps p (some g) (.func (.func h) #[] (i.map (ij p)).toArray)) q) n o) l m
theorem BH {P:Program}{fn:Func}{K:Value->World->Prop}{a:Act}{fr:Fr}{w:World}(hr:Rep fn.ntmps fr a)(h:PG P fn K fr w):∃v,(results fn a.tmps).run P w=.ok v w/\K v w:=by
 have e:(λt=>a.tmps.getD t undef)=ij fr:=funext hr.get
 rw[ua,e]
 unfold PG at h
 split at h
 · rename_i l hl;exact⟨_,results_tmq hl _ _,h⟩
 · obtain⟨vs,hv,h⟩:=M5 _ _ h
   refine⟨qN vs,?_,h⟩
   unfold UT
   rw[Sem.run_bind,Array.mapM_eq_mapM_toList,Sem.run_map,hv]
   simp only[Result.andThen_ok,Sem.run_pure]
   congr 1
   match vs with
   | []=>rfl
   | [v]=>rfl
   | v::u::vs=>simp[qN]
theorem RR {P:Program}{id:Nat}{ops:Array Oper}{o1 o2:Oper}{d:Tmp}{g:FuncId}{l:List Tmp}{c:Call}(ho:ops.toList=[o1,o2])(g1:o1.guard=none)(g2:o2.guard=none)(d1:o1.dst=some d)(d2:o2.dst=none)
   (p1:o1.op=.makeFunc (.func g) #[] (l.map Operand.tmp).toArray) (p2:o2.op=.defer c) (hc:c.callee=.value (.tmp d)) (hca:c.args= #[]) {Q:Exit->Act->World->Prop} {a:Act} {w:World} (hd:d<a.tmps.size)
   (h:Q .normal { tmps:=(a.put (some d) (.func (.func g) #[] (l.map λt=>a.tmps.getD t undef).toArray)).tmps,defers:= { target:=.fn (.func g) (l.map λt=>a.tmps.getD t undef).toArray,args:= #[] } ::a.defers } w):
   (Code.region id ops false).wp P Q a w:=by
 refine wp_region_list ?_
 rw[ho]
 have e1:(execOp a.eval o1).run P w=.ok (.value (.func (.func g) #[] (l.map λt=>a.tmps.getD t undef).toArray)) w:=by
   unfold execOp
   rw[p1]
   have:((l.map Operand.tmp).toArray.map a.eval)=(l.map λt=>a.tmps.getD t undef).toArray:=by
     rw[List.map_toArray,List.map_map];rfl
   have h0:(#[]:Array Operand).map a.eval= #[]:=by simp
   simp only[this,h0]
   rfl
 unfold wpList
 rw[if_pos (by unfold Region.wanted;rw[g1])]
 left
 unfold Oper.wp
 rw[e1,Oper.upon_value,d1]
 have ed:(a.put (some d) (.func (.func g) #[] (l.map λt=>a.tmps.getD t undef).toArray)).eval (.tmp d)=.func (.func g) #[] (l.map λt=>a.tmps.getD t undef).toArray:=by
   simp[Act.eval,Act.put,Array.getD_eq_getD_getElem?,hd]
 generalize hv:(Value.func (.func g) #[] (l.map λt=>a.tmps.getD t undef).toArray)=v at*
 have e2:(execOp (a.put (some d) v).eval o2).run P w=.ok (.defer { target:=.fn (.func g) (l.map λt=>a.tmps.getD t undef).toArray,args:= #[] }) w:=by
   unfold execOp
   rw[p2]
   show Sem.run P (do pure (Next.defer (<- resolve (a.put (some d) v).eval c o2.type))) w=_
   have h0:(#[]:Array Operand).map (a.put (some d) v).eval= #[]:=by simp
   have er:resolve (a.put (some d) v).eval c o2.type=pure { target:=.fn (.func g) (l.map λt=>a.tmps.getD t undef).toArray,args:= #[] } :=by
     unfold resolve
     simp only[hc,hca,h0,ed]
     rw[<- hv]
     rfl
   rw[er]
   rfl
 unfold wpList
 rw[if_pos (by unfold Region.wanted;rw[g2])]
 left
 unfold Oper.wp
 rw[e2,Oper.upon_defer,d2]
 unfold wpList
 exact h
theorem Qc {P:Program}(hm:P.follows .mixedOrders=true){f g:FuncId}{fn:Func}{c0 c1 rest:Code}{id:Nat}{ops:Array Oper}{o1 o2:Oper}{d:Tmp}{l:List Tmp}{c:Call}(hf:P.funcs[f]? =some fn)(hb:fn.body=some (.seq c0 (.seq c1 (.seq (.region id ops false) rest))))
   (ho:ops.toList=[o1,o2]) (g1:o1.guard=none) (g2:o2.guard=none) (d1:o1.dst=some d) (d2:o2.dst=none) (p1:o1.op=.makeFunc (.func g) #[] (l.map Operand.tmp).toArray) (p2:o2.op=.defer c) (hc:c.callee=.value (.tmp d)) (hca:c.args= #[]) (hdn:d<fn.ntmps)
   (hl:∀t∈l,t ∉ writes rest/\t≠d)
   (ann:Ann) (args:List Value) (hn:args.length <=fn.ntmps) {w:World} {K:Value->World->Prop} {X:List Value->List PanicEntry->World->Prop} (V:Prop) (he:WD P fn ann c0 c1 rest d g l K X (kj 0 args) w=V) (h:V)
   (hi:∀(cap:Array Value) (w:World),(invoke (.fn (.func g) cap) #[]).run P w=.ok (.enter g cap) w)
   (idle:∀(vs:List Value) (w:World),vs.length=l.length->CallsD P g vs.toArray .returning w λe u' w'=>(∃v,e=.returned v)/\u'=.returning/\w'=w)
   (E:Fr->World->Prop) (hE:∀fr w,E fr w=PG P fn K fr w)
   (caught:∀(vs:List Value) (ch:List PanicEntry) (w:World),vs.length=l.length->X vs ch w->CallsD P g vs.toArray (.panicking ch) w λe u' w'=>(∃v,e=.returned v)/\settle u'=.returning/\∀fr:Fr,l.map (ij fr)=vs->E fr w'):
   Calls P f args.toArray w (Ret K):=by
 refine calls_of_wp_defers hf hb ?_
 have hr:Rep fn.ntmps (kj 0 args) { tmps:=args.toArray++Array.replicate (fn.ntmps-args.toArray.size) undef,defers:=[] } :=by
   refine⟨by simp;omega,λt=>?_⟩
   rw[kT]
   simp only[Nat.zero_le,if_true,Nat.sub_zero,Array.getD_eq_getD_getElem?,Array.getElem?_append,List.size_toArray,List.getElem?_toArray]
   by_cases ht:t<args.length
   · simp[ht]
   · simp only[if_neg ht]
     rw[List.getElem?_eq_none (by omega:args.length <=t)]
     simp only[Array.getElem?_replicate]
     split <;> rfl
 have hV:=he▸h
 unfold WD at hV
 have done:∀{a:Act} {fr:Fr} {w:World},Rep fn.ntmps fr a->a.defers=[]->PG P fn K fr w->Leaves P fn a.tmps (Ret K) a.defers .returning w:=fun{a fr w} hr hd h=>by
   obtain⟨v,hv,hK⟩:=BH hr h
   rw[hd]
   exact⟨v,hv,v,rfl,hK⟩
 refine wp_seq (Lv hm _ ann c0 1 _ _ _ _ hr hV _ λe fr1 a1 w1 hr1 hg1 h1=>?_)
 cases e with
 | normal=>?_
 | ret=>exact done hr1 hg1.defers h1
 | _=>exact h1.elim
 refine wp_seq (Lv hm _ ann c1 _ _ _ _ _ hr1 h1 _ λe fr2 a2 w2 hr2 hg2 h2=>?_)
 have hd2:a2.defers=[]:=hg2.defers.trans hg1.defers
 cases e with
 | normal=>?_
 | ret=>exact done hr2 hd2 h2
 | _=>exact h2.elim
 refine wp_seq (RR ho g1 g2 d1 d2 p1 p2 hc hca (by rw[hr2.size];exact hdn) ?_)
 have ecap:(l.map λt=>a2.tmps.getD t undef)=l.map (ij fr2):=List.map_congr_left λt _=>hr2.get t
 rw[ecap]
 have hr3:=hr2.put (some d) (.func (.func g) #[] (l.map (ij fr2)).toArray)
 have hr3':Rep fn.ntmps (jf fn.ntmps fr2 (some d) (.func (.func g) #[] (l.map (ij fr2)).toArray)) { tmps:=(a2.put (some d) (.func (.func g) #[] (l.map (ij fr2)).toArray)).tmps,defers:= { target:=.fn (.func g) (l.map (ij fr2)).toArray,args:= #[] } ::a2.defers } :=⟨hr3.size,hr3.get⟩
 refine Lv hm _ ann rest _ _ _ _ _ hr3' h2 _ λe fr4 a4 w4 hr4 hg4 h4=>?_
 have hd4:a4.defers=[{ target:=.fn (.func g) (l.map (ij fr2)).toArray,args:= #[] }]:=by rw[hg4.defers,hd2]
 have hl4:∀t∈l,a4.tmps.getD t undef=ij fr2 t:=λt ht=>by
   rw[hg4.tmps t (hl t ht).1]
   show(a2.put (some d) _).tmps.getD t undef=_
   rw[<- hr2.get t]
   have:=(hl t ht).2
   simp[Act.put,Array.getD_eq_getD_getElem?,Array.getElem?_setIfInBounds_ne (Ne.symm this)]
 have em:(l.map λt=>a4.tmps.getD t undef)=l.map (ij fr2):=List.map_congr_left hl4
 have em2:l.map (ij fr4)=l.map (ij fr2):=by rw[<- em];exact List.map_congr_left λt _=>(hr4.get t).symm
 have qK:PG P fn K fr4 w4->Leaves P fn a4.tmps (Ret K) a4.defers .returning w4:=λh=>by
   obtain⟨v,hv,hK⟩:=BH hr4 h
   rw[hd4]
   refine leaves_cons (by simp) (hi _ _) ((idle (l.map (ij fr2)) w4 (by simp)).mono ?_)
   rintro _ _ _ ⟨⟨v',rfl⟩,rfl,rfl⟩
   exact⟨v,hv,v,rfl,hK⟩
 cases e with
 | normal=>exact qK h4
 | ret=>exact qK h4
 | panic ch=>
   show Leaves P fn a4.tmps (Ret K) a4.defers (.panicking ch) w4
   rw[hd4]
   have h4:X (l.map (ij fr4)) ch w4:=h4
   rw[em2]at h4
   refine leaves_cons (by simp) (hi _ _) ((caught (l.map (ij fr2)) ch w4 (by simp) h4).mono ?_)
   rintro _ u' w' ⟨⟨v',rfl⟩,hs,hk⟩
   obtain⟨v,hv,hK⟩:=BH hr4 (hE _ _▸hk fr4 em2)
   show Leaves P fn a4.tmps (Ret K) [] (settle u') w'
   rw[hs]
   exact⟨v,hv,v,rfl,hK⟩
 | _=>exact h4.elim
inductive Rec:FrameMode->Value->FrameMode->Prop where
 | nil:Rec .returning .nilIface .returning
 | got (v:Value) (older:List PanicEntry):Rec (.panicking ({ v:=v,recovered:=false } ::older)) v (.panicking ({ v:=v,recovered:=true } ::older))
def VV (P:Program)(fn:Func)(K:Value->World->Prop):Exit->Act->World->Prop
 | .normal,a,w|.ret,a,w=>a.defers=[]/\∃v,(results fn a.tmps).run P w=.ok v w/\K v w
 | _,_,_=>False
theorem Mv {n:Nat}{args:List Value}(hn:args.length <=n):Rep n (kj 0 args) { tmps:=args.toArray++Array.replicate (n-args.toArray.size) undef,defers:=[] } :=by
 refine⟨by simp;omega,λt=>?_⟩
 rw[kT]
 simp only[Nat.zero_le,if_true,Nat.sub_zero,Array.getD_eq_getD_getElem?,Array.getElem?_append,List.size_toArray,List.getElem?_toArray]
 by_cases ht:t<args.length
 · simp[ht]
 · simp only[if_neg ht]
   rw[List.getElem?_eq_none (by omega:args.length <=t)]
   simp only[Array.getElem?_replicate]
   split <;> rfl
theorem MR {P:Program}{fn:Func}{K:Value->World->Prop}{e:Exit}{fr:Fr}{a:Act}{w:World}(hr:Rep fn.ntmps fr a)(hd:a.defers=[])(h:Pa P fn K (PG P fn K) e fr w):VV P fn K e a w:=by
 cases e with
 | normal=>obtain⟨v,hv,hK⟩:=BH hr h;exact⟨hd,v,hv,hK⟩
 | ret=>obtain⟨v,hv,hK⟩:=BH hr h;exact⟨hd,v,hv,hK⟩
 | _=>exact h.elim
theorem Bt {P:Program}{g:FuncId}{fn:Func}{rest:Code}{id:Nat}{ops:Array Oper}{o:Oper}{d:Tmp}{c:Call}(hf:P.funcs[g]? =some fn)(hb:fn.body=some (.seq (.region id ops false) rest))
   (ho:ops.toList=[o]) (g1:o.guard=none) (d1:o.dst=some d) (p1:o.op=.call c) (hc:c.callee=.builtin .recover) (hca:c.args= #[])
   (args:List Value) (hn:args.length <=fn.ntmps) {u u':FrameMode} {rv:Value} (hrec:Rec u rv u') {w:World} {K:Value->World->Prop}
   (hrest:∀a,Rep fn.ntmps (jf fn.ntmps (kj 0 args) (some d) rv) a->a.defers=[]->rest.wp P (VV P fn K) a w):
   CallsD P g args.toArray u w λe u'' w'=>(∃v,e=.returned v/\K v w')/\u''=u':=by
 have hr:=Mv hn
 refine callsD_of_wpS hf hb λc₀ cs hu=>?_
 refine wpS_seq (wpS_region ?_)
 have hs:ops.size=1:=by rw[<- Array.length_toList,ho];rfl
 have h0:ops[0]? =some o:=by rw[<- Array.getElem?_toList,ho];rfl
 rw[hs]
 show wpOpsS P ops _ [0] _ _ _
 unfold wpOpsS
 rw[h0]
 simp only
 rw[if_pos (by unfold Region.wanted;rw[g1])]
 generalize hA:({ tmps:=args.toArray++Array.replicate (fn.ntmps-args.toArray.size) undef,defers:=[] } :Act)=A at*
 have hAd:A.defers=[]:=by rw[<- hA]
 have e1:(execOp A.eval o).run P w=.ok .recover w:=by
   unfold execOp
   rw[p1]
   have h0:(#[]:Array Operand).map A.eval= #[]:=by simp
   show Sem.run P (do let d <- resolve A.eval c o.type;invoke d.target d.args) w=_
   have er:∃cc,resolve A.eval c o.type=pure { target:=.builtin .recover c.argTypes o.type cc,args:= #[] } :=by
     unfold resolve
     simp only[hc,hca,h0]
     exact⟨_,rfl⟩
   obtain⟨cc,er⟩:=er
   rw[er]
   rfl
 rw[e1]
 simp only
 have go:∀cs',(∃u'',cs'= { c₀ with mode:=u'' } ::cs/\u''=u')->(rest.wpS P (bodyPostS P fn c₀ cs λe u'' w'=>(∃v,e=.returned v/\K v w')/\u''=u') (A.put (some d) rv) cs' w):=λcs' ⟨u'',hcs,hu'⟩=>by
   refine wpS_of_wp ?_
   have key:=hrest _ (hr.put (some d) rv) hAd
   intro b k cs2
   obtain⟨e,a',w',q,harr⟩:=key b k cs2
   refine⟨e,a',w',?_,harr⟩
   cases e with
   | normal=>obtain⟨hd,v,hv,hK⟩:=q;exact⟨hd,u'',hcs,v,hv,⟨v,rfl,hK⟩,hu'⟩
   | ret=>obtain⟨hd,v,hv,hK⟩:=q;exact⟨hd,u'',hcs,v,hv,⟨v,rfl,hK⟩,hu'⟩
   | _=>exact q.elim
 cases hrec with
 | nil=>
   have er:recoverD (c₀::cs)=none:=by simp only[recoverD,hu]
   rw[er]
   simp only
   rw[d1]
   unfold wpOpsS
   exact go _ ⟨_,by cases c₀;simp only at hu;rw[hu],rfl⟩
 | got v older=>
   have er:recoverD (c₀::cs)=some (rv,{ c₀ with mode:=.panicking ({ v:=rv,recovered:=true } ::older) } ::cs):=by simp only[recoverD,hu]
   rw[er]
   simp only
   rw[d1]
   unfold wpOpsS
   exact go _ ⟨_,rfl,rfl⟩
theorem IX {P:Program}{ops:Array Oper}{Q:Exit->Act->World->Prop}{n:Nat}{o:Oper}{rest:List Oper}{fr:Fr}{a:Act}{w:World}{v:Value}(hr:Rep n fr a)(hg:o.guard=none)(hx:(execOp (evF fr) o).run P w=.ok (.value v) w)
   (h:∀a',Rep n (jf n fr o.dst v) a'->a'.defers=a.defers->wpList P ops Q rest a' w):wpList P ops Q (o::rest) a w:=by
 unfold wpList
 rw[if_pos (by unfold Region.wanted;rw[hg])]
 left
 unfold Oper.wp
 rw[hr.eval,hx,Oper.upon_value]
 exact h _ (hr.put o.dst v) (by cases o.dst <;> rfl)
theorem ze {P:Program}{fn:Func}{K:Value->World->Prop}{bid:Nat}{e:Exit}{a:Act}{w:World}(h:VV P fn K e a w):Exit.inBlock bid (VV P fn K) e a w:=by
 cases e <;> first|exact h|exact h.elim
theorem Hc {P:Program}(hm:P.follows .mixedOrders=true){g:FuncId}{fn:Func}{id id3 id5 bid:Nat}{ops ops3 ops5:Array Oper}{e3 e5:Operand}{r4 c6 c7:Code}{o o3 o5 o6 o7:Oper}{d:Tmp}{c:Call}(hf:P.funcs[g]? =some fn)
   (hb:fn.body=some (.seq (.region id ops false) (.block bid (.seq (.region id3 ops3 false) (.cond e3 r4 (.seq (.region id5 ops5 false) (.cond e5 c6 c7)))))))
   (ho:ops.toList=[o]) (g1:o.guard=none) (d1:o.dst=some d) (p1:o.op=.call c) (hc:c.callee=.builtin .recover) (hca:c.args= #[])
   (ho3:ops3.toList=[o3]) (g3:o3.guard=none) (ho5:ops5.toList=[o5,o6,o7]) (g5:o5.guard=none) (g6:o6.guard=none) (g7:o7.guard=none)
   (ann:Ann) (args:List Value) (hn:args.length <=fn.ntmps) {u u':FrameMode} {rv:Value} (hrec:Rec u rv u') {w:World} {K:Value->World->Prop} {fr0 fr1 fr2 fr3 fr4:Fr} {v5 v6 v7:Value}
   (f0:jf fn.ntmps (kj 0 args) (some d) rv=fr0) (x3:(execOp (evF fr0) o3).run P w=.ok (.value (.bool false)) w) (f1:jf fn.ntmps fr0 o3.dst (.bool false)=fr1) (y3:evF fr1 e3=.bool false)
   (x5:(execOp (evF fr1) o5).run P w=.ok (.value v5) w) (f2:jf fn.ntmps fr1 o5.dst v5=fr2) (x6:(execOp (evF fr2) o6).run P w=.ok (.value v6) w) (f3:jf fn.ntmps fr2 o6.dst v6=fr3) (x7:(execOp (evF fr3) o7).run P w=.ok (.value v7) w) (f4:jf fn.ntmps fr3 o7.dst v7=fr4) (y5:evF fr4 e5=.bool true)
   (V:Prop) (he:W P fn.ntmps ann 0 c6 (Pa P fn K (PG P fn K)) fr4 w=V) (h:V):
   CallsD P g args.toArray u w λe u'' w'=>(∃v,e=.returned v/\K v w')/\u''=u':=by
 refine Bt hf hb ho g1 d1 p1 hc hca args hn hrec λa hr hd=>?_
 rw[f0]at hr
 refine wp_block (wp_seq (wp_region_list ?_))
 rw[ho3]
 refine IX hr g3 x3 λa1 hr1 hd1=>?_
 rw[f1]at hr1
 unfold wpList
 refine wp_cond_false (by rw[hr1.eval];exact y3) (wp_seq (wp_region_list ?_))
 rw[ho5]
 refine IX hr1 g5 x5 λa2 hr2 hd2=>?_
 rw[f2]at hr2
 refine IX hr2 g6 x6 λa3 hr3 hd3=>?_
 rw[f3]at hr3
 refine IX hr3 g7 x7 λa4 hr4 hd4=>?_
 rw[f4]at hr4
 unfold wpList
 refine wp_cond_true (by rw[hr4.eval];exact y5) ?_
 exact Lv hm _ ann c6 0 _ _ _ _ hr4 (he▸h) _ λe fr5 a5 w5 hr5 hg5 h5=>ze (MR hr5 (hg5.defers.trans (hd4.trans (hd3.trans (hd2.trans (hd1.trans hd))))) h5)
theorem Jr {P:Program}(hm:P.follows .mixedOrders=true){g:FuncId}{fn:Func}{id id3 bid:Nat}{ops ops3:Array Oper}{e3:Operand}{r4 c5:Code}{o o3:Oper}{d:Tmp}{c:Call}(hf:P.funcs[g]? =some fn)
   (hb:fn.body=some (.seq (.region id ops false) (.block bid (.seq (.region id3 ops3 false) (.cond e3 r4 c5)))))
   (ho:ops.toList=[o]) (g1:o.guard=none) (d1:o.dst=some d) (p1:o.op=.call c) (hc:c.callee=.builtin .recover) (hca:c.args= #[])
   (ho3:ops3.toList=[o3]) (g3:o3.guard=none)
   (ann:Ann) (args:List Value) (hn:args.length <=fn.ntmps) {u u':FrameMode} {rv:Value} (hrec:Rec u rv u') {w:World} {K:Value->World->Prop} {fr0 fr1:Fr}
   (f0:jf fn.ntmps (kj 0 args) (some d) rv=fr0) (x3:(execOp (evF fr0) o3).run P w=.ok (.value (.bool true)) w) (f1:jf fn.ntmps fr0 o3.dst (.bool true)=fr1) (y3:evF fr1 e3=.bool true)
   (V:Prop) (he:W P fn.ntmps ann 0 r4 (Pa P fn K (PG P fn K)) fr1 w=V) (h:V):
   CallsD P g args.toArray u w λe u'' w'=>(∃v,e=.returned v/\K v w')/\u''=u':=by
 refine Bt hf hb ho g1 d1 p1 hc hca args hn hrec λa hr hd=>?_
 rw[f0]at hr
 refine wp_block (wp_seq (wp_region_list ?_))
 rw[ho3]
 refine IX hr g3 x3 λa1 hr1 hd1=>?_
 rw[f1]at hr1
 unfold wpList
 refine wp_cond_true (by rw[hr1.eval];exact y3) ?_
 exact Lv hm _ ann r4 0 _ _ _ _ hr1 (he▸h) _ λe fr5 a5 w5 hr5 hg5 h5=>ze (MR hr5 (hg5.defers.trans (hd1.trans hd)) h5)
def lW (a:lU)(b:World)(c:VP)(d:List Value->List PanicEntry->World->Prop):Prop:=nA b (.cells #[.slice none 0 0] au) λe f=>nA f (.cells #[.slice none 0 0] aC) λg h=>nA h (.cells #[vI 0,vI 0,vI 0] aA) λi j=>ae (decide (((List.length a:Nat):Int)>(20000:Int))) (∃k,Sv au (vA e 0) (.slice none 0 0) j k/\∃l,Sv aC (vA g 0) (.slice none 0 0) k l/\∃m,Sv aA (vA i 0) (.agg #[vI 54,vI 1,vI 1]) l m/\∃n o p,Rv au (vA e 0) m (.slice n o p)/\∃q r s,Rv aC (vA g 0) m (.slice q r s)/\∃t u v,Rv aA (vA i 0) m (.agg #[vI t,vI u,vI v])/\c (.tuple #[.slice n o p,.slice q r s,.agg #[vI t,vI u,vI v]]) m) (nA j (.cells #[.slice none 0 0,.slice none 0 0,vI 0,.slice none 0 0] aM) λk l=>uL jL #[vS a] l λm n o p=>∃q:Nat->FP [.one (.int .i64)],(∃r,q r (0:Int) p)/\∀r s,aN 22 (∀t,q r s t->ae (decide (s<((n:Nat):Int))) ((bx s ((n:Nat):Int)/\Option.isSome m=true)/\∃u,Ld ak (am m s 1) t (vS u)/\∃v:FP [.one .bool],(ae (!(u==[])) (uB cJ #[vS u,vS [35]] t λw x=>v (!w) x) (v false t))/\∀w,aN 6 (∀x,v w x->ae w (true/\true/\∃y,Sv aP (vA k 2) (vI (i64.wrap (s+(1:Int)))) x y/\Cf gW #[.pointer (vA k 0),vS u] y λz A=>(z=rT #[]/\∃B:Nat,B<r/\q B (i64.wrap (s+(1:Int))) A)\/∃B,z=.panicked B/\d [.pointer (vA e 0),.pointer (vA g 0),.pointer (vA i 0)] B A) (∃y:Nat,y<r/\q y (i64.wrap (s+(1:Int))) x))) (true/\true/\true/\true/\(∃u v w,Ld au (vA k 0) (World.drew t) (.slice u v w)/\(∃x y z,Ld aC (vA k 1) (World.drew t) (.slice x y z)/\∃A,Sv au (vA e 0) (.slice u v w) (World.drew t) A/\∃B,Sv aC (vA g 0) (.slice x y z) A B/\∃C,Sv aA (vA i 0) (.agg #[vI 0,vI 0,vI 0]) B C/\∃D E F,Rv au (vA e 0) C (.slice D E F)/\∃G H I,Rv aC (vA g 0) C (.slice G H I)/\∃J K L,Rv aA (vA i 0) C (.agg #[vI J,vI K,vI L])/\c (.tuple #[.slice D E F,.slice G H I,.agg #[vI J,vI K,vI L]]) C)/\∃x,Sv au (vA e 0) (.slice u v w) (World.drew t) x/\∃y z A,Ld aC (vA k 1) x (.slice y z A)/\∃B,Sv aC (vA g 0) (.slice y z A) x B/\∃C,Sv aA (vA i 0) (.agg #[vI 0,vI 0,vI 0]) B C/\∃D E F,Rv au (vA e 0) C (.slice D E F)/\∃G H I,Rv aC (vA g 0) C (.slice G H I)/\∃J K L,Rv aA (vA i 0) C (.agg #[vI J,vI K,vI L])/\c (.tuple #[.slice D E F,.slice G H I,.agg #[vI J,vI K,vI L]]) C)/\∃u v w,Ld aC (vA k 1) (World.drew t) (.slice u v w)/\∃x y z,Ld au (vA k 0) (World.drew t) (.slice x y z)/\∃A,Sv au (vA e 0) (.slice x y z) (World.drew t) A/\∃B,Sv aC (vA g 0) (.slice u v w) A B/\∃C,Sv aA (vA i 0) (.agg #[vI 0,vI 0,vI 0]) B C/\∃D E F,Rv au (vA e 0) C (.slice D E F)/\∃G H I,Rv aC (vA g 0) C (.slice G H I)/\∃J K L,Rv aA (vA i 0) C (.agg #[vI J,vI K,vI L])/\c (.tuple #[.slice D E F,.slice G H I,.agg #[vI J,vI K,vI L]]) C)))
abbrev kz:List Nat:=[2,3,4]
def kC (a:VP)(b:Fr)(c:World):Prop:=∃d e f,(aV au (ij b 2)).run prog c=.ok (.slice d e f) c/\∃g h i,(aV aC (ij b 3)).run prog c=.ok (.slice g h i) c/\∃j k l,(aV aA (ij b 4)).run prog c=.ok (.agg #[vI j,vI k,vI l]) c/\a (.tuple #[.slice d e f,.slice g h i,.agg #[vI j,vI k,vI l]]) c
theorem yC (s0:List UInt8){w:World}{K:Value->World->Prop}{X:List Value->List PanicEntry->World->Prop}(h:lW s0 w K X)
   (hi:∀(cap:Array Value) (w:World),(invoke (.fn (.func dv) cap) #[]).run prog w=.ok (.enter dv cap) w)
   (idle:∀(vs:List Value) (w:World),vs.length=kz.length->CallsD prog dv vs.toArray .returning w λe u' w'=>(∃v,e=.returned v)/\u'=.returning/\w'=w)
   (caught:∀(vs:List Value) (ch:List PanicEntry) (w:World),vs.length=kz.length->X vs ch w->CallsD prog dv vs.toArray (.panicking ch) w λe u' w'=>(∃v,e=.returned v)/\settle u'=.returning/\∀fr:Fr,kz.map (ij fr)=vs->kC K fr w'):
   Cf mX #[vS s0] w (Ret K):=
 Qc (c0:=kc (aq Tryz.f34)) (c1:=kc (seqB (aq Tryz.f34))) (rest:=seqB (seqB (seqB (aq Tryz.f34)))) (id:=Ts (kc (seqB (seqB (aq Tryz.f34))))) (ops:=opsOf (kc (seqB (seqB (aq Tryz.f34))))) (o1:=(opsOf (kc (seqB (seqB (aq Tryz.f34)))))[0]!) (o2:=(opsOf (kc (seqB (seqB (aq Tryz.f34)))))[1]!) (d:=12) (g:=dv) (l:=[2,3,4]) (c:=Nn ((opsOf (kc (seqB (seqB (aq Tryz.f34)))))[1]!).op) (by kernel_rfl) func34 (by kernel_rfl) (by kernel_rfl) (by kernel_rfl) (by kernel_rfl) (by kernel_rfl) (by kernel_rfl) (by kernel_rfl) (by kernel_rfl) (by kernel_rfl) (by kernel_rfl) (of_decide_eq_true (by kernel_rfl)) (of_decide_eq_true (by kernel_rfl))
   [(18,[(18,.one (.int .i64))]),(29,[(29,.one (.bool))]),(5000034,[])] [vS s0] (of_decide_eq_true (by kernel_rfl)) (lW s0 w K X) (by kernel_rfl) h hi idle (kC K) (λfr w=>(by kernel_rfl)) caught
def j6 (a b c:Value)(d:World)(e:VP):Prop:=e (.tuple #[]) d
theorem pV (v0:Value)(v1:Value)(v2:Value){u u':FrameMode}(hrec:Rec u .nilIface u'){w:World}{K:Value->World->Prop}(h:j6 v0 v1 v2 w K):
   CallsD prog dv #[v0,v1,v2] u w λe u'' w'=>(∃v,e=.returned v/\K v w')/\u''=u':=
 Jr (id:=Ts (kc (aq Tryz.f79))) (ops:=opsOf (kc (aq Tryz.f79))) (o:=(opsOf (kc (aq Tryz.f79)))[0]!) (d:=6) (c:=Nn ((opsOf (kc (aq Tryz.f79)))[0]!).op) (bid:=U6 (seqB (aq Tryz.f79))) (id3:=Ts (kc (ii (seqB (aq Tryz.f79))))) (ops3:=opsOf (kc (ii (seqB (aq Tryz.f79))))) (o3:=(opsOf (kc (ii (seqB (aq Tryz.f79)))))[0]!) (e3:=Wz (seqB (ii (seqB (aq Tryz.f79))))) (r4:=WE (seqB (ii (seqB (aq Tryz.f79))))) (c5:=PF (seqB (ii (seqB (aq Tryz.f79))))) (by kernel_rfl) func79 (by kernel_rfl) (by kernel_rfl) (by kernel_rfl) (by kernel_rfl) (by kernel_rfl) (by kernel_rfl) (by kernel_rfl) (by kernel_rfl) (by kernel_rfl)
   [] [v0,v1,v2] (of_decide_eq_true (by kernel_rfl)) hrec rfl (by kernel_rfl) rfl (by kernel_rfl) (j6 v0 v1 v2 w K) (by kernel_rfl) h
def eE (a b c:Option Addr)(d e f:Int)(g:World)(h:VP):Prop:=nA g (.cells #[vI 0,vI 0,vI 0] aA) λi j=>∃k,Sv aA (vA i 0) (.agg #[vI d,vI e,vI f]) j k/\(∃l m n,Ld aA (vA i 0) (World.drew k) (.agg #[vI l,vI m,vI n])/\∃o,Sv au a (.slice none 0 0) (World.drew k) o/\∃p,Sv aC b (.slice none 0 0) o p/\∃q,Sv aA c (.agg #[vI l,vI m,vI n]) p q/\h (.tuple #[]) q)/\∃l,Sv au a (.slice none 0 0) (World.drew k) l/\(∃m n o,Ld aA (vA i 0) l (.agg #[vI m,vI n,vI o])/\∃p,Sv aC b (.slice none 0 0) l p/\∃q,Sv aA c (.agg #[vI m,vI n,vI o]) p q/\h (.tuple #[]) q)/\∃m,Sv aC b (.slice none 0 0) l m/\∃n o p,Ld aA (vA i 0) m (.agg #[vI n,vI o,vI p])/\∃q,Sv aA c (.agg #[vI n,vI o,vI p]) m q/\h (.tuple #[]) q
theorem lv (p0:Option Addr)(p1:Option Addr)(p2:Option Addr)(nr_0:Int)(nr_1:Int)(nr_2:Int){u u':FrameMode}(hrec:Rec u (.iface aA (.agg #[vI nr_0,vI nr_1,vI nr_2])) u'){w:World}{K:Value->World->Prop}(h:eE p0 p1 p2 nr_0 nr_1 nr_2 w K):
   CallsD prog dv #[.pointer p0,.pointer p1,.pointer p2] u w λe u'' w'=>(∃v,e=.returned v/\K v w')/\u''=u':=
 Hc (id:=Ts (kc (aq Tryz.f79))) (ops:=opsOf (kc (aq Tryz.f79))) (o:=(opsOf (kc (aq Tryz.f79)))[0]!) (d:=6) (c:=Nn ((opsOf (kc (aq Tryz.f79)))[0]!).op) (bid:=U6 (seqB (aq Tryz.f79))) (id3:=Ts (kc (ii (seqB (aq Tryz.f79))))) (ops3:=opsOf (kc (ii (seqB (aq Tryz.f79))))) (o3:=(opsOf (kc (ii (seqB (aq Tryz.f79)))))[0]!) (e3:=Wz (seqB (ii (seqB (aq Tryz.f79))))) (r4:=WE (seqB (ii (seqB (aq Tryz.f79))))) (id5:=Ts (kc (PF (seqB (ii (seqB (aq Tryz.f79))))))) (ops5:=opsOf (kc (PF (seqB (ii (seqB (aq Tryz.f79))))))) (e5:=Wz (seqB (PF (seqB (ii (seqB (aq Tryz.f79))))))) (c6:=WE (seqB (PF (seqB (ii (seqB (aq Tryz.f79))))))) (c7:=PF (seqB (PF (seqB (ii (seqB (aq Tryz.f79))))))) (o5:=(opsOf (kc (PF (seqB (ii (seqB (aq Tryz.f79)))))))[0]!) (o6:=(opsOf (kc (PF (seqB (ii (seqB (aq Tryz.f79)))))))[1]!) (o7:=(opsOf (kc (PF (seqB (ii (seqB (aq Tryz.f79)))))))[2]!) (v5:=.tuple #[.agg #[vI nr_0,vI nr_1,vI nr_2],.bool true]) (v6:=.bool true) (v7:=.agg #[vI nr_0,vI nr_1,vI nr_2]) (by kernel_rfl) func79 (by kernel_rfl) (by kernel_rfl) (by kernel_rfl) (by kernel_rfl) (by kernel_rfl) (by kernel_rfl) (by kernel_rfl) (by kernel_rfl) (by kernel_rfl) (by kernel_rfl) (by kernel_rfl) (by kernel_rfl) (by kernel_rfl)
   [] [.pointer p0,.pointer p1,.pointer p2] (of_decide_eq_true (by kernel_rfl)) hrec rfl (by kernel_rfl) rfl (by kernel_rfl) (by kernel_rfl) rfl (by kernel_rfl) rfl (by kernel_rfl) rfl (by kernel_rfl) (eE p0 p1 p2 nr_0 nr_1 nr_2 w K) (by kernel_rfl) h
theorem Pf {i:Nat}{st:List Tpl×List Cho}{x:List UInt8}(h:x=[]\/x.head?=some 35):PK i st x=.inl st:=by unfold PK;rw[if_pos h]
theorem Pe {i:Nat}{st:List Tpl×List Cho}{x:List UInt8}(h: ¬ (x=[]\/x.head?=some 35)):PK i st x=match rdV (dz 32 [] x) ((i:Int)+1) st with
   | .inl st'=>.inl st'
   | .inr (e,k)=>.inr (e,(AH (dz 32 [] x) k:Nat)):=by unfold PK;rw[if_neg h];rfl
theorem Ns:∀(i:Nat) (L vs:List (List UInt8)) (e:Int) (k:Nat),I1 i L vs=.inr (e,k)->e≠0
 | i,[],vs,e,k,h=>by cases h
 | i,x::r,vs,e,k,h=>by
   unfold I1 at h
   split at h
   · cases h;decide
   split at h
   · cases h;decide
   split at h
   · cases h;decide
   exact Ns _ _ _ e k h
theorem SY {L:List (List UInt8)}{cs:List Cho}{e:Int}{k:Nat}(h:Jt L cs=.inr (e,k)):e≠0:=by
 unfold Jt at h
 split at h
 · cases h;decide
 split at h
 · cases h;decide
 split at h
 · rename_i e' h'
   cases h
   exact Ns _ _ _ _ _ h'
 split at h
 · cases h;decide
 · cases h
theorem Us {L:List (List UInt8)}{ln:Int}{ts:List Tpl}{cs:List Cho}{e:Int}{k:Nat}(h:GI L ln ts cs=.inr (e,k)):e≠0:=by
 unfold GI at h
 split at h
 · cases h;decide
 split at h
 · cases h;decide
 split at h
 · rename_i h1;cases h;exact h1
 split at h
 · cases h;decide
 split at h
 · cases h;decide
 split at h
 · cases h;decide
 split at h
 · cases h;decide
 split at h
 · cases h;decide
 · cases h
theorem VE {L:List (List UInt8)}{ln:Int}{st:List Tpl×List Cho}{e:Int}{k:Nat}(h:rdV L ln st=.inr (e,k)):e≠0:=by
 unfold rdV at h
 split at h
 · cases h;decide
 split at h
 · split at h
   · rename_i e' h1;cases h;exact SY h1
   · cases h
 split at h
 · split at h
   · rename_i e' h1;cases h;exact Us h1
   · cases h
 · cases h;decide
def M3 (s:List UInt8)(w:World)(v:Value)(w':World):Prop:=bW w w'/\match xf s with
 | .inr f=>v=.tuple #[.slice none 0 0,.slice none 0 0,Ez f]/\f.1≠0
 | .inl (ts,cs)=>RdI (ts,cs)/\∃a n c b m e S,v=.tuple #[.slice a n c,.slice b m e,Ez (0,0,0)]/\Ow vW ao w' NoB a n c ts/\(ptD aG S b m e cs).P w'/\bg w.heap.size a/\bg w.heap.size b/\∀g∈S,w.heap.size <=g
def US (k2 k3 k4:Nat)(v2 v3:Value)(f:Flt):List Pt:=[ptA k2 au [v2],ptA k3 aC [v3],ptA k4 aA (xW f)]
theorem F9 {w wd:World}{k2 k3 k4:Nat}{v2 v3:Value}{f0:Flt}(h:Sp w (US k2 k3 k4 v2 v3 f0) wd)(f:Flt)(a:Option Addr)(n c:Nat)(b:Option Addr)(m e:Nat):
   ∃wA wB wC,(Instr.storeAt au (.pointer (some ⟨k2,0,none⟩)) (.slice a n c)).run prog wd=.ok () wA/\(Instr.storeAt aC (.pointer (some ⟨k3,0,none⟩)) (.slice b m e)).run prog wA=.ok () wB/\(Instr.storeAt aA (.pointer (some ⟨k4,0,none⟩)) (Ez f)).run prog wB=.ok () wC/\
     Sp w (US k2 k3 k4 (.slice a n c) (.slice b m e) f) wC/\Chg [k2,k3,k4] wd wA/\Chg [k2,k3,k4] wd wB/\Chg [k2,k3,k4] wd wC:=by
 obtain⟨wA,qA,hA,gA⟩:=h.put j2 0 rfl (i:=0) (v:=.slice a n c) rfl rfl (by show 0<1;decide)
 obtain⟨wB,qB,hB,gB⟩:=hA.put lV 1 rfl (i:=0) (v:=.slice b m e) rfl rfl (by show 0<1;decide)
 have A4:ai wB k4 aA (xW f0):=hB.at 2 rfl
 obtain⟨wC,qC,AC,gC⟩:=gM.store0 (P:=prog) (cs:=xW f) rfl (BQ _) A4 rfl
 have hC:=hB.upd 2 rfl (Chg.grown gC List.mem_cons_self) (p':=ptA k4 aA (xW f)) AC λb hb=>.inl hb
 have cA:Chg [k2,k3,k4] wd wA:=Chg.grown gA (by simp)
 have cB:Chg [k2,k3,k4] wd wB:=cA.trans (Chg.grown gB (by simp))
 exact⟨wA,wB,wC,qA,qB,qC,hC,cA,cB,cB.trans (Chg.grown gC (by simp))⟩
theorem Ga {w W:World}{k2 k3 k4:Nat}{a:Option Addr}{n c:Nat}{b:Option Addr}{m e:Nat}{f:Flt}(h:Sp w (US k2 k3 k4 (.slice a n c) (.slice b m e) f) W):
   (aV au (.pointer (some ⟨k2,0,none⟩))).run prog W=.ok (.slice a n c) W/\(aV aC (.pointer (some ⟨k3,0,none⟩))).run prog W=.ok (.slice b m e) W/\(aV aA (.pointer (some ⟨k4,0,none⟩))).run prog W=.ok (Ez f) W:=by
 have A2:ai W k2 au [.slice a n c]:=h.at 0 rfl
 have A3:ai W k3 aC [.slice b m e]:=h.at 1 rfl
 have A4:ai W k4 aA (xW f):=h.at 2 rfl
 exact⟨ai.res (A2.load1 bT rfl rfl),ai.res (A3.load1 bQ rfl rfl),ai.res (gM.load0 A4 rfl)⟩
theorem AB (s:List UInt8)(w:World)(he:Env w):Cf mX #[vS s] w (Ret (M3 s w)):=by
 refine yC s (X:=λvs ch W=>∃(f:Flt) (k2 k3 k4:Nat) (v2 v3:Value),xf s=.inr f/\f.1≠0/\vs=[.pointer (some ⟨k2,0,none⟩),.pointer (some ⟨k3,0,none⟩),.pointer (some ⟨k4,0,none⟩)]/\ch=PH f/\Sp w (US k2 k3 k4 v2 v3 (0,0,0)) W) ?_ (λcap w=>by simp[go_sem]) (λvs W hl=>?_) (λvs ch W hl=>?_)
 rotate_left
 · match vs,hl with
   | [v0,v1,v2],_=>
     refine(pV v0 v1 v2 Rec.nil (K:=λv w'=>w'=W) rfl).mono ?_
     rintro _ _ _ ⟨⟨v,rfl,rfl⟩,rfl⟩
     exact⟨⟨v,rfl⟩,rfl,rfl⟩
 · rintro⟨f,k2,k3,k4,v2,v3,hE,hne,rfl,rfl,hs⟩
   refine(lv _ _ _ f.1 f.2.1 f.2.2 (Rec.got _ []) (K:=λv w'=>Sp w (US k2 k3 k4 (.slice none 0 0) (.slice none 0 0) f) w') ?_).mono ?_
   · unfold eE
     refine gM.new (zs:=xW (0,0,0)) (cs:=xW f) rfl rfl (BQ _) W λk5 w5 hk5 A5 b5=>?_
     have hd:=cF w5
     generalize World.drew w5=wd at*
     have bdq:=ab b5 hd b5.size
     have hsd:=hs.below bdq
     have A5:=A5.below hd
     obtain⟨wA,wB,wC,qA,qB,qC,hC,cA,cB,cC⟩:=F9 hsd f none 0 0 none 0 0
     have k5n:k5 ∉ [k2,k3,k4]:=λhm=>by
       have:=(hs.at 0 rfl:ai W k2 au [v2]).lt
       have:=(hs.at 1 rfl:ai W k3 aC [v3]).lt
       have:=(hs.at 2 rfl:ai W k4 aA (xW (0,0,0))).lt
       simp at hm
       omega
     have l0:=gM.load0 (P:=prog) A5 rfl
     have lA:=gM.load0 (P:=prog) (cA.arr A5 k5n) rfl
     have lB:=gM.load0 (P:=prog) (cB.arr A5 k5n) rfl
     exact⟨⟨f.1,f.2.1,f.2.2,l0,wA,qA,wB,qB,wC,qC,hC⟩,wA,qA,⟨f.1,f.2.1,f.2.2,lA,wB,qB,wC,qC,hC⟩,wB,qB,f.1,f.2.1,f.2.2,lB,wC,qC,hC⟩
   · rintro _ _ w' ⟨⟨v,rfl,h⟩,rfl⟩
     refine⟨⟨v,rfl⟩,rfl,λfr hfr=>?_⟩
     have h0:ij fr 2=.pointer (some ⟨k2,0,none⟩):=(List.cons.inj hfr).1
     have h1:ij fr 3=.pointer (some ⟨k3,0,none⟩):=(List.cons.inj (List.cons.inj hfr).2).1
     have h2:ij fr 4=.pointer (some ⟨k4,0,none⟩):=(List.cons.inj (List.cons.inj (List.cons.inj hfr).2).2).1
     obtain⟨r2,r3,r4⟩:=Ga h
     unfold kC
     rw[h0,h1,h2]
     exact⟨_,_,_,r2,_,_,_,r3,f.1,f.2.1,f.2.2,r4,h.bw,by rw[hE];exact⟨rfl,hne⟩⟩
 unfold lW
 intro k2 w2 hk2 hw2 k3 w3 hk3 hw3 k4 w4 hk4 hw4
 have b2:=(hw2▸ah w _:bW w w2)
 have b3:=(hw3▸ah w2 _:bW w2 w3)
 have b4:=(hw4▸ah w3 _:bW w3 w4)
 have s2:=b2.size
 have s3:=b3.size
 have h4:Sp w (US k2 k3 k4 (.slice none 0 0) (.slice none 0 0) (0,0,0)) w4:=by
   have h2:=(Sp.nil w).add b2 (p:=ptA k2 au [.slice none 0 0]) (ai.new hk2 hw2) λb hb=>by rw[List.mem_singleton.1 hb];omega
   have h3:=h2.add b3 (p:=ptA k3 aC [.slice none 0 0]) (ai.new hk3 hw3) λb hb=>by rw[List.mem_singleton.1 hb];omega
   have h4:=h3.add b4 (p:=ptA k4 aA (xW (0,0,0))) (ai.new hk4 hw4) λb hb=>by rw[List.mem_singleton.1 hb];omega
   exact h4.sub (λi=>2-i) (λi q hq=>match i,hq with|0,hq=>hq|1,hq=>hq|2,hq=>hq) (λi j hi hj e=>by
     have hi:i<3:=hi
     have hj:j<3:=hj
     omega)
 have lt2:=(h4.at 0 rfl:ai w4 k2 au [.slice none 0 0]).lt
 have lt3:=(h4.at 1 rfl:ai w4 k3 aC [.slice none 0 0]).lt
 have lt4:=(h4.at 2 rfl:ai w4 k4 aA (xW (0,0,0))).lt
 refine ae.of (λc1=>?_) (λc1=>?_)
 · obtain⟨wA,wB,wC,qA,qB,qC,hC,_,_,_⟩:=F9 h4 (54,1,1) none 0 0 none 0 0
   obtain⟨r2,r3,r4⟩:=Ga hC
   have e:xf s=.inr (54,1,1):=xV (by have:=of_decide_eq_true c1;omega)
   exact⟨wA,qA,wB,qB,wC,qC,_,_,_,r2,_,_,_,r3,_,_,_,r4,hC.bw,by rw[e];exact⟨rfl,by decide⟩⟩
 have c1: ¬ 20000<s.length:=by have:=of_decide_eq_false c1;omega
 intro k14 w14 hk14 hw14
 have b14:=(hw14▸ah w4 _:bW w4 w14)
 have E4:=he.step (h4.bw)
 refine aB (pe s (by omega) w14 (E4.step b14)) ?_
 rintro _ w16 ⟨b,nb,cb,rfl,ob,fb,b16⟩
 have hLn:=Ck s
 have hMn:=yh s
 have hV:xf s=rE PK 0 ((nk s).drop 0) ([],[]):=vo c1
 generalize nk s=M at*
 have hnb:=ob.len
 subst hnb
 let r0:Rdr:=⟨none,0,0,none,0,0,0,none,0,0⟩
 have hs0:Sp w4 (RdP k14 r0 [] [] [] [] [ptO tS ak b M.length cb M]) w16:=by
   have h1:=(Sp.nil w4).add b14 (p:=ptA k14 aM r0.cells) (ai.new hk14 hw14) λg hg=>by rw[List.mem_singleton.1 hg];omega
   have h2:=h1.add b16 (p:=ptO tS ak b M.length cb M) ob λg hg=>fb g (fU.1 hg)
   have h3:=h2.add (Below.refl _ _) (p:=ptO tS ak none 0 0 []) (Ow.nil _ _ _ _) λg hg=>by cases hg
   have h4:=h3.add (Below.refl _ _) (p:=ptD aG [] none 0 0 []) ⟨Ow.nil _ _ _ _,λg hg=>(by cases hg),λg hg=>(by cases hg)⟩ λg hg=>by cases hg
   have h5:=h4.add (Below.refl _ _) (p:=ptO vW ao none 0 0 []) (Ow.nil _ _ _ _) λg hg=>by cases hg
   exact h5.sub (λi=>(i+4)%5) (λi q hq=>match i,hq with|0,hq=>hq|1,hq=>hq|2,hq=>hq|3,hq=>hq|4,hq=>hq) (λi j hi hj e=>by
     have hi:i<5:=hi
     have hj:j<5:=hj
     omega)
 refine⟨_,_,_,rfl,λm n18 W=>∃(j:Nat) (r:Rdr) (ts:List Tpl) (cs:List Cho) (L:List (List UInt8)) (S:List Nat),n18=(j:Int)/\m=M.length-j/\j <=M.length/\RdI (ts,cs)/\LW L/\xf s=rE PK j (M.drop j) (ts,cs)/\Sp w4 (RdP k14 r ts cs L S [ptO tS ak b M.length cb M]) W,
   ⟨_,0,r0,[],[],[],[],rfl,rfl,Nat.zero_le _,⟨Nat.zero_le _,MQ.nil,λt ht=>by cases ht⟩,⟨Nat.zero_le _,λx hx=>by cases hx⟩,hV,hs0⟩,λm n18=>aN.of ?_ _⟩
 rintro wl ⟨j,r,ts,cs,L,S,rfl,rfl,hj,hI,hL,hQ,hs⟩
 refine ae.of (λc2=>?_) (λc2=>?_) <;> simp only[dTx,dFx]at c2
 · have hjl:j<M.length:=by omega
   have ew:i64.wrap ((j:Int)+1)=(j:Int)+1:=wrap_i64 (by omega) (by omega)
   have hxl:=hLn _ (List.getElem_mem hjl)
   have oM:Ow tS ak wl NoB b M.length cb M:=hs.at 4 rfl
   refine⟨⟨⟨by omega,c2⟩,oM.all.isSome hjl⟩,M[j],oM.all.text aF hjl,?_⟩
   rw[ew]
   generalize hx:M[j]=x at*
   refine nK (w:=wl) (decide (¬ (x=[]\/x.head?=some 35))) (ae.of (λh5=>aB (Ib x [35] wl) ?_) (λh5=>⟨rfl,?_⟩)) (ae.of (λh5=>?_) (λh5=>?_))
   · rintro _ _ ⟨rfl,rfl⟩
     have h5:x≠[]:=by simpa using h5
     refine⟨_,rfl,rfl,?_⟩
     rw[(tZ x 35).1]
     by_cases h6:x.head?=some 35 <;> simp[h5,h6]
   · have h5:x=[]:=by simpa using h5
     simp[h5]
   · have h5:=of_decide_eq_true h5
     obtain⟨wx,qx,hx2,_⟩:=hs.put fV 0 rfl (i:=2) (v:=vI ((j:Int)+1)) rfl rfl (by show 2<4;decide)
     have hx2:Sp w4 (RdP k14 { r with ln:=(j:Int)+1 } ts cs L S [ptO tS ak b M.length cb M]) wx:=hx2
     refine⟨rfl,rfl,wx,qx,(Mo hx2 hL hI x (by omega) E4).mono ?_⟩
     have hS:=Pe (i:=j) (st:=(ts,cs)) h5
     rintro _ w37 (⟨_,rfl,rfl,ts',cs',r',L',S',e,hI',hL',er,h37⟩|⟨_,rfl,e,i,hE,rfl,hb⟩)
     · have e:rdV (dz 32 [] x) ((j:Int)+1) (ts,cs)=.inl (ts',cs'):=e
       rw[e]at hS
       exact .inl ⟨rfl,M.length-(j+1),by omega,j+1,r',ts',cs',L',S',by omega,rfl,by omega,hI',hL',by rw[hQ,pI hjl (by rw[hx];exact hS)],h37⟩
     · have hE:rdV (dz 32 [] x) ((j:Int)+1) (ts,cs)=.inr (e,i):=hE
       rw[hE]at hS
       exact .inr ⟨_,rfl,(e,(j:Int)+1,(AH (dz 32 [] x) i:Nat)),k2,k3,k4,_,_,by rw[hQ,BL hjl (by rw[hx];exact hS)],VE hE,rfl,rfl,h4.below hb⟩
   · have h5:x=[]\/x.head?=some 35:=Decidable.byContradiction λh=>of_decide_eq_false h5 h
     exact⟨M.length-(j+1),by omega,j+1,r,ts,cs,L,S,by omega,rfl,by omega,hI,hL,by rw[hQ,pI hjl (by rw[hx];exact Pf h5)],hs⟩
 · have hd:=cF wl
   generalize World.drew wl=wd at*
   have hs:=hs.below hd
   have h4d:=h4.below hs.bw
   have Ak:ai wd k14 aM r.cells:=hs.at 0 rfl
   have oT:Ow vW ao wd NoB r.a r.n r.c ts:=hs.at 1 rfl
   have oC:(ptD aG S r.b r.m r.e cs).P wd:=hs.at 2 rfl
   have lowT:∀g,dV r.a=some g->w4.heap.size <=g:=λg hg=>hs.low _ (List.mem_of_getElem? (i:=1) rfl) g (fU.2 hg)
   have EJ:∀g∈(dV r.b).toList++S,w4.heap.size <=g:=λg hg=>hs.low _ (List.mem_of_getElem? (i:=2) rfl) g hg
   obtain⟨wA,wB,wC,qA,qB,qC,hC,cA,cB,cC⟩:=F9 h4d (0,0,0) r.a r.n r.c r.b r.m r.e
   have kn:∀g,w4.heap.size <=g->g ∉ [k2,k3,k4]:=λg hg hm=>by
     simp at hm
     omega
   have AkA:=cA.arr Ak (kn k14 (by omega))
   obtain⟨r2,r3,r4⟩:=Ga hC
   have b4w:=h4.bw.size
   have post:M3 s w (.tuple #[.slice r.a r.n r.c,.slice r.b r.m r.e,Ez (0,0,0)]) wC:=by
     refine⟨hC.bw,?_⟩
     rw[hQ,BM PK (by omega)]
     refine⟨hI,r.a,r.n,r.c,r.b,r.m,r.e,S,rfl,?_,?_,λg hg=>Nat.le_trans b4w (lowT g hg),λg hg=>Nat.le_trans b4w (EJ g (List.mem_append.2 (.inl (fU.2 hg)))),λg hg=>Nat.le_trans b4w (EJ g (List.mem_append.2 (.inr hg)))⟩
     · exact(ptO vW ao r.a r.n r.c ts).st oT (cC.keep.mono λg hg=>kn g (lowT g (fU.1 hg)))
     · exact(ptD aG S r.b r.m r.e cs).st oC (cC.keep.mono λg hg=>kn g (EJ g hg))
   have lT:=Ak.load1 (P:=prog) bT rfl (i:=0) rfl
   have lC:=Ak.load1 (P:=prog) bQ rfl (i:=1) rfl
   have lCA:=AkA.load1 (P:=prog) bQ rfl (i:=1) rfl
   exact⟨rfl,rfl,rfl,rfl,⟨_,_,_,lT,⟨_,_,_,lC,wA,qA,wB,qB,wC,qC,_,_,_,r2,_,_,_,r3,_,_,_,r4,post⟩,wA,qA,_,_,_,lCA,wB,qB,wC,qC,_,_,_,r2,_,_,_,r3,_,_,_,r4,post⟩,_,_,_,lC,_,_,_,lT,wA,qA,wB,qB,wC,qC,_,_,_,r2,_,_,_,r3,_,_,_,r4,post⟩
structure Pat where
 wild:Bool
 host:Hst
 plain:Bool
 sec:Bool
 pre:List UInt8
def Pat.tail (p:Pat):List Value:=[.bool p.plain,.bool p.sec,vS p.pre]
def Pat.cells (p:Pat):List Value:=.bool p.wild::(p.host.cells++p.tail)
def Pat.v (p:Pat):Value:=.agg p.cells.toArray
def Pat.ok (p:Pat):Prop:=p.host.ok
theorem Pat.len {p:Pat}(o:p.ok):p.cells.length=22:=by unfold Pat.cells;rw[List.length_cons,List.length_append,Hst.len o];rfl
theorem Pat.one (p:Pat):vX p.cells:=aJ rfl (sD (Hst.one _) (aJ rfl (aJ rfl (aJ rfl gX))))
theorem K7 {p:Pat}(o:p.ok){j:Nat}(h:j<18):p.cells[1+j]? =p.host.cells[j]? :=by
 unfold Pat.cells
 rw[Nat.add_comm,List.getElem?_cons_succ,List.getElem?_append_left (by rw[Hst.len o];exact h)]
theorem F6 {p:Pat}(o:p.ok)(j:Nat):p.cells[19+j]? =p.tail[j]? :=by
 unfold Pat.cells
 rw[show 19+j=(18+j)+1 by omega,List.getElem?_cons_succ,List.getElem?_append_right (by rw[Hst.len o];omega),Hst.len o]
 congr 1;omega
def U4 (s p:List UInt8):Bool:=decide (((s.length:Nat):Int) >=((p.length:Nat):Int))&&(s.take p.length==p)
theorem P1 (s p:List UInt8):U4 s p=true ↔ p <+:s:=by
 unfold U4
 rw[Bool.and_eq_true,dTx,beq_iff_eq,List.prefix_iff_eq_take]
 constructor
 · rintro⟨_,h⟩;exact h.symm
 · intro h
   refine⟨?_,h.symm⟩
   have:=congrArg List.length h
   rw[List.length_take]at this
   omega
def J3 (r:Req):Bool:=eQ r.host&&(ug r.path&&(decide (r.cross >=0)&&decide (r.cross <=2)))
def uq (p:Pat)(r:Req):Bool:=U4 r.path p.pre&&((if r.sec=true then p.sec else p.plain)&&(if p.wild=true then om r.host p.host else pK r.host p.host))
def I4:Pat:=⟨false,nJ,false,false,[]⟩
abbrev Pu:List UInt8:=[104,111,115,116]
def VL:List (List UInt8):=[[],[104,116,116,112],[104,116,116,112,115],[98,111,116,104]]
def AV (s:List UInt8):Int:=if s=[]then 0 else if s=[104,116,116,112]then 1 else if s=[104,116,116,112,115]then 2 else if s=[98,111,116,104]then 3 else -1
def MN (a b c:List UInt8):Pat×Int×Nat:=match di (if Lib.hasPrefix a [42,46]=true then a.drop 2 else a)with
 | none=>(I4,31,1)
 | some h=>if Lib.hasPrefix a [42,46]=true/\h.kind≠1 then(I4,31,1)else if AV b<1 then(I4,211,2)else if ug c=false then(I4,43,3)
   else(⟨Lib.hasPrefix a [42,46],h,AV b==1 || AV b==3,AV b==2 || AV b==3,c⟩,0,0)
def Q7 (L:List (List UInt8)):Pat×Int×Nat:=match L with
 | [k,a,b,c]=>if k=Pu then MN a b c else(I4,131,0)
 | _=>(I4,131,0)
def iF (s:List UInt8):Pat×Int×Nat:=if[]∈dz 32 [] s then(I4,131,0)else Q7 (dz 32 [] s)
theorem T4 (a b c:List UInt8):(MN a b c).1.ok:=by
 unfold MN
 split
 · rfl
 · rename_i h hh
   split
   · rfl
   split
   · rfl
   split
   · rfl
   · exact jT hh
theorem K6 (s:List UInt8):(iF s).1.ok:=by
 unfold iF
 split
 · rfl
 unfold Q7
 split
 · split
   · exact T4 _ _ _
   · rfl
 · rfl
def Cw (p q:Pat):Bool:=(p.wild==q.wild)&&(pK p.host q.host&&((p.plain==q.plain)&&((p.sec==q.sec)&&((p.pre==q.pre)&&true))))
def Lm (_:Nat)(out:List Pat)(x:List UInt8):List Pat ⊕ (Int×Int):=
 if x=[]\/x.head?=some 35 then .inl out
 else if(iF x).2.1≠0 then .inr ((iF x).2.1,(AH (dz 32 [] x) (iF x).2.2:Nat))
 else if out.any (Cw (iF x).1)=true then .inr (52,1)
 else if out.length=12 then .inr (53,1)
 else .inl (out++[(iF x).1])
def I8 (s:List UInt8):List Pat ⊕ Flt:=FC Lm [] s
def AY:Ty Pat where
 k:=22
 pos:=by decide
 rep:=λ_ _ vs o=>vs=o.cells/\o.ok
 len:=λh=>by rw[h.1];exact Pat.len h.2
 one:=fun{_ _ _ x} h v hv=>by rw[h.1]at hv;exact Pat.one x v hv
 keep:=λh _=>h
 mono:=λh _=>h
theorem FD:Flat AY:=λ_ _ _ _ _ _ h=>h
def MK (s:List UInt8):Int:=((s.takeWhile JN).length:Nat)+1
def J5 (_:Nat)(out:List Rul)(x:List UInt8):List Rul ⊕ (Int×Int):=
 if(jB x).2.2≠0 then .inr ((jB x).2.2,MK x)
 else if(jB x).2.1=false then .inl out
 else if(jB x).1∈out then .inr (52,MK x)
 else if out.length=200 then .inr (53,MK x)
 else .inl (out++[(jB x).1])
def wS (s:List UInt8):List Rul ⊕ Flt:=FC J5 [] s
structure Pln where
 ps:List Pat
 ts:List Tpl
 cs:List Cho
 rs:List Rul
def jw (h:Hst):List Txt:=if h.kind=1 then aO h else[lq h]
def Pln.labs (p:Pln):List Txt:=p.ps.flatMap (λx=>jw x.host)++p.ts.flatMap λt=>jw t.url.host
def VQ (t:Tpl):Req:=⟨t.url.sec,t.url.host,t.url.path,0⟩
def FB (ps:List Pat)(t:Tpl):Bool:=ps.any λp=>J3 (VQ t)&&uq p (VQ t)
def sE (a b c:List UInt8):Pln ⊕ (Int×Flt):=match I8 a with
 | .inr f=>.inr (1,f)
 | .inl ps=>match wS b with
   | .inr f=>.inr (2,f)
   | .inl rs=>match xf c with
     | .inr f=>.inr (3,f)
     | .inl st=>match st.1.find? λt=> !FB ps t with
       | some t=>.inr (3,231,t.line,1)
       | none=>if 512<(xS (⟨ps,st.1,st.2,rs⟩:Pln).labs).length+1 then .inr (1,53,1,1)else .inl ⟨ps,st.1,st.2,rs⟩
theorem Po (r:List UInt8)(b:Bool):(Sx r b).1.host.name.length <=253:=by
 unfold Sx
 split
 · show([]:List UInt8).length <=253;decide
 · rename_i h hh
   split
   · show([]:List UInt8).length <=253;decide
   · split
     · unfold zV at hh
       split at hh
       · cases hh
       · exact mG hh
     · show([]:List UInt8).length <=253;decide
theorem Pp (s:List UInt8):(I9 s).1.host.name.length <=253:=by
 unfold I9
 split
 · show([]:List UInt8).length <=253;decide
 · exact Po _ _
theorem OP (a b c:List UInt8):(MN a b c).1.host.name.length <=253:=by
 unfold MN
 split
 · show([]:List UInt8).length <=253;decide
 · rename_i h hh
   split
   · show([]:List UInt8).length <=253;decide
   split
   · show([]:List UInt8).length <=253;decide
   split
   · show([]:List UInt8).length <=253;decide
   · exact mG hh
theorem Mi (s:List UInt8):(iF s).1.host.name.length <=253:=by
 unfold iF
 split
 · show([]:List UInt8).length <=253;decide
 unfold Q7
 split
 · split
   · exact OP _ _ _
   · show([]:List UInt8).length <=253;decide
 · show([]:List UInt8).length <=253;decide
def Wn (ps:List Pat):Prop:=ps.length <=12/\∀p∈ps,p.ok/\p.host.name.length <=253
theorem RE {s:List UInt8}{ps:List Pat}(h:I8 s=.inl ps):Wn ps:=by
 refine BN (step:=Lm) Wn (λi s x s' hs h=>?_) (s0:=[]) ⟨by decide,λp hp=>(by cases hp)⟩ h
 unfold Lm at h
 split at h
 · cases h;exact hs
 split at h
 · cases h
 split at h
 · cases h
 split at h
 · cases h
 rename_i h12
 cases h
 refine⟨by have:=hs.1;rw[List.length_append,List.length_singleton];omega,λp hp=>?_⟩
 rcases List.mem_append.1 hp with hp|hp
 · exact hs.2 p hp
 · rw[List.mem_singleton]at hp
   rw[hp];exact⟨K6 x,Mi x⟩
def UK (ts:List Tpl):Prop:=∀t∈ts,t.url.host.name.length <=253
theorem Pg {L:List (List UInt8)}{ln:Int}{ts:List Tpl}{cs:List Cho}{t:Tpl}(e:GI L ln ts cs=.inl t):t.url.host.name.length <=253:=by
 unfold GI at e
 split at e
 · cases e
 split at e
 · cases e
 split at e
 · cases e
 split at e
 · cases e
 split at e
 · cases e
 split at e
 · cases e
 split at e
 · cases e
 split at e
 · cases e
 · cases e;exact Pp _
theorem Rn {L:List (List UInt8)}{ln:Int}{st st':List Tpl×List Cho}(h:UK st.1)(e:rdV L ln st=.inl st'):UK st'.1:=by
 unfold rdV at e
 split at e
 · cases e
 split at e
 · split at e
   · cases e
   · cases e;exact h
 split at e
 · split at e
   · cases e
   · rename_i t ht
     cases e
     intro t' ht'
     rcases List.mem_append.1 ht' with ht'|ht'
     · exact h t' ht'
     · rw[List.mem_singleton]at ht'
       rw[ht'];exact Pg ht
 · cases e
theorem Pd {s:List UInt8}{st:List Tpl×List Cho}(h:xf s=.inl st):UK st.1:=by
 refine BN (step:=PK) (λst=>UK st.1) (λi s x s' hs h=>?_) (s0:=([],[])) (λt ht=>(by cases ht)) h
 unfold PK at h
 split at h
 · cases h;exact hs
 split at h
 · rename_i st' e;cases h;exact Rn hs e
 · cases h
def Xl (rs:List Rul):Prop:=rs.length <=200/\∀r∈rs,r.2.length <=253
theorem Mc (s:List UInt8):(jB s).1.2.length <=253:=by
 unfold jB
 split
 · show([]:List UInt8).length <=253;decide
 · unfold Q4
   split
   · show([]:List UInt8).length <=253;decide
   · rename_i h hh
     split
     · exact mG hh
     · show([]:List UInt8).length <=253;decide
theorem OV {s:List UInt8}{rs:List Rul}(h:wS s=.inl rs):Xl rs:=by
 refine BN (step:=J5) Xl (λi s x s' hs h=>?_) (s0:=[]) ⟨by decide,λp hp=>(by cases hp)⟩ h
 unfold J5 at h
 split at h
 · cases h
 split at h
 · cases h;exact hs
 split at h
 · cases h
 split at h
 · cases h
 rename_i h200
 cases h
 refine⟨by have:=hs.1;rw[List.length_append,List.length_singleton];omega,λp hp=>?_⟩
 rcases List.mem_append.1 hp with hp|hp
 · exact hs.2 p hp
 · rw[List.mem_singleton]at hp
   rw[hp];exact Mc x
def cnt (k:Int):Int:=if k <=35 then k-33 else if k <=63 then k-34 else k-35
def Ui (c:Int):Int:=if c<33\/c>126\/c=35\/c=63 then -1 else cnt c
def uy:Nat->List UInt8
 | 0=>[]
 | n+1=>if n+33=63\/n+33=35 then uy n else uy n++[UInt8.ofNat (n+33)]
def xT:List UInt8:=uy 94
theorem H9:∀n,(uy n).length <=n
 | 0=>by simp[uy]
 | n+1=>by
   have:=H9 n
   unfold uy;split <;> simp <;> omega
theorem CV (w:World):Cf pb #[] w (Ret λv w'=>v=vS xT/\bW w w'):=by
 apply Aw
 refine⟨λm a l c k w'=>∃n:Nat,n <=94/\k=(n:Int)+33/\m=94-n/\Ow tU8 bX w' NoB a l c (uy n)/\bg w.heap.size a/\bW w w',
   ⟨_,0,by omega,by simp,rfl,Ow.nil _ _ _ _,bg.none _,Below.refl _ _⟩,?_⟩
 intro m a l c k
 refine aN.of ?_ _
 rintro w' ⟨n,hn,rfl,rfl,ho,hf,hb⟩
 refine ae.of (λh=>?_) (λh=>?_) <;> simp at h
 · have e1:IntKind.u8.wrap ((n:Int)+33+1)=((n+1:Nat):Int)+33:=by rw[wrap_u8 (by omega) (by omega)];omega
   try dsimp only
   rw[e1]
   refine⟨λb w''=>w''=w'/\b=decide (¬ (n+33=63\/n+33=35)),?_,?_⟩
   · refine ae.of (λh4=>?_) (λh4=>?_) <;> simp at h4
     · refine⟨rfl,?_⟩
       rw[Bool.eq_iff_iff];simp;omega
     · refine⟨rfl,?_⟩
       rw[Bool.eq_iff_iff];simp;omega
   · intro b
     refine aN.of ?_ _
     rintro w2 ⟨rfl,rfl⟩
     refine ae.of (λh4=>?_) (λh4=>?_) <;> simp at h4
     · intro k1 w3 hk1 hw3
       have ho3:Ow tU8 bX w3 NoB a l c (uy n):=ho.below (hw3▸ah _ _)
       have hsrc:Src tU8 w3 NoB (some ⟨k1,0,none⟩) 1 [UInt8.ofNat (n+33)]:=
         Src.new1F FG hk1 hw3 (zl (by rw[vO (by omega)];omega))
       obtain⟨w4,a',n',c',hr,ho4,hg,hfr⟩:=dF (ty:=aY) cg mD (by decide) ho3 (λ_ _ h=>h) (cm:=1) hsrc (by have:=H9 n;simp;omega)
       refine⟨w4,a',n',c',hr,_,?_,n+1,by omega,rfl,rfl,?_,?_,?_⟩
       · omega
       · unfold uy;rw[if_neg (by omega)];exact ho4
       · subst hw3;exact hf.app (by have:=hb.size;simp;omega) hfr
       · subst hw3
         exact(ab hb (ah _ _) hb.size).grown hg (by have:=hb.size;simp;omega) hf
     · refine⟨_,?_,n+1,by omega,rfl,rfl,?_,hf,hb⟩
       · omega
       · unfold uy;rw[if_pos (by omega)];exact ho
 · have:n=94:=by omega
   subst this
   exact⟨_,vL cg aF cH ho.all,rfl,hb⟩
def sym (c:UInt8):Int:=Ui (c.toNat:Nat)
def qK (s:List UInt8):Bool:=s.all λc=>decide (0 <=sym c)
def Is (s:List UInt8):List Int:=if qK s then s.map sym else[]
theorem Tu:∀n,n<256->Lib.indexByte xT (UInt8.ofNat n)=Ui n:=by decide+kernel
theorem Tv (c:UInt8):Lib.indexByte xT c=sym c:=by
 have:=Tu c.toNat (by have:=c.toNat_lt;omega)
 rwa [UInt8.ofNat_toNat]at this
theorem VN (c:UInt8): -1 <=sym c/\sym c <=91:=by
 have:=Em c
 unfold sym Ui cnt
 split <;> (try split) <;> (try split) <;> omega
theorem EV {α:Type}{l:List α}{k:Nat}(h:k<l.length):l.take (k+1)=l.take k++[l[k]]:=by
 rw[List.take_succ_eq_append_getElem h]
theorem QI {s:List UInt8}{k:Nat}(hk:k<s.length)(h:sym s[k]<0):qK s=false:=by
 rw[Bool.eq_false_iff]
 intro hg
 unfold qK at hg
 rw[List.all_eq_true]at hg
 have:=hg s[k] (List.getElem_mem hk)
 simp at this;omega
theorem NY {s:List UInt8}{k:Nat}(hk:k<s.length)(hg:qK (s.take k)=true)(h: ¬ sym s[k]<0):qK (s.take (k+1))=true:=by
 unfold qK at*
 rw[EV hk,List.all_append,hg]
 simp;omega
def Bb (s:List UInt8)(w:World)(v:Value)(w':World):Prop:=
 ∃a n c,v=.tuple #[.slice a n c,.bool (qK s)]/\Ow lS aP w' NoB a n c (Is s)/\bg w.heap.size a/\bW w w'
theorem Nm {s:List UInt8}{w w':World}(hg:qK s=false)(hb:bW w w'):Bb s w (.tuple #[.slice none 0 0,.bool false]) w':=by
 refine⟨none,0,0,by rw[hg],?_,bg.none _,hb⟩
 rw[Is,hg];exact Ow.nil _ _ _ _
theorem LG {s:List UInt8}{w w':World}{a:Option Addr}{n c:Nat}(hg:qK s=true)(ho:Ow lS aP w' NoB a n c (s.map sym))(hf:bg w.heap.size a)(hb:bW w w'):Bb s w (.tuple #[.slice a n c,.bool true]) w':=by
 refine⟨a,n,c,by rw[hg],?_,hf,hb⟩
 rw[Is,hg];exact ho
theorem sU (s:List UInt8)(hs:s.length <=1000000)(w:World):Cf kZ #[vS s] w (Ret (Bb s w)):=by
 apply Av
 refine aB (CV w) ?_
 rintro _ w1 ⟨rfl,hb1⟩
 refine⟨_,rfl,?_⟩
 obtain⟨w2,a2,n2,c2,hr,ho2,hb2,hf2⟩:=mq aF cg cH w1 s (by omega) NoB
 have hn2:=ho2.len
 subst hn2
 have hB2:bW w w2:=ab hb1 hb2 hb1.size
 refine⟨w2,a2,_,c2,hr,?_⟩
 refine⟨λm a l c k w'=>∃n:Nat,n <=s.length/\k=(n:Int)/\m=s.length-n/\qK (s.take n)=true/\Ow lS aP w' NoB a l c ((s.take n).map sym)/\bg w2.heap.size a/\bW w2 w',
   ⟨_,0,by omega,rfl,rfl,rfl,Ow.nil _ _ _ _,bg.none _,Below.refl _ _⟩,?_⟩
 intro m a l c k
 refine aN.of ?_ _
 rintro w' ⟨n,hn,rfl,rfl,hg,ho,hf,hb⟩
 refine ae.of (λh=>?_) (λh=>?_) <;> simp at h
 · have hsl:=(ho2.below hb).all
   refine⟨⟨⟨by omega,by omega⟩,hsl.isSome h⟩,?_⟩
   obtain⟨v,hv,hrep⟩:=hsl.load1 (i:=(n:Int)) cH rfl rfl (by simpa using h)
   have:=xg hrep
   subst this
   simp only[Int.toNat_natCast]at hv
   refine⟨_,hv,?_⟩
   refine(Tryz.strings_IndexByte (mkS xT) _ _).mono ?_
   rintro _ _ ⟨rfl,rfl⟩
   have e:Lib.indexByte (mkS xT).data.toList (Int.toNat ((s[n].toNat:Nat):Int)).toUInt8=sym s[n]:=by
     rw[<- Tv]
     congr 1
     simp[Nat.toUInt8]
   rw[e]
   refine⟨_,rfl,?_⟩
   refine ae.of (λh4=>?_) (λh4=>?_) <;> simp at h4
   · exact Nm (QI h h4) (ab hB2 hb hB2.size)
   · intro k1 w3 hk1 hw3
     have ho3:Ow lS aP w3 NoB a l c ((s.take n).map sym):=ho.below (hw3▸ah _ _)
     have hsrc:Src lS w3 NoB (some ⟨k1,0,none⟩) 1 [sym s[n]]:=Src.new1F tV hk1 hw3 sF
     obtain⟨w4,a',n',c',hr,ho4,hgr,hfr⟩:=dF (ty:=aZ) fh fV (by decide) ho3 (λ_ _ h=>h) (cm:=1) hsrc (by simp;omega)
     have e1:i64.wrap ((n:Int)+1)=((n+1:Nat):Int):=by rw[wrap_i64 (by omega) (by omega)];omega
     try dsimp only
     rw[e1]
     refine⟨w4,a',n',c',hr,_,?_,n+1,by omega,rfl,rfl,NY h hg (by omega),?_,?_,?_⟩
     · omega
     · rw[EV h,List.map_append];exact ho4
     · subst hw3;exact hf.app (by have:=hb.size;simp;omega) hfr
     · subst hw3;exact(ab hb (ah _ _) hb.size).grown hgr (by have:=hb.size;simp;omega) hf
 · have:n=s.length:=by omega
   subst this
   rw[List.take_length]at hg ho
   exact LG hg ho (hf.mono hB2.size) (ab hB2 hb hB2.size)
def WU (i:Int):Bool:=decide (0 <=i)&&decide (i<92)
def chr (i:Int):UInt8:=xT[i.toNat]?.getD 0
def one (n:Int):List UInt8:=if WU n then[chr n]else[]
def pw (s:List UInt8):List Nat:=s.map λc=>(sym c).toNat
theorem KH {s:List UInt8}(h:qK s=true){c:UInt8}(hc:c∈s):0 <=sym c:=by
 have:=List.all_eq_true.1 h c hc
 simpa using this
theorem Rl {s:List UInt8}(h:qK s=true):∀x∈pw s,x<92:=by
 intro x hx
 obtain⟨c,hc,rfl⟩:=List.mem_map.1 hx
 have:=VN c
 have:=KH h hc
 omega
theorem KI {s t:List UInt8}(h:qK t=true)(hp:s <+:t):qK s=true:=List.all_eq_true.2 λc hc=>List.all_eq_true.1 h c (hp.subset hc)
theorem NX {s:List UInt8}(h:qK s=true):qK (s++[47])=true:=List.all_eq_true.2 λc hc=>by
 rcases List.mem_append.1 hc with hc|hc
 · exact List.all_eq_true.1 h c hc
 · rw[List.mem_singleton]at hc;subst hc;decide
def rS (s:List UInt8):DA:=if qK s=true then chD 92 (pw s) (((pw s).length+1:Nat):Int)else noD 92
theorem Nb {s:List UInt8}(h:qK s=true)(hl:s.length <=65534):GS (rS s) (pw s) 1:=by
 unfold rS
 rw[if_pos h]
 have:=Tx (k:=92) (by omega) (by omega) (w:=pw s) (Rl h) (by simpa[pw]using hl) 1 (by omega)
 simpa using this
def jW (o:List UInt8):DA:=
 if o=[]then rS [47]
 else if o.head?≠some 47 then noD 92
 else if o.getLast?=some 47 then rS o
 else if qK o=true then⟨92,1,(rS (o++[47])).nx,(rS (o++[47])).ac.set (o.length+1) true⟩
 else noD 92
theorem yy (a:lU){w K}(h:nA w (.cells #[vI 0,vI 0,.slice none 0 0,.slice none 0 0] ax) λb c=>ae (decide (((List.length a:Nat):Int)>(60000:Int))) (∃d,Sv ax (vA b 0) (.agg #[vI 0,vI 0,.slice none 0 0,.slice none 0 0]) c d/\∃e f g i j k l m,Rv ax (vA b 0) d (.agg #[vI e,vI f,.slice g i j,.slice k l m])/\K (.tuple #[.agg #[vI e,vI f,.slice g i j,.slice k l m],vI 152]) d) (ae (a==[]) (Cf mS #[] c λd e=>∃f g i j k l m n,d=.returned (.agg #[vI f,vI g,.slice i j k,.slice l m n])/\∃o,Sv ax (vA b 0) (.agg #[vI f,vI g,.slice i j k,.slice l m n]) e o/\∃p q r s t u v x,Rv ax (vA b 0) o (.agg #[vI p,vI q,.slice r s t,.slice u v x])/\K (.tuple #[.agg #[vI p,vI q,.slice r s t,.slice u v x],vI 0]) o) (bx (0:Int) ((List.length a:Nat):Int)/\ae ((eF a (0:Int)) !=(47:Int)) (Cf pz #[vI 92] c λd e=>∃f g i j k l m n o,d=rT #[.agg #[vI f,vI g,.slice i j k,.slice l m n],vI o]/\∃p,Sv ax (vA b 0) (.agg #[vI f,vI g,.slice i j k,.slice l m n]) e p/\∃q r s t u v x y,Rv ax (vA b 0) p (.agg #[vI q,vI r,.slice s t u,.slice v x y])/\K (.tuple #[.agg #[vI q,vI r,.slice s t u,.slice v x y],vI o]) p) (uB mV #[vS a,vS [47]] c λd e=>ae d (Cf gQ #[vS a] e λf g=>∃i j k l m n o p q,f=rT #[.agg #[vI i,vI j,.slice k l m,.slice n o p],vI q]/\∃r,Sv ax (vA b 0) (.agg #[vI i,vI j,.slice k l m,.slice n o p]) g r/\∃s t u v x y z A,Rv ax (vA b 0) r (.agg #[vI s,vI t,.slice u v x,.slice y z A])/\K (.tuple #[.agg #[vI s,vI t,.slice u v x,.slice y z A],vI q]) r) ((((List.length a+List.length [47]:Nat):Int) <=i64.max)/\∀f,f=(a++[47])->Cf gQ #[vS f] e λg i=>∃j k l m n o p q r,g=rT #[.agg #[vI j,vI k,.slice l m n,.slice o p q],vI r]/\nA i (.cells #[vI 0,vI 0,.slice none 0 0,.slice none 0 0] ax) λs t=>∃u,Sv ax (vA s 0) (.agg #[vI j,vI k,.slice l m n,.slice o p q]) t u/\∃v:FP [],(Cf kZ #[vS a] u λx y=>∃z A B C,x=rT #[.slice z A B,.bool C]/\∃D:FP [.one .bool],(ae C (D (r==(0:Int)) y) (D false y))/\∀E,aN 4 (∀F,D E F->ae E (true/\∃G,Ld aP (vA s 1) F (vI G)/\∃H:Nat->FP [.one (.int .i64),.one (.int .i64)],(∃I,H I G (0:Int) F)/\∀I J L,aN 15 (∀M,H I J L M->ae (decide (L<((A:Nat):Int))) ((bx L ((A:Nat):Int)/\Option.isSome z=true)/\∃N,Ld aP (am z L 1) M (vI N)/\true/\∃O P Q,Ld aZ (vA s 2) M (.slice O P Q)/\true/\∃R,Ld aP (vA s 0) M (vI R)/\(bx (i64.wrap ((i64.wrap (J*R))+N)) ((P:Nat):Int)/\Option.isSome O=true)/\∃S,Ld aP (am O (i64.wrap ((i64.wrap (J*R))+N)) 1) M (vI S)/\∃T:Nat,T<I/\H T S (i64.wrap (L+(1:Int))) M) (true/\∃N O P,Ld df (vA s 3) M (.slice N O P)/\(bx J ((O:Nat):Int)/\Option.isSome N=true)/\∃Q,Sv cd (am N J 1) (.bool true) M Q/\v Q))) (v F)))/\aN 37 (∀x,v x->∃y z A B C D E F,Ld ax (vA s 0) x (.agg #[vI y,vI z,.slice A B C,.slice D E F])/\∃G,Sv ax (vA b 0) (.agg #[vI y,vI z,.slice A B C,.slice D E F]) x G/\∃H I J L M N O P,Rv ax (vA b 0) G (.agg #[vI H,vI I,.slice J L M,.slice N O P])/\K (.tuple #[.agg #[vI H,vI I,.slice J L M,.slice N O P],vI r]) G)))))):Cf mR #[vS a] w (Ret K):=ru func193 [(31,[]),(34,[(49,.one .bool)]),(43,[(8,.one (.int .i64)),(54,.one (.int .i64))])] h
theorem yz {w K}(h:nA w (.cells #[vI 0,vI 0,.slice none 0 0,.slice none 0 0] ax) λa b=>Cf gQ #[vS [47]] b λc d=>∃e f g i j k l m n,c=rT #[.agg #[vI e,vI f,.slice g i j,.slice k l m],vI n]/\nA d (.cells #[vI 0,vI 0,.slice none 0 0,.slice none 0 0] ax) λo p=>∃q,Sv ax (vA o 0) (.agg #[vI e,vI f,.slice g i j,.slice k l m]) p q/\∃r s t u v x y z,Ld ax (vA o 0) q (.agg #[vI r,vI s,.slice t u v,.slice x y z])/\∃A,Sv ax (vA a 0) (.agg #[vI r,vI s,.slice t u v,.slice x y z]) q A/\∃B C D E F G H I,Rv ax (vA a 0) A (.agg #[vI B,vI C,.slice D E F,.slice G H I])/\K (.agg #[vI B,vI C,.slice D E F,.slice G H I]) A):Cf mS #[] w (Ret K):=ru func276 [] h
theorem wX (a:lU){w K}(h:nA w (.cells #[vI 0,vI 0,.slice none 0 0,.slice none 0 0] ax) λb c=>Cf kZ #[vS a] c λd e=>∃f g i j,d=rT #[.slice f g i,.bool j]/\ae (!j) (Cf pz #[vI 92] e λk l=>∃m n o p q r s t u,k=rT #[.agg #[vI m,vI n,.slice o p q,.slice r s t],vI u]/\∃v,Sv ax (vA b 0) (.agg #[vI m,vI n,.slice o p q,.slice r s t]) l v/\∃x y z A B C D E,Rv ax (vA b 0) v (.agg #[vI x,vI y,.slice z A B,.slice C D E])/\K (.tuple #[.agg #[vI x,vI y,.slice z A B,.slice C D E],vI u]) v) (Cf nV #[vI 92,.slice f g i] e λk l=>∃m n o p q r s t u,k=rT #[.agg #[vI m,vI n,.slice o p q,.slice r s t],vI u]/\∃v,Sv ax (vA b 0) (.agg #[vI m,vI n,.slice o p q,.slice r s t]) l v/\∃x y z A B C D E,Rv ax (vA b 0) v (.agg #[vI x,vI y,.slice z A B,.slice C D E])/\K (.tuple #[.agg #[vI x,vI y,.slice z A B,.slice C D E],vI u]) v)):Cf gQ #[vS a] w (Ret K):=ru func229 [] h
theorem HH {s:List UInt8}(h:qK s=true):Is s=(pw s).map fun(x:Nat)=>(x:Int):=by
 unfold Is pw
 rw[if_pos h,List.map_map]
 refine List.map_congr_left λc hc=>?_
 have:=KH h hc
 show sym c=(((sym c).toNat:Nat):Int)
 omega
theorem EP (s:List UInt8):(pw s).length=s.length:=by simp[pw]
theorem Bp (s:List UInt8)(hs:s.length <=65534)(w:World):Cf gQ #[vS s] w (Ret (Do w (rS s))):=by
 apply wX
 intro k2 w2 hk2 hw2
 have hb2:=(hw2▸ah w _:bW w w2)
 have A2:ai w2 k2 ax [vI 0,vI 0,.slice none 0 0,.slice none 0 0]:=ai.new hk2 hw2
 have hlt:=A2.lt
 refine aB (sU s (by omega) w2) ?_
 rintro _ w8 ⟨a,n,c,rfl,ho,hf,hb8⟩
 have hB:=ab hb2 hb8 hb2.size
 refine⟨a,n,c,qK s,rfl,ae.of (λh=>?_) (λh=>?_)⟩
 · have hg:qK s=false:=by simpa using h
   refine aB (vc (k:=92) (by omega) (by omega)) ?_
   rintro _ w13 ⟨a1,n1,c1,b1,m1,e1,rfl,O,hb13⟩
   have s8:=hb8.size
   obtain⟨wx,s1,s2,g1⟩:=jo ((A2.below hb8).below hb13) rfl a1 n1 c1 b1 m1 e1 (noD 92)
   have hB13:=ab hB hb13 hB.size
   refine⟨_,_,a1,n1,c1,b1,m1,e1,_,rfl,wx,s1,_,_,a1,n1,c1,b1,m1,e1,s2,?_⟩
   have e:rS s=noD 92:=by unfold rS;rw[if_neg (by rw[hg];decide)]
   rw[e]
   exact⟨a1,n1,c1,b1,m1,e1,rfl,(O.put g1 (by omega)).mono hB.size,Below.put hB13 g1 (by omega)⟩
 · have hg:qK s=true:=by simpa using h
   rw[HH hg]at ho
   refine aB (wo (k:=92) ho.all (by omega) (by omega) (Rl hg) (by rw[EP];exact hs)) ?_
   rintro _ w13 ⟨a1,n1,c1,b1,m1,e1,rfl,O,hb13⟩
   have s8:=hb8.size
   obtain⟨wx,s1,s2,g1⟩:=jo ((A2.below hb8).below hb13) rfl a1 n1 c1 b1 m1 e1 (chD 92 (pw s) (((pw s).length+1:Nat):Int))
   have hB13:=ab hB hb13 hB.size
   refine⟨_,_,a1,n1,c1,b1,m1,e1,_,rfl,wx,s1,_,_,a1,n1,c1,b1,m1,e1,s2,?_⟩
   have e:rS s=chD 92 (pw s) (((pw s).length+1:Nat):Int):=by unfold rS;rw[if_pos hg]
   rw[e]
   exact⟨a1,n1,c1,b1,m1,e1,rfl,(O.put g1 (by omega)).mono hB.size,Below.put hB13 g1 (by omega)⟩
def Wo (w:World)(d:DA)(v:Value)(w':World):Prop:=∃(a:Option Addr) (n c:Nat) (b:Option Addr) (m e:Nat),v=daV a n c b m e d/\Es w.heap.size w' a n c b m e d/\bW w w'
theorem PO (w:World):Cf mS #[] w (Ret (Wo w (rS [47]))):=by
 apply yz
 intro k0 w0 hk0 hw0
 have hb0:=(hw0▸ah w _:bW w w0)
 have A0:ai w0 k0 ax [vI 0,vI 0,.slice none 0 0,.slice none 0 0]:=ai.new hk0 hw0
 have hlt:=A0.lt
 refine aB (Bp [47] (by decide) w0) ?_
 rintro _ w4 ⟨a,n,c,b,m,e,rfl,O,hb4⟩
 have hB4:=ab hb0 hb4 hb0.size
 refine⟨_,_,a,n,c,b,m,e,_,rfl,?_⟩
 intro k1 w1 hk1 hw1
 have hb1:=(hw1▸ah w4 _:bW w4 w1)
 have A1:ai w1 k1 ax [vI 0,vI 0,.slice none 0 0,.slice none 0 0]:=ai.new hk1 hw1
 have s4:=hb4.size
 obtain⟨wx,q1,v1,g1⟩:=lG.store0 (P:=prog) (cs:=daL a n c b m e (rS [47])) rfl (rW _ _ _ _ _ _ _) A1 rfl
 have bxq:bW w4 wx:=Below.put hb1 g1 (by omega)
 refine⟨wx,q1,_,_,a,n,c,b,m,e,lG.load0 (cs:=daL a n c b m e (rS [47])) v1 rfl,?_⟩
 obtain⟨wy,s1,s2,g2⟩:=jo ((A0.below hb4).below bxq) rfl a n c b m e (rS [47])
 have hBx:=ab hB4 bxq hB4.size
 exact⟨wy,s1,_,_,a,n,c,b,m,e,s2,a,n,c,b,m,e,rfl,((O.below bxq).put g2 hlt).mono hb0.size,Below.put hBx g2 (by omega)⟩
theorem Xc (s p:List UInt8)(hs:s.length <=9223372036854775807)(w:World):Cf mV #[vS s,vS p] w (Ret λv w'=>v=.bool (Lib.hasSuffix s p)/\w'=w):=
 (Tryz.strings_HasSuffix (mkS s) (mkS p) w hs).mono λe w' ⟨h1,h2⟩=>⟨_,h1,rfl,h2⟩
theorem SU {s:List UInt8}{c:UInt8}{r:List UInt8}(e:s=c::r):eF s (0:Int)=((c.toNat:Nat):Int):=by subst e;rfl
theorem GS.go {d:DA}{w:List Nat}{m:Nat}(h:GS d w m)(hw:∀x∈w,x<d.K){i:Nat}(hi:i<w.length):d.run 1 (w.take i)=i+1:=
 (h.run_at hi (j:=0) (Nat.zero_le _) (λx hx=>hw x (List.mem_of_mem_take hx))).2 rfl
set_option maxHeartbeats 1000000 in
theorem PN (o:List UInt8)(ho:o.length <=60000)(w:World):Cf mR #[vS o] w (Ret (Do w (jW o))):=by
 apply yy
 intro k2 w2 hk2 hw2
 have hb2:=(hw2▸ah w _:bW w w2)
 have A2:ai w2 k2 ax [vI 0,vI 0,.slice none 0 0,.slice none 0 0]:=ai.new hk2 hw2
 have hlt:=A2.lt
 have s2':=hb2.size
 have back:∀{W:World} {d:DA} {a b:Option Addr} {n c m e:Nat},Es w2.heap.size W a n c b m e d->bW w2 W->∃wx,(Instr.storeAt ax (.pointer (some ⟨k2,0,none⟩)) (daV a n c b m e d)).run prog W=.ok () wx/\(aV ax (.pointer (some ⟨k2,0,none⟩))).run prog wx=.ok (daV a n c b m e d) wx/\Do w d (.tuple #[daV a n c b m e d,vI 0]) wx:=by
   intro W d a b n c m e O hb
   obtain⟨wx,s1,s2,g1⟩:=jo (A2.below hb) rfl a n c b m e d
   exact⟨wx,s1,s2,a,n,c,b,m,e,rfl,(O.put g1 hlt).mono hb2.size,Below.put (ab hb2 hb hb2.size) g1 (by omega)⟩
 refine ae.no (decide_eq_false (by omega)) (ae.of (λh0=>?_) (λh0=>?_))
 · have h0:o=[]:=by simpa using h0
   have e:jW o=rS [47]:=by unfold jW;rw[if_pos h0]
   rw[e]
   refine aB (PO w2) ?_
   rintro _ w19 ⟨a,n,c,b,m,e,rfl,O,hb⟩
   obtain⟨wx,s1,s2,h⟩:=back O hb
   exact⟨_,_,a,n,c,b,m,e,rfl,wx,s1,_,_,a,n,c,b,m,e,s2,h⟩
 have h0:o≠[]:=by simpa using h0
 obtain⟨x,r,er⟩:=List.exists_cons_of_ne_nil h0
 have hlen:0<o.length:=by rw[er];simp
 refine⟨⟨by omega,by omega⟩,?_⟩
 rw[SU er]
 refine ae.of (λh1=>?_) (λh1=>?_)
 · have h1:x≠47:=λe=>by subst e;simp at h1
   have e:jW o=noD 92:=by unfold jW;rw[if_neg h0,if_pos (by rw[er];simpa using h1)]
   rw[e]
   refine aB (vc (k:=92) (by omega) (by omega)) ?_
   rintro _ w19 ⟨a,n,c,b,m,e,rfl,O,hb⟩
   obtain⟨wx,s1,s2,h⟩:=back O hb
   exact⟨_,_,a,n,c,b,m,e,_,rfl,wx,s1,_,_,a,n,c,b,m,e,s2,h⟩
 have h1:x=47:=by
   have h2:((x.toNat:Nat):Int)=47:=by simpa using h1
   exact UInt8.toNat_inj.1 (show x.toNat=47 by omega)
 subst h1
 have hd: ¬ (o.head?≠some 47):=by rw[er];simp
 refine aB (Xc o [47] (by omega) w2) ?_
 rintro _ w29 ⟨rfl,hw29⟩
 rw[hw29];clear hw29 w29
 rw[(AX o 47).1]
 refine⟨_,rfl,ae.of (λh2=>?_) (λh2=>?_)⟩
 · have h2:o.getLast?=some 47:=by simpa using h2
   have e:jW o=rS o:=by unfold jW;rw[if_neg h0,if_neg hd,if_pos h2]
   rw[e]
   refine aB (Bp o (by omega) w2) ?_
   rintro _ w19 ⟨a,n,c,b,m,e,rfl,O,hb⟩
   obtain⟨wx,s1,s2,h⟩:=back O hb
   exact⟨_,_,a,n,c,b,m,e,_,rfl,wx,s1,_,_,a,n,c,b,m,e,s2,h⟩
 have h2: ¬ o.getLast?=some 47:=by simpa using h2
 have hl1:(o++[47]).length=o.length+1:=by simp
 refine⟨by show((o.length+[(47:UInt8)].length:Nat):Int) <=9223372036854775807;simp;omega,?_⟩
 rintro _ rfl
 refine aB (Bp (o++[47]) (by omega) w2) ?_
 rintro _ w37 ⟨a,n,c,b,m,e,rfl,O,hb37⟩
 refine⟨_,_,a,n,c,b,m,e,_,rfl,?_⟩
 intro k4 w4 hk4 hw4
 have hb4:=(hw4▸ah w37 _:bW w37 w4)
 have A4:ai w4 k4 ax [vI 0,vI 0,.slice none 0 0,.slice none 0 0]:=ai.new hk4 hw4
 have hlt4:=A4.lt
 have s37:=hb37.size
 obtain⟨wx,q1,v1,g1⟩:=lG.store0 (P:=prog) (cs:=daL a n c b m e (rS (o++[47]))) rfl (rW _ _ _ _ _ _ _) A4 rfl
 have bxq:bW w37 wx:=Below.put hb4 g1 (by omega)
 have Bx:=ab hb37 bxq hb37.size
 refine⟨wx,q1,λW=>bW w2 W/\k4<W.heap.size/\∃d,d=jW o/\d.k=92/\Es w2.heap.size W a n c b m e d/\ai W k4 ax (daL a n c b m e d),?_,?_⟩
 · refine aB (sU o (by omega) wx) ?_
   rintro _ w42 ⟨a5,n5,c5,rfl,ho5,hf5,hb42⟩
   have B42:=ab Bx hb42 Bx.size
   have A42:=v1.below hb42
   have O42:=(O.below bxq).below hb42
   refine⟨a5,n5,c5,qK o,rfl,λbb W=>bb=qK o/\W=w42,ae.of (λh=>⟨h.symm,rfl⟩) (λh=>⟨h.symm,rfl⟩),λbb=>aN.of ?_ _⟩
   rintro wj ⟨rfl,hwj⟩
   rw[hwj];clear hwj wj
   refine ae.of (λhg=>?_) (λhg=>?_)
   · have hg2:=NX hg
     rw[HH hg]at ho5
     have hc:=Nb hg2 (by omega)
     have eb:rS (o++[47])=chD 92 (pw (o++[47])) (((pw (o++[47])).length+1:Nat):Int):=by unfold rS;rw[if_pos hg2]
     have eK:(rS (o++[47])).K=92:=by rw[eb];rfl
     have ek:(rS (o++[47])).k=92:=by rw[eb];rfl
     have est:(rS (o++[47])).st=1:=by rw[eb];rfl
     have hw:∀x∈pw (o++[47]),x<(rS (o++[47])).K:=by rw[eK];exact Rl hg2
     have epw:pw (o++[47])=pw o++pw [47]:=by unfold pw;rw[List.map_append]
     have hn5:n5=o.length:=by have:=ho5.len;rw[List.length_map,EP]at this;exact this
     refine⟨rfl,_,A42.load1 cD rfl rfl,?_⟩
     rw[est]
     refine⟨λM at_ i W=>∃j:Nat,j <=o.length/\i=(j:Int)/\M=o.length-j/\at_=((j+1:Nat):Int)/\W=w42,⟨_,0,by omega,rfl,rfl,rfl,rfl⟩,?_⟩
     intro M at_ i
     refine aN.of ?_ _
     rintro wl ⟨j,hj,rfl,rfl,rfl,hwl⟩
     rw[hwl];clear hwl wl
     refine ae.of (λh3=>?_) (λh3=>?_) <;> simp only[dTx,dFx]at h3
     · have hjl:j<o.length:=by omega
       have hj2:j<(pw o).length:=by rw[EP];exact hjl
       have hj3:j<((pw o).map fun(x:Nat)=>(x:Int)).length:=by rw[List.length_map];exact hj2
       have hj4:j<(pw (o++[47])).length:=by rw[EP,hl1];omega
       have hx92:(pw o)[j]<92:=Rl hg _ (List.getElem_mem hj2)
       have e1:((pw o).map fun(x:Nat)=>(x:Int))[j]=(((pw o)[j]:Nat):Int):=by rw[List.getElem_map]
       have e2:(pw (o++[47]))[j]=(pw o)[j]:=by simp only[epw];rw[List.getElem_append_left hj2]
       have hs1:j+1<(rS (o++[47])).n:=by rw[hc.n,EP,hl1];omega
       obtain⟨v,hv,v0,v2,ev⟩:=hc.ok.at hs1 (x:=(pw o)[j]) (by rw[eK];exact hx92)
       have hto:=hc.mid j _ hj4 (by rw[eK];exact hx92)
       rw[e2,if_pos rfl]at hto
       rw[eK]at hv
       have hvl:=(List.getElem?_eq_some_iff.1 hv).1
       have hve:=(List.getElem?_eq_some_iff.1 hv).2
       have hwr:i64.wrap (i64.wrap (((j+1:Nat):Int)*92)+(((pw o)[j]:Nat):Int))=(((j+1)*92+(pw o)[j]:Nat):Int):=by
         have h6:i64.wrap (((j+1:Nat):Int)*92)=((j+1:Nat):Int)*92:=wrap_i64 (by omega) (by omega)
         try dsimp only
         rw[h6,wrap_i64 (by omega) (by omega)];omega
       have hnl:=O42.nx.len
       refine⟨⟨⟨by omega,by omega⟩,ho5.all.isSome hj3⟩,_,ho5.all.num cD hj3,rfl,a,n,c,A42.load1 fh rfl rfl,rfl,_,A42.load1 cD rfl rfl,?_⟩
       rw[e1,ek,hwr]
       refine⟨⟨⟨by omega,by omega⟩,O42.nx.all.isSome hvl⟩,_,O42.nx.all.num cD hvl,o.length-(j+1),by omega,j+1,by omega,by rw[wrap_i64 (by omega) (by omega)];omega,rfl,?_,rfl⟩
       rw[hve]
       omega
     · have hjl:j=o.length:=by omega
       subst hjl
       have hna:(rS (o++[47])).ac.length=o.length+3:=by
         have:=hc.n
         rw[EP,hl1]at this
         exact this
       have hacl:=O42.ac.len
       have hi:(((o.length+1:Nat):Int)).toNat<(rS (o++[47])).ac.length:=by rw[hna];omega
       obtain⟨w7,r7,o7,g7⟩:=Ow.store (P:=prog) kU O42.ac (λg _ h=>h) (i:=((o.length+1:Nat):Int)) hi (k:=1) rfl (v:=.bool true) (x:=true) AQ
       refine⟨rfl,b,m,e,A42.load1 gT rfl rfl,⟨⟨by omega,by omega⟩,O42.ac.all.isSome hi⟩,w7,r7,?_⟩
       have hbb:∀g,dV b=some g->w2.heap.size <=g:=λg hg=>O.fb g hg
       have e7:(o.length+1:Nat)=(((o.length+1:Nat):Int)).toNat:=by omega
       have em:jW o=⟨92,1,(rS (o++[47])).nx,(rS (o++[47])).ac.set (o.length+1) true⟩:=by
         unfold jW
         rw[if_neg h0,if_neg hd,if_neg h2,if_pos hg]
       have hk4b:∀g,dV b=some g->g≠k4:=λg hg ex=>by
         have:=O.ac.lt g hg
         omega
       have hk4r:some k4≠dV b:=λex=>hk4b k4 ex.symm rfl
       refine⟨B42.grown g7 B42.size hbb,by have:=g7.size;have:=hb42.size;have:=v1.lt;omega,_,em.symm,rfl,⟨?_,by rw[e7];exact o7,O42.ne,O42.fa,O42.fb⟩,?_⟩
       · exact O42.nx.other g7 O42.ne
       · have:=A42.grown g7 hk4r
         rw[show daL a n c b m e (rS (o++[47]))=daL a n c b m e ⟨92,1,(rS (o++[47])).nx,(rS (o++[47])).ac.set (o.length+1) true⟩ from by unfold daL;rw[ek,est]]at this
         exact this
   · have em:jW o=rS (o++[47]):=by
       have:qK (o++[47])≠true:=λh=>by
         have:=KI h (List.prefix_append o [47])
         rw[hg]at this;cases this
       unfold jW rS
       rw[if_neg h0,if_neg hd,if_neg h2,if_neg (by rw[hg];decide),if_neg this]
     refine⟨B42,by have:=hb42.size;have:=v1.lt;omega,_,em.symm,?_,O42,A42⟩
     have:qK (o++[47])≠true:=λh=>by
       have:=KI h (List.prefix_append o [47])
       rw[hg]at this;cases this
     unfold rS
     rw[if_neg this];rfl
 · refine aN.of ?_ _
   rintro wj ⟨hB,hk,d,rfl,hdk,OD,AD⟩
   refine⟨_,_,a,n,c,b,m,e,lG.load0 (cs:=daL a n c b m e (jW o)) AD rfl,?_⟩
   obtain⟨wy,s1,s2,h⟩:=back OD hB
   exact⟨wy,s1,_,_,a,n,c,b,m,e,s2,h⟩
def d0:DA:=⟨0,0,[],[]⟩
def GV (P:Program)(v:Value)(args:Array Value)(w:World)(R:Ending->World->Prop):Prop:=
 match(match v with
   | .func (.func f) first captured=>if kW P f then some (f,(first.toList++(args.toList++captured.toList)).toArray)else none
   | _=>none:Option (FuncId×Array Value))with
 | some (f,l)=>Calls P f l w R
 | none=>False
theorem GV.of {P:Program}{f:FuncId}{args:Array Value}{w:World}{R:Ending->World->Prop}(hc:kW P f=true)(h:Calls P f args w R):GV P (.func (.func f) #[] #[]) args w R:=by
 unfold GV
 show(match(if kW P f then some (f,_)else none:Option (FuncId×Array Value))with|some (f,l)=>Calls P f l w R|none=>False)
 rw[if_pos hc]
 simpa using h
theorem Gp (a:Option Addr)(b:Value)(c:Int){w K}(h:nA w (.cells (Value.cells b) br) λd e=>nA e (.cells io aK) λf g=>∃i:FP [.one .any],(true/\∃j,Ld cd (vA d 20) g (.bool j)/\ae j (i (.func (.func iH) #[] #[]) g) (i (.func (.func fk) #[] #[]) g))/\∀j,aN 2 (∀k,i j k->true/\∃l,Ld af (vA d 2) k l/\GV prog j #[.pointer a,l] k λm n=>∃o p q r s t u v x,m=rT #[.agg #[vI o,vI p,.slice q r s,.slice t u v],vI x]/\nA n (.cells #[vI 0,vI 0,.slice none 0 0,.slice none 0 0] ax) λy z=>∃A,Sv ax (vA y 0) (.agg #[vI o,vI p,.slice q r s,.slice t u v]) z A/\true/\∃B,Ld ak (vA d 21) A (vS B)/\Cf mR #[vS B] A λC D=>∃E F G H I J L M N,C=rT #[.agg #[vI E,vI F,.slice G H I,.slice J L M],vI N]/\nA D (.cells #[vI 0,vI 0,.slice none 0 0,.slice none 0 0] ax) λO P=>∃Q,Sv ax (vA O 0) (.agg #[vI E,vI F,.slice G H I,.slice J L M]) P Q/\∃R S T U V X Y Z,Ld ax (vA y 0) Q (.agg #[vI R,vI S,.slice T U V,.slice X Y Z])/\∃aa ac ad ag al an ba bb,Ld ax (vA O 0) Q (.agg #[vI aa,vI ac,.slice ad ag al,.slice an ba bb])/\nA Q (.cells io aK) λbd bj=>∃bk,Sv aK (vA bd 0) (.agg #[vI R,vI S,.slice T U V,.slice X Y Z,vI aa,vI ac,.slice ad ag al,.slice an ba bb,.bool false,.bool false,.bool false,.bool false,.bool false]) bj bk/\∃bl:FP [],(true/\∃bo,Ld jC (vA d 25) bk (vI bo)/\ae (decide (c<bo)) (true/\∃bq,Ld cd (vA d 22) bk (.bool bq)/\true/\∃bs,Sv mH (vA bd 8) (.agg #[.bool (!bq),.bool true]) bk bs/\true/\∃bu,Ld aP (vA d 24) bs (vI bu)/\true/\∃bw,Ld aP (vA d 24) bs (vI bw)/\true/\∃bx,Sv va (vA bd 10) (.agg #[.bool true,.bool (bu !=(3:Int)),.bool (bw==(1:Int))]) bs bx/\bl bx) (bl bk))/\aN 17 (∀bo,bl bo->∃bq,Ld aK (vA bd 0) bo bq/\Cf o0 #[bq,vI x,vI N] bo λbs bu=>∃bw bx,bs=rT #[bw,vI bx]/\∃bz,Sv aK (vA f 0) bw bu bz/\∃cb,Rv aK (vA f 0) bz cb/\K (.tuple #[cb,vI bx]) bz))):Cf qD #[.pointer a,b,vI c] w (Ret K):=ru func110 [(4,[(8,.one .any)]),(16,[])] h
theorem Au (a:Value)(b c:Int){w K}(h:nA w (.cells (Value.cells a) aK) λd e=>nA e (.cells io aK) λf g=>ae (b==(151:Int)) (∃i,Ld aK (vA d 0) g i/\nA g (.cells #[vI c,vI b] gu) λj k=>Cf jM #[i,.slice (vA j 0) 2 2] k λl m=>∃n o,l=rT #[n,vI o]/\∃p,Sv aK (vA f 0) n m p/\∃q,Rv aK (vA f 0) p q/\K (.tuple #[q,vI o]) p) (∃i,Ld aK (vA d 0) g i/\nA g (.cells #[vI b,vI c] gu) λj k=>Cf jM #[i,.slice (vA j 0) 2 2] k λl m=>∃n o,l=rT #[n,vI o]/\∃p,Sv aK (vA f 0) n m p/\∃q,Rv aK (vA f 0) p q/\K (.tuple #[q,vI o]) p)):Cf o0 #[a,vI b,vI c] w (Ret K):=ru func143 [] h
theorem As (a:Value){w K}(h:nA w (.cells (Value.cells a) cv) λb c=>true/\∃d,Ld af (vA b 1) c d/\uB jr #[d] c λe f=>ae e (true/\∃g,Ld ak (vA b 19) f (vS g)/\uB mE #[vS g] f λi j=>ae i (true/\∃k,Ld aP (vA b 20) j (vI k)/\ae (decide (k >=(0:Int))) (true/\∃l,Ld aP (vA b 20) j (vI l)/\K (.bool (decide (l <=(2:Int)))) j) (K (.bool false) j)) (K (.bool false) j)) (K (.bool false) f)):Cf oZ #[a] w (Ret K):=ru func50 [] h
theorem yB (a:Bool){w K}(h:ae a (K (vI 1) w) (K (vI 0) w)):Cf mU #[.bool a] w (Ret K):=ru func51 [] h
theorem CP (a:Value)(b:Option Addr)(c d:Nat){w K}(h:nA w (.cells (Value.cells a) aK) λe f=>nA f (.cells io aK) λg i=>uI oY #[.slice b c d] i λj k=>ae (j !=(0:Int)) (∃l,Sv aK (vA g 0) (.agg io) k l/\∃m,Rv aK (vA g 0) l m/\K (.tuple #[m,vI j]) l) (∃l,Ld aK (vA e 0) k l/\∃m,Sv aK (vA g 0) l k m/\∃n,Rv aK (vA g 0) m n/\K (.tuple #[n,vI 0]) m)):Cf jM #[a,.slice b c d] w (Ret K):=ru func230 [] h
theorem Ar (a:Option Addr)(b c:Nat){w K}(h:∃d:Nat->FP [.one (.int .i64)],(∃e,d e (0:Int) w)/\∀e f,aN 9 (∀g,d e f g->ae (decide (f<((b:Nat):Int))) ((bx f ((b:Nat):Int)/\Option.isSome a=true)/\∃i,Ld gu (am a f 1) g (vI i)/\ae (i !=(0:Int)) (K (vI i) g) (∃j:Nat,j<e/\d j (i64.wrap (f+(1:Int))) g)) (K (vI 0) g))):Cf oY #[.slice a b c] w (Ret K):=ru func299 [(6,[(7,.one (.int .i64))])] h
structure Rgp where
 a:Option Addr
 n:Nat
 c:Nat
 b:Option Addr
 m:Nat
 e:Nat
structure Rgn where
 h:DA
 p:DA
 s0:Bool
 s1:Bool
 c0:Bool
 c1:Bool
 c2:Bool
def rp0:Rgp:=⟨none,0,0,none,0,0⟩
def rg0:Rgn:=⟨d0,d0,false,false,false,false,false⟩
def Rgn.tail (r:Rgn):List Value:=[.bool r.s0,.bool r.s1,.bool r.c0,.bool r.c1,.bool r.c2]
def Rgn.cells (r:Rgn)(x y:Rgp):List Value:=daL x.a x.n x.c x.b x.m x.e r.h++(daL y.a y.n y.c y.b y.m y.e r.p++r.tail)
def Rgn.v (r:Rgn)(x y:Rgp):Value:=.agg (r.cells x y).toArray
theorem Rgn.len (r:Rgn)(x y:Rgp):(r.cells x y).length=13:=rfl
theorem Rgn.one (r:Rgn)(x y:Rgp):vX (r.cells x y):=sD (rW _ _ _ _ _ _ _) (sD (rW _ _ _ _ _ _ _) (aJ rfl (aJ rfl (aJ rfl (aJ rfl (aJ rfl gX))))))
structure RgS (w:World)(r:Rgn)(x y:Rgp):Prop where
 h:DaS w x.a x.n x.c x.b x.m x.e r.h
 p:DaS w y.a y.n y.c y.b y.m y.e r.p
theorem RgS.below {w w':World}{r:Rgn}{x y:Rgp}(h:RgS w r x y)(hb:bW w w'):RgS w' r x y:=⟨h.h.below hb,h.p.below hb⟩
structure RgO (B:Nat)(w:World)(r:Rgn)(x y:Rgp):Prop where
 h:Es B w x.a x.n x.c x.b x.m x.e r.h
 p:Es B w y.a y.n y.c y.b y.m y.e r.p
theorem RgO.s {B:Nat}{w:World}{r:Rgn}{x y:Rgp}(h:RgO B w r x y):RgS w r x y:=⟨h.h.das,h.p.das⟩
theorem RgO.below {B:Nat}{w w':World}{r:Rgn}{x y:Rgp}(h:RgO B w r x y)(hb:bW w w'):RgO B w' r x y:=⟨h.h.below hb,h.p.below hb⟩
theorem RgO.put {B:Nat}{w w':World}{r:Rgn}{x y:Rgp}{k:Nat}(h:RgO B w r x y)(hg:w.grownBy w' (some k))(hk:k<B):RgO B w' r x y:=⟨h.h.put hg hk,h.p.put hg hk⟩
theorem RgO.mono {B B':Nat}{w:World}{r:Rgn}{x y:Rgp}(h:RgO B w r x y)(hB:B' <=B):RgO B' w r x y:=⟨h.h.mono hB,h.p.mono hB⟩
theorem RgO.zero (B:Nat)(w:World):RgO B w rg0 rp0 rp0:=⟨⟨Ow.nil _ _ _ _,Ow.nil _ _ _ _,(λg hg=>by cases hg),bg.none _,bg.none _⟩,⟨Ow.nil _ _ _ _,Ow.nil _ _ _ _,(λg hg=>by cases hg),bg.none _,bg.none _⟩⟩
theorem RgS.zero (w:World):RgS w rg0 rp0 rp0:=⟨⟨(Ow.nil lS aP w NoB).all,(Ow.nil AA cd w NoB).all⟩,⟨(Ow.nil lS aP w NoB).all,(Ow.nil AA cd w NoB).all⟩⟩
theorem dk:Whl prog aK 13:=⟨⟨_,_,GH⟩,by kernel_rfl⟩
def pJ (a b:Int):Int:=if a≠0 then a else b
theorem QH {w:World}{A:Bl}{a:Option Addr}{c:Nat}{x y:Int}(hs:Sl lS w A a 2 c [x,y]):Cf oY #[.slice a 2 c] w (Ret λv w'=>v=vI (pJ x y)/\w'=w):=by
 apply Ar
 refine⟨λm i w'=>w'=w/\∃j:Nat,i=(j:Int)/\m=2-j/\(j=0\/j=1/\x=0\/j=2/\x=0/\y=0),⟨_,rfl,0,rfl,rfl,.inl rfl⟩,?_⟩
 intro m i
 refine aN.of ?_ _
 rintro wl ⟨hw,j,rfl,rfl,hj⟩
 rw[hw];clear hw wl
 rcases hj with rfl|⟨rfl,h0⟩|⟨rfl,h0,h1⟩
 · refine ae.yes (by decide) ⟨⟨⟨by omega,by omega⟩,hs.isSome (i:=0) (show 0<2 by decide)⟩,_,hs.num (i:=0) lw (show 0<2 by decide),?_⟩
   refine ae.of (λh=>?_) (λh=>?_)
   · have h:x≠0:=by simpa using h
     exact⟨by unfold pJ;rw[if_pos h];rfl,rfl⟩
   · have h:x=0:=by simpa using h
     exact⟨1,by omega,rfl,1,by decide,by omega,.inr (.inl ⟨rfl,h⟩)⟩
 · refine ae.yes (by decide) ⟨⟨⟨by omega,by omega⟩,hs.isSome (i:=1) (show 1<2 by decide)⟩,_,hs.num (i:=1) lw (show 1<2 by decide),?_⟩
   refine ae.of (λh=>?_) (λh=>?_)
   · exact⟨by unfold pJ;rw[if_neg (by omega)];rfl,rfl⟩
   · have h:y=0:=by simpa using h
     exact⟨0,by omega,rfl,2,by decide,by omega,.inr (.inr ⟨rfl,h0,h⟩)⟩
 · exact ae.no (by decide) ⟨by unfold pJ;rw[if_neg (by omega),h1],rfl⟩
def MX (r:Rgn)(x y:Rgp)(e:Int)(w:World)(v:Value)(w':World):Prop:=bW w w'/\v=if e=0 then .tuple #[r.v x y,vI 0]else .tuple #[rg0.v rp0 rp0,vI e]
theorem TL {w:World}{A:Bl}{a:Option Addr}{c:Nat}{s t:Int}(hs:Sl lS w A a 2 c [s,t])(r:Rgn)(x y:Rgp):Cf jM #[r.v x y,.slice a 2 c] w (Ret (MX r x y (pJ s t) w)):=by
 apply CP
 intro k2 w2 hk2 hw2 k4 w4 hk4 hw4
 have b2:=(hw2▸ah w _:bW w w2)
 have b4:=(hw4▸ah w2 _:bW w2 w4)
 have A2:ai w2 k2 aK (r.cells x y):=ai.new hk2 hw2
 have A4:ai w4 k4 aK (rg0.cells rp0 rp0):=ai.new hk4 hw4
 have B4:=ab b2 b4 b2.size
 have s2:=b2.size
 refine aB (QH (hs.below B4)) ?_
 rintro _ w8 ⟨rfl,hw8⟩
 rw[hw8];clear hw8 w8
 refine⟨_,rfl,ae.of (λh=>?_) (λh=>?_)⟩
 · have h:pJ s t≠0:=by simpa using h
   obtain⟨wx,q1,v1,g1⟩:=dk.store0 (P:=prog) (cs:=rg0.cells rp0 rp0) rfl (Rgn.one _ _ _) A4 rfl
   exact⟨wx,q1,_,ai.res (dk.load0 v1 rfl),Below.put B4 g1 (by omega),by rw[if_neg h];rfl⟩
 · have h:pJ s t=0:=by simpa using h
   obtain⟨wx,q1,v1,g1⟩:=dk.store0 (P:=prog) (cs:=r.cells x y) rfl (Rgn.one _ _ _) A4 rfl
   exact⟨_,dk.load0 (A2.below b4) rfl,wx,q1,_,ai.res (dk.load0 v1 rfl),Below.put B4 g1 (by omega),by rw[if_pos h];rfl⟩
def O2 (h p:Int):Int:=if h=151 then pJ p h else pJ h p
theorem Rw (r:Rgn)(x y:Rgp)(s t:Int)(hs:i64.wrap s=s)(ht:i64.wrap t=t)(w:World):Cf o0 #[r.v x y,vI s,vI t] w (Ret (MX r x y (O2 s t) w)):=by
 apply Au
 intro k3 w3 hk3 hw3 k6 w6 hk6 hw6
 have b3:=(hw3▸ah w _:bW w w3)
 have b6:=(hw6▸ah w3 _:bW w3 w6)
 have A3:ai w3 k3 aK (r.cells x y):=ai.new hk3 hw3
 have A6:ai w6 k6 aK (rg0.cells rp0 rp0):=ai.new hk6 hw6
 have B6:=ab b3 b6 b3.size
 have s3:=b3.size
 have one:∀{k13:Nat} {w13:World} {a b:Int},k13=w6.heap.size->w13=w6.alloc (.cells #[vI a,vI b] gu)->
     Cf jM #[r.v x y,.slice (some ⟨k13,0,none⟩) 2 2] w13 λe14 w14=>∃(v0:Value) (n1:Int),e14=.returned (.tuple #[v0,vI n1])/\
       ∃(wx:World),(Instr.storeAt aK (.pointer (some ⟨k6,0,none⟩)) v0).run prog w14=.ok () wx/\∃(vr:Value),(aV aK (.pointer (some ⟨k6,0,none⟩))).run prog wx=.ok vr wx/\MX r x y (pJ a b) w (.tuple #[vr,vI n1]) wx:=by
   intro k13 w13 a b hk hw
   have b13:=(hw▸ah w6 _:bW w6 w13)
   have S:Sl lS w13 uc (some ⟨k13,0,none⟩) 2 2 [a,b]:=(Ow.newF (T:=lS) (A:=NoB) (t:=gu) (l:=[vI a,vI b]) (xs:=[a,b]) tV hk hw ((kg.one (sF (n:=a))).append (kg.one (sF (n:=b)))) (show 2 <=maxLen by decide)).all
   refine aB (TL S r x y) ?_
   rintro _ w14 ⟨b14,rfl⟩
   have B:=ab (ab B6 b13 B6.size) b14 (ab B6 b13 B6.size).size
   have A14:=(A6.below b13).below b14
   by_cases h:pJ a b=0
   · rw[if_pos h]
     obtain⟨wx,q1,v1,g1⟩:=dk.store0 (P:=prog) (cs:=r.cells x y) rfl (Rgn.one _ _ _) A14 rfl
     exact⟨_,_,rfl,wx,q1,_,ai.res (dk.load0 v1 rfl),Below.put B g1 (by omega),by rw[if_pos h];rfl⟩
   · rw[if_neg h]
     obtain⟨wx,q1,v1,g1⟩:=dk.store0 (P:=prog) (cs:=rg0.cells rp0 rp0) rfl (Rgn.one _ _ _) A14 rfl
     exact⟨_,_,rfl,wx,q1,_,ai.res (dk.load0 v1 rfl),Below.put B g1 (by omega),by rw[if_neg h];rfl⟩
 refine ae.of (λh=>⟨_,dk.load0 (A3.below b6) rfl,λk13 w13 hk hw=>?_⟩) (λh=>⟨_,dk.load0 (A3.below b6) rfl,λk13 w13 hk hw=>?_⟩)
 · have h:s=151:=by simpa using h
   have e:O2 s t=pJ t s:=by unfold O2;rw[if_pos h]
   rw[e];exact one hk hw
 · have h:s≠151:=by simpa using h
   have e:O2 s t=pJ s t:=by unfold O2;rw[if_neg h]
   rw[e];exact one hk hw
theorem Rp {r:Req}(o:r.ok)(hn:r.host.name.length <=80000000){w:World}(he:Env w):Cf oZ #[r.v] w (Ret λv w'=>v=.bool (J3 r)/\bW w w'):=by
 apply As
 intro k1 w1 hk1 hw1
 have b1:=(hw1▸ah w _:bW w w1)
 have A1:ai w1 k1 cv r.cells:=ai.new hk1 hw1
 refine⟨rfl,_,bc.load A1 (i:=1) (us:=r.host.cells) (Hst.len o) (λj hj=>Lb o hj),?_⟩
 refine aB (jV o (by omega) w1 (he.step b1)) ?_
 rintro _ w5 ⟨rfl,b5⟩
 have B5:=ab b1 b5 b1.size
 refine⟨_,rfl,ae.of (λh=>?_) (λh=>⟨by unfold J3;rw[h];rfl,B5⟩)⟩
 refine⟨rfl,_,(A1.below b5).load1 aF rfl (i:=19) (AR o 0),?_⟩
 refine aB (qX r.path w5) ?_
 rintro _ w9 ⟨rfl,b9⟩
 have B9:=ab B5 b9 B5.size
 have A9:=(A1.below b5).below b9
 refine⟨_,rfl,ae.of (λh2=>?_) (λh2=>⟨by unfold J3;rw[h,h2];rfl,B9⟩)⟩
 refine⟨rfl,_,A9.load1 cD rfl (i:=20) (AR o 1),ae.of (λh3=>?_) (λh3=>⟨by unfold J3;rw[h,h2,h3];rfl,B9⟩)⟩
 exact⟨rfl,_,A9.load1 cD rfl (i:=20) (AR o 1),by unfold J3;rw[h,h2,h3];rfl,B9⟩
theorem OZ (b:Bool)(w:World):Cf mU #[.bool b] w (Ret λv w'=>v=vI (if b=true then 1 else 0)/\w'=w):=by
 apply yB
 cases b
 · exact ae.no rfl ⟨rfl,rfl⟩
 · exact ae.yes rfl ⟨rfl,rfl⟩
theorem iM:Whl prog av 22:=⟨⟨_,_,pk⟩,by kernel_rfl⟩
theorem TO {x y:List UInt8} :mkS x=mkS y ↔ x=y:=⟨Oz,λh=>by rw[h]⟩
theorem QQ {w:World}{A:Bl}{a:Option Addr}{n c:Nat}{xs:List (List UInt8)}(ho:Sl tS w A a n c xs)(hne:xs≠[])(x:List UInt8)(hx:xs.length <=9223372036854775807):
   Cf hZ #[.slice a n c,vS x] w (Ret λv w'=>v=vI (Lib.idxOfS (xs.map mkS) (mkS x))/\w'=w):=by
 have hn:=ho.1
 subst hn
 obtain⟨b,off,rfl,hc⟩:=Js ho hne
 refine(Tryz.slices_Index_string b off xs.length c (xs.map mkS) (mkS x) w (by simp) hx hc).mono ?_
 rintro _ _ ⟨rfl,rfl⟩
 rw[List.take_of_length_le (by simp)]
 exact⟨_,rfl,rfl,rfl⟩
end Go.Pk
