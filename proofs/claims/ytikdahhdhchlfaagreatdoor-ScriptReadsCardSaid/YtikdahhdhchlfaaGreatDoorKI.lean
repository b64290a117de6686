/- What the laws lean on: HdrE, HdrF, V2, HdrG, HdrH, DateV, DateX, HdrI, HdrJ, AdmA, AdmB, ShS, V10, ShT, ShU, ShV; what is used. Its conditions: none. -/
import Derived.Test.YtikdahhdhchlfaaGreatDoorKH
set_option linter.unusedVariables false
set_option linter.unusedSimpArgs false
set_option linter.unusedSectionVars false
set_option maxRecDepth 100000
open Go.IntKind (i64)
open Go.Proofs.Tryz
open List (length)
open Option (isSome)
namespace Go.Pk
open Go.RowKit (Below)
open Go.Proofs
def GM (s:List UInt8)(w:World)(v:Value)(w':World):Prop:=v=.tuple #[(cK s).1.v,vI (cK s).2]/\bW w w'
theorem Jb (s:List UInt8):(bK 59 [] s).length≠0/\∀h:0<(bK 59 [] s).length,(bK 59 [] s)[0]=(bK 59 [] s).headD []:=by
 have h:=gQ 59 s []
 cases hc:bK 59 [] s with
 | nil=>exact absurd hc h
 | cons x l=>exact⟨by simp,λ_=>rfl⟩
theorem HC {w:World}{A:Bl}{a:Option Addr}{n c:Nat}{xs:List (List UInt8)}(h:Sl tS w A a n c xs){i:Nat}(hi:i<xs.length):(Instr.loadAt ah (.pointer (aq a (i:Int) 1))).run prog w=.ok (.string (mkS xs[i])) w:=by
 obtain⟨v,hv,hrep⟩:=h.load1 (i:=(i:Int)) av rfl rfl (by simpa using hi)
 obtain⟨rfl,-⟩:=lZ hrep
 simpa using hv
theorem qI (s:List UInt8)(hs:s.length <=2000000000)(w:World)(he:Env w):Cf jF #[vS s] w (Ret (GM s w)):=by
 apply ze
 intro k2 w2 hk2 hw2
 have hB2:=(hw2▸ai w _:bW w w2)
 have ha2:ao w2 k2 ax CO.cells:=ao.new hk2 hw2
 have hk2w:w.heap.size <=k2:=by omega
 have hs2:w2.heap.size=w.heap.size+1:=by rw[hw2];simp
 refine aw (xt s (by omega) w2) ?_
 rintro _ w3 ⟨rfl,hb3⟩
 have hB3:=aa hB2 hb3 hB2.size
 have ha3:=ha2.below hb3
 refine⟨_,rfl,?_⟩
 have post:∀{h:Hdr} {e:Int},cK s=(h,e)->∀wx,bW w wx->GM s w (.tuple #[h.v,vI e]) wx:=λhp wx hb=>⟨by rw[hp],hb⟩
 refine ab.of (λh1=>?_) (λh1=>?_)
 · exact Fq CO ha3 rfl hB3 hk2w (post (by unfold cK;rw[if_pos h1]))
 have h1': ¬ s.any qd=true:=by rw[h1];decide
 refine aw (dV s 59 (by omega) w3 (he.step hB3)) ?_
 rintro _ w4 ⟨a,n,c,rfl,ho4,hf4,hb4⟩
 have hB4:=aa hB3 hb4 hB3.size
 have ha4:=ha3.below hb4
 refine⟨_,_,_,rfl,?_⟩
 intro k5 w5 hk5 hw5
 have hb5:=(hw5▸ai w4 _:bW w4 w5)
 have hB5:=aa hB4 hb5 hB4.size
 have ha5:=ha4.below hb5
 have hh5:ao w5 k5 ax CO.cells:=ao.new hk5 hw5
 have ho5:=ho4.below hb5
 have hlt2:=ha4.lt
 have hne:k2≠k5:=by omega
 have hk5w:w.heap.size <=k5:=by have:=hB4.size;omega
 have hog:∀g,eJ a=some g->g≠k5:=λg hg e=>by have:=ho4.lt g hg;omega
 have hn:=ho5.len
 obtain⟨hl0,hhead⟩:=Jb s
 have hlens:∀x∈bK 59 [] s,x.length <=s.length:=λx hx=>by simpa using fI 59 s [] x hx
 have hpar:cK s=if(nameOf ((bK 59 [] s).headD [])).1++(nameOf ((bK 59 [] s).headD [])).2=[]then(CO,82)
   else if 4096<(nameOf ((bK 59 [] s).headD [])).1.length+(nameOf ((bK 59 [] s).headD [])).2.length then(CO,83)
   else(((bK 59 [] s).drop 1).foldl zv { CO with name:=(nameOf ((bK 59 [] s).headD [])).1,value:=(nameOf ((bK 59 [] s).headD [])).2 },0):=by
   unfold cK;rw[if_neg h1']
 have hcl:=dK 59 s []
 generalize bK 59 [] s=L at*
 have hl1:0<L.length:=by omega
 subst hn
 have l0:=HC ho5.all hl1
 rw[hhead hl1]at l0
 have hx0:=hlens _ (List.getElem_mem hl1)
 rw[hhead hl1]at hx0
 generalize L.headD []=x0 at*
 refine⟨⟨⟨by decide,by omega⟩,ho5.all.isSome hl1⟩,x0,l0,?_⟩
 refine aw (sC x0 (by omega) w5 (he.step hB5)) ?_
 rintro _ w6 ⟨rfl,hb6⟩
 have hB6:=aa hB5 hb6 hB5.size
 refine⟨_,_,_,rfl,?_⟩
 have hp1:=GT x0
 have hp2:=GS x0
 refine⟨λa b w'=>w'=w6/\a=(nameOf x0).1/\b=(nameOf x0).2,?_,?_⟩
 · unfold nameOf
   cases NK x0
   · exact ab.yes rfl ⟨rfl,rfl,rfl⟩
   · exact ab.no rfl ⟨rfl,rfl,rfl⟩
 intro nm vl
 refine aJ.of ?_ _
 rintro w6' ⟨hw6,hnm,hvl⟩
 subst hw6
 have hnl:nm.length <=s.length/\vl.length <=s.length:=by
   rw[hnm,hvl];unfold nameOf
   split
   · exact⟨by simp only;omega,by simp only;omega⟩
   · exact⟨by simp,by simp only;omega⟩
 rw[<- hnm,<- hvl]at hpar
 refine⟨fits (by omega),?_⟩
 rintro _ rfl
 have ha6:=ha5.below hb6
 have hh6:=hh5.below hb6
 have ho6:=ho5.below hb6
 refine ab.of (λh2=>?_) (λh2=>?_)
 · rw[beq_iff_eq]at h2
   rw[if_pos h2]at hpar
   exact Fq CO ha6 rfl hB6 hk2w (post hpar)
 rw[beq_eq_false_iff_ne]at h2
 rw[if_neg h2]at hpar
 rw[wrap_i64 (by omega) (by omega)]
 refine ab.of (λh3=>?_) (λh3=>?_) <;> simp only[gt_iff_lt,dTx,dFx]at h3
 · rw[if_pos (by omega)]at hpar
   exact Fq CO ha6 rfl hB6 hk2w (post hpar)
 rw[if_neg (by omega)]at hpar
 refine⟨rfl,?_⟩
 obtain⟨w7,hs7,hh7,hg7⟩:=hh6.put (P:=prog) dI (i:=0) (v:=vS nm) (by simp[Hdr.cells]) rfl rfl
 refine⟨w7,hs7,rfl,?_⟩
 obtain⟨w8,hs8,hh8,hg8⟩:=hh7.put (P:=prog) dI (i:=1) (v:=vS vl) (by simp[Hdr.cells]) rfl rfl
 have hgg:=bL hg7 hg8
 have hh8':ao w8 k5 ax ({ CO with name:=nm,value:=vl } :Hdr).cells:=hh8
 have hk5r:∀x,some k5=some x->w.heap.size <=x:=λx e=>by cases e;exact hk5w
 refine⟨w8,hs8,⟨by decide,by omega⟩,?_⟩
 have fh:∀{u u':World},Ow tS ah u NoB a L.length c L->u.grownBy u' (some k5)->Ow tS ah u' NoB a L.length c L:=λho hg=>ho.keep (dX hg λb hb e=>by
   rcases hb with hb|hb
   · exact hb
   · exact hog b hb.symm (Option.some.inj e))
 have e1:Int.toNat (1:Int)=1:=rfl
 rw[e1]
 refine⟨λm i w'=>∃j:Nat,j <=(L.drop 1).length/\i=(j:Int)/\m=(L.drop 1).length-j/\ao w' k5 ax (((L.drop 1).take j).foldl zv { CO with name:=nm,value:=vl }).cells/\
     ao w' k2 ax CO.cells/\Ow tS ah w' NoB a L.length c L/\bW w w',
   ⟨_,0,by omega,rfl,rfl,hh8',ha6.grown hgg (λe=>hne (Option.some.inj e)),fh ho6 hgg,hB6.grown hgg hB6.size hk5r⟩,?_⟩
 intro m i
 refine aJ.of ?_ _
 rintro w9 ⟨j,hj,rfl,rfl,hh9,ha9,ho9,hB9⟩
 have hdl:(L.drop 1).length=L.length-1:=List.length_drop ..
 refine ab.of (λh4=>?_) (λh4=>?_) <;> simp only[dTx,dFx]at h4
 · have hjl:j<(L.drop 1).length:=by omega
   have hsl:=ho9.all.from 1 hl1 (k:=1) rfl
   have ew:i64.wrap ((j:Int)+1)=((j+1:Nat):Int):=by rw[wrap_i64 (by omega) (by omega)];omega
   try dsimp only
   rw[ew]
   have hnext:((L.drop 1).take (j+1)).foldl zv { CO with name:=nm,value:=vl } =zv (((L.drop 1).take j).foldl zv { CO with name:=nm,value:=vl }) (L.drop 1)[j]:=by
     rw[List.take_succ_eq_append_getElem hjl,List.foldl_append];rfl
   have hxl:=hlens _ (List.mem_of_mem_drop (List.getElem_mem hjl))
   refine⟨⟨⟨by omega,h4⟩,hsl.isSome hjl⟩,_,HC hsl hjl,?_⟩
   generalize (L.drop 1)[j]=x at*
   generalize ((L.drop 1).take j).foldl zv { CO with name:=nm,value:=vl } =H at*
   have hq1:=GT x
   have hq2:=GS x
   refine aw (sC x (by omega) w9 (he.step hB9)) ?_
   rintro _ w10 ⟨rfl,hb10⟩
   have hB10:=aa hB9 hb10 hB9.size
   refine⟨_,_,_,rfl,?_⟩
   refine ab.of (λh5=>?_) (λh5=>?_) <;> simp only[dTx,dFx]at h5
   · refine aw (dU _ (by omega) w10) ?_
     rintro _ w11 ⟨rfl,hb11⟩
     have hB11:=aa hB10 hb11 hB10.size
     refine⟨_,rfl,?_⟩
     refine aw (ul k5 H _ (xW x) (by omega) w11 ((hh9.below hb10).below hb11)) ?_
     rintro _ w12 ⟨rfl,hh12,hg12⟩
     refine⟨rfl,(L.drop 1).length-(j+1),by omega,j+1,by omega,rfl,rfl,?_,((ha9.below hb10).below hb11).grown hg12 (λe=>hne (Option.some.inj e)),fh ((ho9.below hb10).below hb11) hg12,hB11.grown hg12 hB11.size hk5r⟩
     rw[hnext];unfold zv
     rw[if_pos (by omega)];exact hh12
   · refine⟨(L.drop 1).length-(j+1),by omega,j+1,by omega,rfl,rfl,?_,ha9.below hb10,ho9.below hb10,hB10⟩
     rw[hnext];unfold zv
     rw[if_neg (by omega)];exact hh9.below hb10
 · have:j=(L.drop 1).length:=by omega
   subst this
   rw[List.take_length]at hh9
   refine⟨_,_,_,_,_,_,_,_,_,_,_,jI _ hh9,?_⟩
   exact Fq _ ha9 rfl hB9 hk2w (post hpar)
abbrev kE:List UInt8:=[101,120,112,105,114,101,115]
abbrev kA:List UInt8:=[109,97,120,45,97,103,101]
abbrev kD:List UInt8:=[100,111,109,97,105,110]
abbrev kP:List UInt8:=[112,97,116,104]
abbrev kS:List UInt8:=[115,101,99,117,114,101]
abbrev kH:List UInt8:=[104,116,116,112,111,110,108,121]
abbrev kM:List UInt8:=[115,97,109,101,115,105,116,101]
def a1 (key v:List UInt8)(h:Hdr):Hdr:=if key=kE then(if xi (nv v)then{ h with hasE:=true,exp:=iw (nv v) } else h)else h
def a2 (key v:List UInt8)(h:Hdr):Hdr:=if key=kA then(match RL v with|some n=> { h with hasA:=true,age:=n }|none=>h)else h
def a3 (key v:List UInt8)(h:Hdr):Hdr:=if key=kD then{ h with domain:=co (if v.head?=some 46 then v.drop 1 else v) } else h
def a4 (key v:List UInt8)(h:Hdr):Hdr:=if key=kP then{ h with path:=if v.head?=some 47 then v else[] } else h
def a5 (key:List UInt8)(h:Hdr):Hdr:=if key=kS then{ h with sec:=true } else h
def a6 (key:List UInt8)(h:Hdr):Hdr:=if key=kH then{ h with http:=true } else h
def a7 (key v:List UInt8)(h:Hdr):Hdr:=if key=kM then{ h with same:=JP v } else h
theorem qZ (a b:Int){w K}(h:uS kF #[vI a,vI b] w λc d=>K (vS c) d):Cf dy #[vI a,vI b] w (Ret K):=ru func93 [] h
def I6 (s:List UInt8):List UInt8:=if trimB s=s/\s.head?≠some 46 then s else 46::s
def pE:List UInt8:=[69,120,112,105,114,101,115,61]
def pA:List UInt8:=[77,97,120,45,65,103,101,61]
def pD:List UInt8:=[68,111,109,97,105,110,61]
def pP:List UInt8:=[80,97,116,104,61]
def pS:List UInt8:=[83,101,99,117,114,101]
def pH:List UInt8:=[72,116,116,112,79,110,108,121]
def pM:List UInt8:=[83,97,109,101,83,105,116,101,61]
def opt (b:Bool)(x:List UInt8):List (List UInt8):=if b then[x]else[]
noncomputable def yL (h:Hdr):List (List UInt8):=
 [h.name++[61]++h.value]++opt h.hasE (pE++mc h.exp)++opt h.hasA (pA++Lib.itoa h.age)++opt (!(h.domain==[])) (pD++I6 h.domain)++opt (!(h.path==[])) (pP++h.path)++opt h.sec pS++opt h.http pH++
   opt (decide (0<h.same)&&decide (h.same <=3)) (pM++nmL[h.same.toNat]?.getD [])
noncomputable def iv (h:Hdr):List UInt8:=Lib.join (yL h) [59,32]
structure EP (h:Hdr):Prop where
 name:h.name.length <=20000
 value:h.value.length <=20000
 domain:h.domain.length <=20000
 path:h.path.length <=20000
 exp: -9223372036854775808 <=h.exp/\h.exp <=9223372036854775807
 age: -9223372036854775808 <=h.age/\h.age <=9223372036854775807
theorem Fk (s:List UInt8):(I6 s).length <=s.length+1:=by unfold I6;split <;> simp
theorem Ie (t:Int):(mc t).length <=29:=by
 by_cases hr:t/86400 < -134774\/2932896<t/86400
 · rw[EH hr];simp
 · obtain⟨y,m,d,hd,he⟩:=RQ (n:=t/86400) (by omega) (by omega)
   rw[Gw hd he]
   have h1:∀k:Nat,k<7->(Cy (k:Int)).length=3:=by decide
   have h2:∀k:Nat,k<12->(Jy ((k:Int)+1)).length=3:=by decide
   have e1:=h1 (t/86400%7).toNat (by omega)
   have e2:=h2 (m-1).toNat (by have:=hd.2.2.1;have:=hd.2.2.2.1;omega)
   rw[show(((t/86400%7).toNat:Nat):Int)=t/86400%7 by omega]at e1
   rw[show(((m-1).toNat:Nat):Int)+1=m by have:=hd.2.2.1;omega]at e2
   unfold DT pF
   simp only[List.length_append,gW,e1,e2,List.length_cons,List.length_nil]
   omega
def Tf (h g:Hdr):Bool:=(h.name==g.name)&&((h.value==g.value)&&((h.domain==g.domain)&&((h.path==g.path)&&((h.hasE==g.hasE)&&((h.exp==g.exp)&&((h.hasA==g.hasA)&&((h.age==g.age)&&((h.sec==g.sec)&&((h.http==g.http)&&((h.same==g.same)&&true))))))))))
structure CD (w0:World)(tl ts th:TypeId)(k1 k3:Nat)(h:Hdr)(xs:List (List UInt8))(w:World):Prop where
 slot:∃a l c,ao w k3 tl [.slice a l c]/\Ow tS ts w NoB a l c xs/\bU w0.heap.size a/\∀g,eJ a=some g->g≠k3/\g≠k1
 hdr:ao w k1 th h.cells
 hb:bW w0 w
 hk1:w0.heap.size <=k1
 hk3:w0.heap.size <=k3
 hne:k1≠k3
theorem CD.below {w0:World}{tl ts th:TypeId}{k1 k3:Nat}{h:Hdr}{xs:List (List UInt8)}{w w':World}(S:CD w0 tl ts th k1 k3 h xs w)(hb:bW w w'):CD w0 tl ts th k1 k3 h xs w':=by
 obtain⟨a,l,c,h1,h2,h3,h4⟩:=S.slot
 exact⟨⟨a,l,c,h1.below hb,h2.below hb,h3,h4⟩,S.hdr.below hb,aa S.hb hb S.hb.size,S.hk1,S.hk3,S.hne⟩
theorem CD.get {P:Program}{u:TypeId}{d:TypeDesc}(hu:P.underlying u=some d)(ha:CE d=false){w0:World}{tl ts th:TypeId}{k1 k3:Nat}{h:Hdr}{xs:List (List UInt8)}{w:World}(S:CD w0 tl ts th k1 k3 h xs w)
   {i:Nat} {v:Value} (hv:h.cells[i]? =some v):(Instr.loadAt u (.pointer (some ⟨k1,i,none⟩))).run P w=.ok v w:=S.hdr.load1 hu ha hv
abbrev IA (w0:World)(k1 k3:Nat)(h:Hdr)(xs:List (List UInt8))(w:World):Prop:=CD w0 aH ah ax k1 k3 h xs w
theorem fC {w0:World}{k1 k3:Nat}{h:Hdr}{xs:List (List UInt8)}{w:World}(S:IA w0 k1 k3 h xs w)(hx:xs.length <=1000)(b:Bool)(s:List UInt8):
   Cf aX #[.bool b,vS s,.pointer (some ⟨k3,0,none⟩)] w (Ret λv w'=>v=.tuple #[]/\IA w0 k1 k3 h (xs++opt b s) w'):=by
 apply qT
 refine ab.of (λhb=>?_) (λhb=>?_)
 · subst hb
   obtain⟨a,l,c,h1,h2,h3,h4⟩:=S.slot
   refine⟨a,l,c,h1.load1 dW rfl rfl,?_⟩
   intro k8 w8 hk8 hw8
   have hB8:=(hw8▸ai w _:bW w w8)
   have hsrc:Src tS w8 NoB (some ⟨k8,0,none⟩) 1 [s]:=Src.new1F (dN _) hk8 hw8 (eN trivial)
   obtain⟨w9,a9,l9,c9,hr,ho9,hg9,hf9⟩:=eZ (ty:=aH) dW dI (by decide) (h2.below hB8) (λ_ _ h=>h) (cm:=1) hsrc (by simp;omega)
   have hlt1:=S.hdr.lt
   have hlt3:=h1.lt
   have h1':=(h1.below hB8).grown hg9 (λe=>(h4 k3 e.symm).1 rfl)
   have hh':=(S.hdr.below hB8).grown hg9 (λe=>(h4 k1 e.symm).2 rfl)
   have hbb:=aa S.hb hB8 S.hb.size
   have h49:∀g,eJ a9=some g->g≠k3/\g≠k1:=λg hg=>by
     rcases hf9 g hg with e|e
     · exact h4 g e
     · have:=hB8.size;exact⟨by omega,by omega⟩
   refine⟨w9,a9,l9,c9,hr,?_⟩
   obtain⟨wx,hsx,hax,hgx⟩:=h1'.put (P:=prog) yp (i:=0) (v:=.slice a9 l9 c9) (by simp) rfl rfl
   refine⟨wx,hsx,rfl,⟨a9,l9,c9,hax,ho9.keep (dX hgx λg hg e=>?_),?_,h49⟩,hh'.grown hgx (λe=>S.hne (Option.some.inj e)),(hbb.grown hg9 hbb.size h3).grown hgx ?_ ?_,S.hk1,S.hk3,S.hne⟩
   · rcases hg with hg|hg
     · exact hg
     · exact(h49 g hg.symm).1 (Option.some.inj e)
   · exact h3.app hbb.size hf9
   · exact(hbb.grown hg9 hbb.size h3).size
   · intro x e;cases e;exact S.hk3
 · subst hb
   refine⟨rfl,?_⟩
   show IA w0 k1 k3 h (xs++[]) w
   rw[List.append_nil];exact S
theorem yR (s:List UInt8)(hs:s.length <=1000000)(w:World):Cf gx #[vS s] w (Ret λv w'=>v=vS (I6 s)/\bW w w'):=by
 apply xG
 refine aw (kT s (by omega) w) ?_
 rintro _ w1 ⟨rfl,hb⟩
 refine⟨_,rfl,?_⟩
 refine ab.of (λh=>?_) (λh=>?_)
 · refine⟨fits (by simp;omega),?_⟩
   rintro _ rfl
   refine⟨?_,hb⟩
   unfold I6
   rw[if_neg (λhc=>by rw[hc.1]at h;simp at h)];rfl
 · have ht:trimB s=s:=by simpa using h
   refine(Tryz.strings_HasPrefix (mkS s) (mkS [46]) w1).mono ?_
   rintro _ _ ⟨rfl,rfl⟩
   have e:Lib.hasPrefix (mkS s).data.toList (mkS [46]).data.toList=decide (s.head?=some 46):=(zQ s 46).1
   rw[e]
   refine⟨_,rfl,?_⟩
   refine ab.of (λh2=>?_) (λh2=>?_) <;> simp only[dTx,dFx]at h2
   · refine⟨fits (by simp;omega),?_⟩
     rintro _ rfl
     refine⟨?_,hb⟩
     unfold I6
     rw[if_neg (λhc=>hc.2 h2)];rfl
   · refine⟨?_,hb⟩
     unfold I6
     rw[if_pos ⟨ht,h2⟩]
theorem AF (n:Int)(h0: -9223372036854775808 <=n)(h1:n <=9223372036854775807)(w:World)(ht:GN prog w):Cf dy #[vI n,vI 10] w (Ret λv w'=>v=vS (Lib.itoa n)/\bW w w'):=by
 apply qZ
 refine(Tryz.internal_strconv_FormatInt_10 n h0 h1 w ht).mono ?_
 rintro _ _ ⟨rfl,k,os,rfl⟩
 exact⟨Lib.itoa n,rfl,rfl,tW w k os⟩
theorem AN (xs:List (List UInt8)){w0:World}{k1 k3:Nat}{h:Hdr}{w:World}(S:IA w0 k1 k3 h xs w)(hx:xs.length <=1000)(hl:(Lib.join xs [59,32]).length <=1000000)(K:Value->World->Prop)(hK:∀w',bW w0 w'->K (vS (Lib.join xs [59,32])) w'):
   ∃(a:Option Addr) (l c:Nat),(Instr.loadAt aH (.pointer (some ⟨k3,0,none⟩))).run prog w=.ok (.slice a l c) w/\
     Cf cJ #[.slice a l c,vS [59,32]] w λe w'=>∃(s:List UInt8),e=.returned (vS s)/\K (vS s) w':=by
 obtain⟨a,l,c,h1,h2,_,_⟩:=S.slot
 refine⟨a,l,c,h1.load1 dW rfl rfl,?_⟩
 obtain⟨hn,hnc,hcm,h4⟩:=h2.all
 subst hn
 rcases h4 with h4|⟨b,off,rfl,hbl,_,cs,hcs,hcell⟩
 · subst h4
   refine(Tryz.strings_Join_none a c (mkS [59,32]) w).mono ?_
   rintro _ _ ⟨rfl,rfl⟩
   exact⟨[],rfl,hK _ S.hb⟩
 · have he:=jr hcs
   have hj:=Tryz.strings_Join b off c (xs.map mkS) (mkS [59,32]) w (λj x hx=>by
     rw[List.getElem?_map]at hx
     cases hxj:xs[j]? with
     | none=>rw[hxj]at hx;cases hx
     | some y=>
       rw[hxj]at hx
       cases hx
       have hjl:=(List.getElem?_eq_some_iff.1 hxj).1
       rw[hcell j (by rw[he];simpa using hjl),he,List.getElem?_map,hxj];rfl) hbl (by rw[List.length_map];omega) (by rw[List.length_map];exact hnc) (by
       have e:(xs.map mkS).map (λs=>s.data.toList)=xs:=by rw[List.map_map];exact List.map_id xs
       rw[e];show(Lib.join xs [59,32]).length <=_;omega)
   rw[List.length_map]at hj
   refine hj.mono ?_
   rintro _ w' ⟨rfl,hb'⟩
   have e:(xs.map mkS).map (λs=>s.data.toList)=xs:=by rw[List.map_map];exact List.map_id xs
   rw[e]
   exact⟨_,rfl,hK _ (aa S.hb hb' S.hb.size)⟩
theorem QC (xs:List (List UInt8))(M:Nat)(h:∀x∈xs,x.length <=M):(Lib.join xs [59,32]).length <=xs.length*(M+2):=by
 cases xs with
 | nil=>simp[Lib.join_nil]
 | cons x r=>
   rw[Lib.join_cons]
   have:∀r:List (List UInt8),(∀x∈r,x.length <=M)->(Lib.joinTail [59,32] r).length <=r.length*(M+2):=by
     intro r
     induction r with
     | nil=>intro _;simp[Lib.joinTail]
     | cons y r ih=>
       intro hr
       have h1:=ih λx hx=>hr x (List.mem_cons_of_mem _ hx)
       have h2:=hr y List.mem_cons_self
       have e:Lib.joinTail [59,32] (y::r)=[59,32]++y++Lib.joinTail [59,32] r:=by simp[Lib.joinTail]
       rw[e]
       simp only[List.length_append,List.length_cons,List.length_nil,Nat.add_mul];omega
   have h1:=this r λy hy=>h y (List.mem_cons_of_mem _ hy)
   have h2:=h x List.mem_cons_self
   simp only[List.length_append,List.length_cons,Nat.add_mul];omega
theorem Ot (b:Bool)(x:List UInt8):(opt b x).length <=1:=by unfold opt;split <;> simp
theorem uz {b:Bool}{x y:List UInt8}(h:y∈opt b x):y=x:=by unfold opt at h;split at h <;> simp_all
theorem VX (h:Hdr)(ho:EP h):(Lib.join (yL h) [59,32]).length <=1000000:=by
 have hl1:=ho.name;have hl2:=ho.value;have hl3:=ho.domain;have hl4:=ho.path
 have tl:=Ie h.exp
 have il:=Lib.itoa_length_le h.age ho.age.1 ho.age.2
 have dl:=Fk h.domain
 have ol:=Ot
 have h1:(yL h).length <=8:=by
   unfold yL
   simp only[List.length_append]
   exact Nat.add_le_add (Nat.add_le_add (Nat.add_le_add (Nat.add_le_add (Nat.add_le_add (Nat.add_le_add (Nat.add_le_add (Nat.le_refl 1) (ol _ _)) (ol _ _)) (ol _ _)) (ol _ _)) (ol _ _)) (ol _ _)) (ol _ _)
 have h2:=QC (yL h) 41000 λx hx=>by
   unfold yL at hx
   simp only[List.mem_append]at hx
   rcases hx with((((((hx|hx)|hx)|hx)|hx)|hx)|hx)|hx
   · rw[List.mem_singleton.1 hx];simp;omega
   · rw[uz hx];simp[pE];omega
   · rw[uz hx];simp[pA];omega
   · rw[uz hx];simp[pD];omega
   · rw[uz hx];simp[pP];omega
   · rw[uz hx];simp[pS]
   · rw[uz hx];simp[pH]
   · rw[uz hx]
     have nl:∀k:Nat,(nmL[k]?.getD []).length <=6:=λk=>by
       by_cases hk:k<4
       · have:∀k:Nat,k<4->(nmL[k]?.getD []).length <=6:=by decide
         exact this k hk
       · rw[List.getElem?_eq_none (by simp[nmL];omega)];simp
     have:=nl h.same.toNat
     simp only[List.length_append];simp only[pM,List.length_cons,List.length_nil];omega
 have:(yL h).length*(41000+2) <=8*(41000+2):=Nat.mul_le_mul_right _ h1
 omega
theorem xu (h:Hdr)(ho:EP h)(w:World)(he:Env w):Cf j4 #[h.v] w (Ret λv w'=>v=vS (iv h)/\bW w w'):=by
 refine vQ h.name h.value h.domain h.path h.hasE h.exp h.hasA h.age h.sec h.http h.same ?_
 have hl1:=ho.name;have hl2:=ho.value;have hl3:=ho.domain;have hl4:=ho.path
 intro k1 w1 hk1 hw1
 have hB1:=(hw1▸ai w _:bW w w1)
 have hh1:ao w1 k1 ax h.cells:=ao.new hk1 hw1
 refine⟨rfl,_,hh1.load1 av rfl rfl,fits (by simp;omega),?_⟩
 rintro _ rfl
 refine⟨rfl,_,hh1.load1 av rfl rfl,fits (by simp;omega),?_⟩
 rintro _ rfl
 intro k11 w11 hk11 hw11 k3 w3 hk3 hw3
 have hB11:=(hw11▸ai w1 _:bW w1 w11)
 have hB3:=(hw3▸ai w11 _:bW w11 w3)
 have ho11:Ow tS ah w11 NoB (some ⟨k11,0,none⟩) 1 1 [h.name++[61]++h.value]:=Ow.newF (l:=[_]) (dN _) hk11 hw11 (gh.one (eN trivial)) (show 1 <=maxLen by decide)
 have ha3:ao w3 k3 aH [.slice none 0 0]:=ao.new hk3 hw3
 have hs1:w1.heap.size=w.heap.size+1:=by rw[hw1];simp
 have hs11:w11.heap.size=w1.heap.size+1:=by rw[hw11];simp
 obtain⟨wx,hsx,hax,hgx⟩:=ha3.put (P:=prog) yp (i:=0) (v:=.slice (some ⟨k11,0,none⟩) 1 1) (by simp) rfl rfl
 refine⟨wx,hsx,?_⟩
 have hB13:=aa (aa hB1 hB11 hB1.size) hB3 (aa hB1 hB11 hB1.size).size
 have S0:IA w k1 k3 h [h.name++[61]++h.value] wx:=by
   refine⟨⟨_,_,_,hax,(ho11.below hB3).keep (dX hgx λg hg e=>?_),λg hg=>?_,λg hg=>?_⟩,((hh1.below hB11).below hB3).grown hgx (λe=>by cases e;omega),hB13.grown hgx hB13.size (λx e=>by cases e;omega),by omega,by omega,by omega⟩
   · rcases hg with hg|hg
     · exact hg
     · have hg':g=k11:=by simpa[eJ]using hg
       cases e;omega
   · have hg':g=k11:=by simpa[eJ]using hg.symm
     omega
   · have hg':g=k11:=by simpa[eJ]using hg.symm
     exact⟨by omega,by omega⟩
 have htab:∀{u:World} {xs:List (List UInt8)},IA w k1 k3 h xs u->GN prog u:=λS=>(he.step S.hb).tab
 have htr:true=true:=rfl
 clear hax hgx hsx ha3 ho11 hh1 hB13 hB3 hB11 hB1 hw3 hw11 hw1
 have ol:=Ot
 have tl:=Ie h.exp
 have il:=Lib.itoa_length_le h.age ho.age.1 ho.age.2
 have dl:=Fk h.domain
 obtain⟨x0,e0⟩:∃x,x=[h.name++[61]++h.value]:=⟨_,rfl⟩
 rw[<- e0]at S0
 have n0:x0.length <=1:=by rw[e0];simp
 refine gE (λw'=>IA w k1 k3 h (x0++opt h.hasE (pE++mc h.exp)) w') ?_ ?_
 · have Sd:=S0.below (eC _)
   repeat' (first
     | exact htr
     | refine Exists.intro _ (And.intro (CD.get ci rfl (by assumption) rfl) ?_)
     | refine Exists.intro _ (And.intro (CD.get bP rfl (by assumption) rfl) ?_)
     | (refine aw (Hc _ ho.exp.1 ho.exp.2 _ (htab (by assumption))) ?_;rintro _ u ⟨rfl,hbu⟩;have Su:=CD.below (by assumption) hbu;refine Exists.intro _ (And.intro rfl ?_);refine And.intro (fits (by simp only[List.length_cons,List.length_nil];omega)) ?_;rintro _ rfl)
     | (refine aw (fC (by assumption) (by omega) _ _) ?_;rintro _ u ⟨rfl,Su⟩;exact And.intro rfl Su)
     | refine And.intro ?_ ?_)
 intro w4 S1
 clear S0
 obtain⟨x1,e1⟩:∃x,x=x0++opt h.hasE (pE++mc h.exp):=⟨_,rfl⟩
 have n1:x1.length <=2:=by rw[e1,List.length_append];exact Nat.add_le_add n0 (ol _ _)
 rw[<- e1]at S1
 refine gE (λw'=>IA w k1 k3 h (x1++opt h.hasA (pA++Lib.itoa h.age)) w') ?_ ?_
 · have Sd:=S1.below (eC _)
   repeat' (first
     | exact htr
     | refine Exists.intro _ (And.intro (CD.get ci rfl (by assumption) rfl) ?_)
     | refine Exists.intro _ (And.intro (CD.get bP rfl (by assumption) rfl) ?_)
     | (refine aw (AF _ ho.age.1 ho.age.2 _ (htab (by assumption))) ?_;rintro _ u ⟨rfl,hbu⟩;have Su:=CD.below (by assumption) hbu;refine Exists.intro _ (And.intro rfl ?_);refine And.intro (fits (by simp only[List.length_cons,List.length_nil];omega)) ?_;rintro _ rfl)
     | (refine aw (fC (by assumption) (by omega) _ _) ?_;rintro _ u ⟨rfl,Su⟩;exact And.intro rfl Su)
     | refine And.intro ?_ ?_)
 intro w5 S2
 clear S1
 obtain⟨x2,e2⟩:∃x,x=x1++opt h.hasA (pA++Lib.itoa h.age):=⟨_,rfl⟩
 have n2:x2.length <=3:=by rw[e2,List.length_append];exact Nat.add_le_add n1 (ol _ _)
 rw[<- e2]at S2
 refine gE (λw'=>IA w k1 k3 h (x2++opt (!(h.domain==[])) (pD++I6 h.domain)) w') ?_ ?_
 · have Sd:=S2.below (eC _)
   repeat' (first
     | exact htr
     | refine Exists.intro _ (And.intro (CD.get av rfl (by assumption) rfl) ?_)
     | (refine aw (yR _ (by omega) _) ?_;rintro _ u ⟨rfl,hbu⟩;have Su:=CD.below (by assumption) hbu;refine Exists.intro _ (And.intro rfl ?_);refine And.intro (fits (by simp only[List.length_cons,List.length_nil];omega)) ?_;rintro _ rfl)
     | (refine aw (fC (by assumption) (by omega) _ _) ?_;rintro _ u ⟨rfl,Su⟩;exact And.intro rfl Su)
     | refine And.intro ?_ ?_)
 intro w6 S3
 clear S2
 obtain⟨x3,e3⟩:∃x,x=x2++opt (!(h.domain==[])) (pD++I6 h.domain):=⟨_,rfl⟩
 have n3:x3.length <=4:=by rw[e3,List.length_append];exact Nat.add_le_add n2 (ol _ _)
 rw[<- e3]at S3
 refine⟨rfl,_,CD.get av rfl S3 rfl,?_⟩
 refine⟨rfl,_,CD.get av rfl S3 rfl,fits (by simp only[List.length_cons,List.length_nil];omega),?_⟩
 rintro _ rfl
 refine aw (fC S3 (by omega) _ _) ?_
 rintro _ w7 ⟨rfl,S4⟩
 refine⟨rfl,?_⟩
 obtain⟨x4,e4⟩:∃x,x=x3++opt (!(h.path==[])) (pP++h.path):=⟨_,rfl⟩
 have n4:x4.length <=5:=by rw[e4,List.length_append];exact Nat.add_le_add n3 (ol _ _)
 replace S4:IA w k1 k3 h x4 w7:=by rw[e4];exact S4
 clear S3
 refine⟨rfl,_,CD.get ci rfl S4 rfl,?_⟩
 refine aw (fC S4 (by omega) _ _) ?_
 rintro _ w8 ⟨rfl,S5⟩
 refine⟨rfl,?_⟩
 obtain⟨x5,e5⟩:∃x,x=x4++opt h.sec pS:=⟨_,rfl⟩
 have n5:x5.length <=6:=by rw[e5,List.length_append];exact Nat.add_le_add n4 (ol _ _)
 replace S5:IA w k1 k3 h x5 w8:=by rw[e5];exact S5
 clear S4
 refine⟨rfl,_,CD.get ci rfl S5 rfl,?_⟩
 refine aw (fC S5 (by omega) _ _) ?_
 rintro _ w9 ⟨rfl,S6⟩
 refine⟨rfl,?_⟩
 obtain⟨x6,e6⟩:∃x,x=x5++opt h.http pH:=⟨_,rfl⟩
 have n6:x6.length <=7:=by rw[e6,List.length_append];exact Nat.add_le_add n5 (ol _ _)
 replace S6:IA w k1 k3 h x6 w9:=by rw[e6];exact S6
 clear S5
 obtain⟨x7,e7⟩:∃x,x=x6++opt (decide (0<h.same)&&decide (h.same <=3)) (pM++nmL[h.same.toNat]?.getD []):=⟨_,rfl⟩
 have n7:x7.length <=8:=by rw[e7,List.length_append];exact Nat.add_le_add n6 (ol _ _)
 have ew:yL h=x7:=by subst e7;subst e6;subst e5;subst e4;subst e3;subst e2;subst e1;subst e0;rfl
 have hJ:(Lib.join x7 [59,32]).length <=1000000:=by rw[<- ew];exact VX h ho
 refine uX (λb w'=>b=(decide (0<h.same)&&decide (h.same <=3))/\IA w k1 k3 h x6 w') ?_ ?_
 · refine⟨rfl,_,CD.get bG rfl S6 rfl,?_⟩
   refine ab.of (λhc=>?_) (λhc=>?_) <;> simp only[dTx,dFx,gt_iff_lt]at hc
   · exact⟨rfl,_,CD.get bG rfl S6 rfl,by rw[decide_eq_true hc];rfl,S6⟩
   · exact⟨by rw[decide_eq_false hc];rfl,S6⟩
 rintro b w10 ⟨hb,S⟩
 refine ab.of (λhc=>?_) (λhc=>?_)
 · rw[hb]at hc
   have hc':0<h.same/\h.same <=3:=by simpa using hc
   have hx:x7=x6++opt true (pM++nmL[h.same.toNat]?.getD []):=by rw[e7,hc]
   have hn:((h.same.toNat:Nat):Int)=h.same:=by omega
   have hi:∀u,(Instr.index cO nmV (vI h.same)).run prog u=.ok (vS (nmL[h.same.toNat]?.getD [])) u:=λu=>by
     have:=KJ u h.same.toNat (by omega)
     rwa [hn]at this
   have nl:(nmL[h.same.toNat]?.getD []).length <=6:=by
     have:∀k:Nat,k<4->(nmL[k]?.getD []).length <=6:=by decide
     exact this _ (by omega)
   have Sd:=S.below (eC _)
   clear S6
   refine⟨rfl,?_,?_⟩
   · refine aw (lI _) ?_
     rintro _ u ⟨rfl,hbu⟩
     have Su:=Sd.below hbu
     refine⟨_,_,_,_,rfl,_,CD.get bG rfl Su rfl,_,hi u,fits (by simp only[List.length_cons,List.length_nil];omega),?_⟩
     rintro _ rfl
     refine aw (fC Su (by omega) _ _) ?_
     rintro _ u2 ⟨rfl,S7⟩
     have S7':IA w k1 k3 h x7 u2:=by rw[hx];exact S7
     refine⟨rfl,?_⟩
     exact AN x7 S7' (by omega) hJ (λv w'=>v=vS (iv h)/\bW w w') λw' hb'=>⟨by rw[iv,ew],hb'⟩
   · refine⟨_,CD.get bG rfl Sd rfl,?_⟩
     refine aw (lI _) ?_
     rintro _ u ⟨rfl,hbu⟩
     have Su:=Sd.below hbu
     refine⟨_,_,_,_,rfl,_,hi u,fits (by simp only[List.length_cons,List.length_nil];omega),?_⟩
     rintro _ rfl
     refine aw (fC Su (by omega) _ _) ?_
     rintro _ u2 ⟨rfl,S7⟩
     have S7':IA w k1 k3 h x7 u2:=by rw[hx];exact S7
     refine⟨rfl,?_⟩
     exact AN x7 S7' (by omega) hJ (λv w'=>v=vS (iv h)/\bW w w') λw' hb'=>⟨by rw[iv,ew],hb'⟩
 · rw[hb]at hc
   have hx:x7=x6:=by rw[e7,hc];exact List.append_nil _
   have S7':IA w k1 k3 h x7 w10:=by rw[hx];exact S
   exact AN x7 S7' (by omega) hJ (λv w'=>v=vS (iv h)/\bW w w') λw' hb'=>⟨by rw[iv,ew],hb'⟩
noncomputable def HR (h:Hdr):Bool:=decide ((cK (iv h)).2=0)&&Tf (cK (iv h)).1 h
theorem NL (h:Hdr)(w:World){R:Nat->World->Prop}(H:∀k wx,k=w.heap.size->ao wx k ax h.cells->bW w wx->R k wx):
   ∀(k:Nat) (w1:World),k=w.heap.size->w1=w.alloc (.cells #[vS [],vS [],vS [],vS [],.bool false,vI 0,.bool false,vI 0,.bool false,.bool false,vI 0] ax)->
     ∃(wx:World),(Instr.storeAt ax (.pointer (some ⟨k,0,none⟩)) h.v).run prog w1=.ok () wx/\R k wx:=by
 intro k w1 hk hw
 have hB:=(hw▸ai w _:bW w w1)
 obtain⟨wx,hs,h3,hg⟩:=Hp h (ao.new hk hw:ao w1 k ax CO.cells) rfl
 exact⟨wx,hs,H k wx hk h3 (hB.grown hg hB.size λx e=>by cases e;omega)⟩
theorem AJ (h:Hdr)(w:World){k:Nat}{w1:World}(hk:k=w.heap.size)(hw:w1=w.alloc (.cells h.cells.toArray ax)):ao w1 k ax h.cells/\bW w w1:=
 ⟨ao.new hk hw,hw▸ai w _⟩
theorem SU (h g:Hdr):eqV prog 10000 ax h.v g.v=some (Tf h g):=by kernel_rfl
theorem NG:prog.eqGuardType prog.depth ax=false:=by kernel_rfl
theorem UB (h g:Hdr){x y:Operand}(w:World):((do eqGuard .eql ax x y h.v g.v;binOp .eql ax h.v g.v:Sem Value)).run prog w=.ok (.bool (Tf h g)) w:=
 Ez NG (SU h g) w
theorem AK (h:Hdr)(ho:EP h)(w:World)(he:Env w):Cf mY #[h.v] w (Ret λv w'=>v=.bool (HR h)/\bW w w'):=by
 refine zf h.name h.value h.domain h.path h.hasE h.exp h.hasA h.age h.sec h.http h.same ?_
 intro k1 w1 hk1 hw1
 obtain⟨hh1,hB1⟩:=AJ h w hk1 hw1
 refine⟨h.name,h.value,h.domain,h.path,h.hasE,h.exp,h.hasA,h.age,h.sec,h.http,h.same,jI h hh1,?_⟩
 refine aw (xu h ho w1 (he.step hB1)) ?_
 rintro _ w2 ⟨rfl,hb2⟩
 have hB2:=aa hB1 hb2 hB1.size
 have hh2:=hh1.below hb2
 refine⟨_,rfl,?_⟩
 refine aw (qI (iv h) (by have:=VX h ho;unfold iv;omega) w2 (he.step hB2)) ?_
 rintro _ w3 ⟨rfl,hb3⟩
 have hB3:=aa hB2 hb3 hB2.size
 have hh3:=hh2.below hb3
 refine⟨_,_,_,_,_,_,_,_,_,_,_,_,rfl,?_⟩
 refine NL (cK (iv h)).1 w3 λk3 w4 hk3 h4 hb4=>?_
 have hB4:=aa hB3 hb4 hB3.size
 have hh4:=hh3.below hb4
 refine ab.of (λhc=>?_) (λhc=>?_)
 · rw[beq_iff_eq]at hc
   refine⟨_,_,_,_,_,_,_,_,_,_,_,jI _ h4,_,_,_,_,_,_,_,_,_,_,_,jI _ hh4,_,UB _ _ _,?_,hB4⟩
   rw[HR,decide_eq_true hc];rfl
 · rw[beq_eq_false_iff_ne]at hc
   refine⟨?_,hB4⟩
   rw[HR,decide_eq_false hc];rfl
abbrev U3 (w:World)(v:Value)(w':World):Prop:=v=.bool true/\bW w w'
theorem rV:∀(a cur r:List UInt8) (c:UInt8),(∀x∈a,jf x=false)->jf c=true->G9 cur (a++c::r)=(cur++a)::G9 [] r
 | [],cur,r,c,_,hc=>by
   show(if jf c=true then _ else _)=_
   rw[if_pos hc,List.append_nil]
 | x::a,cur,r,c,ha,hc=>by
   have hx:=ha x List.mem_cons_self
   show(if jf x=true then _ else _)=_
   rw[if_neg (by rw[hx];decide)]
   exact(rV a (cur++[x]) r c (λy hy=>ha y (List.mem_cons_of_mem _ hy)) hc).trans (by simp)
theorem Ks:∀(a r:List UInt8),(∀x∈a,eA x=true)->gw (a++r)=a++gw r
 | [],r,_=>rfl
 | x::a,r,h=>by
   unfold gw
   rw[List.cons_append,List.takeWhile_cons,if_pos (h x List.mem_cons_self)]
   show x::gw (a++r)=_
   rw[Ks a r λy hy=>h y (List.mem_cons_of_mem _ hy)];rfl
theorem mg (n:Int):∀x∈iH n,eA x=true:=by
 intro x hx
 simp only[iH,List.mem_cons,List.mem_nil_iff,or_false]at hx
 rcases hx with rfl|rfl
 · exact(qo _).1
 · exact(qo _).1
theorem Hg:∀n,n<256->eA (UInt8.ofNat n)=true->jf (UInt8.ofNat n)=false:=by decide+kernel
theorem vg {x:UInt8}(h:eA x=true):jf x=false:=by
 have:=Hg x.toNat (by have:=x.toNat_lt;omega)
 rw[UInt8.ofNat_toNat]at this;exact this h
theorem VQ {n:Int}(h0:0 <=n)(h1:n<100):ez (iH n)=n:=by
 have h:=(qo (n/10)).2
 have h2:=(qo n).2
 show(0*10+(((LH (n/10)).toNat:Int)-48))*10+(((LH n).toNat:Int)-48)=n
 omega
theorem V8 {n:Int}(h0:0 <=n)(h1:n<10000):ez (iH (n/100)++iH (n%100))=n:=by
 have h:=(qo (n/100/10)).2
 have h2:=(qo (n/100)).2
 have h3:=(qo (n%100/10)).2
 have h4:=(qo (n%100)).2
 show(((0*10+(((LH (n/100/10)).toNat:Int)-48))*10+(((LH (n/100)).toNat:Int)-48))*10+(((LH (n%100/10)).toNat:Int)-48))*10+(((LH (n%100)).toNat:Int)-48)=n
 omega
theorem Cb {i:Nat}{s u:List UInt8}(hc:Aq i s=some u){n:Int}{r:List UInt8}(hu:u=iH n++r)(hr:gw r=[])(h0:0 <=n)(h1:n<100):zw i s=some (n,r):=by
 unfold zw
 have hd:gw u=iH n:=by rw[hu,Ks _ _ (mg n),hr,List.append_nil]
 rw[hc,Option.bind_some,hd,if_pos ⟨by rw[gW];decide,by rw[gW];decide⟩,VQ h0 h1,hu]
 rfl
theorem Lz {s:Int}(h0:0 <=s)(h1:s<86400):iI (pF s)=some [s/3600,s/60%60,s%60]:=by
 have e:pF s=iH (s/3600)++(58::(iH (s/60%60)++(58::iH (s%60)))):=by simp[pF]
 unfold iI
 rw[e]
 unfold du
 rw[Cb (u:=_) (n:=s/3600) rfl rfl rfl (by omega) (by omega),Option.bind_some]
 unfold du
 rw[Cb (i:=1) (u:=iH (s/60%60)++(58::iH (s%60))) rfl rfl rfl (by omega) (by omega),Option.bind_some]
 unfold du
 rw[Cb (i:=2) (u:=iH (s%60)) (r:=[]) rfl (List.append_nil _).symm rfl (by omega) (by omega),Option.bind_some]
 rfl
theorem D8 {s:List UInt8}(h:∀c r,s.drop (gw s).length=c::r->c≠58):iI s=none:=by
 unfold iI du
 have e0:zw 0 s=TD s:=rfl
 rw[e0]
 unfold TD
 split
 · rw[Option.bind_some]
   have:du 2 (0+1) (s.drop (gw s).length)=none:=by
     rw[CK]
     have hc:Aq (0+1) (s.drop (gw s).length)=none:=by
       unfold Aq
       rw[if_neg (by decide)]
       cases hs:s.drop (gw s).length with
       | nil=>rfl
       | cons c r=>rw[if_neg (by have:=h c r hs;simpa using this)]
     rw[hc];rfl
   show(du 2 (0+1) (s.drop (gw s).length)).map _=none
   rw[this];rfl
 · rfl
theorem TN {f:Fnd}{d:Int}(h0:0 <=d)(h1:d<100)(hf:f.day=false):zA f (iH d)= { f with d:=d,day:=true } :=by
 have hd:gw (iH d)=iH d:=by have:=Ks (iH d) [] (mg d);rw[List.append_nil]at this;rw[this];exact List.append_nil _
 have hc:iI (iH d)=none:=D8 λc r h=>by rw[hd,List.drop_length]at h;cases h
 rcases lu f (iH d)with⟨_,_,_,h,_⟩|⟨_,e⟩
 · rw[hc]at h;cases h
 · rw[e,if_pos ⟨by unfold iD;rw[hd];rfl,hf⟩,hd,VQ h0 h1]
theorem HF:∀k:Nat,k<12->iI (Jy ((k:Int)+1))=none/\iD (Jy ((k:Int)+1)) 1 2=false/\ke (Jy ((k:Int)+1))=(k:Int)+1/\(Jy ((k:Int)+1)).all (λx=> !jf x)=true:=by decide+kernel
theorem TO {f:Fnd}{m:Int}(h0:1 <=m)(h1:m <=12)(hf:f.month=false):zA f (Jy m)= { f with m:=m,month:=true } :=by
 have h:=HF (m-1).toNat (by omega)
 rw[show(((m-1).toNat:Nat):Int)+1=m by omega]at h
 obtain⟨h2,h3,h4,_⟩:=h
 rcases lu f (Jy m)with⟨_,_,_,h,_⟩|⟨_,e⟩
 · rw[h2]at h;cases h
 · rw[e,if_neg (λh=>by rw[h3]at h;cases h.1),if_pos ⟨by omega,hf⟩,h4]
theorem Ri {f:Fnd}{y:Int}(h0:0 <=y)(h1:y<10000)(hm:f.month=true)(hf:f.year=false):zA f (iH (y/100)++iH (y%100))= { f with y:=y,year:=true } :=by
 have hall:∀x∈iH (y/100)++iH (y%100),eA x=true:=λx hx=>(List.mem_append.1 hx).elim (mg _ x) (mg _ x)
 have hd:gw (iH (y/100)++iH (y%100))=iH (y/100)++iH (y%100):=by have:=Ks _ [] hall;rw[List.append_nil]at this;rw[this];exact List.append_nil _
 have hc:iI (iH (y/100)++iH (y%100))=none:=D8 λc r h=>by rw[hd,List.drop_length]at h;cases h
 rcases lu f (iH (y/100)++iH (y%100))with⟨_,_,_,h,_⟩|⟨_,e⟩
 · rw[hc]at h;cases h
 · have hn:iD (iH (y/100)++iH (y%100)) 1 2=false:=by unfold iD;rw[hd];rfl
   have hn2:iD (iH (y/100)++iH (y%100)) 2 4=true:=by unfold iD;rw[hd];rfl
   rw[e,if_neg (λh=>by rw[hn]at h;cases h.1),if_neg (λh=>by rw[hm]at h;cases h.2),if_pos ⟨hn2,hf⟩,hd,V8 h0 h1]
theorem Pm {f:Fnd}{s:Int}(h0:0 <=s)(h1:s<86400)(hf:f.time=false):zA f (pF s)= { f with s0:=s/3600,s1:=s/60%60,s2:=s%60,time:=true } :=Ik (Lz h0 h1) hf
theorem Rh {f:Fnd}{s:List UInt8}(h1:f.day=true)(h2:f.month=true)(h3:f.year=true)(h4:f.time=true):zA f s=f:=by
 rcases lu f s with⟨_,_,_,_,h,_⟩|⟨_,e⟩
 · rw[h4]at h;cases h
 · rw[e,if_neg (λh=>by rw[h1]at h;cases h.2),if_neg (λh=>by rw[h2]at h;cases h.2),if_neg (λh=>by rw[h3]at h;cases h.2)]
theorem Mu:∀k:Nat,k<7->(Cy (k:Int)).all (λx=> !jf x)=true:=by decide
theorem RA:∀k:Nat,k<7->zA SY (Cy (k:Int))=SY
 | 0,_=>by kernel_rfl
 | 1,_=>by kernel_rfl
 | 2,_=>by kernel_rfl
 | 3,_=>by kernel_rfl
 | 4,_=>by kernel_rfl
 | 5,_=>by kernel_rfl
 | 6,_=>by kernel_rfl
 | n+7,h=>by omega
def JV (c:UInt8)(y m d s:Int):List UInt8:=iH d++c::(Jy m++c::((iH (y/100)++iH (y%100))++c::(pF s++c::[71,77,84])))
def Jf (y m d s:Int):Fnd:=⟨true,true,true,true,s/3600,s/60%60,s%60,y,m,d⟩
theorem Ly {s:Int}(x:UInt8)(h:x∈pF s):jf x=false:=by
 unfold pF at h
 simp only[List.mem_append,List.mem_singleton]at h
 rcases h with(((h|h)|h)|h)|h
 · exact vg (mg _ x h)
 · subst h;decide
 · exact vg (mg _ x h)
 · subst h;decide
 · exact vg (mg _ x h)
theorem O9 {c:UInt8}(hc:jf c=true){y m d s:Int}(h:dP y m d)(h0:0 <=s)(h1:s<86400)(r:List UInt8)(hr:r=[]\/∃r',r=c::r'):
   (G9 [] (JV c y m d s++r)).foldl zA SY=Jf y m d s:=by
 obtain⟨g1,g2,g3,g4,g5,g6⟩:=h
 have hl:=FG y m
 have hm:=HF (m-1).toNat (by omega)
 rw[show(((m-1).toNat:Nat):Int)+1=m by omega]at hm
 have hmp:∀x∈Jy m,jf x=false:=λx hx=>by have:=List.all_eq_true.1 hm.2.2.2 x hx;simpa using this
 have e:JV c y m d s++r=iH d++c::(Jy m++c::((iH (y/100)++iH (y%100))++c::(pF s++c::([71,77,84]++r)))):=by simp[JV]
 rw[e,rV _ _ _ _ (λx hx=>vg (mg _ x hx)) hc,rV _ _ _ _ hmp hc,
   rV _ _ _ _ (λx hx=>vg ((List.mem_append.1 hx).elim (mg _ x) (mg _ x))) hc,rV _ _ _ _ Ly hc]
 simp only[List.nil_append,List.foldl_cons]
 rw[TN (by omega) (by omega) rfl,TO g3 g4 rfl,Ri (by omega) (by omega) rfl rfl,Pm h0 h1 rfl]
 have fullk:∀l:List (List UInt8),l.foldl zA (Jf y m d s)=Jf y m d s:=by
   intro l
   induction l with
   | nil=>rfl
   | cons x l ih=>rw[List.foldl_cons,Rh rfl rfl rfl rfl,ih]
 exact fullk _
theorem Nz {t y m d:Int}(h:dP y m d)(he:dv y m d=t/86400):G6 (Jf y m d (t%86400))=.tuple #[vI t,.bool true]:=by
 have h1:=h.1
 have hy:lH y=y:=by unfold lH;rw[if_neg (by omega),if_neg (by omega)]
 have hc:xi (Jf y m d (t%86400)):=by
   refine⟨?_,rfl,rfl,?_,?_,?_⟩
   · show dP (lH y) m d
     rw[hy];exact h
   · show t%86400/3600 <=23;omega
   · show t%86400/60%60 <=59;omega
   · show t%86400%60 <=59;omega
 unfold G6
 rw[if_pos hc]
 have:iw (Jf y m d (t%86400))=t:=by
   show dv (lH y) m d*86400+t%86400/3600*3600+t%86400/60%60*60+t%86400%60=t
   rw[hy,he];omega
 rw[this]
theorem Mo (n y m d s:Int):DT n y m d s=Cy (n%7)++44::32::JV 32 y m d s:=by simp[DT,JV]
theorem Pe {n y m d s:Int}(h:dP y m d)(h0:0 <=s)(h1:s<86400):nv (DT n y m d s)=Jf y m d s:=by
 have hw:=Mu (n%7).toNat (by omega)
 have hw2:=RA (n%7).toNat (by omega)
 rw[show(((n%7).toNat:Nat):Int)=n%7 by omega]at hw hw2
 unfold nv
 rw[Mo,rV _ _ _ _ (λx hx=>by have:=List.all_eq_true.1 hw x hx;simpa using this) (by decide)]
 have e:G9 [] (32::JV 32 y m d s)=[]::G9 [] (JV 32 y m d s):=rfl
 rw[e,List.foldl_cons,List.foldl_cons,List.nil_append,hw2,Lb]
 have:=O9 (c:=32) (by decide) h h0 h1 [] (.inl rfl)
 rwa [List.append_nil]at this
def Lok (s:List UInt8):Prop:=stripR xA s=s
def Hok (s:List UInt8):Prop:=s.dropWhile xA=s
theorem I8 (p:UInt8->Bool):∀s:List UInt8,(s.dropWhile p).dropWhile p=s.dropWhile p
 | []=>rfl
 | x::s=>by
   by_cases h:p x=true
   · rw[List.dropWhile_cons,if_pos h];exact I8 p s
   · rw[List.dropWhile_cons,if_neg h,List.dropWhile_cons,if_neg h]
theorem Lc (s:List UInt8):Hok (trimB s):=by unfold Hok trimB;rw[<- sb];exact I8 _ _
theorem Le (s:List UInt8):Lok (trimB s):=by unfold Lok trimB kh stripR;rw[List.reverse_reverse,I8]
theorem J2 {s:List UInt8}(h:Hok s)(l:Lok s):trimB s=s:=by
 unfold trimB kh
 rw[show s.dropWhile xA=s from h];exact l
theorem Gy {s:List UInt8} :trimB s=s ↔ Hok s/\Lok s:=⟨λh=>⟨h▸Lc s,h▸Le s⟩,λh=>J2 h.1 h.2⟩
theorem Qx {c:UInt8}{s:List UInt8}(h:xA c=false):Hok (c::s):=by unfold Hok;rw[List.dropWhile_cons,if_neg (by rw[h];decide)]
theorem QL {c:UInt8}{s:List UInt8}(h:Lok s)(hn:s≠[]\/xA c=false):Lok (c::s):=by
 unfold Lok
 rw[mb,show stripR xA s=s from h]
 by_cases hs:s=[]
 · subst hs
   have:xA c=false:=hn.resolve_left λh=>h rfl
   rw[this];rfl
 · rw[if_neg hs]
theorem N5:∀(a:List UInt8) {s:List UInt8},Lok s->s≠[]->Lok (a++s)
 | [],_,h,_=>h
 | c::a,s,h,hn=>QL (N5 a h hn) (.inl λe=>hn (List.append_eq_nil_iff.1 e).2)
theorem QM {c:UInt8}{s:List UInt8}(h:Lok (c::s)):Lok s:=by
 unfold Lok at h ⊢
 rw[mb]at h
 split at h
 · rename_i h1
   split at h
   · cases h
   · injection h with _ h2;rw[h1];exact h2
 · injection h
theorem LZ:∀n,n<256->xA (xC (UInt8.ofNat n))=xA (UInt8.ofNat n):=by decide+kernel
theorem UG (c:UInt8):xA (xC c)=xA c:=by
 have:=LZ c.toNat (by have:=c.toNat_lt;omega)
 rwa [UInt8.ofNat_toNat]at this
theorem Jv:∀n,n<256->xC (xC (UInt8.ofNat n))=xC (UInt8.ofNat n):=by decide+kernel
theorem Tq (s:List UInt8):co (co s)=co s:=by
 unfold co
 rw[List.map_map]
 refine List.map_congr_left λc _=>?_
 have:=Jv c.toNat (by have:=c.toNat_lt;omega)
 rw[UInt8.ofNat_toNat]at this
 exact this
theorem Nh:∀s:List UInt8,(co s).dropWhile xA=co (s.dropWhile xA)
 | []=>rfl
 | c::s=>by
   show(xC c::co s).dropWhile xA=_
   rw[List.dropWhile_cons,List.dropWhile_cons,UG]
   split
   · exact Nh s
   · rfl
theorem N9 (s:List UInt8):(co s).reverse=co s.reverse:=by unfold co;rw[List.map_reverse]
theorem N6 {s:List UInt8}(h:Lok s):Lok (co s):=by
 unfold Lok stripR at*
 rw[N9,Nh,N9,h]
def Clean (s:List UInt8):Prop:=∀c∈s,qd c=false/\c≠59
def okB (c:UInt8):Bool:= !qd c && !(c==59)
theorem A3 {c:UInt8} :okB c=true ↔ qd c=false/\c≠59:=by simp[okB]
theorem jN {s:List UInt8}(h:s.all okB=true):Clean s:=λc hc=>A3.1 (List.all_eq_true.1 h c hc)
theorem va:Clean []:=λ_ h=>by cases h
theorem eD {a b:List UInt8}(h:Clean a)(k:Clean b):Clean (a++b):=λc hc=>(List.mem_append.1 hc).elim (h c) (k c)
theorem vb {a b:List UInt8}(h:Clean b)(k:∀c∈a,c∈b):Clean a:=λc hc=>h c (k c hc)
theorem D6 {s:List UInt8}(h:Clean s):Clean (trimB s):=vb h (ED _ _)
theorem FK:∀n,n<256->okB (UInt8.ofNat n)=true->okB (xC (UInt8.ofNat n))=true:=by decide+kernel
theorem MW {s:List UInt8}(h:Clean s):Clean (co s):=by
 intro c hc
 obtain⟨d,hd,rfl⟩:=List.mem_map.1 hc
 have:=FK d.toNat (by have:=d.toNat_lt;omega)
 rw[UInt8.ofNat_toNat]at this
 exact A3.1 (this (A3.2 (h d hd)))
theorem Fj:∀n,n<256->eA (UInt8.ofNat n)=true->okB (UInt8.ofNat n)=true/\xA (UInt8.ofNat n)=false:=by decide+kernel
theorem Nb {c:UInt8}(h:eA c=true):(qd c=false/\c≠59)/\xA c=false:=by
 have:=Fj c.toNat (by have:=c.toNat_lt;omega)
 rw[UInt8.ofNat_toNat]at this
 exact⟨A3.1 (this h).1,(this h).2⟩
theorem Ap {s:List UInt8}(h:Clean s):Clean (D1 s):=D6 (vb h λc hc=>(List.takeWhile_sublist _).subset hc)
theorem Ao {s:List UInt8}(h:Clean s):Clean (xW s):=D6 (vb h λc hc=>(List.dropWhile_sublist _).subset (List.mem_of_mem_drop hc))
theorem T4:∀k:Nat,k<7->(Cy (k:Int)).all (λc=>okB c && !xA c)=true/\Cy (k:Int)≠[]:=by decide
theorem UI:∀k:Nat,k<12->(Jy ((k:Int)+1)).all okB=true:=by decide
theorem Mp {f:Fnd}(hf:EO f)(hc:xi f):nv (mc (iw f))=nv (mc (iw f))/\xi (nv (mc (iw f)))/\iw (nv (mc (iw f)))=iw f/\trimB (mc (iw f))=mc (iw f)/\Clean (mc (iw f))/\(-9223372036854775808 <=iw f/\iw f <=9223372036854775807):=by
 obtain⟨hd,-,-,c1,c2,c3⟩:=hc
 have hr:=Aw hd
 have e1:iw f/86400=dv (lH f.y) f.m f.d:=by
   unfold iw;have:=hf.s0;have:=hf.s1;have:=hf.s2;omega
 have ht:=Gw hd e1.symm
 have htl:=Pe (n:=iw f/86400) (s:=iw f%86400) hd (by omega) (by omega)
 have hfc:=Nz hd e1.symm
 rw[<- ht]at htl
 rw[<- htl]at hfc
 unfold G6 at hfc
 by_cases hp:xi (nv (mc (iw f)))
 · rw[if_pos hp]at hfc
   injection hfc with hfc
   have hn:iw (nv (mc (iw f)))=iw f:=by
     have:=congrArg (λa:Array Value=>a[0]?) hfc
     simpa using this
   have hw:=T4 (iw f/86400%7).toNat (by omega)
   rw[show(((iw f/86400%7).toNat:Nat):Int)=iw f/86400%7 by omega]at hw
   have hm:=UI (f.m-1).toNat (by have:=hd.2.2.1;have:=hd.2.2.2.1;omega)
   rw[show(((f.m-1).toNat:Nat):Int)+1=f.m by have:=hd.2.2.1;omega]at hm
   refine⟨rfl,hp,hn,?_,?_,?_⟩
   · rw[ht]
     refine J2 ?_ ?_
     · unfold DT
       cases hc:Cy (iw f/86400%7)with
       | nil=>exact absurd hc hw.2
       | cons c r=>
         have:=List.all_eq_true.1 hw.1 c (by rw[hc];exact List.mem_cons_self)
         simp only[List.cons_append]
         exact Qx (by rw[Bool.and_eq_true]at this;simpa using this.2)
     · unfold DT
       exact N5 _ (show Lok [32,71,77,84] from rfl) (by simp)
   · rw[ht]
     have two:∀n,Clean (iH n):=λn c hc=>(Nb (mg n c hc)).1
     unfold DT pF
     refine eD (eD (eD (eD (eD (eD (eD (eD (eD ?_ ?_) (two _)) ?_) ?_) ?_) (eD (two _) (two _))) ?_) (eD (eD (eD (eD (two _) ?_) (two _)) ?_) (two _))) ?_
     · intro c hc
       have:=List.all_eq_true.1 hw.1 c hc
       rw[Bool.and_eq_true]at this
       exact A3.1 this.1
     · exact jN (by decide)
     · exact jN (by decide)
     · exact jN hm
     · exact jN (by decide)
     · exact jN (by decide)
     · exact jN (by decide)
     · exact jN (by decide)
     · exact jN (by decide)
   · have:=hf.s0;have:=hf.s1;have:=hf.s2
     unfold iw;omega
 · rw[if_neg hp]at hfc
   have:=congrArg (λv:Value=>match v with|.tuple a=>a[1]?|_=>none) hfc
   simp at this
structure Good (h:Hdr):Prop where
 nc:Clean h.name
 vc:Clean h.value
 nt:trimB h.name=h.name
 vt:trimB h.value=h.value
 ne:∀c∈h.name,c≠61
 nz:h.name++h.value≠[]
 nl:h.name.length+h.value.length <=4096
 dc:Clean h.domain
 de:Lok h.domain
 dl:co h.domain=h.domain
 dn:(I6 h.domain).length <=1024
 pc:Clean h.path
 pt:trimB h.path=h.path
 ph:h.path=[]\/h.path.head?=some 47
 pl:h.path.length <=1024
 ex:if h.hasE=true then xi (nv (mc h.exp))/\iw (nv (mc h.exp))=h.exp/\trimB (mc h.exp)=mc h.exp/\Clean (mc h.exp)/\(-9223372036854775808 <=h.exp/\h.exp <=9223372036854775807)else h.exp=0
 ag:0 <=h.age/\h.age <=34560000/\(h.hasA=false->h.age=0)
 sm:0 <=h.same/\h.same <=3
theorem Lr {s:List UInt8}{n:Int}(h:RL s=some n):0 <=n/\n <=34560000:=by
 unfold RL at h
 split at h
 · split at h
   · cases h;decide
   · cases h
 · split at h
   · rename_i hd
     have:=(jt s 0 (by decide) (λc hc=>by
       unfold dE at hd
       rw[Bool.and_eq_true]at hd
       exact List.all_eq_true.1 hd.2 c hc)).1
     have h2:min (ez s) 34560000=n:=Option.some.inj h
     have h3:0 <=ez s:=this
     omega
   · cases h
theorem JQ (v:List UInt8):0 <=JP v/\JP v <=3:=by unfold JP;split;decide;split;decide;split <;> decide
theorem Qk {v:List UInt8}(hv:trimB v=v)(hl:v.length <=1024):(I6 (co (if v.head?=some 46 then v.drop 1 else v))).length <=1024:=by
 split
 · rename_i h
   have h1:=Fk (co (v.drop 1))
   have h2:(co (v.drop 1)).length=v.length-1:=by unfold co;simp
   have h3:0<v.length:=by cases v with
     | nil=>cases h
     | cons=>simp
   omega
 · rename_i h
   have h1:trimB (co v)=co v:=by
     obtain⟨a,b⟩:=Gy.1 hv
     refine J2 ?_ (N6 b)
     unfold Hok;rw[Nh,show v.dropWhile xA=v from a]
   have h2:(co v).head?≠some 46:=by
     intro e
     cases v with
     | nil=>cases e
     | cons c v=>
       have e':xC c=46:=Option.some.inj e
       have hall:∀n,n<256->xC (UInt8.ofNat n)=46->UInt8.ofNat n=46:=by decide+kernel
       have:=hall c.toNat (by have:=c.toNat_lt;omega)
       rw[UInt8.ofNat_toNat]at this
       exact h (by rw[this e'];rfl)
   unfold I6
   rw[if_pos ⟨h1,h2⟩]
   unfold co;simpa using hl
theorem MO {h:Hdr}(g:Good h)(key:List UInt8){v:List UInt8}(hv:trimB v=v)(hc:Clean v)(hl:v.length <=1024):Good (Af h key v):=by
 unfold Af
 split
 · split
   · rename_i hk
     have hf:EO (nv v):=Po _ Ny
     obtain⟨-,h1,h2,h3,h4,h5⟩:=Mp hf hk
     exact{ g with ex:=by show if true=true then _ else _;rw[if_pos rfl];exact⟨h1,h2,h3,h4,h5⟩ }
   · exact g
 split
 · split
   · rename_i n hn
     have:=Lr hn
     exact{ g with ag:=⟨this.1,this.2,λh=>by cases h⟩ }
   · exact g
 split
 · refine{ g with dc:=MW ?_,de:=N6 ?_,dl:=Tq _,dn:=Qk hv hl }
   · split
     · exact vb hc λc hc=>List.mem_of_mem_drop hc
     · exact hc
   · have:=(Gy.1 hv).2
     split
     · cases v with
       | nil=>exact this
       | cons c v=>exact QM this
     · exact this
 split
 · by_cases h47:v.head?=some 47
   · rw[if_pos h47]
     exact{ g with pc:=hc,pt:=hv,ph:=.inr h47,pl:=hl }
   · rw[if_neg h47]
     exact{ g with pc:=va,pt:=rfl,ph:=.inl rfl,pl:=(show([]:List UInt8).length <=1024 by decide) }
 split
 · exact{ g with }
 split
 · exact{ g with }
 split
 · exact{ g with sm:=JQ v }
 · exact g
theorem wk (s:List UInt8):trimB (trimB s)=trimB s:=Gy.2 ⟨Lc s,Le s⟩
theorem O4 {h:Hdr}(g:Good h){x:List UInt8}(hc:Clean x):Good (zv h x):=by
 unfold zv
 split
 · rename_i hl
   exact MO g _ (wk _) (Ao hc) hl
 · exact g
theorem Hn:∀(l:List (List UInt8)) {h:Hdr},Good h->(∀x∈l,Clean x)->Good (l.foldl zv h)
 | [],_,g,_=>g
 | x::l,_,g,hc=>Hn l (O4 g (hc x List.mem_cons_self)) λy hy=>hc y (List.mem_cons_of_mem _ hy)
theorem L4 {s:List UInt8}{h:Hdr}(hp:cK s=(h,0)):Good h:=by
 unfold cK at hp
 split at hp
 · cases hp
 split at hp
 · cases hp
 split at hp
 · cases hp
 rename_i h1 h2 h3
 obtain⟨rfl,-⟩:=Prod.mk.inj hp
 have hcs:∀x∈bK 59 [] s,Clean x:=λx hx c hc=>by
   obtain⟨k1,k2⟩:=zF 59 s [] x hx (λ_ h=>by cases h) c hc
   refine⟨?_,k2⟩
   rcases k1 with k1|k1
   · cases k1
   · cases hcc:qd c
     · rfl
     · exact absurd (List.any_eq_true.2 ⟨c,k1,hcc⟩) h1
 have hx0:Clean ((bK 59 [] s).headD []):=by
   have:=gQ 59 s []
   cases hcc:bK 59 [] s with
   | nil=>exact absurd hcc this
   | cons x l=>exact hcs x (by rw[hcc];exact List.mem_cons_self)
 refine Hn _ ?_ λx hx=>hcs x (List.mem_of_mem_drop hx)
 generalize (bK 59 [] s).headD []=x at*
 have hn:Clean (nameOf x).1/\Clean (nameOf x).2/\trimB (nameOf x).1=(nameOf x).1/\trimB (nameOf x).2=(nameOf x).2/\∀c∈(nameOf x).1,c≠61:=by
   unfold nameOf
   split
   · refine⟨Ap hx0,Ao hx0,wk _,wk _,λc hc=>?_⟩
     have h1:c∈x.takeWhile (· !=61):=ED _ _ c hc
     have:=List.all_eq_true.1 (List.all_takeWhile (p:=(· !=(61:UInt8))) (l:=x)) c h1
     simpa using this
   · exact⟨va,Ap hx0,rfl,wk _,λc hc=>by cases hc⟩
 exact{ nc:=hn.1,vc:=hn.2.1,nt:=hn.2.2.1,vt:=hn.2.2.2.1,ne:=hn.2.2.2.2,nz:=h2,nl:=by show(nameOf x).1.length+(nameOf x).2.length <=4096;omega,dc:=va,de:=rfl,dl:=rfl,dn:=by show(I6 []).length <=1024;decide,pc:=va,pt:=rfl,ph:=.inl rfl,pl:=(show([]:List UInt8).length <=1024 by decide),ex:=rfl,ag:=⟨Int.le_refl 0,(show(0:Int) <=34560000 by decide),λ_=>rfl⟩,sm:=⟨Int.le_refl 0,(show(0:Int) <=3 by decide)⟩ }
theorem Tc {h:Hdr}(g:Good h):EP h:=by
 have:=g.nl;have:=g.pl
 have hd:h.domain.length <=(I6 h.domain).length:=by unfold I6;split <;> simp
 have:=g.dn
 refine⟨by omega,by omega,by omega,by omega,?_,by have:=g.ag;omega⟩
 have hx:=g.ex
 by_cases he:h.hasE=true
 · rw[if_pos he]at hx;exact hx.2.2.2.2
 · rw[if_neg he]at hx;omega
def Ue:List UInt8:=[95,95,115,101,99,117,114,101,45]
def UM:List UInt8:=[95,95,104,111,115,116,45]
def L9 (s:List UInt8):Int:=if co (s.take 9)=Ue then 1 else if co (s.take 7)=UM then 2 else 0
def qc (rs:List Rul)(u:Hst)(t:List UInt8):Hst×Bool×Int:=if t=[]then(u,true,0)else match bt t with
 | none=>(gJ,false,101)
 | some d=>if(MA rs d && !jA d u)=true then(d,false,102)else if(!GK u d)=true then(d,false,103)else(d,MA rs d,0)
def Va (h:Hdr)(now:Int):Int:=if h.hasA=true then i64.wrap (now+h.age)else if h.hasE=true then(if i64.wrap (now+34560000)<h.exp then i64.wrap (now+34560000)else h.exp)else 9223372036854775807
def Py (h:Hdr):List UInt8:=if h.name=[]then h.value else h.name
def MP (h:Hdr)(only:Bool):Bool:=if L9 (Py h)=1 then !h.sec else if L9 (Py h)=2 then(!h.sec || (!only || !(h.path==[47])))else false
noncomputable def Mz (u:Url)(h:Hdr)(now:Int):Int:=if(!fm u)=true then 41 else if(!HR h)=true then 82 else if now<0 then 122 else if 1099511627776<now then 122 else 0
def Kv (u:Url)(h:Hdr)(d:Hst×Bool×Int):Int:=
 if d.2.2≠0 then d.2.2 else if(h.sec && !u.sec)=true then 104 else if(decide (h.same=1) && !h.sec)=true then 105 else if MP h d.2.1=true then 106 else 0
def U7 (u:Url)(h:Hdr)(d:Hst×Bool×Int)(now:Int):Cky:=⟨h.name,h.value,d.1,d.2.1,if h.path=[]then Qf u.path else h.path,h.sec,h.http,h.same,Va h now,now,now,0⟩
noncomputable def pz (rs:List Rul)(u:Url)(h:Hdr)(now:Int):Cky×Int:=
 if Mz u h now≠0 then(An,Mz u h now)else if Kv u h (qc rs u.host h.domain)≠0 then(An,Kv u h (qc rs u.host h.domain))else(U7 u h (qc rs u.host h.domain) now,0)
def Vq (x:Cky×Int):Value:=.tuple #[x.1.v,vI x.2]
theorem Nd {rs:List Rul}{u:Hst}(o:u.ok)(t:List UInt8):(qc rs u t).1.ok:=by
 unfold qc
 split
 · exact o
 split
 · rfl
 · rename_i d hd
   have:=fM hd
   split
   · exact this
   split <;> exact this
theorem Pa {rs:List Rul}{u:Url}(o:u.ok)(h:Hdr)(now:Int):(pz rs u h now).1.ok:=by
 unfold pz
 split
 · rfl
 split
 · rfl
 · exact Nd o _
theorem Aa (s:List UInt8)(w:World):Cf mV #[vS s] w (Ret λv w'=>v=vI (L9 s)/\bW w w'):=by
 apply zb
 refine⟨λm i w'=>bW w w'/\(m=3/\i=0\/m=2/\i=1\/m=1/\i=2/\co (s.take 9)≠Ue\/m=0/\i=3/\co (s.take 9)≠Ue/\co (s.take 7)≠UM),⟨3,Below.refl _ _,.inl ⟨rfl,rfl⟩⟩,?_⟩
 intro m i
 refine aJ.of ?_ _
 rintro w1 ⟨hB,h⟩
 rcases h with⟨rfl,rfl⟩|⟨rfl,rfl⟩|⟨rfl,rfl,h1⟩|⟨rfl,rfl,h1,h2⟩
 · exact ab.yes (by decide) ⟨[],by kernel_rfl,ab.no (by decide) ⟨2,by decide,hB,.inr (.inl ⟨rfl,rfl⟩)⟩⟩
 · refine ab.yes (by decide) ⟨Ue,by kernel_rfl,ab.yes (by decide) (ab.of (λc=>?_) (λc=>⟨1,by decide,hB,.inr (.inr (.inl ⟨rfl,rfl,?_⟩))⟩))⟩
   · refine⟨⟨by omega,by simpa using c⟩,?_⟩
     rintro _ rfl
     refine aw (dU _ (by show(s.take 9).length <=_;rw[List.length_take];omega) w1) ?_
     rintro _ w2 ⟨rfl,hb2⟩
     have hB2:=aa hB hb2 hB.size
     refine⟨_,rfl,ab.of (λc2=>⟨?_,hB2⟩) (λc2=>⟨1,by decide,hB2,.inr (.inr (.inl ⟨rfl,rfl,beq_eq_false_iff_ne.1 c2⟩))⟩)⟩
     have c2:co (s.take 9)=Ue:=eq_of_beq c2
     unfold L9;rw[if_pos c2]
   · intro e
     have:=congrArg List.length e
     simp[co,Ue]at this c;omega
 · refine ab.yes (by decide) ⟨UM,by kernel_rfl,ab.yes (by decide) (ab.of (λc=>?_) (λc=>⟨0,by decide,hB,.inr (.inr (.inr ⟨rfl,rfl,h1,?_⟩))⟩))⟩
   · refine⟨⟨by omega,by simpa using c⟩,?_⟩
     rintro _ rfl
     refine aw (dU _ (by show(s.take 7).length <=_;rw[List.length_take];omega) w1) ?_
     rintro _ w2 ⟨rfl,hb2⟩
     have hB2:=aa hB hb2 hB.size
     refine⟨_,rfl,ab.of (λc2=>⟨?_,hB2⟩) (λc2=>⟨0,by decide,hB2,.inr (.inr (.inr ⟨rfl,rfl,h1,beq_eq_false_iff_ne.1 c2⟩))⟩)⟩
     have c2:co (s.take 7)=UM:=eq_of_beq c2
     unfold L9;rw[if_neg h1,if_pos c2]
   · intro e
     have:=congrArg List.length e
     simp[co,UM]at this c;omega
 · refine ab.no (by decide) ⟨?_,hB⟩
   unfold L9;rw[if_neg h1,if_neg h2]
theorem yN (h:Hdr)(now:Int)(w:World):Cf lw #[h.v,vI now] w (Ret λv w'=>v=vI (Va h now)/\bW w w'):=by
 refine xE h.name h.value h.domain h.path h.hasE h.exp h.hasA h.age h.sec h.http h.same now ?_
 intro k1 w1 hk1 hw1
 obtain⟨hh1,hB1⟩:=AJ h w hk1 hw1
 unfold Va
 refine⟨rfl,_,hh1.load1 ci rfl rfl,ab.of (λc=>?_) (λc=>?_)⟩
 · rw[if_pos c]
   exact⟨rfl,_,hh1.load1 bP rfl rfl,rfl,hB1⟩
 rw[if_neg (by rw[c];decide)]
 refine⟨rfl,_,hh1.load1 ci rfl rfl,ab.of (λc=>?_) (λc=>?_)⟩
 · rw[if_pos c]
   exact⟨rfl,_,hh1.load1 bP rfl rfl,_,run_min_int2 _ _ _ _ _ _ _,rfl,hB1⟩
 · rw[if_neg (by rw[c];decide)]
   exact⟨rfl,hB1⟩
theorem Ab (h:Hdr)(only:Bool)(w:World):Cf mW #[h.v,.bool only] w (Ret λv w'=>v=.bool (MP h only)/\bW w w'):=by
 refine zc h.name h.value h.domain h.path h.hasE h.exp h.hasA h.age h.sec h.http h.same only ?_
 intro k1 w1 hk1 hw1
 obtain⟨hh1,hB1⟩:=AJ h w hk1 hw1
 refine⟨rfl,_,hh1.load1 av rfl rfl,?_⟩
 refine UT (w:=w1) (Py h) ?_ ?_
 · unfold Py
   exact ab.of (λc=>⟨rfl,_,hh1.load1 av rfl rfl,rfl,by rw[if_pos (eq_of_beq c)]⟩) (λc=>⟨rfl,by rw[if_neg (beq_eq_false_iff_ne.1 c)]⟩)
 refine aw (Aa (Py h) w1) ?_
 rintro _ w2 ⟨rfl,hb2⟩
 have hB2:=aa hB1 hb2 hB1.size
 have hh2:=hh1.below hb2
 unfold MP
 refine⟨_,rfl,ab.of (λc=>?_) (λc=>?_)⟩
 · rw[if_pos (eq_of_beq c)]
   exact⟨rfl,_,hh2.load1 ci rfl rfl,rfl,hB2⟩
 rw[if_neg (beq_eq_false_iff_ne.1 c)]
 refine ab.of (λc=>?_) (λc=>?_)
 · rw[if_pos (eq_of_beq c)]
   refine⟨rfl,_,hh2.load1 ci rfl rfl,ab.of (λc2=>⟨by rw[c2];rfl,hB2⟩) (λc2=>?_)⟩
   rw[c2,Bool.false_or]
   refine ab.of (λc3=>⟨by rw[c3];rfl,hB2⟩) (λc3=>?_)
   rw[c3,Bool.false_or]
   exact⟨rfl,_,hh2.load1 av rfl rfl,rfl,hB2⟩
 · rw[if_neg (beq_eq_false_iff_ne.1 c)]
   exact⟨rfl,hB2⟩
theorem CJ {u:Url}(o:u.ok)(hn:u.host.name.length <=1000000000)(h:Hdr)(ho:EP h)(now:Int)(w:World)(he:Env w):Cf oB #[u.v,h.v,vI now] w (Ret λv w'=>v=vI (Mz u h now)/\bW w w'):=by
 refine Bb u.v h.name h.value h.domain h.path h.hasE h.exp h.hasA h.age h.sec h.http h.same now ?_
 intro k3 w3 hk3 hw3
 have hB3:=(hw3▸ai w _:bW w w3)
 have h3:ao w3 k3 ay u.cells:=ao.new hk3 hw3
 intro k4 w4 hk4 hw4
 obtain⟨hh4,hb4⟩:=AJ h w3 hk4 hw4
 have hB4:=aa hB3 hb4 hB3.size
 unfold Mz
 refine⟨_,gP.load0 (h3.below hb4) (Url.len o),?_⟩
 refine aw (mN o hn w4 (he.step hB4)) ?_
 rintro _ w5 ⟨rfl,hb5⟩
 have hB5:=aa hB4 hb5 hB4.size
 have hh5:=hh4.below hb5
 refine⟨_,rfl,ab.of (λc=>⟨by rw[if_pos c],hB5⟩) (λc=>?_)⟩
 rw[if_neg (by rw[c];decide)]
 refine⟨_,_,_,_,_,_,_,_,_,_,_,jI h hh5,?_⟩
 refine aw (AK h ho w5 (he.step hB5)) ?_
 rintro _ w6 ⟨rfl,hb6⟩
 have hB6:=aa hB5 hb6 hB5.size
 refine⟨_,rfl,ab.of (λc=>⟨by rw[if_pos c],hB6⟩) (λc=>?_)⟩
 rw[if_neg (by rw[c];decide)]
 refine ab.of (λc=>⟨by rw[if_pos (of_decide_eq_true c)],hB6⟩) (λc=>?_)
 rw[if_neg (of_decide_eq_false c)]
 exact ab.of (λc=>⟨by rw[if_pos (show 1099511627776<now from of_decide_eq_true c)],hB6⟩) (λc=>⟨by rw[if_neg (show ¬ 1099511627776<now from of_decide_eq_false c)],hB6⟩)
theorem SP {h:Hst}(o:h.ok){w w':World}{k2:Nat}(h2:ao w' k2 ae gJ.cells)(hb:bW w w')(hk:w.heap.size <=k2){b:Bool}{e:Int}{K:Value->World->Prop}
   (hK:∀wx,bW w wx->K (.tuple #[h.v,.bool b,vI e]) wx):
   ∃(wx:World),(Instr.storeAt ae (.pointer (some ⟨k2,0,none⟩)) h.v).run prog w'=.ok () wx/\∃vr:Value,(bg ae (.pointer (some ⟨k2,0,none⟩))).run prog wx=.ok vr wx/\K (.tuple #[vr,.bool b,vI e]) wx:=
 aP.fin (K:=λvr wx=>K (.tuple #[vr,.bool b,vI e]) wx) (cs:=h.cells) (Hst.len o) (Hst.one h) h2 rfl hb hk λwx hbx=>hK wx hbx
def U9 (x:Hst×Bool×Int):Value:=.tuple #[x.1.v,.bool x.2.1,vI x.2.2]
theorem Ac {w0:World}(he:Env w0){kt km:Nat}{a:Option Addr}{n c:Nat}{ps:List Pth}{kvs:List (jq×Int)}{es:List (List Bool)}{rs:List Rul}{w:World}(S:j0 w0 aV bi kt km a n c ps kvs es rs w){u:Hst}(o:u.ok)(hn:u.name.length <=1000000000)(t:List UInt8)(ht:t.length <=100000000):
   Cf mX #[.pointer (some ⟨kt,0,none⟩),u.v,vS t] w (Ret λv w'=>v=U9 (qc rs u t)/\bW w w'):=by
 apply zd
 intro k4 w4 hk4 hw4
 have hB4:=(hw4▸ai w _:bW w w4)
 have h4:ao w4 k4 ae u.cells:=ao.new hk4 hw4
 intro k6 w6 hk6 hw6
 have hb6:=(hw6▸ai w4 _:bW w4 w6)
 have hB6:=aa hB4 hb6 hB4.size
 have h6:ao w6 k6 ae gJ.cells:=ao.new hk6 hw6
 have h46:=h4.below hb6
 have hk6w:w.heap.size <=k6:=by have:=hB4.size;omega
 have fin:∀{wx:World} {h:Hst} {b:Bool} {e:Int},h.ok->qc rs u t=(h,b,e)->bW w6 wx->∃wy,(Instr.storeAt ae (.pointer (some ⟨k6,0,none⟩)) h.v).run prog wx=.ok () wy/\∃vr:Value,(bg ae (.pointer (some ⟨k6,0,none⟩))).run prog wy=.ok vr wy/\
     ((.tuple #[vr,.bool b,vI e]:Value)=U9 (qc rs u t)/\bW w wy):=fun{wx h b e} oh hv hbx=>
   SP oh (h6.below hbx) (aa hB6 hbx hB6.size) hk6w (K:=λv wy=>v=U9 (qc rs u t)/\bW w wy) λwy hb=>⟨by rw[hv];rfl,hb⟩
 refine ab.of (λc1=>?_) (λc1=>?_)
 · have c1:t=[]:=eq_of_beq c1
   exact⟨_,aP.load0 h46 (Hst.len o),fin o (by unfold qc;rw[if_pos c1]) (Below.refl _ _)⟩
 have c1:t≠[]:=beq_eq_false_iff_ne.1 c1
 have hV:qc rs u t=match bt t with
     | none=>(gJ,false,101)
     | some d=>if(MA rs d && !jA d u)=true then(d,false,102)else if(!GK u d)=true then(d,false,103)else(d,MA rs d,0):=if_neg c1
 refine aw (jd t (by omega) w6 (he.step (S.below hB6).hb)) ?_
 rintro _ w7 ⟨rfl,hb7⟩
 rw[io]
 refine⟨_,_,rfl,?_⟩
 have hok:=lN λx hx=>fM (s:=t) hx
 refine aP.new (zs:=gJ.cells) (cs:=((bt t).getD gJ).cells) rfl (Hst.len hok) (Hst.one _) w7 λk9 w9 hk9 h9 hb9=>?_
 have hb69:=aa hb7 hb9 hb7.size
 cases hd:bt t with
 | none=>
   rw[hd]at hV h9
   refine gE (λ_=>False) (ab.yes rfl ⟨_,aP.load0 h9 rfl,fin rfl hV hb69⟩) (λw hf=>hf.elim)
 | some d=>
   rw[hd]at hV h9 hok
   simp only[Option.getD_some]at h9 hok
   have hdn:d.name.length <=1000000000:=by have:=Eg hd;omega
   have l9:∀{wx},bW w9 wx->(Instr.loadAt ae (.pointer (some ⟨k9,0,none⟩))).run prog wx=.ok d.v wx:=λhb=>aP.load0 (h9.below hb) (Hst.len hok)
   have l4:∀{wx},bW w6 wx->(Instr.loadAt ae (.pointer (some ⟨k4,0,none⟩))).run prog wx=.ok u.v wx:=λhb=>aP.load0 (h46.below hb) (Hst.len o)
   have hV:qc rs u t=if(MA rs d && !jA d u)=true then(d,false,102)else if(!GK u d)=true then(d,false,103)else(d,MA rs d,0):=hV
   refine gE (λw'=>qc rs u t=(d,MA rs d,0)/\bW w9 w') ?_ ?_
   · refine ab.no rfl ?_
     refine uX (λb w'=>b=(MA rs d && !jA d u)/\bW w9 w') ?_ ?_
     · refine⟨_,l9 (Below.refl _ _),?_⟩
       refine aw (pL he (S.below (aa hB6 hb69 hB6.size)) hok hdn) ?_
       rintro _ w10 ⟨rfl,hb10⟩
       refine⟨_,rfl,ab.of (λc2=>?_) (λc2=>⟨by rw[c2];rfl,hb10⟩)⟩
       exact⟨_,l9 hb10,_,l4 (aa hb69 hb10 hb69.size),_,UC hok o w10,by rw[c2];rfl,hb10⟩
     · rintro b w10 ⟨rfl,hb10⟩
       have hb610:=aa hb69 hb10 hb69.size
       refine ab.of (λc2=>⟨_,l9 hb10,fin hok (by rw[hV,if_pos c2]) hb610⟩) (λc2=>?_)
       rw[if_neg (by rw[c2];decide)]at hV
       refine⟨_,l4 hb610,_,l9 hb10,?_⟩
       refine aw (jg o hok hn hdn w10 (he.step (S.below (aa hB6 hb610 hB6.size)).hb)) ?_
       rintro _ w11 ⟨rfl,hb11⟩
       have hb911:=aa hb10 hb11 hb10.size
       refine⟨_,rfl,ab.of (λc3=>⟨_,l9 hb911,fin hok (by rw[hV,if_pos c3]) (aa hb69 hb911 hb69.size)⟩) (λc3=>⟨?_,hb911⟩)⟩
       rw[hV,if_neg (by rw[c3];decide)]
   · rintro w10 ⟨hV,hb10⟩
     have hd10:=eC w10
     have hb910:=aa hb10 hd10 hb10.size
     have hb610:=aa hb69 hb910 hb69.size
     have pub:=pL he (S.below (aa hB6 hb610 hB6.size)) hok hdn
     refine⟨⟨_,l9 hb910,_,l9 hb910,?_⟩,_,l9 hb910,⟨_,l9 hb910,?_⟩,?_⟩
     · refine aw pub ?_
       rintro _ w11 ⟨rfl,hb11⟩
       exact⟨_,rfl,fin hok hV (aa hb610 hb11 hb610.size)⟩
     · refine aw pub ?_
       rintro _ w11 ⟨rfl,hb11⟩
       exact⟨_,rfl,fin hok hV (aa hb610 hb11 hb610.size)⟩
     · refine aw pub ?_
       rintro _ w11 ⟨rfl,hb11⟩
       exact⟨_,rfl,_,l9 (aa hb910 hb11 hb910.size),fin hok hV (aa hb610 hb11 hb610.size)⟩
theorem MQ (name value:List UInt8){d:Hst}(o:d.ok)(only:Bool)(path:List UInt8)(sec http:Bool)(same exp born used:Int)(w:World):
   (Instr.build af #[(0,vS name),(1,vS value),(2,d.v),(3,.bool only),(4,vS path),(5,.bool sec),(6,.bool http),(7,vI same),(8,vI exp),(9,vI born),(10,vI used)]).run prog w=
     .ok (Cky.v ⟨name,value,d,only,path,sec,http,same,exp,born,used,0⟩) w:=by
 obtain⟨k,n,a⟩:=d
 obtain⟨x0,x1,x2,x3,x4,x5,x6,x7,x8,x9,x10,x11,x12,x13,x14,x15,rfl⟩:=fi a o
 kernel_rfl
def ID (rs:List Rul)(u:Url)(h:Hdr)(now:Int)(w:World)(v:Value)(w':World):Prop:=v=Vq (pz rs u h now)/\bW w w'
theorem E7 {w0:World}(he:Env w0){kt km:Nat}{a:Option Addr}{n c:Nat}{ps:List Pth}{kvs:List (jq×Int)}{es:List (List Bool)}{rs:List Rul}{w:World}(S:j0 w0 aV bi kt km a n c ps kvs es rs w)
   {u:Url} (o:u.ok) (hn:u.host.name.length <=1000000000) (hp:u.path.length <=1000000000) (h:Hdr) (ho:EP h) (now:Int):
   Cf mC #[.pointer (some ⟨kt,0,none⟩),u.v,h.v,vI now] w (Ret (ID rs u h now w)):=by
 refine Di _ u.v h.name h.value h.domain h.path h.hasE h.exp h.hasA h.age h.sec h.http h.same now ?_
 intro k5 w5 hk5 hw5
 have hB5:=(hw5▸ai w _:bW w w5)
 have h5:ao w5 k5 ay u.cells:=ao.new hk5 hw5
 intro k6 w6 hk6 hw6
 obtain⟨hh6,hb6⟩:=AJ h w5 hk6 hw6
 have hB6:=aa hB5 hb6 hB5.size
 intro k8 w8 hk8 hw8
 have hb8:=(hw8▸ai w6 _:bW w6 w8)
 have hB8:=aa hB6 hb8 hB6.size
 have h8:ao w8 k8 af An.cells:=ao.new hk8 hw8
 have h58:=(h5.below hb6).below hb8
 have h68:=hh6.below hb8
 have hk8w:w.heap.size <=k8:=by have:=hB6.size;omega
 have hE8:=he.step (S.below hB8).hb
 clear h5 hh6 hb6 hb8 hk5 hw5 hk6 hw6 hk8 hw8 hB5 hB6
 have fin:∀{wx:World} {c:Cky} {e:Int},c.ok->pz rs u h now=(c,e)->bW w8 wx->∃wy,(Instr.storeAt af (.pointer (some ⟨k8,0,none⟩)) c.v).run prog wx=.ok () wy/\∃vr:Value,(bg af (.pointer (some ⟨k8,0,none⟩))).run prog wy=.ok vr wy/\
     ID rs u h now w (.tuple #[vr,vI e]) wy:=fun{wx c e} oc hv hbx=>
   be.fin (K:=λvr wy=>ID rs u h now w (.tuple #[vr,vI e]) wy) (cs:=c.cells) (Cky.len oc) (Cky.one c) (h8.below hbx) rfl (aa hB8 hbx hB8.size) hk8w λwy hb=>⟨by rw[hv];rfl,hb⟩
 refine⟨_,gP.load0 h58 (Url.len o),_,_,_,_,_,_,_,_,_,_,_,jI h h68,?_⟩
 refine aw (CJ o hn h ho now w8 hE8) ?_
 rintro _ w9 ⟨rfl,hb9⟩
 refine⟨_,rfl,ab.of (λc1=>?_) (λc1=>?_)⟩
 · have c1:Mz u h now≠0:=by simpa using c1
   exact fin (c:=An) rfl (by unfold pz;rw[if_pos c1]) hb9
 have c1: ¬ Mz u h now≠0:=by simpa using c1
 have hT:pz rs u h now=if Kv u h (qc rs u.host h.domain)≠0 then(An,Kv u h (qc rs u.host h.domain))else(U7 u h (qc rs u.host h.domain) now,0):=by unfold pz;rw[if_neg c1]
 have hB9:=aa hB8 hb9 hB8.size
 refine⟨rfl,_,aP.load (h58.below hb9) (i:=1) (us:=u.host.cells) (Hst.len o) (λj hj=>sd o hj),rfl,_,(h68.below hb9).load1 av rfl rfl,?_⟩
 refine aw (Ac he (S.below hB9) o hn h.domain (by have:=ho.domain;omega)) ?_
 rintro _ w10 ⟨rfl,hb10⟩
 have hb810:=aa hb9 hb10 hb9.size
 have hdo:=Nd (rs:=rs) o h.domain
 have herr:Kv u h (qc rs u.host h.domain)=if(qc rs u.host h.domain).2.2≠0 then(qc rs u.host h.domain).2.2 else if(h.sec && !u.sec)=true then 104 else if(decide (h.same=1) && !h.sec)=true then 105 else if MP h (qc rs u.host h.domain).2.1=true then 106 else 0:=rfl
 have hck:U7 u h (qc rs u.host h.domain) now=⟨h.name,h.value,(qc rs u.host h.domain).1,(qc rs u.host h.domain).2.1,if h.path=[]then Qf u.path else h.path,h.sec,h.http,h.same,Va h now,now,now,0⟩:=rfl
 unfold U9
 generalize qc rs u.host h.domain=D at*
 obtain⟨d,only,e⟩:=D
 simp only at hdo herr hck
 refine⟨_,_,_,rfl,?_⟩
 refine aP.new (zs:=gJ.cells) (cs:=d.cells) rfl (Hst.len hdo) (Hst.one d) w10 λk11 w11 hk11 h11 hb11=>?_
 have hb811:=aa hb810 hb11 hb810.size
 have h5B:=h58.below hb811
 have h6B:=h68.below hb811
 refine⟨λn w'=>n=Kv u h (d,only,e)/\bW w11 w',?_,?_⟩
 · refine ab.of (λc2=>⟨?_,Below.refl _ _⟩) (λc2=>?_)
   · have c2:e≠0:=by simpa using c2
     rw[herr,if_pos c2]
   have c2: ¬ e≠0:=by simpa using c2
   rw[if_neg c2]at herr
   refine iU (w:=w11) (h.sec && !u.sec) ?_ ?_
   · exact⟨rfl,_,h6B.load1 ci rfl rfl,ab.of (λc3=>⟨rfl,_,h5B.load1 ci rfl (i:=0) rfl,rfl,by rw[c3];rfl⟩) (λc3=>⟨rfl,by rw[c3];rfl⟩)⟩
   refine ab.of (λc3=>⟨by rw[herr,if_pos c3],Below.refl _ _⟩) (λc3=>?_)
   rw[if_neg (by rw[c3];decide)]at herr
   refine iU (w:=w11) (decide (h.same=1) && !h.sec) ?_ ?_
   · exact⟨rfl,_,h6B.load1 bG rfl rfl,ab.of (λc4=>⟨rfl,_,h6B.load1 ci rfl rfl,rfl,by rw[decide_eq_true (eq_of_beq c4)];rfl⟩) (λc4=>⟨rfl,by rw[decide_eq_false (beq_eq_false_iff_ne.1 c4)];rfl⟩)⟩
   refine ab.of (λc4=>⟨by rw[herr,if_pos c4],Below.refl _ _⟩) (λc4=>?_)
   rw[if_neg (by rw[c4];decide)]at herr
   refine⟨_,_,_,_,_,_,_,_,_,_,_,jI h h6B,?_⟩
   refine aw (Ab h only w11) ?_
   rintro _ w12 ⟨rfl,hb12⟩
   refine⟨_,rfl,ab.of (λc5=>⟨by rw[herr,if_pos c5],hb12⟩) (λc5=>⟨?_,hb12⟩)⟩
   rw[herr,if_neg (by rw[c5];decide)]
   exact Decidable.not_not.1 c2
 intro e2
 refine aJ.of ?_ _
 rintro w12 ⟨rfl,hb12⟩
 have hb812:=aa hb811 hb12 hb811.size
 refine ab.of (λc2=>?_) (λc2=>?_)
 · have c2:Kv u h (d,only,e)≠0:=by simpa using c2
   exact fin (c:=An) rfl (by rw[hT,if_pos c2]) hb812
 have c2: ¬ Kv u h (d,only,e)≠0:=by simpa using c2
 rw[if_neg c2]at hT
 have h5C:=h5B.below hb12
 have h6C:=h6B.below hb12
 have h11C:=h11.below hb12
 refine⟨rfl,_,h6C.load1 av rfl rfl,?_⟩
 refine UT (w:=w12) (if h.path=[]then Qf u.path else h.path) ?_ ?_
 · refine ab.of (λc3=>?_) (λc3=>⟨rfl,by rw[if_neg (beq_eq_false_iff_ne.1 c3)]⟩)
   refine⟨rfl,_,h5C.load1 av rfl (li o),?_⟩
   refine aw (yV u.path (by omega) w12) ?_
   rintro _ w13 ⟨rfl,hw13⟩
   exact⟨_,rfl,hw13,by rw[if_pos (eq_of_beq c3)]⟩
 refine⟨rfl,_,λv hv=>(h6C.below hv).load1 av rfl rfl,rfl,_,λv hv=>(h6C.below hv).load1 av rfl rfl,_,λv hv=>aP.load0 (h11C.below hv) (Hst.len hdo),rfl,_,λv hv=>(h6C.below hv).load1 ci rfl rfl,rfl,_,λv hv=>(h6C.below hv).load1 ci rfl rfl,rfl,_,λv hv=>(h6C.below hv).load1 bG rfl rfl,_,_,_,_,_,_,_,_,_,_,_,λv hv=>jI h (h6C.below hv),_,λv hv=>cw (yN h now v) hv,_,λv hv=>MQ _ _ hdo _ _ _ _ _ _ _ _ v,?_⟩
 intro wq hq
 exact fin hdo (by rw[hT,hck]) (aa hb812 hq hb812.size)
theorem KP (s:List UInt8):(mkS s==mkS s)=true:=by
 show((mkS s).data==(mkS s).data)=true
 simp
theorem Rb (s:List UInt8):Instr.sameBits 10000 (evS s) (evS s)=true:=by
 simp[Instr.sameBits,evS,KP]
def Plc.tail (p:Plc):List Value:=[.bool p.only,vS p.path]
def Plc.cells (p:Plc):List Value:=vS p.name::(p.host.cells++p.tail)
def Plc.v (p:Plc):Value:=.agg p.cells.toArray
theorem Plc.len (p:Plc):p.cells.length=21:=by unfold Plc.cells;rw[List.length_cons,List.length_append,Hst.len p.hk];rfl
theorem Plc.one (p:Plc):yM p.cells:=bI rfl (ux (Hst.one _) (bI rfl (bI rfl nj)))
def Kpt.cells (k:Kpt):List Value:=k.c.cells++[vS k.site]
def Kpt.v (k:Kpt):Value:=.agg k.cells.toArray
theorem Kpt.len (k:Kpt):k.cells.length=30:=by unfold Kpt.cells;rw[List.length_append,Cky.len k.ok];rfl
theorem Kpt.one (k:Kpt):yM k.cells:=ux (Cky.one _) (bI rfl nj)
def pI:Kpt:=⟨An,[],rfl⟩
theorem uq (k:Kpt){j:Nat}(h:j<29):k.cells[j]? =k.c.cells[j]? :=by
 unfold Kpt.cells
 rw[List.getElem?_append_left (by rw[Cky.len k.ok];exact h)]
theorem zM (k:Kpt):k.cells[29]? =some (vS k.site):=by
 unfold Kpt.cells
 rw[List.getElem?_append_right (by rw[Cky.len k.ok];decide),Cky.len k.ok];rfl
structure Shf (t:TypeId)(p ma ms:Nat)(L:List Kpt)(last:Int)(w:World):Prop where
 cell:ao w p t [.map (some ma),.map (some ms),vI last]
 ex:∃M S,sf Plc.v Kpt.v w ma M/\sf evS evN w ms S/\xU M L/\CG S L
 inv:ShI L last
 n1:p≠ma
 n2:p≠ms
 n3:ma≠ms
theorem Shf.lts {t:TypeId}{p ma ms:Nat}{L:List Kpt}{last:Int}{w:World}(h:Shf t p ma ms L last w):p<w.heap.size/\ma<w.heap.size/\ms<w.heap.size:=by
 obtain⟨M,S,h1,h2,_⟩:=h.ex
 exact⟨h.cell.lt,h1.lt,h2.lt⟩
theorem Shf.keep {t:TypeId}{p ma ms:Nat}{L:List Kpt}{last:Int}{w w':World}(h:Shf t p ma ms L last w)(hk:∀k∈[p,ma,ms],w'.heap[k]? =w.heap[k]?):Shf t p ma ms L last w':=by
 obtain⟨M,S,h1,h2,h3⟩:=h.ex
 exact⟨h.cell.block (hk p (by simp)),⟨M,S,h1.keep (hk ma (by simp)),h2.keep (hk ms (by simp)),h3⟩,h.inv,h.n1,h.n2,h.n3⟩
theorem Shf.below {t:TypeId}{p ma ms:Nat}{L:List Kpt}{last:Int}{w w':World}(h:Shf t p ma ms L last w)(hb:bW w w'):Shf t p ma ms L last w':=
 h.keep λk hk=>hb.block k (by have:=h.lts;simp at hk;rcases hk with rfl|rfl|rfl <;> omega)
theorem Shf.put {t:TypeId}{p ma ms:Nat}{L:List Kpt}{last:Int}{w w':World}{r:Nat}(h:Shf t p ma ms L last w)(hg:w.grownBy w' (some r))(hr:r ∉ [p,ma,ms]):Shf t p ma ms L last w':=
 h.keep λk hk=>hg.block k (by have:=h.lts;simp at hk;rcases hk with rfl|rfl|rfl <;> omega) (λe=>hr (by cases e;exact hk))
theorem Shf.chg {S:List Nat}{t:TypeId}{p ma ms:Nat}{L:List Kpt}{last:Int}{w w':World}(h:Shf t p ma ms L last w)(hc:Chg S w w')(hr:∀k∈[p,ma,ms],k ∉ S):Shf t p ma ms L last w':=
 h.keep λk hk=>hc.block k (by have:=h.lts;simp at hk;rcases hk with rfl|rfl|rfl <;> omega) (hr k hk)
theorem Rp:∃fs,prog.underlying bO=some (.struct fs):=⟨_,rfl⟩
theorem Nm (a b:Plc):eqV prog 10000 bO a.v b.v=some (decide (a=b)):=by
 have e:eqV prog 10000 bO a.v b.v=some ((a.name==b.name)&&(jA a.host b.host&&((a.only==b.only)&&((a.path==b.path)&&true)))):=by
   obtain⟨a1,⟨k,n,a⟩,a4,a5,o⟩:=a
   obtain⟨b1,⟨k',n',b⟩,b4,b5,p⟩:=b
   obtain⟨x0,x1,x2,x3,x4,x5,x6,x7,x8,x9,x10,x11,x12,x13,x14,x15,rfl⟩:=fi a o
   obtain⟨y0,y1,y2,y3,y4,y5,y6,y7,y8,y9,y10,y11,y12,y13,y14,y15,rfl⟩:=fi b p
   kernel_rfl
 rw[e]
 congr 1
 rw[Bool.eq_iff_iff]
 simp only[Bool.and_eq_true,beq_iff_eq,je a.hk b.hk,dTx,and_true]
 obtain⟨a1,a2,a4,a5,o⟩:=a
 obtain⟨b1,b2,b4,b5,p⟩:=b
 simp
theorem AQ:qb prog bO Plc.v:=by
 obtain⟨fs,h⟩:=Rp
 refine qb.struct h Nm (λb k w=>?_)
 obtain⟨a1,⟨k,n,a⟩,a4,a5,o⟩:=k
 obtain⟨x0,x1,x2,x3,x4,x5,x6,x7,x8,x9,x10,x11,x12,x13,x14,x15,rfl⟩:=fi a o
 kernel_rfl
theorem Mg (k:Plc):Instr.sameBits 10000 k.v k.v=true:=by
 obtain⟨a1,⟨k,n,a⟩,a4,a5,o⟩:=k
 obtain⟨x0,x1,x2,x3,x4,x5,x6,x7,x8,x9,x10,x11,x12,x13,x14,x15,rfl⟩:=fi a o
 simp[Plc.v,Plc.cells,Plc.tail,Hst.cells,adC,Instr.sameBits,KP]
theorem FF:qb prog ah evS:=qb.str av
theorem RB:Whl prog bO 21:=⟨⟨_,_,DW⟩,by kernel_rfl⟩
theorem gX:Whl prog aC 30:=⟨⟨_,_,we⟩,by kernel_rfl⟩
theorem Gf {w K}(h:nA w (.map #[] 0) λa b=>nA b (.map #[] 0) λc d=>nA d (.cells #[.map (some a),.map (some c),vI 0] aO) λe f=>K (.pointer (vA e 0)) f):Cf o0 #[] w (Ret K):=ru func58 [] h
theorem uF (a:Option Addr)(b:Value)(c:lU){w K}(h:nA w (.cells (Value.cells b) af) λd e=>(Option.isSome a=true)/\(Option.isSome a=true)/\∃f,(∀g,bW e g->Ld ar (Option.map (λi=>i.add 0) a) g (.map f))/\∃g,(∀i,bW e i->Ld af (vA d 0) i g)/\∃i,(∀j,bW e j->Cf iO #[g] j λk l=>k=.returned i/\bW j l)/\∃j k,(∀l,bW e l->(Instr.lookup ar (.map f) i true).run prog l=.ok (.tuple #[j,.bool k]) l)/\∀l,e.heap.size <=l->∀m,bW e m->m.heap[l]? =some (.cells fw aC)->∃n,Sv aC (vA l 0) j m n/\∃o:FP [],(ab k (∃p,Ld af (vA d 0) n p/\uB dM #[.pointer a,p] n λq r=>true/\true/\true/\true/\(∃s,Ld bu (vA l 26) (World.drew r) (vI s)/\true/\(∃t,Ld bh (vA l 28) (World.drew r) (vI t)/\∃u,Sv bu (vA d 26) (vI s) (World.drew r) u/\true/\∃v,Sv bh (vA d 28) (vI t) u v/\o v)/\∃t,Sv bu (vA d 26) (vI s) (World.drew r) t/\∃u,Ld bh (vA l 28) t (vI u)/\true/\∃v,Sv bh (vA d 28) (vI u) t v/\o v)/\∃s,Ld bh (vA l 28) (World.drew r) (vI s)/\∃t,Ld bu (vA l 26) (World.drew r) (vI t)/\true/\∃u,Sv bu (vA d 26) (vI t) (World.drew r) u/\true/\∃v,Sv bh (vA d 28) (vI s) u v/\o v) ((Option.isSome a=true)/\(Option.isSome a=true)/\∃p,Ld bh (Option.map (λq=>q.add 2) a) n (vI p)/\(Option.isSome a=true)/\(Option.isSome a=true)/\∃q,Sv bh (Option.map (λr=>r.add 2) a) (vI (i64.wrap (p+(1:Int)))) n q/\(Option.isSome a=true)/\(Option.isSome a=true)/\∃r,Ld bh (Option.map (λs=>s.add 2) a) q (vI r)/\true/\∃s,Sv bh (vA d 28) (vI r) q s/\o s))/\aJ 24 (∀p,o p->(Option.isSome a=true)/\(Option.isSome a=true)/\∃q,(∀r,bW p r->Ld ar (Option.map (λs=>s.add 0) a) r (.map q))/\∃r,(∀s,bW p s->Ld af (vA d 0) s r)/\∃s,(∀t,bW p t->Cf iO #[r] t λu v=>u=.returned s/\bW t v)/\∃t,(∀u,bW p u->Ld af (vA d 0) u t)/\∃u,(∀v,bW p v->(Instr.build aC #[(0,t),(1,vS c)]).run prog v=.ok u v)/\∀v,bW p v->∃x,(Instr.mapUpdate ar (.map q) s u).run prog v=.ok () x/\(Option.isSome a=true)/\(Option.isSome a=true)/\∃y,Ld aY (Option.map (λz=>z.add 1) a) x (.map y)/\∃z,(Instr.lookup aY (.map y) (vS c) false).run prog x=.ok (vI z) x/\∃A,(Instr.mapUpdate aY (.map y) (vS c) (vI (i64.wrap (z+(1:Int))))).run prog x=.ok () A/\K (.bool k) A)):Cf jx #[.pointer a,b,vS c] w (Ret K):=ru func64 [(3000003,[(0,.one .bool),(1,.one .bool),(2,.one .bool),(3,.one .bool),(4,.one .bool),(5,.one .bool),(6,.one .bool),(7,.one .bool),(8,.one .bool),(9,.one .bool),(10,.one .bool)]),(4,[]),(3000015,[(0,.one .bool),(1,.one .bool),(2,.one .bool),(7,.one .bool),(3,.one .bool),(4,.one .bool),(5,.one .bool),(6,.one .bool),(8,.one .bool)])] h
theorem qg (a:Option Addr)(b:Int){w K}(h:(Option.isSome a=true)/\(Option.isSome a=true)/\∃c,Ld ar (Option.map (λd=>d.add 0) a) w (.map c)/\∃d e,(Instr.range ar (.map c)).run prog w=.ok (.pointer e) d/\∃f:Nat->FP [.one .slice],(∃g,f g none 0 0 d)/\∀g i j k,aJ 15 (∀l,f g i j k l->((∃m,(Instr.next (.pointer e) false jL).run prog l=.ok (.tuple #[.bool false]) m/\∃n:Nat->FP [.one (.int .i64)],(∃o,n o (0:Int) m)/\∀o p,aJ 8 (∀q,n o p q->ab (decide (p<((j:Nat):Int))) ((bx p ((j:Nat):Int)/\Option.isSome i=true)/\∃r,Ld af (aq i p 29) q r/\nA q (.cells cT af) λs t=>∃u,Sv af (vA s 0) r t u/\∃v,Ld af (vA s 0) u v/\uB dM #[.pointer a,v] u λx y=>∃z:Nat,z<o/\n z (i64.wrap (p+(1:Int))) y) (K (vI ((j:Nat):Int)) q)))\/(∃m n o,(Instr.next (.pointer e) false jL).run prog l=.ok (.tuple #[.bool true,n,o]) m/\∃p q,(Instr.entry (.pointer e)).run prog m=.ok (.tuple #[p,q]) m/\nA m (.cells fw aC) λr s=>∃t,Sv aC (vA r 0) q s t/\true/\true/\∃u,Ld bu (vA r 25) t (vI u)/\ab (decide (u <=b)) (true/\∃v,Ld af (vA r 0) t v/\∃x y z A,(Instr.buildSlice aR 1 #[(0,v)]).run prog t=.ok (.slice y z A) x/\∃B C D E,(Builtin.append_ #[aR,aR] aR #[.slice i j k,.slice y z A]).run prog x=.ok (.slice C D E) B/\∃F:Nat,F<g/\f F C D E B) (∃v:Nat,v<g/\f v i j k t))))):Cf eV #[.pointer a,vI b] w (Ret K):=ru func65 [(8,[(5,.one .slice)]),(27,[(31,.one (.int .i64))])] h
theorem uG (a:Option Addr)(b:Value)(c:Int){w K}(h:nA w (.cells (Value.cells b) af) λd e=>(Option.isSome a=true)/\(Option.isSome a=true)/\∃f,(∀g,bW e g->Ld ar (Option.map (λi=>i.add 0) a) g (.map f))/\∃g,(∀i,bW e i->Ld af (vA d 0) i g)/\∃i,(∀j,bW e j->Cf iO #[g] j λk l=>k=.returned i/\bW j l)/\∃j k,(∀l,bW e l->(Instr.lookup ar (.map f) i true).run prog l=.ok (.tuple #[j,.bool k]) l)/\∀l,e.heap.size <=l->∀m,bW e m->m.heap[l]? =some (.cells fw aC)->∃n,Sv aC (vA l 0) j m n/\ab k (true/\true/\∃o,Sv bu (vA l 27) (vI c) n o/\(Option.isSome a=true)/\(Option.isSome a=true)/\∃p,(∀q,bW o q->Ld ar (Option.map (λr=>r.add 0) a) q (.map p))/\∃q,(∀r,bW o r->Ld af (vA d 0) r q)/\∃r,(∀s,bW o s->Cf iO #[q] s λt u=>t=.returned r/\bW s u)/\∃s,(∀t,bW o t->Ld aC (vA l 0) t s)/\∀t,bW o t->∃u,(Instr.mapUpdate ar (.map p) r s).run prog t=.ok () u/\K (.bool k) u) (K (.bool k) n)):Cf jy #[.pointer a,b,vI c] w (Ret K):=ru func74 [(3000003,[(0,.one .bool),(1,.one .bool),(2,.one .bool),(3,.one .bool),(4,.one .bool),(5,.one .bool),(6,.one .bool),(7,.one .bool),(8,.one .bool),(9,.one .bool),(10,.one .bool)]),(3000010,[(0,.one .bool),(1,.one .bool),(2,.one .bool),(3,.one .bool),(4,.one .bool),(5,.one .bool),(6,.one .bool)])] h
theorem H2 (a:Value){w K}(h:nA w (.cells (Value.cells a) af) λb c=>nA c (.cells EY bO) λd e=>true/\∃f,Ld ah (vA b 0) e (vS f)/\true/\∃g,Ld ae (vA b 2) e g/\true/\∃i,Ld bV (vA b 20) e (.bool i)/\true/\∃j,Ld ah (vA b 21) e (vS j)/\∃k,(Instr.build bO #[(0,vS f),(1,g),(2,.bool i),(3,vS j)]).run prog e=.ok k e/\∃l,Sv bO (vA d 0) k e l/\∃m,Rv bO (vA d 0) l m/\K m l):Cf iO #[a] w (Ret K):=ru func128 [] h
theorem sr (a:Option Addr)(b:Value){w K}(h:nA w (.cells (Value.cells b) af) λc d=>(Option.isSome a=true)/\(Option.isSome a=true)/\∃e,(∀f,bW d f->Ld ar (Option.map (λg=>g.add 0) a) f (.map e))/\∃f,(∀g,bW d g->Ld af (vA c 0) g f)/\∃g,(∀i,bW d i->Cf iO #[f] i λj k=>j=.returned g/\bW i k)/\∃i j,(∀k,bW d k->(Instr.lookup ar (.map e) g true).run prog k=.ok (.tuple #[i,.bool j]) k)/\∀k,d.heap.size <=k->∀l,bW d l->l.heap[k]? =some (.cells fw aC)->∃m,Sv aC (vA k 0) i l m/\ab (!j) (K (.bool false) m) ((Option.isSome a=true)/\(Option.isSome a=true)/\∃n,(∀o,bW m o->Ld ar (Option.map (λp=>p.add 0) a) o (.map n))/\∃o,(∀p,bW m p->Ld af (vA c 0) p o)/\∃p,(∀q,bW m q->Cf iO #[o] q λr s=>r=.returned p/\bW q s)/\∀q,bW m q->∃r,(Builtin.delete_ #[ar,bO] jL #[.map n,p]).run prog q=.ok (.tuple #[]) r/\(Option.isSome a=true)/\(Option.isSome a=true)/\true/\∃s,(∀t,bW r t->Ld aY (Option.map (λu=>u.add 1) a) t (.map s))/\∃t,(∀u,bW r u->Ld ah (vA k 29) u (vS t))/\∃u,(∀v,bW r v->(Instr.lookup aY (.map s) (vS t) false).run prog v=.ok (vI u) v)/\∀v,bW r v->∃x,(Instr.mapUpdate aY (.map s) (vS t) (vI (i64.wrap (u-(1:Int))))).run prog v=.ok () x/\(Option.isSome a=true)/\(Option.isSome a=true)/\∃y,(∀z,bW x z->Ld aY (Option.map (λA=>A.add 1) a) z (.map y))/\true/\∃z,(∀A,bW x A->Ld ah (vA k 29) A (vS z))/\∃A,(∀B,bW x B->(Instr.lookup aY (.map y) (vS z) false).run prog B=.ok (vI A) B)/\∀B,bW x B->ab (A==(0:Int)) ((Option.isSome a=true)/\(Option.isSome a=true)/\true/\∃C,(∀D,bW B D->Ld aY (Option.map (λE=>E.add 1) a) D (.map C))/\∃D,(∀E,bW B E->Ld ah (vA k 29) E (vS D))/\∀E,bW B E->∃F,(Builtin.delete_ #[aY,ah] jL #[.map C,vS D]).run prog E=.ok (.tuple #[]) F/\K (.bool true) F) (K (.bool true) B))):Cf dM #[.pointer a,b] w (Ret K):=ru func129 [(3000003,[(0,.one .bool),(1,.one .bool),(2,.one .bool),(3,.one .bool),(4,.one .bool),(5,.one .bool),(6,.one .bool),(7,.one .bool),(8,.one .bool),(9,.one .bool),(10,.one .bool)]),(3000013,[(0,.one .bool),(1,.one .bool),(2,.one .bool),(3,.one .bool),(4,.one .bool),(5,.one .bool)]),(3000016,[(0,.one .bool),(1,.one .bool),(2,.one .bool),(4,.one .bool),(3,.one .bool),(5,.one .bool),(6,.one .bool),(7,.one .bool)]),(3000020,[(0,.one .bool),(1,.one .bool),(2,.one .bool),(4,.one .bool),(3,.one .bool),(5,.one .bool)])] h
theorem qY (a:Option Addr)(b:lU){w K}(h:(Option.isSome a=true)/\(Option.isSome a=true)/\∃c,Ld aY (Option.map (λd=>d.add 1) a) w (.map c)/\∃d,(Instr.lookup aY (.map c) (vS b) false).run prog w=.ok (vI d) w/\K (vI d) w):Cf iB #[.pointer a,vS b] w (Ret K):=ru func130 [] h
theorem qh (a:Option Addr)(b:lU){w K}(h:nA w (.cells #[vS b] ah) λc d=>nA d (.cells cT af) λe f=>Cf dm #[.pointer a,.func (.func bY) #[] #[.pointer (vA c 0)]] f λg i=>∃j k,g=rT #[j,.bool k]/\∃l,Sv af (vA e 0) j i l/\∃m,Rv af (vA e 0) l m/\K (.tuple #[m,.bool k]) l):Cf gT #[.pointer a,vS b] w (Ret K):=ru func131 [] h
theorem uE (a:Option Addr){w K}(h:(Option.isSome a=true)/\(Option.isSome a=true)/\∃b,Ld ar (Option.map (λc=>c.add 0) a) w (.map b)/\∃c,(Builtin.len_ #[ar] bh #[.map b]).run prog w=.ok (vI c) w/\K (vI c) w):Cf jw #[.pointer a] w (Ret K):=ru func132 [] h
theorem lW (a:Option Addr){w K}(h:nA w (.cells cT af) λb c=>Cf dm #[.pointer a,.func (.func bv) #[] #[]] c λd e=>∃f g,d=rT #[f,.bool g]/\∃i,Sv af (vA b 0) f e i/\∃j,Rv af (vA b 0) i j/\K (.tuple #[j,.bool g]) i):Cf eM #[.pointer a] w (Ret K):=ru func133 [] h
theorem cV (a:Option Nat){w K}(h:nA w (.cells #[.map a] ar) λb c=>K (.func (.func bE) #[] #[.pointer (vA b 0)]) c):Cf db #[.map a] w (Ret K):=ru func135 [] h
theorem qf (a b:Value){w K}(h:nA w (.cells (Value.cells a) af) λc d=>nA d (.cells (Value.cells b) af) λe f=>true/\∃g,Ld bh (vA c 28) f (vI g)/\true/\∃i,Ld bh (vA e 28) f (vI i)/\K (vI (i64.wrap (g-i))) f):Cf gS #[a,b] w (Ret K):=ru func136 [] h
theorem ns (a:Value)(b:Option Addr){w K}(h:nA w (.cells (Value.cells a) aC) λc d=>true/\∃e,Ld ah (vA c 29) d (vS e)/\∃f,Ld ah b d (vS f)/\K (.bool (e==f)) d):Cf bY #[a,.pointer b] w (Ret K):=ru func200 [] h
theorem jU (a:Value){w K}(h:nA w (.cells (Value.cells a) aC) λb c=>K (.bool true) c):Cf bv #[a] w (Ret K):=ru func201 [] h
theorem ft (a b:Option Addr){w K}(h:nA w (.cells cT af) λc d=>nA d (.cells fw aC) λe f=>(Option.isSome a=true)/\(Option.isSome a=true)/\∃g,Ld ar (Option.map (λi=>i.add 0) a) f (.map g)/\∃i j,(Instr.range ar (.map g)).run prog f=.ok (.pointer j) i/\∃k:Nat->FP [.one .bool],(∃l,k l false i)/\∀l m,aJ 42 (∀n,k l m n->((∃o,(Instr.next (.pointer j) false jL).run prog n=.ok (.tuple #[.bool false]) o/\true/\∃p,Ld af (vA e 0) o p/\∃q,Sv af (vA c 0) p o q/\∃r,Rv af (vA c 0) q r/\K (.tuple #[r,.bool m]) q)\/(∃o p q,(Instr.next (.pointer j) false jL).run prog n=.ok (.tuple #[.bool true,p,q]) o/\∃r s,(Instr.entry (.pointer j)).run prog o=.ok (.tuple #[r,s]) o/\nA o (.cells fw aC) λt u=>∃v,Sv aC (vA t 0) s u v/\∃x:FP [.one .bool],(ab (!m) (x true v) (true/\true/\∃y,Ld bu (vA t 27) v (vI y)/\true/\true/\∃z,Ld bu (vA e 27) v (vI z)/\ab (decide (y<z)) (x true v) (true/\true/\∃A,Ld bu (vA t 27) v (vI A)/\true/\true/\∃B,Ld bu (vA e 27) v (vI B)/\ab (A==B) (true/\true/\∃C,Ld bh (vA t 28) v (vI C)/\true/\true/\∃D,Ld bh (vA e 28) v (vI D)/\x (decide (C<D)) v) (x false v))))/\∀y,aJ 29 (∀z,x y z->∃A:FP [.one .bool],(∃B,Ld aC (vA t 0) z B/\uB bY #[B,.pointer b] z λC D=>ab C (A y D) (A false D))/\∀B,aJ 5 (∀C,A B C->ab B (∃D,Ld aC (vA t 0) C D/\∃E,Sv aC (vA e 0) D C E/\∃F:Nat,F<l/\k F true E) (∃D:Nat,D<l/\k D m C))))))):Cf dm #[.pointer a,.func (.func bY) #[] #[.pointer b]] w (Ret K):=ru func199 [(10,[(7,.one .bool)]),(20,[(10,.one .bool)]),(22,[(54,.one .bool)])] h
theorem eB (a:Option Addr){w K}(h:nA w (.cells cT af) λb c=>nA c (.cells fw aC) λd e=>(Option.isSome a=true)/\(Option.isSome a=true)/\∃f,Ld ar (Option.map (λg=>g.add 0) a) e (.map f)/\∃g i,(Instr.range ar (.map f)).run prog e=.ok (.pointer i) g/\∃j:Nat->FP [.one .bool],(∃k,j k false g)/\∀k l,aJ 42 (∀m,j k l m->((∃n,(Instr.next (.pointer i) false jL).run prog m=.ok (.tuple #[.bool false]) n/\true/\∃o,Ld af (vA d 0) n o/\∃p,Sv af (vA b 0) o n p/\∃q,Rv af (vA b 0) p q/\K (.tuple #[q,.bool l]) p)\/(∃n o p,(Instr.next (.pointer i) false jL).run prog m=.ok (.tuple #[.bool true,o,p]) n/\∃q r,(Instr.entry (.pointer i)).run prog n=.ok (.tuple #[q,r]) n/\nA n (.cells fw aC) λs t=>∃u,Sv aC (vA s 0) r t u/\∃v:FP [.one .bool],(ab (!l) (v true u) (true/\true/\∃x,Ld bu (vA s 27) u (vI x)/\true/\true/\∃y,Ld bu (vA d 27) u (vI y)/\ab (decide (x<y)) (v true u) (true/\true/\∃z,Ld bu (vA s 27) u (vI z)/\true/\true/\∃A,Ld bu (vA d 27) u (vI A)/\ab (z==A) (true/\true/\∃B,Ld bh (vA s 28) u (vI B)/\true/\true/\∃C,Ld bh (vA d 28) u (vI C)/\v (decide (B<C)) u) (v false u))))/\∀x,aJ 29 (∀y,v x y->∃z:FP [.one .bool],(∃A,Ld aC (vA s 0) y A/\uB bv #[A] y λB C=>ab B (z x C) (z false C))/\∀A,aJ 5 (∀B,z A B->ab A (∃C,Ld aC (vA s 0) B C/\∃D,Sv aC (vA d 0) C B D/\∃E:Nat,E<k/\j E true D) (∃C:Nat,C<k/\j C l B))))))):Cf dm #[.pointer a,.func (.func bv) #[] #[]] w (Ret K):=ru func199 [(10,[(7,.one .bool)]),(20,[(10,.one .bool)]),(22,[(54,.one .bool)])] h
theorem HP {P:Program}{f:FuncId}{args:Array Value}{u:World}{v:Value}(h:Calls P f args u (Ret λv' w'=>v'=v/\bW u w')):Calls P f args u λe w'=>e=.returned v/\bW u w':=
 h.mono (by rintro e w' ⟨v',rfl,rfl,hb⟩;exact⟨rfl,hb⟩)
def Wi:Plc:=⟨[],gJ,false,[],rfl⟩
theorem IM {c:Cky}(o:c.ok)(w:World):(Instr.build bO #[(0,vS c.name),(1,c.host.v),(2,.bool c.only),(3,vS c.path)]).run prog w=.ok (c.plc o).v w:=by
 obtain⟨nm,val,⟨kd,hn,a⟩,only,path,sec,http,same,exp,born,used,seq⟩:=c
 obtain⟨x0,x1,x2,x3,x4,x5,x6,x7,x8,x9,x10,x11,x12,x13,x14,x15,rfl⟩:=fi a o
 kernel_rfl
theorem Lv (k:Kpt)(w:World):(Instr.build aC #[(0,k.c.v),(1,vS k.site)]).run prog w=.ok k.v w:=by
 obtain⟨⟨nm,val,⟨kd,hn,a⟩,only,path,sec,http,same,exp,born,used,seq⟩,s,o⟩:=k
 obtain⟨x0,x1,x2,x3,x4,x5,x6,x7,x8,x9,x10,x11,x12,x13,x14,x15,rfl⟩:=fi a o
 kernel_rfl
theorem jE {c:Cky}(o:c.ok)(w:World):Cf iO #[c.v] w (Ret λv w'=>v=(c.plc o).v/\bW w w'):=by
 apply H2
 intro k1 w1 hk1 hw1 k2 w2 hk2 hw2
 have hB1:=(hw1▸ai w _:bW w w1)
 have hb2:=(hw2▸ai w1 _:bW w1 w2)
 have a1:ao w2 k1 af c.cells:=(ao.new hk1 hw1:ao w1 k1 af c.cells).below hb2
 have a2:ao w2 k2 bO Wi.cells:=ao.new hk2 hw2
 have hB2:=aa hB1 hb2 hB1.size
 refine⟨rfl,_,a1.load1 av rfl (i:=0) rfl,rfl,_,aP.load a1 (i:=2) (us:=c.host.cells) (Hst.len o) (λj hj=>uZ o hj),rfl,_,a1.load1 ci rfl (i:=20) (cq o 0),rfl,_,a1.load1 av rfl (i:=21) (cq o 1),_,IM o w2,?_⟩
 exact RB.fin (Plc.len _) (Plc.one _) a2 (Plc.len _) hB2 (by rw[hk2];exact hB1.size) λwx hb=>⟨rfl,hb⟩
structure SS (w0:World)(p ma ms:Nat)(M:List (Plc×Kpt))(S:List (List UInt8×Int))(last:Int)(w:World):Prop where
 ch:Chg [p,ma,ms] w0 w
 cell:ao w p aO [.map (some ma),.map (some ms),vI last]
 mM:sf Plc.v Kpt.v w ma M
 mS:sf evS evN w ms S
 n1:p≠ma
 n2:p≠ms
 n3:ma≠ms
 l1:p<w0.heap.size
 l2:ma<w0.heap.size
 l3:ms<w0.heap.size
section
variable {w0 w:World} {p ma ms:Nat} {M:List (Plc×Kpt)} {S:List (List UInt8×Int)} {last:Int} {L:List Kpt}
theorem SS.of (h:Shf aO p ma ms L last w):∃M S,SS w p ma ms M S last w/\xU M L/\CG S L:=by
 obtain⟨l1,l2,l3⟩:=h.lts
 obtain⟨M,S,h1,h2,h3,h4⟩:=h.ex
 exact⟨M,S,⟨Chg.refl _ _,h.cell,h1,h2,h.n1,h.n2,h.n3,l1,l2,l3⟩,h3,h4⟩
theorem SS.shf (h:SS w0 p ma ms M S last w)(hM:xU M L)(hS:CG S L)(hi:ShI L last):Shf aO p ma ms L last w:=⟨h.cell,⟨M,S,h.mM,h.mS,hM,hS⟩,hi,h.n1,h.n2,h.n3⟩
theorem SS.below (h:SS w0 p ma ms M S last w){w':World}(hb:bW w w'):SS w0 p ma ms M S last w':=
 ⟨h.ch.step hb,h.cell.below hb,h.mM.below hb,h.mS.below hb,h.n1,h.n2,h.n3,h.l1,h.l2,h.l3⟩
theorem SS.size (h:SS w0 p ma ms M S last w):w0.heap.size <=w.heap.size:=h.ch.size
theorem SS.put (h:SS w0 p ma ms M S last w){w':World}{r:Nat}(hg:w.grownBy w' (some r))(hr:w0.heap.size <=r):SS w0 p ma ms M S last w':=by
 have l1:=h.l1
 have l2:=h.l2
 have l3:=h.l3
 exact⟨h.ch.put hg hr,h.cell.grown hg (bF (by omega)),h.mM.grown hg (by omega),h.mS.grown hg (by omega),h.n1,h.n2,h.n3,l1,l2,l3⟩
theorem SS.arr {w':World}{k r:Nat}{t:TypeId}{vs:List Value}(ha:ao w k t vs)(hk:w0.heap.size <=k)(hg:w.grownBy w' (some r))(hr:r<w0.heap.size):ao w' k t vs:=ha.grown hg (bF (by omega))
theorem SS.upM (h:SS w0 p ma ms M S last w)(k:Plc)(v:Kpt):∃w',(Instr.mapUpdate ar (.map (some ma)) k.v v.v).run prog w=.ok () w'/\SS w0 p ma ms (upG k v M) S last w'/\w.grownBy w' (some ma):=by
 obtain⟨w',hr,hm,hg⟩:=h.mM.up aZ AQ Mg k v
 exact⟨w',hr,⟨h.ch.trans (Chg.grown hg (by simp)),h.cell.grown hg (bF h.n1),hm,h.mS.grown hg (Ne.symm h.n3),h.n1,h.n2,h.n3,h.l1,h.l2,h.l3⟩,hg⟩
theorem SS.delM (h:SS w0 p ma ms M S last w)(k:Plc):∃w',(Builtin.delete_ #[ar,bO] jL #[.map (some ma),k.v]).run prog w=.ok (.tuple #[]) w'/\SS w0 p ma ms (PF k M) S last w'/\w.grownBy w' (some ma):=by
 obtain⟨w',hr,hm,hg⟩:=h.mM.del aZ AQ k #[ar,bO] jL rfl
 exact⟨w',hr,⟨h.ch.trans (Chg.grown hg (by simp)),h.cell.grown hg (bF h.n1),hm,h.mS.grown hg (Ne.symm h.n3),h.n1,h.n2,h.n3,h.l1,h.l2,h.l3⟩,hg⟩
theorem SS.upS (h:SS w0 p ma ms M S last w)(k:List UInt8)(v:Int):∃w',(Instr.mapUpdate aY (.map (some ms)) (vS k) (vI v)).run prog w=.ok () w'/\SS w0 p ma ms M (upG k v S) last w'/\w.grownBy w' (some ms):=by
 obtain⟨w',hr,hm,hg⟩:=h.mS.up fp FF Rb k v
 exact⟨w',hr,⟨h.ch.trans (Chg.grown hg (by simp)),h.cell.grown hg (bF h.n2),h.mM.grown hg h.n3,hm,h.n1,h.n2,h.n3,h.l1,h.l2,h.l3⟩,hg⟩
theorem SS.delS (h:SS w0 p ma ms M S last w)(k:List UInt8):∃w',(Builtin.delete_ #[aY,ah] jL #[.map (some ms),vS k]).run prog w=.ok (.tuple #[]) w'/\SS w0 p ma ms M (PF k S) last w'/\w.grownBy w' (some ms):=by
 obtain⟨w',hr,hm,hg⟩:=h.mS.del fp FF k #[aY,ah] jL rfl
 exact⟨w',hr,⟨h.ch.trans (Chg.grown hg (by simp)),h.cell.grown hg (bF h.n2),h.mM.grown hg h.n3,hm,h.n1,h.n2,h.n3,h.l1,h.l2,h.l3⟩,hg⟩
theorem SS.num (h:SS w0 p ma ms M S last w)(n:Int):∃w',(Instr.storeAt bh (.pointer (some ⟨p,2,none⟩)) (vI n)).run prog w=.ok () w'/\SS w0 p ma ms M S n w'/\w.grownBy w' (some p):=by
 obtain⟨w',hr,ha,hg⟩:=h.cell.put ik (i:=2) (v:=vI n) (show 2<3 by decide) rfl rfl
 exact⟨w',hr,⟨h.ch.trans (Chg.grown hg (by simp)),ha,h.mM.grown hg (Ne.symm h.n1),h.mS.grown hg (Ne.symm h.n2),h.n1,h.n2,h.n3,h.l1,h.l2,h.l3⟩,hg⟩
theorem sJ (h:SS w0 p ma ms M S last w):(Instr.loadAt ar (.pointer (Option.map (λx:Addr=>x.add 0) (some (⟨p,0,none⟩:Addr))))).run prog w=.ok (.map (some ma)) w:=h.cell.load1 aZ rfl (i:=0) rfl
theorem vX (h:SS w0 p ma ms M S last w):(Instr.loadAt aY (.pointer (Option.map (λx:Addr=>x.add 1) (some (⟨p,0,none⟩:Addr))))).run prog w=.ok (.map (some ms)) w:=h.cell.load1 fp rfl (i:=1) rfl
theorem O3 (h:SS w0 p ma ms M S last w):(Instr.loadAt bh (.pointer (Option.map (λx:Addr=>x.add 2) (some (⟨p,0,none⟩:Addr))))).run prog w=.ok (vI last) w:=h.cell.load1 bG rfl (i:=2) rfl
theorem JU (h:SS w0 p ma ms M S last w)(hM:xU M L)(hi:ShI L last)(k:Plc):(Instr.lookup ar (.map (some ma)) k.v true).run prog w=.ok (.tuple #[((atK L k).getD pI).v,.bool (atK L k).isSome]) w:=by
 have:=h.mM.g.look2 aZ AQ we k
 rw[hM.look hi k]at this
 rw[this]
 cases atK L k <;> rfl
theorem O2 (h:SS w0 p ma ms M S last w)(hS:CG S L)(s:List UInt8):(Instr.lookup aY (.map (some ms)) (vS s) false).run prog w=.ok (vI ((j1 L s:Nat):Int)) w:=by
 have:=h.mS.g.look1 fp FF ik s
 rw[<- hS.val s]
 rw[show(vS s)=evS s from rfl,this]
 cases dw s S <;> rfl
theorem US (h:SS w0 p ma ms M S last w)(s:List UInt8):(Instr.lookup aY (.map (some ms)) (vS s) false).run prog w=.ok (vI ((dw s S).getD 0)) w:=by
 have:=h.mS.g.look1 fp FF ik s
 rw[show(vS s)=evS s from rfl,this]
 cases dw s S <;> rfl
end
theorem Un (L:List Kpt)(s:List UInt8)(h:L.length <=4611686018427387904):((j1 L s:Nat):Int) <=4611686018427387904:=by
 have:j1 L s <=L.length:=List.countP_le_length
 omega
def V0 (w:World)(v:Value)(w':World):Prop:=∃p ma ms,v=.pointer (some ⟨p,0,none⟩)/\Shf aO p ma ms [] 0 w'/\w.heap.size <=p/\w.heap.size <=ma/\w.heap.size <=ms/\bW w w'
theorem ym (w:World):Cf o0 #[] w (Ret (V0 w)):=by
 apply Gf
 intro k1 w1 hk1 hw1 k2 w2 hk2 hw2 k4 w4 hk4 hw4
 have hB1:=(hw1▸ai w _:bW w w1)
 have hb2:=(hw2▸ai w1 _:bW w1 w2)
 have hb4:=(hw4▸ai w2 _:bW w2 w4)
 have m1:sf Plc.v Kpt.v w1 k1 []:=sf.new hk1 hw1
 have m2:sf evS evN w2 k2 []:=sf.new hk2 hw2
 have l1:=m1.lt
 have l2:=m2.lt
 have s1:=hb2.size
 have s0:=hB1.size
 exact⟨k4,k1,k2,rfl,⟨ao.new hk4 hw4,⟨[],[],(m1.below hb2).below hb4,m2.below hb4,xU.nil,CG.nil⟩,ShI.nil,by omega,by omega,by omega⟩,by omega,by omega,by omega,aa (aa hB1 hb2 hB1.size) hb4 (Nat.le_trans s0 s1)⟩
theorem H6 {p ma ms:Nat}{L:List Kpt}{last:Int}{w:World}(h:Shf aO p ma ms L last w):Cf jw #[.pointer (some ⟨p,0,none⟩)] w (Ret λv w'=>v=vI ((L.length:Nat):Int)/\w'=w):=by
 obtain⟨M,S,s,hM,hS⟩:=SS.of h
 apply uE
 refine⟨rfl,rfl,_,sJ s,((L.length:Nat):Int),?_,rfl,rfl⟩
 obtain⟨es,c,hh,hkv,_⟩:=s.mM
 have hl:=Jr hkv
 have h2:=hM.perm.length_eq
 rw[List.length_map]at h2
 rw[<- h2,<- hl]
 simp[Builtin.len_,bD aZ,pd hh,goInt]
theorem DP {p ma ms:Nat}{L:List Kpt}{last:Int}{w:World}(h:Shf aO p ma ms L last w)(t:List UInt8):Cf iB #[.pointer (some ⟨p,0,none⟩),vS t] w (Ret λv w'=>v=vI ((j1 L t:Nat):Int)/\w'=w):=by
 obtain⟨M,S,s,hM,hS⟩:=SS.of h
 apply qY
 exact⟨rfl,rfl,_,vX s,_,O2 s hS t,rfl,rfl⟩
theorem Ay {L:List Kpt}{p:Plc}(h:atK L p=none):fq L p=L:=by
 unfold fq
 exact List.filter_eq_self.2 λk hk=>by simpa using rR h k hk
theorem Rw {L:List Kpt}{p:Plc}{now:Int}(h:atK L p=none):IC L p now=L:=by
 unfold IC
 have:(L.map λk=>if k.plc=p then(⟨{ k.c with used:=now },k.site,k.ok⟩:Kpt)else k)=L.map λk=>k:=List.map_congr_left λk hk=>by
   rw[if_neg (rR h k hk)]
 rw[this];simp
def It (x:Kpt)(now:Int):Kpt:=⟨{ x.c with used:=now },x.site,x.ok⟩
theorem Rx {L:List Kpt}{last:Int}(s:ShI L last){p:Plc}{x:Kpt}(h:atK L p=some x)(now:Int):IC L p now=L.map λy=>if y.plc=(It x now).plc then It x now else y:=by
 obtain⟨hx,hp⟩:=mz h
 have e:(It x now).plc=p:=hp
 rw[e]
 unfold IC
 exact List.map_congr_left λy hy=>by
   by_cases c:y.plc=p
   · rw[if_pos c,if_pos c,s.one hy hx (c.trans hp.symm)];rfl
   · rw[if_neg c,if_neg c]
theorem SJ (L:List Kpt)(p:Plc)(now:Int)(s:List UInt8):j1 (IC L p now) s=j1 L s:=by
 unfold j1 IC
 rw[List.countP_map]
 exact List.countP_congr λk _=>by
   show decide _=true ↔ _
   simp only[Function.comp_apply,dTx]
   split <;> rfl
theorem zD {c:Cky}(o:c.ok)(j:Nat)(v:Value):c.cells.set (20+j) v=vS c.name::vS c.value::(c.host.cells++c.tail.set j v):=by
 unfold Cky.cells
 rw[show 20+j=(18+j)+1+1 by omega,List.set_cons_succ,List.set_cons_succ,List.set_append_right _ _ (by rw[Hst.len o];omega),Hst.len o]
 congr 4;omega
theorem Tl {k:Kpt}{j:Nat}(h:j<29)(v:Value):k.cells.set j v=k.c.cells.set j v++[vS k.site]:=by
 unfold Kpt.cells
 rw[List.set_append_left _ _ (by rw[Cky.len k.ok];exact h)]
def Uf (p ma ms:Nat)(L:List Kpt)(last:Int)(pl:Plc)(w:World)(v:Value)(w':World):Prop:=v=.bool (atK L pl).isSome/\Shf aO p ma ms (fq L pl) last w'/\Chg [p,ma,ms] w w'
theorem kY {p ma ms:Nat}{L:List Kpt}{last:Int}{w:World}(h:Shf aO p ma ms L last w)(hl:L.length <=4611686018427387904){c:Cky}(o:c.ok):
   Cf dM #[.pointer (some ⟨p,0,none⟩),c.v] w (Ret (Uf p ma ms L last (c.plc o) w)):=by
 obtain⟨M,S,s,hM,hS⟩:=SS.of h
 have hi:=h.inv
 apply sr
 intro k3 w3 hk3 hw3
 have hb3:=(hw3▸ai w _:bW w w3)
 have a3:ao w3 k3 af c.cells:=ao.new hk3 hw3
 have s3:=s.below hb3
 refine⟨rfl,rfl,some ma,λu hu=>sJ (s3.below hu),c.v,λu hu=>be.load0 (a3.below hu) (Cky.len o),(c.plc o).v,λu hu=>HP (jE o u),_,_,λu hu=>JU (s3.below hu) hM hi _,?_⟩
 intro k5 hk5 wq hq hz
 have a5:ao wq k5 aC pI.cells:=hz
 have s4:=s3.below hq
 have a4:=a3.below hq
 obtain⟨wx,hst,a5x,hg⟩:=gX.store0 (Kpt.len ((atK L (c.plc o)).getD pI)) (Kpt.one _) a5 (Kpt.len _)
 refine⟨wx,hst,?_⟩
 have hk5':w.heap.size <=k5:=Nat.le_trans hb3.size hk5
 have hk3':w.heap.size <=k3:=by omega
 have s5:=s4.put hg hk5'
 have a3x:ao wx k3 af c.cells:=a4.grown hg (bF (by have:=a3.lt;omega))
 have l2:=s.l2
 have l3:=s.l3
 unfold Uf
 cases hat:atK L (c.plc o)with
 | none=>
   refine ab.yes rfl ⟨rfl,?_,s5.ch⟩
   rw[Ay hat];exact s5.shf hM hS hi
 | some x=>
   rw[hat]at a5x
   have a5x:ao wx k5 aC x.cells:=a5x
   refine ab.no rfl ?_
   refine⟨rfl,rfl,some ma,λu hu=>sJ (s5.below hu),c.v,λu hu=>be.load0 (a3x.below hu) (Cky.len o),(c.plc o).v,λu hu=>HP (jE o u),?_⟩
   intro wq1 hq1
   obtain⟨wy,hd,s6,hg6⟩:=(s5.below hq1).delM (c.plc o)
   have a6:ao wy k5 aC x.cells:=SS.arr (a5x.below hq1) hk5' hg6 l2
   refine⟨wy,hd,rfl,rfl,rfl,some ms,λu hu=>vX (s6.below hu),x.site,λu hu=>(a6.below hu).load1 av rfl (i:=29) (zM x),((j1 L x.site:Nat):Int),λu hu=>O2 (s6.below hu) hS _,?_⟩
   have hcd:=P3 hi hat
   have hn:=hcd x.site
   rw[if_pos rfl]at hn
   have hb:=Un L x.site hl
   have hw:i64.wrap (((j1 L x.site:Nat):Int)-1)=((j1 L x.site:Nat):Int)-1:=wrap_i64 (by omega) (by omega)
   intro wq2 hq2
   obtain⟨wz,hu7,s7,hg7⟩:=(s6.below hq2).upS x.site (((j1 L x.site:Nat):Int)-1)
   have a7:ao wz k5 aC x.cells:=SS.arr (a6.below hq2) hk5' hg7 l3
   rw[hw]
   refine⟨wz,hu7,rfl,rfl,some ms,λu hu=>vX (s7.below hu),rfl,x.site,λu hu=>(a7.below hu).load1 av rfl (i:=29) (zM x),((j1 L x.site:Nat):Int)-1,λu hu=>?_,?_⟩
   · rw[US (s7.below hu),zN,if_pos rfl];rfl
   intro wq3 hq3
   have s8:=s7.below hq3
   have a8:=a7.below hq3
   have hM':xU (PF (c.plc o) M) (fq L (c.plc o)):=by rw[tY (hM.nodup hi)];exact hM.drop _
   have hi':ShI (fq L (c.plc o)) last:=hi.filter _
   refine ab.of (λe=>?_) (λe=>?_)
   · have h0:j1 (fq L (c.plc o)) x.site=0:=by
       have:=eq_of_beq e
       omega
     refine⟨rfl,rfl,rfl,some ms,λu hu=>vX (s8.below hu),x.site,λu hu=>(a8.below hu).load1 av rfl (i:=29) (zM x),?_⟩
     intro wq4 hq4
     obtain⟨wv,hd9,s9,_⟩:=(s8.below hq4).delS x.site
     exact⟨wv,hd9,rfl,s9.shf hM' (hS.last hcd h0 _) hi',s9.ch⟩
   · have h0:j1 (fq L (c.plc o)) x.site≠0:=by
       have: ¬ (((j1 L x.site:Nat):Int)-1=0):=λx=>by rw[x]at e;cases e
       omega
     exact⟨rfl,s8.shf hM' (hS.dec hcd h0) hi',s8.ch⟩
def VN (p ma ms:Nat)(L:List Kpt)(last:Int)(pl:Plc)(now:Int)(w:World)(v:Value)(w':World):Prop:=v=.bool (atK L pl).isSome/\Shf aO p ma ms (IC L pl now) last w'/\Chg [p,ma,ms] w w'
theorem H8 {p ma ms:Nat}{L:List Kpt}{last:Int}{w:World}(h:Shf aO p ma ms L last w){c:Cky}(o:c.ok)(now:Int):
   Cf jy #[.pointer (some ⟨p,0,none⟩),c.v,vI now] w (Ret (VN p ma ms L last (c.plc o) now w)):=by
 obtain⟨M,S,s,hM,hS⟩:=SS.of h
 have hi:=h.inv
 apply uG
 intro k3 w3 hk3 hw3
 have hb3:=(hw3▸ai w _:bW w w3)
 have a3:ao w3 k3 af c.cells:=ao.new hk3 hw3
 have s3:=s.below hb3
 refine⟨rfl,rfl,some ma,λu hu=>sJ (s3.below hu),c.v,λu hu=>be.load0 (a3.below hu) (Cky.len o),(c.plc o).v,λu hu=>HP (jE o u),_,_,λu hu=>JU (s3.below hu) hM hi _,?_⟩
 intro k5 hk5 wq hq hz
 have a5:ao wq k5 aC pI.cells:=hz
 have s4:=s3.below hq
 have a4:=a3.below hq
 obtain⟨wx,hst,a5x,hg⟩:=gX.store0 (Kpt.len ((atK L (c.plc o)).getD pI)) (Kpt.one _) a5 (Kpt.len _)
 refine⟨wx,hst,?_⟩
 have hk5':w.heap.size <=k5:=Nat.le_trans hb3.size hk5
 have hk3':w.heap.size <=k3:=by omega
 have s5:=s4.put hg hk5'
 have n35:k3≠k5:=by have:=a3.lt;omega
 have a3x:ao wx k3 af c.cells:=a4.grown hg (bF n35)
 unfold VN
 cases hat:atK L (c.plc o)with
 | none=>
   refine ab.no rfl ⟨rfl,?_,s5.ch⟩
   rw[Rw hat];exact s5.shf hM hS hi
 | some x=>
   rw[hat]at a5x
   have a5x:ao wx k5 aC x.cells:=a5x
   refine ab.yes rfl ?_
   obtain⟨wy,hp,a6,hg6⟩:=a5x.put vZ (i:=27) (v:=vI now) (by rw[Kpt.len];decide) rfl rfl
   have s6:=s5.put hg6 hk5'
   have a3y:=a3x.grown hg6 (bF n35)
   have e6:x.cells.set 27 (vI now)=(It x now).cells:=by
     rw[Tl (by decide),show(27:Nat)=20+7 from rfl,zD x.ok];rfl
   rw[e6]at a6
   refine⟨rfl,rfl,wy,hp,rfl,rfl,some ma,λu hu=>sJ (s6.below hu),c.v,λu hu=>be.load0 (a3y.below hu) (Cky.len o),(c.plc o).v,λu hu=>HP (jE o u),(It x now).v,λu hu=>gX.load0 (a6.below hu) (Kpt.len _),?_⟩
   intro wq1 hq1
   have epl:(It x now).plc=c.plc o:=(mz hat).2
   obtain⟨wz,hu7,s7,hg7⟩:=(s6.below hq1).upM (c.plc o) (It x now)
   refine⟨wz,hu7,rfl,?_,s7.ch⟩
   have hM':=hM.over hi (k:=It x now) (o:=x) (by rw[epl];exact hat)
   rw[epl]at hM'
   have e:=Rx hi hat now
   rw[epl]at e
   rw[<- e]at hM'
   exact s7.shf hM' (hS.perm λt=>SJ L _ now t) (hi.use _ _)
theorem ShI.up_to {L:List Kpt}{last last':Int}(h:ShI L last)(hl:last <=last'):ShI L last':=
 ⟨h.up,λk hk=>⟨(h.lo k hk).1,by have:=(h.lo k hk).2;omega⟩,h.key,by have:=h.l0;omega⟩
theorem xU.perm' {M:List (Plc×Kpt)}{L L':List Kpt}(h:xU M L)(hp:L.Perm L'):xU M L':=⟨h.perm.trans hp,h.own⟩
theorem PU (L:List Kpt)(p:Plc):atK (fq L p) p=none:=by
 unfold atK fq
 rw[List.find?_eq_none]
 intro k hk
 simpa using(List.mem_filter.1 hk).2
theorem HL {L:List Kpt}{last:Int}(s:ShI L last){p:Plc}{x k:Kpt}(h:atK L p=some x):(fq L p++[k]).Perm (L.map λy=>if y.plc=p then k else y):=by
 obtain⟨hx,hp⟩:=mz h
 clear h
 revert s hx
 induction L with
 | nil=>intro _ hx;cases hx
 | cons a L ih=>
   intro s hx
   have hak:=(List.pairwise_cons.1 s.key).1
   have sL:ShI L last:=⟨(List.pairwise_cons.1 s.up).2,λk hk=>s.lo k (List.mem_cons_of_mem _ hk),(List.pairwise_cons.1 s.key).2,s.l0⟩
   by_cases e:a.plc=p
   · have hno:∀y∈L,y.plc≠p:=λy hy c=>hak y hy (e.trans c.symm)
     have e1:fq (a::L) p=L:=by
       unfold fq
       rw[List.filter_cons,if_neg (by simp[e])]
       exact List.filter_eq_self.2 λy hy=>by simpa using hno y hy
     have e2:(L.map λy=>if y.plc=p then k else y)=L:=by
       have:(L.map λy=>if y.plc=p then k else y)=L.map λy=>y:=List.map_congr_left λy hy=>by rw[if_neg (hno y hy)]
       rw[this];simp
     rw[e1,List.map_cons,if_pos e,e2]
     exact List.perm_append_singleton k L
   · have hx':x∈L:=by
       rcases List.mem_cons.1 hx with c|c
       · exact absurd (c▸hp) e
       · exact c
     have e1:fq (a::L) p=a::fq L p:=by
       unfold fq
       rw[List.filter_cons,if_pos (by simpa using e)]
     rw[e1,List.map_cons,if_neg e,List.cons_append]
     exact(ih sL hx').cons a
theorem P4 {L L':List Kpt}(h:L.Perm L')(s:List UInt8):j1 L s=j1 L' s:=h.countP_eq _
def yX (L:List Kpt)(last:Int)(c:Kpt):Kpt:=match atK L c.plc with
 | some o=>⟨{ c.c with born:=o.c.born,seq:=o.c.seq },c.site,c.ok⟩
 | none=>⟨{ c.c with seq:=last+1 },c.site,c.ok⟩
theorem Q4 {L:List Kpt}{last:Int}(s:ShI L last)(c:Kpt):(fq L c.plc++[yX L last c]).Perm (zR L last c).1:=by
 unfold yX zR
 cases h:atK L c.plc with
 | none=>rw[Ay h]
 | some x=>exact HL s h
theorem Q3 (L:List Kpt)(last:Int)(c:Kpt):(yX L last c).plc=c.plc:=by
 unfold yX
 split <;> rfl
def VM (p ma ms:Nat)(L:List Kpt)(last:Int)(c:Kpt)(w:World)(v:Value)(w':World):Prop:=v=.bool (atK L c.plc).isSome/\Shf aO p ma ms (zR L last c).1 (zR L last c).2 w'/\Chg [p,ma,ms] w w'
theorem H7 {p ma ms:Nat}{L:List Kpt}{last:Int}{w:World}(h:Shf aO p ma ms L last w)(hl:L.length <=4611686018427387904)(hla:last <=4611686018427387904)(c:Kpt):
   Cf jx #[.pointer (some ⟨p,0,none⟩),c.c.v,vS c.site] w (Ret (VM p ma ms L last c w)):=by
 obtain⟨M,S,s,hM,hS⟩:=SS.of h
 have hi:=h.inv
 have o:=c.ok
 apply uF
 intro k3 w3 hk3 hw3
 have hb3:=(hw3▸ai w _:bW w w3)
 have a3:ao w3 k3 af c.c.cells:=ao.new hk3 hw3
 have s3:=s.below hb3
 refine⟨rfl,rfl,some ma,λu hu=>sJ (s3.below hu),c.c.v,λu hu=>be.load0 (a3.below hu) (Cky.len o),c.plc.v,λu hu=>HP (jE o u),_,_,λu hu=>JU (s3.below hu) hM hi _,?_⟩
 intro k5 hk5 wq hq hz
 have a5:ao wq k5 aC pI.cells:=hz
 have s4:=s3.below hq
 have a4:=a3.below hq
 obtain⟨wx,hst,a5x,hg⟩:=gX.store0 (Kpt.len ((atK L c.plc).getD pI)) (Kpt.one _) a5 (Kpt.len _)
 refine⟨wx,hst,?_⟩
 have hk5':w.heap.size <=k5:=Nat.le_trans hb3.size hk5
 have hk3':w.heap.size <=k3:=by omega
 have s5:=s4.put hg hk5'
 have n35:k3≠k5:=by have:=a3.lt;omega
 have a3x:ao wx k3 af c.c.cells:=a4.grown hg (bF n35)
 have ll:=s.l1
 refine gE (λwj=>∃la,ao wj k3 af (yX L last c).c.cells/\Shf aO p ma ms (fq L c.plc) la wj/\Chg [p,ma,ms] w wj/\la=(zR L last c).2) ?_ ?_
 · cases hat:atK L c.plc with
   | some x=>
     rw[hat]at a5x
     have a5x:ao wx k5 aC x.cells:=a5x
     have hsh:Shf aO p ma ms L last wx:=s5.shf hM hS hi
     refine ab.yes rfl ⟨c.c.v,be.load0 a3x (Cky.len o),?_⟩
     refine aw (kY hsh hl o) ?_
     rintro _ w22 ⟨rfl,hsh2,hc2⟩
     have c2:=s5.ch.trans hc2
     have hno:∀k,w.heap.size <=k->k ∉ [p,ma,ms]:=λk hk hm=>by
       have l1:=s.l1
       have l2:=s.l2
       have l3:=s.l3
       simp only[List.mem_cons,List.not_mem_nil,or_false]at hm
       omega
     have a3y:=hc2.arr a3x (hno _ hk3')
     have a5y:=hc2.arr a5x (hno _ hk5')
     have ex:yX L last c=⟨{ c.c with born:=x.c.born,seq:=x.c.seq },c.site,c.ok⟩:=by unfold yX;rw[hat]
     have el:(zR L last c).2=last:=by unfold zR;rw[hat]
     have e1:x.cells[26]? =some (vI x.c.born):=(uq x (by decide)).trans (cq x.ok 6)
     have e2:x.cells[28]? =some (vI x.c.seq):=(uq x (by decide)).trans (cq x.ok 8)
     have two:∀wa,ao wa k3 af c.c.cells->ao wa k5 aC x.cells->Shf aO p ma ms (fq L c.plc) last wa->Chg [p,ma,ms] w wa->
         ∃wb,(Instr.storeAt bu (.pointer (some ⟨k3,26,none⟩)) (vI x.c.born)).run prog wa=.ok () wb/\(ao wb k5 aC x.cells)/\
         ∃wc,(Instr.storeAt bh (.pointer (some ⟨k3,28,none⟩)) (vI x.c.seq)).run prog wb=.ok () wc/\
           ao wc k3 af (yX L last c).c.cells/\Shf aO p ma ms (fq L c.plc) last wc/\Chg [p,ma,ms] w wc:=by
       intro wa b3 b5 bs bc
       obtain⟨wb,r1,b3b,g1⟩:=b3.put vZ (i:=26) (v:=vI x.c.born) (by rw[Cky.len o];decide) rfl rfl
       obtain⟨wc,r2,b3c,g2⟩:=b3b.put ik (i:=28) (v:=vI x.c.seq) (by rw[List.length_set,Cky.len o];decide) rfl rfl
       refine⟨wb,r1,b5.grown g1 (bF (Ne.symm n35)),wc,r2,?_,(bs.put g1 (hno _ hk3')).put g2 (hno _ hk3'),(bc.put g1 hk3').put g2 hk3'⟩
       have e:(c.c.cells.set 26 (vI x.c.born)).set 28 (vI x.c.seq)=(yX L last c).c.cells:=by
         rw[ex,show(26:Nat)=20+6 from rfl,zD o]
         have:=zD (c:= { c.c with born:=x.c.born }) o 8 (vI x.c.seq)
         exact this
       rw[e]at b3c
       exact b3c
     refine⟨_,rfl,?_⟩
     have dd:=eC w22
     have a5d:=a5y.below dd
     obtain⟨wb,r1,b5,wc,r2,b3,bs,bc⟩:=two (World.drew w22) (a3y.below dd) a5d (hsh2.below dd) (c2.step dd)
     have fin:∃la,ao wc k3 af (yX L last c).c.cells/\Shf aO p ma ms (fq L c.plc) la wc/\Chg [p,ma,ms] w wc/\la=(zR L last c).2:=⟨last,b3,bs,bc,el.symm⟩
     repeat' (first
       | exact fin
       | exact rfl
       | refine And.intro ?_ ?_
       | refine⟨_,a5d.load1 bP rfl (i:=26) e1,?_⟩
       | refine⟨_,a5d.load1 bG rfl (i:=28) e2,?_⟩
       | refine⟨_,b5.load1 bG rfl (i:=28) e2,?_⟩
       | refine⟨wb,r1,?_⟩
       | refine⟨wc,r2,?_⟩)
   | none=>
     have ex:yX L last c=⟨{ c.c with seq:=last+1 },c.site,c.ok⟩:=by unfold yX;rw[hat]
     have el:(zR L last c).2=last+1:=by unfold zR;rw[hat]
     have h0:=hi.l0
     have hw:i64.wrap (last+1)=last+1:=wrap_i64 (by omega) (by omega)
     obtain⟨wy,r1,s6,g1⟩:=s5.num (last+1)
     have a3y:ao wy k3 af c.c.cells:=SS.arr a3x hk3' g1 ll
     obtain⟨wz,r2,b3,g2⟩:=a3y.put ik (i:=28) (v:=vI (last+1)) (by rw[Cky.len o];decide) rfl rfl
     have s7:=s6.put g2 hk3'
     have e:c.c.cells.set 28 (vI (last+1))=(yX L last c).c.cells:=by
       rw[ex,show(28:Nat)=20+8 from rfl,zD o];rfl
     rw[e]at b3
     refine ab.no rfl ⟨rfl,rfl,_,O3 s5,rfl,rfl,wy,by rw[hw];exact r1,rfl,rfl,_,O3 s6,rfl,wz,r2,last+1,b3,?_,s7.ch,el.symm⟩
     rw[Ay hat]
     exact s7.shf hM hS (hi.up_to (by omega))
 · rintro wj ⟨la,b3,hsh,hc,el⟩
   obtain⟨M1,S1,t,hM1,hS1⟩:=SS.of hsh
   have op:=(yX L last c).ok
   have epl:=Q3 L last c
   refine⟨rfl,rfl,some ma,λu hu=>sJ (t.below hu),(yX L last c).c.v,λu hu=>be.load0 (b3.below hu) (Cky.len op),c.plc.v,λu hu=>?_,(yX L last c).c.v,λu hu=>be.load0 (b3.below hu) (Cky.len op),(yX L last c).v,λu hu=>?_,?_⟩
   · have:=HP (jE op u)
     rw[show(yX L last c).c.plc op=c.plc from epl]at this
     exact this
   · have:=Lv (yX L last c) u
     rw[show(yX L last c).site=c.site by unfold yX;split <;> rfl]at this
     exact this
   intro wq2 hq2
   have t2:=t.below hq2
   obtain⟨wy,r1,t3,_⟩:=t2.upM c.plc (yX L last c)
   have hno:atK (fq L c.plc) (yX L last c).plc=none:=by rw[epl];exact PU L _
   have hM2:=hM1.new hno
   rw[epl]at hM2
   have hcd:j1 (fq L c.plc) c.site <=L.length:=Nat.le_trans List.countP_le_length (List.length_filter_le ..)
   have hw:i64.wrap (((j1 (fq L c.plc) c.site:Nat):Int)+1)=((j1 (fq L c.plc) c.site:Nat):Int)+1:=wrap_i64 (by omega) (by omega)
   obtain⟨wz,r2,t4,_⟩:=t3.upS c.site (((j1 (fq L c.plc) c.site:Nat):Int)+1)
   refine⟨wy,r1,rfl,rfl,some ms,vX t3,_,O2 t3 hS1 _,wz,by rw[hw];exact r2,rfl,?_,hc.trans t4.ch⟩
   have hp:=Q4 hi c
   subst el
   refine t4.shf (hM2.perm' hp) (hS1.inc λs=>?_) (hi.put c)
   rw[<- P4 hp,SI]
   rw[show(yX L last c).site=c.site by unfold yX;split <;> rfl]
end Go.Pk
