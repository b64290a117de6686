/- What the laws lean on: TigA, TigP, TigQ, TigB, TigR, TigC, TigS, TigH, TigD, TigE, TigF; what is used. Its conditions: none. -/
import Derived.Test.YtpafoodmpjlkhaaGreatDoorKI
set_option linter.unusedVariables false
set_option linter.unusedSimpArgs false
set_option linter.unusedSectionVars false
set_option maxRecDepth 100000
open Go.IntKind (i64)
open Go.Proofs.Tryz
namespace Go.Pk
open Go.RowKit (Below)
open Go.Proofs
theorem ww {P:Program}{t e:TypeId}(hu:P.underlying t=some (.slice e))(d:Nat)(a:Option Addr)(n c:Nat)(w:World):(Op.equalIn (d+1) t (.slice a n c) (.slice none 0 0)).run P w=.ok a.isNone w:=by cases a <;> simp[Op.equalIn,aY hu]
theorem DY {P:Program}{t e:TypeId}(hu:P.underlying t=some (.slice e))(a:Option Addr)(n c:Nat){x y:Operand}(w:World):((do eqGuard .eql t x y (.slice a n c) (.slice none 0 0);binOp .eql t (.slice a n c) (.slice none 0 0):Sem Value)).run P w=.ok (.bool a.isNone) w:=by
 have h1:=ww (P:=P) hu 9999 a n c w
 rw[Sem.run_bind,show(eqGuard .eql t x y (.slice a n c) (.slice none 0 0)).run P w=.ok () w from rfl]
 show((do pure (.bool (<- Op.equalIn (9999+1) t (.slice a n c) (.slice none 0 0))):Sem Value)).run P w=_
 rw[Sem.run_bind,h1];rfl
theorem HG (w:World):(zeroValue aq).run prog w=.ok (vI 0) w:=by kernel_rfl
theorem Gp (n:Nat):∀v∈(Builtin.zeroCells (vI 0).cells n).toList,v.oneCell'=true:=HH (zs:=[vI 0]) (aN rfl gA) n (by decide)
theorem EK {w:World}{a:Option Addr}{n c:Nat}{xs:List Int}(ho:Ow bY aq w NoB a n c xs){i:Nat}(hi:i <=n):
   ∃wx,(Builtin.clear_ #[aj] zi #[.slice (kU a c i 1) (n-i) (c-i)]).run prog w=.ok (.tuple #[]) wx/\Ow bY aq wx NoB a i c (xs.take i)/\w.grownBy wx (bi a):=by
 obtain⟨hn,hnc,hcm,ho4⟩:=ho
 by_cases h0:n-i=0
 · have:i=n:=by omega
   subst this
   refine⟨w,?_,⟨by rw[List.length_take];omega,hnc,hcm,?_⟩,⟨rfl,rfl,rfl,Nat.le_refl _,λ_ _ _=>rfl⟩⟩
   · rw[h0]
     unfold Builtin.clear_
     cases kU a c i 1 <;> simp[aY aA]
   · rw[hn,List.take_length]
     rcases ho4 with h|⟨g,cur,fr,h1,h2,h3,h4,h5⟩
     · exact .inl h
     · exact .inr ⟨g,cur,fr,h1,h2,h3,h4,by rw[<- hn];exact h5⟩
 · rcases ho4 with⟨_,rfl,rfl⟩|⟨g,cur,fr,rfl,hg,hf,hcs,hrep⟩
   · simp at hn;omega
   · have hk:bY.k=1:=rfl
     simp only[hk,Nat.mul_one]at hcs hrep
     have hzl:(Builtin.zeroCells (vI 0).cells (n-i)).toList.length=n-i:=by
       rw[Array.length_toList]
       unfold Builtin.zeroCells
       rw[Array.size_map,Array.size_range];exact Nat.mul_one _
     have hz1:=Gp (n-i)
     obtain⟨z,hz0⟩:∃z,z=(vI 0):=⟨_,rfl⟩
     have hz:∀w,(zeroValue aq).run prog w=.ok z w:=λw=>by rw[hz0];exact HG w
     have hz1:∀v∈(Builtin.zeroCells z.cells (n-i)).toList,v.oneCell'=true:=by rw[hz0];exact hz1
     rw[<- hz0]at hzl
     clear hz0
     have hfit:i+0+(Builtin.zeroCells z.cells (n-i)).toList.length <=cur.size:=by rw[hzl,hcs];omega
     have hst:=fv (P:=prog) g (i) aq fr (Builtin.zeroCells z.cells (n-i)).toList 0 cur w hg hfit hf hz1
     rw[Nat.add_zero]at hst
     have hsub:kU (some ⟨g,0,none⟩) c i 1=some ⟨g,i,none⟩:=by
       unfold kU
       rw[if_neg (by omega)];simp[Addr.add];intro h;omega
     obtain⟨q,hq⟩:∃q,n-i=q+1:=⟨n-i-1,by omega⟩
     refine⟨w.setRow g (cur.toList.take (i)++(Builtin.zeroCells z.cells (n-i)).toList++cur.toList.drop (i+(Builtin.zeroCells z.cells (n-i)).toList.length)).toArray,?_,⟨by rw[List.length_take];omega,by omega,hcm,.inr ⟨g,_,fr,rfl,setRow_heap w g cur _ aq fr hg,?_,?_,?_⟩⟩,ey w g _⟩
     · rw[hsub]
       unfold Builtin.clear_
       rw[hq]at hst ⊢
       simp only[]at hst ⊢
       simp[aY aA,hz,hst,-List.append_assoc]
     · intro j hj
       refine hf j ?_
       rw[List.size_toArray,List.length_append,List.length_append,List.length_take,List.length_drop,Array.length_toList]at hj
       omega
     · rw[hk,Nat.mul_one,List.size_toArray,List.length_append,List.length_append,List.length_take,List.length_drop,Array.length_toList]
       omega
     · have e1:((cur.toList.take (i)++(Builtin.zeroCells z.cells (n-i)).toList++cur.toList.drop (i+(Builtin.zeroCells z.cells (n-i)).toList.length)).toArray).toList.take (i*bY.k)=(cur.toList.take (n)).take (i):=by
         rw[hk,Nat.mul_one]
         rw[List.append_assoc,List.take_append_of_le_length (by rw[List.length_take,Array.length_toList];omega),List.take_take,List.take_take]
         congr 1
         omega
       rw[e1]
       have hlt:(cur.toList.take (n)).length=n:=by have:=hrep.len;rw[hk,Nat.mul_one]at this;rw[this,<- hn]
       refine⟨by rw[List.length_take,hlt,hk,List.length_take,Nat.mul_one];omega,λj hj=>?_⟩
       have hj2:j<xs.length:=by rw[List.length_take]at hj;omega
       have hji:j<i:=by rw[List.length_take]at hj;omega
       have h1:=(hrep.rep j hj2)
       simp only[hk,Nat.mul_one]at h1 ⊢
       rw[List.getElem_take]
       have e2:(((cur.toList.take (n)).take (i)).drop (j)).take 1=((cur.toList.take (n)).drop (j)).take 1:=by
         rw[List.drop_take,List.take_take]
         congr 1
         omega
       rw[e2]
       exact⟨h1.1,h1.2⟩
def FH (n:Nat):List Int:=(List.range n).map fun(i:Nat)=>(i:Int)
theorem AA {w:World}{a b:Option Addr}{n c m e:Nat}{d:DA}(h:DaS w a n c b m e d)(hd:d.Ok):
   Cf mc #[daV a n c b m e d] w (Ret λv w'=>∃a',v=.slice a' d.n d.n/\Ow bY aq w' NoB a' d.n d.n (FH d.n)/\br w.heap.size a'/\bW w w'):=by
 apply yQ
 intro k1 w1 hk1 hw1
 have b1:=(hw1▸af w _:bW w w1)
 have A1:ai w1 k1 ae (daL a n c b m e d):=ai.new hk1 hw1
 have hm:m=d.n:=h.ac.len
 subst hm
 have hN:d.n <=65536:=hd.n2
 obtain⟨w8,a8,r8,o8,b8,f8⟩:=qz (P:=prog) (e:=λn=>vI n) (h1:=λ_=>rfl) (p:=λ_=>True) aA dk (x0:=0) rfl rfl trivial .i64 .i64 d.n (by omega) (by omega) w1 NoB
 refine⟨rfl,b,_,e,A1.load1 aS rfl rfl,w8,a8,_,_,r8,?_⟩
 have B8:=ab b1 b8 b1.size
 have F8:br w.heap.size a8:=f8.mono b1.size
 refine⟨λmm i wl=>∃j:Nat,j <=d.n/\i=(j:Int)/\mm=d.n-j/\Ow bY aq wl NoB a8 d.n d.n ((FH d.n).take j++List.replicate (d.n-j) 0)/\bW w wl,⟨_,0,Nat.zero_le _,rfl,rfl,by rw[List.take_zero,List.nil_append];exact o8,B8⟩,?_⟩
 intro mm i
 refine aL.of ?_ _
 rintro wl ⟨j,hj,rfl,rfl,O,Bl⟩
 have hl:(FH d.n).length=d.n:=by simp[FH]
 refine ah.of (λh5=>?_) (λh5=>?_) <;> simp only[dTx,dFx]at h5
 · have hlt:j<d.n:=by omega
   have hlen:((FH d.n).take j++List.replicate (d.n-j) (0:Int)).length=d.n:=by rw[List.length_append,List.length_take,List.length_replicate,hl];omega
   obtain⟨wx,q,ox,gx⟩:=Ow.store (k:=1) dk O (λ_ _ h=>h) (i:=(j:Int)) (by rw[hlen,Int.toNat_natCast];exact hlt) rfl (v:=vI (j:Int)) (x:=(j:Int)) ⟨rfl,trivial⟩
   refine⟨⟨⟨by omega,by omega⟩,O.all.isSome (i:=j) (by rw[hlen];exact hlt)⟩,wx,q,d.n-(j+1),by omega,j+1,hlt,by rw[ar (by omega) (by omega)];omega,rfl,?_,Bl.grown gx Bl.size λr e=>F8 r e⟩
   have e1:((FH d.n).take j++List.replicate (d.n-j) (0:Int)).set (j:Int).toNat (j:Int)=(FH d.n).take (j+1)++List.replicate (d.n-(j+1)) 0:=by
     have hgj:(FH d.n)[j]'(by rw[hl];exact hlt)=(j:Int):=by simp[FH]
     have ht:((FH d.n).take j).length=j:=by rw[List.length_take,hl];omega
     rw[Int.toNat_natCast,List.set_append_right _ _ (by omega),ht,Nat.sub_self,List.take_succ_eq_append_getElem (by rw[hl];exact hlt),hgj,List.append_assoc]
     obtain⟨q,hq⟩:∃q,d.n-j=q+1:=⟨d.n-j-1,by omega⟩
     rw[hq,List.replicate_succ,List.set_cons_zero,show d.n-(j+1)=q by omega];rfl
   rw[<- e1];exact ox
 · have:j=d.n:=by omega
   subst this
   rw[Nat.sub_self,List.replicate_zero,List.append_nil,List.take_of_length_le (by omega)]at O
   exact⟨a8,rfl,O,F8,Bl⟩
theorem tp {w:World}{A:Bl}{a:Option Addr}{n c:Nat}{xs:List Int}(h:Sl bY w A a n c xs)(hl:xs.length <=1000000):
   Cf bM #[.slice a n c] w (Ret λv w'=>∃(a':Option Addr) (n' c':Nat),v=.slice a' n' c'/\Ow bY aq w' NoB a' n' c' xs/\br w.heap.size a'/\bW w w'):=by
 apply lB
 refine⟨_,DY aA a n c w,ah.of (λh1=>?_) (λh1=>?_)⟩
 · have hx:xs=[]:=by
     cases xs with
     | nil=>rfl
     | cons x xs=>
       have:=h.isSome (i:=0) (by simp)
       cases a <;> simp at h1 this
   subst hx
   exact⟨none,0,0,rfl,Ow.nil _ _ _ _,br.none _,Below.refl _ _⟩
 · intro k5 w5 hk5 hw5
   have b5:=(hw5▸af w _:bW w w5)
   have O5:Ow bY aq w5 NoB (some ⟨k5,0,none⟩) 0 0 []:=Ow.newF (l:=[]) dF hk5 hw5 (gr.nil _ _ _) (Nat.zero_le _)
   have S5:Src bY w5 NoB a n xs:=Sl.flat dF (h.below b5)
   obtain⟨w7,a7,n7,c7,r7,o7,g7,f7⟩:=cr (ty:=aj) aA dk (by decide) O5 (λ_ _ h=>h) (cm:=c) S5 (by simp;omega)
   have F5:br w.heap.size (some ⟨k5,0,none⟩):=uj hk5
   exact⟨w7,a7,n7,c7,r7,a7,n7,c7,rfl,o7,F5.app b5.size f7,b5.grown g7 b5.size λr e=>F5 r e⟩
def Ig (q0 q1:Option Addr)(L:List Nat)(p:Int->Bool)(xs:List Int)(w:World):Prop:=
 ∀t∈xs,∀u,Chg L w u->Cf aR #[vI t,.pointer q0,.pointer q1] u (Ret λv w'=>v=.bool (p t)/\bW u w')
theorem Fl {q0 q1:Option Addr}{L:List Nat}{p:Int->Bool}{w:World}{A:Bl}{a:Option Addr}{l c':Nat}{xs:List Int}(G:Ig q0 q1 L p xs w)(hs:Sl bY w A a l c' xs)(hl:xs.length <=1000000):
   Cf aP #[.slice a l c',.func (.func aR) #[] #[.pointer q0,.pointer q1]] w
     (Ret λv w'=>((v=vI (-1)/\∀x∈xs,p x=false)\/∃k:Nat,v=vI (k:Int)/\k<xs.length/\∀x∈xs.take k,p x=false)/\(∀k:Nat,v=vI (k:Int)->∀h:k<xs.length,p xs[k]=true)/\bW w w'):=by
 apply dX
 have hn:=hs.len
 subst hn
 refine⟨λm i wl=>∃k:Nat,k <=xs.length/\i=(k:Int)/\m=xs.length-k/\(∀x∈xs.take k,p x=false)/\bW w wl,⟨_,0,by omega,rfl,rfl,(λx hx=>by rw[List.take_zero]at hx;cases hx),Below.refl _ _⟩,?_⟩
 intro m1 i1
 refine aL.of ?_ _
 rintro wl ⟨k,hk,rfl,rfl,hno,hbl⟩
 refine ah.of (λhi=>?_) (λhi=>?_) <;> simp only[dTx,dFx]at hi
 · have hlt:k<xs.length:=by omega
   have hsl:=hs.below hbl
   refine⟨⟨⟨by omega,by omega⟩,hsl.isSome hlt⟩,_,hsl.num aC hlt,?_⟩
   have hwk:i64.wrap ((k:Int)+1)=((k+1:Nat):Int):=by rw[ar (by omega) (by omega)];omega
   try dsimp only
   rw[hwk]
   refine aw (G _ (List.getElem_mem hlt) wl (Chg.of hbl)) ?_
   rintro _ w16 ⟨rfl,hb16⟩
   have b16:=ab hbl hb16 hbl.size
   refine⟨_,rfl,ah.of (λe=>⟨.inr ⟨k,rfl,hlt,hno⟩,λk' hk' h'=>?_,b16⟩) (λe=>⟨xs.length-(k+1),by omega,k+1,by omega,rfl,rfl,?_,b16⟩)⟩
   · have:k=k':=by injection hk' with _ h;omega
     subst this
     exact e
   · intro y hy
     rw[List.take_succ_eq_append_getElem hlt,List.mem_append]at hy
     rcases hy with hy|hy
     · exact hno y hy
     · rw[List.mem_singleton]at hy;subst hy;exact e
 · have:k=xs.length:=by omega
   subst this
   rw[List.take_length]at hno
   refine⟨.inl ⟨rfl,hno⟩,λk' hk' h'=>?_,hbl⟩
   injection hk' with _ h;omega
theorem ET {q0 q1:Option Addr}{L:List Nat}{p:Int->Bool}{a:Option Addr}{l c':Nat}{xs:List Int}{w:World}(G:Ig q0 q1 L p xs w)(ho:Ow bY aq w NoB a l c' xs)(hL:∀g,bi a=some g->g∈L)(hl:xs.length <=1000000):
   Cf df #[.slice a l c',.func (.func aR) #[] #[.pointer q0,.pointer q1]] w
     (Ret λv w'=>∃n':Nat,v=.slice a n' c'/\Ow bY aq w' NoB a n' c' (xs.filter λx=> !p x)/\Chg (bi a).toList w w'):=by
 apply dR
 have hn:=ho.len
 have hnc:=ho.2.1
 have grow:∀{u u':World},Chg (bi a).toList w u->u.grownBy u' (bi a)->Chg (bi a).toList w u':=λh g=>h.trans (Chg.row g)
 have inL:∀{u:World},Chg (bi a).toList w u->Chg L w u:=λh=>h.mono λk hk=>hL k (cL.1 hk)
 refine aw (Fl G ho.all hl) ?_
 rintro v w10 ⟨hv,hfst,hb10⟩
 have ho10:=ho.below hb10
 have B10:Chg (bi a).toList w w10:=Chg.of hb10
 rcases hv with⟨rfl,hall⟩|⟨k,rfl,hk,hno⟩
 · refine⟨_,rfl,ah.yes rfl ⟨l,rfl,?_,B10⟩⟩
   rw[List.filter_eq_self.2 λx hx=>by rw[hall x hx];rfl]
   exact ho10
 have hxk:=hfst k rfl hk
 refine⟨_,rfl,ah.no (by simp only[beq_eq_false_iff_ne];omega) ?_⟩
 have hfk:(xs.take k).filter (λx=> !p x)=xs.take k:=List.filter_eq_self.2 λx hx=>by rw[hno x hx];rfl
 have hfk1:(xs.take (k+1)).filter (λx=> !p x)=xs.take k:=by
   rw[List.take_succ_eq_append_getElem hk,uc,if_neg (by rw[hxk];decide),hfk]
 refine⟨λm i j wl=>∃(q:Nat) (ys:List Int),q <=xs.length/\j=(q:Int)/\m=xs.length-q/\i=((((xs.take q).filter λx=> !p x).length:Nat):Int)/\((xs.take q).filter λx=> !p x).length<q/\ys.length=xs.length/\
     ys.take ((xs.take q).filter λx=> !p x).length=((xs.take q).filter λx=> !p x)/\ys.drop q=xs.drop q/\Ow bY aq wl NoB a l c' ys/\Chg (bi a).toList w wl,
   ⟨_,k+1,xs,by omega,by rw[ar (by omega) (by omega)];omega,rfl,by rw[hfk1,List.length_take];omega,by rw[hfk1,List.length_take];omega,rfl,by rw[hfk1,List.length_take];congr 1;omega,rfl,ho10,B10⟩,?_⟩
 intro m i j
 refine aL.of ?_ _
 rintro wl ⟨q,ys,hq,rfl,rfl,rfl,hiq,hyl,hyt,hyd,hoy,Bl⟩
 have hlx:l=xs.length:=hn
 refine ah.of (λhi=>?_) (λhi=>?_) <;> simp only[dTx,dFx]at hi
 · have hlt:q<xs.length:=by omega
   have hlty:q<ys.length:=by omega
   have h1:=List.drop_eq_getElem_cons hlty
   have h2:=List.drop_eq_getElem_cons hlt
   have hyq:ys[q]=xs[q]:=by
     have e:=hyd
     rw[h1,h2]at e
     exact(List.cons.inj e).1
   have hyd1:ys.drop (q+1)=xs.drop (q+1):=by
     have e:=hyd
     rw[h1,h2]at e
     exact(List.cons.inj e).2
   have hld:=hoy.all.num (P:=prog) aC hlty
   rw[hyq]at hld
   refine⟨⟨⟨by omega,by omega⟩,hoy.all.isSome hlty⟩,_,hld,?_⟩
   have hfs:=uc (λx=> !p x) (xs.take q) xs[q]
   rw[<- List.take_succ_eq_append_getElem hlt]at hfs
   have hw1:i64.wrap ((q:Int)+1)=((q+1:Nat):Int):=by rw[ar (by omega) (by omega)];omega
   try dsimp only
   rw[hw1]
   have hmem:=List.getElem_mem hlt
   generalize xs[q]=x at*
   refine aw (G x hmem wl (inL Bl)) ?_
   rintro _ w28 ⟨rfl,hb28⟩
   have B28:Chg (bi a).toList w w28:=Bl.step hb28
   have hoy28:=hoy.below hb28
   refine⟨_,rfl,ah.of (λe=>?_) (λe=>?_)⟩
   · rw[if_pos e]at hfs
     generalize (xs.take q).filter (λx=> !p x)=G0 at*
     have hil:((G0.length:Nat):Int).toNat<ys.length:=by omega
     obtain⟨wy,q3,ho3,g3⟩:=Ow.store (k:=1) dk hoy28 (λ_ _ h=>h) (i:=((G0.length:Nat):Int)) hil rfl (v:=vI x) (x:=x) ⟨rfl,trivial⟩
     refine⟨⟨⟨by omega,by omega⟩,hoy28.all.isSome (i:=G0.length) (by omega)⟩,wy,q3,xs.length-(q+1),by omega,q+1,ys.set G0.length x,by omega,rfl,rfl,?_,?_,?_,?_,?_,?_,?_⟩
     · rw[hfs,ar (by omega) (by omega),List.length_append];simp
     · rw[hfs,List.length_append];simp;omega
     · rw[List.length_set];exact hyl
     · rw[hfs,List.length_append]
       show(ys.set G0.length x).take (G0.length+1)=_
       rw[List.take_succ_eq_append_getElem (by rw[List.length_set];omega),List.getElem_set_self,List.take_set_of_le (Nat.le_refl _),hyt]
     · rw[List.drop_set_of_lt (by omega),hyd1]
     · simpa using ho3
     · exact grow B28 g3
   · rw[if_neg (by rw[e];decide)]at hfs
     exact⟨xs.length-(q+1),by omega,q+1,ys,by omega,rfl,rfl,by rw[hfs],by rw[hfs];omega,hyl,by rw[hfs];exact hyt,hyd1,hoy28,B28⟩
 · have:q=xs.length:=by omega
   subst this
   rw[List.take_length]at hiq hyt
   rw[List.take_length]
   generalize xs.filter (λx=> !p x)=G0 at*
   obtain⟨wz,q4,ho4,g4⟩:=EK hoy (i:=G0.length) (by omega)
   refine⟨⟨by omega,by omega⟩,wz,q4,⟨by omega,by omega⟩,G0.length,rfl,?_,grow Bl g4⟩
   rw[hyt]at ho4
   exact ho4
structure Gq (d:DA)(c:Nat->Nat):Prop where
 acc:∀s t,s<d.n->t<d.n->c s=c t->d.acc s=d.acc t
 «to»:∀s t x,s<d.n->t<d.n->c s=c t->x<d.K->c (d.to s x)=c (d.to t x)
theorem Gq.run {d:DA}(hd:d.Ok){c:Nat->Nat}(h:Gq d c):∀{w:List Nat} {s t:Nat},s<d.n->t<d.n->c s=c t->(∀x∈w,x<d.K)->c (d.run s w)=c (d.run t w)
 | [],_,_,_,_,e,_=>e
 | x::w,s,t,hs,ht,e,hw=>by
   have hx:=hw x List.mem_cons_self
   show c (d.run (d.to s x) w)=c (d.run (d.to t x) w)
   exact h.run hd (hd.to_lt hs hx) (hd.to_lt ht hx) (h.to s t x hs ht e hx) λy hy=>hw y (List.mem_cons_of_mem _ hy)
structure mP (d:DA)(c:Nat->Nat)(o:DA)(rs:List Nat):Prop where
 k:o.k=d.k
 st:o.st=0
 first:rs[0]? =some d.s
 nd:(rs.map c).Nodup
 inn:∀r∈rs,r<d.n
 reach:∀r∈rs,∃w:List Nat,(∀x∈w,x<d.K)/\c (d.run d.s w)=c r
 ac:o.ac=rs.map d.acc
 len:o.nx.length=rs.length*d.K
 nx:∀i x r,rs[i]? =some r->x<d.K->∃(j q:Nat),o.nx[i*d.K+x]? =some (j:Int)/\rs[j]? =some q/\c q=c (d.to r x)
theorem mP.kk {d:DA}{c:Nat->Nat}{o:DA}{rs:List Nat}(h:mP d c o rs):o.K=d.K:=by unfold DA.K;rw[h.k]
theorem mP.n {d:DA}{c:Nat->Nat}{o:DA}{rs:List Nat}(h:mP d c o rs):o.ac.length=rs.length:=by rw[h.ac,List.length_map]
theorem mP.le {d:DA}{c:Nat->Nat}{o:DA}{rs:List Nat}(h:mP d c o rs):rs.length <=d.ac.length:=by
 refine kC ?_ h.inn
 have:=h.nd
 rw[List.Nodup,List.pairwise_map]at this
 exact this.imp fun{a b} hab e=>hab (by rw[e])
theorem mP.ok {d:DA}{c:Nat->Nat}{o:DA}{rs:List Nat}(h:mP d c o rs)(hd:d.Ok):o.Ok where
 k1:=by rw[h.k];exact hd.k1
 k2:=by rw[h.k];exact hd.k2
 n1:=by have:=bP h.first;have:=h.n;omega
 n2:=by have:=h.n;have:=h.le;have:=hd.n2;omega
 len:=by
   have h1:=h.len
   have h2:=h.n
   rw[h1,h2,h.k,<- hd.kk,Int.natCast_mul]
 s0:=by rw[h.st];exact Int.le_refl _
 s1:=by have:=bP h.first;have:=h.n;rw[h.st];omega
 nx0:=λv hv=>by
   obtain⟨i,hi,e⟩:=List.mem_iff_getElem.1 hv
   have hK:0<d.K:=by have:=hd.k1;show 0<d.k.toNat;omega
   have hi':=hi
   rw[h.len]at hi'
   have hr:i/d.K<rs.length:=Nat.div_lt_of_lt_mul (by rw[Nat.mul_comm];exact hi')
   obtain⟨j,q,e1,e2,_⟩:=h.nx (i/d.K) (i%d.K) _ (List.getElem?_eq_getElem hr) (Nat.mod_lt _ hK)
   rw[show i/d.K*d.K+i%d.K=i from by rw[Nat.mul_comm];exact Nat.div_add_mod i d.K,List.getElem?_eq_getElem hi,e]at e1
   have hj:=bP e2
   have h2:=h.n
   have e3:v=(j:Int):=Option.some.inj e1
   omega
theorem mP.run {d:DA}{c:Nat->Nat}{o:DA}{rs:List Nat}(h:mP d c o rs)(hd:d.Ok)(hc:Gq d c):∀{w:List Nat} {i s:Nat} {r:Nat},rs[i]? =some r->s<d.n->c s=c r->(∀x∈w,x<d.K)->
   ∃q,rs[o.run i w]? =some q/\c q=c (d.run s w)
 | [],i,s,r,hr,_,e,_=>⟨r,hr,e.symm⟩
 | x::w,i,s,r,hr,hs,e,hw=>by
   have hx:=hw x List.mem_cons_self
   have hrn:=h.inn r (List.mem_of_getElem? hr)
   obtain⟨j,q,e1,e2,e3⟩:=h.nx i x r hr hx
   have et:o.to i x=j:=by unfold DA.to;rw[h.kk,nj e1];rfl
   show ∃q,rs[o.run (o.to i x) w]? =some q/\c q=c (d.run (d.to s x) w)
   rw[et]
   exact h.run hd hc e2 (hd.to_lt hs hx) (by rw[e3];exact hc.to s r x hs hrn e hx) λy hy=>hw y (List.mem_cons_of_mem _ hy)
theorem mP.lang {d:DA}{c:Nat->Nat}{o:DA}{rs:List Nat}(h:mP d c o rs)(hd:d.Ok)(hc:Gq d c)(w:List Nat):o.Lang o.s w ↔ d.Lang d.s w:=by
 unfold DA.Lang
 rw[h.kk]
 refine and_congr_right λhw=>?_
 have hs:o.s=0:=by unfold DA.s;rw[h.st];rfl
 obtain⟨q,e1,e2⟩:=h.run hd hc (w:=w) h.first hd.s_lt rfl hw
 have hq:=h.inn q (List.mem_of_getElem? e1)
 have ea:o.acc (o.run 0 w)=d.acc q:=by
   unfold DA.acc
   rw[h.ac]
   exact nj (by rw[List.getElem?_map,e1];rfl)
 rw[hs,ea,hc.acc q (d.run d.s w) hq (hd.run_lt hd.s_lt hw) e2]
structure zd (d:DA)(c:Nat->Nat)(rs:List Nat)(ac:List Bool)(nx:List Int)(i x:Nat):Prop where
 first:rs[0]? =some d.s
 nd:(rs.map c).Nodup
 inn:∀r∈rs,r<d.n
 reach:∀r∈rs,∃w:List Nat,(∀x∈w,x<d.K)/\c (d.run d.s w)=c r
 le:ac.length <=rs.length
 acs:ac=(rs.take ac.length).map d.acc
 len:nx.length=i*d.K+x
 ways:∀j y r,(j<i/\y<d.K\/j=i/\y<x)->rs[j]? =some r->∃(t q:Nat),nx[j*d.K+y]? =some (t:Int)/\rs[t]? =some q/\c q=c (d.to r y)
theorem zd.start {d:DA}(hd:d.Ok)(c:Nat->Nat):zd d c [d.s] [] [] 0 0 where
 first:=rfl
 nd:=by simp
 inn:=λr hr=>by rw[List.mem_singleton]at hr;subst hr;exact hd.s_lt
 reach:=λr hr=>by rw[List.mem_singleton]at hr;subst hr;exact⟨[],by simp,rfl⟩
 le:=by simp
 acs:=rfl
 len:=by simp
 ways:=λj y r h=>by omega
theorem zd.state {d:DA}{c:Nat->Nat}{rs:List Nat}{ac:List Bool}{nx:List Int}{i:Nat}(h:zd d c rs ac nx i 0)(hi:ac.length=i){r:Nat}(hr:rs[i]? =some r):zd d c rs (ac++[d.acc r]) nx i 0:=
 { h with
   le:=by have:=bP hr;simp;omega
   acs:=by
     have hl:=bP hr
     rw[List.length_append,List.length_singleton,hi,List.take_succ_eq_append_getElem hl,List.map_append]
     have h1:=h.acs
     rw[hi]at h1
     rw[<- h1,(List.getElem?_eq_some_iff.1 hr).2]
     rfl }
theorem zd.put {d:DA}(hd:d.Ok){c:Nat->Nat}(hc:Gq d c){rs:List Nat}{ac:List Bool}{nx:List Int}{i x:Nat}(h:zd d c rs ac nx i x)(hi:ac.length=i+1)(hx:x<d.K){r:Nat}(hr:rs[i]? =some r)
   {rs':List Nat} {t q:Nat} (hps:rs'=rs\/rs'=rs++[d.to r x]/\c (d.to r x) ∉ rs.map c) (ht:rs'[t]? =some q) (hq:c q=c (d.to r x)):
   zd d c rs' ac (nx++[(t:Int)]) i (x+1):=by
 have hrm:r∈rs:=List.mem_of_getElem? hr
 have hrn:=h.inn r hrm
 have hil:i<rs.length:=bP hr
 have hold:∀{j q:Nat},rs[j]? =some q->rs'[j]? =some q:=fun{j q} hj=>by
   rcases hps with rfl|⟨rfl,_⟩
   · exact hj
   · rw[List.getElem?_append_left (bP hj)];exact hj
 have hmem:∀q∈rs',q∈rs\/q=d.to r x:=λq hq=>by
   rcases hps with rfl|⟨rfl,_⟩
   · exact .inl hq
   · rcases List.mem_append.1 hq with hq|hq
     · exact .inl hq
     · exact .inr (List.mem_singleton.1 hq)
 refine⟨hold h.first,?_,λu hu=>?_,λu hu=>?_,?_,?_,by rw[List.length_append,h.len];rfl,λj y u hj hu=>?_⟩
 · rcases hps with rfl|⟨rfl,hno⟩
   · exact h.nd
   · rw[List.map_append]
     refine List.nodup_append.2 ⟨h.nd,by simp,λu hu v hv e=>?_⟩
     simp only[List.map_cons,List.map_nil,List.mem_singleton]at hv
     subst hv
     exact hno (e▸hu)
 · rcases hmem u hu with h1|rfl
   · exact h.inn u h1
   · exact hd.to_lt hrn hx
 · rcases hmem u hu with h1|rfl
   · exact h.reach u h1
   · obtain⟨w,hw,e⟩:=h.reach r hrm
     refine⟨w++[x],λy hy=>?_,?_⟩
     · rcases List.mem_append.1 hy with hy|hy
       · exact hw y hy
       · rw[List.mem_singleton]at hy;subst hy;exact hx
     · rw[om]
       exact hc.to _ _ x (hd.run_lt hd.s_lt hw) hrn e hx
 · rcases hps with rfl|⟨rfl,_⟩
   · exact h.le
   · have:=h.le;simp;omega
 · have h1:=h.acs
   rcases hps with rfl|⟨rfl,_⟩
   · exact h1
   · rw[List.take_append_of_le_length h.le];exact h1
 · have hu0:rs[j]? =some u:=by
     rcases hps with rfl|⟨rfl,_⟩
     · exact hu
     · rw[List.getElem?_append_left (by omega)]at hu;exact hu
   by_cases e:j=i/\y=x
   · obtain⟨rfl,rfl⟩:=e
     rw[hr]at hu0
     obtain rfl:=Option.some.inj hu0
     exact⟨t,q,by rw[List.getElem?_append_right (by rw[h.len];exact Nat.le_refl _),h.len,Nat.sub_self];rfl,ht,hq⟩
   · obtain⟨t',q',e1,e2,e3⟩:=h.ways j y u (by omega) hu0
     exact⟨t',q',by rw[List.getElem?_append_left (bP e1)];exact e1,hold e2,e3⟩
theorem zd.row {d:DA}{c:Nat->Nat}{rs:List Nat}{ac:List Bool}{nx:List Int}{i:Nat}(h:zd d c rs ac nx i d.K):zd d c rs ac nx (i+1) 0:=
 { h with
   len:=by rw[h.len,Nat.succ_mul];rfl
   ways:=λj y p hj hp=>h.ways j y p (by omega) hp }
theorem zd.done {d:DA}{c:Nat->Nat}{rs:List Nat}{ac:List Bool}{nx:List Int}{i:Nat}(h:zd d c rs ac nx i 0)(hi:ac.length=i)(hl:rs.length <=ac.length):mP d c ⟨d.k,0,nx,ac⟩ rs where
 k:=rfl
 st:=rfl
 first:=h.first
 nd:=h.nd
 inn:=h.inn
 reach:=h.reach
 ac:=by
   have h1:=h.acs
   rw[List.take_of_length_le hl]at h1
   exact h1
 len:=by
   have:=h.le
   show nx.length=_
   rw[h.len,show i=rs.length by omega]
   rfl
 nx:=λj x r hj hx=>h.ways j x r (.inl ⟨by have:=bP hj;omega,hx⟩) hj
def tG (d:DA)(c:Nat->Nat)(S:List Nat)(x:Nat):Prop:=∀s t,s<d.n->t<d.n->c s=c t->(d.to s x∈S ↔ d.to t x∈S)
def pU (d:DA)(c:Nat->Nat)(todo:List (List Nat)):Prop:=
 ∀u v,u<d.n->v<d.n->c u≠c v->∃S:List Nat,(S∈todo\/∀x,x<d.K->tG d c S x)/\ ¬ (u∈S ↔ v∈S)
theorem pU.cong {d:DA}(hd:d.Ok){c:Nat->Nat}(h:pU d c [])(ha:∀s t,s<d.n->t<d.n->c s=c t->d.acc s=d.acc t):Gq d c where
 acc:=ha
 «to»:=λs t x hs ht e hx=>by
   by_cases hc:c (d.to s x)=c (d.to t x)
   · exact hc
   · obtain⟨S,h1,h2⟩:=h _ _ (hd.to_lt hs hx) (hd.to_lt ht hx) hc
     rcases h1 with h1|h1
     · cases h1
     · exact absurd (h1 x hx s t hs ht e) h2
def cf (cl:List Nat)(s:Nat):Nat:=cl.getD s 0
def dj (cl:List Nat)(c:Nat)(l:List Nat):List Nat:=l.foldl (λcl s=>cl.set s c) cl
theorem oo (c:Nat):∀(l cl:List Nat),(dj cl c l).length=cl.length
 | [],_=>rfl
 | s::l,cl=>by
   show(dj (cl.set s c) c l).length=cl.length
   rw[oo c l];simp
theorem iX (c:Nat):∀(l cl:List Nat) (s:Nat),s<cl.length->cf (dj cl c l) s=if s∈l then c else cf cl s
 | [],cl,s,_=>by simp[dj]
 | t::l,cl,s,h=>by
   show cf (dj (cl.set t c) c l) s=_
   rw[iX c l _ s (by simpa using h)]
   by_cases hl:s∈l
   · rw[if_pos hl,if_pos (List.mem_cons_of_mem _ hl)]
   · rw[if_neg hl]
     by_cases e:s=t
     · subst e
       rw[if_pos List.mem_cons_self]
       simp[cf,List.getD_eq_getElem?_getD,h]
     · rw[if_neg (by simp[e,hl])]
       simp[cf,List.getD_eq_getElem?_getD,List.getElem?_set_ne (Ne.symm e)]
structure Eb (d:DA)(cl:List Nat)(mem:List (List Nat)):Prop where
 len:cl.length=d.n
 mlt:∀s,s<d.n->cf cl s<mem.length
 mems:∀c m,mem[c]? =some m->m.Nodup/\∀s,s∈m ↔ s<d.n/\cf cl s=c
 acc:∀s t,s<d.n->t<d.n->cf cl s=cf cl t->d.acc s=d.acc t
theorem Eb.split {d:DA}{cl:List Nat}{mem:List (List Nat)}(h:Eb d cl mem){c:Nat}{m l:List Nat}(hm:mem[c]? =some m)(hn:l.Nodup)(hl:∀s∈l,s∈m):
   Eb d (dj cl mem.length l) (mem.set c (m.filter λt=> !decide (cf (dj cl mem.length l) t=mem.length))++[l]):=by
 obtain⟨m1,m2⟩:=h.mems c m hm
 have hc:c<mem.length:=bP hm
 have hcf:∀s,s<d.n->cf (dj cl mem.length l) s=if s∈l then mem.length else cf cl s:=λs hs=>iX _ l cl s (by rw[h.len];exact hs)
 have hln:∀s∈l,s<d.n/\cf cl s=c:=λs hs=>(m2 s).1 (hl s hs)
 refine⟨by rw[oo,h.len],λs hs=>?_,λc' m' hm'=>?_,λs t hs ht e=>?_⟩
 · rw[hcf s hs,List.length_append,List.length_set,List.length_singleton]
   split
   · omega
   · have:=h.mlt s hs;omega
 · rcases Nat.lt_trichotomy c' mem.length with h1|h1|h1
   · rw[List.getElem?_append_left (by simpa using h1)]at hm'
     by_cases e:c=c'
     · subst e
       rw[List.getElem?_set_self hc]at hm'
       obtain rfl:=Option.some.inj hm'
       refine⟨m1.filter _,λs=>?_⟩
       rw[List.mem_filter,m2]
       constructor
       · rintro⟨⟨h2,h3⟩,h4⟩
         have h4: ¬ cf (dj cl mem.length l) s=mem.length:=by simpa using h4
         refine⟨h2,?_⟩
         rw[hcf s h2]at h4 ⊢
         split
         · rename_i h5;rw[if_pos h5]at h4;exact absurd rfl h4
         · exact h3
       · rintro⟨h2,h3⟩
         rw[hcf s h2]at h3
         have h5:s ∉ l:=λh5=>by rw[if_pos h5]at h3;omega
         rw[if_neg h5]at h3
         refine⟨⟨h2,h3⟩,?_⟩
         have: ¬ cf (dj cl mem.length l) s=mem.length:=by rw[hcf s h2,if_neg h5];omega
         simpa using this
     · rw[List.getElem?_set_ne e]at hm'
       obtain⟨n1,n2⟩:=h.mems c' m' hm'
       refine⟨n1,λs=>?_⟩
       rw[n2]
       refine and_congr_right λhs=>?_
       rw[hcf s hs]
       by_cases h5:s∈l
       · rw[if_pos h5,(hln s h5).2]
         exact⟨λh6=>absurd h6 e,λh6=>by omega⟩
       · rw[if_neg h5]
   · subst h1
     rw[List.getElem?_append_right (by simp)]at hm'
     simp only[List.length_set,Nat.sub_self,List.getElem?_cons_zero,Option.some.injEq]at hm'
     subst hm'
     refine⟨hn,λs=>⟨λhs=>⟨(hln s hs).1,by rw[hcf s (hln s hs).1,if_pos hs]⟩,λ⟨hs,e⟩=>?_⟩⟩
     rw[hcf s hs]at e
     split at e
     · assumption
     · have:=h.mlt s hs;omega
   · rw[List.getElem?_eq_none (by simp;omega)]at hm';cases hm'
 · rw[hcf s hs,hcf t ht]at e
   by_cases h1:s∈l <;> by_cases h2:t∈l
   · exact h.acc s t hs ht (by rw[(hln s h1).2,(hln t h2).2])
   · rw[if_pos h1,if_neg h2]at e;have:=h.mlt t ht;omega
   · rw[if_neg h1,if_pos h2]at e;have:=h.mlt s hs;omega
   · rw[if_neg h1,if_neg h2]at e;exact h.acc s t hs ht e
def Ii (d:DA)(c' c:Nat->Nat):Prop:=∀s t,s<d.n->t<d.n->c' s=c' t->c s=c t
theorem tG.finer {d:DA}{c c':Nat->Nat}{S:List Nat}{x:Nat}(h:tG d c S x)(hf:Ii d c' c):tG d c' S x:=λs t hs ht e=>h s t hs ht (hf s t hs ht e)
theorem vn {d:DA}{cl:List Nat}{mem:List (List Nat)}(h:Eb d cl mem){c:Nat}{l:List Nat}(hl:∀s∈l,s<d.n/\cf cl s=c):Ii d (cf (dj cl mem.length l)) (cf cl):=by
 intro s t hs ht e
 rw[iX _ l cl s (by rw[h.len];exact hs),iX _ l cl t (by rw[h.len];exact ht)]at e
 by_cases h1:s∈l <;> by_cases h2:t∈l
 · rw[(hl s h1).2,(hl t h2).2]
 · rw[if_pos h1,if_neg h2]at e;have:=h.mlt t ht;omega
 · rw[if_neg h1,if_pos h2]at e;have:=h.mlt s hs;omega
 · rw[if_neg h1,if_neg h2]at e;exact e
theorem pU.split {d:DA}{cl:List Nat}{mem:List (List Nat)}(h:Eb d cl mem){todo todo':List (List Nat)}(ha:pU d (cf cl) todo){c:Nat}{l:List Nat}(hl:∀s∈l,s<d.n/\cf cl s=c)
   (hsub:∀S∈todo,S∈todo') (hlt:l∈todo'):pU d (cf (dj cl mem.length l)) todo':=by
 have hf:=vn h hl
 intro u v hu hv e
 by_cases hc:cf cl u=cf cl v
 · refine⟨l,.inl hlt,λhiff=>e ?_⟩
   rw[iX _ l cl u (by rw[h.len];exact hu),iX _ l cl v (by rw[h.len];exact hv)]
   by_cases h1:u∈l
   · rw[if_pos h1,if_pos (hiff.1 h1)]
   · rw[if_neg h1,if_neg (λh2=>h1 (hiff.2 h2)),hc]
 · obtain⟨S,h1,h2⟩:=ha u v hu hv hc
   exact⟨S,h1.imp (hsub S) λh3 x hx=>(h3 x hx).finer hf,h2⟩
theorem pU.drop {d:DA}{c:Nat->Nat}{S:List Nat}{todo todo':List (List Nat)}(h:pU d c todo)(hs:∀x,x<d.K->tG d c S x)(hsub:∀T∈todo,T=S\/T∈todo'):pU d c todo':=by
 intro u v hu hv e
 obtain⟨T,h1,h2⟩:=h u v hu hv e
 refine⟨T,?_,h2⟩
 rcases h1 with h1|h1
 · rcases hsub T h1 with rfl|h1
   · exact .inr hs
   · exact .inl h1
 · exact .inr h1
structure Hit (d:DA)(c0:Nat->Nat)(S:List Nat)(x:Nat)(hs:List (Nat×List Nat)):Prop where
 keys:(hs.map (·.1)).Nodup
 lists:∀p∈hs,p.2.Nodup/\p.2≠[]/\∀s,s∈p.2 ↔ s<d.n/\c0 s=p.1/\d.to s x∈S
 all:∀s,s<d.n->d.to s x∈S->∃p∈hs,p.1=c0 s
structure CZ (d:DA)(c0:Nat->Nat)(S:List Nat)(x:Nat)(left:List (Nat×List Nat))(cl:List Nat)(mem:List (List Nat))(todo:List (List Nat)):Prop where
 inv:Eb d cl mem
 finer:Ii d (cf cl) c0
 same:∀p∈left,∀s,s<d.n->c0 s=p.1->cf cl s=p.1
 back:∀p∈left,∀s,s<d.n->cf cl s=p.1->c0 s=p.1
 done:∀s t,s<d.n->t<d.n->cf cl s=cf cl t->(∀p∈left,p.1≠c0 s)->(d.to s x∈S ↔ d.to t x∈S)
 apart:pU d (cf cl) todo
theorem CZ.start {d:DA}{S:List Nat}{x:Nat}{hs:List (Nat×List Nat)}{cl:List Nat}{mem todo:List (List Nat)}(h:Eb d cl mem)(ha:pU d (cf cl) todo)(hh:Hit d (cf cl) S x hs):CZ d (cf cl) S x hs cl mem todo where
 inv:=h
 finer:=λ_ _ _ _ e=>e
 same:=λ_ _ _ _ e=>e
 back:=λ_ _ _ _ e=>e
 done:=λs t hs' ht e hno=>by
   have n1:d.to s x ∉ S:=λhm=>by
     obtain⟨p,hp,e2⟩:=hh.all s hs' hm
     exact hno p hp e2
   have n2:d.to t x ∉ S:=λhm=>by
     obtain⟨p,hp,e2⟩:=hh.all t ht hm
     exact hno p hp (by rw[e2,e])
   exact⟨λh=>absurd h n1,λh=>absurd h n2⟩
 apart:=ha
theorem CZ.whole {d:DA}{c0:Nat->Nat}{S:List Nat}{x:Nat}{hs left left':List (Nat×List Nat)}{cl:List Nat}{mem todo:List (List Nat)}(hh:Hit d c0 S x hs)(h:CZ d c0 S x left cl mem todo){p:Nat×List Nat}(hp:p∈left)(hpa:p∈hs)
   (hl:∀q,q∈left' ↔ q∈left/\q.1≠p.1) (hw:∀s,s<d.n->c0 s=p.1->s∈p.2):CZ d c0 S x left' cl mem todo where
 inv:=h.inv
 finer:=h.finer
 same:=λq hq=>h.same q ((hl q).1 hq).1
 back:=λq hq=>h.back q ((hl q).1 hq).1
 done:=λs t hs' ht e hno=>by
   by_cases e2:c0 s=p.1
   · have e3:c0 t=p.1:=by rw[<- h.finer s t hs' ht e];exact e2
     have m1:=((hh.lists p hpa).2.2 s).1 (hw s hs' e2)
     have m2:=((hh.lists p hpa).2.2 t).1 (hw t ht e3)
     exact⟨λ_=>m2.2.2,λ_=>m1.2.2⟩
   · refine h.done s t hs' ht e λq hq e4=>?_
     by_cases e5:q.1=p.1
     · exact e2 (by rw[<- e4,e5])
     · exact hno q ((hl q).2 ⟨hq,e5⟩) e4
 apart:=h.apart
theorem CZ.cut {d:DA}{c0:Nat->Nat}{S:List Nat}{x:Nat}{hs left left':List (Nat×List Nat)}{cl:List Nat}{mem todo todo':List (List Nat)}(hh:Hit d c0 S x hs)(h:CZ d c0 S x left cl mem todo){p:Nat×List Nat}(hp:p∈left)(hpa:p∈hs)
   (hl:∀q,q∈left' ↔ q∈left/\q.1≠p.1) {m:List Nat} (hm:mem[p.1]? =some m) (hsub:∀T∈todo,T∈todo') (hin:p.2∈todo') (hlt:∀q∈hs,q.1<mem.length) (hkey:∀q∈left,q∈hs):
   CZ d c0 S x left' (dj cl mem.length p.2) (mem.set p.1 (m.filter λt=> !decide (cf (dj cl mem.length p.2) t=mem.length))++[p.2]) todo':=by
 obtain⟨l1,l2,l3⟩:=hh.lists p hpa
 have hpl:∀s∈p.2,s<d.n/\cf cl s=p.1:=λs hs'=>by
   obtain⟨h1,h2,h3⟩:=(l3 s).1 hs'
   exact⟨h1,h.same p hp s h1 h2⟩
 have hf:=vn h.inv hpl
 have hcf:∀s,s<d.n->cf (dj cl mem.length p.2) s=if s∈p.2 then mem.length else cf cl s:=λs hs'=>iX _ p.2 cl s (by rw[h.inv.len];exact hs')
 have hpm:∀s∈p.2,s∈m:=λs hs'=>((h.inv.mems p.1 m hm).2 s).2 (hpl s hs')
 refine⟨h.inv.split hm l1 hpm,λs t hs' ht e=>h.finer s t hs' ht (hf s t hs' ht e),λq hq s hs' e=>?_,λq hq s hs' e=>?_,λs t hs' ht e hno=>?_,h.apart.split h.inv hpl hsub hin⟩
 · obtain⟨q1,q2⟩:=(hl q).1 hq
   have hn:s ∉ p.2:=λhm2=>q2 (by rw[<- e,((l3 s).1 hm2).2.1])
   rw[hcf s hs',if_neg hn]
   exact h.same q q1 s hs' e
 · obtain⟨q1,q2⟩:=(hl q).1 hq
   rw[hcf s hs']at e
   split at e
   · have:=hlt q (hkey q q1);omega
   · exact h.back q q1 s hs' e
 · have e0:=hf s t hs' ht e
   by_cases e2:c0 s=p.1
   · have e3:c0 t=p.1:=by rw[<- h.finer s t hs' ht e0];exact e2
     rw[hcf s hs',hcf t ht]at e
     have k1:d.to s x∈S ↔ s∈p.2:=⟨λhm2=>(l3 s).2 ⟨hs',e2,hm2⟩,λhm2=>((l3 s).1 hm2).2.2⟩
     have k2:d.to t x∈S ↔ t∈p.2:=⟨λhm2=>(l3 t).2 ⟨ht,e3,hm2⟩,λhm2=>((l3 t).1 hm2).2.2⟩
     rw[k1,k2]
     by_cases h1:s∈p.2 <;> by_cases h2:t∈p.2
     · simp[h1,h2]
     · rw[if_pos h1,if_neg h2]at e;have:=h.inv.mlt t ht;omega
     · rw[if_neg h1,if_pos h2]at e;have:=h.inv.mlt s hs';omega
     · simp[h1,h2]
   · refine h.done s t hs' ht e0 λq hq e4=>?_
     by_cases e5:q.1=p.1
     · exact e2 (by rw[<- e4,e5])
     · exact hno q ((hl q).2 ⟨hq,e5⟩) e4
theorem CZ.stable {d:DA}{c0:Nat->Nat}{S:List Nat}{x:Nat}{cl:List Nat}{mem todo:List (List Nat)}(h:CZ d c0 S x [] cl mem todo):tG d (cf cl) S x:=λs t hs ht e=>h.done s t hs ht e λp hp=>by cases hp
theorem zV {α:Type}[DecidableEq α](q:α):∀(ps:List α) (n:Nat),(∀t,gp q (ps.zipIdx n)=some t->n <=t/\ps[t-n]? =some q)/\(gp q (ps.zipIdx n)=none->q ∉ ps)
 | [],n=>⟨λt h=>by simp[gp]at h,λ_ h=>by cases h⟩
 | p::ps,n=>by
   obtain⟨h1,h2⟩:=zV q ps (n+1)
   rw[List.zipIdx_cons]
   unfold gp
   by_cases e:q=p
   · rw[if_pos e]
     refine⟨λt h=>?_,λh=>by cases h⟩
     obtain rfl:=Option.some.inj h
     exact⟨Nat.le_refl _,by rw[Nat.sub_self,e];rfl⟩
   · rw[if_neg e]
     refine⟨λt h=>?_,λh hm=>?_⟩
     · obtain⟨h3,h4⟩:=h1 t h
       refine⟨by omega,?_⟩
       rw[show t-n=(t-(n+1))+1 by omega,List.getElem?_cons_succ]
       exact h4
     · rcases List.mem_cons.1 hm with h3|h3
       · exact e h3
       · exact h2 h h3
theorem Jt {α β:Type}[DecidableEq α]{k:α}{v:β}{l:List (α×β)}(h:gp k l=none):upG k v l=l++[(k,v)]:=by
 have h2:=rA k l 0
 rw[h]at h2
 unfold upG
 cases hl:i6 k l 0 with
 | none=>rfl
 | some p=>rw[hl]at h2;cases h2
theorem fp1 {k B:Nat}(h:B <=k):∀b∈[k],B <=b:=λb hb=>by rw[List.mem_singleton]at hb;omega
def nI (l:List Nat):List Int:=l.map fun(i:Nat)=>(i:Int)
theorem dq (l:List Nat):(nI l).length=l.length:=List.length_map _
theorem J7 {l:List Nat}{i:Nat}(h:i<(nI l).length):(nI l)[i]=((cf l i:Nat):Int):=by
 have h2:i<l.length:=by rw[dq]at h;exact h
 have e:cf l i=l[i]:=by
   unfold cf
   rw[List.getD_eq_getElem?_getD,List.getElem?_eq_getElem h2];rfl
 rw[e]
 simp[nI]
theorem Sl.cls {P:Program}{t:TypeId}(hu:P.underlying t=some (.int .i64)){w:World}{A:Bl}{a:Option Addr}{l c:Nat}{cl:List Nat}(h:Sl bY w A a l c (nI cl)){i:Nat}(hi:i<cl.length):
   (Instr.loadAt t (.pointer (ak a (i:Int) 1))).run P w=.ok (vI ((cf cl i:Nat):Int)) w:=by
 have h2:i<(nI cl).length:=by rw[dq];exact hi
 have:=h.num hu h2
 rwa [J7 h2]at this
theorem zd.few {d:DA}{c:Nat->Nat}{rs:List Nat}{ac:List Bool}{nx:List Int}{i x:Nat}(h:zd d c rs ac nx i x):rs.length <=d.n:=by
 refine kC ?_ h.inn
 have:=h.nd
 rw[List.Nodup,List.pairwise_map]at this
 exact this.imp fun{a b} hab e=>hab (by rw[e])
abbrev oPs (vs:List Value)(k2 k4 k5 k16:Nat)(x:Option Addr)(xn xc:Nat)(y:Option Addr)(yn yc:Nat)(t:Option Addr)(tn tc:Nat)(K:Int)(cf:Nat->Nat)(rs:List Nat)(nx:List Int)(acs:List Bool):List Pt:=
 [ptO bY aq t tn tc (nI rs),ptM (ekN .i64) evN k16 ((rs.map cf).zipIdx),ptO ij bv y yn yc acs,ptO bY aq x xn xc nx,
   ptA k5 ae [vI K,vI 0,.slice x xn xc,.slice y yn yc],ptA k4 ae [vI 0,vI 0,.slice none 0 0,.slice none 0 0],ptA k2 ae vs]
def Ik (d:DA)(c:Nat->Nat)(w:World)(v:Value)(w':World):Prop:=∃(o:DA) (rs:List Nat),mP d c o rs/\∃(a:Option Addr) (n cc:Nat) (b:Option Addr) (m e:Nat),v=daV a n cc b m e o/\ri w.heap.size w' a n cc b m e o/\bW w w'
set_option maxHeartbeats 1000000 in
theorem xj {w:World}{a b:Option Addr}{n c m e:Nat}{d:DA}(h:DaS w a n c b m e d)(hd:d.Ok){a1:Option Addr}{l1 c1:Nat}{cl:List Nat}(hs:Sl bY w jD a1 l1 c1 (nI cl))(hl:cl.length=d.n)(hc:Gq d (cf cl)):
   Cf d6 #[daV a n c b m e d,.slice a1 l1 c1] w (Ret (Ik d (cf cl) w)):=by
 apply rW
 have hl1:l1=d.n:=by rw[hs.len,dq,hl]
 subst hl1
 have hst:d.st=((d.s:Nat):Int):=by have:=hd.s0;show d.st=((d.st.toNat:Nat):Int);omega
 have hsn:=hd.s_lt
 have hN:d.n <=65536:=hd.n2
 have hKK:=hd.kk
 have hK1:1 <=d.K/\d.K <=512:=by have:=hd.k1;have:=hd.k2;show 1 <=d.k.toNat/\d.k.toNat <=512;omega
 intro k2 w2 hk2 hw2 k4 w4 hk4 hw4
 have S2:Sp w [ptA k2 ae (daL a n c b m e d)] w2:=(Sp.nil w).add (hw2▸af w _) (show ai w2 k2 _ _ from ai.new hk2 hw2) (fp1 (by omega))
 have S4:=S2.add (hw4▸af w2 _) (p:=ptA k4 ae [vI 0,vI 0,.slice none 0 0,.slice none 0 0]) (show ai w4 k4 _ _ from ai.new hk4 hw4) (fp1 (by omega))
 refine⟨rfl,d.k,ai.load1 aC rfl (S4.at 1 rfl) rfl,?_⟩
 intro k5 w5 hk5 hw5
 have S5:=S4.add (hw5▸af w4 _) (p:=ptA k5 ae [vI 0,vI 0,.slice none 0 0,.slice none 0 0]) (show ai w5 k5 _ _ from ai.new hk5 hw5) (fp1 (by omega))
 obtain⟨wx,q5,v5,g5⟩:=bh.store0 (P:=prog) (cs:=daL none 0 0 none 0 0 ⟨d.k,0,[],[]⟩) rfl (dt _ _ _ _ _ _ _) (S5.at 0 rfl) rfl
 have S6:=S5.upd 0 rfl (Chg.grown g5 List.mem_cons_self) (p':=ptA k5 ae [vI d.k,vI 0,.slice none 0 0,.slice none 0 0]) v5 λb hb=>.inl hb
 have S7:=(S6.add (Below.refl _ _) (p:=ptO bY aq none 0 0 []) (Ow.nil bY aq wx NoB) (λb hb=>by cases hb)).add (Below.refl _ _) (p:=ptO ij bv none 0 0 []) (Ow.nil ij bv wx NoB) (λb hb=>by cases hb)
 refine⟨wx,q5,?_⟩
 intro k16 w16 hk16 hw16
 have S8:=S7.add (hw16▸af wx _) (p:=ptM (ekN .i64) evN k16 []) (pn.new hk16 hw16) (fp1 (by omega))
 have clS:∀{u:World},bW w u->∀{i:Nat},i<d.n->(Instr.loadAt aq (.pointer (ak a1 ((i:Nat):Int) 1))).run prog u=.ok (vI ((cf cl i:Nat):Int)) u:=fun{u} hb {i} hi=>(hs.below hb).cls aC (by rw[hl];exact hi)
 have clI:∀{i:Nat},i<d.n->Option.isSome a1=true:=fun{i} hi=>hs.isSome (i:=i) (by rw[dq,hl];exact hi)
 refine⟨rfl,d.st,ai.load1 aC rfl (S8.at 5 rfl) rfl,?_⟩
 rw[hst]
 obtain⟨wm,qm,Mm,gm⟩:=pn.up (P:=prog) kX (pm.int aC) (yT .i64) (S8.at 0 rfl:pn (ekN .i64) evN w16 k16 []) (cf cl d.s) 0
 refine⟨⟨⟨by omega,by omega⟩,clI hsn⟩,_,clS S8.bw hsn,wm,qm,rfl,((d.s:Nat):Int),?_,?_⟩
 · rw[<- hst]
   exact ai.load1 (v:=vI d.st) aC rfl (S8.oth 0 rfl (Chg.grown gm List.mem_cons_self) 5 rfl (by decide)) rfl
 have S9:=S8.upd 0 rfl (Chg.grown gm List.mem_cons_self) (p':=ptM (ekN .i64) evN k16 (([d.s].map (cf cl)).zipIdx)) Mm λb hb=>.inl hb
 intro k25 w25 hk25 hw25
 have S10:=S9.add (hw25▸af wm _) (p:=ptO bY aq (some ⟨k25,0,none⟩) 1 1 (nI [d.s])) (Ow.newF (l:=[vI ((d.s:Nat):Int)]) dF hk25 hw25 (gr.one cS) (show 1 <=maxLen by decide)) (λb hb=>by have hb2:b∈(bi (some (⟨k25,0,none⟩:Addr))).toList:=hb;simp[bi]at hb2;omega)
 refine⟨λmm ta tn tc wl=>∃(rs:List Nat) (nx:List Int) (acs:List Bool) (x:Option Addr) (xn xc:Nat) (y:Option Addr) (yn yc:Nat),mm=d.n-acs.length/\
   zd d (cf cl) rs acs nx acs.length 0/\Sp w (oPs (daL a n c b m e d) k2 k4 k5 k16 x xn xc y yn yc ta tn tc d.k (cf cl) rs nx acs) wl,
   ⟨_,[d.s],[],[],none,0,0,none,0,0,rfl,zd.start hd _,S10⟩,?_⟩
 clear S10 S9 S8 S7 S6 S5 S4 S2 Mm v5
 intro mm ta tn tc
 refine aL.of ?_ _
 rintro wl ⟨rs,nx,acs,x,xn,xc,y,yn,yc,rfl,OI,S⟩
 have T0:Ow bY aq wl NoB ta tn tc (nI rs):=S.at 0 rfl
 have Y0:Ow ij bv wl NoB y yn yc acs:=S.at 2 rfl
 have V0:ai wl k5 ae [vI d.k,vI 0,.slice x xn xc,.slice y yn yc]:=S.at 4 rfl
 have htn:tn=rs.length:=by rw[T0.len,dq]
 have hyn:yn=acs.length:=Y0.len
 have hfew:=OI.few
 refine⟨rfl,y,yn,yc,V0.load1 aS rfl rfl,ah.of (λh1=>?_) (λh1=>?_)⟩ <;> simp only[dTx,dFx]at h1
 · have hi:acs.length<rs.length:=by omega
   obtain⟨r,hr⟩:∃r,rs[acs.length]? =some r:=⟨_,List.getElem?_eq_getElem hi⟩
   have hrn:r<d.n:=OI.inn r (List.mem_of_getElem? hr)
   have hcr:cf rs acs.length=r:=by unfold cf;rw[List.getD_eq_getElem?_getD,hr];rfl
   have ldr:=T0.all.cls aC (P:=prog) hi
   rw[hcr,<- hyn]at ldr
   refine⟨rfl,y,yn,yc,V0.load1 aS rfl rfl,⟨⟨by omega,by omega⟩,T0.all.isSome (i:=acs.length) (by rw[dq];exact hi)⟩,_,ldr,?_⟩
   have Sd:=S.below (aQ wl)
   have Yd:Ow ij bv wl.drew NoB y yn yc acs:=Sd.at 2 rfl
   refine⟨λu=>Chg (bi y).toList wl.drew u,Chg.refl _ _,rfl,y,yn,yc,λu hu=>ai.load1 aS rfl (Sd.oth 2 rfl hu 4 rfl (by decide)) rfl,rfl,b,m,e,λu hu=>ai.load1 aS rfl (Sd.oth 2 rfl hu 6 rfl (by decide)) rfl,?_⟩
   have hrac:r<d.ac.length:=hrn
   have hacn:=h.ac.len
   refine⟨⟨⟨by omega,by omega⟩,h.ac.isSome hrac⟩,_,λu hu=>(h.below (Sd.obw 2 rfl hu)).ac.tru dl hrac,?_⟩
   rw[xP hrac]
   intro k45 w45 hk45 hw45
   obtain⟨c45,w46,y',yn',yc',r46,o46,c46,f46⟩:=DQ (ty:=aH) qh aS kW (by decide) Yd hk45 hw45 (x:=d.acc r) od (cm:=1) (by omega)
   have Sq:=Sd.upd 2 rfl c46 (p':=ptO ij bv y' yn' yc' (acs++[d.acc r])) o46 f46.fp
   obtain⟨wx2,q2,S3,g2⟩:=Sq.put r5 4 rfl (i:=3) (v:=.slice y' yn' yc') rfl rfl (show 3<4 by decide)
   refine⟨c45,w46,y',yn',yc',r46,c46,rfl,wx2,q2,rfl,((d.K:Nat):Int),?_,?_⟩
   · rw[hKK];exact ai.load1 aC rfl (S3.at 6 rfl) rfl
   have hin:acs.length<d.n:=by omega
   have OI2:=OI.state rfl hr
   have hal:(acs++[d.acc r]).length=acs.length+1:=by simp
   generalize hacs':acs++[d.acc r]=acs' at*
   refine⟨λm1 ta tn tc xx wl=>∃(j:Nat) (rs:List Nat) (nx:List Int) (x:Option Addr) (xn xc:Nat),xx=(j:Int)/\j <=d.K/\m1=d.K-j/\zd d (cf cl) rs acs' nx acs.length j/\rs[acs.length]? =some r/\
     Sp w (oPs (daL a n c b m e d) k2 k4 k5 k16 x xn xc y' yn' yc' ta tn tc d.k (cf cl) rs nx acs') wl,⟨_,0,rs,nx,x,xn,xc,rfl,Nat.zero_le _,rfl,OI2,hr,S3⟩,?_⟩
   clear OI2 S3 Sq Sd S T0 Y0 V0 Yd OI hfew
   intro m1 ta1 tn1 tc1 xx
   refine aL.of ?_ _
   rintro wl1 ⟨j,rs1,nx1,x1,xn1,xc1,rfl,hj,rfl,O1,hr1,S1⟩
   have T1:Ow bY aq wl1 NoB ta1 tn1 tc1 (nI rs1):=S1.at 0 rfl
   have M1:pn (ekN .i64) evN wl1 k16 ((rs1.map (cf cl)).zipIdx):=S1.at 1 rfl
   have htn1:tn1=rs1.length:=by rw[T1.len,dq]
   have hfew1:=O1.few
   refine ah.of (λh5=>?_) (λh5=>?_) <;> simp only[dTx,dFx]at h5
   · have hjK:j<d.K:=by omega
     have ia:=jL hrn hjK hN hK1.2
     obtain⟨va,va1,va2,va3,va4⟩:=hd.at hrn hjK
     have ga:r*d.K+j<d.nx.length:=bP va1
     have eto:d.nx[r*d.K+j]=((d.to r j:Nat):Int):=by
       rw[List.getElem?_eq_getElem ga]at va1
       rw[Option.some.inj va1,va4];omega
     have hto:d.to r j<d.n:=hd.to_lt hrn hjK
     have hnn:=h.nx.len
     have dnx:=(h.below S1.bw).nx
     have ldt:=dnx.num aC (P:=prog) ga
     rw[eto]at ldt
     have lk:=M1.g.look2 (P:=prog) kX (pm.int aC) dk (cf cl (d.to r j))
     obtain⟨z1,z2⟩:=zV (cf cl (d.to r j)) (rs1.map (cf cl)) 0
     refine⟨rfl,a,n,c,ai.load1 aA rfl (S1.at 6 rfl) rfl,rfl,((d.K:Nat):Int),by rw[hKK];exact ai.load1 aC rfl (S1.at 6 rfl) rfl,?_⟩
     rw[ia.1]
     refine⟨⟨⟨by omega,by omega⟩,dnx.isSome ga⟩,_,ldt,⟨⟨by omega,by omega⟩,clI hto⟩,_,clS S1.bw hto,?_⟩
     refine⟨((((gp (cf cl (d.to r j)) ((rs1.map (cf cl)).zipIdx)).getD 0:Nat)):Int),(gp (cf cl (d.to r j)) ((rs1.map (cf cl)).zipIdx)).isSome,?_,?_⟩
     · have e:((gp (cf cl (d.to r j)) ((rs1.map (cf cl)).zipIdx)).map evN).getD (vI 0)=vI ((((gp (cf cl (d.to r j)) ((rs1.map (cf cl)).zipIdx)).getD 0:Nat)):Int):=by
         cases gp (cf cl (d.to r j)) ((rs1.map (cf cl)).zipIdx) <;> rfl
       rw[<- e];exact lk
     refine⟨λta tn tc v wl=>∃(rs2:List Nat) (t q:Nat),v=(t:Int)/\(rs2=rs1\/rs2=rs1++[d.to r j]/\cf cl (d.to r j) ∉ rs1.map (cf cl))/\rs2[t]? =some q/\cf cl q=cf cl (d.to r j)/\
       Sp w (oPs (daL a n c b m e d) k2 k4 k5 k16 x1 xn1 xc1 y' yn' yc' ta tn tc d.k (cf cl) rs2 nx1 acs') wl,?_,?_⟩
     · cases hlk:gp (cf cl (d.to r j)) ((rs1.map (cf cl)).zipIdx)with
       | some t=>
         refine ah.no rfl ?_
         obtain⟨z3,z4⟩:=z1 t hlk
         rw[Nat.sub_zero,List.getElem?_map]at z4
         cases hq:rs1[t]? with
         | none=>rw[hq]at z4;cases z4
         | some q=>
           rw[hq]at z4
           exact⟨rs1,t,q,rfl,.inl rfl,hq,Option.some.inj z4,S1⟩
       | none=>
         refine ah.yes rfl ⟨⟨⟨by omega,by omega⟩,clI hto⟩,_,clS S1.bw hto,?_⟩
         obtain⟨wm3,qm3,Mm3,gm3⟩:=pn.up (P:=prog) kX (pm.int aC) (yT .i64) M1 (cf cl (d.to r j)) tn1
         have ez:upG (cf cl (d.to r j)) tn1 ((rs1.map (cf cl)).zipIdx)=((rs1++[d.to r j]).map (cf cl)).zipIdx:=by
           rw[Jt hlk,List.map_append,List.zipIdx_append,htn1];simp
         rw[ez]at Mm3
         have S2:=S1.upd 1 rfl (Chg.grown gm3 List.mem_cons_self) (p':=ptM (ekN .i64) evN k16 (((rs1++[d.to r j]).map (cf cl)).zipIdx)) Mm3 λb hb=>.inl hb
         refine⟨wm3,qm3,?_⟩
         intro k84 w84 hk84 hw84
         obtain⟨c84,w85,t',tn',tc',r85,o85,c85,f85⟩:=DQ (ty:=aj) dF aA dk (by decide) (S2.at 0 rfl:Ow bY aq wm3 NoB ta1 tn1 tc1 (nI rs1)) hk84 hw84 (x:=((d.to r j:Nat):Int)) cS (cm:=1) (by rw[dq];omega)
         have en:nI rs1++[((d.to r j:Nat):Int)]=nI (rs1++[d.to r j]):=by simp[nI]
         rw[en]at o85
         have S3:=S2.upd 0 rfl c85 (p':=ptO bY aq t' tn' tc' (nI (rs1++[d.to r j]))) o85 f85.fp
         exact⟨w85,t',tn',tc',r85,rs1++[d.to r j],tn1,d.to r j,rfl,.inr ⟨rfl,z2 hlk⟩,by rw[htn1];simp,rfl,S3⟩
     intro ta2 tn2 tc2 vv
     refine aL.of ?_ _
     rintro wj ⟨rs2,t,q,rfl,hps,ht,hq,S2⟩
     have hxl:nx1.length=acs.length*d.K+j:=O1.len
     have hmul:acs.length*d.K <=65536*512:=Nat.mul_le_mul (by have:=bP hr1;omega) hK1.2
     refine⟨rfl,x1,xn1,xc1,ai.load1 aA rfl (S2.at 4 rfl) rfl,?_⟩
     intro k89 w89 hk89 hw89
     obtain⟨c89,w90,x',xn',xc',r90,o90,c90,f90⟩:=DQ (ty:=aj) dF aA dk (by decide) (S2.at 3 rfl:Ow bY aq wj NoB x1 xn1 xc1 nx1) hk89 hw89 (x:=((t:Nat):Int)) cS (cm:=1) (by omega)
     have S3:=S2.upd 3 rfl c90 (p':=ptO bY aq x' xn' xc' (nx1++[((t:Nat):Int)])) o90 f90.fp
     obtain⟨wx4,q4,S4,g4⟩:=S3.put fF 4 rfl (i:=2) (v:=.slice x' xn' xc') rfl rfl (show 2<4 by decide)
     have hr2:rs2[acs.length]? =some r:=by
       rcases hps with rfl|⟨rfl,_⟩
       · exact hr1
       · rw[List.getElem?_append_left (bP hr1)];exact hr1
     exact⟨w90,x',xn',xc',r90,rfl,wx4,q4,d.K-(j+1),by omega,j+1,rs2,_,x',xn',xc',by rw[ar (by omega) (by omega)];omega,hjK,rfl,O1.put hd hc (by rw[<- hacs'];simp) hjK hr1 hps ht hq,hr2,S4⟩
   · have:j=d.K:=by omega
     subst this
     have O2:=O1.row
     refine⟨d.n-acs'.length,by omega,rs1,nx1,acs',x1,xn1,xc1,y',yn',yc',rfl,?_,S1⟩
     rw[hal];exact O2
 · have hle:rs.length <=acs.length:=by omega
   have fin:=OI.done rfl hle
   obtain⟨wx5,s5,s6,g6⟩:=cR (S.at 5 rfl) rfl x xn xc y yn yc (⟨d.k,0,nx,acs⟩:DA)
   have S6:=S.below (Below.refl _ _)
   have c6:Chg [k4] wl wx5:=Chg.grown g6 List.mem_cons_self
   refine⟨_,_,x,xn,xc,y,yn,yc,bh.load0 (cs:=daL x xn xc y yn yc ⟨d.k,0,nx,acs⟩) V0 rfl,wx5,s5,_,_,x,xn,xc,y,yn,yc,s6,⟨d.k,0,nx,acs⟩,rs,fin,x,xn,xc,y,yn,yc,rfl,⟨S.oth 5 rfl c6 3 rfl (by decide),S.oth 5 rfl c6 2 rfl (by decide),?_,?_,?_⟩,S.obw 5 rfl c6⟩
   · exact λg hg hg2=>S.st.ap 3 2 _ _ rfl rfl (by decide) g (cL.2 hg) (cL.2 hg2)
   · exact λg hg=>S.low (ptO bY aq x xn xc nx) (by simp) g (cL.2 hg)
   · exact λg hg=>S.low (ptO ij bv y yn yc acs) (by simp) g (cL.2 hg)
def gV (d:DA)(f x t:Nat):List Nat:=(List.range f).filter λs=>decide (d.to s x=t)
theorem qC {d:DA}{f x t s:Nat} :s∈gV d f x t ↔ s<f/\d.to s x=t:=by simp[gV]
theorem BE (d:DA)(f x t:Nat):(gV d f x t).Nodup:=List.nodup_range.filter _
theorem FK (d:DA)(f x t:Nat):(gV d f x t).length <=f:=by
 have:=List.length_filter_le (λs=>decide (d.to s x=t)) (List.range f)
 rw[List.length_range]at this;exact this
theorem xr (d:DA)(f x t:Nat):gV d (f+1) x t=gV d f x t++(if d.to f x=t then[f]else[]):=by
 unfold gV
 rw[List.range_succ,List.filter_append]
 congr 1
 by_cases h:d.to f x=t <;> simp[h]
def bkN (d:DA)(f j i:Nat):List Nat:=gV d (if i%d.K<j then f+1 else f) (i%d.K) (i/d.K)
theorem IE (d:DA)(hK:0<d.K)(f i:Nat):bkN d f d.K i=bkN d (f+1) 0 i:=by
 unfold bkN
 rw[if_pos (Nat.mod_lt i hK),if_neg (Nat.not_lt_zero _)]
theorem JO {d:DA}{f j i:Nat}(hj:j<d.K)(hi:i=d.to f j*d.K+j):bkN d f (j+1) i=bkN d f j i++[f]:=by
 have h1:i%d.K=j:=by rw[hi,Nat.mul_comm,Nat.mul_add_mod,Nat.mod_eq_of_lt hj]
 have h2:i/d.K=d.to f j:=by rw[hi,Nat.mul_comm,Nat.mul_add_div (by omega),Nat.div_eq_of_lt hj,Nat.add_zero]
 unfold bkN
 rw[h1,h2,if_pos (Nat.lt_succ_self j),if_neg (Nat.lt_irrefl j),xr,if_pos rfl]
theorem JP {d:DA}{f j i:Nat}(hj:j<d.K)(hi:i≠d.to f j*d.K+j):bkN d f (j+1) i=bkN d f j i:=by
 unfold bkN
 by_cases h1:i%d.K=j
 · have h2:d.to f j≠i/d.K:=λe=>hi (by rw[e,<- h1,Nat.mul_comm,Nat.div_add_mod])
   rw[if_pos (by omega),if_neg (by omega),xr,h1,if_neg h2,List.append_nil]
 · have e:(i%d.K<j+1) ↔ (i%d.K<j):=by omega
   simp only[e]
theorem ID {d:DA}{t x:Nat}(hx:x<d.K):bkN d d.n 0 (t*d.K+x)=gV d d.n x t:=by
 unfold bkN
 rw[if_neg (Nat.not_lt_zero _)]
 congr 1
 · rw[Nat.mul_comm,Nat.mul_add_mod,Nat.mod_eq_of_lt hx]
 · rw[Nat.mul_comm,Nat.mul_add_div (by omega),Nat.div_eq_of_lt hx,Nat.add_zero]
def tj (d:DA)(s:Nat):Nat:=if d.acc s=true then 1 else 0
def pR (d:DA)(f:Nat):List Nat:=(List.range d.n).map λs=>if s<f then tj d s else 0
def rC (d:DA)(f:Nat)(b:Bool):List Nat:=(List.range f).filter λs=>d.acc s==b
theorem gN (d:DA)(f:Nat):(pR d f).length=d.n:=by simp[pR]
theorem Co {d:DA}{f s:Nat}(h:s<d.n):cf (pR d f) s=if s<f then tj d s else 0:=by
 unfold cf pR
 rw[List.getD_eq_getElem?_getD,List.getElem?_map,List.getElem?_range h];rfl
theorem EL (d:DA):pR d 0=List.replicate d.n 0:=by
 unfold pR
 rw[List.eq_replicate_iff]
 refine⟨by simp,λb hb=>?_⟩
 obtain⟨s,_,rfl⟩:=List.mem_map.1 hb
 simp
theorem zu {d:DA}{f:Nat}(hf:f<d.n):pR d (f+1)=if d.acc f=true then(pR d f).set f 1 else pR d f:=by
 have hget:∀(i:Nat) (h:i<d.n),(pR d f)[i]'(by rw[gN];exact h)=if i<f then tj d i else 0:=λi h=>by simp[pR]
 have hget1:∀(i:Nat) (h:i<d.n),(pR d (f+1))[i]'(by rw[gN];exact h)=if i<f+1 then tj d i else 0:=λi h=>by simp[pR]
 by_cases ha:d.acc f=true
 · rw[if_pos ha]
   refine List.ext_getElem (by rw[List.length_set,gN,gN]) λi h1 h2=>?_
   rw[gN]at h1
   rw[hget1 i h1,List.getElem_set]
   by_cases e:f=i
   · subst e
     rw[if_pos rfl,if_pos (Nat.lt_succ_self f)]
     unfold tj;rw[if_pos ha]
   · rw[if_neg e,hget i h1]
     have:(i<f+1) ↔ (i<f):=by omega
     simp only[this]
 · rw[if_neg ha]
   refine List.ext_getElem (by rw[gN,gN]) λi h1 h2=>?_
   rw[gN]at h1
   rw[hget1 i h1,hget i h1]
   by_cases e:f=i
   · subst e
     rw[if_pos (Nat.lt_succ_self f),if_neg (Nat.lt_irrefl f)]
     unfold tj;rw[if_neg ha]
   · have:(i<f+1) ↔ (i<f):=by omega
     simp only[this]
theorem zX (d:DA)(f:Nat)(b:Bool):rC d (f+1) b=rC d f b++(if d.acc f=b then[f]else[]):=by
 unfold rC
 rw[List.range_succ,List.filter_append]
 congr 1
 by_cases h:d.acc f=b <;> simp[h]
theorem qB {d:DA}{f s:Nat}{b:Bool} :s∈rC d f b ↔ s<f/\d.acc s=b:=by simp[rC]
theorem yC (d:DA)(f:Nat)(b:Bool):(rC d f b).length <=f:=by
 have:=List.length_filter_le (λs=>d.acc s==b) (List.range f)
 rw[List.length_range]at this;exact this
theorem lQ {d:DA}{s:Nat}(h:s<d.n):cf (pR d d.n) s=tj d s:=by rw[Co h,if_pos h]
theorem It {d:DA}{s t:Nat}(h:tj d s=tj d t):d.acc s=d.acc t:=by
 unfold tj at h
 cases h1:d.acc s <;> cases h2:d.acc t <;> simp[h1,h2]at h ⊢
theorem K3 (d:DA):Eb d (pR d d.n) [rC d d.n false,rC d d.n true] where
 len:=gN d _
 mlt:=λs hs=>by
   rw[lQ hs]
   show tj d s<2
   unfold tj;split <;> omega
 mems:=λc m hm=>by
   have nd:∀b,(rC d d.n b).Nodup:=λb=>List.nodup_range.filter _
   match c,hm with
   | 0,hm=>
     obtain rfl:=Option.some.inj hm
     refine⟨nd _,λs=>?_⟩
     rw[qB]
     refine and_congr_right λhs=>?_
     rw[lQ hs]
     unfold tj
     cases d.acc s <;> simp
   | 1,hm=>
     obtain rfl:=Option.some.inj hm
     refine⟨nd _,λs=>?_⟩
     rw[qB]
     refine and_congr_right λhs=>?_
     rw[lQ hs]
     unfold tj
     cases d.acc s <;> simp
   | c+2,hm=>simp at hm
 acc:=λs t hs ht e=>by
   rw[lQ hs,lQ ht]at e
   exact It e
theorem JM (d:DA):pU d (cf (pR d d.n)) [rC d d.n false,rC d d.n true]:=λu v hu hv e=>by
 rw[lQ hu,lQ hv]at e
 refine⟨rC d d.n true,.inl (by simp),λhiff=>e ?_⟩
 rw[qB,qB]at hiff
 have:d.acc u=true ↔ d.acc v=true:=⟨λh=>(hiff.1 ⟨hu,h⟩).2,λh=>(hiff.2 ⟨hv,h⟩).2⟩
 unfold tj
 cases h1:d.acc u <;> cases h2:d.acc v <;> simp[h1,h2]at this ⊢
def GC (d:DA)(cl:List Nat)(m:Nat):Prop:=∀c,2 <=c->c<m->∃s,s<d.n/\cf cl s=c
theorem GC.le {d:DA}{cl:List Nat}{m:Nat}(h:GC d cl m):m <=d.n+2:=by
 have h1:((List.range m).drop 2).length <=((List.range d.n).map (cf cl)).length:=lx (List.nodup_range.sublist (List.drop_sublist _ _)) λc hc=>by
   obtain⟨i,hi,e⟩:=List.mem_iff_getElem.1 hc
   rw[List.getElem_drop,List.getElem_range]at e
   rw[List.length_drop,List.length_range]at hi
   obtain⟨s,hs,e2⟩:=h c (by omega) (by omega)
   exact List.mem_map.2 ⟨s,List.mem_range.2 hs,e2⟩
 rw[List.length_drop,List.length_range,List.length_map,List.length_range]at h1
 omega
theorem GC.split {d:DA}{cl:List Nat}{mem:List (List Nat)}(hi:Eb d cl mem)(h:GC d cl mem.length){c:Nat}{m l:List Nat}(hm:mem[c]? =some m)(hl:∀s∈l,s∈m)(hne:l≠[])(hlt:∃s∈m,s ∉ l):GC d (dj cl mem.length l) (mem.length+1):=by
 intro k h2 hk
 have hcf:∀s,s<d.n->cf (dj cl mem.length l) s=if s∈l then mem.length else cf cl s:=λs hs=>iX _ l cl s (by rw[hi.len];exact hs)
 obtain⟨m1,m2⟩:=hi.mems c m hm
 by_cases e:k=mem.length
 · subst e
   cases l with
   | nil=>exact absurd rfl hne
   | cons s l=>
     have hs:=((m2 s).1 (hl s List.mem_cons_self)).1
     exact⟨s,hs,by rw[hcf s hs,if_pos List.mem_cons_self]⟩
 · by_cases e2:k=c
   · subst e2
     obtain⟨s,hs,hn⟩:=hlt
     obtain⟨h3,h4⟩:=(m2 s).1 hs
     exact⟨s,h3,by rw[hcf s h3,if_neg hn];exact h4⟩
   · obtain⟨s,hs,e3⟩:=h k h2 (by omega)
     refine⟨s,hs,?_⟩
     rw[hcf s hs,if_neg (λhsl=>e2 ?_)]
     · exact e3
     · rw[<- e3];exact((m2 s).1 (hl s hsl)).2
theorem St.perm {ps qs:List Pt}{w:World}(h:St ps w)(hp:ps.Perm qs):St qs w:=by
 have pw:∀{l:List Pt},(∀(i j:Nat) (p q:Pt),l[i]? =some p->l[j]? =some q->i≠j->∀b∈p.fp,b ∉ q.fp) ↔ l.Pairwise λp q=>∀b∈p.fp,b ∉ q.fp:=fun{l} =>by
   rw[List.pairwise_iff_getElem]
   constructor
   · intro h i j hi hj hij
     exact h i j _ _ (List.getElem?_eq_getElem hi) (List.getElem?_eq_getElem hj) (by omega)
   · intro h i j p q hp hq hne b hb hb2
     obtain⟨hi,rfl⟩:=List.getElem?_eq_some_iff.1 hp
     obtain⟨hj,rfl⟩:=List.getElem?_eq_some_iff.1 hq
     rcases Nat.lt_or_ge i j with hij|hij
     · exact h i j hi hj hij b hb hb2
     · exact h j i hj hi (by omega) b hb2 hb
 exact⟨λp hm=>h.hold p (hp.symm.subset hm),pw.2 ((hp.pairwise_iff fun{x y} hxy b hb hb2=>hxy b hb2 hb).1 (pw.1 h.ap))⟩
theorem Sp.perm {w0 w:World}{ps qs:List Pt}(h:Sp w0 ps w)(hp:ps.Perm qs):Sp w0 qs w:=⟨h.st.perm hp,λp hm=>h.low p (hp.symm.subset hm),h.bw⟩
theorem Sl.hd {P:Program}{t e:TypeId}(hu:P.underlying t=some (.slice e)){w:World}{A:Bl}{a:Option Addr}{l c:Nat}{hs:List Hi}(h:Sl tHi w A a l c hs){i:Nat}{x:Hi}(hi:hs[i]? =some x):
   (Instr.loadAt t (.pointer (ak a (i:Int) 1))).run P w=.ok x.v w:=by
 obtain⟨hlt,rfl⟩:=List.getElem?_eq_some_iff.1 hi
 obtain⟨v,hv,hrep⟩:=h.load1 (P:=P) hu rfl rfl (i:=(i:Int)) (by simpa using hlt)
 have:=hrep.1
 simp only[Int.toNat_natCast,List.cons.injEq,and_true]at this
 rw[hv,this]
structure H3 where
 a:Option Addr
 n:Nat
 c:Nat
def H3.v (h:H3):Value:=.slice h.a h.n h.c
theorem Ae {w0 w:World}{ps:List Pt}(S:Sp w0 ps w)(iR iO:Nat){pool rest hs:List Hi}{a:Option Addr}{n c:Nat}(hR:ps[iR]? =some (ptR aq pool))(hO:ps[iO]? =some (ptO tHi aj a n c hs))(hne:iO≠iR)
   {t:Nat} {h:Hi} (hg:hs[t]? =some h) (hp:pool.Perm (h::rest)) {k1:Nat} {w1:World} {x:Int} (hk:k1=w.heap.size) (hw:w1=w.alloc (.cells #[vI x] aq)) (hb:h.xs.length <=1000000):
   Chg (tA pool) w w1/\∃(w2:World) (h':Hi),(Builtin.append_ #[aj,aj] aj #[h.v,.slice (some ⟨k1,0,none⟩) 1 1]).run prog w1=.ok h'.v w2/\Chg (tA pool) w w2/\h'.xs=h.xs++[x]/\
     ∃wx,(Instr.storeAt aj (.pointer (ak a (t:Int) 1)) h'.v).run prog w2=.ok () wx/\Sp w0 ((ps.set iR (ptR aq (h'::rest))).set iO (ptO tHi aj a n c (hs.set t h'))) wx:=by
 have R:Rws aq w (h::rest):=Rws.perm (S.at iR hR) hp
 have inP:∀b∈(bi h.a).toList,b∈tA pool:=λb hb=>(lF hp).2 (d9.2 (.inl (cL.1 hb)))
 obtain⟨c1,w2,a2,n2,c2,r2,o2,g2,f2⟩:=DQ (ty:=aj) dF aA dk (by decide) (R.own h List.mem_cons_self) hk (vs:=[vI x]) hw (x:=x) cS (cm:=1) (by omega)
 have R2:Rws aq w2 (⟨a2,n2,c2,h.xs++[x]⟩::rest):=R.upd (h':=⟨a2,n2,c2,h.xs++[x]⟩) g2 o2 f2
 have S2:=S.upd iR hR (g2.mono inP) (p':=ptR aq (⟨a2,n2,c2,h.xs++[x]⟩::rest)) R2 λb hb=>by
   rcases d9.1 hb with e|e
   · rcases f2 b e with e2|e2
     · exact .inl (inP b (cL.2 e2))
     · exact .inr e2
   · exact .inl ((lF hp).2 (d9.2 (.inr e)))
 have hO2:(ps.set iR (ptR aq (⟨a2,n2,c2,h.xs++[x]⟩::rest)))[iO]? =some (ptO tHi aj a n c hs):=by
   rw[List.getElem?_set_ne (Ne.symm hne)];exact hO
 have O2:Ow tHi aj w2 NoB a n c hs:=S2.at iO hO2
 have ht:t<hs.length:=bP hg
 obtain⟨wx,q,o3,g3⟩:=Ow.store (k:=1) fF O2 (λ_ _ h=>h) (i:=(t:Int)) (by simpa using ht) rfl (v:=Hi.v ⟨a2,n2,c2,h.xs++[x]⟩) (x:=⟨a2,n2,c2,h.xs++[x]⟩) ⟨rfl,trivial⟩
 rw[Int.toNat_natCast]at o3
 refine⟨c1.mono inP,w2,⟨a2,n2,c2,h.xs++[x]⟩,r2,g2.mono inP,rfl,wx,q,S2.upd iO hO2 (Chg.row g3) (p':=ptO tHi aj a n c (hs.set t ⟨a2,n2,c2,h.xs++[x]⟩)) o3 λb hb=>.inl hb⟩
def Ej (d:DA)(f j:Nat)(hs:List Hi):Prop:=hs.length=d.n*d.K/\∀i h,hs[i]? =some h->h.xs=nI (bkN d f j i)
theorem Ej.push {d:DA}{f j:Nat}{hs:List Hi}(h:Ej d f j hs)(hj:j<d.K){x x':Hi}(hx:hs[d.to f j*d.K+j]? =some x)(e:x'.xs=x.xs++[((f:Nat):Int)]):Ej d f (j+1) (hs.set (d.to f j*d.K+j) x'):=by
 refine⟨by rw[List.length_set];exact h.1,λi y hy=>?_⟩
 rcases jg hy with⟨rfl,rfl⟩|⟨hne,hy⟩
 · rw[e,h.2 _ x hx,JO hj rfl];simp[nI]
 · rw[JP hj hne];exact h.2 i y hy
theorem Ej.row {d:DA}(hK:0<d.K){f:Nat}{hs:List Hi}(h:Ej d f d.K hs):Ej d (f+1) 0 hs:=⟨h.1,λi x hx=>by rw[<- IE d hK];exact h.2 i x hx⟩
def nX (hs:List Hi):List (List Int):=hs.map Hi.xs
theorem CR (ti:TypeId)(w:World)(m:Nat):Rws ti w (List.replicate m hi0):=by
 refine⟨λh hm=>?_,List.pairwise_iff_getElem.2 λi j hi hj _ b hb=>?_⟩
 · rw[(List.mem_replicate.1 hm).2];exact Ow.nil _ _ _ _
 · rw[List.getElem_replicate]at hb;cases hb
theorem An (m:Nat):tA (List.replicate m hi0)=[]:=by
 cases h:tA (List.replicate m hi0)with
 | nil=>rfl
 | cons b l=>
   have:b∈tA (List.replicate m hi0):=by rw[h];exact List.mem_cons_self
   obtain⟨x,hx,e⟩:=kz.1 this
   rw[(List.mem_replicate.1 hx).2]at e;cases e
abbrev sPs (kS:Nat)(vs:List Value)(B C M T:H3)(pool mems tods:List Hi)(cl:List Nat)(backs:List Hi):List Pt:=
 [ptR aq pool,ptO tHi aj M.a M.n M.c mems,ptO tHi aj T.a T.n T.c tods,ptO bY aq C.a C.n C.c (nI cl),ptR aq backs,ptO tHi aj B.a B.n B.c backs,ptA kS bg (vs++[B.v,C.v,M.v,T.v])]
abbrev pPs (k1 kS:Nat)(vs:List Value)(B C M:H3)(pool mems:List Hi)(cl:List Nat)(backs:List Hi):List Pt:=
 [ptR aq pool,ptO tHi aj M.a M.n M.c mems,ptO bY aq C.a C.n C.c (nI cl),ptR aq backs,ptO tHi aj B.a B.n B.c backs,ptA kS bg (vs++[B.v,C.v,M.v,.slice none 0 0]),ptA k1 ae vs]
def GI (d:DA)(vs:List Value)(w:World)(v:Value)(w':World):Prop:=
 ∃(kS:Nat) (B C M T:H3) (pool mems tods backs:List Hi),v=.pointer (some ⟨kS,0,none⟩)/\Ej d d.n 0 backs/\nX mems=[nI (rC d d.n false),nI (rC d d.n true)]/\nX tods=[nI (rC d d.n false),nI (rC d d.n true)]/\pool.Perm (mems++tods)/\
   Sp w (sPs kS vs B C M T pool mems tods (pR d d.n) backs) w'
set_option maxHeartbeats 1000000 in
theorem BF {w:World}{a b:Option Addr}{n c m e:Nat}{d:DA}(h:DaS w a n c b m e d)(hd:d.Ok):
   Cf jd #[daV a n c b m e d] w (Ret (GI d (daL a n c b m e d) w)):=by
 apply qI
 have hN:d.n <=65536:=hd.n2
 have hKK:=hd.kk
 have hK1:1 <=d.K/\d.K <=512:=by have:=hd.k1;have:=hd.k2;show 1 <=d.k.toNat/\d.k.toNat <=512;omega
 have hm:m=d.n:=h.ac.len
 subst hm
 have hnn:=h.nx.len
 have hnl:=hd.lenN
 have hmul:d.n*d.K <=65536*512:=Nat.mul_le_mul hN hK1.2
 have hmK:i64.wrap (((d.n:Nat):Int)*((d.K:Nat):Int))=((d.n*d.K:Nat):Int):=by
   rw[show((d.n:Nat):Int)*((d.K:Nat):Int)=((d.n*d.K:Nat):Int) from(Int.natCast_mul _ _).symm]
   exact ar (by omega) (by omega)
 intro k1 w1 hk1 hw1
 have S1:Sp w [ptA k1 ae (daL a n c b d.n e d)] w1:=(Sp.nil w).add (hw1▸af w _) (show ai w1 k1 _ _ from ai.new hk1 hw1) (fp1 (by omega))
 have A1:ai w1 k1 ae (daL a n c b d.n e d):=S1.at 0 rfl
 refine⟨rfl,b,_,e,A1.load1 aS rfl rfl,?_⟩
 refine⟨λp u=>∃(kS:Nat) (B C M:H3),p=some ⟨kS,0,none⟩/\B.n=d.n*d.K/\C.n=d.n/\M.n=2/\Sp w (pPs k1 kS (daL a n c b d.n e d) B C M (List.replicate 2 hi0) (List.replicate 2 hi0) (List.replicate d.n 0) (List.replicate (d.n*d.K) hi0)) u,?_,?_⟩
 · have S1d:=S1.below (aQ w1)
   have mkB:∀{ps:List Pt} {u:World},Sp w ps u->∃(u':World) (x:Option Addr),(Instr.makeSlice ay (vI ((d.n*d.K:Nat):Int)) (vI ((d.n*d.K:Nat):Int))).run prog u=.ok (.slice x (d.n*d.K) (d.n*d.K)) u'/\bW u u'/\Sp w (ptO tHi aj x (d.n*d.K) (d.n*d.K) (List.replicate (d.n*d.K) hi0)::ps) u':=fun{ps u} S=>by
     obtain⟨u',x,r,o,hb,hf⟩:=qz (P:=prog) (e:=Hi.v) (h1:=λ_=>rfl) (p:=λ_=>True) aV fF (x0:=hi0) rfl rfl trivial .i64 .i64 (d.n*d.K) (by omega) (by omega) u NoB
     exact⟨u',x,r,hb,S.add hb (p:=ptO tHi aj x (d.n*d.K) (d.n*d.K) (List.replicate (d.n*d.K) hi0)) o λb hb2=>hf b (cL.1 hb2)⟩
   have mkM:∀{ps:List Pt} {u:World},Sp w ps u->∃(u':World) (x:Option Addr),(Instr.makeSlice ay (vI 2) (vI 2)).run prog u=.ok (.slice x 2 2) u'/\bW u u'/\Sp w (ptO tHi aj x 2 2 (List.replicate 2 hi0)::ps) u':=fun{ps u} S=>by
     obtain⟨u',x,r,o,hb,hf⟩:=qz (P:=prog) (e:=Hi.v) (h1:=λ_=>rfl) (p:=λ_=>True) aV fF (x0:=hi0) rfl rfl trivial .i64 .i64 2 (by omega) (by omega) u NoB
     exact⟨u',x,r,hb,S.add hb (p:=ptO tHi aj x 2 2 (List.replicate 2 hi0)) o λb hb2=>hf b (cL.1 hb2)⟩
   have mkC:∀{ps:List Pt} {u:World},Sp w ps u->∃(u':World) (x:Option Addr),(Instr.makeSlice aj (vI ((d.n:Nat):Int)) (vI ((d.n:Nat):Int))).run prog u=.ok (.slice x d.n d.n) u'/\bW u u'/\Sp w (ptO bY aq x d.n d.n (nI (List.replicate d.n 0))::ps) u':=fun{ps u} S=>by
     obtain⟨u',x,r,o,hb,hf⟩:=qz (P:=prog) (e:=λn=>vI n) (h1:=λ_=>rfl) (p:=λ_=>True) aA dk (x0:=0) rfl rfl trivial .i64 .i64 d.n (by omega) (by omega) u NoB
     have e0:nI (List.replicate d.n 0)=List.replicate d.n (0:Int):=by simp[nI]
     exact⟨u',x,r,hb,S.add hb (p:=ptO bY aq x d.n d.n (nI (List.replicate d.n 0))) (by rw[e0];exact o) λb hb2=>hf b (cL.1 hb2)⟩
   have leaf:∀{u u2:World} {k:Nat} {xb xc xm:Option Addr},Sp w [ptO tHi aj xm 2 2 (List.replicate 2 hi0),ptO bY aq xc d.n d.n (nI (List.replicate d.n 0)),ptO tHi aj xb (d.n*d.K) (d.n*d.K) (List.replicate (d.n*d.K) hi0),ptA k1 ae (daL a n c b d.n e d)] u->
       k=u.heap.size->u2=u.alloc (.cells #[vI d.k,vI d.st,.slice a n c,.slice b d.n e,.slice xb (d.n*d.K) (d.n*d.K),.slice xc d.n d.n,.slice xm 2 2,.slice none 0 0] bg)->
       ∃(kS:Nat) (B C M:H3),(some ⟨k,0,none⟩:Option Addr)=some ⟨kS,0,none⟩/\B.n=d.n*d.K/\C.n=d.n/\M.n=2/\Sp w (pPs k1 kS (daL a n c b d.n e d) B C M (List.replicate 2 hi0) (List.replicate 2 hi0) (List.replicate d.n 0) (List.replicate (d.n*d.K) hi0)) u2:=fun{u u2 k xb xc xm} S hk hu=>by
     have S2:=S.add (hu▸af u _) (p:=ptA k bg (daL a n c b d.n e d++[.slice xb (d.n*d.K) (d.n*d.K),.slice xc d.n d.n,.slice xm 2 2,.slice none 0 0])) (show ai u2 k _ _ from ai.new hk hu) (fp1 (by omega))
     have S3:=(S2.add (Below.refl _ _) (p:=ptR aq (List.replicate 2 hi0)) (CR _ _ _) (λb hb=>by rw[show(ptR aq (List.replicate 2 hi0)).fp=[] from An 2]at hb;cases hb)).add (Below.refl _ _) (p:=ptR aq (List.replicate (d.n*d.K) hi0)) (CR _ _ _) (λb hb=>by rw[show(ptR aq (List.replicate (d.n*d.K) hi0)).fp=[] from An _]at hb;cases hb)
     refine⟨k,⟨xb,d.n*d.K,d.n*d.K⟩,⟨xc,d.n,d.n⟩,⟨xm,2,2⟩,rfl,rfl,rfl,rfl,S3.sub (λi=>[1,3,4,0,5,2,6].getD i 0) (λi q hq=>?_) λi j hi hj=>?_⟩
     · match i,hq with
       | 0,hq=>exact hq
       | 1,hq=>exact hq
       | 2,hq=>exact hq
       | 3,hq=>exact hq
       | 4,hq=>exact hq
       | 5,hq=>exact hq
       | 6,hq=>exact hq
       | i+7,hq=>simp at hq
     · have h7:∀i<7,∀j<7,[1,3,4,0,5,2,6].getD i 0=[1,3,4,0,5,2,6].getD j 0->i=j:=by decide
       exact h7 i hi j hj
   have p1:∀{x y:Pt} {l:List Pt},(y::x::l).Perm (x::y::l):=fun{x y l} =>List.Perm.swap _ _ _
   have p2:∀{z x y:Pt} {l:List Pt},(z::y::x::l).Perm (z::x::y::l):=fun{z x y l} =>List.Perm.cons _ (List.Perm.swap _ _ _)
   have hS:∀{u:World},Below w1.drew.heap.size w1.drew u->ai u k1 ae (daL a n c b d.n e d):=λhb=>(A1.below (aQ w1)).below hb
   refine⟨λu=>ai u k1 ae (daL a n c b d.n e d),A1.below (aQ w1),_,_,a,n,c,b,_,e,λu hu=>bh.load0 (cs:=daL a n c b d.n e d) hu rfl,rfl,((d.K:Nat):Int),λu hu=>by rw[hKK];exact ai.load1 aC rfl hu rfl,?_⟩
   rw[hmK]
   have al:∀{u u2:World} {o:Obj},ai u k1 ae (daL a n c b d.n e d)->u2=u.alloc o->ai u2 k1 ae (daL a n c b d.n e d):=λhA hu=>hA.below (hu▸af _ _)
   refine⟨?_,?_,?_⟩
   · obtain⟨u1,xb,r1,b1,T1⟩:=mkB S1d
     have A2:=hS b1
     refine⟨u1,xb,_,_,r1,A2,?_,?_⟩
     · obtain⟨u2,xc,r2,b2,T2⟩:=mkC T1
       have A3:=A2.below b2
       obtain⟨u3,xm,r3,b3,T3⟩:=mkM T2
       exact⟨u2,xc,_,_,r2,A3,u3,xm,_,_,r3,A3.below b3,λk u4 hk hu=>⟨al (A3.below b3) hu,leaf T3 hk hu⟩⟩
     · obtain⟨u2,xm,r2,b2,T2⟩:=mkM T1
       have A3:=A2.below b2
       obtain⟨u3,xc,r3,b3,T3⟩:=mkC T2
       exact⟨u2,xm,_,_,r2,A3,u3,xc,_,_,r3,A3.below b3,λk u4 hk hu=>⟨al (A3.below b3) hu,leaf (T3.perm p1) hk hu⟩⟩
   · obtain⟨u1,xc,r1,b1,T1⟩:=mkC S1d
     have A2:=hS b1
     refine⟨u1,xc,_,_,r1,A2,?_,?_⟩
     · obtain⟨u2,xb,r2,b2,T2⟩:=mkB T1
       have A3:=A2.below b2
       obtain⟨u3,xm,r3,b3,T3⟩:=mkM T2
       exact⟨u2,xb,_,_,r2,A3,u3,xm,_,_,r3,A3.below b3,λk u4 hk hu=>⟨al (A3.below b3) hu,leaf (T3.perm p2) hk hu⟩⟩
     · obtain⟨u2,xm,r2,b2,T2⟩:=mkM T1
       have A3:=A2.below b2
       obtain⟨u3,xb,r3,b3,T3⟩:=mkB T2
       exact⟨u2,xm,_,_,r2,A3,u3,xb,_,_,r3,A3.below b3,λk u4 hk hu=>⟨al (A3.below b3) hu,leaf (T3.perm (p1.trans p2)) hk hu⟩⟩
   · obtain⟨u1,xm,r1,b1,T1⟩:=mkM S1d
     have A2:=hS b1
     refine⟨u1,xm,_,_,r1,A2,?_,?_⟩
     · obtain⟨u2,xb,r2,b2,T2⟩:=mkB T1
       have A3:=A2.below b2
       obtain⟨u3,xc,r3,b3,T3⟩:=mkC T2
       exact⟨u2,xb,_,_,r2,A3,u3,xc,_,_,r3,A3.below b3,λk u4 hk hu=>⟨al (A3.below b3) hu,leaf (T3.perm (p2.trans p1)) hk hu⟩⟩
     · obtain⟨u2,xc,r2,b2,T2⟩:=mkC T1
       have A3:=A2.below b2
       obtain⟨u3,xb,r3,b3,T3⟩:=mkB T2
       exact⟨u2,xc,_,_,r2,A3,u3,xb,_,_,r3,A3.below b3,λk u4 hk hu=>⟨al (A3.below b3) hu,leaf (T3.perm (p1.trans (p2.trans p1))) hk hu⟩⟩
 clear S1 A1
 intro p4
 refine aL.of ?_ _
 rintro wj ⟨kS,B,C,M,rfl,hB,hC,hM,S0⟩
 have BK0:Ej d 0 0 (List.replicate (d.n*d.K) hi0):=⟨List.length_replicate,λi x hx=>by
   have:=List.mem_of_getElem? hx
   rw[(List.mem_replicate.1 this).2]
   unfold bkN gV
   rw[if_neg (Nat.not_lt_zero _)];rfl⟩
 refine⟨λmm i wl=>∃(f:Nat) (backs mems pool:List Hi),i=(f:Int)/\f <=d.n/\mm=d.n-f/\Ej d f 0 backs/\nX mems=[nI (rC d f false),nI (rC d f true)]/\pool.Perm mems/\Sp w (pPs k1 kS (daL a n c b d.n e d) B C M pool mems (pR d f) backs) wl,
   ⟨_,0,_,_,_,rfl,Nat.zero_le _,rfl,BK0,rfl,List.Perm.refl _,by rw[EL];exact S0⟩,?_⟩
 clear S0 BK0
 intro mm i
 refine aL.of ?_ _
 rintro wl ⟨f,backs,mems,pool,rfl,hf,rfl,BK,hmx,hpm,S⟩
 have acl:=(h.below S.bw).ac
 refine ah.of (λh1=>?_) (λh1=>?_) <;> simp only[dTx,dFx]at h1
 · have hfn:f<d.n:=by omega
   refine⟨rfl,((d.K:Nat):Int),by rw[hKK];exact ai.load1 aC rfl (S.at 6 rfl) rfl,?_⟩
   refine⟨λm1 xx wl=>∃(j:Nat) (backs:List Hi),xx=(j:Int)/\j <=d.K/\m1=d.K-j/\Ej d f j backs/\Sp w (pPs k1 kS (daL a n c b d.n e d) B C M pool mems (pR d f) backs) wl,⟨_,0,backs,rfl,Nat.zero_le _,rfl,BK,S⟩,?_⟩
   clear S BK acl backs
   intro m1 xx
   refine aL.of ?_ _
   rintro wl1 ⟨j,backs,rfl,hj,rfl,BK,S⟩
   refine ah.of (λh5=>?_) (λh5=>?_) <;> simp only[dTx,dFx]at h5
   · have hjK:j<d.K:=by omega
     have ia:=jL hfn hjK hN hK1.2
     obtain⟨va,va1,va2,va3,va4⟩:=hd.at hfn hjK
     have ga:f*d.K+j<d.nx.length:=bP va1
     have eto:d.nx[f*d.K+j]=((d.to f j:Nat):Int):=by
       rw[List.getElem?_eq_getElem ga]at va1
       rw[Option.some.inj va1,va4];omega
     have hto:d.to f j<d.n:=hd.to_lt hfn hjK
     have ib:=jL hto hjK hN hK1.2
     have kA:∀{u:World},bW wl1 u->ai u k1 ae (daL a n c b d.n e d):=λhb=>(S.below hb).at 6 rfl
     refine⟨rfl,a,n,c,λu hu=>(kA hu).load1 aA rfl rfl,rfl,((d.K:Nat):Int),λu hu=>by rw[hKK];exact(kA hu).load1 aC rfl rfl,?_⟩
     rw[ia.1]
     refine⟨⟨⟨by omega,by omega⟩,h.nx.isSome ga⟩,((d.to f j:Nat):Int),λu hu=>by rw[<- eto];exact(h.below (S.below hu).bw).nx.num aC ga,rfl,((d.K:Nat):Int),λu hu=>by rw[hKK];exact(kA hu).load1 aC rfl rfl,λwq hq=>?_⟩
     rw[ib.1]
     have Sd:=(S.below hq).below (aQ wq)
     have hib:d.to f j*d.K+j<backs.length:=by rw[BK.1];exact ib.2
     obtain⟨x,hx⟩:∃x,backs[d.to f j*d.K+j]? =some x:=⟨_,List.getElem?_eq_getElem hib⟩
     obtain⟨rest,pr,prs⟩:=yH hx
     have hxl:x.xs.length <=1000000:=by
       rw[BK.2 _ x hx,dq]
       have:=FK d (if(d.to f j*d.K+j)%d.K<j then f+1 else f) ((d.to f j*d.K+j)%d.K) ((d.to f j*d.K+j)/d.K)
       unfold bkN
       split at this <;> rename_i hc <;> simp only[hc] <;> simp only[if_true,if_false] <;> omega
     have OB:Ow tHi aj wq.drew NoB B.a B.n B.c backs:=Sd.at 4 rfl
     refine⟨λu=>Chg (tA backs) wq.drew u,Chg.refl _ _,rfl,rfl,B.a,B.n,B.c,λu hu=>ai.load1 aV rfl (Sd.oth 3 rfl hu 5 rfl (by decide)) rfl,rfl,rfl,B.a,B.n,B.c,λu hu=>ai.load1 aV rfl (Sd.oth 3 rfl hu 5 rfl (by decide)) rfl,⟨⟨by omega,by omega⟩,OB.all.isSome hib⟩,x.a,x.n,x.c,λu hu=>?_,?_⟩
     · have O:Ow tHi aj u NoB B.a B.n B.c backs:=Sd.oth 3 rfl hu 4 rfl (by decide)
       exact O.all.hd aA hx
     intro k59 w59 hk59 hw59
     obtain⟨c59,w60,x',r60,c60,ex,wx,qx,S2⟩:=Ae Sd 3 4 rfl rfl (by decide) hx pr hk59 hw59 hxl
     have S3:=(S2.upd 3 rfl (Chg.refl _ _) (p':=ptR aq (backs.set (d.to f j*d.K+j) x')) (Rws.perm (S2.at 3 rfl) (prs x').symm) λb hb=>.inl ((lF (prs x')).1 hb))
     exact⟨c59,w60,x'.a,x'.n,x'.c,r60,c60,⟨⟨by omega,by omega⟩,OB.all.isSome hib⟩,wx,qx,d.K-(j+1),by omega,j+1,_,by rw[ar (by omega) (by omega)];omega,hjK,rfl,BK.push hjK hx ex,S3⟩
   · have:j=d.K:=by omega
     subst this
     have BK2:=BK.row (by omega)
     have hfa:f<d.ac.length:=hfn
     have hacg:=xP hfa
     refine⟨λu=>Sp w (pPs k1 kS (daL a n c b d.n e d) B C M pool mems (pR d (f+1)) backs) u,?_,aL.of ?_ _⟩
     · have hat:=(h.below S.bw).ac.tru (P:=prog) dl hfa
       rw[hacg]at hat
       refine⟨rfl,b,_,e,ai.load1 aS rfl (S.at 6 rfl) rfl,⟨⟨by omega,by omega⟩,h.ac.isSome hfa⟩,_,hat,ah.of (λht=>?_) (λht=>?_)⟩
       · have OC:Ow bY aq wl1 NoB C.a C.n C.c (nI (pR d f)):=S.at 2 rfl
         have hcl:f<(nI (pR d f)).length:=by rw[dq,gN];exact hfn
         obtain⟨wx,q,o,g⟩:=Ow.store (k:=1) dk OC (λ_ _ h=>h) (i:=(f:Int)) (by simpa using hcl) rfl (v:=vI 1) (x:=1) ⟨rfl,trivial⟩
         refine⟨rfl,rfl,C.a,C.n,C.c,ai.load1 aA rfl (S.at 5 rfl) rfl,⟨⟨by omega,by omega⟩,OC.all.isSome hcl⟩,wx,q,?_⟩
         have ec:(nI (pR d f)).set (f:Int).toNat 1=nI (pR d (f+1)):=by
           rw[zu hfn,if_pos ht,Int.toNat_natCast]
           unfold nI
           rw[List.map_set];rfl
         rw[ec]at o
         exact S.upd 2 rfl (Chg.row g) (p':=ptO bY aq C.a C.n C.c (nI (pR d (f+1)))) o λb hb=>.inl hb
       · rw[zu hfn,if_neg (by rw[ht];decide)]
         exact S
     intro wj1 S1
     have Sd:=S1.below (aQ wj1)
     have hcg:cf (pR d (f+1)) f=tj d f:=by rw[Co hfn,if_pos (Nat.lt_succ_self f)]
     have hml:mems.length=2:=by have:=congrArg List.length hmx;simpa[nX]using this
     have ha2:tj d f<mems.length:=by rw[hml];unfold tj;split <;> omega
     obtain⟨x,hx⟩:∃x,mems[tj d f]? =some x:=⟨_,List.getElem?_eq_getElem ha2⟩
     have hxx:x.xs=nI (rC d f (d.acc f)):=by
       have:(nX mems)[tj d f]? =some x.xs:=by unfold nX;rw[List.getElem?_map,hx];rfl
       rw[hmx]at this
       unfold tj at this
       cases hac:d.acc f <;> rw[hac]at this <;> exact(Option.some.inj this).symm
     obtain⟨rest,pr,prs⟩:=yH hx
     have OM:Ow tHi aj wj1.drew NoB M.a M.n M.c mems:=Sd.at 1 rfl
     have OC:Ow bY aq wj1.drew NoB C.a C.n C.c (nI (pR d (f+1))):=Sd.at 2 rfl
     have hcl:f<(pR d (f+1)).length:=by rw[gN];exact hfn
     have isC:Option.isSome C.a=true:=OC.all.isSome (i:=f) (by rw[dq];exact hcl)
     have isM:Option.isSome M.a=true:=OM.all.isSome ha2
     have ldC:∀u,Chg (tA pool) wj1.drew u->(Instr.loadAt aq (.pointer (ak C.a ((f:Nat):Int) 1))).run prog u=.ok (vI ((tj d f:Nat):Int)) u:=λu hu=>by
       have O:Ow bY aq u NoB C.a C.n C.c (nI (pR d (f+1))):=Sd.oth 0 rfl hu 2 rfl (by decide)
       have:=O.all.cls (P:=prog) aC hcl
       rwa [hcg]at this
     have ldV:∀u,Chg (tA pool) wj1.drew u->ai u kS bg (daL a n c b d.n e d++[B.v,C.v,M.v,.slice none 0 0]):=λu hu=>Sd.oth 0 rfl hu 5 rfl (by decide)
     refine⟨λu=>Chg (tA pool) wj1.drew u,Chg.refl _ _,rfl,rfl,M.a,M.n,M.c,λu hu=>(ldV u hu).load1 aV rfl rfl,rfl,rfl,C.a,C.n,C.c,λu hu=>(ldV u hu).load1 aA rfl rfl,⟨⟨by omega,by omega⟩,isC⟩,_,ldC,?_⟩
     refine⟨rfl,rfl,M.a,M.n,M.c,λu hu=>(ldV u hu).load1 aV rfl rfl,rfl,rfl,C.a,C.n,C.c,λu hu=>(ldV u hu).load1 aA rfl rfl,⟨⟨by omega,by omega⟩,isC⟩,_,ldC,⟨⟨by omega,by omega⟩,isM⟩,x.a,x.n,x.c,λu hu=>?_,?_⟩
     · have O:Ow tHi aj u NoB M.a M.n M.c mems:=Sd.oth 0 rfl hu 1 rfl (by decide)
       exact O.all.hd aA hx
     intro k99 w99 hk99 hw99
     have hxl:x.xs.length <=1000000:=by
       rw[hxx,dq]
       have:=yC d f (d.acc f)
       omega
     obtain⟨c99,w100,x',r100,c100,ex,wx,qx,S2⟩:=Ae Sd 0 1 rfl rfl (by decide) hx (hpm.trans pr) hk99 hw99 hxl
     refine⟨c99,w100,x'.a,x'.n,x'.c,r100,c100,⟨⟨by omega,by omega⟩,isM⟩,wx,qx,d.n-(f+1),by omega,f+1,backs,mems.set (tj d f) x',x'::rest,by rw[ar (by omega) (by omega)];omega,hfn,rfl,BK2,?_,(prs x').symm,S2⟩
     unfold nX at hmx ⊢
     rw[List.map_set,hmx,ex,hxx,zX,zX]
     unfold tj
     cases d.acc f <;> simp[nI]
 · have:f=d.n:=by omega
   subst this
   have hml:mems.length=2:=by have:=congrArg List.length hmx;simpa[nX]using this
   obtain⟨g0,g1,rfl⟩:∃g0 g1,mems=[g0,g1]:=by
     match mems,hml with
     | [g0,g1],_=>exact⟨g0,g1,rfl⟩
   simp only[nX,List.map_cons,List.map_nil,List.cons.injEq,and_true]at hmx
   have Sd:=S.below (aQ wl)
   have OM:Ow tHi aj wl.drew NoB M.a M.n M.c [g0,g1]:=Sd.at 1 rfl
   have ldV:∀{u:World},Below wl.drew.heap.size wl.drew u->ai u kS bg (daL a n c b d.n e d++[B.v,C.v,M.v,.slice none 0 0]):=λhu=>(Sd.below hu).at 5 rfl
   have RG:Rws aq wl.drew [g0,g1]:=Rws.perm (Sd.at 0 rfl) hpm
   have l0:g0.xs.length <=1000000:=by rw[hmx.1,dq];have:=yC d d.n false;omega
   have l1:g1.xs.length <=1000000:=by rw[hmx.2,dq];have:=yC d d.n true;omega
   refine⟨λu=>Below wl.drew.heap.size wl.drew u,Below.refl _ _,rfl,rfl,M.a,M.n,M.c,λu hu=>(ldV hu).load1 aV rfl rfl,⟨⟨by omega,by omega⟩,OM.all.isSome (i:=0) (show 0<2 by decide)⟩,g0.a,g0.n,g0.c,λu hu=>(OM.below hu).all.hd aA (i:=0) rfl,rfl,rfl,M.a,M.n,M.c,λu hu=>(ldV hu).load1 aV rfl rfl,⟨⟨by omega,by omega⟩,OM.all.isSome (i:=1) (show 1<2 by decide)⟩,g1.a,g1.n,g1.c,λu hu=>(OM.below hu).all.hd aA (i:=1) rfl,?_⟩
   refine aw (tp (RG.own g0 (by simp)).all l0) ?_
   rintro _ w110 ⟨a2,n2,c2,rfl,o2,f2,b2⟩
   refine⟨a2,n2,c2,rfl,b2,?_⟩
   refine aw (tp ((RG.own g1 (by simp)).below b2).all l1) ?_
   rintro _ w117 ⟨a3,n3,c3,rfl,o3,f3,b3⟩
   have b23:=ab b2 b3 b2.size
   refine⟨a3,n3,c3,rfl,b23,?_⟩
   intro k118 w118 hk118 hw118
   have b4:=(hw118▸af w117 _:bW w117 w118)
   have R0:Rws aq wl.drew pool:=Sd.at 0 rfl
   have R1:Rws aq w110 (⟨a2,n2,c2,g0.xs⟩::pool):=R0.add (h':=⟨a2,n2,c2,g0.xs⟩) b2 o2 f2
   have R2:Rws aq w117 (⟨a3,n3,c3,g1.xs⟩::⟨a2,n2,c2,g0.xs⟩::pool):=R1.add (h':=⟨a3,n3,c3,g1.xs⟩) b3 o3 f3
   have S2:=Sd.upd 0 rfl (Chg.of b23) (p':=ptR aq (⟨a3,n3,c3,g1.xs⟩::⟨a2,n2,c2,g0.xs⟩::pool)) R2 λb hb=>by
     rcases d9.1 hb with e|hb
     · have:=f3 b e;have:=b2.size;exact .inr (by omega)
     · rcases d9.1 hb with e|hb
       · exact .inr (f2 b e)
       · exact .inl hb
   have OT:Ow tHi aj w118 NoB (some ⟨k118,0,none⟩) 2 2 [⟨a2,n2,c2,g0.xs⟩,⟨a3,n3,c3,g1.xs⟩]:=Ow.newF (l:=[.slice a2 n2 c2,.slice a3 n3 c3]) tr hk118 hw118 ((gr.one (T:=tHi) (x:=⟨a2,n2,c2,g0.xs⟩) ⟨rfl,trivial⟩).append (gr.one (T:=tHi) (x:=⟨a3,n3,c3,g1.xs⟩) ⟨rfl,trivial⟩)) (show 2 <=maxLen by decide)
   have S3:=S2.add b4 (p:=ptO tHi aj (some ⟨k118,0,none⟩) 2 2 [⟨a2,n2,c2,g0.xs⟩,⟨a3,n3,c3,g1.xs⟩]) OT (λb hb=>by have hb2:b∈(bi (some (⟨k118,0,none⟩:Addr))).toList:=hb;simp[bi]at hb2;omega)
   obtain⟨wx,q,S4,g4⟩:=S3.put kF 6 rfl (i:=7) (v:=.slice (some ⟨k118,0,none⟩) 2 2) rfl rfl (show 7<8 by decide)
   refine⟨ab b23 b4 b23.size,rfl,rfl,wx,q,kS,B,C,M,⟨some ⟨k118,0,none⟩,2,2⟩,(⟨a3,n3,c3,g1.xs⟩::⟨a2,n2,c2,g0.xs⟩::pool),[g0,g1],[⟨a2,n2,c2,g0.xs⟩,⟨a3,n3,c3,g1.xs⟩],backs,rfl,BK,?_,?_,?_,S4.sub (λi=>[1,2,0,3,4,5,6].getD i 0) (λi q hq=>?_) λi j hi hj=>?_⟩
   · simp[nX,hmx]
   · simp[nX,hmx]
   · refine((List.Perm.swap _ _ _).trans ?_)
     refine(List.Perm.cons _ (List.Perm.cons _ hpm)).trans ?_
     exact List.perm_append_comm (l₁:=[⟨a2,n2,c2,g0.xs⟩,⟨a3,n3,c3,g1.xs⟩]) (l₂:=[g0,g1])
   · match i,hq with
     | 0,hq=>exact hq
     | 1,hq=>exact hq
     | 2,hq=>exact hq
     | 3,hq=>exact hq
     | 4,hq=>exact hq
     | 5,hq=>exact hq
     | 6,hq=>exact hq
     | i+7,hq=>simp at hq
   · have h7:∀i<7,∀j<7,[1,2,0,3,4,5,6].getD i 0=[1,2,0,3,4,5,6].getD j 0->i=j:=by decide
     exact h7 i hi j hj
theorem xa {α β:Type}[DecidableEq α]{k:α} :∀{l:List (α×β)},gp k l=none->∀p∈l,p.1≠k
 | [],_,p,hp=>by cases hp
 | (x,y)::l,h,p,hp=>by
   unfold gp at h
   by_cases e:k=x
   · rw[if_pos e]at h;cases h
   · rw[if_neg e]at h
     rcases List.mem_cons.1 hp with rfl|hp
     · exact λe2=>e e2.symm
     · exact xa h p hp
theorem vD {α β:Type}[DecidableEq α](k:α)(l:List (α×β)):(gp k l=none/\∀v,upG k v l=l++[(k,v)])\/∃h l1 l2,l=l1++(k,h)::l2/\gp k l=some h/\∀v,upG k v l=l1++(k,v)::l2:=by
 have h2:=rA k l 0
 unfold upG
 cases hl:i6 k l 0 with
 | none=>rw[hl]at h2;exact .inl ⟨h2.symm,λ_=>rfl⟩
 | some p=>
   obtain⟨i,h⟩:=p
   rw[hl]at h2
   have h3:=(uA k l 0 i h hl).2
   rw[Nat.sub_zero]at h3
   obtain⟨hlt,e⟩:=List.getElem?_eq_some_iff.1 h3
   refine .inr ⟨h,l.take i,l.drop (i+1),?_,h2.symm,λv=>?_⟩
   · conv=>lhs;rw[<- List.take_append_drop i l,List.drop_eq_getElem_cons hlt,e]
   · show l.set i (k,v)=_
     rw[List.set_eq_take_append_cons_drop,if_pos hlt]
structure Gs (c0:Nat->Nat)(P:List Nat)(kvs:List (Nat×Hi)):Prop where
 keys:(kvs.map (·.1)).Nodup
 val:∀p∈kvs,p.2.xs=nI (P.filter λs=>decide (c0 s=p.1))/\∃s∈P,c0 s=p.1
 all:∀s∈P,∃p∈kvs,p.1=c0 s
theorem Gs.nil (c0:Nat->Nat):Gs c0 [] []:=⟨List.nodup_nil,λp hp=>(by cases hp),λs hs=>(by cases hs)⟩
theorem ni {c0:Nat->Nat}{P:List Nat}{s k:Nat} :(P++[s]).filter (λs=>decide (c0 s=k))=P.filter (λs=>decide (c0 s=k))++(if c0 s=k then[s]else[]):=by
 rw[List.filter_append]
 congr 1
 by_cases h:c0 s=k <;> simp[h]
theorem Gs.add {c0:Nat->Nat}{P:List Nat}{kvs:List (Nat×Hi)}(h:Gs c0 P kvs){s:Nat}{h':Hi}(hx:h'.xs=((gp (c0 s) kvs).getD hi0).xs++[((s:Nat):Int)]):Gs c0 (P++[s]) (upG (c0 s) h' kvs):=by
 have old:∀p∈kvs,p.1≠c0 s->p.2.xs=nI ((P++[s]).filter λs=>decide (c0 s=p.1))/\∃t∈P++[s],c0 t=p.1:=λp hp hne=>by
   obtain⟨h1,t,ht,e⟩:=h.val p hp
   rw[ni,if_neg (λe2=>hne e2.symm),List.append_nil]
   exact⟨h1,t,List.mem_append_left _ ht,e⟩
 rcases vD (c0 s) kvs with⟨h1,h2⟩|⟨g,l1,l2,h1,h2,h3⟩
 · have hno:=xa h1
   have hP:P.filter (λt=>decide (c0 t=c0 s))=[]:=by
     rw[List.filter_eq_nil_iff]
     intro t ht
     rw[dTx]
     intro e
     obtain⟨p,hp,e2⟩:=h.all t ht
     exact hno p hp (by rw[e2,e])
   rw[h2]
   refine⟨?_,λp hp=>?_,λt ht=>?_⟩
   · rw[List.map_append,List.nodup_append]
     refine⟨h.keys,by simp,λx hx y hy e=>?_⟩
     simp only[List.map_cons,List.map_nil,List.mem_singleton]at hy
     obtain⟨p,hp,rfl⟩:=List.mem_map.1 hx
     exact hno p hp (by rw[e,hy])
   · rcases List.mem_append.1 hp with hp|hp
     · exact old p hp (hno p hp)
     · rw[List.mem_singleton]at hp
       subst hp
       refine⟨?_,s,by simp,rfl⟩
       show h'.xs=_
       rw[hx,h1,ni,if_pos rfl,hP];rfl
   · rcases List.mem_append.1 ht with ht|ht
     · obtain⟨p,hp,e⟩:=h.all t ht
       exact⟨p,List.mem_append_left _ hp,e⟩
     · rw[List.mem_singleton]at ht
       subst ht
       exact⟨(c0 t,h'),by simp,rfl⟩
 · have hk:=h.keys
   rw[h1,List.map_append,List.map_cons,List.nodup_append,List.nodup_cons]at hk
   obtain⟨k1,⟨k2,k3⟩,k4⟩:=hk
   have hm:(c0 s,g)∈kvs:=by rw[h1];simp
   have hne1:∀p∈l1,p.1≠c0 s:=λp hp=>k4 p.1 (List.mem_map.2 ⟨p,hp,rfl⟩) (c0 s) List.mem_cons_self
   have hne2:∀p∈l2,p.1≠c0 s:=λp hp e=>k2 (List.mem_map.2 ⟨p,hp,e⟩)
   rw[h3]
   refine⟨?_,λp hp=>?_,λt ht=>?_⟩
   · have:=h.keys
     rw[h1,List.map_append,List.map_cons]at this
     rw[List.map_append,List.map_cons];exact this
   · rcases List.mem_append.1 hp with hp|hp
     · exact old p (by rw[h1];exact List.mem_append_left _ hp) (hne1 p hp)
     · rcases List.mem_cons.1 hp with rfl|hp
       · refine⟨?_,s,by simp,rfl⟩
         show h'.xs=_
         rw[hx,h2,ni,if_pos rfl]
         show g.xs++_=_
         rw[(h.val _ hm).1];simp[nI]
       · exact old p (by rw[h1];exact List.mem_append_right _ (List.mem_cons_of_mem _ hp)) (hne2 p hp)
   · rcases List.mem_append.1 ht with ht|ht
     · obtain⟨p,hp,e⟩:=h.all t ht
       rw[h1]at hp
       rcases List.mem_append.1 hp with hp|hp
       · exact⟨p,List.mem_append_left _ hp,e⟩
       · rcases List.mem_cons.1 hp with rfl|hp
         · exact⟨(c0 s,h'),by simp,e⟩
         · exact⟨p,List.mem_append_right _ (List.mem_cons_of_mem _ hp),e⟩
     · rw[List.mem_singleton]at ht
       subst ht
       exact⟨(c0 t,h'),by simp,rfl⟩
def unI (l:List Int):List Nat:=l.map Int.toNat
theorem Gf (l:List Nat):unI (nI l)=l:=by
 unfold unI nI
 rw[List.map_map]
 conv=>rhs;rw[<- List.map_id l]
 exact List.map_congr_left λx _=>Int.toNat_natCast x
def unH (kvs:List (Nat×Hi)):List (Nat×List Nat):=kvs.map λp=>(p.1,unI p.2.xs)
def li (d:DA)(S:List Nat)(x:Nat):List Nat:=S.flatMap λt=>gV d d.n x t
theorem lw {d:DA}{S:List Nat}{x s:Nat} :s∈li d S x ↔ s<d.n/\d.to s x∈S:=by
 unfold li
 rw[List.mem_flatMap]
 constructor
 · rintro⟨t,ht,h⟩
   obtain⟨h1,rfl⟩:=qC.1 h
   exact⟨h1,ht⟩
 · rintro⟨h1,h2⟩
   exact⟨_,h2,qC.2 ⟨h1,rfl⟩⟩
theorem pt {d:DA}{x:Nat} :∀{S:List Nat},S.Nodup->(li d S x).Nodup
 | [],_=>List.nodup_nil
 | t::S,h=>by
   obtain⟨h1,h2⟩:=List.nodup_cons.1 h
   show(gV d d.n x t++li d S x).Nodup
   rw[List.nodup_append]
   refine⟨BE d _ _ _,pt h2,λa ha b hb e=>?_⟩
   subst e
   obtain⟨_,rfl⟩:=qC.1 ha
   exact h1 (lw.1 hb).2
theorem Gs.hit {d:DA}{c0:Nat->Nat}{S:List Nat}{x:Nat}{kvs:List (Nat×Hi)}(h:Gs c0 (li d S x) kvs)(hS:S.Nodup):Hit d c0 S x (unH kvs) where
 keys:=by
   have:=h.keys
   unfold unH
   rw[List.map_map];exact this
 lists:=λp hp=>by
   obtain⟨q,hq,rfl⟩:=List.mem_map.1 hp
   obtain⟨h1,s,hs,e⟩:=h.val q hq
   show(unI q.2.xs).Nodup/\unI q.2.xs≠[]/\∀s,s∈unI q.2.xs ↔ s<d.n/\c0 s=q.1/\d.to s x∈S
   rw[h1,Gf]
   refine⟨(pt hS).filter _,λh0=>?_,λt=>?_⟩
   · have:s∈(li d S x).filter λs=>decide (c0 s=q.1):=List.mem_filter.2 ⟨hs,by simpa using e⟩
     rw[h0]at this;cases this
   · rw[List.mem_filter,lw,dTx]
     constructor
     · rintro⟨⟨h3,h4⟩,h5⟩;exact⟨h3,h5,h4⟩
     · rintro⟨h3,h5,h4⟩;exact⟨⟨h3,h4⟩,h5⟩
 all:=λs hs hm=>by
   obtain⟨p,hp,e⟩:=h.all s (lw.2 ⟨hs,hm⟩)
   exact⟨(p.1,unI p.2.xs),List.mem_map.2 ⟨p,hp,rfl⟩,e⟩
theorem DK {l m:List Nat}(hl:l.Nodup)(hs:∀x∈l,x∈m)(he:m.length <=l.length):∀x∈m,x∈l:=λx hx=>Classical.byContradiction λhn=>by
 have:=lx (l:=x::l) (m:=m) (List.nodup_cons.2 ⟨hn,hl⟩) λy hy=>by
   rcases List.mem_cons.1 hy with rfl|hy
   · exact hx
   · exact hs y hy
 rw[List.length_cons]at this
 omega
def ptI {α β:Type}[DecidableEq α](ek:α->Value)(ev:β->Value)(r m:Nat)(kvs left:List (α×β)):Pt where
 fp:=[r,m]
 P:=λw=>iU ek ev w r m kvs left
 st:=λh hk=>h.keep (hk.block r h.lt (by simp)) (hk.block m h.map.lt (by simp))
 lt:=λh b hb=>by
   rcases List.mem_cons.1 hb with rfl|hb
   · exact h.lt
   · rw[List.mem_singleton]at hb;subst hb;exact h.map.lt
theorem FJ {w0 w:World}{ps:List Pt}(S:Sp w0 ps w)(iR:Nat){pool rest:List Hi}(hR:ps[iR]? =some (ptR aq pool)){h:Hi}(hp:pool.Perm (h::rest)){k1:Nat}{w1:World}{x:Int}(hk:k1=w.heap.size)(hw:w1=w.alloc (.cells #[vI x] aq))(hb:h.xs.length <=1000000):
   ∃(w2:World) (h':Hi),(Builtin.append_ #[aj,aj] aj #[h.v,.slice (some ⟨k1,0,none⟩) 1 1]).run prog w1=.ok h'.v w2/\h'.xs=h.xs++[x]/\Sp w0 (ps.set iR (ptR aq (h'::rest))) w2:=by
 have R:Rws aq w (h::rest):=Rws.perm (S.at iR hR) hp
 have inP:∀b∈(bi h.a).toList,b∈tA pool:=λb hb=>(lF hp).2 (d9.2 (.inl (cL.1 hb)))
 obtain⟨c1,w2,a2,n2,c2,r2,o2,g2,f2⟩:=DQ (ty:=aj) dF aA dk (by decide) (R.own h List.mem_cons_self) hk (vs:=[vI x]) hw (x:=x) cS (cm:=1) (by omega)
 have R2:Rws aq w2 (⟨a2,n2,c2,h.xs++[x]⟩::rest):=R.upd (h':=⟨a2,n2,c2,h.xs++[x]⟩) g2 o2 f2
 exact⟨w2,⟨a2,n2,c2,h.xs++[x]⟩,r2,rfl,S.upd iR hR (g2.mono inP) (p':=ptR aq (⟨a2,n2,c2,h.xs++[x]⟩::rest)) R2 λb hb=>by
   rcases d9.1 hb with e|e
   · rcases f2 b e with e2|e2
     · exact .inl (inP b (cL.2 e2))
     · exact .inr e2
   · exact .inl ((lF hp).2 (d9.2 (.inr e)))⟩
theorem GS {u:World}{k3 kS k14:Nat}{cells:List Value}{C:H3}{cl:List Nat}{next s:Nat}(h3:ai u k3 aB [.pointer (some ⟨kS,0,none⟩)])(hS:ai u kS bg cells)(h5:cells[5]? =some C.v)
   (hC:Ow bY aq u NoB C.a C.n C.c (nI cl)) (h14:ai u k14 aq [vI ((next:Nat):Int)]) (hs:s<cl.length):
   Cf aR #[vI ((s:Nat):Int),.pointer (some ⟨k3,0,none⟩),.pointer (some ⟨k14,0,none⟩)] u (Ret λv w'=>v=.bool (((cf cl s:Nat):Int)==((next:Nat):Int))/\bW u w'):=by
 apply nB
 have hn:C.n=cl.length:=by rw[hC.len,dq]
 exact⟨_,λv hv=>(h3.below hv).load1 be rfl rfl,rfl,rfl,C.a,C.n,C.c,λv hv=>(hS.below hv).load1 aA rfl h5,⟨⟨by omega,by omega⟩,hC.all.isSome (i:=s) (by rw[dq];exact hs)⟩,_,λv hv=>(hC.below hv).all.cls aC hs,_,λv hv=>(h14.below hv).load1 aC rfl rfl,λwq hq=>⟨rfl,hq⟩⟩
theorem EN {d:DA}{x:Nat}{S:List Nat}(h:S.Nodup):(li d S x).length <=d.n:=kC (pt h) λs hs=>(lw.1 hs).1
theorem zx (d:DA)(x:Nat)(S U:List Nat):li d (S++U) x=li d S x++li d U x:=List.flatMap_append
theorem EM {d:DA}{x j:Nat}{S:List Nat}(hj:j<S.length):li d S x=li d (S.take j) x++(gV d d.n x S[j]++li d (S.drop (j+1)) x):=by
 conv=>lhs;rw[<- List.take_append_drop j S,List.drop_eq_getElem_cons hj,zx]
 rfl
theorem Di {d:DA}{x j:Nat}{S:List Nat}(hj:j<S.length):li d (S.take (j+1)) x=li d (S.take j) x++gV d d.n x S[j]:=by
 rw[List.take_succ_eq_append_getElem hj,zx]
 congr 1
 show gV d d.n x S[j]++[]=_
 rw[List.append_nil]
theorem BJ (cl:List Nat)(c:Nat)(l:List Nat)(s:Nat):dj cl c (l++[s])=(dj cl c l).set s c:=by
 unfold dj
 rw[List.foldl_append];rfl
structure ByS (d:DA)(c0:Nat->Nat)(S:List Nat)(x:Nat)(left:List (Nat×Hi))(m0 t0:Nat)(cl:List Nat)(mem todo:List (List Nat))(mems tods:List Hi):Prop where
 inv:CZ d c0 S x (unH left) cl mem (todo++[S])
 nm:nX mems=mem.map nI
 nt:nX tods=todo.map nI
 full:GC d cl mem.length
 grow:∃k,mem.length=m0+k/\todo.length=t0+2*k
 gd:∀U∈todo,U.Nodup/\∀t∈U,t<d.n
theorem ByS.len {d:DA}{c0:Nat->Nat}{S:List Nat}{x:Nat}{left:List (Nat×Hi)}{m0 t0:Nat}{cl:List Nat}{mem todo:List (List Nat)}{mems tods:List Hi}(h:ByS d c0 S x left m0 t0 cl mem todo mems tods):mems.length=mem.length/\tods.length=todo.length:=by
 have h1:=congrArg List.length h.nm
 have h2:=congrArg List.length h.nt
 simp only[nX,List.length_map]at h1 h2
 exact⟨h1,h2⟩
theorem J8 {hs:List Hi}{mem:List (List Nat)}(h:nX hs=mem.map nI){c:Nat}{x:Hi}(hx:hs[c]? =some x):∃m,mem[c]? =some m/\x.xs=nI m:=by
 have h1:(nX hs)[c]? =some x.xs:=by unfold nX;rw[List.getElem?_map,hx];rfl
 rw[h,List.getElem?_map]at h1
 cases hm:mem[c]? with
 | none=>rw[hm]at h1;cases h1
 | some m=>rw[hm]at h1;exact⟨m,rfl,(Option.some.inj h1).symm⟩
theorem FB (m:List Nat)(p:Int->Bool)(q:Nat->Bool)(h:∀s∈m,p ((s:Nat):Int)=q s):(nI m).filter p=nI (m.filter q):=by
 unfold nI
 rw[List.filter_map]
 congr 1
 exact List.filter_congr λs hs=>h s hs
theorem Ge {l1 l2:List (Nat×Hi)}{k:Nat}{h:Hi}(hn:((l1++(k,h)::l2).map (·.1)).Nodup)(q:Nat×List Nat):q∈unH (l1++l2) ↔ q∈unH (l1++(k,h)::l2)/\q.1≠k:=by
 rw[List.map_append,List.map_cons,List.nodup_append,List.nodup_cons]at hn
 obtain⟨_,⟨k2,_⟩,k4⟩:=hn
 unfold unH
 constructor
 · intro hq
   obtain⟨p,hp,rfl⟩:=List.mem_map.1 hq
   refine⟨List.mem_map.2 ⟨p,?_,rfl⟩,λe=>?_⟩
   · rcases List.mem_append.1 hp with hp|hp
     · exact List.mem_append_left _ hp
     · exact List.mem_append_right _ (List.mem_cons_of_mem _ hp)
   · rcases List.mem_append.1 hp with hp|hp
     · exact k4 p.1 (List.mem_map.2 ⟨p,hp,rfl⟩) k List.mem_cons_self e
     · exact k2 (by rw[<- e];exact List.mem_map.2 ⟨p,hp,rfl⟩)
 · rintro⟨hq,hne⟩
   obtain⟨p,hp,rfl⟩:=List.mem_map.1 hq
   refine List.mem_map.2 ⟨p,?_,rfl⟩
   rcases List.mem_append.1 hp with hp|hp
   · exact List.mem_append_left _ hp
   · rcases List.mem_cons.1 hp with rfl|hp
     · exact absurd rfl hne
     · exact List.mem_append_right _ hp
def JC (w0:World)(d:DA)(vs:List Value)(kS:Nat)(B C:H3)(backs:List Hi)(c0:Nat->Nat)(S:List Nat)(x:Nat)(g:Hi)(m0 t0:Nat)(v:Value)(w':World):Prop:=
 v=.tuple #[]/\∃(M T:H3) (pool mems tods rest:List Hi) (cl:List Nat) (mem todo:List (List Nat)),Sp w0 (sPs kS vs B C M T pool mems tods cl backs) w'/\pool.Perm (mems++(tods++(g::rest)))/\ByS d c0 S x [] m0 t0 cl mem todo mems tods
set_option maxHeartbeats 4000000 in
theorem KK {w0 w:World}{kS:Nat}{a b:Option Addr}{n c m e:Nat}{d:DA}(hd:d.Ok){B C M T:H3}{pool mems tods rest backs:List Hi}{cl:List Nat}{mem todo:List (List Nat)}{g:Hi}{S:List Nat}{x:Nat}
   (S0:Sp w0 (sPs kS (daL a n c b m e d) B C M T pool mems tods cl backs) w) (BK:Ej d d.n 0 backs) (SI:Eb d cl mem) (AP:pU d (cf cl) (todo++[S])) (FU:GC d cl mem.length) (nm:nX mems=mem.map nI) (nt:nX tods=todo.map nI)
   (hp:pool.Perm (mems++(tods++(g::rest)))) (hg:g.xs=nI S) (hS:S.Nodup) (hSn:∀t∈S,t<d.n) (hx:x<d.K) (hT:todo.length <=400000) (hgd:∀U∈todo,U.Nodup/\∀t∈U,t<d.n):
   Cf je #[.pointer (some ⟨kS,0,none⟩),g.v,vI ((x:Nat):Int)] w (Ret (JC w0 d (daL a n c b m e d) kS B C backs (cf cl) S x g mem.length todo.length)):=by
 apply qJ
 have hN:d.n <=65536:=hd.n2
 have hKK:=hd.kk
 have hK2:d.K <=512:=by have:=hd.k2;show d.k.toNat <=512;omega
 intro k3 w3 hk3 hw3 k17 w17 hk17 hw17
 have S3:=S0.add (hw3▸af w _) (p:=ptA k3 aB [.pointer (some ⟨kS,0,none⟩)]) (show ai w3 k3 _ _ from ai.new hk3 hw3) (fp1 (by omega))
 have S17:=S3.add (hw17▸af w3 _) (p:=ptM (ekN .i64) Hi.v k17 []) (pn.new hk17 hw17) (fp1 (by omega))
 have gSl:∀{u:World} {pl:List Hi},Rws aq u pl->g∈pl->Sl bY u jD g.a g.n g.c (nI S):=fun{u pl} R hm=>by rw[<- hg];exact(R.own g hm).all
 have hgm:g∈pool:=hp.symm.subset (by simp)
 have hgn:g.n=S.length:=by rw[(gSl (S0.at 0 rfl) hgm).len,dq]
 have hSl:S.length <=d.n:=kC hS hSn
 have hbn:B.n=d.n*d.K:=by
   have O:Ow tHi aj w NoB B.a B.n B.c backs:=S0.at 5 rfl
   rw[O.len,BK.1]
 have hcn:C.n=d.n:=by
   have O:Ow bY aq w NoB C.a C.n C.c (nI cl):=S0.at 3 rfl
   rw[O.len,dq,SI.len]
 have hcll:cl.length=d.n:=SI.len
 refine⟨λmm i wl=>∃(j:Nat) (kvs:List (Nat×Hi)) (pool:List Hi),i=(j:Int)/\j <=S.length/\mm=S.length-j/\Gs (cf cl) (li d (S.take j) x) kvs/\pool.Perm (mems++(tods++(g::(kvs.map (·.2)++rest))))/\
     Sp w0 (ptM (ekN .i64) Hi.v k17 kvs::ptA k3 aB [.pointer (some ⟨kS,0,none⟩)]::sPs kS (daL a n c b m e d) B C M T pool mems tods cl backs) wl,
   ⟨_,0,[],pool,rfl,Nat.zero_le _,rfl,Gs.nil _,hp,S17⟩,?_⟩
 clear S17 S3 hgm hp
 intro mm i
 refine aL.of ?_ _
 rintro wl ⟨j,kvs,pool,rfl,hj,rfl,HK,hp,S1⟩
 have hgm:g∈pool:=hp.symm.subset (by simp)
 have gS:=gSl (S1.at 2 rfl) hgm
 refine ah.of (λh1=>?_) (λh1=>?_) <;> simp only[dTx,dFx]at h1
 · have hjS:j<S.length:=by omega
   have hcf:cf S j=S[j]:=by unfold cf;rw[List.getD_eq_getElem?_getD,List.getElem?_eq_getElem hjS];rfl
   obtain⟨t,ht⟩:∃t,t=S[j]:=⟨_,rfl⟩
   have htn:t<d.n:=by rw[ht];exact hSn _ (List.getElem_mem hjS)
   have ld:=gS.cls (P:=prog) aC hjS
   rw[hcf,<- ht]at ld
   have ie:=jL htn hx hN hK2
   have hyb:t*d.K+x<backs.length:=by rw[BK.1];exact ie.2
   obtain⟨y,hy⟩:∃y,backs[t*d.K+x]? =some y:=⟨_,List.getElem?_eq_getElem hyb⟩
   have hyx:y.xs=nI (gV d d.n x t):=by rw[BK.2 _ y hy,ID hx]
   have OB:Ow tHi aj wl NoB B.a B.n B.c backs:=S1.at 7 rfl
   refine⟨⟨⟨by omega,by omega⟩,gS.isSome (i:=j) (by rw[dq];exact hjS)⟩,_,ld,?_⟩
   refine⟨_,λu hu=>ai.load1 be rfl ((S1.below hu).at 1 rfl) rfl,rfl,rfl,B.a,B.n,B.c,λu hu=>ai.load1 aV rfl ((S1.below hu).at 8 rfl) rfl,_,λu hu=>ai.load1 be rfl ((S1.below hu).at 1 rfl) rfl,rfl,rfl,rfl,((d.K:Nat):Int),λu hu=>by rw[hKK];exact ai.load1 aC rfl ((S1.below hu).at 8 rfl) rfl,?_⟩
   rw[ie.1]
   refine⟨⟨⟨by omega,by omega⟩,OB.all.isSome hyb⟩,y.a,y.n,y.c,λu hu=>(OB.below hu).all.hd aA hy,λwq hq=>?_⟩
   have hPl:(li d (S.take j) x).length+(gV d d.n x t).length <=d.n:=by
     have:=EN (d:=d) (x:=x) hS
     rw[EM hjS,<- ht,List.length_append,List.length_append]at this
     omega
   have yS:∀{u:World},Rws aq u backs->Sl bY u jD y.a y.n y.c (nI (gV d d.n x t)):=fun{u} R=>by rw[<- hyx];exact(R.own y (List.mem_of_getElem? hy)).all
   have hyn:y.n=(gV d d.n x t).length:=by rw[(yS (S1.at 6 rfl)).len,dq]
   refine⟨λm1 i wl=>∃(q:Nat) (kvs:List (Nat×Hi)) (pool:List Hi),i=(q:Int)/\q <=(gV d d.n x t).length/\m1=(gV d d.n x t).length-q/\Gs (cf cl) (li d (S.take j) x++(gV d d.n x t).take q) kvs/\pool.Perm (mems++(tods++(g::(kvs.map (·.2)++rest))))/\
       Sp w0 (ptM (ekN .i64) Hi.v k17 kvs::ptA k3 aB [.pointer (some ⟨kS,0,none⟩)]::sPs kS (daL a n c b m e d) B C M T pool mems tods cl backs) wl,
     ⟨_,0,kvs,pool,rfl,Nat.zero_le _,rfl,by rw[List.take_zero,List.append_nil];exact HK,hp,S1.below hq⟩,?_⟩
   clear S1 HK hp gS OB hgm kvs pool
   intro m1 i
   refine aL.of ?_ _
   rintro wl1 ⟨q,kvs,pool,rfl,hq',rfl,HK,hp,S1⟩
   refine ah.of (λh2=>?_) (λh2=>?_) <;> simp only[dTx,dFx]at h2
   · have hqp:q<(gV d d.n x t).length:=by omega
     have yR:=yS (S1.at 6 rfl)
     obtain⟨s,hs⟩:∃s,s=(gV d d.n x t)[q]:=⟨_,rfl⟩
     have hsp:s∈gV d d.n x t:=by rw[hs];exact List.getElem_mem hqp
     have hsn:s<d.n:=(qC.1 hsp).1
     have hcs:cf (gV d d.n x t) q=s:=by unfold cf;rw[List.getD_eq_getElem?_getD,List.getElem?_eq_getElem hqp,hs];rfl
     have lds:=yR.cls (P:=prog) aC hqp
     rw[hcs]at lds
     have OC:Ow bY aq wl1 NoB C.a C.n C.c (nI cl):=S1.at 5 rfl
     have hscl:s<cl.length:=by rw[hcll];exact hsn
     have MK:pn (ekN .i64) Hi.v wl1 k17 kvs:=S1.at 0 rfl
     have lk:=MK.g.look1 (P:=prog) iH (pm.int aC) fF (cf cl s)
     obtain⟨h,hh⟩:∃h,h=(gp (cf cl s) kvs).getD hi0:=⟨_,rfl⟩
     have lk2:((gp (cf cl s) kvs).map Hi.v).getD (.slice none 0 0)=.slice h.a h.n h.c:=by
       rw[hh];cases gp (cf cl s) kvs <;> rfl
     rw[lk2]at lk
     refine⟨⟨⟨by omega,by omega⟩,yR.isSome (i:=q) (by rw[dq];exact hqp)⟩,_,lds,_,ai.load1 be rfl (S1.at 1 rfl) rfl,rfl,rfl,C.a,C.n,C.c,ai.load1 aA rfl (S1.at 8 rfl) rfl,⟨⟨by omega,by omega⟩,OC.all.isSome (i:=s) (by rw[dq];exact hscl)⟩,_,OC.all.cls aC hscl,h.a,h.n,h.c,lk,?_⟩
     intro k57 w57 hk57 hw57
     have hxl:h.xs.length <=1000000:=by
       rw[hh]
       rcases vD (cf cl s) kvs with⟨e1,_⟩|⟨h0,l1,l2,e1,e2,_⟩
       · rw[e1];exact Nat.zero_le _
       · rw[e2]
         show h0.xs.length <=_
         rw[(HK.val (cf cl s,h0) (by rw[e1];simp)).1,dq]
         have:=List.length_filter_le (λt=>decide (cf cl t=cf cl s)) (li d (S.take j) x++(gV d d.n x t).take q)
         rw[List.length_append,List.length_take]at this
         show(List.filter (λt=>decide (cf cl t=cf cl s)) _).length <=_
         omega
     obtain⟨pl,prest,hpl,Sx,hback⟩:∃(pl prest:List Hi),pl.Perm (h::prest)/\Sp w0 (ptM (ekN .i64) Hi.v k17 kvs::ptA k3 aB [.pointer (some ⟨kS,0,none⟩)]::sPs kS (daL a n c b m e d) B C M T pl mems tods cl backs) wl1/\
         ∀h',(h'::prest).Perm (mems++(tods++(g::((upG (cf cl s) h' kvs).map (·.2)++rest)))):=by
       rcases vD (cf cl s) kvs with⟨e1,e3⟩|⟨h0,l1,l2,e1,e2,e3⟩
       · rw[e1]at hh
         subst hh
         refine⟨hi0::pool,pool,List.Perm.refl _,S1.upd 2 rfl (Chg.refl _ _) (p':=ptR aq (hi0::pool)) (Rws.add (S1.at 2 rfl) (Below.refl _ _) (h':=hi0) (Ow.nil _ _ _ _) (br.none _)) λb hb=>?_,λh'=>?_⟩
         · rcases d9.1 hb with e|e
           · cases e
           · exact .inl e
         · rw[e3 h']
           refine iu λz=>?_
           have:=hp.count_eq z
           simp only[List.count_append,List.count_cons,List.map_append,List.map_cons,List.map_nil,List.count_nil]at this ⊢
           omega
       · rw[e2]at hh
         subst hh
         refine⟨pool,mems++(tods++(g::((l1++l2).map (·.2)++rest))),?_,S1,λh'=>?_⟩
         · refine iu λz=>?_
           have:=hp.count_eq z
           rw[e1]at this
           simp only[List.count_append,List.count_cons,List.map_append,List.map_cons,List.map_nil,List.count_nil,Option.getD_some]at this ⊢
           omega
         · rw[e3 h']
           refine iu λz=>?_
           simp only[List.count_append,List.count_cons,List.map_append,List.map_cons,List.map_nil,List.count_nil]
           omega
     obtain⟨w58,h',r58,ex,S2⟩:=FJ Sx 2 rfl hpl hk57 hw57 hxl
     obtain⟨wx,qx,Mx,gx⟩:=pn.up (P:=prog) iH (pm.int aC) (yT .i64) (S2.at 0 rfl:pn (ekN .i64) Hi.v w58 k17 kvs) (cf cl s) h'
     have S4:=S2.upd 0 rfl (Chg.grown gx List.mem_cons_self) (p':=ptM (ekN .i64) Hi.v k17 (upG (cf cl s) h' kvs)) Mx λb hb=>.inl hb
     refine⟨w58,h'.a,h'.n,h'.c,r58,wx,qx,(gV d d.n x t).length-(q+1),by omega,q+1,_,_,by rw[ar (by omega) (by omega)];omega,hqp,rfl,?_,hback h',S4⟩
     rw[List.take_succ_eq_append_getElem hqp,<- hs,<- List.append_assoc]
     exact HK.add (by rw[ex,hh])
   · have:q=(gV d d.n x t).length:=by omega
     subst this
     rw[List.take_length]at HK
     exact⟨S.length-(j+1),by omega,j+1,kvs,pool,by rw[ar (by omega) (by omega)];omega,hjS,rfl,by rw[Di hjS,<- ht];exact HK,hp,S1⟩
 · have:j=S.length:=by omega
   subst this
   rw[List.take_length]at HK
   have HT:=HK.hit hS
   obtain⟨w62,r62,R62,b62⟩:=FQ (P:=prog) iH (S1.at 0 rfl:pn (ekN .i64) Hi.v wl k17 kvs)
   have lk17:k17<wl.heap.size:=(ptM (ekN .i64) Hi.v k17 kvs).lt (S1.at 0 rfl) k17 List.mem_cons_self
   obtain⟨ki,hki⟩:∃ki,ki=wl.heap.size:=⟨_,rfl⟩
   rw[<- hki]at r62 R62
   have hkne:ki≠k17:=by omega
   have S2:=S1.upd 0 rfl (Chg.of b62) (p':=ptI (ekN .i64) Hi.v ki k17 kvs kvs) R62 λb hb=>by
     rcases List.mem_cons.1 hb with rfl|hb
     · right;omega
     · exact .inl hb
   have By0:ByS d (cf cl) S x kvs mem.length todo.length cl mem todo mems tods:=⟨CZ.start SI AP HT,nm,nt,FU,⟨0,rfl,rfl⟩,hgd⟩
   clear gS gSl S1
   refine⟨w62,_,r62,λm2 wl=>∃(left:List (Nat×Hi)) (M T:H3) (pool mems tods rest:List Hi) (cl':List Nat) (mem' todo':List (List Nat)),m2=left.length/\(left.map (·.1)).Nodup/\(∀p∈left,p∈kvs)/\ByS d (cf cl) S x left mem.length todo.length cl' mem' todo' mems tods/\pool.Perm (mems++(tods++(g::(left.map (·.2)++rest))))/\
       Sp w0 (ptI (ekN .i64) Hi.v ki k17 kvs left::ptA k3 aB [.pointer (some ⟨kS,0,none⟩)]::sPs kS (daL a n c b m e d) B C M T pool mems tods cl' backs) wl,
     ⟨_,kvs,M,T,pool,mems,tods,rest,cl,mem,todo,rfl,HK.keys,λp hp=>hp,By0,hp,S2⟩,?_⟩
   clear S2 By0 hp nm nt AP FU
   intro m2
   refine aL.of ?_ _
   rintro wl2 ⟨left,M,T,pool,mems,tods,rest,cl',mem',todo',rfl,hnd,hsub,By,hp,S2⟩
   rcases iU.step (P:=prog) (S2.at 0 rfl:iU (ekN .i64) Hi.v wl2 ki k17 kvs left) hkne zi with⟨rfl,hnx⟩|⟨l1,k,h,l2,wn,rfl,hnx,RS,hent,gn⟩
   · exact .inl ⟨wl2,hnx,rfl,M,T,pool,mems,tods,rest,cl',mem',todo',S2.tail.tail,hp,By⟩
   refine .inr ⟨wn,_,_,hnx,λn' a' l' c' u=>n'=((k:Nat):Int)/\a'=h.a/\l'=h.n/\c'=h.c/\u=wn,⟨_,_,hent,⟨rfl,rfl,rfl,rfl,rfl⟩⟩,?_⟩
   intro n12 a13 l13 c13
   refine aL.of ?_ _
   rintro wj ⟨rfl,rfl,rfl,rfl,rfl⟩
   have S3:=S2.upd 0 rfl (Chg.grown gn List.mem_cons_self) (p':=ptI (ekN .i64) Hi.v ki k17 kvs (l1++l2)) RS λb hb=>.inl hb
   clear S2
   have hkm:(k,h)∈kvs:=hsub _ (by simp)
   obtain⟨hxs,s0,hs0,es0⟩:=HK.val (k,h) hkm
   obtain⟨l,hl⟩:∃l,l=(li d S x).filter λs=>decide (cf cl s=k):=⟨_,rfl⟩
   have hxs:h.xs=nI l:=by rw[hl];exact hxs
   have hmH:(k,l)∈unH kvs:=List.mem_map.2 ⟨(k,h),hkm,by show(k,unI h.xs)=_;rw[hxs,Gf]⟩
   have hmL:(k,l)∈unH (l1++(k,h)::l2):=List.mem_map.2 ⟨(k,h),by simp,by show(k,unI h.xs)=_;rw[hxs,Gf]⟩
   obtain⟨ln,lne,lm⟩:=HT.lists (k,l) hmH
   have hkcl:=By.inv.same (k,l) hmL
   have SI':=By.inv.inv
   have s0n:s0<d.n:=(lw.1 hs0).1
   have hkl:k<mem'.length:=by
     have:=SI'.mlt s0 s0n
     rw[hkcl s0 s0n es0]at this;exact this
   obtain⟨xk,hxk⟩:∃xk,mems[k]? =some xk:=⟨_,List.getElem?_eq_getElem (by rw[By.len.1];exact hkl)⟩
   obtain⟨mk,hmk,hxm⟩:=J8 By.nm hxk
   obtain⟨mkn,mki⟩:=SI'.mems k mk hmk
   have lsub:∀s∈l,s∈mk:=λs hs=>(mki s).2 ⟨((lm s).1 hs).1,hkcl s ((lm s).1 hs).1 ((lm s).1 hs).2.1⟩
   have R3:Rws aq wj pool:=S3.at 2 rfl
   have hhm:h∈pool:=hp.symm.subset (by simp)
   have xkm:xk∈pool:=hp.symm.subset (List.mem_append_left _ (List.mem_of_getElem? hxk))
   have hhn:h.n=l.length:=by rw[(R3.own h hhm).len,hxs,dq]
   have xkn:xk.n=mk.length:=by rw[(R3.own xk xkm).len,hxm,dq]
   have OM:Ow tHi aj wj NoB M.a M.n M.c mems:=S3.at 3 rfl
   have hMn:M.n=mem'.length:=by rw[OM.len,By.len.1]
   have hkM:k<mems.length:=bP hxk
   have hll:l.length <=d.n:=kC ln λs hs=>((lm s).1 hs).1
   have hml:mk.length <=d.n:=kC mkn λs hs=>((mki s).1 hs).1
   have hnd2:((l1++l2).map (·.1)).Nodup:=by
     have:=hnd
     rw[List.map_append,List.map_cons]at this
     rw[List.map_append]
     exact this.sublist (List.Sublist.append (List.Sublist.refl _) (List.sublist_cons_self _ _))
   have hsub2:∀p∈l1++l2,p∈kvs:=λp hp=>hsub p (by
     rcases List.mem_append.1 hp with hp|hp
     · exact List.mem_append_left _ hp
     · exact List.mem_append_right _ (List.mem_cons_of_mem _ hp))
   have hlen2:(l1++l2).length<(l1++(k,h)::l2).length:=by simp
   refine⟨_,ai.load1 be rfl (S3.at 1 rfl) rfl,rfl,rfl,M.a,M.n,M.c,ai.load1 aV rfl (S3.at 8 rfl) rfl,⟨⟨by omega,by omega⟩,OM.all.isSome hkM⟩,xk.a,xk.n,xk.c,OM.all.hd aA hxk,ah.of (λhe=>?_) (λhe=>?_)⟩
   · have he:l.length=mk.length:=by
       rw[beq_iff_eq]at he;omega
     refine⟨_,hlen2,l1++l2,M,T,pool,mems,tods,h::rest,cl',mem',todo',rfl,hnd2,hsub2,⟨By.inv.whole HT hmL hmH (Ge hnd) λs hs e=>DK (m:=mk) ln lsub (Nat.le_of_eq he.symm) s ((mki s).2 ⟨hs,hkcl s hs e⟩),By.nm,By.nt,By.full,By.grow,By.gd⟩,?_,S3⟩
     refine iu λz=>?_
     have:=hp.count_eq z
     simp only[List.count_append,List.count_cons,List.map_append,List.map_cons,List.map_nil,List.count_nil]at this ⊢
     omega
   have hne:l.length≠mk.length:=λe=>by
     rw[hhn,xkn,e]at he
     simp at he
   refine⟨_,ai.load1 be rfl (S3.at 1 rfl) rfl,rfl,rfl,M.a,M.n,M.c,ai.load1 aV rfl (S3.at 8 rfl) rfl,?_⟩
   intro k14 w14 hk14 hw14
   have S4:=S3.add (hw14▸af wj _) (p:=ptA k14 aq [vI 0]) (show ai w14 k14 _ _ from ai.new hk14 hw14) (fp1 (by omega))
   obtain⟨wx1,q1,S5,_⟩:=S4.put dk 0 rfl (i:=0) (v:=vI ((M.n:Nat):Int)) rfl rfl (show 0<1 by decide)
   refine⟨wx1,q1,λm3 i u=>∃q:Nat,i=(q:Int)/\q <=l.length/\m3=l.length-q/\Sp w0 (ptA k14 aq [vI ((M.n:Nat):Int)]::ptI (ekN .i64) Hi.v ki k17 kvs (l1++l2)::ptA k3 aB [.pointer (some ⟨kS,0,none⟩)]::sPs kS (daL a n c b m e d) B C M T pool mems tods (dj cl' M.n (l.take q)) backs) u,
     ⟨_,0,rfl,Nat.zero_le _,rfl,S5⟩,?_⟩
   clear S5 S4 S3 R3 OM
   have hcl':cl'.length=d.n:=SI'.len
   have hcll':∀q,(dj cl' M.n (l.take q)).length=d.n:=λq=>by rw[oo,hcl']
   intro m3 i
   refine aL.of ?_ _
   rintro u3 ⟨q,rfl,hq,rfl,S3⟩
   have hSl2:Sl bY u3 jD h.a h.n h.c (nI l):=by
     have R:Rws aq u3 pool:=S3.at 3 rfl
     rw[<- hxs];exact(R.own h hhm).all
   refine ah.of (λh2=>?_) (λh2=>?_) <;> simp only[dTx,dFx]at h2
   · have hql:q<l.length:=by omega
     obtain⟨s,hs⟩:∃s,s=l[q]:=⟨_,rfl⟩
     have hsn:s<d.n:=((lm s).1 (by rw[hs];exact List.getElem_mem hql)).1
     have hcs:cf l q=s:=by unfold cf;rw[List.getD_eq_getElem?_getD,List.getElem?_eq_getElem hql,hs];rfl
     have ld:=hSl2.cls (P:=prog) aC hql
     rw[hcs]at ld
     have Sd:=S3.below (aQ u3)
     have OC:Ow bY aq u3.drew NoB C.a C.n C.c (nI (dj cl' M.n (l.take q))):=Sd.at 6 rfl
     have hsl:s<(nI (dj cl' M.n (l.take q))).length:=by rw[dq,hcll'];exact hsn
     obtain⟨wx2,q2,o2,g2⟩:=Ow.store (k:=1) dk OC (λ_ _ h=>h) (i:=((s:Nat):Int)) (by simpa using hsl) rfl (v:=vI ((M.n:Nat):Int)) (x:=((M.n:Nat):Int)) ⟨rfl,trivial⟩
     refine⟨⟨⟨by omega,by omega⟩,hSl2.isSome (i:=q) (by rw[dq];exact hql)⟩,_,ld,λu=>Below u3.drew.heap.size u3.drew u,Below.refl _ _,_,λu hu=>ai.load1 be rfl ((Sd.below hu).at 2 rfl) rfl,rfl,rfl,C.a,C.n,C.c,λu hu=>ai.load1 aA rfl ((Sd.below hu).at 9 rfl) rfl,_,λu hu=>ai.load1 aC rfl ((Sd.below hu).at 0 rfl) rfl,⟨⟨by omega,by omega⟩,OC.all.isSome hsl⟩,wx2,q2,l.length-(q+1),by omega,q+1,by rw[ar (by omega) (by omega)];omega,hql,rfl,?_⟩
     have ec:(nI (dj cl' M.n (l.take q))).set ((s:Nat):Int).toNat ((M.n:Nat):Int)=nI (dj cl' M.n (l.take (q+1))):=by
       rw[List.take_succ_eq_append_getElem hql,<- hs,BJ,Int.toNat_natCast]
       unfold nI
       rw[List.map_set]
     rw[ec]at o2
     exact Sd.upd 6 rfl (Chg.row g2) (p':=ptO bY aq C.a C.n C.c (nI (dj cl' M.n (l.take (q+1))))) o2 λb hb=>.inl hb
   have:q=l.length:=by omega
   subst this
   rw[List.take_length]at S3
   obtain⟨cln,hcln⟩:∃cln,cln=dj cl' M.n l:=⟨_,rfl⟩
   rw[<- hcln]at S3
   have hclnl:cln.length=d.n:=by rw[hcln,oo,hcl']
   have Sd:=S3.below (aQ u3)
   clear S3 hSl2 h2 hq
   obtain⟨mrest,mp1,mp2⟩:=yH hxk
   obtain⟨prest,hprest⟩:∃prest,prest=mrest++(tods++(g::((l1++(k,h)::l2).map (·.2)++rest))):=⟨_,rfl⟩
   have hpx:pool.Perm (xk::prest):=by
     refine iu λz=>?_
     have e1:=hp.count_eq z
     have e2:=mp1.count_eq z
     rw[hprest]
     simp only[List.count_append,List.count_cons]at e1 e2 ⊢
     omega
   have inP:∀b∈(bi xk.a).toList,b∈tA pool:=λb hb=>kz.2 ⟨xk,xkm,cL.1 hb⟩
   have RP:Rws aq u3.drew (xk::prest):=Rws.perm (Sd.at 3 rfl) hpx
   have OM:Ow tHi aj u3.drew NoB M.a M.n M.c mems:=Sd.at 4 rfl
   have ldV:∀{u:World},Chg (tA pool) u3.drew u->ai u kS bg (daL a n c b m e d++[B.v,C.v,M.v,T.v]):=λhu=>Sd.oth 3 rfl hu 9 rfl (by decide)
   have ld3:∀{u:World},Chg (tA pool) u3.drew u->ai u k3 aB [.pointer (some ⟨kS,0,none⟩)]:=λhu=>Sd.oth 3 rfl hu 2 rfl (by decide)
   have isM:Option.isSome M.a=true:=OM.all.isSome hkM
   refine⟨λu=>Chg (tA pool) u3.drew u,Chg.refl _ _,_,λu hu=>(ld3 hu).load1 be rfl rfl,rfl,rfl,M.a,M.n,M.c,λu hu=>(ldV hu).load1 aV rfl rfl,_,λu hu=>(ld3 hu).load1 be rfl rfl,rfl,rfl,M.a,M.n,M.c,λu hu=>(ldV hu).load1 aV rfl rfl,⟨⟨by omega,by omega⟩,isM⟩,xk.a,xk.n,xk.c,λu hu=>?_,?_⟩
   · have O:Ow tHi aj u NoB M.a M.n M.c mems:=Sd.oth 3 rfl hu 4 rfl (by decide)
     exact O.all.hd aA hxk
   have GA:Ig (some ⟨k3,0,none⟩) (some ⟨k14,0,none⟩) (tA pool) (λt=>((cf cln t.toNat:Nat):Int)==((M.n:Nat):Int)) xk.xs u3.drew:=λt ht u hu=>by
     rw[hxm]at ht
     obtain⟨s,hs,rfl⟩:=List.mem_map.1 ht
     have:=GS (u:=u) (k14:=k14) (next:=M.n) (C:=C) (cl:=cln) (s:=s) (ld3 hu) (ldV hu) rfl (Sd.oth 3 rfl hu 6 rfl (by decide)) (Sd.oth 3 rfl hu 0 rfl (by decide)) (by rw[hclnl];exact((mki s).1 hs).1)
     simp only[Int.toNat_natCast]
     exact this
   refine aw (ET GA (RP.own xk List.mem_cons_self) (λb hb=>inP b (cL.2 hb)) (by rw[hxm,dq];omega)) ?_
   rintro _ w111 ⟨n',rfl,o111,c111⟩
   obtain⟨mk',hmk'⟩:∃mk',mk'=mk.filter λt=> !decide (cf cln t=mem'.length):=⟨_,rfl⟩
   have efl:(xk.xs.filter λt=> !(((cf cln t.toNat:Nat):Int)==((M.n:Nat):Int)))=nI mk':=by
     rw[hxm,hmk']
     refine FB mk _ _ λs hs=>?_
     rw[Int.toNat_natCast,hMn]
     congr 1
     rw[Bool.eq_iff_iff,beq_iff_eq,dTx]
     omega
   rw[efl]at o111
   obtain⟨x',hx'⟩:∃x':Hi,x'=⟨xk.a,n',xk.c,nI mk'⟩:=⟨_,rfl⟩
   have o111:Ow bY aq w111 NoB x'.a x'.n x'.c x'.xs:=by rw[hx'];exact o111
   have R111:Rws aq w111 (x'::prest):=RP.upd c111 o111 (λb hb=>.inl (by rw[hx']at hb;exact hb))
   have S6:=Sd.upd 3 rfl (c111.mono inP) (p':=ptR aq (x'::prest)) R111 λb hb=>by
     rcases d9.1 hb with e|e
     · rw[hx']at e;exact .inl (inP b (cL.2 e))
     · exact .inl ((lF hpx).2 (d9.2 (.inr e)))
   have OM6:Ow tHi aj w111 NoB M.a M.n M.c mems:=S6.at 4 rfl
   obtain⟨wx3,q3,o3,g3⟩:=Ow.store (k:=1) fF OM6 (λ_ _ h=>h) (i:=((k:Nat):Int)) (by simpa using hkM) rfl (v:=x'.v) (x:=x') ⟨rfl,trivial⟩
   rw[Int.toNat_natCast]at o3
   have S7:=S6.upd 4 rfl (Chg.row g3) (p':=ptO tHi aj M.a M.n M.c (mems.set k x')) o3 λb hb=>.inl hb
   have q3':(Instr.storeAt aj (.pointer (ak M.a ((k:Nat):Int) 1)) (.slice xk.a n' xk.c)).run prog w111=.ok () wx3:=by rw[hx']at q3;exact q3
   refine⟨xk.a,n',xk.c,rfl,c111.mono inP,⟨⟨by omega,by omega⟩,isM⟩,wx3,q3',?_⟩
   clear S6 OM6 Sd ldV ld3 OM RP R111 GA o111
   have Sd:=S7.below (aQ wx3)
   have OM:Ow tHi aj wx3.drew NoB M.a M.n M.c (mems.set k x'):=Sd.at 4 rfl
   refine⟨λu=>Chg (bi M.a).toList wx3.drew u,Chg.refl _ _,_,λu hu=>ai.load1 be rfl (Sd.oth 4 rfl hu 2 rfl (by decide)) rfl,_,λu hu=>ai.load1 be rfl (Sd.oth 4 rfl hu 2 rfl (by decide)) rfl,rfl,rfl,M.a,M.n,M.c,λu hu=>ai.load1 aV rfl (Sd.oth 4 rfl hu 9 rfl (by decide)) rfl,?_⟩
   intro k119 w119 hk119 hw119
   have hml2:mem'.length <=d.n+2:=By.full.le
   obtain⟨c119,w120,a4,n4,c4,r120,o120,c120,f120⟩:=DQ (ty:=ay) tr aV fF (by decide) OM hk119 (vs:=[h.v]) hw119 (x:=h) ⟨rfl,trivial⟩ (cm:=1) (by rw[List.length_set,By.len.1];omega)
   have S8:=Sd.upd 4 rfl c120 (p':=ptO tHi aj a4 n4 c4 (mems.set k x'++[h])) o120 f120.fp
   obtain⟨wx4,q4,S9,_⟩:=S8.put kF 9 rfl (i:=6) (v:=.slice a4 n4 c4) rfl rfl (show 6<8 by decide)
   refine⟨c119,w120,a4,n4,c4,r120,c120,rfl,rfl,wx4,q4,?_⟩
   clear S8 S7 Sd OM o120
   obtain⟨M',hM'⟩:∃M':H3,M'=⟨a4,n4,c4⟩:=⟨_,rfl⟩
   have S10:Sp w0 (ptA k14 aq [vI ((M.n:Nat):Int)]::ptI (ekN .i64) Hi.v ki k17 kvs (l1++l2)::ptA k3 aB [.pointer (some ⟨kS,0,none⟩)]::sPs kS (daL a n c b m e d) B C M' T (x'::prest) (mems.set k x'++[h]) tods cln backs) wx4:=by rw[hM'];exact S9
   clear S9
   have Sd:=S10.below (aQ wx4)
   have hxk':(mems.set k x'++[h])[k]? =some x':=by
     rw[List.getElem?_append_left (by rw[List.length_set];exact hkM),List.getElem?_set_self hkM]
   have ldV:∀{u:World},Chg (bi T.a).toList wx4.drew u->ai u kS bg (daL a n c b m e d++[B.v,C.v,M'.v,T.v]):=λhu=>Sd.oth 5 rfl hu 9 rfl (by decide)
   have ld3:∀{u:World},Chg (bi T.a).toList wx4.drew u->ai u k3 aB [.pointer (some ⟨kS,0,none⟩)]:=λhu=>Sd.oth 5 rfl hu 2 rfl (by decide)
   have OM:Ow tHi aj wx4.drew NoB M'.a M'.n M'.c (mems.set k x'++[h]):=Sd.at 4 rfl
   have RP:Rws aq wx4.drew (x'::prest):=Sd.at 3 rfl
   have hM'n:M'.n=mem'.length+1:=by rw[OM.len,List.length_append,List.length_set,By.len.1];rfl
   have hhp:h∈x'::prest:=by rw[hprest];simp
   refine⟨λu=>Chg (bi T.a).toList wx4.drew u,Chg.refl _ _,_,λu hu=>(ld3 hu).load1 be rfl rfl,_,λu hu=>(ld3 hu).load1 be rfl rfl,rfl,rfl,T.a,T.n,T.c,λu hu=>(ldV hu).load1 aV rfl rfl,_,λu hu=>(ld3 hu).load1 be rfl rfl,rfl,rfl,M'.a,M'.n,M'.c,λu hu=>(ldV hu).load1 aV rfl rfl,⟨⟨by omega,by omega⟩,OM.all.isSome (bP hxk')⟩,x'.a,x'.n,x'.c,λu hu=>?_,?_⟩
   · have O:Ow tHi aj u NoB M'.a M'.n M'.c (mems.set k x'++[h]):=Sd.oth 5 rfl hu 4 rfl (by decide)
     exact O.all.hd aA hxk'
   refine aw (tp (RP.own h hhp).all (by rw[hxs,dq];omega)) ?_
   rintro _ w129 ⟨a5,n5,c5,rfl,o5,f5,b5⟩
   refine⟨a5,n5,c5,rfl,Chg.of b5,?_⟩
   have hmk'l:mk'.length <=d.n:=by rw[hmk'];exact Nat.le_trans (List.length_filter_le _ _) hml
   refine aw (tp ((RP.own x' List.mem_cons_self).below b5).all (by rw[hx'];show(nI mk').length <=_;rw[dq];omega)) ?_
   rintro _ w137 ⟨a6,n6,c6,rfl,o6,f6,b6⟩
   have b56:=ab b5 b6 b5.size
   refine⟨a6,n6,c6,rfl,Chg.of b56,?_⟩
   intro k138 w138 hk138 hw138
   have b7:=(hw138▸af w137 _:bW w137 w138)
   have R5:Rws aq w129 ((⟨a5,n5,c5,h.xs⟩:Hi)::x'::prest):=RP.add (h':=⟨a5,n5,c5,h.xs⟩) b5 o5 f5
   have R6:Rws aq w137 ((⟨a6,n6,c6,x'.xs⟩:Hi)::(⟨a5,n5,c5,h.xs⟩:Hi)::x'::prest):=R5.add (h':=⟨a6,n6,c6,x'.xs⟩) b6 o6 f6
   have S11:=(Sd.upd 3 rfl (Chg.of b56) (p':=ptR aq ((⟨a6,n6,c6,x'.xs⟩:Hi)::(⟨a5,n5,c5,h.xs⟩:Hi)::x'::prest)) R6 λb hb=>by
     rcases d9.1 hb with e|hb
     · have:=f6 b e;have:=b5.size;exact .inr (by omega)
     · rcases d9.1 hb with e|hb
       · exact .inr (f5 b e)
       · exact .inl hb).below b7
   have OT:Ow tHi aj w138 NoB T.a T.n T.c tods:=S11.at 5 rfl
   have ON:Ow tHi aj w138 NoB (some ⟨k138,0,none⟩) 2 2 [(⟨a5,n5,c5,h.xs⟩:Hi),(⟨a6,n6,c6,x'.xs⟩:Hi)]:=Ow.newF (l:=[.slice a5 n5 c5,.slice a6 n6 c6]) tr hk138 hw138 ((gr.one (T:=tHi) (x:=⟨a5,n5,c5,h.xs⟩) ⟨rfl,trivial⟩).append (gr.one (T:=tHi) (x:=⟨a6,n6,c6,x'.xs⟩) ⟨rfl,trivial⟩)) (show 2 <=maxLen by decide)
   obtain⟨kk,hkk1,hkk2⟩:=By.grow
   have htl:tods.length=todo'.length:=By.len.2
   obtain⟨w139,a7,n7,c7,r139,o139,g139,f139⟩:=cr (ty:=ay) aV fF (by decide) OT (λ_ _ h=>h) (cm:=2) (Sl.flat tr ON.all) (by rw[htl];simp only[List.length_cons,List.length_nil];omega)
   have S12:=S11.upd 5 rfl (Chg.row g139) (p':=ptO tHi aj a7 n7 c7 (tods++[(⟨a5,n5,c5,h.xs⟩:Hi),(⟨a6,n6,c6,x'.xs⟩:Hi)])) o139 λb hb=>by
     rcases f139 b (cL.1 hb)with e|e
     · exact .inl (cL.2 e)
     · exact .inr e
   obtain⟨wx5,q5,S13,_⟩:=S12.put kF 9 rfl (i:=7) (v:=.slice a7 n7 c7) rfl rfl (show 7<8 by decide)
   have c138:Chg (bi T.a).toList wx4.drew w138:=Chg.of (ab b56 b7 b56.size)
   refine⟨c138,w139,a7,n7,c7,r139,c138.trans (Chg.row g139),rfl,rfl,wx5,q5,_,hlen2,l1++l2,M',⟨a7,n7,c7⟩,((⟨a6,n6,c6,x'.xs⟩:Hi)::(⟨a5,n5,c5,h.xs⟩:Hi)::x'::prest),mems.set k x'++[h],tods++[(⟨a5,n5,c5,h.xs⟩:Hi),(⟨a6,n6,c6,x'.xs⟩:Hi)],rest,cln,mem'.set k mk'++[l],todo'++[l,mk'],rfl,hnd2,hsub2,⟨?_,?_,?_,?_,⟨kk+1,?_,?_⟩,?_⟩,?_,S13.tail⟩
   · have cut:CZ d (cf cl) S x (unH (l1++l2)) (dj cl' mem'.length l) (mem'.set k (mk.filter λt=> !decide (cf (dj cl' mem'.length l) t=mem'.length))++[l]) ((todo'++[l,mk'])++[S]):=By.inv.cut HT hmL hmH (Ge hnd) hmk (λU hU=>by
       rcases List.mem_append.1 hU with hU|hU
       · exact List.mem_append_left _ (List.mem_append_left _ hU)
       · exact List.mem_append_right _ hU) (by simp) (λq hq=>by
         obtain⟨p,hpk,rfl⟩:=List.mem_map.1 hq
         obtain⟨_,s,hs,e⟩:=HK.val p hpk
         have:=SI.mlt s (lw.1 hs).1
         rw[e]at this
         show p.1<_
         omega) (λq hq=>by
         obtain⟨p,hpk,rfl⟩:=List.mem_map.1 hq
         exact List.mem_map.2 ⟨p,hsub p hpk,rfl⟩)
     have e:mk'=mk.filter λt=> !decide (cf (dj cl' mem'.length l) t=mem'.length):=by rw[hmk',hcln,hMn]
     rw[<- e]at cut
     rw[hcln,hMn]
     exact cut
   · have:=By.nm
     unfold nX at this ⊢
     rw[List.map_append,List.map_set,this,List.map_append,List.map_set,hx']
     show _++[h.xs]=_
     rw[hxs];rfl
   · have:=By.nt
     unfold nX at this ⊢
     rw[List.map_append,this,List.map_append]
     show _++[h.xs,x'.xs]=_
     rw[hxs,hx'];rfl
   · rw[List.length_append,List.length_set,hcln,hMn]
     refine By.full.split SI' hmk lsub lne ?_
     refine Classical.byContradiction λhc=>hne ?_
     have hall:∀s∈mk,s∈l:=λs hs=>Classical.byContradiction λhn=>hc ⟨s,hs,hn⟩
     exact Nat.le_antisymm (lx (m:=mk) ln lsub) (lx (m:=l) mkn hall)
   · rw[List.length_append,List.length_set];simp only[List.length_cons,List.length_nil];omega
   · rw[List.length_append];simp only[List.length_cons,List.length_nil];omega
   · intro U hU
     rcases List.mem_append.1 hU with hU|hU
     · exact By.gd U hU
     · rcases List.mem_cons.1 hU with rfl|hU
       · exact⟨ln,λt ht=>((lm t).1 ht).1⟩
       · rw[List.mem_singleton]at hU
         subst hU
         rw[hmk']
         exact⟨mkn.filter _,λt ht=>((mki t).1 (List.mem_filter.1 ht).1).1⟩
   · refine iu λz=>?_
     have e2:=(mp2 x').count_eq z
     rw[hprest]
     simp only[List.count_append,List.count_cons,List.map_append,List.map_cons,List.map_nil,List.count_nil]at e2 ⊢
     omega
structure jb (d o:DA):Prop where
 ok:o.Ok
 k:o.k=d.k
 n:o.n <=d.n
 lang:∀w,o.Lang o.s w ↔ d.Lang d.s w
 img:∃φ:Nat->Nat,∀w:List Nat,(∀x∈w,x<d.K)->o.run o.s w=φ (d.run d.s w)
theorem jb.kk {d o:DA}(h:jb d o):o.K=d.K:=by unfold DA.K;rw[h.k]
theorem jb.trans {d o p:DA}(h:jb d o)(k:jb o p):jb d p where
 ok:=k.ok
 k:=k.k.trans h.k
 n:=Nat.le_trans k.n h.n
 lang:=λw=>(k.lang w).trans (h.lang w)
 img:=by
   obtain⟨φ,h1⟩:=h.img
   obtain⟨ψ,h2⟩:=k.img
   exact⟨λs=>ψ (φ s),λw hw=>by rw[h2 w (by rw[h.kk];exact hw),h1 w hw]⟩
theorem Fm {l:List Nat}(hn:l.Nodup){i v:Nat}(h:l[i]? =some v):l.idxOf v=i:=by
 obtain⟨hi,rfl⟩:=List.getElem?_eq_some_iff.1 h
 exact hn.idxOf_getElem i hi
theorem mP.tight {d:DA}{c:Nat->Nat}{o:DA}{rs:List Nat}(h:mP d c o rs)(hd:d.Ok)(hc:Gq d c):jb d o where
 ok:=h.ok hd
 k:=h.k
 n:=by have h1:o.ac.length=rs.length:=h.n;have h2:=h.le;show o.ac.length <=d.ac.length;omega
 lang:=h.lang hd hc
 img:=⟨λs=>(rs.map c).idxOf (c s),λw hw=>by
   have hs:o.s=0:=by unfold DA.s;rw[h.st];rfl
   obtain⟨q,e1,e2⟩:=h.run hd hc (w:=w) h.first hd.s_lt rfl hw
   rw[hs]
   refine(Fm h.nd ?_).symm
   rw[List.getElem?_map,e1,<- e2];rfl⟩
structure Lj (d:DA)(cl:List Nat)(mem todo:List (List Nat))(mems tods:List Hi):Prop where
 inv:Eb d cl mem
 nm:nX mems=mem.map nI
 nt:nX tods=todo.map nI
 full:GC d cl mem.length
 le:todo.length <=2*mem.length
 gd:∀U∈todo,U.Nodup/\∀t∈U,t<d.n
def Ih (d:DA)(w:World)(v:Value)(w':World):Prop:=∃(a:Option Addr) (n c:Nat) (cl:List Nat),v=.slice a n c/\Sl bY w' jD a n c (nI cl)/\cl.length=d.n/\Gq d (cf cl)/\bW w w'
set_option maxHeartbeats 1000000 in
theorem Dg {w:World}{a b:Option Addr}{n c m e:Nat}{d:DA}(h:DaS w a n c b m e d)(hd:d.Ok):
   Cf jW #[daV a n c b m e d] w (Ret (Ih d w)):=by
 apply rV
 have hN:d.n <=65536:=hd.n2
 have hKK:=hd.kk
 intro k1 w1 hk1 hw1
 have b1:=(hw1▸af w _:bW w w1)
 have A1:ai w1 k1 ae (daL a n c b m e d):=ai.new hk1 hw1
 refine⟨_,_,a,n,c,b,m,e,bh.load0 (cs:=daL a n c b m e d) A1 rfl,?_⟩
 refine aw (BF (h.below b1) hd) ?_
 rintro _ w7 ⟨kS,B,C,M,T,pool,mems,tods,backs,rfl,BK,nm0,nt0,hp0,S0⟩
 refine⟨_,rfl,?_⟩
 have gd0:∀U∈[rC d d.n false,rC d d.n true],U.Nodup/\∀t∈U,t<d.n:=λU hU=>by
   have gen:∀b,(rC d d.n b).Nodup/\∀t∈rC d d.n b,t<d.n:=λb=>⟨List.nodup_range.filter _,λt ht=>(qB.1 ht).1⟩
   simp only[List.mem_cons,List.not_mem_nil,or_false]at hU
   rcases hU with rfl|rfl <;> exact gen _
 refine⟨λmm wl=>∃(M T:H3) (pool mems tods rest:List Hi) (cl:List Nat) (mem todo:List (List Nat)),mm=3*(d.n+2-mem.length)+todo.length/\Lj d cl mem todo mems tods/\pU d (cf cl) todo/\pool.Perm (mems++(tods++rest))/\Sp w1 (sPs kS (daL a n c b m e d) B C M T pool mems tods cl backs) wl,
   ⟨_,M,T,pool,mems,tods,[],pR d d.n,[rC d d.n false,rC d d.n true],[rC d d.n false,rC d d.n true],rfl,⟨K3 d,nm0,nt0,λc h2 hc=>by simp at hc;omega,by simp,gd0⟩,JM d,by rw[List.append_nil];exact hp0,S0⟩,?_⟩
 clear S0 hp0 nm0 nt0 gd0 M T pool mems tods
 intro mm
 refine aL.of ?_ _
 rintro wl ⟨M,T,pool,mems,tods,rest,cl,mem,todo,rfl,CS,AP,hp,S1⟩
 have OT:Ow tHi aj wl NoB T.a T.n T.c tods:=S1.at 2 rfl
 have htl:tods.length=todo.length:=by
   have:=congrArg List.length CS.nt
   simpa[nX]using this
 have hTn:T.n=todo.length:=by rw[OT.len,htl]
 have ldV:∀{u:World},bW wl u->ai u kS bg (daL a n c b m e d++[B.v,C.v,M.v,T.v]):=λhu=>(S1.below hu).at 6 rfl
 have hfl:=CS.full.le
 have hle:=CS.le
 refine⟨rfl,rfl,T.a,T.n,T.c,(ldV (Below.refl _ _)).load1 aV rfl rfl,ah.of (λh1=>?_) (λh1=>?_)⟩ <;> simp only[gt_iff_lt,dTx,dFx]at h1
 · have hpos:0<todo.length:=by omega
   obtain⟨todo1,S,rfl⟩:∃todo1 S,todo=todo1++[S]:=⟨_,_,(List.dropLast_concat_getLast (List.ne_nil_of_length_pos hpos)).symm⟩
   obtain⟨tods1,g,rfl⟩:∃tods1 g,tods=tods1++[g]:=⟨_,_,(List.dropLast_concat_getLast (List.ne_nil_of_length_pos (by omega))).symm⟩
   have hl1:tods1.length=todo1.length:=by simpa using htl
   have hT1:T.n=tods1.length+1:=by rw[OT.len];simp
   obtain⟨nt1,hg⟩:nX tods1=todo1.map nI/\g.xs=nI S:=by
     have:=CS.nt
     unfold nX at this
     rw[List.map_append,List.map_append]at this
     obtain⟨e1,e2⟩:=List.append_inj this (by simp[hl1])
     exact⟨e1,by simpa using e2⟩
   have hwr:i64.wrap (((T.n:Nat):Int)-1)=((tods1.length:Nat):Int):=by
     rw[List.length_append]at hle
     simp only[List.length_cons,List.length_nil]at hle
     rw[hT1,ar (by omega) (by omega)];omega
   have hgi:(tods1++[g])[tods1.length]? =some g:=by simp
   refine⟨rfl,rfl,T.a,T.n,T.c,λu hu=>(ldV hu).load1 aV rfl rfl,rfl,rfl,T.a,T.n,T.c,λu hu=>(ldV hu).load1 aV rfl rfl,?_⟩
   rw[hwr]
   refine⟨⟨⟨by omega,by omega⟩,OT.all.isSome (bP hgi)⟩,g.a,g.n,g.c,λu hu=>(OT.below hu).all.hd aA hgi,λwq hq=>?_⟩
   have Sd:=(S1.below hq).below (aQ wq)
   have ldV2:∀{u:World},Below wq.drew.heap.size wq.drew u->ai u kS bg (daL a n c b m e d++[B.v,C.v,M.v,T.v]):=λhu=>(Sd.below hu).at 6 rfl
   refine⟨λu=>Below wq.drew.heap.size wq.drew u,Below.refl _ _,rfl,rfl,T.a,T.n,T.c,λu hu=>(ldV2 hu).load1 aV rfl rfl,rfl,rfl,T.a,T.n,T.c,λu hu=>(ldV2 hu).load1 aV rfl rfl,?_⟩
   rw[hwr,Int.toNat_natCast]
   have OT2:Ow tHi aj wq.drew NoB T.a T.n T.c (tods1++[g]):=Sd.at 2 rfl
   have hTc:=OT2.2.1
   have OT3:=OT2.takeN (j:=tods1.length) (by simp)
   rw[List.take_left' rfl]at OT3
   have S2:=Sd.upd 2 rfl (Chg.refl _ _) (p':=ptO tHi aj T.a tods1.length T.c tods1) OT3 λb hb=>.inl hb
   obtain⟨wx,q,S3,_⟩:=S2.put kF 6 rfl (i:=7) (v:=.slice T.a tods1.length T.c) rfl rfl (show 7<8 by decide)
   refine⟨⟨by omega,by omega⟩,rfl,rfl,wx,q,rfl,((d.K:Nat):Int),by rw[hKK];exact ai.load1 aC rfl (A1.below S3.bw) rfl,?_⟩
   obtain⟨gS,gn⟩:=CS.gd S (by simp)
   have gd1:∀U∈todo1,U.Nodup/\∀t∈U,t<d.n:=λU hU=>CS.gd U (List.mem_append_left _ hU)
   have S3':Sp w1 (sPs kS (daL a n c b m e d) B C M ⟨T.a,tods1.length,T.c⟩ pool mems tods1 cl backs) wx:=S3
   clear S1 OT OT2 OT3 S2 S3 Sd ldV ldV2
   have hp1:pool.Perm (mems++(tods1++(g::rest))):=by
     refine iu λz=>?_
     have:=hp.count_eq z
     simp only[List.count_append,List.count_cons,List.count_nil]at this ⊢
     omega
   refine⟨λm1 i u=>∃(x:Nat) (M T:H3) (pool mems tods rest:List Hi) (cl':List Nat) (mem' todo':List (List Nat)),i=(x:Int)/\x <=d.K/\m1=d.K-x/\Eb d cl' mem'/\nX mems=mem'.map nI/\nX tods=todo'.map nI/\GC d cl' mem'.length/\(∀U∈todo',U.Nodup/\∀t∈U,t<d.n)/\
       (∃k,mem'.length=mem.length+k/\todo'.length=todo1.length+2*k)/\pU d (cf cl') (todo'++[S])/\(∀y,y<x->tG d (cf cl') S y)/\pool.Perm (mems++(tods++(g::rest)))/\Sp w1 (sPs kS (daL a n c b m e d) B C M T pool mems tods cl' backs) u,
     ⟨_,0,M,_,pool,mems,tods1,rest,cl,mem,todo1,rfl,Nat.zero_le _,rfl,CS.inv,CS.nm,nt1,CS.full,gd1,⟨0,rfl,rfl⟩,AP,(λy hy=>by omega),hp1,S3'⟩,?_⟩
   clear S3' hp1 hp AP
   have hml:=CS.le
   rw[List.length_append]at hml
   simp only[List.length_cons,List.length_nil]at hml
   intro m1 i
   refine aL.of ?_ _
   rintro u ⟨x,M,T,pool,mems,tods,rest,cl',mem',todo',rfl,hx,rfl,SI,nm,nt,FU,gd,⟨k,hk1,hk2⟩,AP,ST,hp,S4⟩
   have hfl2:=FU.le
   refine ah.of (λh5=>?_) (λh5=>?_) <;> simp only[dTx,dFx]at h5
   · have hxK:x<d.K:=by omega
     have hd2:=hd.k2
     have hxk:x+1 <=512:=by
       have:d.K <=512:=by(show d.k.toNat <=512;omega)
       omega
     refine aw (KK hd S4 BK SI AP FU nm nt hp hg gS gn hxK (by omega) gd) ?_
     rintro _ w48 ⟨rfl,M2,T2,pool2,mems2,tods2,rest2,cl2,mem2,todo2,S5,hp2,BS⟩
     obtain⟨k2,e1,e2⟩:=BS.grow
     refine⟨rfl,d.K-(x+1),by omega,x+1,M2,T2,pool2,mems2,tods2,rest2,cl2,mem2,todo2,by rw[ar (by omega) (by omega)];omega,hxK,rfl,BS.inv.inv,BS.nm,BS.nt,BS.full,BS.gd,⟨k+k2,by omega,by omega⟩,BS.inv.apart,λy hy=>?_,hp2,S5⟩
     by_cases e:y=x
     · subst e;exact BS.inv.stable
     · exact(ST y (by omega)).finer BS.inv.finer
   · have:x=d.K:=by omega
     subst this
     refine⟨_,?_,M,T,pool,mems,tods,g::rest,cl',mem',todo',rfl,⟨SI,nm,nt,FU,by omega,gd⟩,AP.drop ST (λU hU=>?_),hp,S4⟩
     · rw[List.length_append]
       simp only[List.length_cons,List.length_nil]
       omega
     · rcases List.mem_append.1 hU with hU|hU
       · exact .inr hU
       · rw[List.mem_singleton]at hU;exact .inl hU
 · have h0:todo=[]:=List.eq_nil_of_length_eq_zero (by omega)
   subst h0
   have OC:Ow bY aq wl NoB C.a C.n C.c (nI cl):=S1.at 3 rfl
   exact⟨rfl,rfl,C.a,C.n,C.c,(ldV (Below.refl _ _)).load1 aA rfl rfl,C.a,C.n,C.c,cl,rfl,OC.all,CS.inv.len,AP.cong hd CS.inv.acc,ab b1 S1.bw b1.size⟩
theorem tl {n s:Nat}(h:s<n):cf (List.range n) s=s:=by
 unfold cf
 rw[List.getD_eq_getElem?_getD,List.getElem?_range h];rfl
theorem Cq (d:DA):Gq d (cf (List.range d.n)) where
 acc:=λs t hs ht e=>by rw[tl hs,tl ht]at e;rw[e]
 «to»:=λs t x hs ht e hx=>by rw[tl hs,tl ht]at e;rw[e]
def pW (d:DA)(w:World)(v:Value)(w':World):Prop:=if okD d=true then ∃o,jb d o/\pj w o v w' else xG w v w'
set_option maxHeartbeats 1000000 in
theorem GJ {w:World}{a b:Option Addr}{n c m e:Nat}{d:DA}(h:DaS w a n c b m e d):
   Cf ma #[daV a n c b m e d] w (Ret (pW d w)):=by
 apply vi
 intro k1 w1 hk1 hw1 k2 w2 hk2 hw2
 have b1:=(hw1▸af w _:bW w w1)
 have b2:=(hw2▸af w1 _:bW w1 w2)
 have A1':ai w1 k1 ae (daL a n c b m e d):=ai.new hk1 hw1
 have A1:=A1'.below b2
 have A2:ai w2 k2 ae [vI 0,vI 0,.slice none 0 0,.slice none 0 0]:=ai.new hk2 hw2
 have B2:=ab b1 b2 b1.size
 have s1:=b1.size
 refine⟨_,_,a,n,c,b,m,e,bh.load0 (cs:=daL a n c b m e d) A1 rfl,?_⟩
 refine aw (ks (h.below B2)) ?_
 rintro _ w6 ⟨rfl,b6⟩
 have B6:=ab B2 b6 B2.size
 refine⟨_,rfl,ah.of (λh1=>?_) (λh1=>?_)⟩
 · have h1:okD d=false:=by simpa using h1
   obtain⟨wx,s1,s2,g1⟩:=cR (A2.below b6) rfl none 0 0 none 0 0 d0
   refine⟨wx,s1,_,_,none,0,0,none,0,0,s2,?_⟩
   unfold pW
   rw[if_neg (by rw[h1];decide)]
   exact⟨rfl,Below.put B6 g1 (by omega)⟩
 have h1:okD d=true:=by simpa using h1
 have hd:=eY.1 h1
 have Bd:=ab B6 (aQ w6) B6.size
 have A1d:=(A1.below b6).below (aQ w6)
 have A2d:=(A2.below b6).below (aQ w6)
 have hdd:=h.below Bd
 have l2:=A2d.lt
 refine⟨λp u=>∃(k4:Nat) (o:DA) (a n c:_) (b:Option Addr) (m e:Nat),p=some ⟨k4,0,none⟩/\jb d o/\Below w6.drew.heap.size w6.drew u/\ai u k4 ae (daL a n c b m e o)/\DaS u a n c b m e o,?_,?_⟩
 · have own:=fun{u:World} (hu:Below w6.drew.heap.size w6.drew u)=>AA (hdd.below hu) hd
   have ord:=fun{u:World} {a':Option Addr} (hu:Below w6.drew.heap.size w6.drew u) (hs:Ow bY aq u NoB a' d.n d.n (FH d.n))=>xj (hdd.below hu) hd (cl:=List.range d.n) hs.all (by simp) (Cq d)
   have fin:∀{u:World} {k4:Nat} {w0:World} {o:DA} {rs:List Nat} {a n c:_} {b:Option Addr} {m e:Nat},mP d (cf (List.range d.n)) o rs->Below w6.drew.heap.size w6.drew u->w6.drew.heap.size <=k4->ai u k4 ae [vI 0,vI 0,.slice none 0 0,.slice none 0 0]->ri w0.heap.size u a n c b m e o->(∀g,bi a=some g->g≠k4)->(∀g,bi b=some g->g≠k4)->
       ∃wx,(Instr.storeAt ae (.pointer (some ⟨k4,0,none⟩)) (daV a n c b m e o)).run prog u=.ok () wx/\
         ∃(k4':Nat) (o:DA) (a n c:_) (b:Option Addr) (m e:Nat),(some ⟨k4,0,none⟩:Option Addr)=some ⟨k4',0,none⟩/\jb d o/\Below w6.drew.heap.size w6.drew wx/\ai wx k4' ae (daL a n c b m e o)/\DaS wx a n c b m e o:=fun{u k4 w0 o rs a n c b m e} hI hu hk hA hO ha hb=>by
     obtain⟨wx,q,v,g⟩:=bh.store0 (P:=prog) (cs:=daL a n c b m e o) rfl (dt _ _ _ _ _ _ _) hA rfl
     exact⟨wx,q,k4,o,a,n,c,b,m,e,rfl,hI.tight hd (Cq d),hu.grown g hu.size (λr hr=>by cases hr;exact hk),v,⟨(hO.nx.put (λg hg=>ha g hg) g).all,(hO.ac.put (λg hg=>hb g hg) g).all⟩⟩
   refine⟨λu=>Below w6.drew.heap.size w6.drew u,Below.refl _ _,_,_,a,n,c,b,m,e,λu hu=>bh.load0 (cs:=daL a n c b m e d) (A1d.below hu) rfl,_,_,a,n,c,b,m,e,λu hu=>bh.load0 (cs:=daL a n c b m e d) (A1d.below hu) rfl,⟨?_,?_⟩⟩
   · refine aw (own (Below.refl _ _)) ?_
     rintro _ w11 ⟨a11,rfl,o11,f11,b11⟩
     refine⟨a11,_,_,rfl,b11,?_,?_⟩
     · refine aw (ord b11 o11) ?_
       rintro _ w12 ⟨o,rs,hI,a2,n2,c2,b2',m2,e2,rfl,hO,b12⟩
       have B12:=ab b11 b12 b11.size
       refine⟨_,_,a2,n2,c2,b2',m2,e2,rfl,B12,λk4 w4 hk4 hw4=>?_⟩
       have b4:=(hw4▸af w12 _:bW w12 w4)
       refine⟨ab B12 b4 B12.size,?_⟩
       have s12:=B12.size
       exact fin hI (ab B12 b4 B12.size) (by omega) (ai.new hk4 hw4) (hO.below b4) (λg hg=>by have:=hO.nx.lt g hg;omega) (λg hg=>by have:=hO.ac.lt g hg;omega)
     · intro k4 w4 hk4 hw4
       have b4:=(hw4▸af w11 _:bW w11 w4)
       have B4:=ab b11 b4 b11.size
       refine⟨B4,?_⟩
       refine aw (ord B4 (o11.below b4)) ?_
       rintro _ w12 ⟨o,rs,hI,a2,n2,c2,b2',m2,e2,rfl,hO,b12⟩
       have B12:=ab B4 b12 B4.size
       have s11:=b11.size
       have A4:ai w4 k4 ae [vI 0,vI 0,.slice none 0 0,.slice none 0 0]:=ai.new hk4 hw4
       have l4:=A4.lt
       exact⟨_,_,a2,n2,c2,b2',m2,e2,rfl,B12,fin hI B12 (by omega) (A4.below b12) hO (λg hg=>by have:=hO.fa g hg;omega) (λg hg=>by have:=hO.fb g hg;omega)⟩
   · intro k4 w4 hk4 hw4
     have b4:=(hw4▸af w6.drew _:Below w6.drew.heap.size w6.drew w4)
     refine⟨b4,?_⟩
     have A4:ai w4 k4 ae [vI 0,vI 0,.slice none 0 0,.slice none 0 0]:=ai.new hk4 hw4
     have l4:=A4.lt
     refine aw (own b4) ?_
     rintro _ w11 ⟨a11,rfl,o11,f11,b11⟩
     have B11:=ab b4 b11 b4.size
     refine⟨a11,_,_,rfl,B11,?_⟩
     refine aw (ord B11 o11) ?_
     rintro _ w12 ⟨o,rs,hI,a2,n2,c2,b2',m2,e2,rfl,hO,b12⟩
     have B12:=ab B11 b12 B11.size
     have s11:=b11.size
     exact⟨_,_,a2,n2,c2,b2',m2,e2,rfl,B12,fin hI B12 (by omega) ((A4.below b11).below b12) hO (λg hg=>by have:=hO.fa g hg;omega) (λg hg=>by have:=hO.fb g hg;omega)⟩
 intro p4
 refine aL.of ?_ _
 rintro wj ⟨k4,o,a3,n3,c3,b3,m3,e3,rfl,hT,bj,A4,D4⟩
 have bjd:=ab bj (aQ wj) bj.size
 have D5:=D4.below (aQ wj)
 refine⟨λu=>Below wj.drew.heap.size wj.drew u,Below.refl _ _,_,_,a3,n3,c3,b3,m3,e3,λu hu=>bh.load0 (cs:=daL a3 n3 c3 b3 m3 e3 o) ((A4.below (aQ wj)).below hu) rfl,_,_,a3,n3,c3,b3,m3,e3,λu hu=>bh.load0 (cs:=daL a3 n3 c3 b3 m3 e3 o) ((A4.below (aQ wj)).below hu) rfl,?_⟩
 refine aw (Dg D5 hT.ok) ?_
 rintro _ w15 ⟨ac,nc,cc,cl,rfl,hcl,hcln,hcong,b15⟩
 refine⟨ac,nc,cc,rfl,b15,?_⟩
 refine aw (xj (D5.below b15) hT.ok hcl hcln hcong) ?_
 rintro _ w16 ⟨o2,rs2,hI2,a6,n6,c6,b6',m6,e6,rfl,hO,b16⟩
 have B16:=ab b15 b16 b15.size
 have Bf:=ab bjd B16 bjd.size
 obtain⟨wx,s1,s2,g1⟩:=cR (A2d.below Bf) rfl a6 n6 c6 b6' m6 e6 o2
 refine⟨_,_,a6,n6,c6,b6',m6,e6,rfl,B16,wx,s1,_,_,a6,n6,c6,b6',m6,e6,s2,?_⟩
 unfold pW
 rw[if_pos h1]
 have s15:=b15.size
 have sj:=bjd.size
 have sd:=Bd.size
 exact⟨o2,hT.trans (hI2.tight hT.ok hcong),a6,n6,c6,b6',m6,e6,rfl,(hO.put g1 (by omega)).mono (by omega),Below.put (ab Bd Bf Bd.size) g1 (by omega)⟩
def pV (da db:DA)(w:World)(v:Value)(w':World):Prop:=if dz da db=true then ∃p ps o,fN da db (λx y=>x&&y) p ps/\jb p o/\pj w o v w' else xG w v w'
set_option maxHeartbeats 1000000 in
theorem EE {w:World}{aa ba ca ea:Option Addr}{an ac bn bc cn cc en ec:Nat}{da db:DA}(hA:DaS w aa an ac ba bn bc da)(hB:DaS w ca cn cc ea en ec db)(hf:da.Ok->db.Ok->da.k=db.k->Few da db):
   Cf jw #[daV aa an ac ba bn bc da,daV ca cn cc ea en ec db] w (Ret (pV da db w)):=by
 apply ve
 intro k2 w2 hk2 hw2 k3 w3 hk3 hw3 k4 w4 hk4 hw4
 have b2:=(hw2▸af w _:bW w w2)
 have b3:=(hw3▸af w2 _:bW w2 w3)
 have b4:=(hw4▸af w3 _:bW w3 w4)
 have A2:ai w2 k2 ae (daL aa an ac ba bn bc da):=ai.new hk2 hw2
 have A3:ai w3 k3 ae (daL ca cn cc ea en ec db):=ai.new hk3 hw3
 have A4:ai w4 k4 ae [vI 0,vI 0,.slice none 0 0,.slice none 0 0]:=ai.new hk4 hw4
 have B4:bW w w4:=ab (ab b2 b3 b2.size) b4 (Nat.le_trans b2.size b3.size)
 have o4:w.heap.size <=k4:=by have:=b2.size;have:=b3.size;omega
 have l4:=A4.lt
 refine⟨_,_,aa,an,ac,ba,bn,bc,bh.load0 (cs:=daL aa an ac ba bn bc da) ((A2.below b3).below b4) rfl,_,_,ca,cn,cc,ea,en,ec,bh.load0 (cs:=daL ca cn cc ea en ec db) (A3.below b4) rfl,?_⟩
 refine aw (py (hA.below B4) (hB.below B4) hf) ?_
 intro v w11 hP
 by_cases hok:dz da db=true
 · unfold lO at hP
   rw[if_pos hok]at hP
   obtain⟨p,ps,hI,a1,n1,c1,b1,m1,e1,rfl,O,hb⟩:=hP
   obtain⟨oka,okb,hk⟩:da.Ok/\db.Ok/\da.k=db.k:=by
     unfold dz at hok
     rw[Bool.and_eq_true,Bool.and_eq_true,beq_iff_eq]at hok
     exact⟨eY.1 hok.1,eY.1 hok.2.1,hok.2.2⟩
   have hpo:p.Ok:=hI.ok oka (hf oka okb hk ps hI.nd hI.reach)
   refine⟨_,_,a1,n1,c1,b1,m1,e1,_,rfl,?_⟩
   intro k6 w6 hk6 hw6
   have b6:=(hw6▸af w11 _:bW w11 w6)
   have A6:ai w6 k6 ae [vI 0,vI 0,.slice none 0 0,.slice none 0 0]:=ai.new hk6 hw6
   obtain⟨wx,q1,v1,g1⟩:=bh.store0 (P:=prog) (cs:=daL a1 n1 c1 b1 m1 e1 p) rfl (dt _ _ _ _ _ _ _) A6 rfl
   have bx:bW w11 wx:=Below.put b6 g1 (by omega)
   have Bx:=ab hb bx hb.size
   refine⟨wx,q1,ah.no rfl ?_⟩
   refine⟨_,_,a1,n1,c1,b1,m1,e1,bh.load0 (cs:=daL a1 n1 c1 b1 m1 e1 p) v1 rfl,?_⟩
   refine aw (GJ (O.das.below bx)) ?_
   intro v w19 hv
   unfold pW at hv
   rw[if_pos (eY.2 hpo)]at hv
   obtain⟨o,hT,a2,n2,c2,b2',m2,e2,rfl,O2,b19⟩:=hv
   have B19:=ab Bx b19 Bx.size
   obtain⟨wy,s1,s2,g2⟩:=cR (A4.below B19) rfl a2 n2 c2 b2' m2 e2 o
   refine⟨_,_,a2,n2,c2,b2',m2,e2,_,rfl,wy,s1,_,_,a2,n2,c2,b2',m2,e2,s2,?_⟩
   unfold pV
   rw[if_pos hok]
   have sx:=Bx.size
   have s4:=B4.size
   exact⟨p,ps,o,hI,hT,a2,n2,c2,b2',m2,e2,rfl,(O2.put g2 (by omega)).mono (by omega),Below.put (ab B4 B19 B4.size) g2 o4⟩
 · unfold lO at hP
   rw[if_neg hok]at hP
   obtain⟨rfl,hb⟩:=hP
   refine⟨_,_,none,0,0,none,0,0,_,rfl,?_⟩
   intro k6 w6 hk6 hw6
   have b6:=(hw6▸af w11 _:bW w11 w6)
   have A6:ai w6 k6 ae [vI 0,vI 0,.slice none 0 0,.slice none 0 0]:=ai.new hk6 hw6
   obtain⟨wx,q1,v1,g1⟩:=bh.store0 (P:=prog) (cs:=daL none 0 0 none 0 0 d0) rfl (dt _ _ _ _ _ _ _) A6 rfl
   have bx:bW w11 wx:=Below.put b6 g1 (by omega)
   have Bx:=ab hb bx hb.size
   obtain⟨wy,s1,s2,g2⟩:=cR (A4.below Bx) rfl none 0 0 none 0 0 d0
   refine⟨wx,q1,ah.yes rfl ⟨_,_,none,0,0,none,0,0,bh.load0 (cs:=daL none 0 0 none 0 0 d0) v1 rfl,wy,s1,_,_,none,0,0,none,0,0,s2,?_⟩⟩
   unfold pV
   rw[if_neg hok]
   exact⟨rfl,Below.put (ab B4 Bx B4.size) g2 o4⟩
end Go.Pk
