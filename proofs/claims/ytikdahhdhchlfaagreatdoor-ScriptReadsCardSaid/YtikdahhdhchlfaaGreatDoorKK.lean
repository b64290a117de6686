/- What the laws lean on: JarA, JarB, JarC, JarD, JarE, JarG, ScrR, ScrI, OpX, V27, ScrJ, ScrO, StpL, ScrQ, ScrT, HostX, ScrU, ScrV; what is used. Its conditions: none. -/
import Derived.Test.YtikdahhdhchlfaaGreatDoorKJ
set_option linter.unusedVariables false
set_option linter.unusedSimpArgs false
set_option linter.unusedSectionVars false
set_option maxRecDepth 100000
open Go.IntKind (i64)
open Go.Proofs.Tryz
open List (length)
open Option (isSome)
namespace Go.Pk
open Go.RowKit (Below)
open Go.Proofs
theorem j0.chg {F:List Nat}{w0:World}{t te:TypeId}{kt km:Nat}{a:Option Addr}{n c:Nat}{ps:List Pth}{kvs:List (jq×Int)}{es:List (List Bool)}{rs:List Rul}{w w':World}(S:j0 w0 t te kt km a n c ps kvs es rs w)(h:Chg F w w')
   (hF:∀k∈F,w0.heap.size <=k/\k≠kt/\k≠km/\eJ a≠some k):j0 w0 t te kt km a n c ps kvs es rs w':=
 ⟨h.arr S.h1 λm=>(hF _ m).2.1 rfl,S.h2.keep (h.block km S.h2.lt λm=>(hF _ m).2.2.1 rfl),S.h3.keep (h.keep.mono λb hb m=>hb.elim (λx=>x.elim) λe=>(hF _ m).2.2.2 e.symm),S.T,S.t,
   S.hb.trans (h.below S.hb.size λk hk=>(hF k hk).1),S.ne,S.og,S.kt0,S.km0⟩
structure EQ (w0:World)(tj ts tt te:TypeId)(pj p ma ms kt km:Nat)(a:Option Addr)(n c:Nat)(ps:List Pth)(kvs:List (jq×Int))(es:List (List Bool))(rs:List Rul)(s:JS)(w:World):Prop where
 cell:ao w pj tj [vI s.now,.pointer (some ⟨kt,0,none⟩),.pointer (some ⟨p,0,none⟩)]
 shf:Shf ts p ma ms s.L s.last w
 tab:j0 w0 tt te kt km a n c ps kvs es rs w
 far:∀k∈[pj,p,ma,ms],w0.heap.size <=k/\k≠kt/\k≠km/\eJ a≠some k
 own:pj ∉ [p,ma,ms]
theorem EQ.below {w0:World}{tj ts tt te:TypeId}{pj p ma ms kt km:Nat}{a:Option Addr}{n c:Nat}{ps:List Pth}{kvs:List (jq×Int)}{es:List (List Bool)}{rs:List Rul}{s:JS}{w w':World}(J:EQ w0 tj ts tt te pj p ma ms kt km a n c ps kvs es rs s w)(h:bW w w'):EQ w0 tj ts tt te pj p ma ms kt km a n c ps kvs es rs s w':=
 ⟨J.cell.below h,J.shf.below h,J.tab.below h,J.far,J.own⟩
theorem EQ.step {w0:World}{tj ts tt te:TypeId}{pj p ma ms kt km:Nat}{a:Option Addr}{n c:Nat}{ps:List Pth}{kvs:List (jq×Int)}{es:List (List Bool)}{rs:List Rul}{s:JS}{w w':World}(J:EQ w0 tj ts tt te pj p ma ms kt km a n c ps kvs es rs s w){L':List Kpt}{la:Int}
   (hc:Chg [p,ma,ms] w w') (hs:Shf ts p ma ms L' la w'):EQ w0 tj ts tt te pj p ma ms kt km a n c ps kvs es rs ⟨L',la,s.now⟩ w':=
 ⟨hc.arr J.cell J.own,hs,J.tab.chg hc λk hk=>J.far k (List.mem_cons_of_mem _ hk),J.far,J.own⟩
theorem EQ.time {w0:World}{tj ts tt te:TypeId}{pj p ma ms kt km:Nat}{a:Option Addr}{n c:Nat}{ps:List Pth}{kvs:List (jq×Int)}{es:List (List Bool)}{rs:List Rul}{s:JS}{w w':World}(J:EQ w0 tj ts tt te pj p ma ms kt km a n c ps kvs es rs s w){now:Int}
   (hg:w.grownBy w' (some pj)) (hc:ao w' pj tj [vI now,.pointer (some ⟨kt,0,none⟩),.pointer (some ⟨p,0,none⟩)]):EQ w0 tj ts tt te pj p ma ms kt km a n c ps kvs es rs ⟨s.L,s.last,now⟩ w':=
 ⟨hc,J.shf.put hg J.own,J.tab.chg (Chg.grown (S:=[pj]) hg (List.mem_singleton.2 rfl)) (λk hk=>J.far k (by rw[List.mem_singleton]at hk;subst hk;exact List.mem_cons_self ..)),J.far,J.own⟩
def Lj (w0:World)(tj ts tt te:TypeId)(pj:Nat)(F:List Nat)(rs:List Rul)(s:JS)(w:World):Prop:=
 ∃p ma ms kt km a n c ps kvs es,F=[pj,p,ma,ms]/\EQ w0 tj ts tt te pj p ma ms kt km a n c ps kvs es rs s w
theorem Lj.below {w0:World}{tj ts tt te:TypeId}{pj:Nat}{F:List Nat}{rs:List Rul}{s:JS}{w w':World}(J:Lj w0 tj ts tt te pj F rs s w)(h:bW w w'):Lj w0 tj ts tt te pj F rs s w':=by
 obtain⟨p,ma,ms,kt,km,a,n,c,ps,kvs,es,e,J⟩:=J
 exact⟨p,ma,ms,kt,km,a,n,c,ps,kvs,es,e,J.below h⟩
theorem Lj.base {w0:World}{tj ts tt te:TypeId}{pj:Nat}{F:List Nat}{rs:List Rul}{s:JS}{w:World}(J:Lj w0 tj ts tt te pj F rs s w):bW w0 w/\∀k∈F,w0.heap.size <=k/\k<w.heap.size:=by
 obtain⟨p,ma,ms,kt,km,a,n,c,ps,kvs,es,rfl,J⟩:=J
 refine⟨J.tab.hb,λk hk=>⟨(J.far k hk).1,?_⟩⟩
 have h1:=J.shf.lts
 have h2:=J.cell.lt
 simp at hk
 rcases hk with rfl|rfl|rfl|rfl <;> omega
abbrev GH (w0:World)(pj:Nat)(F:List Nat)(rs:List Rul)(s:JS)(w:World):Prop:=Lj w0 jK aO aV bi pj F rs s w
theorem LO {w0:World}{kt km:Nat}{a:Option Addr}{n c:Nat}{ps:List Pth}{kvs:List (jq×Int)}{es:List (List Bool)}{rs:List Rul}{w:World}(S:j0 w0 aV bi kt km a n c ps kvs es rs w):
   Cf AC #[.pointer (some ⟨kt,0,none⟩)] w (Ret λv w'=>∃pj F,v=.pointer (some ⟨pj,0,none⟩)/\GH w0 pj F rs (js0 0) w'/\(∀k∈F,w.heap.size <=k)/\bW w w'):=by
 apply JO
 refine aw (ym w) ?_
 rintro _ w4 ⟨p,ma,ms,rfl,hs,l1,l2,l3,hb⟩
 refine⟨_,rfl,λk6 w6 hk6 hw6=>?_⟩
 have b6:bW w4 w6:=hw6▸ai w4 _
 have h6:ao w6 k6 jK [vI 0,.pointer (some ⟨kt,0,none⟩),.pointer (some ⟨p,0,none⟩)]:=ao.new hk6 hw6
 have hl:=hs.lts
 have t1:=S.h1.lt
 have t2:=S.h2.lt
 have t3:=S.h3.lt
 have sz:=S.hb.size
 have sw:=hb.size
 have hF:∀k∈[k6,p,ma,ms],w.heap.size <=k:=λk hk=>by
   simp at hk
   rcases hk with rfl|rfl|rfl|rfl <;> omega
 refine⟨k6,[k6,p,ma,ms],rfl,⟨p,ma,ms,kt,km,a,n,c,ps,kvs,es,rfl,h6,hs.below b6,(S.below hb).below b6,λk hk=>?_,?_⟩,hF,aa hb b6 hb.size⟩
 · have:=hF k hk
   exact⟨by omega,by omega,by omega,λe=>by have:=t3 _ e;omega⟩
 · simp;omega
section
variable {w0:World} {pj:Nat} {F:List Nat} {rs:List Rul} {s:JS} {w:World}
def Kf (w0:World)(pj:Nat)(F:List Nat)(rs:List Rul)(s':JS)(w w':World):Prop:=∃F',GH w0 pj F' rs s' w'/\Chg F w w'/\∀k∈F',k∈F\/w.heap.size <=k
theorem Kf.same {w':World}{s':JS}(J:GH w0 pj F rs s' w')(hc:Chg F w w'):Kf w0 pj F rs s' w w':=⟨F,J,hc,λk hk=>.inl hk⟩
theorem Ht (J:GH w0 pj F rs s w):Cf lC #[.pointer (some ⟨pj,0,none⟩)] w (Ret λv w'=>v=.tuple #[]/\Kf w0 pj F rs (js0 s.now) w w'):=by
 obtain⟨p,ma,ms,kt,km,a,n,c,ps,kvs,es,rfl,J⟩:=J
 apply xJ
 refine aw (ym w) ?_
 rintro _ w4 ⟨p',ma',ms',rfl,hs,l1,l2,l3,hb⟩
 have J4:=J.below hb
 have hl:=hs.lts
 have hpj:=J.cell.lt
 obtain⟨wx,q,hx,g⟩:=J4.cell.put zy (i:=2) (v:=.pointer (some ⟨p',0,none⟩)) (show 2<3 by decide) rfl rfl
 have t1:=J.tab.h1.lt
 have t2:=J.tab.h2.lt
 have t3:=J.tab.h3.lt
 have sz:=J.tab.hb.size
 refine⟨_,rfl,rfl,rfl,wx,q,rfl,[pj,p',ma',ms'],⟨p',ma',ms',kt,km,a,n,c,ps,kvs,es,rfl,hx,hs.put g (by simp;omega),J4.tab.chg (Chg.grown (S:=[pj]) g (List.mem_singleton.2 rfl)) (λk hk=>J.far k (by rw[List.mem_singleton]at hk;subst hk;exact List.mem_cons_self ..)),λk hk=>?_,by simp;omega⟩,
   ⟨g.os.trans hb.os,g.tape.trans hb.tape,g.output.trans hb.output,Nat.le_trans hb.size g.size,λk hk hn=>(g.block k (Nat.lt_of_lt_of_le hk hb.size) (λe=>hn (by cases e;exact List.mem_cons_self ..))).trans (hb.block k hk)⟩,λk hk=>?_⟩
 · rcases List.mem_cons.1 hk with rfl|hk
   · exact J.far _ (List.mem_cons_self ..)
   · have:w.heap.size <=k:=by
       simp at hk
       rcases hk with rfl|rfl|rfl <;> omega
     exact⟨by omega,by omega,by omega,λe=>by have:=t3 _ e;omega⟩
 · rcases List.mem_cons.1 hk with rfl|hk
   · exact .inl (List.mem_cons_self ..)
   · refine .inr ?_
     simp at hk
     rcases hk with rfl|rfl|rfl <;> omega
theorem Jn (J:GH w0 pj F rs s w){m:Nat}(ji:JI s m)(hm:m <=1000000)(n:Int)(hn:n <=9223372036854775807):
   Cf mZ #[.pointer (some ⟨pj,0,none⟩),vI n] w (Ret λv w'=>v=vI (wg s n).2/\Kf w0 pj F rs (wg s n).1 w w'):=by
 have J':=J
 obtain⟨p,ma,ms,kt,km,a,n',c,ps,kvs,es,rfl,J⟩:=J
 apply zi
 have h0:=ji.n0
 have h1:=ji.n1
 have hf:=ji.few
 have hw:i64.wrap ((1099511627776:Int)-s.now)=1099511627776-s.now:=wrap_i64 (by omega) (by omega)
 have bad:n<0\/1099511627776-s.now<n->(vI 122=vI (wg s n).2/\Kf w0 pj [pj,p,ma,ms] rs (wg s n).1 w w):=λe=>by
   unfold wg
   rw[if_pos e]
   exact⟨rfl,Kf.same J' (Chg.refl _ _)⟩
 refine⟨λwj=>wj=w/\ ¬ (n<0\/1099511627776-s.now<n),?_,aJ.of ?_ _⟩
 · refine ab.of (λe=>bad (.inl (of_decide_eq_true e))) (λe=>⟨rfl,rfl,rfl,_,J.cell.load1 bP rfl (i:=0) rfl,?_⟩)
   rw[hw]
   refine ab.of (λe2=>bad (.inr (of_decide_eq_true e2))) (λe2=>⟨rfl,?_⟩)
   have:=of_decide_eq_false e
   have:=of_decide_eq_false e2
   omega
 · rintro wj ⟨hwj,hno⟩
   rw[hwj]
   have hw2:i64.wrap (s.now+n)=s.now+n:=wrap_i64 (by omega) (by omega)
   obtain⟨wx,q1,c2,g1⟩:=J.cell.put vZ (i:=0) (v:=vI (s.now+n)) (show 0<3 by decide) rfl rfl
   have Jx:=J.time g1 c2
   refine⟨rfl,rfl,rfl,_,J.cell.load1 bP rfl (i:=0) rfl,rfl,rfl,rfl,wx,by rw[hw2];exact q1,rfl,rfl,rfl,rfl,rfl,_,λu hu=>(Jx.below hu).cell.load1 bR rfl (i:=2) rfl,_,λu hu=>(Jx.below hu).cell.load1 bP rfl (i:=0) rfl,λwq hq=>?_⟩
   refine aw (rb (Jx.below hq).shf (by show s.L.length <=_;omega) (s.now+n)) ?_
   rintro _ w36 ⟨⟨n36,rfl⟩,hs,hc⟩
   refine⟨_,rfl,?_⟩
   unfold wg
   rw[if_neg hno]
   refine⟨rfl,Kf.same ⟨p,ma,ms,kt,km,a,n',c,ps,kvs,es,rfl,(Jx.below hq).step hc hs⟩ ?_⟩
   exact((Chg.grown g1 (List.mem_cons_self ..)).step hq).trans (hc.mono λk hk=>List.mem_cons_of_mem _ hk)
theorem Jo {c:Cky}(o:c.ok)(s:T8 c)(w:World):Cf xk #[c.v] w (Ret λv w'=>v=vS (uH c)/\bW w w'):=by
 apply HY
 intro k1 w1 hk1 hw1
 obtain⟨b1,B1,l1⟩:=GX (P:=prog) (Below.refl w.heap.size w) hk1 hw1
 have a1:ao w1 k1 af c.cells:=ao.new hk1 hw1
 have h1:=s.nm
 have h2:=s.vl
 unfold uH
 refine⟨rfl,_,a1.load1 av rfl (i:=0) rfl,ab.of (λe=>?_) (λe=>?_)⟩
 · have e:c.name=[]:=by simpa using e
   rw[if_pos e]
   exact⟨rfl,_,a1.load1 av rfl (i:=1) rfl,rfl,B1⟩
 · have e: ¬ c.name=[]:=by simpa using e
   rw[if_neg e]
   refine⟨rfl,_,a1.load1 av rfl (i:=0) rfl,fits (by simp;omega),λs1 hs1=>⟨rfl,_,a1.load1 av rfl (i:=1) rfl,fits (by rw[hs1];simp;omega),λs2 hs2=>⟨by rw[hs2,hs1],B1⟩⟩⟩
theorem Jp (he:Env w0)(J:GH w0 pj F rs s w){c:Cky}(o:c.ok)(hn:c.host.name.length <=1000000000):
   Cf na #[.pointer (some ⟨pj,0,none⟩),c.v] w (Ret λv w'=>v=vS (uJ rs c.host)/\bW w w'):=by
 obtain⟨p,ma,ms,kt,km,a,n,c',ps,kvs,es,rfl,J⟩:=J
 apply zj
 intro k3 w3 hk3 hw3
 obtain⟨b3,B3,l3⟩:=GX (P:=prog) (Below.refl w.heap.size w) hk3 hw3
 have a3:ao w3 k3 af c.cells:=ao.new hk3 hw3
 have J3:=J.below B3
 have lh:∀{wx},bW w3 wx->(Instr.loadAt ae (.pointer (some ⟨k3,2,none⟩))).run prog wx=.ok c.host.v wx:=λhb=>aP.load (a3.below hb) (i:=2) (us:=c.host.cells) (Hst.len o) (λj hj=>uZ o hj)
 refine⟨rfl,rfl,_,λu hu=>(J3.below hu).cell.load1 nT rfl (i:=1) rfl,rfl,_,λu hu=>lh hu,H9 rs c.host,λu hu=>?_,λwq hq=>?_⟩
 · refine(DS he (J3.below hu).tab o hn).mono ?_
   rintro e w' ⟨v,rfl,rfl,hb⟩
   exact⟨rfl,hb.mono hu.size⟩
 · have Bq:=aa B3 hq B3.size
   unfold uJ
   refine ab.of (λe=>?_) (λe=>?_)
   · have e: ¬ H9 rs c.host=[]:=by simpa using e
     rw[if_neg e]
     exact⟨rfl,Bq⟩
   · have e:H9 rs c.host=[]:=by simpa using e
     rw[if_pos e]
     refine⟨rfl,_,lh hq,?_⟩
     refine aw (jS o wq (he.step (J3.below hq).tab.hb)) ?_
     rintro _ w18 ⟨rfl,hb18⟩
     exact⟨_,rfl,rfl,aa Bq hb18 Bq.size⟩
end
theorem L0 {x c:Cky}(ox:x.ok)(oc:c.ok)(xn:x.host.name.length <=1000000000)(cn:c.host.name.length <=1000000000)(xp:x.path.length <=1000000000)(cp:c.path.length <=1000000000){w:World}(he:Env w){kq:Nat}(hq:ao w kq af c.cells):
   Cf bm #[x.v,.pointer (some ⟨kq,0,none⟩)] w (Ret λv w'=>v=.bool (HK x c)/\bW w w'):=by
 apply pr
 intro k2 w2 hk2 hw2
 obtain⟨b2,B2,l2⟩:=GX (P:=prog) (Below.refl w.heap.size w) hk2 hw2
 have a2:ao w2 k2 af x.cells:=ao.new hk2 hw2
 have a3:=hq.below B2
 have he2:=he.step B2
 have lx:∀{wx},bW w2 wx->(Instr.loadAt ae (.pointer (some ⟨k2,2,none⟩))).run prog wx=.ok x.host.v wx:=λhb=>aP.load (a2.below hb) (i:=2) (us:=x.host.cells) (Hst.len ox) (λj hj=>uZ ox hj)
 have lc:∀{wx},bW w2 wx->(Instr.loadAt ae (.pointer (some ⟨kq,2,none⟩))).run prog wx=.ok c.host.v wx:=λhb=>aP.load (a3.below hb) (i:=2) (us:=c.host.cells) (Hst.len oc) (λj hj=>uZ oc hj)
 have b0:=Below.refl w2.heap.size w2
 refine uX (λb w'=>b=(GK x.host c.host || GK c.host x.host)/\bW w2 w') ?_ ?_
 · refine⟨rfl,_,lx b0,rfl,_,lc b0,?_⟩
   refine aw (jg ox oc xn cn w2 he2) ?_
   rintro _ w4 ⟨rfl,hb4⟩
   refine⟨_,rfl,ab.of (λe=>⟨by rw[e];rfl,hb4⟩) (λe=>?_)⟩
   refine⟨rfl,_,lc hb4,rfl,_,lx hb4,?_⟩
   refine aw (jg oc ox cn xn w4 (he2.step hb4)) ?_
   rintro _ w5 ⟨rfl,hb5⟩
   exact⟨_,rfl,by rw[e];rfl,aa hb4 hb5 hb4.size⟩
 · rintro b wj ⟨rfl,hbj⟩
   have hBj:=aa B2 hbj B2.size
   have c2:=a2.below hbj
   have c3:=a3.below hbj
   unfold HK
   refine⟨rfl,_,c2.load1 ci rfl (i:=22) (cq ox 2),ab.of (λe=>?_) (λe=>⟨by rw[e];rfl,hBj⟩)⟩
   refine⟨rfl,_,c2.load1 av rfl (i:=0) rfl,rfl,_,c3.load1 av rfl (i:=0) rfl,ab.of (λe2=>?_) (λe2=>⟨by rw[e,e2];rfl,hBj⟩)⟩
   refine ab.of (λe3=>?_) (λe3=>⟨by rw[e,e2,e3];rfl,hBj⟩)
   refine⟨rfl,_,c3.load1 av rfl (i:=21) (cq oc 1),rfl,_,c2.load1 av rfl (i:=21) (cq ox 1),?_⟩
   refine aw (vy c.path x.path (by omega) wj) ?_
   rintro _ w6 ⟨rfl,hw6⟩
   rw[hw6]
   exact⟨_,rfl,by rw[e,e2,e3];rfl,hBj⟩
theorem JC {A:Bl}{a:Option Addr}{l c':Nat}{xs:List Cky}{w:World}(hs:Sl uK w A a l c' xs)(hl:xs.length <=1000000)(hx:∀x∈xs,x.ok/\x.host.name.length <=1000000000/\x.path.length <=1000000000){c:Cky}(oc:c.ok)(cn:c.host.name.length <=1000000000)(cp:c.path.length <=1000000000)
   (he:Env w) {kq:Nat} (hq:ao w kq af c.cells):
   Cf ba #[.slice a l c',.func (.func bm) #[] #[.pointer (some ⟨kq,0,none⟩)]] w (Ret λv w'=>(∃n:Int,v=vI n/\decide (n >=0)=xs.any λx=>HK x c)/\bW w w'):=by
 apply dp
 have hn:=hs.len
 subst hn
 refine⟨λm i wl=>∃k:Nat,k <=xs.length/\i=(k:Int)/\m=xs.length-k/\(∀x∈xs.take k,HK x c=false)/\bW w wl,⟨_,0,by omega,rfl,rfl,(λx hx=>by rw[List.take_zero]at hx;cases hx),Below.refl _ _⟩,?_⟩
 intro m1 i1
 refine aJ.of ?_ _
 rintro wl ⟨k,hk,rfl,rfl,hno,hbl⟩
 refine ab.of (λhi=>?_) (λhi=>?_) <;> simp only[dTx,dFx]at hi
 · have hlt:k<xs.length:=by omega
   have hsl:=hs.below hbl
   obtain⟨hld,-⟩:=vv be hsl hlt
   refine⟨⟨⟨by omega,by omega⟩,hsl.isSome hlt⟩,_,hld,?_⟩
   have hmem:=List.getElem_mem hlt
   obtain⟨ox,xn,xp⟩:=hx _ hmem
   have hwk:i64.wrap ((k:Int)+1)=((k+1:Nat):Int):=by rw[wrap_i64 (by omega) (by omega)];omega
   try dsimp only
   rw[hwk]
   refine aw (L0 ox oc xn cn xp cp (he.step hbl) (hq.below hbl)) ?_
   rintro _ w16 ⟨rfl,hb16⟩
   have b16:=aa hbl hb16 hbl.size
   refine⟨_,rfl,ab.of (λe=>⟨⟨_,rfl,?_⟩,b16⟩) (λe=>⟨xs.length-(k+1),by omega,k+1,by omega,rfl,rfl,?_,b16⟩)⟩
   · try dsimp only
     rw[decide_eq_true (show(k:Int) >=0 by omega)]
     exact(List.any_eq_true.2 ⟨_,hmem,e⟩).symm
   · intro y hy
     rw[jV hlt,List.mem_append]at hy
     rcases hy with hy|hy
     · exact hno y hy
     · rw[List.mem_singleton]at hy;subst hy;exact e
 · have:k=xs.length:=by omega
   subst this
   rw[List.take_length]at hno
   refine⟨⟨_,rfl,?_⟩,hbl⟩
   rw[show decide ((-1:Int) >=0)=false by decide]
   symm
   rw[List.any_eq_false]
   intro x hx;rw[hno x hx];decide
section
variable {w0:World} {pj:Nat} {F:List Nat} {rs:List Rul} {s:JS} {w:World}
theorem AM (he:Env w0)(J:GH w0 pj F rs s w){m:Nat}(ji:JI s m)(hm:m <=1000000){c:Cky}(oc:c.ok)(cn:c.host.name.length <=1000000000)(cp:c.path.length <=1000000000):
   Cf iZ #[.pointer (some ⟨pj,0,none⟩),c.v] w (Ret λv w'=>v=.bool (s.L.any λk=>HK k.c c)/\bW w w'):=by
 have hbs:=J.base.1
 obtain⟨p,ma,ms,kt,km,a,n,c',ps,kvs,es,rfl,J⟩:=J
 apply sp
 intro k3 w3 hk3 hw3
 obtain⟨b3,B3,l3⟩:=GX (P:=prog) (Below.refl w.heap.size w) hk3 hw3
 have a3:ao w3 k3 af c.cells:=ao.new hk3 hw3
 have J3:=J.below B3
 have hf:=ji.few
 have hla:=ji.last
 refine⟨rfl,rfl,_,J3.cell.load1 bR rfl (i:=2) rfl,?_⟩
 refine aw (yl J3.shf (by omega) (by omega)) ?_
 rintro _ w9 ⟨a',n',c'',rfl,ho,hfr,hb9⟩
 have B9:=aa B3 hb9 B3.size
 refine⟨_,_,_,rfl,?_⟩
 refine aw (?_:Cf bZ #[.slice a' n' c'',.func (.func bm) #[] #[.pointer (some ⟨k3,0,none⟩)]] w9 (Ret λv w'=>v=.bool (s.L.any λk=>HK k.c c)/\bW w w')) ?_
 · apply cW
   refine aw (JC ho.all (by rw[List.length_map];omega) (λx hx=>?_) oc cn cp (he.step (aa hbs B9 hbs.size)) (a3.below hb9)) ?_
   · obtain⟨k,hk,rfl⟩:=List.mem_map.1 hx
     have h1:=uD k.ok (ji.right k hk)
     have h2:=(ji.sm k hk).pt
     exact⟨k.ok,by omega,by omega⟩
   · rintro _ w7 ⟨⟨n7,rfl,hn⟩,hb7⟩
     refine⟨_,rfl,?_,aa B9 hb7 B9.size⟩
     rw[hn,List.any_map];rfl
 · rintro _ w11 ⟨rfl,hb⟩
   exact⟨_,rfl,rfl,hb⟩
theorem LQ (J:GH w0 pj F rs s w)(hs:ShI s.L s.last)(hl:s.L.length <=1000000)(t:List UInt8):
   Cf oH #[.pointer (some ⟨pj,0,none⟩),vS t] w (Ret λv w'=>v=.tuple #[]/\GH w0 pj F rs ⟨Uu t s.L,s.last,s.now⟩ w'/\Chg F w w'):=by
 obtain⟨p,ma,ms,kt,km,a,n,c',ps,kvs,es,rfl,J⟩:=J
 apply Bn
 unfold Uu
 refine⟨λm wl=>∃L':List Kpt,m=L'.length/\L'.length <=1000000/\ShI L' s.last/\PK t (Nr t s.L.length s.L) L'/\EQ w0 jK aO aV bi pj p ma ms kt km a n c' ps kvs es rs ⟨L',s.last,s.now⟩ wl/\Chg [pj,p,ma,ms] w wl,
   ⟨_,s.L,rfl,hl,hs,PK.of _ _,J,Chg.refl _ _⟩,?_⟩
 intro m2
 refine aJ.of ?_ _
 rintro wl ⟨L1,rfl,hL1,hs1,hf1,E1,C1⟩
 refine⟨rfl,rfl,_,E1.cell.load1 bR rfl (i:=2) rfl,?_⟩
 refine aw (DP E1.shf t) ?_
 rintro _ w13 ⟨rfl,hw13⟩
 rw[hw13]
 refine⟨_,rfl,ab.of (λe5=>⟨rfl,rfl,?_⟩) (λe5=>?_)⟩
 · have e5:50<j1 L1 t:=by have e5:((j1 L1 t:Nat):Int)>50:=of_decide_eq_true e5;omega
   obtain⟨kk,hkk,hkm,hf2⟩:=hf1.next hs1 e5
   refine⟨_,E1.cell.load1 bR rfl (i:=2) rfl,?_⟩
   refine aw (BX E1.shf t) ?_
   rintro _ w21 ⟨rfl,hb21⟩
   have E2:=E1.below hb21
   refine⟨_,_,rfl,?_⟩
   rw[hkk]
   refine be.new (zs:=An.cells) (cs:=kk.c.cells) (Cky.len (by rfl)) (Cky.len kk.ok) (Cky.one _) w21 λk4 wx hk4 h4 hb4=>?_
   have E3:=E2.below hb4
   refine⟨rfl,rfl,_,λu hu=>(E3.below hu).cell.load1 bR rfl (i:=2) rfl,_,λu hu=>be.load0 (h4.below hu) (Cky.len kk.ok),λwq hq=>?_⟩
   have E4:=E3.below hq
   refine aw (kY E4.shf (by show L1.length <=_;omega) kk.ok) ?_
   rintro _ w29 ⟨rfl,hsh,hc⟩
   have hdl:=zH hkm
   exact⟨_,rfl,_,hdl,_,rfl,Nat.le_trans (Nat.le_of_lt hdl) hL1,hs1.filter _,hf2,E4.step hc hsh,((((C1.step hb21).step hb4).step hq).trans (hc.mono λk hk=>List.mem_cons_of_mem _ hk))⟩
 · have e5: ¬ 50<j1 L1 t:=by have e5: ¬ ((j1 L1 t:Nat):Int)>50:=of_decide_eq_false e5;omega
   rw[<- hf1.stop e5]
   refine⟨λm wl=>∃L':List Kpt,m=L'.length/\L'.length <=1000000/\ShI L' s.last/\PL (PH L1.length L1) L'/\EQ w0 jK aO aV bi pj p ma ms kt km a n c' ps kvs es rs ⟨L',s.last,s.now⟩ wl/\Chg [pj,p,ma,ms] w wl,
     ⟨_,L1,rfl,hL1,hs1,PL.of _,E1,C1⟩,?_⟩
   intro m3
   refine aJ.of ?_ _
   rintro wl2 ⟨L2,rfl,hL2,hs2,hf2,F1,C2⟩
   refine⟨rfl,rfl,_,F1.cell.load1 bR rfl (i:=2) rfl,?_⟩
   refine aw (H6 F1.shf) ?_
   rintro _ w34 ⟨rfl,hw34⟩
   rw[hw34]
   refine⟨_,rfl,ab.of (λe6=>⟨rfl,rfl,?_⟩) (λe6=>?_)⟩
   · have e6:3000<L2.length:=by have e6:((L2.length:Nat):Int)>3000:=of_decide_eq_true e6;omega
     obtain⟨kk,hkk,hkm,hf3⟩:=hf2.next hs2 e6
     refine⟨_,F1.cell.load1 bR rfl (i:=2) rfl,?_⟩
     refine aw (sv F1.shf) ?_
     rintro _ w41 ⟨rfl,hb41⟩
     have F2:=F1.below hb41
     refine⟨_,_,rfl,?_⟩
     rw[hkk]
     refine be.new (zs:=An.cells) (cs:=kk.c.cells) (Cky.len (by rfl)) (Cky.len kk.ok) (Cky.one _) w41 λk6 wx hk6 h6 hb6=>?_
     have F3:=F2.below hb6
     refine⟨rfl,rfl,_,λu hu=>(F3.below hu).cell.load1 bR rfl (i:=2) rfl,_,λu hu=>be.load0 (h6.below hu) (Cky.len kk.ok),λwq hq=>?_⟩
     have F4:=F3.below hq
     refine aw (kY F4.shf (by show L2.length <=_;omega) kk.ok) ?_
     rintro _ w49 ⟨rfl,hsh,hc⟩
     have hdl:=zH hkm
     exact⟨_,rfl,_,hdl,_,rfl,Nat.le_trans (Nat.le_of_lt hdl) hL2,hs2.filter _,hf3,F4.step hc hsh,((((C2.step hb41).step hb6).step hq).trans (hc.mono λk hk=>List.mem_cons_of_mem _ hk))⟩
   · have e6: ¬ 3000<L2.length:=by have e6: ¬ ((L2.length:Nat):Int)>3000:=of_decide_eq_false e6;omega
     rw[<- hf2.stop e6]
     exact⟨rfl,⟨p,ma,ms,kt,km,a,n,c',ps,kvs,es,rfl,F1⟩,C2⟩
end
section
variable {w0:World} {pj:Nat} {F:List Nat} {rs:List Rul} {s:JS} {w:World}
theorem LP (he:Env w0)(J:GH w0 pj F rs s w){m:Nat}(ji:JI s m)(hm:m <=100000){u:Url}(o:u.ok)(un:u.host.name.length <=1000000)(up:u.path.length <=1000000)(t:List UInt8)(ht:t.length <=10000000):
   Cf oG #[.pointer (some ⟨pj,0,none⟩),u.v,vS t] w (Ret λv w'=>v=vI (EA rs s u o t).2/\Kf w0 pj F rs (EA rs s u o t).1 w w'):=by
 have hbs:=J.base.1
 obtain⟨p,ma,ms,kt,km,a,n,c',ps,kvs,es,rfl,J⟩:=J
 apply Bk
 intro k4 w4 hk4 hw4
 obtain⟨b4,B4,l4⟩:=GX (P:=prog) (Below.refl w.heap.size w) hk4 hw4
 have a4:ao w4 k4 ay u.cells:=ao.new hk4 hw4
 have J4:=J.below B4
 have fin:∀{wx:World} {e:Int},bW w wx->EA rs s u o t=(s,e)->(vI e=vI (EA rs s u o t).2/\Kf w0 pj [pj,p,ma,ms] rs (EA rs s u o t).1 w wx):=fun{wx e} hb h=>by
   rw[h]
   exact⟨rfl,Kf.same ⟨p,ma,ms,kt,km,a,n,c',ps,kvs,es,rfl,J.below hb⟩ (Chg.of hb)⟩
 refine⟨_,gP.load0 a4 (Url.len o),?_⟩
 refine aw (mN o (by omega) w4 (he.step (aa hbs B4 hbs.size))) ?_
 rintro _ w12 ⟨rfl,hb12⟩
 have B12:=aa B4 hb12 B4.size
 refine⟨_,rfl,ab.of (λe1=>fin B12 (by unfold EA;rw[if_pos (by simpa using e1)])) (λe1=>?_)⟩
 have e1: ¬ fm u=false:=by simpa using e1
 refine aw (qI t (by omega) w12 (he.step (aa hbs B12 hbs.size))) ?_
 rintro _ w16 ⟨rfl,hb16⟩
 have B16:=aa B12 hb16 B12.size
 refine⟨_,_,_,_,_,_,_,_,_,_,_,_,rfl,?_⟩
 refine NL (cK t).1 w16 λk7 wx hk7 h7 hb7=>?_
 have Bx:=aa B16 hb7 B16.size
 refine ab.of (λe2=>fin Bx (by unfold EA;rw[if_neg e1,if_pos (by simpa using e2)])) (λe2=>⟨rfl,rfl,rfl,rfl,rfl,?_⟩)
 have e2: ¬ (cK t).2≠0:=by simpa using e2
 have a4x:=((a4.below hb12).below hb16).below hb7
 have Jx:=J.below Bx
 have m4:=a4x.lt
 have oc:(pz rs u (cK t).1 s.now).1.ok:=Pa o _ _
 have hset: ¬ (pz rs u (cK t).1 s.now).2≠0->EA rs s u o t=if u.sec=false/\s.L.any (λk=>HK k.c (pz rs u (cK t).1 s.now).1)=true then(s,121)
     else(LA rs s (pz rs u (cK t).1 s.now).1 oc,0):=λe=>by
   unfold EA;rw[if_neg e1,if_neg e2,if_neg e]
 have hset0:(pz rs u (cK t).1 s.now).2≠0->EA rs s u o t=(s,(pz rs u (cK t).1 s.now).2):=λe=>by
   unfold EA;rw[if_neg e1,if_neg e2,if_pos e]
 have hck:(pz rs u (cK t).1 s.now).2=0->T8 (pz rs u (cK t).1 s.now).1/\cC (pz rs u (cK t).1 s.now).1.host=true/\(pz rs u (cK t).1 s.now).1.born=s.now/\(pz rs u (cK t).1 s.now).1.used=s.now:=
   λe=>⟨Sb up (FR t) e,K8 e⟩
 have htake:∀u34:World,bW wx u34->Cf mC #[.pointer (some ⟨kt,0,none⟩),u.v,(cK t).1.v,vI s.now] u34 λe34 w34=>e34=.returned (Vq (pz rs u (cK t).1 s.now))/\bW u34 w34:=λu34 hu=>by
   refine(E7 he (Jx.below hu).tab o (by omega) (by omega) (cK t).1 (FR t) s.now).mono ?_
   rintro e w' ⟨v,rfl,rfl,hb⟩
   exact⟨rfl,hb⟩
 clear e1 e2
 generalize EA rs s u o t=RES at*
 generalize pz rs u (cK t).1 s.now=ce at*
 obtain⟨ck,e⟩:=ce
 simp only at oc hset hset0 hck
 unfold Vq at htake
 refine⟨_,λu hu=>(Jx.below hu).cell.load1 nT rfl (i:=1) rfl,_,λx hx=>gP.load0 (a4x.below hx) (Url.len o),_,_,_,_,_,_,_,_,_,_,_,λx hx=>jI _ (h7.below hx),_,λu hu=>(Jx.below hu).cell.load1 bP rfl (i:=0) rfl,ck.v,e,htake,?_⟩
 intro k9 hk9 wq hq hz
 have Bq:=aa Bx hq Bx.size
 have hsx:=Bx.size
 obtain⟨w1,q1,h9,g1⟩:=be.store0 (P:=prog) (cs:=ck.cells) (Cky.len oc) (Cky.one ck) (show ao wq k9 af An.cells from hz) (Cky.len (by rfl))
 have B1:=Below.put Bq g1 (by omega)
 have J1:=J.below B1
 have a41:ao w1 k4 ay u.cells:=(a4x.below hq).grown g1 (bF (by omega))
 refine⟨w1,q1,ab.of (λe3=>fin B1 (hset0 (by simpa using e3))) (λe3=>?_)⟩
 have e3:e=0:=by simpa using e3
 obtain⟨csm,crt,cb,cu⟩:=hck e3
 have hset:=hset (by omega)
 have cn:=uD oc crt
 have cp:=csm.pt
 have hf:=ji.few
 have hla:=ji.last
 refine⟨λwj=>bW w1 wj/\RES=(LA rs s ck oc,0),?_,aJ.of ?_ _⟩
 · refine⟨rfl,_,a41.load1 ci rfl (i:=0) rfl,ab.of (λe4=>?_) (λe4=>⟨Below.refl _ _,?_⟩)⟩
   · have e4:u.sec=false:=by simpa using e4
     refine⟨_,be.load0 h9 (Cky.len oc),?_⟩
     refine aw (AM (F:=[pj,p,ma,ms]) he ⟨p,ma,ms,kt,km,a,n,c',ps,kvs,es,rfl,J1⟩ ji (by omega) oc (by omega) (by omega)) ?_
     rintro _ w46 ⟨rfl,hb46⟩
     refine⟨_,rfl,ab.of (λe5=>fin (aa B1 hb46 B1.size) ?_) (λe5=>⟨hb46,?_⟩)⟩
     · rw[hset,if_pos ⟨e4,e5⟩]
     · rw[hset,if_neg (λh=>by rw[e5]at h;exact absurd h.2 (by decide))]
   · have e4: ¬ u.sec=false:=by simpa using e4
     rw[hset,if_neg (λh=>e4 h.1)]
 · rintro wj ⟨hbj,hres⟩
   have Bj:=aa B1 hbj B1.size
   have Jj:=J.below Bj
   have h9j:=h9.below hbj
   rw[hres]
   clear hset hset0 hck fin hres
   unfold LA
   refine⟨_,be.load0 h9j (Cky.len oc),?_⟩
   refine aw (Jp (F:=[pj,p,ma,ms]) he ⟨p,ma,ms,kt,km,a,n,c',ps,kvs,es,rfl,Jj⟩ oc (by omega)) ?_
   rintro _ w50 ⟨rfl,hb50⟩
   have B50:=aa Bj hb50 Bj.size
   have J50:=J.below B50
   have h950:=h9j.below hb50
   have hpl:=OJ s.L s.last ⟨ck,uJ rs ck.host,oc⟩
   have hps:=ji.sh.put ⟨ck,uJ rs ck.host,oc⟩
   refine⟨_,rfl,rfl,rfl,_,λx hx=>(J50.below hx).cell.load1 bR rfl (i:=2) rfl,_,λx hx=>be.load0 (h950.below hx) (Cky.len oc),λwq1 hq1=>?_⟩
   have B51:=aa B50 hq1 B50.size
   have J51:=J.below B51
   refine aw (H7 J51.shf (by omega) (by omega) ⟨ck,uJ rs ck.host,oc⟩) ?_
   unfold VM
   generalize zR s.L s.last ⟨ck,uJ rs ck.host,oc⟩=P at*
   generalize uJ rs ck.host=st at*
   obtain⟨Lp,lp⟩:=P
   simp only at hpl hps
   rintro _ w57 ⟨rfl,hs57,c57⟩
   have J57:=J51.step c57 hs57
   refine⟨_,rfl,rfl,rfl,rfl,rfl,rfl,_,λx hx=>(J57.below hx).cell.load1 bR rfl (i:=2) rfl,_,λx hx=>(J57.below hx).cell.load1 bP rfl (i:=0) rfl,λwq2 hq2=>?_⟩
   have J58:=J57.below hq2
   have hes:ShI (PG Lp s.now) lp:=hps.filter _
   have hel:=SX Lp s.now
   refine aw (rb J58.shf (by show Lp.length <=_;omega) s.now) ?_
   rintro _ w67 ⟨⟨n67,rfl⟩,hs67,c67⟩
   have J67:=J58.step c67 hs67
   refine⟨_,rfl,?_⟩
   refine aw (LQ (F:=[pj,p,ma,ms]) ⟨p,ma,ms,kt,km,a,n,c',ps,kvs,es,rfl,J67⟩ hes (by show(PG Lp s.now).length <=_;omega) st) ?_
   rintro _ w70 ⟨rfl,J70,c70⟩
   have CC:Chg [pj,p,ma,ms] w w70:=((((Chg.of B51).trans (c57.mono λk hk=>List.mem_cons_of_mem _ hk)).step hq2).trans (c67.mono λk hk=>List.mem_cons_of_mem _ hk)).trans c70
   exact⟨rfl,rfl,Kf.same J70 CC⟩
end
theorem RF {zs:List Value}(h:yM zs)(n:Nat)(hz:zs≠[]):∀v∈(Builtin.zeroCells zs.toArray n).toList,v.oneCell'=true:=by
 intro v hv
 unfold Builtin.zeroCells at hv
 rw[Array.toList_map]at hv
 obtain⟨i,_,rfl⟩:=List.mem_map.1 hv
 have hp:0<zs.toArray.size:=by simpa[List.length_pos_iff]using hz
 have hm:=Nat.mod_lt i hp
 rw[getElem!_pos zs.toArray _ hm]
 exact h _ (by simp)
theorem Chg.row {S:List Nat}{a b c:World}{row:Option Nat}(h:Chg S a b)(g:b.grownBy c row)(hr:∀r,row=some r->a.heap.size <=r\/r∈S):Chg S a c:=
 ⟨g.os.trans h.os,g.tape.trans h.tape,g.output.trans h.output,Nat.le_trans h.size g.size,λi hi hs=>(g.block i (Nat.lt_of_lt_of_le hi h.size) (λe=>by
   rcases hr i e.symm with h1|h1
   · omega
   · exact hs h1)).trans (h.block i hi hs)⟩
theorem uW {w0 w w':World}{a:Option Addr}(h:bW w0 w)(hg:w.grownBy w' (eJ a))(hf:bU w0.heap.size a):bW w0 w':=h.grown hg h.size λr e=>hf r e
theorem AE {α:Type}(p:α->Bool)(l:List α)(x:α):(l++[x]).filter p=if p x=true then l.filter p++[x]else l.filter p:=by
 rw[List.filter_append,List.filter_cons,List.filter_nil]
 split <;> simp
theorem RE (w:World):(zeroValue af).run prog w=.ok An.v w:=by kernel_rfl
theorem MX {w:World}{a:Option Addr}{n c:Nat}{xs:List Cky}(ho:Ow uK af w NoB a n c xs){i:Nat}(hi:i <=n):
   ∃wx,(Builtin.clear_ #[aR] jL #[.slice (iG a c i 29) (n-i) (c-i)]).run prog w=.ok (.tuple #[]) wx/\Ow uK af wx NoB a i c (xs.take i)/\w.grownBy wx (eJ a):=by
 obtain⟨hn,hnc,hcm,ho4⟩:=ho
 by_cases h0:n-i=0
 · have:i=n:=by omega
   subst this
   refine⟨w,?_,⟨by rw[List.length_take];omega,hnc,hcm,?_⟩,⟨rfl,rfl,rfl,Nat.le_refl _,λ_ _ _=>rfl⟩⟩
   · rw[h0]
     unfold Builtin.clear_
     cases iG a c i 29 <;> simp[bD fR]
   · rw[hn,List.take_length]
     rcases ho4 with h|⟨g,cur,fr,h1,h2,h3,h4,h5⟩
     · exact .inl h
     · exact .inr ⟨g,cur,fr,h1,h2,h3,h4,by rw[<- hn];exact h5⟩
 · rcases ho4 with⟨_,rfl,rfl⟩|⟨g,cur,fr,rfl,hg,hf,hcs,hrep⟩
   · simp at hn;omega
   · have hk:uK.k=29:=rfl
     rw[hk]at hcs hrep
     have hzl:(Builtin.zeroCells An.v.cells (n-i)).toList.length=(n-i)*29:=by
       rw[Array.length_toList]
       unfold Builtin.zeroCells
       rw[Array.size_map,Array.size_range];rfl
     have hz1:=RF (Cky.one An) (n-i) (by decide)
     obtain⟨z,hz0⟩:∃z,z=An.v:=⟨_,rfl⟩
     have hz:∀w,(zeroValue af).run prog w=.ok z w:=λw=>by rw[hz0];exact RE w
     have hz1:∀v∈(Builtin.zeroCells z.cells (n-i)).toList,v.oneCell'=true:=by rw[hz0];exact hz1
     rw[<- hz0]at hzl
     clear hz0
     have hfit:i*29+0+(Builtin.zeroCells z.cells (n-i)).toList.length <=cur.size:=by rw[hzl,hcs];omega
     have hst:=gm (P:=prog) g (i*29) af fr (Builtin.zeroCells z.cells (n-i)).toList 0 cur w hg hfit hf hz1
     rw[Nat.add_zero]at hst
     have hsub:iG (some ⟨g,0,none⟩) c i 29=some ⟨g,i*29,none⟩:=by
       unfold iG
       rw[if_neg (by omega)];simp[Addr.add];intro h;omega
     obtain⟨q,hq⟩:∃q,n-i=q+1:=⟨n-i-1,by omega⟩
     refine⟨w.setRow g (cur.toList.take (i*29)++(Builtin.zeroCells z.cells (n-i)).toList++cur.toList.drop (i*29+(Builtin.zeroCells z.cells (n-i)).toList.length)).toArray,?_,⟨by rw[List.length_take];omega,by omega,hcm,.inr ⟨g,_,fr,rfl,setRow_heap w g cur _ af fr hg,?_,?_,?_⟩⟩,eI w g _⟩
     · rw[hsub]
       unfold Builtin.clear_
       rw[hq]at hst ⊢
       simp only[]at hst ⊢
       simp[bD fR,hz,hst,-List.append_assoc]
     · intro j hj
       refine hf j ?_
       rw[List.size_toArray,List.length_append,List.length_append,List.length_take,List.length_drop,Array.length_toList]at hj
       omega
     · rw[hk,List.size_toArray,List.length_append,List.length_append,List.length_take,List.length_drop,Array.length_toList]
       omega
     · have e1:((cur.toList.take (i*29)++(Builtin.zeroCells z.cells (n-i)).toList++cur.toList.drop (i*29+(Builtin.zeroCells z.cells (n-i)).toList.length)).toArray).toList.take (i*uK.k)=(cur.toList.take (n*29)).take (i*29):=by
         rw[hk]
         rw[List.append_assoc,List.take_append_of_le_length (by rw[List.length_take,Array.length_toList];omega),List.take_take,List.take_take]
         congr 1
         omega
       rw[e1]
       have hlt:(cur.toList.take (n*29)).length=n*29:=by have:=hrep.len;rw[hk]at this;rw[this,<- hn]
       refine⟨by rw[List.length_take,hlt,hk,List.length_take];omega,λj hj=>?_⟩
       have hj2:j<xs.length:=by rw[List.length_take]at hj;omega
       have hji:j<i:=by rw[List.length_take]at hj;omega
       have h1:=(hrep.rep j hj2)
       rw[hk]at h1 ⊢
       rw[List.getElem_take]
       have e2:(((cur.toList.take (n*29)).take (i*29)).drop (j*29)).take 29=((cur.toList.take (n*29)).drop (j*29)).take 29:=by
         rw[List.drop_take,List.take_take]
         congr 1
         omega
       rw[e2]
       exact⟨h1.1,h1.2⟩
section
variable {w0:World} {pj:Nat} {F:List Nat} {rs:List Rul} {s:JS} {wb:World} {r:Req} {kr kp:Nat}
structure U1 (w0:World)(pj:Nat)(F:List Nat)(rs:List Rul)(s:JS)(r:Req)(kr kp:Nat)(wb:World):Prop where
 he:Env w0
 J:GH w0 pj F rs s wb
 hr:ao wb kr aN r.cells
 hp:ao wb kp eK [.pointer (some ⟨pj,0,none⟩)]
 or:r.ok
 rn:r.host.name.length <=1000000000
theorem NB (G:U1 w0 pj F rs s r kr kp wb){x:Cky}(ox:x.ok)(xn:x.host.name.length <=1000000000)(xp:x.path.length <=1000000000){w:World}(hb:bW wb w):
   Cf bQ #[x.v,.pointer (some ⟨kr,0,none⟩),.pointer (some ⟨kp,0,none⟩)] w (Ret λv w'=>v=.bool (!iF x r s.now)/\bW w w'):=by
 obtain⟨he,J,hr,hp,or,rn⟩:=G
 have hbs:=J.base.1
 obtain⟨p,ma,ms,kt,km,a,n,c',ps,kvs,es,rfl,J⟩:=J
 apply vR
 intro k3 w3 hk3 hw3
 obtain⟨b3,B3,l3⟩:=GX (P:=prog) (Below.refl w.heap.size w) hk3 hw3
 have a3:ao w3 k3 af x.cells:=ao.new hk3 hw3
 have bb3:=aa hb B3 hb.size
 have J3:=J.below bb3
 have hr3:=hr.below bb3
 have hp3:=hp.below bb3
 refine⟨_,λu hu=>be.load0 (a3.below hu) (Cky.len ox),_,λu hu=>gH.load0 (hr3.below hu) (Req.len or),_,λu hu=>(hp3.below hu).load1 mL rfl (i:=0) rfl,rfl,rfl,rfl,_,λu hu=>(J3.below hu).cell.load1 bP rfl (i:=0) rfl,iF x r s.now,λu hu=>?_,λwq hq=>⟨rfl,aa B3 hq B3.size⟩⟩
 refine(CX ox or xn rn (by omega) s.now u (he.step (aa (aa hbs bb3 hbs.size) hu (aa hbs bb3 hbs.size).size))).mono ?_
 rintro e w' ⟨v,rfl,rfl,hb'⟩
 exact⟨rfl,hb'.mono hu.size⟩
theorem Jk (G:U1 w0 pj F rs s r kr kp wb){A:Bl}{a:Option Addr}{l c':Nat}{xs:List Cky}{w:World}(hs:Sl uK w A a l c' xs)(hl:xs.length <=1000000)(hx:∀x∈xs,x.ok/\x.host.name.length <=1000000000/\x.path.length <=1000000000)(hb:bW wb w):
   Cf ba #[.slice a l c',.func (.func bQ) #[] #[.pointer (some ⟨kr,0,none⟩),.pointer (some ⟨kp,0,none⟩)]] w
     (Ret λv w'=>((v=vI (-1)/\∀x∈xs,iF x r s.now=true)\/∃k:Nat,v=vI (k:Int)/\k<xs.length/\∀x∈xs.take k,iF x r s.now=true)/\(∀k:Nat,v=vI (k:Int)->∀h:k<xs.length,iF xs[k] r s.now=false)/\bW w w'):=by
 apply dH
 have hn:=hs.len
 subst hn
 refine⟨λm i wl=>∃k:Nat,k <=xs.length/\i=(k:Int)/\m=xs.length-k/\(∀x∈xs.take k,iF x r s.now=true)/\bW w wl,⟨_,0,by omega,rfl,rfl,(λx hx=>by rw[List.take_zero]at hx;cases hx),Below.refl _ _⟩,?_⟩
 intro m1 i1
 refine aJ.of ?_ _
 rintro wl ⟨k,hk,rfl,rfl,hno,hbl⟩
 refine ab.of (λhi=>?_) (λhi=>?_) <;> simp only[dTx,dFx]at hi
 · have hlt:k<xs.length:=by omega
   have hsl:=hs.below hbl
   obtain⟨hld,-⟩:=vv be hsl hlt
   refine⟨⟨⟨by omega,by omega⟩,hsl.isSome hlt⟩,_,hld,?_⟩
   have hmem:=List.getElem_mem hlt
   obtain⟨ox,xn,xp⟩:=hx _ hmem
   have hwk:i64.wrap ((k:Int)+1)=((k+1:Nat):Int):=by rw[wrap_i64 (by omega) (by omega)];omega
   try dsimp only
   rw[hwk]
   refine aw (NB G ox xn xp (aa hb hbl hb.size)) ?_
   rintro _ w16 ⟨rfl,hb16⟩
   have b16:=aa hbl hb16 hbl.size
   refine⟨_,rfl,ab.of (λe=>⟨.inr ⟨k,rfl,hlt,hno⟩,λk' hk' h'=>?_,b16⟩) (λe=>⟨xs.length-(k+1),by omega,k+1,by omega,rfl,rfl,?_,b16⟩)⟩
   · have:k=k':=by injection hk' with _ h;omega
     subst this
     simpa using e
   · intro y hy
     rw[jV hlt,List.mem_append]at hy
     rcases hy with hy|hy
     · exact hno y hy
     · rw[List.mem_singleton]at hy;subst hy;simpa using e
 · have:k=xs.length:=by omega
   subst this
   rw[List.take_length]at hno
   refine⟨.inl ⟨rfl,hno⟩,λk' hk' h'=>?_,hbl⟩
   injection hk' with _ h;omega
theorem I3 (G:U1 w0 pj F rs s r kr kp wb){a:Option Addr}{l c':Nat}{xs:List Cky}{w:World}(ho:Ow uK af w NoB a l c' xs)(hf:bU wb.heap.size a)(hl:xs.length <=1000000)(hx:∀x∈xs,x.ok/\x.host.name.length <=1000000000/\x.path.length <=1000000000)(hb:bW wb w):
   Cf cg #[.slice a l c',.func (.func bQ) #[] #[.pointer (some ⟨kr,0,none⟩),.pointer (some ⟨kp,0,none⟩)]] w
     (Ret λv w'=>∃n':Nat,v=.slice a n' c'/\Ow uK af w' NoB a n' c' (xs.filter λx=>iF x r s.now)/\bW wb w'):=by
 apply dC
 have hn:=ho.len
 have hnc:=ho.2.1
 refine aw (Jk G ho.all hl hx hb) ?_
 rintro v w10 ⟨hv,hfst,hb10⟩
 have ho10:=ho.below hb10
 have B10:=aa hb hb10 hb.size
 rcases hv with⟨rfl,hall⟩|⟨k,rfl,hk,hno⟩
 · refine⟨_,rfl,ab.yes rfl ⟨l,rfl,?_,B10⟩⟩
   rw[List.filter_eq_self.2 hall]
   exact ho10
 have hxk:=hfst k rfl hk
 refine⟨_,rfl,ab.no (by simp only[beq_eq_false_iff_ne];omega) ?_⟩
 have hfk:(xs.take k).filter (λx=>iF x r s.now)=xs.take k:=List.filter_eq_self.2 hno
 have hfk1:(xs.take (k+1)).filter (λx=>iF x r s.now)=xs.take k:=by
   rw[jV hk,AE,if_neg (by rw[hxk];decide),hfk]
 refine⟨λm i j wl=>∃(q:Nat) (ys:List Cky),q <=xs.length/\j=(q:Int)/\m=xs.length-q/\i=((((xs.take q).filter λx=>iF x r s.now).length:Nat):Int)/\((xs.take q).filter λx=>iF x r s.now).length<q/\ys.length=xs.length/\
     ys.take ((xs.take q).filter λx=>iF x r s.now).length=((xs.take q).filter λx=>iF x r s.now)/\ys.drop q=xs.drop q/\Ow uK af wl NoB a l c' ys/\bW wb wl,
   ⟨_,k+1,xs,by omega,by rw[wrap_i64 (by omega) (by omega)];omega,rfl,by rw[hfk1,List.length_take];omega,by rw[hfk1,List.length_take];omega,rfl,by rw[hfk1,List.length_take];congr 1;omega,rfl,ho10,B10⟩,?_⟩
 intro m i j
 refine aJ.of ?_ _
 rintro wl ⟨q,ys,hq,rfl,rfl,rfl,hiq,hyl,hyt,hyd,hoy,Bl⟩
 have hlx:l=xs.length:=hn
 refine ab.of (λhi=>?_) (λhi=>?_) <;> simp only[dTx,dFx]at hi
 · have hlt:q<xs.length:=by omega
   have hlty:q<ys.length:=by omega
   have hyq:ys[q]=xs[q]:=by
     have h1:=List.drop_eq_getElem_cons hlty
     have h2:=List.drop_eq_getElem_cons hlt
     rw[h1,h2]at hyd
     exact(List.cons.inj hyd).1
   have hyd1:ys.drop (q+1)=xs.drop (q+1):=by
     have h1:=List.drop_eq_getElem_cons hlty
     have h2:=List.drop_eq_getElem_cons hlt
     rw[h1,h2]at hyd
     exact(List.cons.inj hyd).2
   obtain⟨hld,-⟩:=vv be hoy.all hlty
   rw[hyq]at hld
   refine⟨⟨⟨by omega,by omega⟩,hoy.all.isSome hlty⟩,_,hld,?_⟩
   obtain⟨ox,xn,xp⟩:=hx _ (List.getElem_mem hlt)
   have hfs:=AE (λx=>iF x r s.now) (xs.take q) xs[q]
   rw[<- jV hlt]at hfs
   have hw1:i64.wrap ((q:Int)+1)=((q+1:Nat):Int):=by rw[wrap_i64 (by omega) (by omega)];omega
   try dsimp only
   rw[hw1]
   generalize xs[q]=x at*
   refine be.new (zs:=An.cells) (cs:=x.cells) (Cky.len (by rfl)) (Cky.len ox) (Cky.one _) wl λk7 wx hk7 h7 hb7=>?_
   have Bx:=aa Bl hb7 Bl.size
   refine⟨_,be.load0 h7 (Cky.len ox),?_⟩
   refine aw (NB G ox xn xp Bx) ?_
   rintro _ w28 ⟨rfl,hb28⟩
   have B28:=aa Bx hb28 Bx.size
   have hoy28:=(hoy.below hb7).below hb28
   refine⟨_,rfl,ab.of (λe=>?_) (λe=>?_)⟩
   · have e:iF x r s.now=true:=by simpa using e
     rw[if_pos e]at hfs
     generalize (xs.take q).filter (λx=>iF x r s.now)=G0 at*
     have hil:((G0.length:Nat):Int).toNat<ys.length:=by omega
     obtain⟨wy,q3,ho3,g3⟩:=Ow.store (k:=29) lg hoy28 (λ_ _ h=>h) (i:=((G0.length:Nat):Int)) hil rfl (v:=x.v) (x:=x) ⟨rfl,ox⟩
     refine⟨_,be.load0 (h7.below hb28) (Cky.len ox),⟨⟨by omega,by omega⟩,hoy28.all.isSome (i:=G0.length) (by omega)⟩,wy,q3,xs.length-(q+1),by omega,q+1,ys.set G0.length x,by omega,rfl,rfl,?_,?_,?_,?_,?_,?_,?_⟩
     · rw[hfs,wrap_i64 (by omega) (by omega),List.length_append];simp
     · rw[hfs,List.length_append];simp;omega
     · rw[List.length_set];exact hyl
     · rw[hfs,List.length_append]
       show(ys.set G0.length x).take (G0.length+1)=_
       rw[List.take_succ_eq_append_getElem (by rw[List.length_set];omega),List.getElem_set_self,List.take_set_of_le (Nat.le_refl _),hyt]
     · rw[List.drop_set_of_lt (by omega),hyd1]
     · simpa using ho3
     · exact uW B28 g3 hf
   · have e:iF x r s.now=false:=by simpa using e
     rw[if_neg (by rw[e];decide)]at hfs
     exact⟨xs.length-(q+1),by omega,q+1,ys,by omega,rfl,rfl,by rw[hfs],by rw[hfs];omega,hyl,by rw[hfs];exact hyt,hyd1,hoy28,B28⟩
 · have:q=xs.length:=by omega
   subst this
   rw[List.take_length]at hiq hyt
   rw[List.take_length]
   generalize xs.filter (λx=>iF x r s.now)=G0 at*
   obtain⟨wz,q4,ho4,g4⟩:=MX hoy (i:=G0.length) (by omega)
   refine⟨⟨by omega,by omega⟩,wz,q4,⟨by omega,by omega⟩,G0.length,rfl,?_,uW Bl g4 hf⟩
   rw[hyt]at ho4
   exact ho4
end
open Go.Sort (grow SWO)
theorem K3:∀xs:List (List UInt8),K1 xs=Lib.join xs [59,32]
 | []=>rfl
 | [x]=>by simp[K1,Lib.join,List.intercalate]
 | x::y::r=>by
   have:=K3 (y::r)
   show x++[59,32]++K1 (y::r)=_
   rw[this]
   simp[Lib.join,List.intercalate,List.intersperse]
theorem NE (w:World)(o1 o2 o3 o4:Obj):(((w.alloc o1).alloc o2).alloc o3).alloc o4=grow (w.drewN 0) #[o1,o2,o3,o4]:=by
 unfold grow World.alloc
 simp only[World.drewN,Nat.add_zero]
 congr 1
theorem Ow.chg {α:Type}{T:Ty α}{t:TypeId}{w w':World}{a:Option Addr}{n c:Nat}{xs:List α}{S:List Nat}(h:Ow T t w NoB a n c xs)(hc:Chg S w w')(hn:∀g,eJ a=some g->g ∉ S):Ow T t w' NoB a n c xs:=
 h.keep (hc.keep.mono λb hb=>hb.elim (λx=>x.elim) λe=>hn b e.symm)
theorem Sl.chg {α:Type}{T:Ty α}{w w':World}{A:Bl}{a:Option Addr}{n c:Nat}{xs:List α}{S:List Nat}(h:Sl T w A a n c xs)(hc:Chg S w w')(hA:∀b,A b->b ∉ S):Sl T w' A a n c xs:=h.keep (hc.keep.mono λb hb=>hA b hb)
theorem MV {w w':World}{row:Option Nat}(hg:w.grownBy w' row):Chg row.toList w w':=⟨hg.os,hg.tape,hg.output,hg.size,λk hk hn=>hg.block k hk λe=>hn (by rw[<- e];simp)⟩
theorem EQ.row {w0:World}{tj ts tt te:TypeId}{pj p ma ms kt km:Nat}{a:Option Addr}{n c:Nat}{ps:List Pth}{kvs:List (jq×Int)}{es:List (List Bool)}{rs:List Rul}{s:JS}{w w':World}(J:EQ w0 tj ts tt te pj p ma ms kt km a n c ps kvs es rs s w){row:Option Nat}(hg:w.grownBy w' row)
   (hr:∀r,row=some r->r ∉ [pj,p,ma,ms]/\w0.heap.size <=r/\r≠kt/\r≠km/\eJ a≠some r):EQ w0 tj ts tt te pj p ma ms kt km a n c ps kvs es rs s w':=by
 have hc:=MV hg
 have hm:∀k∈row.toList,row=some k:=λk hk=>by cases row with|none=>cases hk|some r=>simp at hk;rw[hk]
 exact⟨hc.arr J.cell λm=>(hr _ (hm _ m)).1 (List.mem_cons_self ..),J.shf.chg hc λk hk m=>(hr _ (hm _ m)).1 (List.mem_cons_of_mem _ hk),J.tab.chg hc λk hk=>(hr _ (hm _ hk)).2,J.far,J.own⟩
theorem EQ.lts {w0:World}{tj ts tt te:TypeId}{pj p ma ms kt km:Nat}{a:Option Addr}{n c:Nat}{ps:List Pth}{kvs:List (jq×Int)}{es:List (List Bool)}{rs:List Rul}{s:JS}{w:World}(J:EQ w0 tj ts tt te pj p ma ms kt km a n c ps kvs es rs s w):
   ∀r,w.heap.size <=r->r ∉ [pj,p,ma,ms]/\w0.heap.size <=r/\r≠kt/\r≠km/\eJ a≠some r:=λr hr=>by
 have h1:=J.shf.lts
 have h2:=J.cell.lt
 have h3:=J.tab.h1.lt
 have h4:=J.tab.h2.lt
 have h5:=J.tab.hb.size
 refine⟨?_,by omega,by omega,by omega,λe=>by have:=J.tab.h3.lt _ e;omega⟩
 simp;omega
instance  (priority:=low) allKpt:Inhabited {k:Kpt // (λ_=>True) k} :=⟨⟨pI,trivial⟩⟩
theorem Uy (x y: {k:Kpt // (λ_=>True) k}):Go.Proofs.ltOf (λx y: {k:Kpt // (λ_=>True) k} =>if fz x.1.c y.1.c=true then(-1:Int)else 1) x y=fz x.1.c y.1.c:=by
 show decide ((if fz x.1.c y.1.c=true then(-1:Int)else 1)<0)=_
 by_cases h:fz x.1.c y.1.c=true
 · rw[if_pos h,h];rfl
 · rw[if_neg h]
   have:fz x.1.c y.1.c=false:=by simpa using h
   rw[this];rfl
theorem Uz:SWO (Go.Proofs.ltOf λx y: {k:Kpt // (λ_=>True) k} =>if fz x.1.c y.1.c=true then(-1:Int)else 1):=by
 have e:=Uy
 constructor
 · intro x
   rw[e]
   unfold fz
   simp
 · intro x y z h1 h2
   rw[e]at*
   exact Ad h1 h2
 · intro x y z h1 h2
   rw[e]at*
   unfold fz at*
   simp only[Bool.or_eq_false_iff,Bool.and_eq_false_iff,dFx]at*
   omega
theorem SZ (W:World)(x y:Kpt):Cf im #[x.c.v,y.c.v] W λe w'=>e=.returned (vI (if fz x.c y.c=true then(-1:Int)else 1))/\∃q os',w'=grow (W.drewN q) os':=by
 refine(vT x.c.v y.c.v (K:=λv w'=>v=vI (if fz x.c y.c=true then(-1:Int)else 1)/\∃q os',w'=grow (W.drewN q) os') ?_).mono ?_
 · intro k2 w2 hk2 hw2 k3 w3 hk3 hw3
   have a2:ao w3 k2 af x.c.cells:=(ao.new hk2 hw2:ao w2 k2 af x.c.cells).below (hw3▸ai w2 _)
   have a3:ao w3 k3 af y.c.cells:=ao.new hk3 hw3
   refine⟨_,be.load0 a2 (Cky.len x.ok),_,be.load0 a3 (Cky.len y.ok),?_⟩
   refine aw (CW x.ok y.ok w3) ?_
   rintro _ w7 ⟨rfl,hw7⟩
   have hg:∃q os',w7=grow (W.drewN q) os':=⟨0,_,by rw[hw7,hw3,hw2];exact NE _ _ _ _ _⟩
   exact⟨_,rfl,ab.of (λe=>⟨by rw[if_pos e],hg⟩) (λe=>⟨by rw[if_neg (by rw[e];decide)],hg⟩)⟩
 · rintro e w' ⟨v,rfl,rfl,h⟩
   exact⟨rfl,h⟩
section
variable {w0:World} {pj:Nat} {F:List Nat} {rs:List Rul} {s:JS} {w:World}
theorem LN (he:Env w0)(J:GH w0 pj F rs s w){m:Nat}(ji:JI s m)(hm:m <=100000){r:Req}(or:r.ok)(rn:r.host.name.length <=1000000):
   Cf oF #[.pointer (some ⟨pj,0,none⟩),r.v] w (Ret λv w'=>v=.string (mkS (Qs s r).2)/\Kf w0 pj F rs (Qs s r).1 w w'):=by
 obtain⟨p,ma,ms,kt,km,a,n,c',ps,kvs,es,rfl,J⟩:=J
 apply Bi
 intro k2 w2 hk2 hw2 k3 w3 hk3 hw3
 obtain⟨b2,B2,l2⟩:=GX (P:=prog) (Below.refl w.heap.size w) hk2 hw2
 obtain⟨b3,B3,l3⟩:=GX (P:=prog) B2 hk3 hw3
 have a2:ao w3 k2 eK [.pointer (some ⟨pj,0,none⟩)]:=(ao.new hk2 hw2:ao w2 k2 eK [.pointer (some ⟨pj,0,none⟩)]).below b3
 have a3:ao w3 k3 aN r.cells:=ao.new hk3 hw3
 have J3:=J.below B3
 have GE:U1 w0 pj [pj,p,ma,ms] rs s r k3 k2 w3:=⟨he,⟨p,ma,ms,kt,km,a,n,c',ps,kvs,es,rfl,J3⟩,a3,a2,or,by omega⟩
 have hf:=ji.few
 have hla:=ji.last
 refine⟨_,a2.load1 mL rfl (i:=0) rfl,rfl,rfl,_,J3.cell.load1 bR rfl (i:=2) rfl,?_⟩
 refine aw (yl J3.shf (by omega) (by omega)) ?_
 rintro _ w13 ⟨a13,l13,c13,rfl,ho13,hf13,hb13⟩
 refine⟨_,_,_,rfl,?_⟩
 refine aw (I3 GE ho13 hf13 (by rw[List.length_map];omega) (λx hx=>?_) hb13) ?_
 · obtain⟨k,hk,rfl⟩:=List.mem_map.1 hx
   have h1:=uD k.ok (ji.right k hk)
   have h2:=(ji.sm k hk).pt
   exact⟨k.ok,by omega,by omega⟩
 rintro _ w15 ⟨n15,rfl,ho15,B15⟩
 refine⟨_,_,_,rfl,?_⟩
 have hfm:(s.L.map Kpt.c).filter (λx=>iF x r s.now)=(s.L.filter λk=>iF k.c r s.now).map Kpt.c:=by rw[List.filter_map];rfl
 rw[hfm]at ho15
 have hfl:(s.L.filter λk=>iF k.c r s.now).length <=s.L.length:=List.length_filter_le ..
 refine(Ia (Q:=λ_=>True) _ Uz im (enters_of func72 (by kernel_rfl) rfl) (λW x y=>SZ W x.1 y.1) (λ_ _=>trivial) ho15 (by omega)).mono ?_
 rintro _ w17 ⟨rfl,ys,hp,hsd,ho17,hc17⟩
 refine⟨rfl,?_⟩
 have hG:ys.map (·.1)=Fp s.L r s.now:=by
   refine Gs (R:=λa b=>fz a.c b.c) (hp.trans (vn s.L r s.now).symm) ?_ (Jg ji.sh r s.now)
   rw[List.pairwise_map]
   refine hsd.imp fun{a b} h=>?_
   exact(Uy b a).symm.trans h
 rw[hG]at ho17
 have B17:bW w3 w17:=B15.trans (hc17.below B15.size (λk hk=>hf13 k (by simpa using hk)))
 have J17:=J3.below B17
 have a217:=a2.below B17
 have hGm:∀x∈Fp s.L r s.now,x∈s.L:=λx hx=>(List.mem_filter.1 ((vn s.L r s.now).mem_iff.1 hx)).1
 have hGl:(Fp s.L r s.now).length <=m:=by
   rw[(vn s.L r s.now).length_eq];omega
 unfold Qs
 generalize Fp s.L r s.now=G at*
 have hn15:n15=G.length:=by have:=ho17.len;rw[List.length_map]at this;exact this
 subst hn15
 have hsl17:Sl uK w17 (λb=>w3.heap.size <=b/\b<w17.heap.size) a13 G.length c13 (G.map Kpt.c):=ho17.sl (λ_ _ h=>h.elim) λg hg=>⟨hf13 g hg,ho17.lt g hg⟩
 have hlt3:=J3.lts
 have s17:=B17.size
 have C17:Chg [pj,p,ma,ms] w w17:=(Chg.of B3).step B17
 have m2:=a2.lt
 refine⟨λm a6 l6 c6 i wl=>∃k:Nat,k <=G.length/\i=(k:Int)/\m=G.length-k/\Ow tS ah wl NoB a6 l6 c6 ((G.take k).map λx=>uH x.c)/\bU w17.heap.size a6/\
     EQ w0 jK aO aV bi pj p ma ms kt km a n c' ps kvs es rs ⟨GB s.L (G.take k) s.now,s.last,s.now⟩ wl/\ao wl k2 eK [.pointer (some ⟨pj,0,none⟩)]/\Sl uK wl (λb=>w3.heap.size <=b/\b<w17.heap.size) a13 G.length c13 (G.map Kpt.c)/\Chg [pj,p,ma,ms] w wl/\w17.heap.size <=wl.heap.size,
   ⟨_,0,by omega,rfl,rfl,Ow.nil _ _ _ _,(λg hg=>by cases hg),J17,a217,hsl17,C17,Nat.le_refl _⟩,?_⟩
 intro m1 a6 l6 c6 i1
 refine aJ.of ?_ _
 rintro wl ⟨k,hk,rfl,rfl,hot,hft,Jl,a2l,hsl,Cl,szl⟩
 refine ab.of (λhi=>?_) (λhi=>?_) <;> simp only[dTx,dFx]at hi
 · have hlt:k<G.length:=by omega
   have hlt2:k<(G.map Kpt.c).length:=by rw[List.length_map];exact hlt
   obtain⟨hld,-⟩:=vv be hsl hlt2
   rw[List.getElem_map]at hld
   refine⟨⟨⟨by omega,by omega⟩,hsl.isSome hlt2⟩,_,hld,?_⟩
   have ox:=G[k].ok
   have xsm:=ji.sm _ (hGm _ (List.getElem_mem hlt))
   have hwk:i64.wrap ((k:Int)+1)=((k+1:Nat):Int):=by rw[wrap_i64 (by omega) (by omega)];omega
   try dsimp only
   rw[hwk]
   have htk:G.take (k+1)=G.take k++[G[k]]:=jV hlt
   have htl:(G.take k).length=k:=by rw[List.length_take];omega
   generalize G[k]=x at*
   refine be.new (zs:=An.cells) (cs:=x.c.cells) (Cky.len (by rfl)) (Cky.len ox) (Cky.one _) wl λk8 wx hk8 h8 hb8=>?_
   have Jx:=Jl.below hb8
   have a2x:=a2l.below hb8
   refine⟨_,λu hu=>(a2x.below hu).load1 mL rfl (i:=0) rfl,rfl,rfl,_,λu hu=>(Jx.below hu).cell.load1 bR rfl (i:=2) rfl,_,λu hu=>be.load0 (h8.below hu) (Cky.len ox),_,λu hu=>(a2x.below hu).load1 mL rfl (i:=0) rfl,rfl,rfl,rfl,_,λu hu=>(Jx.below hu).cell.load1 bP rfl (i:=0) rfl,λwq hq=>?_⟩
   have bq:=aa hb8 hq hb8.size
   have Jq:=Jx.below hq
   refine aw (H8 Jq.shf ox s.now) ?_
   rintro _ w34 ⟨rfl,hsh,hc⟩
   have hF3:∀b,w3.heap.size <=b->b ∉ [p,ma,ms]:=λb hb h=>(hlt3 b hb).1 (List.mem_cons_of_mem _ h)
   have J34:=Jq.step hc hsh
   have a234:=hc.arr (a2x.below hq) (by
     have h1:=J.shf.lts
     simp;omega)
   have h834:=hc.arr (h8.below hq) (hF3 k8 (by omega))
   have hot34:=(hot.below bq).chg hc λg hg=>hF3 g (by have:=hft g hg;omega)
   have hsl34:=(hsl.below bq).chg hc λb hb=>hF3 b hb.1
   have C34:=(Cl.step bq).trans (hc.mono λk hk=>List.mem_cons_of_mem _ hk)
   refine⟨_,rfl,_,be.load0 h834 (Cky.len ox),?_⟩
   refine aw (Jo ox xsm w34) ?_
   rintro _ w37 ⟨rfl,hb37⟩
   refine⟨_,rfl,λk38 w38 hk38 hw38=>?_⟩
   have hb38:bW w37 w38:=hw38▸ai w37 _
   have b38:=aa hb37 hb38 hb37.size
   have hsrc:Src tS w38 NoB (some ⟨k38,0,none⟩) 1 [uH x.c]:=Src.new1F (dN _) hk38 hw38 (eN trivial)
   obtain⟨w39,a39,l39,c39,hr,ho39,hg39,hf39⟩:=eZ (ty:=aH) dW dI (by decide) (hot34.below b38) (λ_ _ h=>h) (cm:=1) hsrc (by rw[List.length_map,htl];simp;omega)
   have s1:=bq.size
   have s2:=hc.size
   have s3:=b38.size
   have s4:=hg39.size
   have hrow:∀r,eJ a6=some r->w17.heap.size <=r:=λr h=>hft r h
   have huse:GB s.L (G.take (k+1)) s.now=IC (GB s.L (G.take k) s.now) (x.c.plc ox) s.now:=by
     unfold GB
     rw[htk,List.foldl_append];rfl
   refine⟨w39,a39,l39,c39,hr,G.length-(k+1),by omega,k+1,by omega,rfl,rfl,?_,hft.app (by omega) hf39,?_,?_,?_,?_,by omega⟩
   · rw[htk,List.map_append];exact ho39
   · rw[huse]
     exact(J34.below b38).row hg39 λr h=>hlt3 r (by have:=hrow r h;omega)
   · exact(a234.below b38).grown hg39 (λe=>by have:=hrow _ e.symm;omega)
   · exact(hsl34.below b38).chg (MV hg39) λb hb h=>by
       have:=hrow b (by simpa using h)
       omega
   · exact(C34.step b38).row hg39 λr h=>.inl (by have:=hrow r h;have:=B3.size;omega)
 · have:k=G.length:=by omega
   subst this
   rw[List.take_length]at hot Jl
   have hlen:=R9 (B:=2300000) (G.map λx=>uH x.c) (λz hz=>by
     obtain⟨x,hx,rfl⟩:=List.mem_map.1 hz
     exact Ra (ji.sm _ (hGm _ hx)))
   rw[List.length_map]at hlen
   have hlen2:(K1 (G.map λx=>uH x.c)).length <=100000*(2300000+2):=Nat.le_trans hlen (Nat.mul_le_mul_right _ (by omega))
   have hj:=K3 (G.map λx=>uH x.c)
   refine aw (xB hot.all [59,32] (by rw[List.length_map];omega) (by rw[<- hj];omega)) ?_
   rintro _ w42 ⟨rfl,hb42⟩
   refine⟨_,rfl,?_,Kf.same ⟨p,ma,ms,kt,km,a,n,c',ps,kvs,es,rfl,Jl.below hb42⟩ (Cl.step hb42)⟩
   rw[hj]
end
theorem IU {w:World}{k k':Nat}{cur:Array Value}{t t':TypeId}{fr:Nat×Nat}{vs':List Value}(h:w.heap[k]? =some (.cells cur t fr))(h':ao w k' t' vs')(ht:t≠t'):k≠k':=λe=>by
 subst e
 have h':w.heap[k]? =_:=h'
 rw[h]at h'
 have:=Option.some.inj h'
 injection this with _ h2 _
 exact ht h2
section
variable {w0:World} {pj:Nat} {F:List Nat} {rs:List Rul} {s:JS} {w:World}
theorem NY (J:GH w0 pj F rs s w){k:Nat}{cur:Array Value}{t:TypeId}{fr:Nat×Nat}(ha:w.heap[k]? =some (.cells cur t fr))(h1:t≠jK)(h2:t≠aO)(h3:t≠aV)(h4:t≠bi):
   k ∉ F/\∀w',w0.heap.size <=k->w.grownBy w' (some k)->GH w0 pj F rs s w':=by
 obtain⟨p,ma,ms,kt,km,a,n,c,ps,kvs,es,rfl,J⟩:=J
 obtain⟨M,S,hM,hS,_,_⟩:=J.shf.ex
 have n1:=IU ha J.cell h1
 have n2:=IU ha J.shf.cell h2
 have n3:=IU ha J.tab.h1 h3
 have n4:k≠ma:=λe=>by
   obtain⟨x,y,hh,_⟩:=hM
   subst e;rw[ha]at hh;cases hh
 have n5:k≠ms:=λe=>by
   obtain⟨x,y,hh,_⟩:=hS
   subst e;rw[ha]at hh;cases hh
 have n6:k≠km:=λe=>by
   obtain⟨x,y,hh,_⟩:=J.tab.h2
   subst e;rw[ha]at hh;cases hh
 have n7:eJ a≠some k:=λe=>by
   rcases J.tab.h3.2.2.2 with⟨e1,_⟩|⟨g,cur,fr,e1,hh,_⟩
   · rw[e1]at e;cases e
   · rw[e1]at e
     have:g=k:=by simpa[eJ]using e
     subst this
     rw[ha]at hh
     have:=Option.some.inj hh
     injection this with _ h2 _
     exact h4 h2
 have nF:k ∉ [pj,p,ma,ms]:=by simp;exact⟨n1,n2,n4,n5⟩
 refine⟨nF,λw' hk hg=>⟨p,ma,ms,kt,km,a,n,c,ps,kvs,es,rfl,J.row hg λr hr=>?_⟩⟩
 cases hr
 exact⟨nF,hk,n3,n6,n7⟩
theorem Ej (J:GH w0 pj F rs s w){a:Option Addr}{n c:Nat}{xs:List (List UInt8)}(ho:Ow tS ah w NoB a n c xs):
   (∀g,eJ a=some g->g ∉ F)/\∀w',bU w0.heap.size a->w.grownBy w' (eJ a)->GH w0 pj F rs s w':=by
 rcases ho.2.2.2 with⟨rfl,_⟩|⟨g,cur,fr,rfl,hh,_⟩
 · refine⟨λg h=>(by cases h),λw' _ hg=>?_⟩
   exact J.below ⟨hg.os,hg.tape,hg.output,hg.size,λk hk=>hg.block k hk (λe=>by cases e)⟩
 · have:=NY J hh (by decide) (by decide) (by decide) (by decide)
   refine⟨λx hx=>?_,λw' hf hg=>this.2 w' (hf g rfl) hg⟩
   have:g=x:=by simpa[eJ]using hx
   subst this;exact this.1
end
def V7:List UInt8:=[101,114,114,111,114,32]
def Rj (e:Int):List UInt8:=if e=0 then[111,107]else V7++mA e.toNat
noncomputable def Us (rs:List Rul)(s:JS)(o:OpR)(ok:o.ok):Int:=if o.kind=1 then(EA rs s o.url ok.uo o.text).2 else if o.kind=3 then(wg s o.n).2 else if o.kind=4 then 0 else 131
noncomputable def Rc (rs:List Rul)(s:JS)(o:OpR)(ok:o.ok):List UInt8:=if o.kind=2 then j8 (Qs s o.req).2 else Rj (Us rs s o ok)
noncomputable def su (rs:List Rul):JS->List OpK->List (List UInt8)
 | _,[]=>[]
 | s,o::l=>Rc rs s o.o o.ok::su rs (doV rs s o.o o.ok) l
theorem K0 (rs:List Rul):∀(l:List OpK) (s:JS),(su rs s l).length=l.length
 | [],_=>rfl
 | o::l,s=>by rw[su,List.length_cons,List.length_cons,K0 rs l]
theorem BU (rs:List Rul):∀(l m:List OpK) (s:JS),su rs s (l++m)=su rs s l++su rs (MB rs s l) m
 | [],m,s=>rfl
 | o::l,m,s=>by rw[List.cons_append,su,su,BU rs l m,List.cons_append];rfl
theorem OU (rs:List Rul)(o:OpK)(l:List OpK)(s:JS):su rs s (l++[o])=su rs s l++[Rc rs (MB rs s l) o.o o.ok]:=BU rs l [o] s
theorem TP {e:Int}(h:0 <=e):Pn e.toNat=Rj e:=by
 unfold Pn Rj
 by_cases c:e=0
 · rw[if_pos (by omega),if_pos c]
 · rw[if_neg (by omega),if_neg c];rfl
theorem Oy (t:List UInt8):0 <=(cK t).2/\(cK t).2 <=1000:=by
 unfold cK
 split
 · dsimp only;omega
 split
 · dsimp only;omega
 split <;> (dsimp only;omega)
theorem TM (rs:List Rul)(u:Url)(h:Hdr)(now:Int):0 <=(pz rs u h now).2/\(pz rs u h now).2 <=1000:=by
 have h1:0 <=Mz u h now/\Mz u h now <=1000:=by
   unfold Mz
   split
   · decide
   split
   · decide
   split
   · decide
   split <;> decide
 have h2:∀t,0 <=(qc rs u.host t).2.2/\(qc rs u.host t).2.2 <=1000:=by
   intro t
   unfold qc
   split
   · dsimp only;omega
   split
   · dsimp only;omega
   split
   · dsimp only;omega
   split <;> (dsimp only;omega)
 have h3:∀d:Hst×Bool×Int,0 <=d.2.2/\d.2.2 <=1000->0 <=Kv u h d/\Kv u h d <=1000:=by
   intro d hd
   unfold Kv
   split
   · exact hd
   split
   · decide
   split
   · decide
   split <;> decide
 unfold pz
 split
 · exact h1
 split
 · exact h3 _ (h2 _)
 · dsimp only;omega
theorem TC (rs:List Rul)(s:JS)(u:Url)(ou:u.ok)(t:List UInt8):0 <=(EA rs s u ou t).2/\(EA rs s u ou t).2 <=1000:=by
 unfold EA
 split
 · dsimp only;omega
 split
 · exact Oy t
 split
 · exact TM _ _ _ _
 split <;> (dsimp only;omega)
theorem Sa {B:Nat} :∀l:List (List UInt8),(∀x∈l,x.length <=B)->MC l <=l.length*B
 | [],_=>Nat.zero_le _
 | x::l,h=>by
   have h1:=Sa l λy hy=>h y (List.mem_cons_of_mem _ hy)
   have h2:=h x List.mem_cons_self
   rw[MC,List.length_cons,Nat.add_mul,Nat.one_mul];omega
theorem NC {s:JS}(h:JI s 1000)(r:Req):(Qs s r).2.length <=1000000000000:=by
 have hf:=(List.length_filter_le (λk:Kpt=>iF k.c r s.now) s.L)
 have hm:=h.few
 have hs:=Sa (B:=2200001) ((s.L.filter λk=>iF k.c r s.now).map λk=>uH k.c) λx hx=>by
   obtain⟨k,hk,rfl⟩:=List.mem_map.1 hx
   have:=h.sm k (List.mem_filter.1 hk).1
   have h1:=this.nm
   have h2:=this.vl
   unfold uH
   split
   · omega
   · simp;omega
 rw[List.length_map]at hs
 rw[Tb]
 omega
theorem Rg (s:JS)(n:Int):0 <=(wg s n).2/\(wg s n).2 <=1000:=by
 unfold wg
 split <;> (dsimp only;omega)
theorem r7 (e:Int)(h0:0 <=e/\e <=1000)(w:World)(he:Env w):Cf fL #[vI e] w (Ret λv w'=>v=vS (Rj e)/\bW w w'):=by
 have:=DO e.toNat (by omega) w he
 rwa [Int.toNat_of_nonneg h0.1,TP h0.1]at this
structure RnS (wb w0:World)(pj:Nat)(rs:List Rul)(s:JS)(a:Option Addr)(n c:Nat)(xs:List (List UInt8))(w:World):Prop where
 ex:∃F,GH w0 pj F rs s w/\∀x∈F,wb.heap.size <=x
 ow:Ow tS ah w NoB a n c xs
 fr:bU wb.heap.size a
 hb:bW wb w
section
variable {wb w0:World} {pj:Nat} {rs:List Rul} {s:JS} {a:Option Addr} {n c:Nat} {xs:List (List UInt8)} {w:World}
theorem RnS.below (R:RnS wb w0 pj rs s a n c xs w){w':World}(h:bW w w'):RnS wb w0 pj rs s a n c xs w':=by
 obtain⟨F,J,hF⟩:=R.ex
 exact⟨⟨F,J.below h,hF⟩,R.ow.below h,R.fr,aa R.hb h R.hb.size⟩
theorem RnS.step (R:RnS wb w0 pj rs s a n c xs w){F:List Nat}(J:GH w0 pj F rs s w)(hF:∀x∈F,wb.heap.size <=x){s':JS}{w':World}(h:Kf w0 pj F rs s' w w'):RnS wb w0 pj rs s' a n c xs w':=by
 obtain⟨F',J',hc,hn⟩:=h
 exact⟨⟨F',J',λx hx=>(hn x hx).elim (hF x) λh=>Nat.le_trans R.hb.size h⟩,R.ow.chg hc (Ej J R.ow).1,R.fr,R.hb.trans (hc.below R.hb.size hF)⟩
theorem RnS.push (R:RnS wb w0 pj rs s a n c xs w)(h0:w0.heap.size <=wb.heap.size)(x:List UInt8)(hl:xs.length <=1000000):∀(k:Nat) (w1:World),k=w.heap.size->w1=w.alloc (.cells #[vS x] ah)->
   ∃(w2:World) (a':Option Addr) (n' c':Nat),(Builtin.append_ #[aH,aH] aH #[.slice a n c,.slice (some ⟨k,0,none⟩) 1 1]).run prog w1=.ok (.slice a' n' c') w2/\RnS wb w0 pj rs s a' n' c' (xs++[x]) w2:=by
 intro k w1 hk hw
 obtain⟨F,J,hF⟩:=R.ex
 have hb1:bW w w1:=hw▸ai w _
 have hsrc:Src tS w1 NoB (some ⟨k,0,none⟩) 1 [x]:=Src.new1F (vs:=[vS x]) (dN _) hk hw (eN trivial)
 obtain⟨w4,a4,n4,c4,hr,ho4,hgr,hfr⟩:=eZ (ty:=aH) dW dI (by decide) (R.ow.below hb1) (λ_ _ h=>h) (cm:=1) hsrc (by simp;omega)
 have hB:=aa R.hb hb1 R.hb.size
 exact⟨w4,a4,n4,c4,hr,⟨⟨F,(Ej (J.below hb1) (R.ow.below hb1)).2 _ (λg hg=>Nat.le_trans h0 (R.fr g hg)) hgr,hF⟩,ho4,R.fr.app hB.size hfr,hB.grown hgr hB.size R.fr⟩⟩
end
theorem Gn {w0:World}(he:Env w0){kt km:Nat}{a:Option Addr}{n c:Nat}{ps:List Pth}{kvs:List (jq×Int)}{es:List (List Bool)}{rs:List Rul}{w:World}(S:j0 w0 aV bi kt km a n c ps kvs es rs w)
   {A:Bl} {a1:Option Addr} {l1 c1:Nat} (ks:List OpK) (ho:Sl tOp w A a1 l1 c1 (ks.map (·.o))) (hl:ks.length <=1000):
   Cf qC #[.pointer (some ⟨kt,0,none⟩),.slice a1 l1 c1] w (Ret λv w'=>∃a n c,v=.slice a n c/\Ow tS ah w' NoB a n c (su rs (js0 0) ks)/\bU w.heap.size a/\bW w w'):=by
 apply DH
 refine aw (LO S) ?_
 rintro _ w2 ⟨pj,F,rfl,J,hF,hb2⟩
 have hw0:=S.hb.size
 have env:∀{u:World},bW w u->Env u:=λhb=>he.step (aa S.hb hb hw0)
 have hlen:l1=ks.length:=by have:=ho.len;rwa [List.length_map]at this
 have ji0:JI (js0 0) 0:=JI.new (by decide) (by decide) 0
 refine⟨_,rfl,λm a n c i w'=>∃k:Nat,k <=ks.length/\i=(k:Int)/\m=ks.length-k/\RnS w w0 pj rs (MB rs (js0 0) (ks.take k)) a n c (su rs (js0 0) (ks.take k)) w',⟨_,0,Nat.zero_le _,rfl,rfl,⟨⟨F,J,hF⟩,Ow.nil _ _ _ _,bU.none _,hb2⟩⟩,λm a n c i=>aJ.of ?_ _⟩
 rintro w3 ⟨k,hk,rfl,rfl,R⟩
 have ji:JI (MB rs (js0 0) (ks.take k)) 1000:=(JI.run (rs:=rs) (ks.take k) ji0).mono (by rw[List.length_take];omega)
 refine ab.of (λhi=>?_) (λhi=>?_) <;> simp only[dTx,dFx]at hi
 · have hlt:k<ks.length:=by omega
   have hsl:=ho.below R.hb
   have hltm:k<(ks.map (·.o)).length:=by rw[List.length_map];exact hlt
   obtain⟨hld,W⟩:=uv ec hsl hltm
   rw[List.getElem_map]at hld W
   have hrun:MB rs (js0 0) (ks.take (k+1))=doV rs (MB rs (js0 0) (ks.take k)) ks[k].o ks[k].ok:=by
     rw[jV hlt,HU]
   have hrs:su rs (js0 0) (ks.take (k+1))=su rs (js0 0) (ks.take k)++[Rc rs (MB rs (js0 0) (ks.take k)) ks[k].o ks[k].ok]:=by
     rw[jV hlt,OU]
   have hxl:=K0 rs (ks.take k) (js0 0)
   rw[List.length_take]at hxl
   refine⟨⟨⟨by omega,hi⟩,hsl.isSome hltm⟩,_,hld,?_⟩
   have hwk:i64.wrap ((k:Int)+1)=((k+1:Nat):Int):=by rw[wrap_i64 (by omega) (by omega)];omega
   try dsimp only
   rw[hwk]
   revert W ji R hrun hrs hxl
   generalize MB rs (js0 0) (ks.take k)=s
   generalize su rs (js0 0) (ks.take k)=xs
   generalize ks[k]=o
   intro R ji W hrun hrs hxl
   refine ec.new (zs:=uy.cells) (cs:=o.o.cells) cG (OpW.len W) (OpR.one _) w3 λk8 w4 hk8 h8 hb4=>?_
   have R4:=R.below hb4
   refine aw (r7 0 (by decide) w4 (env R4.hb)) ?_
   rintro _ w5 ⟨rfl,hb5⟩
   have R5:=R4.below hb5
   have h85:=h8.below hb5
   obtain⟨F,J5,hF⟩:=R5.ex
   refine⟨_,rfl,λt w'=>t=Rc rs s o.o o.ok/\RnS w w0 pj rs (doV rs s o.o o.ok) a n c xs w',⟨rfl,_,h85.load1 bG rfl (i:=0) rfl,?_⟩,λt=>aJ.of ?_ _⟩
   · refine ab.of (λc1=>?_) (λc1=>?_)
     · have c1:o.o.kind=1:=by simpa using c1
       refine⟨rfl,_,gP.load h85 (i:=1) (us:=o.o.url.cells) (Url.len o.ok.uo) (λj hj=>En o.ok hj),rfl,_,h85.load1 av rfl (FQ o.ok),?_⟩
       refine aw (LP he J5 ji (by decide) o.ok.uo o.ok.un o.ok.up _ (by have:=o.ok.tx;omega)) ?_
       rintro _ w6 ⟨rfl,h6⟩
       have R6:=R5.step J5 hF h6
       refine⟨_,rfl,?_⟩
       refine aw (r7 _ (TC _ _ _ _ _) w6 (env R6.hb)) ?_
       rintro _ w7 ⟨rfl,hb7⟩
       refine⟨_,rfl,?_,?_⟩
       · unfold Rc Us;rw[if_neg (by omega),if_pos c1]
       · rw[show doV rs s o.o o.ok=(EA rs s o.o.url o.ok.uo o.o.text).1 from by unfold doV;rw[if_pos c1]]
         exact R6.below hb7
     have c1:o.o.kind≠1:=by simpa using c1
     refine ab.of (λc2=>?_) (λc2=>?_)
     · have c2:o.o.kind=2:=by simpa using c2
       refine⟨rfl,_,gH.load h85 (i:=23) (us:=o.o.req.cells) (Req.len o.ok.ro) (λj hj=>pJ o.ok hj),?_⟩
       refine aw (LN he J5 ji (by decide) (r:=o.o.req) o.ok.ro o.ok.rn) ?_
       rintro _ w6 ⟨rfl,h6⟩
       have R6:=R5.step J5 hF h6
       refine⟨_,rfl,?_⟩
       refine aw (pi _ (NC ji _) w6) ?_
       rintro _ w7 ⟨rfl,hb7⟩
       refine⟨_,rfl,?_,?_⟩
       · unfold Rc;rw[if_pos c2]
       · rw[show doV rs s o.o o.ok=(Qs s o.o.req).1 from by unfold doV;rw[if_neg c1,if_pos c2]]
         exact R6.below hb7
     have c2:o.o.kind≠2:=by simpa using c2
     refine ab.of (λc3=>?_) (λc3=>?_)
     · have c3:o.o.kind=3:=by simpa using c3
       refine⟨rfl,_,h85.load1 bP rfl (PI o.ok),?_⟩
       refine aw (Jn J5 ji (by decide) o.o.n W.hi) ?_
       rintro _ w6 ⟨rfl,h6⟩
       have R6:=R5.step J5 hF h6
       refine⟨_,rfl,?_⟩
       refine aw (r7 _ (Rg _ _) w6 (env R6.hb)) ?_
       rintro _ w7 ⟨rfl,hb7⟩
       refine⟨_,rfl,?_,?_⟩
       · unfold Rc Us;rw[if_neg c2,if_neg c1,if_pos c3]
       · rw[show doV rs s o.o o.ok=(wg s o.o.n).1 from by unfold doV;rw[if_neg c1,if_neg c2,if_pos c3]]
         exact R6.below hb7
     have c3:o.o.kind≠3:=by simpa using c3
     refine ab.of (λc4=>?_) (λc4=>?_)
     · have c4:o.o.kind=4:=by simpa using c4
       refine aw (Ht J5) ?_
       rintro _ w6 ⟨rfl,h6⟩
       have R6:=R5.step J5 hF h6
       refine⟨rfl,?_,?_⟩
       · unfold Rc Us;rw[if_neg c2,if_neg c1,if_neg c3,if_pos c4]
       · rw[show doV rs s o.o o.ok=js0 s.now from by unfold doV;rw[if_neg c1,if_neg c2,if_neg c3,if_pos c4]]
         exact R6
     · have c4:o.o.kind≠4:=by simpa using c4
       refine aw (r7 131 (by decide) w5 (env R5.hb)) ?_
       rintro _ w7 ⟨rfl,hb7⟩
       refine⟨_,rfl,?_,?_⟩
       · unfold Rc Us;rw[if_neg c2,if_neg c1,if_neg c3,if_neg c4]
       · rw[show doV rs s o.o o.ok=s from by unfold doV;rw[if_neg c1,if_neg c2,if_neg c3,if_neg c4]]
         exact R5.below hb7
   · rintro w6 ⟨rfl,R6⟩ k7 w7 hk7 hw7
     obtain⟨w8,a',n',c',hr,R8⟩:=R6.push hw0 _ (by omega) k7 w7 hk7 hw7
     exact⟨w8,a',n',c',hr,ks.length-(k+1),by omega,k+1,by omega,rfl,rfl,by rw[hrun,hrs];exact R8⟩
 · have:k=ks.length:=by omega
   subst this
   rw[List.take_length]at R
   exact⟨_,_,_,rfl,R.ow,R.fr,R.hb⟩
theorem A8 {r:Req}(o:r.ok):r.cells[19]? =some (vS r.path):=by
 unfold Req.cells
 rw[show 19=18+1 from rfl,List.getElem?_cons_succ,List.getElem?_append_right (by rw[Hst.len o];decide),Hst.len o];rfl
theorem qW {w K}(h:Cf fW #[vS [115,101,116,32,104,116,116,112,58,47,47,104,47,32,97,61,49,10,116,105,99,107,32,49,10,103,101,116,32,104,116,116,112,32,104,32,47,32,115,97,109,101,10]] w λa b=>∃c d e f g i,a=rT #[.slice c d e,.agg #[vI f,vI g,vI i]]/\nA b (.cells #[vI 0,vI 0,vI 0] aF) λj k=>∃l,Sv aF (vA j 0) (.agg #[vI f,vI g,vI i]) k l/\∃m n o,Ld aF (vA j 0) l (.agg #[vI m,vI n,vI o])/\∃p,(do eqGuard .eql aF (.tmp 7) (.tmp 8) (.agg #[vI m,vI n,vI o]) (.agg #[vI 0,vI 0,vI 0]);binOp .eql aF (.agg #[vI m,vI n,vI o]) (.agg #[vI 0,vI 0,vI 0]):Sem Value).run prog l=.ok (.bool p) l/\ab p (uP qE #[.slice none 0 0] l λq r=>uL qC #[.pointer q,.slice c d e] r λs t u v=>nA v (.cells #[vS [111,107],vS [111,107],vS [97,61,49]] ah) λx y=>uB qA #[.slice s t u,.slice (vA x 0) 3 3] y λz A=>K (.bool z) A) (K (.bool false) l)):Cf fJ #[] w (Ret K):=ru func8 [] h
def alS:List UInt8:=[115,101,116,32,104,116,116,112,58,47,47,104,47,32,97,61,49,10,116,105,99,107,32,49,10,103,101,116,32,104,116,116,112,32,104,32,47,32,115,97,109,101,10]
def VR:Hst:=⟨1,[104],ad0⟩
def alO:List OpR:=[⟨1,⟨false,VR,80,[47]⟩,[97,61,49],j6,0⟩,⟨3,eX,[],j6,1⟩,⟨2,eX,[],⟨false,VR,[47],0⟩,0⟩]
theorem Uh:∀o∈alO,o.ok:=by
 intro o ho
 simp only[alO,List.mem_cons,List.not_mem_nil,or_false]at ho
 rcases ho with rfl|rfl|rfl <;> exact⟨rfl,rfl,by decide,by decide,by decide,by decide,by decide⟩
def alK:List OpK:=alO.attach.map λo=>⟨o.1,Uh o.1 o.2⟩
theorem Vk:alK.map (·.o)=alO:=by
 unfold alK
 rw[List.map_map]
 exact List.attach_map_subtype_val alO
theorem PS:fk bT alS=(alO,0,0,0):=by kernel_rfl
theorem Sw:su [] (js0 0) alK=[[111,107],[111,107],[97,61,49]]:=by kernel_rfl
theorem Nj (x y:Int×Int×Int):eqV prog 10000 aF (Je x) (Je y)=some ((x.1==y.1)&&((x.2.1==y.2.1)&&((x.2.2==y.2.2)&&true))):=by kernel_rfl
theorem Nw (x y:Int×Int×Int){p q:Operand}(w:World):((do eqGuard .eql aF p q (Je x) (Je y);binOp .eql aF (Je x) (Je y):Sem Value)).run prog w=.ok (.bool ((x.1==y.1)&&((x.2.1==y.2.1)&&((x.2.2==y.2.2)&&true)))) w:=
 Ez (by kernel_rfl) (Nj x y) w
theorem sI (w:World)(he:Env w):Cf fJ #[] w (Ret λv w'=>v=.bool true/\bW w w'):=by
 apply qW
 refine aw (jl alS w he) ?_
 rintro _ w2 ⟨a,n,c,rfl,ho,hf,hb2⟩
 rw[PS]at ho ⊢
 refine⟨_,_,_,_,_,_,rfl,?_⟩
 refine iu.new (zs:=Ky (0,0,0)) (cs:=Ky (0,0,0)) rfl rfl (xr _) w2 λk3 w3 hk3 h3 hb3=>?_
 have hB3:=aa hb2 hb3 hb2.size
 refine⟨_,_,_,iu.load0 h3 rfl,_,Nw (0,0,0) (0,0,0) w3,ab.yes rfl ?_⟩
 refine aw (Gu (Sl.nil VG w3 zW none 0 (Nat.zero_le _)) (by decide) (λr hr=>by cases hr) (he.step hB3)) ?_
 rintro _ w4 ⟨kt,km,a',n',c',ps,kvs,es,rfl,S⟩
 have hb4:=S.hb
 rw[List.filter_nil]at S
 have hl:Sl tOp w4 zW a n c (alK.map (·.o)):=by
   rw[Vk];exact((ho.below hb3).below hb4).all
 refine⟨_,rfl,?_⟩
 refine aw (Gn (he.step hB3) S alK hl (by decide)) ?_
 rintro _ w5 ⟨a5,n5,c5,rfl,o5,f5,hb5⟩
 rw[Sw]at o5
 have hB5:=aa (aa hB3 hb4 hB3.size) hb5 (aa hB3 hb4 hB3.size).size
 refine⟨_,_,_,rfl,λk6 w6 hk6 hw6=>?_⟩
 have hb6:bW w5 w6:=hw6▸ai w5 _
 have o6:Ow tS ah w6 NoB (some ⟨k6,0,none⟩) 3 3 [[111,107],[111,107],[97,61,49]]:=Ow.newF (dN _) hk6 hw6 Gx (by decide)
 refine aw (FW (o5.below hb6).all o6.all (by decide)) ?_
 rintro _ w7 ⟨rfl,hb7⟩
 exact⟨_,rfl,rfl,aa (aa hB5 hb6 hB5.size) hb7 (aa hB5 hb6 hB5.size).size⟩
theorem vL {A B:Bl}{a0:Option Addr}{l0 c0:Nat}{xs:List OpR}{a1:Option Addr}{l1 c1:Nat}{ys:List OpR}{w:World}(hx:Sl tOp w A a0 l0 c0 xs)(hy:Sl tOp w B a1 l1 c1 ys)(hl:xs.length <=1000000):
   Cf mG #[.slice a0 l0 c0,.slice a1 l1 c1] w (Ret λv w'=>∃b:Bool,v=.bool b/\(b=true ↔ xs=ys)/\bW w w'):=by
 have hn:=hx.1
 have hm:=hy.1
 subst hn hm
 apply DF
 refine ab.of (λh=>?_) (λh=>?_)
 · refine⟨_,rfl,⟨λe=>(by cases e),?_⟩,Below.refl _ _⟩
   rintro rfl
   simp at h
 have hlen:xs.length=ys.length:=by
   have:((xs.length:Nat):Int)=((ys.length:Nat):Int):=by simpa using h
   omega
 refine⟨λm i w'=>∃k:Nat,k <=xs.length/\i=(k:Int)/\m=xs.length-k/\xs.take k=ys.take k/\bW w w',⟨_,0,by omega,rfl,rfl,rfl,Below.refl _ _⟩,?_⟩
 intro m i
 refine aJ.of ?_ _
 rintro w1 ⟨k,hk,rfl,rfl,heq,hB⟩
 refine ab.of (λh2=>?_) (λh2=>?_) <;> simp only[dTx,dFx]at h2
 · have hlt:k<xs.length:=by omega
   have hlt':k<ys.length:=by omega
   have rx:=λu (hu:bW w1 u)=>uv ec (hx.below (aa hB hu hB.size)) hlt
   have ry:=λu (hu:bW w1 u)=>uv ec (hy.below (aa hB hu hB.size)) hlt'
   have fx:=(rx w1 (Below.refl _ _)).2.fit
   have fy:=(ry w1 (Below.refl _ _)).2.fit
   refine⟨⟨⟨by omega,h2⟩,hx.isSome hlt⟩,xs[k].v,λu hu=>(rx u hu).1,⟨⟨by omega,by omega⟩,hy.isSome (i:=k) hlt'⟩,ys[k].v,λu hu=>(ry u hu).1,_,λu _=>VA fx fy u,?_⟩
   intro wq hwq
   have hBq:=aa hB hwq hB.size
   refine ab.of (λh3=>?_) (λh3=>?_)
   · refine⟨_,rfl,⟨λe=>(by cases e),?_⟩,hBq⟩
     rintro rfl
     rw[(zO fx fx).2 rfl]at h3
     cases h3
   · have h3:xs[k]=ys[k]:=(zO fx fy).1 (by simpa using h3)
     refine⟨xs.length-(k+1),by omega,k+1,by omega,by rw[wrap_i64 (by omega) (by omega)];omega,rfl,?_,hBq⟩
     rw[List.take_succ_eq_append_getElem hlt,List.take_succ_eq_append_getElem hlt',heq,h3]
 · have:k=xs.length:=by omega
   subst this
   rw[List.take_length,hlen,List.take_length]at heq
   exact⟨_,rfl,⟨λ_=>heq,λ_=>rfl⟩,hB⟩
section
variable (X:Url->List UInt8)
theorem K6 {s a b:List UInt8}(h:bK 32 [] s=[xX,a,b]):kZ X s=if(iR a).2=0 then(unP b).bind λt=>fh X ⟨1,(iR a).1,t,j6,0⟩ (xX++32::(X (iR a).1++32::b))else none:=by
 unfold kZ;rw[h];show(if xX=xX then _ else _)=_;rw[if_pos rfl]
theorem K5 {s a b c d:List UInt8}(h:bK 32 [] s=[sA,a,b,c,d]):kZ X s=(bt b).bind λh=>fh X ⟨2,eX,[],⟨a==gv,h,c,if d=GW then 2 else if d=GJ then 1 else 0⟩,0⟩ (sA++32::(a++32::(cD h++32::(c++32::d)))):=by
 unfold kZ;rw[h];show(if sA=sA then _ else _)=_;rw[if_pos rfl]
theorem Ib {s a:List UInt8}(h:bK 32 [] s=[mv,a]):kZ X s=if nK a then fh X ⟨3,eX,[],j6,ez a⟩ s else none:=by
 unfold kZ;rw[h];show(if mv=mv then _ else _)=_;rw[if_pos rfl]
end
theorem Cn {u:Url}(o:u.ok)(hn:u.host.name.length <=1000000)(hp:u.path.length <=1000000):(gr u).length <=2001000:=by
 unfold gr
 split
 · rename_i h
   unfold fm at h
   simp only[Bool.and_eq_true,dTx]at h
   have h1:=jR o
   have h2:=xj 4 u.port.toNat (by omega)
   unfold eT
   simp only[List.length_append]
   have h3:(if u.sec=true then([104,116,116,112,115,58,47,47]:List UInt8)else[104,116,116,112,58,47,47]).length <=8:=by split <;> decide
   have h4:(fZ u.sec u.port).length <=6:=by
     unfold fZ
     split <;> (split <;> simp only[List.length_cons,List.length_nil] <;> omega)
   omega
 · exact Nat.zero_le _
theorem Er (f:List UInt8->Option OpR):∀(L:List (List UInt8)) (i:Nat) (out:List OpR),out.length <=i->i <=200->(gK f i L out).1.length <=200
 | [],i,out,h,hi=>by rw[nO];exact Nat.le_trans h hi
 | x::r,i,out,h,hi=>by
   by_cases c:i=200
   · rw[lR _ _ _ _ c];exact Nat.zero_le _
   · cases e:f x with
     | none=>rw[nN _ _ c e];exact Nat.zero_le _
     | some o=>rw[lS _ _ c e];exact Er f r (i+1) _ (by simp;omega) (by omega)
theorem Eu (f:List UInt8->Option OpR)(s:List UInt8):(fk f s).1.length <=200:=by
 unfold fk
 split
 · exact Nat.zero_le _
 · exact Er f _ 0 [] (Nat.le_refl _) (Nat.zero_le _)
def qj (u:Url):List UInt8:=(if u.sec then[104,116,116,112,115,58,47,47]else[104,116,116,112,58,47,47])++(cD u.host++(fZ u.sec u.port++u.path))
theorem EM (s:List UInt8):(j8 s).length <=3*s.length+1:=by
 unfold j8
 split
 · simp
 · have:=(mr s).2;omega
theorem Ow.heapF {α:Type}{T:Ty α}(hf:Flat T){w:World}{A:Bl}{t:TypeId}{l:List Value}{xs:List α}{b:Nat}(hh:w.heap[b]? =some (.cells l.toArray t))(h:gh T w A l xs)(hm:xs.length <=maxLen):
   Ow T t w A (some ⟨b,0,none⟩) xs.length xs.length xs:=by
 refine⟨rfl,Nat.le_refl _,hm,.inr ⟨_,l.toArray,(0,0),rfl,hh,?_,by simpa using h.len,?_⟩⟩
 · intro i hi;simp
 · rw[<- h.len];simp;exact h.flat hf
def Pf:List (List UInt8):=[[115,97,109,101],[116,111,112],[115,117,98]]
theorem K9 {n:Int}(h0:0 <=n)(h2:n <=2):Pf[n.toNat]? =some (gY n):=by
 have:n=0\/n=1\/n=2:=by omega
 rcases this with rfl|rfl|rfl <;> rfl
theorem OM {o:OpR}(k:o.ok)(h:cP o=true)(c:o.kind=2):cC o.req.host=true/\gV o.req.path=true/\0 <=o.req.cross/\o.req.cross <=2:=by
 have h1:=((ls k.fit).1 h).1
 unfold cX at h1
 rw[if_neg (by omega),if_pos c]at h1
 simpa only[Bool.and_eq_true,dTx]using h1
end Go.Pk
