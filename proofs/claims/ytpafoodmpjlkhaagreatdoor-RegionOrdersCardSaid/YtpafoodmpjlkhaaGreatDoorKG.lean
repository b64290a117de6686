/- What the laws lean on: V39, RegA, Lst, Bwd, ColX, V35, SufB, DfaH, HwP, HosA, HwQ, HwR, HwT, HsL, HosD, V37; what is used. Its conditions: none. -/
import Derived.Test.YtpafoodmpjlkhaaGreatDoorKF
import Derived.RangeFuncNested
import Derived.Shelf.AbstractIn
import Derived.RegionIn
set_option linter.unusedVariables false
set_option linter.unusedSimpArgs false
set_option linter.unusedSectionVars false
set_option maxRecDepth 100000
open Go.IntKind (i64)
open Go.Proofs.Tryz
open List (length)
open Option (isSome)
namespace Go.Pk
open Go.RowKit (Below)
open Go.Proofs
theorem F6 (a:Option Addr)(b:Value)(c:Int){w K}(h:nA w (.cells (Value.cells b) bE) λd e=>nA e (.cells aV aj) λf g=>∃i:FP [.one .any],(true/\∃j,Ld aX (vA d 20) g (.bool j)/\ae j (i (.func (.func dF) #[] #[]) g) (i (.func (.func fv) #[] #[]) g))/\∀j,aC 2 (∀k,i j k->true/\∃l,Ld ai (vA d 2) k l/\BE prog j #[.pointer a,l] k λm n=>∃o p q r s t u v x,m=rT #[.agg #[vI o,vI p,.slice q r s,.slice t u v],vI x]/\nA n (.cells #[vI 0,vI 0,.slice none 0 0,.slice none 0 0] af) λy z=>∃A,Sv af (vA y 0) (.agg #[vI o,vI p,.slice q r s,.slice t u v]) z A/\true/\∃B,Ld au (vA d 21) A (vS B)/\Cf oN #[vS B] A λC D=>∃E F G H I J L M N,C=rT #[.agg #[vI E,vI F,.slice G H I,.slice J L M],vI N]/\nA D (.cells #[vI 0,vI 0,.slice none 0 0,.slice none 0 0] af) λO P=>∃Q,Sv af (vA O 0) (.agg #[vI E,vI F,.slice G H I,.slice J L M]) P Q/\∃R S T U V X Y Z,Ld af (vA y 0) Q (.agg #[vI R,vI S,.slice T U V,.slice X Y Z])/\∃aa ac ad ag al an ba bb,Ld af (vA O 0) Q (.agg #[vI aa,vI ac,.slice ad ag al,.slice an ba bb])/\nA Q (.cells aV aj) λbc bd=>∃bj,Sv aj (vA bc 0) (.agg #[vI R,vI S,.slice T U V,.slice X Y Z,vI aa,vI ac,.slice ad ag al,.slice an ba bb,.bool false,.bool false,.bool false,.bool false,.bool false]) bd bj/\∃bk:FP [],(true/\∃bl,Ld lO (vA d 25) bj (vI bl)/\ae (decide (c<bl)) (true/\∃bn,Ld aX (vA d 22) bj (.bool bn)/\true/\∃bo,Sv wP (vA bc 8) (.agg #[.bool (!bn),.bool true]) bj bo/\true/\∃bq,Ld aw (vA d 24) bo (vI bq)/\true/\∃bw,Ld aw (vA d 24) bo (vI bw)/\true/\∃bx,Sv wQ (vA bc 10) (.agg #[.bool true,.bool (bq !=(3:Int)),.bool (bw==(1:Int))]) bo bx/\bk bx) (bk bj))/\aC 17 (∀bl,bk bl->∃bn,Ld aj (vA bc 0) bl bn/\Cf mx #[bn,vI x,vI N] bl λbo bq=>∃bw bx,bo=rT #[bw,vI bx]/\∃bz,Sv aj (vA f 0) bw bq bz/\∃ca,Rv aj (vA f 0) bz ca/\K (.tuple #[ca,vI bx]) bz))):Cf rV #[.pointer a,b,vI c] w (Ret K):=ru func35 [(4,[(8,.one .any)]),(16,[])] h
theorem yz (a:Option Addr)(b:Value){w K}(h:nA w (.cells (Value.cells b) aj) λc d=>nA d (.cells dD aq) λe f=>true/\∃g i j k l m n o,Ld af (vA c 0) f (.agg #[vI g,vI i,.slice j k l,.slice m n o])/\Cf oI #[.pointer a,.agg #[vI g,vI i,.slice j k l,.slice m n o]] f λp q=>∃r s t,p=rT #[r,.bool s,vI t]/\nA q (.cells bA ai) λu v=>∃x,Sv ai (vA u 0) r v x/\true/\∃y z A B C D E F,Ld af (vA c 4) x (.agg #[vI y,vI z,.slice A B C,.slice D E F])/\Cf oM #[.agg #[vI y,vI z,.slice A B C,.slice D E F]] x λG H=>∃I J L,G=rT #[vS I,.bool J,vI L]/\nA H (.cells #[vI t,vI L] fJ) λM N=>uI mw #[.slice (vA M 0) 2 2] N λO P=>ae (O !=(0:Int)) (∃Q,Sv aq (vA e 0) (.agg dD) P Q/\∃R,Rv aq (vA e 0) Q R/\K (.tuple #[R,.bool false,vI O]) Q) (true/\(True)/\uI cd #[.slice (vA c 8) 2 2,.bool true] P λQ R=>true/\(True)/\uI cd #[.slice (vA c 10) 3 3,.bool true] R λS T=>∃U:FP [],(∃V:FP [.one .bool],(ae (!s) (V true T) (ae (!J) (V true T) (ae (decide (Q<(0:Int))) (V true T) (V (decide (S<(0:Int))) T))))/\∀X,aC 13 (∀Y,V X Y->ae X (∃Z,Sv aq (vA e 0) (.agg dD) Y Z/\∃aa,Rv aq (vA e 0) Z aa/\K (.tuple #[aa,.bool false,vI 0]) Z) (U Y)))/\aC 17 (∀V,U V->∃X,Ld ai (vA u 0) V X/\∃Y,(Instr.build aq #[(0,.bool (Q==(1:Int))),(1,X),(2,vS I),(3,vI S)]).run prog V=.ok Y V/\∃Z,Sv aq (vA e 0) Y V Z/\∃aa,Rv aq (vA e 0) Z aa/\K (.tuple #[aa,.bool true,vI 0]) Z))):Cf dV #[.pointer a,b] w (Ret K):=ru func42 [(20,[]),(21,[(58,.one .bool)])] h
theorem Bb (a:Value)(b c:Int){w K}(h:nA w (.cells (Value.cells a) aj) λd e=>nA e (.cells aV aj) λf g=>ae (b==(151:Int)) (∃i,Ld aj (vA d 0) g i/\nA g (.cells #[vI c,vI b] fJ) λj k=>Cf jl #[i,.slice (vA j 0) 2 2] k λl m=>∃n o,l=rT #[n,vI o]/\∃p,Sv aj (vA f 0) n m p/\∃q,Rv aj (vA f 0) p q/\K (.tuple #[q,vI o]) p) (∃i,Ld aj (vA d 0) g i/\nA g (.cells #[vI b,vI c] fJ) λj k=>Cf jl #[i,.slice (vA j 0) 2 2] k λl m=>∃n o,l=rT #[n,vI o]/\∃p,Sv aj (vA f 0) n m p/\∃q,Rv aj (vA f 0) p q/\K (.tuple #[q,vI o]) p)):Cf mx #[a,vI b,vI c] w (Ret K):=ru func78 [] h
theorem Da (a:Value)(b:Option Addr)(c d:Nat){w K}(h:nA w (.cells (Value.cells a) aj) λe f=>nA f (.cells aV aj) λg i=>uI mw #[.slice b c d] i λj k=>ae (j !=(0:Int)) (∃l,Sv aj (vA g 0) (.agg aV) k l/\∃m,Rv aj (vA g 0) l m/\K (.tuple #[m,vI j]) l) (∃l,Ld aj (vA e 0) k l/\∃m,Sv aj (vA g 0) l k m/\∃n,Rv aj (vA g 0) m n/\K (.tuple #[n,vI 0]) m)):Cf jl #[a,.slice b c d] w (Ret K):=ru func86 [] h
theorem yy (a:Option Addr)(b:Value){w K}(h:nA w (.cells (Value.cells b) bT) λc d=>nA d (.cells aV aj) λe f=>∃g:FP [.one .any],(true/\∃i,Ld aX (vA c 0) f (.bool i)/\ae i (g (.func (.func gj) #[] #[]) f) (g (.func (.func dF) #[] #[]) f))/\∀i,aC 2 (∀j,g i j->true/\∃k,Ld ai (vA c 1) j k/\BE prog i #[.pointer a,k] j λl m=>∃n o p q r s t u v,l=rT #[.agg #[vI n,vI o,.slice p q r,.slice s t u],vI v]/\nA m (.cells #[vI 0,vI 0,.slice none 0 0,.slice none 0 0] af) λx y=>∃z,Sv af (vA x 0) (.agg #[vI n,vI o,.slice p q r,.slice s t u]) y z/\true/\∃A,Ld au (vA c 21) z (vS A)/\Cf mX #[vS A] z λB C=>∃D E F G H I J L M,B=rT #[.agg #[vI D,vI E,.slice F G H,.slice I J L],vI M]/\nA C (.cells #[vI 0,vI 0,.slice none 0 0,.slice none 0 0] af) λN O=>∃P,Sv af (vA N 0) (.agg #[vI D,vI E,.slice F G H,.slice I J L]) O P/\∃Q R S T U V X Y,Ld af (vA x 0) P (.agg #[vI Q,vI R,.slice S T U,.slice V X Y])/\∃Z aa ac ad ag al an ba,Ld af (vA N 0) P (.agg #[vI Z,vI aa,.slice ac ad ag,.slice al an ba])/\true/\∃bb,Ld aX (vA c 19) P (.bool bb)/\true/\∃bc,Ld aX (vA c 20) P (.bool bc)/\nA P (.cells aV aj) λbd bj=>∃bk,Sv aj (vA bd 0) (.agg #[vI Q,vI R,.slice S T U,.slice V X Y,vI Z,vI aa,.slice ac ad ag,.slice al an ba,.bool bb,.bool bc,.bool true,.bool true,.bool true]) bj bk/\∃bl,Ld aj (vA bd 0) bk bl/\Cf mx #[bl,vI v,vI M] bk λbn bo=>∃bq bw,bn=rT #[bq,vI bw]/\∃bx,Sv aj (vA e 0) bq bo bx/\∃bz,Rv aj (vA e 0) bx bz/\K (.tuple #[bz,vI bw]) bx)):Cf mY #[.pointer a,b] w (Ret K):=ru func87 [(4,[(6,.one .any)])] h
theorem Ba (a:Option Addr)(b c:Nat){w K}(h:∃d:Nat->FP [.one (.int .i64)],(∃e,d e (0:Int) w)/\∀e f,aC 9 (∀g,d e f g->ae (decide (f<((b:Nat):Int))) ((bx f ((b:Nat):Int)/\Option.isSome a=true)/\∃i,Ld fJ (ao a f 1) g (vI i)/\ae (i !=(0:Int)) (K (vI i) g) (∃j:Nat,j<e/\d j (i64.wrap (f+(1:Int))) g)) (K (vI 0) g))):Cf mw #[.slice a b c] w (Ret K):=ru func89 [(6,[(7,.one (.int .i64))])] h
structure Rgp where
 a:Option Addr
 n:Nat
 c:Nat
 b:Option Addr
 m:Nat
 e:Nat
structure Rgn where
 h:DA
 p:DA
 s0:Bool
 s1:Bool
 c0:Bool
 c1:Bool
 c2:Bool
def rp0:Rgp:=⟨none,0,0,none,0,0⟩
def rg0:Rgn:=⟨d0,d0,false,false,false,false,false⟩
def Rgn.tail (r:Rgn):List Value:=[.bool r.s0,.bool r.s1,.bool r.c0,.bool r.c1,.bool r.c2]
def Rgn.cells (r:Rgn)(x y:Rgp):List Value:=daL x.a x.n x.c x.b x.m x.e r.h++(daL y.a y.n y.c y.b y.m y.e r.p++r.tail)
def Rgn.v (r:Rgn)(x y:Rgp):Value:=.agg (r.cells x y).toArray
theorem Rgn.len (r:Rgn)(x y:Rgp):(r.cells x y).length=13:=rfl
theorem Rgn.one (r:Rgn)(x y:Rgp):DE (r.cells x y):=CN (fM _ _ _ _ _ _ _) (CN (fM _ _ _ _ _ _ _) (aW rfl (aW rfl (aW rfl (aW rfl (aW rfl jA))))))
structure RgS (w:World)(r:Rgn)(x y:Rgp):Prop where
 h:DaS w x.a x.n x.c x.b x.m x.e r.h
 p:DaS w y.a y.n y.c y.b y.m y.e r.p
theorem RgS.below {w w':World}{r:Rgn}{x y:Rgp}(h:RgS w r x y)(hb:bW w w'):RgS w' r x y:=⟨h.h.below hb,h.p.below hb⟩
structure RgO (B:Nat)(w:World)(r:Rgn)(x y:Rgp):Prop where
 h:zb B w x.a x.n x.c x.b x.m x.e r.h
 p:zb B w y.a y.n y.c y.b y.m y.e r.p
theorem RgO.s {B:Nat}{w:World}{r:Rgn}{x y:Rgp}(h:RgO B w r x y):RgS w r x y:=⟨h.h.das,h.p.das⟩
theorem RgO.below {B:Nat}{w w':World}{r:Rgn}{x y:Rgp}(h:RgO B w r x y)(hb:bW w w'):RgO B w' r x y:=⟨h.h.below hb,h.p.below hb⟩
theorem RgO.put {B:Nat}{w w':World}{r:Rgn}{x y:Rgp}{k:Nat}(h:RgO B w r x y)(hg:w.grownBy w' (some k))(hk:k<B):RgO B w' r x y:=⟨h.h.put hg hk,h.p.put hg hk⟩
theorem RgO.mono {B B':Nat}{w:World}{r:Rgn}{x y:Rgp}(h:RgO B w r x y)(hB:B' <=B):RgO B' w r x y:=⟨h.h.mono hB,h.p.mono hB⟩
theorem RgO.zero (B:Nat)(w:World):RgO B w rg0 rp0 rp0:=⟨⟨Ow.nil _ _ _ _,Ow.nil _ _ _ _,(λg hg=>by cases hg),bI.none _,bI.none _⟩,⟨Ow.nil _ _ _ _,Ow.nil _ _ _ _,(λg hg=>by cases hg),bI.none _,bI.none _⟩⟩
theorem RgS.zero (w:World):RgS w rg0 rp0 rp0:=⟨⟨(Ow.nil cI aw w NoB).all,(Ow.nil lH aX w NoB).all⟩,⟨(Ow.nil cI aw w NoB).all,(Ow.nil lH aX w NoB).all⟩⟩
theorem aE:Whl prog aj 13:=⟨⟨_,_,Gj⟩,by kernel_rfl⟩
def lK (a b:Int):Int:=if a≠0 then a else b
theorem Jn {w:World}{A:Bl}{a:Option Addr}{c:Nat}{x y:Int}(hs:Sl cI w A a 2 c [x,y]):Cf mw #[.slice a 2 c] w (Ret λv w'=>v=vI (lK x y)/\w'=w):=by
 apply Ba
 refine⟨λm i w'=>w'=w/\∃j:Nat,i=(j:Int)/\m=2-j/\(j=0\/j=1/\x=0\/j=2/\x=0/\y=0),⟨_,rfl,0,rfl,rfl,.inl rfl⟩,?_⟩
 intro m i
 refine aC.of ?_ _
 rintro wl ⟨hw,j,rfl,rfl,hj⟩
 rw[hw];clear hw wl
 rcases hj with rfl|⟨rfl,h0⟩|⟨rfl,h0,h1⟩
 · refine ae.yes (by decide) ⟨⟨⟨by omega,by omega⟩,hs.isSome (i:=0) (show 0<2 by decide)⟩,_,hs.num (i:=0) Ax (show 0<2 by decide),?_⟩
   refine ae.of (λh=>?_) (λh=>?_)
   · have h:x≠0:=by simpa using h
     exact⟨by unfold lK;rw[if_pos h];rfl,rfl⟩
   · have h:x=0:=by simpa using h
     exact⟨1,by omega,rfl,1,by decide,by omega,.inr (.inl ⟨rfl,h⟩)⟩
 · refine ae.yes (by decide) ⟨⟨⟨by omega,by omega⟩,hs.isSome (i:=1) (show 1<2 by decide)⟩,_,hs.num (i:=1) Ax (show 1<2 by decide),?_⟩
   refine ae.of (λh=>?_) (λh=>?_)
   · exact⟨by unfold lK;rw[if_neg (by omega)];rfl,rfl⟩
   · have h:y=0:=by simpa using h
     exact⟨0,by omega,rfl,2,by decide,by omega,.inr (.inr ⟨rfl,h0,h⟩)⟩
 · exact ae.no (by decide) ⟨by unfold lK;rw[if_neg (by omega),h1],rfl⟩
def KS (r:Rgn)(x y:Rgp)(e:Int)(w:World)(v:Value)(w':World):Prop:=bW w w'/\v=if e=0 then .tuple #[r.v x y,vI 0]else .tuple #[rg0.v rp0 rp0,vI e]
theorem L8 {w:World}{A:Bl}{a:Option Addr}{c:Nat}{s t:Int}(hs:Sl cI w A a 2 c [s,t])(r:Rgn)(x y:Rgp):Cf jl #[r.v x y,.slice a 2 c] w (Ret (KS r x y (lK s t) w)):=by
 apply Da
 intro k2 w2 hk2 hw2 k4 w4 hk4 hw4
 have b2:=(hw2▸ah w _:bW w w2)
 have b4:=(hw4▸ah w2 _:bW w2 w4)
 have A2:am w2 k2 aj (r.cells x y):=am.new hk2 hw2
 have A4:am w4 k4 aj (rg0.cells rp0 rp0):=am.new hk4 hw4
 have B4:=ab b2 b4 b2.size
 have s2:=b2.size
 refine ax (Jn (hs.below B4)) ?_
 rintro _ w8 ⟨rfl,hw8⟩
 rw[hw8];clear hw8 w8
 refine⟨_,rfl,ae.of (λh=>?_) (λh=>?_)⟩
 · have h:lK s t≠0:=by simpa using h
   obtain⟨wx,q1,v1,g1⟩:=aE.store0 (P:=prog) (cs:=rg0.cells rp0 rp0) rfl (Rgn.one _ _ _) A4 rfl
   exact⟨wx,q1,_,am.res (aE.load0 v1 rfl),Below.put B4 g1 (by omega),by rw[if_neg h];rfl⟩
 · have h:lK s t=0:=by simpa using h
   obtain⟨wx,q1,v1,g1⟩:=aE.store0 (P:=prog) (cs:=r.cells x y) rfl (Rgn.one _ _ _) A4 rfl
   exact⟨_,aE.load0 (A2.below b4) rfl,wx,q1,_,am.res (aE.load0 v1 rfl),Below.put B4 g1 (by omega),by rw[if_pos h];rfl⟩
def KE (h p:Int):Int:=if h=151 then lK p h else lK h p
theorem JJ (r:Rgn)(x y:Rgp)(s t:Int)(hs:i64.wrap s=s)(ht:i64.wrap t=t)(w:World):Cf mx #[r.v x y,vI s,vI t] w (Ret (KS r x y (KE s t) w)):=by
 apply Bb
 intro k3 w3 hk3 hw3 k6 w6 hk6 hw6
 have b3:=(hw3▸ah w _:bW w w3)
 have b6:=(hw6▸ah w3 _:bW w3 w6)
 have A3:am w3 k3 aj (r.cells x y):=am.new hk3 hw3
 have A6:am w6 k6 aj (rg0.cells rp0 rp0):=am.new hk6 hw6
 have B6:=ab b3 b6 b3.size
 have s3:=b3.size
 have one:∀{k13:Nat} {w13:World} {a b:Int},k13=w6.heap.size->w13=w6.alloc (.cells #[vI a,vI b] fJ)->
     Cf jl #[r.v x y,.slice (some ⟨k13,0,none⟩) 2 2] w13 λe14 w14=>∃(v0:Value) (n1:Int),e14=.returned (.tuple #[v0,vI n1])/\
       ∃(wx:World),(Instr.storeAt aj (.pointer (some ⟨k6,0,none⟩)) v0).run prog w14=.ok () wx/\∃(vr:Value),(aR aj (.pointer (some ⟨k6,0,none⟩))).run prog wx=.ok vr wx/\KS r x y (lK a b) w (.tuple #[vr,vI n1]) wx:=by
   intro k13 w13 a b hk hw
   have b13:=(hw▸ah w6 _:bW w6 w13)
   have S:Sl cI w13 kj (some ⟨k13,0,none⟩) 2 2 [a,b]:=(Ow.newF (T:=cI) (A:=NoB) (t:=fJ) (l:=[vI a,vI b]) (xs:=[a,b]) fG hk hw ((iK.one (eE (n:=a))).append (iK.one (eE (n:=b)))) (show 2 <=maxLen by decide)).all
   refine ax (L8 S r x y) ?_
   rintro _ w14 ⟨b14,rfl⟩
   have B:=ab (ab B6 b13 B6.size) b14 (ab B6 b13 B6.size).size
   have A14:=(A6.below b13).below b14
   by_cases h:lK a b=0
   · rw[if_pos h]
     obtain⟨wx,q1,v1,g1⟩:=aE.store0 (P:=prog) (cs:=r.cells x y) rfl (Rgn.one _ _ _) A14 rfl
     exact⟨_,_,rfl,wx,q1,_,am.res (aE.load0 v1 rfl),Below.put B g1 (by omega),by rw[if_pos h];rfl⟩
   · rw[if_neg h]
     obtain⟨wx,q1,v1,g1⟩:=aE.store0 (P:=prog) (cs:=rg0.cells rp0 rp0) rfl (Rgn.one _ _ _) A14 rfl
     exact⟨_,_,rfl,wx,q1,_,am.res (aE.load0 v1 rfl),Below.put B g1 (by omega),by rw[if_neg h];rfl⟩
 refine ae.of (λh=>⟨_,aE.load0 (A3.below b6) rfl,λk13 w13 hk hw=>?_⟩) (λh=>⟨_,aE.load0 (A3.below b6) rfl,λk13 w13 hk hw=>?_⟩)
 · have h:s=151:=by simpa using h
   have e:KE s t=lK t s:=by unfold KE;rw[if_pos h]
   rw[e];exact one hk hw
 · have h:s≠151:=by simpa using h
   have e:KE s t=lK s t:=by unfold KE;rw[if_neg h]
   rw[e];exact one hk hw
def mi (r:Req):Bool:=br r.host&&(jn r.path&&(decide (r.cross >=0)&&decide (r.cross <=2)))
def Ct (c:Cky)(r:Req)(now:Int):Bool:=mi r&&vF c r now
theorem Ow.cells {α:Type}{T:Ty α}{t:TypeId}{w:World}{A:Bl}{a:Option Addr}{n c:Nat}{xs:List α}(h:Ow T t w A a n c xs){g:Nat}(hg:bK a=some g):∃o:Obj,w.heap[g]? =some o/\o.isCells=true:=by
 rcases h.2.2.2 with⟨e,_⟩|⟨g',cur,fr,e,hh,_⟩
 · rw[e]at hg;cases hg
 · rw[e]at hg
   have:g'=g:=by simpa[bK]using hg
   subst this
   exact⟨_,hh,rfl⟩
def E2 (w:World)(row:Option Nat):Prop:=∀r,row=some r->∃o:Obj,w.heap[r]? =some o/\o.isCells=false
theorem am.turned {w w':World}{k:Nat}{t:TypeId}{vs:List Value}{row:Option Nat}(h:am w k t vs)(hg:w.grownBy w' row)(hr:E2 w row):am w' k t vs:=
 h.grown hg λe=>by
   obtain⟨o,ho,hc⟩:=hr k e.symm
   rw[show w.heap[k]? =_ from h]at ho;cases ho;cases hc
theorem Ow.turned {α:Type}{T:Ty α}{t:TypeId}{w w':World}{a:Option Addr}{n c:Nat}{xs:List α}{row:Option Nat}(h:Ow T t w NoB a n c xs)(hg:w.grownBy w' row)(hr:E2 w row):Ow T t w' NoB a n c xs:=by
 cases row with
 | none=>exact h.keep (lZ hg λb hb e=>by cases e)
 | some r=>
   refine h.put (λg hg' e=>?_) hg
   subst e
   obtain⟨o,ho,hc⟩:=h.cells hg'
   obtain⟨o',ho',hc'⟩:=hr g rfl
   rw[ho]at ho';cases ho';rw[hc]at hc';cases hc'
theorem Ai {n₀:Nat}{w0 w w':World}{row:Option Nat}(h:Below n₀ w0 w)(hn:n₀ <=w.heap.size)(hg:w.grownBy w' row)(hr:∀r,row=some r->n₀ <=r):Below n₀ w0 w':=h.grown hg hn hr
def xg (md:Region.Mode)(ops:Array Oper):Nat->Array Bool->List (List Nat)
 | 0,_=>[[]]
 | f+1,listed=>match Region.ready md ops listed with
   | []=>[[]]
   | i::is=>(i::is).flatMap λj=>(xg md ops f (listed.setIfInBounds j true)).map (j:: ·)
theorem yj {md:Region.Mode}{ops:Array Oper} :∀(fuel t:Nat) (listed:Array Bool),Region.linearise.go md ops fuel t listed []∈xg md ops fuel listed
 | 0,t,listed=>by simp[Region.linearise.go,xg]
 | fuel+1,t,listed=>by
   simp only[Region.linearise.go]
   change (match(Region.ready md ops listed)[t%(Region.ready md ops listed).length]? with
     | some i=>Region.linearise.go md ops fuel (t/(Region.ready md ops listed).length) (listed.setIfInBounds i true) [i]
     | none=>[].reverse)∈_
   cases hr:Region.ready md ops listed with
   | nil=>simp[xg,hr]
   | cons x xs=>
     have hlt:t%(x::xs).length<(x::xs).length:=Nat.mod_lt _ (by simp)
     rw[List.getElem?_eq_getElem hlt]
     simp only[xg,hr]
     rw[linearise_go_acc,List.reverse_singleton,List.singleton_append]
     exact List.mem_flatMap.2 ⟨_,List.getElem_mem hlt,List.mem_map.2 ⟨_,yj fuel _ _,rfl⟩⟩
section
variable {F:Fence} {n:Nat} {P:Program} {ops:Array Oper} {Q:Exit->Act->World->Prop} {a:Act} {w:World}
theorem AG:∀(l:List Nat) (a:Act) (w:World),wpListIn F n P ops Q (l.filterMap λi=>ops[i]?) a w->wpOpsIn F n P ops Q l a w
 | [],a,w,h=>h
 | i::l,a,w,h=>by
   have ih:=AG l
   cases ho:ops[i]? with
   | none=>
     rw[List.filterMap_cons_none ho]at h
     simp only[wpOpsIn,ho]
     exact ih _ _ h
   | some o=>
     rw[List.filterMap_cons_some ho]at h
     simp only[wpOpsIn,ho]
     unfold wpListIn at h
     have e:wpListIn F n P ops Q (l.filterMap λi=>ops[i]?)=wpListIn F n P ops Q (l.filterMap λi=>ops[i]?):=rfl
     split at h
     · rename_i hw
       rw[if_pos hw]
       exact Oper.wpIn_mono (λa w=>ih a w) h
     · rename_i hw
       rw[if_neg hw]
       exact⟨h.1,ih _ _ h.2⟩
theorem IZ {id:Nat}{os:List (List Oper)}(hm:P.follows .mixedOrders=true)(ho:(xg .any ops ops.size (Array.replicate ops.size false)).map (λl=>l.filterMap λi=>ops[i]?)=os)
   (h:∀l∈os,wpListIn F n P ops Q l a w.drew):(Code.region id ops true).wpIn F n P Q a w:=
 wpIn_region_draw λt=>by
   simp only[Region.schedule,hm,Bool.true_or,if_true]
   refine AG _ _ _ (h _ ?_)
   rw[<- ho]
   exact List.mem_map.2 ⟨_,yj _ _ _,rfl⟩
end
section
variable {F:Fence} {n:Nat} {P:Program} {ops:Array Oper} {Q:Exit->Act->World->Prop} {a:Act} {w:World} {rest:List Oper} {o:Oper}
theorem PD (hw:Region.wanted o (yielded ops a.tmps)=true)(h:∀K:Act->World->Prop,(∀a w,wpListIn F n P ops Q rest a w->K a w)->o.wpIn F n P a w K Q):wpListIn F n P ops Q (o::rest) a w:=
 wpListIn_step λK hK=>by rw[if_pos hw];exact h K hK
theorem Cx (hw:Region.wanted o (yielded ops a.tmps)=true)(hd:∀c,o.op≠.defer c)(ha:o.about P w a.eval=none){v:Value}{w':World}(hrun:(execOp a.eval o).run P w=.ok (.value v) w')(hK:wpListIn F n P ops Q rest (a.put o.dst v) w'):wpListIn F n P ops Q (o::rest) a w:=by
 refine PD hw λK hK'=>⟨λf hf=>?_,?_⟩
 · rw[ha]at hf;cases hf
 · rw[Oper.semAt_plain F _ _ hd,hrun]
   exact hK' _ _ hK
theorem RC (hw:Region.wanted o (yielded ops a.tmps)=true)(hd:∀c,o.op≠.defer c)(ha:o.about P w a.eval=none){w':World}(hrun:(execOp a.eval o).run P w=.ok .skip w')(hK:wpListIn F n P ops Q rest (a.put o.dst undef) w'):wpListIn F n P ops Q (o::rest) a w:=by
 refine PD hw λK hK'=>⟨λf hf=>?_,?_⟩
 · rw[ha]at hf;cases hf
 · rw[Oper.semAt_plain F _ _ hd,hrun]
   exact hK' _ _ hK
theorem dJ (hw:Region.wanted o (yielded ops a.tmps)=true){t:TypeId}{x:Operand}(hop:o.op=.load t x){p:Value}(hx:a.eval x=p){v:Value}(hrun:(Instr.loadAt t p).run P w=.ok v w)(hK:wpListIn F n P ops Q rest (a.put o.dst v) w):wpListIn F n P ops Q (o::rest) a w:=
 Cx hw (by rw[hop];intro c hc;cases hc) (by simp[Oper.about,hop]) (by simp[execOp,hop,hx,hrun,Result.andThen]) hK
theorem dy (hw:Region.wanted o (yielded ops a.tmps)=true){t:TypeId}{x y:Operand}(hop:o.op=.store t x y){p u:Value}(hx:a.eval x=p)(hy:a.eval y=u){w':World}(hrun:(Instr.storeAt t p u).run P w=.ok () w')(hK:wpListIn F n P ops Q rest (a.put o.dst undef) w'):wpListIn F n P ops Q (o::rest) a w:=
 RC hw (by rw[hop];intro c hc;cases hc) (by simp[Oper.about,hop]) (by simp[execOp,hop,hx,hy,hrun,Result.andThen]) hK
theorem Es (hw:Region.wanted o (yielded ops a.tmps)=true){t:TypeId}(hop:o.op=.alloc t){v:Value}{w':World}(hrun:(Instr.alloc t true (.tuple #[])).run P w=.ok v w')(hK:wpListIn F n P ops Q rest (a.put o.dst v) w'):wpListIn F n P ops Q (o::rest) a w:=
 Cx hw (by rw[hop];intro c hc;cases hc) (by simp[Oper.about,hop]) (by simp[execOp,hop,hrun,Result.andThen]) hK
theorem RB (hw:Region.wanted o (yielded ops a.tmps)=true){t:TypeId}{x:Operand}(hop:o.op=.box t x){u:Value}(hx:a.eval x=u){k:Nat}{w':World}(hk:k=w.heap.size)(hw':w'=w.alloc (.cells u.cells t))(hK:wpListIn F n P ops Q rest (a.put o.dst (.pointer (some ⟨k,0,none⟩))) w'):wpListIn F n P ops Q (o::rest) a w:=by
 subst hk hw'
 exact Cx hw (by rw[hop];intro c hc;cases hc) (by simp[Oper.about,hop]) (by
   have hb:(Instr.box t u).run P w=.ok (.pointer (some ⟨w.heap.size,0,none⟩)) (w.alloc (.cells u.cells t)):=rfl
   simp[execOp,hop,hx,hb,Result.andThen]) hK
theorem dX (hw:Region.wanted o (yielded ops a.tmps)=true){x:Operand}(hop:o.op=.move x\/o.op=.assign x){u:Value}(hx:a.eval x=u)(hK:wpListIn F n P ops Q rest (a.put o.dst u) w):wpListIn F n P ops Q (o::rest) a w:=
 Cx hw (by rcases hop with hop|hop <;> (rw[hop];intro c hc;cases hc)) (by rcases hop with hop|hop <;> simp[Oper.about,hop]) (by rcases hop with hop|hop <;> simp[execOp,hop,hx]) hK
theorem fS (hw:Region.wanted o (yielded ops a.tmps)=true){t:TypeId}{x:Operand}(hop:o.op=.buildSlice t 1 #[(0,x)]){u:Value}(hx:a.eval x=u){v:Value}{w':World}(hrun:(Instr.buildSlice t 1 #[(0,u)]).run P w=.ok v w')(hK:wpListIn F n P ops Q rest (a.put o.dst v) w'):wpListIn F n P ops Q (o::rest) a w:=
 Cx hw (by rw[hop];intro c hc;cases hc) (by simp[Oper.about,hop]) (by simp[execOp,hop,hx,hrun,Result.andThen]) hK
theorem gy (hw:Region.wanted o (yielded ops a.tmps)=true){t:TypeId}{x y:Operand}(hop:o.op=.call { callee:=.builtin .append,args:= #[x,y],argTypes:= #[t,t] }){p q:Value}(hx:a.eval x=p)(hy:a.eval y=q){v:Value}{w':World}(hrun:(Builtin.append_ #[t,t] o.type #[p,q]).run P w=.ok v w')(hK:wpListIn F n P ops Q rest (a.put o.dst v) w'):wpListIn F n P ops Q (o::rest) a w:=
 Cx hw (by rw[hop];intro c hc;cases hc) (by simp[Oper.about,hop,resolve,Target.leads,Sem.run_pure]) (by simp[execOp,hop,resolve,invoke,builtin,hx,hy,hrun,Result.andThen]) hK
theorem QT (hw:Region.wanted o (yielded ops a.tmps)=true){f:FuncId}{xs:Array Operand}{ts:Array TypeId}(hop:o.op=.call { callee:=.value (.func f),args:=xs,argTypes:=ts }){us:Array Value}(hx:xs.map a.eval=us)(hn:1 <=n)(hF:∀g,F.fn g)(ef:∀(args:Array Value) (w:World),(callFunc f args).run P w=.ok (.enter f args) w)
   (h:CallsIn F (n-1) P f us w λe w'=>∃v,e=.returned v/\wpListIn F n P ops Q rest (a.put o.dst v) w'):wpListIn F n P ops Q (o::rest) a w:=by
 refine PD hw λK hK'=>⟨λg hg=>hF g,?_⟩
 rw[Oper.semAt_plain F _ _ (by rw[hop];intro c hc;cases hc)]
 have hr:(execOp a.eval o).run P w=.ok (.enter f us) w:=by
   subst hx
   simp[execOp,hop,resolve,invoke,Deferred.ofValue,Act.eval,Result.andThen]
   exact ef _ _
 rw[hr,Oper.uponIn_enter]
 refine⟨λ_=>hn,h.mono ?_⟩
 rintro e w' ⟨v,rfl,hv⟩
 exact hK' _ _ hv
theorem Am (hw:Region.wanted o (yielded ops a.tmps)=true){f:FuncId}{x:Operand}{ts:Array TypeId}(hop:o.op=.call { callee:=.value (.func f),args:= #[x],argTypes:=ts }){u:Value}(hx:a.eval x=u)(hn:1 <=n)(hF:∀g,F.fn g)(ef:∀(args:Array Value) (w:World),(callFunc f args).run P w=.ok (.enter f args) w)
   (h:CallsIn F (n-1) P f #[u] w λe w'=>∃v,e=.returned v/\wpListIn F n P ops Q rest (a.put o.dst v) w'):wpListIn F n P ops Q (o::rest) a w:=
 QT hw hop (us:= #[u]) (by simp[hx]) hn hF ef h
theorem js (hw:Region.wanted o (yielded ops a.tmps)=true){f:FuncId}{x y:Operand}{ts:Array TypeId}(hop:o.op=.call { callee:=.value (.func f),args:= #[x,y],argTypes:=ts }){u v:Value}(hx:a.eval x=u)(hy:a.eval y=v)(hn:1 <=n)(hF:∀g,F.fn g)(ef:∀(args:Array Value) (w:World),(callFunc f args).run P w=.ok (.enter f args) w)
   (h:CallsIn F (n-1) P f #[u,v] w λe w'=>∃v,e=.returned v/\wpListIn F n P ops Q rest (a.put o.dst v) w'):wpListIn F n P ops Q (o::rest) a w:=
 QT hw hop (us:= #[u,v]) (by simp[hx,hy]) hn hF ef h
theorem xZ {x y:Code}(h:x.wpIn F n P (Exit.then (y.wpIn F n P Q) Q) a w):(Code.seq x y).wpIn F n P Q a w:=wpIn_seq h
theorem xK {y:Code}{R:Exit->Act->World->Prop}(h:y.wpIn F n P Q a w):wpListIn F n P ops (Exit.then (y.wpIn F n P Q) R) [] a w:=h
theorem PC {x y:Code}(K:Act->World->Prop)(h:x.wpIn F n P (Exit.then K Q) a w)(hK:∀a w,K a w->y.wpIn F n P Q a w):(Code.seq x y).wpIn F n P Q a w:=
 wpIn_seq (Code.wpIn_mono (λe a w q=>by cases e <;> first|exact hK _ _ q|exact q) h)
theorem QU {K:Act->World->Prop}{R:Exit->Act->World->Prop}(h:K a w):wpListIn F n P ops (Exit.then K R) [] a w:=h
theorem LD {id:Nat}{ops:Array Oper}(hm:P.follows .mixedOrders=true)(L:List (List Nat))(hL:xg .any ops ops.size (Array.replicate ops.size false)=L)
   (h:∀l∈L,wpListIn F n P ops Q (l.filterMap λi=>ops[i]?) a w.drew):(Code.region id ops true).wpIn F n P Q a w:=
 IZ hm rfl λl hl=>by
   rw[hL]at hl
   obtain⟨x,hx,rfl⟩:=List.mem_map.1 hl
   exact h x hx
end
def HG {α:Type}(f:Nat->α)(k:Nat):List α:=(List.range k).map f
theorem yH {α:Type}(f:Nat->α)(k:Nat):HG f (k+1)=HG f k++[f k]:=by simp[HG,List.range_succ]
theorem Ds {α:Type}(f:Nat->α)(k:Nat):(HG f k).length=k:=by simp[HG]
def bkF {α:Type}(d:α)(len:Nat)(zs:List α)(k:Nat):Int×α:=((len:Int)-1-(k:Int),zs[len-1-k]?.getD d)
theorem K7 {α:Type}(d:α)(zs:List α):(HG (bkF d zs.length zs) zs.length).map Prod.snd=zs.reverse:=by
 apply List.ext_getElem
 · simp[HG]
 · intro i h1 h2
   have hi:i<zs.length:=by simpa[HG]using h1
   have:zs.length-1-i<zs.length:=by omega
   simp[HG,bkF,List.getElem_reverse,this]
theorem K8 {α:Type}(d:α)(zs:List α){k:Nat}(hk:k <=zs.length){p:Int×α}(hp:p∈HG (bkF d zs.length zs) k):p.2∈zs:=by
 unfold HG at hp
 obtain⟨i,hi,rfl⟩:=List.mem_map.1 hp
 rw[List.mem_range]at hi
 have:zs.length-1-i<zs.length:=by omega
 show zs[zs.length-1-i]?.getD d∈zs
 rw[List.getElem?_eq_getElem this]
 exact List.getElem_mem this
section
open Go.RowKit Go.Shelf Go.Pk
attribute [local go_sem] Oper.semAt_some
set_option maxRecDepth 100000 in
set_option maxHeartbeats 2000000 in
theorem Pm (F:Fence)(n:Nat)(h7:F.fn 130)(hro:F.round=none)(hn:1 <=n)(l Bs b off len cap:Nat)(zs:List (List UInt8))(hreach:len <=140737488351232)(A:Bl)(hAb:A b)(hAB:A Bs)(J Jx:List (Int×(List UInt8))->World->Prop)
   (hY:∀pre x W,J pre W->pre.length<len->YieldAt F (n-1) prog l #[vI x.1,vS x.2] W λe W'=>
     (e=.returned (.bool true)/\J (pre++[x]) W'/\vJ A W W')\/(e=.returned (.bool false)/\Jx (pre++[x]) W'))
   (W:World) (hBs:W.cell? ⟨Bs,0,none⟩=some (.slice (some ⟨b,off,none⟩) len cap)) (hBn:Bs<W.heap.size) (hbn:b<W.heap.size) (hc:∀j,j<len->W.cell? ⟨b,off+j,none⟩=some (vS (zs[j]?.getD []))) (h0:J [] W):
   CallsIn F n prog 130 #[.func (.yield l) #[] #[],.pointer (some ⟨Bs,0,none⟩)] W λe W'=>(∃v,e=.returned v)/\
     ((∃ys,ys=HG (bkF [] len zs) len/\J ys W')\/(∃pre,(∃k,k <=len/\pre=HG (bkF [] len zs) k)/\Jx pre W')):=by
 refine callsIn_of_wp func130 rfl h7 ?_ hro
 simp only[Tryz.ntmps130,List.size_toArray,List.length_cons,List.length_nil,Nat.reduceAdd,Nat.reduceSub,Array.replicate_succ,Array.replicate_zero,List.push_toArray,List.append_toArray,List.nil_append,List.cons_append]
 gi_wp2
 gi_loopw [3] (λi wr=>∃k:Nat,k <=len/\i=vI ((len:Int)-1-(k:Int))/\J (HG (bkF [] len zs) k) wr/\vJ A W wr)
   (λi _=>(RowKit.intOf i+1).toNat)
 case atStart=>exact⟨0,Nat.zero_le _,by simp,h0,vJ.refl _ _⟩
 case round=>
   obtain⟨k,hk,rfl,hJs,hnx⟩:=hrel
   by_cases hlt:k<len
   · have hcx:wr.cell? ⟨b,off+(len-1-k),none⟩=some (vS (zs[len-1-k]?.getD [])):=(mF (hnx.block b hbn hAb) _).trans (hc _ (by omega))
     have hBs':wr.cell? ⟨Bs,0,none⟩=some (.slice (some ⟨b,off,none⟩) len cap):=(mF (hnx.block Bs hBn hAB) _).trans hBs
     have hi:(len:Int)-1-(k:Int)=((len-1-k:Nat):Int):=by omega
     obtain⟨fn,tmps,assign,body,hy,hR⟩:=hY _ (bkF [] len zs k) wr hJs (by rw[Ds];exact hlt)
     dsimp only[bkF]at hy
     rw[hi]at hy ⊢
     gi_wp2
     refine hR.mono ?_
     rintro e W3 (⟨rfl,hJ3,hk3⟩|⟨rfl,hJx3⟩)
     · gi_wp2
       go_roundw
       case rel=>exact⟨k+1,by omega,by simp <;> omega,by rw[yH];exact hJ3,hnx.trans hk3⟩
       case measure=>simp[RowKit.intOf] <;> omega
     · gi_wp2
       refine bodyPost_ret (results_none rfl _ _ _) rfl ?_
       exact⟨⟨_,rfl⟩,.inr ⟨_,⟨k+1,by omega,(yH _ _).symm⟩,hJx3⟩⟩
   · obtain rfl:k=len:=by omega
     gi_wp2
     go_end0
     exact⟨⟨_,rfl⟩,.inl ⟨_,rfl,hJs⟩⟩
set_option maxRecDepth 100000 in
set_option maxHeartbeats 1000000 in
theorem H7 (F:Fence)(n:Nat)(h7:F.fn 130)(hro:F.round=none)(l Bs:Nat)(J:List (Int×(List UInt8))->World->Prop)(a:Option Addr)(c:Nat)(W:World)(hBs:W.cell? ⟨Bs,0,none⟩=some (.slice a 0 c))(h0:J [] W):
   CallsIn F n prog 130 #[.func (.yield l) #[] #[],.pointer (some ⟨Bs,0,none⟩)] W λe W'=>(∃v,e=.returned v)/\J [] W':=by
 refine callsIn_of_wp func130 rfl h7 ?_ hro
 simp only[Tryz.ntmps130,List.size_toArray,List.length_cons,List.length_nil,Nat.reduceAdd,Nat.reduceSub,Array.replicate_succ,Array.replicate_zero,List.push_toArray,List.append_toArray,List.nil_append,List.cons_append]
 gi_wp2
 gi_loopw [3] (λi wr=>i=vI (-1)/\J [] wr) (λ_ _=>0)
 case atStart=>exact⟨rfl,h0⟩
 case round=>
   obtain⟨rfl,hJs⟩:=hrel
   gi_wp2
   go_end0
   exact⟨⟨_,rfl⟩,hJs⟩
theorem J0 (F:Fence)(n:Nat)(h7:F.fn 130)(hro:F.round=none)(hn:1 <=n)(Bs:Nat){a:Option Addr}{len cap:Nat}(zs:List (List UInt8))(hreach:zs.length <=140737488351232){w:World}{t:TypeId}(hBs:am w Bs t [.slice a len cap])(hs:Sl tS w kj a len cap zs):
   SeqStopsK F n prog 130 #[.pointer (some ⟨Bs,0,none⟩)] (λx:Int×List UInt8=> #[vI x.1,vS x.2]) (vJ (λb=>b=Bs\/∃o,a=some ⟨b,o,none⟩)) (λys=>ys.map Prod.snd=zs.reverse) (λpre=>∀p∈pre,p.2∈zs) zs.length w:=λl J Jx W hW _ _ hY h0=>by
 have hBW:=hBs.below hW
 have hlt:=hBW.lt
 have hsW:=hs.below hW
 obtain⟨rfl,h2,h3,h4⟩:=hsW
 rcases h4 with rfl|⟨b,off,rfl,hb,_,cl,hl,hc⟩
 · exact(H7 F n h7 hro l Bs J a cap W (hBW.cell 0) h0).mono λe W' ⟨he,hj⟩=>⟨he,.inl ⟨_,rfl,hj⟩⟩
 · refine(Pm F n h7 hro hn l Bs b off zs.length cap zs hreach _ (.inr ⟨off,rfl⟩) (.inl rfl) J Jx hY W (hBW.cell 0) hlt hb (λj hj=>?_) h0).mono ?_
   · have he:=gP hl
     rw[hc j (by rw[he];simpa using hj),he]
     simp[hj]
   · rintro e W' ⟨he,⟨ys,rfl,hj⟩|⟨pre,⟨k,hk,rfl⟩,hj⟩⟩
     · exact⟨he,.inl ⟨_,K7 _ _,hj⟩⟩
     · exact⟨he,.inr ⟨_,λp hp=>K8 _ _ hk hp,hj⟩⟩
set_option maxRecDepth 100000 in
set_option maxHeartbeats 2000000 in
theorem Pj (F:Fence)(n:Nat)(h7:F.fn 114)(hro:F.round=none)(hn:1 <=n)(l Bs b off len cap:Nat)(zs:List Int)(hreach:len <=140737488351232)(A:Bl)(hAb:A b)(hAB:A Bs)(J Jx:List (Int×Int)->World->Prop)
   (hY:∀pre x W,J pre W->pre.length<len->YieldAt F (n-1) prog l #[vI x.1,vI x.2] W λe W'=>
     (e=.returned (.bool true)/\J (pre++[x]) W'/\vJ A W W')\/(e=.returned (.bool false)/\Jx (pre++[x]) W'))
   (W:World) (hBs:W.cell? ⟨Bs,0,none⟩=some (.slice (some ⟨b,off,none⟩) len cap)) (hBn:Bs<W.heap.size) (hbn:b<W.heap.size) (hc:∀j,j<len->W.cell? ⟨b,off+j,none⟩=some (vI (zs[j]?.getD 0))) (h0:J [] W):
   CallsIn F n prog 114 #[.func (.yield l) #[] #[],.pointer (some ⟨Bs,0,none⟩)] W λe W'=>(∃v,e=.returned v)/\
     ((∃ys,ys=HG (bkF 0 len zs) len/\J ys W')\/(∃pre,(∃k,k <=len/\pre=HG (bkF 0 len zs) k)/\Jx pre W')):=by
 refine callsIn_of_wp func114 rfl h7 ?_ hro
 simp only[Tryz.ntmps114,List.size_toArray,List.length_cons,List.length_nil,Nat.reduceAdd,Nat.reduceSub,Array.replicate_succ,Array.replicate_zero,List.push_toArray,List.append_toArray,List.nil_append,List.cons_append]
 gi_wp2
 gi_loopw [3] (λi wr=>∃k:Nat,k <=len/\i=vI ((len:Int)-1-(k:Int))/\J (HG (bkF 0 len zs) k) wr/\vJ A W wr)
   (λi _=>(RowKit.intOf i+1).toNat)
 case atStart=>exact⟨0,Nat.zero_le _,by simp,h0,vJ.refl _ _⟩
 case round=>
   obtain⟨k,hk,rfl,hJs,hnx⟩:=hrel
   by_cases hlt:k<len
   · have hcx:wr.cell? ⟨b,off+(len-1-k),none⟩=some (vI (zs[len-1-k]?.getD 0)):=(mF (hnx.block b hbn hAb) _).trans (hc _ (by omega))
     have hBs':wr.cell? ⟨Bs,0,none⟩=some (.slice (some ⟨b,off,none⟩) len cap):=(mF (hnx.block Bs hBn hAB) _).trans hBs
     have hi:(len:Int)-1-(k:Int)=((len-1-k:Nat):Int):=by omega
     obtain⟨fn,tmps,assign,body,hy,hR⟩:=hY _ (bkF 0 len zs k) wr hJs (by rw[Ds];exact hlt)
     dsimp only[bkF]at hy
     rw[hi]at hy ⊢
     gi_wp2
     refine hR.mono ?_
     rintro e W3 (⟨rfl,hJ3,hk3⟩|⟨rfl,hJx3⟩)
     · gi_wp2
       go_roundw
       case rel=>exact⟨k+1,by omega,by simp <;> omega,by rw[yH];exact hJ3,hnx.trans hk3⟩
       case measure=>simp[RowKit.intOf] <;> omega
     · gi_wp2
       refine bodyPost_ret (results_none rfl _ _ _) rfl ?_
       exact⟨⟨_,rfl⟩,.inr ⟨_,⟨k+1,by omega,(yH _ _).symm⟩,hJx3⟩⟩
   · obtain rfl:k=len:=by omega
     gi_wp2
     go_end0
     exact⟨⟨_,rfl⟩,.inl ⟨_,rfl,hJs⟩⟩
set_option maxRecDepth 100000 in
set_option maxHeartbeats 1000000 in
theorem H6 (F:Fence)(n:Nat)(h7:F.fn 114)(hro:F.round=none)(l Bs:Nat)(J:List (Int×Int)->World->Prop)(a:Option Addr)(c:Nat)(W:World)(hBs:W.cell? ⟨Bs,0,none⟩=some (.slice a 0 c))(h0:J [] W):
   CallsIn F n prog 114 #[.func (.yield l) #[] #[],.pointer (some ⟨Bs,0,none⟩)] W λe W'=>(∃v,e=.returned v)/\J [] W':=by
 refine callsIn_of_wp func114 rfl h7 ?_ hro
 simp only[Tryz.ntmps114,List.size_toArray,List.length_cons,List.length_nil,Nat.reduceAdd,Nat.reduceSub,Array.replicate_succ,Array.replicate_zero,List.push_toArray,List.append_toArray,List.nil_append,List.cons_append]
 gi_wp2
 gi_loopw [3] (λi wr=>i=vI (-1)/\J [] wr) (λ_ _=>0)
 case atStart=>exact⟨rfl,h0⟩
 case round=>
   obtain⟨rfl,hJs⟩:=hrel
   gi_wp2
   go_end0
   exact⟨⟨_,rfl⟩,hJs⟩
theorem JZ (F:Fence)(n:Nat)(h7:F.fn 114)(hro:F.round=none)(hn:1 <=n)(Bs:Nat){a:Option Addr}{len cap:Nat}(zs:List Int)(hreach:zs.length <=140737488351232){w:World}{t:TypeId}(hBs:am w Bs t [.slice a len cap])(hs:Sl cI w kj a len cap zs):
   SeqStopsK F n prog 114 #[.pointer (some ⟨Bs,0,none⟩)] (λx:Int×Int=> #[vI x.1,vI x.2]) (vJ (λb=>b=Bs\/∃o,a=some ⟨b,o,none⟩)) (λys=>ys.map Prod.snd=zs.reverse) (λpre=>∀p∈pre,p.2∈zs) zs.length w:=λl J Jx W hW _ _ hY h0=>by
 have hBW:=hBs.below hW
 have hlt:=hBW.lt
 have hsW:=hs.below hW
 obtain⟨rfl,h2,h3,h4⟩:=hsW
 rcases h4 with rfl|⟨b,off,rfl,hb,_,cl,hl,hc⟩
 · exact(H6 F n h7 hro l Bs J a cap W (hBW.cell 0) h0).mono λe W' ⟨he,hj⟩=>⟨he,.inl ⟨_,rfl,hj⟩⟩
 · refine(Pj F n h7 hro hn l Bs b off zs.length cap zs hreach _ (.inr ⟨off,rfl⟩) (.inl rfl) J Jx hY W (hBW.cell 0) hlt hb (λj hj=>?_) h0).mono ?_
   · have he:=gP (e:=λn=>vI n) (h1:=λ_=>rfl) (p:=λ_=>True) hl
     rw[hc j (by rw[he];simpa using hj),he]
     simp[hj]
   · rintro e W' ⟨he,⟨ys,rfl,hj⟩|⟨pre,⟨k,hk,rfl⟩,hj⟩⟩
     · exact⟨he,.inl ⟨_,K7 _ _,hj⟩⟩
     · exact⟨he,.inr ⟨_,λp hp=>K8 _ _ hk hp,hj⟩⟩
end
def KJ {α:Type}(T:Ty α)(ta tv:TypeId)(kv B:Nat)(w0:World)(xs:List α)(W:World):Prop:=
 ∃(a:Option Addr) (n c:Nat),am W kv tv [.slice a n c]/\Ow T ta W NoB a n c xs/\(∀g,bK a=some g->B <=g)/\Below kv w0 W
theorem Jc {α β:Type}{T:Ty α}{ta tv:TypeId}{kv B:Nat}{w0:World}{f:β->List α}(hkv:kv<B):OwnFrom B (λpre W=>KJ T ta tv kv B w0 (f pre) W):=by
 rintro pre W W' row ⟨a,n,c,hB,ho,hf,hb⟩ hg hr
 have hr':E2 W row:=λr e=>(hr r e).2
 refine⟨a,n,c,hB.turned hg hr',ho.turned hg hr',hf,Ai hb (Nat.le_of_lt hB.lt) hg λr e=>?_⟩
 have:=(hr r e).1
 omega
theorem KJ.drew {α:Type}{T:Ty α}{ta tv:TypeId}{kv B:Nat}{w0 W:World}{xs:List α}(h:KJ T ta tv kv B w0 xs W):KJ T ta tv kv B w0 xs W.drew:=by
 obtain⟨a,n,c,h1,h2,h3,h4⟩:=h
 exact⟨a,n,c,h1.below (bg W),h2.below (bg W),h3,h4.trans ((bg W).mono (Nat.le_of_lt h1.lt))⟩
theorem GK {α:Type}{T:Ty α}(hfl:Flat T){P:Program}{ta tv:TypeId}{bytes bytesv:Nat}{z zv:Value}(hu:P.underlying tv=some (.slice ta))(tf:TF P ta T.k bytes z)(hb0:0<bytes)(tfv:TF P tv 1 bytesv zv)
   {kv B:Nat} {w0 W W1:World} {xs:List α} {a:Option Addr} {n c:Nat} (hB:am W kv tv [.slice a n c]) (ho:Ow T ta W NoB a n c xs) (hf:∀g,bK a=some g->B <=g) (hb:Below kv w0 W) (hkv:kv<B) (hBW:B <=W.heap.size)
   {k1:Nat} {vs:List Value} {x:α} (hk:k1=W.heap.size) (hw:W1=W.alloc (.cells vs.toArray ta)) (hx:T.rep W NoB vs x) (hbound:(xs.length+1)*bytes <=140737488355328):
   ∃(W2:World) (a':Option Addr) (n' c':Nat),(Builtin.append_ #[tv,tv] tv #[.slice a n c,.slice (some ⟨k1,0,none⟩) 1 1]).run P W1=.ok (.slice a' n' c') W2/\
     ∃W3:World,(Instr.storeAt tv (.pointer (some ⟨kv,0,none⟩)) (.slice a' n' c')).run P W2=.ok () W3/\KJ T ta tv kv B w0 (xs++[x]) W3/\KeepsFrom B W W3/\∀b,b<B->b≠kv->W3.heap[b]? =W.heap[b]? :=by
 have hB1:bW W W1:=hw▸ah W _
 have ho3:=ho.below hB1
 have hsrc:Src T W1 NoB (some ⟨k1,0,none⟩) 1 [x]:=Src.new1F hfl hk hw hx
 obtain⟨W2,a4,n4,c4,hr,ho4,hgr,hfr⟩:=dh (ty:=tv) hu tf hb0 ho3 (λ_ _ h=>h) (cm:=1) hsrc (by simpa using hbound)
 have hkv2:some kv≠bK a:=λe=>by have:=hf kv e.symm;omega
 have hA2:am W2 kv tv [.slice a n c]:=(hB.below hB1).grown hgr hkv2
 obtain⟨W3,hst,hA3,hg3⟩:=hA2.store tfv (i:=0) (v:=.slice a4 n4 c4) rfl (by simp) (by intro c hcc;simp[Value.cells]at hcc;subst hcc;rfl)
 have hf4:∀g,bK a4=some g->B <=g:=λg hg=>by
   rcases hfr g hg with h|h
   · exact hf g h
   · exact Nat.le_trans hBW (Nat.le_trans hB1.size h)
 have hs3:W.heap.size <=W3.heap.size:=Nat.le_trans hB1.size (Nat.le_trans hgr.size hg3.size)
 have same:∀b,b<W.heap.size->b≠kv->some b≠bK a->W3.heap[b]? =W.heap[b]? :=λb hb1 hb2 hb3=>by
   have l1:=Nat.lt_of_lt_of_le hb1 hB1.size
   rw[hg3.block b (Nat.lt_of_lt_of_le l1 hgr.size) (λe=>hb2 (by cases e;rfl)),hgr.block b l1 hb3,hB1.block b hb1]
 refine⟨W2,a4,n4,c4,hr,W3,hst,⟨a4,n4,c4,hA3,ho4.put (λg hg e=>by have:=hf4 g hg;omega) hg3,hf4,?_⟩,⟨hs3,λk o hk1 hk2 hk3=>?_⟩,λb hb1 hb2=>?_⟩
 · refine⟨?_,?_,?_,Nat.le_trans hb.size hs3,λb hb1=>?_⟩
   · rw[hg3.os,hgr.os,hB1.os,hb.os]
   · rw[hg3.tape,hgr.tape,hB1.tape,hb.tape]
   · rw[hg3.output,hgr.output,hB1.output,hb.output]
   · rw[same b (Nat.lt_trans hb1 hB.lt) (by omega) (λe=>by have:=hf b e.symm;omega),hb.block b hb1]
 · refine(same k (Array.getElem?_eq_some_iff.1 hk2).1 (by omega) (λe=>?_)).trans hk2
   obtain⟨o2,h2,c2⟩:=ho.cells e.symm
   rw[hk2]at h2;cases h2;rw[hk3]at c2;cases c2
 · exact same b (by omega) hb2 λe=>by have:=hf b e.symm;omega
theorem CF {A:Bl}{W:World}{l:Nat}{o':Obj}(h:∀b,A b->b≠l):vJ A W (W.putObj l o'):=⟨by simp[World.putObj],λb hb ha=>(grownBy_putObj' W l o').block b hb λe=>h b ha (by cases e;rfl)⟩
theorem kW (a:Option Addr)(b c:Nat){w K}(h:nA w (.cells #[.slice a b c] az) λd e=>K (.func (.func kD) #[] #[.pointer (vA d 0)]) e):Cf lY #[.slice a b c] w (Ret K):=ru func70 [] h
theorem pG (a:Option Addr)(b c:Nat){w K}(h:nA w (.cells #[.slice a b c] ar) λd e=>K (.func (.func nT) #[] #[.pointer (vA d 0)]) e):Cf qq #[.slice a b c] w (Ret K):=ru func62 [] h
theorem MS {h d:Hst}(oh:h.ok)(od:d.ok)(rh:(aH h).length≠0)(rd:(aH d).length≠0):
   lL h d=true ↔ (aH d).length<(aH h).length/\(aH d).reverse=(aH h).reverse.take (aH d).length:=by
 rw[Aa oh od]
 unfold HE
 rw[if_neg (λhx=>hx.elim rh rd),Bool.and_eq_true,dTx,beq_iff_eq]
 obtain⟨⟨hk,hr⟩,hl⟩:=j8 oh rh
 obtain⟨⟨dk,dr⟩,dl⟩:=j8 od rd
 obtain⟨-,-,h3,-,-,-⟩:=jq oh hk hr
 have key:(aH d).reverse=(aH h).reverse.take (aH d).length/\(aH d).length<(aH h).length ↔ ∃A,A≠[]/\aH h=A++aH d:=by
   constructor
   · rintro⟨h1,h2⟩
     rw[List.take_reverse]at h1
     have h1:=List.reverse_inj.1 h1
     refine⟨(aH h).take ((aH h).length-(aH d).length),?_,?_⟩
     · intro e
       have:=congrArg List.length e
       rw[List.length_take,List.length_nil]at this;omega
     · conv=>rhs;rhs;rw[h1]
       rw[List.take_append_drop]
   · rintro⟨A,hA,e⟩
     have hp:=List.length_pos_iff.2 hA
     rw[e]
     refine⟨?_,by simp;omega⟩
     rw[List.reverse_append,List.take_append_of_le_length (by simp),List.take_of_length_le (by simp)]
 rw[and_comm (a:=(aH d).length<_),key,hl,dl]
 constructor
 · rintro⟨h1,h2⟩
   have hs:h.name=h.name.take (h.name.length-(d.name.length+1))++46::d.name:=by rw[<- h2,List.take_append_drop]
   refine⟨bS 46 [] (h.name.take (h.name.length-(d.name.length+1))),mW 46 _ [],?_⟩
   conv=>lhs;rw[hs]
   exact cy 46 _ _ _
 · rintro⟨A,hA,e⟩
   have hj:=jm 46 h.name []
   have hjd:=jm 46 d.name []
   rw[List.nil_append]at hj hjd
   rw[e,Jr 46 A _ hA (mW 46 d.name []),hjd]at hj
   have hp:0<(Lib.join A [46]).length:=by
     cases A with
     | nil=>exact absurd rfl hA
     | cons x A=>
       rw[Lib.join_cons,List.length_append]
       have hx:x∈bS 46 [] h.name:=by rw[e];simp
       have:=List.all_eq_true.1 h3 x hx
       unfold bs at this
       rw[Bool.and_eq_true,Bool.and_eq_true,dTx]at this
       have:=this.1.1
       omega
   rw[<- hj]
   refine⟨by simp;omega,?_⟩
   rw[List.length_append,List.length_cons,Nat.add_sub_cancel,List.drop_left]
theorem QN {h d:Hst}(oh:h.ok)(od:d.ok)(rh:(aH h).length≠0)(rd:(aH d).length≠0):lG h d=true ↔ aH h=aH d:=by
 rw[dP oh od]
 refine⟨λe=>by rw[e],λe=>?_⟩
 obtain⟨⟨hk,hr⟩,hl⟩:=j8 oh rh
 obtain⟨⟨dk,dr⟩,dl⟩:=j8 od rd
 obtain⟨h1,-⟩:=jq oh hk hr
 obtain⟨d1,-⟩:=jq od dk dr
 rw[hl,dl]at e
 have hj:=jm 46 h.name []
 have hjd:=jm 46 d.name []
 rw[List.nil_append]at hj hjd
 rw[h1,d1,<- hj,<- hjd,e]
def Nd (ad lb dg:Nat->Bool)(s x:Nat):Nat:=
 if s=1 then(if ad x=true then 3 else if lb x=true/\dg x=false then 2 else 0)else if s=2 then(if ad x=false/\lb x=true then 2 else 0)else 0
def hNx (ad lb dg:Nat->Bool)(k j:Nat):List Int:=(List.range (4*k)).map λi=>if i%k<j then((Nd ad lb dg (i/k) (i%k):Nat):Int)else 0
theorem zt (ad lb dg:Nat->Bool)(k j:Nat):(hNx ad lb dg k j).length=4*k:=by simp[hNx]
theorem zr {ad lb dg:Nat->Bool}{k j i:Nat}(hi:i<4*k):(hNx ad lb dg k j)[i]? =some (if i%k<j then((Nd ad lb dg (i/k) (i%k):Nat):Int)else 0):=by
 unfold hNx;rw[List.getElem?_map,List.getElem?_range hi];rfl
theorem NO (ad lb dg:Nat->Bool)(k:Nat):hNx ad lb dg k 0=List.replicate (4*k) 0:=by
 refine List.ext_getElem? λi=>?_
 rcases Nat.lt_or_ge i (4*k)with h|h
 · rw[zr h,if_neg (Nat.not_lt_zero _),List.getElem?_replicate,if_pos h]
 · rw[List.getElem?_eq_none (by rw[zt];exact h),List.getElem?_eq_none (by rw[List.length_replicate];exact h)]
theorem Jf {s k x:Nat}(hx:x<k):(s*k+x)/k=s/\(s*k+x)%k=x:=by
 have hk:0<k:=by omega
 refine⟨by rw[Nat.mul_comm,Nat.mul_add_div hk,Nat.div_eq_of_lt hx,Nat.add_zero],?_⟩
 rw[Nat.mul_comm,Nat.mul_add_mod];exact Nat.mod_eq_of_lt hx
theorem NN {ad lb dg:Nat->Bool}{k j:Nat}(hj:j<k){l:List Int}(hl:l.length=4*k)
   (h:∀i,i<4*k->l[i]? =some (if i%k=j then((Nd ad lb dg (i/k) j:Nat):Int)else(hNx ad lb dg k j).getD i 0)):l=hNx ad lb dg k (j+1):=by
 refine List.ext_getElem? λi=>?_
 rcases Nat.lt_or_ge i (4*k)with hi|hi
 · rw[h i hi,zr hi]
   by_cases e:i%k=j
   · rw[if_pos e,if_pos (by omega),e]
   · rw[if_neg e,List.getD_eq_getElem?_getD,zr hi]
     by_cases e2:i%k<j
     · rw[if_pos e2,if_pos (by omega)];rfl
     · rw[if_neg e2,if_neg (by omega)];rfl
 · rw[List.getElem?_eq_none (by omega),List.getElem?_eq_none (by rw[zt];exact hi)]
theorem Fz {ad lb dg:Nat->Bool}{k j:Nat}(hj:j<k){l:List Int}(h1:l=(if ad j=true then(hNx ad lb dg k j).set (1*k+j) 3 else if lb j=true then(if dg j=false then((hNx ad lb dg k j).set (2*k+j) 2).set (1*k+j) 2 else(hNx ad lb dg k j).set (2*k+j) 2)else hNx ad lb dg k j)):
   l=hNx ad lb dg k (j+1):=by
 have b1:1*k+j<4*k:=by omega
 have b2:2*k+j<4*k:=by omega
 refine NN hj (by rw[h1];repeat' (first|split|simp[zt])) λi hi=>?_
 have hd:=Nat.div_add_mod i k
 have hdiv:i/k<4:=Nat.div_lt_of_lt_mul (by rw[Nat.mul_comm];omega)
 have old:(hNx ad lb dg k j)[i]? =some ((hNx ad lb dg k j).getD i 0):=by rw[List.getD_eq_getElem?_getD,zr hi];rfl
 by_cases e:i%k=j
 ·
   have hz:(hNx ad lb dg k j).getD i 0=0:=by rw[List.getD_eq_getElem?_getD,zr hi,if_neg (by omega)];rfl
   rw[if_pos e]
   rw[hz]at old
   have hs:i/k=0\/i/k=1\/i/k=2\/i/k=3:=by
     clear hd
     revert hdiv
     generalize i/k=q
     intro hq
     omega
   have ei:i=i/k*k+j:=by rw[Nat.mul_comm];omega
   have l1:(hNx ad lb dg k j).length=4*k:=zt ad lb dg k j
   have og:(hNx ad lb dg k j)[i]'(by rw[l1];exact hi)=0:=by
     rw[List.getElem?_eq_getElem (by rw[l1];exact hi)]at old
     exact Option.some.inj old
   rcases hs with hs|hs|hs|hs <;> rw[hs]at ei ⊢ <;> rw[h1] <;> unfold Nd
   · have n1: ¬ k+j=i:=by omega
     have n2: ¬ 2*k+j=i:=by omega
     cases ha:ad j <;> cases hb:lb j <;> cases hg:dg j <;> simp[List.getElem?_set,n1,n2,old]
   · have n2: ¬ 2*k+j=i:=by omega
     have n1:k+j=i:=by omega
     cases ha:ad j <;> cases hb:lb j <;> cases hg:dg j <;> simp[List.getElem?_set,n1,n2,old,og,l1,hi]
   · have n1: ¬ k+j=i:=by omega
     have n2:2*k+j=i:=by omega
     cases ha:ad j <;> cases hb:lb j <;> cases hg:dg j <;> simp[List.getElem?_set,n1,n2,old,og,l1,hi]
   · have n1: ¬ k+j=i:=by omega
     have n2: ¬ 2*k+j=i:=by omega
     cases ha:ad j <;> cases hb:lb j <;> cases hg:dg j <;> simp[List.getElem?_set,n1,n2,old]
 · rw[if_neg e,h1]
   have n1: ¬ k+j=i:=λe2=>e (by rw[<- e2,<- Nat.one_mul k,Nat.one_mul k];exact(by have:=(Jf (s:=1) hj).2;rwa [Nat.one_mul]at this))
   have n2: ¬ 2*k+j=i:=λe2=>e (by rw[<- e2];exact(Jf hj).2)
   generalize (hNx ad lb dg k j).getD i 0=v at old ⊢
   cases ha:ad j <;> cases hb:lb j <;> cases hg:dg j <;> simp[List.getElem?_set,n1,n2,old]
def hD (ad lb dg:Nat->Bool)(k:Nat):DA:=⟨(k:Int),1,hNx ad lb dg k k,[false,false,true,true]⟩
def hsW (ad lb dg:Nat->Bool):List Nat->Prop
 | []=>False
 | x::r=>ad x=true/\r=[]\/ad x=false/\lb x=true/\dg x=false/\∀y∈r,ad y=false/\lb y=true
theorem PF (ad lb dg:Nat->Bool)(s x:Nat):Nd ad lb dg s x<4:=by unfold Nd;repeat' (first|split|omega)
theorem RD {ad lb dg:Nat->Bool}{k:Nat}(h1:1 <=k)(h2:k <=512):(hD ad lb dg k).Ok:=by
 refine⟨?_,?_,?_,?_,?_,?_,?_,λv hv=>?_⟩
 · show(1:Int) <=(k:Int);omega
 · show(k:Int) <=512;omega
 · show 1 <=4;omega
 · show 4 <=65536;omega
 · show((hNx ad lb dg k k).length:Int)=((4:Nat):Int)*(k:Int);rw[zt,Int.natCast_mul]
 · show(0:Int) <=1;omega
 · show(1:Int)<((4:Nat):Int);omega
 · obtain⟨i,_,rfl⟩:=List.mem_map.1 (show v∈hNx ad lb dg k k from hv)
   show 0 <=_/\_<((4:Nat):Int)
   have:=PF ad lb dg (i/k) (i%k)
   split <;> omega
theorem NM {ad lb dg:Nat->Bool}{k s x:Nat}(hs:s<4)(hx:x<k):(hD ad lb dg k).to s x=Nd ad lb dg s x:=by
 unfold DA.to
 have hK:(hD ad lb dg k).K=k:=by simp[DA.K,hD]
 rw[hK]
 show((hNx ad lb dg k k).getD (s*k+x) 0).toNat=_
 have hi:s*k+x<4*k:=ud hs hx
 rw[List.getD_eq_getElem?_getD,zr hi,(Jf hx).1,(Jf hx).2,if_pos hx]
 rfl
theorem Fy {ad lb dg:Nat->Bool}{k:Nat} :∀{v:List Nat},(∀x∈v,x<k)->(hD ad lb dg k).run 0 v=0
 | [],_=>rfl
 | x::v,hv=>by
   show(hD ad lb dg k).run ((hD ad lb dg k).to 0 x) v=0
   rw[NM (by omega) (hv x List.mem_cons_self)]
   exact Fy λy hy=>hv y (List.mem_cons_of_mem _ hy)
theorem LI {ad lb dg:Nat->Bool}{k:Nat} :∀{v:List Nat},(∀x∈v,x<k)->((hD ad lb dg k).acc ((hD ad lb dg k).run 2 v)=true ↔ ∀y∈v,ad y=false/\lb y=true)
 | [],_=>by simp[DA.run,DA.acc,hD]
 | x::v,hv=>by
   have hv':∀y∈v,y<k:=λy hy=>hv y (List.mem_cons_of_mem _ hy)
   show(hD ad lb dg k).acc ((hD ad lb dg k).run ((hD ad lb dg k).to 2 x) v)=true ↔ _
   rw[NM (by omega) (hv x List.mem_cons_self)]
   unfold Nd
   rw[if_neg (by omega),if_pos rfl]
   by_cases h:ad x=false/\lb x=true
   · rw[if_pos h,LI hv']
     simp[h]
   · rw[if_neg h,Fy hv']
     simp only[List.mem_cons,forall_eq_or_imp,h,false_and,iff_false]
     simp[DA.acc,hD]
theorem PE {ad lb dg:Nat->Bool}{k:Nat}(v:List Nat):(hD ad lb dg k).Lang 1 v ↔ (∀x∈v,x<k)/\hsW ad lb dg v:=by
 have hK:(hD ad lb dg k).K=k:=by simp[DA.K,hD]
 unfold DA.Lang
 rw[hK]
 refine and_congr_right λhv=>?_
 cases v with
 | nil=>simp[hsW,DA.run,DA.acc,hD]
 | cons x v=>
   have hv':∀y∈v,y<k:=λy hy=>hv y (List.mem_cons_of_mem _ hy)
   show(hD ad lb dg k).acc ((hD ad lb dg k).run ((hD ad lb dg k).to 1 x) v)=true ↔ _
   rw[NM (by omega) (hv x List.mem_cons_self)]
   unfold Nd hsW
   rw[if_pos rfl]
   by_cases ha:ad x=true
   · rw[if_pos ha]
     simp only[ha,true_and,Bool.true_eq_false,false_and,or_false]
     cases v with
     | nil=>simp[DA.run,DA.acc,hD]
     | cons y v=>
       have hv2:∀z∈v,z<k:=λz hz=>hv' z (List.mem_cons_of_mem _ hz)
       show(hD ad lb dg k).acc ((hD ad lb dg k).run ((hD ad lb dg k).to 3 y) v)=true ↔ _
       rw[NM (by omega) (hv' y List.mem_cons_self)]
       unfold Nd
       rw[if_neg (by omega),if_neg (by omega),Fy hv2]
       simp[DA.acc,hD]
   · have ha':ad x=false:=by simpa using ha
     rw[if_neg ha]
     simp only[ha',Bool.false_eq_true,false_and,false_or,true_and]
     by_cases hb:lb x=true/\dg x=false
     · rw[if_pos hb,LI hv']
       simp[hb]
     · rw[if_neg hb,Fy hv']
       simp only[DA.acc,hD]
       constructor
       · intro h;simp at h
       · intro h;exact absurd ⟨h.1,h.2.1⟩ hb
theorem Ot (ts:List Txt)(s:Txt):0 <=ofT ts s/\ofT ts s <=(ts.length:Int):=by
 unfold ofT
 have:=List.countP_le_length (p:=λx=>decide (x<s)) (l:=ts)
 split <;> omega
theorem CL {ts:List Txt}(hp:ts.Pairwise (· < ·)){s:Txt}(h:s∈ts):∃i,∃hi:i<ts.length,ts[i]=s/\ofT ts s=(i:Int):=by
 obtain⟨i,hi,e⟩:=List.mem_iff_getElem.1 h
 exact⟨i,hi,e,by rw[<- e];exact Iy hp hi⟩
theorem CM {ts:List Txt}{s:Txt}(h:s ∉ ts):ofT ts s=(ts.length:Int):=by unfold ofT;rw[if_neg h]
theorem PX {ts:List Txt}(hp:ts.Pairwise (· < ·)){s:Txt} :ofT ts s≠(ts.length:Int) ↔ s∈ts:=by
 refine⟨λh=>?_,λh=>?_⟩
 · by_cases hm:s∈ts
   · exact hm
   · exact absurd (CM hm) h
 · obtain⟨i,hi,_,e⟩:=CL hp h
   rw[e];omega
theorem PY {ts:List Txt}(hp:ts.Pairwise (· < ·)){s t:Txt}(h:s∈ts)(e:ofT ts t=ofT ts s):t=s:=by
 obtain⟨i,hi,es,e1⟩:=CL hp h
 have ht:t∈ts:=(PX hp).1 (by rw[e,e1];omega)
 obtain⟨j,hj,et,e2⟩:=CL hp ht
 have:i=j:=by omega
 subst this
 rw[<- es,<- et]
theorem xe {ts:List Txt}(hp:ts.Pairwise (· < ·)):∀{l m:List Txt},(∀s∈l,s∈ts)->m.map (ofT ts)=l.map (ofT ts)->m=l
 | [],m,_,e=>by simpa using e
 | s::l,[],_,e=>by simp at e
 | s::l,t::m,h,e=>by
   simp only[List.map_cons,List.cons.injEq]at e
   rw[PY hp (h s List.mem_cons_self) e.1,xe hp (λx hx=>h x (List.mem_cons_of_mem _ hx)) e.2]
theorem ma {h:Hst}(o:h.ok)(r:br h=true):cQ (dj h)=some h:=by
 unfold br at r
 cases hh:cQ (dj h)with
 | none=>rw[hh]at r;cases r
 | some g=>rw[hh]at r;rw[(dP (il hh) o).1 r]
theorem Kl {s:List UInt8}{h:Hst}(e:cQ s=some h):h.kind=1\/h.kind=2\/h.kind=3:=by
 unfold cQ at e
 split at e
 · split at e
   · rw[Option.map_eq_some_iff]at e
     obtain⟨a,_,rfl⟩:=e
     exact .inr (.inr rfl)
   · cases e
 split at e
 · rw[Option.map_eq_some_iff]at e
   obtain⟨a,_,rfl⟩:=e
   exact .inr (.inl rfl)
 split at e
 · rw[<- Option.some.inj e];exact .inl rfl
 · cases e
def fi (h:Hst):List Txt:=if br h=true then(if h.kind=1 then(aH h).reverse else[dj h])else[]
def hwV (ts:List Txt)(h:Hst):List Int:=(fi h).map (ofT ts)
def Gv (ts:List Txt)(h:Hst):Prop:=fi h≠[]/\∀s∈fi h,s∈ts
theorem io {h:Hst}(o:h.ok)(hk:h.kind=1)(hr:br h=true):aH h=bS 46 [] h.name/\aH h≠[]:=by
 have e:aH h=bS 46 [] h.name:=by unfold aH;rw[if_pos ⟨hk,hr⟩]
 exact⟨e,by rw[e];exact mW 46 h.name []⟩
theorem vn {h:Hst}(o:h.ok):fi h≠[] ↔ br h=true:=by
 unfold fi
 by_cases hr:br h=true
 · rw[if_pos hr]
   simp only[hr,iff_true]
   by_cases hk:h.kind=1
   · rw[if_pos hk]
     intro e
     exact(io o hk hr).2 (List.reverse_eq_nil_iff.1 e)
   · rw[if_neg hk];simp
 · rw[if_neg hr];simp[hr]
theorem rb {h:Hst}(o:h.ok):∀x∈aH h,bs x=true:=by
 intro x hx
 unfold aH at hx
 split at hx
 · rename_i hc
   exact List.all_eq_true.1 (jq o hc.1 hc.2).2.2.1 x hx
 · cases hx
theorem qj {h:Hst}(o:h.ok)(hr:br h=true)(hk:h.kind≠1):bs (dj h)=false:=by
 have hk':=Kl (ma o hr)
 have key:∃c∈dj h,im c=false:=by
   rcases hk' with hk'|hk'|hk'
   · exact absurd hk' hk
   · refine⟨46,?_,by decide⟩
     unfold dj
     rw[if_neg hk,if_pos hk',xC o]
     simp
   · refine⟨91,?_,by decide⟩
     unfold dj
     rw[if_neg hk,if_neg (by omega),if_pos hk']
     simp
 obtain⟨c,hc,hl⟩:=key
 cases hb:bs (dj h)with
 | false=>rfl
 | true=>
   unfold bs at hb
   rw[Bool.and_eq_true]at hb
   have:=List.all_eq_true.1 hb.2 c hc
   rw[hl]at this;cases this
theorem M3 {h d:Hst}(oh:h.ok)(od:d.ok)(rh:br h=true)(rd:br d=true)(e:fi h=fi d):h=d:=by
 unfold fi at e
 rw[if_pos rh,if_pos rd]at e
 by_cases hk:h.kind=1
 · have hl:=io oh hk rh
   by_cases dk:d.kind=1
   · have dl:=io od dk rd
     rw[if_pos hk,if_pos dk]at e
     have e':=List.reverse_inj.1 e
     refine(dP oh od).1 ((QN oh od ?_ ?_).2 e')
     · exact λh0=>hl.2 (List.eq_nil_of_length_eq_zero h0)
     · exact λh0=>dl.2 (List.eq_nil_of_length_eq_zero h0)
   · rw[if_pos hk,if_neg dk]at e
     have hm:dj d∈aH h:=by
       have:dj d∈(aH h).reverse:=by rw[e];exact List.mem_singleton.2 rfl
       simpa using this
     have:=rb oh _ hm
     rw[qj od rd dk]at this;cases this
 · by_cases dk:d.kind=1
   · rw[if_neg hk,if_pos dk]at e
     have hm:dj h∈aH d:=by
       have:dj h∈(aH d).reverse:=by rw[<- e];exact List.mem_singleton.2 rfl
       simpa using this
     have:=rb od _ hm
     rw[qj oh rh hk]at this;cases this
   · rw[if_neg hk,if_neg dk]at e
     have e':=(List.cons.inj e).1
     have h1:=ma oh rh
     rw[e',ma od rd]at h1
     exact(Option.some.inj h1).symm
theorem PH {ts:List Txt}(hp:ts.Pairwise (· < ·)){h d:Hst}(oh:h.ok)(od:d.ok)(rh:br h=true)(kd:Gv ts d):hwV ts h=hwV ts d ↔ h=d:=by
 refine⟨λe=>?_,λe=>by rw[e]⟩
 exact M3 oh od rh ((vn od).1 kd.1) (xe hp kd.2 e)
theorem LQ {ts:List Txt}(hp:ts.Pairwise (· < ·)){h d:Hst}(oh:h.ok)(od:d.ok)(rh:br h=true)(kd:Gv ts d)(dk:d.kind=1):
   (hwV ts d <+:hwV ts h/\(hwV ts d).length<(hwV ts h).length) ↔ lL h d=true:=by
 have rd:=(vn od).1 kd.1
 have dl:=io od dk rd
 have ed:fi d=(aH d).reverse:=by unfold fi;rw[if_pos rd,if_pos dk]
 have hd0:(aH d).length≠0:=λh0=>dl.2 (List.eq_nil_of_length_eq_zero h0)
 by_cases hk:h.kind=1
 · have hl:=io oh hk rh
   have eh:fi h=(aH h).reverse:=by unfold fi;rw[if_pos rh,if_pos hk]
   have hh0:(aH h).length≠0:=λh0=>hl.2 (List.eq_nil_of_length_eq_zero h0)
   rw[MS oh od hh0 hd0]
   unfold hwV
   rw[List.length_map,List.length_map,eh,ed,List.length_reverse,List.length_reverse,and_comm]
   refine and_congr_right λhlt=>?_
   rw[List.prefix_iff_eq_take,List.length_map,List.length_reverse,<- List.map_take]
   constructor
   · intro e
     exact(xe hp (by rw[<- ed];exact kd.2) e.symm).symm
   · intro e;rw[<- e]
 · have eh:fi h=[dj h]:=by unfold fi;rw[if_pos rh,if_neg hk]
   have hu:lL h d=false:=by
     unfold lL
     rw[if_pos]
     right
     rw[show aH h=[] from if_neg (λc=>hk c.1)]
     exact Nat.zero_le _
   rw[hu]
   simp only[Bool.false_eq_true,iff_false,not_and]
   intro _
   unfold hwV
   rw[List.length_map,List.length_map,eh,ed,List.length_reverse]
   simp only[List.length_singleton]
   omega
theorem EU {h d:Hst}(dk:d.kind≠1):lL h d=false:=by
 unfold lL
 rw[if_pos]
 left
 rw[show aH d=[] from if_neg (λc=>dk c.1)]
 rfl
def mE (s:Txt):Bool:=match cQ s with|some h=> !decide (h.kind=1)&&(dj h==s)|none=>false
def eM (t:List Txt):Option Hst:=
 if t.length=1/\t.all mE=true then cQ (t.headD [])
 else if t.all bs=true then(match cQ (Lib.join t.reverse [46])with|some h=>if h.kind=1 then some h else none|none=>none)
 else none
def ng (t:List Txt):Prop:=match t with
 | []=>False
 | x::r=>mE x=true/\r=[]\/bs x=true/\cC x=false/\∀y∈r,bs y=true
theorem zi {s:Txt}(h:mE s=true):bs s=false:=by
 unfold mE at h
 cases hv:cQ s with
 | none=>rw[hv]at h;cases h
 | some g=>
   rw[hv]at h
   rw[Bool.and_eq_true,beq_iff_eq]at h
   have hk:g.kind≠1:=by simpa using h.1
   have hr:br g=true:=by
     unfold br
     rw[h.2,hv]
     exact(dP (il hv) (il hv)).2 rfl
   rw[<- h.2]
   exact qj (il hv) hr hk
theorem Cz {h:Hst}(o:h.ok)(r:br h=true):eM (fi h)=some h/\ng (fi h):=by
 have hb:=ma o r
 unfold fi
 rw[if_pos r]
 by_cases hk:h.kind=1
 · rw[if_pos hk]
   obtain⟨el,hne⟩:=io o hk r
   obtain⟨e1,e2,e3,e4,e5,e6⟩:=jq o hk r
   have hall:∀x∈aH h,bs x=true:=rb o
   have hlast:∃A x,aH h=A++[x]/\cC x=false:=by
     obtain⟨A,x,hA⟩:∃A x,aH h=A++[x]:=⟨_,_,(List.dropLast_concat_getLast hne).symm⟩
     refine⟨A,x,hA,?_⟩
     rw[<- el,hA]at e5
     unfold th at e5
     simpa using e5
   obtain⟨A,x,hA,hx⟩:=hlast
   have hxl:bs x=true:=hall x (by rw[hA];simp)
   refine⟨?_,?_⟩
   · unfold eM
     have hna: ¬ ((aH h).reverse.length=1/\(aH h).reverse.all mE=true):=by
       rintro⟨_,h2⟩
       have:=List.all_eq_true.1 h2 x (by rw[hA];simp)
       have:=zi this
       rw[hxl]at this;cases this
     rw[if_neg hna,if_pos (List.all_eq_true.2 λy hy=>hall y (by simpa using hy)),List.reverse_reverse]
     have hj:=jm 46 h.name []
     rw[List.nil_append,<- el]at hj
     rw[hj,e6]
     simp only
     rw[if_pos hk]
   · rw[hA,List.reverse_append]
     exact .inr ⟨hxl,hx,λy hy=>hall y (by rw[hA];simp;exact .inl (by simpa using hy))⟩
 · rw[if_neg hk]
   have ha:mE (dj h)=true:=by
     unfold mE
     rw[hb]
     simp[hk]
   refine⟨?_,.inl ⟨ha,rfl⟩⟩
   unfold eM
   rw[if_pos ⟨rfl,by simp[ha]⟩]
   exact hb
theorem Iv:∀n,n<256->im (UInt8.ofNat n)=true->Gs (UInt8.ofNat n)=UInt8.ofNat n/\UInt8.ofNat n≠46/\UInt8.ofNat n≠91:=by decide+kernel
theorem Iu {c:UInt8}(h:im c=true):Gs c=c/\c≠46/\c≠91:=by
 have e:UInt8.ofNat c.toNat=c:=by simp
 have:=Iv c.toNat c.toNat_lt
 rw[e]at this
 exact this h
theorem Bt (x y:Txt)(r:List Txt):Lib.join (x::y::r) [46]=x++46::Lib.join (y::r) [46]:=by
 rw[Lib.join_cons,Lib.join_cons]
 simp[Lib.joinTail]
theorem Em:∀(r:List Txt) (x:Txt),(∀c∈x,c≠46)->(∀y∈r,∀c∈y,c≠46)->bS 46 [] (Lib.join (x::r) [46])=x::r
 | [],x,hx,_=>by rw[Lib.join_one,Ca 46 x [] hx];rfl
 | y::r,x,hx,hr=>by
   rw[Bt x y r,Fj 46 x [] _ hx,Em r y (hr y List.mem_cons_self) λz hz=>hr z (List.mem_cons_of_mem _ hz)]
   rfl
theorem LR (s:Txt):(⟨1,s,ad0⟩:Hst).ok:=by unfold Hst.ok;rfl
theorem iT {x:Txt}(h:bs x=true):1 <=x.length/\x.length <=63/\∀c∈x,im c=true:=by
 unfold bs at h
 rw[Bool.and_eq_true,Bool.and_eq_true,dTx,dTx]at h
 exact⟨h.1.1,h.1.2,λc hc=>List.all_eq_true.1 h.2 c hc⟩
theorem ub {L:List Txt}(hne:L≠[])(hl:∀x∈L,bs x=true)(hd:cC (th L)=false)(hs:(Lib.join L [46]).length <=253):
   cQ (Lib.join L [46])=some ⟨1,Lib.join L [46],ad0⟩/\br ⟨1,Lib.join L [46],ad0⟩=true/\aH ⟨1,Lib.join L [46],ad0⟩=L:=by
 obtain⟨x,r,rfl⟩:∃x r,L=x::r:=by cases L with|nil=>exact absurd rfl hne|cons x r=>exact⟨x,r,rfl⟩
 have hf:=λy hy=>iT (hl y hy)
 have hcut:bS 46 [] (Lib.join (x::r) [46])=x::r:=Em r x (λc hc=>(Iu ((hf x List.mem_cons_self).2.2 c hc)).2.1)
   (λy hy c hc=>(Iu ((hf y (List.mem_cons_of_mem _ hy)).2.2 c hc)).2.1)
 have hch:∀c∈Lib.join (x::r) [46],c=46\/im c=true:=by
   intro c hc
   by_cases e:c=46
   · exact .inl e
   · right
     have hj:=jm 46 (Lib.join (x::r) [46]) []
     obtain⟨y,hy,hcy⟩:∃y∈x::r,c∈y:=by
       clear hj hcut hs hd hf hl hne
       induction r generalizing x with
       | nil=>exact⟨x,List.mem_cons_self,by rwa [Lib.join_one]at hc⟩
       | cons y r ih=>
         rw[Bt]at hc
         rcases List.mem_append.1 hc with h|h
         · exact⟨x,List.mem_cons_self,h⟩
         · rcases List.mem_cons.1 h with h|h
           · exact absurd h e
           · obtain⟨z,hz,hcz⟩:=ih y h
             exact⟨z,List.mem_cons_of_mem _ hz,hcz⟩
     exact(hf y hy).2.2 c hcy
 have hlow:ir (Lib.join (x::r) [46])=Lib.join (x::r) [46]:=by
   unfold ir
   conv=>rhs;rw[<- List.map_id (Lib.join (x::r) [46])]
   refine List.map_congr_left λc hc=>?_
   rcases hch c hc with rfl|h
   · rfl
   · exact(Iu h).1
 have h91:(Lib.join (x::r) [46]).head?≠some 91:=by
   intro e
   have hm:(91:UInt8)∈Lib.join (x::r) [46]:=List.mem_of_mem_head? e
   rcases hch 91 hm with h|h
   · revert h;decide
   · revert h;decide
 have hv:cQ (Lib.join (x::r) [46])=some ⟨1,Lib.join (x::r) [46],ad0⟩:=by
   unfold cQ
   rw[if_neg h91,hlow,hcut,if_neg (by rw[hd];simp),if_pos ⟨hs,List.all_eq_true.2 hl⟩]
 have hr:br ⟨1,Lib.join (x::r) [46],ad0⟩=true:=by
   unfold br
   rw[show dj ⟨1,Lib.join (x::r) [46],ad0⟩=Lib.join (x::r) [46] from if_pos rfl,hv]
   exact(dP (LR _) (LR _)).2 rfl
 refine⟨hv,hr,?_⟩
 unfold aH
 rw[if_pos ⟨rfl,hr⟩]
 exact hcut
theorem LM {t:List Txt}(h:ng t)(hs:t.length=1\/(Lib.join t.reverse [46]).length <=253):∃g,eM t=some g/\g.ok/\br g=true/\fi g=t:=by
 cases t with
 | nil=>exact h.elim
 | cons x r=>
   by_cases ha:mE x=true/\r=[]
   · obtain⟨ha,rfl⟩:=ha
     have ho:eM [x]=cQ x:=by unfold eM;rw[if_pos ⟨rfl,by simp[ha]⟩];rfl
     unfold mE at ha
     cases hv:cQ x with
     | none=>rw[hv]at ha;cases ha
     | some g=>
       rw[hv]at ha
       rw[Bool.and_eq_true,beq_iff_eq]at ha
       have hk:g.kind≠1:=by simpa using ha.1
       have hr:br g=true:=by
         unfold br
         rw[ha.2,hv]
         exact(dP (il hv) (il hv)).2 rfl
       refine⟨g,ho.trans hv,il hv,hr,?_⟩
       unfold fi
       rw[if_pos hr,if_neg hk,ha.2]
   · rcases h with h|⟨h1,h2,h3⟩
     · exact absurd h ha
     · have hall:∀y∈(x::r).reverse,bs y=true:=λy hy=>by
         rcases List.mem_cons.1 (List.mem_reverse.1 hy)with rfl|hy
         · exact h1
         · exact h3 y hy
       have hlast:th (x::r).reverse=x:=by unfold th;simp
       have hs':(Lib.join (x::r).reverse [46]).length <=253:=by
         rcases hs with hs|hs
         · have:r=[]:=List.eq_nil_of_length_eq_zero (by simpa using hs)
           subst this
           have:=(iT h1).2.1
           rw[List.reverse_singleton,Lib.join_one]
           omega
         · exact hs
       obtain⟨e1,e2,e3⟩:=ub (L:=(x::r).reverse) (by simp) hall (by rw[hlast];exact h2) hs'
       refine⟨_,?_,LR _,e2,?_⟩
       · unfold eM
         rw[if_neg,if_pos (List.all_eq_true.2 λy hy=>hall y (List.mem_reverse.2 hy)),e1]
         · simp
         · rintro⟨_,h5⟩
           have:=zi (List.all_eq_true.1 h5 x List.mem_cons_self)
           rw[h1]at this;cases this
       · unfold fi
         rw[if_pos e2,if_pos rfl,e3,List.reverse_reverse]
section
open Go.Pk Go.RowKit Go.Shelf
attribute [local go_sem] Oper.semAt_some
theorem Pn (a:Option Addr)(n c:Nat)(w:World):Cf 70 #[.slice a n c] w λe w'=>e=.returned (.func (.func 130) #[] #[.pointer (some ⟨w.heap.size,0,none⟩)])/\w'=w.alloc (.cells #[.slice a n c] az):=by
 refine(kW a n c (K:=λv w'=>v=(.func (.func 130) #[] #[.pointer (some ⟨w.heap.size,0,none⟩)])/\w'=w.alloc (.cells #[.slice a n c] az)) ?_).mono ?_
 · intro k1 w1 hk1 hw1
   subst hk1 hw1
   exact⟨rfl,rfl⟩
 · rintro e w' ⟨v,rfl,rfl,rfl⟩
   exact⟨rfl,rfl⟩
theorem L7 (s:List UInt8)(w:World):(Instr.buildSlice az 1 #[(0,vS s)]).run prog w=.ok (.slice (some ⟨w.heap.size,0,none⟩) 1 1) (w.alloc (.cells #[vS s] au)):=by kernel_rfl
theorem PZ {w:World}{k:Nat}{t:TypeId}{s:List UInt8}(h:am w k t [vS s]):Sl tS w kj (some ⟨k,0,none⟩) 1 1 [s]:=
 ⟨rfl,Nat.le_refl _,by decide,.inr ⟨k,0,rfl,h.lt,trivial,[vS s],iK.one (xl trivial),λj hj=>by rw[Nat.zero_add];exact h.cell j⟩⟩
theorem Fi:∀(s cur:List UInt8),(bS 46 cur s).length <=s.length+1
 | [],cur=>by simp[bS]
 | x::s,cur=>by
   unfold bS
   split
   · rw[List.length_cons,List.length_cons];exact Nat.succ_le_succ (Fi s _)
   · rw[List.length_cons];exact Nat.le_succ_of_le (Fi s _)
theorem Kq {h:Hst}(o:h.ok)(hn:h.name.length <=1000000):(aH h).length <=1000001:=by
 unfold aH
 split
 · have:=Fi h.name [];omega
 · simp
def Q4:List (List Nat):=[[0,1,2,3,4,5,6],[0,2,1,3,4,5,6],[1,0,2,3,4,5,6],[1,2,0,3,4,5,6],[1,2,3,0,4,5,6],[1,2,3,4,0,5,6],[2,0,1,3,4,5,6],[2,1,0,3,4,5,6],[2,1,3,0,4,5,6],[2,1,3,4,0,5,6]]
theorem Ow.inside {α:Type}{T:Ty α}{t:TypeId}{w:World}{A:Bl}{a:Option Addr}{n c:Nat}{xs:List α}(h:Ow T t w A a n c xs):∀b o,a=some ⟨b,o,none⟩->b<w.heap.size:=by
 intro b o e
 rcases h.2.2.2 with⟨e1,_⟩|⟨g,cur,fr,e1,hh,_⟩
 · rw[e1]at e;cases e
 · rw[e1]at e;cases e
   exact(Array.getElem?_eq_some_iff.1 hh).1
set_option maxRecDepth 100000 in
set_option maxHeartbeats 4000000 in
theorem CC {h:Hst}(o:h.ok)(hn:h.name.length <=1000000){w:World}(he:Env w){p:Option Addr}{ts:List Txt}(hA:gB w p ts):
   CallsIn Fence.wide 6 prog 29 #[.pointer p,h.v] w λe w'=>∃(a:Option Addr) (n c:Nat),e=.returned (.slice a n c)/\Ow cI aw w' NoB a n c (hwV ts h)/\bI w.heap.size a/\bW w w':=by
 have hF:∀g:FuncId,Fence.wide.fn g:=λ_=>trivial
 obtain⟨w1,hw1⟩:∃w1,w1=w.alloc (.cells (Value.cells (.pointer p)) bC):=⟨_,rfl⟩
 obtain⟨w2,hw2⟩:∃w2,w2=w1.alloc (.cells (Value.cells h.v) ai):=⟨_,rfl⟩
 obtain⟨k1,hk1⟩:∃k1,k1=w.heap.size:=⟨_,rfl⟩
 obtain⟨k2,hk2⟩:∃k2,k2=w1.heap.size:=⟨_,rfl⟩
 have b1:bW w w1:=hw1▸ah w _
 have b2:bW w1 w2:=hw2▸ah w1 _
 have A1:am w1 k1 bC [.pointer p]:=am.new hk1 hw1
 have A2:am w2 k2 ai h.cells:=am.new hk2 hw2
 have B2:=ab b1 b2 b1.size
 refine callsIn_of_wp_marks func29 rfl trivial ?_ rfl
 simp only[Tryz.ntmps29,List.size_toArray,List.length_cons,List.length_nil,Nat.reduceAdd,Nat.reduceSub,Array.replicate_succ,Array.replicate_zero,List.push_toArray,List.append_toArray,List.nil_append,List.cons_append]
 have eR:=enters_of func67 (by kernel_rfl) rfl
 have eL:=enters_of func68 (by kernel_rfl) rfl
 have eT:=enters_of func69 (by kernel_rfl) rfl
 have eB:=enters_of func70 (by kernel_rfl) rfl
 have eO:=enters_of func71 (by kernel_rfl) rfl
 refine xZ ?_
 apply wpIn_region_lit
 refine RB rfl rfl (u:=.pointer p) rfl hk1 hw1 ?_
 refine RB rfl rfl (u:=h.v) rfl hk2 hw2 ?_
 refine dX rfl (.inr rfl) (u:=.slice none 0 0) rfl ?_
 refine xK ?_
 simp only[Act.put,List.setIfInBounds_toArray,List.set_cons_succ,List.set_cons_zero]
 refine xZ ?_
 refine xZ ?_
 apply wpIn_region_lit
 refine dJ rfl rfl rfl (aJ.load0 A2 (Hst.len o)) ?_
 refine Am rfl rfl (u:=h.v) rfl (by decide) hF eR ((callsIn_wide.2 (nY o (by omega) w2 (he.step B2))).mono ?_)
 rintro _ w3 ⟨_,rfl,rfl,b3⟩
 refine⟨_,rfl,?_⟩
 have B3:=ab B2 b3 B2.size
 refine Cx rfl (λc hc=>by cases hc) rfl (v:=.bool (!br h)) (w':=w3) (by kernel_rfl) ?_
 refine xK ?_
 simp only[Act.put,List.setIfInBounds_toArray,List.set_cons_succ,List.set_cons_zero]
 have early:br h=false->hwV ts h=[]:=λhr=>by unfold hwV fi;rw[if_neg (by rw[hr];simp)];rfl
 cases hr:br h with
 | false=>
   refine wpIn_cond_true rfl ?_
   refine xZ ?_
   apply wpIn_region_lit
   refine dX rfl (.inr rfl) (u:=.slice none 0 0) rfl ?_
   refine xK ?_
   refine wpIn_ret ?_
   simp only[Act.put,List.setIfInBounds_toArray,List.set_cons_succ,List.set_cons_zero]
   refine⟨_,Go.results_tmp rfl _ _ _,none,0,0,rfl,?_,bI.none _,B3⟩
   rw[early hr];exact Ow.nil _ _ _ _
 | true=>
 refine wpIn_cond_false rfl ?_
 refine wpIn_skip ?_
 refine xZ ?_
 apply wpIn_region_lit
 refine dJ rfl rfl rfl (aJ.load0 (A2.below b3) (Hst.len o)) ?_
 refine Am rfl rfl (u:=h.v) rfl (by decide) hF eL ((callsIn_wide.2 (vQ o (by omega) w3 (he.step B3))).mono ?_)
 rintro _ w4 ⟨_,rfl,la,ln,lc,rfl,ol,fl,b4⟩
 refine⟨_,rfl,?_⟩
 have B4:=ab B3 b4 B3.size
 have A24:=(A2.below b3).below b4
 refine dX rfl (.inr rfl) (u:=.slice la ln lc) rfl ?_
 refine xK ?_
 simp only[Act.put,List.setIfInBounds_toArray,List.set_cons_succ,List.set_cons_zero]
 refine PC (λa' W=>∃(x4 x6 x7 x8 x9 x10 x11 x12 x13 x14 x15 x16 x17 x18 x19 x20 x21 x22 x23 x24 x25 x26 x27 x28 x29 x30:Value) (a:Option Addr) (n c:Nat) (T:List Txt),a'= { tmps:= #[.pointer p,h.v,.pointer (some ⟨k1,0,none⟩),.pointer (some ⟨k2,0,none⟩),x4,.slice a n c,x6,x7,x8,x9,x10,x11,x12,x13,x14,x15,x16,x17,x18,x19,x20,x21,x22,x23,x24,x25,x26,x27,x28,x29,x30],defers:=[] } /\Sl tS W kj a n c T/\(∀b o,a=some ⟨b,o,none⟩->b<W.heap.size)/\T.reverse.map (ofT ts)=hwV ts h/\T.length <=1000001/\bW w W/\bW w2 W) ?_ ?_
 · refine xZ ?_
   apply wpIn_region_lit
   refine Cx rfl (λc hc=>by cases hc) rfl (v:=.pointer (some ⟨k2,0,none⟩)) (w':=w4) (by kernel_rfl) ?_
   refine dJ rfl rfl rfl (A24.load1 aB rfl rfl) ?_
   refine Cx rfl (λc hc=>by cases hc) rfl (v:=.bool (h.kind !=1)) (w':=w4) (by kernel_rfl) ?_
   refine xK ?_
   simp only[Act.put,List.setIfInBounds_toArray,List.set_cons_succ,List.set_cons_zero]
   by_cases hk:h.kind=1
   · refine wpIn_cond_false (by show Value.bool (h.kind !=1)=_;rw[hk];rfl) ?_
     refine wpIn_skip ?_
     have ew:fi h=(aH h).reverse:=by unfold fi;rw[if_pos hr,if_pos hk]
     exact⟨_,_,_,_,_,_,_,_,_,_,_,_,_,_,_,_,_,_,_,_,_,_,_,_,_,_,la,ln,lc,aH h,rfl,ol.all,Ow.inside ol,by unfold hwV;rw[ew],Kq o hn,B4,ab b3 b4 b3.size⟩
   · refine wpIn_cond_true (by show Value.bool (h.kind !=1)=_;congr 1;simp[hk]) ?_
     apply wpIn_region_lit
     refine dJ rfl rfl rfl (aJ.load0 A24 (Hst.len o)) ?_
     refine Am rfl rfl (u:=h.v) rfl (by decide) hF eT ((callsIn_wide.2 (uc o w4 (he.step B4))).mono ?_)
     rintro _ w5 ⟨_,rfl,rfl,b5⟩
     refine⟨_,rfl,?_⟩
     have B5:=ab B4 b5 B4.size
     refine fS rfl rfl (u:=vS (dj h)) rfl (L7 _ w5) ?_
     refine dX rfl (.inr rfl) (u:=.slice (some ⟨w5.heap.size,0,none⟩) 1 1) rfl ?_
     apply QU
     simp only[Act.put,List.setIfInBounds_toArray,List.set_cons_succ,List.set_cons_zero]
     have b6:bW w5 (w5.alloc (.cells #[vS (dj h)] au)):=ah w5 _
     have ew:fi h=[dj h]:=by unfold fi;rw[if_pos hr,if_neg hk]
     exact⟨_,_,_,_,_,_,_,_,_,_,_,_,_,_,_,_,_,_,_,_,_,_,_,_,_,_,_,1,1,[dj h],rfl,PZ (am.new rfl rfl),(λb o e=>by cases e;simp),by unfold hwV;rw[ew];rfl,by simp,ab B5 b6 B5.size,ab (ab b3 b4 b3.size) (ab b5 b6 b5.size) (Nat.le_trans b3.size b4.size)⟩
 · rintro a' W ⟨x4,x6,x7,x8,x9,x10,x11,x12,x13,x14,x15,x16,x17,x18,x19,x20,x21,x22,x23,x24,x25,x26,x27,x28,x29,x30,a,n,c,T,rfl,hT,hTa,hTw,hTl,BW,B2W⟩
   obtain⟨w6,hw6⟩:∃w6,w6=W.alloc (.cells #[.slice none 0 0] ar):=⟨_,rfl⟩
   obtain⟨k6,hk6⟩:∃k6,k6=W.heap.size:=⟨_,rfl⟩
   obtain⟨w7,hw7⟩:∃w7,w7=w6.alloc (.cells #[.slice a n c] az):=⟨_,rfl⟩
   obtain⟨k7,hk7⟩:∃k7,k7=w6.heap.size:=⟨_,rfl⟩
   have b6:bW W w6:=hw6▸ah W _
   have b7:bW w6 w7:=hw7▸ah w6 _
   have A6:am w6 k6 ar [.slice none 0 0]:=am.new hk6 hw6
   have A7:am w7 k7 az [.slice a n c]:=am.new hk7 hw7
   have B7:=ab BW (ab b6 b7 b6.size) BW.size
   have B27:=ab B2W (ab b6 b7 b6.size) B2W.size
   refine xZ ?_
   apply wpIn_region_lit
   refine Es rfl rfl (v:=.pointer (some ⟨k6,0,none⟩)) (w':=w6) (by rw[hk6,hw6];rfl) ?_
   refine xK ?_
   simp only[Act.put,List.setIfInBounds_toArray,List.set_cons_succ,List.set_cons_zero]
   refine xZ ?_
   refine xZ ?_
   apply wpIn_region_lit
   refine dX rfl (.inl rfl) (u:=.slice a n c) rfl ?_
   refine Am rfl rfl (u:=.slice a n c) rfl (by decide) hF eB ((callsIn_wide.2 (Pn a n c w6)).mono ?_)
   rintro _ w7' ⟨rfl,hw7'⟩
   rw[<- hw7]at hw7'
   rw[hw7']
   clear hw7' w7'
   rw[<- hk7]
   refine⟨_,rfl,?_⟩
   refine xK ?_
   simp only[Act.put,List.setIfInBounds_toArray,List.set_cons_succ,List.set_cons_zero]
   apply wpIn_block
   have hTs:=(hT.below b6).below b7
   have k67:k6<k7:=by have:=A6.lt;omega
   have k7l:=A7.lt
   have AW0:am w7 k6 ar [.slice none 0 0]:=A6.below b7
   have hAp:gB w7 p ts:=hA.below B7
   have A17:am w7 k1 bC [.pointer p]:=((A1.below b2)).below B27
   obtain⟨w7s,hw7s⟩:∃n,n=w7.heap.size:=⟨_,rfl⟩
   have hTa7:∀b o,a=some ⟨b,o,none⟩->b<k6:=λb o e=>by rw[hk6];exact hTa b o e
   have k6lt:k6<w7.heap.size:=by omega
   have I0:KJ cI aw ar k6 w7.heap.size w7 (([]:List (Int×Txt)).map λx=>ofT ts x.2) w7:=⟨none,0,0,AW0,Ow.nil _ _ _ _,(λg hg=>by cases hg),Below.refl _ _⟩
   refine wpIn_rangeFunc_ownG rfl (by decide) (gf:=130) (lb:= #[.pointer (some ⟨k7,0,none⟩)]) rfl trivial (enters_of func130 (by kernel_rfl) rfl)
     (J0 Fence.wide 5 trivial rfl (by decide) k7 T (by omega) A7 hTs) (λh1 h2=>h1.trans h2) (λV l o o' hl _ _ _=>CF λb hb e=> ?hKb) (Below.refl _ _) (λ_=>rfl)
     (λpre V=>KJ cI aw ar k6 w7.heap.size w7 (pre.map λx=>ofT ts x.2) V/\pre.length <=1000001) (λ_ _ _=>False) (OwnFrom.and (Jc k6lt) (ownFrom_pure _ _)) (λ_ _ _ _ _ hs _ _=>hs) ⟨I0,by simp⟩
     (λx=> { tmps:= #[.pointer p,h.v,.pointer (some ⟨k1,0,none⟩),.pointer (some ⟨k2,0,none⟩),x4,.slice a n c,.pointer (some ⟨k6,0,none⟩),x7,vS x.2,x9,x10,x11,x12,x13,x14,x15,x16,x17,x18,x19,.slice a n c,.func (.func 130) #[] #[.pointer (some ⟨k7,0,none⟩)],vI x.1,vS x.2,x24,x25,x26,x27,x28,x29,x30],defers:=[] }) ?assign ?body ?done ?stop
   case hKb=>
     rcases hb with rfl|⟨o2,e2⟩
     · omega
     · have:=hTa7 b o2 e2;omega
   case assign=>
     intro l x V K hK
     apply wpIn_region_lit
     simp only[List.zip_toArray,List.foldl_toArray',List.foldl_toArray,List.zip_cons_cons,List.zip_nil_left,List.zip_nil_right,List.foldl_cons,List.foldl_nil,List.setIfInBounds_toArray,List.set_cons_succ,List.set_cons_zero]
     refine dX rfl (.inr rfl) (u:=vS x.2) rfl ?_
     exact QU hK
   case body=>
     rintro l pre x V ⟨hC,hlen0⟩ hlen
     obtain⟨a1,n1,c1,C1,C2,C3,C4⟩:=hC.drew
     have hwk:w.heap.size <=k6:=by rw[hk6];exact BW.size
     have hAV:gB V.drew p ts:=hA.below (B7.trans (C4.mono hwk))
     have hk1k:k1<k6:=by have:=A1.lt;have:=b2.size;have:=B2W.size;omega
     have A1V:am V.drew k1 bC [.pointer p]:=A17.block (C4.block k1 hk1k)
     obtain⟨V1,hV1⟩:∃V1,V1=V.drew.alloc (.cells #[vI (ofT ts x.2)] aw):=⟨_,rfl⟩
     obtain⟨kx,hkx⟩:∃kx,kx=V.drew.heap.size:=⟨_,rfl⟩
     have bV:Below V.drew.heap.size V.drew V1:=hV1▸ah _ _
     obtain⟨V2,a2,n2,c2,q2,V3,q3,C',kf,oth⟩:=GK fG aI ff (by decide) iY C1 C2 C3 C4 k6lt C4.size hkx hV1 (show cI.rep V.drew NoB [vI (ofT ts x.2)] (ofT ts x.2) from⟨rfl,trivial⟩) (by rw[List.length_map];omega)
     have l6:(Instr.loadAt ar (.pointer (some ⟨k6,0,none⟩))).run prog V.drew=.ok (.slice a1 n1 c1) V.drew:=C1.load1 aI rfl rfl
     have l6':(Instr.loadAt ar (.pointer (some ⟨k6,0,none⟩))).run prog V1=.ok (.slice a1 n1 c1) V1:=(C1.below bV).load1 aI rfl rfl
     have l1:(Instr.loadAt bC (.pointer (some ⟨k1,0,none⟩))).run prog V.drew=.ok (.pointer p) V.drew:=A1V.load1 jD rfl rfl
     have qb:(Instr.buildSlice ar 1 #[(0,vI (ofT ts x.2))]).run prog V.drew=.ok (.slice (some ⟨kx,0,none⟩) 1 1) V1:=by rw[hV1,hkx];kernel_rfl
     have qc:CallsIn Fence.wide (6-1-1-1) prog 71 #[.pointer p,vS x.2] V.drew λe w'=>e=.returned (vI (ofT ts x.2))/\w'=V.drew:=
       (callsIn_wide.2 (Hv p ts x.2 V.drew hAV)).mono λe w' ⟨v,he,hv,hw⟩=>⟨by rw[he,hv],hw⟩
     have gfin:∀{aa:Act},(Exit.inBlock 1 (ownPostG w7.heap.size (vJ λb=>b=k7\/∃o,a=some ⟨b,o,none⟩) (λpre V=>KJ cI aw ar k6 w7.heap.size w7 (pre.map λx=>ofT ts x.2) V/\pre.length <=1000001) (λ_ _ _=>False) (pre++[x]) V)) .normal aa V3:=by
       intro aa
       refine⟨⟨kf.size,kf.same⟩,⟨kf.size,λb hb hab=>?_⟩,?_,by simp;omega⟩
       · rcases hab with rfl|⟨o2,e2⟩
         · exact oth b k7l (by omega)
         · have:=hTa7 b o2 e2
           exact oth b (by omega) (by omega)
       · rw[List.map_append];exact C'
     apply wpIn_block
     refine LD rfl Q4 (by kernel_rfl) ?_
     intro ord hord
     simp only[Q4,List.mem_cons,List.not_mem_nil,or_false]at hord
     rcases hord with rfl|rfl|rfl|rfl|rfl|rfl|rfl|rfl|rfl|rfl
     all_goals simp only[List.filterMap_cons,List.filterMap_nil,List.getElem?_toArray,List.getElem?_cons_zero,List.getElem?_cons_succ]
     · refine dJ (by kernel_rfl) rfl (by kernel_rfl) l6 ?_
       refine dJ (by kernel_rfl) rfl (by kernel_rfl) l1 ?_
       refine dX (by kernel_rfl) (.inl rfl) (u:=vS x.2) (by kernel_rfl) ?_
       refine js (by kernel_rfl) rfl (u:=.pointer p) (v:=vS x.2) (by kernel_rfl) (by kernel_rfl) (by decide) (λ_=>trivial) eO (qc.mono ?_)
       rintro _ _ ⟨rfl,rfl⟩
       refine⟨_,rfl,?_⟩
       refine fS (by kernel_rfl) rfl (by kernel_rfl) qb ?_
       refine gy (by kernel_rfl) rfl (by kernel_rfl) (by kernel_rfl) q2 ?_
       exact dy (by kernel_rfl) rfl (by kernel_rfl) (by kernel_rfl) q3 (wpListIn_nil gfin)
     · refine dJ (by kernel_rfl) rfl (by kernel_rfl) l6 ?_
       refine dX (by kernel_rfl) (.inl rfl) (u:=vS x.2) (by kernel_rfl) ?_
       refine dJ (by kernel_rfl) rfl (by kernel_rfl) l1 ?_
       refine js (by kernel_rfl) rfl (u:=.pointer p) (v:=vS x.2) (by kernel_rfl) (by kernel_rfl) (by decide) (λ_=>trivial) eO (qc.mono ?_)
       rintro _ _ ⟨rfl,rfl⟩
       refine⟨_,rfl,?_⟩
       refine fS (by kernel_rfl) rfl (by kernel_rfl) qb ?_
       refine gy (by kernel_rfl) rfl (by kernel_rfl) (by kernel_rfl) q2 ?_
       exact dy (by kernel_rfl) rfl (by kernel_rfl) (by kernel_rfl) q3 (wpListIn_nil gfin)
     · refine dJ (by kernel_rfl) rfl (by kernel_rfl) l1 ?_
       refine dJ (by kernel_rfl) rfl (by kernel_rfl) l6 ?_
       refine dX (by kernel_rfl) (.inl rfl) (u:=vS x.2) (by kernel_rfl) ?_
       refine js (by kernel_rfl) rfl (u:=.pointer p) (v:=vS x.2) (by kernel_rfl) (by kernel_rfl) (by decide) (λ_=>trivial) eO (qc.mono ?_)
       rintro _ _ ⟨rfl,rfl⟩
       refine⟨_,rfl,?_⟩
       refine fS (by kernel_rfl) rfl (by kernel_rfl) qb ?_
       refine gy (by kernel_rfl) rfl (by kernel_rfl) (by kernel_rfl) q2 ?_
       exact dy (by kernel_rfl) rfl (by kernel_rfl) (by kernel_rfl) q3 (wpListIn_nil gfin)
     · refine dJ (by kernel_rfl) rfl (by kernel_rfl) l1 ?_
       refine dX (by kernel_rfl) (.inl rfl) (u:=vS x.2) (by kernel_rfl) ?_
       refine dJ (by kernel_rfl) rfl (by kernel_rfl) l6 ?_
       refine js (by kernel_rfl) rfl (u:=.pointer p) (v:=vS x.2) (by kernel_rfl) (by kernel_rfl) (by decide) (λ_=>trivial) eO (qc.mono ?_)
       rintro _ _ ⟨rfl,rfl⟩
       refine⟨_,rfl,?_⟩
       refine fS (by kernel_rfl) rfl (by kernel_rfl) qb ?_
       refine gy (by kernel_rfl) rfl (by kernel_rfl) (by kernel_rfl) q2 ?_
       exact dy (by kernel_rfl) rfl (by kernel_rfl) (by kernel_rfl) q3 (wpListIn_nil gfin)
     · refine dJ (by kernel_rfl) rfl (by kernel_rfl) l1 ?_
       refine dX (by kernel_rfl) (.inl rfl) (u:=vS x.2) (by kernel_rfl) ?_
       refine js (by kernel_rfl) rfl (u:=.pointer p) (v:=vS x.2) (by kernel_rfl) (by kernel_rfl) (by decide) (λ_=>trivial) eO (qc.mono ?_)
       rintro _ _ ⟨rfl,rfl⟩
       refine⟨_,rfl,?_⟩
       refine dJ (by kernel_rfl) rfl (by kernel_rfl) l6 ?_
       refine fS (by kernel_rfl) rfl (by kernel_rfl) qb ?_
       refine gy (by kernel_rfl) rfl (by kernel_rfl) (by kernel_rfl) q2 ?_
       exact dy (by kernel_rfl) rfl (by kernel_rfl) (by kernel_rfl) q3 (wpListIn_nil gfin)
     · refine dJ (by kernel_rfl) rfl (by kernel_rfl) l1 ?_
       refine dX (by kernel_rfl) (.inl rfl) (u:=vS x.2) (by kernel_rfl) ?_
       refine js (by kernel_rfl) rfl (u:=.pointer p) (v:=vS x.2) (by kernel_rfl) (by kernel_rfl) (by decide) (λ_=>trivial) eO (qc.mono ?_)
       rintro _ _ ⟨rfl,rfl⟩
       refine⟨_,rfl,?_⟩
       refine fS (by kernel_rfl) rfl (by kernel_rfl) qb ?_
       refine dJ (by kernel_rfl) rfl (by kernel_rfl) l6' ?_
       refine gy (by kernel_rfl) rfl (by kernel_rfl) (by kernel_rfl) q2 ?_
       exact dy (by kernel_rfl) rfl (by kernel_rfl) (by kernel_rfl) q3 (wpListIn_nil gfin)
     · refine dX (by kernel_rfl) (.inl rfl) (u:=vS x.2) (by kernel_rfl) ?_
       refine dJ (by kernel_rfl) rfl (by kernel_rfl) l6 ?_
       refine dJ (by kernel_rfl) rfl (by kernel_rfl) l1 ?_
       refine js (by kernel_rfl) rfl (u:=.pointer p) (v:=vS x.2) (by kernel_rfl) (by kernel_rfl) (by decide) (λ_=>trivial) eO (qc.mono ?_)
       rintro _ _ ⟨rfl,rfl⟩
       refine⟨_,rfl,?_⟩
       refine fS (by kernel_rfl) rfl (by kernel_rfl) qb ?_
       refine gy (by kernel_rfl) rfl (by kernel_rfl) (by kernel_rfl) q2 ?_
       exact dy (by kernel_rfl) rfl (by kernel_rfl) (by kernel_rfl) q3 (wpListIn_nil gfin)
     · refine dX (by kernel_rfl) (.inl rfl) (u:=vS x.2) (by kernel_rfl) ?_
       refine dJ (by kernel_rfl) rfl (by kernel_rfl) l1 ?_
       refine dJ (by kernel_rfl) rfl (by kernel_rfl) l6 ?_
       refine js (by kernel_rfl) rfl (u:=.pointer p) (v:=vS x.2) (by kernel_rfl) (by kernel_rfl) (by decide) (λ_=>trivial) eO (qc.mono ?_)
       rintro _ _ ⟨rfl,rfl⟩
       refine⟨_,rfl,?_⟩
       refine fS (by kernel_rfl) rfl (by kernel_rfl) qb ?_
       refine gy (by kernel_rfl) rfl (by kernel_rfl) (by kernel_rfl) q2 ?_
       exact dy (by kernel_rfl) rfl (by kernel_rfl) (by kernel_rfl) q3 (wpListIn_nil gfin)
     · refine dX (by kernel_rfl) (.inl rfl) (u:=vS x.2) (by kernel_rfl) ?_
       refine dJ (by kernel_rfl) rfl (by kernel_rfl) l1 ?_
       refine js (by kernel_rfl) rfl (u:=.pointer p) (v:=vS x.2) (by kernel_rfl) (by kernel_rfl) (by decide) (λ_=>trivial) eO (qc.mono ?_)
       rintro _ _ ⟨rfl,rfl⟩
       refine⟨_,rfl,?_⟩
       refine dJ (by kernel_rfl) rfl (by kernel_rfl) l6 ?_
       refine fS (by kernel_rfl) rfl (by kernel_rfl) qb ?_
       refine gy (by kernel_rfl) rfl (by kernel_rfl) (by kernel_rfl) q2 ?_
       exact dy (by kernel_rfl) rfl (by kernel_rfl) (by kernel_rfl) q3 (wpListIn_nil gfin)
     · refine dX (by kernel_rfl) (.inl rfl) (u:=vS x.2) (by kernel_rfl) ?_
       refine dJ (by kernel_rfl) rfl (by kernel_rfl) l1 ?_
       refine js (by kernel_rfl) rfl (u:=.pointer p) (v:=vS x.2) (by kernel_rfl) (by kernel_rfl) (by decide) (λ_=>trivial) eO (qc.mono ?_)
       rintro _ _ ⟨rfl,rfl⟩
       refine⟨_,rfl,?_⟩
       refine fS (by kernel_rfl) rfl (by kernel_rfl) qb ?_
       refine dJ (by kernel_rfl) rfl (by kernel_rfl) l6' ?_
       refine gy (by kernel_rfl) rfl (by kernel_rfl) (by kernel_rfl) q2 ?_
       exact dy (by kernel_rfl) rfl (by kernel_rfl) (by kernel_rfl) q3 (wpListIn_nil gfin)
   case done=>
     rintro D xs V hD hxs ⟨⟨a3,n3,c3,D1,D2,D3,D4⟩,_⟩ hK
     have l6:(Instr.loadAt ar (.pointer (some ⟨k6,0,none⟩))).run prog V=.ok (.slice a3 n3 c3) V:=D1.load1 aI rfl rfl
     refine xZ ?_
     apply wpIn_region_lit
     refine dJ (by kernel_rfl) rfl (by kernel_rfl) l6 ?_
     refine dX (by kernel_rfl) (.inr rfl) (u:=.slice a3 n3 c3) (by kernel_rfl) ?_
     refine xK ?_
     refine wpIn_ret ?_
     simp only[Act.put,List.setIfInBounds_toArray,List.set_cons_succ,List.set_cons_zero]
     have gD:=grownBy_putObj' V D (.deferred none)
     have nD:E2 V (some D):=λr e=>by cases e;exact⟨_,hK,rfl⟩
     have hwk:w.heap.size <=k6:=by rw[hk6];exact BW.size
     have BV:bW w V:=B7.trans (D4.mono hwk)
     have ew:xs.map (λx=>ofT ts x.2)=hwV ts h:=by
       rw[<- hTw,<- show xs.map Prod.snd=T.reverse from hxs,List.map_map];rfl
     rw[ew]at D2
     refine⟨by simp,.inl ⟨_,_,rfl,run_takeDeferred hK,?_⟩⟩
     exact⟨_,Go.results_tmp rfl _ _ _,a3,n3,c3,rfl,D2.turned gD nD,(λg hg=>Nat.le_trans B7.size (D3 g hg)),Ai BV BV.size gD (λr e=>by cases e;have:=B7.size;omega)⟩
   case stop=>
     rintro D c pre W _ _ h _
     exact h.elim
def Ns (ts:List Txt)(h:Hst)(w:World)(v:Value)(w':World):Prop:=∃(a:Option Addr) (n c:Nat),v=.slice a n c/\Ow cI aw w' NoB a n c (hwV ts h)/\bI w.heap.size a/\bW w w'
theorem oW {h:Hst}(o:h.ok)(hn:h.name.length <=1000000){w:World}(he:Env w){p:Option Addr}{ts:List Txt}(hA:gB w p ts):Cf eG #[.pointer p,h.v] w (Ret (Ns ts h w)):=
 (callsIn_wide.1 (CC o hn he hA)).mono λe w' ⟨a,n,c,he,h1,h2,h3⟩=>⟨_,he,a,n,c,rfl,h1,h2,h3⟩
end
noncomputable def tx (ts:List Txt)(x:Nat):Txt:=tr ts (x:Int)
theorem MO {ts:List Txt}{x:Nat}(h:x<ts.length):tx ts x=ts[x]:=by
 unfold tx tr
 rw[if_neg (by omega),if_pos (by omega)]
 simp[h]
theorem Do (ts:List Txt):tx ts ts.length=vP ts:=by
 unfold tx tr
 rw[if_pos rfl]
def cH (ts:List Txt)(h:Hst):List Nat:=(fi h).map λs=>(ofT ts s).toNat
theorem AN (ts:List Txt)(h:Hst):hwV ts h=(cH ts h).map fun(x:Nat)=>(x:Int):=by
 unfold hwV cH
 rw[List.map_map]
 refine List.map_congr_left λs _=>?_
 have:=(Ot ts s).1
 show _=(((ofT ts s).toNat:Nat):Int)
 omega
theorem lD (ts:List Txt)(h:Hst):∀x∈cH ts h,x<ts.length+1:=by
 intro x hx
 obtain⟨s,_,rfl⟩:=List.mem_map.1 hx
 have:=Ot ts s
 omega
theorem G3 {ts:List Txt}(hp:ts.Pairwise (· < ·))(h:Hst):Gv ts h ↔ cH ts h≠[]/\ts.length ∉ cH ts h:=by
 unfold Gv cH
 refine and_congr (not_congr List.map_eq_nil_iff.symm) ?_
 constructor
 · intro H hm
   obtain⟨s,hs,e⟩:=List.mem_map.1 hm
   obtain⟨i,hi,_,e2⟩:=CL hp (H s hs)
   omega
 · intro H s hs
   by_cases hm:s∈ts
   · exact hm
   · exact absurd (List.mem_map.2 ⟨s,hs,by rw[CM hm];simp⟩) H
noncomputable def hAd (ts:List Txt)(x:Nat):Bool:=mE (tx ts x)
noncomputable def hLb (ts:List Txt)(x:Nat):Bool:=bs (tx ts x)
noncomputable def hDg (ts:List Txt)(x:Nat):Bool:=cC (tx ts x)
theorem PG (ts:List Txt)(v:List Nat):hsW (hAd ts) (hLb ts) (hDg ts) v ↔ ng (v.map (tx ts)):=by
 cases v with
 | nil=>rfl
 | cons x r=>
   unfold hsW ng
   simp only[List.map_cons,List.map_eq_nil_iff]
   refine or_congr Iff.rfl ?_
   unfold hAd hLb hDg
   constructor
   · rintro⟨_,h1,h2,h3⟩
     refine⟨h1,h2,λy hy=>?_⟩
     obtain⟨z,hz,rfl⟩:=List.mem_map.1 hy
     exact(h3 z hz).2
   · rintro⟨h1,h2,h3⟩
     have no:∀{s:Txt},bs s=true->mE s=false:=fun{s} h=>by
       cases ha:mE s with
       | false=>rfl
       | true=>rw[zi ha]at h;cases h
     exact⟨no h1,h1,h2,λy hy=>⟨no (h3 _ (List.mem_map.2 ⟨y,hy,rfl⟩)),h3 _ (List.mem_map.2 ⟨y,hy,rfl⟩)⟩⟩
def jE:List Txt->Nat
 | []=>0
 | x::r=>x.length+1+jE r
theorem GN:∀a b:List Txt,jE (a++b)=jE a+jE b
 | [],b=>by simp[jE]
 | x::a,b=>by simp only[List.cons_append,jE];rw[GN a b];omega
theorem GP:∀a:List Txt,jE a.reverse=jE a
 | []=>rfl
 | x::a=>by rw[List.reverse_cons,GN,GP a];simp only[jE];omega
theorem zl:∀(r:List Txt) (x:Txt),(Lib.join (x::r) [46]).length+1=jE (x::r)
 | [],x=>by rw[Lib.join_one];simp[jE]
 | y::r,x=>by
   have:=zl r y
   rw[Bt,List.length_append,List.length_cons]
   show x.length+((Lib.join (y::r) [46]).length+1)+1=x.length+1+jE (y::r)
   omega
theorem BU {t:List Txt}(h:t≠[]):(Lib.join t.reverse [46]).length+1=jE t:=by
 rw[<- GP t]
 cases hr:t.reverse with
 | nil=>exact absurd (List.reverse_eq_nil_iff.1 hr) h
 | cons x r=>exact zl r x
noncomputable def ku (ts:List Txt):List Int:=(List.range (ts.length+1)).map λx=>(((tx ts x).length:Nat):Int)+1
theorem ra (ts:List Txt):(ku ts).length=ts.length+1:=by simp[ku]
theorem Cy {ts:List Txt}{x:Nat}(h:x<ts.length+1):cAt (ku ts) x=(((tx ts x).length:Nat):Int)+1:=by
 unfold cAt ku
 rw[List.getD_eq_getElem?_getD,List.getElem?_map,List.getElem?_range h];rfl
theorem oS {ts:List Txt} :∀{v:List Nat},(∀x∈v,x<ts.length+1)->fL (ku ts) v=(jE (v.map (tx ts)):Int)
 | [],_=>rfl
 | x::v,h=>by
   have e:=oS (v:=v) λy hy=>h y (List.mem_cons_of_mem _ hy)
   simp only[fL,List.map_cons,jE]
   rw[Cy (h x List.mem_cons_self),e]
   omega
theorem N9 {ts:List Txt}{h d:Hst} :cH ts h=cH ts d ↔ hwV ts h=hwV ts d:=by
 rw[AN,AN]
 constructor
 · intro e;rw[e]
 · intro e
   have:=congrArg (List.map Int.toNat) e
   rw[List.map_map,List.map_map]at this
   have id':∀l:List Nat,l.map (Int.toNat ∘ fun(x:Nat)=>(x:Int))=l:=λl=>by
     conv=>rhs;rw[<- List.map_id l]
     exact List.map_congr_left λx _=>Int.toNat_natCast x
   rwa [id',id']at this
theorem uh:∀{u v:List Nat},(u.map fun(x:Nat)=>(x:Int)) <+:(v.map fun(x:Nat)=>(x:Int)) ↔ u <+:v
 | [],v=>by simp
 | x::u,[]=>by simp
 | x::u,y::v=>by
   simp only[List.map_cons,List.cons_prefix_cons]
   rw[uh]
   constructor
   · rintro⟨h1,h2⟩;exact⟨by omega,h2⟩
   · rintro⟨h1,h2⟩;exact⟨by rw[h1],h2⟩
theorem Mg {ts:List Txt}(hp:ts.Pairwise (· < ·)){h d:Hst}(oh:h.ok)(od:d.ok)(rh:br h=true)(kd:Gv ts d):Ek 0 (cH ts d) (cH ts h) ↔ h=d:=by
 unfold Ek
 rw[if_pos rfl,N9]
 exact PH hp oh od rh kd
theorem HF {ts:List Txt}(hp:ts.Pairwise (· < ·)){h d:Hst}(oh:h.ok)(od:d.ok)(rh:br h=true)(kd:Gv ts d)(dk:d.kind=1):Ek 2 (cH ts d) (cH ts h) ↔ lL h d=true:=by
 unfold Ek
 rw[if_neg (by omega),if_neg (by omega),<- LQ hp oh od rh kd dk,AN,AN,uh,List.length_map,List.length_map]
theorem J9 {ts:List Txt}(hp:ts.Pairwise (· < ·)){h d:Hst}(oh:h.ok)(od:d.ok)(rh:br h=true)(kd:Gv ts d)(dk:d.kind=1):Ek 1 (cH ts d) (cH ts h) ↔ GT h d=true:=by
 have h1:=Mg hp oh od rh kd
 have h2:=HF hp oh od rh kd dk
 have rd:=(vn od).1 kd.1
 unfold GT
 rw[rh,rd]
 simp only[Bool.true_and,Bool.or_eq_true]
 rw[dP oh od,<- h1,<- h2]
 unfold Ek
 simp only[if_true,show(1:Nat)≠0 by omega,show(2:Nat)≠0 by omega,show(2:Nat)≠1 by omega,if_false]
 constructor
 · intro hpre
   rcases Nat.lt_or_ge (cH ts d).length (cH ts h).length with hl|hl
   · exact .inr ⟨hpre,hl⟩
   · exact .inl (hpre.eq_of_length (by have:=hpre.length_le;omega)).symm
 · rintro(e|⟨e,_⟩)
   · rw[e];exact List.prefix_refl _
   · exact e
theorem Ij {h d:Hst}(oh:h.ok)(od:d.ok)(rh:br h=true)(rd:br d=true)(dk:d.kind≠1):GT h d=true ↔ h=d:=by
 unfold GT
 rw[rh,rd,EU dk]
 simp only[Bool.true_and,Bool.or_false]
 exact dP oh od
theorem Kr:∀i,i<38->im (letter i)=true:=by decide
theorem NE (n:Nat):∀c∈KL n,im c=true:=by
 induction n using Nat.strongRecOn with
 | ind n ih=>
   intro c hc
   by_cases h:n=0
   · subst h;rw[tE]at hc;cases hc
   · rw[uZ h]at hc
     rcases List.mem_cons.1 hc with rfl|hc
     · exact Kr _ (Nat.mod_lt _ (by omega))
     · exact ih ((n-1)/38) (by omega) c hc
theorem Iw {n:Nat}(h:1 <=n):1 <=(kQ n).length/\∀c∈kQ n,im c=true:=by
 refine⟨?_,λc hc=>NE n c (by unfold kQ at hc;exact List.mem_reverse.1 hc)⟩
 unfold kQ
 rw[uZ (by omega),List.length_reverse,List.length_cons]
 omega
theorem Pw (n:Nat):(KL n).length <=n:=by
 induction n using Nat.strongRecOn with
 | ind n ih=>
   by_cases h:n=0
   · subst h;rw[tE];exact Nat.le_refl _
   · rw[uZ h,List.length_cons]
     have:=ih ((n-1)/38) (by omega)
     omega
theorem rY {ts:List Txt}(hl:ts.length <=60):bs (vP ts)=true:=by
 have h1:=(qZ ts).1
 have h2:=Eo ts
 obtain⟨h3,h4⟩:=Iw h1
 have h5:(kQ (zn ts)).length <=zn ts:=by unfold kQ;rw[List.length_reverse];exact Pw _
 unfold bs vP
 rw[Bool.and_eq_true,Bool.and_eq_true,dTx,dTx]
 exact⟨⟨h3,by omega⟩,List.all_eq_true.2 h4⟩
theorem GR {h:Hst}(o:h.ok)(hk:h.kind=1)(hr:br h=true):jE (fi h)=h.name.length+1:=by
 obtain⟨el,hne⟩:=io o hk hr
 have e:fi h=(aH h).reverse:=by unfold fi;rw[if_pos hr,if_pos hk]
 rw[e]
 have h1:=BU (t:=(aH h).reverse) (by simpa using hne)
 rw[List.reverse_reverse,el]at h1
 have hj:=jm 46 h.name []
 rw[List.nil_append]at hj
 rw[hj]at h1
 rw[el];omega
theorem GQ {h:Hst}(o:h.ok)(hk:h.kind≠1)(hr:br h=true):jE (fi h)=(dj h).length+1:=by
 have e:fi h=[dj h]:=by unfold fi;rw[if_pos hr,if_neg hk]
 rw[e];simp[jE]
theorem BX {h:Hst}(o:h.ok)(hr:br h=true):jE (fi h) <=254:=by
 by_cases hk:h.kind=1
 · rw[GR o hk hr]
   have:=(jq o hk hr).2.2.2.1
   omega
 · rw[GQ o hk hr]
   have:=yd o
   have hv:=ma o hr
   have hn:h.name=[]:=by
     unfold cQ at hv
     split at hv
     · split at hv
       · rw[Option.map_eq_some_iff]at hv
         obtain⟨a,_,e⟩:=hv
         rw[<- e]
       · cases hv
     split at hv
     · rw[Option.map_eq_some_iff]at hv
       obtain⟨a,_,e⟩:=hv
       rw[<- e]
     split at hv
     · exact absurd (by rw[<- Option.some.inj hv]) hk
     · cases hv
   rw[hn]at this
   simp only[List.length_nil]at this
   omega
theorem En {ts:List Txt}{v:List Nat}(hv:∀x∈v,x<ts.length+1)(h:ng (v.map (tx ts)))(hc:fL (ku ts) v <=254):
   ∃g,eM (v.map (tx ts))=some g/\g.ok/\br g=true/\fi g=v.map (tx ts):=by
 refine LM h (.inr ?_)
 rw[oS hv]at hc
 have hne:v.map (tx ts)≠[]:=λe=>by rw[e]at h;exact h
 have:=BU hne
 omega
def oB (ts:List Txt)(L:List Nat->Prop)(r:Option Hst):Prop:=
 match r with
 | some h=>∃v,vK (ku ts) (λv=>L v/\ng (v.map (tx ts))) v/\fL (ku ts) v <=254/\eM (v.map (tx ts))=some h
 | none=>∀v,L v->ng (v.map (tx ts))->254<fL (ku ts) v
theorem oB.congr {ts:List Txt}{L L':List Nat->Prop}{r:Option Hst}(h:oB ts L r)(e:∀v,L v ↔ L' v):oB ts L' r:=by
 cases r with
 | some g=>
   obtain⟨v,h1,h2,h3⟩:=h
   exact⟨v,h1.congr λu=>by rw[e u],h2,h3⟩
 | none=>exact λv hv=>h v ((e v).2 hv)
theorem Ir {ts:List Txt}(hl:ts.length <=60)(hx:∀t∈ts,t.length <=1000):wM (ku ts):=by
 intro c hc
 obtain⟨x,hx',rfl⟩:=List.mem_map.1 hc
 rw[List.mem_range]at hx'
 rcases Nat.lt_or_ge x ts.length with h|h
 · rw[MO h]
   have:=hx _ (List.getElem_mem h)
   omega
 · have:x=ts.length:=by omega
   subst this
   rw[Do]
   have:=(iT (rY hl)).2.1
   omega
theorem count_le:∀{t:List Txt},(∀x∈t,1 <=x.length)->2*t.length <=jE t
 | [],_=>Nat.le_refl _
 | x::t,h=>by
   have h1:=h x List.mem_cons_self
   have h2:=count_le λy hy=>h y (List.mem_cons_of_mem _ hy)
   simp only[List.length_cons,jE];omega
theorem EX {h:Hst}(o:h.ok)(hr:br h=true):(fi h).length <=127:=by
 by_cases hk:h.kind=1
 · have h1:=count_le (t:=fi h) λx hx=>by
     have e:fi h=(aH h).reverse:=by unfold fi;rw[if_pos hr,if_pos hk]
     rw[e]at hx
     exact(iT (rb o x (by simpa using hx))).1
   have:=BX o hr
   omega
 · have e:fi h=[dj h]:=by unfold fi;rw[if_pos hr,if_neg hk]
   rw[e];simp
theorem GM {w:World}{A:Bl}{a:Option Addr}{n c:Nat}{xs:List Int}(hs:Sl cI w A a n c xs)(y:Int):Cf fR #[.slice a n c,vI y] w (Ret λv w'=>v=.bool (decide (y∈xs))/\w'=w):=by
 have hn:=hs.len
 subst hn
 have hle:=hs.le
 apply pH
 refine ax (K:=λv w'=>∃i:Int,v=vI i/\(decide (i >=0))=(decide (y∈xs))/\w'=w) ?_ ?_
 · apply rr
   refine⟨λm i w'=>∃j:Nat,j <=xs.length/\i=(j:Int)/\m=xs.length-j/\y ∉ xs.take j/\w'=w,⟨_,0,by omega,rfl,rfl,by simp,rfl⟩,?_⟩
   intro m i
   refine aC.of ?_ _
   rintro w' ⟨j,hj,rfl,rfl,hno,hw'⟩
   rw[hw'];clear hw'
   refine ae.of (λh=>?_) (λh=>?_) <;> simp only[dTx,dFx]at h
   · have hlt:j<xs.length:=by omega
     refine⟨⟨⟨by omega,h⟩,hs.isSome hlt⟩,_,hs.num aB hlt,?_⟩
     refine ae.of (λh3=>?_) (λh3=>?_)
     · have:y=xs[j]:=by simpa using h3
       refine⟨_,rfl,?_,rfl⟩
       rw[decide_eq_true (by omega),decide_eq_true (by rw[this];exact List.getElem_mem hlt)]
     · have hne:y≠xs[j]:=by simpa using h3
       refine⟨xs.length-(j+1),by omega,j+1,by omega,by rw[wrap_i64 (by omega) (by omega)];omega,rfl,?_,rfl⟩
       rw[List.take_succ_eq_append_getElem hlt,List.mem_append]
       rintro(h1|h1)
       · exact hno h1
       · exact hne (by simpa using h1)
   · have:j=xs.length:=by omega
     subst this
     rw[List.take_length]at hno
     exact⟨_,rfl,by rw[decide_eq_false hno];decide,rfl⟩
 · rintro _ w3 ⟨i,rfl,hi,hw3⟩
   exact⟨_,rfl,by rw[hi],hw3⟩
theorem Ko {w:World}{A:Bl}{a:Option Addr}{n c:Nat}{L:Nat}(hs:Sl lH w A a n c (List.replicate L false++[true])):Cf cd #[.slice a n c,.bool true] w (Ret λv w'=>v=vI ((L:Nat):Int)/\w'=w):=by
 have hn:=hs.len
 subst hn
 have hle:=hs.le
 have hlen:(List.replicate L false++[true]).length=L+1:=by simp
 apply jt
 refine⟨λm i w'=>∃j:Nat,j <=L/\i=(j:Int)/\m=L-j/\w'=w,⟨_,0,by omega,rfl,rfl,rfl⟩,?_⟩
 intro m i
 refine aC.of ?_ _
 rintro w' ⟨j,hj,rfl,rfl,hw'⟩
 rw[hw'];clear hw'
 have hlt:j<(List.replicate L false++[true]).length:=by omega
 obtain⟨v,hv,hrep⟩:=hs.load1 (P:=prog) (i:=(j:Int)) bv rfl rfl (by simpa using hlt)
 have hb:=xP hrep
 subst hb
 simp only[Int.toNat_natCast]at hv
 refine ae.yes (decide_eq_true (by omega)) ⟨⟨⟨by omega,by omega⟩,hs.isSome hlt⟩,_,hv,?_⟩
 rcases Nat.lt_or_ge j L with h|h
 · have e:(List.replicate L false++[true])[j]=false:=by rw[List.getElem_append_left (by simpa using h)];simp
   rw[e]
   exact ae.no rfl ⟨L-(j+1),by omega,j+1,by omega,by rw[wrap_i64 (by omega) (by omega)];omega,rfl,rfl⟩
 · have:j=L:=by omega
   subst this
   have e:(List.replicate j false++[true])[j]=true:=by rw[List.getElem_append_right (by simp)];simp
   rw[e]
   exact ae.yes rfl ⟨rfl,rfl⟩
def kB (ts:List Txt)(h:Hst):Bool:= !decide (hwV ts h=[]) && !decide (((ts.length:Nat):Int)∈hwV ts h)
theorem Ew {ts:List Txt}(hp:ts.Pairwise (· < ·))(h:Hst):kB ts h=true ↔ Gv ts h:=by
 rw[G3 hp]
 unfold kB
 rw[Bool.and_eq_true,AN]
 simp only[Bool.not_eq_true',dFx,List.map_eq_nil_iff,List.mem_map,not_exists,not_and]
 refine and_congr Iff.rfl ⟨λh hm=>h _ hm rfl,λh x hx e=>h ?_⟩
 have:x=ts.length:=by omega
 rwa [<- this]
theorem CG {ts:List Txt}{h:Hst}(o:h.ok)(hk:kB ts h=true):br h=true:=by
 refine(vn o).1 λe=>?_
 unfold kB at hk
 rw[Bool.and_eq_true]at hk
 have:=hk.1
 unfold hwV at this
 rw[e]at this
 simp at this
def Rn (ts:List Txt)(h:Hst)(w:World)(v:Value)(w':World):Prop:=bW w w'/\
 if kB ts h=true then ∃(a:Option Addr) (n c:Nat),v=.tuple #[.slice a n c,vI 0]/\Ow cI aw w' NoB a n c (hwV ts h)/\bI w.heap.size a else v=.tuple #[.slice none 0 0,vI 181]
theorem sG {h:Hst}(o:h.ok)(hn:h.name.length <=1000000){w:World}(he:Env w){p:Option Addr}{ts:List Txt}(hA:gB w p ts)(htl:ts.length <=100000):Cf kK #[.pointer p,h.v] w (Ret (Rn ts h w)):=by
 apply zQ
 intro k3 w3 hk3 hw3
 have hb3:=(hw3▸ah w _:bW w w3)
 have A3:am w3 k3 ai h.cells:=am.new hk3 hw3
 refine⟨_,aJ.load0 A3 (Hst.len o),?_⟩
 refine ax (oW o hn (he.step hb3) (hA.below hb3)) ?_
 rintro _ w9 ⟨a,n,c,rfl,ho,hf,hb9⟩
 have hB:=ab hb3 hb9 hb3.size
 refine⟨_,_,_,rfl,ae.of (λh1=>⟨hB,?_⟩) (λh1=>?_)⟩
 · have h1:((n:Nat):Int)=0:=by simpa using h1
   have e:hwV ts h=[]:=List.length_eq_zero_iff.1 (by have:=ho.len;omega)
   rw[if_neg (by unfold kB;rw[e];simp)]
 · have h1:((n:Nat):Int)≠0:=by simpa using h1
   have e:hwV ts h≠[]:=λe=>h1 (by rw[ho.len,e];rfl)
   refine ax (cY p ts (by omega) w9 (hA.below hB)) ?_
   rintro _ w16 ⟨rfl,rfl⟩
   refine⟨_,rfl,?_⟩
   try dsimp only
   rw[show i64.wrap ((ts.length:Int)+1-1)=((ts.length:Nat):Int) from by rw[wrap_i64 (by omega) (by omega)];omega]
   refine ax (GM ho.all _) ?_
   rintro _ w18 ⟨rfl,rfl⟩
   refine⟨_,rfl,ae.of (λh2=>⟨hB,?_⟩) (λh2=>⟨hB,?_⟩)⟩
   · rw[if_neg (by unfold kB;rw[h2];simp)]
   · rw[if_pos (by unfold kB;rw[h2];simp[e])]
     exact⟨a,n,c,rfl,ho,hf.mono hb3.size⟩
def eV (ok:Bool)(d:DA)(w:World)(v:Value)(w':World):Prop:=if ok=true then vo w d v w' else v=.tuple #[daV none 0 0 none 0 0 ⟨0,0,[],[]⟩,vI 181]/\bW w w'
theorem eV.no {d:DA}{w w':World}(h:bW w w'):eV false d w (.tuple #[daV none 0 0 none 0 0 ⟨0,0,[],[]⟩,vI 181]) w':=⟨rfl,h⟩
theorem eV.yes {d:DA}{w w':World}{v:Value}(h:vo w d v w'):eV true d w v w':=h
theorem rI (ts:List Txt){h:Hst}(o:h.ok)(hk:kB ts h=true):(cH ts h).length <=127:=by
 unfold cH
 rw[List.length_map]
 exact EX o (CG o hk)
theorem vT {h:Hst}(o:h.ok)(hn:h.name.length <=1000000){w:World}(he:Env w){p:Option Addr}{ts:List Txt}(hA:gB w p ts)(htl:ts.length <=511):
   Cf dF #[.pointer p,h.v] w (Ret (eV (kB ts h) (chD (ts.length+1) (cH ts h) 0) w)):=by
 apply CZ
 intro k3 w3 hk3 hw3 k4 w4 hk4 hw4
 have hb3:=(hw3▸ah w _:bW w w3)
 have hb4:=(hw4▸ah w3 _:bW w3 w4)
 have A3:am w3 k3 ai h.cells:=am.new hk3 hw3
 have A4:am w4 k4 af [vI 0,vI 0,.slice none 0 0,.slice none 0 0]:=am.new hk4 hw4
 have hB4:=ab hb3 hb4 hb3.size
 refine⟨_,aJ.load0 (A3.below hb4) (Hst.len o),?_⟩
 refine ax (sG o hn (he.step hB4) (hA.below hB4) (by omega)) ?_
 rintro v w11 ⟨hb11,hv⟩
 have hB:=ab hB4 hb11 hB4.size
 have hlt:=A4.lt
 have ho4:w.heap.size <=k4:=by have:=hb3.size;omega
 cases hk:kB ts h with
 | false=>
   rw[if_neg (by rw[hk];simp)]at hv
   subst hv
   obtain⟨wx,s1,s2,g1⟩:=cX (A4.below hb11) rfl none 0 0 none 0 0 ⟨0,0,[],[]⟩
   exact⟨none,0,0,181,rfl,ae.yes rfl ⟨wx,s1,_,_,none,0,0,none,0,0,s2,eV.no (Below.put hB g1 ho4)⟩⟩
 | true=>
   rw[if_pos hk]at hv
   obtain⟨a,n,c,rfl,ho,hf⟩:=hv
   refine⟨a,n,c,0,rfl,ae.no rfl ?_⟩
   refine ax (cY p ts (by omega) w11 (hA.below hB)) ?_
   rintro _ w19 ⟨rfl,rfl⟩
   refine⟨_,rfl,?_⟩
   have hs:Sl cI w19 kj a n c ((cH ts h).map fun(x:Nat)=>(x:Int)):=by rw[<- AN];exact ho.all
   have e1:((ts.length:Int)+1)=((ts.length+1:Nat):Int):=by omega
   rw[e1]
   refine ax (Cg hs (k:=ts.length+1) (by omega) (by omega) (lD ts h) (by have:=rI ts o hk;omega)) ?_
   rintro _ w21 ⟨a1,n1,c1,b1,m1,e1',rfl,O,hb21⟩
   obtain⟨wx,s1,s2,g1⟩:=cX ((A4.below hb11).below hb21) rfl a1 n1 c1 b1 m1 e1' (chD (ts.length+1) (cH ts h) 0)
   have hB21:=ab hB hb21 hB.size
   have hs19:=hb11.size
   exact⟨_,_,a1,n1,c1,b1,m1,e1',_,rfl,wx,s1,_,_,a1,n1,c1,b1,m1,e1',s2,eV.yes ⟨a1,n1,c1,b1,m1,e1',rfl,(O.put g1 (by omega)).mono hB.size,Below.put hB21 g1 ho4⟩⟩
theorem zP (a:Option Addr)(b:Value)(c:Bool){w K}(h:nA w (.cells (Value.cells b) ai) λd e=>nA e (.cells #[vI 0,vI 0,.slice none 0 0,.slice none 0 0] af) λf g=>∃i,Ld ai (vA d 0) g i/\Cf kK #[.pointer a,i] g λj k=>∃l m n o,j=rT #[.slice l m n,vI o]/\ae (o !=(0:Int)) (∃p,Sv af (vA f 0) (.agg #[vI 0,vI 0,.slice none 0 0,.slice none 0 0]) k p/\∃q r s t u v x y,Rv af (vA f 0) p (.agg #[vI q,vI r,.slice s t u,.slice v x y])/\K (.tuple #[.agg #[vI q,vI r,.slice s t u,.slice v x y],vI o]) p) (∃p:FP [],(∃q:FP [.one .bool],(true/\∃r,Ld aw (vA d 0) k (vI r)/\ae (r !=(1:Int)) (q c k) (q false k))/\∀r,aC 5 (∀s,q r s->ae r (uI bi #[.pointer a] s λt u=>Cf vd #[vI t,.slice l m n] u λv x=>∃y z A B C D E F G,v=rT #[.agg #[vI y,vI z,.slice A B C,.slice D E F],vI G]/\∃H,Sv af (vA f 0) (.agg #[vI y,vI z,.slice A B C,.slice D E F]) x H/\∃I J L M N O P Q,Rv af (vA f 0) H (.agg #[vI I,vI J,.slice L M N,.slice O P Q])/\K (.tuple #[.agg #[vI I,vI J,.slice L M N,.slice O P Q],vI G]) H) (p s)))/\aC 13 (∀q,p q->true/\∃r,Ld aw (vA d 0) q (vI r)/\ae (r !=(1:Int)) (uI bi #[.pointer a] q λs t=>Cf qV #[vI s] t λu v=>∃x y z A B C D E F,u=rT #[.agg #[vI x,vI y,.slice z A B,.slice C D E],vI F]/\∃G,Sv af (vA f 0) (.agg #[vI x,vI y,.slice z A B,.slice C D E]) v G/\∃H I J L M N O P,Rv af (vA f 0) G (.agg #[vI H,vI I,.slice J L M,.slice N O P])/\K (.tuple #[.agg #[vI H,vI I,.slice J L M,.slice N O P],vI F]) G) (uI bi #[.pointer a] q λs t=>Cf pU #[vI s,.slice l m n] t λu v=>∃x y z A B C D E F,u=rT #[.agg #[vI x,vI y,.slice z A B,.slice C D E],vI F]/\nA v (.cells #[vI 0,vI 0,.slice none 0 0,.slice none 0 0] af) λG H=>∃I,Sv af (vA G 0) (.agg #[vI x,vI y,.slice z A B,.slice C D E]) H I/\∃J:FP [],(∃L:FP [.one .bool],(ae (F !=(0:Int)) (L true I) (L c I))/\∀M,aC 4 (∀N,L M N->ae M (∃O P Q R S T U V,Ld af (vA G 0) N (.agg #[vI O,vI P,.slice Q R S,.slice T U V])/\∃X,Sv af (vA f 0) (.agg #[vI O,vI P,.slice Q R S,.slice T U V]) N X/\∃Y Z aa ac ad ag al an,Rv af (vA f 0) X (.agg #[vI Y,vI Z,.slice aa ac ad,.slice ag al an])/\K (.tuple #[.agg #[vI Y,vI Z,.slice aa ac ad,.slice ag al an],vI F]) X) (J N)))/\aC 8 (∀L,J L->true/\∃M N O,Ld aO (vA G 3) L (.slice M N O)/\true/\∃P Q R,Ld aO (vA G 3) L (.slice P Q R)/\uI cd #[.slice P Q R,.bool true] L λS T=>∃U:FP [],(true/\∃V X Y,(∀Z,bW T Z->Ld ar (vA G 2) Z (.slice V X Y))/\∃Z,(∀aa,bW T aa->Cf bi #[.pointer a] aa λac ad=>ac=.returned (vI Z)/\bW aa ad)/\∀aa,T.heap.size <=aa->∃ac:FP [.one .slice],(∀ad ag al an ba,ac ad ag al an->bW an ba->ac ad ag al ba)/\(∀ad,bW T ad->ad.heap[aa]? =some (.cells #[vI ((N:Nat):Int)] aw)->uL bL #[.slice (vA aa 0) 1 1,vI Z] ad λag al an ba=>ac ag al an ba/\bW ad ba)/\∀ad ag al,∀an,bW T an->ac ad ag al an->an.heap[aa]? =some (.cells #[vI ((N:Nat):Int)] aw)->∃ba bb bc bd,(Builtin.append_ #[ar,ar] ar #[.slice V X Y,.slice ad ag al]).run prog an=.ok (.slice bb bc bd) ba/\true/\∃bj,Sv ar (vA G 2) (.slice bb bc bd) ba bj/\U bj)/\aC 9 (∀V,U V->uI bi #[.pointer a] V λX Y=>∃Z:Nat->FP [.one (.int .i64)],(∃aa,Z aa (0:Int) Y)/\∀aa ac,aC 14 (∀ad,Z aa ac ad->ae (decide (ac<X)) (true/\∃ag al an,(∀ba,bW ad ba->Ld ar (vA G 2) ba (.slice ag al an))/\∃ba,(∀bb,bW ad bb->Cf bi #[.pointer a] bb λbc bd=>bc=.returned (vI ba)/\bW bb bd)/\(bx (i64.wrap ((i64.wrap (S*ba))+ac)) ((al:Nat):Int)/\Option.isSome ag=true)/\∀bb,bW ad bb->∃bc,Sv aw (ao ag (i64.wrap ((i64.wrap (S*ba))+ac)) 1) (vI ((N:Nat):Int)) bb bc/\∃bd:Nat,bd<aa/\Z bd (i64.wrap (ac+(1:Int))) bc) (true/\∃ag al an,Ld aO (vA G 3) ad (.slice ag al an)/\(bx S ((al:Nat):Int)/\Option.isSome ag=true)/\∃ba,Sv aX (ao ag S 1) (.bool false) ad ba/\true/\∃bb bc bd,Ld aO (vA G 3) ba (.slice bb bc bd)/\nA ba (.cells #[.bool true] aX) λbj bk=>∃bl bn bo bq,(Builtin.append_ #[aO,aO] aO #[.slice bb bc bd,.slice (vA bj 0) 1 1]).run prog bk=.ok (.slice bn bo bq) bl/\true/\∃bw,Sv aO (vA G 3) (.slice bn bo bq) bl bw/\∃bz ca cc ch cl cm cn cp,Ld af (vA G 0) bw (.agg #[vI bz,vI ca,.slice cc ch cl,.slice cm cn cp])/\∃cs,Sv af (vA f 0) (.agg #[vI bz,vI ca,.slice cc ch cl,.slice cm cn cp]) bw cs/\∃cx da db dc dd dg dk dl,Rv af (vA f 0) cs (.agg #[vI cx,vI da,.slice db dc dd,.slice dg dk dl])/\K (.tuple #[.agg #[vI cx,vI da,.slice db dc dd,.slice dg dk dl],vI 0]) cs)))))))):Cf kJ #[.pointer a,b,.bool c] w (Ret K):=ru func51 [(12,[]),(13,[(29,.one .bool)]),(30,[]),(31,[(55,.one .bool)]),(42,[]),(3000043,[(0,.one .bool),(2,.one .bool),(4,.one .bool),(1,.one .bool),(5,.one .bool),(3,.one .bool),(6,.one .slice)]),(48,[(75,.one (.int .i64))]),(3000059,[(0,.one .bool),(2,.one .bool),(3,.one .bool),(6,.one .bool),(8,.one .bool),(1,.one .bool),(4,.one .bool),(5,.one .bool),(7,.one .bool),(9,.one .bool)])] h
end Go.Pk
