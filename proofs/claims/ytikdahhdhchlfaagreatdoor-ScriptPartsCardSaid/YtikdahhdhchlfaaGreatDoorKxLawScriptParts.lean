/- What the law alone leans on: R, Open, Names, OpR, ScrR, OpX, V27, ScrJ, ScrK, OpenA, OpenC; what is used. Its conditions: none. -/
import Derived.Test.YtikdahhdhchlfaaGreatDoorKK
import Derived.ChangeArms
import Derived.ChangeSame
import Derived.Deep.Slices
open Go.IntKind (i64)
open Go.Proofs.Tryz
set_option linter.unusedVariables false
set_option linter.unusedSimpArgs false
open List (length)
open Option (isSome)
namespace Go.Pk
open Go.RowKit (Below)
open Go.Proofs
def QF:Ty Bool:=Ty.enc (λb=>.bool b) (λ_=>rfl) λ_=>True
theorem Gw {α:Type}{e:α->Value}{h1:∀x,(e x).oneCell'=true}{p:α->Prop}{w:World}{A:Bl}{l:List Value}{xs:List α}(h:fP (Ty.enc e h1 p) w A l xs):∀x∈xs,p x:=λx hx=>by
 obtain⟨i,hi,rfl⟩:=List.getElem_of_mem hx
 exact(h.rep i hi).2
def KZ {α:Type}(P:Program)(T:Ty α)(t:TypeId):Prop:=
 ∀(H:Type) (enc:TypeId×Value->H) (w:World) (fuel:Nat) (cs:List Value) (x:DataW H×List MemPlace),DataW.trod enc P w 0 (λ_=>true) true fuel t cs=some x->∃a,T.rep w tV cs a
theorem j0 {P:Program}{k:IntKind}{t:TypeId}(ht:P.underlying t=some (.int k)):KZ P (QV k λn=>(Lit.int k n).wf=true) t:=λH enc w fuel cs x h=>by
 obtain⟨n,e,_,hw⟩:=DataW.trod_int ht h
 exact⟨n,e,hw⟩
theorem Aa {P:Program}{t:TypeId}(ht:P.underlying t=some .bool):KZ P QF t:=λH enc w fuel cs x h=>by
 obtain⟨b,e,_⟩:=DataW.trod_bool ht h
 exact⟨b,e,trivial⟩
theorem nX {P:Program}{t:TypeId}(ht:P.underlying t=some .string):KZ P (PM λs=>s.length <=maxLen) t:=λH enc w fuel cs x h=>by
 obtain⟨s,e,_,hs⟩:=DataW.trod_string ht h
 exact⟨toL s,e,hs⟩
theorem JW {α:Type}{P:Program}{T:Ty α}{t e:TypeId}{n:Nat}(ht:P.underlying t=some (.array n e))(he:KZ P T e)(hk:P.cellsOf e=T.k)(hc:P.cellsOf t=n*T.k)
   {H:Type} {enc:TypeId×Value->H} {w:World} {fuel:Nat} {cs:List Value} {x:DataW H×List MemPlace} (h:DataW.trod enc P w 0 (λ_=>true) true fuel t cs=some x):∃xs:List α,xs.length=n/\fP T w tV cs xs:=by
 obtain⟨ys,m,_,_,hl,hy,hel⟩:=DataW.trod_array ht h
 have hall:∀i,i<n->∃a,T.rep w tV ((cs.drop (i*T.k)).take T.k) a:=λi hi=>by
   have:=hel i hi
   rw[hk,List.getElem?_eq_getElem (by omega)]at this
   exact he H enc w m _ _ this
 have build:∀j,j <=n->∃xs:List α,xs.length=j/\∀i (h:i<xs.length),T.rep w tV ((cs.drop (i*T.k)).take T.k) xs[i]:=by
   intro j
   induction j with
   | zero=>intro _;exact⟨[],rfl,λi h=>by cases h⟩
   | succ j ih=>
     intro hj
     obtain⟨xs,h1,h2⟩:=ih (by omega)
     obtain⟨a,ha⟩:=hall j hj
     refine⟨xs++[a],by simp[h1],λi hi=>?_⟩
     by_cases c:i<xs.length
     · rw[List.getElem_append_left c];exact h2 i c
     · have:i=xs.length:=by simp at hi;omega
       subst this
       rw[List.getElem_append_right (Nat.le_refl _)]
       simp only[Nat.sub_self,List.getElem_cons_zero]
       rw[h1];exact ha
 obtain⟨xs,h1,h2⟩:=build n (Nat.le_refl _)
 exact⟨xs,h1,by rw[hl,hc,h1],h2⟩
abbrev jM:Nat:=5
abbrev jt:Nat:=12
abbrev rv:Nat:=31
theorem zK:prog.underlying rv=some (.slice aG):=by kernel_rfl
set_option linter.unusedSectionVars false
set_option maxRecDepth 20000
theorem J2 {o:OpR}(k:OpW o){j:Nat}(h:j<21):o.cells[1+j]? =o.url.cells[j]? :=by
 unfold OpR.cells
 rw[Nat.add_comm,List.getElem?_cons_succ,List.getElem?_append_left (by rw[Url.len k.uo];exact h)]
theorem L0 {o:OpR}(k:OpW o):o.cells[22]? =some (vS o.text):=by
 unfold OpR.cells
 rw[show 22=21+1 from rfl,List.getElem?_cons_succ,List.getElem?_append_right (by rw[Url.len k.uo];exact Nat.le_refl _),Url.len k.uo]
 rfl
theorem J0 {o:OpR}(k:OpW o){j:Nat}(h:j<21):o.cells[23+j]? =o.req.cells[j]? :=by
 unfold OpR.cells
 rw[show 23+j=(22+j)+1 by omega,List.getElem?_cons_succ,List.getElem?_append_right (by rw[Url.len k.uo];omega),Url.len k.uo,show 22+j-21=j+1 by omega,List.getElem?_cons_succ,List.getElem?_append_left (by rw[Req.len k.ro];exact h)]
theorem Qy {o:OpR}(k:OpW o):o.cells[44]? =some (vI o.n):=by
 unfold OpR.cells
 rw[show 44=43+1 from rfl,List.getElem?_cons_succ,List.getElem?_append_right (by rw[Url.len k.uo];decide),Url.len k.uo,show 43-21=21+1 from rfl,List.getElem?_cons_succ,List.getElem?_append_right (by rw[Req.len k.ro];exact Nat.le_refl _),Req.len k.ro]
 rfl
theorem FZ {os:List OpR}(h:∀o∈os,o.ok):∃ks:List OpK,ks.map (·.o)=os:=by
 have hy:(os.attachWith OpR.ok h).map (·.1)=os:=by simp
 exact⟨(os.attachWith OpR.ok h).map λy=>⟨y.1,y.2⟩,by rw[List.map_map];exact hy⟩
theorem Oa (rs:List Rul)(s:JS)(u:Url)(ou:u.ok)(t:List UInt8):(yB rs s u ou t).1.now=s.now:=by
 unfold yB
 split
 · rfl
 split
 · rfl
 split
 · rfl
 split <;> rfl
theorem O7 {rs:List Rul}{s:JS}{o:OpR}(ok:o.ok)(h:s.now=0)(hn:o.kind=3->o.n=0):(doV rs s o ok).now=0:=by
 unfold doV
 split
 · rw[Oa];exact h
 split
 · exact h
 split
 · rename_i c
   unfold rj
   split
   · exact h
   · show s.now+o.n=0
     rw[h,hn c];rfl
 split
 · exact h
 · exact h
theorem Kl {rs:List Rul} :∀(l:List OpK) {s:JS},s.now=0->(∀o∈l,o.o.kind=3->o.o.n=0)->(D2 rs s l).now=0
 | [],_,h,_=>h
 | o::l,s,h,hl=>Kl l (O7 o.ok h (hl o List.mem_cons_self)) λx hx=>hl x (List.mem_cons_of_mem _ hx)
theorem Ht {rs:List Rul}(l m:List OpK)(h:∀o∈l,o.o.kind=3->o.o.n=0):∃x,iN rs (js0 0) (l++⟨di,pd⟩::m)=iN rs (js0 0) l++x::iN rs (js0 0) m:=by
 refine⟨KU rs (D2 rs (js0 0) l) di pd,?_⟩
 rw[mD,iN]
 have e:doV rs (D2 rs (js0 0) l) di pd=js0 (D2 rs (js0 0) l).now:=rfl
 rw[e,Kl l rfl h]
theorem KK {u:Url}(o:u.ok):u.cells[20]? =some (vS u.path):=by
 unfold Url.cells
 rw[show 20=19+1 from rfl,List.getElem?_cons_succ,List.getElem?_append_right (by rw[Hst.len o];decide),Hst.len o];rfl
theorem Kg {r:Req}(o:r.ok):r.cells[2]? =some (vS r.host.name):=by
 unfold Req.cells
 rw[show 2=1+1 from rfl,List.getElem?_cons_succ,List.getElem?_append_left (by rw[Hst.len o];decide)];rfl
theorem Kh {r:Req}(o:r.ok):r.cells[19]? =some (vS r.path):=by
 unfold Req.cells
 rw[show 19=18+1 from rfl,List.getElem?_cons_succ,List.getElem?_append_right (by rw[Hst.len o];decide),Hst.len o];rfl
set_option maxRecDepth 100000
theorem oy (a:Option Addr)(b c:Nat)(d:Option Addr)(e f:Nat)(g:Option Addr)(i j:Nat){w K}(h:uB eL #[] w λk l=>ab (!k) (K (.bool false) l) (∃m:FP [],(uB jt #[.slice d e f] l λn o=>ab n (K (.bool true) o) (uB jt #[.slice g i j] o λp q=>ab p (K (.bool true) q) (ab (decide (((b:Nat):Int)>(12:Int))) (K (.bool true) q) (m q))))/\aX 12 (∀n,m n->∃o:Nat->FP [.one (.int .i64)],(∃p,o p (0:Int) n)/\∀p q,aX 10 (∀r,o p q r->ab (decide (q<((b:Nat):Int))) ((bx q ((b:Nat):Int)/\Option.isSome a=true)/\∃s t,Ld aG (an a q 2) r (.agg #[vI s,vS t])/\nA r (.cells #[vI 0,vS []] aG) λu v=>∃x,Sv aG (vA u 0) (.agg #[vI s,vS t]) v x/\true/\∃y,Ld ah (vA u 1) x (vS y)/\ab (decide (((List.length y:Nat):Int)>(200:Int))) (K (.bool true) x) (∃z:Nat,z<p/\o z (i64.wrap (q+(1:Int))) x)) (uP kl #[.slice a b c] r λs t=>uL fx #[.pointer s,.slice d e f] t λu v x y=>nA y (.cells #[] ao) λz A=>∃B C D E,(Builtin.append_ #[aK,aK] aK #[.slice (vA z 0) 0 0,.slice d e f]).run prog A=.ok (.slice C D E) B/\∃F G H I,(Builtin.append_ #[aK,aK] aK #[.slice C D E,.slice g i j]).run prog B=.ok (.slice G H I) F/\uL fx #[.pointer s,.slice G H I] F λJ L M N=>∃O:FP [],(ab (((v:Nat):Int) !=((e:Nat):Int)) (K (.bool false) N) (ab (((L:Nat):Int) !=(i64.wrap (((e:Nat):Int)+((i:Nat):Int)))) (K (.bool false) N) (bd ((v:Nat):Int) ((M:Nat):Int)/\uB iJ #[.slice u v x,.slice J (Int.toNat ((v:Nat):Int)) M] N λP Q=>ab (!P) (K (.bool false) Q) (O Q))))/\aX 25 (∀P,O P->∃Q:Nat->FP [.one (.int .i64)],(∃R,Q R (0:Int) P)/\∀R S,aX 14 (∀T,Q R S T->ab (decide (S<((e:Nat):Int))) ((bx S ((e:Nat):Int)/\Option.isSome d=true)/\∃U,Ld ao (an d S 45) T U/\nA T (.cells cA ao) λV X=>∃Y,Sv ao (vA V 0) U X Y/\true/\∃Z,Ld bp (vA V 0) Y (vI Z)/\ab (Z==(3:Int)) (true/\∃ac,Ld bu (vA V 44) Y (vI ac)/\ab (ac !=(0:Int)) (K (.bool true) Y) (∃ad:Nat,ad<R/\Q ad (i64.wrap (S+(1:Int))) Y)) (∃ac:Nat,ac<R/\Q ac (i64.wrap (S+(1:Int))) Y)) (nA T (.cells #[] ao) λU V=>∃X Y Z ac,(Builtin.append_ #[aK,aK] aK #[.slice (vA U 0) 0 0,.slice d e f]).run prog V=.ok (.slice Y Z ac) X/\∃ad ag aj al,(Instr.buildSlice aK 1 #[(0,.agg #[vI 4,.bool false,vI 0,vS [],.int .u8 0,.int .u8 0,.int .u8 0,.int .u8 0,.int .u8 0,.int .u8 0,.int .u8 0,.int .u8 0,.int .u8 0,.int .u8 0,.int .u8 0,.int .u8 0,.int .u8 0,.int .u8 0,.int .u8 0,.int .u8 0,vI 0,vS [],vS [],.bool false,vI 0,vS [],.int .u8 0,.int .u8 0,.int .u8 0,.int .u8 0,.int .u8 0,.int .u8 0,.int .u8 0,.int .u8 0,.int .u8 0,.int .u8 0,.int .u8 0,.int .u8 0,.int .u8 0,.int .u8 0,.int .u8 0,.int .u8 0,vS [],vI 0,vI 0])]).run prog X=.ok (.slice ag aj al) ad/\∃bb bc bk bo,(Builtin.append_ #[aK,aK] aK #[.slice Y Z ac,.slice ag aj al]).run prog ad=.ok (.slice bc bk bo) bb/\∃bq bs ca cb,(Builtin.append_ #[aK,aK] aK #[.slice bc bk bo,.slice g i j]).run prog bb=.ok (.slice bs ca cb) bq/\uL fx #[.pointer s,.slice bs ca cb] bq λcc ce cf ch=>ab (((ce:Nat):Int)==(i64.wrap (((L:Nat):Int)+(1:Int)))) (∀ck,bW ch ck->bd (i64.wrap (((e:Nat):Int)+(1:Int))) ((ce:Nat):Int)/\uL fx #[.pointer s,.slice g i j] ck λcl cm cn cp=>uB iJ #[.slice (fM cc cf (Int.toNat (i64.wrap (((e:Nat):Int)+(1:Int)))) 1) (ce-(Int.toNat (i64.wrap (((e:Nat):Int)+(1:Int))))) (cf-(Int.toNat (i64.wrap (((e:Nat):Int)+(1:Int))))),.slice cl cm cn] cp λcr cs=>K (.bool cr) cs) (∀ck,bW ch ck->(((K (.bool false) ck)/\K (.bool false) ck)/\K (.bool false) ck)/\K (.bool false) ck))))))))):Cf jM #[.slice a b c,.slice d e f,.slice g i j] w (Ret K):=ru func5 [(10,[]),(22,[(30,.one (.int .i64))]),(47,[]),(59,[(77,.one (.int .i64))]),(1000081,[]),(3000081,[(0,.one .bool),(2,.one .bool),(1,.one .bool),(3,.one .bool),(4,.one .bool),(5,.one .bool),(6,.one .bool),(7,.one .bool),(8,.one .bool),(12,.one .bool),(13,.one .bool)])] h
theorem xO (a:Option Addr)(b c:Nat){w K}(h:∃d:Nat->FP [.one (.int .i64)],(∃e,d e (0:Int) w)/\∀e f,aX 40 (∀g,d e f g->ab (decide (f<((b:Nat):Int))) ((bx f ((b:Nat):Int)/\Option.isSome a=true)/\∃i,Ld ao (an a f 45) g i/\nA g (.cells cA ao) λj k=>∃l,Sv ao (vA j 0) i k l/\true/\∃m,Ld ah (vA j 22) l (vS m)/\ab (decide (((List.length m:Nat):Int)>(800:Int))) (K (.bool true) l) (true/\true/\true/\∃n,Ld ah (vA j 3) l (vS n)/\ab (decide (((List.length n:Nat):Int)>(300:Int))) (K (.bool true) l) (true/\true/\∃o,Ld ah (vA j 21) l (vS o)/\ab (decide (((List.length o:Nat):Int)>(800:Int))) (K (.bool true) l) (true/\true/\true/\∃p,Ld ah (vA j 25) l (vS p)/\ab (decide (((List.length p:Nat):Int)>(300:Int))) (K (.bool true) l) (true/\true/\∃q,Ld ah (vA j 42) l (vS q)/\ab (decide (((List.length q:Nat):Int)>(800:Int))) (K (.bool true) l) (∃r:Nat,r<e/\d r (i64.wrap (f+(1:Int))) l)))))) (K (.bool (decide (((b:Nat):Int)>(40:Int)))) g))):Cf jt #[.slice a b c] w (Ret K):=ru func12 [(6,[(7,.one (.int .i64))])] h
set_option maxRecDepth 20000
structure OpT (o:OpR):Prop where
 tx:o.text.length <=800
 un:o.url.host.name.length <=300
 up:o.url.path.length <=800
 rn:o.req.host.name.length <=300
 rp:o.req.path.length <=800
theorem OpT.ok {o:OpR}(h:OpT o)(k:OpW o):o.ok:=⟨k.uo,k.ro,by have:=h.up;omega,by have:=h.un;omega,by have:=h.rp;omega,by have:=h.rn;omega,by have:=h.tx;omega⟩
theorem pV {B:Bl}{a1:Option Addr}{l1 c1:Nat}{os:List OpR}{w:World}(ho:Sl tOp w B a1 l1 c1 os)(hol:os.length <=9223372036854775807):
   Cf jt #[.slice a1 l1 c1] w (Ret λv w'=>∃b:Bool,v=.bool b/\(b=false->os.length <=40/\∀o∈os,OpT o)/\bW w w'):=by
 apply xO
 have hn2:=ho.len
 subst hn2
 have bad:∀{wx:World},bW w wx->∃b:Bool,Value.bool true=.bool b/\(b=false->os.length <=40/\∀o∈os,OpT o)/\bW w wx:=λh=>⟨true,rfl,(λe=>by cases e),h⟩
 refine⟨λm i wl=>∃k:Nat,k <=os.length/\i=(k:Int)/\m=os.length-k/\(∀o∈os.take k,OpT o)/\bW w wl,⟨_,0,by omega,rfl,rfl,(λx hx=>by rw[List.take_zero]at hx;cases hx),Below.refl _ _⟩,?_⟩
 intro m2 i2
 refine aX.of ?_ _
 rintro wl2 ⟨k,hk,rfl,rfl,hno2,hbl2⟩
 refine ab.of (λhi=>?_) (λhi=>?_) <;> simp only[dTx,dFx]at hi
 · have hlt:k<os.length:=by omega
   have hsl:=ho.below hbl2
   obtain⟨hld,W⟩:=tA gX hsl hlt
   have hwk:i64.wrap ((k:Int)+1)=((k+1:Nat):Int):=by rw[wrap_i64 (by omega) (by omega)];omega
   have htk:=fZ hlt
   refine⟨⟨⟨by omega,by omega⟩,hsl.isSome hlt⟩,_,hld,?_⟩
   rw[hwk]
   generalize os[k]=x at*
   refine gX.new (zs:=yU.cells) (cs:=x.cells) eN (OpW.len W) (OpR.one _) wl2 λk8 wx hk8 h8 hb8=>?_
   have Bx:=aa hbl2 hb8 hbl2.size
   refine⟨rfl,_,h8.load1 aw rfl (i:=22) (L0 W),ab.of (λe=>bad Bx) (λe1=>⟨rfl,rfl,rfl,_,h8.load1 aw rfl (i:=3) ((J2 W (j:=2) (by decide)).trans ((Ca W.uo (j:=1) (by decide)).trans rfl)),ab.of (λe=>bad Bx) (λe2=>⟨rfl,rfl,_,h8.load1 aw rfl (i:=21) ((J2 W (j:=20) (by decide)).trans (KK W.uo)),ab.of (λe=>bad Bx) (λe3=>⟨rfl,rfl,rfl,_,h8.load1 aw rfl (i:=25) ((J0 W (j:=2) (by decide)).trans (Kg W.ro)),ab.of (λe=>bad Bx) (λe4=>⟨rfl,rfl,_,h8.load1 aw rfl (i:=42) ((J0 W (j:=19) (by decide)).trans (Kh W.ro)),ab.of (λe=>bad Bx) (λe5=>?_)⟩)⟩)⟩)⟩)⟩
   have e1:=of_decide_eq_false e1
   have e2:=of_decide_eq_false e2
   have e3:=of_decide_eq_false e3
   have e4:=of_decide_eq_false e4
   have e5:=of_decide_eq_false e5
   refine⟨os.length-(k+1),by omega,k+1,by omega,rfl,rfl,?_,Bx⟩
   intro y hy
   rw[htk,List.mem_append]at hy
   rcases hy with hy|hy
   · exact hno2 y hy
   · rw[List.mem_singleton]at hy;subst hy;exact⟨by omega,by omega,by omega,by omega,by omega⟩
 · have:k=os.length:=by omega
   subst this
   rw[List.take_length]at hno2
   refine⟨_,rfl,λe2=>⟨?_,hno2⟩,hbl2⟩
   have:=of_decide_eq_false e2;omega
theorem xA {B0 u:World}{a:Option Addr}{n c:Nat}{xs:List OpR}(ho:Ow tOp ao u NoB a n c xs)(hf:bZ B0.heap.size a)(hb:bW B0 u){A:Bl}{a1:Option Addr}{l1 c1:Nat}{ys:List OpR}(hs:Sl tOp u A a1 l1 c1 ys)(hl:xs.length+ys.length <=1000000):
   ∃(w':World) (a':Option Addr) (l' c':Nat),(Builtin.append_ #[aK,aK] aK #[.slice a n c,.slice a1 l1 c1]).run prog u=.ok (.slice a' l' c') w'/\Ow tOp ao w' NoB a' l' c' (xs++ys)/\bZ B0.heap.size a'/\bW B0 w':=by
 obtain⟨w4,a4,n4,c4,hr,ho4,hgr,hfr⟩:=fB (ty:=aK) ky oH (by decide) ho (λ_ _ h=>h) (cm:=c1) (hs.flat qO) (by omega)
 exact⟨w4,a4,n4,c4,hr,ho4,hf.app hb.size hfr,hb.grown hgr hb.size hf⟩
set_option maxHeartbeats 1000000 in
theorem pF {A B C:Bl}{a0:Option Addr}{l0 c0:Nat}{rs:List Rul}{a1:Option Addr}{l1 c1:Nat}{os:List OpR}{a2:Option Addr}{l2 c2:Nat}{ms:List OpR}{w:World}(he:Env w)(hr:Sl Oh w A a0 l0 c0 rs)(ho:Sl tOp w B a1 l1 c1 os)(hm:Sl tOp w C a2 l2 c2 ms)(hrl:rs.length <=9223372036854775807)(hol:os.length <=9223372036854775807)(hml:ms.length <=9223372036854775807):
   Cf jM #[.slice a0 l0 c0,.slice a1 l1 c1,.slice a2 l2 c2] w (Ret (QN w)):=by
 apply oy
 refine ax (pX w he) ?_
 rintro _ w1 ⟨rfl,hb1⟩
 have hn0:=hr.len
 have hn1:=ho.len
 have hn2:=hm.len
 subst hn0 hn1 hn2
 refine⟨_,rfl,ab.no rfl ⟨λw'=>((os.length <=40/\∀o∈os,OpT o)/\(ms.length <=40/\∀o∈ms,OpT o)/\rs.length <=12)/\bW w w',?_,aX.of ?_ _⟩⟩
 · refine ax (pV (ho.below hb1) hol) ?_
   rintro _ w2 ⟨b,rfl,h1,hb2⟩
   have B2:=aa hb1 hb2 hb1.size
   refine⟨_,rfl,ab.of (λ_=>⟨rfl,B2⟩) (λe1=>?_)⟩
   refine ax (pV (hm.below B2) hml) ?_
   rintro _ w3 ⟨b,rfl,h2,hb3⟩
   have B3:=aa B2 hb3 B2.size
   refine⟨_,rfl,ab.of (λ_=>⟨rfl,B3⟩) (λe2=>ab.of (λ_=>⟨rfl,B3⟩) (λe3=>⟨⟨h1 e1,h2 e2,?_⟩,B3⟩))⟩
   have:=of_decide_eq_false e3;omega
 rintro w3 ⟨⟨⟨hol4,hot⟩,⟨hml4,hmt⟩,hrl4⟩,B3⟩
 refine⟨λm i wl=>∃k:Nat,k <=rs.length/\i=(k:Int)/\m=rs.length-k/\(∀r∈rs.take k,r.2.length <=200)/\bW w wl,⟨_,0,by omega,rfl,rfl,(λx hx=>by rw[List.take_zero]at hx;cases hx),B3⟩,?_⟩
 intro m1 i1
 refine aX.of ?_ _
 rintro wl ⟨k,hk,rfl,rfl,hno,hbl⟩
 refine ab.of (λhi=>?_) (λhi=>?_) <;> simp only[dTx,dFx]at hi
 · have hlt:k<rs.length:=by omega
   have hsl:=hr.below hbl
   have hld:=F5 hsl hlt
   have hwk:i64.wrap ((k:Int)+1)=((k+1:Nat):Int):=by rw[wrap_i64 (by omega) (by omega)];omega
   have htk:=fZ hlt
   refine⟨⟨⟨by omega,by omega⟩,hsl.isSome hlt⟩,rs[k].1,rs[k].2,hld,?_⟩
   rw[hwk]
   generalize rs[k]=x at*
   refine mH.new (zs:=[vI 0,vS []]) (cs:=Cn x) rfl rfl (br rfl (br rfl jZ)) wl λk6 wx hk6 h6 hb6=>?_
   have Bx:=aa hbl hb6 hbl.size
   refine⟨rfl,_,h6.load1 aw rfl (i:=1) rfl,ab.of (λe=>⟨rfl,Bx⟩) (λe=>⟨rs.length-(k+1),by omega,k+1,by omega,rfl,rfl,?_,Bx⟩)⟩
   have e:=of_decide_eq_false e
   intro y hy
   rw[htk,List.mem_append]at hy
   rcases hy with hy|hy
   · exact hno y hy
   · rw[List.mem_singleton]at hy;subst hy;omega
 have:k=rs.length:=by omega
 subst this
 rw[List.take_length]at hno
 clear hi hk
 refine ax (sn (hr.below hbl) (by omega) (λr h=>by have:=hno r h;omega) (he.step hbl)) ?_
 rintro _ w4 ⟨kt,km,at',nt,ct,ps,kvs,es,rfl,S⟩
 generalize rs.filter KT=RS at S
 have B4:=aa hbl S.hb hbl.size
 have env:=he.step hbl
 have okO:∀o∈os,o.ok:=λo h=>by
   obtain⟨i,hi,rfl⟩:=List.getElem_of_mem h
   exact(hot _ h).ok (tA gX ho hi).2
 have okM:∀o∈ms,o.ok:=λo h=>by
   obtain⟨i,hi,rfl⟩:=List.getElem_of_mem h
   exact(hmt _ h).ok (tA gX hm hi).2
 obtain⟨ks,hks⟩:=FZ okO
 obtain⟨ls,hls⟩:=FZ okM
 have hkl:ks.length=os.length:=by rw[<- hks,List.length_map]
 have hll:ls.length=ms.length:=by rw[<- hls,List.length_map]
 refine⟨_,rfl,?_⟩
 have hO4:Sl tOp w4 B a1 os.length c1 (ks.map (·.o)):=by rw[hks];exact ho.below B4
 refine ax (gV env S ks hO4 (by omega)) ?_
 rintro _ w5 ⟨a5,n5,c5,rfl,o5,f5,hb5⟩
 have B5:=aa B4 hb5 B4.size
 have hn5:n5=ks.length:=by rw[o5.len,gg]
 refine⟨_,_,_,rfl,λk6 w6 hk6 hw6=>?_⟩
 have hb6:bW w5 w6:=hw6▸ai w5 _
 have B6:=aa B5 hb6 B5.size
 have o6:Ow tOp ao w6 NoB (some ⟨k6,0,none⟩) 0 0 []:=Ow.newF qO (l:=[]) hk6 hw6 (fP.nil tOp _ NoB) (Nat.zero_le _)
 obtain⟨w7,a7,n7,c7,r7,o7,f7,hb7⟩:=xA (B0:=w5) o6 (jR hk6) hb6 (ho.below B6) (by simp;omega)
 refine⟨w7,a7,n7,c7,r7,?_⟩
 have B7:=aa B5 hb7 B5.size
 obtain⟨w8,a8,n8,c8,r8,o8,f8,hb8⟩:=xA (B0:=w5) o7 f7 hb7 (hm.below B7) (by simp;omega)
 refine⟨w8,a8,n8,c8,r8,?_⟩
 have B8:=aa B5 hb8 B5.size
 have S8:=(S.below hb5).below hb8
 have hO8:Sl tOp w8 tV a8 n8 c8 ((ks++ls).map (·.o)):=by rw[List.map_append,hks,hls];exact o8.all
 refine ax (gV env S8 (ks++ls) hO8 (by rw[List.length_append];omega)) ?_
 rintro _ w9 ⟨a9,n9,c9,rfl,o9,f9,hb9⟩
 have B9:=aa B8 hb9 B8.size
 have o59:=(o5.below hb8).below hb9
 have hn9:n9=ks.length+ls.length:=by rw[o9.len,gg,List.length_append]
 have S9:=S8.below hb9
 refine⟨_,_,_,rfl,λw'=>bW w9 w',?_,aX.of ?_ _⟩
 · refine ab.no (by rw[bne_eq_false_iff_eq];omega) (ab.no (by rw[bne_eq_false_iff_eq,wrap_i64 (by omega) (by omega)];omega) ?_)
   have hcap:=o9.2.1
   refine⟨⟨by omega,by omega⟩,?_⟩
   rw[Int.toNat_natCast]
   have o9t:=o9.takeJ (j:=n5) (by rw[gg,List.length_append];omega)
   have e9:(iN RS (js0 0) (ks++ls)).take n5=iN RS (js0 0) ks:=by
     rw[mD,List.take_append_of_le_length (by rw[gg];omega),List.take_of_length_le (by rw[gg];omega)]
   rw[e9]at o9t
   refine ax (mw o59.all o9t.all (by rw[gg];omega)) ?_
   rintro _ w10 ⟨rfl,hb10⟩
   exact⟨_,rfl,ab.no (by simp) hb10⟩
 intro w10 hb10
 have B10:=aa B9 hb10 B9.size
 refine⟨λm i wl=>∃k:Nat,k <=os.length/\i=(k:Int)/\m=os.length-k/\(∀o∈os.take k,o.kind=3->o.n=0)/\bW w10 wl,⟨_,0,by omega,rfl,rfl,(λx hx=>by rw[List.take_zero]at hx;cases hx),Below.refl _ _⟩,?_⟩
 intro m2 i2
 refine aX.of ?_ _
 rintro wl2 ⟨k,hk,rfl,rfl,hnt,hbk⟩
 have Bk:=aa B10 hbk B10.size
 refine ab.of (λhi=>?_) (λhi=>?_) <;> simp only[dTx,dFx]at hi
 · have hlt:k<os.length:=by omega
   have hsl:=ho.below Bk
   obtain⟨hld,W⟩:=tA gX hsl hlt
   have hwk:i64.wrap ((k:Int)+1)=((k+1:Nat):Int):=by rw[wrap_i64 (by omega) (by omega)];omega
   have htk:=fZ hlt
   refine⟨⟨⟨by omega,by omega⟩,hsl.isSome hlt⟩,_,hld,?_⟩
   rw[hwk]
   generalize os[k]=x at*
   refine gX.new (zs:=yU.cells) (cs:=x.cells) eN (OpW.len W) (OpR.one _) wl2 λk8 wx hk8 h8 hb8=>?_
   have Bx:=aa hbk hb8 hbk.size
   have more:(x.kind=3->x.n=0)->∃m':Nat,m'<os.length-k/\∃j:Nat,j <=os.length/\((k+1:Nat):Int)=(j:Int)/\m'=os.length-j/\(∀o∈os.take j,o.kind=3->o.n=0)/\bW w10 wx:=λhx=>
     ⟨os.length-(k+1),by omega,k+1,by omega,rfl,rfl,λy hy=>by
       rw[htk,List.mem_append]at hy
       rcases hy with hy|hy
       · exact hnt y hy
       · rw[List.mem_singleton]at hy;subst hy;exact hx,Bx⟩
   refine⟨rfl,_,h8.load1 bT rfl (i:=0) rfl,ab.of (λc1=>?_) (λc1=>more λe=>absurd e (by simpa using c1))⟩
   refine⟨rfl,_,h8.load1 bQ rfl (Qy W),ab.of (λc2=>⟨rfl,aa B10 Bx B10.size⟩) (λc2=>more λ_=>by simpa using c2)⟩
 have:k=os.length:=by omega
 subst this
 rw[List.take_length]at hnt
 clear hi hk
 have ntK:∀o∈ks,o.o.kind=3->o.o.n=0:=λo h=>hnt o.o (by rw[<- hks];exact List.mem_map_of_mem h)
 intro k11 w11 hk11 hw11
 have hb11:bW wl2 w11:=hw11▸ai wl2 _
 have o11:Ow tOp ao w11 NoB (some ⟨k11,0,none⟩) 0 0 []:=Ow.newF qO (l:=[]) hk11 hw11 (fP.nil tOp _ NoB) (Nat.zero_le _)
 have B11:=aa Bk hb11 Bk.size
 obtain⟨w12,a12,n12,c12,r12,o12,f12,hb12⟩:=xA (B0:=wl2) o11 (jR hk11) hb11 (ho.below B11) (by simp;omega)
 refine⟨w12,a12,n12,c12,r12,?_⟩
 have hw:OpW di:=⟨rfl,rfl,by decide⟩
 refine⟨_,_,_,_,Jw hw w12,?_⟩
 have hb13:bW w12 (w12.alloc (.cells di.cells.toArray ao)):=ai w12 _
 have o13:Ow tOp ao (w12.alloc (.cells di.cells.toArray ao)) NoB (some ⟨w12.heap.size,0,none⟩) 1 1 [di]:=Ow.newF qO (l:=di.cells) rfl rfl (fP.one ⟨rfl,hw⟩) (show 1 <=maxLen by decide)
 obtain⟨w14,a14,n14,c14,r14,o14,f14,hb14⟩:=xA (B0:=wl2) (o12.below hb13) f12 (aa hb12 hb13 hb12.size) o13.all (by simp;omega)
 refine⟨w14,a14,n14,c14,r14,?_⟩
 have B14:=aa Bk hb14 Bk.size
 obtain⟨w15,a15,n15,c15,r15,o15,f15,hb15⟩:=xA (B0:=wl2) o14 f14 hb14 (hm.below B14) (by simp;omega)
 refine⟨w15,a15,n15,c15,r15,?_⟩
 have B15:=aa Bk hb15 Bk.size
 have S15:=((S9.below hb10).below hbk).below hb15
 have hO15:Sl tOp w15 tV a15 n15 c15 ((ks++⟨di,pd⟩::ls).map (·.o)):=by
   rw[List.map_append,List.map_cons,hks,hls]
   have:=o15.all
   rw[List.nil_append,List.append_assoc]at this
   exact this
 refine ax (gV env S15 (ks++⟨di,pd⟩::ls) hO15 (by rw[List.length_append,List.length_cons];omega)) ?_
 rintro _ w16 ⟨a16,n16,c16,rfl,o16,f16,hb16⟩
 have B16:=aa B15 hb16 B15.size
 have hn16:n16=ks.length+(ls.length+1):=by rw[o16.len,gg,List.length_append,List.length_cons]
 obtain⟨x,hx⟩:=Ht (rs:=RS) ks ls ntK
 rw[hx]at o16
 refine⟨_,_,_,rfl,ab.yes (by rw[beq_iff_eq,wrap_i64 (by omega) (by omega)];omega) λw17 hb17=>?_⟩
 have B17:=aa B16 hb17 B16.size
 have hw1:i64.wrap (((os.length:Nat):Int)+1)=((os.length+1:Nat):Int):=by rw[wrap_i64 (by omega) (by omega)];omega
 try dsimp only
 rw[hw1,Int.toNat_natCast]
 refine⟨⟨by omega,by omega⟩,?_⟩
 have S17:=(S15.below hb16).below hb17
 have hM17:Sl tOp w17 C a2 ms.length c2 (ls.map (·.o)):=by rw[hls];exact hm.below B17
 refine ax (gV env S17 ls hM17 (by omega)) ?_
 rintro _ w18 ⟨a18,n18,c18,rfl,o18,f18,hb18⟩
 have B18:=aa B17 hb18 B17.size
 refine⟨_,_,_,rfl,?_⟩
 have hd:(iN RS (js0 0) ks++x::iN RS (js0 0) ls).drop (os.length+1)=iN RS (js0 0) ls:=by
   rw[show os.length+1=(iN RS (js0 0) ks).length+1 by rw[gg,hkl],<- List.drop_drop,List.drop_left];rfl
 have hs16:=((o16.below hb17).below hb18).all.from (k:=1) (os.length+1) (by rw[List.length_append,gg];simp;omega) rfl
 rw[hd]at hs16
 refine ax (mw hs16 o18.all (by rw[gg];omega)) ?_
 rintro _ w19 ⟨rfl,hb19⟩
 exact⟨_,rfl,by simp,aa B18 hb19 B18.size⟩
section
open Go.ChangeShapes Go.WideShapes
theorem nN {H:Type}{enc:TypeId×Value->H}{P:Program}{w:World}{fuel:Nat}{t:TypeId}{fs:Array Field}{cs:List Value}{x:DataW H×List MemPlace}(ht:P.underlying t=some (.struct fs))
   (h:DataW.trod enc P w 0 (λ_=>true) true fuel t cs=some x):
   ∃n,cs.length=P.cellsOf t/\∀(i:Nat) (u:TypeId) (o k:Nat),(∃f:Field,fs[i]? =some f/\f.type=u/\f.offset=o)->P.cellsOf u=k->∃y,DataW.trod enc P w 0 (λ_=>true) true n u ((cs.drop o).take k)=some y:=by
 obtain⟨xs,n,_,_,hl,hlen,hf⟩:=DataW.trod_struct ht h
 refine⟨n,hl,?_⟩
 rintro i _ _ _ ⟨f,hi,rfl,rfl⟩ rfl
 have hlt:i<xs.length:=by rw[hlen];exact(Array.getElem?_eq_some_iff.1 hi).1
 exact⟨xs[i],by rw[hf i f hi,List.getElem?_eq_getElem hlt]⟩
theorem gY {α:Type}(cs:List α)(a b:Nat):cs.drop a=(cs.drop a).take b++cs.drop (a+b):=by
 rw[<- List.drop_drop,List.take_append_drop]
theorem yb {α:Type}(cs:List α)(n:Nat)(h:cs.length=n):cs.drop n=[]:=List.drop_of_length_le (by omega)
theorem Ov {n:Int}(h:(Lit.int .u8 n).wf=true):∃c:UInt8,n=((c.toNat:Nat):Int):=by
 have:=bounds_u8 h
 refine⟨UInt8.ofNat n.toNat,?_⟩
 rw[UInt8.toNat_ofNat',Nat.mod_eq_of_lt (by omega)];omega
theorem HZ:∀{zs:List Int},(∀n∈zs,(Lit.int .u8 n).wf=true)->∃a:List UInt8,a.length=zs.length/\(zs.map λn=>Value.int .u8 n)=adC a
 | [],_=>⟨[],rfl,rfl⟩
 | z::zs,h=>by
   obtain⟨c,rfl⟩:=Ov (h z (List.mem_cons_self ..))
   obtain⟨a,ha,hb⟩:=HZ (zs:=zs) λn hn=>h n (List.mem_cons_of_mem _ hn)
   exact⟨c::a,by rw[List.length_cons,List.length_cons,ha],by rw[List.map_cons,hb];rfl⟩
end
section
open Go.ChangeShapes Go.WideShapes
theorem Ab {H:Type}{enc:TypeId×Value->H}{w:World}{fuel:Nat}{cs:List Value}{x:DataW H×List MemPlace}(h:DataW.trod enc prog w 0 (λ_=>true) true fuel ae cs=some x):∃u:Hst,u.ok/\cs=u.cells:=by
 obtain⟨n,hl,hf⟩:=nN Tryz.underlying45 h
 have hl18:cs.length=18:=hl.trans (by kernel_rfl)
 obtain⟨y0,h0⟩:=hf 0 bp 0 1 ⟨_,rfl,rfl,rfl⟩ (by kernel_rfl)
 obtain⟨y1,h1⟩:=hf 1 ah 1 1 ⟨_,rfl,rfl,rfl⟩ (by kernel_rfl)
 obtain⟨y2,h2⟩:=hf 2 43 2 16 ⟨_,rfl,rfl,rfl⟩ (by kernel_rfl)
 obtain⟨k,e0,_⟩:=j0 bT H enc w n _ _ h0
 obtain⟨s,e1,_⟩:=nX aw H enc w n _ _ h1
 obtain⟨zs,hz,hr⟩:=JW Tryz.underlying43 (j0 cB) (by kernel_rfl) (by kernel_rfl) h2
 have e2:=ib hr
 obtain⟨a,ha,hb⟩:=HZ (Gw hr)
 refine⟨⟨k,s,a⟩,ha.trans hz,?_⟩
 have s0:=gY cs 0 1
 have s1:=gY cs 1 1
 have s2:=gY cs 2 16
 rw[e0]at s0
 rw[e1]at s1
 rw[e2,hb,yb cs (2+16) hl18,List.append_nil]at s2
 rw[List.drop_zero]at s0
 rw[s0,s1,s2];rfl
theorem JY {H:Type}{enc:TypeId×Value->H}{w:World}{fuel:Nat}{cs:List Value}{x:DataW H×List MemPlace}(h:DataW.trod enc prog w 0 (λ_=>true) true fuel ba cs=some x):∃u:Url,u.ok/\cs=u.cells:=by
 obtain⟨n,hl,hf⟩:=nN Tryz.underlying47 h
 have hl21:cs.length=21:=hl.trans (by kernel_rfl)
 obtain⟨y0,h0⟩:=hf 0 bX 0 1 ⟨_,rfl,rfl,rfl⟩ (by kernel_rfl)
 obtain⟨y1,h1⟩:=hf 1 ae 1 18 ⟨_,rfl,rfl,rfl⟩ (by kernel_rfl)
 obtain⟨y2,h2⟩:=hf 2 bp 19 1 ⟨_,rfl,rfl,rfl⟩ (by kernel_rfl)
 obtain⟨y3,h3⟩:=hf 3 ah 20 1 ⟨_,rfl,rfl,rfl⟩ (by kernel_rfl)
 obtain⟨b,e0,_⟩:=Aa cE H enc w n _ _ h0
 obtain⟨g,hg,e1⟩:=Ab h1
 obtain⟨p,e2,_⟩:=j0 bT H enc w n _ _ h2
 obtain⟨s,e3,_⟩:=nX aw H enc w n _ _ h3
 refine⟨⟨b,g,p,s⟩,hg,?_⟩
 have s0:=gY cs 0 1
 have s1:=gY cs 1 18
 have s2:=gY cs 19 1
 have s3:=gY cs 20 1
 rw[e0]at s0
 rw[e1]at s1
 rw[e2]at s2
 rw[e3,yb cs (20+1) hl21,List.append_nil]at s3
 rw[List.drop_zero]at s0
 rw[s0,s1,s2,s3];rfl
theorem Hd {H:Type}{enc:TypeId×Value->H}{w:World}{fuel:Nat}{cs:List Value}{x:DataW H×List MemPlace}(h:DataW.trod enc prog w 0 (λ_=>true) true fuel aG cs=some x):∃r:Rul,cs=Cn r:=by
 obtain⟨n,hl,hf⟩:=nN Tryz.underlying34 h
 have hl2:cs.length=2:=hl.trans (by kernel_rfl)
 obtain⟨y0,h0⟩:=hf 0 bp 0 1 ⟨_,rfl,rfl,rfl⟩ (by kernel_rfl)
 obtain⟨y1,h1⟩:=hf 1 ah 1 1 ⟨_,rfl,rfl,rfl⟩ (by kernel_rfl)
 obtain⟨k,e0,_⟩:=j0 bT H enc w n _ _ h0
 obtain⟨s,e1,_⟩:=nX aw H enc w n _ _ h1
 refine⟨(k,s),?_⟩
 have s0:=gY cs 0 1
 have s1:=gY cs 1 1
 rw[e0,List.drop_zero]at s0
 rw[e1,yb cs (1+1) hl2,List.append_nil]at s1
 rw[s0,s1];rfl
theorem Hs {H:Type}{enc:TypeId×Value->H}{w:World}{n b off:Nat}(m:Nat)
   (hx:∀i,i<m->∃cs,(∀j,j<2->w.cell? ⟨b,off+(i*2+j),none⟩=cs[j]?)/\∃y,DataW.trod enc prog w 0 (λ_=>true) true n aG cs=some y):
   ∃rs:List Rul,rs.length=m/\At Oh w tV b off rs:=by
 induction m with
 | zero=>exact⟨[],rfl,[],fP.nil _ _ _,λj hj=>by cases hj⟩
 | succ m ih=>
   obtain⟨rs,hl,l,hr,hc⟩:=ih λi hi=>hx i (by omega)
   obtain⟨cs,hcell,y,hy⟩:=hx m (by omega)
   obtain⟨r,rfl⟩:=Hd hy
   refine⟨rs++[r],by rw[List.length_append,hl];rfl,l++Cn r,hr.append (fP.one (T:=Oh) rfl),λj hj=>?_⟩
   have hll:l.length=m*2:=by rw[hr.len,hl];rfl
   rw[List.length_append,hll,show(Cn r).length=2 from rfl]at hj
   by_cases hlt:j<l.length
   · rw[List.getElem?_append_left hlt];exact hc j hlt
   · rw[List.getElem?_append_right (by omega),<- hcell (j-l.length) (by omega),hll,show off+(m*2+(j-m*2))=off+j by omega]
theorem EP {H:Type}{enc:TypeId×Value->H}{w:World}{fuel:Nat}{v:Value}{x:DataW H×List MemPlace}(h:DataW.trod enc prog w 0 (λ_=>true) true fuel rv [v]=some x):
   ∃(a:Option Addr) (len cap:Nat) (rs:List Rul),v=.slice a len cap/\Sl Oh w tV a len cap rs/\rs.length <=9223372036854775807:=by
 rcases Go.Deep.open_slice zK h with⟨e,_⟩|⟨a,len,cap,m,n,D,Pl,e,_,hlc,hcm,hm,_,hx⟩
 · obtain rfl:v=_:=by injection e
   exact⟨none,0,0,[],rfl,Sl.nil _ _ _ _ _ (Nat.zero_le _),Nat.zero_le _⟩
 · obtain rfl:v=_:=by injection e
   have hmax:maxLen <=9223372036854775807:=by unfold maxLen;decide
   rw[if_pos rfl]at hm
   subst hm
   rw[show prog.cellsOf aG=2 by kernel_rfl]at hx
   by_cases h0:len=0
   · subst h0
     exact⟨_,_,_,[],rfl,⟨rfl,hlc,hcm,.inl rfl⟩,Nat.zero_le _⟩
   · obtain⟨b,off,spot⟩:=a
     obtain⟨c0,hc0,_⟩:=hx 0 (by omega)
     have hb:=World.cells?_block hc0 (by decide)
     obtain⟨_,hl0,hcc⟩:=World.cells?_some hc0
     have h00:=hcc 0 (by decide)
     rw[List.getElem?_eq_getElem (by omega)]at h00
     have hspot:spot=none:=by simpa[Addr.add]using World.cell?_spot h00
     subst hspot
     obtain⟨rs,hrl,hat⟩:=Hs (b:=b) (off:=off) len λi hi=>by
       obtain⟨cs,hcs,hy⟩:=hx i (by omega)
       obtain⟨_,hl2,hce⟩:=World.cells?_some hcs
       refine⟨cs,λj hj=>?_,_,hy⟩
       rw[<- hce j hj,fc,fc,Nat.add_assoc]
     exact⟨_,_,_,rs,rfl,⟨hrl.symm,hlc,hcm,.inr ⟨b,off,rfl,(by rw[Nat.zero_mul,fc]at hb;exact hb),trivial,hat⟩⟩,by omega⟩
end
section
open Go.ChangeShapes Go.WideShapes
theorem JX {H:Type}{enc:TypeId×Value->H}{w:World}{fuel:Nat}{cs:List Value}{x:DataW H×List MemPlace}(h:DataW.trod enc prog w 0 (λ_=>true) true fuel aR cs=some x):∃r:Req,r.ok/\cs=r.cells:=by
 obtain⟨n,hl,hf⟩:=nN Tryz.underlying49 h
 have hl21:cs.length=21:=hl.trans (by kernel_rfl)
 obtain⟨y0,h0⟩:=hf 0 bX 0 1 ⟨_,rfl,rfl,rfl⟩ (by kernel_rfl)
 obtain⟨y1,h1⟩:=hf 1 ae 1 18 ⟨_,rfl,rfl,rfl⟩ (by kernel_rfl)
 obtain⟨y2,h2⟩:=hf 2 ah 19 1 ⟨_,rfl,rfl,rfl⟩ (by kernel_rfl)
 obtain⟨y3,h3⟩:=hf 3 bp 20 1 ⟨_,rfl,rfl,rfl⟩ (by kernel_rfl)
 obtain⟨b,e0,_⟩:=Aa cE H enc w n _ _ h0
 obtain⟨g,hg,e1⟩:=Ab h1
 obtain⟨s,e2,_⟩:=nX aw H enc w n _ _ h2
 obtain⟨p,e3,_⟩:=j0 bT H enc w n _ _ h3
 refine⟨⟨b,g,s,p⟩,hg,?_⟩
 have s0:=gY cs 0 1
 have s1:=gY cs 1 18
 have s2:=gY cs 19 1
 have s3:=gY cs 20 1
 rw[e0]at s0
 rw[e1]at s1
 rw[e2]at s2
 rw[e3,yb cs (20+1) hl21,List.append_nil]at s3
 rw[List.drop_zero]at s0
 rw[s0,s1,s2,s3];rfl
theorem LY {H:Type}{enc:TypeId×Value->H}{w:World}{fuel:Nat}{cs:List Value}{x:DataW H×List MemPlace}(h:DataW.trod enc prog w 0 (λ_=>true) true fuel ao cs=some x):∃o:OpR,OpW o/\cs=o.cells:=by
 obtain⟨n,hl,hf⟩:=nN Tryz.underlying51 h
 have hl45:cs.length=45:=hl.trans (by kernel_rfl)
 obtain⟨y0,h0⟩:=hf 0 bp 0 1 ⟨_,rfl,rfl,rfl⟩ (by kernel_rfl)
 obtain⟨y1,h1⟩:=hf 1 ba 1 21 ⟨_,rfl,rfl,rfl⟩ (by kernel_rfl)
 obtain⟨y2,h2⟩:=hf 2 ah 22 1 ⟨_,rfl,rfl,rfl⟩ (by kernel_rfl)
 obtain⟨y3,h3⟩:=hf 3 aR 23 21 ⟨_,rfl,rfl,rfl⟩ (by kernel_rfl)
 obtain⟨y4,h4⟩:=hf 4 bu 44 1 ⟨_,rfl,rfl,rfl⟩ (by kernel_rfl)
 obtain⟨k,e0,_⟩:=j0 bT H enc w n _ _ h0
 obtain⟨u,hu,e1⟩:=JY h1
 obtain⟨s,e2,_⟩:=nX aw H enc w n _ _ h2
 obtain⟨r,hr,e3⟩:=JX h3
 obtain⟨q,e4,b4⟩:=j0 bQ H enc w n _ _ h4
 refine⟨⟨k,u,s,r,q⟩,⟨hu,hr,(bounds_i64 b4).2⟩,?_⟩
 have s0:=gY cs 0 1
 have s1:=gY cs 1 21
 have s2:=gY cs 22 1
 have s3:=gY cs 23 21
 have s4:=gY cs 44 1
 rw[e0]at s0
 rw[e1]at s1
 rw[e2]at s2
 rw[e3]at s3
 rw[e4,yb cs (44+1) hl45,List.append_nil]at s4
 rw[List.drop_zero]at s0
 rw[s0,s1,s2,s3,s4];rfl
theorem LZ {H:Type}{enc:TypeId×Value->H}{w:World}{n b off:Nat}(m:Nat)
   (hx:∀i,i<m->∃cs,(∀j,j<45->w.cell? ⟨b,off+(i*45+j),none⟩=cs[j]?)/\∃y,DataW.trod enc prog w 0 (λ_=>true) true n ao cs=some y):
   ∃rs:List OpR,rs.length=m/\At tOp w tV b off rs:=by
 induction m with
 | zero=>exact⟨[],rfl,[],fP.nil _ _ _,λj hj=>by cases hj⟩
 | succ m ih=>
   obtain⟨rs,hl,l,hr,hc⟩:=ih λi hi=>hx i (by omega)
   obtain⟨cs,hcell,y,hy⟩:=hx m (by omega)
   obtain⟨r,hw,rfl⟩:=LY hy
   refine⟨rs++[r],by rw[List.length_append,hl];rfl,l++r.cells,hr.append (fP.one (T:=tOp) ⟨rfl,hw⟩),λj hj=>?_⟩
   have hll:l.length=m*45:=by rw[hr.len,hl];rfl
   rw[List.length_append,hll,OpW.len hw]at hj
   by_cases hlt:j<l.length
   · rw[List.getElem?_append_left hlt];exact hc j hlt
   · rw[List.getElem?_append_right (by omega),<- hcell (j-l.length) (by omega),hll,show off+(m*45+(j-m*45))=off+j by omega]
theorem Dg {H:Type}{enc:TypeId×Value->H}{w:World}{fuel:Nat}{v:Value}{x:DataW H×List MemPlace}(h:DataW.trod enc prog w 0 (λ_=>true) true fuel aK [v]=some x):
   ∃(a:Option Addr) (len cap:Nat) (rs:List OpR),v=.slice a len cap/\Sl tOp w tV a len cap rs/\rs.length <=9223372036854775807:=by
 rcases Go.Deep.open_slice ky h with⟨e,_⟩|⟨a,len,cap,m,n,D,Pl,e,_,hlc,hcm,hm,_,hx⟩
 · obtain rfl:v=_:=by injection e
   exact⟨none,0,0,[],rfl,Sl.nil _ _ _ _ _ (Nat.zero_le _),Nat.zero_le _⟩
 · obtain rfl:v=_:=by injection e
   have hmax:maxLen <=9223372036854775807:=by unfold maxLen;decide
   rw[if_pos rfl]at hm
   subst hm
   rw[show prog.cellsOf ao=45 by kernel_rfl]at hx
   by_cases h0:len=0
   · subst h0
     exact⟨_,_,_,[],rfl,⟨rfl,hlc,hcm,.inl rfl⟩,Nat.zero_le _⟩
   · obtain⟨b,off,spot⟩:=a
     obtain⟨c0,hc0,_⟩:=hx 0 (by omega)
     have hb:=World.cells?_block hc0 (by decide)
     obtain⟨_,hl0,hcc⟩:=World.cells?_some hc0
     have h00:=hcc 0 (by decide)
     rw[List.getElem?_eq_getElem (by omega)]at h00
     have hspot:spot=none:=by simpa[Addr.add]using World.cell?_spot h00
     subst hspot
     obtain⟨rs,hrl,hat⟩:=LZ (b:=b) (off:=off) len λi hi=>by
       obtain⟨cs,hcs,hy⟩:=hx i (by omega)
       obtain⟨_,hl2,hce⟩:=World.cells?_some hcs
       refine⟨cs,λj hj=>?_,_,hy⟩
       rw[<- hce j hj,fc,fc,Nat.add_assoc]
     exact⟨_,_,_,rs,rfl,⟨hrl.symm,hlc,hcm,.inr ⟨b,off,rfl,(by rw[Nat.zero_mul,fc]at hb;exact hb),trivial,hat⟩⟩,by omega⟩
end
end Go.Pk
