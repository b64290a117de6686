/- What the laws lean on: V50, TopA, MapI, Row, SufA, SufC, V51, RulFA, V58, V58b, PlnA, PlnB; what is used. Its conditions: none. -/
import Derived.Test.YthbkoifpgkjadaaGreatDoorKJ
set_option linter.unusedVariables false
set_option linter.unusedSimpArgs false
set_option linter.unusedSectionVars false
set_option maxRecDepth 100000
open Go.IntKind (i64)
open Go.Proofs.Tryz
open List (length)
open Option (isSome)
namespace Go.Pk
open Go.RowKit (Below)
open Go.Proofs
theorem vH (a:lU)(b:Int){w K}(h:uL du #[vS a,.int .u8 32] w λc d e f=>bd b ((e:Nat):Int)/\∃g:Nat->FP [.one (.int .i64),.one (.int .i64)],(∃i,g i (1:Int) (0:Int) f)/\∀i j k,aN 10 (∀l,g i j k l->ae (decide (k<(((Int.toNat b):Nat):Int))) ((bx k (((Int.toNat b):Nat):Int)/\Option.isSome c=true)/\∃m,Ld ak (am c k 1) l (vS m)/\∃n:Nat,n<i/\g n (i64.wrap (j+(i64.wrap (((List.length m:Nat):Int)+(1:Int))))) (i64.wrap (k+(1:Int))) l) (K (vI j) l))):Cf kL #[vS a,vI b] w (Ret K):=ru func76 [(8,[(5,.one (.int .i64)),(13,.one (.int .i64))])] h
theorem ul {w K}(h:nA w (.cells #[vS [],vS [104,116,116,112],vS [104,116,116,112,115],vS [98,111,116,104]] ak) λa b=>K (.slice (vA a 0) 4 4) b):Cf jR #[] w (Ret K):=ru func150 [] h
theorem im (a:Option Addr)(b c:Nat)(d:Value){w K}(h:nA w (.cells (Value.cells d) av) λe f=>∃g:Nat->FP [.one (.int .i64)],(∃i,g i (0:Int) f)/\∀i j,aN 12 (∀k,g i j k->ae (decide (j<((b:Nat):Int))) (∃l,(∀m,bW k m->Ld av (vA e 0) m l)/\(bx j ((b:Nat):Int)/\Option.isSome a=true)/\∃m,(∀n,bW k n->Ld av (am a j 22) n m)/\∃n,(∀o,bW k o->(do eqGuard .eql av (.tmp 11) (.tmp 15) l m;binOp .eql av l m:Sem Value).run prog o=.ok (.bool n) o)/\∀o,bW k o->ae n (K (vI j) o) (∃p:Nat,p<i/\g p (i64.wrap (j+(1:Int))) o)) (K (vI (-1)) k))):Cf cS #[.slice a b c,d] w (Ret K):=ru func151 [(6,[(8,.one (.int .i64))])] h
theorem gF (a:Option Addr)(b c:Nat)(d:Value){w K}(h:nA w (.cells (Value.cells d) av) λe f=>∃g,Ld av (vA e 0) f g/\uI cS #[.slice a b c,g] f λi j=>K (.bool (decide (i >=(0:Int)))) j):Cf cu #[.slice a b c,d] w (Ret K):=ru func75 [] h
theorem yH (a:lU){w K}(h:nA w (.cells eI av) λb c=>Cf mv #[vS a] c λd e=>∃f g i j,d=rT #[.slice f g i,.bool j]/\∃k:FP [],(∃l:FP [.one .bool],(ae (!j) (l true e) (ae (((g:Nat):Int) !=(4:Int)) (l true e) ((bx (0:Int) ((g:Nat):Int)/\Option.isSome f=true)/\∃m,Ld ak (am f (0:Int) 1) e (vS m)/\l (!(m==[104,111,115,116])) e)))/\∀m,aN 12 (∀n,l m n->ae m (∃o,Sv av (vA b 0) (.agg eI) n o/\∃p,Rv av (vA b 0) o p/\K (.tuple #[p,vI 131,vI 0]) o) (k n)))/\aN 16 (∀l,k l->(bx (1:Int) ((g:Nat):Int)/\Option.isSome f=true)/\∃m,Ld ak (am f (1:Int) 1) l (vS m)/\Cf cI #[vS m,vS [42,46]] l λn o=>∃p q,n=rT #[vS p,.bool q]/\Cf iv #[vS p] o λr s=>∃t u,r=rT #[t,vI u]/\nA s (.cells cq af) λv x=>∃y,Sv af (vA v 0) t x y/\(bx (2:Int) ((g:Nat):Int)/\Option.isSome f=true)/\∃z,(∀A,bW y A->Ld ak (am f (2:Int) 1) A (vS z))/\∃A:FP [.one .slice],(∀B C D E F,A B C D E->bW E F->A B C D F)/\(∀B,bW y B->uL jR #[] B λC D E F=>A C D E F/\bW B F)/\∀B C D,∃E,(∀F,bW y F->A B C D F->Cf hZ #[.slice B C D,vS z] F λG H=>G=.returned (vI E)/\bW F H)/\∀F,bW y F->A B C D F->∃G:FP [],(∃H:FP [.one .bool],(ae (u !=(0:Int)) (H true F) (ae q (true/\∃I,Ld aP (vA v 0) F (vI I)/\H (I !=(1:Int)) F) (H false F)))/\∀I,aN 10 (∀J,H I J->ae I (∃L,Sv av (vA b 0) (.agg eI) J L/\∃M,Rv av (vA b 0) L M/\K (.tuple #[M,vI 31,vI 1]) L) (ae (decide (E<(1:Int))) (∃L,Sv av (vA b 0) (.agg eI) J L/\∃M,Rv av (vA b 0) L M/\K (.tuple #[M,vI 211,vI 2]) L) ((bx (3:Int) ((g:Nat):Int)/\Option.isSome f=true)/\∃L,Ld ak (am f (3:Int) 1) J (vS L)/\uB mE #[vS L] J λM N=>ae (!M) (∃O,Sv av (vA b 0) (.agg eI) N O/\∃P,Rv av (vA b 0) O P/\K (.tuple #[P,vI 43,vI 3]) O) (G N)))))/\aN 25 (∀H,G H->(bx (3:Int) ((g:Nat):Int)/\Option.isSome f=true)/\∃I,(∀J,bW H J->Ld af (vA v 0) J I)/\∃J,(∀L,bW H L->Ld ak (am f (3:Int) 1) L (vS J))/\∃L,(∀M,bW H M->(Instr.build av #[(0,.bool q),(1,I),(2,.bool (decide ((i64.wrap (((BitVec.ofInt (IntKind.bits .i64) E) &&& (BitVec.ofInt (IntKind.bits .i64) (1:Int))).toNat:Nat))>(0:Int)))),(3,.bool (decide ((i64.wrap (((BitVec.ofInt (IntKind.bits .i64) E) &&& (BitVec.ofInt (IntKind.bits .i64) (2:Int))).toNat:Nat))>(0:Int)))),(4,vS J)]).run prog M=.ok L M)/\∀M,bW H M->∃N,Sv av (vA b 0) L M N/\∃O,Rv av (vA b 0) N O/\K (.tuple #[O,vI 0,vI 0]) N))):Cf mZ #[vS a] w (Ret K):=ru func74 [(4,[]),(5,[(29,.one .bool)]),(1000017,[]),(3000017,[(1,.one .bool),(2,.one .bool),(3,.one .bool),(0,.one .slice),(4,.one .bool),(5,.one .bool)]),(18,[]),(20,[(48,.one .bool)]),(3000040,[(0,.one .bool),(2,.one .bool),(3,.one .bool),(4,.one .bool),(5,.one .bool),(6,.one .bool),(7,.one .bool),(8,.one .bool),(9,.one .bool),(1,.one .bool),(10,.one .bool),(11,.one .bool)])] h
theorem yG (a:lU){w K}(h:nA w (.cells #[vI 0,vI 0,vI 0] aA) λb c=>ae (decide (((List.length a:Nat):Int)>(20000:Int))) (∃d,Sv aA (vA b 0) (.agg #[vI 54,vI 1,vI 1]) c d/\∃e f g,Rv aA (vA b 0) d (.agg #[vI e,vI f,vI g])/\K (.tuple #[.slice none 0 0,.agg #[vI e,vI f,vI g]]) d) (uL jL #[vS a] c λd e f g=>∃i:Nat->FP [.one .slice,.one (.int .i64)],(∃j,i j none 0 0 (0:Int) g)/\∀j k l m n,aN 47 (∀o,i j k l m n o->ae (decide (n<((e:Nat):Int))) ((bx n ((e:Nat):Int)/\Option.isSome d=true)/\∃p,Ld ak (am d n 1) o (vS p)/\∃q:FP [],(ae (p==[]) (∃r:Nat,r<j/\i r k l m (i64.wrap (n+(1:Int))) o) (uB cJ #[vS p,vS [35]] o λr s=>ae r (∃t:Nat,t<j/\i t k l m (i64.wrap (n+(1:Int))) s) (q s)))/\aN 6 (∀r,q r->Cf mZ #[vS p] r λs t=>∃u v x,s=rT #[u,vI v,vI x]/\nA t (.cells eI av) λy z=>∃A,Sv av (vA y 0) u z A/\∃B:FP [.one (.int .i64)],(ae (v !=(0:Int)) (B v A) (∃C,Ld av (vA y 0) A C/\uB cu #[.slice k l m,C] A λD E=>ae D (B (52:Int) E) (ae (((l:Nat):Int)==(12:Int)) (B (53:Int) E) (B v E))))/\∀C,aN 11 (∀D,B C D->ae (C !=(0:Int)) (uI kL #[vS p,vI x] D λE F=>∃G,Sv aA (vA b 0) (.agg #[vI C,vI (i64.wrap (n+(1:Int))),vI E]) F G/\∃H I J,Rv aA (vA b 0) G (.agg #[vI H,vI I,vI J])/\K (.tuple #[.slice none 0 0,.agg #[vI H,vI I,vI J]]) G) (∃E,Ld av (vA y 0) D E/\∃F G H I,(Instr.buildSlice aS 1 #[(0,E)]).run prog D=.ok (.slice G H I) F/\∃J L M N,(Builtin.append_ #[aS,aS] aS #[.slice k l m,.slice G H I]).run prog F=.ok (.slice L M N) J/\∃O:Nat,O<j/\i O L M N (i64.wrap (n+(1:Int))) J)))) (∃p,Sv aA (vA b 0) (.agg #[vI 0,vI 0,vI 0]) o p/\∃q r s,Rv aA (vA b 0) p (.agg #[vI q,vI r,vI s])/\K (.tuple #[.slice k l m,.agg #[vI q,vI r,vI s]]) p)))):Cf mY #[vS a] w (Ret K):=ru func31 [(16,[(4,.one .slice),(17,.one (.int .i64))]),(27,[]),(35,[(8,.one (.int .i64))])] h
theorem Th {c d:Pat}(o:c.ok)(p:d.ok):eqV prog 10000 av c.v d.v=some (Cw c d):=by
 obtain⟨d1,⟨e1,e2,e3⟩,d2,d3,d4⟩:=c
 obtain⟨d1',⟨e1',e2',e3'⟩,d2',d3',d4'⟩:=d
 obtain⟨x0,x1,x2,x3,x4,x5,x6,x7,x8,x9,x10,x11,x12,x13,x14,x15,rfl⟩:=pN e3 o
 obtain⟨y0,y1,y2,y3,y4,y5,y6,y7,y8,y9,y10,y11,y12,y13,y14,y15,rfl⟩:=pN e3' p
 kernel_rfl
theorem N2:prog.eqGuardType prog.depth av=false:=by kernel_rfl
theorem VC {c d:Pat}(o:c.ok)(p:d.ok){x y:Operand}(w:World):((do eqGuard .eql av x y c.v d.v;binOp .eql av c.v d.v:Sem Value)).run prog w=.ok (.bool (Cw c d)) w:=
 Le N2 (Th o p) w
theorem TH {o:Pat}(k:o.ok)(w:World):(Instr.buildSlice aS 1 #[(0,o.v)]).run prog w=.ok (.slice (some ⟨w.heap.size,0,none⟩) 1 1) (w.alloc (.cells o.cells.toArray av)):=by
 obtain⟨d1,⟨e1,e2,e3⟩,d2,d3,d4⟩:=o
 obtain⟨x0,x1,x2,x3,x4,x5,x6,x7,x8,x9,x10,x11,x12,x13,x14,x15,rfl⟩:=pN e3 k
 kernel_rfl
theorem AK {w:World}{A:Bl}{a:Option Addr}{l c:Nat}{xs:List Pat}(h:Sl AY w A a l c xs){i:Nat}(hi:i<xs.length):
   (Instr.loadAt av (.pointer (am a (i:Int) 22))).run prog w=.ok xs[i].v w/\xs[i].ok:=by
 obtain⟨vs,h1,e,o⟩:=iM.elem (T:=AY) rfl h hi
 subst e
 exact⟨h1,o⟩
def VB (p:Pat)(xs:List Pat):Int:=match xs.findIdx? (Cw p)with|some i=>(i:Int)|none=> -1
theorem T1 (p:Pat)(xs:List Pat):decide (VB p xs >=0)=xs.any (Cw p):=by
 unfold VB
 cases h:xs.findIdx? (Cw p)with
 | none=>
   rw[List.findIdx?_eq_none_iff]at h
   rw[decide_eq_false (by decide),eq_comm,List.any_eq_false]
   exact λx hx=>by rw[h x hx];decide
 | some i=>
   obtain⟨hi,hp,_⟩:=List.findIdx?_eq_some_iff_getElem.1 h
   rw[decide_eq_true (by show((i:Nat):Int) >=0;omega),eq_comm,List.any_eq_true]
   exact⟨_,List.getElem_mem hi,hp⟩
theorem HS {w:World}{A:Bl}{a:Option Addr}{n c:Nat}{xs:List Pat}(hs:Sl AY w A a n c xs){p:Pat}(o:p.ok):
   Cf cS #[.slice a n c,p.v] w (Ret λv w'=>v=vI (VB p xs)/\bW w w'):=by
 apply im
 intro k3 w3 hk3 hw3
 have b3:=(hw3▸ah w _:bW w w3)
 have A3:ai w3 k3 av p.cells:=ai.new hk3 hw3
 have hn:=hs.len
 have hle:=hs.le
 subst hn
 refine⟨λm i w'=>∃j:Nat,i=(j:Int)/\m=xs.length-j/\j <=xs.length/\(∀t,t<j->∀h:t<xs.length,Cw p xs[t]=false)/\bW w3 w',⟨_,0,rfl,rfl,Nat.zero_le _,λt h=>absurd h (Nat.not_lt_zero _),Below.refl _ _⟩,λm i=>aN.of ?_ _⟩
 rintro wl ⟨j,rfl,rfl,hj,hno,bl⟩
 have Bl:=ab b3 bl b3.size
 refine ae.of (λh=>?_) (λh=>?_) <;> simp only[dTx,dFx]at h
 · have hlt:j<xs.length:=by omega
   obtain⟨hld,oj⟩:=AK (hs.below Bl) hlt
   refine⟨_,λu hu=>iM.load0 (A3.below (ab bl hu bl.size)) (Pat.len o),⟨⟨by omega,h⟩,hs.isSome hlt⟩,_,λu hu=>(AK (hs.below (ab Bl hu Bl.size)) hlt).1,_,λu hu=>VC o oj u,λwq bq=>?_⟩
   have Bq:=ab Bl bq Bl.size
   refine ae.of (λh2=>⟨?_,Bq⟩) (λh2=>⟨xs.length-(j+1),by omega,j+1,by rw[wrap_i64 (by omega) (by omega)];omega,rfl,by omega,λt ht hl=>?_,ab bl bq bl.size⟩)
   · have e:xs.findIdx? (Cw p)=some j:=List.findIdx?_eq_some_iff_getElem.2 ⟨hlt,h2,λt ht=>by rw[hno t ht (by omega)];decide⟩
     unfold VB;rw[e]
   · rcases Nat.lt_or_ge t j with h3|h3
     · exact hno t h3 hl
     · obtain rfl:t=j:=by omega
       exact h2
 · refine⟨?_,Bl⟩
   have e:xs.findIdx? (Cw p)=none:=List.findIdx?_eq_none_iff.2 λx hx=>by
     obtain⟨t,ht,rfl⟩:=List.getElem_of_mem hx
     exact hno t (by omega) ht
   unfold VB;rw[e]
theorem BC {w:World}{A:Bl}{a:Option Addr}{n c:Nat}{xs:List Pat}(hs:Sl AY w A a n c xs){p:Pat}(o:p.ok):
   Cf cu #[.slice a n c,p.v] w (Ret λv w'=>v=.bool (xs.any (Cw p))/\bW w w'):=by
 apply gF
 intro k3 w3 hk3 hw3
 have b3:=(hw3▸ah w _:bW w w3)
 have A3:ai w3 k3 av p.cells:=ai.new hk3 hw3
 refine⟨_,iM.load0 A3 (Pat.len o),?_⟩
 refine aB (HS (hs.below b3) o) ?_
 rintro _ w7 ⟨rfl,b7⟩
 exact⟨_,rfl,by rw[T1],ab b3 b7 b3.size⟩
theorem xd (s:List UInt8)(k:Nat)(hs:s.length <=10000000)(hk:k <=(dz 32 [] s).length)(w:World)(he:Env w):
   Cf kL #[vS s,vI (k:Int)] w (Ret λv w'=>v=vI (AH (dz 32 [] s) k:Nat)/\bW w w'):=by
 apply vH
 refine aB (dQ s 32 (by omega) w he) ?_
 rintro _ w9 ⟨a,n,c,rfl,ho,hf,b9⟩
 have hpl:=jE 32 s []
 have hcnt:=dZ 32 s []
 generalize dz 32 [] s=L at*
 have hn:=ho.len
 have hc:=ho.all.2.1
 subst hn
 refine⟨a,_,c,rfl,⟨by omega,by omega⟩,λm x i w'=>∃j:Nat,i=(j:Int)/\m=k-j/\j <=k/\x=(AH L j:Nat)/\AH L j <=1+j*10000001/\w'=w9,⟨_,0,rfl,rfl,Nat.zero_le _,rfl,by rw[Hh];omega,rfl⟩,λm x i=>aN.of ?_ _⟩
 rintro wl ⟨j,rfl,rfl,hj,rfl,hle,rfl⟩
 refine ae.of (λh=>?_) (λh=>?_) <;> simp only[dTx,dFx,Int.toNat_natCast]at h
 · have hlt:j<L.length:=by omega
   have hx:L[j].length <=10000000:=by have:=hpl _ (List.getElem_mem hlt);simp at this;omega
   refine⟨⟨⟨by omega,by simpa using h⟩,ho.all.isSome hlt⟩,L[j],ho.all.text aF hlt,k-(j+1),by omega,j+1,by rw[wrap_i64 (by omega) (by omega)];omega,rfl,by omega,?_,?_,rfl⟩
   · rw[vZ hlt,wrap_i64 (n:=((L[j].length:Nat):Int)+1) (by omega) (by omega),wrap_i64 (by omega) (by omega)];omega
   · rw[vZ hlt];omega
 · obtain rfl:j=k:=by omega
   exact⟨rfl,b9⟩
theorem vP (w:World):Cf jR #[] w (Ret λv w'=>∃a,v=.slice a 4 4/\Ow tS ak w' NoB a 4 4 VL/\bg w.heap.size a/\bW w w'):=by
 apply ul
 intro k1 w1 hk1 hw1
 exact⟨_,rfl,Ow.newF (jS _) hk1 hw1 (mj (xs:=VL) λ_ _=>trivial) (by decide),HC hk1,hw1▸ah _ _⟩
theorem Ue (x:List UInt8):Lib.idxOfS (VL.map mkS) (mkS x)=AV x:=by
 unfold VL AV
 simp only[List.map_cons,List.map_nil,Lib.idxOfS,Lib.idxFromS,TO,eq_comm (a:=x)]
 rfl
theorem Wr:(Value.agg eI)=I4.v:=rfl
theorem Ni {h:Hst}(o:h.ok)(a b c:Bool)(z:List UInt8)(w:World):(Instr.build av #[(0,.bool a),(1,h.v),(2,.bool b),(3,.bool c),(4,vS z)]).run prog w=.ok (⟨a,h,b,c,z⟩:Pat).v w:=by
 obtain⟨e1,e2,e3⟩:=h
 obtain⟨x0,x1,x2,x3,x4,x5,x6,x7,x8,x9,x10,x11,x12,x13,x14,x15,rfl⟩:=pN e3 o
 kernel_rfl
theorem Rt {n:Int}(h:n=1\/n=2\/n=3):decide ((i64.wrap (((BitVec.ofInt (IntKind.bits .i64) n) &&& (BitVec.ofInt (IntKind.bits .i64) (1:Int))).toNat:Nat))>(0:Int))=(n==1 || n==3)/\
   decide ((i64.wrap (((BitVec.ofInt (IntKind.bits .i64) n) &&& (BitVec.ofInt (IntKind.bits .i64) (2:Int))).toNat:Nat))>(0:Int))=(n==2 || n==3):=by
 rcases h with rfl|rfl|rfl <;> decide
theorem Ud (y:List UInt8)(h: ¬ AV y<1):AV y=1\/AV y=2\/AV y=3:=by
 unfold AV at*
 by_cases h1:y=[]
 · rw[if_pos h1]at h;exact absurd (by decide) h
 rw[if_neg h1]at*
 by_cases h2:y=[104,116,116,112]
 · rw[if_pos h2];exact .inl rfl
 rw[if_neg h2]at*
 by_cases h3:y=[104,116,116,112,115]
 · rw[if_pos h3];exact .inr (.inl rfl)
 rw[if_neg h3]at*
 by_cases h4:y=[98,111,116,104]
 · rw[if_pos h4];exact .inr (.inr rfl)
 · rw[if_neg h4]at h;exact absurd (by decide) h
theorem WZ {α:Type}{L:List α}(h:L.length=4):∃k x y z,L=[k,x,y,z]:=by
 match L,h with
 | [k,x,y,z],_=>exact⟨k,x,y,z,rfl⟩
theorem H8 (k a b c:List UInt8):Q7 [k,a,b,c]=if k=Pu then MN a b c else(I4,131,0):=rfl
theorem Q8 {L:List (List UInt8)}(h:L.length≠4):Q7 L=(I4,131,0):=by
 unfold Q7
 split
 · exact absurd rfl h
 · rfl
def Kl (s:List UInt8)(w:World)(v:Value)(w':World):Prop:=v=.tuple #[(iF s).1.v,vI (iF s).2.1,vI ((iF s).2.2:Nat)]/\bW w w'
set_option maxHeartbeats 1000000 in
theorem AF (s:List UInt8)(hs:s.length <=10000000)(w:World)(he:Env w):Cf mZ #[vS s] w (Ret (Kl s w)):=by
 apply yH
 intro k2 w2 hk2 hw2
 have b2:=(hw2▸ah w _:bW w w2)
 have A2:ai w2 k2 av I4.cells:=ai.new hk2 hw2
 have lt2:=A2.lt
 have fin:∀{W:World} {p:Pat} {e k:Int} {j:Nat},p.ok->k=(j:Int)->iF s=(p,e,j)->bW w2 W->∃wx,(Instr.storeAt av (.pointer (some ⟨k2,0,none⟩)) p.v).run prog W=.ok () wx/\
     ∃vr:Value,(aV av (.pointer (some ⟨k2,0,none⟩))).run prog wx=.ok vr wx/\Kl s w (.tuple #[vr,vI e,vI k]) wx:=fun{W p e k j} o hk hv hb=>
   iM.fin (K:=λvr wx=>Kl s w (.tuple #[vr,vI e,vI k]) wx) (cs:=p.cells) (Pat.len o) (Pat.one p) (A2.below hb) rfl (ab b2 hb b2.size) (by omega) λwx hB=>⟨by rw[hv,hk];rfl,hB⟩
 have fin0:∀{W:World} {e k:Int} {j:Nat},k=(j:Int)->iF s=(I4,e,j)->bW w2 W->∃wx,(Instr.storeAt av (.pointer (some ⟨k2,0,none⟩)) (.agg eI)).run prog W=.ok () wx/\
     ∃vr:Value,(aV av (.pointer (some ⟨k2,0,none⟩))).run prog wx=.ok vr wx/\Kl s w (.tuple #[vr,vI e,vI k]) wx:=λhk hv hb=>by rw[Wr];exact fin rfl hk hv hb
 refine aB (ux s hs w2 (he.step b2)) ?_
 rintro _ w14 ⟨hv,b14⟩
 by_cases hE:[]∈dz 32 [] s
 · rw[if_pos hE]at hv
   subst hv
   exact⟨none,0,0,false,rfl,wu (w:=w14) False (nK (w:=w14) true (ae.yes rfl ⟨rfl,rfl⟩) (ae.yes rfl (fin0 (j:=0) rfl (by unfold iF;rw[if_pos hE]) b14))) (λh=>h.elim)⟩
 rw[if_neg hE]at hv
 obtain⟨a,n,c,rfl,ho,hf⟩:=hv
 have hP:iF s=Q7 (dz 32 [] s):=by unfold iF;rw[if_neg hE]
 have hpl:∀x∈dz 32 [] s,x.length <=s.length:=λx hx=>by have:=jE 32 s [] x hx;simpa using this
 generalize dz 32 [] s=L at*
 have hn:=ho.len
 subst hn
 by_cases h4:L.length=4
 rotate_left
 · exact⟨a,_,c,true,rfl,wu (w:=w14) False (nK (w:=w14) true (ae.no rfl (ae.yes (by simpa using(by omega: ¬ ((L.length:Nat):Int)=4)) ⟨rfl,rfl⟩)) (ae.yes rfl (fin0 (j:=0) rfl (hP.trans (Q8 h4)) b14))) (λh=>h.elim)⟩
 obtain⟨k,x,y,z,rfl⟩:=WZ h4
 have S:=ho.all
 have ld:∀{u:World} (i:Nat) (t:List UInt8),bW w14 u->[k,x,y,z][i]? =some t->(Instr.loadAt ak (.pointer (am a (i:Int) 1))).run prog u=.ok (vS t) u:=fun{u} i t hu ht=>by
   obtain⟨hi,e⟩:=List.getElem?_eq_some_iff.1 ht
   rw[<- e];exact(S.below hu).text aF hi
 have hsm:a.isSome=true:=S.isSome (i:=0) (show 0<4 by decide)
 have hx:x.length <=s.length:=hpl x (by simp)
 refine⟨a,_,c,true,rfl,wu (w:=w14) (k=Pu) (nK (w:=w14) (!(k==Pu)) (ae.no rfl (ae.no rfl ⟨⟨⟨by decide,show(0:Int)<4 by decide⟩,hsm⟩,k,ld 0 k (Below.refl _ _) rfl,rfl,rfl⟩)) (ae.of (λh=>fin0 (j:=0) rfl ?_ b14) (λh=>⟨rfl,by simpa using h⟩))) ?_⟩
 · rw[hP,H8,if_neg (by simpa using h)]
 rintro rfl
 have hP:iF s=MN x y z:=by rw[hP,H8,if_pos rfl]
 refine⟨⟨⟨by decide,show(1:Int)<4 by decide⟩,hsm⟩,x,ld 1 x (Below.refl _ _) rfl,?_⟩
 refine aB (Jw x [42,46] w14) ?_
 rintro _ _ ⟨rfl,rfl⟩
 refine⟨_,_,rfl,?_⟩
 have htl:(Lib.trimPrefix x [42,46]).length <=x.length:=by unfold Lib.trimPrefix;split <;> simp
 have htr:Lib.trimPrefix x [42,46]=if Lib.hasPrefix x [42,46]=true then x.drop 2 else x:=rfl
 generalize hN:Lib.trimPrefix x [42,46]=N at*
 have B14:=ab b2 b14 b2.size
 refine aB (jU N (by omega) _ (he.step B14)) ?_
 rintro _ w40 ⟨rfl,b40⟩
 rw[my]
 refine⟨_,_,rfl,?_⟩
 have ok:((di N).getD nJ).ok:=by
   cases h:di N with
   | none=>rfl
   | some g=>exact jT h
 refine bc.new (zs:=nJ.cells) (cs:=((di N).getD nJ).cells) rfl (Hst.len ok) (Hst.one _) w40 λk9 w9 hk9 h9 hb9=>?_
 have b9:=ab b40 hb9 b40.size
 have C9:=ab b14 b9 b14.size
 refine⟨⟨⟨by decide,show(2:Int)<4 by decide⟩,hsm⟩,y,λu hu=>ld 2 y (ab b9 hu b9.size) rfl,λa l c u=>l=4/\c=4/\Ow tS ak u NoB a 4 4 VL,λa l c u v ⟨h1,h2,h3⟩ hb=>⟨h1,h2,h3.below hb⟩,λu hu=>aB (vP u) ?_,λa43 l43 c43=>⟨AV y,λu hu hj=>?_,λwq bq hj=>?_⟩⟩
 · rintro _ u' ⟨a',rfl,o',_,b'⟩
   exact⟨a',4,4,rfl,⟨rfl,rfl,o'⟩,b'⟩
 · obtain⟨rfl,rfl,o'⟩:=hj
   refine(QQ o'.all (by decide) y (by decide)).mono ?_
   rintro _ _ ⟨_,rfl,rfl,rfl⟩
   exact⟨by rw[Ue],Below.refl _ _⟩
 clear hj
 have Cq:=ab C9 bq C9.size
 have h9q:=h9.below bq
 have bq14:=ab b9 bq b9.size
 have key:(!((di N).isSome) || (Lib.hasPrefix x [42,46]&&(((di N).getD nJ).kind !=1)))=false->∃g,di N=some g/\ ¬ (Lib.hasPrefix x [42,46]=true/\g.kind≠1):=by
   intro h
   cases h3:di N with
   | none=>rw[h3]at h;cases h
   | some g=>
     rw[h3]at h
     have h:(Lib.hasPrefix x [42,46]&&(g.kind !=1))=false:=h
     exact⟨g,rfl,λ⟨h4,h5⟩=>by rw[h4]at h;exact h5 (by simpa using h)⟩
 have hW:∀{g},di N=some g-> ¬ (Lib.hasPrefix x [42,46]=true/\g.kind≠1)->iF s=if AV y<1 then(I4,211,2)else if ug z=false then(I4,43,3)else(⟨Lib.hasPrefix x [42,46],g,AV y==1 || AV y==3,AV y==2 || AV y==3,z⟩,0,0):=fun{g} hg hk=>by
   rw[hP]
   unfold MN
   rw[<- htr,hg]
   exact if_neg hk
 refine j8 (λW=>bW wq W/\∃g,di N=some g/\ ¬ (Lib.hasPrefix x [42,46]=true/\g.kind≠1)/\ ¬ AV y<1/\ ¬ ug z=false) (nK (w:=wq) (!((di N).isSome) || (Lib.hasPrefix x [42,46]&&(((di N).getD nJ).kind !=1))) ?_ ?_) ?_
 · cases h:di N with
   | none=>exact ae.yes rfl ⟨rfl,rfl⟩
   | some g=>
     rw[h]at h9q
     refine ae.no rfl (ae.of (λh2=>⟨rfl,g.kind,h9q.load1 cD rfl rfl,rfl,by rw[h2];rfl⟩) (λh2=>⟨rfl,by rw[h2];rfl⟩))
 · refine ae.of (λh=>fin0 (j:=1) rfl ?_ Cq) (λh=>?_)
   · rw[hP]
     unfold MN
     rw[<- htr]
     cases h3:di N with
     | none=>rfl
     | some g=>
       rw[h3]at h
       have h:(Lib.hasPrefix x [42,46]&&(g.kind !=1))=true:=h
       rw[Bool.and_eq_true]at h
       exact if_pos ⟨h.1,by simpa using h.2⟩
   obtain⟨g,hg,hk⟩:=key h
   refine ae.of (λh2=>fin0 (j:=2) rfl ((hW hg hk).trans (if_pos (by simpa using h2))) Cq) (λh2=>⟨⟨⟨by decide,show(3:Int)<4 by decide⟩,hsm⟩,z,ld 3 z bq14 rfl,aB (qX z wq) ?_⟩)
   have h2: ¬ AV y<1:=by simpa using h2
   rintro _ w68 ⟨rfl,b68⟩
   refine⟨_,rfl,ae.of (λh5=>fin0 (j:=3) rfl ((hW hg hk).trans (by rw[if_neg h2,if_pos (by simpa using h5)])) (ab Cq b68 Cq.size)) (λh5=>⟨b68,g,hg,hk,h2,by simpa using h5⟩)⟩
 rintro W ⟨bWq,g,hg,hk,h2,h3⟩
 have CW:=ab Cq bWq Cq.size
 have W14:=ab bq14 bWq bq14.size
 rw[hg]at h9q
 have og:g.ok:=jT hg
 obtain⟨e1,e2⟩:=Rt (Ud y h2)
 refine⟨⟨⟨by decide,show(3:Int)<4 by decide⟩,hsm⟩,g.v,λu hu=>bc.load0 (h9q.below (ab bWq hu bWq.size)) (Hst.len og),z,λu hu=>ld 3 z (ab W14 hu W14.size) rfl,_,λu hu=>by rw[e1,e2];exact Ni og _ _ _ z u,λwq2 b2=>?_⟩
 exact fin (j:=0) (p:=⟨Lib.hasPrefix x [42,46],g,AV y==1 || AV y==3,AV y==2 || AV y==3,z⟩) og rfl ((hW hg hk).trans (by rw[if_neg h2,if_neg h3])) (ab CW b2 CW.size)
def Je (s:List UInt8)(w:World)(v:Value)(w':World):Prop:=bW w w'/\match I8 s with
 | .inl ps=>∃a n c,v=.tuple #[.slice a n c,Ez (0,0,0)]/\Ow AY av w' NoB a n c ps/\bg w.heap.size a
 | .inr f=>v=.tuple #[.slice none 0 0,Ez f]/\f.1≠0
theorem Rk {w0 w:World}{a:Option Addr}{n c:Nat}{xs:List Pat}(ho:Ow AY av w NoB a n c xs)(hf:bg w0.heap.size a)(hb:bW w0 w){x:Pat}(o:x.ok)(hl:xs.length <=1000000):
   ∃(w1:World) (a1:Option Addr) (l1 c1:Nat),(Instr.buildSlice aS 1 #[(0,x.v)]).run prog w=.ok (.slice a1 l1 c1) w1/\
     ∃(w2:World) (a':Option Addr) (n' c':Nat),(Builtin.append_ #[aS,aS] aS #[.slice a n c,.slice a1 l1 c1]).run prog w1=.ok (.slice a' n' c') w2/\
       Ow AY av w2 NoB a' n' c' (xs++[x])/\bg w0.heap.size a'/\bW w0 w2:=
 ⟨_,_,_,_,TH o w,Cz FD fW pk (by decide) ho hf hb rfl rfl ⟨rfl,o⟩ (by omega)⟩
theorem ON (s:List UInt8):(iF s).2.1≠0\/(iF s).2.2=0:=by
 unfold iF
 split
 · exact .inl (by decide)
 unfold Q7
 split
 · split
   · unfold MN
     split
     · exact .inl (show(31:Int)≠0 by decide)
     split
     · exact .inl (show(31:Int)≠0 by decide)
     split
     · exact .inl (show(211:Int)≠0 by decide)
     split
     · exact .inl (show(43:Int)≠0 by decide)
     · exact .inr rfl
   · exact .inl (show(131:Int)≠0 by decide)
 · exact .inl (show(131:Int)≠0 by decide)
theorem Mj (s:List UInt8):(iF s).2.2 <=(dz 32 [] s).length:=by
 unfold iF
 split
 · exact Nat.zero_le _
 unfold Q7
 split
 · rename_i k a b c hL
   rw[hL]
   show(if k=Pu then MN a b c else(I4,131,0)).2.2 <=4
   split
   · unfold MN
     split
     · exact(by decide:1 <=4)
     split
     · exact(by decide:1 <=4)
     split
     · exact(by decide:2 <=4)
     split
     · exact(by decide:3 <=4)
     · exact Nat.zero_le _
   · exact Nat.zero_le _
 · exact Nat.zero_le _
set_option maxHeartbeats 1000000 in
theorem AE (s:List UInt8)(w:World)(he:Env w):Cf mY #[vS s] w (Ret (Je s w)):=by
 apply yG
 intro k3 w3 hk3 hw3
 have b3:=(hw3▸ah w _:bW w w3)
 have A3:ai w3 k3 aA (xW (0,0,0)):=ai.new hk3 hw3
 have lt3:=A3.lt
 have fin:∀{W:World} {a:Option Addr} {n c:Nat} (f:Flt),bW w3 W->(∀wx,bW w wx->W.grownBy wx (some k3)->Je s w (.tuple #[.slice a n c,Ez f]) wx)->∃wx,(Instr.storeAt aA (.pointer (some ⟨k3,0,none⟩)) (Ez f)).run prog W=.ok () wx/\
     ∃(p q r:Int),(aV aA (.pointer (some ⟨k3,0,none⟩))).run prog wx=.ok (.agg #[vI p,vI q,vI r]) wx/\Je s w (.tuple #[.slice a n c,.agg #[vI p,vI q,vI r]]) wx:=fun{W a n c} f hb hK=>by
   obtain⟨wx,q1,v1,g1⟩:=gM.store0 (P:=prog) (cs:=xW f) rfl (BQ _) (A3.below hb) rfl
   exact⟨wx,q1,f.1,f.2.1,f.2.2,ai.res (gM.load0 v1 rfl),hK wx (Below.put (ab b3 hb b3.size) g1 (by omega)) g1⟩
 have bad:∀{W:World} (f:Flt),I8 s=.inr f->f.1≠0->bW w3 W->_:=fun{W} f e h0 hb=>fin (a:=none) (n:=0) (c:=0) f hb λwx B _=>⟨B,by rw[e];exact⟨rfl,h0⟩⟩
 refine ae.of (λc1=>bad (54,1,1) (xV (by have:=of_decide_eq_true c1;omega)) (show(54:Int)≠0 by decide) (Below.refl _ _)) (λc1=>?_)
 have c1: ¬ 20000<s.length:=by have:=of_decide_eq_false c1;omega
 refine aB (pe s (by omega) w3 (he.step b3)) ?_
 rintro _ w15 ⟨b,nb,cb,rfl,ob,fb,b15⟩
 have hL:=Ck s
 have hM:=yh s
 have hV:I8 s=rE Lm 0 ((nk s).drop 0) []:=vo c1
 generalize nk s=L at*
 have S:=ob.all
 have hnb:=ob.len
 subst hnb
 refine⟨_,_,_,rfl,λm a n c i w'=>∃(j:Nat) (out:List Pat),j <=L.length/\i=(j:Int)/\m=L.length-j/\out.length <=12/\Ow AY av w' NoB a n c out/\bg w15.heap.size a/\bW w15 w'/\I8 s=rE Lm j (L.drop j) out,
   ⟨_,0,[],Nat.zero_le _,rfl,rfl,by decide,Ow.nil _ _ _ _,bg.none _,Below.refl _ _,hV⟩,λm a n c i=>aN.of ?_ _⟩
 rintro wl ⟨j,out,hj,rfl,rfl,h12,oo,fo,bl,hQ⟩
 have Bl:=ab b15 bl b15.size
 refine ae.of (λc2=>?_) (λc2=>?_) <;> simp only[dTx,dFx]at c2
 rotate_left
 · refine fin (0,0,0) Bl λwx B g=>⟨B,?_⟩
   rw[hQ,BM Lm (by omega)]
   exact⟨_,_,_,rfl,oo.put (λg hg e=>by have:=fo g hg;have:=b15.size;omega) g,fo.mono (ab b3 b15 b3.size).size⟩
 have hjl:j<L.length:=by omega
 have ew:i64.wrap ((j:Int)+1)=(j:Int)+1:=wrap_i64 (by omega) (by omega)
 have hxl:=hL _ (List.getElem_mem hjl)
 refine⟨⟨⟨by omega,c2⟩,S.isSome hjl⟩,L[j],(S.below bl).text aF hjl,?_⟩
 rw[ew]
 generalize hx:L[j]=x at*
 have next:∀{W:World} {a:Option Addr} {n c:Nat} {out':List Pat},Lm j out L[j]=.inl out'->out'.length <=12->Ow AY av W NoB a n c out'->bg w15.heap.size a->bW w15 W->∃m':Nat,m'<L.length-j/\∃(j':Nat) (out:List Pat),j' <=L.length/\(j:Int)+1=(j':Int)/\m'=L.length-j'/\out.length <=12/\Ow AY av W NoB a n c out/\bg w15.heap.size a/\bW w15 W/\I8 s=rE Lm j' (L.drop j') out:=
   fun{W a n c out'} e hl o f B=>⟨L.length-(j+1),by omega,j+1,out',by omega,rfl,rfl,hl,o,f,B,by rw[hQ,pI hjl e]⟩
 have nobody:x=[]\/x.head?=some 35->Lm j out L[j]=.inl out:=λh=>by rw[hx];unfold Lm;rw[if_pos h]
 refine j8 (λW=>W=wl/\ ¬ (x=[]\/x.head?=some 35)) ?_ ?_
 · refine ae.of (λc3=>next (nobody (.inl (eq_of_beq c3))) h12 oo fo bl) (λc3=>aB (Ib x [35] wl) ?_)
   rintro _ _ ⟨rfl,rfl⟩
   refine⟨_,rfl,?_⟩
   rw[FK]
   exact ae.of (λc4=>next (nobody (.inr (of_decide_eq_true c4))) h12 oo fo bl) (λc4=>⟨rfl,λh=>h.elim (λe=>by rw[e]at c3;cases c3) λe=>of_decide_eq_false c4 e⟩)
 rintro W ⟨rfl,hno⟩
 have hS:Lm j out L[j]=if(iF x).2.1≠0 then .inr ((iF x).2.1,(AH (dz 32 [] x) (iF x).2.2:Nat))else if out.any (Cw (iF x).1)=true then .inr (52,1)else if out.length=12 then .inr (53,1)else .inl (out++[(iF x).1]):=by rw[hx];unfold Lm;rw[if_neg hno]
 refine aB (AF x (by omega) W (he.step (ab b3 Bl b3.size))) ?_
 rintro _ w30 ⟨rfl,b30⟩
 have oP:=K6 x
 refine⟨_,_,_,rfl,iM.new (zs:=I4.cells) (cs:=(iF x).1.cells) rfl (Pat.len oP) (Pat.one _) w30 λk7 w7 hk7 h7 hb7=>?_⟩
 have c7:=ab b30 hb7 b30.size
 have C7:=ab bl c7 bl.size
 have o7:=oo.below c7
 refine⟨λn8 W'=>bW w7 W'/\((n8=0/\Lm j out L[j]=.inl (out++[(iF x).1])/\out.length<12)\/(n8≠0/\Lm j out L[j]=.inr (n8,(AH (dz 32 [] x) (iF x).2.2:Nat)))),?_,λn8=>aN.of ?_ _⟩
 · refine ae.of (λc5=>⟨Below.refl _ _,.inr ⟨by simpa using c5,by rw[hS,if_pos (by simpa using c5)]⟩⟩) (λc5=>⟨_,iM.load0 h7 (Pat.len oP),?_⟩)
   have c5:(iF x).2.1=0:=by simpa using c5
   have hw0:(iF x).2.2=0:=(ON x).resolve_left λh=>h c5
   rw[if_neg (by rw[c5];decide)]at hS
   rw[hw0,Hh]
   refine aB (BC o7.all oP) ?_
   rintro _ w40 ⟨rfl,b40⟩
   refine⟨_,rfl,ae.of (λc6=>⟨b40,.inr ⟨by decide,by rw[hS,if_pos c6];rfl⟩⟩) (λc6=>?_)⟩
   rw[if_neg (by rw[c6];decide)]at hS
   rw[o7.len]
   refine ae.of (λc8=>⟨b40,.inr ⟨by decide,by rw[hS,if_pos (U5 (k:=12) c8)];rfl⟩⟩) (λc8=>⟨b40,.inl ⟨c5,?_,?_⟩⟩)
   · have c8:out.length≠12:=SO (k:=12) c8
     rw[hS,if_neg c8]
   · have c8:out.length≠12:=SO (k:=12) c8
     omega
 rintro W' ⟨b',hcase⟩
 have CW:=ab C7 b' C7.size
 have BW:=ab b15 CW b15.size
 refine ae.of (λc9=>?_) (λc9=>?_)
 · have hne:n8≠0:=by simpa using c9
   obtain⟨_,e⟩:=hcase.resolve_left λh=>hne h.1
   refine aB (xd x (iF x).2.2 (by omega) (Mj x) W' (he.step (ab b3 BW b3.size))) ?_
   rintro _ w52 ⟨rfl,b52⟩
   refine⟨_,rfl,bad (n8,(j:Int)+1,_) ?_ hne (ab BW b52 BW.size)⟩
   rw[hQ,BL hjl e]
 · have h0:n8=0:=by simpa using c9
   obtain⟨_,e,hlt⟩:=hcase.resolve_right λh=>h.1 h0
   obtain⟨w56,a56,l56,c56,r56,w57,a57,l57,c57,r57,o57,f57,b57⟩:=Rk (o7.below b') fo CW oP (by omega)
   exact⟨_,iM.load0 (h7.below b') (Pat.len oP),w56,a56,l56,c56,r56,w57,a57,l57,c57,r57,next e (by simp;omega) o57 f57 b57⟩
section
variable {α β:Type} [DecidableEq α] {ek:α->Value} {ev:β->Value}
def Er (ek:α->Value)(ev:β->Value)(w:World)(r:Nat)(kvs:List (α×β))(k:α)(st:Nat):Prop:=
 ∃es clock i,w.heap[r]? =some (.map es clock)/\(es.toList.map (·.born)).Nodup/\(∀e∈es.toList,e.born<clock)/\es.findIdx? (λe=>(e.born:Int)==(st:Int))=some i/\∀v,KVg ek ev (es.modify i λe=> { e with val:=ev v }).toList (upG k v kvs)
theorem Er.keep {w w':World}{r:Nat}{kvs:List (α×β)}{k:α}{st:Nat}(h:Er ek ev w r kvs k st)(hb:w'.heap[r]? =w.heap[r]?):Er ek ev w' r kvs k st:=by
 obtain⟨es,c,i,hh,hk⟩:=h
 exact⟨es,c,i,hb.trans hh,hk⟩
theorem HP {es:Array MapEntry}(hn:(es.toList.map (·.born)).Nodup){i:Nat}(hi:i<es.size):es.findIdx? (λe=>(e.born:Int)==((es[i].born:Nat):Int))=some i:=by
 rw[Array.findIdx?_eq_some_iff_getElem]
 refine⟨hi,by simp,λj hj=>?_⟩
 have hp:=List.pairwise_iff_getElem.1 hn j i (by simp;omega) (by simpa using hi) hj
 simp only[List.getElem_map,Array.getElem_toList]at hp
 rw[beq_iff_eq]
 omega
theorem Cr {γ:Type}(f:γ->γ):∀(l:List γ) (x:γ),(l++[x]).modify l.length f=l++[f x]
 | [],_=>rfl
 | a::l,x=>by
   show a::((l++[x]).modify l.length f)=_
   rw[Cr f l x];rfl
theorem Cs {γ:Type}(f:γ->γ):∀(l:List γ) (i:Nat),(∀x,l[i]? =some x->f x=x)->l.modify i f=l
 | [],i,_=>by cases i <;> rfl
 | a::l,0,h=>by
   show f a::l=_
   rw[h a rfl]
 | a::l,i+1,h=>by
   show a::l.modify i f=_
   rw[Cs f l i λx hx=>h x (by simpa using hx)]
theorem zP.entry {P:Program}{mt kt et:TypeId}{n bytes:Nat}{z:Value}(hm:P.underlying mt=some (.map kt et))(hk:Dp P kt ek)(hs:∀k,Instr.sameBits 10000 (ek k) (ek k)=true)(he:TF P et n bytes z){w:World}{r:Nat}{kvs:List (α×β)}(h:zP ek ev w r kvs)(k:α)(b0:β)(hz0:ev b0=z):
   ∃(w':World) (st:Nat),(Instr.mapEntry mt (.map (some r)) (ek k)).run P w=.ok (.tuple #[((nM k kvs).map ev).getD z,goInt (st:Int)]) w'/\Er ek ev w' r kvs k st/\w.grownBy w' (some r)/\∀z0,z=ev z0->xR ek ev w' r (upG k ((nM k kvs).getD z0) kvs):=by
 obtain⟨es,c,hh,hkv,hn,hc⟩:=h
 obtain⟨inf,hinf,_,_,hz⟩:=he.info
 have hlt:r<w.heap.size:=(Array.getElem?_eq_some_iff.1 hh).1
 unfold Instr.mapEntry
 rw[<- vy k kvs 0]
 cases hi:ma k kvs 0 with
 | none=>
   refine⟨_,c,?_,⟨es.push { key:=ek k,val:=z,born:=c },c+1,es.size,?_,?_,?_,?_,?_⟩,BR (.map (es.push { key:=ek k,val:=z,born:=c }) (c+1)),λz0 hz0=>⟨_,_,(by simp[hlt]:_=some (Obj.map (es.push { key:=ek k,val:=z,born:=c }) (c+1))),?_⟩⟩
   · simp only[Sem.run_bind,bK hm,Result.andThen_ok,vp hh,hk.check,hk.find ev k _ _ _ hkv,hi,Option.map_none,zeroValue,jj hinf,hz,yJ hh,Sem.run_pure,Option.getD_none]
   · simp[hlt]
   · rw[Array.toList_push,List.map_append,List.nodup_append]
     refine⟨hn,by simp,λa ha b hb=>?_⟩
     obtain⟨e,he,rfl⟩:=List.mem_map.1 ha
     simp only[List.map_cons,List.map_nil,List.mem_singleton]at hb
     have:=hc e he
     omega
   · intro e he
     rw[Array.toList_push]at he
     rcases List.mem_append.1 he with he|he
     · have:=hc e he;omega
     · rw[List.mem_singleton.1 he];exact Nat.lt_succ_self _
   · rw[Array.findIdx?_eq_some_iff_getElem]
     refine⟨by simp,by simp,λj hj=>?_⟩
     rw[Array.getElem_push_lt hj]
     have:=hc es[j] (by simp)
     simp
     omega
   · intro v
     unfold upG
     rw[hi,Array.toList_modify,Array.toList_push]
     unfold KVg at hkv ⊢
     rw[<- Array.length_toList,Cr]
     simp only[List.map_append,List.map_cons,List.map_nil,hkv]
   · subst hz0
     unfold upG KVg at*
     rw[hi,Array.toList_push]
     simp only[List.map_append,List.map_cons,List.map_nil,hkv,Option.map_none,Option.getD_none]
 | some p=>
   obtain⟨i,v'⟩:=p
   obtain⟨_,hat⟩:=Cl k kvs 0 i v' hi
   rw[Nat.sub_zero]at hat
   have hlen:=TA hkv
   have hil:i<es.size:=by have:=(List.getElem?_eq_some_iff.1 hat).1;rw[Array.length_toList]at hlen;omega
   have hkey:es[i].key=ek k:=by
     have:=congrArg (λl=>l[i]?) hkv
     simp only[List.getElem?_map,hat,Array.getElem?_toList,Array.getElem?_eq_getElem hil]at this
     exact congrArg Prod.fst (Option.some.inj this)
   refine⟨_,es[i].born,?_,⟨es.modify i (λe=> { e with key:=ek k }),c,i,?_,?_,?_,?_,?_⟩,BR (.map (es.modify i λe=> { e with key:=ek k }) c),λz0 hz0=>⟨_,_,(by simp[hlt]:_=some (Obj.map (es.modify i λe=> { e with key:=ek k }) c)),?_⟩⟩
   · simp only[Sem.run_bind,bK hm,Result.andThen_ok,vp hh,hk.check,hk.find ev k _ _ _ hkv,hi,Option.map_some,Array.getElem?_eq_getElem hil,Option.getD_some,hkey,stays (hs k),yJ hh,Sem.run_pure]
   · simp[hlt]
   · rw[Array.toList_modify,mK es.toList i (λe=> { e with key:=ek k }) (λe=>rfl)];exact hn
   · rw[Array.toList_modify];exact Nf hc (mK es.toList i (λe=> { e with key:=ek k }) (λe=>rfl))
   · have hn2:((es.modify i (λe=> { e with key:=ek k })).toList.map (·.born)).Nodup:=by
       rw[Array.toList_modify,mK es.toList i (λe=> { e with key:=ek k }) (λe=>rfl)];exact hn
     have hil2:i<(es.modify i (λe=> { e with key:=ek k })).size:=by simpa using hil
     have:=HP hn2 hil2
     rw[Array.getElem_modify_self]at this
     exact this
   · intro v
     unfold upG
     rw[hi,Array.toList_modify,Array.toList_modify]
     have h1:=EG (v:=v') hkv hat (λe=> { e with key:=ek k,val:=ev v' }) λe _=>⟨rfl,rfl⟩
     have e2:(es.toList.modify i λe=> { e with key:=ek k }).modify i (λe=> { e with val:=ev v })=es.toList.modify i λe=> { e with key:=ek k,val:=ev v } :=by
       rw[List.modify_modify_eq];rfl
     rw[e2]
     exact EG hkv hat _ λe _=>⟨rfl,rfl⟩
   · unfold upG
     rw[hi,Array.toList_modify]
     have hval:es[i].val=ev v':=by
       have:=congrArg (λl=>l[i]?) hkv
       simp only[List.getElem?_map,hat,Array.getElem?_toList,Array.getElem?_eq_getElem hil]at this
       exact congrArg Prod.snd (Option.some.inj this)
     have e1:es.toList.modify i (λe=> { e with key:=ek k })=es.toList:=by
       refine Cs _ _ _ λe he=>?_
       rw[Array.getElem?_toList,Array.getElem?_eq_getElem hil]at he
       cases he
       rw[<- hkey]
     have e4:kvs.set i (k,v')=kvs:=by
       obtain⟨hl,e⟩:=List.getElem?_eq_some_iff.1 hat
       rw[<- e,List.set_getElem_self]
     rw[e1]
     simp only[Option.map_some,Option.getD_some]
     rw[e4];exact hkv
theorem Er.store {P:Program}{mt:TypeId}{w:World}{r:Nat}{kvs:List (α×β)}{k:α}{st:Nat}(h:Er ek ev w r kvs k st)(v:β):
   ∃w',(Instr.entryStore mt (.map (some r)) (goInt st) (ev v)).run P w=.ok () w'/\zP ek ev w' r (upG k v kvs)/\w.grownBy w' (some r):=by
 obtain⟨es,c,i,hh,hn,hc,hi,hkv⟩:=h
 have hlt:r<w.heap.size:=(Array.getElem?_eq_some_iff.1 hh).1
 refine⟨_,?_,⟨es.modify i (λe=> { e with val:=ev v }),c,?_,hkv v,?_,?_⟩,BR (.map (es.modify i λe=> { e with val:=ev v }) c)⟩
 · unfold Instr.entryStore
   simp only[Sem.run_bind,vp hh,Result.andThen_ok,goInt,asInt,nu,Sem.run_pure,hi,yJ hh]
 · simp[hlt]
 · rw[Array.toList_modify,mK es.toList i (λe=> { e with val:=ev v }) (λe=>rfl)];exact hn
 · rw[Array.toList_modify];exact Nf hc (mK es.toList i (λe=> { e with val:=ev v }) (λe=>rfl))
theorem K1 (k:α)(v:β):∀(l:List (α×β)) (i j:Nat) (v':β),ma k l i=some (j,v')->nM k (l.set (j-i) (k,v))=some v
 | [],i,j,v',h=>by cases h
 | (k',x)::l,i,j,v',h=>by
   unfold ma at h
   split at h
   · cases h
     rw[Nat.sub_self]
     exact if_pos rfl
   · rename_i hne
     have h1:=(Cl k l (i+1) j v' h).1
     rw[show j-i=(j-(i+1))+1 by omega]
     show(if k=k' then some x else nM k (l.set (j-(i+1)) (k,v)))=_
     rw[if_neg hne]
     exact K1 k v l (i+1) j v' h
theorem K0 (k:α)(v:β)(kvs:List (α×β)):nM k (upG k v kvs)=some v:=by
 unfold upG
 split
 · rename_i i v' h
   have:=K1 k v kvs 0 i v' h
   rwa [Nat.sub_zero]at this
 · rename_i h
   have e:nM k kvs=none:=by rw[<- vy k kvs 0,h];rfl
   rw[wL,e,if_pos rfl];rfl
end
theorem WJ (g i k j:Nat):am (am (some ⟨g,0,none⟩) (i:Int) k) (j:Int) 1=some ⟨g,i*k+j,none⟩:=by
 rw[jG,jG];simp
theorem QW {α:Type}(l:List α)(p k j:Nat)(v:α)(hj:j<k)(hl:p+k <=l.length):l.take (p+j)++[v]++l.drop (p+j+1)=l.take p++(((l.drop p).take k).set j v)++l.drop (p+k):=by
 have e1:l=l.take p++((l.drop p).take k++l.drop (p+k)):=by
   rw[<- List.drop_drop,List.take_append_drop,List.take_append_drop]
 generalize hA:l.take p=A at*
 generalize hB:(l.drop p).take k=B at*
 generalize hC:l.drop (p+k)=C at*
 have lA:A.length=p:=by rw[<- hA];simp;omega
 have lB:B.length=k:=by rw[<- hB];simp;omega
 clear hA hB hC
 subst e1
 have t1:(A++(B++C)).take (p+j)=A++B.take j:=by
   rw[List.take_append,List.take_of_length_le (by omega),lA,show p+j-p=j by omega,List.take_append_of_le_length (by omega)]
 have t2:(A++(B++C)).drop (p+j+1)=B.drop (j+1)++C:=by
   rw[List.drop_append,List.drop_of_length_le (by omega),List.nil_append,lA,show p+j+1-p=j+1 by omega,List.drop_append_of_le_length (by omega)]
 rw[t1,t2,List.set_eq_take_append_cons_drop,if_pos (by omega)]
 simp
theorem Sl.loadC {α:Type}{T:Ty α}{P:Program}{u:TypeId}{d:TypeDesc}(hu:P.underlying u=some d)(ha:Et d=false){w:World}{A:Bl}{a:Option Addr}{n c:Nat}{xs:List α}(h:Sl T w A a n c xs){i j k:Nat}(hk:T.k=k)(hi:i<xs.length)(hj:j<k)
   {v:Value} (hv:∀vs,T.rep w A vs xs[i]->vs[j]? =some v):(Instr.loadAt u (.pointer (am (am a (i:Int) k) (j:Int) 1))).run P w=.ok v w:=by
 subst hk
 rcases h.2.2.2 with h4|⟨b,off,e,hb,hab,h4⟩
 · subst h4;cases hi
 · obtain⟨vs,h5,h6⟩:=h4.elem hi
   rw[e,jG,jG]
   show(do loadVar u (<- Instr.sureAddr (.pointer (some _)))).run P w=_
   rw[Sem.run_bind,gk]
   refine gE hu ha ?_
   have:=h6 j hj
   rw[hv vs h5]at this
   simpa using this
theorem Ow.store1 {α:Type}{T:Ty α}{P:Program}{t u:TypeId}{bytes:Nat}{z:Value}(tf:TF P u 1 bytes z){w:World}{A:Bl}{a:Option Addr}{n c:Nat}{xs:List α}(ho:Ow T t w A a n c xs)(hA:∀g,dV a=some g-> ¬ A g)
   {i j k:Nat} (hk:T.k=k) (hi:i<xs.length) (hj:j<k) {v:Value} (h1:v.oneCell'=true) (hc:v.cells= #[v]) {x:α} (hv:∀vs,T.rep w A vs xs[i]->T.rep w A (vs.set j v) x):
   ∃w',(Instr.storeAt u (.pointer (am (am a (i:Int) k) (j:Int) 1)) v).run P w=.ok () w'/\Ow T t w' A a n c (xs.set i x)/\w.grownBy w' (dV a):=by
 subst hk
 obtain⟨ti,hti,hsz,_,_⟩:=tf.info
 obtain⟨hn,hnc,hcm,ho4⟩:=ho
 rcases ho4 with⟨_,_,rfl⟩|⟨g,cur,fr,rfl,hg,hf,hcs,hrep⟩
 · cases hi
 · subst hn
   have hb:i*T.k+T.k <=xs.length*T.k:=by
     have:=Nat.mul_le_mul_right T.k (show i+1 <=xs.length from hi)
     rwa [Nat.add_mul,Nat.one_mul]at this
   have hb2:xs.length*T.k <=cur.size:=by rw[hcs];exact Nat.mul_le_mul_right _ hnc
   have hx:=hrep.rep i hi
   have hvs:=hv _ hx
   have hvl:=T.len hvs
   rw[WJ]
   have hst:=run_storeVar_row (P:=P) hti (o:=i*T.k+j) hg hf (v:=v) (by rw[hc,hsz];rfl) (by rw[hsz];omega) (λx hx=>by rw[hc]at hx;simp at hx;rw[hx];exact h1)
   have hrow:(cur.toList.take (i*T.k+j)++v.cells.toList++cur.toList.drop (i*T.k+j+v.cells.size))=cur.toList.take (i*T.k)++(((cur.toList.take (xs.length*T.k)).drop (i*T.k)).take T.k).set j v++cur.toList.drop (i*T.k+T.k):=by
     rw[hc]
     have e:=QW cur.toList (i*T.k) T.k j v hj (by simp;omega)
     have e2:((cur.toList.take (xs.length*T.k)).drop (i*T.k)).take T.k=(cur.toList.drop (i*T.k)).take T.k:=by
       rw[List.drop_take,List.take_take];congr 1;omega
     rw[e2];exact e
   rw[hrow]at hst
   generalize (((cur.toList.take (xs.length*T.k)).drop (i*T.k)).take T.k).set j v=vs' at*
   refine⟨_,hst,?_,fw w g _⟩
   refine⟨by simp,hnc,hcm,.inr ⟨g,_,fr,rfl,setRow_heap w g cur _ t fr hg,?_,?_,?_⟩⟩
   · intro j' hj'
     refine hf j' ?_
     simp at hj';omega
   · simp;omega
   · have h2:=(hrep.set hi hvs).keep (fQ (fw w g (cur.toList.take (i*T.k)++vs'++cur.toList.drop (i*T.k+T.k)).toArray) λb hb e=>hA g rfl (by cases e;exact hb))
     have e:((cur.toList.take (i*T.k)++vs'++cur.toList.drop (i*T.k+T.k)).toArray).toList.take (xs.length*T.k)=
         (cur.toList.take (xs.length*T.k)).take (i*T.k)++vs'++(cur.toList.take (xs.length*T.k)).drop (i*T.k+vs'.length):=by
       simp only[]
       have e1:(cur.toList.take (xs.length*T.k)).take (i*T.k)=cur.toList.take (i*T.k):=by rw[List.take_take];congr 1;omega
       rw[e1,List.take_append,List.drop_take]
       have e2:(cur.toList.take (i*T.k)++vs').length=i*T.k+T.k:=by simp[hvl];omega
       rw[e2,List.take_of_length_le (by rw[e2];omega)]
       congr 2
       · rw[hvl]
       · rw[hvl]
     rw[e];exact h2
def ekE (e:rC):Value:=.agg #[vI e.1,vS e.2]
def evI (n:Int):Value:=vI n
def tB4:Ty (List Bool) where
 k:=4
 pos:=by decide
 rep:=λ_ _ vs x=>vs=x.map Value.bool/\x.length=4
 len:=λh=>by rw[h.1,List.length_map,h.2]
 one:=fun{_ _ _ x} h v hv=>by rw[h.1]at hv;obtain⟨b,_,rfl⟩:=List.mem_map.1 hv;rfl
 keep:=λh _=>h
 mono:=λh _=>h
theorem NV:Flat tB4:=λ_ _ _ _ _ _ h=>h
def Kb:Ty Rul where
 k:=2
 pos:=by decide
 rep:=λ_ _ vs r=>vs=AU r
 len:=λh=>by rw[h];rfl
 one:=fun{_ _ _ x} h v hv=>by rw[h]at hv;exact(aJ rfl (aJ rfl gX):vX (AU x)) v hv
 keep:=λh _=>h
 mono:=λh _=>h
structure rP (w0:World)(t te:TypeId)(kt km:Nat)(a:Option Addr)(n c:Nat)(ps:List Pth)(kvs:List (rC×Int))(es:List (List Bool))(rs:List Rul)(w:World):Prop where
 h1:ai w kt t [.map (some km),.slice a n c]
 h2:xR ekE evI w km kvs
 h3:Ow tB4 te w NoB a n c es
 T:MH ps kvs
 t:Tab ps es rs
 hb:bW w0 w
 ne:km≠kt
 og:∀g,dV a=some g->g≠kt/\g≠km/\w0.heap.size <=g
 kt0:w0.heap.size <=kt
 km0:w0.heap.size <=km
theorem rP.below {w0:World}{t te:TypeId}{kt km:Nat}{a:Option Addr}{n c:Nat}{ps:List Pth}{kvs:List (rC×Int)}{es:List (List Bool)}{rs:List Rul}{w w':World}(S:rP w0 t te kt km a n c ps kvs es rs w)(h:bW w w'):rP w0 t te kt km a n c ps kvs es rs w':=
 ⟨S.h1.below h,S.h2.below h,S.h3.below h,S.T,S.t,ab S.hb h S.hb.size,S.ne,S.og,S.kt0,S.km0⟩
theorem wP {α:Type}{T:Ty α}{t:TypeId}{w w':World}{a:Option Addr}{n c:Nat}{xs:List α}(h:Ow T t w NoB a n c xs){r:Option Nat}(hg:w.grownBy w' r)(hne:∀g,dV a=some g->r≠some g):Ow T t w' NoB a n c xs:=
 h.keep (fQ hg λb hb e=>by
   rcases hb with hb|hb
   · exact hb
   · exact hne b hb.symm e.symm)
theorem Cn {ek:rC->Value}{ev:Int->Value}{w w':World}{r:Nat}{kvs:List (rC×Int)}(h:xR ek ev w r kvs){k:Option Nat}(hg:w.grownBy w' k)(hne:k≠some r):xR ek ev w' r kvs:=h.keep (hg.block r h.lt λe=>hne e.symm)
structure UJ (w0:World)(t te ts tr:TypeId)(kt km k3:Nat)(rs:List Rul)(r:Rul)(aL:Option Addr)(nL cL:Nat)(L:List (List UInt8))(N:Nat)(p:Pth)(node:Nat)(w:World):Prop where
 ex:∃a n c ps kvs es,rP w0 t te kt km a n c ps kvs es rs w/\Dn p ps 0=some node/\ps.length <=N/\(∀g,dV a=some g->g≠k3/\dV aL≠some g)
 hL:Ow tS ts w NoB aL nL cL L
 h3:ai w k3 tr (AU r)
 s1:kt≠k3
 s2:km≠k3
 s3:dV aL≠some kt
 s4:dV aL≠some km
theorem UJ.below {w0:World}{t te ts tr:TypeId}{kt km k3:Nat}{rs:List Rul}{r:Rul}{aL:Option Addr}{nL cL:Nat}{L:List (List UInt8)}{N:Nat}{p:Pth}{node:Nat}{w w':World}(S:UJ w0 t te ts tr kt km k3 rs r aL nL cL L N p node w)(h:bW w w'):UJ w0 t te ts tr kt km k3 rs r aL nL cL L N p node w':=by
 obtain⟨a,n,c,ps,kvs,es,h1,h2,h3,h4⟩:=S.ex
 exact⟨⟨a,n,c,ps,kvs,es,h1.below h,h2,h3,h4⟩,S.hL.below h,S.h3.below h,S.s1,S.s2,S.s3,S.s4⟩
theorem Uw:∃fs,prog.underlying cP=some (.struct fs):=⟨_,rfl⟩
theorem tW:Dp prog cP ekE:=by
 obtain⟨fs,h⟩:=Uw
 refine Dp.struct h (λa b=>?_) (λb k w=>?_)
 · obtain⟨a1,a2⟩:=a
   obtain⟨b1,b2⟩:=b
   have e:eqV prog 10000 cP (ekE (a1,a2)) (ekE (b1,b2))=some ((a1==b1)&&((a2==b2)&&true)):=by kernel_rfl
   rw[e]
   congr 1
   rw[Bool.eq_iff_iff];simp
 · obtain⟨a1,a2⟩:=k
   kernel_rfl
theorem GN:Whl prog cP 2:=⟨⟨_,_,Ej⟩,by kernel_rfl⟩
def Sz (w0:World)(kt km:Nat)(rs:List Rul)(N:Nat)(v:Value)(w':World):Prop:=
 v=.tuple #[]/\∃a n c ps kvs es,rP w0 bC bP kt km a n c ps kvs es rs w'/\ps.length <=N
theorem GE {w0:World}(he:Env w0){kt km:Nat}{a:Option Addr}{n c:Nat}{ps:List Pth}{kvs:List (rC×Int)}{es:List (List Bool)}{rs:List Rul}{w:World}(S:rP w0 bC bP kt km a n c ps kvs es rs w)(r:Rul)
   (hk:∃k:Nat,r.1=(k:Int)/\k<4) (hr:r.2.length <=253) {N:Nat} (hN:ps.length <=N) (hN2:N <=1000000000):
   Cf jP #[.pointer (some ⟨kt,0,none⟩),CB r] w (Ret (Sz w0 kt km (rs++[r]) (N+300))):=by
 obtain⟨rk,rn⟩:=r
 obtain⟨kk,hkk,hk4⟩:=hk
 simp only at hkk hr
 subst hkk
 apply uj
 intro k3 w3 hk3 hw3
 have hb3:=(hw3▸ah w _:bW w w3)
 have h3:ai w3 k3 aE (AU ((kk:Int),rn)):=ai.new hk3 hw3
 have lt1:=S.h1.lt
 have lt2:=S.h2.lt
 have S3:=S.below hb3
 refine⟨rfl,_,h3.load1 aF rfl rfl,?_⟩
 refine aB (dQ rn 46 (by omega) w3 (he.step S3.hb)) ?_
 rintro _ w4 ⟨aL,nL,cL,rfl,hoL,hfL,hb4⟩
 have hcc:(dz 46 [] rn).length <=300:=by have:=dZ 46 rn [];omega
 have hR:gY ((kk:Int),rn)=(dz 46 [] rn).reverse:=rfl
 generalize dz 46 [] rn=L at*
 have hnL:=hoL.len
 subst hnL
 refine⟨_,_,_,rfl,?_⟩
 have hs3:=hb3.size
 have S4:=S3.below hb4
 have P0:UJ w0 bC bP ak aE kt km k3 rs ((kk:Int),rn) aL L.length cL L (N+0) [] 0 w4:=by
   refine⟨⟨a,n,c,ps,kvs,es,S4,?_,hN,λg hg=>⟨?_,?_⟩⟩,hoL,h3.below hb4,by omega,by omega,λhx=>?_,λhx=>?_⟩
   · exact S.T.first 0 [] S.T.root
   · have:=S.h3.lt g hg;omega
   · intro hx;have:=hfL g hx;have:=S.h3.lt g hg;omega
   · have:=hfL _ hx;omega
   · have:=hfL _ hx;omega
 have e0:i64.wrap (((L.length:Nat):Int)-1)=((L.length:Nat):Int)-1:=wrap_i64 (by omega) (by omega)
 try dsimp only
 rw[e0]
 clear S3 S4 S
 refine⟨λm nd i w'=>∃(k node:Nat),k <=L.length/\i=((L.length:Nat):Int)-1-(k:Int)/\m=L.length-k/\nd=(node:Int)/\UJ w0 bC bP ak aE kt km k3 rs ((kk:Int),rn) aL L.length cL L (N+k) ((gY ((kk:Int),rn)).take k) node w',⟨_,0,0,by omega,by omega,rfl,rfl,P0⟩,?_⟩
 intro m nd i
 refine aN.of ?_ _
 rintro w5 ⟨k,node,hkl,rfl,rfl,rfl,P5⟩
 refine ae.of (λh=>?_) (λh=>?_) <;> simp only[ge_iff_le,dTx,dFx]at h
 · have hlt:k<L.length:=by omega
   have ei:((L.length:Nat):Int)-1-(k:Int)=((L.length-1-k:Nat):Int):=by omega
   rw[ei]
   refine⟨⟨⟨by omega,by omega⟩,P5.hL.all.isSome (by omega)⟩,_,P5.hL.all.text aF (by omega),?_⟩
   have hRk:(gY ((kk:Int),rn)).take (k+1)=(gY ((kk:Int),rn)).take k++[L[L.length-1-k]'(by omega)]:=by
     rw[hR,List.take_succ_eq_append_getElem (by simpa using hlt),List.getElem_reverse]
   generalize L[L.length-1-k]'(by omega)=lab at*
   refine GN.new (zs:=[vI 0,vS []]) (cs:=[vI (node:Int),vS lab]) rfl rfl (aJ rfl (aJ rfl gX)) w5 λk7 w7 hk7 h7 hb7=>?_
   have P7:=P5.below hb7
   simp only[Bg]
   obtain⟨a5,n5,c5,ps5,kvs5,es5,S7,hp5,hN5,hog5⟩:=P7.ex
   have pn:=(pR hp5).2
   rw[Nat.sub_zero]at pn
   have hedge:=S7.T.edge node lab
   rw[pn]at hedge
   simp only at hedge
   have lt7:=h7.lt
   have ltm:=S7.h2.lt
   have ltt:=S7.h1.lt
   have hkk7:k7≠km/\k7≠kt/\k7≠k3:=by
     have:=P5.h3.lt
     obtain⟨_,_,_,_,_,_,S5,_⟩:=P5.ex
     have:=S5.h1.lt
     have:=S5.h2.lt
     omega
   have hog7:∀g,dV a5=some g->g≠k7:=λg hg=>by
     obtain⟨a6,n6,c6,ps6,kvs6,es6,S5,_⟩:=P5.ex
     have e1:=S5.h1.below hb7
     have e2:=S7.h1
     unfold ai at e1 e2
     rw[e1]at e2
     simp only[Option.some.injEq,Obj.cells.injEq,and_true,true_and]at e2
     have e3:a6=a5:=by
       have:=congrArg (λx:Array Value=>x[1]?) e2
       simp at this
       exact this.1
     subst e3
     have:=S5.h3.lt g hg
     omega
   have hol7:∀g,dV aL=some g->g≠k7:=λg hg=>by have:=P5.hL.lt g hg;omega
   have luk:∀u,bW w7 u->(Instr.loadAt bF (.pointer (some ⟨kt,0,none⟩))).run prog u=.ok (.map (some km)) u:=λu hu=>(S7.h1.below hu).load1 bD rfl rfl
   have led:∀u,bW w7 u->(Instr.loadAt cP (.pointer (some ⟨k7,0,none⟩))).run prog u=.ok (.agg #[vI (node:Int),vS lab]) u:=λu hu=>GN.load0 (h7.below hu) rfl
   refine⟨λwj=>∃i2:Nat,UJ w0 bC bP ak aE kt km k3 rs ((kk:Int),rn) aL L.length cL L (N+(k+1)) ((gY ((kk:Int),rn)).take (k+1)) i2 wj/\(∃a n c ps kvs es,rP w0 bC bP kt km a n c ps kvs es rs wj/\nM ((node:Int),lab) kvs=some (i2:Int))/\ai wj k7 cP [vI (node:Int),vS lab],?_,?_⟩
   · refine⟨rfl,rfl,_,luk,_,_,led,?_⟩
     cases hq:Dn ((gY ((kk:Int),rn)).take k++[lab]) ps5 0 with
     | some i2=>
       rw[hq]at hedge
       refine⟨(i2:Int),true,λu hu=>?_,?_⟩
       · have:=(S7.h2.below hu).look2 (P:=prog) bD tW fV ((node:Int),lab)
         rw[hedge]at this;exact this
       intro wq hwq
       refine ae.no rfl ?_
       rw[hRk]
       have P8:=P7.below hwq
       exact⟨i2,⟨⟨a5,n5,c5,ps5,kvs5,es5,S7.below hwq,hq,by omega,hog5⟩,P8.hL,P8.h3,P8.s1,P8.s2,P8.s3,P8.s4⟩,⟨a5,n5,c5,ps5,kvs5,es5,S7.below hwq,hedge⟩,h7.below hwq⟩
     | none=>
       rw[hq]at hedge
       have hno:=pQ.1 hq
       refine⟨0,false,λu hu=>?_,?_⟩
       · have:=(S7.h2.below hu).look2 (P:=prog) bD tW fV ((node:Int),lab)
         rw[hedge]at this;exact this
       intro wq hwq
       have S8:=S7.below hwq
       have P8:=P7.below hwq
       have h78:=h7.below hwq
       refine ae.yes rfl ⟨rfl,rfl,_,λu hu=>(S8.h1.below hu).load1 bD rfl rfl,_,_,λu hu=>GN.load0 (h78.below hu) rfl,rfl,rfl,_,_,_,λu hu=>(S8.h1.below hu).load1 fg rfl rfl,?_⟩
       intro wr hwr
       have S9:=S8.below hwr
       have P9:=P8.below hwr
       have h79:=h78.below hwr
       have hn5:=S9.h3.len
       have hesl:=S9.t.len
       obtain⟨wa,hsa,hma,hga⟩:=S9.h2.put (P:=prog) bD tW (k:=((node:Int),lab)) hedge (((n5:Nat):Int))
       refine⟨wa,hsa,?_⟩
       have h1a:=S9.h1.grown hga (mc S9.ne.symm)
       have h3a:=wP S9.h3 hga λg hg e=>(S9.og g hg).2.1 (Option.some.inj e).symm
       have hLa:=wP P9.hL hga λg hg e=>P9.s4 (by rw[hg,<- e])
       have hRa:=P9.h3.grown hga (mc P9.s2.symm)
       have h7a:=h79.grown hga (mc hkk7.1)
       have hBa:=Below.put S9.hb hga S9.km0
       refine⟨rfl,rfl,_,_,_,h1a.load1 fg rfl rfl,?_⟩
       intro kb wb hkb hwb
       have hbb:=(hwb▸ah wa _:bW wa wb)
       have hBb:=ab hBa hbb hBa.size
       have hsrc:Src tB4 wb NoB (some ⟨kb,0,none⟩) 1 [[false,false,false,false]]:=Src.new1F NV hkb hwb ⟨rfl,rfl⟩
       obtain⟨wc,ac,nc,cc,hrc,h3c,hgc,hfc⟩:=dF (P:=prog) (ty:=bU) fg IB (by decide) (h3a.below hbb) (λ_ _ h=>h) (cm:=1) hsrc (by simp;omega)
       refine⟨wc,ac,nc,cc,hrc,rfl,rfl,?_⟩
       have ltka:=h1a.lt
       have ltma:=hma.lt
       have sza:=hbb.size
       have nog:∀x,(∀g,dV a5=some g->g≠x)->some x≠dV a5:=λx h e=>h x e.symm rfl
       have h1c:=(h1a.below hbb).grown hgc (nog kt λg hg=>(S9.og g hg).1)
       have hmc:=Cn (hma.below hbb) hgc (nog km λg hg=>(S9.og g hg).2.1).symm
       have hLc:=wP (hLa.below hbb) hgc λg hg e=>(hog5 g e).2 hg
       have hRc:=(hRa.below hbb).grown hgc (nog k3 λg hg=>(hog5 g hg).1)
       have h7c:=(h7a.below hbb).grown hgc (nog k7 hog7)
       have hBc:bW w0 wc:=hBb.grown hgc hBb.size λx e=>(S9.og x e).2.2
       obtain⟨wd,hsd,h1d,hgd⟩:=h1c.put (P:=prog) CX (i:=1) (v:=.slice ac nc cc) (show 1<2 by decide) rfl rfl
       refine⟨wd,hsd,?_⟩
       have hacn:∀g,dV ac=some g->g≠kt/\g≠km/\w0.heap.size <=g/\g≠k3/\dV aL≠some g:=λg hg=>by
         rcases hfc g hg with e|e
         · have:=S9.og g e
           have h2:=hog5 g e
           exact⟨this.1,this.2.1,this.2.2,h2.1,h2.2⟩
         · have:=hBb.size
           have:=(hRa.below hbb).lt
           have h3:∀x,dV aL=some x->x<wb.heap.size:=(hLa.below hbb).lt
           exact⟨by omega,by omega,by omega,by omega,λhx=>by have:=h3 g hx;omega⟩
       have Td:=S9.T.grow pn hno
       have td:=S9.t.grow hno
       have hn9:((n5:Nat):Int)=((ps5.length:Nat):Int):=by omega
       rw[hn9]at hmc
       have Sd:rP w0 bC bP kt km ac nc cc _ _ _ rs wd:=⟨h1d,Cn hmc hgd (mc S9.ne.symm),wP h3c hgd λg hg e=>(hacn g hg).1 (Option.some.inj e).symm,Td,td,Below.put hBc hgd S9.kt0,S9.ne,λg hg=>⟨(hacn g hg).1,(hacn g hg).2.1,(hacn g hg).2.2.1⟩,S9.kt0,S9.km0⟩
       have hpd:Dn ((gY ((kk:Int),rn)).take k++[lab]) (ps5++[(gY ((kk:Int),rn)).take k++[lab]]) 0=some ps5.length:=by
         rw[AO,hq,if_pos rfl];simp
       rw[hRk]
       refine⟨ps5.length,⟨⟨ac,nc,cc,_,_,_,Sd,hpd,by simp;omega,λg hg=>⟨(hacn g hg).2.2.2.1,(hacn g hg).2.2.2.2⟩⟩,wP hLc hgd λg hg e=>P9.s3 (by rw[hg,<- e]),hRc.grown hgd (mc P9.s1.symm),P9.s1,P9.s2,P9.s3,P9.s4⟩,⟨ac,nc,cc,_,_,_,Sd,?_⟩,h7c.grown hgd (mc hkk7.2.1)⟩
       rw[wL,hedge,if_pos rfl];rfl
   · refine aN.of ?_ _
     rintro wj ⟨i2,Pj,⟨a6,n6,c6,ps6,kvs6,es6,S6,hl6⟩,h7j⟩
     refine⟨rfl,rfl,_,λu hu=>(S6.h1.below hu).load1 bD rfl rfl,_,_,λu hu=>GN.load0 (h7j.below hu) rfl,(i2:Int),λu hu=>?_,λwq hwq=>?_⟩
     · have:=(S6.h2.below hu).look1 (P:=prog) bD tW fV ((node:Int),lab)
       rw[hl6]at this;exact this
     · exact⟨L.length-(k+1),by omega,k+1,i2,by omega,by rw[wrap_i64 (by omega) (by omega)];omega,rfl,rfl,Pj.below hwq⟩
 · have:k=L.length:=by omega
   subst this
   have hRl:(gY ((kk:Int),rn)).take L.length=gY ((kk:Int),rn):=by rw[List.take_of_length_le];rw[hR];simp
   rw[hRl]at P5
   simp only[Bg]
   obtain⟨a5,n5,c5,ps5,kvs5,es5,S5,hp5,hN5,hog5⟩:=P5.ex
   have pn:=(pR hp5).2
   rw[Nat.sub_zero]at pn
   have hnl:node<es5.length:=by rw[S5.t.len];exact(List.getElem?_eq_some_iff.1 pn).1
   have hn5:=S5.h3.len
   subst hn5
   have hsome:=S5.h3.all.isSome hnl
   have hrow:=S5.t.mark node _ pn
   refine⟨rfl,rfl,_,_,_,λu hu=>(S5.h1.below hu).load1 fg rfl rfl,trivial,_,λu hu=>(P5.h3.below hu).load1 cD rfl rfl,⟨⟨by omega,by omega⟩,hsome⟩,⟨⟨by omega,by omega⟩,?_⟩,?_⟩
   · cases a5 with
     | none=>cases hsome
     | some x=>rfl
   intro wq hwq
   have S6:=S5.below hwq
   obtain⟨w7,hs7,h37,hg7⟩:=S6.h3.store1 (P:=prog) kU (λ_ _ h=>h) (k:=4) rfl (i:=node) (j:=kk) hnl hk4 (v:=.bool true) (x:=(marks rs (gY ((kk:Int),rn))).set kk true) rfl rfl (by
     intro vs hvs
     rw[List.getElem?_eq_getElem hnl]at hrow
     have hvs:vs=es5[node].map Value.bool/\es5[node].length=4:=hvs
     rw[Option.some.inj hrow]at hvs
     exact⟨by rw[hvs.1,List.map_set],by rw[List.length_set,wN]⟩)
   refine⟨w7,hs7,rfl,a5,es5.length,c5,ps5,kvs5,_,⟨S6.h1.grown hg7 (λe=>(S6.og kt e.symm).1 rfl),Cn S6.h2 hg7 (λe=>(S6.og km e).2.1 rfl),h37,S6.T,S6.t.rule S6.T rfl pn hk4,S6.hb.grown hg7 S6.hb.size (λx e=>(S6.og x e).2.2),S6.ne,S6.og,S6.kt0,S6.km0⟩,by omega⟩
def PJ (rs:List Rul)(h:Hst):Bool:=decide (0<(aO h).length)&&(UU rs (aO h).reverse==(aO h).length)
def Sy (w:World)(rs:List Rul)(v:Value)(w':World):Prop:=∃kt km a n c ps kvs es,v=.pointer (some ⟨kt,0,none⟩)/\rP w bC bP kt km a n c ps kvs es (rs.filter GU) w'
theorem Q1 (w:World):(Instr.makeSlice bU (vI 1) (vI 1)).run prog w=.ok (.slice (some ⟨w.heap.size,0,none⟩) 1 1) (w.alloc (.cells #[.bool false,.bool false,.bool false,.bool false] bP)):=by kernel_rfl
theorem QX {w:World}{A:Bl}{a:Option Addr}{n c:Nat}{rs:List Rul}(h:Sl Kb w A a n c rs){i:Nat}(hi:i<rs.length):(Instr.loadAt aE (.pointer (am a (i:Int) 2))).run prog w=.ok (CB rs[i]) w:=by
 obtain⟨ti,hti,hsz,_,_⟩:=vM.info
 have hag:(prog.underlying aE).map Et=some true:=by kernel_rfl
 cases hu:prog.underlying aE with
 | none=>rw[hu]at hag;cases hag
 | some d=>
   rw[hu]at hag
   simp only[Option.map_some,Option.some.injEq]at hag
   obtain⟨vs,h1,h2⟩:=h.loadA hu hag hti (k:=2) rfl hsz (i:=(i:Int)) (by simpa using hi)
   have h2:vs=AU rs[i]:=h2
   rw[h2]at h1;exact h1
theorem GD {A:Bl}{a0:Option Addr}{l0 c0:Nat}{rs:List Rul}{w:World}(hs:Sl Kb w A a0 l0 c0 rs)(hl:rs.length <=1000000)(hr:∀r∈rs,r.2.length <=1000000)(he:Env w):
   Cf sn #[.slice a0 l0 c0] w (Ret (Sy w rs)):=by
 apply Eb
 intro k9 w9 hk9 hw9
 have hb9:=(hw9▸ah w _:bW w w9)
 have m9:xR ekE evI w9 k9 []:=xR.new hk9 hw9
 refine⟨_,_,_,_,Q1 w9,?_⟩
 generalize hw10:w9.alloc (.cells #[.bool false,.bool false,.bool false,.bool false] bP)=w10
 have hb10:=(hw10▸ah w9 _:bW w9 w10)
 have hB10:=ab hb9 hb10 hb9.size
 have o10:Ow tB4 bP w10 NoB (some ⟨w9.heap.size,0,none⟩) 1 1 [[false,false,false,false]]:=
   Ow.newF (T:=tB4) (l:=[.bool false,.bool false,.bool false,.bool false]) (xs:=[[false,false,false,false]]) (w:=w9) NV rfl hw10.symm (kg.one ⟨rfl,rfl⟩) (by decide)
 intro k12 w12 hk12 hw12
 have hb12:=(hw12▸ah w10 _:bW w10 w12)
 have hB12:=ab hB10 hb12 hB10.size
 have lt9:=m9.lt
 have s10:=hb10.size
 have s9:=hb9.size
 have sz10:w10.heap.size=w9.heap.size+1:=by rw[<- hw10];simp
 have T0:rP w bC bP k12 k9 (some ⟨w9.heap.size,0,none⟩) 1 1 [[]] [] [[false,false,false,false]] [] w12:=
   ⟨ai.new hk12 hw12,(m9.below hb10).below hb12,o10.below hb12,RI,Ul,hB12,by omega,λg hg=>by
     simp[dV]at hg
     omega,by omega,by omega⟩
 clear m9 o10
 have hn:=hs.len
 subst hn
 refine⟨λm i w'=>∃k:Nat,k <=rs.length/\i=(k:Int)/\m=rs.length-k/\∃a n c ps kvs es,rP w bC bP k12 k9 a n c ps kvs es ((rs.take k).filter GU) w'/\ps.length <=1+300*k,⟨_,0,by omega,rfl,rfl,_,_,_,_,_,_,T0,by decide⟩,?_⟩
 intro m i
 refine aN.of ?_ _
 rintro w1 ⟨k,hk,rfl,rfl,a,n,c,ps,kvs,es,S1,hps⟩
 refine ae.of (λh=>?_) (λh=>?_) <;> simp only[dTx,dFx]at h
 · have hlt:k<rs.length:=by omega
   have hs1:=hs.below S1.hb
   have hlen:=hr _ (List.getElem_mem hlt)
   refine⟨⟨⟨by omega,h⟩,hs1.isSome hlt⟩,_,_,QX hs1 hlt,?_⟩
   have htake:(rs.take (k+1)).filter GU=(rs.take k).filter GU++(if GU rs[k]=true then[rs[k]]else[]):=by
     rw[List.take_succ_eq_append_getElem hlt,List.filter_append]
     congr 1
     rw[List.filter_cons,List.filter_nil]
   generalize rs[k]=r at*
   refine lX.new (zs:=AU (0,[])) (cs:=AU r) rfl rfl (Gf r) w1 λk5 w5 hk5 h5 hb5=>?_
   refine⟨_,_,lX.load0 h5 rfl,?_⟩
   have S5:=S1.below hb5
   refine aB (Ij r (by omega) w5) ?_
   rintro _ w6 ⟨rfl,hb6⟩
   have S6:=S5.below hb6
   have hm:(z7 r).length <=1000002:=by
     have:(zX r.1).length <=2:=by unfold zX;split;decide;split;decide;decide
     unfold z7;simp;omega
   refine⟨_,rfl,?_⟩
   refine aB (zm (z7 r) (by omega) w6 (he.step S6.hb)) ?_
   rintro _ w7 ⟨rfl,hb7⟩
   have S7:=S6.below hb7
   refine⟨_,_,_,_,rfl,?_⟩
   have hR:GU r=(((jB (z7 r)).2.2==0)&&((jB (z7 r)).2.1&&Mt (jB (z7 r)).1 r)):=rfl
   generalize jB (z7 r)=x at*
   obtain⟨q,b,e⟩:=x
   simp only at hR
   refine lX.new (zs:=AU (0,[])) (cs:=AU q) rfl rfl (Gf q) w7 λk8 w8 hk8 h8 hb8=>?_
   have S8:=S7.below hb8
   have h58:=((h5.below hb6).below hb7).below hb8
   refine nK (w:=w8) (GU r) ?_ ?_
   · rw[hR]
     refine ae.of (λc1=>?_) (λc1=>⟨rfl,by simp only at c1;rw[c1];rfl⟩)
     refine ae.of (λc2=>?_) (λc2=>⟨rfl,by simp only at c1 c2;rw[c1,c2];rfl⟩)
     refine⟨_,_,lX.load0 h8 rfl,_,_,lX.load0 h58 rfl,_,VH q r w8,rfl,?_⟩
     simp only at c1 c2;rw[c1,c2];rfl
   · refine ae.of (λc1=>?_) (λc1=>?_)
     · have g:=Rr c1
       refine⟨_,_,lX.load0 h58 rfl,?_⟩
       refine aB (GE he S8 r ?_ g.len hps (by omega)) ?_
       · rcases g.kind with e|e|e
         · exact⟨1,e,by decide⟩
         · exact⟨2,e,by decide⟩
         · exact⟨3,e,by decide⟩
       rintro _ w9' ⟨rfl,a',n',c',ps',kvs',es',S9,hps'⟩
       refine⟨rfl,rs.length-(k+1),by omega,k+1,by omega,by rw[wrap_i64 (by omega) (by omega)];omega,rfl,a',n',c',ps',kvs',es',?_,by omega⟩
       rw[htake,if_pos c1];exact S9
     · refine⟨rs.length-(k+1),by omega,k+1,by omega,by rw[wrap_i64 (by omega) (by omega)];omega,rfl,a,n,c,ps,kvs,es,?_,by omega⟩
       rw[htake,if_neg (by rw[c1];decide),List.append_nil];exact S8
 · have:k=rs.length:=by omega
   subst this
   rw[List.take_length]at S1
   exact⟨_,_,_,_,_,_,_,_,rfl,S1⟩
theorem Az {w0:World}(he:Env w0){kt km:Nat}{a:Option Addr}{n c:Nat}{ps:List Pth}{kvs:List (rC×Int)}{es:List (List Bool)}{rs:List Rul}{w:World}(S:rP w0 bC bP kt km a n c ps kvs es rs w){h:Hst}(oh:h.ok)(hn:h.name.length <=1000000000):
   Cf iC #[.pointer (some ⟨kt,0,none⟩),h.v] w (Ret λv w'=>v=vI ((UU rs (aO h).reverse:Nat):Int)/\bW w w'):=by
 apply qS
 intro k3 w3 hk3 hw3
 have hB3:=(hw3▸ah w _:bW w w3)
 have h3:ai w3 k3 af h.cells:=ai.new hk3 hw3
 refine⟨_,bc.load0 h3 (Hst.len oh),?_⟩
 refine aB (eS oh hn w3 (he.step (S.below hB3).hb)) ?_
 rintro _ w4 ⟨aL,lL,cL,rfl,ho,-,hb4⟩
 have hB4:=ab hB3 hb4 hB3.size
 have hll:=nj h
 generalize aO h=L at*
 have hnL:=ho.len
 subst hnL
 have hRlen:L.reverse.length=L.length:=List.length_reverse
 refine⟨_,_,_,rfl,_,run_min_int2 _ _ _ _ _ _ _,?_⟩
 have hn5:=S.h3.len
 subst hn5
 have hel:=S.t.len
 refine⟨λm e w'=>∃mm ee:Nat,m=(mm:Int)/\e=(ee:Int)/\(if 0<ee then ee else mm)=UU rs L.reverse/\bW w w',?_,?_⟩
 · refine⟨λm nd mo ex i w'=>∃k node mm ee:Nat,k <=L.length/\i=(k:Int)+1/\m=L.length-k/\nd=(node:Int)/\mo=(mm:Int)/\ex=(ee:Int)/\Dn (L.reverse.take k) ps 0=some node/\(L=[]->mm=0)/\(L≠[]->Top 1 (mB rs L.reverse k (k-1)) mm)/\mm <=k+1/\Top 0 (gU rs L.reverse k) ee/\ee <=k/\bW w4 w',?_,?_⟩
   · refine⟨_,0,0,(if L=[]then 0 else 1),0,by omega,rfl,rfl,rfl,?_,rfl,S.T.first 0 [] S.T.root,λe=>if_pos e,λe=>?_,?_,?_,Nat.le_refl _,Below.refl _ _⟩
     · by_cases e:L=[]
       · subst e;rfl
       · rw[if_neg e,if_neg (by have:=List.length_pos_iff.2 e;omega)];rfl
     · rw[if_neg e]
       exact(Top.zero 1).congr λx=>⟨λh=>h.elim,λ⟨r,_,_,h⟩=>by have:=Gd (r:=r);omega⟩
     · split <;> omega
     · exact(Top.zero 0).congr λx=>⟨λh=>h.elim,λ⟨r,_,_,h⟩=>by have:=Gd (r:=r);omega⟩
   intro m nd mo ex i
   refine aN.of ?_ _
   rintro w5 ⟨k,node,mm,ee,hk,rfl,rfl,rfl,rfl,rfl,hpos,hmz,hmt,hmm,het,hee,hb5⟩
   have hB5:=ab hB4 hb5 hB4.size
   have S5:=S.below hB5
   have ho5:=ho.below hb5
   simp only[Bg]
   refine ae.of (λhc=>?_) (λhc=>?_) <;> simp only[dTx,dFx]at hc
   · have hlt:k<L.length:=by omega
     have hne:L≠[]:=λe=>by rw[e]at hlt;cases hlt
     have pn:=(pR hpos).2
     rw[Nat.sub_zero]at pn
     have hnl:node<es.length:=by rw[hel];exact(List.getElem?_eq_some_iff.1 pn).1
     have mget:∀(nd:Nat) (p:Pth) (hnd:nd<es.length),ps[nd]? =some p->∀(j:Nat),j<4->∀(vs:List Value),tB4.rep w5 uc vs es[nd]->vs[j]? =some (.bool (rs.any λr=>decide (r.1=(j:Int)/\gY r=p))):=λnd p hnd hp j hj vs hvs=>by
       have hrow:=S.t.mark nd p hp
       rw[List.getElem?_eq_getElem hnd]at hrow
       have hvs:vs=es[nd].map Value.bool/\es[nd].length=4:=hvs
       rw[hvs.1,Option.some.inj hrow,List.getElem?_map,Co _ _ _ hj];rfl
     have hsome:=S5.h3.all.isSome hnl
     have hel2:∀x:Int,Option.isSome (am a x 4)=true:=λx=>by
       cases a with
       | none=>cases hsome
       | some x=>rfl
     have T2:=OG (rs:=rs) (R:=L.reverse) (k:=k) (by rw[hRlen];exact hk) (hmt hne) hmm
     have hmm2:(if(rs.any λr=>decide (r.1=((2:Nat):Int)/\gY r=L.reverse.take k))=true then k+1 else mm) <=k+1:=by split <;> omega
     refine⟨λn7 w'=>w'=w5/\n7=(((if(rs.any λr=>decide (r.1=((2:Nat):Int)/\gY r=L.reverse.take k))=true then k+1 else mm):Nat):Int),?_,?_⟩
     · refine⟨rfl,rfl,_,_,_,S5.h1.load1 fg rfl rfl,⟨⟨by omega,by omega⟩,hsome⟩,⟨⟨by decide,by decide⟩,hel2 _⟩,_,S5.h3.all.loadC (P:=prog) dp rfl (k:=4) rfl (i:=node) (j:=2) hnl (by decide) (mget node _ hnl pn 2 (by decide)),?_⟩
       exact ae.of (λc=>⟨rfl,by rw[if_pos c];rfl⟩) (λc=>⟨rfl,by rw[if_neg (by rw[c];decide)]⟩)
     intro n7
     refine aN.of ?_ _
     rintro w6 ⟨hw6,rfl⟩
     rw[hw6];clear hw6
     generalize (if(rs.any λr=>decide (r.1=((2:Nat):Int)/\gY r=L.reverse.take k))=true then k+1 else mm)=mm2 at*
     have ei:i64.wrap (((L.length:Nat):Int)-((k:Int)+1))=((L.length-1-k:Nat):Int):=by rw[wrap_i64 (by omega) (by omega)];omega
     try dsimp only
     rw[ei]
     have hRk:L.reverse.take (k+1)=L.reverse.take k++[L[L.length-1-k]'(by omega)]:=by
       rw[List.take_succ_eq_append_getElem (by simpa using hlt),List.getElem_reverse]
     refine⟨rfl,rfl,_,λu hu=>(S5.h1.below hu).load1 bD rfl rfl,⟨⟨by omega,by omega⟩,ho5.all.isSome (by omega)⟩,_,λu hu=>(ho5.below hu).all.text aF (i:=L.length-1-k) (show L.length-1-k<L.length by omega),?_⟩
     generalize L[L.length-1-k]'(by omega)=lab at*
     have hedge:=S5.T.edge node lab
     rw[pn]at hedge
     simp only at hedge
     cases hq:Dn (L.reverse.take k++[lab]) ps 0 with
     | none=>
       rw[hq]at hedge
       refine⟨0,false,λu hu=>?_,λwq hwq=>ae.yes rfl ⟨mm2,ee,rfl,rfl,?_,ab hB5 hwq hB5.size⟩⟩
       · have:=(S5.h2.below hu).look2 (P:=prog) bD tW fV ((node:Int),lab)
         rw[hedge]at this;exact this
       · have hno:L.reverse.take (k+1) ∉ ps:=by rw[hRk];exact pQ.1 hq
         obtain⟨s1,s2⟩:=OE S.T S.t (R:=L.reverse) (k:=k) (by rw[hRlen];exact hlt) hno
         have e1:mm2=V5 rs L.reverse:=Top.eq (T2.congr s1) (KD rs L.reverse)
         have e2:ee=Ve rs L.reverse:=Top.eq (het.congr s2) (KC rs L.reverse)
         unfold UU
         rw[if_neg (λhx=>hne (List.reverse_eq_nil_iff.1 hx)),e1,e2]
     | some i2=>
       rw[hq]at hedge
       refine⟨(i2:Int),true,λu hu=>?_,λwq hwq=>ae.no rfl ?_⟩
       · have:=(S5.h2.below hu).look2 (P:=prog) bD tW fV ((node:Int),lab)
         rw[hedge]at this;exact this
       have pn2:=(pR hq).2
       rw[Nat.sub_zero]at pn2
       have hnl2:i2<es.length:=by rw[hel];exact(List.getElem?_eq_some_iff.1 pn2).1
       have S6:=S5.below hwq
       rw[<- hRk]at pn2 hq
       have T3:=OC (rs:=rs) (R:=L.reverse) (k:=k) (by rw[hRlen];exact hlt) T2 hmm2
       have E3:=JD (rs:=rs) (R:=L.reverse) (k:=k) (by rw[hRlen];exact hlt) het hee
       have hmm3:(if(rs.any λr=>decide (r.1=((1:Nat):Int)/\gY r=L.reverse.take (k+1)))=true then k+1 else mm2) <=k+1:=by split <;> omega
       have hee3:(if(rs.any λr=>decide (r.1=((3:Nat):Int)/\gY r=L.reverse.take (k+1)))=true then k else ee) <=k+1:=by split <;> omega
       refine⟨λn7 w'=>w'=wq/\n7=(((if(rs.any λr=>decide (r.1=((1:Nat):Int)/\gY r=L.reverse.take (k+1)))=true then k+1 else mm2):Nat):Int),?_,?_⟩
       · refine⟨rfl,rfl,_,_,_,S6.h1.load1 fg rfl rfl,⟨⟨by omega,by omega⟩,hsome⟩,⟨⟨by decide,by decide⟩,hel2 _⟩,_,S6.h3.all.loadC (P:=prog) dp rfl (k:=4) rfl (i:=i2) (j:=1) hnl2 (by decide) (mget i2 _ hnl2 pn2 1 (by decide)),?_⟩
         exact ae.of (λc=>⟨rfl,by rw[if_pos c];rfl⟩) (λc=>⟨rfl,by rw[if_neg (by rw[c];decide)]⟩)
       intro n7
       refine aN.of ?_ _
       rintro w7 ⟨hw7,rfl⟩
       rw[hw7];clear hw7
       have next:∀ee2:Nat,ee2=(if(rs.any λr=>decide (r.1=((3:Nat):Int)/\gY r=L.reverse.take (k+1)))=true then k else ee)->∃m':Nat,m'<L.length-k/\∃k' node' mm' ee':Nat,k' <=L.length/\i64.wrap ((k:Int)+1+1)=(k':Int)+1/\m'=L.length-k'/\(i2:Int)=(node':Int)/\(((if(rs.any λr=>decide (r.1=((1:Nat):Int)/\gY r=L.reverse.take (k+1)))=true then k+1 else mm2):Nat):Int)=(mm':Int)/\(ee2:Int)=(ee':Int)/\Dn (L.reverse.take k') ps 0=some node'/\(L=[]->mm'=0)/\(L≠[]->Top 1 (mB rs L.reverse k' (k'-1)) mm')/\mm' <=k'+1/\Top 0 (gU rs L.reverse k') ee'/\ee' <=k'/\bW w4 wq:=λee2 he2=>by
         refine⟨L.length-(k+1),by omega,k+1,i2,_,ee2,by omega,by rw[wrap_i64 (by omega) (by omega)];omega,rfl,rfl,rfl,rfl,hq,λe=>absurd e hne,λ_=>T3,by omega,by rw[he2];exact E3,by rw[he2];exact hee3,ab hb5 hwq hb5.size⟩
       refine⟨rfl,rfl,_,_,_,S6.h1.load1 fg rfl rfl,⟨⟨by omega,by omega⟩,hsome⟩,⟨⟨by decide,by decide⟩,hel2 _⟩,_,S6.h3.all.loadC (P:=prog) dp rfl (k:=4) rfl (i:=i2) (j:=3) hnl2 (by decide) (mget i2 _ hnl2 pn2 3 (by decide)),?_⟩
       refine ae.of (λc=>?_) (λc=>?_)
       · have e:i64.wrap ((k:Int)+1-1)=(k:Int):=by rw[wrap_i64 (by omega) (by omega)];omega
         try dsimp only
         rw[e]
         exact next k (by rw[if_pos c])
       · exact next ee (by rw[if_neg (by rw[c];decide)])
   · have:k=L.length:=by omega
     subst this
     refine⟨mm,ee,rfl,rfl,?_,hB5⟩
     by_cases e:L=[]
     · subst e
       have:=hmz rfl
       simp only[List.length_nil]at hee
       have:ee=0:=by omega
       subst this
       unfold UU
       simp[hmz rfl]
     · have hm:=hmt e
       have e1:mm=V5 rs L.reverse:=Top.eq hm (by have:=KD rs L.reverse;rw[hRlen]at this;exact this)
       have e2:ee=Ve rs L.reverse:=Top.eq het (by have:=KC rs L.reverse;rw[hRlen]at this;exact this)
       unfold UU
       rw[if_neg (λhx=>e (List.reverse_eq_nil_iff.1 hx)),e1,e2]
 · intro mo ex
   refine aN.of ?_ _
   rintro w5 ⟨mm,ee,rfl,rfl,hv,hB5⟩
   refine ae.of (λhc=>⟨?_,hB5⟩) (λhc=>⟨?_,hB5⟩) <;> simp only[gt_iff_lt,dTx,dFx]at hc
   · rw[<- hv,if_pos (by omega)]
   · rw[<- hv,if_neg (by omega)]
theorem qZ {w0:World}(he:Env w0){kt km:Nat}{a:Option Addr}{n c:Nat}{ps:List Pth}{kvs:List (rC×Int)}{es:List (List Bool)}{rs:List Rul}{w:World}(S:rP w0 bC bP kt km a n c ps kvs es rs w){h:Hst}(oh:h.ok)(hn:h.name.length <=1000000000):
   Cf dh #[.pointer (some ⟨kt,0,none⟩),h.v] w (Ret λv w'=>v=.bool (PJ rs h)/\bW w w'):=by
 apply qR
 intro k3 w3 hk3 hw3
 have hB3:=(hw3▸ah w _:bW w w3)
 have h3:ai w3 k3 af h.cells:=ai.new hk3 hw3
 refine⟨_,bc.load0 h3 (Hst.len oh),?_⟩
 refine aB (eS oh hn w3 (he.step (S.below hB3).hb)) ?_
 rintro _ w4 ⟨aL,lL,cL,rfl,ho,-,hb4⟩
 have hB4:=ab hB3 hb4 hB3.size
 refine⟨_,_,_,rfl,?_⟩
 have hnL:=ho.len
 subst hnL
 unfold PJ
 refine ae.of (λhc=>?_) (λhc=>⟨?_,hB4⟩) <;> simp only[gt_iff_lt,dTx,dFx]at hc
 · refine⟨_,bc.load0 (h3.below hb4) (Hst.len oh),?_⟩
   refine aB (Az he (S.below hB4) oh hn) ?_
   rintro _ w5 ⟨rfl,hb5⟩
   refine⟨_,rfl,?_,ab hB4 hb5 hB4.size⟩
   try dsimp only
   rw[decide_eq_true (show 0<(aO h).length by omega),Bool.true_and]
   congr 1
   rw[Bool.eq_iff_iff,beq_iff_eq,beq_iff_eq];omega
 · try dsimp only
   rw[decide_eq_false (show ¬ 0<(aO h).length by omega),Bool.false_and]
theorem CQ (a:lU){w K}(h:uS jO #[vS a,vS [32,9]] w λb c=>K (vI (i64.wrap ((i64.wrap (((List.length a:Nat):Int)-((List.length b:Nat):Int)))+(1:Int)))) c):Cf qF #[vS a] w (Ret K):=ru func78 [] h
theorem Gq (a:lU){w K}(h:nA w (.cells #[vI 0,vI 0,vI 0] aA) λb c=>ae (decide (((List.length a:Nat):Int)>(20000:Int))) (∃d,Sv aA (vA b 0) (.agg #[vI 54,vI 1,vI 1]) c d/\∃e f g,Rv aA (vA b 0) d (.agg #[vI e,vI f,vI g])/\K (.tuple #[.slice none 0 0,.agg #[vI e,vI f,vI g]]) d) (nA c (.map #[] 0) λd e=>uL jL #[vS a] e λf g i j=>∃k:Nat->FP [.one .slice,.one (.int .i64)],(∃l,k l none 0 0 (0:Int) j)/\∀l m n o p,aN 50 (∀q,k l m n o p q->ae (decide (p<((g:Nat):Int))) ((bx p ((g:Nat):Int)/\Option.isSome f=true)/\∃r,Ld ak (am f p 1) q (vS r)/\Cf qE #[vS r] q λs t=>∃u v x y,s=rT #[.agg #[vI u,vS v],.bool x,vI y]/\nA t (.cells #[vI 0,vS []] aE) λz A=>∃B,Sv aE (vA z 0) (.agg #[vI u,vS v]) A B/\∃C:FP [.one (.int .i64)],(∃D:FP [.one .bool],(ae (y==(0:Int)) (D x B) (D false B))/\∀E,aN 4 (∀F,D E F->ae E (∃G H,Ld aE (vA z 0) (World.drew F) (.agg #[vI G,vS H])/\(∃I,(Instr.lookup bR (.map (some d)) (.agg #[vI G,vS H]) false).run prog (World.drew F)=.ok (vI I) (World.drew F)/\∃J L M,(Instr.mapEntry bR (.map (some d)) (.agg #[vI G,vS H])).run prog (World.drew F)=.ok (.tuple #[L,vI M]) J/\∃N,(Instr.entryStore bR (.map (some d)) (vI M) (vI (i64.wrap (I+(1:Int))))).run prog J=.ok () N/\∃O P,Ld aE (vA z 0) N (.agg #[vI O,vS P])/\∃Q,(Instr.lookup bR (.map (some d)) (.agg #[vI O,vS P]) false).run prog N=.ok (vI Q) N/\ae (decide (Q>(1:Int))) (C (52:Int) N) (ae (((n:Nat):Int)==(200:Int)) (C (53:Int) N) (C y N)))/\∃I J L,(Instr.mapEntry bR (.map (some d)) (.agg #[vI G,vS H])).run prog (World.drew F)=.ok (.tuple #[J,vI L]) I/\∃M,(Instr.lookup bR (.map (some d)) (.agg #[vI G,vS H]) false).run prog I=.ok (vI M) I/\∃N,(Instr.entryStore bR (.map (some d)) (vI L) (vI (i64.wrap (M+(1:Int))))).run prog I=.ok () N/\∃O P,Ld aE (vA z 0) N (.agg #[vI O,vS P])/\∃Q,(Instr.lookup bR (.map (some d)) (.agg #[vI O,vS P]) false).run prog N=.ok (vI Q) N/\ae (decide (Q>(1:Int))) (C (52:Int) N) (ae (((n:Nat):Int)==(200:Int)) (C (53:Int) N) (C y N))) (C y F)))/\∀D,aN 20 (∀E,C D E->ae (D !=(0:Int)) (uI qF #[vS r] E λF G=>∃H,Sv aA (vA b 0) (.agg #[vI D,vI (i64.wrap (p+(1:Int))),vI F]) G H/\∃I J L,Rv aA (vA b 0) H (.agg #[vI I,vI J,vI L])/\K (.tuple #[.slice none 0 0,.agg #[vI I,vI J,vI L]]) H) (ae x (∃F G,Ld aE (vA z 0) E (.agg #[vI F,vS G])/\nA E (.cells #[vI F,vS G] aE) λH I=>∃J L M N,(Builtin.append_ #[jD,jD] jD #[.slice m n o,.slice (vA H 0) 1 1]).run prog I=.ok (.slice L M N) J/\∃O:Nat,O<l/\k O L M N (i64.wrap (p+(1:Int))) J) (∃F:Nat,F<l/\k F m n o (i64.wrap (p+(1:Int))) E)))) (∃r,Sv aA (vA b 0) (.agg #[vI 0,vI 0,vI 0]) q r/\∃s t u,Rv aA (vA b 0) r (.agg #[vI s,vI t,vI u])/\K (.tuple #[.slice m n o,.agg #[vI s,vI t,vI u]]) r)))):Cf vf #[vS a] w (Ret K):=ru func33 [(18,[(4,.one .slice),(19,.one (.int .i64))]),(31,[(10,.one (.int .i64))]),(32,[(34,.one .bool)]),(1000036,[])] h
theorem QC:Flat Kb:=λ_ _ _ _ _ _ h=>h
theorem Cm (r:Rul):∀out:List Rul,nM r (out.map λx=>(x,(1:Int)))=if r∈out then some 1 else none
 | []=>rfl
 | x::l=>by
   show(if r=x then some 1 else nM r (l.map λx=>(x,(1:Int))))=_
   rw[Cm r l]
   by_cases h:r=x
   · rw[if_pos h,if_pos (by rw[h];exact List.mem_cons_self)]
   · rw[if_neg h]
     by_cases h2:r∈l
     · rw[if_pos h2,if_pos (List.mem_cons_of_mem _ h2)]
     · rw[if_neg h2,if_neg (by rw[List.mem_cons];exact λk=>k.elim h h2)]
theorem Ux:∃fs,prog.underlying aE=some (.struct fs):=⟨_,rfl⟩
theorem AJ:Dp prog aE CB:=by
 obtain⟨fs,h⟩:=Ux
 refine Dp.struct h (λa b=>?_) (λb k w=>?_)
 · obtain⟨a1,a2⟩:=a
   obtain⟨b1,b2⟩:=b
   have e:eqV prog 10000 aE (CB (a1,a2)) (CB (b1,b2))=some ((a1==b1)&&((a2==b2)&&true)):=by kernel_rfl
   rw[e]
   congr 1
   rw[Bool.eq_iff_iff];simp
 · obtain⟨a1,a2⟩:=k
   kernel_rfl
theorem OY (r:Rul):Instr.sameBits 10000 (CB r) (CB r)=true:=by
 obtain⟨a,b⟩:=r
 unfold CB AU
 simp only[Instr.sameBits,List.zip_cons_cons,List.zip_nil_right,List.all_cons,List.all_nil,Oy,beq_self_eq_true,Bool.and_self,Bool.and_true,Bool.true_and]
theorem DL (s:List UInt8)(hs:s.length <=1000000)(w:World):Cf qF #[vS s] w (Ret λv w'=>v=vI (MK s)/\bW w w'):=by
 apply CQ
 refine(Tryz.strings_TrimLeft_laid (mkS s) (mkS [32,9]) w (by decide) (ascii_of_all (by decide))).mono ?_
 rintro _ w1 ⟨rfl,b1⟩
 refine⟨_,rfl,?_,b1⟩
 have e1:(λc:UInt8=>([32,9]:List UInt8).contains c)=JN:=funext KR
 have e2:Lib.trimLeftS s [32,9]=s.dropWhile JN:=by unfold Lib.trimLeftS;rw[e1]
 have e3:(s.takeWhile JN).length+(s.dropWhile JN).length=s.length:=by rw[<- List.length_append,List.takeWhile_append_dropWhile]
 have e4:(List.length (toL (mkS (Lib.trimLeftS s [32,9]))))=(s.dropWhile JN).length:=by rw[e2];rfl
 show vI (i64.wrap (i64.wrap (((s.length:Nat):Int)-((List.length (Lib.trimLeftS s [32,9]):Nat):Int))+1))=_
 rw[e2,wrap_i64 (n:=((s.length:Nat):Int)-_) (by omega) (by omega),wrap_i64 (by omega) (by omega)]
 unfold MK
 congr 1;omega
def Jc (s:List UInt8)(w:World)(v:Value)(w':World):Prop:=bW w w'/\match wS s with
 | .inl rs=>∃a n c,v=.tuple #[.slice a n c,Ez (0,0,0)]/\Ow Kb aE w' NoB a n c rs/\bg w.heap.size a
 | .inr f=>v=.tuple #[.slice none 0 0,Ez f]/\f.1≠0
set_option maxHeartbeats 1000000 in
theorem Ii (s:List UInt8)(w:World)(he:Env w):Cf vf #[vS s] w (Ret (Jc s w)):=by
 apply Gq
 intro k3 w3 hk3 hw3
 have b3:=(hw3▸ah w _:bW w w3)
 have A3:ai w3 k3 aA (xW (0,0,0)):=ai.new hk3 hw3
 have lt3:=A3.lt
 have fin:∀{W:World} {a:Option Addr} {n c:Nat} (f:Flt),bW w3 W->(∀wx,bW w wx->W.grownBy wx (some k3)->Jc s w (.tuple #[.slice a n c,Ez f]) wx)->∃wx,(Instr.storeAt aA (.pointer (some ⟨k3,0,none⟩)) (Ez f)).run prog W=.ok () wx/\
     ∃(p q r:Int),(aV aA (.pointer (some ⟨k3,0,none⟩))).run prog wx=.ok (.agg #[vI p,vI q,vI r]) wx/\Jc s w (.tuple #[.slice a n c,.agg #[vI p,vI q,vI r]]) wx:=fun{W a n c} f hb hK=>by
   obtain⟨wx,q1,v1,g1⟩:=gM.store0 (P:=prog) (cs:=xW f) rfl (BQ _) (A3.below hb) rfl
   exact⟨wx,q1,f.1,f.2.1,f.2.2,ai.res (gM.load0 v1 rfl),hK wx (Below.put (ab b3 hb b3.size) g1 (by omega)) g1⟩
 have bad:∀{W:World} (f:Flt),wS s=.inr f->f.1≠0->bW w3 W->_:=fun{W} f e h0 hb=>fin (a:=none) (n:=0) (c:=0) f hb λwx B _=>⟨B,by rw[e];exact⟨rfl,h0⟩⟩
 refine ae.of (λc1=>bad (54,1,1) (xV (by have:=of_decide_eq_true c1;omega)) (show(54:Int)≠0 by decide) (Below.refl _ _)) (λc1=>?_)
 have c1: ¬ 20000<s.length:=by have:=of_decide_eq_false c1;omega
 intro k15 w15 hk15 hw15
 have b15:=(hw15▸ah w3 _:bW w3 w15)
 have M15:zP CB evI w15 k15 ([]:List (Rul×Int)):=zP.new hk15 hw15
 refine aB (pe s (by omega) w15 (he.step (ab b3 b15 b3.size))) ?_
 rintro _ w17 ⟨b,nb,cb,rfl,ob,fb,b17⟩
 have B17:=ab b15 b17 b15.size
 have hL:=Ck s
 have hM:=yh s
 have hV:wS s=rE J5 0 ((nk s).drop 0) []:=vo c1
 generalize nk s=L at*
 have S:=ob.all
 have hnb:=ob.len
 subst hnb
 have lt15:=M15.lt
 refine⟨_,_,_,rfl,λm a n c i w'=>∃(j:Nat) (out:List Rul),j <=L.length/\i=(j:Int)/\m=L.length-j/\out.length <=200/\Ow Kb aE w' NoB a n c out/\bg w17.heap.size a/\Chg [k15] w17 w'/\zP CB evI w' k15 (out.map λx=>(x,(1:Int)))/\wS s=rE J5 j (L.drop j) out,
   ⟨_,0,[],Nat.zero_le _,rfl,rfl,by decide,Ow.nil _ _ _ _,bg.none _,Chg.refl _ _,M15.below b17,hV⟩,λm a n c i=>aN.of ?_ _⟩
 rintro wl ⟨j,out,hj,rfl,rfl,h200,oo,fo,cl,ml,hQ⟩
 have ho:=oo.len
 subst ho
 have low:∀{W:World},Chg [k15] w17 W->bW w3 W:=λh=>B17.trans (h.below B17.size λk hk=>by rw[List.mem_singleton]at hk;omega)
 refine ae.of (λc2=>?_) (λc2=>?_) <;> simp only[dTx,dFx]at c2
 rotate_left
 · refine fin (0,0,0) (low cl) λwx B g=>⟨B,?_⟩
   rw[hQ,BM J5 (by omega)]
   exact⟨_,_,_,rfl,oo.put (λg hg e=>by have:=fo g hg;have:=B17.size;omega) g,fo.mono (ab b3 B17 b3.size).size⟩
 have hjl:j<L.length:=by omega
 have ew:i64.wrap ((j:Int)+1)=(j:Int)+1:=wrap_i64 (by omega) (by omega)
 have hxl:=hL _ (List.getElem_mem hjl)
 have SW:∀{W:World},Chg [k15] w17 W->Sl tS W uc b L.length cb L:=λh=>(ob.keep (h.keep.mono λg hg hm=>by
   rcases hg with hg|hg
   · exact hg.elim
   · have:=fb g hg.symm
     rw[List.mem_singleton]at hm
     omega)).all
 have OW:∀{W W':World} {a:Option Addr} {n c:Nat} {xs:List Rul},Ow Kb aE W NoB a n c xs->bg w17.heap.size a->Chg [k15] W W'->Ow Kb aE W' NoB a n c xs:=fun{W W' a n c xs} o f h=>o.keep (h.keep.mono λg hg hm=>by
   rcases hg with hg|hg
   · exact hg.elim
   · have:=f g hg.symm
     have:=b17.size
     rw[List.mem_singleton]at hm
     omega)
 refine⟨⟨⟨by omega,c2⟩,S.isSome hjl⟩,L[j],(SW cl).text aF hjl,?_⟩
 rw[ew]
 generalize hx:L[j]=x at*
 refine aB (zm x (by omega) wl (he.step (ab b3 (low cl) b3.size))) ?_
 rintro _ w26 ⟨rfl,b26⟩
 have hS:J5 j out L[j]=if(jB x).2.2≠0 then .inr ((jB x).2.2,MK x)else if(jB x).2.1=false then .inl out else if(jB x).1∈out then .inr (52,MK x)else if out.length=200 then .inr (53,MK x)else .inl (out++[(jB x).1]):=by rw[hx];rfl
 generalize jB x=ll at*
 obtain⟨r,says,er⟩:=ll
 simp only at hS
 refine⟨_,_,_,_,rfl,lX.new (zs:=AU (0,[])) (cs:=AU r) rfl rfl (Gf _) w26 λk8 w8 hk8 h8 hb8=>?_⟩
 have c8:=ab b26 hb8 b26.size
 have C8:Chg [k15] w17 w8:=cl.step c8
 have m8:=ml.below c8
 have o8:=oo.below c8
 have lt8:=h8.lt
 have k8w:w17.heap.size <=k8:=by have:=cl.size;have:=b26.size;omega
 have K8:∀{W W':World},ai W k8 aE (AU r)->Chg [k15] W W'->ai W' k8 aE (AU r):=λh hc=>hc.arr h (by rw[List.mem_singleton];have:=b17.size;omega)
 refine⟨λn10 W'=>Chg [k15] w17 W'/\ai W' k8 aE (AU r)/\Ow Kb aE W' NoB a out.length c out/\((n10=0/\J5 j out L[j]=.inl (if says=true then out++[r]else out)/\(if says=true then out++[r]else out).length <=200/\zP CB evI W' k15 ((if says=true then out++[r]else out).map λx=>(x,(1:Int))))\/(n10≠0/\J5 j out L[j]=.inr (n10,MK x))),?_,λn10=>aN.of ?_ _⟩
 · refine nK (w:=w8) ((er==0)&&says) (ae.of (λh=>⟨rfl,by rw[h];rfl⟩) (λh=>⟨rfl,by rw[h];rfl⟩)) (ae.of (λh=>?_) (λh=>⟨C8,h8,o8,?_⟩))
   rotate_left
   · by_cases h0:er=0
     · subst h0
       have h1:says=false:=by simpa using h
       subst h1
       exact .inl ⟨rfl,by rw[hS,if_neg (by decide),if_pos rfl];rfl,h200,m8⟩
     · exact .inr ⟨h0,by rw[hS,if_pos h0]⟩
   rw[Bool.and_eq_true]at h
   obtain⟨h0,h1⟩:=h
   have h0:er=0:=by simpa using h0
   subst h0 h1
   rw[if_neg (by decide),if_neg (by decide)]at hS
   have hd:=cF w8
   generalize World.drew w8=wd at*
   have md:=m8.below hd
   have Cd:Chg [k15] w17 wd:=C8.step hd
   have hv0:(nM r (out.map λx=>(x,(1:Int)))).getD 0=if r∈out then 1 else 0:=by rw[Cm];split <;> rfl
   have hev:∀o:Option Int,(o.map evI).getD (vI 0)=vI (o.getD 0):=λo=>by cases o <;> rfl
   obtain⟨w39,st,r39,e39,g39,l39⟩:=md.entry (P:=prog) gH AJ OY fV r 0 rfl
   rw[hev,hv0]at r39
   have l39:=l39 0 rfl
   rw[hv0]at l39
   generalize hN:(if r∈out then(1:Int)else 0)=N at*
   have eN:i64.wrap (N+1)=N+1:=by rw[<- hN];split <;> rfl
   obtain⟨wx,rx,mx,gx⟩:=e39.store (P:=prog) (mt:=bR) (N+1)
   have Cx:Chg [k15] wd wx:=(Chg.grown g39 (by simp)).trans (Chg.grown gx (by simp))
   have hx8:=K8 (h8.below hd) Cx
   have ld:=lX.load0 (P:=prog) (h8.below hd) rfl
   have lk:=md.g.look1 (P:=prog) gH AJ fV r
   rw[hev,hv0]at lk
   have lk2:=l39.look1 (P:=prog) gH AJ fV r
   rw[hev,K0]at lk2
   have lk3:=mx.g.look1 (P:=prog) gH AJ fV r
   rw[hev,K0]at lk3
   have fin2:∃(n43_0:Int) (s43_1:List UInt8),(Instr.loadAt aE (.pointer (some ⟨k8,0,none⟩))).run prog wx=.ok (.agg #[vI n43_0,vS s43_1]) wx/\
       ∃(n44:Int),(Instr.lookup bR (.map (some k15)) (.agg #[vI n43_0,vS s43_1]) false).run prog wx=.ok (vI n44) wx/\
         ae (decide (n44>(1:Int))) (Chg [k15] w17 wx/\ai wx k8 aE (AU r)/\Ow Kb aE wx NoB a out.length c out/\(((52:Int)=0/\J5 j out L[j]=.inl (if true=true then out++[r]else out)/\(if true=true then out++[r]else out).length <=200/\zP CB evI wx k15 ((if true=true then out++[r]else out).map λx=>(x,(1:Int))))\/((52:Int)≠0/\J5 j out L[j]=.inr ((52:Int),MK x))))
           (ae (((out.length:Nat):Int)==(200:Int)) (Chg [k15] w17 wx/\ai wx k8 aE (AU r)/\Ow Kb aE wx NoB a out.length c out/\(((53:Int)=0/\J5 j out L[j]=.inl (if true=true then out++[r]else out)/\(if true=true then out++[r]else out).length <=200/\zP CB evI wx k15 ((if true=true then out++[r]else out).map λx=>(x,(1:Int))))\/((53:Int)≠0/\J5 j out L[j]=.inr ((53:Int),MK x))))
             (Chg [k15] w17 wx/\ai wx k8 aE (AU r)/\Ow Kb aE wx NoB a out.length c out/\(((0:Int)=0/\J5 j out L[j]=.inl (if true=true then out++[r]else out)/\(if true=true then out++[r]else out).length <=200/\zP CB evI wx k15 ((if true=true then out++[r]else out).map λx=>(x,(1:Int))))\/((0:Int)≠0/\J5 j out L[j]=.inr ((0:Int),MK x))))):=by
     refine⟨_,_,lX.load0 hx8 rfl,_,lk3,?_⟩
     have base:=And.intro (Cd.trans Cx) (And.intro hx8 (OW (o8.below hd) fo Cx))
     by_cases hm:r∈out
     · rw[if_pos hm]at hN
       subst hN
       exact ae.yes rfl ⟨base.1,base.2.1,base.2.2,.inr ⟨by decide,by rw[hS,if_pos hm]⟩⟩
     · rw[if_neg hm]at hN hS
       subst hN
       refine ae.no rfl (ae.of (λh3=>⟨base.1,base.2.1,base.2.2,.inr ⟨by decide,by rw[hS,if_pos (U5 (k:=200) h3)]⟩⟩) (λh3=>⟨base.1,base.2.1,base.2.2,.inl ⟨rfl,?_,?_,?_⟩⟩))
       · have h3:out.length≠200:=SO (k:=200) h3
         rw[hS,if_neg h3];rfl
       · have h3:out.length≠200:=SO (k:=200) h3
         show(out++[r]).length <=200
         rw[List.length_append,List.length_singleton];omega
       · have e:upG r ((0:Int)+1) (out.map λx=>(x,(1:Int)))=(out++[r]).map λx=>(x,(1:Int)):=by
           unfold upG
           have:ma r (out.map λx=>(x,(1:Int))) 0=none:=by
             have h4:=vy r (out.map λx=>(x,(1:Int))) 0
             rw[Cm,if_neg hm]at h4
             simpa using h4
           rw[this,List.map_append];rfl
         rw[e]at mx;exact mx
   refine⟨_,_,ld,⟨N,lk,w39,_,st,r39,wx,by rw[eN];exact rx,fin2⟩,w39,_,st,r39,N,lk2,wx,by rw[eN];exact rx,fin2⟩
 rintro W' ⟨CW,h8',oW,hcase⟩
 have BW:=low CW
 refine ae.of (λc9=>?_) (λc9=>?_)
 · have hne:n10≠0:=by simpa using c9
   obtain⟨_,e⟩:=hcase.resolve_left λh=>hne h.1
   refine aB (DL x (by omega) W') ?_
   rintro _ w52 ⟨rfl,b52⟩
   refine⟨_,rfl,bad (n10,(j:Int)+1,_) ?_ hne (ab BW b52 BW.size)⟩
   rw[hQ,BL hjl e];rfl
 have h0:n10=0:=by simpa using c9
 obtain⟨_,e,hl,mW⟩:=hcase.resolve_right λh=>h.1 h0
 refine ae.of (λc9=>?_) (λc9=>?_)
 · subst c9
   refine⟨_,_,lX.load0 h8' rfl,λk61 w61 hk61 hw61=>?_⟩
   have b61:=(hw61▸ah W' _:bW W' w61)
   obtain⟨w2,a',n',c',rr,o2,f2,ch2,k2⟩:=W8 QC Eo vM (by decide) (ty:=jD) oW fo CW hk61 hw61 (x:=r) (vs:=AU r) rfl (cm:=1) (by omega)
   exact⟨w2,a',n',c',rr,L.length-(j+1),by omega,j+1,out++[r],by omega,rfl,rfl,hl,o2,f2,ch2,mW.keep (k2 _ (by have:=b17.size;omega)),by rw[hQ,pI hjl e];rfl⟩
 · subst c9
   exact⟨L.length-(j+1),by omega,j+1,out,by omega,rfl,rfl,h200,oW,fo,CW,mW,by rw[hQ,pI hjl e];rfl⟩
theorem yA (a b:Value){w K}(h:nA w (.cells (Value.cells a) av) λc d=>nA d (.cells (Value.cells b) cv) λe f=>true/\∃g,Ld af (vA e 1) f g/\true/\∃i,Ld af (vA c 1) f i/\∃j,(do eqGuard .eql af (.tmp 7) (.tmp 9) g i;binOp .eql af g i:Sem Value).run prog f=.ok (.bool j) f/\∃k:FP [.one .bool],(true/\∃l,Ld cd (vA c 0) f (.bool l)/\ae l (true/\∃m,Ld af (vA e 1) f m/\true/\∃n,Ld af (vA c 1) f n/\uB js #[m,n] f λo p=>k o p) (k j f))/\∀l,aN 7 (∀m,k l m->∃n,(∀o,bW m o->Ld cv (vA e 0) o n)/\∃o,(∀p,bW m p->Cf oZ #[n] p λq r=>q=.returned (.bool o)/\Below m.heap.size p r)/\ae o (ae l (true/\∃p,(∀q,bW m q->Ld cd (vA c 19) q (.bool p))/\true/\∃q,(∀r,bW m r->Ld cd (vA c 20) r (.bool q))/\true/\∃r,(∀s,bW m s->Ld cd (vA e 0) s (.bool r))/\∃s,(∀t,bW m t->Cf mU #[.bool r] t λu v=>u=.returned (vI s)/\Below m.heap.size t v)/\∃t,(∀u,bW m u->(Instr.index mH (.agg #[.bool p,.bool q]) (vI s)).run prog u=.ok (.bool t) u)/\ae t (true/\∃u,(∀v,bW m v->Ld ak (vA e 19) v (vS u))/\true/\∃v,(∀x,bW m x->Ld ak (vA c 21) x (vS v))/\∃x,(∀y,bW m y->Cf cJ #[vS u,vS v] y λz A=>z=.returned (.bool x)/\Below m.heap.size y A)/\∀y,bW m y->K (.bool x) y) (∀u,bW m u->K (.bool false) u)) (∀p,bW m p->K (.bool false) p)) (∀p,bW m p->K (.bool false) p))):Cf mT #[a,b] w (Ret K):=ru func20 [(4,[(5,.one .bool)])] h
theorem Aq (a b c d:Int){w K}(h:nA w (.cells #[vI b,vI c,vI d] aA) λe f=>nA f (.cells #[vI 0,vI 0,vI 0,vI 0] ay) λg i=>∃j k l,Ld aA (vA e 0) (World.drew i) (.agg #[vI j,vI k,vI l])/\∃m,Sv ay (vA g 0) (.agg #[vI a,vI j,vI k,vI l]) (World.drew i) m/\∃n o p q,Rv ay (vA g 0) m (.agg #[vI n,vI o,vI p,vI q])/\K (.tuple #[.pointer none,.agg #[vI n,vI o,vI p,vI q]]) m):Cf eP #[vI a,.agg #[vI b,vI c,vI d]] w (Ret K):=ru func32 [] h
theorem Ea (a:Value){w K}(h:nA w (.cells (Value.cells a) af) λb c=>true/\∃d,Ld aP (vA b 0) c (vI d)/\ae (d==(1:Int)) (∃e,Ld af (vA b 0) c e/\uL cr #[e] c λf g i j=>K (.slice f g i) j) (∃e,Ld af (vA b 0) c e/\uS qv #[e] c λf g=>nA g (.cells #[vS f] ak) λi j=>K (.slice (vA i 0) 1 1) j)):Cf nX #[a] w (Ret K):=ru func85 [] h
theorem pg (a:Value)(b:Option Addr){w K}(h:nA w (.cells (Value.cells a) av) λc d=>∃e,Ld av (vA c 0) d e/\∃f,Ld cv b d f/\uB mT #[e,f] d λg i=>K (.bool g) i):Cf bn #[a,.pointer b] w (Ret K):=ru func82 [] h
theorem rK (a:Option Addr)(b:Value){w K}(h:nA w (.cells (Value.cells b) ao) λc d=>true/\true/\∃e,Ld cd (vA c 1) d (.bool e)/\true/\true/\∃f,Ld af (vA c 2) d f/\true/\true/\∃g,Ld ak (vA c 21) d (vS g)/\∃i,(Instr.build cv #[(0,.bool e),(1,f),(2,vS g)]).run prog d=.ok i d/\nA d (.cells Fc cv) λj k=>∃l,Sv cv (vA j 0) i k l/\(Option.isSome a=true)/\(Option.isSome a=true)/\∃m n o,Ld aS (Option.map (λp=>p.add 0) a) l (.slice m n o)/\uB ce #[.slice m n o,.func (.func bn) #[] #[.pointer (vA j 0)]] l λp q=>K (.bool p) q):Cf iW #[.pointer a,b] w (Ret K):=ru func35 [] h
theorem sM (a:Option Addr){w K}(h:(Option.isSome a=true)/\(Option.isSome a=true)/\∃b c d,Ld aS (Option.map (λe=>e.add 0) a) w (.slice b c d)/\∃e:Nat->FP [.one .slice,.one (.int .i64)],(∃f,e f none 0 0 (0:Int) w)/\∀f g i j k,aN 10 (∀l,e f g i j k l->ae (decide (k<((c:Nat):Int))) ((bx k ((c:Nat):Int)/\Option.isSome b=true)/\∃m,Ld av (am b k 22) l m/\nA l (.cells eI av) λn o=>∃p,Sv av (vA n 0) m o p/\true/\∃q,Ld af (vA n 1) p q/\uL nX #[q] p λr s t u=>∃v x y z,(Builtin.append_ #[aw,aw] aw #[.slice g i j,.slice r s t]).run prog u=.ok (.slice x y z) v/\∃A:Nat,A<f/\e A x y z (i64.wrap (k+(1:Int))) v) ((Option.isSome a=true)/\(Option.isSome a=true)/\∃m n o,Ld au (Option.map (λp=>p.add 1) a) l (.slice m n o)/\∃p:Nat->FP [.one .slice,.one (.int .i64)],(∃q,p q g i j (0:Int) l)/\∀q r s t u,aN 11 (∀v,p q r s t u v->ae (decide (u<((n:Nat):Int))) ((bx u ((n:Nat):Int)/\Option.isSome m=true)/\∃x,Ld ao (am m u 24) v x/\nA v (.cells kV ao) λy z=>∃A,Sv ao (vA y 0) x z A/\true/\true/\∃B,Ld af (vA y 2) A B/\uL nX #[B] A λC D E F=>∃G H I J,(Builtin.append_ #[aw,aw] aw #[.slice r s t,.slice C D E]).run prog F=.ok (.slice H I J) G/\∃L:Nat,L<q/\p L H I J (i64.wrap (u+(1:Int))) G) (uP so #[.slice r s t] v λx y=>K (.pointer x) y))))):Cf jn #[.pointer a] w (Ret K):=ru func37 [(8,[(3,.one .slice),(13,.one (.int .i64))]),(25,[(3,.one .slice),(28,.one (.int .i64))])] h
theorem rJ (a:Option Addr){w K}(h:(Option.isSome a=true)/\(Option.isSome a=true)/\∃b c d,Ld aS (Option.map (λe=>e.add 0) a) w (.slice b c d)/\uL cQ #[.slice b c d] w λe f g i=>K (.slice e f g) i):Cf iV #[.pointer a] w (Ret K):=ru func11 [] h
theorem qQ (a:Option Addr){w K}(h:(Option.isSome a=true)/\(Option.isSome a=true)/\∃b c d,Ld au (Option.map (λe=>e.add 1) a) w (.slice b c d)/\uL cE #[.slice b c d] w λe f g i=>K (.slice e f g) i):Cf iA #[.pointer a] w (Ret K):=ru func10 [] h
theorem rI (a:Option Addr){w K}(h:(Option.isSome a=true)/\(Option.isSome a=true)/\∃b,Ld bI (Option.map (λc=>c.add 4) a) w (.pointer b)/\K (.pointer b) w):Cf iU #[.pointer a] w (Ret K):=ru func12 [] h
theorem dj (a:Option Addr)(b c:Nat)(d:Option Addr){w K}(h:∃e:Nat->FP [.one (.int .i64)],(∃f,e f (0:Int) w)/\∀f g,aN 12 (∀i,e f g i->ae (decide (g<((b:Nat):Int))) ((bx g ((b:Nat):Int)/\Option.isSome a=true)/\∃j,Ld av (am a g 22) i j/\uB bn #[j,.pointer d] i λk l=>ae k (K (vI g) l) (∃m:Nat,m<f/\e m (i64.wrap (g+(1:Int))) l)) (K (vI (-1)) i))):Cf dA #[.slice a b c,.func (.func bn) #[] #[.pointer d]] w (Ret K):=ru func159 [(6,[(8,.one (.int .i64))])] h
theorem cW (a:Option Addr)(b c:Nat)(d:Option Addr){w K}(h:uI dA #[.slice a b c,.func (.func bn) #[] #[.pointer d]] w λe f=>K (.bool (decide (e >=(0:Int)))) f):Cf ce #[.slice a b c,.func (.func bn) #[] #[.pointer d]] w (Ret K):=ru func81 [] h
theorem LY (s p:List UInt8):Lib.hasPrefix s p=U4 s p:=by
 rw[Bool.eq_iff_iff,P1]
 unfold Lib.hasPrefix
 rw[List.isPrefixOf_iff_prefix]
def UV (n:Int)(f:Flt):Value:=.agg #[vI n,vI f.1,vI f.2.1,vI f.2.2]
def zo (n:Int)(f:Flt):List Value:=[vI n,vI f.1,vI f.2.1,vI f.2.2]
theorem qW (n:Int)(f:Flt):vX (zo n f):=aJ rfl (aJ rfl (aJ rfl (aJ rfl gX)))
theorem z6 {p:Pat}{r:Req}(op:p.ok)(or:r.ok)(pn:p.host.name.length <=80000000)(rn:r.host.name.length <=80000000){w:World}(he:Env w):
   Cf mT #[p.v,r.v] w (Ret λv w'=>v=.bool (J3 r&&uq p r)/\bW w w'):=by
 apply yA
 intro k2 w2 hk2 hw2 k3 w3 hk3 hw3
 have b2:=(hw2▸ah w _:bW w w2)
 have b3:=(hw3▸ah w2 _:bW w2 w3)
 have A2:ai w3 k2 av p.cells:=(ai.new hk2 hw2:ai w2 k2 av p.cells).below b3
 have A3:ai w3 k3 cv r.cells:=ai.new hk3 hw3
 have B3:=ab b2 b3 b2.size
 have lr:=bc.load (P:=prog) A3 (i:=1) (us:=r.host.cells) (Hst.len or) (λj hj=>Lb or hj)
 have lp:=bc.load (P:=prog) A2 (i:=1) (us:=p.host.cells) (Hst.len op) (λj hj=>K7 op hj)
 refine⟨rfl,_,lr,rfl,_,lp,_,KO or op w3,?_⟩
 refine⟨λb W=>b=(if p.wild=true then om r.host p.host else pK r.host p.host)/\bW w3 W,⟨rfl,_,A2.load1 dp rfl (i:=0) rfl,ae.of (λh=>⟨rfl,_,lr,rfl,_,lp,aB (wG or op (by omega) (by omega) w3 (he.step B3)) ?_⟩) (λh=>⟨by rw[if_neg (by rw[h];decide)],Below.refl _ _⟩)⟩,λb=>aN.of ?_ _⟩
 · rintro _ w17 ⟨rfl,b17⟩
   exact⟨_,rfl,by rw[if_pos h],b17⟩
 rintro W ⟨rfl,bWq⟩
 have BW:=ab B3 bWq B3.size
 have A2:=A2.below bWq
 have A3:=A3.below bWq
 have fin:∀{b:Bool} {V:World},bW W V->b=(J3 r&&uq p r)->(Value.bool b=.bool (J3 r&&uq p r)/\bW w V):=λhV e=>⟨by rw[e],ab BW hV BW.size⟩
 refine⟨_,λu hu=>yT.load0 (A3.below hu) (Req.len or),J3 r,λu hu=>(Rp or rn (he.step (ab BW hu BW.size))).mono ?_,ae.of (λh1=>?_) (λh1=>λV hV=>fin hV (by rw[h1];rfl))⟩
 · rintro _ w' ⟨_,rfl,rfl,b'⟩
   exact⟨rfl,b'.mono hu.size⟩
 have hv:(J3 r&&uq p r)=(U4 r.path p.pre&&((if r.sec=true then p.sec else p.plain)&&(if p.wild=true then om r.host p.host else pK r.host p.host))):=by unfold uq;rw[h1];rfl
 refine ae.of (λh2=>?_) (λh2=>λV hV=>fin hV (by rw[hv,h2];simp))
 have ix:∀(a b s:Bool) (u:World),(Instr.index mH (.agg #[.bool a,.bool b]) (vI (if s=true then 1 else 0))).run prog u=.ok (.bool (if s=true then b else a)) u:=λa b s u=>by cases s <;> kernel_rfl
 refine⟨rfl,p.plain,λu hu=>(A2.below hu).load1 dp rfl (F6 op 0),rfl,p.sec,λu hu=>(A2.below hu).load1 dp rfl (F6 op 1),rfl,r.sec,λu hu=>(A3.below hu).load1 dp rfl rfl,_,λu hu=>(OZ r.sec u).mono ?_,_,λu hu=>ix p.plain p.sec r.sec u,ae.of (λh3=>?_) (λh3=>λV hV=>fin hV (by rw[hv,h3];simp))⟩
 · rintro _ w' ⟨_,rfl,rfl,rfl⟩
   exact⟨rfl,Below.refl _ _⟩
 refine⟨rfl,r.path,λu hu=>(A3.below hu).load1 aF rfl (AR or 0),rfl,p.pre,λu hu=>(A2.below hu).load1 aF rfl (F6 op 2),Lib.hasPrefix r.path p.pre,λu hu=>(Ib r.path p.pre u).mono ?_,λV hV=>fin hV (by rw[hv,h2,h3,LY];simp)⟩
 rintro _ w' ⟨_,rfl,rfl,rfl⟩
 exact⟨rfl,Below.refl _ _⟩
theorem cV:Whl prog ay 4:=⟨⟨_,_,Eh⟩,by kernel_rfl⟩
theorem Mz (n:Int)(f:Flt)(w:World):Cf eP #[vI n,Ez f] w (Ret λv w'=>v=.tuple #[.pointer none,UV n f]/\bW w w'):=by
 refine Aq n f.1 f.2.1 f.2.2 ?_
 intro k3 w3 hk3 hw3 k5 w5 hk5 hw5
 have b3:=(hw3▸ah w _:bW w w3)
 have b5:=(hw5▸ah w3 _:bW w3 w5)
 have A3:ai w3 k3 aA (xW f):=ai.new hk3 hw3
 have A5:ai w5 k5 ay (zo 0 (0,0,0)):=ai.new hk5 hw5
 have hd:=cF w5
 generalize World.drew w5=wd at*
 have B5:=ab b3 b5 b3.size
 have Bd:=ab B5 hd B5.size
 obtain⟨wx,qx,Ax,gx⟩:=cV.store0 (P:=prog) (cs:=zo n f) rfl (qW n f) (A5.below hd) rfl
 exact⟨f.1,f.2.1,f.2.2,gM.load0 ((A3.below b5).below hd) rfl,wx,qx,n,f.1,f.2.1,f.2.2,ai.res (cV.load0 Ax rfl),rfl,Below.put Bd gx (by have:=b3.size;omega)⟩
theorem Lj {h:Hst}(o:h.ok)(hn:h.name.length <=1000000)(w:World)(he:Env w):Cf nX #[h.v] w (Ret λv w'=>∃a n c,v=.slice a n c/\Sl tS w' uc a n c (jw h)/\bW w w'):=by
 apply Ea
 intro k1 w1 hk1 hw1
 have b1:=(hw1▸ah w _:bW w w1)
 have A1:ai w1 k1 af h.cells:=ai.new hk1 hw1
 have ld:=bc.load0 (P:=prog) A1 (Hst.len o)
 refine⟨rfl,h.kind,A1.load1 cD rfl (i:=0) rfl,ae.of (λc=>⟨_,ld,aB (eS o (by omega) w1 (he.step b1)) ?_⟩) (λc=>⟨_,ld,aB (sw o w1 (he.step b1)) ?_⟩)⟩
 · rintro _ w7 ⟨a,n,e,rfl,ow,_,b7⟩
   have c:h.kind=1:=by simpa using c
   refine⟨_,_,_,rfl,_,_,_,rfl,?_,ab b1 b7 b1.size⟩
   unfold jw
   rw[if_pos c];exact ow.all
 · rintro _ w9 ⟨rfl,b9⟩
   have c:h.kind≠1:=by simpa using c
   refine⟨_,rfl,λk10 w10 hk10 hw10=>⟨_,_,_,rfl,?_,?_⟩⟩
   · unfold jw
     rw[if_neg c]
     exact(Ow.newF (T:=tS) (jS _) (A:=NoB) hk10 hw10 (kg.one (qO trivial)) (by show 1 <=maxLen;decide):Ow tS ak w10 NoB _ 1 1 [lq h]).all
   · have b10:=(hw10▸ah w9 _:bW w9 w10)
     have B9:=ab b1 b9 b1.size
     exact ab B9 b10 B9.size
theorem Dx {p:Pat}{r:Req}(op:p.ok)(or:r.ok)(pn:p.host.name.length <=80000000)(rn:r.host.name.length <=80000000){w:World}(he:Env w){k:Nat}(hk:ai w k cv r.cells):
   Cf bn #[p.v,.pointer (some ⟨k,0,none⟩)] w (Ret λv w'=>v=.bool (J3 r&&uq p r)/\bW w w'):=by
 apply pg
 intro k2 w2 hk2 hw2
 have b2:=(hw2▸ah w _:bW w w2)
 have A2:ai w2 k2 av p.cells:=ai.new hk2 hw2
 refine⟨_,iM.load0 A2 (Pat.len op),_,yT.load0 (hk.below b2) (Req.len or),aB (z6 op or pn rn (he.step b2)) ?_⟩
 rintro _ w6 ⟨rfl,b6⟩
 exact⟨_,rfl,rfl,ab b2 b6 b2.size⟩
theorem HK {r:Req}(or:r.ok)(rn:r.host.name.length <=80000000){w:World}(he:Env w){A:Bl}{a:Option Addr}{n c:Nat}{ps:List Pat}(hs:Sl AY w A a n c ps)(hI:∀p∈ps,p.host.name.length <=253){k:Nat}(hk:ai w k cv r.cells):
   Cf ce #[.slice a n c,.func (.func bn) #[] #[.pointer (some ⟨k,0,none⟩)]] w (Ret λv w'=>v=.bool (ps.any λp=>J3 r&&uq p r)/\bW w w'):=by
 apply cW
 have hn:=hs.len
 have hle:=hs.le
 subst hn
 refine aB (K:=λv w'=>v=vI (L2 (λp=>J3 r&&uq p r) ps)/\bW w w') ?_ ?_
 · apply dj
   refine⟨u0 (λp=>J3 r&&uq p r) ps w,u0.start _ _ _,λm i=>aN.of ?_ _⟩
   intro wl hIn
   rcases hIn.go hle with⟨j,hj,rfl,B,h3,hb,hy,hn⟩|⟨h3,h4,B⟩
   · obtain⟨hl,ok⟩:=AK (hs.below B) hj
     refine ae.yes h3 ⟨⟨hb,hs.isSome hj⟩,_,hl,aB (Dx ok or (Nat.le_trans (hI _ (List.getElem_mem hj)) (by decide)) rn (he.step B) (hk.below B)) ?_⟩
     rintro _ w' ⟨rfl,b'⟩
     have B':=ab B b' B.size
     exact⟨_,rfl,ae.of (λh4=>⟨by rw[hy h4],B'⟩) (λh4=>hn h4 _ B')⟩
   · exact ae.no h3 ⟨by rw[h4],B⟩
 · rintro _ w7 ⟨rfl,b7⟩
   exact⟨_,rfl,by rw[zZa],b7⟩
theorem Nj {t:Tpl}(o:t.ok)(w:World):(Instr.build cv #[(0,.bool t.url.sec),(1,t.url.host.v),(2,vS t.url.path)]).run prog w=.ok (VQ t).v w:=by
 obtain⟨nm,⟨sc,⟨e1,e2,e3⟩,po,pa⟩,tx,ln⟩:=t
 obtain⟨x0,x1,x2,x3,x4,x5,x6,x7,x8,x9,x10,x11,x12,x13,x14,x15,rfl⟩:=pN e3 o
 kernel_rfl
theorem JA {t:Tpl}(o:t.ok)(tn:t.url.host.name.length <=253){w:World}(he:Env w){k:Nat}{vs:List Value}{a:Option Addr}{n c:Nat}{A:Bl}{ps:List Pat}(hk:ai w k ep vs)(h0:vs[0]? =some (.slice a n c))(hs:Sl AY w A a n c ps)(hI:∀p∈ps,p.host.name.length <=253):
   Cf iW #[.pointer (some ⟨k,0,none⟩),t.v] w (Ret λv w'=>v=.bool (FB ps t)/\bW w w'):=by
 apply rK
 intro k3 w3 hk3 hw3
 have b3:=(hw3▸ah w _:bW w w3)
 have A3:ai w3 k3 ao t.cells:=ai.new hk3 hw3
 have ou:t.url.ok:=o
 have or:(VQ t).ok:=o
 have lh:=bc.load (P:=prog) A3 (i:=2) (us:=t.url.host.cells) (Hst.len o) (λj hj=>by
   rw[show 2+j=1+(1+j) by omega,GJ o (by omega)]
   exact Ba ou hj)
 refine⟨rfl,rfl,t.url.sec,A3.load1 dp rfl (i:=1) rfl,rfl,rfl,_,lh,rfl,rfl,t.url.path,A3.load1 aF rfl (i:=21) ((GJ o (by decide)).trans (GL ou)),_,Nj o w3,yT.new (zs:=(⟨false,nJ,[],0⟩:Req).cells) (cs:=(VQ t).cells) rfl (Req.len or) (Req.one _) w3 λk5 w5 hk5 A5 b5=>?_⟩
 have B5:=ab b3 b5 b3.size
 refine⟨rfl,rfl,a,n,c,by rw[tY];exact(hk.below B5).load1 fW rfl h0,aB (HK or (Nat.le_trans tn (by decide)) (he.step B5) (hs.below B5) hI A5) ?_⟩
 rintro _ w21 ⟨rfl,b21⟩
 exact⟨_,rfl,rfl,ab B5 b21 B5.size⟩
theorem ww {α β:Type}{f:α->List β}{B:Nat} :∀l:List α,(∀x∈l,(f x).length <=B)->(l.flatMap f).length <=l.length*B
 | [],_=>Nat.zero_le _
 | x::l,h=>by
   have h1:=ww l λq hq=>h q (List.mem_cons_of_mem _ hq)
   have h2:=h x List.mem_cons_self
   rw[List.flatMap_cons,List.length_append,List.length_cons,Nat.add_mul,Nat.one_mul];omega
theorem Ey {α β:Type}{f:α->List β}{l:List α}{j:Nat}(h:j<l.length):(l.take (j+1)).flatMap f=(l.take j).flatMap f++f l[j]:=by
 rw[List.take_succ_eq_append_getElem h,List.flatMap_append];simp
theorem Rj {α:Type}{T:Ty α}(hfl:Flat T){P:Program}{st t ty:TypeId}{bytes:Nat}{z:Value}(hu:P.underlying st=some (.slice t))(tf:TF P t T.k bytes z)(hb0:0<bytes)
   {w0 w:World} {a:Option Addr} {n c:Nat} {xs:List α} (ho:Ow T t w NoB a n c xs) (hf:bg w0.heap.size a) (hb:bW w0 w) {A:Bl} {y:Option Addr} {m cm:Nat} {ys:List α} (hs:Sl T w A y m cm ys) (hbound:(xs.length+ys.length)*bytes <=140737488355328):
   ∃(w2:World) (a':Option Addr) (n' c':Nat),(Builtin.append_ #[st,st] ty #[.slice a n c,.slice y m cm]).run P w=.ok (.slice a' n' c') w2/\Ow T t w2 NoB a' n' c' (xs++ys)/\bg w0.heap.size a'/\bW w0 w2:=by
 obtain⟨w4,a4,n4,c4,hr,ho4,hgr,hfr⟩:=dF (ty:=ty) hu tf hb0 ho (λ_ _ h=>h) (cm:=cm) (hs.flat hfl) hbound
 exact⟨w4,a4,n4,c4,hr,ho4,hf.app hb.size hfr,hb.grown hgr hb.size hf⟩
theorem ub (h:Hst)(hn:h.name.length <=253):(jw h).length <=254:=by
 unfold jw
 split
 · have:=nj h;omega
 · show 1 <=254;decide
theorem Ma {w:World}(he:Env w){k:Nat}{vs:List Value}{a b:Option Addr}{n c m e:Nat}{A B:Bl}{ps:List Pat}{ts:List Tpl}(hk:ai w k ep vs)(h0:vs[0]? =some (.slice a n c))(h1:vs[1]? =some (.slice b m e))(hs:Sl AY w A a n c ps)(ht:Sl vW w B b m e ts)(hI:Wn ps)(hT:UK ts)(h8:ts.length <=8):
   Cf jn #[.pointer (some ⟨k,0,none⟩)] w (Ret λv w'=>∃p,v=.pointer p/\Kj w.heap.size w' p (xS (ps.flatMap (λx=>jw x.host)++ts.flatMap λt=>jw t.url.host))/\bW w w'):=by
 apply sM
 have hn:=hs.len
 have hm:=ht.len
 subst hn hm
 have hP:∀p∈ps,(jw p.host).length <=254:=λp hp=>ub _ (hI.2 p hp).2
 have hQ:∀t∈ts,(jw t.url.host).length <=254:=λt ht=>ub _ (hT t ht)
 have h12:=hI.1
 have fl1:∀j,((ps.take j).flatMap λx=>jw x.host).length <=12*254:=λj=>Nat.le_trans (ww (B:=254) _ λx hx=>hP x (List.mem_of_mem_take hx)) (Nat.mul_le_mul (by rw[List.length_take];omega) (Nat.le_refl _))
 have fl2:∀j,((ts.take j).flatMap λx=>jw x.url.host).length <=8*254:=λj=>Nat.le_trans (ww (B:=254) _ λx hx=>hQ x (List.mem_of_mem_take hx)) (Nat.mul_le_mul (by rw[List.length_take];omega) (Nat.le_refl _))
 refine⟨rfl,rfl,a,_,c,by rw[tY];exact hk.load1 fW rfl h0,λm' a3 l3 c3 i W=>∃j:Nat,i=(j:Int)/\m'=ps.length-j/\j <=ps.length/\Ow tS ak W NoB a3 l3 c3 ((ps.take j).flatMap λx=>jw x.host)/\bg w.heap.size a3/\bW w W,
   ⟨_,0,rfl,rfl,Nat.zero_le _,Ow.nil _ _ _ _,bg.none _,Below.refl _ _⟩,λm' a3 l3 c3 i=>aN.of ?_ _⟩
 rintro W ⟨j,rfl,rfl,hj,oo,fo,bWq⟩
 refine ae.of (λh=>?_) (λh=>?_) <;> simp only[dTx,dFx]at h
 · have hlt:j<ps.length:=by omega
   obtain⟨ld,ok⟩:=AK (hs.below bWq) hlt
   have hp:=hI.2 _ (List.getElem_mem hlt)
   have h4:=hP _ (List.getElem_mem hlt)
   have hsn:=Ey (f:=λx:Pat=>jw x.host) hlt
   have hfl:=fl1 j
   generalize ps[j]=p at*
   refine⟨⟨⟨by omega,h⟩,(hs.below bWq).isSome hlt⟩,_,ld,iM.new (zs:=(⟨false,nJ,false,false,[]⟩:Pat).cells) (cs:=p.cells) rfl (Pat.len ok) (Pat.one _) W λk5 w5 hk5 A5 b5=>?_⟩
   have B5:=ab bWq b5 bWq.size
   refine⟨rfl,_,bc.load A5 (i:=1) (us:=p.host.cells) (Hst.len ok) (λj hj=>K7 ok hj),aB (Lj (h:=p.host) ok (Nat.le_trans hp.2 (by decide)) w5 (he.step B5)) ?_⟩
   rintro _ w20 ⟨a20,n20,c20,rfl,s20,b20⟩
   have B20:=ab B5 b20 B5.size
   obtain⟨w2,a',n',c',r2,o2,f2,b2⟩:=Rj (ty:=aw) (jS _) bG eG (by decide) (oo.below (ab b5 b20 b5.size)) fo B20 s20 (by omega)
   exact⟨_,_,_,rfl,w2,a',n',c',r2,ps.length-(j+1),by omega,j+1,by rw[wrap_i64 (by omega) (by omega)];omega,rfl,by omega,by rw[hsn];exact o2,f2,b2⟩
 obtain rfl:j=ps.length:=by omega
 rw[List.take_length]at oo
 have hfull:=fl1 ps.length
 rw[List.take_length]at hfull
 refine⟨rfl,rfl,b,_,e,by rw[dI];exact(hk.below bWq).load1 bT rfl h1,λm' a3 l3 c3 i W=>∃j:Nat,i=(j:Int)/\m'=ts.length-j/\j <=ts.length/\Ow tS ak W NoB a3 l3 c3 (ps.flatMap (λx=>jw x.host)++(ts.take j).flatMap λx=>jw x.url.host)/\bg w.heap.size a3/\bW w W,
   ⟨_,0,rfl,rfl,Nat.zero_le _,by simpa using oo,fo,bWq⟩,λm' a3 l3 c3 i=>aN.of ?_ _⟩
 rintro W2 ⟨j,rfl,rfl,hj,oo,fo,bWq⟩
 have hfl:=fl2 j
 refine ae.of (λh=>?_) (λh=>?_) <;> simp only[dTx,dFx]at h
 · have hlt:j<ts.length:=by omega
   obtain⟨ld,ok⟩:=AM (ht.below bWq) hlt
   have hp:=hT _ (List.getElem_mem hlt)
   have h4:=hQ _ (List.getElem_mem hlt)
   have hsn:=Ey (f:=λx:Tpl=>jw x.url.host) hlt
   generalize ts[j]=t at*
   have ou:t.url.ok:=ok
   refine⟨⟨⟨by omega,h⟩,(ht.below bWq).isSome hlt⟩,_,ld,jq.new (zs:=Tpl.cells ⟨[],AZ,[],0⟩) (cs:=t.cells) rfl (Tpl.len ok) (Tpl.one _) W2 λk7 w7 hk7 A7 b7=>?_⟩
   have B7:=ab bWq b7 bWq.size
   refine⟨rfl,rfl,_,bc.load A7 (i:=2) (us:=t.url.host.cells) (Hst.len ok) (λj hj=>by
     rw[show 2+j=1+(1+j) by omega,GJ ok (by omega)]
     exact Ba ou hj),aB (Lj (h:=t.url.host) ok (Nat.le_trans hp (by decide)) w7 (he.step B7)) ?_⟩
   rintro _ w36 ⟨a20,n20,c20,rfl,s20,b20⟩
   have B20:=ab B7 b20 B7.size
   obtain⟨w2,a',n',c',r2,o2,f2,b2⟩:=Rj (ty:=aw) (jS _) bG eG (by decide) (oo.below (ab b7 b20 b7.size)) fo B20 s20 (by rw[List.length_append];omega)
   exact⟨_,_,_,rfl,w2,a',n',c',r2,ts.length-(j+1),by omega,j+1,by rw[wrap_i64 (by omega) (by omega)];omega,rfl,by omega,by rw[hsn,<- List.append_assoc];exact o2,f2,b2⟩
 obtain rfl:j=ts.length:=by omega
 rw[List.take_length]at oo hfl
 refine aB (Ed _ _ _ _ (by rw[List.length_append];omega) W2 oo.all) ?_
 rintro _ w40 ⟨p,rfl,hA,b40⟩
 obtain⟨bb,aa,nn,cc,mm,cs,fr,e1,e2,e3,e4,e5,e6,e7,e8⟩:=hA
 have hsz:=bWq.size
 exact⟨_,rfl,p,rfl,⟨bb,aa,nn,cc,mm,cs,fr,e1,e2,e3,e4.mono λ_ _ h=>Nat.le_trans hsz h,e5,e6,by omega,by omega⟩,ab bWq b40 bWq.size⟩
def PD (W:World)(kt:Nat)(rs:List Rul):Prop:=∃(w0:World) (km:Nat) (a:Option Addr) (n c:Nat) (ps:List Pth) (kvs:List (rC×Int)) (es:List (List Bool)),Env w0/\rP w0 bC bP kt km a n c ps kvs es (rs.filter GU) W
theorem PD.below {W W':World}{kt:Nat}{rs:List Rul}(h:PD W kt rs)(hb:bW W W'):PD W' kt rs:=by
 obtain⟨w0,km,a,n,c,ps,kvs,es,he,h⟩:=h
 exact⟨w0,km,a,n,c,ps,kvs,es,he,h.below hb⟩
def E7 (W:World)(k:Nat)(p:Pln):Prop:=∃(a:Option Addr) (n c:Nat) (b:Option Addr) (m e:Nat) (d:Option Addr) (q f:Nat) (kt:Nat) (pa:Option Addr),ai W k ep [.slice a n c,.slice b m e,.slice d q f,.pointer (some ⟨kt,0,none⟩),.pointer pa]/\
 Sl AY W uc a n c p.ps/\Sl vW W uc b m e p.ts/\Sl Ee W uc d q f p.cs/\PD W kt p.rs/\ky W pa (xS p.labs)
theorem E7.below {W W':World}{k:Nat}{p:Pln}(h:E7 W k p)(hb:bW W W'):E7 W' k p:=by
 obtain⟨a,n,c,b,m,e,d,q,f,kt,pa,h1,h2,h3,h4,h5,h6⟩:=h
 exact⟨a,n,c,b,m,e,d,q,f,kt,pa,h1.below hb,h2.below hb,h3.below hb,h4.below hb,h5.below hb,h6.below hb⟩
def EU (W:World)(n:Nat):World:= { W with heap:=W.heap.extract 0 n }
theorem vJ {W:World}{n:Nat}(h:n <=W.heap.size):(EU W n).heap.size=n:=by simp[EU];omega
theorem zn {W:World}{n:Nat}(h:n <=W.heap.size):Below (EU W n).heap.size (EU W n) W:=by
 refine⟨rfl,rfl,rfl,by rw[vJ h];exact h,λb hb=>?_⟩
 rw[vJ h]at hb
 have h1:b<W.heap.size:=by omega
 simp only[EU]
 rw[Array.getElem?_extract]
 simp
 omega
theorem PD.turned {w w0 W W':World}(he:Env w)(hw:bW w W')(hww:w.heap.size <=w0.heap.size){S:List Nat}(hc:Chg S W W')(hS:∀s∈S,s<w0.heap.size){kt km:Nat}{a:Option Addr}{n c:Nat}{ps:List Pth}{kvs:List (rC×Int)}{es:List (List Bool)}{rs:List Rul}
   (h:rP w0 bC bP kt km a n c ps kvs es (rs.filter GU) W):PD W' kt rs:=by
 have h0:=h.hb.size
 have h1:=hc.size
 have hsz:w0.heap.size <=W'.heap.size:=by omega
 have nS:∀g,w0.heap.size <=g->g ∉ S:=λg hg hm=>by have:=hS g hm;omega
 have es0:=vJ hsz
 refine⟨EU W' w0.heap.size,km,a,n,c,ps,kvs,es,he.step ?_,?_⟩
 · have hb:=zn hsz
   refine⟨(hw.os).trans rfl |>.trans rfl,hw.tape,hw.output,by rw[es0];exact hww,λb hb2=>?_⟩
   rw[<- hw.block b hb2]
   exact(hb.block b (by rw[es0];omega)).symm
 · obtain⟨ks,cl,hh,hkv⟩:=h.h2
   refine⟨hc.arr h.h1 (nS kt h.kt0),⟨ks,cl,(hc.block km (Array.getElem?_eq_some_iff.1 hh).1 (nS km h.km0)).trans hh,hkv⟩,h.h3.keep (hc.keep.mono λg hg=>?_),h.T,h.t,zn hsz,h.ne,λg hg=>?_,by rw[es0];exact h.kt0,by rw[es0];exact h.km0⟩
   · rcases hg with hg|hg
     · exact hg.elim
     · exact nS g (h.og g hg.symm).2.2
   · rw[es0];exact h.og g hg
theorem Kj.turned {B:Nat}{W W':World}{p:Option Addr}{ts:List Txt}(h:Kj B W p ts){S:List Nat}(hc:Chg S W W')(hS:∀s∈S,s<B):ky W' p ts:=by
 obtain⟨b,a,n,c,m,cs,fr,e1,e2,e3,e4,⟨ks,cl,hh,hkv⟩,e6,e7,e8⟩:=h
 have nS:∀g,B <=g->g ∉ S:=λg hg hm=>by have:=hS g hm;omega
 exact⟨b,a,n,c,m,cs,fr,e1,(hc.block b (Array.getElem?_eq_some_iff.1 e2).1 (nS b e7)).trans e2,e3,(e4.keep (hc.keep.mono λg hg=>nS g hg)).mono λ_ _ _=>trivial,⟨ks,cl,(hc.block m (Array.getElem?_eq_some_iff.1 hh).1 (nS m e8)).trans hh,hkv⟩,e6⟩
end Go.Pk
