/- What the law alone leans on: R, Open, Names, V3, V1, H, DateP, DateA, DateC, DateE, DateL, DateN, DateO, DateR, HdrA, HdrB, HdrC, AddrF, AddrG, AddrI, HostC, HostD, V4, UrlA, MatA, RulA, RulB, SufB, SufD, HdrF, HdrG, HdrH, DateU, HdrI, HdrJ, HdrN, AdmA, AdmB, AdmC, Col, V12, DocA, DocB, DocC, DocD, AdmE, V13, MatB, MatC, AdmN, JarQ, DocE, JarR, V11, DocF, JarF, DocG, DocH, JarA, V14, V15, JlwA, JlwB, JlwC, JlwD, JlwE, OpenA, OpenC, JlwF; what is used. Its conditions: none. -/
import Derived.Test.YtlfolncaghkmcaaGreatDoorKJ
import Derived.Lib.Bytes2
import Derived.ChangeArms
import Derived.ChangeSame
import Derived.Deep.Slices
variable {n m i j k:Nat}{w u v:Go.World}{p q:Option Go.Addr}{A B:Go.Pk.Bl}{a b:Int}{t:Go.TypeId}{s:List UInt8}{L:List Go.Pk.Kpt}{o:Type}{h:Go.Pk.Hst}{c:Go.Pk.Cky}{P:Go.Program}{K:List Go.Pk.OpR}
open Go.IntKind (i64)
open Go.Proofs.Tryz
set_option linter.unusedVariables false
set_option linter.unusedSimpArgs false
open List (length)
open Option (isSome)
namespace Go.Pk
open Go.RowKit (Below)
open Go.Proofs
def vj:Ty Int:=TH .i64 λ_=>True
def PN:Ty Bool:=Ty.enc (λb=>.bool b) (λ_=>rfl) λ_=>True
theorem ww {α:Type}{e:α->Value}{h1:∀x,(e x).oneCell'=true}{p:α->Prop}{l:List Value}{xs:List α}(h:kK (Ty.enc e h1 p) w A l xs):∀x∈xs,p x:=λx D=>by
 obtain⟨i,q,rfl⟩:=List.getElem_of_mem D
 exact(h.rep i q).2
theorem BM {n:Int} :vj.rep w A [vI n] n:=⟨rfl,trivial⟩
theorem vB {v:Value}{n:Int}(h:vj.rep w A [v] n):v=vI n:=by have:=h.1;simpa using this
theorem o9:Flat vj:=λ_ _ _ _ _ _ h=>h
def Ac {α:Type}(P:Program)(T:Ty α)(t:TypeId):Prop:=
 ∀(H:Type) (enc:TypeId×Value->H) (w:World) (fuel:Nat) (cs:List Value) (x:DataW H×List MemPlace),DataW.trod enc P w 0 (λ_=>true) true fuel t cs=some x->∃a,T.rep w wu cs a
theorem eM {k:IntKind}(q:P.underlying t=some (.int k)):Ac P (TH k λn=>(Lit.int k n).wf=true) t:=λE enc w fuel cs x h=>by
 obtain⟨n,e,_,D⟩:=DataW.trod_int q h
 exact⟨n,e,D⟩
theorem rN (q:P.underlying t=some .bool):Ac P PN t:=λD enc w fuel cs x h=>by
 obtain⟨b,e,_⟩:=DataW.trod_bool q h
 exact⟨b,e,trivial⟩
theorem jW (D:P.underlying t=some .string):Ac P (Vj λs=>s.length <=maxLen) t:=λE enc w fuel cs x h=>by
 obtain⟨s,e,_,q⟩:=DataW.trod_string D h
 exact⟨toL s,e,q⟩
theorem zh {α:Type}{T:Ty α}{t e:TypeId}(X:P.underlying t=some (.array n e))(I:Ac P T e)(U:P.cellsOf e=T.k)(H:P.cellsOf t=n*T.k)
 {enc:TypeId×Value->o} {fuel:Nat} {cs:List Value} {x:DataW o×List MemPlace} (h:DataW.trod enc P w 0 (λ_=>true) true fuel t cs=some x):∃xs:List α,xs.length=n/\kK T w wu cs xs:=by
 obtain⟨ys,m,_,_,V,Z,M⟩:=DataW.trod_array X h
 have G:∀i,i<n->∃a,T.rep w wu ((cs.drop (i*T.k)).take T.k) a:=λi D=>by
  have:=M i D
  rw[U,List.getElem?_eq_getElem (by omega)]at this
  exact I o enc w m _ _ this
 have build:∀j,j <=n->∃xs:List α,xs.length=j/\∀i (h:i<xs.length),T.rep w wu ((cs.drop (i*T.k)).take T.k) xs[i]:=by
  intro j
  induction j with
  |zero=>intro _;exact⟨[],rfl,λi h=>by cases h⟩
  |succ j Y=>
   intro O
   obtain⟨xs,h1,q⟩:=Y (by omega)
   obtain⟨a,E⟩:=G j O
   refine⟨xs++[a],by simp[h1],λi D=>?_⟩
   by_cases c:i<xs.length
   ·rw[List.getElem_append_left c];exact q i c
   ·have:i=xs.length:=by simp at D;omega
    subst this
    rw[List.getElem_append_right (Nat.le_refl _)]
    simp only[Nat.sub_self,List.getElem_cons_zero]
    rw[h1];exact E
 obtain⟨xs,h1,q⟩:=build n (Nat.le_refl _)
 exact⟨xs,h1,by rw[V,H,h1],q⟩
abbrev CY:Nat:=8
abbrev cA:Nat:=15
abbrev iM:Nat:=16
abbrev dZ:Nat:=19
abbrev cK:Nat:=20
abbrev dQ:Nat:=22
abbrev fz:Nat:=23
abbrev gV:Nat:=24
abbrev cY:Nat:=25
abbrev j9:Nat:=39
abbrev bH:Nat:=50
abbrev dW:Nat:=51
abbrev iR:Nat:=88
abbrev iQ:Nat:=89
abbrev fV:Nat:=90
abbrev bO:Nat:=101
abbrev dx:Nat:=102
abbrev dy:Nat:=143
abbrev dA:Nat:=144
abbrev fT:Nat:=145
abbrev dh:Nat:=146
abbrev fW:Nat:=147
abbrev iO:Nat:=148
abbrev cR:Nat:=149
abbrev eV:Nat:=150
abbrev cS:Nat:=151
abbrev dX:Nat:=152
abbrev fU:Nat:=153
abbrev iP:Nat:=154
abbrev cU:Nat:=168
abbrev bG:Nat:=169
abbrev bi:Nat:=204
abbrev aW:Nat:=205
abbrev dI:Nat:=206
abbrev cy:Nat:=207
abbrev eo:Nat:=208
abbrev iN:Nat:=209
abbrev fS:Nat:=210
abbrev ej:Nat:=211
abbrev dK:Nat:=212
abbrev ep:Nat:=213
abbrev fP:Nat:=214
abbrev eE:Nat:=215
abbrev eU:Nat:=216
abbrev eO:Nat:=224
abbrev eP:Nat:=225
abbrev bZ:Nat:=247
abbrev eT:Nat:=248
abbrev cP:Nat:=249
abbrev fR:Nat:=250
abbrev cE:Nat:=251
abbrev dz:Nat:=252
abbrev gH:Nat:=253
abbrev cV:Nat:=254
abbrev fQ:Nat:=255
abbrev dJ:Nat:=256
abbrev cO:Nat:=257
abbrev cQ:Nat:=258
abbrev fM:Nat:=259
abbrev bt:Nat:=261
abbrev dw:Nat:=262
abbrev bX:Nat:=263
abbrev bT:Nat:=276
abbrev cz:Nat:=277
abbrev eS:Nat:=278
abbrev ba:Nat:=279
abbrev eR:Nat:=280
abbrev eQ:Nat:=281
abbrev dV:Nat:=290
abbrev fN:Nat:=291
abbrev fO:Nat:=292
abbrev ca:Nat:=304
abbrev cI:Nat:=44
abbrev aa:Nat:=45
abbrev ab:Nat:=47
abbrev ae:Nat:=49
abbrev bh:Nat:=54
abbrev aV:Nat:=55
abbrev am:Nat:=100
abbrev jh:Nat:=284
theorem lE:TF prog cD 1 8 (.pointer none):=TF.of (by kernel_rfl) (by kernel_rfl) false (by kernel_rfl) (.inr rfl)
theorem da:prog.underlying cI=some (.slice aG):=by kernel_rfl
theorem aF:prog.underlying aa=some (.slice am):=by kernel_rfl
theorem fw:TF prog ab 2 32 (.agg #[.slice none 0 0,vI 0]):=TF.of (by kernel_rfl) (by kernel_rfl) true (by kernel_rfl) (.inl rfl)
theorem gS:TF prog ae 4 64 (.agg #[.slice none 0 0,.slice none 0 0,vI 0,vI 0]):=TF.of (by kernel_rfl) (by kernel_rfl) true (by kernel_rfl) (.inl rfl)
abbrev sZ:Array Value:= #[vI 0,.bool false,vI 0,vS [],.int .u8 0,.int .u8 0,.int .u8 0,.int .u8 0,.int .u8 0,.int .u8 0,.int .u8 0,.int .u8 0,.int .u8 0,.int .u8 0,.int .u8 0,.int .u8 0,.int .u8 0,.int .u8 0,.int .u8 0,.int .u8 0,vI 0,vS [],vS [],.bool false,vI 0,vS [],.int .u8 0,.int .u8 0,.int .u8 0,.int .u8 0,.int .u8 0,.int .u8 0,.int .u8 0,.int .u8 0,.int .u8 0,.int .u8 0,.int .u8 0,.int .u8 0,.int .u8 0,.int .u8 0,.int .u8 0,.int .u8 0,vS [],vI 0,vI 0]
theorem sA:TF prog bh 45 176 (.agg #[vI 0,.bool false,vI 0,vS [],.int .u8 0,.int .u8 0,.int .u8 0,.int .u8 0,.int .u8 0,.int .u8 0,.int .u8 0,.int .u8 0,.int .u8 0,.int .u8 0,.int .u8 0,.int .u8 0,.int .u8 0,.int .u8 0,.int .u8 0,.int .u8 0,vI 0,vS [],vS [],.bool false,vI 0,vS [],.int .u8 0,.int .u8 0,.int .u8 0,.int .u8 0,.int .u8 0,.int .u8 0,.int .u8 0,.int .u8 0,.int .u8 0,.int .u8 0,.int .u8 0,.int .u8 0,.int .u8 0,.int .u8 0,.int .u8 0,.int .u8 0,vS [],vI 0,vI 0]):=TF.of (by kernel_rfl) (by kernel_rfl) true (by kernel_rfl) (.inl rfl)
theorem nb:prog.underlying aV=some (.slice bh):=by kernel_rfl
abbrev bv:Array Value:= #[vS [],vS [],vI 0,vS [],.int .u8 0,.int .u8 0,.int .u8 0,.int .u8 0,.int .u8 0,.int .u8 0,.int .u8 0,.int .u8 0,.int .u8 0,.int .u8 0,.int .u8 0,.int .u8 0,.int .u8 0,.int .u8 0,.int .u8 0,.int .u8 0,.bool false,vS [],.bool false,.bool false,vI 0,vI 0,vI 0,vI 0,vI 0,vS []]
theorem bl:TF prog am 30 160 (.agg #[vS [],vS [],vI 0,vS [],.int .u8 0,.int .u8 0,.int .u8 0,.int .u8 0,.int .u8 0,.int .u8 0,.int .u8 0,.int .u8 0,.int .u8 0,.int .u8 0,.int .u8 0,.int .u8 0,.int .u8 0,.int .u8 0,.int .u8 0,.int .u8 0,.bool false,vS [],.bool false,.bool false,vI 0,vI 0,vI 0,vI 0,vI 0,vS []]):=TF.of (by kernel_rfl) (by kernel_rfl) true (by kernel_rfl) (.inl rfl)
theorem vW:prog.underlying jh=some (.slice aJ):=by kernel_rfl
set_option maxRecDepth 100000
theorem mw (a:Value){w K}(h:nA w (.cells (Value.cells a) ak) λb c=>∃d,Ld ak (vA b 0) c d/\uS cU #[d] c λe f=>Cf fu #[vS e] f λg i=>∃j k,g=rT #[j,vI k]/\nA i (.cells bK ak) λl m=>∃n,Sv ak (vA l 0) j m n/\ai (k==(0:Int)) (∃o,Ld ak (vA l 0) n o/\∃p,Ld ak (vA b 0) n p/\∃q,(do eqGuard .eql ak (.tmp 14) (.tmp 15) o p;binOp .eql ak o p:Sem Value).run prog n=.ok (.bool q) n/\K (.bool q) n) (K (.bool false) n)):Cf bO #[a] w (Ret K):=ru func101 [] h
theorem mx (a b:Value){w K}(h:nA w (.cells (Value.cells a) ak) λc d=>nA d (.cells (Value.cells b) ak) λe f=>∃g:FP [],(∃i,Ld ak (vA c 0) f i/\uL bG #[i] f λj k l m=>ai (((k:Nat):Int)==(0:Int)) (K (.bool false) m) (∃n,Ld ak (vA e 0) m n/\uL bG #[n] m λo p q r=>ai (((p:Nat):Int)==(0:Int)) (K (.bool false) r) (g r)))/\aP 11 (∀i,g i->true/\∃j,Ld ao (vA e 1) i (vS j)/\(((List.length [46]+List.length j:Nat):Int) <=i64.max)/\∀k,k=([46]++j)->true/\∃l,Ld ao (vA c 1) i (vS l)/\ai (decide (((List.length l:Nat):Int)>((List.length k:Nat):Int))) (true/\∃m,Ld ao (vA c 1) i (vS m)/\true/\∃n,Ld ao (vA c 1) i (vS n)/\bd (i64.wrap (((List.length n:Nat):Int)-((List.length k:Nat):Int))) (((List.length m):Nat):Int)/\∀o,o=(List.drop (Int.toNat (i64.wrap (((List.length n:Nat):Int)-((List.length k:Nat):Int)))) m)->K (.bool (o==k)) i) (K (.bool false) i))):Cf dx #[a,b] w (Ret K):=ru func102 [(2,[])] h
theorem nY (a:Value){w K}(h:nA w (.cells (Value.cells a) ak) λb c=>true/\∃d,Ld aJ (vA b 0) c (vI d)/\ai (d==(1:Int)) (true/\∃e,Ld ao (vA b 1) c (vS e)/\K (vS e) c) (true/\∃e,Ld aJ (vA b 0) c (vI e)/\ai (e==(2:Int)) (true/\∃f,Ld aK (vA b 2) c f/\uS eO #[f] c λg i=>K (vS g) i) (true/\∃f,Ld aJ (vA b 0) c (vI f)/\ai (f==(3:Int)) (true/\∃g,Ld aK (vA b 2) c g/\uS eP #[g] c λi j=>(((List.length [91]+List.length i:Nat):Int) <=i64.max)/\∀k,k=([91]++i)->(((List.length k+List.length [93]:Nat):Int) <=i64.max)/\∀l,l=(k++[93])->K (vS l) j) (K (vS []) c)))):Cf cU #[a] w (Ret K):=ru func168 [] h
theorem kX (a:Value){w K}(h:nA w (.cells (Value.cells a) ak) λb c=>∃d:FP [],(true/\∃e,Ld aJ (vA b 0) c (vI e)/\ai (e !=(1:Int)) (K (.slice none 0 0) c) (∃f,Ld ak (vA b 0) c f/\uB bO #[f] c λg i=>ai (!g) (K (.slice none 0 0) i) (d i)))/\aP 9 (∀e,d e->true/\∃f,Ld ao (vA b 1) e (vS f)/\uL eD #[vS f,.int .u8 46] e λg i j k=>K (.slice g i j) k)):Cf bG #[a] w (Ret K):=ru func169 [(2,[])] h
theorem mu (a:Value){w K}(h:nA w (.cells (Value.cells a) aK) λb c=>(bx (12:Int) ((16:Nat):Int)/\true)/\∃d,(∀e,bW c e->Ld bF (aw (vA b 0) (12:Int) 1) e (.int .u8 d))/\∃e,(∀f,bW c f->Cf bt #[vI (i64.wrap d)] f λg i=>g=.returned (vS e)/\Below c.heap.size f i)/\(((List.length e+List.length [46]:Nat):Int) <=i64.max)/\∀f,f=(e++[46])->(bx (13:Int) ((16:Nat):Int)/\true)/\∃g,(∀i,bW c i->Ld bF (aw (vA b 0) (13:Int) 1) i (.int .u8 g))/\∃i,(∀j,bW c j->Cf bt #[vI (i64.wrap g)] j λk l=>k=.returned (vS i)/\Below c.heap.size j l)/\(((List.length f+List.length i:Nat):Int) <=i64.max)/\∀j,j=(f++i)->(((List.length j+List.length [46]:Nat):Int) <=i64.max)/\∀k,k=(j++[46])->(bx (14:Int) ((16:Nat):Int)/\true)/\∃l,(∀m,bW c m->Ld bF (aw (vA b 0) (14:Int) 1) m (.int .u8 l))/\∃m,(∀n,bW c n->Cf bt #[vI (i64.wrap l)] n λo p=>o=.returned (vS m)/\Below c.heap.size n p)/\(((List.length k+List.length m:Nat):Int) <=i64.max)/\∀n,n=(k++m)->(((List.length n+List.length [46]:Nat):Int) <=i64.max)/\∀o,o=(n++[46])->(bx (15:Int) ((16:Nat):Int)/\true)/\∃p,(∀q,bW c q->Ld bF (aw (vA b 0) (15:Int) 1) q (.int .u8 p))/\∃q,(∀r,bW c r->Cf bt #[vI (i64.wrap p)] r λs t=>s=.returned (vS q)/\Below c.heap.size r t)/\(((List.length o+List.length q:Nat):Int) <=i64.max)/\∀r,r=(o++q)->∀s,bW c s->K (vS r) s):Cf eO #[a] w (Ret K):=ru func224 [] h
theorem mv (a:Value){w K}(h:nA w (.cells (Value.cells a) aK) λb c=>∃d:Nat->FP [.one (.int .i64)],(∃e,d e (8:Int) c)/\∀e f,aP 40 (∀g,d e f g->ai (decide (f >=(2:Int))) (∃i:Nat->FP [.one (.int .i64)],(∃j,i j (0:Int) g)/\∀j k,aP 35 (∀l,i j k l->ai (decide ((i64.wrap (k+f)) <=(8:Int))) (∃m:Nat->FP [.one .bool,.one (.int .i64)],(∃n,m n true k l)/\∀n o p,aP 14 (∀q,m n o p q->ai (decide (p<(i64.wrap (k+f)))) (ai o (∃r,Ld aK (vA b 0) q r/\uI dw #[r,vI p] q λs t=>∃u:Nat,u<n/\m u (s==(0:Int)) (i64.wrap (p+(1:Int))) t) (∃r:Nat,r<n/\m r false (i64.wrap (p+(1:Int))) q)) (ai o (∃r,(∀s,bW q s->Ld aK (vA b 0) s r)/\∃s,(∀t,bW q t->Cf bX #[r,vI 0,vI k] t λu v=>u=.returned (vS s)/\Below q.heap.size t v)/\(((List.length s+List.length [58,58]:Nat):Int) <=i64.max)/\∀t,t=(s++[58,58])->∃u,(∀v,bW q v->Ld aK (vA b 0) v u)/\∃v,(∀x,bW q x->Cf bX #[u,vI (i64.wrap (k+f)),vI 8] x λy z=>y=.returned (vS v)/\Below q.heap.size x z)/\(((List.length t+List.length v:Nat):Int) <=i64.max)/\∀x,x=(t++v)->∀y,bW q y->K (vS x) y) (∃r:Nat,r<j/\i r (i64.wrap (k+(1:Int))) q)))) (∃m:Nat,m<e/\d m (i64.wrap (f-(1:Int))) l))) (∃i,Ld aK (vA b 0) g i/\uS bX #[i,vI 0,vI 8] g λj k=>K (vS j) k))):Cf eP #[a] w (Ret K):=ru func225 [(6,[(3,.one (.int .i64))]),(18,[(4,.one (.int .i64))]),(33,[(5,.one .bool),(6,.one (.int .i64))])] h
theorem nW (a:Value)(b:Int){w K}(h:nA w (.cells (Value.cells a) ak) λc d=>nA d (.cells bK ak) λe f=>∃g,Ld ak (vA c 0) f g/\uL bG #[g] f λi j k l=>∃m:FP [],(∃n:FP [.one .bool],(ai (decide (b<(1:Int))) (n true l) (n (decide (b>((j:Nat):Int))) l))/\∀o,aP 7 (∀p,n o p->ai o (∃q,Sv ak (vA e 0) (.agg bK) p q/\∃r,Rv ak (vA e 0) q r/\K (.tuple #[r,.bool false]) q) (m p)))/\aP 10 (∀n,m n->∃o:Nat->FP [.one .str,.one (.int .i64)],(∃p,o p [] (i64.wrap (((j:Nat):Int)-b)) n)/\∀p q r,aP 16 (∀s,o p q r s->ai (decide (r<((j:Nat):Int))) (∃t:FP [.one .str],(ai (!(q==[])) ((((List.length q+List.length [46]:Nat):Int) <=i64.max)/\∀u,u=(q++[46])->t u s) (t q s))/\∀u,aP 4 (∀v,t u v->(bx r ((j:Nat):Int)/\Option.isSome i=true)/\∃x,Ld ao (aw i r 1) v (vS x)/\(((List.length u+List.length x:Nat):Int) <=i64.max)/\∀y,y=(u++x)->∃z:Nat,z<p/\o z y (i64.wrap (r+(1:Int))) v)) (∃t,Sv ak (vA e 0) (.agg #[vI 1,vS q,.int .u8 0,.int .u8 0,.int .u8 0,.int .u8 0,.int .u8 0,.int .u8 0,.int .u8 0,.int .u8 0,.int .u8 0,.int .u8 0,.int .u8 0,.int .u8 0,.int .u8 0,.int .u8 0,.int .u8 0,.int .u8 0]) s t/\∃u,Rv ak (vA e 0) t u/\K (.tuple #[u,.bool true]) t)))):Cf fM #[a,vI b] w (Ret K):=ru func259 [(4,[]),(5,[(18,.one .bool)]),(18,[(7,.one .str),(8,.one (.int .i64))]),(27,[(7,.one .str)])] h
theorem kf (a:Int){w K}(h:ai (decide (a<(10:Int))) (nA w (.cells #[.int .u8 (IntKind.u8.wrap (i64.wrap ((48:Int)+a)))] bF) λb c=>∃d,(convert bM ao (.slice (vA b 0) 1 1)).run prog c=.ok (vS d) c/\K (vS d) c) (((10:Int)≠0)/\∀b,b=(i64.wrap (Int.tdiv a (10:Int)))->((10:Int)≠0)/\∀c,c=(Int.tmod a (10:Int))->(uS bt #[vI b] (World.drew w) λd e=>nA e (.cells #[.int .u8 (IntKind.u8.wrap (i64.wrap ((48:Int)+c)))] bF) λf g=>∃i,(convert bM ao (.slice (vA f 0) 1 1)).run prog g=.ok (vS i) g/\(((List.length d+List.length i:Nat):Int) <=i64.max)/\∀j,j=(d++i)->K (vS j) g)/\∀d e,d=(World.drew w).heap.size->e=(World.drew w).alloc (.cells #[.int .u8 (IntKind.u8.wrap (i64.wrap ((48:Int)+c)))] bF)->(uS bt #[vI b] e λf g=>∃i,(convert bM ao (.slice (vA d 0) 1 1)).run prog g=.ok (vS i) g/\(((List.length f+List.length i:Nat):Int) <=i64.max)/\∀j,j=(f++i)->K (vS j) g)/\∃f,(convert bM ao (.slice (vA d 0) 1 1)).run prog e=.ok (vS f) e/\uS bt #[vI b] e λg i=>(((List.length g+List.length f:Nat):Int) <=i64.max)/\∀j,j=(g++f)->K (vS j) i)):Cf bt #[vI a] w (Ret K):=ru func261 [] h
theorem mr (a:Value)(b:Int){w K}(h:nA w (.cells (Value.cells a) aK) λc d=>(bx (i64.wrap ((2:Int)*b)) ((16:Nat):Int)/\true)/\∃e,(∀f,bW d f->Ld bF (aw (vA c 0) (i64.wrap ((2:Int)*b)) 1) f (.int .u8 e))/\(bx (i64.wrap ((i64.wrap ((2:Int)*b))+(1:Int))) ((16:Nat):Int)/\true)/\∃f,(∀g,bW d g->Ld bF (aw (vA c 0) (i64.wrap ((i64.wrap ((2:Int)*b))+(1:Int))) 1) g (.int .u8 f))/\∀g,bW d g->K (vI (i64.wrap ((i64.wrap ((i64.wrap e)*(256:Int)))+(i64.wrap f)))) g):Cf dw #[a,vI b] w (Ret K):=ru func262 [] h
theorem nV (a:Value)(b c:Int){w K}(h:nA w (.cells (Value.cells a) aK) λd e=>∃f:Nat->FP [.one .str,.one (.int .i64)],(∃g,f g [] b e)/\∀g i j,aP 16 (∀k,f g i j k->ai (decide (j<c)) (∃l:FP [.one .str],(ai (decide (j>b)) ((((List.length i+List.length [58]:Nat):Int) <=i64.max)/\∀m,m=(i++[58])->l m k) (l i k))/\∀m,aP 5 (∀n,l m n->∃o,Ld aK (vA d 0) n o/\uI dw #[o,vI j] n λp q=>uS eQ #[vI p] q λr s=>(((List.length m+List.length r:Nat):Int) <=i64.max)/\∀t,t=(m++r)->∃u:Nat,u<g/\f u t (i64.wrap (j+(1:Int))) s)) (K (vS i) k))):Cf bX #[a,vI b,vI c] w (Ret K):=ru func263 [(8,[(7,.one .str),(8,.one (.int .i64))]),(17,[(7,.one .str)])] h
theorem px (a:Int){w K}(h:ai (decide (a<(16:Int))) ((bd (i64.wrap (a+(1:Int))) (((List.length [48,49,50,51,52,53,54,55,56,57,97,98,99,100,101,102]):Nat):Int)/\0 <=a/\a <=((Int.toNat (i64.wrap (a+(1:Int))):Nat):Int))/\∀b,b=(List.drop (Int.toNat a) (List.take (Int.toNat (i64.wrap (a+(1:Int)))) [48,49,50,51,52,53,54,55,56,57,97,98,99,100,101,102]))->K (vS b) w) (((16:Int)≠0)/\∀b,b=(i64.wrap (Int.tdiv a (16:Int)))->∃c,(∀d,bW w d->Cf eQ #[vI b] d λe f=>e=.returned (vS c)/\Below w.heap.size d f)/\((16:Int)≠0)/\∀d,d=(Int.tmod a (16:Int))->((16:Int)≠0)/\∀e,e=(Int.tmod a (16:Int))->(bd (i64.wrap (e+(1:Int))) (((List.length [48,49,50,51,52,53,54,55,56,57,97,98,99,100,101,102]):Nat):Int)/\0 <=d/\d <=((Int.toNat (i64.wrap (e+(1:Int))):Nat):Int))/\∀f,f=(List.drop (Int.toNat d) (List.take (Int.toNat (i64.wrap (e+(1:Int)))) [48,49,50,51,52,53,54,55,56,57,97,98,99,100,101,102]))->(((List.length c+List.length f:Nat):Int) <=i64.max)/\∀g,g=(c++f)->∀i,bW w i->K (vS g) i)):Cf eQ #[vI a] w (Ret K):=ru func281 [] h
theorem mE (a:lU){w K}(h:nA w (.cells #[vS [],vS [],vS [],vS [],.bool false,vI 0,.bool false,vI 0,.bool false,.bool false,vI 0] aq) λb c=>∃d:Nat->FP [.one (.int .i64)],(∃e,d e (0:Int) c)/\∀e f,aP 30 (∀g,d e f g->ai (decide (f<((List.length a:Nat):Int))) (∃i:FP [.one .bool],(bx f ((List.length a:Nat):Int)/\ai (decide ((bm a f) <=(8:Int))) (i true g) (bx f ((List.length a:Nat):Int)/\ai (decide ((bm a f) >=(10:Int))) (bx f ((List.length a:Nat):Int)/\ai (decide ((bm a f) <=(31:Int))) (i true g) (bx f ((List.length a:Nat):Int)/\i ((bm a f)==(127:Int)) g)) (bx f ((List.length a:Nat):Int)/\i ((bm a f)==(127:Int)) g)))/\∀j,aP 21 (∀k,i j k->ai j (∃l,Sv aq (vA b 0) (hV [] [] [] [] false (0:Int) false (0:Int) false false (0:Int)) k l/\∃m n o p q r s t u v x,Rv aq (vA b 0) l (hV m n o p q r s t u v x)/\K (.tuple #[(hV m n o p q r s t u v x),vI 81]) l) (∃l:Nat,l<e/\d l (i64.wrap (f+(1:Int))) k))) (uL eD #[vS a,.int .u8 59] g λi j k l=>∃m:FP [.one .ptr],((bx (0:Int) ((j:Nat):Int)/\Option.isSome i=true)/\(bx (0:Int) ((j:Nat):Int)/\Option.isSome i=true)/\(∃n,Ld ao (aw i (0:Int) 1) (World.drew l) (vS n)/\(uS bi #[vS n] (World.drew l) λo p=>(∃q,Ld ao (aw i (0:Int) 1) p (vS q)/\(uS aW #[vS q] p λr s=>nA s (.cells #[vS [],vS [],vS [],vS [],.bool false,vI 0,.bool false,vI 0,.bool false,.bool false,vI 0] aq) λt u=>∃v,Sv aq (vA t 0) (hV o r [] [] false (0:Int) false (0:Int) false false (0:Int)) u v/\m (vA t 0) v)/\nA p (.cells #[vS [],vS [],vS [],vS [],.bool false,vI 0,.bool false,vI 0,.bool false,.bool false,vI 0] aq) λr s=>uS aW #[vS q] s λt u=>∃v,Sv aq (vA r 0) (hV o t [] [] false (0:Int) false (0:Int) false false (0:Int)) u v/\m (vA r 0) v)/\nA p (.cells #[vS [],vS [],vS [],vS [],.bool false,vI 0,.bool false,vI 0,.bool false,.bool false,vI 0] aq) λq r=>∃s,Ld ao (aw i (0:Int) 1) r (vS s)/\uS aW #[vS s] r λt u=>∃v,Sv aq (vA q 0) (hV o t [] [] false (0:Int) false (0:Int) false false (0:Int)) u v/\m (vA q 0) v)/\(∃o,Ld ao (aw i (0:Int) 1) (World.drew l) (vS o)/\(uS bi #[vS n] (World.drew l) λp q=>(uS aW #[vS o] q λr s=>nA s (.cells #[vS [],vS [],vS [],vS [],.bool false,vI 0,.bool false,vI 0,.bool false,.bool false,vI 0] aq) λt u=>∃v,Sv aq (vA t 0) (hV p r [] [] false (0:Int) false (0:Int) false false (0:Int)) u v/\m (vA t 0) v)/\nA q (.cells #[vS [],vS [],vS [],vS [],.bool false,vI 0,.bool false,vI 0,.bool false,.bool false,vI 0] aq) λr s=>uS aW #[vS o] s λt u=>∃v,Sv aq (vA r 0) (hV p t [] [] false (0:Int) false (0:Int) false false (0:Int)) u v/\m (vA r 0) v)/\∀p q,p=(World.drew l).heap.size->q=(World.drew l).alloc (.cells #[vS [],vS [],vS [],vS [],.bool false,vI 0,.bool false,vI 0,.bool false,.bool false,vI 0] aq)->uS bi #[vS n] q λr s=>uS aW #[vS o] s λt u=>∃v,Sv aq (vA p 0) (hV r t [] [] false (0:Int) false (0:Int) false false (0:Int)) u v/\m (vA p 0) v)/\∀o p,o=(World.drew l).heap.size->p=(World.drew l).alloc (.cells #[vS [],vS [],vS [],vS [],.bool false,vI 0,.bool false,vI 0,.bool false,.bool false,vI 0] aq)->(uS bi #[vS n] p λq r=>∃s,Ld ao (aw i (0:Int) 1) r (vS s)/\uS aW #[vS s] r λt u=>∃v,Sv aq (vA o 0) (hV q t [] [] false (0:Int) false (0:Int) false false (0:Int)) u v/\m (vA o 0) v)/\∃q,Ld ao (aw i (0:Int) 1) p (vS q)/\uS bi #[vS n] p λr s=>uS aW #[vS q] s λt u=>∃v,Sv aq (vA o 0) (hV r t [] [] false (0:Int) false (0:Int) false false (0:Int)) u v/\m (vA o 0) v)/\(∃n,Ld ao (aw i (0:Int) 1) (World.drew l) (vS n)/\(∃o,Ld ao (aw i (0:Int) 1) (World.drew l) (vS o)/\(uS bi #[vS o] (World.drew l) λp q=>(uS aW #[vS n] q λr s=>nA s (.cells #[vS [],vS [],vS [],vS [],.bool false,vI 0,.bool false,vI 0,.bool false,.bool false,vI 0] aq) λt u=>∃v,Sv aq (vA t 0) (hV p r [] [] false (0:Int) false (0:Int) false false (0:Int)) u v/\m (vA t 0) v)/\nA q (.cells #[vS [],vS [],vS [],vS [],.bool false,vI 0,.bool false,vI 0,.bool false,.bool false,vI 0] aq) λr s=>uS aW #[vS n] s λt u=>∃v,Sv aq (vA r 0) (hV p t [] [] false (0:Int) false (0:Int) false false (0:Int)) u v/\m (vA r 0) v)/\∀p q,p=(World.drew l).heap.size->q=(World.drew l).alloc (.cells #[vS [],vS [],vS [],vS [],.bool false,vI 0,.bool false,vI 0,.bool false,.bool false,vI 0] aq)->uS bi #[vS o] q λr s=>uS aW #[vS n] s λt u=>∃v,Sv aq (vA p 0) (hV r t [] [] false (0:Int) false (0:Int) false false (0:Int)) u v/\m (vA p 0) v)/\∀o p,o=(World.drew l).heap.size->p=(World.drew l).alloc (.cells #[vS [],vS [],vS [],vS [],.bool false,vI 0,.bool false,vI 0,.bool false,.bool false,vI 0] aq)->∃q,Ld ao (aw i (0:Int) 1) p (vS q)/\uS bi #[vS q] p λr s=>uS aW #[vS n] s λt u=>∃v,Sv aq (vA o 0) (hV r t [] [] false (0:Int) false (0:Int) false false (0:Int)) u v/\m (vA o 0) v)/\∀n o,n=(World.drew l).heap.size->o=(World.drew l).alloc (.cells #[vS [],vS [],vS [],vS [],.bool false,vI 0,.bool false,vI 0,.bool false,.bool false,vI 0] aq)->(∃p,Ld ao (aw i (0:Int) 1) o (vS p)/\(uS bi #[vS p] o λq r=>∃s,Ld ao (aw i (0:Int) 1) r (vS s)/\uS aW #[vS s] r λt u=>∃v,Sv aq (vA n 0) (hV q t [] [] false (0:Int) false (0:Int) false false (0:Int)) u v/\m (vA n 0) v)/\∃q,Ld ao (aw i (0:Int) 1) o (vS q)/\uS bi #[vS p] o λr s=>uS aW #[vS q] s λt u=>∃v,Sv aq (vA n 0) (hV r t [] [] false (0:Int) false (0:Int) false false (0:Int)) u v/\m (vA n 0) v)/\∃p,Ld ao (aw i (0:Int) 1) o (vS p)/\∃q,Ld ao (aw i (0:Int) 1) o (vS q)/\uS bi #[vS q] o λr s=>uS aW #[vS p] s λt u=>∃v,Sv aq (vA n 0) (hV r t [] [] false (0:Int) false (0:Int) false false (0:Int)) u v/\m (vA n 0) v)/\∀n,aP 9 (∀o,m n o->∃p:FP [],((bx (0:Int) ((j:Nat):Int)/\Option.isSome i=true)/\∃q,(∀r,bW o r->Ld ao (aw i (0:Int) 1) r (vS q))/\∃r,(∀s,bW o s->Cf dI #[vS q] s λt u=>t=.returned (vI r)/\Below o.heap.size s u)/\(bx (0:Int) ((j:Nat):Int)/\Option.isSome i=true)/\∃s,(∀t,bW o t->Ld ao (aw i (0:Int) 1) t (vS s))/\∀t,bW o t->ai (r==((List.length s:Nat):Int)) ((Option.isSome n=true)/\∃u,Sv ao (Option.map (λv=>v.add 0) n) (vS []) t u/\(bx (0:Int) ((j:Nat):Int)/\Option.isSome i=true)/\∃v,Ld ao (aw i (0:Int) 1) u (vS v)/\uS cy #[vS v] u λx y=>(Option.isSome n=true)/\∃z,Sv ao (Option.map (λA=>A.add 1) n) (vS x) y z/\p z) (p t))/\aP 15 (∀q,p q->∃r:FP [],(∃s:FP [.one .bool],((Option.isSome n=true)/\∃t,Ld ao (Option.map (λu=>u.add 0) n) q (vS t)/\ai (t==[]) ((Option.isSome n=true)/\∃u,Ld ao (Option.map (λv=>v.add 1) n) q (vS u)/\s (u==[]) q) (s false q))/\∀t,aP 7 (∀u,s t u->ai t (∃v,Sv aq (vA b 0) (hV [] [] [] [] false (0:Int) false (0:Int) false false (0:Int)) u v/\∃x y z A B C D E F G H,Rv aq (vA b 0) v (hV x y z A B C D E F G H)/\K (.tuple #[(hV x y z A B C D E F G H),vI 82]) v) (r u)))/\aP 10 (∀s,r s->(Option.isSome n=true)/\∃t,Ld ao (Option.map (λu=>u.add 0) n) s (vS t)/\(Option.isSome n=true)/\∃u,Ld ao (Option.map (λv=>v.add 1) n) s (vS u)/\ai (decide ((i64.wrap (((List.length t:Nat):Int)+((List.length u:Nat):Int)))>(4096:Int))) (∃v,Sv aq (vA b 0) (hV [] [] [] [] false (0:Int) false (0:Int) false false (0:Int)) s v/\∃x y z A B C D E F G H,Rv aq (vA b 0) v (hV x y z A B C D E F G H)/\K (.tuple #[(hV x y z A B C D E F G H),vI 83]) v) (∃v:Nat->FP [.one (.int .i64)],(∃x,v x (1:Int) s)/\∀x y,aP 96 (∀z,v x y z->ai (decide (y<((j:Nat):Int))) ((bx y ((j:Nat):Int)/\Option.isSome i=true)/\∃A,Ld ao (aw i y 1) z (vS A)/\uS bi #[vS A] z λB C=>uS df #[vS B] C λD E=>(bx y ((j:Nat):Int)/\Option.isSome i=true)/\∃F,Ld ao (aw i y 1) E (vS F)/\uS aW #[vS F] E λG H=>uS df #[vS G] H λI J=>ai (decide (((List.length G:Nat):Int)>(1024:Int))) (∃L:Nat,L<x/\v L (i64.wrap (y+(1:Int))) J) (∃L:FP [],(ai (D==[101,120,112,105,114,101,115]) (Cf eo #[vS G] J λM N=>∃O P,M=rT #[vI O,.bool P]/\ai P ((Option.isSome n=true)/\∃Q,Sv bu (Option.map (λR=>R.add 4) n) (.bool true) N Q/\(Option.isSome n=true)/\∃R,Sv aX (Option.map (λS=>S.add 5) n) (vI O) Q R/\L R) (L N)) (L J))/\aP 13 (∀M,L M->∃N:FP [],(ai (D==[109,97,120,45,97,103,101]) (Cf iN #[vS G] M λO P=>∃Q R,O=rT #[vI Q,.bool R]/\ai R ((Option.isSome n=true)/\∃S,Sv bu (Option.map (λT=>T.add 6) n) (.bool true) P S/\(Option.isSome n=true)/\∃T,Sv aX (Option.map (λU=>U.add 7) n) (vI Q) S T/\N T) (N P)) (N M))/\aP 13 (∀O,N O->∃P:FP [],(ai (D==[100,111,109,97,105,110]) ((Option.isSome n=true)/\∃Q,Sv ao (Option.map (λR=>R.add 2) n) (vS I) O Q/\∃R:FP [.one .bool],(ai (decide (((List.length I:Nat):Int)>(0:Int))) (bx (0:Int) ((List.length I:Nat):Int)/\R ((bm I (0:Int))==(46:Int)) Q) (R false Q))/\∀S,aP 7 (∀T,R S T->ai S (bd (1:Int) (((List.length I):Nat):Int)/\∀U,U=(List.drop (Int.toNat 1) I)->(Option.isSome n=true)/\∃V,Sv ao (Option.map (λX=>X.add 2) n) (vS U) T V/\P V) (P T))) (P O))/\aP 15 (∀Q,P Q->∃R:FP [],(ai (D==[112,97,116,104]) ((Option.isSome n=true)/\∃S,Sv ao (Option.map (λT=>T.add 3) n) (vS G) Q S/\∃T:FP [.one .bool],(ai (!(G==[])) (bx (0:Int) ((List.length G:Nat):Int)/\T ((bm G (0:Int)) !=(47:Int)) S) (T false S))/\∀U,aP 6 (∀V,T U V->ai U ((Option.isSome n=true)/\∃X,Sv ao (Option.map (λY=>Y.add 3) n) (vS []) V X/\R X) (R V))) (R Q))/\aP 12 (∀S,R S->∃T:FP [],(ai (D==[115,101,99,117,114,101]) ((Option.isSome n=true)/\∃U,Sv bu (Option.map (λV=>V.add 8) n) (.bool true) S U/\T U) (T S))/\aP 3 (∀U,T U->∃V:FP [],(ai (D==[104,116,116,112,111,110,108,121]) ((Option.isSome n=true)/\∃X,Sv bu (Option.map (λY=>Y.add 9) n) (.bool true) U X/\V X) (V U))/\aP 3 (∀X,V X->ai (D==[115,97,109,101,115,105,116,101]) ((Option.isSome n=true)/\∃Y,Sv aJ (Option.map (λZ=>Z.add 10) n) (vI 0) X Y/\∃Z:FP [],(ai (I==[110,111,110,101]) ((Option.isSome n=true)/\∃ac,Sv aJ (Option.map (λad=>ad.add 10) n) (vI 1) Y ac/\Z ac) (Z Y))/\aP 3 (∀ac,Z ac->∃ad:FP [],(ai (I==[108,97,120]) ((Option.isSome n=true)/\∃ag,Sv aJ (Option.map (λaj=>aj.add 10) n) (vI 2) ac ag/\ad ag) (ad ac))/\aP 3 (∀ag,ad ag->ai (I==[115,116,114,105,99,116]) ((Option.isSome n=true)/\∃aj,Sv aJ (Option.map (λal=>al.add 10) n) (vI 3) ag aj/\∃al:Nat,al<x/\v al (i64.wrap (y+(1:Int))) aj) (∃aj:Nat,aj<x/\v aj (i64.wrap (y+(1:Int))) ag)))) (∃Y:Nat,Y<x/\v Y (i64.wrap (y+(1:Int))) X))))))))) (∃A B C D E F G H I J L,Ld aq n z (hV A B C D E F G H I J L)/\∃M,Sv aq (vA b 0) (hV A B C D E F G H I J L) z M/\∃N O P Q R S T U V X Y,Rv aq (vA b 0) M (hV N O P Q R S T U V X Y)/\K (.tuple #[(hV N O P Q R S T U V X Y),vI 0]) M))))))))):Cf dA #[vS a] w (Ret K):=ru func144 [(6,[(4,.one (.int .i64))]),(15,[(42,.one .bool)]),(25,[(6,.one .ptr)]),(27,[]),(35,[]),(36,[(77,.one .bool)]),(55,[(7,.one (.int .i64))]),(76,[]),(90,[]),(104,[]),(110,[(143,.one .bool)]),(116,[]),(122,[(157,.one .bool)]),(128,[]),(134,[]),(145,[]),(151,[])] h
theorem mG (a:lU){w K}(h:uI dI #[vS a] w λb c=>bd b (((List.length a):Nat):Int)/\∀d,d=(List.take (Int.toNat b) a)->uS cy #[vS d] c λe f=>K (vS e) f):Cf bi #[vS a] w (Ret K):=ru func204 [] h
theorem mF (a:lU){w K}(h:uI dI #[vS a] w λb c=>ai (b==((List.length a:Nat):Int)) (K (vS []) c) (bd (i64.wrap (b+(1:Int))) (((List.length a):Nat):Int)/\∀d,d=(List.drop (Int.toNat (i64.wrap (b+(1:Int)))) a)->uS cy #[vS d] c λe f=>K (vS e) f)):Cf aW #[vS a] w (Ret K):=ru func205 [] h
theorem pB (a:lU){w K}(h:∃b:Nat->FP [.one (.int .i64)],(∃c,b c (0:Int) w)/\∀c d,aP 12 (∀e,b c d e->ai (decide (d<((List.length a:Nat):Int))) (bx d ((List.length a:Nat):Int)/\ai ((bm a d)==(61:Int)) (K (vI d) e) (∃f:Nat,f<c/\b f (i64.wrap (d+(1:Int))) e)) (K (vI ((List.length a:Nat):Int)) e))):Cf dI #[vS a] w (Ret K):=ru func206 [(6,[(3,.one (.int .i64))])] h
theorem nU (a:lU){w K}(h:∃b:Nat->FP [.one .str],(∃c,b c a w)/\∀c d,aP 10 (∀e,b c d e->ai (decide (((List.length d:Nat):Int)>(0:Int))) (bx (0:Int) ((List.length d:Nat):Int)/\uB bZ #[.int .u8 (bm d (0:Int))] e λf g=>ai f (bd (1:Int) (((List.length d):Nat):Int)/\∀i,i=(List.drop (Int.toNat 1) d)->∃j:Nat,j<c/\b j i g) (∃i:Nat->FP [.one .str],(∃j,i j d g)/\∀j k,aP 16 (∀l,i j k l->∃m:FP [],(ai (decide (((List.length k:Nat):Int)>(0:Int))) (bx (i64.wrap (((List.length k:Nat):Int)-(1:Int))) ((List.length k:Nat):Int)/\uB bZ #[.int .u8 (bm k (i64.wrap (((List.length k:Nat):Int)-(1:Int))))] l λn o=>ai n (m o) (K (vS k) o)) (K (vS k) l))/\aP 11 (∀n,m n->bd (i64.wrap (((List.length k:Nat):Int)-(1:Int))) (((List.length k):Nat):Int)/\∀o,o=(List.take (Int.toNat (i64.wrap (((List.length k:Nat):Int)-(1:Int)))) k)->∃p:Nat,p<j/\i p o n)))) (∃f:Nat->FP [.one .str],(∃g,f g d e)/\∀g i,aP 16 (∀j,f g i j->∃k:FP [],(ai (decide (((List.length i:Nat):Int)>(0:Int))) (bx (i64.wrap (((List.length i:Nat):Int)-(1:Int))) ((List.length i:Nat):Int)/\uB bZ #[.int .u8 (bm i (i64.wrap (((List.length i:Nat):Int)-(1:Int))))] j λl m=>ai l (k m) (K (vS i) m)) (K (vS i) j))/\aP 11 (∀l,k l->bd (i64.wrap (((List.length i:Nat):Int)-(1:Int))) (((List.length i):Nat):Int)/\∀m,m=(List.take (Int.toNat (i64.wrap (((List.length i:Nat):Int)-(1:Int)))) i)->∃n:Nat,n<g/\f n m l))))):Cf cy #[vS a] w (Ret K):=ru func207 [(4,[(0,.one .str)]),(15,[(0,.one .str)]),(16,[]),(15,[(0,.one .str)]),(16,[])] h
theorem lj (a:lU){w K}(h:nA w (.cells #[vS []] ao) λb c=>∃d:Nat->FP [.one .slice,.one (.int .i64)],(∃e,d e (vA b 0) 1 1 (0:Int) c)/\∀e f g i j,aP 26 (∀k,d e f g i j k->ai (decide (j<((List.length a:Nat):Int))) (bx j ((List.length a:Nat):Int)/\uB eT #[.int .u8 (bm a j)] k λl m=>ai l (nA m (.cells #[vS []] ao) λn o=>∃p q r s,(Builtin.append_ #[bI,bI] bI #[.slice f g i,.slice (vA n 0) 1 1]).run prog o=.ok (.slice q r s) p/\∃t:Nat,t<e/\d t q r s (i64.wrap (j+(1:Int))) p) ((bx (i64.wrap (((g:Nat):Int)-(1:Int))) ((g:Nat):Int)/\Option.isSome f=true)/\(bd (i64.wrap (j+(1:Int))) (((List.length a):Nat):Int)/\0 <=j/\j <=((Int.toNat (i64.wrap (j+(1:Int))):Nat):Int))/\∀n,n=(List.drop (Int.toNat j) (List.take (Int.toNat (i64.wrap (j+(1:Int)))) a))->∃o,Ld ao (aw f (i64.wrap (((g:Nat):Int)-(1:Int))) 1) (World.drew m) (vS o)/\(((List.length o+List.length n:Nat):Int) <=i64.max)/\∀p,p=(o++n)->(bx (i64.wrap (((g:Nat):Int)-(1:Int))) ((g:Nat):Int)/\Option.isSome f=true)/\∃q,Sv ao (aw f (i64.wrap (((g:Nat):Int)-(1:Int))) 1) (vS p) (World.drew m) q/\∃r:Nat,r<e/\d r f g i (i64.wrap (j+(1:Int))) q)) (nA k (.cells #[] aJ) λl m=>∃n:Nat->FP [.one .slice,.one (.int .i64),.one (.int .i64),.one (.int .i64),.one (.int .i64)],(∃o,n o (vA l 0) 0 0 (-1:Int) (-1:Int) (-1:Int) (0:Int) m)/\∀o p q r s t u v,aP 59 (∀x,n o p q r s t u v x->ai (decide (v<((g:Nat):Int))) ((bx v ((g:Nat):Int)/\Option.isSome f=true)/\∃y,Ld ao (aw f v 1) x (vS y)/\uI cP #[vS y] x λz A=>Cf fR #[vS y] A λB C=>∃D E F G,B=rT #[.slice D E F,.bool G]/\∃H:FP [.one .bool],(ai G (H (((q:Nat):Int)==(0:Int)) C) (H false C))/\∀I,aP 5 (∀J,H I J->ai I (∃L:Nat,L<o/\n L D E F s t u (i64.wrap (v+(1:Int))) J) (∃L:FP [.one .bool],(ai (decide (u<(0:Int))) (ai (decide (z >=(1:Int))) (L (decide (z <=(2:Int))) J) (L false J)) (L false J))/\∀M,aP 9 (∀N,L M N->ai M (bd z (((List.length y):Nat):Int)/\∀O,O=(List.take (Int.toNat z) y)->uI cE #[vS O] N λP Q=>∃R:Nat,R<o/\n R p q r s t P (i64.wrap (v+(1:Int))) Q) (∃O:FP [.one .bool],(ai (decide (t<(0:Int))) (uI dz #[vS y] N λP Q=>O (decide (P>(0:Int))) Q) (O false N))/\∀P,aP 6 (∀Q,O P Q->ai P (uI dz #[vS y] Q λR S=>∃T:Nat,T<o/\n T p q r s R u (i64.wrap (v+(1:Int))) S) (∃R:FP [.one .bool],(ai (decide (s<(0:Int))) (ai (decide (z >=(2:Int))) (R (decide (z <=(4:Int))) Q) (R false Q)) (R false Q))/\∀S,aP 9 (∀T,R S T->ai S (bd z (((List.length y):Nat):Int)/\∀U,U=(List.take (Int.toNat z) y)->uI cE #[vS U] T λV X=>∃Y:Nat,Y<o/\n Y p q r V t u (i64.wrap (v+(1:Int))) X) (∃U:Nat,U<o/\n U p q r s t u (i64.wrap (v+(1:Int))) T))))))))) (∃y:FP [.one (.int .i64)],(∃z:FP [.one .bool],(ai (decide (s >=(70:Int))) (z (decide (s <=(99:Int))) x) (z false x))/\∀A,aP 5 (∀B,z A B->ai A (y (i64.wrap (s+(1900:Int))) B) (ai (decide (s >=(0:Int))) (ai (decide (s <=(69:Int))) (y (i64.wrap (s+(2000:Int))) B) (y s B)) (y s B))))/\∀z,aP 16 (∀A,y z A->∃B:FP [],(ai (((q:Nat):Int)==(0:Int)) (K (.tuple #[vI 0,.bool false]) A) (uB gH #[vI z,vI t,vI u] A λC D=>ai (!C) (K (.tuple #[vI 0,.bool false]) D) ((bx (0:Int) ((q:Nat):Int)/\Option.isSome p=true)/\∃E,Ld aJ (aw p (0:Int) 1) D (vI E)/\ai (decide (E>(23:Int))) (K (.tuple #[vI 0,.bool false]) D) ((bx (1:Int) ((q:Nat):Int)/\Option.isSome p=true)/\∃F,Ld aJ (aw p (1:Int) 1) D (vI F)/\ai (decide (F>(59:Int))) (K (.tuple #[vI 0,.bool false]) D) ((bx (2:Int) ((q:Nat):Int)/\Option.isSome p=true)/\∃G,Ld aJ (aw p (2:Int) 1) D (vI G)/\ai (decide (G>(59:Int))) (K (.tuple #[vI 0,.bool false]) D) (B D))))))/\aP 30 (∀C,B C->Cf cV #[vI z,vI t,vI u] C λD E=>∃F G,D=rT #[vI F,.bool G]/\(bx (0:Int) ((q:Nat):Int)/\Option.isSome p=true)/\∃H,(∀I,bW E I->Ld aJ (aw p (0:Int) 1) I (vI H))/\(bx (1:Int) ((q:Nat):Int)/\Option.isSome p=true)/\∃I,(∀J,bW E J->Ld aJ (aw p (1:Int) 1) J (vI I))/\(bx (2:Int) ((q:Nat):Int)/\Option.isSome p=true)/\∃J,(∀L,bW E L->Ld aJ (aw p (2:Int) 1) L (vI J))/\∀L,bW E L->K (.tuple #[vI (i64.wrap ((i64.wrap (F*(86400:Int)))+(i64.wrap ((i64.wrap ((i64.wrap (H*(3600:Int)))+(i64.wrap (I*(60:Int)))))+J)))),.bool true]) L))))))):Cf eo #[vS a] w (Ret K):=ru func208 [(8,[(4,.one .slice),(5,.one (.int .i64))]),(31,[(6,.one .slice),(7,.one (.int .i64)),(8,.one (.int .i64)),(9,.one (.int .i64)),(47,.one (.int .i64))]),(46,[(63,.one .bool)]),(50,[(74,.one .bool)]),(54,[(85,.one .bool)]),(58,[(97,.one .bool)]),(64,[(7,.one (.int .i64))]),(65,[(108,.one .bool)]),(74,[])] h
theorem pz (a:lU){w K}(h:∃b:FP [],(∃c:FP [.one .bool],(ai (decide (((List.length a:Nat):Int)>(0:Int))) (bx (0:Int) ((List.length a:Nat):Int)/\c ((bm a (0:Int))==(45:Int)) w) (c false w))/\∀d,aP 7 (∀e,c d e->ai d (bd (1:Int) (((List.length a):Nat):Int)/\∀f,f=(List.drop (Int.toNat 1) a)->uB gY #[vS f] e λg i=>K (.tuple #[vI 0,.bool g]) i) (b e)))/\aP 13 (∀c,b c->uB gY #[vS a] c λd e=>ai (!d) (K (.tuple #[vI 0,.bool false]) e) (∃f:Nat->FP [.one (.int .i64),.one (.int .i64)],(∃g,f g (0:Int) (0:Int) e)/\∀g i j,aP 16 (∀k,f g i j k->ai (decide (j<((List.length a:Nat):Int))) (bx j ((List.length a:Nat):Int)/\ai (decide ((i64.wrap ((i64.wrap ((i64.wrap (i*(10:Int)))+(i64.wrap (bm a j))))-(48:Int)))>(34560000:Int))) (∃l:Nat,l<g/\f l (34560000:Int) (i64.wrap (j+(1:Int))) k) (∃l:Nat,l<g/\f l (i64.wrap ((i64.wrap ((i64.wrap (i*(10:Int)))+(i64.wrap (bm a j))))-(48:Int))) (i64.wrap (j+(1:Int))) k)) (K (.tuple #[vI i,.bool true]) k))))):Cf iN #[vS a] w (Ret K):=ru func209 [(2,[]),(3,[(13,.one .bool)]),(24,[(4,.one (.int .i64)),(5,.one (.int .i64))])] h
theorem ov (a b c d:lU)(e:Bool)(f:Int)(g:Bool)(i:Int)(j k:Bool)(l:Int){w K}(h:nA w (.cells #[vS a,vS b,vS c,vS d,.bool e,vI f,.bool g,vI i,.bool j,.bool k,vI l] aq) λm n=>true/\∃o,Ld ao (vA m 0) n (vS o)/\(((List.length o+List.length [61]:Nat):Int) <=i64.max)/\∀p,p=(o++[61])->true/\∃q,Ld ao (vA m 1) n (vS q)/\(((List.length p+List.length q:Nat):Int) <=i64.max)/\∀r,r=(p++q)->∃s:FP [.one .str],(true/\∃t,Ld bu (vA m 4) n (.bool t)/\ai t (true/\∃u,Ld aX (vA m 5) n (vI u)/\uS fQ #[vI u] n λv x=>(((List.length [59,32,69,120,112,105,114,101,115,61]+List.length v:Nat):Int) <=i64.max)/\∀y,y=([59,32,69,120,112,105,114,101,115,61]++v)->(((List.length r+List.length y:Nat):Int) <=i64.max)/\∀z,z=(r++y)->s z x) (s r n))/\∀t,aP 8 (∀u,s t u->∃v:FP [.one .str],(true/\∃x,Ld bu (vA m 6) u (.bool x)/\ai x (true/\∃y,Ld aX (vA m 7) u (vI y)/\ai (decide (y<(0:Int))) (K (.tuple #[vS [],.bool false]) u) (true/\∃z,Ld aX (vA m 7) u (vI z)/\uS dJ #[vI z] u λA B=>(((List.length [59,32,77,97,120,45,65,103,101,61]+List.length A:Nat):Int) <=i64.max)/\∀C,C=([59,32,77,97,120,45,65,103,101,61]++A)->(((List.length t+List.length C:Nat):Int) <=i64.max)/\∀D,D=(t++C)->v D B)) (v t u))/\∀x,aP 13 (∀y,v x y->∃z:FP [.one .str],(true/\∃A,Ld ao (vA m 2) y (vS A)/\ai (!(A==[])) ((((List.length x+List.length [59,32,68,111,109,97,105,110,61]:Nat):Int) <=i64.max)/\∀B,B=(x++[59,32,68,111,109,97,105,110,61])->∃C:FP [.one .str],(true/\∃D,Ld ao (vA m 2) y (vS D)/\bx (0:Int) ((List.length D:Nat):Int)/\ai ((bm D (0:Int))==(46:Int)) ((((List.length B+List.length [46]:Nat):Int) <=i64.max)/\∀E,E=(B++[46])->C E y) (true/\∃E,Ld ao (vA m 2) y (vS E)/\bx (0:Int) ((List.length E:Nat):Int)/\ai ((bm E (0:Int))==(32:Int)) ((((List.length B+List.length [46]:Nat):Int) <=i64.max)/\∀F,F=(B++[46])->C F y) (true/\∃F,Ld ao (vA m 2) y (vS F)/\bx (0:Int) ((List.length F:Nat):Int)/\ai ((bm F (0:Int))==(9:Int)) ((((List.length B+List.length [46]:Nat):Int) <=i64.max)/\∀G,G=(B++[46])->C G y) (C B y))))/\∀D,aP 18 (∀E,C D E->true/\∃F,Ld ao (vA m 2) E (vS F)/\(((List.length D+List.length F:Nat):Int) <=i64.max)/\∀G,G=(D++F)->z G E)) (z x y))/\∀A,aP 27 (∀B,z A B->∃C:FP [.one .str],(true/\∃D,Ld ao (vA m 3) B (vS D)/\ai (!(D==[])) (true/\∃E,Ld ao (vA m 3) B (vS E)/\(((List.length [59,32,80,97,116,104,61]+List.length E:Nat):Int) <=i64.max)/\∀F,F=([59,32,80,97,116,104,61]++E)->(((List.length A+List.length F:Nat):Int) <=i64.max)/\∀G,G=(A++F)->C G B) (C A B))/\∀D,aP 8 (∀E,C D E->∃F:FP [.one .str],(true/\∃G,Ld bu (vA m 8) E (.bool G)/\ai G ((((List.length D+List.length [59,32,83,101,99,117,114,101]:Nat):Int) <=i64.max)/\∀H,H=(D++[59,32,83,101,99,117,114,101])->F H E) (F D E))/\∀G,aP 4 (∀H,F G H->∃I:FP [.one .str],(true/\∃J,Ld bu (vA m 9) H (.bool J)/\ai J ((((List.length G+List.length [59,32,72,116,116,112,79,110,108,121]:Nat):Int) <=i64.max)/\∀L,L=(G++[59,32,72,116,116,112,79,110,108,121])->I L H) (I G H))/\∀J,aP 4 (∀L,I J L->∃M:FP [.one .str],(true/\∃N,Ld aJ (vA m 10) L (vI N)/\ai (N==(1:Int)) ((((List.length J+List.length [59,32,83,97,109,101,83,105,116,101,61,78,111,110,101]:Nat):Int) <=i64.max)/\∀O,O=(J++[59,32,83,97,109,101,83,105,116,101,61,78,111,110,101])->M O L) (M J L))/\∀N,aP 5 (∀O,M N O->∃P:FP [.one .str],(true/\∃Q,Ld aJ (vA m 10) O (vI Q)/\ai (Q==(2:Int)) ((((List.length N+List.length [59,32,83,97,109,101,83,105,116,101,61,76,97,120]:Nat):Int) <=i64.max)/\∀R,R=(N++[59,32,83,97,109,101,83,105,116,101,61,76,97,120])->P R O) (P N O))/\∀Q,aP 5 (∀R,P Q R->∃S:FP [.one .str],(true/\∃T,Ld aJ (vA m 10) R (vI T)/\ai (T==(3:Int)) ((((List.length Q+List.length [59,32,83,97,109,101,83,105,116,101,61,83,116,114,105,99,116]:Nat):Int) <=i64.max)/\∀U,U=(Q++[59,32,83,97,109,101,83,105,116,101,61,83,116,114,105,99,116])->S U R) (S Q R))/\∀T,aP 5 (∀U,S T U->Cf dA #[vS T] U λV X=>∃Y Z ac ad ag aj al an ar bb bc bd,V=rT #[(hV Y Z ac ad ag aj al an ar bb bc),vI bd]/\nA X (.cells #[vS [],vS [],vS [],vS [],.bool false,vI 0,.bool false,vI 0,.bool false,.bool false,vI 0] aq) λbj bk=>∃bo,Sv aq (vA bj 0) (hV Y Z ac ad ag aj al an ar bb bc) bk bo/\ai (bd !=(0:Int)) (K (.tuple #[vS [],.bool false]) bo) (∃bp bq bs bz cb cc ce cf ch cj ck,Ld aq (vA bj 0) bo (hV bp bq bs bz cb cc ce cf ch cj ck)/\∃cl cm cn cp cr cs ct cu dc dd de,Ld aq (vA m 0) bo (hV cl cm cn cp cr cs ct cu dc dd de)/\∃dg,(do eqGuard .neq aq (.tmp 98) (.tmp 99) (hV bp bq bs bz cb cc ce cf ch cj ck) (hV cl cm cn cp cr cs ct cu dc dd de);binOp .neq aq (hV bp bq bs bz cb cc ce cf ch cj ck) (hV cl cm cn cp cr cs ct cu dc dd de):Sem Value).run prog bo=.ok (.bool dg) bo/\ai dg (K (.tuple #[vS [],.bool false]) bo) (K (.tuple #[vS T,.bool true]) bo)))))))))))):Cf fS #[.agg #[vS a,vS b,vS c,vS d,.bool e,vI f,.bool g,vI i,.bool j,.bool k,vI l]] w (Ret K):=ru func210 [(4,[(4,.one .str)]),(10,[(4,.one .str)]),(24,[(4,.one .str)]),(30,[(4,.one .str)]),(38,[(4,.one .str)]),(44,[(4,.one .str)]),(50,[(4,.one .str)]),(56,[(4,.one .str)]),(62,[(4,.one .str)]),(68,[(4,.one .str)])] h
theorem mq (a:Int){w K}(h:ai (a==(32:Int)) (K (.bool true) w) (K (.bool (a==(9:Int))) w)):Cf bZ #[.int .u8 a] w (Ret K):=ru func247 [] h
theorem mC (a:Int){w K}(h:ai (a==(9:Int)) (K (.bool true) w) (ai (decide (a >=(32:Int))) (ai (decide (a <=(47:Int))) (K (.bool true) w) (ai (decide (a >=(59:Int))) (ai (decide (a <=(64:Int))) (K (.bool true) w) (ai (decide (a >=(91:Int))) (ai (decide (a <=(96:Int))) (K (.bool true) w) (ai (decide (a >=(123:Int))) (K (.bool (decide (a <=(126:Int)))) w) (K (.bool false) w))) (ai (decide (a >=(123:Int))) (K (.bool (decide (a <=(126:Int)))) w) (K (.bool false) w)))) (ai (decide (a >=(91:Int))) (ai (decide (a <=(96:Int))) (K (.bool true) w) (ai (decide (a >=(123:Int))) (K (.bool (decide (a <=(126:Int)))) w) (K (.bool false) w))) (ai (decide (a >=(123:Int))) (K (.bool (decide (a <=(126:Int)))) w) (K (.bool false) w))))) (ai (decide (a >=(59:Int))) (ai (decide (a <=(64:Int))) (K (.bool true) w) (ai (decide (a >=(91:Int))) (ai (decide (a <=(96:Int))) (K (.bool true) w) (ai (decide (a >=(123:Int))) (K (.bool (decide (a <=(126:Int)))) w) (K (.bool false) w))) (ai (decide (a >=(123:Int))) (K (.bool (decide (a <=(126:Int)))) w) (K (.bool false) w)))) (ai (decide (a >=(91:Int))) (ai (decide (a <=(96:Int))) (K (.bool true) w) (ai (decide (a >=(123:Int))) (K (.bool (decide (a <=(126:Int)))) w) (K (.bool false) w))) (ai (decide (a >=(123:Int))) (K (.bool (decide (a <=(126:Int)))) w) (K (.bool false) w)))))):Cf eT #[.int .u8 a] w (Ret K):=ru func248 [] h
theorem lq (a:lU){w K}(h:∃b:Nat->FP [.one (.int .i64)],(∃c,b c (0:Int) w)/\∀c d,aP 18 (∀e,b c d e->ai (decide (d<((List.length a:Nat):Int))) (bx d ((List.length a:Nat):Int)/\ai (decide ((bm a d) >=(48:Int))) (bx d ((List.length a:Nat):Int)/\ai (decide ((bm a d) <=(57:Int))) (∃f:Nat,f<c/\b f (i64.wrap (d+(1:Int))) e) (K (vI d) e)) (K (vI d) e)) (K (vI d) e))):Cf cP #[vS a] w (Ret K):=ru func249 [(6,[(3,.one (.int .i64))])] h
theorem oq (a:lU){w K}(h:nA w (.cells #[] aJ) λb c=>∃d:Nat->FP [.one .str,.one .slice,.one (.int .i64)],(∃e,d e a (vA b 0) 0 0 (0:Int) c)/\∀e f g i j k,aP 36 (∀l,d e f g i j k l->ai (decide (k<(3:Int))) (uI cP #[vS f] l λm n=>∃o:FP [],(ai (decide (m<(1:Int))) (K (.tuple #[.slice none 0 0,.bool false]) n) (ai (decide (m>(2:Int))) (K (.tuple #[.slice none 0 0,.bool false]) n) (o n)))/\aP 8 (∀p,o p->bd m (((List.length f):Nat):Int)/\∀q,q=(List.take (Int.toNat m) f)->uI cE #[vS q] p λr s=>nA s (.cells #[vI r] aJ) λt u=>∃v x y z,(Builtin.append_ #[jh,jh] jh #[.slice g i j,.slice (vA t 0) 1 1]).run prog u=.ok (.slice x y z) v/\bd m (((List.length f):Nat):Int)/\∀A,A=(List.drop (Int.toNat m) f)->ai (decide (k<(2:Int))) (ai (A==[]) (K (.tuple #[.slice none 0 0,.bool false]) v) (bx (0:Int) ((List.length A:Nat):Int)/\ai ((bm A (0:Int)) !=(58:Int)) (K (.tuple #[.slice none 0 0,.bool false]) v) (bd (1:Int) (((List.length A):Nat):Int)/\∀B,B=(List.drop (Int.toNat 1) A)->∃C:Nat,C<e/\d C B x y z (i64.wrap (k+(1:Int))) v))) (∃B:Nat,B<e/\d B A x y z (i64.wrap (k+(1:Int))) v))) (K (.tuple #[.slice g i j,.bool true]) l))):Cf fR #[vS a] w (Ret K):=ru func250 [(8,[(0,.one .str),(4,.one .slice),(5,.one (.int .i64))]),(19,[])] h
theorem mD (a:lU){w K}(h:∃b:Nat->FP [.one (.int .i64),.one (.int .i64)],(∃c,b c (0:Int) (0:Int) w)/\∀c d e,aP 14 (∀f,b c d e f->ai (decide (e<((List.length a:Nat):Int))) (bx e ((List.length a:Nat):Int)/\∃g:Nat,g<c/\b g (i64.wrap ((i64.wrap ((i64.wrap (d*(10:Int)))+(i64.wrap (bm a e))))-(48:Int))) (i64.wrap (e+(1:Int))) f) (K (vI d) f))):Cf cE #[vS a] w (Ret K):=ru func251 [(8,[(3,.one (.int .i64)),(4,.one (.int .i64))])] h
theorem mB (a:lU){w K}(h:nA w (.cells #[vS [106,97,110],vS [102,101,98],vS [109,97,114],vS [97,112,114],vS [109,97,121],vS [106,117,110],vS [106,117,108],vS [97,117,103],vS [115,101,112],vS [111,99,116],vS [110,111,118],vS [100,101,99]] ao) λb c=>∃d:Nat->FP [.one (.int .i64)],(∃e,d e (0:Int) c)/\∀e f,aP 20 (∀g,d e f g->ai (decide (f<(12:Int))) (ai (decide (((List.length a:Nat):Int) >=(3:Int))) (bd (3:Int) (((List.length a):Nat):Int)/\∀i,i=(List.take (Int.toNat 3) a)->∃j,(∀k,bW g k->Cf df #[vS i] k λl m=>l=.returned (vS j)/\Below g.heap.size k m)/\(bx f ((12:Nat):Int)/\true)/\∃k,(∀l,bW g l->Ld ao (aw (vA b 0) f 1) l (vS k))/\∀l,bW g l->ai (j==k) (K (vI (i64.wrap (f+(1:Int)))) l) (∃m:Nat,m<e/\d m (i64.wrap (f+(1:Int))) l)) (∀i,bW g i->∃j:Nat,j<e/\d j (i64.wrap (f+(1:Int))) i)) (K (vI 0) g))):Cf dz #[vS a] w (Ret K):=ru func252 [(8,[(4,.one (.int .i64))])] h
theorem qR (a b c:Int){w K}(h:ai (decide (a >=(1601:Int))) (ai (decide (a <=(9999:Int))) (ai (decide (b >=(1:Int))) (ai (decide (b <=(12:Int))) (ai (decide (c >=(1:Int))) (uI bT #[vI a,vI b] w λd e=>K (.bool (decide (c <=d))) e) (K (.bool false) w)) (K (.bool false) w)) (K (.bool false) w)) (K (.bool false) w)) (K (.bool false) w)):Cf gH #[vI a,vI b,vI c] w (Ret K):=ru func253 [] h
theorem ob (a b c:Int){w K}(h:uB gH #[vI a,vI b,vI c] w λd e=>ai (!d) (K (.tuple #[vI 0,.bool false]) e) (∃f:Nat->FP [.one (.int .i64),.one (.int .i64)],(∃g,f g (i64.wrap (c-(1:Int))) (1:Int) e)/\∀g i j,aP 10 (∀k,f g i j k->ai (decide (j<b)) (uI bT #[vI a,vI j] k λl m=>∃n:Nat,n<g/\f n (i64.wrap (i+l)) (i64.wrap (j+(1:Int))) m) (∃l:Nat->FP [.one (.int .i64),.one (.int .i64)],(∃m,l m i (1970:Int) k)/\∀m n o,aP 9 (∀p,l m n o p->ai (decide (o<a)) (uI cz #[vI o] p λq r=>∃s:Nat,s<m/\l s (i64.wrap (n+q)) (i64.wrap (o+(1:Int))) r) (∃q:Nat->FP [.one (.int .i64),.one (.int .i64)],(∃r,q r n a p)/\∀r s t,aP 8 (∀u,q r s t u->ai (decide (t<(1970:Int))) (uI cz #[vI t] u λv x=>∃y:Nat,y<r/\q y (i64.wrap (s-v)) (i64.wrap (t+(1:Int))) x) (K (.tuple #[vI s,.bool true]) u)))))))):Cf cV #[vI a,vI b,vI c] w (Ret K):=ru func254 [(16,[(8,.one (.int .i64)),(9,.one (.int .i64))]),(31,[(8,.one (.int .i64)),(10,.one (.int .i64))]),(46,[(8,.one (.int .i64)),(11,.one (.int .i64))])] h
theorem om (a:Int){w K}(h:((86400:Int)≠0)/\∀b,b=(Int.tmod a (86400:Int))->∃c:FP [.one (.int .i64)],(ai (decide (b<(0:Int))) (c (i64.wrap (b+(86400:Int))) w) (c b w))/\∀d,aP 4 (∀e,c d e->((86400:Int)≠0)/\∀f,f=(i64.wrap (Int.tdiv a (86400:Int)))->∃g:FP [.one (.int .i64)],(ai (decide (a<(0:Int))) (((86400:Int)≠0)/\∀i,i=(Int.tmod a (86400:Int))->ai (i !=(0:Int)) (g (i64.wrap (f-(1:Int))) e) (g f e)) (g f e))/\∀i,aP 9 (∀j,g i j->Cf eS #[vI i] j λk l=>∃m n o p,k=rT #[vI m,vI n,vI o,.bool p]/\ai (!p) (K (vS []) l) (((7:Int)≠0)/\∀q,q=(Int.tmod i (7:Int))->∃r:FP [.one (.int .i64)],(ai (decide (q<(0:Int))) (r (i64.wrap (q+(7:Int))) l) (r q l))/\∀s,aP 4 (∀t,r s t->(∀u v,u=(World.drew t).heap.size->v=(World.drew t).alloc (.cells #[vS [84,104,117],vS [70,114,105],vS [83,97,116],vS [83,117,110],vS [77,111,110],vS [84,117,101],vS [87,101,100]] ao)->(bx s ((7:Nat):Int)/\true)/\(∃x,Ld ao (aw (vA u 0) s 1) v (vS x)/\(((List.length x+List.length [44,32]:Nat):Int) <=i64.max)/\∀y,y=(x++[44,32])->uS ba #[vI o] v λz A=>(((List.length y+List.length z:Nat):Int) <=i64.max)/\∀B,B=(y++z)->(((List.length B+List.length [32]:Nat):Int) <=i64.max)/\∀C,C=(B++[32])->nA A (.cells #[vS [74,97,110],vS [70,101,98],vS [77,97,114],vS [65,112,114],vS [77,97,121],vS [74,117,110],vS [74,117,108],vS [65,117,103],vS [83,101,112],vS [79,99,116],vS [78,111,118],vS [68,101,99]] ao) λD E=>(bx (i64.wrap (n-(1:Int))) ((12:Nat):Int)/\true)/\∃F,Ld ao (aw (vA D 0) (i64.wrap (n-(1:Int))) 1) E (vS F)/\(((List.length C+List.length F:Nat):Int) <=i64.max)/\∀G,G=(C++F)->(((List.length G+List.length [32]:Nat):Int) <=i64.max)/\∀H,H=(G++[32])->((100:Int)≠0)/\∀I,I=(i64.wrap (Int.tdiv m (100:Int)))->uS ba #[vI I] E λJ L=>(((List.length H+List.length J:Nat):Int) <=i64.max)/\∀M,M=(H++J)->((100:Int)≠0)/\∀N,N=(Int.tmod m (100:Int))->uS ba #[vI N] L λO P=>(((List.length M+List.length O:Nat):Int) <=i64.max)/\∀Q,Q=(M++O)->(((List.length Q+List.length [32]:Nat):Int) <=i64.max)/\∀R,R=(Q++[32])->((3600:Int)≠0)/\∀S,S=(i64.wrap (Int.tdiv d (3600:Int)))->uS ba #[vI S] P λT U=>(((List.length R+List.length T:Nat):Int) <=i64.max)/\∀V,V=(R++T)->(((List.length V+List.length [58]:Nat):Int) <=i64.max)/\∀X,X=(V++[58])->((60:Int)≠0)/\∀Y,Y=(i64.wrap (Int.tdiv d (60:Int)))->((60:Int)≠0)/\∀Z,Z=(Int.tmod Y (60:Int))->uS ba #[vI Z] U λac ad=>(((List.length X+List.length ac:Nat):Int) <=i64.max)/\∀ag,ag=(X++ac)->(((List.length ag+List.length [58]:Nat):Int) <=i64.max)/\∀aj,aj=(ag++[58])->((60:Int)≠0)/\∀al,al=(Int.tmod d (60:Int))->uS ba #[vI al] ad λan ar=>(((List.length aj+List.length an:Nat):Int) <=i64.max)/\∀bb,bb=(aj++an)->(((List.length bb+List.length [32,71,77,84]:Nat):Int) <=i64.max)/\∀bc,bc=(bb++[32,71,77,84])->K (vS bc) ar)/\uS ba #[vI o] v λx y=>∃z,Ld ao (aw (vA u 0) s 1) y (vS z)/\(((List.length z+List.length [44,32]:Nat):Int) <=i64.max)/\∀A,A=(z++[44,32])->(((List.length A+List.length x:Nat):Int) <=i64.max)/\∀B,B=(A++x)->(((List.length B+List.length [32]:Nat):Int) <=i64.max)/\∀C,C=(B++[32])->nA y (.cells #[vS [74,97,110],vS [70,101,98],vS [77,97,114],vS [65,112,114],vS [77,97,121],vS [74,117,110],vS [74,117,108],vS [65,117,103],vS [83,101,112],vS [79,99,116],vS [78,111,118],vS [68,101,99]] ao) λD E=>(bx (i64.wrap (n-(1:Int))) ((12:Nat):Int)/\true)/\∃F,Ld ao (aw (vA D 0) (i64.wrap (n-(1:Int))) 1) E (vS F)/\(((List.length C+List.length F:Nat):Int) <=i64.max)/\∀G,G=(C++F)->(((List.length G+List.length [32]:Nat):Int) <=i64.max)/\∀H,H=(G++[32])->((100:Int)≠0)/\∀I,I=(i64.wrap (Int.tdiv m (100:Int)))->uS ba #[vI I] E λJ L=>(((List.length H+List.length J:Nat):Int) <=i64.max)/\∀M,M=(H++J)->((100:Int)≠0)/\∀N,N=(Int.tmod m (100:Int))->uS ba #[vI N] L λO P=>(((List.length M+List.length O:Nat):Int) <=i64.max)/\∀Q,Q=(M++O)->(((List.length Q+List.length [32]:Nat):Int) <=i64.max)/\∀R,R=(Q++[32])->((3600:Int)≠0)/\∀S,S=(i64.wrap (Int.tdiv d (3600:Int)))->uS ba #[vI S] P λT U=>(((List.length R+List.length T:Nat):Int) <=i64.max)/\∀V,V=(R++T)->(((List.length V+List.length [58]:Nat):Int) <=i64.max)/\∀X,X=(V++[58])->((60:Int)≠0)/\∀Y,Y=(i64.wrap (Int.tdiv d (60:Int)))->((60:Int)≠0)/\∀Z,Z=(Int.tmod Y (60:Int))->uS ba #[vI Z] U λac ad=>(((List.length X+List.length ac:Nat):Int) <=i64.max)/\∀ag,ag=(X++ac)->(((List.length ag+List.length [58]:Nat):Int) <=i64.max)/\∀aj,aj=(ag++[58])->((60:Int)≠0)/\∀al,al=(Int.tmod d (60:Int))->uS ba #[vI al] ad λan ar=>(((List.length aj+List.length an:Nat):Int) <=i64.max)/\∀bb,bb=(aj++an)->(((List.length bb+List.length [32,71,77,84]:Nat):Int) <=i64.max)/\∀bc,bc=(bb++[32,71,77,84])->K (vS bc) ar)/\uS ba #[vI o] (World.drew t) λu v=>nA v (.cells #[vS [84,104,117],vS [70,114,105],vS [83,97,116],vS [83,117,110],vS [77,111,110],vS [84,117,101],vS [87,101,100]] ao) λx y=>(bx s ((7:Nat):Int)/\true)/\∃z,Ld ao (aw (vA x 0) s 1) y (vS z)/\(((List.length z+List.length [44,32]:Nat):Int) <=i64.max)/\∀A,A=(z++[44,32])->(((List.length A+List.length u:Nat):Int) <=i64.max)/\∀B,B=(A++u)->(((List.length B+List.length [32]:Nat):Int) <=i64.max)/\∀C,C=(B++[32])->nA y (.cells #[vS [74,97,110],vS [70,101,98],vS [77,97,114],vS [65,112,114],vS [77,97,121],vS [74,117,110],vS [74,117,108],vS [65,117,103],vS [83,101,112],vS [79,99,116],vS [78,111,118],vS [68,101,99]] ao) λD E=>(bx (i64.wrap (n-(1:Int))) ((12:Nat):Int)/\true)/\∃F,Ld ao (aw (vA D 0) (i64.wrap (n-(1:Int))) 1) E (vS F)/\(((List.length C+List.length F:Nat):Int) <=i64.max)/\∀G,G=(C++F)->(((List.length G+List.length [32]:Nat):Int) <=i64.max)/\∀H,H=(G++[32])->((100:Int)≠0)/\∀I,I=(i64.wrap (Int.tdiv m (100:Int)))->uS ba #[vI I] E λJ L=>(((List.length H+List.length J:Nat):Int) <=i64.max)/\∀M,M=(H++J)->((100:Int)≠0)/\∀N,N=(Int.tmod m (100:Int))->uS ba #[vI N] L λO P=>(((List.length M+List.length O:Nat):Int) <=i64.max)/\∀Q,Q=(M++O)->(((List.length Q+List.length [32]:Nat):Int) <=i64.max)/\∀R,R=(Q++[32])->((3600:Int)≠0)/\∀S,S=(i64.wrap (Int.tdiv d (3600:Int)))->uS ba #[vI S] P λT U=>(((List.length R+List.length T:Nat):Int) <=i64.max)/\∀V,V=(R++T)->(((List.length V+List.length [58]:Nat):Int) <=i64.max)/\∀X,X=(V++[58])->((60:Int)≠0)/\∀Y,Y=(i64.wrap (Int.tdiv d (60:Int)))->((60:Int)≠0)/\∀Z,Z=(Int.tmod Y (60:Int))->uS ba #[vI Z] U λac ad=>(((List.length X+List.length ac:Nat):Int) <=i64.max)/\∀ag,ag=(X++ac)->(((List.length ag+List.length [58]:Nat):Int) <=i64.max)/\∀aj,aj=(ag++[58])->((60:Int)≠0)/\∀al,al=(Int.tmod d (60:Int))->uS ba #[vI al] ad λan ar=>(((List.length aj+List.length an:Nat):Int) <=i64.max)/\∀bb,bb=(aj++an)->(((List.length bb+List.length [32,71,77,84]:Nat):Int) <=i64.max)/\∀bc,bc=(bb++[32,71,77,84])->K (vS bc) ar))))):Cf fQ #[vI a] w (Ret K):=ru func255 [(4,[(3,.one (.int .i64))]),(12,[(4,.one (.int .i64))]),(30,[(9,.one (.int .i64))])] h
theorem kg (a:Int){w K}(h:∃b:Nat->FP [.one (.int .i64),.one .str],(∃c,b c a [] w)/\∀c d e,aP 12 (∀f,b c d e f->ai (decide (d>(9:Int))) (((10:Int)≠0)/\∀g,g=(Int.tmod d (10:Int))->nA f (.cells #[.int .u8 (IntKind.u8.wrap (i64.wrap ((48:Int)+g)))] bF) λi j=>∃k,(convert bM ao (.slice (vA i 0) 1 1)).run prog j=.ok (vS k) j/\(((List.length k+List.length e:Nat):Int) <=i64.max)/\∀l,l=(k++e)->((10:Int)≠0)/\∀m,m=(i64.wrap (Int.tdiv d (10:Int)))->∃n:Nat,n<c/\b n m l j) (nA f (.cells #[.int .u8 (IntKind.u8.wrap (i64.wrap ((48:Int)+d)))] bF) λg i=>∃j,(convert bM ao (.slice (vA g 0) 1 1)).run prog i=.ok (vS j) i/\(((List.length j+List.length e:Nat):Int) <=i64.max)/\∀k,k=(j++e)->K (vS k) i))):Cf dJ #[vI a] w (Ret K):=ru func256 [(6,[(0,.one (.int .i64)),(3,.one .str)])] h
theorem lm (a b:Int){w K}(h:∃c:FP [.one .bool],(ai (b==(4:Int)) (c true w) (ai (b==(6:Int)) (c true w) (ai (b==(9:Int)) (c true w) (c (b==(11:Int)) w))))/\∀d,aP 4 (∀e,c d e->ai d (K (vI 30) e) (ai (b==(2:Int)) (uB dV #[vI a] e λf g=>ai f (K (vI 29) g) (K (vI 28) g)) (K (vI 31) e)))):Cf bT #[vI a,vI b] w (Ret K):=ru func276 [(6,[(6,.one .bool)])] h
theorem ot (a:Int){w K}(h:uB dV #[vI a] w λb c=>ai b (K (vI 366) c) (K (vI 365) c)):Cf cz #[vI a] w (Ret K):=ru func277 [] h
theorem mA (a:Int){w K}(h:Cf cV #[vI 1601,vI 1,vI 1] w λb c=>∃d e,b=rT #[vI d,.bool e]/\Cf cV #[vI 9999,vI 12,vI 31] c λf g=>∃i j,f=rT #[vI i,.bool j]/\∃k:FP [],(ai (decide (a<d)) (K (.tuple #[vI 0,vI 0,vI 0,.bool false]) g) (ai (decide (a>i)) (K (.tuple #[vI 0,vI 0,vI 0,.bool false]) g) (k g)))/\aP 12 (∀l,k l->∃m:Nat->FP [.one (.int .i64),.one (.int .i64)],(∃n,m n (1601:Int) (i64.wrap (a-d)) l)/\∀n o p,aP 10 (∀q,m n o p q->uI cz #[vI o] q λr s=>ai (decide (p >=r)) (uI cz #[vI o] s λt u=>∃v:Nat,v<n/\m v (i64.wrap (o+(1:Int))) (i64.wrap (p-t)) u) (∃t:Nat->FP [.one (.int .i64),.one (.int .i64)],(∃u,t u p (1:Int) s)/\∀u v x,aP 12 (∀y,t u v x y->uI bT #[vI o,vI x] y λz A=>ai (decide (v >=z)) (uI bT #[vI o,vI x] A λB C=>∃D:Nat,D<u/\t D (i64.wrap (v-B)) (i64.wrap (x+(1:Int))) C) (K (.tuple #[vI o,vI x,vI (i64.wrap (v+(1:Int))),.bool true]) A)))))):Cf eS #[vI a] w (Ret K):=ru func278 [(6,[]),(20,[(10,.one (.int .i64)),(11,.one (.int .i64))]),(35,[(11,.one (.int .i64)),(12,.one (.int .i64))])] h
theorem py (a:Int){w K}(h:((10:Int)≠0)/\∀b,b=(i64.wrap (Int.tdiv a (10:Int)))->((10:Int)≠0)/\∀c,c=(Int.tmod b (10:Int))->((10:Int)≠0)/\∀d,d=(Int.tmod a (10:Int))->nA w (.cells #[.int .u8 (IntKind.u8.wrap (i64.wrap ((48:Int)+c))),.int .u8 (IntKind.u8.wrap (i64.wrap ((48:Int)+d)))] bF) λe f=>∃g,(convert bM ao (.slice (vA e 0) 2 2)).run prog f=.ok (vS g) f/\K (vS g) f):Cf ba #[vI a] w (Ret K):=ru func279 [] h
def jE (a:Int)(b:World)(c:VP):Prop:=((400:Int)≠0)/\∀d,d=(Int.tmod a (400:Int))->ai (d==(0:Int)) (c (.bool true) b) (((4:Int)≠0)/\∀e,e=(Int.tmod a (4:Int))->ai (e==(0:Int)) (((100:Int)≠0)/\∀f,f=(Int.tmod a (100:Int))->c (.bool (f !=(0:Int))) b) (c (.bool false) b))
theorem oo (a:Int){w K}(h:jE a w K):Cf dV #[vI a] w (Ret K):=ru func290 [] h
theorem zZa {c d x:Bool}{R:Bool->World->Prop}(h:R (c&&(d&&x)) w):∃J:FP [.one (.bool)],ai c (ai d (J x w) (J false w)) (J false w)/\∀b:Bool,aP n (∀q:World,J b q->R b q):=
 eJ (B:=λJ=>ai c (ai d (J x w) (J false w)) (J false w)) (c&&(d&&x)) (ai.of (λh=>ai.of (λe=>⟨rfl,by rw[h,e];rfl⟩) (λe=>⟨rfl,by rw[h,e];rfl⟩)) (λh=>⟨rfl,by rw[h];rfl⟩)) h
theorem Ba:dY 1970=719162:=by decide
set_option maxRecDepth 20000
theorem jo (y:Int)(w:World):Cf dV #[vI y] w (Ret λv w'=>v=.bool (xK y)/\w'=w):=by
 apply oo
 unfold jE xK
 refine⟨by decide,?_⟩
 rintro _ rfl
 refine ai.of (λh=>?_) (λh=>?_) <;> simp at h
 ·exact⟨by simp[h],rfl⟩
 ·refine⟨by decide,?_⟩
  rintro _ rfl
  refine ai.of (λe=>?_) (λe=>?_) <;> simp at e
  ·refine⟨by decide,?_⟩
   rintro _ rfl
   refine⟨?_,rfl⟩
   congr 1
   rw[Bool.eq_iff_iff];simp[h,e]
  ·exact⟨by simp[h,e],rfl⟩
theorem cF (y m:Int)(w:World):Cf bT #[vI y,vI m] w (Ret λv w'=>v=vI (zI y m)/\w'=w):=by
 apply lm
 refine⟨λb w'=>w'=w/\b=decide (m=4\/m=6\/m=9\/m=11),?_,?_⟩
 ·refine ai.of (λh=>?_) (λh=>?_) <;> simp at h
  ·exact⟨rfl,by simp[h]⟩
  ·refine ai.of (λe=>?_) (λe=>?_) <;> simp at e
   ·exact⟨rfl,by simp[e]⟩
   ·refine ai.of (λq=>?_) (λq=>?_) <;> simp at q
    ·exact⟨rfl,by simp[q]⟩
    ·refine⟨rfl,?_⟩
     rw[Bool.eq_iff_iff];simp[h,e,q]
 ·intro b
  refine aP.of ?_ _
  rintro _ ⟨rfl,rfl⟩
  refine ai.of (λh=>?_) (λh=>?_) <;> simp only[dTx,dFx]at h
  ·refine⟨?_,rfl⟩
   unfold zI;rw[if_neg (by omega),if_pos h]
  ·refine ai.of (λe=>?_) (λe=>?_) <;> simp at e
   ·refine az (jo y _) ?_
    rintro _ w' ⟨rfl,rfl⟩
    refine⟨_,rfl,?_⟩
    refine ai.of (λq=>?_) (λq=>?_)
    ·refine⟨?_,rfl⟩
     unfold zI;rw[if_pos e,if_pos q]
    ·refine⟨?_,rfl⟩
     unfold zI;rw[if_pos e,if_neg (by simp[q])]
   ·refine⟨?_,rfl⟩
    unfold zI;rw[if_neg e,if_neg h]
theorem dC (y:Int)(w:World):Cf cz #[vI y] w (Ret λv w'=>v=vI (ED y)/\w'=w):=by
 apply ot
 refine az (jo y w) ?_
 rintro _ w' ⟨rfl,rfl⟩
 refine⟨_,rfl,?_⟩
 refine ai.of (λe=>?_) (λe=>?_)
 ·refine⟨?_,rfl⟩
  unfold ED;rw[if_pos e]
 ·refine⟨?_,rfl⟩
  unfold ED;rw[if_neg (by simp[e])]
theorem mj (y m d:Int)(w:World):Cf gH #[vI y,vI m,vI d] w (Ret λv w'=>v=.bool (decide (cH y m d))/\w'=w):=by
 apply qR
 refine ai.of (λh1=>?_) (λh1=>?_) <;> simp at h1
 ·refine ai.of (λe=>?_) (λe=>?_) <;> simp at e
  ·refine ai.of (λq=>?_) (λq=>?_) <;> simp at q
   ·refine ai.of (λD=>?_) (λD=>?_) <;> simp at D
    ·refine ai.of (λE=>?_) (λE=>?_) <;> simp at E
     ·refine az (cF y m w) ?_
      rintro _ w' ⟨rfl,rfl⟩
      refine⟨_,rfl,?_,rfl⟩
      congr 1
      rw[Bool.eq_iff_iff];simp[cH,h1,e,q,D,E]
     ·refine⟨?_,rfl⟩
      congr 1;symm;rw[dFx];unfold cH;omega
    ·refine⟨?_,rfl⟩
     congr 1;symm;rw[dFx];unfold cH;omega
   ·refine⟨?_,rfl⟩
    congr 1;symm;rw[dFx];unfold cH;omega
  ·refine⟨?_,rfl⟩
   congr 1;symm;rw[dFx];unfold cH;omega
 ·refine⟨?_,rfl⟩
  congr 1;symm;rw[dFx];unfold cH;omega
theorem fe (y m d:Int)(w:World):Cf cV #[vI y,vI m,vI d] w (Ret λv w'=>v=Bc y m d/\w'=w):=by
 apply ob
 refine az (mj y m d w) ?_
 rintro _ w ⟨rfl,rfl⟩
 refine⟨_,rfl,?_⟩
 refine ai.of (λh=>?_) (λh=>?_) <;> simp only[Bool.not_eq_true',Bool.not_eq_false',dTx,dFx]at h
 ·refine⟨?_,rfl⟩
  unfold Bc;rw[if_neg h];simp[h]
 ·have G:=h
  obtain⟨h1,ac,U,ad,ag,aj⟩:=h
  have a9:=pd y m
  refine⟨λe n k w'=>w'=w/\1 <=k/\k <=m/\n=d-1+cM y k/\e=(m-k).toNat,⟨_,rfl,by omega,U,?_,rfl⟩,?_⟩
  ·rw[wrap_i64 (by omega) (by omega)];simp[cM]
  intro e n k
  refine aP.of ?_ _
  rintro w ⟨rfl,q,al,rfl,rfl⟩
  refine ai.of (λh=>?_) (λh=>?_) <;> simp only[dTx,dFx]at h
  ·refine az (cF y k _) ?_
   rintro _ w ⟨rfl,rfl⟩
   have H:=CL (y:=y) q (by omega)
   have X:=pd y k
   refine⟨_,rfl,(m-(k+1)).toNat,by omega,rfl,?_,?_,?_,?_⟩
   ·rw[wrap_i64 (by omega) (by omega)];omega
   ·rw[wrap_i64 (by omega) (by omega)];omega
   ·rw[wrap_i64 (by omega) (by omega),wrap_i64 (by omega) (by omega),wA q (by omega)];omega
   ·rw[wrap_i64 (by omega) (by omega)]
  ·have V:k=m:=by omega
   subst V
   have H:=CL (y:=y) q (by omega)
   refine⟨λe n k' D=>D=w/\1970 <=k'/\(k' <=y\/k'=1970)/\n=d-1+cM y k+(dY k'-719162)/\e=(y-k').toNat,⟨_,rfl,by omega,.inr rfl,by rw[Ba];omega,rfl⟩,?_⟩
   intro e n k'
   refine aP.of ?_ _
   rintro w ⟨rfl,an,ar,rfl,rfl⟩
   refine ai.of (λh=>?_) (λh=>?_) <;> simp only[dTx,dFx]at h
   ·refine az (dC k' _) ?_
    rintro _ w ⟨rfl,rfl⟩
    have I:=wD (y:=k') (by omega) (by omega)
    have M:=ul k'
    refine⟨_,rfl,(y-(k'+1)).toNat,by omega,rfl,?_,.inl ?_,?_,?_⟩
    ·rw[wrap_i64 (by omega) (by omega)];omega
    ·rw[wrap_i64 (by omega) (by omega)];omega
    ·rw[wrap_i64 (by omega) (by omega),wrap_i64 (by omega) (by omega),sJ (by omega)];omega
    ·rw[wrap_i64 (by omega) (by omega)]
   ·refine⟨λe n k'' D=>D=w/\y <=k''/\(k'' <=1970\/k''=y)/\n=d-1+cM y k+(dY k'-719162)-(dY k''-dY y)/\e=(1970-k'').toNat,⟨_,rfl,by omega,.inr rfl,by omega,rfl⟩,?_⟩
    intro e n k''
    refine aP.of ?_ _
    rintro w ⟨rfl,a0,a8,rfl,rfl⟩
    have I:=wD (y:=k') (by omega) (by omega)
    have M:=wD (y:=k'') (by omega) (by omega)
    have Y:=wD (y:=y) (by omega) (by omega)
    have Z:=ul k''
    refine ai.of (λE=>?_) (λE=>?_) <;> simp only[dTx,dFx]at E
    ·refine az (dC k'' _) ?_
     rintro _ w ⟨rfl,rfl⟩
     refine⟨_,rfl,(1970-(k''+1)).toNat,by omega,rfl,?_,.inl ?_,?_,?_⟩
     ·rw[wrap_i64 (by omega) (by omega)];omega
     ·rw[wrap_i64 (by omega) (by omega)];omega
     ·rw[wrap_i64 (by omega) (by omega),wrap_i64 (by omega) (by omega),sJ (by omega)];omega
     ·rw[wrap_i64 (by omega) (by omega)]
    ·refine⟨?_,rfl⟩
     unfold Bc
     rw[if_pos G]
     have:decide (cH y k d)=true:=by simp[G]
     rw[this]
     have O:k'=k'':=by omega
     have e8:d-1+cM y k+(dY k'-719162)-(dY k''-dY y)=fx y k d:=by rw[<- O];unfold fx;omega
     rw[e8]
theorem nP (n:Int)(w:World)(an: -9223372036854775808 <=n/\n <=9223372036854775807):Cf eS #[vI n] w (Ret λv w'=>v=TT n/\w'=w):=by
 apply mA
 refine az (fe _ _ _ w) ?_
 rintro _ w ⟨rfl,rfl⟩
 refine⟨_,_,rfl,?_⟩
 refine az (fe _ _ _ w) ?_
 rintro _ w ⟨rfl,rfl⟩
 refine⟨_,_,rfl,?_⟩
 rw[if_pos xL.1,if_pos uG.1,xL.2,uG.2]
 refine⟨λw'=>w'=w/\ -134774 <=n/\n <=2932896,?_,?_⟩
 ·refine ai.of (λh=>?_) (λh=>?_) <;> simp only[dTx,dFx]at h
  ·exact⟨(ns (.inl h)).symm,rfl⟩
  ·refine ai.of (λq=>?_) (λq=>?_) <;> simp only[dTx,dFx]at q
   ·exact⟨(ns (.inr q)).symm,rfl⟩
   ·exact⟨rfl,by omega,by omega⟩
 ·refine aP.of ?_ _
  rintro w ⟨rfl,h1,q⟩
  have ad:dY 1601=584388:=by decide
  have ac:dY 10000=3652059:=by decide
  refine⟨λm y r w'=>w'=w/\1601 <=y/\y <=9999/\r=n+719162-dY y/\0 <=r/\m=r.toNat,⟨_,rfl,by omega,by omega,by rw[wrap_i64 (by omega) (by omega)];omega,by rw[wrap_i64 (by omega) (by omega)];omega,rfl⟩,?_⟩
  intro H y r
  refine aP.of ?_ _
  rintro w ⟨rfl,M,Z,ar,Y,rfl⟩
  have bc:=ul y
  have bb:=wD (y:=y) M (by omega)
  refine az (dC y _) ?_
  rintro _ w ⟨rfl,rfl⟩
  refine⟨_,rfl,?_⟩
  refine ai.of (λh=>?_) (λh=>?_) <;> simp only[ge_iff_le,dTx,dFx]at h
  ·refine az (dC y _) ?_
   rintro _ w ⟨rfl,rfl⟩
   have G:=sJ (y:=y) (by omega)
   have a9:y+1 <=9999:=by
    apply Int.le_of_not_gt
    intro U
    have:y=9999:=by omega
    subst this
    have O:dY (9999+1)=3652059:=by decide
    omega
   refine⟨_,rfl,(r-ED y).toNat,by omega,rfl,?_,?_,?_,?_,?_⟩
   ·rw[wrap_i64 (by omega) (by omega)];omega
   ·rw[wrap_i64 (by omega) (by omega)];omega
   ·rw[wrap_i64 (by omega) (by omega),wrap_i64 (by omega) (by omega),G];omega
   ·rw[wrap_i64 (by omega) (by omega)];omega
   ·rw[wrap_i64 (by omega) (by omega)]
  ·refine⟨λH e m w'=>w'=w/\1 <=m/\m <=12/\e=r-cM y m/\0 <=e/\H=e.toNat,⟨_,rfl,by omega,by omega,by simp[cM],Y,rfl⟩,?_⟩
   intro H e m
   refine aP.of ?_ _
   rintro w ⟨rfl,D,E,a0,a8,rfl⟩
   have al:=pd y m
   have aj:=CL (y:=y) D E
   refine az (cF y m _) ?_
   rintro _ w ⟨rfl,rfl⟩
   refine⟨_,rfl,?_⟩
   refine ai.of (λI=>?_) (λI=>?_) <;> simp only[ge_iff_le,dTx,dFx]at I
   ·refine az (cF y m _) ?_
    rintro _ w ⟨rfl,rfl⟩
    have G:=wA (y:=y) D E
    have ag:m+1 <=12:=by
     apply Int.le_of_not_gt
     intro U
     have:m=12:=by omega
     subst this
     have O:cM y (12+1)=ED y:=Jg y
     omega
    refine⟨_,rfl,(e-zI y m).toNat,by omega,rfl,?_,?_,?_,?_,?_⟩
    ·rw[wrap_i64 (by omega) (by omega)];omega
    ·rw[wrap_i64 (by omega) (by omega)];omega
    ·rw[wrap_i64 (by omega) (by omega),wrap_i64 (by omega) (by omega),G];omega
    ·rw[wrap_i64 (by omega) (by omega)];omega
    ·rw[wrap_i64 (by omega) (by omega)]
   ·refine⟨?_,rfl⟩
    have X:cH y m (e+1):=⟨M,Z,D,E,by omega,by omega⟩
    have V:fx y m (e+1)=n:=by unfold fx;omega
    rw[wrap_i64 (by omega) (by omega),<- V,wB X]
theorem nQ (n:Int)(w:World):Cf eT #[.int .u8 n] w (Ret λv w'=>v=.bool (decide (xP n))/\w'=w):=by
 apply mC
 repeat' (refine ai.of (λh=>?_) (λh=>?_))
 all_goals
  refine⟨?_,rfl⟩
  congr 1
  rw[Bool.eq_iff_iff]
  simp only[dTx]
  simp only[xP,beq_iff_eq,beq_eq_false_iff_ne,ge_iff_le,dTx,dFx,true_iff,false_iff,iff_true,reduceCtorEq,Bool.false_eq_true]at*
  omega
theorem o7:∀(s cur x:List UInt8),x∈xB cur s->x.length <=cur.length+s.length
 |[],cur,x,h=>by simp[xB]at h;subst h;simp
 |c::r,cur,x,h=>by
  unfold xB at h
  split at h
  ·rcases List.mem_cons.1 h with rfl|h
   ·simp
   ·have:=o7 r [] x h;simp at this ⊢;omega
  ·have:=o7 r _ x h;simp at this ⊢;omega
theorem gg (s:List UInt8)(U:s.length <=9223372036854775807)(w:World):Cf cP #[vS s] w (Ret λv w'=>v=vI ((fI s).length:Nat)/\w'=w):=by
 apply lq
 have H:=bN gO s
 refine⟨λm i w'=>∃k:Nat,k <=(fI s).length/\i=(k:Int)/\m=s.length-k/\w'=w,⟨_,0,by omega,rfl,rfl,rfl⟩,?_⟩
 intro m i
 refine aP.of ?_ _
 rintro w' ⟨k,G,rfl,rfl,rfl⟩
 have M:k <=s.length:=Nat.le_trans G H
 refine ai.of (λh=>?_) (λh=>?_) <;> simp only[dTx,dFx]at h
 ·have I:k<s.length:=by omega
  have D:=na gO s k I G
  rw[Hc I]at D
  have stop: ¬ (k<(fI s).length)->(vI (k:Int):Value)=vI ((fI s).length:Nat)/\w'=w':=λO=>⟨by congr 1;omega,rfl⟩
  refine⟨⟨by omega,h⟩,ai.of (λe=>?_) (λe=>?_)⟩ <;> simp only[ge_iff_le,dTx,dFx]at e
  ·refine⟨⟨by omega,h⟩,ai.of (λq=>?_) (λq=>?_)⟩ <;> simp only[dTx,dFx]at q
   ·have:=D.1 ⟨e,q⟩
    exact⟨s.length-(k+1),by omega,k+1,this,by rw[wrap_i64 (by omega) (by omega)];omega,rfl,rfl⟩
   ·exact stop λE=>q (D.2 E).2
  ·exact stop λE=>e (D.2 E).1
 ·exact⟨by congr 1;have:(fI s).length <=s.length:=H;omega,rfl⟩
theorem eu (s:List UInt8)(O:s.length <=18)(E:∀c∈s,gO c=true)(w:World):Cf cE #[vS s] w (Ret λv w'=>v=vI (jT s)/\w'=w):=by
 apply mD
 refine⟨λm n i w'=>∃k:Nat,k <=s.length/\i=(k:Int)/\n=jT (s.take k)/\m=s.length-k/\w'=w,⟨_,0,by omega,rfl,rfl,rfl,rfl⟩,?_⟩
 intro m n i
 refine aP.of ?_ _
 rintro w' ⟨k,I,rfl,rfl,rfl,rfl⟩
 refine ai.of (λh=>?_) (λh=>?_) <;> simp only[dTx,dFx]at h
 ·have e:k<s.length:=by omega
  have D:=nu.1 (E s[k] (List.getElem_mem e))
  have q:=lM (s.take k) 0 (by decide) λc D=>E c (List.mem_of_mem_take D)
  have M:(10:Int) ^ (s.take k).length <=10 ^ 17:=zU (by rw[List.length_take];omega)
  have H:(10:Int) ^ 17=100000000000000000:=by decide
  have hV:(s.take k).foldl (λn c=>n*10+((c.toNat:Int)-48)) 0=jT (s.take k):=rfl
  rw[hV]at q
  have G:=q.2
  rw[Int.zero_add,Int.one_mul]at G
  rw[tW (i:=(k:Int)) (by simpa using e)]
  simp only[Int.toNat_natCast]
  refine⟨⟨by omega,h⟩,s.length-(k+1),by omega,k+1,by omega,by rw[wrap_i64 (by omega) (by omega)];omega,?_,rfl,trivial⟩
  rw[List.take_succ_eq_append_getElem e,tN,wrap_i64 (n:=jT (s.take k)*10) (by omega) (by omega),wrap_i64 (n:=((s[k].toNat:Nat):Int)) (by omega) (by omega),wrap_i64 (n:=jT (s.take k)*10+((s[k].toNat:Nat):Int)) (by omega) (by omega),wrap_i64 (by omega) (by omega)]
  omega
 ·have:k=s.length:=by omega
  subst this
  rw[List.take_length];exact⟨rfl,rfl⟩
theorem aZ (n:Int)(q:0 <=n)(h1:n <=9999)(w:World):Cf ba #[vI n] w (Ret λv w'=>v=vS (gU n)/\bW w w'):=by
 apply py
 refine⟨by decide,?_⟩
 rintro _ rfl
 refine⟨by decide,?_⟩
 rintro _ rfl
 refine⟨by decide,?_⟩
 rintro _ rfl k I G e
 rw[bL q,wrap_i64 (n:=n/10) (by omega) (by omega),bP (by omega),bP q]at e
 have D:=sK (n/10)
 have E:=sK n
 rw[wrap_i64 (n:=48+n/10%10) (by omega) (by omega),wrap_i64 (n:=48+n%10) (by omega) (by omega),wrap_u8 (n:=48+n/10%10) (by omega) (by omega),wrap_u8 (n:=48+n%10) (by omega) (by omega)]at e
 have H:Ow tU8 bF I NoB (some ⟨k,0,none⟩) 2 2 (gU n):=by
  refine Ow.newF wK (xs:=gU n) (l:=[.int .u8 (48+n/10%10),.int .u8 (48+n%10)]) G e ?_ (show 2 <=maxLen by decide)
  exact kK.append (xs:=[Ju (n/10)]) (ys:=[Ju n]) (l:=[_]) (m:=[_]) (kK.one (uA (by rw[D.2];omega))) (kK.one (uA (by rw[E.2];omega)))
 exact⟨_,uX fF ax dm H.all,rfl,e▸au _ _⟩
theorem nE {f i:Nat}{u:List UInt8}(h:su u=none):cv f i u=none:=by unfold cv;rw[h];rfl
theorem nF {f i:Nat}{u:List UInt8}{p:Int×List UInt8}(h:su u=some p):cv f i u=(gM f (i+1) p.2).map (p.1:: ·):=by unfold cv;rw[h];rfl
def sX (s:List UInt8)(w:World)(v:Value)(w':World):Prop:=
 ∃(a:Option Addr) (n c:Nat) (b:Bool),v=.tuple #[.slice a n c,.bool b]/\bW w w'/\(kj s=none/\b=false\/∃l,kj s=some l/\b=true/\Ow vj aJ w' NoB a n c l/\ci w.heap.size a)
theorem po (s:List UInt8)(cc:s.length <=9223372036854775000)(w:World):Cf fR #[vS s] w (Ret (sX s w)):=by
 apply oq
 intro b6 w7 Z al
 have bb:bW w w7:=al▸au _ _
 have b0:Ow vj aJ w7 NoB (some ⟨b6,0,none⟩) 0 0 []:=Ow.newF o9 Z al (kK.nil _ _ _) (Nat.zero_le _)
 refine⟨λm u a n c i w'=>∃(k:Nat) (out:List Int),k <=3/\i=(k:Int)/\m=3-k/\out.length=k/\(k<3->kj s=(cv (2-k) k u).map (out++ ·))/\(k=3->kj s=some out)/\u.length <=s.length/\
  Ow vj aJ w' NoB a n c out/\ci w.heap.size a/\bW w w',
  ⟨_,0,[],by omega,rfl,rfl,rfl,λ_=>?_,λh=>(by omega),Nat.le_refl _,b0,sr Z,bb⟩,?_⟩
 ·show gM 3 0 s=_
  rw[kL]
  show cv 2 0 s=_
  cases cv 2 0 s <;> rfl
 intro m u a n c i
 refine aP.of ?_ _
 rintro D ⟨k,out,b9,rfl,rfl,ac,e,b3,ce,ad,X,G⟩
 refine ai.of (λh=>?_) (λh=>?_) <;> simp only[dTx,dFx]at h
 ·have bq:k<3:=by omega
  have e:=e bq
  have cb:(fI u).length <=u.length:=bN gO u
  have M:∀{w':World},su u=none->bW w w'->sX s w (.tuple #[.slice none 0 0,.bool false]) w':=λI bc=>⟨_,_,_,_,rfl,bc,.inl ⟨by rw[e,nE I];rfl,rfl⟩⟩
  refine az (gg u (by omega) D) ?_
  rintro _ D ⟨rfl,rfl⟩
  refine⟨_,rfl,iY (w:=D) (1 <=(fI u).length/\(fI u).length <=2) ?_ ?_⟩
  ·refine ai.of (λO=>?_) (λO=>?_) <;> simp only[dTx,dFx]at O
   ·exact M (by unfold su;rw[if_neg (by omega)]) G
   ·refine ai.of (λU=>?_) (λU=>?_) <;> simp only[gt_iff_lt,dTx,dFx]at U
    ·exact M (by unfold su;rw[if_neg (by omega)]) G
    ·exact⟨rfl,by omega,by omega⟩
  ·intro bk
   have b2:su u=some (jT (fI u),u.drop (fI u).length):=by unfold su;rw[if_pos bk]
   rw[nF b2]at e
   refine⟨⟨by omega,by omega⟩,?_⟩
   rintro _ rfl
   simp only[Int.toNat_natCast]
   rw[rB]
   refine az (eu (fI u) (by omega) qu D) ?_
   rintro _ D ⟨rfl,rfl⟩
   refine⟨_,rfl,?_⟩
   intro cf ch bs b4
   obtain⟨b8,a4,b7,an,b1,ag,Y,H⟩:=AM (ty:=jh) (w0:=w) (cm:=1) o9 vW fk (by decide) ad X G bs b4 (BM) (by omega)
   refine⟨b8,a4,b7,an,b1,⟨by omega,by omega⟩,?_⟩
   rintro _ rfl
   have a9:i64.wrap ((k:Int)+1)=((k+1:Nat):Int):=by rw[wrap_i64 (by omega) (by omega)];omega
   try dsimp only
   rw[a9]
   simp only[]at e
   have aj:(u.drop (fI u).length).length <=s.length:=by rw[List.length_drop];omega
   generalize u.drop (fI u).length=r at*
   refine ai.of (λV=>?_) (λV=>?_) <;> simp only[dTx,dFx]at V
   ·have a0:2-k=(1-k)+1:=by omega
    rw[a0,kL]at e
    refine ai.of (λq=>?_) (λq=>?_)
    ·rw[beq_iff_eq]at q
     subst q
     exact⟨_,_,_,_,rfl,H,.inl ⟨by rw[e];rfl,rfl⟩⟩
    ·rw[beq_eq_false_iff_ne]at q
     match r,q with
     |x::r,_=>
      refine⟨⟨by omega,by simp <;> omega⟩,?_⟩
      have b5:bm (x::r) 0=((x.toNat:Nat):Int):=rfl
      rw[b5]
      refine ai.of (λE=>?_) (λE=>?_)
      ·have bz:x≠58:=λar=>by subst ar;exact absurd E (by decide)
       exact⟨_,_,_,_,rfl,H,.inl ⟨by rw[e];unfold xm;rw[if_neg (by omega),if_neg (by simpa using bz)];rfl,rfl⟩⟩
      ·have I:x=58:=by
        simp only[bne_eq_false_iff_eq]at E
        exact AR E
       subst I
       refine⟨⟨by omega,by simp <;> omega⟩,?_⟩
       rintro _ rfl
       refine⟨3-(k+1),by omega,k+1,out++[jT (fI u)],by omega,rfl,rfl,by simp[ac],λ_=>?_,λh=>by omega,by simp at aj ⊢;omega,ag,Y,H⟩
       rw[e]
       have bj:∀z:List UInt8,xm (k+1) (58::z)=some z:=λz=>by unfold xm;rw[if_neg (by omega)];rfl
       have a8:2-(k+1)=1-k:=by omega
       rw[bj,a8]
       show((cv (1-k) (k+1) _).map _).map _=(cv (1-k) (k+1) _).map _
       cases cv (1-k) (k+1) _ <;> simp
   ·have bp:k=2:=by omega
    subst bp
    refine⟨0,by omega,3,out++[jT (fI u)],by omega,rfl,rfl,by simp[ac],λh=>by omega,λ_=>?_,aj,ag,Y,H⟩
    rw[e];rfl
 ·have:k=3:=by omega
  subst this
  exact⟨_,_,_,_,rfl,G,.inr ⟨out,b3 rfl,rfl,ad,X⟩⟩
def qI:List (List UInt8):=[[106,97,110],[102,101,98],[109,97,114],[97,112,114],[109,97,121],[106,117,110],[106,117,108],[97,117,103],[115,101,112],[111,99,116],[110,111,118],[100,101,99]]
theorem vJ:∀k (h:k<qI.length),qI[k]=xM k:=by decide
theorem ib (s:List UInt8)(ar:s.length <=9223372036854775800)(w:World):Cf dz #[vS s] w (Ret λv w'=>v=vI (ny s)/\bW w w'):=by
 apply mB
 intro aj w5 ac O
 have I:bW w w5:=O▸au _ _
 have ad:Ow tS ao w5 NoB (some ⟨aj,0,none⟩) 12 12 qI:=Ow.newF (l:=qI.map λs=>vS s) (gI _) ac O (o5 λ_ _=>trivial) (by decide)
 refine⟨λm i w'=>∃k:Nat,k <=12/\i=(k:Int)/\m=12-k/\ny s=lO s (12-k) k/\bW w5 w',⟨_,0,by omega,rfl,rfl,rfl,Below.refl _ _⟩,?_⟩
 intro m i
 refine aP.of ?_ _
 rintro a0 ⟨k,an,rfl,rfl,e,q⟩
 have E:=ah I q I.size
 refine ai.of (λh=>?_) (λh=>?_) <;> simp only[dTx,dFx]at h
 ·have Y:i64.wrap ((k:Int)+1)=((k+1:Nat):Int):=by rw[wrap_i64 (by omega) (by omega)];omega
  try dsimp only
  rw[Y]
  refine ai.of (λH=>?_) (λH=>?_) <;> simp only[ge_iff_le,dTx,dFx]at H
  ·refine⟨⟨by omega,by omega⟩,?_⟩
   rintro _ rfl
   have V:Int.toNat (3:Int)=3:=rfl
   rw[V]
   refine⟨cN (s.take 3),λu G=>?_,⟨⟨by omega,by omega⟩,rfl⟩,xM k,λu G=>?_,?_⟩
   ·refine(cZ (s.take 3) (by simp;omega) u).mono ?_
    rintro _ a8 ⟨_,rfl,rfl,Z⟩
    exact⟨rfl,Z.mono G.size⟩
   ·have M:(k:Int).toNat<qI.length:=by show k<12;omega
    obtain⟨v,e,ag⟩:=((ad.below q).below G).all.load1 (i:=(k:Int)) ax rfl rfl M
    obtain⟨rfl,-⟩:=nw ag
    simp only[Int.toNat_natCast]at e
    rw[vJ k M]at e
    exact e
   ·intro al D
    have X:12-k=(12-(k+1))+1:=by omega
    rw[X]at e
    unfold lO at e
    refine ai.of (λh=>?_) (λh=>?_)
    ·rw[beq_iff_eq]at h
     rw[if_pos ⟨by omega,h⟩]at e
     exact⟨by rw[e];congr 1,ah E D E.size⟩
    ·rw[beq_eq_false_iff_ne]at h
     rw[if_neg (λU=>h U.2)]at e
     exact⟨12-(k+1),by omega,k+1,by omega,rfl,rfl,e,ah q D q.size⟩
  ·intro al D
   rw[iZ (by omega)]at e
   exact⟨12-(k+1),by omega,k+1,by omega,rfl,rfl,by rw[e,iZ (by omega)],ah q D q.size⟩
 ·have:k=12:=by omega
  subst this
  exact⟨by rw[e];rfl,E⟩
structure A3 (f:Fnd)(t:List Int)(y m d:Int):Prop where
 t:t=if f.time then[f.s0,f.s1,f.s2]else[]
 y:y=if f.year then f.y else -1
 m:m=if f.month then f.m else -1
 d:d=if f.day then f.d else -1
theorem jn:oX s a b=true ↔ a <=((fI s).length:Int)/\((fI s).length:Int) <=b:=by unfold oX;rw[dTx]
theorem mi (s:List UInt8)(f1:s.length <=10000000)(w:World):Cf eo #[vS s] w (Ret λv w'=>v=ug (qh s)/\bW w w'):=by
 apply lj
 intro fd w17 c4 dg
 have ed:bW w w17:=dg▸au _ _
 have e1:Ow tS ao w17 NoB (some ⟨fd,0,none⟩) 1 1 [[]]:=Ow.newF (l:=[_]) (gI _) c4 dg (kK.one (qk trivial)) (by decide)
 refine⟨λm a n c i w'=>∃(k:Nat) (done:List (List UInt8)) (cur:List UInt8),k <=s.length/\i=(k:Int)/\m=s.length-k/\done.length <=k/\cur.length <=k/\xB [] s=done++xB cur (s.drop k)/\
  Ow tS ao w' NoB a n c (done++[cur])/\ci w.heap.size a/\bW w w',
  ⟨_,0,[],[],by omega,rfl,rfl,Nat.le_refl _,Nat.le_refl _,rfl,e1,sr c4,ed⟩,?_⟩
 intro m a n c i
 refine aP.of ?_ _
 rintro bk ⟨k,done,cur,er,rfl,rfl,fr,b2,I,bc,ch,a0⟩
 have b3:=bc.len
 simp only[List.length_append,List.length_cons,List.length_nil]at b3
 subst b3
 refine ai.of (λh=>?_) (λh=>?_) <;> simp only[dTx,dFx]at h
 ·have V:k<s.length:=by omega
  have ce:i64.wrap ((k:Int)+1)=((k+1:Nat):Int):=by rw[wrap_i64 (by omega) (by omega)];omega
  try dsimp only
  rw[ce]
  refine⟨⟨by omega,h⟩,?_⟩
  refine az (nQ _ bk) ?_
  rintro _ bk ⟨rfl,rfl⟩
  refine⟨_,rfl,?_⟩
  rw[DX V]
  rw[yH s cur k V]at I
  refine ai.of (λe=>?_) (λe=>?_)
  ·rw[if_pos e]at I
   intro f4 bp es e9
   obtain⟨Y,a4,fm,d3,dc,cj,em,aj⟩:=AM (ty:=bI) (w0:=w) (cm:=1) (vs:=[_]) (x:=[]) (gI _) lQ bS (by decide) bc ch a0 es e9 (qk trivial) (by simp;omega)
   exact⟨Y,a4,fm,d3,dc,s.length-(k+1),by omega,k+1,done++[cur],[],by omega,rfl,rfl,by simp;omega,by simp,by rw[I];simp,cj,em,aj⟩
  ·rw[if_neg (by rw[e];decide)]at I
   have d6:i64.wrap ((((done.length+1:Nat):Nat):Int)-1)=(done.length:Int):=by rw[wrap_i64 (by omega) (by omega)];omega
   have c1:=bc.below (bD bk)
   have dd:Option.isSome a=true:=bc.all.isSome (i:=done.length) (by simp)
   rw[d6]
   refine⟨⟨⟨by omega,by omega⟩,dd⟩,⟨⟨by omega,by omega⟩,by omega,by omega⟩,?_⟩
   rintro _ rfl
   obtain⟨v,U,ac⟩:=c1.all.load1 (i:=(done.length:Int)) ax rfl rfl (by simp)
   obtain⟨rfl,-⟩:=nw ac
   simp only[Int.toNat_natCast,List.getElem_concat_length]at U
   have d7:(s.take (k+1)).drop k=[s[k]]:=by
    rw[List.take_succ_eq_append_getElem V,List.drop_append_of_le_length (by simp;omega)]
    simp[List.drop_take]
   simp only[Int.toNat_natCast]
   rw[d7]
   refine⟨cur,U,by simp[IntKind.max,IntKind.bits];omega,?_⟩
   rintro _ rfl
   obtain⟨Y,e5,cj,en⟩:=c1.store (P:=prog) (bytes:=16) (z:=vS []) bS (λ_ _ h=>h) (i:=(done.length:Int)) (by simp) (k:=1) rfl (v:=vS (cur++[s[k]])) (x:=cur++[s[k]]) (qk trivial)
   have c0:=ah a0 (bD bk) a0.size
   refine⟨⟨⟨by omega,by omega⟩,dd⟩,Y,e5,s.length-(k+1),by omega,k+1,done,cur++[s[k]],by omega,rfl,rfl,by omega,by simp;omega,I,?_,ch,c0.grown en c0.size ch⟩
   simpa using cj
 ·have:k=s.length:=by omega
  subst this
  have I:xB [] s=done++[cur]:=by rw[I];simp[xB]
  have de:qh s=(done++[cur]).foldl xa EB:=by unfold qh;rw[I]
  rw[de]
  have e6:∀x∈done++[cur],x.length <=s.length:=λx dl=>by
   rw[<- I]at dl;simpa using o7 s [] x dl
  generalize ee:done++[cur]=L at*
  have ef:L.length=done.length+1:=by rw[<- ee];simp
  rw[<- ef]
  intro fl w44 et dk
  have cp:bW bk w44:=dk▸au _ _
  have ct:=ah a0 cp a0.size
  have e2:Ow vj aJ w44 NoB (some ⟨fl,0,none⟩) 0 0 []:=Ow.newF o9 et dk (kK.nil _ _ _) (Nat.zero_le _)
  refine⟨λm at_ bj cl y ds d i w'=>∃(k:Nat) (f:Fnd) (t:List Int),k <=L.length/\i=(k:Int)/\m=L.length-k/\f=(L.take k).foldl xa EB/\A3 f t y ds d/\Ow vj aJ w' NoB at_ bj cl t/\bW w44 w',
   ⟨_,0,EB,[],by omega,rfl,rfl,rfl,⟨rfl,rfl,rfl,rfl⟩,e2,Below.refl _ _⟩,?_⟩
  intro m at_ bj cl y ds d i
  refine aP.of ?_ _
  rintro w2 ⟨k,f,t,er,rfl,rfl,a8,⟨rfl,rfl,rfl,rfl⟩,X,bz⟩
  have M:FQ f:=a8▸FJ _ Fu
  have c8:=((bc.below cp).below bz)
  have Z:=ah ct bz ct.size
  have bb:=X.len
  have b5:(bj:Int)=0 ↔ f.time=false:=by
   rw[bb];cases f.time <;> simp
  refine ai.of (λh=>?_) (λh=>?_) <;> simp only[dTx,dFx]at h
  ·have V:k<L.length:=by omega
   have ce:i64.wrap ((k:Int)+1)=((k+1:Nat):Int):=by rw[wrap_i64 (by omega) (by omega)];omega
   try dsimp only
   rw[ce]
   obtain⟨v,U,ac⟩:=c8.all.load1 (i:=(k:Int)) ax rfl rfl (by simpa using V)
   obtain⟨rfl,-⟩:=nw ac
   simp only[Int.toNat_natCast]at U
   refine⟨⟨⟨by omega,h⟩,c8.all.isSome V⟩,_,U,?_⟩
   have f2:=e6 L[k] (List.getElem_mem V)
   have ex:(L.take (k+1)).foldl xa EB=xa f L[k]:=by rw[List.take_succ_eq_append_getElem V,List.foldl_append,a8];rfl
   generalize L[k]=x at*
   have fs:(fI x).length <=x.length:=bN gO x
   have done:∀{w':World} {a':Option Addr} {d1 c':Nat} {t':List Int} {d2 dr cn:Int},A3 (xa f x) t' d2 dr cn->Ow vj aJ w' NoB a' d1 c' t'->bW w44 w'->
    ∃b7:Nat,b7<L.length-k/\∃(b6:Nat) (f:Fnd) (t:List Int),b6 <=L.length/\((k+1:Nat):Int)=(b6:Int)/\b7=L.length-b6/\f=(L.take b6).foldl xa EB/\A3 f t d2 dr cn/\Ow vj aJ w' NoB a' d1 c' t/\bW w44 w':=
    λeq e0 cf=>⟨L.length-(k+1),by omega,k+1,_,_,by omega,rfl,rfl,ex.symm,eq,e0,cf⟩
   refine az (gg x (by omega) w2) ?_
   rintro _ w2 ⟨rfl,rfl⟩
   refine⟨_,rfl,?_⟩
   refine az (po x (by omega) w2) ?_
   rintro _ bp ⟨a3,f5,fo,fn,rfl,cr,b2⟩
   have c9:=X.below cr
   have b0:=ah bz cr bz.size
   refine⟨_,_,_,_,rfl,Q2 ?_⟩
   refine ai.of (λe=>?_) (λe=>?_)
   ·rw[Bool.and_eq_true,beq_iff_eq,b5]at e
    rcases b2 with⟨_,ar⟩|⟨l,c5,_,e3,fv⟩
    ·rw[ar]at e;cases e.1
    ·obtain⟨ev,_⟩:=rW 3 0 x l c5
     match l,ev with
     |[p,b7,r],_=>
      have cc:=zw c5 e.2
      exact done (t':=[p,b7,r]) (by rw[cc];exact⟨rfl,rfl,rfl,rfl⟩) e3 b0
   ·have ey:kj x=none\/f.time=true:=by
     rcases b2 with⟨ar,_⟩|⟨l,_,ar,_⟩
     ·exact .inl ar
     ·right
      rw[ar,Bool.true_and,beq_eq_false_iff_ne,ne_eq,b5]at e
      simpa using e
    have cc:=AP ey
    rw[cc]at done
    clear b2 e
    have c3:(if f.day then f.d else -1)<0 ↔ f.day=false:=by
     have:=M.d;cases f.day <;> simp;omega
    have c7:(if f.month then f.m else -1)<0 ↔ f.month=false:=by
     have:=M.m;cases f.month <;> simp;omega
    have dn:(if f.year then f.y else -1)<0 ↔ f.year=false:=by
     have:=M.y;cases f.year <;> simp;omega
    refine zZa ?_
    refine ai.of (λD=>?_) (λD=>?_)
    ·simp only[Bool.and_eq_true,dTx,c3,ge_iff_le]at D
     refine⟨⟨by omega,by omega⟩,?_⟩
     rintro _ rfl
     simp only[Int.toNat_natCast]
     rw[rB]
     refine az (eu (fI x) (by omega) qu bp) ?_
     rintro _ bp ⟨rfl,rfl⟩
     refine⟨_,rfl,done (t':=_) ?_ c9 b0⟩
     rw[if_pos ⟨jn.2 (by omega),D.1⟩]
     exact⟨rfl,rfl,rfl,rfl⟩
    ·have d9: ¬ (oX x 1 2=true/\f.day=false):=by
      rw[jn]
      rintro⟨⟨q,E⟩,H⟩
      rw[decide_eq_true (c3.2 H),Bool.true_and,decide_eq_true (show((fI x).length:Int) >=1 from q),decide_eq_true E]at D
      cases D
     rw[if_neg d9]at done
     refine qs (λb w'=>b=(decide ((if f.month then f.m else -1)<0)&&decide (0<ny x))/\bW bp w') ?_ ?_
     ·refine ai.of (λq=>?_) (λq=>?_)
      ·refine az (ib x (by omega) bp) ?_
       rintro _ Y ⟨rfl,aj⟩
       exact⟨_,rfl,by rw[q];rfl,aj⟩
      ·exact⟨by rw[q];rfl,Below.refl _ _⟩
     ·rintro _ Y ⟨rfl,aj⟩
      have ck:=c9.below aj
      have b1:=ah b0 aj b0.size
      refine ai.of (λq=>?_) (λq=>?_)
      ·simp only[Bool.and_eq_true,dTx,c7]at q
       refine az (ib x (by omega) Y) ?_
       rintro _ f6 ⟨rfl,cu⟩
       refine⟨_,rfl,done (t':=_) ?_ (ck.below cu) (ah b1 cu b1.size)⟩
       rw[if_pos ⟨q.2,q.1⟩]
       exact⟨rfl,rfl,rfl,rfl⟩
      ·have ea: ¬ (0<ny x/\f.month=false):=by
        rintro⟨E,H⟩
        rw[decide_eq_true (c7.2 H),decide_eq_true E]at q
        cases q
       rw[if_neg ea]at done
       refine zZa ?_
       refine ai.of (λE=>?_) (λE=>?_)
       ·simp only[Bool.and_eq_true,dTx,dn,ge_iff_le]at E
        refine⟨⟨by omega,by omega⟩,?_⟩
        rintro _ rfl
        simp only[Int.toNat_natCast]
        rw[rB]
        refine az (eu (fI x) (by omega) qu Y) ?_
        rintro _ Y ⟨rfl,rfl⟩
        refine⟨_,rfl,done (t':=_) ?_ ck b1⟩
        rw[if_pos ⟨jn.2 (by omega),E.1⟩]
        exact⟨rfl,rfl,rfl,rfl⟩
       ·have eb: ¬ (oX x 2 4=true/\f.year=false):=by
         rw[jn]
         rintro⟨⟨H,h7⟩,h8⟩
         rw[decide_eq_true (dn.2 h8),Bool.true_and,decide_eq_true (show((fI x).length:Int) >=2 from H),decide_eq_true h7]at E
         cases E
        rw[if_neg eb]at done
        exact done (t':=_) ⟨rfl,rfl,rfl,rfl⟩ ck b1
  ·have:k=L.length:=by omega
   subst this
   rw[List.take_length]at a8
   rw[<- a8]
   have f0:=M.y
   refine IX (w:=w2) (if f.year then oJ f.y else -1) ?_ ?_
   ·refine Q2 ?_
    cases f.year
    ·refine ai.of (λe=>?_) (λe=>?_)
     ·cases e
     ·refine ai.of (λD=>?_) (λD=>?_)
      ·cases D
      ·exact⟨rfl,rfl⟩
    ·simp only[if_true]
     unfold oJ
     refine ai.of (λe=>?_) (λe=>?_)
     ·simp only[Bool.and_eq_true,dTx,ge_iff_le]at e
      exact⟨trivial,by rw[if_pos e,wrap_i64 (by omega) (by omega)]⟩
     ·have d8: ¬ (70 <=f.y/\f.y <=99):=λ⟨d4,d5⟩=>by
       try dsimp only
       rw[decide_eq_true (show f.y >=70 from d4),decide_eq_true d5]at e;cases e
      rw[if_neg d8]
      refine ai.of (λD=>?_) (λD=>?_) <;> simp only[ge_iff_le,dTx,dFx]at D
      ·refine ai.of (λq=>?_) (λq=>?_) <;> simp only[ge_iff_le,dTx,dFx]at q
       ·exact⟨trivial,by rw[if_pos (by omega),wrap_i64 (by omega) (by omega)]⟩
       ·exact⟨trivial,by rw[if_neg (by omega)]⟩
      ·omega
   ·have an:∀{w':World},¬ we f->bW w w'->(.tuple #[vI 0,.bool false]:Value)=ug f/\bW w w':=λb3 cf=>⟨by unfold ug;rw[if_neg b3],cf⟩
    have c2:cH (if f.year then oJ f.y else -1) (if f.month then f.m else -1) (if f.day then f.d else -1) ↔ cH (oJ f.y) f.m f.d/\f.year=true:=by
     have c6:=M.m0;have eg:=M.d0
     unfold cH
     cases f3:f.year
     ·simp
     ·cases a9:f.month
      ·rw[a9]at c6;have:=c6.1 rfl;simp[this]
      ·cases al:f.day
       ·have:=eg al;simp[this]
       ·simp
    generalize hY:(if f.year then oJ f.y else -1)=cb at*
    generalize bs:(if f.month then f.m else -1)=b9 at*
    generalize bq:(if f.day then f.d else -1)=b8 at*
    clear a8 de I
    refine iY (w:=w2) (we f/\cH cb b9 b8) ?_ ?_
    ·refine ai.of (λe=>?_) (λe=>?_)
     ·rw[beq_iff_eq,b5]at e
      exact an (λG=>by rw[G.2.1]at e;cases e) Z
     ·have b4:f.time=true:=by
       rw[beq_eq_false_iff_ne,ne_eq,b5]at e;simpa using e
      rw[if_pos b4]at X bb
      simp only[List.length_cons,List.length_nil]at bb
      refine az (mj cb b9 b8 w2) ?_
      rintro _ w2 ⟨rfl,rfl⟩
      refine⟨_,rfl,?_⟩
      refine ai.of (λD=>?_) (λD=>?_) <;> simp only[Bool.not_eq_true',Bool.not_eq_false',dTx,dFx]at D
      ·exact an (λG=>D (c2.2 ⟨G.1,G.2.2.1⟩)) Z
      ·obtain⟨ei,ek⟩:=c2.1 D
       have ag:∀i:Nat,(O:i<3)->(Instr.loadAt aJ (.pointer (aw at_ (i:Int) 1))).run prog w2=.ok (vI ([f.s0,f.s1,f.s2][i])) w2:=λi O=>by
        obtain⟨v,U,ac⟩:=X.all.load1 (i:=(i:Int)) br rfl rfl (by simpa using O)
        obtain rfl:=vB ac
        simpa using U
       have ad:∀i:Nat,i<3->((0 <=(i:Int)/\(i:Int)<((bj:Nat):Int))/\Option.isSome at_=true):=λi O=>⟨⟨by omega,by omega⟩,X.all.isSome (i:=i) (by simpa using O)⟩
       refine⟨ad 0 (by decide),_,ag 0 (by decide),?_⟩
       refine ai.of (λq=>?_) (λq=>?_) <;> simp only[gt_iff_lt,dTx,dFx]at q
       ·exact an (λG=>by have:=G.2.2.2.1;simp at q;omega) Z
       refine⟨ad 1 (by decide),_,ag 1 (by decide),?_⟩
       refine ai.of (λE=>?_) (λE=>?_) <;> simp only[gt_iff_lt,dTx,dFx]at E
       ·exact an (λG=>by have:=G.2.2.2.2.1;simp at E;omega) Z
       refine⟨ad 2 (by decide),_,ag 2 (by decide),?_⟩
       refine ai.of (λH=>?_) (λH=>?_) <;> simp only[gt_iff_lt,dTx,dFx]at H
       ·exact an (λG=>by have:=G.2.2.2.2.2;simp at H;omega) Z
       simp at q E H
       exact⟨rfl,⟨ei,b4,ek,by omega,by omega,by omega⟩,D⟩
    ·rintro⟨G,al⟩
     have b4:=G.2.1
     rw[if_pos b4]at X bb
     simp only[List.length_cons,List.length_nil]at bb
     refine az (fe cb b9 b8 w2) ?_
     rintro _ w2 ⟨rfl,rfl⟩
     have ag:∀i:Nat,(O:i<3)->∀u:World,bW w2 u->(Instr.loadAt aJ (.pointer (aw at_ (i:Int) 1))).run prog u=.ok (vI ([f.s0,f.s1,f.s2][i])) u:=λi O u e7=>by
      obtain⟨v,U,ac⟩:=(X.below e7).all.load1 (i:=(i:Int)) br rfl rfl (by simpa using O)
      obtain rfl:=vB ac
      simpa using U
     have ad:∀i:Nat,i<3->((0 <=(i:Int)/\(i:Int)<((bj:Nat):Int))/\Option.isSome at_=true):=λi O=>⟨⟨by omega,by omega⟩,X.all.isSome (i:=i) (by simpa using O)⟩
     refine⟨_,_,rfl,ad 0 (by decide),_,ag 0 (by decide),ad 1 (by decide),_,ag 1 (by decide),ad 2 (by decide),_,ag 2 (by decide),?_⟩
     intro f7 e4
     refine⟨?_,ah Z e4 Z.size⟩
     have fb:f.year=true:=G.2.2.1
     have ew:f.month=true:=by
      cases a9:f.month
      ·have:=al.2.2.1;rw[a9]at bs;simp at bs;omega
      ·rfl
     have el:f.day=true:=by
      cases a9:f.day
      ·have:=al.2.2.2.2.1;rw[a9]at bq;simp at bq;omega
      ·rfl
     rw[if_pos fb]at hY
     rw[if_pos ew]at bs
     rw[if_pos el]at bq
     subst hY bs bq
     have dc:=Ay al
     have fp:=M.s0;have h1:=M.s1;have e:=M.s2
     unfold ug
     rw[if_pos G,if_pos al]
     simp only[List.getElem_cons_zero,List.getElem_cons_succ]
     unfold rJ
     rw[wrap_i64 (n:=fx (oJ f.y) f.m f.d*86400) (by omega) (by omega),wrap_i64 (n:=f.s0*3600) (by omega) (by omega),wrap_i64 (n:=f.s1*60) (by omega) (by omega),wrap_i64 (n:=f.s0*3600+f.s1*60) (by omega) (by omega),
      wrap_i64 (n:=f.s0*3600+f.s1*60+f.s2) (by omega) (by omega),wrap_i64 (by omega) (by omega)]
     congr 4
     omega
theorem mK (p:UInt8->Bool)(s:List UInt8)(x:UInt8):ik p (s++[x])=if p x then ik p s else s++[x]:=by
 unfold ik
 rw[List.reverse_append]
 show(List.dropWhile p (x::s.reverse)).reverse=_
 rw[List.dropWhile_cons]
 split <;> simp
theorem gZ (c:UInt8)(w:World):Cf bZ #[.int .u8 ((c.toNat:Nat):Int)] w (Ret λv w'=>v=.bool (lH c)/\w'=w):=by
 apply mq
 have e:∀n:UInt8,((((c.toNat:Nat):Int))==((n.toNat:Nat):Int))=(c==n):=λn=>by
  rw[Bool.eq_iff_iff,beq_iff_eq,beq_iff_eq]
  exact⟨λh=>AR h,λh=>by rw[h]⟩
 have q:=e 32
 have D:=e 9
 refine ai.of (λh=>?_) (λh=>?_)
 ·exact⟨by unfold lH;rw[<- q,show((((c.toNat:Nat):Int))==((UInt8.toNat 32:Nat):Int))=true from h];rfl,rfl⟩
 ·exact⟨by unfold lH;rw[<- q,show((((c.toNat:Nat):Int))==((UInt8.toNat 32:Nat):Int))=false from h,Bool.false_or,<- D];rfl,rfl⟩
theorem mL (h:0<s.length):s=s.take (s.length-1)++[s[s.length-1]]:=by
 conv=>lhs;rw[<- List.take_length (l:=s)]
 have:s.length=(s.length-1)+1:=by omega
 conv=>lhs;rw[this,List.take_succ_eq_append_getElem (by omega)]
theorem Ca (p:UInt8->Bool)(s:List UInt8):s.take (s.takeWhile p).length=s.takeWhile p:=by
 have h:(s.takeWhile p++s.dropWhile p).take (s.takeWhile p).length=s.takeWhile p:=List.take_left' rfl
 rwa [List.takeWhile_append_dropWhile]at h
theorem BZ (p:UInt8->Bool)(s:List UInt8):s.drop (s.takeWhile p).length=s.dropWhile p:=by
 have h:(s.takeWhile p++s.dropWhile p).drop (s.takeWhile p).length=s.dropWhile p:=List.drop_left' rfl
 rwa [List.takeWhile_append_dropWhile]at h
theorem qB (h:(61:UInt8)∈s):(s.takeWhile (· !=61)).length<s.length:=by
 have h1:=bN (· !=(61:UInt8)) s
 by_cases c:(s.takeWhile (· !=61)).length=s.length
 ·have e:s.takeWhile (· !=61)=s:=(List.takeWhile_sublist _).eq_of_length c
  have:=List.all_takeWhile (p:=(· !=(61:UInt8))) (l:=s)
  rw[e]at this
  have:=List.all_eq_true.1 this 61 h
  simp at this
 ·omega
theorem tE (K:Value->World->Prop)(s:List UInt8)(ac:s.length <=9223372036854775807)(w:World)(q:K (vS (ik lH s)) w){a b:Nat} :
 ∃D:Nat->FP [.one (.str)],(∃m:Nat,D m s w)/\∀(m:Nat) (t:List UInt8),aP a (∀(I:World),D m t I->
  ∃J:FP [],
  (ai (decide (((List.length t:Nat):Int)>(0:Int)))
  (((0 <=(i64.wrap (((List.length t:Nat):Int)-(1:Int)))/\(i64.wrap (((List.length t:Nat):Int)-(1:Int)))<((List.length t:Nat):Int)))/\
  Cf bZ #[.int .u8 (bm t (i64.wrap (((List.length t:Nat):Int)-(1:Int))))] I λZ V=>∃(M:Bool),Z=.returned (.bool M)/\
  ai M
  (J V)
  (K (vS t) V))
  (K (vS t) I))/\
  aP b (∀(X:World),J X->
  ((0 <=(i64.wrap (((List.length t:Nat):Int)-(1:Int)))/\(i64.wrap (((List.length t:Nat):Int)-(1:Int))) <=(((List.length t):Nat):Int)))/\
  ∀(U:List UInt8),U=(List.take (Int.toNat (i64.wrap (((List.length t:Nat):Int)-(1:Int)))) t)->
  ∃O:Nat,O<m/\D O U X)):=by
 refine⟨λm t w'=>m=t.length/\ik lH s=ik lH t/\t.length <=s.length/\w'=w,⟨_,rfl,rfl,Nat.le_refl _,rfl⟩,?_⟩
 intro m t
 refine aP.of ?_ _
 rintro w' ⟨rfl,H,ad,rfl⟩
 refine iY (w:=w') (∃h:0<t.length,lH t[t.length-1]=true) ?_ ?_
 ·refine ai.of (λh=>?_) (λh=>?_) <;> simp only[gt_iff_lt,dTx,dFx]at h
  ·have e:0<t.length:=by omega
   have E:i64.wrap (((t.length:Nat):Int)-1)=((t.length-1:Nat):Int):=by rw[wrap_i64 (by omega) (by omega)];omega
   try dsimp only
   rw[E,byte_at (by omega)]
   refine⟨⟨by omega,by omega⟩,?_⟩
   refine az (gZ _ w') ?_
   rintro _ w' ⟨rfl,rfl⟩
   refine⟨_,rfl,?_⟩
   refine ai.of (λG=>?_) (λG=>?_)
   ·exact⟨rfl,e,G⟩
   ·have Y:ik lH t=t:=by
     conv=>lhs;rw[mL e]
     rw[mK,if_neg (by rw[G];decide),<- mL e]
    rw[H,Y]at q;exact q
  ·have:t=[]:=List.eq_nil_of_length_eq_zero (by omega)
   subst this
   rw[H]at q;exact q
 ·rintro⟨e,hb⟩
  have E:i64.wrap (((t.length:Nat):Int)-1)=((t.length-1:Nat):Int):=by rw[wrap_i64 (by omega) (by omega)];omega
  try dsimp only
  rw[E]
  refine⟨⟨by omega,by omega⟩,?_⟩
  rintro _ rfl
  simp only[Int.toNat_natCast]
  refine⟨t.length-1,by omega,by rw[List.length_take];omega,?_,by rw[List.length_take];omega,trivial⟩
  rw[H]
  conv=>lhs;rw[mL e]
  rw[mK,if_pos hb]
theorem dB (s:List UInt8)(M:s.length <=9223372036854775807)(w:World):Cf cy #[vS s] w (Ret λv w'=>v=vS (cq s)/\w'=w):=by
 apply nU
 refine⟨λm t w'=>m=t.length/\s.dropWhile lH=t.dropWhile lH/\t.length <=s.length/\w'=w,⟨_,rfl,rfl,Nat.le_refl _,rfl⟩,?_⟩
 intro m t
 refine aP.of ?_ _
 rintro w' ⟨rfl,q,G,rfl⟩
 refine ai.of (λh=>?_) (λh=>?_) <;> simp only[gt_iff_lt,dTx,dFx]at h
 ·match t,h with
  |c::r,h=>
   have H:bm (c::r) 0=((c.toNat:Nat):Int):=rfl
   rw[H]
   refine⟨⟨by decide,h⟩,?_⟩
   refine az (gZ c w') ?_
   rintro _ w' ⟨rfl,rfl⟩
   refine⟨_,rfl,?_⟩
   refine ai.of (λe=>?_) (λe=>?_)
   ·refine⟨⟨by decide,by simp only[List.length_cons];omega⟩,?_⟩
    rintro I E
    obtain rfl:I=r:=E
    refine⟨_,Nat.lt_succ_self _,rfl,?_,?_,rfl⟩
    ·rw[q,List.dropWhile_cons,if_pos e]
    ·simp only[List.length_cons]at G;omega
   ·refine tE (λv D=>v=vS (cq s)/\D=w') (c::r) (by omega) w' ?_
    refine⟨?_,rfl⟩
    unfold cq r3
    rw[q,List.dropWhile_cons,if_neg (by rw[e];decide)]
 ·have:t=[]:=List.eq_nil_of_length_eq_zero (by omega)
  subst this
  refine tE (λv D=>v=vS (cq s)/\D=w') [] (by simp) w' ?_
  refine⟨?_,rfl⟩
  unfold cq r3
  rw[q];rfl
theorem gh (s:List UInt8)(O:s.length <=9223372036854775807)(w:World):Cf dI #[vS s] w (Ret λv w'=>v=vI ((s.takeWhile (· !=61)).length:Nat)/\w'=w):=by
 apply pB
 have M:=bN (· !=(61:UInt8)) s
 refine⟨λm i w'=>∃k:Nat,k <=(s.takeWhile (· !=61)).length/\i=(k:Int)/\m=s.length-k/\w'=w,⟨_,0,by omega,rfl,rfl,rfl⟩,?_⟩
 intro m i
 refine aP.of ?_ _
 rintro w' ⟨k,I,rfl,rfl,rfl⟩
 refine ai.of (λh=>?_) (λh=>?_) <;> simp only[dTx,dFx]at h
 ·have G:k<s.length:=by omega
  have D:=na (· !=(61:UInt8)) s k G I
  rw[WI]at D
  rw[byte_at G]
  refine⟨⟨by omega,h⟩,?_⟩
  have e:=fq s[k] 61
  refine ai.of (λq=>?_) (λq=>?_)
  ·rw[show((((s[k].toNat:Nat):Int))==((UInt8.toNat 61:Nat):Int))=true from q]at e
   have E:s[k]=61:=by simpa using e.symm
   exact⟨by congr 1;have: ¬ k<(s.takeWhile (· !=61)).length:=λH=>D.2 H E;omega,rfl⟩
  ·rw[show((((s[k].toNat:Nat):Int))==((UInt8.toNat 61:Nat):Int))=false from q]at e
   have E:s[k]≠61:=by simpa using e.symm
   have:=D.1 E
   exact⟨s.length-(k+1),by omega,k+1,this,by rw[wrap_i64 (by omega) (by omega)];omega,rfl,rfl⟩
 ·exact⟨by congr 1;omega,rfl⟩
theorem ii (s:List UInt8)(e:s.length <=9223372036854775807)(w:World):Cf bi #[vS s] w (Ret λv w'=>v=vS (dE s)/\w'=w):=by
 apply mG
 have q:=bN (· !=(61:UInt8)) s
 refine az (gh s e w) ?_
 rintro _ w ⟨rfl,rfl⟩
 refine⟨_,rfl,⟨by omega,by omega⟩,?_⟩
 rintro _ rfl
 simp only[Int.toNat_natCast]
 rw[Ca]
 refine az (dB _ (by omega) w) ?_
 rintro _ w ⟨rfl,rfl⟩
 exact⟨_,rfl,rfl,rfl⟩
theorem ig (s:List UInt8)(G:s.length <=9223372036854775800)(w:World):Cf aW #[vS s] w (Ret λv w'=>v=vS (du s)/\w'=w):=by
 apply mF
 have D:=bN (· !=(61:UInt8)) s
 refine az (gh s (by omega) w) ?_
 rintro _ w ⟨rfl,rfl⟩
 refine⟨_,rfl,?_⟩
 refine ai.of (λh=>?_) (λh=>?_)
 ·rw[beq_iff_eq]at h
  refine⟨?_,rfl⟩
  unfold du
  by_cases e:(61:UInt8)∈s
  ·have:=qB e;omega
  ·rw[(zK e).2];rfl
 ·rw[beq_eq_false_iff_ne]at h
  have E:(s.takeWhile (· !=61)).length<s.length:=by omega
  rw[wrap_i64 (by omega) (by omega)]
  refine⟨⟨by omega,by omega⟩,?_⟩
  rintro _ rfl
  have q:Int.toNat (((s.takeWhile (· !=61)).length:Nat)+1:Int)=(s.takeWhile (· !=61)).length+1:=by omega
  rw[q,<- List.drop_drop,BZ]
  refine az (dB _ (by simp;have:=(List.dropWhile_sublist (· !=(61:UInt8)) (l:=s)).length_le;omega) w) ?_
  rintro _ w ⟨rfl,rfl⟩
  exact⟨_,rfl,rfl,rfl⟩
theorem qK (s:List UInt8)(al:s.length <=10000000)(w:World):Cf iN #[vS s] w (Ret λv w'=>v=IP s/\w'=w):=by
 apply pz
 refine iY (w:=w) (¬ s.head?=some 45) ?_ ?_
 ·refine eJ (w:=w) (decide (s.head?=some 45)) ?_ ?_
  ·refine ai.of (λh=>?_) (λh=>?_) <;> simp only[gt_iff_lt,dTx,dFx]at h
   ·match s,h with
    |c::r,h=>
     refine⟨⟨by decide,h⟩,rfl,?_⟩
     have X:bm (c::r) 0=((c.toNat:Nat):Int):=rfl
     rw[X]
     have O:=fq c 45
     rw[show((((c.toNat:Nat):Int))==(45:Int))=(c==45) from O]
     simp
     rw[Bool.eq_iff_iff];simp
   ·have:s=[]:=List.eq_nil_of_length_eq_zero (by omega)
    subst this
    exact⟨rfl,rfl⟩
  ·refine ai.of (λh=>?_) (λh=>?_) <;> simp only[dTx,dFx]at h
   ·have ad:1 <=s.length:=by
     cases s with
     |nil=>cases h
     |cons c r=>simp
    refine⟨⟨by decide,by omega⟩,?_⟩
    rintro _ rfl
    have M:Int.toNat (1:Int)=1:=rfl
    rw[M]
    refine az (i6 (s.drop 1) (by simp;omega) w) ?_
    rintro _ w ⟨rfl,rfl⟩
    refine⟨_,rfl,?_,rfl⟩
    unfold IP Ce
    rw[if_pos h]
    cases fi (s.drop 1) <;> rfl
   ·exact⟨rfl,h⟩
 ·intro U
  refine az (i6 s (by omega) w) ?_
  rintro _ w ⟨rfl,rfl⟩
  refine⟨_,rfl,?_⟩
  unfold IP Ce
  rw[if_neg U]
  cases E:fi s
  ·exact ai.yes rfl ⟨rfl,rfl⟩
  ·refine ai.no rfl ?_
   have H:∀c∈s,gO c=true:=λc D=>by
    unfold fi at E
    rw[Bool.and_eq_true]at E
    exact List.all_eq_true.1 E.2 c D
   refine⟨λm n i w'=>∃k:Nat,k <=s.length/\i=(k:Int)/\m=s.length-k/\n=min (jT (s.take k)) 34560000/\w'=w,⟨_,0,by omega,rfl,rfl,rfl,rfl⟩,?_⟩
   intro m n i
   refine aP.of ?_ _
   rintro w' ⟨k,ac,rfl,rfl,rfl,rfl⟩
   refine ai.of (λh=>?_) (λh=>?_) <;> simp only[dTx,dFx]at h
   ·have G:k<s.length:=by omega
    have D:=nu.1 (H s[k] (List.getElem_mem G))
    have V:=(lM (s.take k) 0 (by decide) λc D=>H c (List.mem_of_mem_take D)).1
    have Z:0 <=jT (s.take k):=V
    have I:jT (s.take (k+1))=jT (s.take k)*10+((s[k].toNat:Int)-48):=by rw[List.take_succ_eq_append_getElem G,tN]
    rw[byte_at G]
    generalize Y:jT (s.take k)=q at*
    have ag:min q 34560000 <=34560000:=Int.min_le_right _ _
    have aj:0 <=min q 34560000:=by rw[Int.min_def];split <;> omega
    rw[wrap_i64 (n:=min q 34560000*10) (by omega) (by omega),wrap_i64 (n:=((s[k].toNat:Nat):Int)) (by omega) (by omega),wrap_i64 (n:=min q 34560000*10+((s[k].toNat:Nat):Int)) (by omega) (by omega),wrap_i64 (n:=min q 34560000*10+((s[k].toNat:Nat):Int)-48) (by omega) (by omega),wrap_i64 (n:=(k:Int)+1) (by omega) (by omega)]
    refine⟨⟨by omega,h⟩,?_⟩
    refine ai.of (λe=>?_) (λe=>?_) <;> simp only[gt_iff_lt,dTx,dFx]at e
    ·refine⟨s.length-(k+1),by omega,k+1,by omega,by omega,rfl,?_,rfl⟩
     rw[I]
     rw[Int.min_def]at e
     rw[Int.min_def]
     split at e <;> split <;> omega
    ·refine⟨s.length-(k+1),by omega,k+1,by omega,by omega,rfl,?_,rfl⟩
     rw[I]
     rw[Int.min_def]at e
     rw[Int.min_def,Int.min_def]
     split at e <;> split <;> omega
   ·have:k=s.length:=by omega
    subst this
    rw[List.take_length]
    exact⟨rfl,rfl⟩
theorem tp (h:n<10):tH n=[UInt8.ofNat (48+n)]:=Lib.decDigits_one h
theorem qt (h: ¬ n<10):tH n=tH (n/10)++[UInt8.ofNat (48+n%10)]:=by
 show Lib.decDigits n=_
 rw[Lib.decDigits,dif_neg h]
theorem F8 {a:List UInt8}(h:a.length=16):a.drop 12=[a[12]'(by omega),a[13]'(by omega),a[14]'(by omega),a[15]'(by omega)]:=by
 rw[List.drop_eq_getElem_cons (by omega),List.drop_eq_getElem_cons (by omega),List.drop_eq_getElem_cons (by omega),List.drop_eq_getElem_cons (by omega),List.drop_eq_nil_of_le (by omega)]
theorem si {a:List UInt8}(h:a.length=16):vV a=tH (a[12]'(by omega)).toNat++([46]:List UInt8)++tH (a[13]'(by omega)).toNat++([46]:List UInt8)++tH (a[14]'(by omega)).toNat++([46]:List UInt8)++tH (a[15]'(by omega)).toNat:=by
 unfold vV
 rw[F8 h]
 simp[Lib.join_cons,Lib.joinTail]
theorem dG {w e:World}{d:Nat}(M:d<10){x:Int}(I:x=(d:Int))(E:n=w.heap.size)(q:e=w.alloc (.cells #[.int .u8 (IntKind.u8.wrap (i64.wrap ((48:Int)+x)))] bF)):
 ∀u,bW e u->(convert bM ao (.slice (some ⟨n,0,none⟩) 1 1)).run prog u=.ok (vS [UInt8.ofNat (48+d)]) u:=by
 intro u H
 have D:IntKind.u8.wrap (i64.wrap ((48:Int)+x))=(((UInt8.ofNat (48+d)).toNat:Nat):Int):=by
  rw[I,wrap_i64 (by omega) (by omega),wrap_u8 (by omega) (by omega),GK (by omega)];omega
 rw[D]at q
 have G:Ow tU8 bF e NoB (some ⟨n,0,none⟩) 1 1 [UInt8.ofNat (48+d)]:=Ow.newF wK E q (kK.one (uA rfl)) (show 1 <=maxLen by decide)
 exact uX fF ax dm (G.below H).all
theorem cg:∀(n:Nat) (h:n <=9223372036854775807) (w:World),Cf bt #[vI (n:Int)] w (Ret λv w'=>v=vS (tH n)/\bW w w')
 |n,Z,w=>by
  apply kf
  refine ai.of (λh=>?_) (λh=>?_) <;> simp only[dTx,dFx]at h
  ·intro M w8 D e
   refine⟨_,dG (d:=n) (by omega) rfl D e w8 (Below.refl _ _),?_⟩
   rw[tp (by omega)]
   exact⟨rfl,e▸au _ _⟩
  ·have Y:n/10<n:=by omega
   refine⟨by decide,?_⟩
   rintro _ rfl
   refine⟨by decide,?_⟩
   rintro _ rfl
   have O:i64.wrap (Int.tdiv (n:Int) 10)=((n/10:Nat):Int):=by rw[bL (by omega),wrap_i64 (by omega) (by omega)];omega
   have U:Int.tmod (n:Int) 10=((n%10:Nat):Int):=by rw[bP (by omega)];omega
   rw[O,U,qt (by omega)]
   have G:bW w (World.drew w):=uE rfl rfl rfl (Nat.le_refl _) (λ_ _=>rfl)
   have X:=gX (n:=n/10) (by omega)
   refine⟨?_,?_⟩
   ·refine az (cg (n/10) (by omega) (World.drew w)) ?_
    rintro _ H ⟨rfl,q⟩
    refine⟨_,rfl,?_⟩
    intro M w8 D e
    refine⟨_,dG (d:=n%10) (by omega) rfl D e w8 (Below.refl _ _),fits (by simp;omega),?_⟩
    rintro _ rfl
    have I:=ah G q G.size
    exact⟨rfl,ah I (e▸au _ _) I.size⟩
   ·intro M w8 D e
    have V:Below (World.drew w).heap.size (World.drew w) w8:=e▸au _ _
    have E:=ah G V G.size
    refine⟨?_,_,dG (d:=n%10) (by omega) rfl D e w8 (Below.refl _ _),?_⟩
    ·refine az (cg (n/10) (by omega) w8) ?_
     rintro _ H ⟨rfl,q⟩
     refine⟨_,rfl,_,dG (d:=n%10) (by omega) rfl D e H q,fits (by simp;omega),?_⟩
     rintro _ rfl
     exact⟨rfl,ah E q E.size⟩
    ·refine az (cg (n/10) (by omega) w8) ?_
     rintro _ H ⟨rfl,q⟩
     refine⟨_,rfl,fits (by simp;omega),?_⟩
     rintro _ rfl
     exact⟨rfl,ah E q E.size⟩
 termination_by n=>n
theorem nM (a:List UInt8)(U:a.length=16)(w:World):Cf eO #[adV a] w (Ret λv w'=>v=vS (vV a)/\bW w w'):=by
 apply mu
 intro M e V I
 have G:=(I▸au w _:bW w e)
 have h1:av e M aK (adC a):=av.new V I
 have D:∀(i:Nat) (H:i<a.length) (u:World),bW e u->(Instr.loadAt bF (.pointer (aw (some ⟨M,0,none⟩) (i:Int) 1))).run prog u=.ok (.int .u8 ((a[i].toNat:Nat):Int)) u:=λi H u E=>by
  rw[ni,Nat.zero_add]
  exact(h1.below E).load1 dm rfl (tK H)
 have q:∀(c:UInt8) (u:World),bW e u->Cf bt #[vI (i64.wrap ((c.toNat:Nat):Int))] u λO w'=>O=.returned (vS (tH c.toNat))/\Below e.heap.size u w':=λc u E=>by
  have:=qi c
  rw[wrap_i64 (by omega) (by omega)]
  exact fZ (cg c.toNat (by omega) u) E
 have Y:=gX (n:=a[12].toNat) (by have:=qi a[12];omega)
 have Z:=gX (n:=a[13].toNat) (by have:=qi a[13];omega)
 have ac:=gX (n:=a[14].toNat) (by have:=qi a[14];omega)
 have ad:=gX (n:=a[15].toNat) (by have:=qi a[15];omega)
 refine⟨⟨⟨by decide,by decide⟩,rfl⟩,_,D 12 (by omega),_,q _,fits (by simp;omega),?_⟩
 rintro _ rfl
 refine⟨⟨⟨by decide,by decide⟩,rfl⟩,_,D 13 (by omega),_,q _,fits (by simp;omega),?_⟩
 rintro _ rfl
 refine⟨fits (by simp;omega),?_⟩
 rintro _ rfl
 refine⟨⟨⟨by decide,by decide⟩,rfl⟩,_,D 14 (by omega),_,q _,fits (by simp;omega),?_⟩
 rintro _ rfl
 refine⟨fits (by simp;omega),?_⟩
 rintro _ rfl
 refine⟨⟨⟨by decide,by decide⟩,rfl⟩,_,D 15 (by omega),_,q _,fits (by simp;omega),?_⟩
 rintro _ rfl
 intro ag X
 rw[si U]
 exact⟨by simp only[List.append_assoc],ah G X G.size⟩
theorem qC:∀d:Nat,d<16->(([48,49,50,51,52,53,54,55,56,57,97,98,99,100,101,102]:List UInt8).take (d+1)).drop d=[Qp d]:=by decide
theorem ko:∀(n:Nat) (h:n<65536) (w:World),Cf eQ #[vI (n:Int)] w (Ret λv w'=>v=vS (CJ n)/\bW w w')
 |n,M,w=>by
  apply px
  refine ai.of (λh=>?_) (λh=>?_) <;> simp only[dTx,dFx]at h
  ·have e:i64.wrap ((n:Int)+1)=((n+1:Nat):Int):=by rw[wrap_i64 (by omega) (by omega)];omega
   try dsimp only
   rw[e]
   refine⟨⟨⟨by omega,by simp;omega⟩,by omega,by omega⟩,?_⟩
   rintro _ rfl
   simp only[Int.toNat_natCast]
   rw[qC n (by omega),zR (by omega)]
   exact⟨rfl,Below.refl _ _⟩
  ·have I:n/16<n:=by omega
   have q:i64.wrap (Int.tdiv (n:Int) 16)=((n/16:Nat):Int):=by rw[bL (by omega),wrap_i64 (by omega) (by omega)];omega
   have D:Int.tmod (n:Int) 16=((n%16:Nat):Int):=by rw[bP (by omega)];omega
   refine⟨by decide,?_⟩
   rintro _ rfl
   rw[q,D]
   have H:=uF (n:=n/16) (by omega)
   refine⟨_,λu E=>fZ (ko (n/16) (by omega) u) E,by decide,?_⟩
   rintro _ rfl
   refine⟨by decide,?_⟩
   rintro _ rfl
   have e:i64.wrap (((n%16:Nat):Int)+1)=((n%16+1:Nat):Int):=by rw[wrap_i64 (by omega) (by omega)];omega
   try dsimp only
   rw[e]
   refine⟨⟨⟨by omega,by simp;omega⟩,by omega,by omega⟩,?_⟩
   rintro _ rfl
   simp only[Int.toNat_natCast]
   rw[qC (n%16) (by omega)]
   refine⟨fits (by simp;omega),?_⟩
   rintro _ rfl
   intro O G
   rw[uz (n:=n) (by omega)]
   exact⟨rfl,G⟩
 termination_by n=>n
theorem qo (zs:List Bool)(p l:Nat):DN zs p (l+1)=(DN zs p l&&zs.getD (p+l) false):=by
 unfold DN;rw[List.range_succ,List.all_append];simp
theorem Cc (a:List UInt8)(h:k<8):(zsA a).getD k false=(yI a k==0):=by
 unfold zsA
 rw[List.getD_eq_getElem?_getD,List.getElem?_map,List.getElem?_eq_getElem (by rw[vb];exact h),Cj];rfl
theorem qE (sep:List UInt8)(r:List (List UInt8))(y:List UInt8):Lib.joinTail sep (r++[y])=Lib.joinTail sep r++(sep++y):=by simp[Lib.joinTail]
theorem yG (l:List Nat)(x:Nat):wrL (l++[x])=if l=[]then CJ x else wrL l++[58]++CJ x:=by
 unfold wrL
 cases l with
 |nil=>simp[Lib.join_one]
 |cons y r=>
  rw[if_neg (by simp),List.map_append,List.map_cons,List.cons_append,List.map_cons,List.map_nil,Lib.join_cons,Lib.join_cons,qE]
  simp
theorem hU (a:List UInt8)(V:a.length=16)(k:Nat)(X:k<8)(w:World):Cf dw #[adV a,vI (k:Int)] w (Ret λv w'=>v=vI ((yI a k:Nat):Int)/\bW w w'):=by
 apply mr
 intro U E I D
 have q:=(D▸au w _:bW w E)
 have h1:av E U aK (adC a):=av.new I D
 have G:i64.wrap (2*(k:Int))=((2*k:Nat):Int):=by rw[wrap_i64 (by omega) (by omega)];omega
 have H:i64.wrap (((2*k:Nat):Int)+1)=((2*k+1:Nat):Int):=by rw[wrap_i64 (by omega) (by omega)];omega
 rw[G,H,ni,ni,Nat.zero_add,Nat.zero_add]
 refine⟨⟨⟨by omega,by omega⟩,rfl⟩,_,λu e=>(h1.below e).load1 dm rfl (tK (a:=a) (i:=2*k) (by omega)),⟨⟨by omega,by omega⟩,rfl⟩,_,λu e=>(h1.below e).load1 dm rfl (tK (a:=a) (i:=2*k+1) (by omega)),λac O=>⟨?_,ah q O q.size⟩⟩
 have Y:=qi (a[2*k]'(by omega))
 have Z:=qi (a[2*k+1]'(by omega))
 have M:(a[2*k]'(by omega)).toNat*256+(a[2*k+1]'(by omega)).toNat=yI a k:=by
  unfold yI
  rw[List.getD_eq_getElem?_getD,List.getD_eq_getElem?_getD,List.getElem?_eq_getElem (by omega),List.getElem?_eq_getElem (by omega)];rfl
 rw[<- M,wrap_i64 (n:=(((a[2*k]'(by omega)).toNat:Nat):Int)) (by omega) (by omega),wrap_i64 (n:=(((a[2*k+1]'(by omega)).toNat:Nat):Int)) (by omega) (by omega),wrap_i64 (n:=_*_) (by omega) (by omega),wrap_i64 (by omega) (by omega)]
 congr 1
theorem fa (a:List UInt8)(M:a.length=16)(p q:Nat)(bc:p <=q)(bj:q <=8)(w:World):Cf bX #[adV a,vI (p:Int),vI (q:Int)] w
 (Ret λv w'=>v=vS (wrL (((gL a).drop p).take (q-p)))/\bW w w'):=by
 apply nV
 intro an E aj U
 have H:=(U▸au w _:bW w E)
 have h1:av E an aK (adC a):=av.new aj U
 have a0:=vb a
 have ad:∀j,∀x∈((gL a).drop p).take j,x<65536:=λj x e=>An a x (List.mem_of_mem_drop (List.mem_of_mem_take e))
 refine⟨λm s i w'=>∃j:Nat,j <=q-p/\i=((p+j:Nat):Int)/\m=q-p-j/\s=wrL (((gL a).drop p).take j)/\bW E w',⟨_,0,by omega,rfl,rfl,rfl,Below.refl _ _⟩,?_⟩
 intro m s i
 refine aP.of ?_ _
 rintro G ⟨j,a8,rfl,rfl,rfl,D⟩
 have al:=rq (ad j)
 rw[List.length_take,List.length_drop]at al
 refine ai.of (λh=>?_) (λh=>?_) <;> simp only[dTx,dFx]at h
 ·have bb:p+j<q:=by omega
  refine vU (B:=λJ=>ai _ (_/\∀V,V=(_++[58])->J V G) (J _ G)) (if j=0 then[]else wrL (((gL a).drop p).take j)++[58]) (ai.of (λe=>⟨fits (by simp;omega),?_⟩) (λe=>⟨rfl,?_⟩)) ?_
  ·rintro _ rfl
   simp only[gt_iff_lt,dTx]at e
   exact⟨rfl,by rw[if_neg (by omega)]⟩
  ·simp only[gt_iff_lt,dFx]at e
   have:j=0:=by omega
   subst this
   rw[if_pos rfl];rfl
  ·refine⟨_,dN.load0 (h1.below D) (by rw[ja,M]),?_⟩
   refine az (hU a M (p+j) (by omega) G) ?_
   rintro _ ar ⟨rfl,Z⟩
   have I:=ah D Z D.size
   refine⟨_,rfl,?_⟩
   refine az (ko (yI a (p+j)) (yY _ _) ar) ?_
   rintro _ bk ⟨rfl,ac⟩
   have Y:=ah I ac I.size
   have a9:=uF (yY a (p+j))
   refine⟨_,rfl,fits (by split <;> simp <;> omega),?_⟩
   rintro _ rfl
   refine⟨q-p-(j+1),by omega,j+1,by omega,by rw[wrap_i64 (by omega) (by omega)];omega,rfl,?_,Y⟩
   have ag:j<((gL a).drop p).length:=by rw[List.length_drop];omega
   rw[List.take_succ_eq_append_getElem ag,yG,List.getElem_drop,Cj]
   by_cases O:j=0
   ·subst O;rfl
   ·rw[if_neg O,if_neg]
    intro X
    have:=congrArg List.length X
    rw[List.length_take]at this;simp at this;omega
 ·have:j=q-p:=by omega
  subst this
  exact⟨rfl,ah H D H.size⟩
theorem nN (a:List UInt8)(H:a.length=16)(w:World):Cf eP #[adV a] w (Ret λv w'=>v=vS (zt a)/\bW w w'):=by
 apply mv
 intro b4 I bz bb
 have O:=(bb▸au w _:bW w I)
 have h1:av I b4 aK (adC a):=av.new bz bb
 have V:(adC a).length=16:=by rw[ja,H]
 have cf:=vb a
 obtain⟨bc,al,b9⟩:=yL (HJ a)
 have a8:zt a=if(eN (zsA a)).2<2 then wrL (gL a)else wrL ((gL a).take (eN (zsA a)).1)++[58,58]++wrL ((gL a).drop ((eN (zsA a)).1+(eN (zsA a)).2)):=rfl
 refine⟨λm i w'=>∃L:Nat,1 <=L/\L <=8/\i=(L:Int)/\m=L/\(∀D A,L<D->A+D <=8->DN (zsA a) A D=false)/\bW I w',⟨_,8,by omega,by omega,rfl,rfl,λD A h1 X=>by omega,Below.refl _ _⟩,?_⟩
 intro m i
 refine aP.of ?_ _
 rintro b7 ⟨L,cc,ce,rfl,b0,ad,U⟩
 obtain rfl:L=m:=b0.symm
 refine ai.of (λh=>?_) (λh=>?_) <;> simp only[ge_iff_le,dTx,dFx]at h
 ·have bq:2 <=L:=by omega
  refine⟨λm i w'=>∃A:Nat,A+L <=9/\i=(A:Int)/\m=9-A/\(∀A',A'<A->DN (zsA a) A' L=false)/\bW I w',⟨_,0,by omega,rfl,rfl,λA' h=>by omega,U⟩,?_⟩
  intro m i
  refine aP.of ?_ _
  rintro cn ⟨A,hA,rfl,rfl,ac,a0⟩
  have bj:i64.wrap ((A:Int)+(L:Int))=((A+L:Nat):Int):=by rw[wrap_i64 (by omega) (by omega)];omega
  try dsimp only
  rw[bj]
  refine ai.of (λX=>?_) (λX=>?_) <;> simp only[dTx,dFx]at X
  ·have bp:A+L <=8:=by omega
   refine⟨λm b i w'=>∃j:Nat,j <=L/\i=((A+j:Nat):Int)/\m=L-j/\b=DN (zsA a) A j/\bW I w',⟨_,0,by omega,rfl,rfl,rfl,a0⟩,?_⟩
   intro m b i
   refine aP.of ?_ _
   rintro M ⟨j,ch,rfl,rfl,rfl,q⟩
   have bk:i64.wrap (((A+j:Nat):Int)+1)=((A+(j+1):Nat):Int):=by rw[wrap_i64 (by omega) (by omega)];omega
   try dsimp only
   rw[bk]
   refine ai.of (λan=>?_) (λan=>?_) <;> simp only[dTx,dFx]at an
   ·have cj:j<L:=by omega
    refine ai.of (λG=>?_) (λG=>?_)
    ·refine⟨_,dN.load0 (h1.below q) V,?_⟩
     refine az (hU a H (A+j) (by omega) M) ?_
     rintro _ b8 ⟨rfl,Y⟩
     refine⟨_,rfl,L-(j+1),by omega,j+1,by omega,rfl,rfl,?_,ah q Y q.size⟩
     rw[qo,G,Bool.true_and,Cc a (by omega),Bool.eq_iff_iff]
     simp
    ·exact⟨L-(j+1),by omega,j+1,by omega,rfl,rfl,by rw[qo,G,Bool.false_and],q⟩
   ·have:j=L:=by omega
    subst this
    refine ai.of (λG=>?_) (λG=>?_)
    ·have e:=b9 j A bq bp G
     have ar:j=(eN (zsA a)).2/\A=(eN (zsA a)).1:=by
      rcases e with e|⟨a9,cl⟩
      ·exfalso
       have:=al (by omega)
       rw[ad _ _ e bc]at this;cases this
      ·refine⟨a9,?_⟩
       rcases Nat.lt_or_ge (eN (zsA a)).1 A with Z|Z
       ·exfalso
        have:=al (by omega)
        rw[<- a9,ac _ Z]at this;cases this
       ·omega
     have b5:=rq (l:=(gL a).take A) λx aj=>An a x (List.mem_of_mem_take aj)
     have b6:=rq (l:=(gL a).drop (A+j)) λx aj=>An a x (List.mem_of_mem_drop aj)
     rw[List.length_take]at b5
     rw[List.length_drop]at b6
     have b1:∀u,bW M u->Cf bX #[adV a,vI 0,vI (A:Int)] u λE w'=>E=.returned (vS (wrL ((gL a).take A)))/\Below M.heap.size u w':=λu e=>by
      have:=fa a H 0 A (by omega) (by omega) u
      rw[List.drop_zero,Nat.sub_zero]at this
      exact fZ this e
     have b2:∀u,bW M u->Cf bX #[adV a,vI ((A+j:Nat):Int),vI 8] u λE w'=>E=.returned (vS (wrL ((gL a).drop (A+j))))/\Below M.heap.size u w':=λu e=>by
      have:=fa a H (A+j) 8 (by omega) (by omega) u
      rw[List.take_of_length_le (by rw[List.length_drop];omega)]at this
      exact fZ this e
     refine⟨_,λu e=>dN.load0 ((h1.below q).below e) V,_,b1,fits (by simp;omega),?_⟩
     rintro _ rfl
     refine⟨_,λu e=>dN.load0 ((h1.below q).below e) V,_,b2,fits (by simp;omega),?_⟩
     rintro _ rfl
     intro cp b3
     have ag:=ah q b3 q.size
     refine⟨?_,ah O ag O.size⟩
     rw[a8,if_neg (by omega),<- ar.1,<- ar.2]
    ·refine⟨9-(A+1),by omega,A+1,by omega,by rw[wrap_i64 (by omega) (by omega)];omega,rfl,λA' cb=>?_,q⟩
     by_cases E:A'=A
     ·subst E;exact G
     ·exact ac A' (by omega)
  ·refine⟨L-1,by omega,L-1,by omega,by omega,by rw[wrap_i64 (by omega) (by omega)];omega,rfl,λD A' ck bs=>?_,a0⟩
   by_cases E:D=L
   ·subst E;exact ac A' (by omega)
   ·exact ad D A' (by omega) bs
 ·refine⟨_,dN.load0 (h1.below U) V,?_⟩
  have:=fa a H 0 8 (by omega) (by omega) b7
  rw[List.drop_zero,List.take_of_length_le (by omega)]at this
  refine az this ?_
  rintro _ b8 ⟨rfl,Y⟩
  have ag:=ah U Y U.size
  refine⟨_,rfl,?_,ah O ag O.size⟩
  rw[a8,if_pos]
  refine Decidable.byContradiction λZ=>?_
  have:=al (by omega)
  rw[ad _ _ (by omega) bc]at this;cases this
theorem fc (o:h.ok)(w:World):Cf cU #[h.v] w (Ret λv w'=>v=vS (pZ h)/\bW w w'):=by
 apply nY
 intro O G M I
 have e:=(I▸au w _:bW w G)
 have h1:av G O ak h.cells:=av.new M I
 refine⟨rfl,_,h1.load1 br rfl rfl,?_⟩
 unfold pZ
 refine ai.of (λq=>?_) (λq=>?_) <;> simp only[beq_iff_eq,beq_eq_false_iff_ne,ne_eq]at q
 ·rw[if_pos q]
  exact⟨rfl,_,h1.load1 ax rfl rfl,rfl,e⟩
 rw[if_neg q]
 refine⟨rfl,_,h1.load1 br rfl rfl,?_⟩
 refine ai.of (λD=>?_) (λD=>?_) <;> simp only[beq_iff_eq,beq_eq_false_iff_ne,ne_eq]at D
 ·rw[if_pos D]
  refine⟨rfl,_,Cm o h1,?_⟩
  refine az (nM h.ad o G) ?_
  rintro _ U ⟨rfl,H⟩
  exact⟨_,rfl,rfl,ah e H e.size⟩
 rw[if_neg D]
 refine⟨rfl,_,h1.load1 br rfl rfl,?_⟩
 refine ai.of (λE=>?_) (λE=>?_) <;> simp only[beq_iff_eq,beq_eq_false_iff_ne,ne_eq]at E
 ·rw[if_pos E]
  refine⟨rfl,_,Cm o h1,?_⟩
  refine az (nN h.ad o G) ?_
  rintro _ U ⟨rfl,H⟩
  have V:=zu h.ad
  refine⟨_,rfl,fits (by simp;omega),?_⟩
  rintro _ rfl
  refine⟨fits (by simp;omega),?_⟩
  rintro _ rfl
  exact⟨rfl,ah e H e.size⟩
 ·rw[if_neg E]
  exact⟨rfl,e⟩
theorem cd (o:h.ok)(ar:h.name.length <=80000000)(w:World):Cf bO #[h.v] w (Ret λv w'=>v=.bool (dO h)/\bW w w'):=by
 apply mw
 have a0:=AE o
 intro ad q Y V
 have E:=(V▸au w _:bW w q)
 have h1:av q ad ak h.cells:=av.new Y V
 refine⟨_,aO.load0 h1 (Hst.len o),?_⟩
 refine az (fc o q) ?_
 rintro _ ag ⟨rfl,M⟩
 have G:=ah E M E.size
 refine⟨_,rfl,?_⟩
 refine az (fB (pZ h) (by omega) ag) ?_
 rintro _ aj ⟨rfl,O⟩
 have H:=ah G O G.size
 refine⟨_,_,by rw[lS],?_⟩
 have e:((dR (pZ h)).getD nG).ok:=rf λx ac=>mg ac
 refine aO.new (zs:=nG.cells) (cs:=((dR (pZ h)).getD nG).cells) rfl (Hst.len e) (Hst.one _) aj λa8 al an D U=>?_
 have I:=ah H U H.size
 have X:=((h1.below M).below O).below U
 unfold dO
 cases Z:dR (pZ h)with
 |none=>exact ai.no rfl ⟨rfl,I⟩
 |some g=>
  rw[Z]at D e
  exact ai.yes rfl ⟨_,aO.load0 D (Hst.len e),_,aO.load0 X (Hst.len o),_,qD e o al,rfl,I⟩
theorem bJ (o:h.ok)(ac:h.name.length <=80000000)(w:World):Cf bG #[h.v] w (Ret (xC h w)):=by
 apply kX
 intro ag G Z I
 have q:=(I▸au w _:bW w G)
 have h1:av G ag ak h.cells:=av.new Z I
 have M:∀{wx:World},¬ (h.kind=1/\dO h=true)->bW w wx->xC h w (.slice none 0 0) wx:=λe U=>⟨none,0,0,rfl,by unfold ay;rw[if_neg e];exact Ow.nil _ _ _ _,ci.none _,U⟩
 refine cw (λw'=>(h.kind=1/\dO h=true)/\bW G w') ⟨rfl,_,h1.load1 br rfl rfl,?_⟩ ?_
 ·refine ai.of (λc=>M (λe=>?_) q) (λc=>?_)
  ·rw[e.1]at c;simp at c
  ·have Y:h.kind=1:=by simpa using c
   refine⟨_,aO.load0 h1 (Hst.len o),?_⟩
   refine az (cd o ac G) ?_
   rintro _ O ⟨rfl,D⟩
   refine⟨_,rfl,ai.of (λE=>M (λe=>?_) (ah q D q.size)) (λE=>⟨⟨Y,by simpa using E⟩,D⟩)⟩
   rw[e.2]at E;cases E
 ·rintro O ⟨e,D⟩
  have H:=ah q D q.size
  refine⟨rfl,_,(h1.below D).load1 ax rfl rfl,?_⟩
  refine az (eH h.name 46 (by omega) O) ?_
  rintro _ aj ⟨a,n,c,rfl,ad,X,V⟩
  exact⟨_,_,_,rfl,_,_,_,rfl,by unfold ay;rw[if_pos e];exact ad,X.mono H.size,ah H V H.size⟩
def tF (h d:Hst):Bool:=if(ay h).length=0\/(ay d).length=0 then false else decide (d.name.length+1<h.name.length)&&(h.name.drop (h.name.length-(d.name.length+1))==46::d.name)
theorem co {d:Hst}(o:d.ok)(h:(ay d).length≠0):(d.kind=1/\dO d=true)/\ay d=bY 46 [] d.name:=by
 unfold ay at h ⊢
 split at h
 ·rename_i e;exact⟨e,by rw[if_pos e]⟩
 ·exact absurd rfl h
theorem lT (c:UInt8)(A B:List (List UInt8))(hA:A≠[])(hB:B≠[]):Lib.join (A++B) [c]=Lib.join A [c]++c::Lib.join B [c]:=by
 cases A with
 |nil=>exact absurd rfl hA
 |cons x A=>
  cases B with
  |nil=>exact absurd rfl hB
  |cons y B=>
   rw[List.cons_append,Lib.join_cons,Lib.join_cons,Lib.join_cons]
   unfold Lib.joinTail
   simp
theorem oU {h d:Hst}(X:h.ok)(M:d.ok):lR h d=tF h d:=by
 unfold lR tF
 by_cases D:(ay d).length=0
 ·rw[if_pos (.inl D),if_pos (.inr D)]
 by_cases H:(ay h).length=0
 ·rw[if_pos (.inr (by omega)),if_pos (.inl H)]
 rw[if_neg (show ¬ ((ay h).length=0\/(ay d).length=0) from λh=>h.elim H D)]
 obtain⟨⟨Z,ad⟩,ac⟩:=co M D
 obtain⟨⟨an,bb⟩,ar⟩:=co X H
 obtain⟨Y,-,bc,-,-,-⟩:=ec M Z ad
 obtain⟨h1,-,aj,-,-,-⟩:=ec X an bb
 have U:=eY 46 h.name []
 have O:=eY 46 d.name []
 rw[List.nil_append]at U O
 rw[ac,ar]
 have a8:=j7 46 h.name []
 have bp:0<(bY 46 [] h.name).length:=List.length_pos_iff.2 a8
 have bj:0<(bY 46 [] d.name).length:=List.length_pos_iff.2 (j7 46 d.name [])
 have ag:∀x:List UInt8,iU ⟨1,x,ad0⟩ d=(x==d.name):=λx=>by
  rw[Bool.eq_iff_iff,fC (show(⟨1,x,ad0⟩:Hst).ok from rfl) M,beq_iff_eq]
  constructor
  ·intro e;exact congrArg Hst.name e
  ·intro e;rw[Y];simp[e]
 rw[ag,Bool.eq_iff_iff]
 by_cases V:(bY 46 [] h.name).length <=(bY 46 [] d.name).length
 ·rw[if_pos (show(bY 46 [] d.name).length=0\/(bY 46 [] h.name).length <=(bY 46 [] d.name).length from .inr V)]
  refine⟨(λh=>by cases h),λE=>?_⟩
  rw[Bool.and_eq_true,dTx,beq_iff_eq]at E
  exfalso
  have I:h.name=h.name.take (h.name.length-(d.name.length+1))++46::d.name:=by rw[<- E.2,List.take_append_drop]
  have q:=congrArg (λs=>(bY 46 [] s).length) I
  simp only[fE,List.length_append]at q
  have:0<(bY 46 [] (h.name.take (h.name.length-(d.name.length+1)))).length:=List.length_pos_iff.2 (j7 46 _ [])
  omega
 ·rw[if_neg (show ¬ ((bY 46 [] d.name).length=0\/(bY 46 [] h.name).length <=(bY 46 [] d.name).length) from λh=>h.elim (λh=>by omega) V),beq_iff_eq,Bool.and_eq_true,dTx,beq_iff_eq]
  unfold wY
  constructor
  ·intro al
   have hA:(bY 46 [] h.name).take ((bY 46 [] h.name).length-(bY 46 [] d.name).length)≠[]:=by
    intro e
    have:=congrArg List.length e
    rw[List.length_take,List.length_nil]at this;omega
   have hB:(bY 46 [] h.name).drop ((bY 46 [] h.name).length-(bY 46 [] d.name).length)≠[]:=by
    intro e
    have:=congrArg List.length e
    rw[List.length_drop,List.length_nil]at this;omega
   have G:=lT 46 _ _ hA hB
   rw[List.take_append_drop,U,al]at G
   have a9:Lib.join ((bY 46 [] h.name).take ((bY 46 [] h.name).length-(bY 46 [] d.name).length)) [46]≠[]:=by
    cases q:(bY 46 [] h.name).take ((bY 46 [] h.name).length-(bY 46 [] d.name).length)with
    |nil=>exact absurd q hA
    |cons x A=>
     rw[Lib.join_cons]
     intro e
     have E:x∈bY 46 [] h.name:=List.mem_of_mem_take (by rw[q];exact List.mem_cons_self)
     have:=List.all_eq_true.1 aj x E
     rw[(List.append_eq_nil_iff.1 e).1]at this
     cases this
   generalize Lib.join ((bY 46 [] h.name).take ((bY 46 [] h.name).length-(bY 46 [] d.name).length)) [46]=p at*
   have bk:0<p.length:=List.length_pos_iff.2 a9
   have a0:=congrArg List.length G
   rw[List.length_append,List.length_cons]at a0
   refine⟨by omega,?_⟩
   rw[show h.name.length-(d.name.length+1)=p.length by omega,G]
   simp
  ·rintro⟨hl',hdr⟩
   have I:h.name=h.name.take (h.name.length-(d.name.length+1))++46::d.name:=by rw[<- hdr,List.take_append_drop]
   have q:bY 46 [] h.name=bY 46 [] (h.name.take (h.name.length-(d.name.length+1)))++bY 46 [] d.name:=by
    conv=>lhs;rw[I]
    exact fE 46 _ _ _
   rw[q,List.length_append,Nat.add_sub_cancel,List.drop_left]
   exact O
theorem hZ {h d:Hst}(U:h.ok)(O:d.ok)(bj:h.name.length <=80000000)(al:d.name.length <=80000000)(w:World):Cf dx #[h.v,d.v] w (Ret λv w'=>v=.bool (lR h d)/\bW w w'):=by
 rw[oU U O]
 apply mx
 intro bq H a9 ad
 have Y:=(ad▸au w _:bW w H)
 have ar:av H bq ak h.cells:=av.new a9 ad
 intro bs I bb ag
 have Z:=(ag▸au H _:bW H I)
 have G:=ah Y Z Y.size
 have X:av I bs ak d.cells:=av.new bb ag
 have V:=ar.below Z
 have u:tF h d=if(ay h).length=0\/(ay d).length=0 then false else decide (d.name.length+1<h.name.length)&&(h.name.drop (h.name.length-(d.name.length+1))==46::d.name):=rfl
 refine cw (λw'=> ¬ ((ay h).length=0\/(ay d).length=0)/\bW I w') ?_ ?_
 ·refine⟨_,aO.load0 V (Hst.len U),?_⟩
  refine az (bJ U bj I) ?_
  rintro _ aj ⟨a,l,c,rfl,bk,-,q⟩
  have D:=ah G q G.size
  refine⟨_,_,_,rfl,?_⟩
  rw[bk.len]
  refine ai.of (λe=>⟨?_,D⟩) (λe=>?_)
  ·rw[u,if_pos (.inl (by simp at e;simp[e]))]
  refine⟨_,aO.load0 (X.below q) (Hst.len O),?_⟩
  refine az (bJ O al aj) ?_
  rintro _ b1 ⟨a5,b0,bz,rfl,bp,-,ac⟩
  have a0:=ah D ac D.size
  refine⟨_,_,_,rfl,?_⟩
  rw[bp.len]
  refine ai.of (λE=>⟨?_,a0⟩) (λE=>⟨?_,ah q ac q.size⟩)
  ·rw[u,if_pos (.inr (by simp at E;simp[E]))]
  ·simp at e E
   rintro(hx|hx)
   ·exact e (List.length_eq_zero_iff.1 hx)
   ·exact E (List.length_eq_zero_iff.1 hx)
 ·rintro aj ⟨a8,q⟩
  have D:=ah G q G.size
  have M:=(V.below q).load1 (P:=prog) (i:=1) (v:=vS h.name) ax rfl rfl
  refine⟨rfl,_,(X.below q).load1 ax rfl rfl,fits (by simp;omega),?_⟩
  rintro _ rfl
  refine⟨rfl,_,M,?_⟩
  rw[u,if_neg a8]
  refine ai.of (λe=>?_) (λe=>⟨?_,D⟩)
  ·have bc:d.name.length+1<h.name.length:=by simp at e;omega
   have an:i64.wrap (((h.name.length:Nat):Int)-((([46]++d.name).length:Nat):Int))=((h.name.length-(d.name.length+1):Nat):Int):=by
    rw[wrap_i64 (by simp;omega) (by simp;omega)];simp;omega
   refine⟨rfl,_,M,rfl,_,M,?_⟩
   rw[an]
   simp only[Int.toNat_natCast]
   refine⟨⟨by omega,by omega⟩,?_⟩
   rintro _ rfl
   rw[decide_eq_true bc,Bool.true_and]
   exact⟨rfl,D⟩
  ·have: ¬ d.name.length+1<h.name.length:=by simp at e;omega
   rw[decide_eq_false this,Bool.false_and]
set_option maxRecDepth 100000
theorem mI (a b:Value)(c:Int){w K}(h:nA w (.cells (Value.cells a) af) λd e=>nA e (.cells (Value.cells b) aU) λf g=>∃i:FP [],(true/\∃j,Ld bu (vA d 20) g (.bool j)/\ai j (true/\∃k,Ld ak (vA d 2) g k/\true/\∃l,Ld ak (vA f 1) g l/\∃m,(do eqGuard .neq ak (.tmp 11) (.tmp 13) k l;binOp .neq ak k l:Sem Value).run prog g=.ok (.bool m) g/\ai m (K (.bool false) g) (true/\∃n,Ld ak (vA f 1) g n/\true/\∃o,Ld ak (vA d 2) g o/\uB bH #[n,o] g λp q=>ai (!p) (K (.bool false) q) (i q))) (true/\∃k,Ld ak (vA f 1) g k/\true/\∃l,Ld ak (vA d 2) g l/\uB bH #[k,l] g λm n=>ai (!m) (K (.bool false) n) (i n)))/\aP 18 (∀j,i j->∃k:FP [],(true/\∃l,Ld ao (vA f 19) j (vS l)/\true/\∃m,Ld ao (vA d 21) j (vS m)/\uB dW #[vS l,vS m] j λn o=>ai (!n) (K (.bool false) o) (true/\∃p,Ld bu (vA d 22) o (.bool p)/\ai p (true/\∃q,Ld bu (vA f 0) o (.bool q)/\ai (!q) (K (.bool false) o) (true/\∃r,Ld aX (vA d 25) o (vI r)/\ai (decide (c >=r)) (K (.bool false) o) (k o))) (true/\∃q,Ld aX (vA d 25) o (vI q)/\ai (decide (c >=q)) (K (.bool false) o) (k o))))/\aP 22 (∀l,k l->true/\∃m,Ld aJ (vA f 20) l (vI m)/\ai (m==(1:Int)) (true/\∃n,Ld aJ (vA d 24) l (vI n)/\K (.bool (n !=(3:Int))) l) (true/\∃n,Ld aJ (vA f 20) l (vI n)/\ai (n==(2:Int)) (true/\∃o,Ld aJ (vA d 24) l (vI o)/\K (.bool (o==(1:Int))) l) (true/\∃o,Ld aJ (vA f 20) l (vI o)/\K (.bool (o==(0:Int))) l))))):Cf dQ #[a,b,vI c] w (Ret K):=ru func22 [(2,[]),(10,[])] h
theorem pC (a b:Value){w K}(h:nA w (.cells (Value.cells a) af) λc d=>nA d (.cells (Value.cells b) af) λe f=>true/\∃g,Ld ao (vA c 0) f (vS g)/\true/\∃i,Ld ao (vA e 0) f (vS i)/\ai (g==i) (true/\∃j,Ld ak (vA c 2) f j/\true/\∃k,Ld ak (vA e 2) f k/\∃l,(do eqGuard .eql ak (.tmp 12) (.tmp 14) j k;binOp .eql ak j k:Sem Value).run prog f=.ok (.bool l) f/\ai l (true/\∃m,Ld bu (vA c 20) f (.bool m)/\true/\∃n,Ld bu (vA e 20) f (.bool n)/\ai (m==n) (true/\∃o,Ld ao (vA c 21) f (vS o)/\true/\∃p,Ld ao (vA e 21) f (vS p)/\K (.bool (o==p)) f) (K (.bool false) f)) (K (.bool false) f)) (K (.bool false) f)):Cf gV #[a,b] w (Ret K):=ru func24 [] h
theorem lw (a b:Value){w K}(h:nA w (.cells (Value.cells a) ak) λc d=>nA d (.cells (Value.cells b) ak) λe f=>∃g:FP [],(∃i,Ld ak (vA c 0) f i/\uB bO #[i] f λj k=>ai (!j) (K (.bool false) k) (∃l,Ld ak (vA e 0) k l/\uB bO #[l] k λm n=>ai (!m) (K (.bool false) n) (g n)))/\aP 9 (∀i,g i->∃j,Ld ak (vA c 0) i j/\∃k,Ld ak (vA e 0) i k/\∃l,(do eqGuard .eql ak (.tmp 13) (.tmp 14) j k;binOp .eql ak j k:Sem Value).run prog i=.ok (.bool l) i/\ai l (K (.bool true) i) (∃m,Ld ak (vA c 0) i m/\∃n,Ld ak (vA e 0) i n/\uB dx #[m,n] i λo p=>K (.bool o) p))):Cf bH #[a,b] w (Ret K):=ru func50 [(2,[])] h
theorem ow (a b:lU){w K}(h:ai (a==b) (K (.bool true) w) (∃c:FP [],(ai (decide (((List.length a:Nat):Int) <=((List.length b:Nat):Int))) (K (.bool false) w) (bd ((List.length b:Nat):Int) (((List.length a):Nat):Int)/\∀d,d=(List.take (Int.toNat ((List.length b:Nat):Int)) a)->ai (!(d==b)) (K (.bool false) w) (c w)))/\aP 14 (∀d,c d->bx ((List.length b:Nat):Int) ((List.length a:Nat):Int)/\ai ((bm a ((List.length b:Nat):Int))==(47:Int)) (K (.bool true) d) (ai (decide (((List.length b:Nat):Int)>(0:Int))) (bx (i64.wrap (((List.length b:Nat):Int)-(1:Int))) ((List.length b:Nat):Int)/\K (.bool ((bm b (i64.wrap (((List.length b:Nat):Int)-(1:Int))))==(47:Int))) d) (K (.bool false) d))))):Cf dW #[vS a,vS b] w (Ret K):=ru func51 [(10,[])] h
theorem my (a:Value){w K}(h:nA w (.cells (Value.cells a) aQ) λb c=>true/\∃d,Ld ak (vA b 1) c d/\uB bO #[d] c λe f=>ai e (true/\∃g,Ld aJ (vA b 19) f (vI g)/\ai (decide (g >=(1:Int))) (true/\∃i,Ld aJ (vA b 19) f (vI i)/\ai (decide (i <=(65535:Int))) (true/\∃j,Ld ao (vA b 20) f (vS j)/\uB pL #[vS j] f λk l=>K (.bool k) l) (K (.bool false) f)) (K (.bool false) f)) (K (.bool false) f)):Cf dy #[a] w (Ret K):=ru func143 [] h
theorem oz (a:Option Addr)(b c:Nat)(d:Value)(e f g i:lU)(j:Bool)(k:Int)(l:Bool)(m:Int)(n o:Bool)(p q:Int){w K}(h:nA w (.cells (Value.cells d) aQ) λr s=>nA s (.cells #[vS e,vS f,vS g,vS i,.bool j,vI k,.bool l,vI m,.bool n,.bool o,vI p] aq) λt u=>nA u (.cells bf af) λv x=>nA x (.cells bf af) λy z=>∃A,Sv af (vA y 0) (.agg bf) z A/\∃B,Ld aQ (vA r 0) A B/\uB dy #[B] A λC D=>ai (!C) (∃E,Ld af (vA y 0) D E/\∃F,Sv af (vA v 0) E D F/\∃G,Rv af (vA v 0) F G/\K (.tuple #[G,vI 41]) F) (∃E F G H I J L M N O P,Ld aq (vA t 0) D (hV E F G H I J L M N O P)/\Cf fS #[(hV E F G H I J L M N O P)] D λQ R=>∃S T,Q=rT #[vS S,.bool T]/\ai (!T) (∃U,Ld af (vA y 0) R U/\∃V,Sv af (vA v 0) U R V/\∃X,Rv af (vA v 0) V X/\K (.tuple #[X,vI 82]) V) (∃U:FP [],(∃V:FP [.one .bool],(ai (decide (q<(0:Int))) (V true R) (V (decide (q>(1099511627776:Int))) R))/\∀X,aP 5 (∀Y,V X Y->ai X (∃Z,Ld af (vA y 0) Y Z/\∃ac,Sv af (vA v 0) Z Y ac/\∃ad,Rv af (vA v 0) ac ad/\K (.tuple #[ad,vI 122]) ac) (U Y)))/\aP 8 (∀V,U V->true/\∃X,Ld ao (vA t 0) V (vS X)/\true/\∃Y,Ld ao (vA t 1) V (vS Y)/\true/\∃Z,Ld ak (vA r 1) V Z/\true/\∃ac,Ld ao (vA t 3) V (vS ac)/\true/\∃ad,Ld bu (vA t 8) V (.bool ad)/\true/\∃ag,Ld bu (vA t 9) V (.bool ag)/\true/\∃aj,Ld aJ (vA t 10) V (vI aj)/\∃al,(Instr.build af #[(0,vS X),(1,vS Y),(2,Z),(3,.bool true),(4,vS ac),(5,.bool ad),(6,.bool ag),(7,vI aj),(8,vI 9223372036854775807),(9,vI q),(10,vI q)]).run prog V=.ok al V/\nA V (.cells bf af) λan ar=>∃bb,Sv af (vA an 0) al ar bb/\∃bc:FP [],(true/\∃bd,Ld ao (vA t 2) bb (vS bd)/\ai (!(bd==[])) (true/\∃bj,Ld ao (vA t 2) bb (vS bj)/\Cf fu #[vS bj] bb λbk bo=>∃bp bq,bk=rT #[bp,vI bq]/\nA bo (.cells bK ak) λbs bx=>∃bz,Sv ak (vA bs 0) bp bx bz/\ai (bq !=(0:Int)) (∃cb,Ld af (vA y 0) bz cb/\∃cc,Sv af (vA v 0) cb bz cc/\∃ce,Rv af (vA v 0) cc ce/\K (.tuple #[ce,vI 101]) cc) (∃cb,Ld ak (vA bs 0) bz cb/\uB ej #[.slice a b c,cb] bz λcc ce=>∃cf:FP [],(∃ch:FP [.one .bool],(ai cc (∃cj,Ld ak (vA bs 0) ce cj/\true/\∃ck,Ld ak (vA r 1) ce ck/\∃cl,(do eqGuard .neq ak (.tmp 73) (.tmp 75) cj ck;binOp .neq ak cj ck:Sem Value).run prog ce=.ok (.bool cl) ce/\ch cl ce) (ch false ce))/\∀cj,aP 6 (∀ck,ch cj ck->ai cj (∃cl,Ld af (vA y 0) ck cl/\∃cm,Sv af (vA v 0) cl ck cm/\∃cn,Rv af (vA v 0) cm cn/\K (.tuple #[cn,vI 102]) cm) (cf ck)))/\aP 9 (∀ch,cf ch->true/\∃cj,Ld ak (vA r 1) ch cj/\∃ck,Ld ak (vA bs 0) ch ck/\uB bH #[cj,ck] ch λcl cm=>ai (!cl) (∃cn,Ld af (vA y 0) cm cn/\∃cp,Sv af (vA v 0) cn cm cp/\∃cr,Rv af (vA v 0) cp cr/\K (.tuple #[cr,vI 103]) cp) (ai (!cc) (∃cn,Ld ak (vA bs 0) cm cn/\true/\∃cp,Sv ak (vA an 2) cn cm cp/\true/\∃cr,Sv bu (vA an 20) (.bool false) cp cr/\bc cr) (bc cm))))) (bc bb))/\aP 38 (∀bd,bc bd->∃bj:FP [],(true/\∃bk,Ld ao (vA an 21) bd (vS bk)/\ai (bk==[]) (true/\∃bo,Ld ao (vA r 20) bd (vS bo)/\uS dK #[vS bo] bd λbp bq=>true/\∃bs,Sv ao (vA an 21) (vS bp) bq bs/\bj bs) (bj bd))/\aP 7 (∀bk,bj bk->∃bo:FP [],(∃bp:FP [.one .bool],(true/\∃bq,Ld bu (vA t 8) bk (.bool bq)/\ai bq (true/\∃bs,Ld bu (vA r 0) bk (.bool bs)/\bp (!bs) bk) (bp false bk))/\∀bq,aP 6 (∀bs,bp bq bs->ai bq (∃bx,Ld af (vA y 0) bs bx/\∃bz,Sv af (vA v 0) bx bs bz/\∃cb,Rv af (vA v 0) bz cb/\K (.tuple #[cb,vI 104]) bz) (bo bs)))/\aP 9 (∀bp,bo bp->∃bq:FP [],(∃bs:FP [.one .bool],(true/\∃bx,Ld aJ (vA t 10) bp (vI bx)/\ai (bx==(1:Int)) (true/\∃bz,Ld bu (vA t 8) bp (.bool bz)/\bs (!bz) bp) (bs false bp))/\∀bx,aP 7 (∀bz,bs bx bz->ai bx (∃cb,Ld af (vA y 0) bz cb/\∃cc,Sv af (vA v 0) cb bz cc/\∃ce,Rv af (vA v 0) cc ce/\K (.tuple #[ce,vI 105]) cc) (bq bz)))/\aP 10 (∀bs,bq bs->true/\∃bx,Ld ao (vA t 0) bs (vS bx)/\∃bz:FP [.one .str],(ai (bx==[]) (true/\∃cb,Ld ao (vA t 1) bs (vS cb)/\bz cb bs) (bz bx bs))/\∀cb,aP 4 (∀cc,bz cb cc->uI ep #[vS cb] cc λce cf=>∃ch:FP [],(∃cj:FP [.one .bool],(ai (ce==(1:Int)) (true/\∃ck,Ld bu (vA t 8) cf (.bool ck)/\ai (!ck) (cj true cf) (ai (ce==(2:Int)) (true/\∃cl,Ld bu (vA t 8) cf (.bool cl)/\ai (!cl) (cj true cf) (true/\∃cm,Ld bu (vA an 20) cf (.bool cm)/\ai (!cm) (cj true cf) (true/\∃cn,Ld ao (vA t 3) cf (vS cn)/\cj (!(cn==[47])) cf))) (cj false cf))) (ai (ce==(2:Int)) (true/\∃ck,Ld bu (vA t 8) cf (.bool ck)/\ai (!ck) (cj true cf) (true/\∃cl,Ld bu (vA an 20) cf (.bool cl)/\ai (!cl) (cj true cf) (true/\∃cm,Ld ao (vA t 3) cf (vS cm)/\cj (!(cm==[47])) cf))) (cj false cf)))/\∀ck,aP 25 (∀cl,cj ck cl->ai ck (∃cm,Ld af (vA y 0) cl cm/\∃cn,Sv af (vA v 0) cm cl cn/\∃cp,Rv af (vA v 0) cn cp/\K (.tuple #[cp,vI 106]) cn) (ch cl)))/\aP 28 (∀cj,ch cj->∃ck:FP [],(true/\∃cl,Ld bu (vA t 4) cj (.bool cl)/\ai cl (true/\∃cm,Ld aX (vA t 5) cj (vI cm)/\∃cn,(Builtin.min_ #[aX,aX] aX #[vI cm,vI (i64.wrap (q+(34560000:Int)))]).run prog cj=.ok (vI cn) cj/\true/\∃cp,Sv aX (vA an 25) (vI cn) cj cp/\ck cp) (ck cj))/\aP 8 (∀cl,ck cl->true/\∃cm,Ld bu (vA t 6) cl (.bool cm)/\ai cm (true/\∃cn,Ld aX (vA t 7) cl (vI cn)/\true/\∃cp,Sv aX (vA an 25) (vI (i64.wrap (q+cn))) cl cp/\∃cr,Ld af (vA an 0) cp cr/\∃cs,Sv af (vA v 0) cr cp cs/\∃ct,Rv af (vA v 0) cs ct/\K (.tuple #[ct,vI 0]) cs) (∃cn,Ld af (vA an 0) cl cn/\∃cp,Sv af (vA v 0) cn cl cp/\∃cr,Rv af (vA v 0) cp cr/\K (.tuple #[cr,vI 0]) cp)))))))))))):Cf fT #[.slice a b c,d,.agg #[vS e,vS f,vS g,vS i,.bool j,vI k,.bool l,vI m,.bool n,.bool o,vI p],vI q] w (Ret K):=ru func145 [(22,[]),(23,[(37,.one .bool)]),(32,[]),(48,[]),(49,[(77,.one .bool)]),(72,[]),(78,[]),(79,[(103,.one .bool)]),(86,[]),(87,[(112,.one .bool)]),(96,[(17,.one .str)]),(104,[]),(105,[(147,.one .bool)]),(112,[])] h
theorem kZ (a:Option Addr)(b c:Nat)(d:Value){w K}(h:nA w (.cells (Value.cells d) ak) λe f=>∃g,Ld ak (vA e 0) f g/\uL bG #[g] f λi j k l=>ai (decide (((j:Nat):Int)>(0:Int))) (∃m,Ld ak (vA e 0) l m/\uI cO #[.slice a b c,m] l λn o=>K (.bool (n==((j:Nat):Int))) o) (K (.bool false) l)):Cf ej #[.slice a b c,d] w (Ret K):=ru func211 [] h
theorem kh (a:lU){w K}(h:∃b:Nat->FP [.one (.int .i64),.one (.int .i64)],(∃c,b c (0:Int) (0:Int) w)/\∀c d e,aP 11 (∀f,b c d e f->ai (decide (e<((List.length a:Nat):Int))) (bx e ((List.length a:Nat):Int)/\ai ((bm a e)==(47:Int)) (∃g:Nat,g<c/\b g e (i64.wrap (e+(1:Int))) f) (∃g:Nat,g<c/\b g d (i64.wrap (e+(1:Int))) f)) (ai (d==(0:Int)) (K (vS [47]) f) (bx (0:Int) ((List.length a:Nat):Int)/\ai ((bm a (0:Int)) !=(47:Int)) (K (vS [47]) f) (bd d (((List.length a):Nat):Int)/\∀g,g=(List.take (Int.toNat d) a)->K (vS g) f))))):Cf dK #[vS a] w (Ret K):=ru func212 [(8,[(3,.one (.int .i64)),(4,.one (.int .i64))])] h
theorem ly (a:lU){w K}(h:uB cQ #[vS a,vS [95,95,115,101,99,117,114,101,45]] w λb c=>ai b (K (vI 1) c) (uB cQ #[vS a,vS [95,95,104,111,115,116,45]] c λd e=>ai d (K (vI 2) e) (K (vI 0) e))):Cf ep #[vS a] w (Ret K):=ru func213 [] h
theorem mH (a b:Value){w K}(h:nA w (.cells (Value.cells a) af) λc d=>nA d (.cells (Value.cells b) af) λe f=>true/\∃g,Ld ao (vA c 21) f (vS g)/\true/\∃i,Ld ao (vA e 21) f (vS i)/\ai (decide (((List.length g:Nat):Int)>((List.length i:Nat):Int))) (K (.bool true) f) (true/\∃j,Ld ao (vA c 21) f (vS j)/\true/\∃k,Ld ao (vA e 21) f (vS k)/\ai (((List.length j:Nat):Int)==((List.length k:Nat):Int)) (true/\∃l,Ld aJ (vA c 28) f (vI l)/\true/\∃m,Ld aJ (vA e 28) f (vI m)/\K (.bool (decide (l<m))) f) (K (.bool false) f))):Cf eU #[a,b] w (Ret K):=ru func216 [] h
theorem li (a:Option Addr)(b c:Nat)(d:Value){w K}(h:nA w (.cells (Value.cells d) ak) λe f=>∃g,Ld ak (vA e 0) f g/\uL bG #[g] f λi j k l=>ai (((j:Nat):Int)==(0:Int)) (K (vI 0) l) (∃m:Nat->FP [.one (.int .i64),.one (.int .i64),.one (.int .i64)],(∃n,m n (1:Int) (0:Int) (0:Int) l)/\∀n o p q,aP 60 (∀r,m n o p q r->ai (decide (q<((b:Nat):Int))) ((bx q ((b:Nat):Int)/\Option.isSome a=true)/\∃s t,Ld aG (aw a q 2) r (.agg #[vI s,vS t])/\nA r (.cells #[vI 0,vS []] aG) λu v=>∃x,Sv aG (vA u 0) (.agg #[vI s,vS t]) v x/\∃y z,Ld aG (vA u 0) x (.agg #[vI y,vS z])/\uB eR #[.agg #[vI y,vS z]] x λA B=>ai (!A) (∃C:Nat,C<n/\m C o p (i64.wrap (q+(1:Int))) B) (true/\∃C,Ld ao (vA u 1) B (vS C)/\uL eD #[vS C,.int .u8 46] B λD E F G=>true/\∃H,Ld ao (vA u 1) G (vS H)/\nA G (.cells bK ak) λI J=>∃L,Sv ak (vA I 0) (.agg #[vI 1,vS H,.int .u8 0,.int .u8 0,.int .u8 0,.int .u8 0,.int .u8 0,.int .u8 0,.int .u8 0,.int .u8 0,.int .u8 0,.int .u8 0,.int .u8 0,.int .u8 0,.int .u8 0,.int .u8 0,.int .u8 0,.int .u8 0]) J L/\∃M,Ld ak (vA e 0) L M/\∃N,Ld ak (vA I 0) L N/\uB dx #[M,N] L λO P=>∃Q:FP [.one (.int .i64)],(∃R:FP [.one .bool],(true/\∃S,Ld aJ (vA u 0) P (vI S)/\ai (S==(1:Int)) (ai O (R true P) (∃T,Ld ak (vA e 0) P T/\∃U,Ld ak (vA I 0) P U/\∃V,(do eqGuard .eql ak (.tmp 41) (.tmp 42) T U;binOp .eql ak T U:Sem Value).run prog P=.ok (.bool V) P/\R V P)) (R false P))/\∀S,aP 10 (∀T,R S T->ai S (∃U,(Builtin.max_ #[aJ,aJ] aJ #[vI o,vI ((E:Nat):Int)]).run prog T=.ok (vI U) T/\Q U T) (Q o T)))/\∀R,aP 14 (∀S,Q R S->∃T:FP [.one (.int .i64)],(∃U:FP [.one .bool],(true/\∃V,Ld aJ (vA u 0) S (vI V)/\ai (V==(2:Int)) (U O S) (U false S))/\∀V,aP 5 (∀X,U V X->ai V (∃Y,(Builtin.max_ #[aJ,aJ] aJ #[vI R,vI (i64.wrap (((E:Nat):Int)+(1:Int)))]).run prog X=.ok (vI Y) X/\T Y X) (T R X)))/\∀U,aP 10 (∀V,T U V->∃X:FP [.one .bool],(true/\∃Y,Ld aJ (vA u 0) V (vI Y)/\ai (Y==(3:Int)) (ai O (X true V) (∃Z,Ld ak (vA e 0) V Z/\∃ac,Ld ak (vA I 0) V ac/\∃ad,(do eqGuard .eql ak (.tmp 65) (.tmp 66) Z ac;binOp .eql ak Z ac:Sem Value).run prog V=.ok (.bool ad) V/\X ad V)) (X false V))/\∀Y,aP 10 (∀Z,X Y Z->ai Y (∃ac,(Builtin.max_ #[aJ,aJ] aJ #[vI p,vI (i64.wrap (((E:Nat):Int)-(1:Int)))]).run prog Z=.ok (vI ac) Z/\∃ad:Nat,ad<n/\m ad U ac (i64.wrap (q+(1:Int))) Z) (∃ac:Nat,ac<n/\m ac U p (i64.wrap (q+(1:Int))) Z)))))) (ai (decide (p>(0:Int))) (K (vI p) r) (K (vI o) r))))):Cf cO #[.slice a b c,d] w (Ret K):=ru func257 [(18,[(5,.one (.int .i64)),(6,.one (.int .i64)),(18,.one (.int .i64))]),(41,[(5,.one (.int .i64))]),(42,[(45,.one .bool)]),(47,[(5,.one (.int .i64))]),(48,[(54,.one .bool)]),(53,[(69,.one .bool)])] h
theorem lz (a b:lU){w K}(h:ai (decide (((List.length a:Nat):Int) >=((List.length b:Nat):Int))) (bd ((List.length b:Nat):Int) (((List.length a):Nat):Int)/\∀c,c=(List.take (Int.toNat ((List.length b:Nat):Int)) a)->uS df #[vS c] w λd e=>K (.bool (d==b)) e) (K (.bool false) w)):Cf cQ #[vS a,vS b] w (Ret K):=ru func258 [] h
theorem mz (a:Int)(b:lU){w K}(h:nA w (.cells #[vI a,vS b] aG) λc d=>∃e f,Ld aG (vA c 0) d (.agg #[vI e,vS f])/\uS fO #[.agg #[vI e,vS f]] d λg i=>Cf fN #[vS g] i λj k=>∃l m n o,j=rT #[.agg #[vI l,vS m],.bool n,vI o]/\nA k (.cells #[vI 0,vS []] aG) λp q=>∃r,Sv aG (vA p 0) (.agg #[vI l,vS m]) q r/\ai (o==(0:Int)) (ai n (∃s t,Ld aG (vA p 0) r (.agg #[vI s,vS t])/\∃u v,Ld aG (vA c 0) r (.agg #[vI u,vS v])/\∃x,(do eqGuard .eql aG (.tmp 19) (.tmp 20) (.agg #[vI s,vS t]) (.agg #[vI u,vS v]);binOp .eql aG (.agg #[vI s,vS t]) (.agg #[vI u,vS v]):Sem Value).run prog r=.ok (.bool x) r/\K (.bool x) r) (K (.bool false) r)) (K (.bool false) r)):Cf eR #[.agg #[vI a,vS b]] w (Ret K):=ru func280 [] h
theorem nZ (a:lU){w K}(h:nA w (.cells #[vI 0,vS []] aG) λb c=>uS cy #[vS a] c λd e=>∃f:FP [],(∃g:FP [.one .bool],(ai (d==[]) (g true e) (uB ca #[vS d,vS [47,47]] e λi j=>g i j))/\∀i,aP 5 (∀j,g i j->ai i (∃k,Sv aG (vA b 0) (.agg #[vI 0,vS []]) j k/\∃l m,Rv aG (vA b 0) k (.agg #[vI l,vS m])/\K (.tuple #[.agg #[vI l,vS m],.bool false,vI 0]) k) (f j)))/\aP 9 (∀g,f g->∃i:Nat->FP [.one .str,.one (.int .i64)],(∃j,i j d (0:Int) g)/\∀j k l,aP 19 (∀m,i j k l m->ai (decide (l<((List.length k:Nat):Int))) (∃n:FP [.one .bool],(bx l ((List.length k:Nat):Int)/\ai ((bm k l)==(32:Int)) (n true m) (bx l ((List.length k:Nat):Int)/\n ((bm k l)==(9:Int)) m))/\∀o,aP 9 (∀p,n o p->ai o (bd l (((List.length k):Nat):Int)/\∀q,q=(List.take (Int.toNat l) k)->∃r:Nat,r<j/\i r q (i64.wrap (l+(1:Int))) p) (∃q:Nat,q<j/\i q k (i64.wrap (l+(1:Int))) p))) (nA m (.cells #[vI 0,vS []] aG) λn o=>∃p,Sv aG (vA n 0) (.agg #[vI 1,vS []]) o p/\∃q:FP [.one .str],(uB ca #[vS k,vS [33]] p λr s=>ai r (true/\∃t,Sv aJ (vA n 0) (vI 3) s t/\bd (1:Int) (((List.length k):Nat):Int)/\∀u,u=(List.drop (Int.toNat 1) k)->q u t) (uB ca #[vS k,vS [42,46]] s λt u=>ai t (true/\∃v,Sv aJ (vA n 0) (vI 2) u v/\bd (2:Int) (((List.length k):Nat):Int)/\∀x,x=(List.drop (Int.toNat 2) k)->q x v) (q k u)))/\∀r,aP 10 (∀s,q r s->Cf fu #[vS r] s λt u=>∃v x,t=rT #[v,vI x]/\nA u (.cells bK ak) λy z=>∃A,Sv ak (vA y 0) v z A/\∃B:FP [],(∃C:FP [.one .bool],(ai (x !=(0:Int)) (C true A) (true/\∃D,Ld aJ (vA y 0) A (vI D)/\ai (D !=(1:Int)) (C true A) (true/\∃E,Ld aJ (vA n 0) A (vI E)/\ai (E==(3:Int)) (∃F,Ld ak (vA y 0) A F/\uL bG #[F] A λG H I J=>C (decide (((H:Nat):Int)<(2:Int))) J) (C false A))))/\∀D,aP 17 (∀E,C D E->ai D (∃F,Sv aG (vA b 0) (.agg #[vI 0,vS []]) E F/\∃G H,Rv aG (vA b 0) F (.agg #[vI G,vS H])/\K (.tuple #[.agg #[vI G,vS H],.bool false,vI 51]) F) (B E)))/\aP 21 (∀C,B C->true/\∃D,Ld ao (vA y 1) C (vS D)/\true/\∃E,Sv ao (vA n 1) (vS D) C E/\∃F G,Ld aG (vA n 0) E (.agg #[vI F,vS G])/\∃H,Sv aG (vA b 0) (.agg #[vI F,vS G]) E H/\∃I J,Rv aG (vA b 0) H (.agg #[vI I,vS J])/\K (.tuple #[.agg #[vI I,vS J],.bool true,vI 0]) H)))))):Cf fN #[vS a] w (Ret K):=ru func291 [(4,[]),(5,[(16,.one .bool)]),(16,[(0,.one .str),(5,.one (.int .i64))]),(25,[(33,.one .bool)]),(33,[(0,.one .str)]),(49,[]),(50,[(70,.one .bool)])] h
theorem oa (a:Int)(b:lU){w K}(h:nA w (.cells #[vI a,vS b] aG) λc d=>true/\∃e,Ld aJ (vA c 0) d (vI e)/\ai (e==(2:Int)) (true/\∃f,Ld ao (vA c 1) d (vS f)/\(((List.length [42,46]+List.length f:Nat):Int) <=i64.max)/\∀g,g=([42,46]++f)->K (vS g) d) (true/\∃f,Ld aJ (vA c 0) d (vI f)/\ai (f==(3:Int)) (true/\∃g,Ld ao (vA c 1) d (vS g)/\(((List.length [33]+List.length g:Nat):Int) <=i64.max)/\∀i,i=([33]++g)->K (vS i) d) (true/\∃g,Ld ao (vA c 1) d (vS g)/\K (vS g) d))):Cf fO #[.agg #[vI a,vS b]] w (Ret K):=ru func292 [] h
theorem kY (a b:lU){w K}(h:ai (decide (((List.length a:Nat):Int) >=((List.length b:Nat):Int))) (bd ((List.length b:Nat):Int) (((List.length a):Nat):Int)/\∀c,c=(List.take (Int.toNat ((List.length b:Nat):Int)) a)->K (.bool (c==b)) w) (K (.bool false) w)):Cf ca #[vS a,vS b] w (Ret K):=ru func304 [] h
set_option maxRecDepth 20000
theorem ia {u:Url}(o:u.ok)(X:u.host.name.length <=80000000)(Y:u.path.length <=9223372036854775800)(w:World):Cf dy #[u.v] w (Ret λv w'=>v=.bool (nB u)/\bW w w'):=by
 apply my
 intro ac H V O
 have I:=(O▸au w _:bW w H)
 have h1:av H ac aQ u.cells:=av.new V O
 refine⟨rfl,_,aO.load h1 (i:=1) (us:=u.host.cells) (Hst.len o) (λj U=>nq o U),?_⟩
 refine az (cd o X H) ?_
 rintro _ ad ⟨rfl,M⟩
 have D:=ah I M I.size
 have G:=h1.below M
 refine⟨_,rfl,?_⟩
 unfold nB
 refine ai.of (λe=>?_) (λe=>⟨by rw[e];rfl,D⟩)
 refine⟨rfl,_,G.load1 br rfl (uM o),ai.of (λq=>?_) (λq=>⟨by rw[e,q];rfl,D⟩)⟩
 refine⟨rfl,_,G.load1 br rfl (uM o),ai.of (λE=>?_) (λE=>⟨by rw[e,q,E];rfl,D⟩)⟩
 refine⟨rfl,_,G.load1 ax rfl (rG o),?_⟩
 refine az (uc _ Y ad) ?_
 rintro _ ag ⟨rfl,Z⟩
 rw[Z]
 exact⟨_,rfl,by rw[e,q,E];rfl,D⟩
theorem cG {h d:Hst}(E:h.ok)(D:d.ok)(ag:h.name.length <=80000000)(Z:d.name.length <=80000000)(w:World):Cf bH #[h.v,d.v] w (Ret λv w'=>v=.bool (vi h d)/\bW w w'):=by
 apply lw
 intro a8 M ar aj
 have ac:=(aj▸au w _:bW w M)
 have an:av M a8 ak h.cells:=av.new ar aj
 intro a9 O a0 al
 have ad:=(al▸au M _:bW M O)
 have H:=ah ac ad ac.size
 have Y:av O a9 ak d.cells:=av.new a0 al
 have X:=an.below ad
 unfold vi
 refine cw (λw'=>dO h=true/\dO d=true/\bW O w') ?_ ?_
 ·refine⟨_,aO.load0 X (Hst.len E),?_⟩
  refine az (cd E ag O) ?_
  rintro _ U ⟨rfl,e⟩
  have q:=ah H e H.size
  refine⟨_,rfl,ai.of (λc=>⟨?_,q⟩) (λc=>?_)⟩
  ·rw[Bool.not_eq_true']at c;rw[c];rfl
  rw[Bool.not_eq_false']at c
  refine⟨_,aO.load0 (Y.below e) (Hst.len D),?_⟩
  refine az (cd D Z U) ?_
  rintro _ bj ⟨rfl,I⟩
  refine⟨_,rfl,ai.of (λG=>⟨?_,ah q I q.size⟩) (λG=>⟨c,?_,ah e I e.size⟩)⟩
  ·rw[Bool.not_eq_true']at G;rw[c,G];rfl
  ·rwa [Bool.not_eq_false']at G
 ·rintro U ⟨bb,bc,e⟩
  have q:=ah H e H.size
  rw[bb,bc,Bool.true_and,Bool.true_and]
  refine⟨_,aO.load0 (X.below e) (Hst.len E),_,aO.load0 (Y.below e) (Hst.len D),_,qD E D U,?_⟩
  refine ai.of (λV=>⟨by rw[V];rfl,q⟩) (λV=>?_)
  refine⟨_,aO.load0 (X.below e) (Hst.len E),_,aO.load0 (Y.below e) (Hst.len D),?_⟩
  refine az (hZ E D ag Z U) ?_
  rintro _ bj ⟨rfl,I⟩
  exact⟨_,rfl,by rw[V];rfl,ah q I q.size⟩
theorem kW (s:List UInt8)(Z:s.length <=9223372036854775800)(w:World):Cf dK #[vS s] w (Ret λv w'=>v=vS (AA s)/\w'=w):=by
 apply kh
 refine⟨λm l i w'=>∃k:Nat,k <=s.length/\i=(k:Int)/\m=s.length-k/\l=((tI s k:Nat):Int)/\w'=w,⟨_,0,by omega,rfl,rfl,rfl,rfl⟩,?_⟩
 intro m l i
 refine aP.of ?_ _
 rintro w' ⟨k,X,rfl,rfl,rfl,M⟩
 rw[M];clear M
 refine ai.of (λh=>?_) (λh=>?_) <;> simp only[dTx,dFx]at h
 ·have I:k<s.length:=by omega
  have D:=fq s[k] 47
  rw[show(((47:UInt8).toNat:Nat):Int)=47 from rfl]at D
  rw[byte_at I,D]
  have q:tI s (k+1)=if s[k]? =some 47 then k else tI s k:=rfl
  rw[List.getElem?_eq_getElem I]at q
  refine⟨⟨by omega,h⟩,ai.of (λc=>?_) (λc=>?_)⟩
  ·rw[if_pos (by rw[eq_of_beq c])]at q
   exact⟨s.length-(k+1),by omega,k+1,by omega,by rw[wrap_i64 (by omega) (by omega)];omega,rfl,by rw[q],rfl⟩
  ·rw[if_neg (λe=>by rw[Option.some.inj e]at c;simp at c)]at q
   exact⟨s.length-(k+1),by omega,k+1,by omega,by rw[wrap_i64 (by omega) (by omega)];omega,rfl,by rw[q],rfl⟩
 ·have:k=s.length:=by omega
  subst this
  have Y:=BG s s.length
  unfold AA
  refine ai.of (λc=>⟨?_,rfl⟩) (λc=>?_)
  ·have c:tI s s.length=0:=by have:=eq_of_beq c;omega
   rw[if_pos (.inl c)]
  ·have c:tI s s.length≠0:=by have:=beq_eq_false_iff_ne.1 c;omega
   have H:0<s.length:=by omega
   have G:=byte_at (s:=s) (k:=0) H
   rw[show((0:Nat):Int)=0 from rfl]at G
   have D:=fq s[0] 47
   rw[show(((47:UInt8).toNat:Nat):Int)=47 from rfl]at D
   have U:((bm s 0) !=(47:Int))= !(s[0]==47):=by rw[G];show(!_)=_;rw[D]
   have V:s.head?=some s[0]:=by rw[List.head?_eq_getElem?,List.getElem?_eq_getElem H]
   rw[U,V]
   refine⟨⟨by decide,by omega⟩,ai.of (λE=>⟨?_,rfl⟩) (λE=>⟨⟨by omega,by omega⟩,?_⟩)⟩
   ·rw[if_pos (.inr (λe=>by rw[Option.some.inj e]at E;simp at E))]
   ·rintro _ rfl
    have O:s[0]=47:=by simpa using E
    exact⟨by rw[if_neg (by rintro(e|e);exact c e;exact e (by rw[O]))];rfl,rfl⟩
theorem jp (p o:List UInt8)(O:p.length <=9223372036854775800)(M:o.length <=9223372036854775800)(w:World):Cf dW #[vS p,vS o] w (Ret λv w'=>v=.bool (wR p o)/\w'=w):=by
 apply ow
 unfold wR
 refine ai.of (λc=>⟨by rw[c];rfl,rfl⟩) (λc=>?_)
 rw[c,Bool.false_or]
 refine iY (w:=w) (o.length<p.length/\p.take o.length=o) ?_ ?_
 ·refine ai.of (λh=>⟨?_,rfl⟩) (λh=>⟨⟨by omega,?_⟩,?_⟩) <;> simp only[dTx,dFx]at h
  ·rw[decide_eq_false (p:=o.length<p.length) (by omega),Bool.false_and]
  ·omega
  ·rintro _ rfl
   rw[Int.toNat_natCast]
   refine ai.of (λe=>⟨?_,rfl⟩) (λe=>⟨rfl,by omega,?_⟩)
   ·rw[Bool.not_eq_true']at e;rw[e,Bool.false_and,Bool.and_false]
   ·rw[Bool.not_eq_false']at e;exact eq_of_beq e
 ·rintro⟨h1,e⟩
  rw[decide_eq_true h1,e,beq_self_eq_true,Bool.true_and,Bool.true_and]
  have q:=fq p[o.length] 47
  rw[show(((47:UInt8).toNat:Nat):Int)=47 from rfl]at q
  rw[byte_at h1,q,List.getElem?_eq_getElem h1]
  refine⟨⟨by omega,by omega⟩,ai.of (λD=>⟨?_,rfl⟩) (λD=>?_)⟩
  ·rw[eq_of_beq D];rfl
  ·rw[decide_eq_false (p:=some p[o.length]=some 47) (λI=>by rw[Option.some.inj I]at D;simp at D),Bool.false_or]
   refine ai.of (λE=>?_) (λE=>⟨?_,rfl⟩) <;> simp only[gt_iff_lt,dTx,dFx]at E
   ·have G:o.length-1<o.length:=by omega
    have H:i64.wrap (((o.length:Nat):Int)-1)=((o.length-1:Nat):Int):=by rw[wrap_i64 (by omega) (by omega)];omega
    have q:=fq o[o.length-1] 47
    rw[show(((47:UInt8).toNat:Nat):Int)=47 from rfl]at q
    rw[H,byte_at G,q,List.getLast?_eq_getElem?,List.getElem?_eq_getElem G]
    refine⟨⟨by omega,by omega⟩,?_,rfl⟩
    congr 1
    rw[Bool.eq_iff_iff];simp
   ·have:o=[]:=List.length_eq_zero_iff.1 (by omega)
    subst this;rfl
theorem lZ {r:Req}(D:c.ok)(or:r.ok)(b2:c.host.name.length <=80000000)(cc:r.host.name.length <=80000000)(b3:c.path.length <=9223372036854775800)(ce:r.path.length <=9223372036854775800)(now:Int)(w:World):
 Cf dQ #[c.v,r.v,vI now] w (Ret λv w'=>v=.bool (dD c r now)/\bW w w'):=by
 apply mI
 intro bs Y b9 bp
 have bb:=(bp▸au w _:bW w Y)
 have M:av Y bs af c.cells:=av.new b9 bp
 intro bz E cb bq
 have bc:=(bq▸au Y _:bW Y E)
 have U:=ah bb bc bb.size
 have e:av E bz aU r.cells:=av.new cb bq
 have ad:=M.below bc
 have ar:∀{wx},bW E wx->(Instr.loadAt ak (.pointer (some ⟨bs,2,none⟩))).run prog wx=.ok c.host.v wx:=λq=>aO.load (ad.below q) (i:=2) (us:=c.host.cells) (Hst.len D) (λj al=>fK D al)
 have a0:∀{wx},bW E wx->(Instr.loadAt ak (.pointer (some ⟨bz,1,none⟩))).run prog wx=.ok r.host.v wx:=λq=>aO.load (e.below q) (i:=1) (us:=r.host.cells) (Hst.len or) (λj al=>DY or al)
 have H:=Below.refl E.heap.size E
 have a9:∀{wx:World} {J:FP []},bW E wx->(c.only && !iU c.host r.host)=false->(∀ac,bW E ac->vi r.host c.host=true->J ac)->
  Cf bH #[r.host.v,c.host.v] wx λb6 b1=>∃(a8:Bool),b6=.returned (.bool a8)/\ai (!a8) ((.bool false:Value)=.bool (dD c r now)/\bW w b1) (J b1):=fun{wx J} bj ch b7=>by
  refine az (cG or D cc b2 wx) ?_
  rintro _ Z ⟨rfl,V⟩
  have q:=ah bj V bj.size
  refine⟨_,rfl,ai.of (λh=>⟨?_,ah U q U.size⟩) (λh=>b7 Z q ?_)⟩
  ·rw[Bool.not_eq_true']at h;unfold dD;rw[h,Bool.false_and,Bool.and_false]
  ·rwa [Bool.not_eq_false']at h
 refine cw (λw'=>(c.only && !iU c.host r.host)=false/\vi r.host c.host=true/\bW E w') ?_ ?_
 ·refine⟨rfl,_,ad.load1 bA rfl (be D 0),ai.of (λh=>?_) (λh=>?_)⟩
  ·refine⟨rfl,_,ar H,rfl,_,a0 H,_,C7 D or E,ai.of (λG=>⟨?_,U⟩) (λG=>?_)⟩
   ·unfold dD;rw[h,G];rfl
   ·exact⟨rfl,_,a0 H,rfl,_,ar H,a9 H (by rw[h,G];rfl) λac q aj=>⟨by rw[h,G];rfl,aj,q⟩⟩
  ·exact⟨rfl,_,a0 H,rfl,_,ar H,a9 H (by rw[h];rfl) λac q aj=>⟨by rw[h];rfl,aj,q⟩⟩
 ·rintro Z ⟨b4,b5,V⟩
  have I:=ah U V U.size
  have O:=ad.below V
  have ag:=e.below V
  have bk:dD c r now=(wR r.path c.path&&(!(c.sec && !r.sec)&&(!(decide (now >=c.exp))&&tM c.same r.cross))):=by unfold dD;rw[b4,b5];rfl
  refine cw (λw'=>dD c r now=tM c.same r.cross/\w'=Z) ?_ ?_
  ·refine⟨rfl,_,ag.load1 ax rfl (uH or 0),rfl,_,O.load1 ax rfl (be D 1),?_⟩
   refine az (jp r.path c.path ce b3 Z) ?_
   rintro _ cf ⟨rfl,X⟩
   rw[X];clear X
   refine⟨_,rfl,ai.of (λh=>⟨?_,I⟩) (λh=>?_)⟩
   ·rw[Bool.not_eq_true']at h;rw[bk,h];rfl
   rw[Bool.not_eq_false']at h
   rw[bk,h,Bool.true_and]
   refine⟨rfl,_,O.load1 bA rfl (be D 2),ai.of (λG=>?_) (λG=>?_)⟩
   ·refine⟨rfl,_,ag.load1 bA rfl (i:=0) rfl,ai.of (λM=>⟨?_,I⟩) (λM=>?_)⟩
    ·rw[G,M];rfl
    ·rw[G,M]
     refine⟨rfl,_,O.load1 bn rfl (be D 5),ai.of (λe=>⟨?_,I⟩) (λe=>⟨?_,rfl⟩)⟩
     ·rw[e];rfl
     ·rw[e];rfl
   ·rw[G]
    refine⟨rfl,_,O.load1 bn rfl (be D 5),ai.of (λe=>⟨?_,I⟩) (λe=>⟨?_,rfl⟩)⟩
    ·rw[e];rfl
    ·rw[e];rfl
  ·rintro cf ⟨b8,X⟩
   rw[X,b8]
   unfold tM
   have an:=ag.load1 (P:=prog) br rfl (uH or 1)
   have b0:=O.load1 (P:=prog) br rfl (be D 4)
   refine⟨rfl,_,an,ai.of (λh=>?_) (λh=>?_)⟩
   ·rw[if_pos (eq_of_beq h)]
    exact⟨rfl,_,b0,rfl,I⟩
   rw[if_neg (beq_eq_false_iff_ne.1 h)]
   refine⟨rfl,_,an,ai.of (λh=>?_) (λh=>?_)⟩
   ·rw[if_pos (eq_of_beq h)]
    exact⟨rfl,_,b0,rfl,I⟩
   rw[if_neg (beq_eq_false_iff_ne.1 h)]
   exact⟨rfl,_,an,rfl,I⟩
theorem BL (s:List UInt8)(a b:UInt8)(h:Lib.hasPrefix s [a,b]=true):s.head?=some a:=by
 cases s with
 |nil=>cases h
 |cons x r=>
  unfold Lib.hasPrefix at h
  simp[List.isPrefixOf]at h
  rw[h.1];rfl
theorem vE (u:List UInt8):sP u=if Lib.hasPrefix u [33]=true then(3,u.drop 1)else if Lib.hasPrefix u [42,46]=true then(2,u.drop 2)else(1,u):=by
 unfold sP
 by_cases h1:Lib.hasPrefix u [42,46]=true
 ·rw[if_pos h1]
  have e:=BL _ _ _ h1
  have q:Lib.hasPrefix u [33]=false:=by rw[(yw u 33).1,e];decide
  rw[if_neg (by rw[q];decide),if_pos h1]
 ·rw[if_neg h1]
  by_cases e:Lib.hasPrefix u [33]=true
  ·rw[if_pos e,if_pos e]
  ·rw[if_neg e,if_neg e,if_neg h1]
theorem dM (s p:List UInt8)(w:World):Cf ca #[vS s,vS p] w (Ret λv w'=>v=.bool (Lib.hasPrefix s p)/\w'=w):=by
 apply kY
 rw[<- Lib.hasPrefix_of_take]
 refine ai.of (λh=>?_) (λh=>⟨?_,rfl⟩) <;> simp only[ge_iff_le,dTx,dFx]at h
 ·refine⟨⟨by omega,h⟩,?_⟩
  rintro _ rfl
  rw[Int.toNat_natCast,decide_eq_true (p:=p.length <=s.length) (by omega),Bool.true_and]
  exact⟨rfl,rfl⟩
 ·rw[decide_eq_false (p:=p.length <=s.length) (by omega),Bool.false_and]
theorem pi (r:Rul)(M:r.2.length <=4611686018427387904)(w:World):Cf fO #[Li r] w (Ret λv w'=>v=vS (lP r)/\bW w w'):=by
 obtain⟨k,n⟩:=r
 apply oa
 intro O H I E
 have q:=(E▸au w _:bW w H)
 have h1:av H O aG (qn (k,n)):=av.new I E
 have G:=h1.load1 (P:=prog) (i:=0) br rfl rfl
 have D:=h1.load1 (P:=prog) (i:=1) ax rfl rfl
 simp at M
 refine⟨rfl,_,G,ai.of (λc=>?_) (λc=>?_)⟩
 ·refine⟨rfl,_,D,fits (by simp;omega),?_⟩
  rintro _ rfl
  exact⟨by unfold lP sR;rw[if_pos (eq_of_beq c)],q⟩
 refine⟨rfl,_,G,ai.of (λe=>?_) (λe=>?_)⟩
 ·refine⟨rfl,_,D,fits (by simp;omega),?_⟩
  rintro _ rfl
  exact⟨by unfold lP sR;rw[if_neg (beq_eq_false_iff_ne.1 c),if_pos (eq_of_beq e)],q⟩
 ·exact⟨rfl,_,D,by unfold lP sR;rw[if_neg (beq_eq_false_iff_ne.1 c),if_neg (beq_eq_false_iff_ne.1 e)];rfl,q⟩
theorem A9 {t:List UInt8}(h:t.all (λc=> !lH c)=true):kU t=t:=by
 unfold kU
 induction t with
 |nil=>rfl
 |cons c t e=>
  rw[List.all_cons,Bool.and_eq_true]at h
  rw[List.takeWhile_cons,h.1,if_pos rfl,e h.2]
theorem zL {t:List UInt8}(q:k<t.length)(h:(t.take k).all (λc=> !lH c)=true)(e:lH t[k]=true):t.take k=kU t:=by
 unfold kU
 conv=>rhs;rw[<- List.take_append_drop k t]
 rw[List.takeWhile_append_of_pos (by intro x D;exact List.all_eq_true.1 h x D),List.drop_eq_getElem_cons q,List.takeWhile_cons,e]
 simp
theorem pg (s:List UInt8)(d2:s.length <=90000000)(w:World):Cf fN #[vS s] w (Ret (DM s w)):=by
 apply nZ
 intro k2 H de ct
 have Y:=(ct▸au w _:bW w H)
 have D:av H k2 aG (qn (0,[])):=av.new de ct
 have bp:w.heap.size <=k2:=by omega
 have d5:=AQ s
 refine az (dB s (by omega) H) ?_
 rintro _ d6 ⟨rfl,cu⟩
 rw[cu];clear cu
 refine⟨_,rfl,?_⟩
 have hV:gW s=if cq s=[]\/Lib.hasPrefix (cq s) [47,47]=true then((0,[]),false,0)else Hr (sP (kU (cq s))).1 (dR (sP (kU (cq s))).2):=rfl
 generalize cq s=t at*
 refine iY (w:=H) (¬ (t=[]\/Lib.hasPrefix t [47,47]=true)) ?_ (λc9=>?_)
 ·refine eJ (w:=H) (decide (t=[]\/Lib.hasPrefix t [47,47]=true)) ?_ ?_
  ·refine ai.of (λh=>⟨rfl,by rw[decide_eq_true (.inl (eq_of_beq h))]⟩) (λh=>?_)
   refine az (dM t [47,47] H) ?_
   rintro _ d7 ⟨rfl,ds⟩
   refine⟨_,rfl,ds,?_⟩
   rw[Bool.eq_iff_iff,dTx]
   exact⟨.inr,λe=>e.elim (λe=>absurd e (beq_eq_false_iff_ne.1 h)) id⟩
  ·refine ai.of (λh=>?_) (λh=>⟨rfl,of_decide_eq_false h⟩)
   exact sS (0,[]) D rfl Y bp λc4 Z=>⟨by rw[hV,if_pos (of_decide_eq_true h)],Z⟩
 ·rw[if_neg c9]at hV
  have d3:=Az t
  refine⟨λm c i w'=>w'=H/\((c=t/\∃k:Nat,k <=t.length/\i=(k:Int)/\m=t.length+1-k/\(t.take k).all (λc=> !lH c)=true)\/(c=kU t/\i=((kU t).length:Int)+1/\m=0)),⟨_,rfl,.inl ⟨rfl,0,by omega,rfl,rfl,rfl⟩⟩,?_⟩
  intro m c i
  refine aP.of ?_ _
  rintro w' ⟨cr,bz⟩
  rw[cr];clear cr
  refine ai.of (λh=>?_) (λh=>?_) <;> simp only[dTx,dFx]at h
  ·rcases bz with⟨ch,k,dd,rfl,rfl,I⟩|⟨rfl,rfl,rfl⟩
   ·rw[ch]at h ⊢
    clear ch
    have ad:k<t.length:=by omega
    have cl:(0 <=(k:Int)/\(k:Int)<((t.length:Nat):Int)):=⟨by omega,h⟩
    have b5:=fq t[k] 32
    have b6:=fq t[k] 9
    rw[show(((32:UInt8).toNat:Nat):Int)=32 from rfl]at b5
    rw[show(((9:UInt8).toNat:Nat):Int)=9 from rfl]at b6
    rw[byte_at ad,b5,b6]
    refine eJ (w:=H) (lH t[k]) ?_ ?_
    ·refine⟨cl,ai.of (λD=>⟨rfl,?_⟩) (λD=>⟨cl,rfl,?_⟩)⟩
     ·unfold lH;rw[D];rfl
     ·unfold lH;rw[D,Bool.false_or]
    ·refine ai.of (λD=>⟨⟨by omega,by omega⟩,?_⟩) (λD=>?_)
     ·rintro _ rfl
      rw[Int.toNat_natCast,zL ad I D]
      have c5:=congrArg List.length (zL ad I D)
      rw[List.length_take]at c5
      exact⟨0,by omega,rfl,.inr ⟨rfl,by rw[wrap_i64 (by omega) (by omega)];omega,rfl⟩⟩
     ·exact⟨t.length+1-(k+1),by omega,rfl,.inl ⟨rfl,k+1,by omega,by rw[wrap_i64 (by omega) (by omega)];omega,rfl,by rw[List.take_succ_eq_append_getElem ad,List.all_append,I];simp[D]⟩⟩
   ·exfalso;omega
  ·have cf:c=kU t:=by
    rcases bz with⟨rfl,k,dd,rfl,rfl,I⟩|⟨e,-,-⟩
    ·have:k=c.length:=by omega
     subst this
     rw[List.take_length]at I
     exact(A9 I).symm
    ·exact e
   rw[cf]
   rw[vE]at hV
   clear bz cf h
   generalize kU t=u at*
   intro k6 c3 dg c0
   have ce:=(c0▸au H _:bW H c3)
   have c8:=ah Y ce Y.size
   obtain⟨b1,dr,a8,ck⟩:=eB.store0 (P:=prog) (cs:=qn (1,[])) rfl (sU _) (av.new dg c0:av c3 k6 aG (qn (0,[]))) rfl
   have d1:=D.lt
   have ag:k2≠k6:=by omega
   have ac:w.heap.size <=k6:=by have:=Y.size;omega
   have ar:=(D.below ce).grown ck (bw ag)
   have bb:=Below.put c8 ck ac
   refine⟨b1,dr,?_⟩
   refine⟨λn w'=>∃k,gW s=Hr k (dR n)/\n.length <=u.length/\av w' k6 aG (qn (k,[]))/\av w' k2 aG (qn (0,[]))/\bW w w',?_,?_⟩
   ·refine az (dM u [33] b1) ?_
    rintro _ b2 ⟨rfl,U⟩
    rw[U];clear U
    refine⟨_,rfl,ai.of (λq=>?_) (λq=>?_)⟩
    ·rw[if_pos q]at hV
     obtain⟨V,bs,a9,O⟩:=a8.put (P:=prog) fk (i:=0) (v:=vI 3) (by decide) rfl rfl
     have dk:1 <=u.length:=by have:=Lib.hasPrefix_le q;simpa using this
     refine⟨rfl,V,bs,⟨by decide,by omega⟩,?_⟩
     rintro _ rfl
     exact⟨3,hV,by simp,a9,ar.grown O (bw ag),Below.put bb O ac⟩
    rw[if_neg (by rw[q];decide)]at hV
    refine az (dM u [42,46] b1) ?_
    rintro _ b2 ⟨rfl,U⟩
    rw[U];clear U
    refine⟨_,rfl,ai.of (λE=>?_) (λE=>?_)⟩
    ·rw[if_pos E]at hV
     obtain⟨V,bs,a9,O⟩:=a8.put (P:=prog) fk (i:=0) (v:=vI 2) (by decide) rfl rfl
     have dk:2 <=u.length:=by have:=Lib.hasPrefix_le E;simpa using this
     refine⟨rfl,V,bs,⟨by decide,by omega⟩,?_⟩
     rintro _ rfl
     exact⟨2,hV,by simp,a9,ar.grown O (bw ag),Below.put bb O ac⟩
    ·rw[if_neg (by rw[E];decide)]at hV
     exact⟨1,hV,Nat.le_refl _,a8,ar,bb⟩
   ·intro n
    refine aP.of ?_ _
    rintro b2 ⟨k,hV,cn,c7,c6,cb⟩
    refine az (fB n (by omega) b2) ?_
    rintro _ V ⟨rfl,bk⟩
    have cc:=ah cb bk cb.size
    rw[lS]
    refine⟨_,_,rfl,?_⟩
    have aj:=rf λx e=>mg (s:=n) e
    refine aO.new (zs:=nG.cells) (cs:=((dR n).getD nG).cells) rfl (Hst.len aj) (Hst.one _) V λd4 b0 d0 M bj=>?_
    have X:=ah cc bj cc.size
    have b8:=(c6.below bk).below bj
    have b9:=(c7.below bk).below bj
    refine cw (λw'=>∃h:Hst,dR n=some h/\gW s=((k,h.name),true,0)/\bW b0 w') ?_ ?_
    ·refine qs (λb w'=>b=decide (gW s=((0,[]),false,51))/\bW b0 w'/\(b=false->∃h:Hst,dR n=some h/\gW s=((k,h.name),true,0))) ?_ ?_
     ·cases bq:dR n with
      |none=>
       rw[bq]at hV
       exact ai.yes rfl ⟨by rw[hV];rfl,Below.refl _ _,λe=>by cases e⟩
      |some h=>
       rw[bq]at hV M aj
       have hV:gW s=if h.kind=1/\ ¬ (k=3/\(ay h).length<2)then((k,h.name),true,0)else((0,[]),false,51):=hV
       have b3: ¬ (h.kind=1/\ ¬ (k=3/\(ay h).length<2))->(true:Bool)=decide (gW s=((0,[]),false,51)):=λe=>by rw[hV,if_neg e];rfl
       have b7:(h.kind=1/\ ¬ (k=3/\(ay h).length<2))->(false:Bool)=decide (gW s=((0,[]),false,51))/\(∃h':Hst,some h=some h'/\gW s=((k,h'.name),true,0)):=λe=>by
        rw[hV,if_pos e];exact⟨(decide_eq_false (by intro e;have:=congrArg (λz=>z.2.1) e;cases this)).symm,h,rfl,rfl⟩
       refine ai.no rfl ⟨rfl,_,M.load1 br rfl rfl,ai.of (λq=>⟨b3 λe=>?_,Below.refl _ _,λe=>by cases e⟩) (λq=>?_)⟩
       ·have q:(h.kind !=1)=true:=q
        rw[e.1]at q;simp at q
       have q:(h.kind !=1)=false:=q
       have q:h.kind=1:=by simpa using q
       refine⟨rfl,_,b9.load1 br rfl rfl,ai.of (λE=>?_) (λE=>?_)⟩
       ·have E:k=3:=eq_of_beq E
        refine⟨_,aO.load0 M (Hst.len aj),?_⟩
        have cn:h.name.length <=80000000:=by have:=qm bq;omega
        refine az (bJ aj cn b0) ?_
        rintro _ c1 ⟨a,l,c,rfl,dl,-,G⟩
        refine⟨_,_,_,rfl,?_⟩
        have cp:=dl.len
        simp only[Option.getD_some]at cp
        rw[cp]
        by_cases b4:(ay h).length<2
        ·try dsimp only
         rw[decide_eq_true (show(((ay h).length:Nat):Int)<2 by omega)]
         exact⟨b3 λe=>e.2 ⟨E,b4⟩,G,λe=>by cases e⟩
        ·try dsimp only
         rw[decide_eq_false (show ¬ (((ay h).length:Nat):Int)<2 by omega)]
         have g:=b7 ⟨q,λe=>b4 e.2⟩
         exact⟨g.1,G,λ_=>g.2⟩
       ·have g:=b7 ⟨q,λe=>by rw[e.1]at E;cases E⟩
        exact⟨g.1,Below.refl _ _,λ_=>g.2⟩
     ·rintro b c1 ⟨Z,G,dc⟩
      refine ai.of (λc=>?_) (λc=>?_)
      ·rw[c,eq_comm,dTx]at Z
       exact sS (0,[]) (b8.below G) rfl (ah X G X.size) bp λc4 bc=>⟨by rw[Z],bc⟩
      ·obtain⟨h,al,an⟩:=dc c
       exact⟨h,al,an,G⟩
    ·rintro c1 ⟨h,al,an,G⟩
     rw[al]at M
     refine⟨rfl,_,(M.below G).load1 ax rfl rfl,rfl,?_⟩
     obtain⟨c2,dn,a0,cj⟩:=(b9.below G).put (P:=prog) bS (i:=1) (v:=vS h.name) (show 1<2 by decide) rfl rfl
     have a0:av c2 k6 aG (qn (k,h.name)):=a0
     refine⟨c2,dn,_,_,eB.load0 a0 rfl,?_⟩
     exact sS (k,h.name) ((b8.below G).grown cj (bw ag)) rfl (Below.put (ah X G X.size) cj ac) bp λc4 bc=>⟨by rw[an],bc⟩
theorem nO (r:Rul)(a8:r.2.length <=80000000)(w:World):Cf eR #[Li r] w (Ret λv w'=>v=.bool (bQ r)/\bW w w'):=by
 obtain⟨k,n⟩:=r
 apply mz
 intro bb M ar Y
 have O:=(Y▸au w _:bW w M)
 have h1:av M bb aG (qn (k,n)):=av.new ar Y
 simp only at a8
 refine⟨_,_,eB.load0 h1 rfl,?_⟩
 refine az (pi (k,n) (by simp only;omega) M) ?_
 rintro _ bj ⟨rfl,H⟩
 have U:=ah O H O.size
 refine⟨_,rfl,?_⟩
 have bq:(sR k).length <=2:=by unfold sR;split;decide;split;decide;decide
 refine az (pg (lP (k,n)) (by unfold lP;simp;omega) bj) ?_
 rintro _ ac ⟨rfl,I⟩
 have D:=ah U I U.size
 refine⟨_,_,_,_,rfl,?_⟩
 intro bc ad a0 Z
 have V:=(Z▸au ac _:bW ac ad)
 have an:=ah D V D.size
 have G:bQ (k,n)=(((gW (lP (k,n))).2.2==0)&&((gW (lP (k,n))).2.1&&JY (gW (lP (k,n))).1 (k,n))):=rfl
 generalize gW (lP (k,n))=x at*
 obtain⟨r,b,bk⟩:=x
 obtain⟨ag,a9,al,X⟩:=eB.store0 (P:=prog) (cs:=qn r) rfl (sU _) (av.new a0 Z:av ad bc aG (qn (0,[]))) rfl
 have bp:=((h1.below H).below I).lt
 have aj:=(((h1.below H).below I).below V).grown X (bw (by omega))
 have E:=Below.put an X (by have:=D.size;omega)
 refine⟨ag,a9,ai.of (λe=>?_) (λe=>⟨by rw[G];simp only at e ⊢;rw[e];rfl,E⟩)⟩
 refine ai.of (λq=>?_) (λq=>⟨by rw[G];simp only at e q ⊢;rw[e,q];rfl,E⟩)
 refine⟨_,_,eB.load0 al rfl,_,_,eB.load0 aj rfl,_,Ml r (k,n) ag,?_,E⟩
 rw[G];simp only at e q ⊢;rw[e,q];rfl
theorem vX {h d:Hst}(E:h.ok)(H:d.ok)(I:(ay h).length≠0)(rd:(ay d).length≠0):
 lR h d=true ↔ (ay d).length<(ay h).length/\(ay d).reverse=(ay h).reverse.take (ay d).length:=by
 rw[oU E H]
 unfold tF
 rw[if_neg (λD=>D.elim I rd),Bool.and_eq_true,dTx,beq_iff_eq]
 obtain⟨⟨U,Y⟩,V⟩:=co E I
 obtain⟨⟨ac,ad⟩,M⟩:=co H rd
 obtain⟨-,-,O,-,-,-⟩:=ec E U Y
 have key:(ay d).reverse=(ay h).reverse.take (ay d).length/\(ay d).length<(ay h).length ↔ ∃A,A≠[]/\ay h=A++ay d:=by
  constructor
  ·rintro⟨h1,h2⟩
   rw[List.take_reverse]at h1
   have h1:=List.reverse_inj.1 h1
   refine⟨(ay h).take ((ay h).length-(ay d).length),?_,?_⟩
   ·intro e
    have:=congrArg List.length e
    rw[List.length_take,List.length_nil]at this;omega
   ·conv=>rhs;rhs;rw[h1]
    rw[List.take_append_drop]
  ·rintro⟨A,hA,e⟩
   have X:=List.length_pos_iff.2 hA
   rw[e]
   refine⟨?_,by simp;omega⟩
   rw[List.reverse_append,List.take_append_of_le_length (by simp),List.take_of_length_le (by simp)]
 rw[and_comm (a:=(ay d).length<_),key,V,M]
 constructor
 ·rintro⟨h1,h2⟩
  have Z:h.name=h.name.take (h.name.length-(d.name.length+1))++46::d.name:=by rw[<- h2,List.take_append_drop]
  refine⟨bY 46 [] (h.name.take (h.name.length-(d.name.length+1))),j7 46 _ [],?_⟩
  conv=>lhs;rw[Z]
  exact fE 46 _ _ _
 ·rintro⟨A,hA,e⟩
  have q:=eY 46 h.name []
  have G:=eY 46 d.name []
  rw[List.nil_append]at q G
  rw[e,lT 46 A _ hA (j7 46 d.name []),G]at q
  have X:0<(Lib.join A [46]).length:=by
   cases A with
   |nil=>exact absurd rfl hA
   |cons x A=>
    rw[Lib.join_cons,List.length_append]
    have D:x∈bY 46 [] h.name:=by rw[e];simp
    have:=List.all_eq_true.1 O x D
    unfold o0 at this
    rw[Bool.and_eq_true,Bool.and_eq_true,dTx]at this
    have:=this.1.1
    omega
  rw[<- q]
  refine⟨by simp;omega,?_⟩
  rw[List.length_append,List.length_cons,Nat.add_sub_cancel,List.drop_left]
theorem Ga {h d:Hst}(D:h.ok)(q:d.ok)(Y:(ay h).length≠0)(rd:(ay d).length≠0):iU h d=true ↔ ay h=ay d:=by
 rw[fC D q]
 refine⟨λe=>by rw[e],λe=>?_⟩
 obtain⟨⟨U,X⟩,V⟩:=co D Y
 obtain⟨⟨I,O⟩,M⟩:=co q rd
 obtain⟨h1,-⟩:=ec D U X
 obtain⟨H,-⟩:=ec q I O
 rw[V,M]at e
 have E:=eY 46 h.name []
 have G:=eY 46 d.name []
 rw[List.nil_append]at E G
 rw[h1,H,<- E,<- G,e]
theorem vP (D:h.ok){r:Rul}(g:A4 r)(q:(ay h).length≠0):lR h (DZ r)=true ↔ (cC r).length<(ay h).reverse.length/\cC r=(ay h).reverse.take (cC r).length:=by
 have e:(ay (DZ r)).length=(cC r).length:=by rw[g.revl,List.length_reverse]
 rw[vX D (gQ r) q g.ne,<- g.revl,e,List.length_reverse]
theorem BN (D:h.ok){r:Rul}(g:A4 r)(q:(ay h).length≠0):iU h (DZ r)=true ↔ cC r=(ay h).reverse:=by
 rw[Ga D (gQ r) q g.ne,g.revl]
 exact⟨λe=>by rw[e],λe=>(List.reverse_inj.1 e).symm⟩
theorem BO {R:Pth}{r:Rul} :cC r=R.take (cC r).length ↔ ((cC r).length<R.length/\cC r=R.take (cC r).length)\/cC r=R:=by
 constructor
 ·intro h
  by_cases c:(cC r).length<R.length
  ·exact .inl ⟨c,h⟩
  ·refine .inr ?_
   have:=yC h
   rw[List.take_of_length_le (by omega)]at h;exact h
 ·rintro(h|h)
  ·exact h.2
  ·rw[h,List.take_length]
theorem gd {cu bs:Nat}{rs:List Rul}(cp:Sl sV w A p cu bs rs)(ea:rs.length <=1000000)(c9:∀r∈rs,r.2.length <=80000000)(H:h.ok)(cj:h.name.length <=80000000):
 Cf cO #[.slice p cu bs,h.v] w (Ret λv w'=>v=vI ((uK (rs.filter bQ) (ay h).reverse:Nat):Int)/\bW w w'):=by
 apply li
 intro dc bq c3 ct
 have b6:=(ct▸au w _:bW w bq)
 have b2:av bq dc ak h.cells:=av.new c3 ct
 refine⟨_,aO.load0 b2 (Hst.len H),?_⟩
 refine az (bJ H cj bq) ?_
 rintro _ dn ⟨d2,ei,d4,rfl,c7,-,cb⟩
 have an:=ah b6 cb b6.size
 have c6:=c7.len
 subst c6
 refine⟨_,_,_,rfl,ai.of (λO=>⟨?_,an⟩) (λO=>?_)⟩
 ·have:ay h=[]:=List.length_eq_zero_iff.1 (by have:=eq_of_beq O;omega)
  rw[this];rfl
 have bk:(ay h).length≠0:=by have:=beq_eq_false_iff_ne.1 O;omega
 have c2:(ay h).reverse≠[]:=λD=>bk (by rw[List.reverse_eq_nil_iff.1 D];rfl)
 have b3:=b2.below cb
 have c5:=cp.len
 subst c5
 refine⟨λm c0 bz i w'=>∃k:Nat,k <=rs.length/\i=(k:Int)/\m=rs.length-k/\c0=((FY ((rs.take k).filter bQ) (ay h).reverse:Nat):Int)/\bz=((FM ((rs.take k).filter bQ) (ay h).reverse:Nat):Int)/\bW dn w',⟨_,0,by omega,rfl,rfl,rfl,rfl,Below.refl _ _⟩,?_⟩
 intro m c0 bz i
 refine aP.of ?_ _
 rintro dr ⟨k,d7,rfl,rfl,rfl,rfl,a8⟩
 have Y:=ah an a8 an.size
 refine ai.of (λbj=>?_) (λbj=>?_) <;> simp only[dTx,dFx]at bj
 ·have ac:k<rs.length:=by omega
  have cr:=cp.below Y
  have c4:=c9 _ (List.getElem_mem ac)
  refine⟨⟨⟨by omega,bj⟩,cr.isSome ac⟩,_,_,xh cr ac,?_⟩
  have V:(rs.take (k+1)).filter bQ=(rs.take k).filter bQ++(if bQ rs[k]=true then[rs[k]]else[]):=by
   rw[List.take_succ_eq_append_getElem ac,List.filter_append]
   congr 1
   rw[List.filter_cons,List.filter_nil]
  generalize rs[k]=r at*
  refine eB.new (zs:=qn (0,[])) (cs:=qn r) rfl rfl (sU r) dr λeg ds d9 b5 cf=>?_
  have d5:=ah Y cf Y.size
  have ce:=ah a8 cf a8.size
  refine⟨_,_,eB.load0 b5 rfl,?_⟩
  refine az (nO r c4 ds) ?_
  rintro _ d0 ⟨rfl,ch⟩
  have bc:=ah ce ch ce.size
  have al:=b5.below ch
  refine⟨_,rfl,ai.of (λM=>?_) (λM=>?_)⟩
  ·rw[Bool.not_eq_true']at M
   rw[if_neg (by rw[M];decide),List.append_nil]at V
   exact⟨rs.length-(k+1),by omega,k+1,by omega,by rw[wrap_i64 (by omega) (by omega)];omega,rfl,by rw[V],by rw[V],bc⟩
  rw[Bool.not_eq_false']at M
  rw[if_pos M]at V
  have g:=Ea M
  have b8:FY ((rs.take (k+1)).filter bQ) (ay h).reverse=xw (ay h).reverse (FY ((rs.take k).filter bQ) (ay h).reverse) r:=by
   rw[V];unfold FY;rw[List.foldl_append];rfl
  have b7:FM ((rs.take (k+1)).filter bQ) (ay h).reverse=Ew (ay h).reverse (FM ((rs.take k).filter bQ) (ay h).reverse) r:=by
   rw[V];unfold FM;rw[List.foldl_append];rfl
  generalize FY ((rs.take k).filter bQ) (ay h).reverse=G at*
  generalize FM ((rs.take k).filter bQ) (ay h).reverse=ee at*
  have X:=vP H g bk
  have cl:=BN H g bk
  have ad:=BO (R:=(ay h).reverse) (r:=r)
  have cn:(cC r).length=(bY 46 [] r.2).length:=by unfold cC;rw[List.length_reverse]
  have eb:=zV (r:=r)
  refine⟨rfl,_,al.load1 ax rfl rfl,?_⟩
  refine az (eH r.2 46 (by omega) d0) ?_
  rintro _ dg ⟨d1,el,d3,rfl,c8,-,ar⟩
  have cc:=ah bc ar bc.size
  have ck:=c8.len
  rw[<- cn]at ck
  subst ck
  have d6:(cC r).length <=254:=by rw[cn];have:=jQ 46 r.2 [];have:=g.len;omega
  refine⟨_,_,_,rfl,rfl,_,(al.below ar).load1 ax rfl rfl,?_⟩
  refine aO.new (zs:=nG.cells) (cs:=(DZ r).cells) rfl rfl (Hst.one _) dg λef dk d8 b0 b9=>?_
  have a9:=ah cc b9 cc.size
  refine⟨_,aO.load0 (b3.below a9) (Hst.len H),_,aO.load0 b0 (Hst.len (gQ r)),?_⟩
  refine az (hZ H (gQ r) cj (show r.2.length <=80000000 by have:=g.len;omega) dk) ?_
  rintro _ I ⟨rfl,a0⟩
  have bb:=ah a9 a0 a9.size
  have c1:=(((al.below ar).below b9).below a0)
  have b4:=b3.below bb
  have b1:=b0.below a0
  refine⟨_,rfl,?_⟩
  have bp:=c1.load1 (P:=prog) (i:=0) br rfl rfl
  generalize ed:lR h (DZ r)=ag at*
  refine⟨λn w'=>w'=I/\n=(((if r.1=1/\cC r=(ay h).reverse.take (cC r).length then max G (cC r).length else G):Nat):Int),?_,?_⟩
  ·refine eJ (w:=I) (decide (r.1=1/\cC r=(ay h).reverse.take (cC r).length)) ?_ ?_
   ·refine⟨rfl,_,bp,ai.of (λe=>?_) (λe=>⟨rfl,(decide_eq_false (λE=>beq_eq_false_iff_ne.1 e E.1)).symm⟩)⟩
    have e:=eq_of_beq e
    refine ai.of (λq=>⟨rfl,(decide_eq_true ⟨e,ad.2 (.inl (X.1 q))⟩).symm⟩) (λq=>?_)
    refine⟨_,aO.load0 b4 (Hst.len H),_,aO.load0 b1 (Hst.len (gQ r)),_,qD H (gQ r) I,rfl,?_⟩
    rw[Bool.eq_iff_iff,dTx,cl,ad]
    exact⟨λD=>⟨e,.inr D⟩,λD=>D.2.elim (λD=>by rw[X.2 D]at q;cases q) id⟩
   ·refine ai.of (λe=>?_) (λe=>⟨rfl,by rw[if_neg (of_decide_eq_false e)]⟩)
    refine⟨_,run_max_int2 _ _ _ _ _ _ _,rfl,?_⟩
    rw[if_pos (of_decide_eq_true e)]
    split <;> omega
  intro de
  refine aP.of ?_ _
  rintro dl ⟨Z,rfl⟩
  rw[Z];clear Z
  refine⟨λn w'=>w'=I/\n=((xw (ay h).reverse G r:Nat):Int),?_,?_⟩
  ·have U:xw (ay h).reverse G r=if r.1=2/\ag=true then max (if r.1=1/\cC r=(ay h).reverse.take (cC r).length then max G (cC r).length else G) ((cC r).length+1)else(if r.1=1/\cC r=(ay h).reverse.take (cC r).length then max G (cC r).length else G):=by
    unfold xw
    by_cases e:r.1=1
    ·have dd: ¬ (r.1=2/\ag=true):=λE=>by rw[e]at E;exact absurd E.1 (by decide)
     rw[if_neg dd]
     by_cases q:cC r=(ay h).reverse.take (cC r).length
     ·rw[if_pos q,if_pos e,if_pos ⟨e,q⟩]
     ·rw[if_neg q,if_neg (show ¬ (r.1=1/\cC r=(ay h).reverse.take (cC r).length) from λE=>q E.2)]
    ·rw[if_neg (show ¬ (r.1=1/\cC r=(ay h).reverse.take (cC r).length) from λE=>e E.1)]
     by_cases q:r.1=2/\ag=true
     ·have:=X.1 q.2
      rw[if_pos q,if_pos this.2,if_neg e,if_pos ⟨q.1,this.1⟩]
     ·rw[if_neg q]
      by_cases aj:cC r=(ay h).reverse.take (cC r).length
      ·rw[if_pos aj,if_neg e,if_neg (λE=>q ⟨E.1,X.2 ⟨E.2,aj⟩⟩)]
      ·rw[if_neg aj]
   rw[U]
   generalize (if r.1=1/\cC r=(ay h).reverse.take (cC r).length then max G (cC r).length else G)=ek
   refine eJ (w:=I) (decide (r.1=2/\ag=true)) ?_ ?_
   ·refine⟨rfl,_,bp,ai.of (λe=>⟨rfl,?_⟩) (λe=>⟨rfl,(decide_eq_false (λE=>beq_eq_false_iff_ne.1 e E.1)).symm⟩)⟩
    rw[Bool.eq_iff_iff,dTx]
    exact⟨λD=>⟨eq_of_beq e,D⟩,λD=>D.2⟩
   ·refine ai.of (λe=>?_) (λe=>⟨rfl,by rw[if_neg (of_decide_eq_false e)]⟩)
    refine⟨_,run_max_int2 _ _ _ _ _ _ _,rfl,?_⟩
    rw[if_pos (of_decide_eq_true e),wrap_i64 (by omega) (by omega)]
    split <;> omega
  intro de
  refine aP.of ?_ _
  rintro dl ⟨Z,rfl⟩
  rw[Z];clear Z
  refine eJ (w:=I) (decide (cC r=(ay h).reverse.take (cC r).length/\r.1=3)) ?_ ?_
  ·refine⟨rfl,_,bp,ai.of (λe=>?_) (λe=>⟨rfl,(decide_eq_false (λE=>beq_eq_false_iff_ne.1 e E.2)).symm⟩)⟩
   have e:=eq_of_beq e
   refine ai.of (λq=>⟨rfl,(decide_eq_true ⟨ad.2 (.inl (X.1 q)),e⟩).symm⟩) (λq=>?_)
   refine⟨_,aO.load0 b4 (Hst.len H),_,aO.load0 b1 (Hst.len (gQ r)),_,qD H (gQ r) I,rfl,?_⟩
   rw[Bool.eq_iff_iff,dTx,cl,ad]
   exact⟨λD=>⟨.inr D,e⟩,λD=>D.1.elim (λD=>by rw[X.2 D]at q;cases q) id⟩
  ·have U:Ew (ay h).reverse ee r=if cC r=(ay h).reverse.take (cC r).length/\r.1=3 then max ee ((cC r).length-1)else ee:=rfl
   refine ai.of (λe=>?_) (λe=>?_)
   ·rw[if_pos (of_decide_eq_true e)]at U
    refine⟨_,run_max_int2 _ _ _ _ _ _ _,rs.length-(k+1),by omega,k+1,by omega,by rw[wrap_i64 (by omega) (by omega)];omega,rfl,by rw[b8],?_,bb⟩
    rw[b7,U,wrap_i64 (by omega) (by omega)]
    split <;> omega
   ·rw[if_neg (of_decide_eq_false e)]at U
    exact⟨rs.length-(k+1),by omega,k+1,by omega,by rw[wrap_i64 (by omega) (by omega)];omega,rfl,by rw[b8],by rw[b7,U],bb⟩
 ·have:k=rs.length:=by omega
  subst this
  rw[List.take_length]
  unfold uK
  rw[if_neg c2]
  refine ai.of (λO=>⟨?_,Y⟩) (λO=>⟨?_,Y⟩) <;> simp only[gt_iff_lt,dTx,dFx]at O
  ·rw[if_pos (by omega)]
  ·rw[if_neg (by omega)]
theorem mh {rs:List Rul}(ad:Sl sV w A p n m rs)(X:rs.length <=1000000)(ac:∀r∈rs,r.2.length <=80000000)(q:h.ok)(M:h.name.length <=80000000):
 Cf ej #[.slice p n m,h.v] w (Ret λv w'=>v=.bool (vf (rs.filter bQ) h)/\bW w w'):=by
 apply kZ
 intro ag D V O
 have G:=(O▸au w _:bW w D)
 have E:av D ag ak h.cells:=av.new V O
 refine⟨_,aO.load0 E (Hst.len q),?_⟩
 refine az (bJ q M D) ?_
 rintro _ ar ⟨aj,an,al,rfl,Z,-,H⟩
 have e:=ah G H G.size
 refine⟨_,_,_,rfl,?_⟩
 have Y:=Z.len
 subst Y
 unfold vf
 refine ai.of (λI=>?_) (λI=>⟨?_,e⟩) <;> simp only[gt_iff_lt,dTx,dFx]at I
 ·refine⟨_,aO.load0 (E.below H) (Hst.len q),?_⟩
  refine az (gd (ad.below e) X ac q M) ?_
  rintro _ a0 ⟨rfl,U⟩
  refine⟨_,rfl,?_,ah e U e.size⟩
  try dsimp only
  rw[decide_eq_true (show 0<(ay h).length by omega),Bool.true_and]
  congr 1
  rw[Bool.eq_iff_iff,beq_iff_eq,beq_iff_eq];omega
 ·try dsimp only
  rw[decide_eq_false (show ¬ 0<(ay h).length by omega),Bool.false_and]
theorem xX (key v:List UInt8)(h:Hdr):a7 key v (a6 key (a5 key (a4 key v (a3 key v (a2 key v (a1 key v h))))))=jS h key v:=by
 unfold jS a7 a6 a5 a4 a3 a2 a1
 by_cases h1:key=kE
 ·have X: ¬ key=kA:=by rw[h1];decide
  have U: ¬ key=kD:=by rw[h1];decide
  have M: ¬ key=kP:=by rw[h1];decide
  have H: ¬ key=kS:=by rw[h1];decide
  have E: ¬ key=kH:=by rw[h1];decide
  have q: ¬ key=kM:=by rw[h1];decide
  simp only[if_neg X,if_neg U,if_neg M,if_neg H,if_neg E,if_neg q,if_pos h1]
 by_cases e:key=kA
 ·have U: ¬ key=kD:=by rw[e];decide
  have M: ¬ key=kP:=by rw[e];decide
  have H: ¬ key=kS:=by rw[e];decide
  have E: ¬ key=kH:=by rw[e];decide
  have q: ¬ key=kM:=by rw[e];decide
  simp only[if_neg U,if_neg M,if_neg H,if_neg E,if_neg q,if_neg h1,if_pos e]
  cases Ce v <;> rfl
 by_cases D:key=kD
 ·have M: ¬ key=kP:=by rw[D];decide
  have H: ¬ key=kS:=by rw[D];decide
  have E: ¬ key=kH:=by rw[D];decide
  have q: ¬ key=kM:=by rw[D];decide
  simp only[if_neg M,if_neg H,if_neg E,if_neg q,if_neg h1,if_neg e,if_pos D]
 by_cases G:key=kP
 ·have H: ¬ key=kS:=by rw[G];decide
  have E: ¬ key=kH:=by rw[G];decide
  have q: ¬ key=kM:=by rw[G];decide
  simp only[if_neg H,if_neg E,if_neg q,if_neg h1,if_neg e,if_neg D,if_pos G]
 by_cases I:key=kS
 ·have E: ¬ key=kH:=by rw[I];decide
  have q: ¬ key=kM:=by rw[I];decide
  simp only[if_neg E,if_neg q,if_neg h1,if_neg e,if_neg D,if_neg G,if_pos I]
 by_cases O:key=kH
 ·have q: ¬ key=kM:=by rw[O];decide
  simp only[if_neg q,if_neg h1,if_neg e,if_neg D,if_neg G,if_neg I,if_pos O]
 by_cases V:key=kM
 ·simp only[if_neg h1,if_neg e,if_neg D,if_neg G,if_neg I,if_neg O,if_pos V]
 simp only[if_neg h1,if_neg e,if_neg D,if_neg G,if_neg I,if_neg O,if_neg V]
theorem yq (v:List UInt8):(cN v).head?=some 46 ↔ v.head?=some 46:=by
 cases v with
 |nil=>simp[cN]
 |cons c r=>
  have h:∀n,n<256->(EE (UInt8.ofNat n)=46 ↔ UInt8.ofNat n=46):=by decide+kernel
  have:=h c.toNat (by have:=c.toNat_lt;omega)
  rw[UInt8.ofNat_toNat]at this
  simpa[cN]using this
theorem yp (v:List UInt8)(k:Nat):(cN v).drop k=cN (v.drop k):=by unfold cN;rw[List.map_drop]
theorem sf (v:List UInt8):(cN v).length=v.length:=by simp[cN]
structure Stg (w0:World)(t ts:TypeId)(k6 k2:Nat)(a:Option Addr)(n c:Nat)(L:List (List UInt8))(h:Hdr)(w:World):Prop where
 hh:av w k6 t h.cells
 h2:av w k2 t iJ.cells
 ho:Ow tS ts w NoB a n c L
 hb:bW w0 w
 hne:k2≠k6
 hog:∀g,j0 a=some g->g≠k6
 hk6:w0.heap.size <=k6
theorem Stg.below {w0:World}{t E:TypeId}{D q:Nat}{a:Option Addr}{n c:Nat}{L:List (List UInt8)}{h:Hdr}{w w':World}(S:Stg w0 t E D q a n c L h w)(e:bW w w'):Stg w0 t E D q a n c L h w':=
 ⟨S.hh.below e,S.h2.below e,S.ho.below e,ah S.hb e S.hb.size,S.hne,S.hog,S.hk6⟩
theorem Stg.put {u:TypeId}{bytes:Nat}{z:Value}(V:TF P u 1 bytes z){w0:World}{t H:TypeId}{E G:Nat}{a:Option Addr}{n c:Nat}{L:List (List UInt8)}{h h':Hdr}(S:Stg w0 t H E G a n c L h w)
 {v:Value} (O:i<11) (h1:v.oneCell'=true) (M:v.cells= #[v]) (e:h'.cells=h.cells.set i v):
 ∃wx,(Instr.storeAt u (.pointer (some ⟨E,i,none⟩)) v).run P w=.ok () wx/\Stg w0 t H E G a n c L h' wx:=by
 obtain⟨wx,U,I,D⟩:=S.hh.put V (i:=i) (v:=v) (by simpa[Hdr.cells]using O) h1 M
 refine⟨wx,U,e▸I,S.h2.grown D (λe=>S.hne (Option.some.inj e)),S.ho.keep (jR D λb q e=>?_),S.hb.grown D S.hb.size (λx e=>by cases e;exact S.hk6),S.hne,S.hog,S.hk6⟩
 rcases q with q|q
 ·exact q
 ·exact S.hog b q.symm (Option.some.inj e)
theorem Stg.get {u:TypeId}{d:TypeDesc}(D:P.underlying u=some d)(q:El d=false){w0:World}{t H:TypeId}{e G:Nat}{a:Option Addr}{n c:Nat}{L:List (List UInt8)}{h:Hdr}(S:Stg w0 t H e G a n c L h w)
 {v:Value} (E:h.cells[i]? =some v):(Instr.loadAt u (.pointer (some ⟨e,i,none⟩))).run P w=.ok v w:=S.hh.load1 D q E
theorem ic (s:List UInt8)(f1:s.length <=10000000)(w:World):Cf dA #[vS s] w (Ret (sj s w)):=by
 apply mE
 intro k2 b1 ef cb
 have b4:=(cb▸au w _:bW w b1)
 have c1:av b1 k2 aq iJ.cells:=av.new ef cb
 have bp:w.heap.size <=k2:=by omega
 have f2:b1.heap.size=w.heap.size+1:=by rw[cb];simp
 have post:∀{h:Hdr} {O:Int},bB s=(h,O)->∀wx,bW w wx->sj s w (.tuple #[h.v,vI O]) wx:=λek wx ag=>⟨by rw[ek],ag⟩
 refine⟨λm i w'=>∃k:Nat,k <=s.length/\i=(k:Int)/\m=s.length-k/\(s.take k).any jP=false/\w'=b1,⟨_,0,by omega,rfl,rfl,rfl,rfl⟩,?_⟩
 intro m i
 refine aP.of ?_ _
 rintro w' ⟨k,ee,rfl,rfl,aj,rfl⟩
 refine ai.of (λh=>?_) (λh=>?_) <;> simp only[dTx,dFx]at h
 ·have b7:k<s.length:=by omega
  have ar:(0 <=(k:Int)/\(k:Int)<((s.length:Nat):Int)):=⟨by omega,h⟩
  rw[byte_at b7]
  have d1:=fq s[k] 9
  have dr:=fq s[k] 127
  have ct:((((s[k].toNat:Nat):Int))==(127:Int))=(s[k]==127):=dr
  have d9:jP s[k]=((decide (((s[k].toNat:Nat):Int) <=8) || (decide (((s[k].toNat:Nat):Int) >=10)&&decide (((s[k].toNat:Nat):Int) <=31))) || (s[k]==127)):=by
   unfold jP
   congr 1
   rw[<- d1,Bool.eq_iff_iff]
   simp only[Bool.and_eq_true,Bool.or_eq_true,dTx,Bool.not_eq_true',beq_eq_false_iff_ne]
   have:((UInt8.toNat 9:Nat):Int)=9:=rfl
   rw[this]
   omega
  refine eJ (w:=w') (jP s[k]) ?_ ?_
  ·rw[d9]
   refine⟨ar,ai.of (λD=>?_) (λD=>?_)⟩
   ·exact⟨rfl,by rw[D];rfl⟩
   ·refine⟨ar,ai.of (λac=>?_) (λac=>?_)⟩
    ·refine⟨ar,ai.of (λad=>?_) (λad=>?_)⟩
     ·exact⟨rfl,by rw[D,ac,ad];rfl⟩
     ·exact⟨ar,rfl,by rw[D,ac,ad,ct];rfl⟩
    ·exact⟨ar,rfl,by rw[D,ac,ct];rfl⟩
  ·refine ai.of (λD=>?_) (λD=>?_)
   ·refine pa iJ c1 rfl b4 bp (post ?_)
    have:s.any jP=true:=List.any_eq_true.2 ⟨_,List.getElem_mem b7,D⟩
    unfold bB;rw[if_pos this]
   ·exact⟨s.length-(k+1),by omega,k+1,by omega,by rw[wrap_i64 (by omega) (by omega)];omega,rfl,by rw[List.take_succ_eq_append_getElem b7,List.any_append,aj];simp[D],rfl⟩
 ·have:k=s.length:=by omega
  subst this
  rw[List.take_length]at aj
  have d5: ¬ s.any jP=true:=by rw[aj];decide
  clear aj ee h
  refine az (eH s 59 (by omega) w') ?_
  rintro _ an ⟨a,n,c,rfl,a8,fb,c3⟩
  have b5:=ah b4 c3 b4.size
  have c2:=c1.below c3
  refine⟨_,_,_,rfl,?_⟩
  have eg:=a8.len
  obtain⟨fn,bk⟩:=wJ s
  have dc:∀x∈bY 59 [] s,x.length <=s.length:=λx ce=>by simpa using tg 59 s [] x ce
  have al:bB s=if(nameOf ((bY 59 [] s).headD [])).1++(nameOf ((bY 59 [] s).headD [])).2=[]then(iJ,82)
   else if 4096<(nameOf ((bY 59 [] s).headD [])).1.length+(nameOf ((bY 59 [] s).headD [])).2.length then(iJ,83)
   else(((bY 59 [] s).drop 1).foldl cW { iJ with name:=(nameOf ((bY 59 [] s).headD [])).1,value:=(nameOf ((bY 59 [] s).headD [])).2 },0):=by
   unfold bB;rw[if_neg d5]
  have e7:=jQ 59 s []
  generalize bY 59 [] s=L at*
  have X:0<L.length:=by omega
  subst eg
  have dg:=a8.all.isSome X
  have Y:∀{u:World},bW an u->(Instr.loadAt ao (.pointer (aw a (0:Int) 1))).run prog u=.ok (vS (L.headD [])) u:=λI=>by
   have:=kl (a8.below I).all X
   rw[bk X]at this;exact this
  have ey:=dc _ (List.getElem_mem X)
  rw[bk X]at ey
  generalize L.headD []=x0 at*
  have fr:=sp x0
  have fs:=so x0
  have a0:(0 <=(0:Int)/\(0:Int)<((L.length:Nat):Int))/\Option.isSome a=true:=⟨⟨by decide,by omega⟩,dg⟩
  have fo:=c2.lt
  refine⟨λp w'=>∃k6:Nat,p=some ⟨k6,0,none⟩/\Stg w aq ao k6 k2 a L.length c L { iJ with name:=dE x0,value:=du x0 } w',?_,?_⟩
  ·
   have d4:∀{k6:Nat} {u:World},av u k6 aq iJ.cells->an.heap.size <=k6->bW an u->∃wx:World,(Instr.storeAt aq (.pointer (some ⟨k6,0,none⟩)) ({ iJ with name:=dE x0,value:=du x0 } :Hdr).v).run prog u=.ok () wx/\
    ∃dk:Nat,(some ⟨k6,0,none⟩:Option Addr)=some ⟨dk,0,none⟩/\Stg w aq ao dk k2 a L.length c L { iJ with name:=dE x0,value:=du x0 } wx:=by
    intro k6 u c6 bq I
    have c0:=ah b5 I b5.size
    have e5:=b5.size
    have dd:k2≠k6:=by omega
    have de:∀g,j0 a=some g->g≠k6:=λg ea O=>by have:=a8.lt g ea;omega
    obtain⟨wx,ev,eb,b6⟩:=za { iJ with name:=dE x0,value:=du x0 } c6 rfl
    refine⟨wx,ev,k6,rfl,eb,(c2.below I).grown b6 (λO=>dd (Option.some.inj O)),(a8.below I).keep (jR b6 λb ag O=>?_),c0.grown b6 c0.size (λx O=>by cases O;omega),dd,de,by omega⟩
    rcases ag with ag|ag
    ·exact ag
    ·exact de b ag.symm (Option.some.inj O)
   have c5:=bD an
   refine⟨a0,a0,?_⟩
   repeat' (first
    |exact d4 (by assumption) (by assumption) (by assumption)
    |refine And.intro ?_ ?_
    |refine Exists.intro _ (And.intro (Y (by assumption)) ?_)
    |(refine az (ii x0 (by omega) _) ?_;rintro _ _ ⟨rfl,rfl⟩;refine Exists.intro _ (And.intro rfl ?_))
    |(refine az (ig x0 (by omega) _) ?_;rintro _ _ ⟨rfl,rfl⟩;refine Exists.intro _ (And.intro rfl ?_))
    |(intro k6 w6 bq cc;have c6:av w6 k6 aq iJ.cells:=av.new bq cc;have fm:an.heap.size <=k6:=(by rw[bq];exact Nat.le_refl _);have e6:bW an w6:=(by rw[cc];exact ah c5 (au _ _) c5.size);clear bq cc))
  ·intro f7
   refine aP.of ?_ _
   rintro gc ⟨k6,rfl,bb⟩
   simp only[Ad]
   have E:Option.isSome (some (⟨k6,0,none⟩:Addr))=true:=rfl
   clear Y
   refine cw (λw'=>Stg w aq ao k6 k2 a L.length c L { iJ with name:=(nameOf x0).1,value:=(nameOf x0).2 } w') ?_ ?_
   ·have Y:∀{u:World},Stg w aq ao k6 k2 a L.length c L { iJ with name:=dE x0,value:=du x0 } u->∀{u':World},bW u u'->(Instr.loadAt ao (.pointer (aw a (0:Int) 1))).run prog u'=.ok (vS x0) u':=fun{u} S {u'} I=>by
     have:=kl (S.ho.below I).all X
     rw[bk X]at this;exact this
    have f3:=bN (· !=(61:UInt8)) x0
    refine⟨a0,x0,λu I=>Y bb I,((x0.takeWhile (· !=61)).length:Nat),λu I=>?_,a0,x0,λu I=>Y bb I,?_⟩
    ·refine(gh x0 (by omega) u).mono ?_
     rintro _ u' ⟨_,rfl,rfl,rfl⟩
     exact⟨rfl,Below.refl _ _⟩
    ·intro ge el
     have cr:=bb.below el
     refine ai.of (λD=>?_) (λD=>?_)
     ·rw[beq_iff_eq]at D
      have aj:(61:UInt8) ∉ x0:=λbs=>by have:=qB bs;omega
      have b8:nameOf x0=([],dE x0):=by unfold nameOf xI;rw[decide_eq_false aj];rfl
      have d6:dE x0=cq x0:=by unfold dE;rw[(zK aj).1]
      obtain⟨w6,es,M⟩:=cr.put (P:=prog) bS (i:=0) (v:=vS []) (by decide) rfl rfl (h':= { iJ with name:=[],value:=du x0 }) rfl
      refine⟨E,w6,es,a0,x0,?_,?_⟩
      ·have:=kl M.ho.all X
       rw[bk X]at this;exact this
      ·refine az (dB x0 (by omega) w6) ?_
       rintro _ w6 ⟨rfl,rfl⟩
       refine⟨_,rfl,E,?_⟩
       rw[b8,d6]
       exact M.put (P:=prog) bS (i:=1) (v:=vS (cq x0)) (by decide) rfl rfl rfl
     ·rw[beq_eq_false_iff_ne]at D
      have e1:(61:UInt8)∈x0:=by
       by_cases bs:(61:UInt8)∈x0
       ·exact bs
       ·exact absurd (by rw[(zK bs).1]) D
      have b8:nameOf x0=(dE x0,du x0):=by unfold nameOf xI;rw[decide_eq_true e1];rfl
      rw[b8];exact cr
   ·intro w6 M
    clear bb
    have fp:(nameOf x0).1.length <=s.length/\(nameOf x0).2.length <=s.length:=by
     unfold nameOf
     split
     ·exact⟨by simp only;omega,by simp only;omega⟩
     ·exact⟨by simp,by simp only;omega⟩
    generalize (nameOf x0).1=U at*
    generalize (nameOf x0).2=V at*
    have cf:=M.get (P:=prog) ax rfl (i:=0) (v:=vS U) rfl
    have cj:=M.get (P:=prog) ax rfl (i:=1) (v:=vS V) rfl
    refine iY (w:=w6) (¬ U++V=[]) ?_ ?_
    ·refine eJ (w:=w6) ((U==[])&&(V==[])) ?_ ?_
     ·refine⟨E,U,cf,?_⟩
      refine ai.of (λD=>?_) (λD=>?_)
      ·exact⟨E,V,cj,rfl,by rw[D];rfl⟩
      ·exact⟨rfl,by rw[D];rfl⟩
     ·refine ai.of (λD=>?_) (λD=>?_)
      ·rw[Bool.and_eq_true,beq_iff_eq,beq_iff_eq]at D
       rw[if_pos (by rw[D.1,D.2];rfl)]at al
       exact pa iJ M.h2 rfl M.hb bp (post al)
      ·refine⟨rfl,λO=>?_⟩
       have:=List.append_eq_nil_iff.1 O
       rw[this.1,this.2]at D;cases D
    ·intro D
     rw[if_neg D]at al
     refine⟨E,U,cf,E,V,cj,?_⟩
     rw[wrap_i64 (by omega) (by omega)]
     refine ai.of (λac=>?_) (λac=>?_) <;> simp only[gt_iff_lt,dTx,dFx]at ac
     ·rw[if_pos (by omega)]at al
      exact pa iJ M.h2 rfl M.hb bp (post al)
     rw[if_neg (by omega)]at al
     have e9:(L.drop 1).length=L.length-1:=List.length_drop ..
     refine⟨λm i w'=>∃j:Nat,1 <=j/\j <=L.length/\i=(j:Int)/\m=L.length-j/\Stg w aq ao k6 k2 a L.length c L (((L.drop 1).take (j-1)).foldl cW { iJ with name:=U,value:=V }) w',
      ⟨_,1,by omega,by omega,rfl,rfl,M⟩,?_⟩
     intro m i
     refine aP.of ?_ _
     rintro b2 ⟨j,fl,fd,rfl,rfl,Z⟩
     refine ai.of (λad=>?_) (λad=>?_) <;> simp only[dTx,dFx]at ad
     ·have c8:j<L.length:=by omega
      have ed:j-1<(L.drop 1).length:=by omega
      have d3:i64.wrap ((j:Int)+1)=((j+1:Nat):Int):=by rw[wrap_i64 (by omega) (by omega)];omega
      try dsimp only
      rw[d3]
      have e0:(L.drop 1)[j-1]=L[j]:=by rw[List.getElem_drop];congr 1;omega
      have ei:((L.drop 1).take (j+1-1)).foldl cW { iJ with name:=U,value:=V } =cW (((L.drop 1).take (j-1)).foldl cW { iJ with name:=U,value:=V }) L[j]:=by
       rw[show j+1-1=(j-1)+1 by omega,List.take_succ_eq_append_getElem ed,List.foldl_append,e0];rfl
      have f6:=dc _ (List.getElem_mem c8)
      have c7:(0 <=(j:Int)/\(j:Int)<((L.length:Nat):Int))/\Option.isSome a=true:=⟨⟨by omega,ad⟩,dg⟩
      have Y:∀{u:World},bW b2 u->(Instr.loadAt ao (.pointer (aw a (j:Int) 1))).run prog u=.ok (.string (mkS L[j])) u:=λI=>kl (Z.ho.below I).all c8
      refine⟨c7,_,Y (Below.refl _ _),?_⟩
      generalize L[j]=x at*
      generalize ((L.drop 1).take (j-1)).foldl cW { iJ with name:=U,value:=V } =H at*
      have fv:=sp x
      have f0:=so x
      refine az (ii x (by omega) b2) ?_
      rintro _ b2 ⟨rfl,rfl⟩
      refine⟨_,rfl,?_⟩
      refine az (cZ _ (by omega) b2) ?_
      rintro _ cp ⟨rfl,c4⟩
      refine⟨_,rfl,c7,x,Y c4,?_⟩
      refine az (ig x (by omega) cp) ?_
      rintro _ cp ⟨rfl,rfl⟩
      refine⟨_,rfl,?_⟩
      refine az (cZ _ (by omega) cp) ?_
      rintro _ e4 ⟨rfl,d8⟩
      refine⟨_,rfl,?_⟩
      have bc:=(Z.below c4).below d8
      clear Y Z M cf cj
      have next:∀{w':World},Stg w aq ao k6 k2 a L.length c L (cW H x) w'->∃bz:Nat,bz<L.length-j/\∃a9:Nat,1 <=a9/\a9 <=L.length/\((j+1:Nat):Int)=(a9:Int)/\bz=L.length-a9/\
       Stg w aq ao k6 k2 a L.length c L (((L.drop 1).take (a9-1)).foldl cW { iJ with name:=U,value:=V }) w':=λS=>⟨L.length-(j+1),by omega,j+1,by omega,by omega,rfl,rfl,by rw[ei];exact S⟩
      refine ai.of (λcu=>?_) (λcu=>?_) <;> simp only[gt_iff_lt,dTx,dFx]at cu
      ·refine next ?_
       unfold cW;rw[if_neg (by omega)];exact bc
      have et:cW H x=jS H (cN (dE x)) (du x):=by unfold cW;rw[if_pos (by omega)]
      rw[et,<- xX]at next
      have f5:(du x).length <=1024:=by omega
      generalize cN (dE x)=key at*
      generalize du x=v at*
      refine cw (λw'=>Stg w aq ao k6 k2 a L.length c L (a1 key v H) w') ?_ ?_
      ·unfold a1
       refine ai.of (λe=>?_) (λe=>?_)
       ·rw[beq_iff_eq]at e
        refine az (mi v (by omega) e4) ?_
        rintro _ ck ⟨rfl,d7⟩
        have S10:=bc.below d7
        rw[if_pos e]
        unfold ug
        by_cases bj:we (qh v)
        ·rw[if_pos bj,if_pos bj]
         refine⟨_,_,rfl,ai.yes rfl ⟨E,?_⟩⟩
         obtain⟨b0,b9,S11⟩:=S10.put (P:=prog) jY (i:=4) (v:=.bool true) (by decide) rfl rfl (h':= { H with hasE:=true }) rfl
         exact⟨b0,b9,E,S11.put (P:=prog) eF (i:=5) (v:=vI (rJ (qh v))) (by decide) rfl rfl rfl⟩
        ·rw[if_neg bj,if_neg bj]
         exact⟨_,_,rfl,ai.no rfl S10⟩
       ·rw[beq_eq_false_iff_ne]at e
        rw[if_neg e];exact bc
      intro ck S10
      clear bc
      refine cw (λw'=>Stg w aq ao k6 k2 a L.length c L (a2 key v (a1 key v H)) w') ?_ ?_
      ·unfold a2
       generalize a1 key v H=G at*
       refine ai.of (λe=>?_) (λe=>?_)
       ·rw[beq_iff_eq]at e
        refine az (qK v (by omega) ck) ?_
        rintro _ ck ⟨rfl,rfl⟩
        rw[if_pos e]
        unfold IP
        cases Ce v with
        |none=>exact⟨_,_,rfl,ai.no rfl S10⟩
        |some bz=>
         refine⟨_,_,rfl,ai.yes rfl ⟨E,?_⟩⟩
         obtain⟨b0,b9,S11⟩:=S10.put (P:=prog) jY (i:=6) (v:=.bool true) (by decide) rfl rfl (h':= { G with hasA:=true }) rfl
         exact⟨b0,b9,E,S11.put (P:=prog) eF (i:=7) (v:=vI bz) (by decide) rfl rfl rfl⟩
       ·rw[beq_eq_false_iff_ne]at e
        rw[if_neg e];exact S10
      intro b0 S11
      clear S10
      refine cw (λw'=>Stg w aq ao k6 k2 a L.length c L (a3 key v (a2 key v (a1 key v H))) w') ?_ ?_
      ·unfold a3
       generalize a2 key v (a1 key v H)=G at*
       refine ai.of (λe=>?_) (λe=>?_)
       ·rw[beq_iff_eq]at e
        rw[if_pos e]
        refine⟨E,?_⟩
        obtain⟨cl,em,S12⟩:=S11.put (P:=prog) bS (i:=2) (v:=vS (cN v)) (by decide) rfl rfl (h':= { G with domain:=cN v }) rfl
        refine⟨cl,em,?_⟩
        refine eJ (w:=cl) (decide (v.head?=some 46)) ?_ ?_
        ·rw[sf]
         refine ai.of (λq=>?_) (λq=>?_) <;> simp only[gt_iff_lt,dTx,dFx]at q
         ·have ex:0<v.length:=by omega
          have c9:0<(cN v).length:=by rw[sf];exact ex
          refine⟨⟨by decide,by omega⟩,rfl,?_⟩
          have d2:bm (cN v) 0=(((cN v)[0].toNat:Nat):Int):=byte_at c9
          rw[d2]
          have ds:=fq (cN v)[0] 46
          rw[show((((cN v)[0].toNat:Nat):Int)==(46:Int))=((cN v)[0]==46) from ds,Bool.eq_iff_iff,beq_iff_eq,dTx,<- yq,List.head?_eq_getElem?,List.getElem?_eq_getElem c9]
          simp
         ·have:v=[]:=List.eq_nil_of_length_eq_zero (by omega)
          subst this
          exact⟨rfl,rfl⟩
        ·refine ai.of (λq=>?_) (λq=>?_) <;> simp only[dTx,dFx]at q
         ·have f4:1 <=v.length:=by
           cases v with
           |nil=>cases q
           |cons y r=>simp
          refine⟨⟨by decide,by rw[sf];omega⟩,?_⟩
          rintro _ rfl
          have dn:Int.toNat (1:Int)=1:=rfl
          rw[dn,yp]
          refine⟨E,?_⟩
          rw[if_pos q]
          exact S12.put (P:=prog) bS (i:=2) (v:=vS (cN (v.drop 1))) (by decide) rfl rfl rfl
         ·rw[if_neg q];exact S12
       ·rw[beq_eq_false_iff_ne]at e
        rw[if_neg e];exact S11
      intro cl S12
      clear S11
      refine cw (λw'=>Stg w aq ao k6 k2 a L.length c L (a4 key v (a3 key v (a2 key v (a1 key v H)))) w') ?_ ?_
      ·unfold a4
       generalize a3 key v (a2 key v (a1 key v H))=G at*
       refine ai.of (λe=>?_) (λe=>?_)
       ·rw[beq_iff_eq]at e
        rw[if_pos e]
        refine⟨E,?_⟩
        obtain⟨cn,en,S13⟩:=S12.put (P:=prog) bS (i:=3) (v:=vS v) (by decide) rfl rfl (h':= { G with path:=v }) rfl
        refine⟨cn,en,?_⟩
        refine eJ (w:=cn) (!(v==[]) && !decide (v.head?=some 47)) ?_ ?_
        ·refine ai.of (λq=>?_) (λq=>?_)
         ·match v,q with
          |y::r,q=>
           refine⟨⟨by decide,by simp only[List.length_cons];omega⟩,rfl,?_⟩
           have ce:bm (y::r) 0=((y.toNat:Nat):Int):=rfl
           have d0:=fq y 47
           rw[ce,q,Bool.true_and]
           show(!((((y.toNat:Nat):Int))==((UInt8.toNat 47:Nat):Int)))=_
           rw[d0]
           congr 1
           rw[Bool.eq_iff_iff];simp
         ·exact⟨rfl,by rw[q];rfl⟩
        ·refine ai.of (λq=>?_) (λq=>?_)
         ·simp only[Bool.and_eq_true,Bool.not_eq_true',beq_eq_false_iff_ne,dFx]at q
          refine⟨E,?_⟩
          rw[if_neg q.2]
          exact S13.put (P:=prog) bS (i:=3) (v:=vS []) (by decide) rfl rfl rfl
         ·by_cases b3:v.head?=some 47
          ·rw[if_pos b3];exact S13
          ·rw[decide_eq_false b3,Bool.not_false,Bool.and_true]at q
           have ew:v=[]:=by simpa using q
           rw[if_neg b3]
           have:({ G with path:=v } :Hdr)= { G with path:=[] } :=by rw[ew]
           rw[<- this];exact S13
       ·rw[beq_eq_false_iff_ne]at e
        rw[if_neg e];exact S12
      intro cn S13
      clear S12
      refine cw (λw'=>Stg w aq ao k6 k2 a L.length c L (a5 key (a4 key v (a3 key v (a2 key v (a1 key v H))))) w') ?_ ?_
      ·unfold a5
       generalize a4 key v (a3 key v (a2 key v (a1 key v H)))=G at*
       refine ai.of (λe=>?_) (λe=>?_)
       ·rw[beq_iff_eq]at e
        rw[if_pos e]
        exact⟨E,S13.put (P:=prog) jY (i:=8) (v:=.bool true) (by decide) rfl rfl rfl⟩
       ·rw[beq_eq_false_iff_ne]at e
        rw[if_neg e];exact S13
      intro f8 S14
      clear S13
      refine cw (λw'=>Stg w aq ao k6 k2 a L.length c L (a6 key (a5 key (a4 key v (a3 key v (a2 key v (a1 key v H)))))) w') ?_ ?_
      ·unfold a6
       generalize a5 key (a4 key v (a3 key v (a2 key v (a1 key v H))))=G at*
       refine ai.of (λe=>?_) (λe=>?_)
       ·rw[beq_iff_eq]at e
        rw[if_pos e]
        exact⟨E,S14.put (P:=prog) jY (i:=9) (v:=.bool true) (by decide) rfl rfl rfl⟩
       ·rw[beq_eq_false_iff_ne]at e
        rw[if_neg e];exact S14
      intro f9 S15
      clear S14
      generalize a6 key (a5 key (a4 key v (a3 key v (a2 key v (a1 key v H)))))=G at*
      unfold a7 at next
      refine ai.of (λe=>?_) (λe=>?_)
      ·rw[beq_iff_eq]at e
       rw[if_pos e]at next
       refine⟨E,?_⟩
       obtain⟨e2,eq,S16⟩:=S15.put (P:=prog) fk (i:=10) (v:=vI 0) (by decide) rfl rfl (h':= { G with same:=0 }) rfl
       refine⟨e2,eq,?_⟩
       unfold Dn at next
       generalize cN v=ch at*
       refine cw (λw'=>Stg w aq ao k6 k2 a L.length c L { G with same:=if ch=[110,111,110,101]then 1 else 0 } w') ?_ ?_
       ·refine ai.of (λq=>?_) (λq=>?_)
        ·rw[beq_iff_eq]at q
         rw[if_pos q]
         exact⟨E,S16.put (P:=prog) fk (i:=10) (v:=vI 1) (by decide) rfl rfl rfl⟩
        ·rw[beq_eq_false_iff_ne]at q
         rw[if_neg q];exact S16
       intro ga S17
       refine cw (λw'=>Stg w aq ao k6 k2 a L.length c L { G with same:=if ch=[110,111,110,101]then 1 else if ch=[108,97,120]then 2 else 0 } w') ?_ ?_
       ·refine ai.of (λq=>?_) (λq=>?_)
        ·rw[beq_iff_eq]at q
         rw[if_neg (by rw[q];decide),if_pos q]
         exact⟨E,S17.put (P:=prog) fk (i:=10) (v:=vI 2) (by decide) rfl rfl rfl⟩
        ·rw[beq_eq_false_iff_ne]at q
         rw[if_neg q];exact S17
       intro gb S18
       refine ai.of (λq=>?_) (λq=>?_)
       ·rw[beq_iff_eq]at q
        rw[if_neg (by rw[q];decide),if_neg (by rw[q];decide),if_pos q]at next
        refine⟨E,?_⟩
        obtain⟨e3,er,dl⟩:=S18.put (P:=prog) fk (i:=10) (v:=vI 3) (by decide) rfl rfl (h':= { G with same:=3 }) rfl
        exact⟨e3,er,next dl⟩
       ·rw[beq_eq_false_iff_ne]at q
        rw[if_neg q]at next
        exact next S18
      ·rw[beq_eq_false_iff_ne]at e
       rw[if_neg e]at next
       exact next S15
     ·have:j=L.length:=by omega
      subst this
      rw[List.take_of_length_le (by omega)]at Z
      refine⟨_,_,_,_,_,_,_,_,_,_,_,fX _ Z.hh,?_⟩
      exact pa _ Z.h2 rfl Z.hb bp (post al)
theorem jl (h g:Hdr):CB h g=true ↔ h=g:=by
 unfold CB
 simp only[Bool.and_eq_true,beq_iff_eq,and_true]
 constructor
 ·rintro⟨h1,h2,h3,h4,h5,h6,h7,h8,h9,h10,h11⟩
  cases h;cases g;simp_all
 ·rintro rfl;simp
theorem Gg (h g:Hdr){x y:Operand}(w:World):((do eqGuard .neq aq x y h.v g.v;binOp .neq aq h.v g.v:Sem Value)).run prog w=.ok (.bool (!CB h g)) w:=
 GF AD (Hd h g) w
theorem vZ {k:Int}(e:0 <=k)(h1:k<7):Ey[k.toNat]'(by show k.toNat<7;omega)=rQ k:=by
 unfold rQ;rw[List.getElem?_eq_getElem (by show k.toNat<7;omega)];rfl
theorem vL {k:Int}(e:1 <=k)(h1:k <=12):En[(k-1).toNat]'(by show(k-1).toNat<12;omega)=zJ k:=by
 unfold zJ;rw[List.getElem?_eq_getElem (by show(k-1).toNat<12;omega)];rfl
set_option maxHeartbeats 2000000 in
theorem pm (t:Int)(bq: -9223372036854775808 <=t)(h1:t <=9223372036854775807)(w:World):Cf fQ #[vI t] w (Ret λv w'=>v=vS (lK t)/\bW w w'):=by
 apply om
 obtain⟨G,H⟩:=sB (t:=t) (b:=86400) (by decide)
 refine⟨by decide,?_⟩
 rintro _ rfl
 refine IX (w:=w) (t%86400) ?_ ?_
 ·refine ai.of (λh=>?_) (λh=>?_) <;> simp only[dTx,dFx]at h
  ·have b1:t<0:=by
    by_cases c:0 <=t
    ·have:=(G c).2;omega
    ·omega
   obtain⟨ad,O⟩:=H b1
   rw[O]at h
   rw[O,wrap_i64 (by omega) (by omega)]
   exact⟨rfl,by omega⟩
  ·by_cases c:0 <=t
   ·rw[(G c).2];exact⟨rfl,rfl⟩
   ·obtain⟨ad,O⟩:=H (by omega)
    rw[O]at h ⊢;exact⟨rfl,by omega⟩
 refine⟨by decide,?_⟩
 rintro _ rfl
 refine IX (w:=w) (t/86400) ?_ ?_
 ·refine ai.of (λh=>?_) (λh=>?_) <;> simp only[dTx,dFx]at h
  ·obtain⟨ad,O⟩:=H h
   refine⟨by decide,?_⟩
   rintro _ rfl
   rw[ad,O,wrap_i64 (n:= -(-t/86400)) (by omega) (by omega)]
   refine ai.of (λag=>?_) (λag=>?_)
   ·rw[bne_iff_ne]at ag
    rw[wrap_i64 (by omega) (by omega)];exact⟨rfl,by omega⟩
   ·have b5: -(-t%86400)=0:=by simpa using ag
    exact⟨rfl,by omega⟩
  ·rw[(G (by omega)).1,wrap_i64 (by omega) (by omega)];exact⟨rfl,rfl⟩
 clear G H
 refine az (nP _ w (by omega)) ?_
 rintro _ w ⟨rfl,rfl⟩
 by_cases ar:t/86400 < -134774\/2932896<t/86400
 ·rw[ns ar]
  refine⟨_,_,_,_,rfl,ai.yes rfl ⟨by rw[wZ ar],Below.refl _ _⟩⟩
 obtain⟨y,m,d,aj,Y⟩:=Jk (n:=t/86400) (by omega) (by omega)
 rw[zW aj Y,<- Y,wB aj,Y]
 refine⟨y,m,d,true,rfl,ai.no rfl ?_⟩
 have bz:=aj
 obtain⟨cb,cc,bc,bj,b6,b7⟩:=bz
 have b8:=pd y m
 generalize b0:t/86400=n at*
 generalize b2:t%86400=s at*
 have E:0 <=s/\s<86400:=by omega
 have b9: -134774 <=n/\n <=2932896:=by omega
 clear bq h1 b0 b2 Y ar
 obtain⟨G,H⟩:=sB (t:=n) (b:=7) (by decide)
 refine⟨by decide,?_⟩
 rintro _ rfl
 refine IX (w:=w) (n%7) ?_ ?_
 ·refine ai.of (λh=>?_) (λh=>?_) <;> simp only[dTx,dFx]at h
  ·by_cases c:0 <=n
   ·rw[(G c).2]at h;omega
   ·rw[(H (by omega)).2]at h ⊢
    rw[wrap_i64 (by omega) (by omega)];exact⟨rfl,by omega⟩
  ·by_cases c:0 <=n
   ·rw[(G c).2];exact⟨rfl,rfl⟩
   ·rw[(H (by omega)).2]at h ⊢
    exact⟨rfl,by omega⟩
 clear G H
 have Z:0 <=n%7/\n%7<7:=by omega
 have q:=A1 Z.1 Z.2
 have e:=DV bc bj
 have bb:∀{k:Nat} {M w2 w3:World},k=M.heap.size->w2=M.alloc (.cells #[vS [84,104,117],vS [70,114,105],vS [83,97,116],vS [83,117,110],vS [77,111,110],vS [84,117,101],vS [87,101,100]] ao)->
  bW w2 w3->(Instr.loadAt ao (.pointer (aw (some ⟨k,0,none⟩) (n%7) 1))).run prog w3=.ok (vS (rQ (n%7))) w3:=by
  intro k M w2 w3 al a8 bs
  have an:Ow tS ao w2 NoB (some ⟨k,0,none⟩) 7 7 Ey:=Ow.newF (l:=Ey.map λs=>vS s) (gI _) al a8 (o5 λ_ _=>trivial) (by decide)
  obtain⟨v,X,a0⟩:=(an.below bs).all.load1 (i:=n%7) ax rfl rfl (by show _<7;omega)
  obtain⟨rfl,-⟩:=nw a0
  rw[vZ Z.1 Z.2]at X;exact X
 have a9:∀{k:Nat} {M w2:World},k=M.heap.size->w2=M.alloc (.cells #[vS [74,97,110],vS [70,101,98],vS [77,97,114],vS [65,112,114],vS [77,97,121],vS [74,117,110],vS [74,117,108],vS [65,117,103],vS [83,101,112],vS [79,99,116],vS [78,111,118],vS [68,101,99]] ao)->
  (Instr.loadAt ao (.pointer (aw (some ⟨k,0,none⟩) (m-1) 1))).run prog w2=.ok (vS (zJ m)) w2:=by
  intro k M w2 al a8
  have an:Ow tS ao w2 NoB (some ⟨k,0,none⟩) 12 12 En:=Ow.newF (l:=En.map λs=>vS s) (gI _) al a8 (o5 λ_ _=>trivial) (by decide)
  obtain⟨v,X,a0⟩:=an.all.load1 (i:=m-1) ax rfl rfl (by show _<12;omega)
  obtain⟨rfl,-⟩:=nw a0
  rw[vL bc bj]at X;exact X
 have hB:=bD w
 refine⟨?_,?_⟩
 ·intro b3 b4 ac U
  replace hB:=ah hB (U▸au _ _) hB.size
  refine⟨⟨⟨by omega,by omega⟩,rfl⟩,?_,?_⟩
  ·
   refine⟨rQ (n%7),bb ac U (Below.refl _ _),?_⟩
   refine⟨fits (by simp only[List.length_append,aY,q,e,List.length_cons,List.length_nil];omega),?_⟩
   rintro _ rfl
   refine az (aZ d (by omega) (by omega) _) ?_
   rintro _ w3 ⟨rfl,D⟩
   replace hB:=ah hB D hB.size
   refine⟨gU d,rfl,?_⟩
   refine⟨fits (by simp only[List.length_append,aY,q,e,List.length_cons,List.length_nil];omega),?_⟩
   rintro _ rfl
   refine⟨fits (by simp only[List.length_append,aY,q,e,List.length_cons,List.length_nil];omega),?_⟩
   rintro _ rfl
   intro bk bp V I
   replace hB:=ah hB (I▸au _ _) hB.size
   rw[wrap_i64 (n:=m-1) (by omega) (by omega)]
   refine⟨⟨⟨by omega,by omega⟩,rfl⟩,zJ m,a9 V I,?_⟩
   refine⟨fits (by simp only[List.length_append,aY,q,e,List.length_cons,List.length_nil];omega),?_⟩
   rintro _ rfl
   refine⟨fits (by simp only[List.length_append,aY,q,e,List.length_cons,List.length_nil];omega),?_⟩
   rintro _ rfl
   refine⟨by decide,?_⟩
   rintro _ rfl
   rw[bL (by omega),wrap_i64 (n:=y/100) (by omega) (by omega)]
   refine az (aZ (y/100) (by omega) (by omega) _) ?_
   rintro _ w3 ⟨rfl,D⟩
   replace hB:=ah hB D hB.size
   refine⟨gU (y/100),rfl,?_⟩
   refine⟨fits (by simp only[List.length_append,aY,q,e,List.length_cons,List.length_nil];omega),?_⟩
   rintro _ rfl
   refine⟨by decide,?_⟩
   rintro _ rfl
   rw[bP (a:=y) (by omega)]
   refine az (aZ (y%100) (by omega) (by omega) _) ?_
   rintro _ w3 ⟨rfl,D⟩
   replace hB:=ah hB D hB.size
   refine⟨gU (y%100),rfl,?_⟩
   refine⟨fits (by simp only[List.length_append,aY,q,e,List.length_cons,List.length_nil];omega),?_⟩
   rintro _ rfl
   refine⟨fits (by simp only[List.length_append,aY,q,e,List.length_cons,List.length_nil];omega),?_⟩
   rintro _ rfl
   refine⟨by decide,?_⟩
   rintro _ rfl
   rw[bL E.1,wrap_i64 (n:=s/3600) (by omega) (by omega)]
   refine az (aZ (s/3600) (by omega) (by omega) _) ?_
   rintro _ w3 ⟨rfl,D⟩
   replace hB:=ah hB D hB.size
   refine⟨gU (s/3600),rfl,?_⟩
   refine⟨fits (by simp only[List.length_append,aY,q,e,List.length_cons,List.length_nil];omega),?_⟩
   rintro _ rfl
   refine⟨fits (by simp only[List.length_append,aY,q,e,List.length_cons,List.length_nil];omega),?_⟩
   rintro _ rfl
   refine⟨by decide,?_⟩
   rintro _ rfl
   refine⟨by decide,?_⟩
   rintro _ rfl
   rw[bL E.1,wrap_i64 (n:=s/60) (by omega) (by omega),bP (a:=s/60) (by omega)]
   refine az (aZ (s/60%60) (by omega) (by omega) _) ?_
   rintro _ w3 ⟨rfl,D⟩
   replace hB:=ah hB D hB.size
   refine⟨gU (s/60%60),rfl,?_⟩
   refine⟨fits (by simp only[List.length_append,aY,q,e,List.length_cons,List.length_nil];omega),?_⟩
   rintro _ rfl
   refine⟨fits (by simp only[List.length_append,aY,q,e,List.length_cons,List.length_nil];omega),?_⟩
   rintro _ rfl
   refine⟨by decide,?_⟩
   rintro _ rfl
   rw[bP (a:=s) E.1]
   refine az (aZ (s%60) (by omega) (by omega) _) ?_
   rintro _ w3 ⟨rfl,D⟩
   replace hB:=ah hB D hB.size
   refine⟨gU (s%60),rfl,?_⟩
   refine⟨fits (by simp only[List.length_append,aY,q,e,List.length_cons,List.length_nil];omega),?_⟩
   rintro _ rfl
   refine⟨fits (by simp only[List.length_append,aY,q,e,List.length_cons,List.length_nil];omega),?_⟩
   rintro _ rfl
   refine⟨?_,hB⟩
   congr 2
   simp[xO,rI,List.append_assoc]
  ·
   refine az (aZ d (by omega) (by omega) _) ?_
   rintro _ w3 ⟨rfl,D⟩
   replace hB:=ah hB D hB.size
   refine⟨gU d,rfl,?_⟩
   refine⟨rQ (n%7),bb ac U D,?_⟩
   refine⟨fits (by simp only[List.length_append,aY,q,e,List.length_cons,List.length_nil];omega),?_⟩
   rintro _ rfl
   refine⟨fits (by simp only[List.length_append,aY,q,e,List.length_cons,List.length_nil];omega),?_⟩
   rintro _ rfl
   refine⟨fits (by simp only[List.length_append,aY,q,e,List.length_cons,List.length_nil];omega),?_⟩
   rintro _ rfl
   intro bk bp V I
   replace hB:=ah hB (I▸au _ _) hB.size
   rw[wrap_i64 (n:=m-1) (by omega) (by omega)]
   refine⟨⟨⟨by omega,by omega⟩,rfl⟩,zJ m,a9 V I,?_⟩
   refine⟨fits (by simp only[List.length_append,aY,q,e,List.length_cons,List.length_nil];omega),?_⟩
   rintro _ rfl
   refine⟨fits (by simp only[List.length_append,aY,q,e,List.length_cons,List.length_nil];omega),?_⟩
   rintro _ rfl
   refine⟨by decide,?_⟩
   rintro _ rfl
   rw[bL (by omega),wrap_i64 (n:=y/100) (by omega) (by omega)]
   refine az (aZ (y/100) (by omega) (by omega) _) ?_
   rintro _ w3 ⟨rfl,D⟩
   replace hB:=ah hB D hB.size
   refine⟨gU (y/100),rfl,?_⟩
   refine⟨fits (by simp only[List.length_append,aY,q,e,List.length_cons,List.length_nil];omega),?_⟩
   rintro _ rfl
   refine⟨by decide,?_⟩
   rintro _ rfl
   rw[bP (a:=y) (by omega)]
   refine az (aZ (y%100) (by omega) (by omega) _) ?_
   rintro _ w3 ⟨rfl,D⟩
   replace hB:=ah hB D hB.size
   refine⟨gU (y%100),rfl,?_⟩
   refine⟨fits (by simp only[List.length_append,aY,q,e,List.length_cons,List.length_nil];omega),?_⟩
   rintro _ rfl
   refine⟨fits (by simp only[List.length_append,aY,q,e,List.length_cons,List.length_nil];omega),?_⟩
   rintro _ rfl
   refine⟨by decide,?_⟩
   rintro _ rfl
   rw[bL E.1,wrap_i64 (n:=s/3600) (by omega) (by omega)]
   refine az (aZ (s/3600) (by omega) (by omega) _) ?_
   rintro _ w3 ⟨rfl,D⟩
   replace hB:=ah hB D hB.size
   refine⟨gU (s/3600),rfl,?_⟩
   refine⟨fits (by simp only[List.length_append,aY,q,e,List.length_cons,List.length_nil];omega),?_⟩
   rintro _ rfl
   refine⟨fits (by simp only[List.length_append,aY,q,e,List.length_cons,List.length_nil];omega),?_⟩
   rintro _ rfl
   refine⟨by decide,?_⟩
   rintro _ rfl
   refine⟨by decide,?_⟩
   rintro _ rfl
   rw[bL E.1,wrap_i64 (n:=s/60) (by omega) (by omega),bP (a:=s/60) (by omega)]
   refine az (aZ (s/60%60) (by omega) (by omega) _) ?_
   rintro _ w3 ⟨rfl,D⟩
   replace hB:=ah hB D hB.size
   refine⟨gU (s/60%60),rfl,?_⟩
   refine⟨fits (by simp only[List.length_append,aY,q,e,List.length_cons,List.length_nil];omega),?_⟩
   rintro _ rfl
   refine⟨fits (by simp only[List.length_append,aY,q,e,List.length_cons,List.length_nil];omega),?_⟩
   rintro _ rfl
   refine⟨by decide,?_⟩
   rintro _ rfl
   rw[bP (a:=s) E.1]
   refine az (aZ (s%60) (by omega) (by omega) _) ?_
   rintro _ w3 ⟨rfl,D⟩
   replace hB:=ah hB D hB.size
   refine⟨gU (s%60),rfl,?_⟩
   refine⟨fits (by simp only[List.length_append,aY,q,e,List.length_cons,List.length_nil];omega),?_⟩
   rintro _ rfl
   refine⟨fits (by simp only[List.length_append,aY,q,e,List.length_cons,List.length_nil];omega),?_⟩
   rintro _ rfl
   refine⟨?_,hB⟩
   congr 2
   simp[xO,rI,List.append_assoc]
 ·
  refine az (aZ d (by omega) (by omega) _) ?_
  rintro _ w3 ⟨rfl,D⟩
  replace hB:=ah hB D hB.size
  refine⟨gU d,rfl,?_⟩
  intro b3 b4 ac U
  replace hB:=ah hB (U▸au _ _) hB.size
  refine⟨⟨⟨by omega,by omega⟩,rfl⟩,?_⟩
  refine⟨rQ (n%7),bb ac U (Below.refl _ _),?_⟩
  refine⟨fits (by simp only[List.length_append,aY,q,e,List.length_cons,List.length_nil];omega),?_⟩
  rintro _ rfl
  refine⟨fits (by simp only[List.length_append,aY,q,e,List.length_cons,List.length_nil];omega),?_⟩
  rintro _ rfl
  refine⟨fits (by simp only[List.length_append,aY,q,e,List.length_cons,List.length_nil];omega),?_⟩
  rintro _ rfl
  intro bk bp V I
  replace hB:=ah hB (I▸au _ _) hB.size
  rw[wrap_i64 (n:=m-1) (by omega) (by omega)]
  refine⟨⟨⟨by omega,by omega⟩,rfl⟩,zJ m,a9 V I,?_⟩
  refine⟨fits (by simp only[List.length_append,aY,q,e,List.length_cons,List.length_nil];omega),?_⟩
  rintro _ rfl
  refine⟨fits (by simp only[List.length_append,aY,q,e,List.length_cons,List.length_nil];omega),?_⟩
  rintro _ rfl
  refine⟨by decide,?_⟩
  rintro _ rfl
  rw[bL (by omega),wrap_i64 (n:=y/100) (by omega) (by omega)]
  refine az (aZ (y/100) (by omega) (by omega) _) ?_
  rintro _ w3 ⟨rfl,D⟩
  replace hB:=ah hB D hB.size
  refine⟨gU (y/100),rfl,?_⟩
  refine⟨fits (by simp only[List.length_append,aY,q,e,List.length_cons,List.length_nil];omega),?_⟩
  rintro _ rfl
  refine⟨by decide,?_⟩
  rintro _ rfl
  rw[bP (a:=y) (by omega)]
  refine az (aZ (y%100) (by omega) (by omega) _) ?_
  rintro _ w3 ⟨rfl,D⟩
  replace hB:=ah hB D hB.size
  refine⟨gU (y%100),rfl,?_⟩
  refine⟨fits (by simp only[List.length_append,aY,q,e,List.length_cons,List.length_nil];omega),?_⟩
  rintro _ rfl
  refine⟨fits (by simp only[List.length_append,aY,q,e,List.length_cons,List.length_nil];omega),?_⟩
  rintro _ rfl
  refine⟨by decide,?_⟩
  rintro _ rfl
  rw[bL E.1,wrap_i64 (n:=s/3600) (by omega) (by omega)]
  refine az (aZ (s/3600) (by omega) (by omega) _) ?_
  rintro _ w3 ⟨rfl,D⟩
  replace hB:=ah hB D hB.size
  refine⟨gU (s/3600),rfl,?_⟩
  refine⟨fits (by simp only[List.length_append,aY,q,e,List.length_cons,List.length_nil];omega),?_⟩
  rintro _ rfl
  refine⟨fits (by simp only[List.length_append,aY,q,e,List.length_cons,List.length_nil];omega),?_⟩
  rintro _ rfl
  refine⟨by decide,?_⟩
  rintro _ rfl
  refine⟨by decide,?_⟩
  rintro _ rfl
  rw[bL E.1,wrap_i64 (n:=s/60) (by omega) (by omega),bP (a:=s/60) (by omega)]
  refine az (aZ (s/60%60) (by omega) (by omega) _) ?_
  rintro _ w3 ⟨rfl,D⟩
  replace hB:=ah hB D hB.size
  refine⟨gU (s/60%60),rfl,?_⟩
  refine⟨fits (by simp only[List.length_append,aY,q,e,List.length_cons,List.length_nil];omega),?_⟩
  rintro _ rfl
  refine⟨fits (by simp only[List.length_append,aY,q,e,List.length_cons,List.length_nil];omega),?_⟩
  rintro _ rfl
  refine⟨by decide,?_⟩
  rintro _ rfl
  rw[bP (a:=s) E.1]
  refine az (aZ (s%60) (by omega) (by omega) _) ?_
  rintro _ w3 ⟨rfl,D⟩
  replace hB:=ah hB D hB.size
  refine⟨gU (s%60),rfl,?_⟩
  refine⟨fits (by simp only[List.length_append,aY,q,e,List.length_cons,List.length_nil];omega),?_⟩
  rintro _ rfl
  refine⟨fits (by simp only[List.length_append,aY,q,e,List.length_cons,List.length_nil];omega),?_⟩
  rintro _ rfl
  refine⟨?_,hB⟩
  congr 2
  simp[xO,rI,List.append_assoc]
theorem QU {k:List UInt8}(v:List UInt8)(h:∀c∈k,c≠61):(k++61::v).takeWhile (· !=61)=k/\(k++61::v).dropWhile (· !=61)=61::v:=by
 induction k with
 |nil=>exact⟨rfl,rfl⟩
 |cons c k G=>
  have e:(c !=61)=true:=by simpa using h c List.mem_cons_self
  obtain⟨q,D⟩:=G λx E=>h x (List.mem_cons_of_mem _ E)
  rw[List.cons_append,List.takeWhile_cons,List.dropWhile_cons,if_pos e,if_pos e,q,D]
  exact⟨rfl,rfl⟩
theorem ta {k:List UInt8}(v:List UInt8)(h:∀c∈k,c≠61):dE (k++61::v)=cq k/\du (k++61::v)=cq v/\xI (k++61::v)=true:=by
 unfold dE du xI
 rw[(QU v h).1,(QU v h).2]
 exact⟨rfl,rfl,by simp⟩
theorem tn (u:Nat):(∀c∈Lib.decDigits u,gO c=true)/\Lib.decDigits u≠[]/\jT (Lib.decDigits u)=(u:Int):=by
 induction u using Nat.strongRecOn with
 |_ u H=>
  have q:∀k,k<10->gO (UInt8.ofNat (48+k))=true/\((UInt8.ofNat (48+k)).toNat:Int)-48=(k:Int):=by decide
  rw[Lib.decDigits]
  split
  ·rename_i h
   refine⟨λc e=>?_,by simp,?_⟩
   ·rw[List.mem_singleton.1 e];exact(q u h).1
   ·show(0*10+(((UInt8.ofNat (48+u)).toNat:Int)-48))=u
    rw[(q u h).2];omega
  ·rename_i h
   obtain⟨G,I,E⟩:=H (u/10) (by omega)
   have D:=q (u%10) (by omega)
   refine⟨λc e=>?_,by simp,?_⟩
   ·rcases List.mem_append.1 e with e|e
    ·exact G c e
    ·rw[List.mem_singleton.1 e];exact D.1
   ·unfold jT at E ⊢
    rw[List.foldl_append,E]
    show(u/10:Nat)*10+(((UInt8.ofNat (48+u%10)).toNat:Int)-48)=u
    rw[D.2];omega
theorem pb {n:Int}(h:0 <=n):Lib.itoa n=Lib.decDigits n.toNat:=by unfold Lib.itoa;rw[if_neg (by omega)]
theorem tq (h:∀c∈s,gO c=true):cq s=s:=by
 refine xb ?_ ?_
 ·cases s with
  |nil=>rfl
  |cons c s=>exact rD (oY (h c List.mem_cons_self)).2
 ·induction s with
  |nil=>rfl
  |cons c s q=>exact vH (q λx e=>h x (List.mem_cons_of_mem _ e)) (.inr (oY (h c List.mem_cons_self)).2)
theorem xW {n:Int}(G:0 <=n)(h1:n <=34560000):Ce (Lib.itoa n)=some n:=by
 rw[pb G]
 obtain⟨D,E,M⟩:=tn n.toNat
 have I:(Lib.decDigits n.toNat).head?≠some 45:=by
  cases q:Lib.decDigits n.toNat with
  |nil=>exact absurd q E
  |cons c r=>
   intro e
   rw[List.head?_cons]at e
   have:=D c (by rw[q];exact List.mem_cons_self)
   rw[Option.some.inj e]at this
   exact absurd this (by decide)
 have H:fi (Lib.decDigits n.toNat)=true:=by
  unfold fi
  rw[Bool.and_eq_true,List.all_eq_true]
  exact⟨by simpa using E,D⟩
 unfold Ce
 rw[if_neg I,if_pos H,M]
 congr 1
 rw[Int.min_eq_left (by omega)];omega
theorem tm:∀(r:List (List UInt8)) (x:List UInt8),(∀c∈x,c≠59)->(∀y∈r,∀c∈y,c≠59)->bY 59 [] (x++Lib.joinTail [59,32] r)=x::r.map (32:: ·)
 |[],x,q,_=>by
  have:Lib.joinTail [59,32] []=[]:=rfl
  rw[this,List.append_nil,yP 59 x [] q];rfl
 |y::r,x,q,D=>by
  have E:Lib.joinTail [59,32] (y::r)=59::((32::y)++Lib.joinTail [59,32] r):=by simp[Lib.joinTail]
  rw[E,A8 59 x [] _ q,tm r (32::y) (λc e=>by
   rcases List.mem_cons.1 e with rfl|e
   ·decide
   ·exact D y List.mem_cons_self c e) λz G=>D z (List.mem_cons_of_mem _ G)]
  rfl
theorem oR:∀(r:List (List UInt8)) (x:List UInt8),(∀c∈x,jP c=false)->(∀y∈r,∀c∈y,jP c=false)->∀c∈x++Lib.joinTail [59,32] r,jP c=false
 |[],x,q,_=>by
  have:Lib.joinTail [59,32] []=[]:=rfl
  rw[this,List.append_nil];exact q
 |y::r,x,q,D=>by
  have E:Lib.joinTail [59,32] (y::r)=[59,32]++(y++Lib.joinTail [59,32] r):=by simp[Lib.joinTail]
  intro c e
  rw[E]at e
  rcases List.mem_append.1 e with e|e
  ·exact q c e
  rcases List.mem_append.1 e with e|e
  ·have G:∀c∈([59,32]:List UInt8),jP c=false:=by decide
   exact G c e
  ·exact oR r y (D y List.mem_cons_self) (λz H=>D z (List.mem_cons_of_mem _ H)) c e
theorem Gq {b:Bool}{x y:List UInt8}(h:y∈opt b x):y=x:=by unfold opt at h;split at h <;> simp_all
theorem yh (b:Bool)(x:List UInt8)(g:Hdr):((opt b x).map (32:: ·)).foldl cW g=if b=true then cW g (32::x)else g:=by
 cases b <;> rfl
theorem js {k:List UInt8}(v:List UInt8)(h:∀c∈k,c≠61)(g:Hdr){key:List UInt8}(D:cN (cq k)=key)(E:(cq v).length <=1024):cW g (k++61::v)=jS g key (cq v):=by
 obtain⟨e,q,-⟩:=ta v h
 unfold cW
 rw[e,q,if_pos E,D]
theorem qW {k:List UInt8}(h:∀c∈k,c≠61)(g:Hdr){key:List UInt8}(E:cN (cq k)=key):cW g k=jS g key []:=by
 have G:(61:UInt8) ∉ k:=λD=>h 61 D rfl
 obtain⟨e,q⟩:=zK G
 unfold cW dE du
 rw[e,q,E]
 rfl
theorem tD (h:Lok s):cq (pX s)=pX s:=by
 unfold pX
 split
 ·rename_i h1;exact h1.1
 ·exact xb (rD rfl) (vH h (.inr rfl))
theorem ya (e:s≠[]):(if(pX s).head?=some 46 then(pX s).drop 1 else pX s)=s:=by
 unfold pX
 split
 ·rename_i h;rw[if_neg h.2]
 ·exact if_pos rfl
theorem vn (h:Clean s):Clean (pX s):=by
 unfold pX
 split
 ·exact h
 ·intro c e
  rcases List.mem_cons.1 e with rfl|e
  ·decide
  ·exact h c e
theorem vm (h:∀c∈s,gO c=true):Clean s:=λc e=>(oY (h c e)).1
theorem vT:∀k:Nat,k<4->cq (nmL[k]?.getD [])=nmL[k]?.getD []/\Dn (nmL[k]?.getD [])=(k:Int)/\(nmL[k]?.getD []).all okB=true/\(nmL[k]?.getD []).length <=1024:=by decide
theorem qA {h:Hdr}(g:Good h):bB (cX h)=(h,0):=by
 have U:=g.ag
 have V:=tn h.age.toNat
 rw[<- pb U.1]at V
 have M:=vT h.same.toNat (by have:=g.sm;omega)
 rw[show((h.same.toNat:Nat):Int)=h.same by have:=g.sm;omega]at M
 have a8:h.hasE=true->Clean (lK h.exp):=λD=>by have:=g.ex;rw[if_pos D]at this;exact this.2.2.2.1
 obtain⟨r,hr⟩:∃r,r=opt h.hasE (pE++lK h.exp)++opt h.hasA (pA++Lib.itoa h.age)++opt (!(h.domain==[])) (pD++pX h.domain)++opt (!(h.path==[])) (pP++h.path)++opt h.sec pS++opt h.http pH++
  opt (decide (0<h.same)&&decide (h.same <=3)) (pM++nmL[h.same.toNat]?.getD []):=⟨_,rfl⟩
 have bq:tV h=(h.name++[61]++h.value)::r:=by rw[hr];unfold tV;simp only[List.append_assoc];rfl
 have aj:cX h=(h.name++[61]++h.value)++Lib.joinTail [59,32] r:=by unfold cX;rw[bq,Lib.join_cons]
 have Y:Clean (h.name++[61]++h.value):=fL (fL g.nc (gK (by decide))) g.vc
 have O:∀(b:Bool) (p v:List UInt8),p.all okB=true->(b=true->Clean v)->∀y∈opt b (p++v),Clean y:=by
  intro b p v X bp y q
  cases b with
  |false=>cases q
  |true=>
   rw[List.mem_singleton.1 q]
   exact fL (gK X) (bp rfl)
 have al:∀(b:Bool) (p:List UInt8),p.all okB=true->∀y∈opt b p,Clean y:=λb p X y q=>by rw[Gq q];exact gK X
 have ac:∀y∈r,Clean y:=by
  intro y q
  rw[hr]at q
  simp only[List.mem_append]at q
  rcases q with(((((q|q)|q)|q)|q)|q)|q
  ·exact O _ pE _ (by decide) a8 y q
  ·exact O _ pA _ (by decide) (λ_=>vm V.1) y q
  ·exact O _ pD _ (by decide) (λ_=>vn g.dc) y q
  ·exact O _ pP _ (by decide) (λ_=>g.pc) y q
  ·exact al _ pS (by decide) y q
  ·exact al _ pH (by decide) y q
  ·exact O _ pM _ (by decide) (λ_=>gK M.2.2.1) y q
 have bc:bY 59 [] (cX h)=(h.name++[61]++h.value)::r.map (32:: ·):=by
  rw[aj]
  exact tm r _ (λc E=>(Y c E).2) λy q c E=>(ac y q c E).2
 have bb: ¬ (cX h).any jP=true:=by
  intro I
  obtain⟨c,E,Z⟩:=List.any_eq_true.1 I
  rw[aj]at E
  have:=oR r _ (λc E=>(Y c E).1) (λy q c E=>(ac y q c E).1) c E
  rw[this]at Z;cases Z
 have bj:nameOf (h.name++[61]++h.value)=(h.name,h.value):=by
  have D:h.name++[61]++h.value=h.name++61::h.value:=by simp
  obtain⟨an,ar,a0⟩:=ta h.value g.ne
  unfold nameOf
  rw[D,a0,an,ar,if_pos rfl,g.nt,g.vt]
 unfold bB
 rw[if_neg bb,bc]
 simp only[List.headD_cons,bj,List.drop_one,List.tail_cons]
 rw[if_neg g.nz,if_neg (by have:=g.nl;omega)]
 congr 1
 rw[hr]
 simp only[List.map_append,List.foldl_append,yh]
 have bz:(if h.hasE=true then cW { iJ with name:=h.name,value:=h.value } (32::(pE++lK h.exp))else{ iJ with name:=h.name,value:=h.value })= { iJ with name:=h.name,value:=h.value,hasE:=h.hasE,exp:=h.exp } :=by
  have I:=g.ex
  cases ad:h.hasE
  ·rw[ad]at I
   rw[if_neg (by decide)]
   have bs:h.exp=0:=I
   rw[bs];rfl
  ·rw[ad,if_pos rfl]at I
   rw[if_pos rfl]
   have D:(32::(pE++lK h.exp))=[32,69,120,112,105,114,101,115]++61::lK h.exp:=rfl
   rw[D,js (key:=[101,120,112,105,114,101,115]) _ (by decide) _ (by decide) (by rw[I.2.2.1];have:=sv h.exp;omega),I.2.2.1]
   unfold jS
   rw[if_pos rfl,if_pos I.1,I.2.1]
 rw[bz]
 have b0:(if h.hasA=true then cW { iJ with name:=h.name,value:=h.value,hasE:=h.hasE,exp:=h.exp } (32::(pA++Lib.itoa h.age))else{ iJ with name:=h.name,value:=h.value,hasE:=h.hasE,exp:=h.exp })=
  { iJ with name:=h.name,value:=h.value,hasE:=h.hasE,exp:=h.exp,hasA:=h.hasA,age:=h.age } :=by
  cases a9:h.hasA
  ·rw[if_neg (by decide),U.2.2 a9];rfl
  ·rw[if_pos rfl]
   have D:(32::(pA++Lib.itoa h.age))=[32,77,97,120,45,65,103,101]++61::Lib.itoa h.age:=rfl
   have b6:=Lib.itoa_length_le h.age (by omega) (by omega)
   rw[D,js (key:=[109,97,120,45,97,103,101]) _ (by decide) _ (by decide) (by rw[tq V.1];omega),tq V.1]
   unfold jS
   rw[if_neg (by decide),if_pos rfl,xW U.1 U.2.1]
 rw[b0]
 have b1:∀e:Hdr,e.domain=[]->(if(!(h.domain==[]))=true then cW e (32::(pD++pX h.domain))else e)= { e with domain:=h.domain } :=by
  intro e G
  by_cases H:h.domain=[]
  ·rw[H,if_neg (by decide),<- G]
  ·rw[if_pos (by simpa using H)]
   have D:(32::(pD++pX h.domain))=[32,68,111,109,97,105,110]++61::pX h.domain:=rfl
   rw[D,js (key:=[100,111,109,97,105,110]) _ (by decide) _ (by decide) (by rw[tD g.de];exact g.dn),tD g.de]
   unfold jS
   rw[if_neg (by decide),if_neg (by decide),if_pos rfl,ya H,g.dl]
 rw[b1 _ rfl]
 have b2:∀e:Hdr,e.path=[]->(if(!(h.path==[]))=true then cW e (32::(pP++h.path))else e)= { e with path:=h.path } :=by
  intro e G
  by_cases H:h.path=[]
  ·rw[H,if_neg (by decide),<- G]
  ·rw[if_pos (by simpa using H)]
   have D:(32::(pP++h.path))=[32,80,97,116,104]++61::h.path:=rfl
   rw[D,js (key:=[112,97,116,104]) _ (by decide) _ (by decide) (by rw[g.pt];exact g.pl),g.pt]
   unfold jS
   rw[if_neg (by decide),if_neg (by decide),if_neg (by decide),if_pos rfl,if_pos (g.ph.resolve_left H)]
 rw[b2 _ rfl]
 have b3:∀e:Hdr,e.sec=false->(if h.sec=true then cW e (32::pS)else e)= { e with sec:=h.sec } :=by
  intro e G
  cases bk:h.sec
  ·rw[if_neg (by decide),<- G]
  ·rw[if_pos rfl,qW (key:=[115,101,99,117,114,101]) (by decide) _ (by decide)]
   unfold jS
   rw[if_neg (by decide),if_neg (by decide),if_neg (by decide),if_neg (by decide),if_pos rfl]
 rw[b3 _ rfl]
 have b4:∀e:Hdr,e.http=false->(if h.http=true then cW e (32::pH)else e)= { e with http:=h.http } :=by
  intro e G
  cases bk:h.http
  ·rw[if_neg (by decide),<- G]
  ·rw[if_pos rfl,qW (key:=[104,116,116,112,111,110,108,121]) (by decide) _ (by decide)]
   unfold jS
   rw[if_neg (by decide),if_neg (by decide),if_neg (by decide),if_neg (by decide),if_neg (by decide),if_pos rfl]
 rw[b4 _ rfl]
 have b5:∀e:Hdr,e.same=0->(if(decide (0<h.same)&&decide (h.same <=3))=true then cW e (32::(pM++nmL[h.same.toNat]?.getD []))else e)= { e with same:=h.same } :=by
  intro e G
  have:=g.sm
  by_cases H:h.same=0
  ·rw[H,if_neg (by decide),<- G]
  ·rw[if_pos (by simp;omega)]
   have D:(32::(pM++nmL[h.same.toNat]?.getD []))=[32,83,97,109,101,83,105,116,101]++61::nmL[h.same.toNat]?.getD []:=rfl
   rw[D,js (key:=[115,97,109,101,115,105,116,101]) _ (by decide) _ (by decide) (by rw[M.1];exact M.2.2.2),M.1]
   unfold jS
   rw[if_neg (by decide),if_neg (by decide),if_neg (by decide),if_neg (by decide),if_neg (by decide),if_neg (by decide),if_pos rfl,M.2.1]
 rw[b5 _ rfl]
def kR (s:List UInt8)(b:Bool)(x:List UInt8):List UInt8:=if b=true then s++([59,32]++x)else s
theorem gG (s:List UInt8)(b:Bool)(x:List UInt8):(kR s b x).length <=s.length+x.length+2:=by
 unfold kR;split
 ·simp;omega
 ·omega
def eK (s:List UInt8):List UInt8:=if s.head?=some 46\/s.head?=some 32\/s.head?=some 9 then 46::s else s
theorem BF (sep:List UInt8)(A B:List (List UInt8)):Lib.joinTail sep (A++B)=Lib.joinTail sep A++Lib.joinTail sep B:=by
 unfold Lib.joinTail;simp
theorem eZ {A:List (List UInt8)}(hA:A≠[])(b:Bool)(x:List UInt8):Lib.join (A++opt b x) [59,32]=kR (Lib.join A [59,32]) b x:=by
 cases A with
 |nil=>exact absurd rfl hA
 |cons y A=>
  cases b with
  |false=>unfold opt kR;simp
  |true=>
   unfold opt kR
   rw[if_pos rfl,List.cons_append,Lib.join_cons,Lib.join_cons,BF]
   unfold Lib.joinTail
   simp
noncomputable def w1V (h:Hdr):List UInt8:=kR (h.name++[61]++h.value) h.hasE (pE++lK h.exp)
noncomputable def w2V (h:Hdr):List UInt8:=kR (w1V h) h.hasA (pA++Lib.itoa h.age)
noncomputable def w3V (h:Hdr)(d:List UInt8):List UInt8:=kR (w2V h) (!(h.domain==[])) (pD++d)
noncomputable def w4V (h:Hdr)(d:List UInt8):List UInt8:=kR (w3V h d) (!(h.path==[])) (pP++h.path)
noncomputable def w5V (h:Hdr)(d:List UInt8):List UInt8:=kR (w4V h d) h.sec pS
noncomputable def w6V (h:Hdr)(d:List UInt8):List UInt8:=kR (w5V h d) h.http pH
noncomputable def w7V (h:Hdr)(d:List UInt8):List UInt8:=kR (w6V h d) (decide (0<h.same)&&decide (h.same <=3)) (pM++nmL[h.same.toNat]?.getD [])
theorem ud (h:Hdr):cX h=w7V h (pX h.domain):=by
 have ne:∀(A B:List (List UInt8)),A≠[]->A++B≠[]:=λA B hA q=>hA (List.append_eq_nil_iff.1 q).1
 have e:([h.name++[61]++h.value]:List (List UInt8))≠[]:=by simp
 unfold cX tV w7V w6V w5V w4V w3V w2V w1V
 rw[eZ (ne _ _ (ne _ _ (ne _ _ (ne _ _ (ne _ _ (ne _ _ e)))))),eZ (ne _ _ (ne _ _ (ne _ _ (ne _ _ (ne _ _ e))))),eZ (ne _ _ (ne _ _ (ne _ _ (ne _ _ e)))),eZ (ne _ _ (ne _ _ (ne _ _ e))),eZ (ne _ _ (ne _ _ e)),eZ (ne _ _ e),eZ e,Lib.join_one]
theorem oT {h:Hdr}(e:ij h=true):Good h:=by
 unfold ij at e
 rw[Bool.and_eq_true,dTx,jl]at e
 exact pV (s:=cX h) (Prod.ext e.2 e.1)
theorem mn {h:Hdr}(g:Good h):ij h=true:=by
 unfold ij
 rw[qA g,Bool.and_eq_true,jl]
 exact⟨rfl,rfl⟩
theorem yb (h:Lok s):eK s=pX s:=by
 unfold eK pX
 have D:(cq s=s/\s.head?≠some 46) ↔ ¬ (s.head?=some 46\/s.head?=some 32\/s.head?=some 9):=by
  rw[zY]
  constructor
  ·rintro⟨⟨h1,_⟩,h2⟩ e
   rcases e with e|e
   ·exact h2 e
   ·cases s with
    |nil=>rcases e with e|e <;> cases e
    |cons c r=>
     have q:lH c=true:=by rcases e with e|e <;> rw[Option.some.inj e] <;> rfl
     unfold Hok at h1
     rw[List.dropWhile_cons,if_pos q]at h1
     have:=(List.dropWhile_sublist lH (l:=r)).length_le
     rw[h1]at this;simp at this;omega
  ·intro e
   refine⟨⟨?_,h⟩,λD=>e (.inl D)⟩
   cases s with
   |nil=>rfl
   |cons c r=>
    refine rD ?_
    rw[Bool.eq_false_iff]
    intro q
    unfold lH at q
    rw[Bool.or_eq_true,beq_iff_eq,beq_iff_eq]at q
    rcases q with rfl|rfl
    ·exact e (.inr (.inl rfl))
    ·exact e (.inr (.inr rfl))
 by_cases c:cq s=s/\s.head?≠some 46
 ·rw[if_pos c,if_neg (D.1 c)]
 ·rw[if_neg c,if_pos (Decidable.not_not.1 λE=>c (D.2 E))]
end Go.Pk
