/- What the law alone leans on: Names, V3, V1, H, Split, DateP, DateN, HdrB, AddrA, AddrP, AddrB, AddrC, AddrF, AddrG, AddrI, Eq, HostA, HostC, HostD, V4, UrlA, MatA, V31, V33, V39, RegA, RegC, HosH, RegF, RegP, V47, RegS; what is used. Its conditions: none. -/
import Derived.Test.YtpafoodmpjlkhaaGreatDoorKK
set_option linter.unusedVariables false
set_option linter.unusedSimpArgs false
set_option linter.unusedSectionVars false
set_option maxRecDepth 100000
open Go.IntKind (i64)
open Go.Proofs.Tryz
open List (length)
open Option (isSome)
namespace Go.Pk
open Go.RowKit (Below)
open Go.Proofs
abbrev oK:Nat:=9
abbrev nR:Nat:=23
abbrev cv:Nat:=24
abbrev ee:Nat:=26
abbrev cD:Nat:=27
abbrev ck:Nat:=38
abbrev gG:Nat:=39
abbrev eI:Nat:=43
abbrev fD:Nat:=44
abbrev dH:Nat:=60
abbrev gZ:Nat:=61
abbrev fQ:Nat:=79
abbrev eX:Nat:=80
abbrev bM:Nat:=82
abbrev eu:Nat:=83
abbrev ic:Nat:=84
abbrev fP:Nat:=91
abbrev gV:Nat:=92
abbrev gW:Nat:=93
abbrev cu:Nat:=108
abbrev lV:Nat:=109
abbrev gU:Nat:=110
abbrev dG:Nat:=111
abbrev lT:Nat:=112
abbrev hZ:Nat:=113
abbrev iP:Nat:=140
abbrev iQ:Nat:=141
abbrev aY:Nat:=145
abbrev dY:Nat:=146
abbrev cj:Nat:=147
abbrev dZ:Nat:=167
abbrev fO:Nat:=168
abbrev gY:Nat:=190
abbrev gX:Nat:=211
theorem pz (a:Value){w K}(h:nA w (.cells (Value.cells a) ai) λb c=>∃d,Ld ai (vA b 0) c d/\uS fD #[d] c λe f=>Cf gZ #[vS e] f λg i=>∃j k,g=rT #[j,vI k]/\nA i (.cells bA ai) λl m=>∃n,Sv ai (vA l 0) j m n/\ae (k==(0:Int)) (∃o,Ld ai (vA l 0) n o/\∃p,Ld ai (vA b 0) n p/\∃q,(do eqGuard .eql ai (.tmp 14) (.tmp 15) o p;binOp .eql ai o p:Sem Value).run prog n=.ok (.bool q) n/\K (.bool q) n) (K (.bool false) n)):Cf cv #[a] w (Ret K):=ru func24 [] h
theorem pA (a b:Value){w K}(h:nA w (.cells (Value.cells a) ai) λc d=>nA d (.cells (Value.cells b) ai) λe f=>∃g:FP [],(∃i,Ld ai (vA c 0) f i/\uL dH #[i] f λj k l m=>ae (((k:Nat):Int)==(0:Int)) (K (.bool false) m) (∃n,Ld ai (vA e 0) m n/\uL dH #[n] m λo p q r=>ae (((p:Nat):Int)==(0:Int)) (K (.bool false) r) (g r)))/\aC 11 (∀i,g i->true/\∃j,Ld au (vA e 1) i (vS j)/\(((List.length [46]+List.length j:Nat):Int) <=i64.max)/\∀k,k=([46]++j)->true/\∃l,Ld au (vA c 1) i (vS l)/\ae (decide (((List.length l:Nat):Int)>((List.length k:Nat):Int))) (true/\∃m,Ld au (vA c 1) i (vS m)/\true/\∃n,Ld au (vA c 1) i (vS n)/\bd (i64.wrap (((List.length n:Nat):Int)-((List.length k:Nat):Int))) (((List.length m):Nat):Int)/\∀o,o=(List.drop (Int.toNat (i64.wrap (((List.length n:Nat):Int)-((List.length k:Nat):Int)))) m)->K (.bool (o==k)) i) (K (.bool false) i))):Cf ee #[a,b] w (Ret K):=ru func26 [(2,[])] h
theorem qD (a:Value){w K}(h:nA w (.cells (Value.cells a) ai) λb c=>true/\∃d,Ld aw (vA b 0) c (vI d)/\ae (d==(1:Int)) (true/\∃e,Ld au (vA b 1) c (vS e)/\K (vS e) c) (true/\∃e,Ld aw (vA b 0) c (vI e)/\ae (e==(2:Int)) (true/\∃f,Ld ak (vA b 2) c f/\uS gV #[f] c λg i=>K (vS g) i) (true/\∃f,Ld aw (vA b 0) c (vI f)/\ae (f==(3:Int)) (true/\∃g,Ld ak (vA b 2) c g/\uS gW #[g] c λi j=>(((List.length [91]+List.length i:Nat):Int) <=i64.max)/\∀k,k=([91]++i)->(((List.length k+List.length [93]:Nat):Int) <=i64.max)/\∀l,l=(k++[93])->K (vS l) j) (K (vS []) c)))):Cf fD #[a] w (Ret K):=ru func44 [] h
theorem nl (a:Value){w K}(h:nA w (.cells (Value.cells a) ai) λb c=>∃d:FP [],(true/\∃e,Ld aw (vA b 0) c (vI e)/\ae (e !=(1:Int)) (K (.slice none 0 0) c) (∃f,Ld ai (vA b 0) c f/\uB cv #[f] c λg i=>ae (!g) (K (.slice none 0 0) i) (d i)))/\aC 9 (∀e,d e->true/\∃f,Ld au (vA b 1) e (vS f)/\uL cu #[vS f,.int .u8 46] e λg i j k=>K (.slice g i j) k)):Cf dH #[a] w (Ret K):=ru func60 [(2,[])] h
theorem py (a:lU){w K}(h:nA w (.cells bA ai) λb c=>∃d:FP [],(∃e:FP [.one .bool],(ae (decide (((List.length a:Nat):Int)>(0:Int))) (bx (0:Int) ((List.length a:Nat):Int)/\e ((aQ a (0:Int))==(91:Int)) c) (e false c))/\∀f,aC 7 (∀g,e f g->ae f (bx (i64.wrap (((List.length a:Nat):Int)-(1:Int))) ((List.length a:Nat):Int)/\ae ((aQ a (i64.wrap (((List.length a:Nat):Int)-(1:Int)))) !=(93:Int)) (∃i,Sv ai (vA b 0) (.agg bA) g i/\∃j,Rv ai (vA b 0) i j/\K (.tuple #[j,vI 31]) i) ((bd (i64.wrap (((List.length a:Nat):Int)-(1:Int))) (((List.length a):Nat):Int)/\0 <=(1:Int)/\(1:Int) <=((Int.toNat (i64.wrap (((List.length a:Nat):Int)-(1:Int))):Nat):Int))/\∀i,i=(List.drop (Int.toNat 1) (List.take (Int.toNat (i64.wrap (((List.length a:Nat):Int)-(1:Int)))) a))->Cf lV #[vS i] g λj k=>∃l m,j=rT #[l,.bool m]/\nA k (.cells aM ak) λn o=>∃p,Sv ak (vA n 0) l o p/\ae (!m) (∃q,Sv ai (vA b 0) (.agg bA) p q/\∃r,Rv ai (vA b 0) q r/\K (.tuple #[r,vI 31]) q) (∃q,Ld ak (vA n 0) p q/\∃r,(Instr.build ai #[(0,vI 3),(2,q)]).run prog p=.ok r p/\∃s,Sv ai (vA b 0) r p s/\∃t,Rv ai (vA b 0) s t/\K (.tuple #[t,vI 0]) s))) (d g)))/\aC 32 (∀e,d e->uS gU #[vS a] e λf g=>uL cu #[vS f,.int .u8 46] g λi j k l=>(bx (i64.wrap (((j:Nat):Int)-(1:Int))) ((j:Nat):Int)/\Option.isSome i=true)/\∃m,Ld au (ao i (i64.wrap (((j:Nat):Int)-(1:Int))) 1) l (vS m)/\uB dG #[vS m] l λn o=>ae n (Cf lT #[vS a] o λp q=>∃r s,p=rT #[r,.bool s]/\nA q (.cells aM ak) λt u=>∃v,Sv ak (vA t 0) r u v/\ae (!s) (∃x,Sv ai (vA b 0) (.agg bA) v x/\∃y,Rv ai (vA b 0) x y/\K (.tuple #[y,vI 31]) x) (∃x,Ld ak (vA t 0) v x/\∃y,(Instr.build ai #[(0,vI 2),(2,x)]).run prog v=.ok y v/\∃z,Sv ai (vA b 0) y v z/\∃A,Rv ai (vA b 0) z A/\K (.tuple #[A,vI 0]) z)) (∃p:Nat->FP [.one (.int .i64)],(∃q,p q (0:Int) o)/\∀q r,aC 10 (∀s,p q r s->ae (decide (r<((j:Nat):Int))) ((bx r ((j:Nat):Int)/\Option.isSome i=true)/\∃t,Ld au (ao i r 1) s (vS t)/\uB hZ #[vS t] s λu v=>ae (!u) (∃x,Sv ai (vA b 0) (.agg bA) v x/\∃y,Rv ai (vA b 0) x y/\K (.tuple #[y,vI 31]) x) (∃x:Nat,x<q/\p x (i64.wrap (r+(1:Int))) v)) (ae (decide (((List.length a:Nat):Int)>(253:Int))) (∃t,Sv ai (vA b 0) (.agg bA) s t/\∃u,Rv ai (vA b 0) t u/\K (.tuple #[u,vI 31]) t) (∃t,Sv ai (vA b 0) (.agg #[vI 1,vS f,.int .u8 0,.int .u8 0,.int .u8 0,.int .u8 0,.int .u8 0,.int .u8 0,.int .u8 0,.int .u8 0,.int .u8 0,.int .u8 0,.int .u8 0,.int .u8 0,.int .u8 0,.int .u8 0,.int .u8 0,.int .u8 0]) s t/\∃u,Rv ai (vA b 0) t u/\K (.tuple #[u,vI 0]) t)))))):Cf gZ #[vS a] w (Ret K):=ru func61 [(2,[]),(3,[(19,.one .bool)]),(54,[(64,.one (.int .i64))])] h
theorem po (a:Value){w K}(h:nA w (.cells (Value.cells a) ak) λb c=>(bx (12:Int) ((16:Nat):Int)/\true)/\∃d,(∀e,bW c e->Ld aG (ao (vA b 0) (12:Int) 1) e (.int .u8 d))/\∃e,(∀f,bW c f->Cf aY #[vI (i64.wrap d)] f λg i=>g=.returned (vS e)/\Below c.heap.size f i)/\(((List.length e+List.length [46]:Nat):Int) <=i64.max)/\∀f,f=(e++[46])->(bx (13:Int) ((16:Nat):Int)/\true)/\∃g,(∀i,bW c i->Ld aG (ao (vA b 0) (13:Int) 1) i (.int .u8 g))/\∃i,(∀j,bW c j->Cf aY #[vI (i64.wrap g)] j λk l=>k=.returned (vS i)/\Below c.heap.size j l)/\(((List.length f+List.length i:Nat):Int) <=i64.max)/\∀j,j=(f++i)->(((List.length j+List.length [46]:Nat):Int) <=i64.max)/\∀k,k=(j++[46])->(bx (14:Int) ((16:Nat):Int)/\true)/\∃l,(∀m,bW c m->Ld aG (ao (vA b 0) (14:Int) 1) m (.int .u8 l))/\∃m,(∀n,bW c n->Cf aY #[vI (i64.wrap l)] n λo p=>o=.returned (vS m)/\Below c.heap.size n p)/\(((List.length k+List.length m:Nat):Int) <=i64.max)/\∀n,n=(k++m)->(((List.length n+List.length [46]:Nat):Int) <=i64.max)/\∀o,o=(n++[46])->(bx (15:Int) ((16:Nat):Int)/\true)/\∃p,(∀q,bW c q->Ld aG (ao (vA b 0) (15:Int) 1) q (.int .u8 p))/\∃q,(∀r,bW c r->Cf aY #[vI (i64.wrap p)] r λs t=>s=.returned (vS q)/\Below c.heap.size r t)/\(((List.length o+List.length q:Nat):Int) <=i64.max)/\∀r,r=(o++q)->∀s,bW c s->K (vS r) s):Cf gV #[a] w (Ret K):=ru func92 [] h
theorem pq (a:Value){w K}(h:nA w (.cells (Value.cells a) ak) λb c=>∃d:Nat->FP [.one (.int .i64)],(∃e,d e (8:Int) c)/\∀e f,aC 40 (∀g,d e f g->ae (decide (f >=(2:Int))) (∃i:Nat->FP [.one (.int .i64)],(∃j,i j (0:Int) g)/\∀j k,aC 35 (∀l,i j k l->ae (decide ((i64.wrap (k+f)) <=(8:Int))) (∃m:Nat->FP [.one .bool,.one (.int .i64)],(∃n,m n true k l)/\∀n o p,aC 14 (∀q,m n o p q->ae (decide (p<(i64.wrap (k+f)))) (ae o (∃r,Ld ak (vA b 0) q r/\uI dY #[r,vI p] q λs t=>∃u:Nat,u<n/\m u (s==(0:Int)) (i64.wrap (p+(1:Int))) t) (∃r:Nat,r<n/\m r false (i64.wrap (p+(1:Int))) q)) (ae o (∃r,(∀s,bW q s->Ld ak (vA b 0) s r)/\∃s,(∀t,bW q t->Cf cj #[r,vI 0,vI k] t λu v=>u=.returned (vS s)/\Below q.heap.size t v)/\(((List.length s+List.length [58,58]:Nat):Int) <=i64.max)/\∀t,t=(s++[58,58])->∃u,(∀v,bW q v->Ld ak (vA b 0) v u)/\∃v,(∀x,bW q x->Cf cj #[u,vI (i64.wrap (k+f)),vI 8] x λy z=>y=.returned (vS v)/\Below q.heap.size x z)/\(((List.length t+List.length v:Nat):Int) <=i64.max)/\∀x,x=(t++v)->∀y,bW q y->K (vS x) y) (∃r:Nat,r<j/\i r (i64.wrap (k+(1:Int))) q)))) (∃m:Nat,m<e/\d m (i64.wrap (f-(1:Int))) l))) (∃i,Ld ak (vA b 0) g i/\uS cj #[i,vI 0,vI 8] g λj k=>K (vS j) k))):Cf gW #[a] w (Ret K):=ru func93 [(6,[(3,.one (.int .i64))]),(18,[(4,.one (.int .i64))]),(33,[(5,.one .bool),(6,.one (.int .i64))])] h
theorem uu (a:lU){w K}(h:nA w (.cells aM ak) λb c=>Cf dZ #[vS a] c λd e=>∃f g,d=rT #[f,.bool g]/\nA e (.cells aM ak) λi j=>∃k,Sv ak (vA i 0) f j k/\ae g (∃l,Ld ak (vA i 0) k l/\∃m,Sv ak (vA b 0) l k m/\∃n,Rv ak (vA b 0) m n/\K (.tuple #[n,.bool true]) m) (∃l:Nat->FP [.one (.int .i64)],(∃m,l m (0:Int) k)/\∀m n,aC 57 (∀o,l m n o->ae (decide ((i64.wrap (n+(2:Int))) <=((List.length a:Nat):Int))) (∃p:FP [],(bx n ((List.length a:Nat):Int)/\ae ((aQ a n) !=(58:Int)) (∃q:Nat,q<m/\l q (i64.wrap (n+(1:Int))) o) (bx (i64.wrap (n+(1:Int))) ((List.length a:Nat):Int)/\ae ((aQ a (i64.wrap (n+(1:Int)))) !=(58:Int)) (∃q:Nat,q<m/\l q (i64.wrap (n+(1:Int))) o) (p o)))/\aC 11 (∀q,p q->bd n (((List.length a):Nat):Int)/\∀r,r=(List.take (Int.toNat n) a)->bd (i64.wrap (n+(2:Int))) (((List.length a):Nat):Int)/\∀s,s=(List.drop (Int.toNat (i64.wrap (n+(2:Int)))) a)->∃t:FP [.one .str],(ae (!(r==[])) ((((List.length r+List.length [58]:Nat):Int) <=i64.max)/\∀u,u=(r++[58])->t u q) (t r q))/\∀u,aC 4 (∀v,t u v->∃x:FP [.one .str],(ae (!(s==[])) ((((List.length [58]+List.length s:Nat):Int) <=i64.max)/\∀y,y=([58]++s)->x y v) (x s v))/\∀y,aC 4 (∀z,x y z->∃A:Nat->FP [.one .str,.one (.int .i64)],(∃B,A B [48] (0:Int) z)/\∀B C D,aC 20 (∀E,A B C D E->ae (decide (D<(8:Int))) ((((List.length u+List.length C:Nat):Int) <=i64.max)/\∀F,F=(u++C)->(((List.length F+List.length y:Nat):Int) <=i64.max)/\∀G,G=(F++y)->Cf dZ #[vS G] E λH I=>∃J L,H=rT #[J,.bool L]/\nA I (.cells aM ak) λM N=>∃O,Sv ak (vA M 0) J N O/\ae L (∃P,Ld ak (vA M 0) O P/\∃Q,Sv ak (vA b 0) P O Q/\∃R,Rv ak (vA b 0) Q R/\K (.tuple #[R,.bool true]) Q) ((((List.length C+List.length [58,48]:Nat):Int) <=i64.max)/\∀P,P=(C++[58,48])->∃Q:Nat,Q<B/\A Q P (i64.wrap (D+(1:Int))) O)) (∃F:Nat,F<m/\l F (i64.wrap (n+(1:Int))) E)))))) (∃p,Sv ak (vA b 0) (.agg aM) o p/\∃q,Rv ak (vA b 0) p q/\K (.tuple #[q,.bool false]) p)))):Cf lV #[vS a] w (Ret K):=ru func109 [(16,[(6,.one (.int .i64))]),(25,[]),(35,[(7,.one .str)]),(41,[(8,.one .str)]),(52,[(9,.one .str),(10,.one (.int .i64))])] h
theorem ut (a:lU){w K}(h:nA w (.cells aM ak) λb c=>nA c (.cells aM ak) λd e=>∃f,Sv ak (vA d 0) (.agg aM) e f/\uL cu #[vS a,.int .u8 46] f λg i j k=>ae (((i:Nat):Int) !=(4:Int)) (∃l,Sv ak (vA b 0) (.agg aM) k l/\∃m,Rv ak (vA b 0) l m/\K (.tuple #[m,.bool false]) l) (∃l:Nat->FP [.one (.int .i64)],(∃m,l m (0:Int) k)/\∀m n,aC 27 (∀o,l m n o->ae (decide (n<(4:Int))) ((bx n ((i:Nat):Int)/\Option.isSome g=true)/\∃p,Ld au (ao g n 1) o (vS p)/\Cf fO #[vS p] o λq r=>∃s t,q=rT #[vI s,.bool t]/\∃u:FP [],(∃v:FP [.one .bool],(ae (!t) (v true r) (v (decide (s>(255:Int))) r))/\∀x,aC 5 (∀y,v x y->ae x (∃z,Sv ak (vA b 0) (.agg aM) y z/\∃A,Rv ak (vA b 0) z A/\K (.tuple #[A,.bool false]) z) (u y)))/\aC 8 (∀v,u v->(bx (i64.wrap ((12:Int)+n)) ((16:Nat):Int)/\true)/\∃x,Sv aG (ao (vA d 0) (i64.wrap ((12:Int)+n)) 1) (.int .u8 (IntKind.u8.wrap s)) v x/\∃y:Nat,y<m/\l y (i64.wrap (n+(1:Int))) x)) (∃p,Ld ak (vA d 0) o p/\∃q,Sv ak (vA b 0) p o q/\∃r,Rv ak (vA b 0) q r/\K (.tuple #[r,.bool true]) q)))):Cf lT #[vS a] w (Ret K):=ru func112 [(18,[(6,.one (.int .i64))]),(29,[]),(30,[(33,.one .bool)])] h
theorem pC (a:lU){w K}(h:∃b:Nat->FP [.one (.int .i64)],(∃c,b c (0:Int) w)/\∀c d,aC 33 (∀e,b c d e->ae (decide (d<((List.length a:Nat):Int))) (bx d ((List.length a:Nat):Int)/\ae (decide ((aQ a d)<(97:Int))) (ae (decide ((aQ a d)<(48:Int))) (ae ((aQ a d) !=(45:Int)) (ae ((aQ a d) !=(95:Int)) (K (.bool false) e) (∃f:Nat,f<c/\b f (i64.wrap (d+(1:Int))) e)) (∃f:Nat,f<c/\b f (i64.wrap (d+(1:Int))) e)) (ae (decide ((aQ a d)>(57:Int))) (ae ((aQ a d) !=(45:Int)) (ae ((aQ a d) !=(95:Int)) (K (.bool false) e) (∃f:Nat,f<c/\b f (i64.wrap (d+(1:Int))) e)) (∃f:Nat,f<c/\b f (i64.wrap (d+(1:Int))) e)) (∃f:Nat,f<c/\b f (i64.wrap (d+(1:Int))) e))) (ae (decide ((aQ a d)>(122:Int))) (ae (decide ((aQ a d)<(48:Int))) (ae ((aQ a d) !=(45:Int)) (ae ((aQ a d) !=(95:Int)) (K (.bool false) e) (∃f:Nat,f<c/\b f (i64.wrap (d+(1:Int))) e)) (∃f:Nat,f<c/\b f (i64.wrap (d+(1:Int))) e)) (ae (decide ((aQ a d)>(57:Int))) (ae ((aQ a d) !=(45:Int)) (ae ((aQ a d) !=(95:Int)) (K (.bool false) e) (∃f:Nat,f<c/\b f (i64.wrap (d+(1:Int))) e)) (∃f:Nat,f<c/\b f (i64.wrap (d+(1:Int))) e)) (∃f:Nat,f<c/\b f (i64.wrap (d+(1:Int))) e))) (∃f:Nat,f<c/\b f (i64.wrap (d+(1:Int))) e))) (ae (decide (((List.length a:Nat):Int) >=(1:Int))) (K (.bool (decide (((List.length a:Nat):Int) <=(63:Int)))) e) (K (.bool false) e)))):Cf hZ #[vS a] w (Ret K):=ru func113 [(6,[(3,.one (.int .i64))])] h
theorem mq (a:Int){w K}(h:ae (decide (a<(10:Int))) (nA w (.cells #[.int .u8 (IntKind.u8.wrap (i64.wrap ((48:Int)+a)))] aG) λb c=>∃d,(convert aP au (.slice (vA b 0) 1 1)).run prog c=.ok (vS d) c/\K (vS d) c) (((10:Int)≠0)/\∀b,b=(i64.wrap (Int.tdiv a (10:Int)))->((10:Int)≠0)/\∀c,c=(Int.tmod a (10:Int))->(uS aY #[vI b] (World.drew w) λd e=>nA e (.cells #[.int .u8 (IntKind.u8.wrap (i64.wrap ((48:Int)+c)))] aG) λf g=>∃i,(convert aP au (.slice (vA f 0) 1 1)).run prog g=.ok (vS i) g/\(((List.length d+List.length i:Nat):Int) <=i64.max)/\∀j,j=(d++i)->K (vS j) g)/\∀d e,d=(World.drew w).heap.size->e=(World.drew w).alloc (.cells #[.int .u8 (IntKind.u8.wrap (i64.wrap ((48:Int)+c)))] aG)->(uS aY #[vI b] e λf g=>∃i,(convert aP au (.slice (vA d 0) 1 1)).run prog g=.ok (vS i) g/\(((List.length f+List.length i:Nat):Int) <=i64.max)/\∀j,j=(f++i)->K (vS j) g)/\∃f,(convert aP au (.slice (vA d 0) 1 1)).run prog e=.ok (vS f) e/\uS aY #[vI b] e λg i=>(((List.length g+List.length f:Nat):Int) <=i64.max)/\∀j,j=(g++f)->K (vS j) i)):Cf aY #[vI a] w (Ret K):=ru func145 [] h
theorem pm (a:Value)(b:Int){w K}(h:nA w (.cells (Value.cells a) ak) λc d=>(bx (i64.wrap ((2:Int)*b)) ((16:Nat):Int)/\true)/\∃e,(∀f,bW d f->Ld aG (ao (vA c 0) (i64.wrap ((2:Int)*b)) 1) f (.int .u8 e))/\(bx (i64.wrap ((i64.wrap ((2:Int)*b))+(1:Int))) ((16:Nat):Int)/\true)/\∃f,(∀g,bW d g->Ld aG (ao (vA c 0) (i64.wrap ((i64.wrap ((2:Int)*b))+(1:Int))) 1) g (.int .u8 f))/\∀g,bW d g->K (vI (i64.wrap ((i64.wrap ((i64.wrap e)*(256:Int)))+(i64.wrap f)))) g):Cf dY #[a,vI b] w (Ret K):=ru func146 [] h
theorem qC (a:Value)(b c:Int){w K}(h:nA w (.cells (Value.cells a) ak) λd e=>∃f:Nat->FP [.one .str,.one (.int .i64)],(∃g,f g [] b e)/\∀g i j,aC 16 (∀k,f g i j k->ae (decide (j<c)) (∃l:FP [.one .str],(ae (decide (j>b)) ((((List.length i+List.length [58]:Nat):Int) <=i64.max)/\∀m,m=(i++[58])->l m k) (l i k))/\∀m,aC 5 (∀n,l m n->∃o,Ld ak (vA d 0) n o/\uI dY #[o,vI j] n λp q=>uS gY #[vI p] q λr s=>(((List.length m+List.length r:Nat):Int) <=i64.max)/\∀t,t=(m++r)->∃u:Nat,u<g/\f u t (i64.wrap (j+(1:Int))) s)) (K (vS i) k))):Cf cj #[a,vI b,vI c] w (Ret K):=ru func147 [(8,[(7,.one .str),(8,.one (.int .i64))]),(17,[(7,.one .str)])] h
theorem px (a:lU){w K}(h:nA w (.cells aM ak) λb c=>nA c (.cells aM ak) λd e=>∃f,Sv ak (vA d 0) (.agg aM) e f/\uL cu #[vS a,.int .u8 58] f λg i j k=>ae (((i:Nat):Int) !=(8:Int)) (∃l,Sv ak (vA b 0) (.agg aM) k l/\∃m,Rv ak (vA b 0) l m/\K (.tuple #[m,.bool false]) l) (∃l:Nat->FP [.one (.int .i64)],(∃m,l m (0:Int) k)/\∀m n,aC 59 (∀o,l m n o->ae (decide (n<(8:Int))) (∃p:FP [],(∃q:FP [.one .bool],((bx n ((i:Nat):Int)/\Option.isSome g=true)/\∃r,Ld au (ao g n 1) o (vS r)/\ae (decide (((List.length r:Nat):Int)<(1:Int))) (q true o) ((bx n ((i:Nat):Int)/\Option.isSome g=true)/\∃s,Ld au (ao g n 1) o (vS s)/\q (decide (((List.length s:Nat):Int)>(4:Int))) o))/\∀r,aC 13 (∀s,q r s->ae r (∃t,Sv ak (vA b 0) (.agg aM) s t/\∃u,Rv ak (vA b 0) t u/\K (.tuple #[u,.bool false]) t) (p s)))/\aC 16 (∀q,p q->∃r:Nat->FP [.one (.int .i64),.one (.int .i64)],(∃s,r s (0:Int) (0:Int) q)/\∀s t u,aC 25 (∀v,r s t u v->(bx n ((i:Nat):Int)/\Option.isSome g=true)/\∃x,Ld au (ao g n 1) v (vS x)/\ae (decide (u<((List.length x:Nat):Int))) ((bx n ((i:Nat):Int)/\Option.isSome g=true)/\∃y,Ld au (ao g n 1) v (vS y)/\bx u ((List.length y:Nat):Int)/\uI gX #[.int .u8 (aQ y u)] v λz A=>ae (decide (z<(0:Int))) (∃B,Sv ak (vA b 0) (.agg aM) A B/\∃C,Rv ak (vA b 0) B C/\K (.tuple #[C,.bool false]) B) (∃B:Nat,B<s/\r B (i64.wrap ((i64.wrap (t*(16:Int)))+z)) (i64.wrap (u+(1:Int))) A)) (((256:Int)≠0)/\∀y,y=(i64.wrap (Int.tdiv t (256:Int)))->(bx (i64.wrap ((2:Int)*n)) ((16:Nat):Int)/\true)/\∃z,Sv aG (ao (vA d 0) (i64.wrap ((2:Int)*n)) 1) (.int .u8 (IntKind.u8.wrap y)) v z/\((256:Int)≠0)/\∀A,A=(Int.tmod t (256:Int))->(bx (i64.wrap ((i64.wrap ((2:Int)*n))+(1:Int))) ((16:Nat):Int)/\true)/\∃B,Sv aG (ao (vA d 0) (i64.wrap ((i64.wrap ((2:Int)*n))+(1:Int))) 1) (.int .u8 (IntKind.u8.wrap A)) z B/\∃C:Nat,C<m/\l C (i64.wrap (n+(1:Int))) B)))) (∃p,Ld ak (vA d 0) o p/\∃q,Sv ak (vA b 0) p o q/\∃r,Rv ak (vA b 0) q r/\K (.tuple #[r,.bool true]) q)))):Cf dZ #[vS a] w (Ret K):=ru func167 [(18,[(6,.one (.int .i64))]),(29,[]),(30,[(34,.one .bool)]),(41,[(7,.one (.int .i64)),(8,.one (.int .i64))])] h
theorem si (a:Int){w K}(h:ae (decide (a<(16:Int))) ((bd (i64.wrap (a+(1:Int))) (((List.length [48,49,50,51,52,53,54,55,56,57,97,98,99,100,101,102]):Nat):Int)/\0 <=a/\a <=((Int.toNat (i64.wrap (a+(1:Int))):Nat):Int))/\∀b,b=(List.drop (Int.toNat a) (List.take (Int.toNat (i64.wrap (a+(1:Int)))) [48,49,50,51,52,53,54,55,56,57,97,98,99,100,101,102]))->K (vS b) w) (((16:Int)≠0)/\∀b,b=(i64.wrap (Int.tdiv a (16:Int)))->∃c,(∀d,bW w d->Cf gY #[vI b] d λe f=>e=.returned (vS c)/\Below w.heap.size d f)/\((16:Int)≠0)/\∀d,d=(Int.tmod a (16:Int))->((16:Int)≠0)/\∀e,e=(Int.tmod a (16:Int))->(bd (i64.wrap (e+(1:Int))) (((List.length [48,49,50,51,52,53,54,55,56,57,97,98,99,100,101,102]):Nat):Int)/\0 <=d/\d <=((Int.toNat (i64.wrap (e+(1:Int))):Nat):Int))/\∀f,f=(List.drop (Int.toNat d) (List.take (Int.toNat (i64.wrap (e+(1:Int)))) [48,49,50,51,52,53,54,55,56,57,97,98,99,100,101,102]))->(((List.length c+List.length f:Nat):Int) <=i64.max)/\∀g,g=(c++f)->∀i,bW w i->K (vS g) i)):Cf gY #[vI a] w (Ret K):=ru func190 [] h
theorem pu (a:Int){w K}(h:∃b:FP [],(∃c:FP [.one .bool],(ae (decide (a >=(48:Int))) (c (decide (a <=(57:Int))) w) (c false w))/\∀d,aC 5 (∀e,c d e->ae d (K (vI (i64.wrap ((i64.wrap a)-(48:Int)))) e) (b e)))/\aC 10 (∀c,b c->∃d:FP [],(∃e:FP [.one .bool],(ae (decide (a >=(97:Int))) (e (decide (a <=(102:Int))) c) (e false c))/\∀f,aC 5 (∀g,e f g->ae f (K (vI (i64.wrap ((i64.wrap a)-(87:Int)))) g) (d g)))/\aC 10 (∀e,d e->∃f:FP [.one .bool],(ae (decide (a >=(65:Int))) (f (decide (a <=(70:Int))) e) (f false e))/\∀g,aC 5 (∀i,f g i->ae g (K (vI (i64.wrap ((i64.wrap a)-(55:Int)))) i) (K (vI (-1)) i))))):Cf gX #[.int .u8 a] w (Ret K):=ru func211 [(2,[]),(3,[(8,.one .bool)]),(10,[]),(11,[(17,.one .bool)]),(19,[(26,.one .bool)])] h
theorem pj (a:lU)(b:Int){w K}(h:nA w (.cells #[] au) λc d=>∃e:Nat->FP [.one .slice,.one (.int .i64),.one (.int .i64)],(∃f,e f (vA c 0) 0 0 (0:Int) (0:Int) d)/\∀f g i j k l,aC 20 (∀m,e f g i j k l m->ae (decide (l<((List.length a:Nat):Int))) (bx l ((List.length a:Nat):Int)/\ae ((aQ a l)==b) ((bd l (((List.length a):Nat):Int)/\0 <=k/\k <=((Int.toNat l:Nat):Int))/\∀n,n=(List.drop (Int.toNat k) (List.take (Int.toNat l) a))->nA m (.cells #[vS n] au) λo p=>∃q r s t,(Builtin.append_ #[az,az] az #[.slice g i j,.slice (vA o 0) 1 1]).run prog p=.ok (.slice r s t) q/\∃u:Nat,u<f/\e u r s t (i64.wrap (l+(1:Int))) (i64.wrap (l+(1:Int))) q) (∃n:Nat,n<f/\e n g i j k (i64.wrap (l+(1:Int))) m)) (bd k (((List.length a):Nat):Int)/\∀n,n=(List.drop (Int.toNat k) a)->nA m (.cells #[vS n] au) λo p=>∃q r s t,(Builtin.append_ #[az,az] az #[.slice g i j,.slice (vA o 0) 1 1]).run prog p=.ok (.slice r s t) q/\K (.slice r s t) q))):Cf cu #[vS a,.int .u8 b] w (Ret K):=ru func108 [(10,[(5,.one .slice),(6,.one (.int .i64)),(7,.one (.int .i64))])] h
theorem pg (a:lU){w K}(h:∃b:Nat->FP [.one .str,.one (.int .i64)],(∃c,b c [] (0:Int) w)/\∀c d e,aC 23 (∀f,b c d e f->ae (decide (e<((List.length a:Nat):Int))) (bx e ((List.length a:Nat):Int)/\∃g:FP [.one (.int .u8)],(ae (decide ((aQ a e) >=(65:Int))) (ae (decide ((aQ a e) <=(90:Int))) (g (IntKind.u8.wrap ((aQ a e)+(32:Int))) f) (g (aQ a e) f)) (g (aQ a e) f))/\∀i,aC 8 (∀j,g i j->nA j (.cells #[.int .u8 i] aG) λk l=>∃m,(convert aP au (.slice (vA k 0) 1 1)).run prog l=.ok (vS m) l/\(((List.length d+List.length m:Nat):Int) <=i64.max)/\∀n,n=(d++m)->∃o:Nat,o<c/\b o n (i64.wrap (e+(1:Int))) l)) (K (vS d) f))):Cf gU #[vS a] w (Ret K):=ru func110 [(8,[(3,.one .str),(4,.one (.int .i64))]),(19,[(5,.one (.int .u8))])] h
theorem nj (a:lU){w K}(h:∃b:Nat->FP [.one (.int .i64)],(∃c,b c (0:Int) w)/\∀c d,aC 17 (∀e,b c d e->ae (decide (d<((List.length a:Nat):Int))) (bx d ((List.length a:Nat):Int)/\ae (decide ((aQ a d)<(48:Int))) (K (.bool false) e) (bx d ((List.length a:Nat):Int)/\ae (decide ((aQ a d)>(57:Int))) (K (.bool false) e) (∃f:Nat,f<c/\b f (i64.wrap (d+(1:Int))) e))) (K (.bool (decide (((List.length a:Nat):Int)>(0:Int)))) e))):Cf dG #[vS a] w (Ret K):=ru func111 [(6,[(3,.one (.int .i64))])] h
theorem nk (a:lU){w K}(h:∃b:FP [],(uB dG #[vS a] w λc d=>ae (!c) (K (.tuple #[vI 0,.bool false]) d) (ae (decide (((List.length a:Nat):Int)>(18:Int))) (K (.tuple #[vI 0,.bool false]) d) (ae (decide (((List.length a:Nat):Int)>(1:Int))) (bx (0:Int) ((List.length a:Nat):Int)/\ae ((aQ a (0:Int))==(48:Int)) (K (.tuple #[vI 0,.bool false]) d) (b d)) (b d))))/\aC 20 (∀c,b c->∃d:Nat->FP [.one (.int .i64),.one (.int .i64)],(∃e,d e (0:Int) (0:Int) c)/\∀e f g,aC 14 (∀i,d e f g i->ae (decide (g<((List.length a:Nat):Int))) (bx g ((List.length a:Nat):Int)/\∃j:Nat,j<e/\d j (i64.wrap ((i64.wrap ((i64.wrap (f*(10:Int)))+(i64.wrap (aQ a g))))-(48:Int))) (i64.wrap (g+(1:Int))) i) (K (.tuple #[vI f,.bool true]) i)))):Cf fO #[vS a] w (Ret K):=ru func168 [(2,[]),(16,[(4,.one (.int .i64)),(5,.one (.int .i64))])] h
theorem Qa {n:Nat}{w:World}{R:List UInt8->World->Prop}{B:(List UInt8->World->Prop)->Prop}(f:List UInt8)(hB:B (λb w'=>w'=w/\b=f))(h:R f w):
   ∃J:FP [.one (.str)],B J/\∀b:List UInt8,aC n (∀wj:World,J b wj->R b wj):=by
 refine⟨λb w'=>w'=w/\b=f,hB,λb=>aC.of ?_ _⟩
 rintro wj ⟨rfl,rfl⟩;exact h
theorem Pc {n:Nat}{w:World}{c x:Bool}{R:Bool->World->Prop}(h:R (c&&x) w):∃J:FP [.one (.bool)],ae c (J x w) (J false w)/\∀b:Bool,aC n (∀wj:World,J b wj->R b wj):=
 K9 (B:=λJ=>ae c (J x w) (J false w)) (c&&x) (ae.of (λh=>⟨rfl,by rw[h];rfl⟩) (λh=>⟨rfl,by rw[h];rfl⟩)) h
theorem Ig (c:UInt8)(s cur:List UInt8)(k:Nat)(h:k<s.length):bS c cur (s.drop k)=if s[k]=c then cur::bS c [] (s.drop (k+1))else bS c (cur++[s[k]]) (s.drop (k+1)):=by
 rw[List.drop_eq_getElem_cons h];rfl
theorem sD {a b:Int}(h:0 <=a):Int.tmod a b=a%b:=Int.tmod_eq_emod_of_nonneg h
theorem sC {a b:Int}(h:0 <=a):Int.tdiv a b=a/b:=Int.tdiv_eq_ediv_of_nonneg h
theorem Ih {s:List UInt8}{k:Nat}(h:k<s.length):ue s[k]=true ↔ 48 <=aQ s (k:Int)/\aQ s (k:Int) <=57:=by
 rw[ow (i:=(k:Int)) (by simpa using h),yg]
 simp only[Int.toNat_natCast];omega
theorem qt (s:List UInt8)(hs:s.length <=9223372036854775800)(w:World):Cf gU #[vS s] w (Ret λv w'=>v=vS (ir s)/\bW w w'):=by
 apply pg
 refine⟨λm o i w'=>∃k:Nat,k <=s.length/\i=(k:Int)/\o=ir (s.take k)/\m=s.length-k/\bW w w',⟨_,0,by omega,rfl,rfl,rfl,Below.refl _ _⟩,?_⟩
 intro m o i
 refine aC.of ?_ _
 rintro w1 ⟨k,hk,rfl,rfl,rfl,hb⟩
 refine ae.of (λh=>?_) (λh=>?_) <;> simp only[dTx,dFx]at h
 · have hlt:k<s.length:=by omega
   have hlow:=FJ s[k]
   have hu:=kY s[k]
   rw[ow (i:=(k:Int)) (by simpa using hlt)]
   simp only[Int.toNat_natCast]
   refine⟨⟨by omega,h⟩,QW (w:=w1) ((Gs s[k]).toNat:Nat) ?_ ?_⟩
   · refine ae.of (λh2=>?_) (λh2=>?_) <;> simp only[ge_iff_le,dTx,dFx]at h2
     · refine ae.of (λh3=>?_) (λh3=>?_) <;> simp only[ge_iff_le,dTx,dFx]at h3
       · rw[if_pos ⟨h2,h3⟩]at hlow
         exact⟨rfl,by rw[wrap_u8 (by omega) (by omega),hlow]⟩
       · rw[if_neg (λe=>h3 e.2)]at hlow
         exact⟨rfl,hlow.symm⟩
     · rw[if_neg (λe=>h2 e.1)]at hlow
       exact⟨rfl,hlow.symm⟩
   · intro k1 w2 hk1 hw2
     have ho:Ow tU8 aG w2 NoB (some ⟨k1,0,none⟩) 1 1 [Gs s[k]]:=Ow.newF tT hk1 hw2 (iK.one (ul rfl)) (show 1 <=maxLen by decide)
     have hl:(ir (s.take k)).length=k:=by simp[ir];omega
     refine⟨_,qN bZ aA bP ho.all,by rw[hl];simp[IntKind.max,IntKind.bits];omega,?_⟩
     rintro _ rfl
     refine⟨s.length-(k+1),by omega,k+1,by omega,by rw[wrap_i64 (by omega) (by omega)];omega,?_,rfl,ab hb (hw2▸ah _ _) hb.size⟩
     unfold ir;rw[List.take_succ_eq_append_getElem hlt,List.map_append];rfl
 · have:k=s.length:=by omega
   subst this
   rw[List.take_length];exact⟨rfl,hb⟩
theorem iV (s:List UInt8)(hs:s.length <=9223372036854775807)(w:World):Cf dG #[vS s] w (Ret λv w'=>v=.bool (cC s)/\w'=w):=by
 apply nj
 refine⟨λm i w'=>∃k:Nat,k <=s.length/\i=(k:Int)/\m=s.length-k/\(s.take k).all ue=true/\w'=w,⟨_,0,by omega,rfl,rfl,rfl,rfl⟩,?_⟩
 intro m i
 refine aC.of ?_ _
 rintro w' ⟨k,hk,rfl,rfl,hall,rfl⟩
 refine ae.of (λh=>?_) (λh=>?_) <;> simp only[dTx,dFx]at h
 · have hlt:k<s.length:=by omega
   have hd:=Ih hlt
   have bad: ¬ ue s[k]=true->(.bool false:Value)=.bool (cC s)/\w'=w':=λhn=>⟨by
     congr 1
     symm
     unfold cC
     rw[Bool.and_eq_false_iff]
     right
     rw[Bool.eq_false_iff]
     intro hc
     exact hn (List.all_eq_true.1 hc _ (List.getElem_mem hlt)),rfl⟩
   refine⟨⟨by omega,h⟩,?_⟩
   refine ae.of (λh2=>?_) (λh2=>?_) <;> simp only[dTx,dFx]at h2
   · exact bad λhc=>by have:=(hd.1 hc).1;omega
   refine⟨⟨by omega,h⟩,?_⟩
   refine ae.of (λh3=>?_) (λh3=>?_) <;> simp only[gt_iff_lt,dTx,dFx]at h3
   · exact bad λhc=>by have:=(hd.1 hc).2;omega
   · refine⟨s.length-(k+1),by omega,k+1,by omega,by rw[wrap_i64 (by omega) (by omega)];omega,rfl,?_,rfl⟩
     rw[List.take_succ_eq_append_getElem hlt,List.all_append,hall]
     simp[hd.2 ⟨by omega,by omega⟩]
 · have:k=s.length:=by omega
   subst this
   rw[List.take_length]at hall
   refine⟨?_,rfl⟩
   congr 1
   unfold cC
   rw[hall,Bool.and_true]
   cases s <;> simp
theorem dM (s:List UInt8)(c:UInt8)(hs:s.length <=100000000)(w:World):
   Cf cu #[vS s,.int .u8 ((c.toNat:Nat):Int)] w (Ret λv w'=>∃a n cp,v=.slice a n cp/\Ow tS au w' NoB a n cp (bS c [] s)/\bI w.heap.size a/\bW w w'):=by
 apply pj
 intro k8 w8 hk8 hw8
 have hB:=(hw8▸ah w _:bW w w8)
 have ho8:Ow tS au w8 NoB (some ⟨k8,0,none⟩) 0 0 []:=Ow.newF (j5 _) hk8 hw8 (iK.nil _ _ _) (Nat.zero_le _)
 refine⟨λm a n cp fr i w'=>∃(k j:Nat) (done:List (List UInt8)),k <=s.length/\j <=k/\i=(k:Int)/\fr=(j:Int)/\m=s.length-k/\done.length <=k/\bS c [] s=done++bS c ((s.take k).drop j) (s.drop k)/\
     Ow tS au w' NoB a n cp done/\bI w.heap.size a/\bW w w',
   ⟨_,0,0,[],by omega,by omega,rfl,rfl,rfl,Nat.le_refl _,rfl,ho8,tU hk8,hB⟩,?_⟩
 intro m a n cp fr i
 refine aC.of ?_ _
 rintro w1 ⟨k,j,done,hk,hj,rfl,rfl,rfl,hdl,hcut,ho,hf,hb⟩
 refine ae.of (λh=>?_) (λh=>?_) <;> simp only[dTx,dFx]at h
 · have hlt:k<s.length:=by omega
   have ew:i64.wrap ((k:Int)+1)=((k+1:Nat):Int):=by rw[wrap_i64 (by omega) (by omega)];omega
   try dsimp only
   rw[ew,byte_at hlt,mu]
   rw[Ig c s _ k hlt]at hcut
   refine⟨⟨by omega,h⟩,?_⟩
   refine ae.of (λh2=>?_) (λh2=>?_)
   · rw[beq_iff_eq]at h2
     rw[if_pos h2]at hcut
     refine⟨⟨⟨by omega,by omega⟩,by omega,by omega⟩,?_⟩
     rintro _ rfl k3 w3 hk3 hw3
     simp only[Int.toNat_natCast]at hw3 ⊢
     obtain⟨w4,a4,n4,c4,hr,ho4,hf4,hb4⟩:=FW (ty:=az) (w0:=w) (cm:=1) (vs:=[_]) (j5 _) cb pJ (by decide) ho hf hb hk3 hw3 (xl trivial) (by omega)
     refine⟨w4,a4,n4,c4,hr,s.length-(k+1),by omega,k+1,k+1,_,by omega,Nat.le_refl _,rfl,rfl,rfl,?_,?_,ho4,hf4,hb4⟩
     · simp;omega
     · have hnil:(s.take (k+1)).drop (k+1)=[]:=List.drop_eq_nil_of_le (by rw[List.length_take];omega)
       rw[hcut,hnil]
       simp
   · rw[beq_eq_false_iff_ne]at h2
     rw[if_neg h2]at hcut
     refine⟨s.length-(k+1),by omega,k+1,j,done,by omega,by omega,rfl,rfl,rfl,by omega,?_,ho,hf,hb⟩
     rw[hcut,List.take_succ_eq_append_getElem hlt,List.drop_append_of_le_length (by rw[List.length_take];omega)]
 · have:k=s.length:=by omega
   subst this
   refine⟨⟨by omega,by omega⟩,?_⟩
   rintro _ rfl k3 w3 hk3 hw3
   simp only[Int.toNat_natCast]at hw3 ⊢
   obtain⟨w4,a4,n4,c4,hr,ho4,hf4,hb4⟩:=FW (ty:=az) (w0:=w) (cm:=1) (vs:=[_]) (j5 _) cb pJ (by decide) ho hf hb hk3 hw3 (xl trivial) (by omega)
   refine⟨w4,a4,n4,c4,hr,_,_,_,rfl,?_,hf4,hb4⟩
   rw[hcut]
   simpa[bS]using ho4
theorem pa (s:List UInt8)(hs:s.length <=9223372036854775000)(w:World):
   Cf fO #[vS s] w (Ret λv w'=>v=(if zD s then .tuple #[vI (wW s),.bool true]else .tuple #[vI 0,.bool false])/\w'=w):=by
 apply nk
 refine fY (λw'=>zD s/\w'=w) ?_ ?_
 · refine ax (iV s (by omega) w) ?_
   rintro _ w' ⟨rfl,hw⟩
   rw[hw]
   refine⟨_,rfl,?_⟩
   have bad: ¬ zD s->(.tuple #[vI 0,.bool false]:Value)=(if zD s then .tuple #[vI (wW s),.bool true]else .tuple #[vI 0,.bool false])/\w=w:=λhn=>⟨by rw[if_neg hn],rfl⟩
   refine ae.of (λh=>bad λhn=>by rw[hn.1]at h;cases h) (λh=>?_)
   have hd:cC s=true:=by simpa using h
   refine ae.of (λh2=>bad λhn=>by have:=hn.2.1;simp at h2;omega) (λh2=>?_)
   have hl:s.length <=18:=by simp at h2;omega
   refine ae.of (λh3=>?_) (λh3=>?_) <;> simp only[dTx,dFx]at h3
   · have hl1:1<s.length:=by omega
     refine⟨⟨by decide,by omega⟩,?_⟩
     have hb:=byte_at (s:=s) (k:=0) (by omega)
     rw[show((0:Nat):Int)=0 from rfl]at hb
     have hu:=mu s[0] 48
     rw[show(((48:UInt8).toNat:Nat):Int)=48 from rfl]at hu
     rw[hb,hu]
     have hhd:s.head?=some s[0]:=by rw[List.head?_eq_getElem?,List.getElem?_eq_getElem]
     refine ae.of (λh4=>bad λhn=>hn.2.2 ⟨?_,hl1⟩) (λh4=>⟨⟨hd,hl,λhn=>?_⟩,rfl⟩)
     · rw[beq_iff_eq]at h4;rw[hhd,h4]
     · rw[hhd]at hn
       rw[Option.some.inj hn.1]at h4;simp at h4
   · exact⟨⟨hd,hl,λhn=>h3 (by omega)⟩,rfl⟩
 · rintro w' ⟨hn,hw⟩
   rw[hw]
   have hdg:∀c∈s,ue c=true:=by
     have:=hn.1
     unfold cC at this
     rw[Bool.and_eq_true]at this
     exact λc hc=>List.all_eq_true.1 this.2 c hc
   have hl:=hn.2.1
   refine⟨λm v i w'=>∃k:Nat,k <=s.length/\i=(k:Int)/\m=s.length-k/\v=wW (s.take k)/\w'=w,⟨_,0,by omega,rfl,rfl,rfl,rfl⟩,?_⟩
   intro m v i
   refine aC.of ?_ _
   rintro w' ⟨k,hk,rfl,rfl,rfl,hw'⟩
   rw[hw']
   refine ae.of (λh=>?_) (λh=>?_) <;> simp only[dTx,dFx]at h
   · have hlt:k<s.length:=by omega
     rw[byte_at hlt]
     have hc:=hdg s[k] (List.getElem_mem hlt)
     have hu:=kY s[k]
     have hb:=qU (s.take k) 0 (by decide) (λc hc=>hdg c (List.mem_of_mem_take hc))
     have hpow:(10:Int) ^ (s.take k).length <=10 ^ 17:=by
       have:(s.take k).length <=17:=by rw[List.length_take];omega
       exact_mod_cast Nat.pow_le_pow_right (by decide:0<10) this
     have hb2:0 <=wW (s.take k)/\wW (s.take k)<10 ^ 17:=⟨hb.1,by
       have h2:=hb.2
       have:wW (s.take k)<(0+1)*10 ^ (s.take k).length:=h2
       omega⟩
     refine⟨⟨by omega,h⟩,s.length-(k+1),by omega,k+1,by omega,by rw[wrap_i64 (by omega) (by omega)];omega,rfl,?_,rfl⟩
     rw[wrap_i64 (n:=wW (s.take k)*10) (by omega) (by omega),wrap_i64 (n:=((s[k].toNat:Nat):Int)) (by omega) (by omega),wrap_i64 (n:=_+_) (by omega) (by omega),wrap_i64 (by omega) (by omega),List.take_succ_eq_append_getElem hlt]
     unfold wW
     rw[List.foldl_append]
     show _=_*10+(((s[k].toNat:Nat):Int)-48)
     omega
   · have:k=s.length:=by omega
     subst this
     rw[List.take_length,if_pos hn];exact⟨rfl,rfl⟩
theorem xi (s:List UInt8)(hs:s.length <=100000000)(w:World):Cf lT #[vS s] w (Ret λv w'=>v=adT (v4V s)/\bW w w'):=by
 apply ut
 intro k2 w2 hk2 hw2
 have hB2:=(hw2▸ah w _:bW w w2)
 have h2:am w2 k2 ak (adC ad0):=am.new hk2 hw2
 intro k5 w4 hk5 hw4
 have hb4:=(hw4▸ah w2 _:bW w2 w4)
 have hB4:=ab hB2 hb4 hB2.size
 have h54:am w4 k5 ak (adC ad0):=am.new hk5 hw4
 obtain⟨w5,hs5,h55,hg5⟩:=bh.store0 (cs:=adC ad0) rfl (cA _) h54 rfl
 refine⟨w5,hs5,?_⟩
 have hk5w:w.heap.size <=k5:=by have:=hB2.size;omega
 have hlt2:=h2.lt
 have h25:=(h2.below hb4).grown hg5 (fH (by omega))
 have hB5:=Below.put hB4 hg5 hk5w
 refine ax (dM s 46 hs w5) ?_
 rintro _ w3 ⟨a,n,c,rfl,ho,hf,hb3⟩
 have hB3:=ab hB5 hb3 hB5.size
 have h23:=h25.below hb3
 have h53:=h55.below hb3
 have hn:=ho.len
 have hlens:∀x∈bS 46 [] s,x.length <=s.length:=λx hx=>by simpa using kH 46 s [] x hx
 have none_end:∀{wx:World},v4V s=none->am wx k2 ak (adC ad0)->bW w wx->_:=fun{wx} hv h2x hBx=>bh.fin (K:=λvr wy=>(.tuple #[vr,.bool false]:Value)=adT (v4V s)/\bW w wy) (cs:=adC ad0) rfl (cA _) h2x rfl hBx (by omega) λwy hb=>⟨by rw[hv];rfl,hb⟩
 refine⟨_,_,_,rfl,ae.of (λh4=>?_) (λh4=>?_)⟩
 · refine none_end (MV λhc=>?_) h23 hB3
   rw[bne_iff_ne]at h4;omega
 have hl4:(bS 46 [] s).length=4:=by simp at h4;omega
 have hlt5:=h55.lt
 have hog:∀g,bK a=some g->g≠k5:=λg hg e=>by have:=hf g hg;omega
 obtain⟨L,hL⟩:∃L,L=bS 46 [] s:=⟨_,rfl⟩
 rw[<- hL]at ho hl4 hlens hn
 have hv4:v4V s=if L.length=4/\∀x∈L,yf x then some (List.replicate 12 0++L.map ipB)else none:=by rw[hL];rfl
 refine⟨λm i w'=>∃k:Nat,k <=4/\i=(k:Int)/\m=4-k/\(∀j (hj:j<k) (h:j<L.length),yf L[j])/\am w' k5 ak (adC (v4S L k))/\am w' k2 ak (adC ad0)/\Ow tS au w' NoB a n c L/\bW w w',
   ⟨_,0,by omega,rfl,rfl,λj hj=>by omega,h53,h23,ho,hB3⟩,?_⟩
 intro m i
 refine aC.of ?_ _
 rintro w6 ⟨k,hk,rfl,rfl,hok,h56,h26,ho6,hB6⟩
 refine ae.of (λh=>?_) (λh=>?_) <;> simp only[dTx,dFx]at h
 · have hk4:k<4:=by omega
   have hkL:k<L.length:=by omega
   refine⟨⟨⟨by omega,by omega⟩,ho6.all.isSome (by omega)⟩,_,ho6.all.text aA hkL,?_⟩
   have hlk:=hlens L[k] (List.getElem_mem hkL)
   refine ax (pa L[k] (by omega) w6) ?_
   rintro _ w7 ⟨rfl,hw7⟩
   have hb7:bW w6 w7:=hw7▸Below.refl _ _
   have hB7:=ab hB6 hb7 hB6.size
   have hnone: ¬ yf L[k]->v4V s=none:=λhx=>by
     rw[hv4,if_neg λhc=>hx (hc.2 _ (List.getElem_mem hkL))]
   refine⟨if zD L[k]then wW L[k]else 0,if zD L[k]then true else false,by split <;> rfl,?_⟩
   refine⟨λw'=>w'=w7/\yf L[k],?_,?_⟩
   · refine K9 (B:=λJ=>ae _ (J true w7) (J _ w7)) (!decide (yf L[k])) (ae.of (λh1=>⟨rfl,?_⟩) (λh1=>⟨rfl,?_⟩)) ?_
     · have: ¬ zD L[k]:=λhc=>by rw[if_pos hc]at h1;cases h1
       have h2: ¬ yf L[k]:=λhc=>this hc.1
       simp[h2]
     · have hnp:zD L[k]:=Decidable.byContradiction λhc=>by rw[if_neg hc]at h1;cases h1
       rw[if_pos hnp,Bool.eq_iff_iff]
       simp[yf,hnp]
     · refine ae.of (λh1=>none_end (hnone (by simpa using h1)) (h26.below hb7) hB7) (λh1=>⟨rfl,by simpa using h1⟩)
   · refine aC.of ?_ _
     rintro wj ⟨hwj,hip⟩
     rw[hwj];clear hwj
     have e12:i64.wrap (12+(k:Int))=((12+k:Nat):Int):=by rw[wrap_i64 (by omega) (by omega)];omega
     try dsimp only
     rw[e12,cT,if_pos hip.1,L1 hip,Nat.zero_add]
     refine⟨⟨⟨by omega,by omega⟩,rfl⟩,?_⟩
     have h57:=h56.below hb7
     obtain⟨w8,hs8,h58,hg8⟩:=h57.put (P:=prog) gh (i:=12+k) (v:=.int .u8 (((ipB L[k]).toNat:Nat):Int)) (by rw[bX,Ab hl4 (by omega)];omega) rfl rfl
     rw[qi,IW hl4 hk4]at h58
     refine⟨w8,hs8,4-(k+1),by omega,k+1,by omega,by rw[wrap_i64 (by omega) (by omega)];omega,rfl,?_,h58,(h26.below hb7).grown hg8 (fH (by omega)),(ho6.below hb7).put hog hg8,Below.put hB7 hg8 hk5w⟩
     intro j hj hjl
     by_cases e:j=k
     · subst e;exact hip
     · exact hok j (by omega) hjl
 · have:k=4:=by omega
   subst this
   have hall:∀x∈L,yf x:=λx hx=>by
     obtain⟨j,hj,rfl⟩:=List.mem_iff_getElem.1 hx
     exact hok j (by omega) hj
   have hv:v4V s=some (v4S L 4):=by rw[hv4,if_pos ⟨hl4,hall⟩,Qi hl4]
   have hlen:(adC (v4S L 4)).length=16:=by rw[bX,Ab hl4 (by omega)]
   refine⟨_,bh.load0 h56 hlen,?_⟩
   exact bh.fin (K:=λvr wy=>(.tuple #[vr,.bool true]:Value)=adT (v4V s)/\bW w wy) hlen (cA _) h26 rfl hB6 (by omega) λwy hb=>⟨by rw[hv];rfl,hb⟩
theorem tB {s:List UInt8}{p:Nat}(h:at2 s p):s=s.take p++58::58::s.drop (p+2):=by
 obtain⟨h1,h2⟩:=h
 obtain⟨l1,e1⟩:=List.getElem?_eq_some_iff.1 h1
 obtain⟨l2,e2⟩:=List.getElem?_eq_some_iff.1 h2
 conv=>lhs;rw[<- List.take_append_drop p s,List.drop_eq_getElem_cons l1,List.drop_eq_getElem_cons l2,e1,e2]
theorem qT (c:UInt8)(r:List UInt8)(h:r=[]\/∃t,r=c::t):([]:List UInt8)∈bS c [] r:=by
 rcases h with rfl|⟨t,rfl⟩
 · simp[bS]
 · show _∈(if c=c then _ else _)
   rw[if_pos rfl];simp
theorem Me {l:List (List UInt8)}(h:([]:List UInt8)∈l):l.all co=false:=by
 rw[Bool.eq_false_iff]
 intro hc
 have:=List.all_eq_true.1 hc [] h
 revert this;decide
theorem Ik {s:List UInt8}(h:e8 s=true)(i:Nat): ¬ at2 s i:=by
 intro hi
 unfold e8 at h
 rw[Bool.and_eq_true]at h
 have hm:([]:List UInt8)∈bS 58 [] s:=by
   rw[tB hi,cy]
   exact List.mem_append_right _ (qT 58 _ (.inr ⟨_,rfl⟩))
 rw[Me hm]at h
 exact absurd h.2 (by decide)
theorem late {s:List UInt8}{p q:Nat}(h:at2 s p)(hq:p<q)(hq2:at2 s q):(ce (s.take q)).all co=false:=by
 have hl:=(List.getElem?_eq_some_iff.1 hq2.1).1
 have hs:=tB h
 have hp:p<s.length:=by omega
 have hne:s.take q≠[]:=by
   intro e
   have:=congrArg List.length e
   rw[List.length_take,List.length_nil]at this
   omega
 unfold ce
 rw[if_neg hne]
 have e:s.take q=s.take p++58::(58::s.drop (p+2)).take (q-p-1):=by
   conv=>lhs;rw[hs]
   rw[List.take_append,List.length_take,Nat.min_eq_left (by omega),List.take_of_length_le (by rw[List.length_take];omega)]
   rw[show q-p=(q-p-1)+1 by omega,List.take_succ_cons];rfl
 rw[e,cy]
 refine Me (List.mem_append_right _ (qT 58 _ ?_))
 cases hk:q-p-1 with
 | zero=>exact .inl rfl
 | succ k=>exact .inr ⟨_,rfl⟩
def zsK:Nat->List UInt8
 | 0=>[48]
 | k+1=>zsK k++[58,48]
theorem HO:∀k,(zsK k).length=2*k+1
 | 0=>rfl
 | k+1=>by rw[zsK,List.length_append,HO k];simp;omega
theorem Cc:∀k,bS 58 [] (zsK k)=List.replicate (k+1) [48]
 | 0=>rfl
 | k+1=>by
   rw[zsK,cy,Cc k,List.replicate_succ' (n:=k+1)];rfl
def mK (f:List UInt8):List UInt8:=if f=[]then[]else f++[58]
def wT (b:List UInt8):List UInt8:=if b=[]then[]else 58::b
def yF (f b:List UInt8)(k:Nat):List UInt8:=mK f++zsK k++wT b
theorem Cb (f b:List UInt8)(k:Nat):bS 58 [] (yF f b k)=ce f++List.replicate (k+1) [48]++ce b:=by
 unfold yF mK wT ce
 have e:∀b:List UInt8,bS 58 [] (zsK k++if b=[]then[]else 58::b)=List.replicate (k+1) [48]++(if b=[]then[]else bS 58 [] b):=by
   intro b
   split
   · rw[List.append_nil,List.append_nil,Cc]
   · rw[cy,Cc]
 by_cases hf:f=[]
 · rw[if_pos hf,if_pos hf,List.nil_append,e,List.nil_append]
 · rw[if_neg hf,if_neg hf,List.append_assoc,List.append_assoc,List.singleton_append,cy,e,List.append_assoc]
theorem Ci (f b:List UInt8)(k:Nat):e8 (yF f b k)=true ↔ ((ce f).all co=true/\(ce b).all co=true)/\(ce f).length+(k+1)+(ce b).length=8:=by
 unfold e8
 rw[Cb]
 have h0:co [48]=true:=by decide
 have hz:(List.replicate (k+1) ([48]:List UInt8)).all co=true:=List.all_eq_true.2 λx hx=>by rw[(List.mem_replicate.1 hx).2];exact h0
 rw[List.all_append,List.all_append,hz,Bool.and_true,Bool.and_eq_true,Bool.and_eq_true,dTx,List.length_append,List.length_append,List.length_replicate]
 exact And.comm
theorem IY {f b:List UInt8}{k:Nat}(h:e8 (yF f b k)=true):(bS 58 [] (yF f b k)).map kO=v6L (ce f) (ce b):=by
 have hk:=((Ci f b k).1 h).2
 rw[Cb,List.map_append,List.map_append,List.map_replicate,show kO [48]=0 by decide]
 unfold v6L
 rw[show 8-(ce f).length-(ce b).length=k+1 by omega]
theorem Qj {s:List UInt8}(h:e8 s=true):v6V s=some ((bS 58 [] s).map kO):=by
 rcases nO s with⟨h1,h2⟩|⟨p,h1,h2,h3⟩
 · unfold v6V
   have hc:=h
   unfold e8 at hc
   rw[Bool.and_eq_true,dTx]at hc
   have hn:s≠[]:=by rintro rfl;exact absurd hc.1 (by decide)
   have hr:ce s=bS 58 [] s:=by unfold ce;rw[if_neg hn]
   have hr0:ce []=[]:=rfl
   rw[h1]
   simp only[hr,hr0]
   rw[if_pos]
   · unfold v6L
     rw[hc.1]
     simp
   · unfold Gq
     rw[hc.2]
     simp[hc.1]
 · exact absurd h2 (Ik h p)
theorem Qk {s:List UInt8}(h:e8 s=false)(hn:∀i,¬ at2 s i):v6V s=none:=by
 rcases nO s with⟨h1,h2⟩|⟨p,h1,h2,h3⟩
 · unfold v6V
   rw[h1]
   rw[if_neg]
   intro hc
   have hr0:ce []=[]:=rfl
   unfold Gq at hc
   simp only[hr0,List.all_nil,Bool.and_true,Bool.and_eq_true,List.length_nil,Nat.add_zero]at hc
   have hc2:(ce s).all co=true/\(ce s).length=8:=by simpa using hc
   unfold ce at hc2
   split at hc2
   · exact absurd hc2.2 (by decide)
   · rw[<- Bool.not_eq_true]at h
     refine h ?_
     unfold e8
     rw[hc2.1,hc2.2];rfl
 · exact absurd h2 (hn p)
theorem MW {s:List UInt8}{p:Nat}(h:at2 s p)(h2:∀j,j<p-> ¬ at2 s j):
   v6V s=if((ce (s.take p)).all co=true/\(ce (s.drop (p+2))).all co=true)/\(ce (s.take p)).length+(ce (s.drop (p+2))).length<8 then some (v6L (ce (s.take p)) (ce (s.drop (p+2))))else none:=by
 rcases nO s with⟨h1,h3⟩|⟨q,h1,h3,h4,h5⟩
 · exact absurd h (h3 p)
 · have e:q=p:=by
     rcases Nat.lt_trichotomy q p with hl|hl|hl
     · exact absurd h3 (h2 q hl)
     · exact hl
     · exact absurd h (h4 p hl)
   subst e
   unfold v6V Gq
   rw[h1]
   simp only[if_true,Bool.and_eq_true,dTx]
def e8V (s:List UInt8):Option (List UInt8):=if e8 s=true then some (lE ((bS 58 [] s).map kO))else none
theorem qy (c:UInt8)(w:World):Cf gX #[.int .u8 ((c.toNat:Nat):Int)] w (Ret λv w'=>v=vI (if oX c=true then(ua c:Int)else -1)/\w'=w):=by
 apply pu
 have hu:=kY c
 have h16:oX c=decide (ua c<16):=rfl
 refine vt (w:=w) (¬ (48 <=c.toNat/\c.toNat <=57)) (Pc (ae.of (λh=>?_) (λh=>⟨rfl,by simp at h;omega⟩))) (λh1=>?_)
 · have:48 <=c.toNat/\c.toNat <=57:=by simp at h;omega
   have e:ua c=c.toNat-48:=by unfold ua;rw[if_pos this]
   rw[h16,e,if_pos (by simp;omega),wrap_i64 (n:=((c.toNat:Nat):Int)) (by omega) (by omega),wrap_i64 (by omega) (by omega)]
   exact⟨by congr 1;omega,rfl⟩
 refine vt (w:=w) (¬ (97 <=c.toNat/\c.toNat <=102)) (Pc (ae.of (λh=>?_) (λh=>⟨rfl,by simp at h;omega⟩))) (λh2=>?_)
 · have:97 <=c.toNat/\c.toNat <=102:=by simp at h;omega
   have e:ua c=c.toNat-87:=by unfold ua;rw[if_neg h1,if_pos this]
   rw[h16,e,if_pos (by simp;omega),wrap_i64 (n:=((c.toNat:Nat):Int)) (by omega) (by omega),wrap_i64 (by omega) (by omega)]
   exact⟨by congr 1;omega,rfl⟩
 refine Pc (ae.of (λh=>?_) (λh=>?_))
 · have:65 <=c.toNat/\c.toNat <=70:=by simp at h;omega
   have e:ua c=c.toNat-55:=by unfold ua;rw[if_neg h1,if_neg h2,if_pos this]
   rw[h16,e,if_pos (by simp;omega),wrap_i64 (n:=((c.toNat:Nat):Int)) (by omega) (by omega),wrap_i64 (by omega) (by omega)]
   exact⟨by congr 1;omega,rfl⟩
 · have: ¬ (65 <=c.toNat/\c.toNat <=70):=by simp at h;omega
   have e:ua c=16:=by unfold ua;rw[if_neg h1,if_neg h2,if_neg this]
   rw[h16,e,if_neg (by decide)]
   exact⟨rfl,rfl⟩
theorem jK (s:List UInt8)(hs:s.length <=100000000)(w:World):Cf dZ #[vS s] w (Ret λv w'=>v=adT (e8V s)/\bW w w'):=by
 apply px
 intro k2 w2 hk2 hw2
 have hB2:=(hw2▸ah w _:bW w w2)
 have h2:am w2 k2 ak (adC ad0):=am.new hk2 hw2
 intro k5 w4 hk5 hw4
 have hb4:=(hw4▸ah w2 _:bW w2 w4)
 have hB4:=ab hB2 hb4 hB2.size
 have h54:am w4 k5 ak (adC ad0):=am.new hk5 hw4
 obtain⟨w5,hs5,h55,hg5⟩:=bh.store0 (cs:=adC ad0) rfl (cA _) h54 rfl
 refine⟨w5,hs5,?_⟩
 have hk5w:w.heap.size <=k5:=by have:=hB2.size;omega
 have hlt2:=h2.lt
 have h25:=(h2.below hb4).grown hg5 (fH (by omega))
 have hB5:=Below.put hB4 hg5 hk5w
 refine ax (dM s 58 hs w5) ?_
 rintro _ w3 ⟨a,n,c,rfl,ho,hf,hb3⟩
 have hB3:=ab hB5 hb3 hB5.size
 have h23:=h25.below hb3
 have h53:=h55.below hb3
 have hn:=ho.len
 have hlens:∀x∈bS 58 [] s,x.length <=s.length:=λx hx=>by simpa using kH 58 s [] x hx
 have none_end:∀{wx:World},e8 s=false->am wx k2 ak (adC ad0)->bW w wx->_:=fun{wx} hv h2x hBx=>bh.fin (K:=λvr wy=>(.tuple #[vr,.bool false]:Value)=adT (e8V s)/\bW w wy) (cs:=adC ad0) rfl (cA _) h2x rfl hBx (by omega) λwy hb=>⟨by unfold e8V;rw[hv];rfl,hb⟩
 refine⟨_,_,_,rfl,ae.of (λh4=>?_) (λh4=>?_)⟩
 · refine none_end ?_ h23 hB3
   rw[bne_iff_ne]at h4
   unfold e8
   rw[decide_eq_false (by omega),Bool.false_and]
 have hl8:(bS 58 [] s).length=8:=by simp at h4;omega
 have hlt5:=h55.lt
 have hog:∀g,bK a=some g->g≠k5:=λg hg e=>by have:=hf g hg;omega
 have he8:e8 s=(bS 58 [] s).all co:=by unfold e8;rw[decide_eq_true hl8,Bool.true_and]
 have he8V:e8 s=true->e8V s=some (lE ((bS 58 [] s).map kO)):=λh=>if_pos h
 obtain⟨L,hL⟩:∃L,L=bS 58 [] s:=⟨_,rfl⟩
 rw[<- hL]at ho hl8 hlens hn he8 he8V
 have hbad:∀{x},x∈L->co x=false->e8 s=false:=fun{x} hx hg=>by
   rw[he8,Bool.eq_false_iff]
   intro hc
   rw[List.all_eq_true.1 hc x hx]at hg;cases hg
 have hG:(L.map kO).length=8:=by simp[hl8]
 refine⟨λm i w'=>∃k:Nat,k <=8/\i=(k:Int)/\m=8-k/\(∀j (hj:j<k) (h:j<L.length),co L[j]=true)/\am w' k5 ak (adC (Iq (L.map kO) k))/\am w' k2 ak (adC ad0)/\Ow tS au w' NoB a n c L/\bW w w',
   ⟨_,0,by omega,rfl,rfl,λj hj=>by omega,h53,h23,ho,hB3⟩,?_⟩
 intro m i
 refine aC.of ?_ _
 rintro w6 ⟨k,hk,rfl,rfl,hok,h56,h26,ho6,hB6⟩
 refine ae.of (λh=>?_) (λh=>?_) <;> simp only[dTx,dFx]at h
 · have hk8:k<8:=by omega
   have hkL:k<L.length:=by omega
   have hld:=ho6.all.text (P:=prog) aA hkL
   have hlk:=hlens L[k] (List.getElem_mem hkL)
   have hin:(0 <=(k:Int)/\(k:Int)<((n:Nat):Int))/\Option.isSome a=true:=⟨⟨by omega,by omega⟩,ho6.all.isSome (by omega)⟩
   have hmem:L[k]∈L:=List.getElem_mem hkL
   refine vt (w:=w6) (1 <=L[k].length/\L[k].length <=4) ?_ (λhl4=>?_)
   · refine⟨λb w'=>w'=w6/\b=(!(decide (1 <=L[k].length)&&decide (L[k].length <=4))),⟨hin,_,hld,ae.of (λh1=>⟨rfl,?_⟩) (λh1=>⟨hin,_,hld,rfl,?_⟩)⟩,?_⟩
     · have: ¬ 1 <=L[k].length:=by simp at h1;omega
       simp[this]
     · have:1 <=L[k].length:=by simp at h1;omega
       rw[decide_eq_true this,Bool.true_and,Bool.eq_iff_iff];simp;omega
     · intro b
       refine aC.of ?_ _
       rintro wj ⟨hwj,hb⟩
       rw[hwj,hb];clear hwj hb
       refine ae.of (λh1=>none_end (hbad hmem ?_) h26 hB6) (λh1=>⟨rfl,by simpa using h1⟩)
       unfold co
       have h1':(decide (1 <=L[k].length)&&decide (L[k].length <=4))=false:=by simpa only[Bool.not_eq_true']using h1
       rw[h1',Bool.false_and]
   · refine⟨λm v i w'=>w'=w6/\∃j:Nat,j <=L[k].length/\i=(j:Int)/\m=L[k].length-j/\v=((kO (L[k].take j):Nat):Int)/\∀q (hq:q<j) (h:q<L[k].length),oX (L[k][q])=true,
       ⟨_,rfl,0,by omega,rfl,rfl,rfl,λq hq=>by omega⟩,?_⟩
     intro m v i
     refine aC.of ?_ _
     rintro wj ⟨hwj,j,hj,rfl,rfl,rfl,hx⟩
     rw[hwj];clear hwj
     refine⟨hin,_,hld,?_⟩
     have hgl:=xd hx (by omega)
     refine ae.of (λh5=>?_) (λh5=>?_) <;> simp only[dTx,dFx]at h5
     · have hjl:j<L[k].length:=by omega
       refine⟨hin,_,hld,⟨by omega,h5⟩,?_⟩
       rw[byte_at hjl]
       refine ax (qy (L[k][j]) w6) ?_
       rintro _ w7 ⟨rfl,hw7⟩
       rw[hw7]
       refine⟨_,rfl,?_⟩
       by_cases hh:oX (L[k][j])=true
       · rw[if_pos hh]
         have h16:ua (L[k][j])<16:=by simpa[oX]using hh
         refine ae.no (by simp) ⟨L[k].length-(j+1),by omega,rfl,j+1,by omega,by rw[wrap_i64 (by omega) (by omega)];omega,rfl,?_,λq hq hql=>?_⟩
         · rw[wrap_i64 (n:=_*_) (by omega) (by omega),wrap_i64 (by omega) (by omega),Fx _ hjl];omega
         · by_cases e:q=j
           · subst e;exact hh
           · exact hx q (by omega) hql
       · rw[if_neg hh]
         refine ae.yes (by decide) (none_end (hbad hmem ?_) h26 hB6)
         unfold co
         have:(L[k]).all oX=false:=by
           rw[Bool.eq_false_iff]
           intro hc
           exact hh (List.all_eq_true.1 hc _ (List.getElem_mem hjl))
         rw[this,Bool.and_false]
     · have:j=L[k].length:=by omega
       subst this
       rw[List.take_length]at hgl ⊢
       have hg:co L[k]=true:=by
         unfold co
         rw[decide_eq_true hl4.1,decide_eq_true hl4.2,Bool.true_and,Bool.true_and]
         exact List.all_eq_true.2 λc hc=>by
           obtain⟨q,hq,rfl⟩:=List.mem_iff_getElem.1 hc
           exact hx q hq hq
       have hGk:(L.map kO)[k]'(by omega)=kO L[k]:=by simp
       refine⟨by decide,?_⟩
       rintro _ rfl
       have e1:i64.wrap (2*(k:Int))=((2*k:Nat):Int):=by rw[wrap_i64 (by omega) (by omega)];omega
       have e2:i64.wrap (((2*k:Nat):Int)+1)=((2*k+1:Nat):Int):=by rw[wrap_i64 (by omega) (by omega)];omega
       have e3:IntKind.u8.wrap (i64.wrap (Int.tdiv ((kO L[k]:Nat):Int) 256))=(((UInt8.ofNat (kO L[k]/256)).toNat:Nat):Int):=by
         rw[sC (by omega),wrap_i64 (by omega) (by omega),wrap_u8 (by omega) (by omega),Av (by omega)];omega
       have e4:IntKind.u8.wrap (Int.tmod ((kO L[k]:Nat):Int) 256)=(((UInt8.ofNat (kO L[k]%256)).toNat:Nat):Int):=by
         rw[sD (by omega),wrap_u8 (by omega) (by omega),Av (by omega)];omega
       rw[e1,e2,cT,cT,e3]
       simp only[Nat.zero_add]
       have hlen:=vf hG hk
       obtain⟨w8,hs8,h58,hg8⟩:=h56.put (P:=prog) gh (i:=2*k) (v:=.int .u8 (((UInt8.ofNat (kO L[k]/256)).toNat:Nat):Int)) (by rw[bX,hlen];omega) rfl rfl
       rw[qi]at h58
       refine⟨⟨⟨by omega,by omega⟩,trivial⟩,w8,hs8,by decide,?_⟩
       rintro _ rfl
       rw[e4]
       obtain⟨w9,hs9,h59,hg9⟩:=h58.put (P:=prog) gh (i:=2*k+1) (v:=.int .u8 (((UInt8.ofNat (kO L[k]%256)).toNat:Nat):Int)) (by rw[bX,List.length_set,hlen];omega) rfl rfl
       rw[qi,<- hGk,Fw hG hk8]at h59
       refine⟨⟨⟨by omega,by omega⟩,trivial⟩,w9,hs9,8-(k+1),by omega,k+1,by omega,by rw[wrap_i64 (by omega) (by omega)];omega,rfl,?_,h59,(h26.grown hg8 (fH (by omega))).grown hg9 (fH (by omega)),(ho6.put hog hg8).put hog hg9,Below.put (Below.put hB6 hg8 hk5w) hg9 hk5w⟩
       intro q hq hql
       by_cases e:q=k
       · subst e;exact hg
       · exact hok q (by omega) hql
 · have:k=8:=by omega
   subst this
   have hv:e8 s=true:=by
     rw[he8]
     exact List.all_eq_true.2 λx hx=>by
       obtain⟨j,hj,rfl⟩:=List.mem_iff_getElem.1 hx
       exact hok j (by omega) hj
   have hlen:(adC (Iq (L.map kO) 8)).length=16:=by rw[bX,vf hG (by omega)]
   refine⟨_,bh.load0 h56 hlen,?_⟩
   exact bh.fin (K:=λvr wy=>(.tuple #[vr,.bool true]:Value)=adT (e8V s)/\bW w wy) hlen (cA _) h26 rfl hB6 (by omega) λwy hb=>⟨by rw[he8V hv,<- LF hG];rfl,hb⟩
theorem Fl (s:List UInt8):Qz (e8V s):=λa h=>by
 unfold e8V at h
 split at h
 · rename_i h8
   unfold e8 at h8
   rw[Bool.and_eq_true,dTx]at h8
   rw[<- Option.some.inj h,q9,List.length_map,h8.1]
 · cases h
theorem xj (s:List UInt8)(hs:s.length <=99999000)(w:World):Cf lV #[vS s] w (Ret λv w'=>v=adT (v6A s)/\bW w w'):=by
 apply uu
 intro k2 w2 hk2 hw2
 have hB2:=(hw2▸ah w _:bW w w2)
 have h2:am w2 k2 ak (adC ad0):=am.new hk2 hw2
 refine ax (jK s (by omega) w2) ?_
 rintro _ w3 ⟨rfl,hb3⟩
 have hB3:=ab hB2 hb3 hB2.size
 have h23:=h2.below hb3
 refine⟨_,_,by rw[vL],?_⟩
 refine bh.new (zs:=adC ad0) (cs:=adC ((e8V s).getD ad0)) rfl (pT (Fl s)) (cA _) w3 λk4 w4 hk4 h44 hb4=>?_
 have hB4:=ab hB3 hb4 hB3.size
 have h24:=h23.below hb4
 have kr:∀{x:List UInt8} {wx:World},v6A s=some x->am wx k2 ak (adC ad0)->bW w wx->_:=fun{x wx} hv h2x hBx=>bh.fin (K:=λvr wy=>(.tuple #[vr,.bool true]:Value)=adT (v6A s)/\bW w wy) (cs:=adC x) (by rw[bX];exact IX s _ hv) (cA _) h2x rfl hBx (by omega) λwy hb=>⟨by rw[hv];rfl,hb⟩
 refine ae.of (λh=>?_) (λh=>?_)
 · have h8:e8 s=true:=by
     unfold e8V at h
     split at h
     · assumption
     · cases h
   refine⟨_,bh.load0 h44 (pT (Fl s)),?_⟩
   have he:e8V s=some (lE ((bS 58 [] s).map kO)):=if_pos h8
   rw[he]
   exact kr (x:=lE ((bS 58 [] s).map kO)) (by unfold v6A;rw[Qj h8];rfl) h24 hB4
 have h8:e8 s=false:=by
   unfold e8V at h
   split at h
   · cases h
   · rename_i hne;simpa using hne
 refine⟨λm i w'=>∃k:Nat,k <=s.length/\i=(k:Int)/\m=s.length-k/\
     (∀j,j<k->at2 s j->(∀i,i<j-> ¬ at2 s i)-> ¬ (((ce (s.take j)).all co=true/\(ce (s.drop (j+2))).all co=true)/\(ce (s.take j)).length+(ce (s.drop (j+2))).length<8))/\
     am w' k2 ak (adC ad0)/\bW w w',⟨_,0,by omega,rfl,rfl,λj hj=>by omega,h24,hB4⟩,?_⟩
 intro m i
 refine aC.of ?_ _
 rintro w5 ⟨k,hk,rfl,rfl,hno,h25,hB5⟩
 have e2:i64.wrap ((k:Int)+2)=((k+2:Nat):Int):=by rw[wrap_i64 (by omega) (by omega)];omega
 have e1:i64.wrap ((k:Int)+1)=((k+1:Nat):Int):=by rw[wrap_i64 (by omega) (by omega)];omega
 rw[e2,e1]
 refine ae.of (λh=>?_) (λh=>?_) <;> simp only[dTx,dFx]at h
 · have hk2':k+2 <=s.length:=by omega
   have hk0:k<s.length:=by omega
   have hk1:k+1<s.length:=by omega
   have hstep:∀{wx:World},(at2 s k->(∀i,i<k-> ¬ at2 s i)-> ¬ (((ce (s.take k)).all co=true/\(ce (s.drop (k+2))).all co=true)/\(ce (s.take k)).length+(ce (s.drop (k+2))).length<8))->
       am wx k2 ak (adC ad0)->bW w wx->∃m':Nat,m'<s.length-k/\∃k':Nat,k' <=s.length/\((k+1:Nat):Int)=(k':Int)/\m'=s.length-k'/\
     (∀j,j<k'->at2 s j->(∀i,i<j-> ¬ at2 s i)-> ¬ (((ce (s.take j)).all co=true/\(ce (s.drop (j+2))).all co=true)/\(ce (s.take j)).length+(ce (s.drop (j+2))).length<8))/\
     am wx k2 ak (adC ad0)/\bW w wx:=fun{wx} hc h2x hBx=>⟨s.length-(k+1),by omega,k+1,by omega,rfl,rfl,λj hj=>by
       by_cases e:j=k
       · subst e;exact hc
       · exact hno j (by omega),h2x,hBx⟩
   have u0:=mu s[k] 58
   have u1:=mu s[k+1] 58
   rw[show(((58:UInt8).toNat:Nat):Int)=58 from rfl]at u0 u1
   refine vt (w:=w5) (at2 s k) ⟨⟨by omega,by omega⟩,?_⟩ (λhat=>?_)
   · rw[byte_at hk0,bne,u0]
     refine ae.of (λhx=>hstep (λhat=>?_) h25 hB5) (λhx=>⟨⟨by omega,by omega⟩,?_⟩)
     · have:=hat.1
       rw[List.getElem?_eq_getElem hk0]at this
       rw[Option.some.inj this]at hx;simp at hx
     · rw[byte_at hk1,bne,u1]
       refine ae.of (λhy=>hstep (λhat=>?_) h25 hB5) (λhy=>⟨rfl,?_⟩)
       · have:=hat.2
         rw[List.getElem?_eq_getElem hk1]at this
         rw[Option.some.inj this]at hy;simp at hy
       · exact⟨by rw[List.getElem?_eq_getElem hk0];simp at hx;rw[hx],by rw[List.getElem?_eq_getElem hk1];simp at hy;rw[hy]⟩
   · refine⟨⟨by omega,by omega⟩,?_⟩
     intro s40 e40
     refine⟨⟨by omega,by omega⟩,?_⟩
     intro s44 e44
     simp only[Int.toNat_natCast]at e40 e44
     have l40:s40.length <=s.length:=by rw[e40,List.length_take];omega
     have l44:s44.length <=s.length:=by rw[e44,List.length_drop];omega
     have l4:s40.length+s44.length+2=s.length:=by rw[e40,e44,List.length_take,List.length_drop];omega
     refine Qa (B:=λJ=>ae _ (_/\∀s48,s48=(s40++[58])->J s48 w5) (J s40 w5)) (mK s40) (ae.of (λhx=>⟨fits (by simp;omega),?_⟩) (λhx=>⟨rfl,?_⟩)) ?_
     · rintro _ rfl
       exact⟨rfl,by unfold mK;rw[if_neg (by simpa using hx)]⟩
     · unfold mK;rw[if_pos (by simpa using hx)];simpa using hx
     refine Qa (B:=λJ=>ae _ (_/\∀s48,s48=([58]++s44)->J s48 w5) (J s44 w5)) (wT s44) (ae.of (λhx=>⟨fits (by simp;omega),?_⟩) (λhx=>⟨rfl,?_⟩)) ?_
     · rintro _ rfl
       exact⟨rfl,by unfold wT;rw[if_neg (by simpa using hx)];rfl⟩
     · unfold wT;rw[if_pos (by simpa using hx)];simpa using hx
     have lf:(mK s40).length <=s40.length+1:=by unfold mK;split <;> simp
     have lb:(wT s44).length <=s44.length+1:=by unfold wT;split <;> simp
     refine⟨λm z i w'=>∃q:Nat,q <=8/\i=(q:Int)/\m=8-q/\z=zsK q/\(∀j,j<q->e8 (yF s40 s44 j)=false)/\am w' k2 ak (adC ad0)/\bW w w',⟨_,0,by omega,rfl,rfl,rfl,λj hj=>by omega,h25,hB5⟩,?_⟩
     intro m z i
     refine aC.of ?_ _
     rintro w6 ⟨q,hq,rfl,rfl,rfl,hq8,h26,hB6⟩
     have hzl:=HO q
     refine ae.of (λh5=>?_) (λh5=>?_) <;> simp only[dTx,dFx]at h5
     · refine⟨fits (by omega),?_⟩
       intro s60 e60
       have l60:s60.length=(mK s40).length+(zsK q).length:=by rw[e60,List.length_append]
       refine⟨fits (by omega),?_⟩
       intro s62 e62
       have f62:s62=yF s40 s44 q:=by rw[e62,e60];rfl
       have l62:s62.length <=100000000:=by rw[e62,List.length_append];omega
       refine ax (jK s62 l62 w6) ?_
       rintro _ w7 ⟨rfl,hb7⟩
       have hB7:=ab hB6 hb7 hB6.size
       rw[f62]
       refine⟨_,_,by rw[vL],?_⟩
       refine bh.new (zs:=adC ad0) (cs:=adC ((e8V (yF s40 s44 q)).getD ad0)) rfl (pT (Fl _)) (cA _) w7 λk11 w8 hk11 h118 hb8=>?_
       have hB8:=ab hB7 hb8 hB7.size
       have h28:=(h26.below hb7).below hb8
       by_cases ht:e8 (yF s40 s44 q)=true
       · have he:e8V (yF s40 s44 q)=some (lE ((bS 58 [] (yF s40 s44 q)).map kO)):=if_pos ht
         have hl:=pT (Fl (yF s40 s44 q))
         rw[he]at h118 hl ⊢
         refine ae.yes rfl ⟨_,bh.load0 h118 hl,?_⟩
         refine kr (x:=lE ((bS 58 [] (yF s40 s44 q)).map kO)) ?_ h28 hB8
         have ht2:=(Ci s40 s44 q).1 ht
         rw[IY ht]
         have hfirst:∀j,j<k-> ¬ at2 s j:=λj hj hc=>by
           have:=late hc hj hat
           rw[<- e40,ht2.1.1]at this;cases this
         unfold v6A
         rw[MW hat hfirst,<- e40,<- e44,if_pos ⟨ht2.1,by omega⟩];rfl
       · have he:e8V (yF s40 s44 q)=none:=if_neg ht
         rw[he]at h118 ⊢
         refine ae.no rfl ⟨fits (by simp;omega),?_⟩
         rintro _ rfl
         refine⟨8-(q+1),by omega,q+1,by omega,by rw[wrap_i64 (by omega) (by omega)];omega,rfl,rfl,λj hj=>?_,h28,hB8⟩
         by_cases e:j=q
         · subst e;simpa using ht
         · exact hq8 j (by omega)
     · have:q=8:=by omega
       subst this
       refine hstep (λ_ hfirst hc=>?_) h26 hB6
       rw[<- e40,<- e44]at hc
       have:=(Ci s40 s44 (7-(ce s40).length-(ce s44).length)).2 ⟨hc.1,by omega⟩
       rw[hq8 _ (by omega)]at this;cases this
 · have hv:v6A s=none:=by
     unfold v6A
     rcases nO s with⟨h1,h2⟩|⟨p,h1,h2,h3,h4⟩
     · rw[Qk h8 h2];rfl
     · rw[MW h2 h3,if_neg (hno p (by omega) h2 h3)];rfl
   exact bh.fin (K:=λvr wy=>(.tuple #[vr,.bool false]:Value)=adT (v6A s)/\bW w wy) (cs:=adC ad0) rfl (cA _) h25 rfl hB5 (by omega) λwy hb=>⟨by rw[hv];rfl,hb⟩
theorem Fk {n:Nat}(h:n<10):DF n=[UInt8.ofNat (48+n)]:=Lib.decDigits_one h
theorem Cd {n:Nat}(h: ¬ n<10):DF n=DF (n/10)++[UInt8.ofNat (48+n%10)]:=by
 show Lib.decDigits n=_
 rw[Lib.decDigits,dif_neg h]
theorem jh {w w8:World}{k8:Nat}{d:Nat}(hd:d<10){x:Int}(hx:x=(d:Int))(hk:k8=w.heap.size)(hw:w8=w.alloc (.cells #[.int .u8 (IntKind.u8.wrap (i64.wrap ((48:Int)+x)))] aG)):
   ∀u,bW w8 u->(convert aP au (.slice (some ⟨k8,0,none⟩) 1 1)).run prog u=.ok (vS [UInt8.ofNat (48+d)]) u:=by
 intro u hu
 have e:IntKind.u8.wrap (i64.wrap ((48:Int)+x))=(((UInt8.ofNat (48+d)).toNat:Nat):Int):=by
   rw[hx,wrap_i64 (by omega) (by omega),wrap_u8 (by omega) (by omega),Av (by omega)];omega
 rw[e]at hw
 have ho:Ow tU8 aG w8 NoB (some ⟨k8,0,none⟩) 1 1 [UInt8.ofNat (48+d)]:=Ow.newF tT hk hw (iK.one (ul rfl)) (show 1 <=maxLen by decide)
 exact qN bZ aA bP (ho.below hu).all
theorem cJ:∀(n:Nat) (h:n <=9223372036854775807) (w:World),Cf aY #[vI (n:Int)] w (Ret λv w'=>v=vS (DF n)/\bW w w')
 | n,hn,w=>by
   apply mq
   refine ae.of (λh=>?_) (λh=>?_) <;> simp only[dTx,dFx]at h
   · intro k8 w8 hk8 hw8
     refine⟨_,jh (d:=n) (by omega) rfl hk8 hw8 w8 (Below.refl _ _),?_⟩
     rw[Fk (by omega)]
     exact⟨rfl,hw8▸ah _ _⟩
   · have hlt:n/10<n:=by omega
     refine⟨by decide,?_⟩
     rintro _ rfl
     refine⟨by decide,?_⟩
     rintro _ rfl
     have e1:i64.wrap (Int.tdiv (n:Int) 10)=((n/10:Nat):Int):=by rw[sC (by omega),wrap_i64 (by omega) (by omega)];omega
     have e2:Int.tmod (n:Int) 10=((n%10:Nat):Int):=by rw[sD (by omega)];omega
     rw[e1,e2,Cd (by omega)]
     have hd:bW w (World.drew w):=ve rfl rfl rfl (Nat.le_refl _) (λ_ _=>rfl)
     have hl:=j4 (n:=n/10) (by omega)
     refine⟨?_,?_⟩
     · refine ax (cJ (n/10) (by omega) (World.drew w)) ?_
       rintro _ w1 ⟨rfl,hb1⟩
       refine⟨_,rfl,?_⟩
       intro k8 w8 hk8 hw8
       refine⟨_,jh (d:=n%10) (by omega) rfl hk8 hw8 w8 (Below.refl _ _),fits (by simp;omega),?_⟩
       rintro _ rfl
       have hB1:=ab hd hb1 hd.size
       exact⟨rfl,ab hB1 (hw8▸ah _ _) hB1.size⟩
     · intro k8 w8 hk8 hw8
       have hb8:Below (World.drew w).heap.size (World.drew w) w8:=hw8▸ah _ _
       have hB8:=ab hd hb8 hd.size
       refine⟨?_,_,jh (d:=n%10) (by omega) rfl hk8 hw8 w8 (Below.refl _ _),?_⟩
       · refine ax (cJ (n/10) (by omega) w8) ?_
         rintro _ w1 ⟨rfl,hb1⟩
         refine⟨_,rfl,_,jh (d:=n%10) (by omega) rfl hk8 hw8 w1 hb1,fits (by simp;omega),?_⟩
         rintro _ rfl
         exact⟨rfl,ab hB8 hb1 hB8.size⟩
       · refine ax (cJ (n/10) (by omega) w8) ?_
         rintro _ w1 ⟨rfl,hb1⟩
         refine⟨_,rfl,fits (by simp;omega),?_⟩
         rintro _ rfl
         exact⟨rfl,ab hB8 hb1 hB8.size⟩
 termination_by n=>n
theorem qu (a:List UInt8)(ha:a.length=16)(w:World):Cf gV #[adV a] w (Ret λv w'=>v=vS (As a)/\bW w w'):=by
 apply po
 intro k1 w1 hk1 hw1
 have hB1:=(hw1▸ah w _:bW w w1)
 have h1:am w1 k1 ak (adC a):=am.new hk1 hw1
 have ld:∀(i:Nat) (hi:i<a.length) (u:World),bW w1 u->(Instr.loadAt aG (.pointer (ao (some ⟨k1,0,none⟩) (i:Int) 1))).run prog u=.ok (.int .u8 ((a[i].toNat:Nat):Int)) u:=λi hi u hu=>by
   rw[cT,Nat.zero_add]
   exact(h1.below hu).load1 bP rfl (tw hi)
 have dc:∀(c:UInt8) (u:World),bW w1 u->Cf aY #[vI (i64.wrap ((c.toNat:Nat):Int))] u λe w'=>e=.returned (vS (DF c.toNat))/\Below w1.heap.size u w':=λc u hu=>by
   have:=kY c
   rw[wrap_i64 (by omega) (by omega)]
   exact iU (cJ c.toNat (by omega) u) hu
 have l12:=j4 (n:=a[12].toNat) (by have:=kY a[12];omega)
 have l13:=j4 (n:=a[13].toNat) (by have:=kY a[13];omega)
 have l14:=j4 (n:=a[14].toNat) (by have:=kY a[14];omega)
 have l15:=j4 (n:=a[15].toNat) (by have:=kY a[15];omega)
 refine⟨⟨⟨by decide,by decide⟩,rfl⟩,_,ld 12 (by omega),_,dc _,fits (by simp;omega),?_⟩
 rintro _ rfl
 refine⟨⟨⟨by decide,by decide⟩,rfl⟩,_,ld 13 (by omega),_,dc _,fits (by simp;omega),?_⟩
 rintro _ rfl
 refine⟨fits (by simp;omega),?_⟩
 rintro _ rfl
 refine⟨⟨⟨by decide,by decide⟩,rfl⟩,_,ld 14 (by omega),_,dc _,fits (by simp;omega),?_⟩
 rintro _ rfl
 refine⟨fits (by simp;omega),?_⟩
 rintro _ rfl
 refine⟨⟨⟨by decide,by decide⟩,rfl⟩,_,ld 15 (by omega),_,dc _,fits (by simp;omega),?_⟩
 rintro _ rfl
 intro wq hwq
 rw[xC ha]
 exact⟨by simp only[List.append_assoc],ab hB1 hwq hB1.size⟩
theorem tZ:∀d:Nat,d<16->(([48,49,50,51,52,53,54,55,56,57,97,98,99,100,101,102]:List UInt8).take (d+1)).drop d=[LK d]:=by decide
theorem mO:∀(n:Nat) (h:n<65536) (w:World),Cf gY #[vI (n:Int)] w (Ret λv w'=>v=vS (zu n)/\bW w w')
 | n,hn,w=>by
   apply si
   refine ae.of (λh=>?_) (λh=>?_) <;> simp only[dTx,dFx]at h
   · have e:i64.wrap ((n:Int)+1)=((n+1:Nat):Int):=by rw[wrap_i64 (by omega) (by omega)];omega
     try dsimp only
     rw[e]
     refine⟨⟨⟨by omega,by simp;omega⟩,by omega,by omega⟩,?_⟩
     rintro _ rfl
     simp only[Int.toNat_natCast]
     rw[tZ n (by omega),yb (by omega)]
     exact⟨rfl,Below.refl _ _⟩
   · have hlt:n/16<n:=by omega
     have e1:i64.wrap (Int.tdiv (n:Int) 16)=((n/16:Nat):Int):=by rw[sC (by omega),wrap_i64 (by omega) (by omega)];omega
     have e2:Int.tmod (n:Int) 16=((n%16:Nat):Int):=by rw[sD (by omega)];omega
     refine⟨by decide,?_⟩
     rintro _ rfl
     rw[e1,e2]
     have hl:=vg (n:=n/16) (by omega)
     refine⟨_,λu hu=>iU (mO (n/16) (by omega) u) hu,by decide,?_⟩
     rintro _ rfl
     refine⟨by decide,?_⟩
     rintro _ rfl
     have e:i64.wrap (((n%16:Nat):Int)+1)=((n%16+1:Nat):Int):=by rw[wrap_i64 (by omega) (by omega)];omega
     try dsimp only
     rw[e]
     refine⟨⟨⟨by omega,by simp;omega⟩,by omega,by omega⟩,?_⟩
     rintro _ rfl
     simp only[Int.toNat_natCast]
     rw[tZ (n%16) (by omega)]
     refine⟨fits (by simp;omega),?_⟩
     rintro _ rfl
     intro wq hwq
     rw[oU (n:=n) (by omega)]
     exact⟨rfl,hwq⟩
 termination_by n=>n
theorem tA (zs:List Bool)(p l:Nat):HQ zs p (l+1)=(HQ zs p l&&zs.getD (p+l) false):=by
 unfold HQ;rw[List.range_succ,List.all_append];simp
theorem I2 (a:List UInt8){k:Nat}(h:k<8):(zsA a).getD k false=(vu a k==0):=by
 unfold zsA
 rw[List.getD_eq_getElem?_getD,List.getElem?_map,List.getElem?_eq_getElem (by rw[tV];exact h),Er];rfl
theorem uf (sep:List UInt8)(r:List (List UInt8))(y:List UInt8):Lib.joinTail sep (r++[y])=Lib.joinTail sep r++(sep++y):=by simp[Lib.joinTail]
theorem Gm (l:List Nat)(x:Nat):wrL (l++[x])=if l=[]then zu x else wrL l++[58]++zu x:=by
 unfold wrL
 cases l with
 | nil=>simp[Lib.join_one]
 | cons y r=>
   rw[if_neg (by simp),List.map_append,List.map_cons,List.cons_append,List.map_cons,List.map_nil,Lib.join_cons,Lib.join_cons,uf]
   simp
theorem jJ (a:List UInt8)(ha:a.length=16)(k:Nat)(hk:k<8)(w:World):Cf dY #[adV a,vI (k:Int)] w (Ret λv w'=>v=vI ((vu a k:Nat):Int)/\bW w w'):=by
 apply pm
 intro k1 w1 hk1 hw1
 have hB1:=(hw1▸ah w _:bW w w1)
 have h1:am w1 k1 ak (adC a):=am.new hk1 hw1
 have e1:i64.wrap (2*(k:Int))=((2*k:Nat):Int):=by rw[wrap_i64 (by omega) (by omega)];omega
 have e2:i64.wrap (((2*k:Nat):Int)+1)=((2*k+1:Nat):Int):=by rw[wrap_i64 (by omega) (by omega)];omega
 rw[e1,e2,cT,cT,Nat.zero_add,Nat.zero_add]
 refine⟨⟨⟨by omega,by omega⟩,rfl⟩,_,λu hu=>(h1.below hu).load1 bP rfl (tw (a:=a) (i:=2*k) (by omega)),⟨⟨by omega,by omega⟩,rfl⟩,_,λu hu=>(h1.below hu).load1 bP rfl (tw (a:=a) (i:=2*k+1) (by omega)),λwq hwq=>⟨?_,ab hB1 hwq hB1.size⟩⟩
 have u1:=kY (a[2*k]'(by omega))
 have u2:=kY (a[2*k+1]'(by omega))
 have hval:(a[2*k]'(by omega)).toNat*256+(a[2*k+1]'(by omega)).toNat=vu a k:=by
   unfold vu
   rw[List.getD_eq_getElem?_getD,List.getD_eq_getElem?_getD,List.getElem?_eq_getElem (by omega),List.getElem?_eq_getElem (by omega)];rfl
 rw[<- hval,wrap_i64 (n:=(((a[2*k]'(by omega)).toNat:Nat):Int)) (by omega) (by omega),wrap_i64 (n:=(((a[2*k+1]'(by omega)).toNat:Nat):Int)) (by omega) (by omega),wrap_i64 (n:=_*_) (by omega) (by omega),wrap_i64 (by omega) (by omega)]
 congr 1
theorem iq (a:List UInt8)(ha:a.length=16)(p q:Nat)(hpq:p <=q)(hq:q <=8)(w:World):Cf cj #[adV a,vI (p:Int),vI (q:Int)] w
   (Ret λv w'=>v=vS (wrL (((gL a).drop p).take (q-p)))/\bW w w'):=by
 apply qC
 intro k1 w1 hk1 hw1
 have hB1:=(hw1▸ah w _:bW w w1)
 have h1:am w1 k1 ak (adC a):=am.new hk1 hw1
 have hgl:=tV a
 have hbx:∀j,∀x∈((gL a).drop p).take j,x<65536:=λj x hx=>AJ a x (List.mem_of_mem_drop (List.mem_of_mem_take hx))
 refine⟨λm s i w'=>∃j:Nat,j <=q-p/\i=((p+j:Nat):Int)/\m=q-p-j/\s=wrL (((gL a).drop p).take j)/\bW w1 w',⟨_,0,by omega,rfl,rfl,rfl,Below.refl _ _⟩,?_⟩
 intro m s i
 refine aC.of ?_ _
 rintro w2 ⟨j,hj,rfl,rfl,rfl,hB2⟩
 have hl:=nw (hbx j)
 rw[List.length_take,List.length_drop]at hl
 refine ae.of (λh=>?_) (λh=>?_) <;> simp only[dTx,dFx]at h
 · have hlt:p+j<q:=by omega
   refine Qa (B:=λJ=>ae _ (_/\∀s19,s19=(_++[58])->J s19 w2) (J _ w2)) (if j=0 then[]else wrL (((gL a).drop p).take j)++[58]) (ae.of (λhx=>⟨fits (by simp;omega),?_⟩) (λhx=>⟨rfl,?_⟩)) ?_
   · rintro _ rfl
     simp only[gt_iff_lt,dTx]at hx
     exact⟨rfl,by rw[if_neg (by omega)]⟩
   · simp only[gt_iff_lt,dFx]at hx
     have:j=0:=by omega
     subst this
     rw[if_pos rfl];rfl
   · refine⟨_,bh.load0 (h1.below hB2) (by rw[bX,ha]),?_⟩
     refine ax (jJ a ha (p+j) (by omega) w2) ?_
     rintro _ w3 ⟨rfl,hb3⟩
     have hB3:=ab hB2 hb3 hB2.size
     refine⟨_,rfl,?_⟩
     refine ax (mO (vu a (p+j)) (Cv _ _) w3) ?_
     rintro _ w4 ⟨rfl,hb4⟩
     have hB4:=ab hB3 hb4 hB3.size
     have hl4:=vg (Cv a (p+j))
     refine⟨_,rfl,fits (by split <;> simp <;> omega),?_⟩
     rintro _ rfl
     refine⟨q-p-(j+1),by omega,j+1,by omega,by rw[wrap_i64 (by omega) (by omega)];omega,rfl,?_,hB4⟩
     have hjd:j<((gL a).drop p).length:=by rw[List.length_drop];omega
     rw[List.take_succ_eq_append_getElem hjd,Gm,List.getElem_drop,Er]
     by_cases hj0:j=0
     · subst hj0;rfl
     · rw[if_neg hj0,if_neg]
       intro e
       have:=congrArg List.length e
       rw[List.length_take]at this;simp at this;omega
 · have:j=q-p:=by omega
   subst this
   exact⟨rfl,ab hB1 hB2 hB1.size⟩
theorem qw (a:List UInt8)(ha:a.length=16)(w:World):Cf gW #[adV a] w (Ret λv w'=>v=vS (yD a)/\bW w w'):=by
 apply pq
 intro k1 w1 hk1 hw1
 have hB1:=(hw1▸ah w _:bW w w1)
 have h1:am w1 k1 ak (adC a):=am.new hk1 hw1
 have ha16:(adC a).length=16:=by rw[bX,ha]
 have hgl:=tV a
 obtain⟨z1,z2,z3⟩:=Ag (I3 a)
 have ht:yD a=if(cr (zsA a)).2<2 then wrL (gL a)else wrL ((gL a).take (cr (zsA a)).1)++[58,58]++wrL ((gL a).drop ((cr (zsA a)).1+(cr (zsA a)).2)):=rfl
 refine⟨λm i w'=>∃L:Nat,1 <=L/\L <=8/\i=(L:Int)/\m=L/\(∀L' A,L<L'->A+L' <=8->HQ (zsA a) A L'=false)/\bW w1 w',⟨_,8,by omega,by omega,rfl,rfl,λL' A h1 h2=>by omega,Below.refl _ _⟩,?_⟩
 intro m i
 refine aC.of ?_ _
 rintro w2 ⟨L,hL1,hL8,rfl,hm,hlong,hB2⟩
 obtain rfl:L=m:=hm.symm
 refine ae.of (λh=>?_) (λh=>?_) <;> simp only[ge_iff_le,dTx,dFx]at h
 · have hL2:2 <=L:=by omega
   refine⟨λm i w'=>∃A:Nat,A+L <=9/\i=(A:Int)/\m=9-A/\(∀A',A'<A->HQ (zsA a) A' L=false)/\bW w1 w',⟨_,0,by omega,rfl,rfl,λA' h=>by omega,hB2⟩,?_⟩
   intro m i
   refine aC.of ?_ _
   rintro w3 ⟨A,hA,rfl,rfl,hearly,hB3⟩
   have eAL:i64.wrap ((A:Int)+(L:Int))=((A+L:Nat):Int):=by rw[wrap_i64 (by omega) (by omega)];omega
   try dsimp only
   rw[eAL]
   refine ae.of (λh2=>?_) (λh2=>?_) <;> simp only[dTx,dFx]at h2
   · have hAL:A+L <=8:=by omega
     refine⟨λm b i w'=>∃j:Nat,j <=L/\i=((A+j:Nat):Int)/\m=L-j/\b=HQ (zsA a) A j/\bW w1 w',⟨_,0,by omega,rfl,rfl,rfl,hB3⟩,?_⟩
     intro m b i
     refine aC.of ?_ _
     rintro w4 ⟨j,hj,rfl,rfl,rfl,hB4⟩
     have ew:i64.wrap (((A+j:Nat):Int)+1)=((A+(j+1):Nat):Int):=by rw[wrap_i64 (by omega) (by omega)];omega
     try dsimp only
     rw[ew]
     refine ae.of (λh3=>?_) (λh3=>?_) <;> simp only[dTx,dFx]at h3
     · have hjL:j<L:=by omega
       refine ae.of (λh4=>?_) (λh4=>?_)
       · refine⟨_,bh.load0 (h1.below hB4) ha16,?_⟩
         refine ax (jJ a ha (A+j) (by omega) w4) ?_
         rintro _ w5 ⟨rfl,hb5⟩
         refine⟨_,rfl,L-(j+1),by omega,j+1,by omega,rfl,rfl,?_,ab hB4 hb5 hB4.size⟩
         rw[tA,h4,Bool.true_and,I2 a (by omega),Bool.eq_iff_iff]
         simp
       · exact⟨L-(j+1),by omega,j+1,by omega,rfl,rfl,by rw[tA,h4,Bool.false_and],hB4⟩
     · have:j=L:=by omega
       subst this
       refine ae.of (λh4=>?_) (λh4=>?_)
       · have hu:=z3 j A hL2 hAL h4
         have hAz:j=(cr (zsA a)).2/\A=(cr (zsA a)).1:=by
           rcases hu with hu|⟨hu1,hu2⟩
           · exfalso
             have:=z2 (by omega)
             rw[hlong _ _ hu z1]at this;cases this
           · refine⟨hu1,?_⟩
             rcases Nat.lt_or_ge (cr (zsA a)).1 A with hc|hc
             · exfalso
               have:=z2 (by omega)
               rw[<- hu1,hearly _ hc]at this;cases this
             · omega
         have l1:=nw (l:=(gL a).take A) λx hx=>AJ a x (List.mem_of_mem_take hx)
         have l2:=nw (l:=(gL a).drop (A+j)) λx hx=>AJ a x (List.mem_of_mem_drop hx)
         rw[List.length_take]at l1
         rw[List.length_drop]at l2
         have hp1:∀u,bW w4 u->Cf cj #[adV a,vI 0,vI (A:Int)] u λe w'=>e=.returned (vS (wrL ((gL a).take A)))/\Below w4.heap.size u w':=λu hu=>by
           have:=iq a ha 0 A (by omega) (by omega) u
           rw[List.drop_zero,Nat.sub_zero]at this
           exact iU this hu
         have hp2:∀u,bW w4 u->Cf cj #[adV a,vI ((A+j:Nat):Int),vI 8] u λe w'=>e=.returned (vS (wrL ((gL a).drop (A+j))))/\Below w4.heap.size u w':=λu hu=>by
           have:=iq a ha (A+j) 8 (by omega) (by omega) u
           rw[List.take_of_length_le (by rw[List.length_drop];omega)]at this
           exact iU this hu
         refine⟨_,λu hu=>bh.load0 ((h1.below hB4).below hu) ha16,_,hp1,fits (by simp;omega),?_⟩
         rintro _ rfl
         refine⟨_,λu hu=>bh.load0 ((h1.below hB4).below hu) ha16,_,hp2,fits (by simp;omega),?_⟩
         rintro _ rfl
         intro wq hwq
         have hq:=ab hB4 hwq hB4.size
         refine⟨?_,ab hB1 hq hB1.size⟩
         rw[ht,if_neg (by omega),<- hAz.1,<- hAz.2]
       · refine⟨9-(A+1),by omega,A+1,by omega,by rw[wrap_i64 (by omega) (by omega)];omega,rfl,λA' hA'=>?_,hB4⟩
         by_cases e:A'=A
         · subst e;exact h4
         · exact hearly A' (by omega)
   · refine⟨L-1,by omega,L-1,by omega,by omega,by rw[wrap_i64 (by omega) (by omega)];omega,rfl,λL' A' hl ha'=>?_,hB3⟩
     by_cases e:L'=L
     · subst e;exact hearly A' (by omega)
     · exact hlong L' A' (by omega) ha'
 · refine⟨_,bh.load0 (h1.below hB2) ha16,?_⟩
   have:=iq a ha 0 8 (by omega) (by omega) w2
   rw[List.drop_zero,List.take_of_length_le (by omega)]at this
   refine ax this ?_
   rintro _ w5 ⟨rfl,hb5⟩
   have hq:=ab hB2 hb5 hB2.size
   refine⟨_,rfl,?_,ab hB1 hq hB1.size⟩
   rw[ht,if_pos]
   refine Decidable.byContradiction λhc=>?_
   have:=z2 (by omega)
   rw[hlong _ _ (by omega) z1]at this;cases this
theorem Mz {P:Program}{t:TypeId}{x y:Operand}{xs ys:Array Value}{b:Bool}(hm:P.eqGuardType P.depth t=false)(h:eqV P 10000 t (.agg xs) (.agg ys)=some b)(w:World):
   ((do eqGuard .neq t x y (.agg xs) (.agg ys);binOp .neq t (.agg xs) (.agg ys):Sem Value)).run P w=.ok (.bool (!b)) w:=by
 rw[Sem.run_bind,run_eqGuard_agg w .neq t x y xs ys hm,Result.andThen_ok,run_neq_struct,Jg _ _ _ _ _ w h,Result.andThen_ok]
theorem LP {h g:Hst}(o:h.ok)(p:g.ok){x y:Operand}(w:World):((do eqGuard .neq ai x y h.v g.v;binOp .neq ai h.v g.v:Sem Value)).run prog w=.ok (.bool (!lG h g)) w:=
 Mz Cw (Il o p) w
theorem qA (s:List UInt8)(hs:s.length <=9223372036854775800)(w:World):Cf hZ #[vS s] w (Ret λv w'=>v=.bool (bs s)/\w'=w):=by
 apply pC
 refine⟨λm i w'=>∃k:Nat,k <=s.length/\i=(k:Int)/\m=s.length-k/\(s.take k).all im=true/\w'=w,⟨_,0,by omega,rfl,rfl,rfl,rfl⟩,?_⟩
 intro m i
 refine aC.of ?_ _
 rintro w' ⟨k,hk,rfl,rfl,hno,hw'⟩
 rw[hw'];clear hw'
 refine ae.of (λh=>?_) (λh=>?_) <;> simp only[dTx,dFx]at h
 · have hlt:k<s.length:=by omega
   rw[byte_at hlt]
   have e45:=mu s[k] 45
   have e95:=mu s[k] 95
   rw[show(((45:UInt8).toNat:Nat):Int)=45 from rfl]at e45
   rw[show(((95:UInt8).toNat:Nat):Int)=95 from rfl]at e95
   simp only[bne,e45,e95]
   have kr:im s[k]=true->∃m':Nat,m'<s.length-k/\∃k2:Nat,k2 <=s.length/\i64.wrap ((k:Int)+1)=(k2:Int)/\m'=s.length-k2/\(s.take k2).all im=true/\True:=λhc=>
     ⟨s.length-(k+1),by omega,k+1,by omega,by rw[wrap_i64 (by omega) (by omega)];omega,rfl,by rw[List.take_succ_eq_append_getElem hlt,List.all_append,hno];simp[hc],trivial⟩
   have bad:im s[k]=false->(.bool false:Value)=.bool (bs s)/\True:=λhc=>⟨by
     have:s.all im=false:=by
       rw[Bool.eq_false_iff]
       intro hx
       rw[List.all_eq_true.1 hx _ (List.getElem_mem hlt)]at hc;cases hc
     unfold bs;rw[this,Bool.and_false],trivial⟩
   refine⟨⟨by omega,h⟩,?_⟩
   generalize s[k]=c at*
   have tail: ¬ (97 <=c.toNat/\c.toNat <=122)-> ¬ (48 <=c.toNat/\c.toNat <=57)->ae (!(c==45)) (ae (!(c==95)) ((.bool false:Value)=.bool (bs s)/\True) (∃m':Nat,m'<s.length-k/\∃k2:Nat,k2 <=s.length/\i64.wrap ((k:Int)+1)=(k2:Int)/\m'=s.length-k2/\(s.take k2).all im=true/\True)) (∃m':Nat,m'<s.length-k/\∃k2:Nat,k2 <=s.length/\i64.wrap ((k:Int)+1)=(k2:Int)/\m'=s.length-k2/\(s.take k2).all im=true/\True):=λn1 n2=>by
     have d1:(decide (97 <=c.toNat)&&decide (c.toNat <=122))=false:=by rw[Bool.eq_false_iff];intro hc;simp at hc;exact n1 hc
     have d2:(decide (48 <=c.toNat)&&decide (c.toNat <=57))=false:=by rw[Bool.eq_false_iff];intro hc;simp at hc;exact n2 hc
     have hc:im c=(c==45 || c==95):=by unfold im;rw[d1,d2];simp
     rw[hc]at kr bad
     refine ae.of (λh4=>ae.of (λh5=>bad ?_) (λh5=>kr ?_)) (λh4=>kr ?_)
     · rw[Bool.not_eq_true']at h4 h5;rw[h4,h5];rfl
     · rw[Bool.not_eq_false']at h5;rw[h5];simp
     · rw[Bool.not_eq_false']at h4;rw[h4];simp
   refine ae.of (λh2=>?_) (λh2=>?_) <;> simp only[dTx,dFx]at h2
   · refine ae.of (λh3=>tail (by omega) ?_) (λh3=>?_) <;> simp only[gt_iff_lt,dTx,dFx]at h3
     · omega
     · refine ae.of (λh4=>tail (by omega) ?_) (λh4=>kr ?_) <;> simp only[gt_iff_lt,dTx,dFx]at h4
       · omega
       · unfold im;rw[decide_eq_true (p:=48 <=c.toNat) (by omega),decide_eq_true (p:=c.toNat <=57) (by omega)];simp
   · refine ae.of (λh3=>?_) (λh3=>kr ?_) <;> simp only[gt_iff_lt,dTx,dFx]at h3
     · refine ae.no (by simp;omega) (ae.yes (by simp;omega) (tail (by omega) (by omega)))
     · unfold im;rw[decide_eq_true (p:=97 <=c.toNat) (by omega),decide_eq_true (p:=c.toNat <=122) (by omega)];simp
 · have:k=s.length:=by omega
   subst this
   rw[List.take_length]at hno
   unfold bs
   rw[hno,Bool.and_true]
   refine ae.of (λh2=>⟨?_,rfl⟩) (λh2=>⟨?_,rfl⟩) <;> simp only[ge_iff_le,dTx,dFx]at h2
   · rw[decide_eq_true (p:=1 <=s.length) (by omega),Bool.true_and];congr 1;rw[Bool.eq_iff_iff];simp;omega
   · rw[decide_eq_false (p:=1 <=s.length) (by omega),Bool.false_and]
theorem qz (s:List UInt8)(hs:s.length <=90000000)(w:World):Cf gZ #[vS s] w (Ret (nL s w)):=by
 apply py
 intro k2 w2 hk2 hw2
 have hB2:=(hw2▸ah w _:bW w w2)
 have h2:am w2 k2 ai jf.cells:=am.new hk2 hw2
 have hk2w:w.heap.size <=k2:=by omega
 have fin:∀{wx:World} (o:Option Hst),(∀x,o=some x->x.ok)->cQ s=o->am wx k2 ai jf.cells->bW w wx->
     ∃wy,(Instr.storeAt ai (.pointer (some ⟨k2,0,none⟩)) (o.getD jf).v).run prog wx=.ok () wy/\∃vr:Value,(aR ai (.pointer (some ⟨k2,0,none⟩))).run prog wy=.ok vr wy/\nL s w (.tuple #[vr,vI (if o.isSome then 0 else 31)]) wy:=fun{wx} o ho hv h2x hBx=>
   aJ.fin (K:=λvr wy=>nL s w (.tuple #[vr,vI (if o.isSome then 0 else 31)]) wy) (cs:=(o.getD jf).cells) (Hst.len (zy ho)) (Hst.one _) h2x rfl hBx hk2w λwy hb=>⟨by rw[hv,nV];rfl,hb⟩
 have bad:=fun{wx:World} (hv:cQ s=none) (h2x:am wx k2 ai jf.cells) (hBx:bW w wx)=>fin none (λx hx=>by cases hx) hv h2x hBx
 refine vt (w:=w2) (¬ s.head?=some 91) ?_ (λh91=>?_)
 · refine⟨λb w'=>w'=w2/\b=decide (s.head?=some 91),ae.of (λh=>⟨⟨by decide,by simpa using h⟩,rfl,?_⟩) (λh=>⟨rfl,?_⟩),λb=>aC.of ?_ _⟩
   · have hl:0<s.length:=by simpa using h
     have hb:=byte_at (s:=s) (k:=0) hl
     rw[show((0:Nat):Int)=0 from rfl]at hb
     have hu:=mu s[0] 91
     rw[show(((91:UInt8).toNat:Nat):Int)=91 from rfl]at hu
     rw[hb,hu,List.head?_eq_getElem?,List.getElem?_eq_getElem hl,Bool.eq_iff_iff]
     simp
   · have hl:s=[]:=by
       simp only[gt_iff_lt,dFx]at h
       exact List.length_eq_zero_iff.1 (by omega)
     subst hl;rfl
   · rintro wj ⟨hwj,hb⟩
     rw[hwj,hb];clear hwj hb
     refine ae.of (λh=>?_) (λh=>⟨rfl,of_decide_eq_false h⟩)
     have h91:s.head?=some 91:=of_decide_eq_true h
     have hne:s≠[]:=by rintro rfl;cases h91
     have hl:0<s.length:=List.length_pos_iff.2 hne
     have hv:cQ s=if s.getLast?=some 93 then(v6A ((s.drop 1).take (s.length-2))).map λa=>⟨3,[],a⟩ else none:=by unfold cQ;rw[if_pos h91]
     have ei:i64.wrap (((s.length:Nat):Int)-1)=((s.length-1:Nat):Int):=by rw[wrap_i64 (by omega) (by omega)];omega
     try dsimp only
     rw[ei,byte_at (show s.length-1<s.length by omega)]
     have hgl:s.getLast?=some (s[s.length-1]'(by omega)):=by rw[List.getLast?_eq_getElem?,List.getElem?_eq_getElem (by omega)]
     have hu:=mu (s[s.length-1]'(by omega)) 93
     rw[show(((93:UInt8).toNat:Nat):Int)=93 from rfl]at hu
     refine⟨⟨by omega,by omega⟩,?_⟩
     simp only[bne,hu]
     refine ae.of (λhc=>bad ?_ h2 hB2) (λhc=>?_)
     · rw[hv,if_neg]
       rw[hgl]
       intro e
       rw[Option.some.inj e]at hc;simp at hc
     · have hlast:s.getLast?=some 93:=by rw[hgl];simpa using hc
       have hl2:2 <=s.length:=by
         refine Decidable.byContradiction λhc2=>?_
         have e1:s.length=1:=by omega
         obtain⟨x,rfl⟩:=List.length_eq_one_iff.1 e1
         rw[Option.some.inj (show some x=some 91 from h91)]at hlast
         cases hlast
       rw[if_pos hlast]at hv
       simp only[Int.toNat_natCast]
       refine⟨⟨⟨by omega,by omega⟩,by decide,by omega⟩,?_⟩
       intro s32 e32
       have e33:s32=(s.drop 1).take (s.length-2):=by
         rw[e32,show(Int.toNat 1)=1 from rfl,List.drop_take,show s.length-1-1=s.length-2 by omega]
       rw[<- e33]at hv
       have l32:s32.length <=s.length:=by rw[e33];simp;omega
       refine ax (xj s32 (by omega) w2) ?_
       rintro _ w4 ⟨rfl,hb4⟩
       have hB4:=ab hB2 hb4 hB2.size
       refine⟨_,_,by rw[vL],?_⟩
       have hal:=pT (IX s32)
       refine bh.new (zs:=adC ad0) (cs:=adC ((v6A s32).getD ad0)) rfl hal (cA _) w4 λk8 w8 hk8 h8 hb8=>?_
       have hB8:=ab hB4 hb8 hB4.size
       have h28:=(h2.below hb4).below hb8
       cases ho:v6A s32 with
       | none=>
         exact ae.yes rfl (bad (by rw[hv,ho];rfl) h28 hB8)
       | some x=>
         rw[ho]at h8 hal
         refine ae.no rfl ⟨_,bh.load0 h8 hal,_,qR 3 (by rw[<- bX];exact hal) w8,?_⟩
         exact fin (some ⟨3,[],x⟩) (λy hy=>by cases hy;show x.length=16;rw[<- bX];exact hal) (by rw[hv,ho];rfl) h28 hB8
 · have hv:cQ s=if cC (th (bS 46 [] (ir s)))=true then(v4V s).map λa=>⟨2,[],a⟩ else if s.length <=253/\(bS 46 [] (ir s)).all bs=true then some ⟨1,ir s,ad0⟩ else none:=by unfold cQ;rw[if_neg h91]
   refine ax (qt s (by omega) w2) ?_
   rintro _ w3 ⟨rfl,hb3⟩
   have hB3:=ab hB2 hb3 hB2.size
   refine⟨_,rfl,?_⟩
   have ll:(ir s).length=s.length:=by simp[ir]
   refine ax (dM (ir s) 46 (by omega) w3) ?_
   rintro _ w4 ⟨a,n,c,rfl,ho,hf,hb4⟩
   have hB4:=ab hB3 hb4 hB3.size
   have h24:=(h2.below hb3).below hb4
   have hn:=ho.len
   subst hn
   have hlens:∀x∈bS 46 [] (ir s),x.length <=s.length:=λx hx=>by have:=kH 46 (ir s) [] x hx;simp[ll]at this;omega
   have hcn:=kn 46 (ir s) []
   have hnz:0<(bS 46 [] (ir s)).length:=List.length_pos_iff.2 (mW 46 (ir s) [])
   refine⟨_,_,_,rfl,?_⟩
   generalize bS 46 [] (ir s)=L at*
   have ei:i64.wrap (((L.length:Nat):Int)-1)=((L.length-1:Nat):Int):=by rw[wrap_i64 (by omega) (by omega)];omega
   try dsimp only
   rw[ei]
   refine⟨⟨⟨by omega,by omega⟩,ho.all.isSome hnz⟩,_,ho.all.text aA (by omega),?_⟩
   rw[<- rc hnz]
   have hll:(th L).length <=s.length:=by rw[rc hnz];exact hlens _ (List.getElem_mem _)
   refine ax (iV (th L) (by omega) w4) ?_
   rintro _ w5 ⟨rfl,hw5⟩
   rw[hw5];clear hw5
   refine⟨_,rfl,ae.of (λhd=>?_) (λhd=>?_)⟩
   · rw[if_pos hd]at hv
     refine ax (xi s (by omega) w4) ?_
     rintro _ w6 ⟨rfl,hb6⟩
     have hB6:=ab hB4 hb6 hB4.size
     refine⟨_,_,by rw[vL],?_⟩
     have hal:=pT (N7 s)
     refine bh.new (zs:=adC ad0) (cs:=adC ((v4V s).getD ad0)) rfl hal (cA _) w6 λk8 w8 hk8 h8 hb8=>?_
     have hB8:=ab hB6 hb8 hB6.size
     have h28:=(h24.below hb6).below hb8
     cases ho:v4V s with
     | none=>
       rw[ho]at hv
       exact ae.yes rfl (bad hv h28 hB8)
     | some x=>
       rw[ho]at hv h8 hal
       refine ae.no rfl ⟨_,bh.load0 h8 hal,_,qR 2 (by rw[<- bX];exact hal) w8,?_⟩
       exact fin (some ⟨2,[],x⟩) (λy hy=>by cases hy;show x.length=16;rw[<- bX];exact hal) hv h28 hB8
   · rw[if_neg (by rw[hd];decide)]at hv
     have hbad: ¬ (s.length <=253/\L.all bs=true)->cQ s=none:=λh=>by rw[hv,if_neg h]
     refine⟨λm i w'=>∃k:Nat,k <=L.length/\i=(k:Int)/\m=L.length-k/\(L.take k).all bs=true/\w'=w4,⟨_,0,by omega,rfl,rfl,rfl,rfl⟩,?_⟩
     intro m i
     refine aC.of ?_ _
     rintro w5 ⟨k,hk,rfl,rfl,hno,hw5⟩
     rw[hw5];clear hw5
     refine ae.of (λh=>?_) (λh=>?_) <;> simp only[dTx,dFx]at h
     · have hlt:k<L.length:=by omega
       refine⟨⟨⟨by omega,h⟩,ho.all.isSome (by omega)⟩,_,ho.all.text aA hlt,?_⟩
       refine ax (qA L[k] (by have:=hlens _ (List.getElem_mem hlt);omega) w4) ?_
       rintro _ w6 ⟨rfl,hw6⟩
       rw[hw6];clear hw6
       refine⟨_,rfl,ae.of (λh3=>bad (hbad λhc=>?_) h24 hB4) (λh3=>?_)⟩
       · rw[List.all_eq_true.1 hc.2 _ (List.getElem_mem hlt)]at h3;cases h3
       · refine⟨L.length-(k+1),by omega,k+1,by omega,by rw[wrap_i64 (by omega) (by omega)];omega,rfl,?_,rfl⟩
         rw[List.take_succ_eq_append_getElem hlt,List.all_append,hno]
         simpa using h3
     · have:k=L.length:=by omega
       subst this
       rw[List.take_length]at hno
       refine ae.of (λh3=>bad (hbad λhc=>?_) h24 hB4) (λh3=>?_) <;> simp only[gt_iff_lt,dTx,dFx]at h3
       · have:=hc.1;omega
       · exact fin (some ⟨1,ir s,ad0⟩) (λx hx=>by cases hx;rfl) (by rw[hv,if_pos ⟨by omega,hno⟩]) h24 hB4
theorem kT {h:Hst}(o:h.ok)(w:World):Cf fD #[h.v] w (Ret λv w'=>v=vS (dj h)/\bW w w'):=by
 apply qD
 intro k1 w1 hk1 hw1
 have hB1:=(hw1▸ah w _:bW w w1)
 have h1:am w1 k1 ai h.cells:=am.new hk1 hw1
 refine⟨rfl,_,h1.load1 aB rfl rfl,?_⟩
 unfold dj
 refine ae.of (λc1=>?_) (λc1=>?_) <;> simp only[beq_iff_eq,beq_eq_false_iff_ne,ne_eq]at c1
 · rw[if_pos c1]
   exact⟨rfl,_,h1.load1 aA rfl rfl,rfl,hB1⟩
 rw[if_neg c1]
 refine⟨rfl,_,h1.load1 aB rfl rfl,?_⟩
 refine ae.of (λc2=>?_) (λc2=>?_) <;> simp only[beq_iff_eq,beq_eq_false_iff_ne,ne_eq]at c2
 · rw[if_pos c2]
   refine⟨rfl,_,Et o h1,?_⟩
   refine ax (qu h.ad o w1) ?_
   rintro _ w2 ⟨rfl,hb2⟩
   exact⟨_,rfl,rfl,ab hB1 hb2 hB1.size⟩
 rw[if_neg c2]
 refine⟨rfl,_,h1.load1 aB rfl rfl,?_⟩
 refine ae.of (λc3=>?_) (λc3=>?_) <;> simp only[beq_iff_eq,beq_eq_false_iff_ne,ne_eq]at c3
 · rw[if_pos c3]
   refine⟨rfl,_,Et o h1,?_⟩
   refine ax (qw h.ad o w1) ?_
   rintro _ w2 ⟨rfl,hb2⟩
   have h6:=yE h.ad
   refine⟨_,rfl,fits (by simp;omega),?_⟩
   rintro _ rfl
   refine⟨fits (by simp;omega),?_⟩
   rintro _ rfl
   exact⟨rfl,ab hB1 hb2 hB1.size⟩
 · rw[if_neg c3]
   exact⟨rfl,hB1⟩
theorem dN {h:Hst}(o:h.ok)(hn:h.name.length <=80000000)(w:World):Cf cv #[h.v] w (Ret λv w'=>v=.bool (br h)/\bW w w'):=by
 apply pz
 have hxl:=yd o
 intro k1 w1 hk1 hw1
 have hB1:=(hw1▸ah w _:bW w w1)
 have h1:am w1 k1 ai h.cells:=am.new hk1 hw1
 refine⟨_,aJ.load0 h1 (Hst.len o),?_⟩
 refine ax (kT o w1) ?_
 rintro _ w2 ⟨rfl,hb2⟩
 have hB2:=ab hB1 hb2 hB1.size
 refine⟨_,rfl,?_⟩
 refine ax (qz (dj h) (by omega) w2) ?_
 rintro _ w3 ⟨rfl,hb3⟩
 have hB3:=ab hB2 hb3 hB2.size
 refine⟨_,_,by rw[nV],?_⟩
 have hok:((cQ (dj h)).getD jf).ok:=zy λx hx=>il hx
 refine aJ.new (zs:=jf.cells) (cs:=((cQ (dj h)).getD jf).cells) rfl (Hst.len hok) (Hst.one _) w3 λk4 w4 hk4 h4 hb4=>?_
 have hB4:=ab hB3 hb4 hB3.size
 have h14:=((h1.below hb2).below hb3).below hb4
 unfold br
 cases hv:cQ (dj h)with
 | none=>exact ae.no rfl ⟨rfl,hB4⟩
 | some g=>
   rw[hv]at h4 hok
   exact ae.yes rfl ⟨_,aJ.load0 h4 (Hst.len hok),_,aJ.load0 h14 (Hst.len o),_,CD hok o w4,rfl,hB4⟩
theorem iW {h:Hst}(o:h.ok)(hn:h.name.length <=80000000)(w:World):Cf dH #[h.v] w (Ret (zf h w)):=by
 apply nl
 intro k1 w1 hk1 hw1
 have hB1:=(hw1▸ah w _:bW w w1)
 have h1:am w1 k1 ai h.cells:=am.new hk1 hw1
 have none_end:∀{wx:World},¬ (h.kind=1/\br h=true)->bW w wx->zf h w (.slice none 0 0) wx:=λhc hb=>⟨none,0,0,rfl,by unfold aH;rw[if_neg hc];exact Ow.nil _ _ _ _,bI.none _,hb⟩
 refine fY (λw'=>(h.kind=1/\br h=true)/\bW w1 w') ⟨rfl,_,h1.load1 aB rfl rfl,?_⟩ ?_
 · refine ae.of (λc=>none_end (λhc=>?_) hB1) (λc=>?_)
   · rw[hc.1]at c;simp at c
   · have hk:h.kind=1:=by simpa using c
     refine⟨_,aJ.load0 h1 (Hst.len o),?_⟩
     refine ax (dN o hn w1) ?_
     rintro _ w2 ⟨rfl,hb2⟩
     refine⟨_,rfl,ae.of (λc2=>none_end (λhc=>?_) (ab hB1 hb2 hB1.size)) (λc2=>⟨⟨hk,by simpa using c2⟩,hb2⟩)⟩
     rw[hc.2]at c2;cases c2
 · rintro w2 ⟨hc,hb2⟩
   have hB2:=ab hB1 hb2 hB1.size
   refine⟨rfl,_,(h1.below hb2).load1 aA rfl rfl,?_⟩
   refine ax (dM h.name 46 (by omega) w2) ?_
   rintro _ w3 ⟨a,n,c,rfl,ho,hf,hb3⟩
   exact⟨_,_,_,rfl,_,_,_,rfl,by unfold aH;rw[if_pos hc];exact ho,hf.mono hB2.size,ab hB2 hb3 hB2.size⟩
theorem jL {h d:Hst}(oh:h.ok)(od:d.ok)(hn:h.name.length <=80000000)(dn:d.name.length <=80000000)(w:World):Cf ee #[h.v,d.v] w (Ret λv w'=>v=.bool (lL h d)/\bW w w'):=by
 rw[Aa oh od]
 apply pA
 intro k2 w2 hk2 hw2
 have hB2:=(hw2▸ah w _:bW w w2)
 have h2:am w2 k2 ai h.cells:=am.new hk2 hw2
 intro k3 w3 hk3 hw3
 have hb3:=(hw3▸ah w2 _:bW w2 w3)
 have hB3:=ab hB2 hb3 hB2.size
 have h3:am w3 k3 ai d.cells:=am.new hk3 hw3
 have h23:=h2.below hb3
 have u:HE h d=if(aH h).length=0\/(aH d).length=0 then false else decide (d.name.length+1<h.name.length)&&(h.name.drop (h.name.length-(d.name.length+1))==46::d.name):=rfl
 refine fY (λw'=> ¬ ((aH h).length=0\/(aH d).length=0)/\bW w3 w') ?_ ?_
 · refine⟨_,aJ.load0 h23 (Hst.len oh),?_⟩
   refine ax (iW oh hn w3) ?_
   rintro _ w4 ⟨a,l,c,rfl,ho,-,hb4⟩
   have hB4:=ab hB3 hb4 hB3.size
   refine⟨_,_,_,rfl,?_⟩
   rw[ho.len]
   refine ae.of (λc1=>⟨?_,hB4⟩) (λc1=>?_)
   · rw[u,if_pos (.inl (by simp at c1;simp[c1]))]
   refine⟨_,aJ.load0 (h3.below hb4) (Hst.len od),?_⟩
   refine ax (iW od dn w4) ?_
   rintro _ w5 ⟨a5,l5,c5,rfl,ho5,-,hb5⟩
   have hB5:=ab hB4 hb5 hB4.size
   refine⟨_,_,_,rfl,?_⟩
   rw[ho5.len]
   refine ae.of (λc2=>⟨?_,hB5⟩) (λc2=>⟨?_,ab hb4 hb5 hb4.size⟩)
   · rw[u,if_pos (.inr (by simp at c2;simp[c2]))]
   · simp at c1 c2
     rintro(hx|hx)
     · exact c1 (List.length_eq_zero_iff.1 hx)
     · exact c2 (List.length_eq_zero_iff.1 hx)
 · rintro w4 ⟨hc,hb4⟩
   have hB4:=ab hB3 hb4 hB3.size
   have l2:=(h23.below hb4).load1 (P:=prog) (i:=1) (v:=vS h.name) aA rfl rfl
   refine⟨rfl,_,(h3.below hb4).load1 aA rfl rfl,fits (by simp;omega),?_⟩
   rintro _ rfl
   refine⟨rfl,_,l2,?_⟩
   rw[u,if_neg hc]
   refine ae.of (λc1=>?_) (λc1=>⟨?_,hB4⟩)
   · have hl:d.name.length+1<h.name.length:=by simp at c1;omega
     have e:i64.wrap (((h.name.length:Nat):Int)-((([46]++d.name).length:Nat):Int))=((h.name.length-(d.name.length+1):Nat):Int):=by
       rw[wrap_i64 (by simp;omega) (by simp;omega)];simp;omega
     refine⟨rfl,_,l2,rfl,_,l2,?_⟩
     rw[e]
     simp only[Int.toNat_natCast]
     refine⟨⟨by omega,by omega⟩,?_⟩
     rintro _ rfl
     rw[decide_eq_true hl,Bool.true_and]
     exact⟨rfl,hB4⟩
   · have: ¬ d.name.length+1<h.name.length:=by simp at c1;omega
     rw[decide_eq_false this,Bool.false_and]
theorem nq (a b:Value){w K}(h:nA w (.cells (Value.cells a) ai) λc d=>nA d (.cells (Value.cells b) ai) λe f=>∃g:FP [],(∃i,Ld ai (vA c 0) f i/\uB cv #[i] f λj k=>ae (!j) (K (.bool false) k) (∃l,Ld ai (vA e 0) k l/\uB cv #[l] k λm n=>ae (!m) (K (.bool false) n) (g n)))/\aC 9 (∀i,g i->∃j,Ld ai (vA c 0) i j/\∃k,Ld ai (vA e 0) i k/\∃l,(do eqGuard .eql ai (.tmp 13) (.tmp 14) j k;binOp .eql ai j k:Sem Value).run prog i=.ok (.bool l) i/\ae l (K (.bool true) i) (∃m,Ld ai (vA c 0) i m/\∃n,Ld ai (vA e 0) i n/\uB ee #[m,n] i λo p=>K (.bool o) p))):Cf cD #[a,b] w (Ret K):=ru func27 [(2,[])] h
theorem pD (a b:Value)(c:Int){w K}(h:nA w (.cells (Value.cells a) bE) λd e=>nA e (.cells (Value.cells b) aq) λf g=>∃i:FP [],(true/\∃j,Ld aX (vA d 20) g (.bool j)/\ae j (true/\∃k,Ld ai (vA d 2) g k/\true/\∃l,Ld ai (vA f 1) g l/\∃m,(do eqGuard .neq ai (.tmp 11) (.tmp 13) k l;binOp .neq ai k l:Sem Value).run prog g=.ok (.bool m) g/\ae m (K (.bool false) g) (true/\∃n,Ld ai (vA f 1) g n/\true/\∃o,Ld ai (vA d 2) g o/\uB cD #[n,o] g λp q=>ae (!p) (K (.bool false) q) (i q))) (true/\∃k,Ld ai (vA f 1) g k/\true/\∃l,Ld ai (vA d 2) g l/\uB cD #[k,l] g λm n=>ae (!m) (K (.bool false) n) (i n)))/\aC 18 (∀j,i j->∃k:FP [],(true/\∃l,Ld au (vA f 19) j (vS l)/\true/\∃m,Ld au (vA d 21) j (vS m)/\uB iQ #[vS l,vS m] j λn o=>ae (!n) (K (.bool false) o) (true/\∃p,Ld aX (vA d 22) o (.bool p)/\ae p (true/\∃q,Ld aX (vA f 0) o (.bool q)/\ae (!q) (K (.bool false) o) (true/\∃r,Ld lO (vA d 25) o (vI r)/\ae (decide (c >=r)) (K (.bool false) o) (k o))) (true/\∃q,Ld lO (vA d 25) o (vI q)/\ae (decide (c >=q)) (K (.bool false) o) (k o))))/\aC 22 (∀l,k l->true/\∃m,Ld aw (vA f 20) l (vI m)/\ae (m==(1:Int)) (true/\∃n,Ld aw (vA d 24) l (vI n)/\K (.bool (n !=(3:Int))) l) (true/\∃n,Ld aw (vA f 20) l (vI n)/\ae (n==(2:Int)) (true/\∃o,Ld aw (vA d 24) l (vI o)/\K (.bool (o==(1:Int))) l) (true/\∃o,Ld aw (vA f 20) l (vI o)/\K (.bool (o==(0:Int))) l))))):Cf ic #[a,b,vI c] w (Ret K):=ru func84 [(2,[]),(10,[])] h
theorem qE (a:lU){w K}(h:∃b:Nat->FP [.one (.int .i64)],(∃c,b c (0:Int) w)/\∀c d,aC 29 (∀e,b c d e->ae (decide (d<((List.length a:Nat):Int))) (bx d ((List.length a:Nat):Int)/\ae (decide ((aQ a d)<(33:Int))) (K (.bool false) e) (bx d ((List.length a:Nat):Int)/\ae (decide ((aQ a d)>(126:Int))) (K (.bool false) e) (bx d ((List.length a:Nat):Int)/\ae ((aQ a d)==(63:Int)) (K (.bool false) e) (bx d ((List.length a:Nat):Int)/\ae ((aQ a d)==(35:Int)) (K (.bool false) e) (∃f:Nat,f<c/\b f (i64.wrap (d+(1:Int))) e))))) (ae (decide (((List.length a:Nat):Int) >=(1:Int))) (ae (decide (((List.length a:Nat):Int) <=(2048:Int))) (bx (0:Int) ((List.length a:Nat):Int)/\K (.bool ((aQ a (0:Int))==(47:Int))) e) (K (.bool false) e)) (K (.bool false) e)))):Cf iP #[vS a] w (Ret K):=ru func140 [(6,[(3,.one (.int .i64))])] h
theorem qF (a b:lU){w K}(h:ae (a==b) (K (.bool true) w) (∃c:FP [],(ae (decide (((List.length a:Nat):Int) <=((List.length b:Nat):Int))) (K (.bool false) w) (bd ((List.length b:Nat):Int) (((List.length a):Nat):Int)/\∀d,d=(List.take (Int.toNat ((List.length b:Nat):Int)) a)->ae (!(d==b)) (K (.bool false) w) (c w)))/\aC 14 (∀d,c d->bx ((List.length b:Nat):Int) ((List.length a:Nat):Int)/\ae ((aQ a ((List.length b:Nat):Int))==(47:Int)) (K (.bool true) d) (ae (decide (((List.length b:Nat):Int)>(0:Int))) (bx (i64.wrap (((List.length b:Nat):Int)-(1:Int))) ((List.length b:Nat):Int)/\K (.bool ((aQ b (i64.wrap (((List.length b:Nat):Int)-(1:Int))))==(47:Int))) d) (K (.bool false) d))))):Cf iQ #[vS a,vS b] w (Ret K):=ru func141 [(10,[])] h
theorem r5 (s:List UInt8)(hs:s.length <=9223372036854775800)(w:World):Cf iP #[vS s] w (Ret λv w'=>v=.bool (jn s)/\w'=w):=by
 apply qE
 refine⟨λm i w'=>∃k:Nat,k <=s.length/\i=(k:Int)/\m=s.length-k/\(s.take k).all tj=true/\w'=w,⟨_,0,by omega,rfl,rfl,rfl,rfl⟩,?_⟩
 intro m i
 refine aC.of ?_ _
 rintro w' ⟨k,hk,rfl,rfl,hno,hw'⟩
 rw[hw'];clear hw'
 refine ae.of (λh=>?_) (λh=>?_) <;> simp only[dTx,dFx]at h
 · have hlt:k<s.length:=by omega
   rw[byte_at hlt]
   have hin:(0 <=(k:Int)/\(k:Int)<((s.length:Nat):Int)):=⟨by omega,h⟩
   refine⟨hin,zH _ _ hin (λhc=>?_) (λhc=>⟨by rw[FT hlt hc],rfl⟩)⟩
   exact⟨s.length-(k+1),by omega,k+1,by omega,by rw[wrap_i64 (by omega) (by omega)];omega,rfl,by rw[List.take_succ_eq_append_getElem hlt,List.all_append,hno];simp[hc],rfl⟩
 · have:k=s.length:=by omega
   subst this
   rw[List.take_length]at hno
   unfold jn
   rw[hno,Bool.and_true]
   refine ae.of (λh2=>?_) (λh2=>⟨?_,rfl⟩) <;> simp only[ge_iff_le,dTx,dFx]at h2
   · refine ae.of (λh3=>?_) (λh3=>⟨?_,rfl⟩) <;> simp only[dTx,dFx]at h3
     · have hl:0<s.length:=by omega
       have hb:=byte_at (s:=s) (k:=0) hl
       rw[show((0:Nat):Int)=0 from rfl]at hb
       have hu:=mu s[0] 47
       rw[show(((47:UInt8).toNat:Nat):Int)=47 from rfl]at hu
       refine⟨⟨by decide,by omega⟩,?_,rfl⟩
       rw[hb,hu,decide_eq_true (p:=s.length <=2048) (by omega),Bool.and_true,List.head?_eq_getElem?,List.getElem?_eq_getElem hl]
       congr 1
       rw[Bool.eq_iff_iff];simp
     · rw[decide_eq_false (p:=s.length <=2048) (by omega),Bool.and_false]
   · have:s=[]:=List.length_eq_zero_iff.1 (by omega)
     subst this;rfl
theorem pc {h d:Hst}(oh:h.ok)(od:d.ok)(hn:h.name.length <=80000000)(dn:d.name.length <=80000000)(w:World):Cf cD #[h.v,d.v] w (Ret λv w'=>v=.bool (GT h d)/\bW w w'):=by
 apply nq
 intro k2 w2 hk2 hw2
 have hB2:=(hw2▸ah w _:bW w w2)
 have h2:am w2 k2 ai h.cells:=am.new hk2 hw2
 intro k3 w3 hk3 hw3
 have hb3:=(hw3▸ah w2 _:bW w2 w3)
 have hB3:=ab hB2 hb3 hB2.size
 have h3:am w3 k3 ai d.cells:=am.new hk3 hw3
 have h23:=h2.below hb3
 unfold GT
 refine fY (λw'=>br h=true/\br d=true/\bW w3 w') ?_ ?_
 · refine⟨_,aJ.load0 h23 (Hst.len oh),?_⟩
   refine ax (dN oh hn w3) ?_
   rintro _ w4 ⟨rfl,hb4⟩
   have hB4:=ab hB3 hb4 hB3.size
   refine⟨_,rfl,ae.of (λc=>⟨?_,hB4⟩) (λc=>?_)⟩
   · rw[Bool.not_eq_true']at c;rw[c];rfl
   rw[Bool.not_eq_false']at c
   refine⟨_,aJ.load0 (h3.below hb4) (Hst.len od),?_⟩
   refine ax (dN od dn w4) ?_
   rintro _ w5 ⟨rfl,hb5⟩
   refine⟨_,rfl,ae.of (λc2=>⟨?_,ab hB4 hb5 hB4.size⟩) (λc2=>⟨c,?_,ab hb4 hb5 hb4.size⟩)⟩
   · rw[Bool.not_eq_true']at c2;rw[c,c2];rfl
   · rwa [Bool.not_eq_false']at c2
 · rintro w4 ⟨r1,r2,hb4⟩
   have hB4:=ab hB3 hb4 hB3.size
   rw[r1,r2,Bool.true_and,Bool.true_and]
   refine⟨_,aJ.load0 (h23.below hb4) (Hst.len oh),_,aJ.load0 (h3.below hb4) (Hst.len od),_,CD oh od w4,?_⟩
   refine ae.of (λc1=>⟨by rw[c1];rfl,hB4⟩) (λc1=>?_)
   refine⟨_,aJ.load0 (h23.below hb4) (Hst.len oh),_,aJ.load0 (h3.below hb4) (Hst.len od),?_⟩
   refine ax (jL oh od hn dn w4) ?_
   rintro _ w5 ⟨rfl,hb5⟩
   exact⟨_,rfl,by rw[c1];rfl,ab hB4 hb5 hB4.size⟩
theorem r6 (p o:List UInt8)(hp:p.length <=9223372036854775800)(ho:o.length <=9223372036854775800)(w:World):Cf iQ #[vS p,vS o] w (Ret λv w'=>v=.bool (vz p o)/\w'=w):=by
 apply qF
 unfold vz
 refine ae.of (λc=>⟨by rw[c];rfl,rfl⟩) (λc=>?_)
 rw[c,Bool.false_or]
 refine vt (w:=w) (o.length<p.length/\p.take o.length=o) ?_ ?_
 · refine ae.of (λh=>⟨?_,rfl⟩) (λh=>⟨⟨by omega,?_⟩,?_⟩) <;> simp only[dTx,dFx]at h
   · rw[decide_eq_false (p:=o.length<p.length) (by omega),Bool.false_and]
   · omega
   · rintro _ rfl
     rw[Int.toNat_natCast]
     refine ae.of (λh2=>⟨?_,rfl⟩) (λh2=>⟨rfl,by omega,?_⟩)
     · rw[Bool.not_eq_true']at h2;rw[h2,Bool.false_and,Bool.and_false]
     · rw[Bool.not_eq_false']at h2;exact eq_of_beq h2
 · rintro⟨h1,h2⟩
   rw[decide_eq_true h1,h2,beq_self_eq_true,Bool.true_and,Bool.true_and]
   have hu:=mu p[o.length] 47
   rw[show(((47:UInt8).toNat:Nat):Int)=47 from rfl]at hu
   rw[byte_at h1,hu,List.getElem?_eq_getElem h1]
   refine⟨⟨by omega,by omega⟩,ae.of (λc1=>⟨?_,rfl⟩) (λc1=>?_)⟩
   · rw[eq_of_beq c1];rfl
   · rw[decide_eq_false (p:=some p[o.length]=some 47) (λhx=>by rw[Option.some.inj hx]at c1;simp at c1),Bool.false_or]
     refine ae.of (λc2=>?_) (λc2=>⟨?_,rfl⟩) <;> simp only[gt_iff_lt,dTx,dFx]at c2
     · have hl:o.length-1<o.length:=by omega
       have ei:i64.wrap (((o.length:Nat):Int)-1)=((o.length-1:Nat):Int):=by rw[wrap_i64 (by omega) (by omega)];omega
       have hu:=mu o[o.length-1] 47
       rw[show(((47:UInt8).toNat:Nat):Int)=47 from rfl]at hu
       rw[ei,byte_at hl,hu,List.getLast?_eq_getElem?,List.getElem?_eq_getElem hl]
       refine⟨⟨by omega,by omega⟩,?_,rfl⟩
       congr 1
       rw[Bool.eq_iff_iff];simp
     · have:o=[]:=List.length_eq_zero_iff.1 (by omega)
       subst this;rfl
theorem qB {c:Cky}{r:Req}(oc:c.ok)(or:r.ok)(cn:c.host.name.length <=80000000)(rn:r.host.name.length <=80000000)(cp:c.path.length <=9223372036854775800)(rp:r.path.length <=9223372036854775800)(now:Int)(w:World):
   Cf ic #[c.v,r.v,vI now] w (Ret λv w'=>v=.bool (vF c r now)/\bW w w'):=by
 apply pD
 intro k3 w3 hk3 hw3
 have hB3:=(hw3▸ah w _:bW w w3)
 have h3:am w3 k3 bE c.cells:=am.new hk3 hw3
 intro k4 w4 hk4 hw4
 have hb4:=(hw4▸ah w3 _:bW w3 w4)
 have hB4:=ab hB3 hb4 hB3.size
 have h4:am w4 k4 aq r.cells:=am.new hk4 hw4
 have h34:=h3.below hb4
 have lch:∀{wx},bW w4 wx->(Instr.loadAt ai (.pointer (some ⟨k3,2,none⟩))).run prog wx=.ok c.host.v wx:=λhb=>aJ.load (h34.below hb) (i:=2) (us:=c.host.cells) (Hst.len oc) (λj hj=>Bn oc hj)
 have lrh:∀{wx},bW w4 wx->(Instr.loadAt ai (.pointer (some ⟨k4,1,none⟩))).run prog wx=.ok r.host.v wx:=λhb=>aJ.load (h4.below hb) (i:=1) (us:=r.host.cells) (Hst.len or) (λj hj=>jp or hj)
 have b0:=Below.refl w4.heap.size w4
 have dom:∀{wx:World} {J:FP []},bW w4 wx->(c.only && !lG c.host r.host)=false->(∀wy,bW w4 wy->GT r.host c.host=true->J wy)->
     Cf cD #[r.host.v,c.host.v] wx λe21 w21=>∃(b21:Bool),e21=.returned (.bool b21)/\ae (!b21) ((.bool false:Value)=.bool (vF c r now)/\bW w w21) (J w21):=fun{wx J} hbx h0 hJ=>by
   refine ax (pc or oc rn cn wx) ?_
   rintro _ w5 ⟨rfl,hb5⟩
   have hb:=ab hbx hb5 hbx.size
   refine⟨_,rfl,ae.of (λh=>⟨?_,ab hB4 hb hB4.size⟩) (λh=>hJ w5 hb ?_)⟩
   · rw[Bool.not_eq_true']at h;unfold vF;rw[h,Bool.false_and,Bool.and_false]
   · rwa [Bool.not_eq_false']at h
 refine fY (λw'=>(c.only && !lG c.host r.host)=false/\GT r.host c.host=true/\bW w4 w') ?_ ?_
 · refine⟨rfl,_,h34.load1 bv rfl (cO oc 0),ae.of (λh=>?_) (λh=>?_)⟩
   · refine⟨rfl,_,lch b0,rfl,_,lrh b0,_,LP oc or w4,ae.of (λh2=>⟨?_,hB4⟩) (λh2=>?_)⟩
     · unfold vF;rw[h,h2];rfl
     · exact⟨rfl,_,lrh b0,rfl,_,lch b0,dom b0 (by rw[h,h2];rfl) λwy hb hd=>⟨by rw[h,h2];rfl,hd,hb⟩⟩
   · exact⟨rfl,_,lrh b0,rfl,_,lch b0,dom b0 (by rw[h];rfl) λwy hb hd=>⟨by rw[h];rfl,hd,hb⟩⟩
 · rintro w5 ⟨e1,e2,hb5⟩
   have hB5:=ab hB4 hb5 hB4.size
   have h35:=h34.below hb5
   have h45:=h4.below hb5
   have hs:vF c r now=(vz r.path c.path&&(!(c.sec && !r.sec)&&(!(decide (now >=c.exp))&&xT c.same r.cross))):=by unfold vF;rw[e1,e2];rfl
   refine fY (λw'=>vF c r now=xT c.same r.cross/\w'=w5) ?_ ?_
   · refine⟨rfl,_,h45.load1 aA rfl (cK or 0),rfl,_,h35.load1 aA rfl (cO oc 1),?_⟩
     refine ax (r6 r.path c.path rp cp w5) ?_
     rintro _ w6 ⟨rfl,hw6⟩
     rw[hw6];clear hw6
     refine⟨_,rfl,ae.of (λh=>⟨?_,hB5⟩) (λh=>?_)⟩
     · rw[Bool.not_eq_true']at h;rw[hs,h];rfl
     rw[Bool.not_eq_false']at h
     rw[hs,h,Bool.true_and]
     refine⟨rfl,_,h35.load1 bv rfl (cO oc 2),ae.of (λh2=>?_) (λh2=>?_)⟩
     · refine⟨rfl,_,h45.load1 bv rfl (i:=0) rfl,ae.of (λh3=>⟨?_,hB5⟩) (λh3=>?_)⟩
       · rw[h2,h3];rfl
       · rw[h2,h3]
         refine⟨rfl,_,h35.load1 kZ rfl (cO oc 5),ae.of (λh4=>⟨?_,hB5⟩) (λh4=>⟨?_,rfl⟩)⟩
         · rw[h4];rfl
         · rw[h4];rfl
     · rw[h2]
       refine⟨rfl,_,h35.load1 kZ rfl (cO oc 5),ae.of (λh4=>⟨?_,hB5⟩) (λh4=>⟨?_,rfl⟩)⟩
       · rw[h4];rfl
       · rw[h4];rfl
   · rintro w6 ⟨hc,hw6⟩
     rw[hw6,hc]
     unfold xT
     have lc:=h45.load1 (P:=prog) aB rfl (cK or 1)
     have ls:=h35.load1 (P:=prog) aB rfl (cO oc 4)
     refine⟨rfl,_,lc,ae.of (λh=>?_) (λh=>?_)⟩
     · rw[if_pos (eq_of_beq h)]
       exact⟨rfl,_,ls,rfl,hB5⟩
     rw[if_neg (beq_eq_false_iff_ne.1 h)]
     refine⟨rfl,_,lc,ae.of (λh=>?_) (λh=>?_)⟩
     · rw[if_pos (eq_of_beq h)]
       exact⟨rfl,_,ls,rfl,hB5⟩
     rw[if_neg (beq_eq_false_iff_ne.1 h)]
     exact⟨rfl,_,lc,rfl,hB5⟩
theorem sg (a b:Int)(c:Option Addr)(d e:Nat)(f:Option Addr)(g i:Nat)(j:Option Addr)(k l:Nat){w K}(h:nA w (.cells #[vI a,vI b,.slice c d e,.slice f g i] af) λm n=>∃o p q r s t u v,Ld af (vA m 0) n (.agg #[vI o,vI p,.slice q r s,.slice t u v])/\uB iM #[.agg #[vI o,vI p,.slice q r s,.slice t u v]] n λx y=>ae (!x) (K (.bool false) y) (true/\∃z,Ld aw (vA m 1) y (vI z)/\∃A:Nat->FP [.one (.int .i64),.one (.int .i64)],(∃B,A B z (0:Int) y)/\∀B C D,aC 24 (∀E,A B C D E->ae (decide (D<((k:Nat):Int))) ((bx D ((k:Nat):Int)/\Option.isSome j=true)/\∃F,Ld aw (ao j D 1) E (vI F)/\∃G:FP [],(ae (decide (F<(0:Int))) (K (.bool false) E) (true/\∃H,Ld aw (vA m 0) E (vI H)/\ae (decide (F >=H)) (K (.bool false) E) (G E)))/\aC 9 (∀H,G H->true/\∃I J L,Ld ar (vA m 2) H (.slice I J L)/\true/\∃M,Ld aw (vA m 0) H (vI M)/\(bx (i64.wrap ((i64.wrap (C*M))+F)) ((J:Nat):Int)/\Option.isSome I=true)/\∃N,Ld aw (ao I (i64.wrap ((i64.wrap (C*M))+F)) 1) H (vI N)/\∃O:Nat,O<B/\A O N (i64.wrap (D+(1:Int))) H)) (true/\∃F G H,Ld aO (vA m 3) E (.slice F G H)/\(bx C ((G:Nat):Int)/\Option.isSome F=true)/\∃I,Ld aX (ao F C 1) E (.bool I)/\K (.bool I) E)))):Cf bM #[.agg #[vI a,vI b,.slice c d e,.slice f g i],.slice j k l] w (Ret K):=ru func82 [(16,[(5,.one (.int .i64)),(15,.one (.int .i64))]),(27,[])] h
theorem C7 (a b:Int)(c:Option Addr)(d e:Nat)(f:Option Addr)(g i:Nat){w K}(h:nA w (.cells #[vI a,vI b,.slice c d e,.slice f g i] af) λj k=>true/\∃l m n,Ld aO (vA j 3) k (.slice l m n)/\∃o:FP [],(true/\∃p,Ld aw (vA j 0) k (vI p)/\ae (decide (p<(1:Int))) (K (.bool false) k) (true/\∃q,Ld aw (vA j 0) k (vI q)/\ae (decide (q>(512:Int))) (K (.bool false) k) (ae (decide (((m:Nat):Int)<(1:Int))) (K (.bool false) k) (ae (decide (((m:Nat):Int)>(65536:Int))) (K (.bool false) k) (true/\∃r s t,Ld ar (vA j 2) k (.slice r s t)/\true/\∃u,Ld aw (vA j 0) k (vI u)/\ae (((s:Nat):Int) !=(i64.wrap (((m:Nat):Int)*u))) (K (.bool false) k) (o k))))))/\aC 27 (∀p,o p->true/\∃q r s,Ld ar (vA j 2) p (.slice q r s)/\∃t:Nat->FP [.one (.int .i64)],(∃u,t u (0:Int) p)/\∀u v,aC 13 (∀x,t u v x->ae (decide (v<((r:Nat):Int))) ((bx v ((r:Nat):Int)/\Option.isSome q=true)/\∃y,Ld aw (ao q v 1) x (vI y)/\ae (decide (y<(0:Int))) (K (.bool false) x) (ae (decide (y >=((m:Nat):Int))) (K (.bool false) x) (∃z:Nat,z<u/\t z (i64.wrap (v+(1:Int))) x))) (true/\∃y,Ld aw (vA j 1) x (vI y)/\ae (decide (y >=(0:Int))) (true/\∃z,Ld aw (vA j 1) x (vI z)/\K (.bool (decide (z<((m:Nat):Int)))) x) (K (.bool false) x))))):Cf nR #[.agg #[vI a,vI b,.slice c d e,.slice f g i]] w (Ret K):=ru func23 [(4,[]),(16,[(38,.one (.int .i64))])] h
theorem qH (a:Option Addr)(b c:Value){w K}(h:nA w (.cells (Value.cells b) aj) λd e=>nA e (.cells (Value.cells c) aq) λf g=>∃i:FP [],(∃j,Ld aq (vA f 0) g j/\uB fQ #[j] g λk l=>ae (!k) (K (.bool false) l) (true/\∃m,Ld aX (vA f 0) l (.bool m)/\uI eX #[.bool m] l λn o=>true/\(bx n ((2:Nat):Int)/\true)/\∃p,Ld aX (ao (vA d 8) n 1) o (.bool p)/\ae (!p) (K (.bool false) o) (true/\∃q,Ld aw (vA f 20) o (vI q)/\true/\(bx q ((3:Nat):Int)/\true)/\∃r,Ld aX (ao (vA d 10) q 1) o (.bool r)/\ae (!r) (K (.bool false) o) (i o))))/\aC 21 (∀j,i j->true/\∃k,Ld au (vA f 19) j (vS k)/\Cf iB #[vS k] j λl m=>∃n o p q,l=rT #[.slice n o p,.bool q]/\true/\true/\(∃r s t u v x y z,Ld af (vA d 0) (World.drew m) (.agg #[vI r,vI s,.slice t u v,.slice x y z])/\∃A,Ld ai (vA f 1) (World.drew m) A/\uL eG #[.pointer a,A] (World.drew m) λB C D E=>uB bM #[.agg #[vI r,vI s,.slice t u v,.slice x y z],.slice B C D] E λF G=>ae F (true/\∃H I J L M N O P,Ld af (vA d 4) G (.agg #[vI H,vI I,.slice J L M,.slice N O P])/\uB bM #[.agg #[vI H,vI I,.slice J L M,.slice N O P],.slice n o p] G λQ R=>K (.bool Q) R) (K (.bool false) G))/\∃r,Ld ai (vA f 1) (World.drew m) r/\(∃s t u v x y z A,Ld af (vA d 0) (World.drew m) (.agg #[vI s,vI t,.slice u v x,.slice y z A])/\uL eG #[.pointer a,r] (World.drew m) λB C D E=>uB bM #[.agg #[vI s,vI t,.slice u v x,.slice y z A],.slice B C D] E λF G=>ae F (true/\∃H I J L M N O P,Ld af (vA d 4) G (.agg #[vI H,vI I,.slice J L M,.slice N O P])/\uB bM #[.agg #[vI H,vI I,.slice J L M,.slice N O P],.slice n o p] G λQ R=>K (.bool Q) R) (K (.bool false) G))/\uL eG #[.pointer a,r] (World.drew m) λs t u v=>∃x y z A B C D E,Ld af (vA d 0) v (.agg #[vI x,vI y,.slice z A B,.slice C D E])/\uB bM #[.agg #[vI x,vI y,.slice z A B,.slice C D E],.slice s t u] v λF G=>ae F (true/\∃H I J L M N O P,Ld af (vA d 4) G (.agg #[vI H,vI I,.slice J L M,.slice N O P])/\uB bM #[.agg #[vI H,vI I,.slice J L M,.slice N O P],.slice n o p] G λQ R=>K (.bool Q) R) (K (.bool false) G))):Cf ck #[.pointer a,b,c] w (Ret K):=ru func38 [(2,[]),(1000013,[])] h
theorem qG (a b:Value)(c:Int){w K}(h:nA w (.cells (Value.cells a) bE) λd e=>nA e (.cells (Value.cells b) aq) λf g=>∃i,Ld aq (vA f 0) g i/\uB eu #[i] g λj k=>ae j (∃l,Ld bE (vA d 0) k l/\∃m,Ld aq (vA f 0) k m/\uB ic #[l,m,vI c] k λn o=>K (.bool n) o) (K (.bool false) k)):Cf gG #[a,b,vI c] w (Ret K):=ru func39 [] h
theorem ns (a b:Value){w K}(h:nA w (.cells (Value.cells a) bT) λc d=>nA d (.cells (Value.cells b) aq) λe f=>∃g:FP [],(∃i,Ld aq (vA e 0) f i/\uB eu #[i] f λj k=>ae (!j) (K (.bool false) k) (true/\∃l,Ld au (vA e 19) k (vS l)/\true/\∃m,Ld au (vA c 21) k (vS m)/\uB fP #[vS l,vS m] k λn o=>ae (!n) (K (.bool false) o) (g o)))/\aC 12 (∀i,g i->∃j:FP [],(true/\∃k,Ld aX (vA e 0) i (.bool k)/\ae k (true/\∃l,Ld aX (vA c 20) i (.bool l)/\ae (!l) (K (.bool false) i) (true/\∃m,Ld aX (vA e 0) i (.bool m)/\ae (!m) (true/\∃n,Ld aX (vA c 19) i (.bool n)/\ae (!n) (K (.bool false) i) (j i)) (j i))) (true/\∃l,Ld aX (vA e 0) i (.bool l)/\ae (!l) (true/\∃m,Ld aX (vA c 19) i (.bool m)/\ae (!m) (K (.bool false) i) (j i)) (j i)))/\aC 18 (∀k,j k->true/\∃l,Ld aX (vA c 0) k (.bool l)/\ae l (true/\∃m,Ld ai (vA e 1) k m/\true/\∃n,Ld ai (vA c 1) k n/\uB ee #[m,n] k λo p=>K (.bool o) p) (true/\∃m,Ld ai (vA e 1) k m/\true/\∃n,Ld ai (vA c 1) k n/\∃o,(do eqGuard .eql ai (.tmp 41) (.tmp 43) m n;binOp .eql ai m n:Sem Value).run prog k=.ok (.bool o) k/\K (.bool o) k)))):Cf eI #[a,b] w (Ret K):=ru func43 [(2,[]),(10,[])] h
theorem nu (a:Value){w K}(h:nA w (.cells (Value.cells a) aq) λb c=>true/\∃d,Ld ai (vA b 1) c d/\uB mJ #[d] c λe f=>ae e (true/\∃g,Ld au (vA b 19) f (vS g)/\uB qY #[vS g] f λi j=>ae i (true/\∃k,Ld aw (vA b 20) j (vI k)/\ae (decide (k >=(0:Int))) (true/\∃l,Ld aw (vA b 20) j (vI l)/\K (.bool (decide (l <=(2:Int)))) j) (K (.bool false) j)) (K (.bool false) j)) (K (.bool false) f)):Cf fQ #[a] w (Ret K):=ru func79 [] h
theorem mr (a:Bool){w K}(h:ae a (K (vI 1) w) (K (vI 0) w)):Cf eX #[.bool a] w (Ret K):=ru func80 [] h
theorem pE (a:Value){w K}(h:nA w (.cells (Value.cells a) aq) λb c=>true/\∃d,Ld ai (vA b 1) c d/\uB cv #[d] c λe f=>ae e (true/\∃g,Ld au (vA b 19) f (vS g)/\uB iP #[vS g] f λi j=>ae i (true/\∃k,Ld aw (vA b 20) j (vI k)/\ae (decide (k >=(0:Int))) (true/\∃l,Ld aw (vA b 20) j (vI l)/\K (.bool (decide (l <=(2:Int)))) j) (K (.bool false) j)) (K (.bool false) j)) (K (.bool false) f)):Cf eu #[a] w (Ret K):=ru func83 [] h
theorem nr (a b:lU){w K}(h:ae (decide (((List.length a:Nat):Int) >=((List.length b:Nat):Int))) (bd ((List.length b:Nat):Int) (((List.length a):Nat):Int)/\∀c,c=(List.take (Int.toNat ((List.length b:Nat):Int)) a)->K (.bool (c==b)) w) (K (.bool false) w)):Cf fP #[vS a,vS b] w (Ret K):=ru func91 [] h
theorem FZ {r:Req}(o:r.ok)(hn:r.host.name.length <=80000000){w:World}(he:Env w):Cf fQ #[r.v] w (Ret λv w'=>v=.bool (mi r)/\bW w w'):=by
 apply nu
 intro k1 w1 hk1 hw1
 have b1:=(hw1▸ah w _:bW w w1)
 have A1:am w1 k1 aq r.cells:=am.new hk1 hw1
 refine⟨rfl,_,aJ.load A1 (i:=1) (us:=r.host.cells) (Hst.len o) (λj hj=>jp o hj),?_⟩
 refine ax (nY o (by omega) w1 (he.step b1)) ?_
 rintro _ w5 ⟨rfl,b5⟩
 have B5:=ab b1 b5 b1.size
 refine⟨_,rfl,ae.of (λh=>?_) (λh=>⟨by unfold mi;rw[h];rfl,B5⟩)⟩
 refine⟨rfl,_,(A1.below b5).load1 aA rfl (i:=19) (cK o 0),?_⟩
 refine ax (xE r.path w5) ?_
 rintro _ w9 ⟨rfl,b9⟩
 have B9:=ab B5 b9 B5.size
 have A9:=(A1.below b5).below b9
 refine⟨_,rfl,ae.of (λh2=>?_) (λh2=>⟨by unfold mi;rw[h,h2];rfl,B9⟩)⟩
 refine⟨rfl,_,A9.load1 aB rfl (i:=20) (cK o 1),ae.of (λh3=>?_) (λh3=>⟨by unfold mi;rw[h,h2,h3];rfl,B9⟩)⟩
 exact⟨rfl,_,A9.load1 aB rfl (i:=20) (cK o 1),by unfold mi;rw[h,h2,h3];rfl,B9⟩
theorem jM {r:Req}(o:r.ok)(hn:r.host.name.length <=80000000)(hp:r.path.length <=9223372036854775800)(w:World):Cf eu #[r.v] w (Ret λv w'=>v=.bool (mi r)/\bW w w'):=by
 apply pE
 intro k1 w1 hk1 hw1
 have b1:=(hw1▸ah w _:bW w w1)
 have A1:am w1 k1 aq r.cells:=am.new hk1 hw1
 refine⟨rfl,_,aJ.load A1 (i:=1) (us:=r.host.cells) (Hst.len o) (λj hj=>jp o hj),?_⟩
 refine ax (dN o (by omega) w1) ?_
 rintro _ w5 ⟨rfl,b5⟩
 have B5:=ab b1 b5 b1.size
 refine⟨_,rfl,ae.of (λh=>?_) (λh=>⟨by unfold mi;rw[h];rfl,B5⟩)⟩
 have A5:=A1.below b5
 refine⟨rfl,_,A5.load1 aA rfl (i:=19) (cK o 0),?_⟩
 refine ax (r5 r.path hp w5) ?_
 rintro _ w9 ⟨rfl,hw9⟩
 rw[hw9];clear hw9 w9
 refine⟨_,rfl,ae.of (λh2=>?_) (λh2=>⟨by unfold mi;rw[h,h2];rfl,B5⟩)⟩
 refine⟨rfl,_,A5.load1 aB rfl (i:=20) (cK o 1),ae.of (λh3=>?_) (λh3=>⟨by unfold mi;rw[h,h2,h3];rfl,B5⟩)⟩
 exact⟨rfl,_,A5.load1 aB rfl (i:=20) (cK o 1),by unfold mi;rw[h,h2,h3];rfl,B5⟩
theorem De (b:Bool)(w:World):Cf eX #[.bool b] w (Ret λv w'=>v=vI (if b=true then 1 else 0)/\w'=w):=by
 apply mr
 cases b
 · exact ae.no rfl ⟨rfl,rfl⟩
 · exact ae.yes rfl ⟨rfl,rfl⟩
theorem om {c:Cky}{r:Req}(oc:c.ok)(or:r.ok)(cn:c.host.name.length <=80000000)(rn:r.host.name.length <=80000000)(cp:c.path.length <=9223372036854775800)(rp:r.path.length <=9223372036854775800)(now:Int)(w:World):
   Cf gG #[c.v,r.v,vI now] w (Ret λv w'=>v=.bool (Ct c r now)/\bW w w'):=by
 apply qG
 intro k3 w3 hk3 hw3 k4 w4 hk4 hw4
 have b3:=(hw3▸ah w _:bW w w3)
 have b4:=(hw4▸ah w3 _:bW w3 w4)
 have A3:am w3 k3 bE c.cells:=am.new hk3 hw3
 have A4:am w4 k4 aq r.cells:=am.new hk4 hw4
 have B4:=ab b3 b4 b3.size
 refine⟨_,bQ.load0 A4 (Req.len or),?_⟩
 refine ax (jM or rn rp w4) ?_
 rintro _ w8 ⟨rfl,b8⟩
 have B8:=ab B4 b8 B4.size
 refine⟨_,rfl,ae.of (λh=>?_) (λh=>⟨by unfold Ct;rw[h];rfl,B8⟩)⟩
 refine⟨_,uQ.load0 ((A3.below b4).below b8) (Cky.len oc),_,bQ.load0 (A4.below b8) (Req.len or),?_⟩
 refine ax (qB oc or cn rn cp rp now w8) ?_
 rintro _ w13 ⟨rfl,b13⟩
 exact⟨_,rfl,by unfold Ct;rw[h];rfl,ab B8 b13 B8.size⟩
theorem mH {w:World}{a b a1:Option Addr}{n c m e l1 c1:Nat}{d:DA}{ws:List Int}(h:DaS w a n c b m e d)(hs:Sl cI w kj a1 l1 c1 ws):
   Cf bM #[daV a n c b m e d,.slice a1 l1 c1] w (Ret λv w'=>v=.bool (dm d ws)/\bW w w'):=by
 apply sg
 intro k2 w2 hk2 hw2
 have hb2:=(hw2▸ah w _:bW w w2)
 have A2:am w2 k2 af [vI d.k,vI d.st,.slice a n c,.slice b m e]:=am.new hk2 hw2
 refine⟨_,_,a,n,c,b,m,e,bG.load0 (cs:=[vI d.k,vI d.st,.slice a n c,.slice b m e]) A2 rfl,?_⟩
 refine ax (ko (h.below hb2)) ?_
 rintro _ w9 ⟨rfl,hb9⟩
 have hB:=ab hb2 hb9 hb2.size
 have A9:=A2.below hb9
 have hx:=h.below hB
 have hy:=hs.below hB
 have hl1:=hy.len
 have hl1':=hy.le
 subst hl1
 refine⟨_,rfl,ae.of (λh1=>⟨?_,hB⟩) (λh1=>⟨rfl,d.st,A9.load1 aB rfl rfl,?_⟩)⟩
 · unfold dm
   rw[show okD d=false by simpa using h1];rfl
 have hok:okD d=true:=by simpa using h1
 have o:=di.1 hok
 have hkk:=o.kk
 have hm:=hx.ac.len
 have hn:=hx.nx.len
 refine⟨λM s i w'=>∃j:Nat,j <=ws.length/\i=(j:Int)/\M=ws.length-j/\Gh d.k (ws.take j)=true/\s=((d.run d.s ((ws.take j).map Int.toNat):Nat):Int)/\w'=w9,⟨_,0,by omega,rfl,rfl,rfl,by have:=o.s0;show d.st=((d.st.toNat:Nat):Int);omega,rfl⟩,?_⟩
 intro M s i
 refine aC.of ?_ _
 rintro w' ⟨j,hj,rfl,rfl,hsy,rfl,hw'⟩
 rw[hw'];clear hw' w'
 have hsl:∀x∈(ws.take j).map Int.toNat,x<d.K:=by
   intro x hx'
   obtain⟨y,hy',rfl⟩:=List.mem_map.1 hx'
   have:=List.all_eq_true.1 hsy y hy'
   simp only[Bool.and_eq_true,dTx]at this
   omega
 have hrl:=o.run_lt o.s_lt hsl
 refine ae.of (λh6=>?_) (λh6=>?_) <;> simp only[dTx,dFx]at h6
 · have hlt:j<ws.length:=by omega
   have bad: ¬ (0 <=ws[j]/\ws[j]<d.k)->dm d ws=false:=λhno=>by
     unfold dm
     have:Gh d.k ws=false:=by
       rw[Bool.eq_false_iff]
       intro hc
       have:=List.all_eq_true.1 hc _ (List.getElem_mem hlt)
       simp only[Bool.and_eq_true,dTx]at this
       exact hno this
     rw[this,Bool.false_and,Bool.and_false]
   refine⟨⟨⟨by omega,h6⟩,hy.isSome hlt⟩,_,hy.num aB hlt,λw'=>w'=w9/\0 <=ws[j]/\ws[j]<d.k,?_,aC.of ?_ _⟩
   · refine ae.of (λh7=>⟨?_,hB⟩) (λh7=>⟨rfl,_,A9.load1 aB rfl rfl,ae.of (λh8=>⟨?_,hB⟩) (λh8=>?_)⟩)
     · rw[bad (by simp only[dTx]at h7;omega)]
     · rw[bad (by simp only[dTx]at h8;omega)]
     · simp only[dFx]at h7 h8
       exact⟨rfl,by omega,by omega⟩
   · rintro wj ⟨hwj,h7,h8⟩
     rw[hwj];clear hwj wj
     obtain⟨x,hxx⟩:∃x:Nat,ws[j]=(x:Int):=⟨ws[j].toNat,by omega⟩
     have hxk:x<d.K:=by omega
     have hN:=o.n2
     have hK:=o.k2
     obtain⟨e1,e2⟩:=kI (s:=d.run d.s ((ws.take j).map Int.toNat)) (x:=x) (k:=d.K) (N:=d.n) hrl hxk hN (by omega)
     have hnl:=o.lenN
     obtain⟨v,hv,hv0,hv1,hto⟩:=o.at hrl hxk
     rw[hkk]at e1
     refine⟨rfl,a,n,c,A9.load1 aI rfl rfl,rfl,d.k,A9.load1 aB rfl rfl,?_⟩
     rw[hxx,e1]
     have hidx:d.run d.s ((ws.take j).map Int.toNat)*d.K+x<d.nx.length:=by omega
     have hgv:d.nx[d.run d.s ((ws.take j).map Int.toNat)*d.K+x]=v:=by
       rw[List.getElem?_eq_getElem hidx]at hv;exact Option.some.inj hv
     refine⟨⟨⟨by omega,by omega⟩,hx.nx.isSome hidx⟩,v,by rw[<- hgv];exact hx.nx.num aB hidx,ws.length-(j+1),by omega,j+1,by omega,by rw[wrap_i64 (by omega) (by omega)];omega,rfl,?_,?_,rfl⟩
     · unfold Gh at hsy ⊢
       rw[List.take_succ_eq_append_getElem hlt,List.all_append,hsy]
       rw[List.all_cons,List.all_nil,decide_eq_true h7,decide_eq_true h8];rfl
     · rw[List.take_succ_eq_append_getElem hlt,List.map_append,oA,List.map_cons,List.map_nil,hxx,Int.toNat_natCast]
       show v=((d.to _ x:Nat):Int)
       rw[hto];omega
 · have:j=ws.length:=by omega
   subst this
   rw[List.take_length]at hsy hrl ⊢
   have hidx:d.run d.s (ws.map Int.toNat)<d.ac.length:=hrl
   obtain⟨v,hv,hrep⟩:=hx.ac.load1 (P:=prog) (i:=((d.run d.s (ws.map Int.toNat):Nat):Int)) bv rfl rfl (by rw[Int.toNat_natCast];exact hidx)
   have hb:=xP hrep
   subst hb
   refine⟨rfl,b,m,e,A9.load1 bf rfl rfl,⟨⟨by omega,by omega⟩,hx.ac.isSome hidx⟩,_,hv,?_,hB⟩
   unfold dm
   rw[hok,hsy,Bool.true_and,Bool.true_and]
   congr 1
   simp only[Int.toNat_natCast]
   exact zg hidx
set_option maxHeartbeats 1000000 in
theorem r9 {q:Req}(o:q.ok)(hn:q.host.name.length <=1000000)(hp:q.path.length <=1000000){w:World}(he:Env w){p:Option Addr}{ts:List Txt}(hA:gB w p ts){r:Rgn}{x y:Rgp}(hr:RgS w r x y):
   Cf ck #[.pointer p,r.v x y,q.v] w (Ret λv w'=>v=.bool (hasB ts r q)/\bW w w'):=by
 apply qH
 intro k4 w4 hk4 hw4 k5 w5 hk5 hw5
 have b4:=(hw4▸ah w _:bW w w4)
 have b5:=(hw5▸ah w4 _:bW w4 w5)
 have A4:am w4 k4 aj (r.cells x y):=am.new hk4 hw4
 have A5:am w5 k5 aq q.cells:=am.new hk5 hw5
 have B5:=ab b4 b5 b4.size
 have A45:=A4.below b5
 refine⟨λW=>bW w5 W/\mi q=true/\(if q.sec=true then r.s1 else r.s0)=true/\(if q.cross=0 then r.c0 else if q.cross=1 then r.c1 else r.c2)=true,⟨_,bQ.load0 A5 (Req.len o),?_⟩,aC.of ?_ _⟩
 · refine ax (FZ o (by omega) (he.step B5)) ?_
   rintro _ w10 ⟨rfl,b10⟩
   have B10:=ab B5 b10 B5.size
   refine⟨_,rfl,ae.of (λh=>?_) (λh=>?_)⟩
   · have h:mi q=false:=by simpa using h
     exact⟨by unfold hasB;rw[h];rfl,B10⟩
   have h:mi q=true:=by simpa using h
   have hc:0 <=q.cross/\q.cross <=2:=by
     unfold mi at h
     simp only[Bool.and_eq_true,dTx]at h
     exact⟨h.2.2.1,h.2.2.2⟩
   refine⟨rfl,_,(A5.below b10).load1 bv rfl (i:=0) rfl,?_⟩
   refine ax (De q.sec w10) ?_
   rintro _ w15 ⟨rfl,hw15⟩
   rw[hw15];clear hw15 w15
   have AA:=A45.below b10
   refine⟨_,rfl,rfl,⟨⟨by split <;> omega,by split <;> omega⟩,rfl⟩,(if q.sec=true then r.s1 else r.s0),?_,ae.of (λh2=>?_) (λh2=>?_)⟩
   · by_cases hs:q.sec=true
     · rw[if_pos hs,if_pos hs]
       exact AA.load1 bv rfl (i:=9) rfl
     · rw[if_neg hs,if_neg hs]
       exact AA.load1 bv rfl (i:=8) rfl
   · have h2:(if q.sec=true then r.s1 else r.s0)=false:=by simpa using h2
     exact⟨by unfold hasB;rw[h,h2];rfl,B10⟩
   have h2:(if q.sec=true then r.s1 else r.s0)=true:=by simpa using h2
   refine⟨rfl,_,(A5.below b10).load1 aB rfl (i:=20) (cK o 1),rfl,⟨⟨hc.1,by omega⟩,rfl⟩,(if q.cross=0 then r.c0 else if q.cross=1 then r.c1 else r.c2),?_,ae.of (λh3=>?_) (λh3=>?_)⟩
   · have h4:q.cross=0\/q.cross=1\/q.cross=2:=by omega
     rcases h4 with h4|h4|h4 <;> rw[h4]
     · exact AA.load1 bv rfl (i:=10) rfl
     · exact AA.load1 bv rfl (i:=11) rfl
     · exact AA.load1 bv rfl (i:=12) rfl
   · have h3:(if q.cross=0 then r.c0 else if q.cross=1 then r.c1 else r.c2)=false:=by simpa using h3
     exact⟨by unfold hasB;rw[h,h2,h3];rfl,B10⟩
   · have h3:(if q.cross=0 then r.c0 else if q.cross=1 then r.c1 else r.c2)=true:=by simpa using h3
     exact⟨b10,h,h2,h3⟩
 rintro wj ⟨bj,h,h2,h3⟩
 have Bj:=ab B5 bj B5.size
 refine⟨rfl,_,(A5.below bj).load1 aA rfl (i:=19) (cK o 0),?_⟩
 refine ax (kX q.path hp wj) ?_
 rintro _ w32 ⟨a3,n3,c3,rfl,o3,f3,b32⟩
 have bd:=(ab bj b32 bj.size).drew
 have B0:=ab B5 bd B5.size
 have o0:Sl cI w32.drew kj a3 n3 c3 (p9 q.path):=o3.all.below (bg w32)
 have hst:∀{W:World},Below w32.drew.heap.size w32.drew W->(Instr.loadAt ai (.pointer (some ⟨k5,1,none⟩))).run prog W=.ok q.host.v W:=λhb=>aJ.load ((A5.below bd).below hb) (i:=1) (us:=q.host.cells) (Hst.len o) (λj hj=>jp o hj)
 have hos:∀{W:World},Below w32.drew.heap.size w32.drew W->(Instr.loadAt af (.pointer (some ⟨k4,0,none⟩))).run prog W=.ok (daV x.a x.n x.c x.b x.m x.e r.h) W:=λhb=>vi ((A45.below bd).below hb)
 have pas:∀{W:World},Below w32.drew.heap.size w32.drew W->(Instr.loadAt af (.pointer (some ⟨k4,4,none⟩))).run prog W=.ok (daV y.a y.n y.c y.b y.m y.e r.p) W:=λhb=>vj ((A45.below bd).below hb)
 have r0:Below w32.drew.heap.size w32.drew w32.drew:=Below.refl _ _
 have word:=oW o hn (he.step B0) (hA.below B0)
 have ask:∀{W:World} {a n c},Below w32.drew.heap.size w32.drew W->Ow cI aw W NoB a n c (hwV ts q.host)->
     Cf bM #[daV x.a x.n x.c x.b x.m x.e r.h,.slice a n c] W λe41 w41=>∃(b41:Bool),e41=.returned (.bool b41)/\
       ae b41
       ((true=true)/\
       ∃(n0:Int) (n1:Int) (a2:Option Addr) (l2 c2:Nat) (a3':Option Addr) (l3 c3':Nat),(Instr.loadAt af (.pointer (some ⟨k4,4,none⟩))).run prog w41=.ok (.agg #[vI n0,vI n1,.slice a2 l2 c2,.slice a3' l3 c3']) w41/\
       Cf bM #[.agg #[vI n0,vI n1,.slice a2 l2 c2,.slice a3' l3 c3'],.slice a3 n3 c3] w41 λe46 w46=>∃(b46:Bool),e46=.returned (.bool b46)/\
       ((.bool b46:Value)=.bool (hasB ts r q)/\bW w w46))
       ((.bool false:Value)=.bool (hasB ts r q)/\bW w w41):=by
   intro W a n c hb hO
   have BW:=ab B0 hb B0.size
   refine ax (mH (hr.h.below BW) hO.all) ?_
   rintro _ w41 ⟨rfl,b41⟩
   have b41':=ab hb b41 hb.size
   have B41:=ab BW b41 BW.size
   refine⟨_,rfl,ae.of (λh5=>⟨rfl,_,_,y.a,y.n,y.c,y.b,y.m,y.e,pas b41',?_⟩) (λh5=>⟨by unfold hasB;rw[h,h2,h3,h5];rfl,B41⟩)⟩
   refine ax (mH (hr.p.below B41) (o0.below b41')) ?_
   rintro _ w46 ⟨rfl,b46⟩
   exact⟨_,rfl,by unfold hasB;rw[h,h2,h3,h5];rfl,ab B41 b46 B41.size⟩
 refine⟨a3,n3,c3,_,rfl,rfl,rfl,⟨_,_,x.a,x.n,x.c,x.b,x.m,x.e,hos r0,_,hst r0,?_⟩,_,hst r0,⟨_,_,x.a,x.n,x.c,x.b,x.m,x.e,hos r0,?_⟩,?_⟩
 · refine ax word ?_
   rintro _ w40 ⟨a,n,c,rfl,hO,hF,hb⟩
   exact⟨a,n,c,rfl,ask hb hO⟩
 · refine ax word ?_
   rintro _ w40 ⟨a,n,c,rfl,hO,hF,hb⟩
   exact⟨a,n,c,rfl,ask hb hO⟩
 · refine ax word ?_
   rintro _ w40 ⟨a,n,c,rfl,hO,hF,hb⟩
   exact⟨a,n,c,rfl,_,_,x.a,x.n,x.c,x.b,x.m,x.e,hos hb,ask hb hO⟩
theorem vW {w:World}{a b:Option Addr}{n c m e:Nat}{d:DA}(h:DaS w a n c b m e d):
   Cf nR #[daV a n c b m e d] w (Ret λv w'=>v=.bool (okD d)/\bW w w'):=by
 apply C7
 intro k1 w1 hk1 hw1
 have hb:=(hw1▸ah w _:bW w w1)
 have A1:am w1 k1 af [vI d.k,vI d.st,.slice a n c,.slice b m e]:=am.new hk1 hw1
 have hx:=h.below hb
 have hm:=hx.ac.len
 have hn:=hx.nx.len
 have hml:=hx.ac.le
 have hnl:=hx.nx.le
 have l0:(Instr.loadAt aw (.pointer (some ⟨k1,0,none⟩))).run prog w1=.ok (vI d.k) w1:=A1.load1 aB rfl rfl
 have l1:(Instr.loadAt aw (.pointer (some ⟨k1,1,none⟩))).run prog w1=.ok (vI d.st) w1:=A1.load1 aB rfl rfl
 have l2:(Instr.loadAt ar (.pointer (some ⟨k1,2,none⟩))).run prog w1=.ok (.slice a n c) w1:=A1.load1 aI rfl rfl
 have no: ¬ d.Ok->Value.bool false=Value.bool (okD d):=λhno=>by
   cases ho:okD d with
   | false=>rfl
   | true=>exact absurd (di.1 ho) hno
 refine⟨rfl,b,m,e,A1.load1 bf rfl rfl,λw'=>w'=w1/\1 <=d.k/\d.k <=512/\1 <=m/\m <=65536/\(n:Int)=(m:Int)*d.k,⟨rfl,_,l0,?_⟩,aC.of ?_ _⟩
 · refine ae.of (λh1=>⟨no λo=>?_,hb⟩) (λh1=>⟨rfl,_,l0,?_⟩) <;> simp only[dTx,dFx]at h1
   · have:=o.k1;omega
   refine ae.of (λh2=>⟨no λo=>?_,hb⟩) (λh2=>?_) <;> simp only[dTx,dFx]at h2
   · have:=o.k2;omega
   refine ae.of (λh3=>⟨no λo=>?_,hb⟩) (λh3=>?_) <;> simp only[dTx,dFx]at h3
   · have:=o.n1;omega
   refine ae.of (λh4=>⟨no λo=>?_,hb⟩) (λh4=>?_) <;> simp only[dTx,dFx]at h4
   · have:=o.n2;omega
   have hmul:0 <=(m:Int)*d.k/\(m:Int)*d.k <=65536*512:=⟨Int.mul_nonneg (by omega) (by omega),Int.mul_le_mul (by omega) (by omega) (by omega) (by omega)⟩
   refine⟨rfl,a,n,c,l2,rfl,_,l0,?_⟩
   try dsimp only
   rw[show i64.wrap (((m:Nat):Int)*d.k)=(m:Int)*d.k from wrap_i64 (by omega) (by omega)]
   refine ae.of (λh5=>⟨no λo=>?_,hb⟩) (λh5=>⟨rfl,by omega,by omega,by omega,by omega,by simpa using h5⟩)
   have h5:((n:Nat):Int)≠(m:Int)*d.k:=by simpa using h5
   have:=o.len
   rw[<- hn,<- hm]at this
   exact h5 this
 rintro wj ⟨hwj,h1,h2,h3,h4,h5⟩
 rw[hwj];clear hwj wj
 refine⟨rfl,a,n,c,l2,λM i w'=>∃j:Nat,j <=d.nx.length/\i=(j:Int)/\M=d.nx.length-j/\(d.nx.take j).all (inR (m:Int))=true/\w'=w1,⟨_,0,by omega,rfl,rfl,rfl,rfl⟩,?_⟩
 intro M i
 refine aC.of ?_ _
 rintro w' ⟨j,hj,rfl,rfl,hall,hw'⟩
 rw[hw'];clear hw' w'
 refine ae.of (λh6=>?_) (λh6=>?_) <;> simp only[dTx,dFx]at h6
 · have hlt:j<d.nx.length:=by omega
   have bad: ¬ (0 <=d.nx[j]/\d.nx[j]<(m:Int))-> ¬ d.Ok:=λhno o=>by
     have:=o.nx0 _ (List.getElem_mem hlt)
     rw[<- hm]at this
     exact hno this
   refine⟨⟨⟨by omega,h6⟩,hx.nx.isSome hlt⟩,_,hx.nx.num aB hlt,ae.of (λh7=>⟨no (bad ?_),hb⟩) (λh7=>ae.of (λh8=>⟨no (bad ?_),hb⟩) (λh8=>?_))⟩
   · simp only[dTx]at h7;omega
   · simp only[dTx]at h8;omega
   · simp only[dFx]at h7 h8
     refine⟨d.nx.length-(j+1),by omega,j+1,by omega,by rw[wrap_i64 (by omega) (by omega)];omega,rfl,?_,rfl⟩
     rw[List.take_succ_eq_append_getElem hlt,List.all_append,hall]
     unfold inR
     rw[List.all_cons,List.all_nil,decide_eq_true (show 0 <=d.nx[j] by omega),decide_eq_true (show d.nx[j]<(m:Int) by omega)];rfl
 · have:j=d.nx.length:=by omega
   subst this
   rw[List.take_length]at hall
   refine⟨rfl,_,l1,ae.of (λh7=>⟨rfl,_,l1,?_,hb⟩) (λh7=>⟨no λo=>?_,hb⟩)⟩
   · simp only[ge_iff_le,dTx]at h7
     congr 1
     unfold okD
     rw[<- hm,<- hn,decide_eq_true h1,decide_eq_true h2,decide_eq_true h3,decide_eq_true h4,decide_eq_true h5,decide_eq_true h7]
     unfold inR at hall
     rw[hall]
     simp
   · simp only[ge_iff_le,dFx]at h7
     have:=o.s0;omega
theorem CR {P:Program}{f:FuncId}{args:Array Value}{u:World}{b:Bool}(h:Calls P f args u (Ret λv w'=>v=.bool b/\bW u w')):Calls P f args u λe w'=>e=.returned (.bool b)/\bW u w':=
 h.mono λe w' ⟨v,he,hv,hb⟩=>⟨by rw[he,hv],hb⟩
theorem pd (s p:List UInt8)(w:World):Cf fP #[vS s,vS p] w (Ret λv w'=>v=.bool (HR s p)/\w'=w):=by
 apply nr
 refine ae.of (λh=>⟨⟨by omega,by simpa using h⟩,λt ht=>⟨?_,rfl⟩⟩) (λh=>⟨?_,rfl⟩)
 · rw[ht];unfold HR;rw[h,Int.toNat_natCast];rfl
 · unfold HR;rw[h];rfl
theorem kU {p:Pat}{r:Req}(op:p.ok)(or:r.ok)(pn:p.host.name.length <=80000000)(rn:r.host.name.length <=80000000)(rp:r.path.length <=9223372036854775800)(w:World):
   Cf eI #[p.v,r.v] w (Ret λv w'=>v=.bool (mi r&&sE p r)/\bW w w'):=by
 apply ns
 intro k2 w2 hk2 hw2 k3 w3 hk3 hw3
 have b2:=(hw2▸ah w _:bW w w2)
 have b3:=(hw3▸ah w2 _:bW w2 w3)
 have A2:am w3 k2 bT p.cells:=(am.new hk2 hw2:am w2 k2 bT p.cells).below b3
 have A3:am w3 k3 aq r.cells:=am.new hk3 hw3
 have B3:=ab b2 b3 b2.size
 refine fY (λW=>bW w3 W/\mi r=true/\HR r.path p.pre=true) ?_ ?_
 · refine⟨_,bQ.load0 A3 (Req.len or),?_⟩
   refine ax (jM or rn rp w3) ?_
   rintro _ w6 ⟨rfl,b6⟩
   have B6:=ab B3 b6 B3.size
   refine⟨_,rfl,ae.of (λh=>⟨by rw[show mi r=false by simpa using h];rfl,B6⟩) (λh=>?_)⟩
   have h:mi r=true:=by simpa using h
   refine⟨rfl,_,(A3.below b6).load1 aA rfl (i:=19) (cK or 0),rfl,_,(A2.below b6).load1 aA rfl (i:=21) (mB op 2),?_⟩
   refine ax (pd _ _ w6) ?_
   rintro _ w13 ⟨rfl,hw13⟩
   rw[hw13];clear hw13 w13
   refine⟨_,rfl,ae.of (λh2=>⟨?_,B6⟩) (λh2=>⟨b6,h,by simpa using h2⟩)⟩
   unfold sE
   rw[show HR r.path p.pre=false by simpa using h2,Bool.false_and,Bool.and_false]
 rintro W ⟨bWx,hr,hb⟩
 have BW:=ab B3 bWx B3.size
 have A2:=A2.below bWx
 have A3:=A3.below bWx
 have hv:(mi r&&sE p r)=((if r.sec=true then p.sec else p.plain)&&(if p.wild=true then lL r.host p.host else lG r.host p.host)):=by unfold sE;rw[hr,hb];rfl
 rw[hv]
 have ls:=A3.load1 (P:=prog) bv rfl (i:=0) rfl
 refine fY (λV=>V=W/\(if r.sec=true then p.sec else p.plain)=true) ?_ ?_
 · refine⟨rfl,_,ls,ae.of (λh=>⟨rfl,_,A2.load1 bv rfl (i:=20) (mB op 1),ae.of (λh2=>⟨?_,BW⟩) (λh2=>⟨rfl,_,ls,ae.no (by rw[h];rfl) ⟨rfl,?_⟩⟩)⟩) (λh=>⟨rfl,_,ls,ae.yes (by rw[h];rfl) ⟨rfl,_,A2.load1 bv rfl (i:=19) (mB op 0),ae.of (λh2=>⟨?_,BW⟩) (λh2=>⟨rfl,?_⟩)⟩⟩)⟩
   · rw[if_pos h,show p.sec=false by simpa using h2];rfl
   · rw[if_pos h];simpa using h2
   · rw[if_neg (by rw[h];decide),show p.plain=false by simpa using h2];rfl
   · rw[if_neg (by rw[h];decide)];simpa using h2
 rintro V ⟨hV,hs⟩
 rw[hV];clear hV V
 rw[hs,Bool.true_and]
 have lr:=aJ.load (P:=prog) A3 (i:=1) (us:=r.host.cells) (Hst.len or) (λj hj=>jp or hj)
 have lp:=aJ.load (P:=prog) A2 (i:=1) (us:=p.host.cells) (Hst.len op) (λj hj=>Bv op hj)
 refine⟨rfl,_,A2.load1 bv rfl (i:=0) rfl,ae.of (λh=>⟨rfl,_,lr,rfl,_,lp,?_⟩) (λh=>⟨rfl,_,lr,rfl,_,lp,_,CD or op W,?_,BW⟩)⟩
 · refine ax (jL or op rn pn W) ?_
   rintro _ w39 ⟨rfl,b39⟩
   exact⟨_,rfl,by rw[if_pos h],ab BW b39 BW.size⟩
 · rw[if_neg (by rw[h];decide)]
theorem uq (a:Option Addr)(b c:Nat)(d e:Value){w K}(h:nA w (.cells (Value.cells d) aL) λf g=>nA g (.cells (Value.cells e) aq) λi j=>uB du #[] j λk l=>ae (!k) (K (.bool false) l) (true/\true/\true/\∃m,Ld au (vA f 3) l (vS m)/\true/\true/\∃n,Ld au (vA f 21) l (vS n)/\true/\true/\true/\∃o,Ld au (vA f 31) l (vS o)/\true/\true/\∃p,Ld au (vA f 50) l (vS p)/\true/\true/\∃q,Ld au (vA i 2) l (vS q)/\true/\∃r,Ld au (vA i 19) l (vS r)/\nA l (.cells #[vS m,vS n,vS o,vS p,vS q,vS r] au) λs t=>uB ji #[.slice a b c,.slice (vA s 0) 6 6] t λu v=>ae u (K (.bool true) v) (∃x,Ld aL (vA f 0) v x/\Cf gu #[.slice a b c,x] v λy z=>∃A B C,y=rT #[A,B,.bool C]/\nA z (.cells aV aj) λD E=>nA E (.cells aV aj) λF G=>∃H,Sv aj (vA D 0) A G H/\∃I,Sv aj (vA F 0) B H I/\ae (!C) (K (.bool true) I) (uP gI #[.slice a b c] I λJ L=>∃M,Ld aj (vA D 0) L M/\∃N,Ld aj (vA F 0) L N/\Cf dI #[M,N] L λO P=>∃Q R,O=rT #[Q,vI R]/\nA P (.cells aV aj) λS T=>∃U,Sv aj (vA S 0) Q T U/\ae (R==(0:Int)) (true/\∃V X Y Z aa ac ad ag,(∀al,bW U al->Ld af (vA S 0) al (.agg #[vI V,vI X,.slice Y Z aa,.slice ac ad ag]))/\∃al,(∀an,bW U an->Cf nR #[.agg #[vI V,vI X,.slice Y Z aa,.slice ac ad ag]] an λba bb=>ba=.returned (.bool al)/\bW an bb)/\ae al (true/\∃an ba bb bc bd bj bk bl,(∀bn,bW U bn->Ld af (vA S 4) bn (.agg #[vI an,vI ba,.slice bb bc bd,.slice bj bk bl]))/\∃bn,(∀bo,bW U bo->Cf nR #[.agg #[vI an,vI ba,.slice bb bc bd,.slice bj bk bl]] bo λbq bw=>bq=.returned (.bool bn)/\bW bo bw)/\ae bn (true/\true/\true/\true/\true/\true/\∃bo bq bw,(∀bx,bW U bx->Ld aO (vA S 3) bx (.slice bo bq bw))/\∃bx bz ca,(∀cc,bW U cc->Ld aO (vA D 3) cc (.slice bx bz ca))/\∃cc ch cl,(∀cm,bW U cm->Ld aO (vA F 3) cm (.slice cc ch cl))/\ae (decide (((bq:Nat):Int) <=(i64.wrap (((bz:Nat):Int)*((ch:Nat):Int))))) (true/\true/\true/\true/\true/\true/\∃cm cn cp,(∀cs,bW U cs->Ld aO (vA S 7) cs (.slice cm cn cp))/\∃cs cx da,(∀db,bW U db->Ld aO (vA D 7) db (.slice cs cx da))/\∃db dc dd,(∀dg,bW U dg->Ld aO (vA F 7) dg (.slice db dc dd))/\ae (decide (((cn:Nat):Int) <=(i64.wrap (((cx:Nat):Int)*((dc:Nat):Int))))) (true/\true/\true/\∃dg,(∀dk,bW U dk->Ld aj (vA S 0) dk dg)/\∃dk,(∀dl,bW U dl->Ld aq (vA i 0) dl dk)/\∃dl,(∀dn,bW U dn->Cf ck #[.pointer J,dg,dk] dn λdr ds=>dr=.returned (.bool dl)/\bW dn ds)/\∃dn,(∀dr,bW U dr->Ld bE (vA f 0) dr dn)/\∃dr,(∀ds,bW U ds->Ld aq (vA i 0) ds dr)/\∃ds,(∀ea,bW U ea->Ld lO (vA f 26) ea (vI ds))/\∃ea,(∀eb,bW U eb->Cf gG #[dn,dr,vI ds] eb λec ed=>ec=.returned (.bool ea)/\bW eb ed)/\ae ea (true/\∃eb,(∀ec,bW U ec->Ld bT (vA f 29) ec eb)/\∃ec,(∀ed,bW U ed->Ld aq (vA i 0) ed ec)/\∃ed,(∀ef,bW U ef->Cf eI #[eb,ec] ef λeg eh=>eg=.returned (.bool ed)/\bW ef eh)/\∀ef,bW U ef->K (.bool (dl==ed)) ef) (∀eb,bW U eb->K (.bool (dl==false)) eb)) (∀dg,bW U dg->K (.bool false) dg)) (∀cm,bW U cm->K (.bool false) cm)) (∀bo,bW U bo->K (.bool false) bo)) (∀an,bW U an->K (.bool false) an)) (∀V,bW U V->K (.bool false) V))))):Cf oK #[.slice a b c,d,e] w (Ret K):=ru func9 [(1000033,[]),(3000033,[(0,.one .bool),(1,.one .bool),(2,.one .bool),(3,.one .bool),(4,.one .bool),(5,.one .bool),(6,.one .bool),(7,.one .bool),(8,.one .bool),(9,.one .bool),(10,.one .bool),(11,.one .bool),(12,.one .bool),(13,.one .bool),(14,.one .bool),(17,.one .bool),(18,.one .bool),(21,.one .bool),(22,.one .bool),(15,.one .bool),(16,.one .bool),(19,.one .bool),(20,.one .bool),(23,.one .bool),(24,.one .bool),(25,.one .bool),(26,.one .bool),(27,.one .bool),(28,.one .bool),(29,.one .bool),(30,.one .bool),(33,.one .bool),(34,.one .bool),(37,.one .bool),(38,.one .bool),(31,.one .bool),(32,.one .bool),(35,.one .bool),(36,.one .bool),(39,.one .bool),(40,.one .bool),(41,.one .bool),(42,.one .bool),(43,.one .bool),(44,.one .bool),(45,.one .bool),(49,.one .bool),(52,.one .bool),(53,.one .bool),(46,.one .bool),(47,.one .bool),(48,.one .bool),(50,.one .bool),(51,.one .bool),(54,.one .bool),(55,.one .bool),(56,.one .bool),(57,.one .bool),(58,.one .bool),(59,.one .bool),(60,.one .bool),(61,.one .bool),(62,.one .bool),(63,.one .bool),(64,.one .bool)])] h
set_option maxHeartbeats 1000000 in
theorem DH {w:World}(he:Env w){a:Option Addr}{n c:Nat}{l:List Txt}(hs:Sl tS w kj a n c l){k:Cas}(o:k.ok){q:Req}(oq:q.ok):
   Cf oK #[.slice a n c,k.v,q.v] w (Ret λv w'=>v=.bool true/\bW w w'):=by
 apply uq
 refine Ff he hs o oq (K:=λv w'=>v=.bool true/\bW w w') _ (λw' h=>⟨rfl,h⟩) ?_
 intro k4 k5 k7 k8 p k11 W x y z X1 X2 Y1 Y2 Z1 Z2 F
 have htl:(pZ l).length <=16:=Nat.le_trans (sq l) F.ll
 have g1:=F.cn
 have g2:=F.cp
 have g3:=F.pn
 have g5:=F.qn
 have g6:=F.qp
 have hk:=F.rt.kp.trans F.rt.kq.symm
 have nh:z.h.ac.length <=x.h.ac.length*y.h.ac.length:=F.mh.len (wL.mul F.rt.xh F.rt.yh F.rt.kh (Nat.le_refl _))
 have np:z.p.ac.length <=x.p.ac.length*y.p.ac.length:=F.mp.len (wL.mul F.rt.xp F.rt.yp hk (Nat.le_refl _))
 have m1:x.h.ac.length*y.h.ac.length <=200*200:=Nat.mul_le_mul F.rt.nh.1 F.rt.nh.2
 have m2:x.p.ac.length*y.p.ac.length <=400*400:=Nat.mul_le_mul F.rt.np.1 F.rt.np.2
 have e1:=F.sx.h.ac.len
 have e2:=F.sy.h.ac.len
 have e3:=F.sz.h.ac.len
 have e4:=F.sx.p.ac.len
 have e5:=F.sy.p.ac.len
 have e6:=F.sz.p.ac.len
 have hm:=F.has o oq
 refine ae.yes rfl ⟨rfl,_,_,Z1.a,Z1.n,Z1.c,Z1.b,Z1.m,Z1.e,λu hu=>vi (F.a11.below hu),_,λu hu=>CR (vW (F.sz.below hu).h),ae.yes (di.2 F.mh.ok.1) ⟨rfl,_,_,Z2.a,Z2.n,Z2.c,Z2.b,Z2.m,Z2.e,λu hu=>vj (F.a11.below hu),_,λu hu=>CR (vW (F.sz.below hu).p),ae.yes (di.2 F.mp.ok.1) ⟨rfl,rfl,rfl,rfl,rfl,rfl,Z1.b,Z1.m,Z1.e,λu hu=>(F.a11.below hu).load1 bf rfl (i:=3) rfl,X1.b,X1.m,X1.e,λu hu=>(F.a7.below hu).load1 bf rfl (i:=3) rfl,Y1.b,Y1.m,Y1.e,λu hu=>(F.a8.below hu).load1 bf rfl (i:=3) rfl,ae.yes ?_ ⟨rfl,rfl,rfl,rfl,rfl,rfl,Z2.b,Z2.m,Z2.e,λu hu=>(F.a11.below hu).load1 bf rfl (i:=7) rfl,X2.b,X2.m,X2.e,λu hu=>(F.a7.below hu).load1 bf rfl (i:=7) rfl,Y2.b,Y2.m,Y2.e,λu hu=>(F.a8.below hu).load1 bf rfl (i:=7) rfl,ae.yes ?_ ⟨rfl,rfl,rfl,_,λu hu=>aE.load0 (F.a11.below hu) rfl,_,λu hu=>bQ.load0 (F.a5.below hu) (Req.len oq),_,λu hu=>CR (r9 oq (by omega) (by omega) (he.step (ab F.bel hu F.bel.size)) (F.al.below hu) (F.sz.below hu)),_,λu hu=>uQ.load (F.a4.below hu) (i:=0) (us:=k.c.cells) (Cky.len o.1) (λj hj=>by rw[Nat.zero_add];exact ql o hj),_,λu hu=>bQ.load0 (F.a5.below hu) (Req.len oq),_,λu hu=>(F.a4.below hu).load1 kZ rfl (i:=26) ((ql o (by decide)).trans (cO o.1 6)),_,λu hu=>CR (om o.1 oq (by omega) (by omega) (by omega) (by omega) k.c.born u),?_⟩⟩⟩⟩⟩
 · rw[dTx,e1,e2,e3,<- Int.natCast_mul,wrap_i64 (by omega) (by omega)]
   omega
 · rw[dTx,e4,e5,e6,<- Int.natCast_mul,wrap_i64 (by omega) (by omega)]
   omega
 rw[hm]
 refine ae.of (λh1=>⟨rfl,_,λu hu=>Ac.load (F.a4.below hu) (i:=29) (us:=k.p.cells) (Pat.len o.2) (λj hj=>BP o j),_,λu hu=>bQ.load0 (F.a5.below hu) (Req.len oq),_,λu hu=>CR (kU o.2 oq (by omega) (by omega) (by omega) u),λwq hq=>⟨?_,ab F.bel hq F.bel.size⟩⟩) (λh1 wq hq=>⟨?_,ab F.bel hq F.bel.size⟩)
 · rw[h1,Bool.true_and,beq_self_eq_true]
 · rw[h1];rfl
end Go.Pk
