/- What the law alone leans on: Names, V3, V1, H, Split, DateP, DateN, HdrB, AddrA, AddrP, AddrB, AddrC, AddrF, AddrG, AddrI, Eq, HostA, HostC, HostD, V4, UrlA, MatA, SymQ, V39, RegA, HwQ, RegP, V47, RegT, RegU; what is used. Its conditions: none. -/
import Derived.Test.YtpafoodmpjlkhaaGreatDoorKK
set_option linter.unusedVariables false
set_option linter.unusedSimpArgs false
set_option linter.unusedSectionVars false
set_option maxRecDepth 100000
open Go.IntKind (i64)
open Go.Proofs.Tryz
open List (length)
open Option (isSome)
namespace Go.Pk
open Go.RowKit (Below)
open Go.Proofs
abbrev oJ:Nat:=8
abbrev cv:Nat:=24
abbrev ee:Nat:=26
abbrev cD:Nat:=27
abbrev gG:Nat:=39
abbrev eI:Nat:=43
abbrev fD:Nat:=44
abbrev dH:Nat:=60
abbrev gZ:Nat:=61
abbrev eu:Nat:=83
abbrev ic:Nat:=84
abbrev fP:Nat:=91
abbrev gV:Nat:=92
abbrev gW:Nat:=93
abbrev cu:Nat:=108
abbrev lV:Nat:=109
abbrev gU:Nat:=110
abbrev dG:Nat:=111
abbrev lT:Nat:=112
abbrev hZ:Nat:=113
abbrev iP:Nat:=140
abbrev iQ:Nat:=141
abbrev aY:Nat:=145
abbrev dY:Nat:=146
abbrev cj:Nat:=147
abbrev dZ:Nat:=167
abbrev fO:Nat:=168
abbrev gY:Nat:=190
abbrev gX:Nat:=211
theorem pz (a:Value){w K}(h:nA w (.cells (Value.cells a) ai) λb c=>∃d,Ld ai (vA b 0) c d/\uS fD #[d] c λe f=>Cf gZ #[vS e] f λg i=>∃j k,g=rT #[j,vI k]/\nA i (.cells bA ai) λl m=>∃n,Sv ai (vA l 0) j m n/\ae (k==(0:Int)) (∃o,Ld ai (vA l 0) n o/\∃p,Ld ai (vA b 0) n p/\∃q,(do eqGuard .eql ai (.tmp 14) (.tmp 15) o p;binOp .eql ai o p:Sem Value).run prog n=.ok (.bool q) n/\K (.bool q) n) (K (.bool false) n)):Cf cv #[a] w (Ret K):=ru func24 [] h
theorem pA (a b:Value){w K}(h:nA w (.cells (Value.cells a) ai) λc d=>nA d (.cells (Value.cells b) ai) λe f=>∃g:FP [],(∃i,Ld ai (vA c 0) f i/\uL dH #[i] f λj k l m=>ae (((k:Nat):Int)==(0:Int)) (K (.bool false) m) (∃n,Ld ai (vA e 0) m n/\uL dH #[n] m λo p q r=>ae (((p:Nat):Int)==(0:Int)) (K (.bool false) r) (g r)))/\aC 11 (∀i,g i->true/\∃j,Ld au (vA e 1) i (vS j)/\(((List.length [46]+List.length j:Nat):Int) <=i64.max)/\∀k,k=([46]++j)->true/\∃l,Ld au (vA c 1) i (vS l)/\ae (decide (((List.length l:Nat):Int)>((List.length k:Nat):Int))) (true/\∃m,Ld au (vA c 1) i (vS m)/\true/\∃n,Ld au (vA c 1) i (vS n)/\bd (i64.wrap (((List.length n:Nat):Int)-((List.length k:Nat):Int))) (((List.length m):Nat):Int)/\∀o,o=(List.drop (Int.toNat (i64.wrap (((List.length n:Nat):Int)-((List.length k:Nat):Int)))) m)->K (.bool (o==k)) i) (K (.bool false) i))):Cf ee #[a,b] w (Ret K):=ru func26 [(2,[])] h
theorem qD (a:Value){w K}(h:nA w (.cells (Value.cells a) ai) λb c=>true/\∃d,Ld aw (vA b 0) c (vI d)/\ae (d==(1:Int)) (true/\∃e,Ld au (vA b 1) c (vS e)/\K (vS e) c) (true/\∃e,Ld aw (vA b 0) c (vI e)/\ae (e==(2:Int)) (true/\∃f,Ld ak (vA b 2) c f/\uS gV #[f] c λg i=>K (vS g) i) (true/\∃f,Ld aw (vA b 0) c (vI f)/\ae (f==(3:Int)) (true/\∃g,Ld ak (vA b 2) c g/\uS gW #[g] c λi j=>(((List.length [91]+List.length i:Nat):Int) <=i64.max)/\∀k,k=([91]++i)->(((List.length k+List.length [93]:Nat):Int) <=i64.max)/\∀l,l=(k++[93])->K (vS l) j) (K (vS []) c)))):Cf fD #[a] w (Ret K):=ru func44 [] h
theorem nl (a:Value){w K}(h:nA w (.cells (Value.cells a) ai) λb c=>∃d:FP [],(true/\∃e,Ld aw (vA b 0) c (vI e)/\ae (e !=(1:Int)) (K (.slice none 0 0) c) (∃f,Ld ai (vA b 0) c f/\uB cv #[f] c λg i=>ae (!g) (K (.slice none 0 0) i) (d i)))/\aC 9 (∀e,d e->true/\∃f,Ld au (vA b 1) e (vS f)/\uL cu #[vS f,.int .u8 46] e λg i j k=>K (.slice g i j) k)):Cf dH #[a] w (Ret K):=ru func60 [(2,[])] h
theorem py (a:lU){w K}(h:nA w (.cells bA ai) λb c=>∃d:FP [],(∃e:FP [.one .bool],(ae (decide (((List.length a:Nat):Int)>(0:Int))) (bx (0:Int) ((List.length a:Nat):Int)/\e ((aQ a (0:Int))==(91:Int)) c) (e false c))/\∀f,aC 7 (∀g,e f g->ae f (bx (i64.wrap (((List.length a:Nat):Int)-(1:Int))) ((List.length a:Nat):Int)/\ae ((aQ a (i64.wrap (((List.length a:Nat):Int)-(1:Int)))) !=(93:Int)) (∃i,Sv ai (vA b 0) (.agg bA) g i/\∃j,Rv ai (vA b 0) i j/\K (.tuple #[j,vI 31]) i) ((bd (i64.wrap (((List.length a:Nat):Int)-(1:Int))) (((List.length a):Nat):Int)/\0 <=(1:Int)/\(1:Int) <=((Int.toNat (i64.wrap (((List.length a:Nat):Int)-(1:Int))):Nat):Int))/\∀i,i=(List.drop (Int.toNat 1) (List.take (Int.toNat (i64.wrap (((List.length a:Nat):Int)-(1:Int)))) a))->Cf lV #[vS i] g λj k=>∃l m,j=rT #[l,.bool m]/\nA k (.cells aM ak) λn o=>∃p,Sv ak (vA n 0) l o p/\ae (!m) (∃q,Sv ai (vA b 0) (.agg bA) p q/\∃r,Rv ai (vA b 0) q r/\K (.tuple #[r,vI 31]) q) (∃q,Ld ak (vA n 0) p q/\∃r,(Instr.build ai #[(0,vI 3),(2,q)]).run prog p=.ok r p/\∃s,Sv ai (vA b 0) r p s/\∃t,Rv ai (vA b 0) s t/\K (.tuple #[t,vI 0]) s))) (d g)))/\aC 32 (∀e,d e->uS gU #[vS a] e λf g=>uL cu #[vS f,.int .u8 46] g λi j k l=>(bx (i64.wrap (((j:Nat):Int)-(1:Int))) ((j:Nat):Int)/\Option.isSome i=true)/\∃m,Ld au (ao i (i64.wrap (((j:Nat):Int)-(1:Int))) 1) l (vS m)/\uB dG #[vS m] l λn o=>ae n (Cf lT #[vS a] o λp q=>∃r s,p=rT #[r,.bool s]/\nA q (.cells aM ak) λt u=>∃v,Sv ak (vA t 0) r u v/\ae (!s) (∃x,Sv ai (vA b 0) (.agg bA) v x/\∃y,Rv ai (vA b 0) x y/\K (.tuple #[y,vI 31]) x) (∃x,Ld ak (vA t 0) v x/\∃y,(Instr.build ai #[(0,vI 2),(2,x)]).run prog v=.ok y v/\∃z,Sv ai (vA b 0) y v z/\∃A,Rv ai (vA b 0) z A/\K (.tuple #[A,vI 0]) z)) (∃p:Nat->FP [.one (.int .i64)],(∃q,p q (0:Int) o)/\∀q r,aC 10 (∀s,p q r s->ae (decide (r<((j:Nat):Int))) ((bx r ((j:Nat):Int)/\Option.isSome i=true)/\∃t,Ld au (ao i r 1) s (vS t)/\uB hZ #[vS t] s λu v=>ae (!u) (∃x,Sv ai (vA b 0) (.agg bA) v x/\∃y,Rv ai (vA b 0) x y/\K (.tuple #[y,vI 31]) x) (∃x:Nat,x<q/\p x (i64.wrap (r+(1:Int))) v)) (ae (decide (((List.length a:Nat):Int)>(253:Int))) (∃t,Sv ai (vA b 0) (.agg bA) s t/\∃u,Rv ai (vA b 0) t u/\K (.tuple #[u,vI 31]) t) (∃t,Sv ai (vA b 0) (.agg #[vI 1,vS f,.int .u8 0,.int .u8 0,.int .u8 0,.int .u8 0,.int .u8 0,.int .u8 0,.int .u8 0,.int .u8 0,.int .u8 0,.int .u8 0,.int .u8 0,.int .u8 0,.int .u8 0,.int .u8 0,.int .u8 0,.int .u8 0]) s t/\∃u,Rv ai (vA b 0) t u/\K (.tuple #[u,vI 0]) t)))))):Cf gZ #[vS a] w (Ret K):=ru func61 [(2,[]),(3,[(19,.one .bool)]),(54,[(64,.one (.int .i64))])] h
theorem po (a:Value){w K}(h:nA w (.cells (Value.cells a) ak) λb c=>(bx (12:Int) ((16:Nat):Int)/\true)/\∃d,(∀e,bW c e->Ld aG (ao (vA b 0) (12:Int) 1) e (.int .u8 d))/\∃e,(∀f,bW c f->Cf aY #[vI (i64.wrap d)] f λg i=>g=.returned (vS e)/\Below c.heap.size f i)/\(((List.length e+List.length [46]:Nat):Int) <=i64.max)/\∀f,f=(e++[46])->(bx (13:Int) ((16:Nat):Int)/\true)/\∃g,(∀i,bW c i->Ld aG (ao (vA b 0) (13:Int) 1) i (.int .u8 g))/\∃i,(∀j,bW c j->Cf aY #[vI (i64.wrap g)] j λk l=>k=.returned (vS i)/\Below c.heap.size j l)/\(((List.length f+List.length i:Nat):Int) <=i64.max)/\∀j,j=(f++i)->(((List.length j+List.length [46]:Nat):Int) <=i64.max)/\∀k,k=(j++[46])->(bx (14:Int) ((16:Nat):Int)/\true)/\∃l,(∀m,bW c m->Ld aG (ao (vA b 0) (14:Int) 1) m (.int .u8 l))/\∃m,(∀n,bW c n->Cf aY #[vI (i64.wrap l)] n λo p=>o=.returned (vS m)/\Below c.heap.size n p)/\(((List.length k+List.length m:Nat):Int) <=i64.max)/\∀n,n=(k++m)->(((List.length n+List.length [46]:Nat):Int) <=i64.max)/\∀o,o=(n++[46])->(bx (15:Int) ((16:Nat):Int)/\true)/\∃p,(∀q,bW c q->Ld aG (ao (vA b 0) (15:Int) 1) q (.int .u8 p))/\∃q,(∀r,bW c r->Cf aY #[vI (i64.wrap p)] r λs t=>s=.returned (vS q)/\Below c.heap.size r t)/\(((List.length o+List.length q:Nat):Int) <=i64.max)/\∀r,r=(o++q)->∀s,bW c s->K (vS r) s):Cf gV #[a] w (Ret K):=ru func92 [] h
theorem pq (a:Value){w K}(h:nA w (.cells (Value.cells a) ak) λb c=>∃d:Nat->FP [.one (.int .i64)],(∃e,d e (8:Int) c)/\∀e f,aC 40 (∀g,d e f g->ae (decide (f >=(2:Int))) (∃i:Nat->FP [.one (.int .i64)],(∃j,i j (0:Int) g)/\∀j k,aC 35 (∀l,i j k l->ae (decide ((i64.wrap (k+f)) <=(8:Int))) (∃m:Nat->FP [.one .bool,.one (.int .i64)],(∃n,m n true k l)/\∀n o p,aC 14 (∀q,m n o p q->ae (decide (p<(i64.wrap (k+f)))) (ae o (∃r,Ld ak (vA b 0) q r/\uI dY #[r,vI p] q λs t=>∃u:Nat,u<n/\m u (s==(0:Int)) (i64.wrap (p+(1:Int))) t) (∃r:Nat,r<n/\m r false (i64.wrap (p+(1:Int))) q)) (ae o (∃r,(∀s,bW q s->Ld ak (vA b 0) s r)/\∃s,(∀t,bW q t->Cf cj #[r,vI 0,vI k] t λu v=>u=.returned (vS s)/\Below q.heap.size t v)/\(((List.length s+List.length [58,58]:Nat):Int) <=i64.max)/\∀t,t=(s++[58,58])->∃u,(∀v,bW q v->Ld ak (vA b 0) v u)/\∃v,(∀x,bW q x->Cf cj #[u,vI (i64.wrap (k+f)),vI 8] x λy z=>y=.returned (vS v)/\Below q.heap.size x z)/\(((List.length t+List.length v:Nat):Int) <=i64.max)/\∀x,x=(t++v)->∀y,bW q y->K (vS x) y) (∃r:Nat,r<j/\i r (i64.wrap (k+(1:Int))) q)))) (∃m:Nat,m<e/\d m (i64.wrap (f-(1:Int))) l))) (∃i,Ld ak (vA b 0) g i/\uS cj #[i,vI 0,vI 8] g λj k=>K (vS j) k))):Cf gW #[a] w (Ret K):=ru func93 [(6,[(3,.one (.int .i64))]),(18,[(4,.one (.int .i64))]),(33,[(5,.one .bool),(6,.one (.int .i64))])] h
theorem uu (a:lU){w K}(h:nA w (.cells aM ak) λb c=>Cf dZ #[vS a] c λd e=>∃f g,d=rT #[f,.bool g]/\nA e (.cells aM ak) λi j=>∃k,Sv ak (vA i 0) f j k/\ae g (∃l,Ld ak (vA i 0) k l/\∃m,Sv ak (vA b 0) l k m/\∃n,Rv ak (vA b 0) m n/\K (.tuple #[n,.bool true]) m) (∃l:Nat->FP [.one (.int .i64)],(∃m,l m (0:Int) k)/\∀m n,aC 57 (∀o,l m n o->ae (decide ((i64.wrap (n+(2:Int))) <=((List.length a:Nat):Int))) (∃p:FP [],(bx n ((List.length a:Nat):Int)/\ae ((aQ a n) !=(58:Int)) (∃q:Nat,q<m/\l q (i64.wrap (n+(1:Int))) o) (bx (i64.wrap (n+(1:Int))) ((List.length a:Nat):Int)/\ae ((aQ a (i64.wrap (n+(1:Int)))) !=(58:Int)) (∃q:Nat,q<m/\l q (i64.wrap (n+(1:Int))) o) (p o)))/\aC 11 (∀q,p q->bd n (((List.length a):Nat):Int)/\∀r,r=(List.take (Int.toNat n) a)->bd (i64.wrap (n+(2:Int))) (((List.length a):Nat):Int)/\∀s,s=(List.drop (Int.toNat (i64.wrap (n+(2:Int)))) a)->∃t:FP [.one .str],(ae (!(r==[])) ((((List.length r+List.length [58]:Nat):Int) <=i64.max)/\∀u,u=(r++[58])->t u q) (t r q))/\∀u,aC 4 (∀v,t u v->∃x:FP [.one .str],(ae (!(s==[])) ((((List.length [58]+List.length s:Nat):Int) <=i64.max)/\∀y,y=([58]++s)->x y v) (x s v))/\∀y,aC 4 (∀z,x y z->∃A:Nat->FP [.one .str,.one (.int .i64)],(∃B,A B [48] (0:Int) z)/\∀B C D,aC 20 (∀E,A B C D E->ae (decide (D<(8:Int))) ((((List.length u+List.length C:Nat):Int) <=i64.max)/\∀F,F=(u++C)->(((List.length F+List.length y:Nat):Int) <=i64.max)/\∀G,G=(F++y)->Cf dZ #[vS G] E λH I=>∃J L,H=rT #[J,.bool L]/\nA I (.cells aM ak) λM N=>∃O,Sv ak (vA M 0) J N O/\ae L (∃P,Ld ak (vA M 0) O P/\∃Q,Sv ak (vA b 0) P O Q/\∃R,Rv ak (vA b 0) Q R/\K (.tuple #[R,.bool true]) Q) ((((List.length C+List.length [58,48]:Nat):Int) <=i64.max)/\∀P,P=(C++[58,48])->∃Q:Nat,Q<B/\A Q P (i64.wrap (D+(1:Int))) O)) (∃F:Nat,F<m/\l F (i64.wrap (n+(1:Int))) E)))))) (∃p,Sv ak (vA b 0) (.agg aM) o p/\∃q,Rv ak (vA b 0) p q/\K (.tuple #[q,.bool false]) p)))):Cf lV #[vS a] w (Ret K):=ru func109 [(16,[(6,.one (.int .i64))]),(25,[]),(35,[(7,.one .str)]),(41,[(8,.one .str)]),(52,[(9,.one .str),(10,.one (.int .i64))])] h
theorem ut (a:lU){w K}(h:nA w (.cells aM ak) λb c=>nA c (.cells aM ak) λd e=>∃f,Sv ak (vA d 0) (.agg aM) e f/\uL cu #[vS a,.int .u8 46] f λg i j k=>ae (((i:Nat):Int) !=(4:Int)) (∃l,Sv ak (vA b 0) (.agg aM) k l/\∃m,Rv ak (vA b 0) l m/\K (.tuple #[m,.bool false]) l) (∃l:Nat->FP [.one (.int .i64)],(∃m,l m (0:Int) k)/\∀m n,aC 27 (∀o,l m n o->ae (decide (n<(4:Int))) ((bx n ((i:Nat):Int)/\Option.isSome g=true)/\∃p,Ld au (ao g n 1) o (vS p)/\Cf fO #[vS p] o λq r=>∃s t,q=rT #[vI s,.bool t]/\∃u:FP [],(∃v:FP [.one .bool],(ae (!t) (v true r) (v (decide (s>(255:Int))) r))/\∀x,aC 5 (∀y,v x y->ae x (∃z,Sv ak (vA b 0) (.agg aM) y z/\∃A,Rv ak (vA b 0) z A/\K (.tuple #[A,.bool false]) z) (u y)))/\aC 8 (∀v,u v->(bx (i64.wrap ((12:Int)+n)) ((16:Nat):Int)/\true)/\∃x,Sv aG (ao (vA d 0) (i64.wrap ((12:Int)+n)) 1) (.int .u8 (IntKind.u8.wrap s)) v x/\∃y:Nat,y<m/\l y (i64.wrap (n+(1:Int))) x)) (∃p,Ld ak (vA d 0) o p/\∃q,Sv ak (vA b 0) p o q/\∃r,Rv ak (vA b 0) q r/\K (.tuple #[r,.bool true]) q)))):Cf lT #[vS a] w (Ret K):=ru func112 [(18,[(6,.one (.int .i64))]),(29,[]),(30,[(33,.one .bool)])] h
theorem pC (a:lU){w K}(h:∃b:Nat->FP [.one (.int .i64)],(∃c,b c (0:Int) w)/\∀c d,aC 33 (∀e,b c d e->ae (decide (d<((List.length a:Nat):Int))) (bx d ((List.length a:Nat):Int)/\ae (decide ((aQ a d)<(97:Int))) (ae (decide ((aQ a d)<(48:Int))) (ae ((aQ a d) !=(45:Int)) (ae ((aQ a d) !=(95:Int)) (K (.bool false) e) (∃f:Nat,f<c/\b f (i64.wrap (d+(1:Int))) e)) (∃f:Nat,f<c/\b f (i64.wrap (d+(1:Int))) e)) (ae (decide ((aQ a d)>(57:Int))) (ae ((aQ a d) !=(45:Int)) (ae ((aQ a d) !=(95:Int)) (K (.bool false) e) (∃f:Nat,f<c/\b f (i64.wrap (d+(1:Int))) e)) (∃f:Nat,f<c/\b f (i64.wrap (d+(1:Int))) e)) (∃f:Nat,f<c/\b f (i64.wrap (d+(1:Int))) e))) (ae (decide ((aQ a d)>(122:Int))) (ae (decide ((aQ a d)<(48:Int))) (ae ((aQ a d) !=(45:Int)) (ae ((aQ a d) !=(95:Int)) (K (.bool false) e) (∃f:Nat,f<c/\b f (i64.wrap (d+(1:Int))) e)) (∃f:Nat,f<c/\b f (i64.wrap (d+(1:Int))) e)) (ae (decide ((aQ a d)>(57:Int))) (ae ((aQ a d) !=(45:Int)) (ae ((aQ a d) !=(95:Int)) (K (.bool false) e) (∃f:Nat,f<c/\b f (i64.wrap (d+(1:Int))) e)) (∃f:Nat,f<c/\b f (i64.wrap (d+(1:Int))) e)) (∃f:Nat,f<c/\b f (i64.wrap (d+(1:Int))) e))) (∃f:Nat,f<c/\b f (i64.wrap (d+(1:Int))) e))) (ae (decide (((List.length a:Nat):Int) >=(1:Int))) (K (.bool (decide (((List.length a:Nat):Int) <=(63:Int)))) e) (K (.bool false) e)))):Cf hZ #[vS a] w (Ret K):=ru func113 [(6,[(3,.one (.int .i64))])] h
theorem mq (a:Int){w K}(h:ae (decide (a<(10:Int))) (nA w (.cells #[.int .u8 (IntKind.u8.wrap (i64.wrap ((48:Int)+a)))] aG) λb c=>∃d,(convert aP au (.slice (vA b 0) 1 1)).run prog c=.ok (vS d) c/\K (vS d) c) (((10:Int)≠0)/\∀b,b=(i64.wrap (Int.tdiv a (10:Int)))->((10:Int)≠0)/\∀c,c=(Int.tmod a (10:Int))->(uS aY #[vI b] (World.drew w) λd e=>nA e (.cells #[.int .u8 (IntKind.u8.wrap (i64.wrap ((48:Int)+c)))] aG) λf g=>∃i,(convert aP au (.slice (vA f 0) 1 1)).run prog g=.ok (vS i) g/\(((List.length d+List.length i:Nat):Int) <=i64.max)/\∀j,j=(d++i)->K (vS j) g)/\∀d e,d=(World.drew w).heap.size->e=(World.drew w).alloc (.cells #[.int .u8 (IntKind.u8.wrap (i64.wrap ((48:Int)+c)))] aG)->(uS aY #[vI b] e λf g=>∃i,(convert aP au (.slice (vA d 0) 1 1)).run prog g=.ok (vS i) g/\(((List.length f+List.length i:Nat):Int) <=i64.max)/\∀j,j=(f++i)->K (vS j) g)/\∃f,(convert aP au (.slice (vA d 0) 1 1)).run prog e=.ok (vS f) e/\uS aY #[vI b] e λg i=>(((List.length g+List.length f:Nat):Int) <=i64.max)/\∀j,j=(g++f)->K (vS j) i)):Cf aY #[vI a] w (Ret K):=ru func145 [] h
theorem pm (a:Value)(b:Int){w K}(h:nA w (.cells (Value.cells a) ak) λc d=>(bx (i64.wrap ((2:Int)*b)) ((16:Nat):Int)/\true)/\∃e,(∀f,bW d f->Ld aG (ao (vA c 0) (i64.wrap ((2:Int)*b)) 1) f (.int .u8 e))/\(bx (i64.wrap ((i64.wrap ((2:Int)*b))+(1:Int))) ((16:Nat):Int)/\true)/\∃f,(∀g,bW d g->Ld aG (ao (vA c 0) (i64.wrap ((i64.wrap ((2:Int)*b))+(1:Int))) 1) g (.int .u8 f))/\∀g,bW d g->K (vI (i64.wrap ((i64.wrap ((i64.wrap e)*(256:Int)))+(i64.wrap f)))) g):Cf dY #[a,vI b] w (Ret K):=ru func146 [] h
theorem qC (a:Value)(b c:Int){w K}(h:nA w (.cells (Value.cells a) ak) λd e=>∃f:Nat->FP [.one .str,.one (.int .i64)],(∃g,f g [] b e)/\∀g i j,aC 16 (∀k,f g i j k->ae (decide (j<c)) (∃l:FP [.one .str],(ae (decide (j>b)) ((((List.length i+List.length [58]:Nat):Int) <=i64.max)/\∀m,m=(i++[58])->l m k) (l i k))/\∀m,aC 5 (∀n,l m n->∃o,Ld ak (vA d 0) n o/\uI dY #[o,vI j] n λp q=>uS gY #[vI p] q λr s=>(((List.length m+List.length r:Nat):Int) <=i64.max)/\∀t,t=(m++r)->∃u:Nat,u<g/\f u t (i64.wrap (j+(1:Int))) s)) (K (vS i) k))):Cf cj #[a,vI b,vI c] w (Ret K):=ru func147 [(8,[(7,.one .str),(8,.one (.int .i64))]),(17,[(7,.one .str)])] h
theorem px (a:lU){w K}(h:nA w (.cells aM ak) λb c=>nA c (.cells aM ak) λd e=>∃f,Sv ak (vA d 0) (.agg aM) e f/\uL cu #[vS a,.int .u8 58] f λg i j k=>ae (((i:Nat):Int) !=(8:Int)) (∃l,Sv ak (vA b 0) (.agg aM) k l/\∃m,Rv ak (vA b 0) l m/\K (.tuple #[m,.bool false]) l) (∃l:Nat->FP [.one (.int .i64)],(∃m,l m (0:Int) k)/\∀m n,aC 59 (∀o,l m n o->ae (decide (n<(8:Int))) (∃p:FP [],(∃q:FP [.one .bool],((bx n ((i:Nat):Int)/\Option.isSome g=true)/\∃r,Ld au (ao g n 1) o (vS r)/\ae (decide (((List.length r:Nat):Int)<(1:Int))) (q true o) ((bx n ((i:Nat):Int)/\Option.isSome g=true)/\∃s,Ld au (ao g n 1) o (vS s)/\q (decide (((List.length s:Nat):Int)>(4:Int))) o))/\∀r,aC 13 (∀s,q r s->ae r (∃t,Sv ak (vA b 0) (.agg aM) s t/\∃u,Rv ak (vA b 0) t u/\K (.tuple #[u,.bool false]) t) (p s)))/\aC 16 (∀q,p q->∃r:Nat->FP [.one (.int .i64),.one (.int .i64)],(∃s,r s (0:Int) (0:Int) q)/\∀s t u,aC 25 (∀v,r s t u v->(bx n ((i:Nat):Int)/\Option.isSome g=true)/\∃x,Ld au (ao g n 1) v (vS x)/\ae (decide (u<((List.length x:Nat):Int))) ((bx n ((i:Nat):Int)/\Option.isSome g=true)/\∃y,Ld au (ao g n 1) v (vS y)/\bx u ((List.length y:Nat):Int)/\uI gX #[.int .u8 (aQ y u)] v λz A=>ae (decide (z<(0:Int))) (∃B,Sv ak (vA b 0) (.agg aM) A B/\∃C,Rv ak (vA b 0) B C/\K (.tuple #[C,.bool false]) B) (∃B:Nat,B<s/\r B (i64.wrap ((i64.wrap (t*(16:Int)))+z)) (i64.wrap (u+(1:Int))) A)) (((256:Int)≠0)/\∀y,y=(i64.wrap (Int.tdiv t (256:Int)))->(bx (i64.wrap ((2:Int)*n)) ((16:Nat):Int)/\true)/\∃z,Sv aG (ao (vA d 0) (i64.wrap ((2:Int)*n)) 1) (.int .u8 (IntKind.u8.wrap y)) v z/\((256:Int)≠0)/\∀A,A=(Int.tmod t (256:Int))->(bx (i64.wrap ((i64.wrap ((2:Int)*n))+(1:Int))) ((16:Nat):Int)/\true)/\∃B,Sv aG (ao (vA d 0) (i64.wrap ((i64.wrap ((2:Int)*n))+(1:Int))) 1) (.int .u8 (IntKind.u8.wrap A)) z B/\∃C:Nat,C<m/\l C (i64.wrap (n+(1:Int))) B)))) (∃p,Ld ak (vA d 0) o p/\∃q,Sv ak (vA b 0) p o q/\∃r,Rv ak (vA b 0) q r/\K (.tuple #[r,.bool true]) q)))):Cf dZ #[vS a] w (Ret K):=ru func167 [(18,[(6,.one (.int .i64))]),(29,[]),(30,[(34,.one .bool)]),(41,[(7,.one (.int .i64)),(8,.one (.int .i64))])] h
theorem si (a:Int){w K}(h:ae (decide (a<(16:Int))) ((bd (i64.wrap (a+(1:Int))) (((List.length [48,49,50,51,52,53,54,55,56,57,97,98,99,100,101,102]):Nat):Int)/\0 <=a/\a <=((Int.toNat (i64.wrap (a+(1:Int))):Nat):Int))/\∀b,b=(List.drop (Int.toNat a) (List.take (Int.toNat (i64.wrap (a+(1:Int)))) [48,49,50,51,52,53,54,55,56,57,97,98,99,100,101,102]))->K (vS b) w) (((16:Int)≠0)/\∀b,b=(i64.wrap (Int.tdiv a (16:Int)))->∃c,(∀d,bW w d->Cf gY #[vI b] d λe f=>e=.returned (vS c)/\Below w.heap.size d f)/\((16:Int)≠0)/\∀d,d=(Int.tmod a (16:Int))->((16:Int)≠0)/\∀e,e=(Int.tmod a (16:Int))->(bd (i64.wrap (e+(1:Int))) (((List.length [48,49,50,51,52,53,54,55,56,57,97,98,99,100,101,102]):Nat):Int)/\0 <=d/\d <=((Int.toNat (i64.wrap (e+(1:Int))):Nat):Int))/\∀f,f=(List.drop (Int.toNat d) (List.take (Int.toNat (i64.wrap (e+(1:Int)))) [48,49,50,51,52,53,54,55,56,57,97,98,99,100,101,102]))->(((List.length c+List.length f:Nat):Int) <=i64.max)/\∀g,g=(c++f)->∀i,bW w i->K (vS g) i)):Cf gY #[vI a] w (Ret K):=ru func190 [] h
theorem pu (a:Int){w K}(h:∃b:FP [],(∃c:FP [.one .bool],(ae (decide (a >=(48:Int))) (c (decide (a <=(57:Int))) w) (c false w))/\∀d,aC 5 (∀e,c d e->ae d (K (vI (i64.wrap ((i64.wrap a)-(48:Int)))) e) (b e)))/\aC 10 (∀c,b c->∃d:FP [],(∃e:FP [.one .bool],(ae (decide (a >=(97:Int))) (e (decide (a <=(102:Int))) c) (e false c))/\∀f,aC 5 (∀g,e f g->ae f (K (vI (i64.wrap ((i64.wrap a)-(87:Int)))) g) (d g)))/\aC 10 (∀e,d e->∃f:FP [.one .bool],(ae (decide (a >=(65:Int))) (f (decide (a <=(70:Int))) e) (f false e))/\∀g,aC 5 (∀i,f g i->ae g (K (vI (i64.wrap ((i64.wrap a)-(55:Int)))) i) (K (vI (-1)) i))))):Cf gX #[.int .u8 a] w (Ret K):=ru func211 [(2,[]),(3,[(8,.one .bool)]),(10,[]),(11,[(17,.one .bool)]),(19,[(26,.one .bool)])] h
theorem pj (a:lU)(b:Int){w K}(h:nA w (.cells #[] au) λc d=>∃e:Nat->FP [.one .slice,.one (.int .i64),.one (.int .i64)],(∃f,e f (vA c 0) 0 0 (0:Int) (0:Int) d)/\∀f g i j k l,aC 20 (∀m,e f g i j k l m->ae (decide (l<((List.length a:Nat):Int))) (bx l ((List.length a:Nat):Int)/\ae ((aQ a l)==b) ((bd l (((List.length a):Nat):Int)/\0 <=k/\k <=((Int.toNat l:Nat):Int))/\∀n,n=(List.drop (Int.toNat k) (List.take (Int.toNat l) a))->nA m (.cells #[vS n] au) λo p=>∃q r s t,(Builtin.append_ #[az,az] az #[.slice g i j,.slice (vA o 0) 1 1]).run prog p=.ok (.slice r s t) q/\∃u:Nat,u<f/\e u r s t (i64.wrap (l+(1:Int))) (i64.wrap (l+(1:Int))) q) (∃n:Nat,n<f/\e n g i j k (i64.wrap (l+(1:Int))) m)) (bd k (((List.length a):Nat):Int)/\∀n,n=(List.drop (Int.toNat k) a)->nA m (.cells #[vS n] au) λo p=>∃q r s t,(Builtin.append_ #[az,az] az #[.slice g i j,.slice (vA o 0) 1 1]).run prog p=.ok (.slice r s t) q/\K (.slice r s t) q))):Cf cu #[vS a,.int .u8 b] w (Ret K):=ru func108 [(10,[(5,.one .slice),(6,.one (.int .i64)),(7,.one (.int .i64))])] h
theorem pg (a:lU){w K}(h:∃b:Nat->FP [.one .str,.one (.int .i64)],(∃c,b c [] (0:Int) w)/\∀c d e,aC 23 (∀f,b c d e f->ae (decide (e<((List.length a:Nat):Int))) (bx e ((List.length a:Nat):Int)/\∃g:FP [.one (.int .u8)],(ae (decide ((aQ a e) >=(65:Int))) (ae (decide ((aQ a e) <=(90:Int))) (g (IntKind.u8.wrap ((aQ a e)+(32:Int))) f) (g (aQ a e) f)) (g (aQ a e) f))/\∀i,aC 8 (∀j,g i j->nA j (.cells #[.int .u8 i] aG) λk l=>∃m,(convert aP au (.slice (vA k 0) 1 1)).run prog l=.ok (vS m) l/\(((List.length d+List.length m:Nat):Int) <=i64.max)/\∀n,n=(d++m)->∃o:Nat,o<c/\b o n (i64.wrap (e+(1:Int))) l)) (K (vS d) f))):Cf gU #[vS a] w (Ret K):=ru func110 [(8,[(3,.one .str),(4,.one (.int .i64))]),(19,[(5,.one (.int .u8))])] h
theorem nj (a:lU){w K}(h:∃b:Nat->FP [.one (.int .i64)],(∃c,b c (0:Int) w)/\∀c d,aC 17 (∀e,b c d e->ae (decide (d<((List.length a:Nat):Int))) (bx d ((List.length a:Nat):Int)/\ae (decide ((aQ a d)<(48:Int))) (K (.bool false) e) (bx d ((List.length a:Nat):Int)/\ae (decide ((aQ a d)>(57:Int))) (K (.bool false) e) (∃f:Nat,f<c/\b f (i64.wrap (d+(1:Int))) e))) (K (.bool (decide (((List.length a:Nat):Int)>(0:Int)))) e))):Cf dG #[vS a] w (Ret K):=ru func111 [(6,[(3,.one (.int .i64))])] h
theorem nk (a:lU){w K}(h:∃b:FP [],(uB dG #[vS a] w λc d=>ae (!c) (K (.tuple #[vI 0,.bool false]) d) (ae (decide (((List.length a:Nat):Int)>(18:Int))) (K (.tuple #[vI 0,.bool false]) d) (ae (decide (((List.length a:Nat):Int)>(1:Int))) (bx (0:Int) ((List.length a:Nat):Int)/\ae ((aQ a (0:Int))==(48:Int)) (K (.tuple #[vI 0,.bool false]) d) (b d)) (b d))))/\aC 20 (∀c,b c->∃d:Nat->FP [.one (.int .i64),.one (.int .i64)],(∃e,d e (0:Int) (0:Int) c)/\∀e f g,aC 14 (∀i,d e f g i->ae (decide (g<((List.length a:Nat):Int))) (bx g ((List.length a:Nat):Int)/\∃j:Nat,j<e/\d j (i64.wrap ((i64.wrap ((i64.wrap (f*(10:Int)))+(i64.wrap (aQ a g))))-(48:Int))) (i64.wrap (g+(1:Int))) i) (K (.tuple #[vI f,.bool true]) i)))):Cf fO #[vS a] w (Ret K):=ru func168 [(2,[]),(16,[(4,.one (.int .i64)),(5,.one (.int .i64))])] h
theorem Qa {n:Nat}{w:World}{R:List UInt8->World->Prop}{B:(List UInt8->World->Prop)->Prop}(f:List UInt8)(hB:B (λb w'=>w'=w/\b=f))(h:R f w):
   ∃J:FP [.one (.str)],B J/\∀b:List UInt8,aC n (∀wj:World,J b wj->R b wj):=by
 refine⟨λb w'=>w'=w/\b=f,hB,λb=>aC.of ?_ _⟩
 rintro wj ⟨rfl,rfl⟩;exact h
theorem Pc {n:Nat}{w:World}{c x:Bool}{R:Bool->World->Prop}(h:R (c&&x) w):∃J:FP [.one (.bool)],ae c (J x w) (J false w)/\∀b:Bool,aC n (∀wj:World,J b wj->R b wj):=
 K9 (B:=λJ=>ae c (J x w) (J false w)) (c&&x) (ae.of (λh=>⟨rfl,by rw[h];rfl⟩) (λh=>⟨rfl,by rw[h];rfl⟩)) h
theorem Ig (c:UInt8)(s cur:List UInt8)(k:Nat)(h:k<s.length):bS c cur (s.drop k)=if s[k]=c then cur::bS c [] (s.drop (k+1))else bS c (cur++[s[k]]) (s.drop (k+1)):=by
 rw[List.drop_eq_getElem_cons h];rfl
theorem sD {a b:Int}(h:0 <=a):Int.tmod a b=a%b:=Int.tmod_eq_emod_of_nonneg h
theorem sC {a b:Int}(h:0 <=a):Int.tdiv a b=a/b:=Int.tdiv_eq_ediv_of_nonneg h
theorem Ih {s:List UInt8}{k:Nat}(h:k<s.length):ue s[k]=true ↔ 48 <=aQ s (k:Int)/\aQ s (k:Int) <=57:=by
 rw[ow (i:=(k:Int)) (by simpa using h),yg]
 simp only[Int.toNat_natCast];omega
theorem qt (s:List UInt8)(hs:s.length <=9223372036854775800)(w:World):Cf gU #[vS s] w (Ret λv w'=>v=vS (ir s)/\bW w w'):=by
 apply pg
 refine⟨λm o i w'=>∃k:Nat,k <=s.length/\i=(k:Int)/\o=ir (s.take k)/\m=s.length-k/\bW w w',⟨_,0,by omega,rfl,rfl,rfl,Below.refl _ _⟩,?_⟩
 intro m o i
 refine aC.of ?_ _
 rintro w1 ⟨k,hk,rfl,rfl,rfl,hb⟩
 refine ae.of (λh=>?_) (λh=>?_) <;> simp only[dTx,dFx]at h
 · have hlt:k<s.length:=by omega
   have hlow:=FJ s[k]
   have hu:=kY s[k]
   rw[ow (i:=(k:Int)) (by simpa using hlt)]
   simp only[Int.toNat_natCast]
   refine⟨⟨by omega,h⟩,QW (w:=w1) ((Gs s[k]).toNat:Nat) ?_ ?_⟩
   · refine ae.of (λh2=>?_) (λh2=>?_) <;> simp only[ge_iff_le,dTx,dFx]at h2
     · refine ae.of (λh3=>?_) (λh3=>?_) <;> simp only[ge_iff_le,dTx,dFx]at h3
       · rw[if_pos ⟨h2,h3⟩]at hlow
         exact⟨rfl,by rw[wrap_u8 (by omega) (by omega),hlow]⟩
       · rw[if_neg (λe=>h3 e.2)]at hlow
         exact⟨rfl,hlow.symm⟩
     · rw[if_neg (λe=>h2 e.1)]at hlow
       exact⟨rfl,hlow.symm⟩
   · intro k1 w2 hk1 hw2
     have ho:Ow tU8 aG w2 NoB (some ⟨k1,0,none⟩) 1 1 [Gs s[k]]:=Ow.newF tT hk1 hw2 (iK.one (ul rfl)) (show 1 <=maxLen by decide)
     have hl:(ir (s.take k)).length=k:=by simp[ir];omega
     refine⟨_,qN bZ aA bP ho.all,by rw[hl];simp[IntKind.max,IntKind.bits];omega,?_⟩
     rintro _ rfl
     refine⟨s.length-(k+1),by omega,k+1,by omega,by rw[wrap_i64 (by omega) (by omega)];omega,?_,rfl,ab hb (hw2▸ah _ _) hb.size⟩
     unfold ir;rw[List.take_succ_eq_append_getElem hlt,List.map_append];rfl
 · have:k=s.length:=by omega
   subst this
   rw[List.take_length];exact⟨rfl,hb⟩
theorem iV (s:List UInt8)(hs:s.length <=9223372036854775807)(w:World):Cf dG #[vS s] w (Ret λv w'=>v=.bool (cC s)/\w'=w):=by
 apply nj
 refine⟨λm i w'=>∃k:Nat,k <=s.length/\i=(k:Int)/\m=s.length-k/\(s.take k).all ue=true/\w'=w,⟨_,0,by omega,rfl,rfl,rfl,rfl⟩,?_⟩
 intro m i
 refine aC.of ?_ _
 rintro w' ⟨k,hk,rfl,rfl,hall,rfl⟩
 refine ae.of (λh=>?_) (λh=>?_) <;> simp only[dTx,dFx]at h
 · have hlt:k<s.length:=by omega
   have hd:=Ih hlt
   have bad: ¬ ue s[k]=true->(.bool false:Value)=.bool (cC s)/\w'=w':=λhn=>⟨by
     congr 1
     symm
     unfold cC
     rw[Bool.and_eq_false_iff]
     right
     rw[Bool.eq_false_iff]
     intro hc
     exact hn (List.all_eq_true.1 hc _ (List.getElem_mem hlt)),rfl⟩
   refine⟨⟨by omega,h⟩,?_⟩
   refine ae.of (λh2=>?_) (λh2=>?_) <;> simp only[dTx,dFx]at h2
   · exact bad λhc=>by have:=(hd.1 hc).1;omega
   refine⟨⟨by omega,h⟩,?_⟩
   refine ae.of (λh3=>?_) (λh3=>?_) <;> simp only[gt_iff_lt,dTx,dFx]at h3
   · exact bad λhc=>by have:=(hd.1 hc).2;omega
   · refine⟨s.length-(k+1),by omega,k+1,by omega,by rw[wrap_i64 (by omega) (by omega)];omega,rfl,?_,rfl⟩
     rw[List.take_succ_eq_append_getElem hlt,List.all_append,hall]
     simp[hd.2 ⟨by omega,by omega⟩]
 · have:k=s.length:=by omega
   subst this
   rw[List.take_length]at hall
   refine⟨?_,rfl⟩
   congr 1
   unfold cC
   rw[hall,Bool.and_true]
   cases s <;> simp
theorem dM (s:List UInt8)(c:UInt8)(hs:s.length <=100000000)(w:World):
   Cf cu #[vS s,.int .u8 ((c.toNat:Nat):Int)] w (Ret λv w'=>∃a n cp,v=.slice a n cp/\Ow tS au w' NoB a n cp (bS c [] s)/\bI w.heap.size a/\bW w w'):=by
 apply pj
 intro k8 w8 hk8 hw8
 have hB:=(hw8▸ah w _:bW w w8)
 have ho8:Ow tS au w8 NoB (some ⟨k8,0,none⟩) 0 0 []:=Ow.newF (j5 _) hk8 hw8 (iK.nil _ _ _) (Nat.zero_le _)
 refine⟨λm a n cp fr i w'=>∃(k j:Nat) (done:List (List UInt8)),k <=s.length/\j <=k/\i=(k:Int)/\fr=(j:Int)/\m=s.length-k/\done.length <=k/\bS c [] s=done++bS c ((s.take k).drop j) (s.drop k)/\
     Ow tS au w' NoB a n cp done/\bI w.heap.size a/\bW w w',
   ⟨_,0,0,[],by omega,by omega,rfl,rfl,rfl,Nat.le_refl _,rfl,ho8,tU hk8,hB⟩,?_⟩
 intro m a n cp fr i
 refine aC.of ?_ _
 rintro w1 ⟨k,j,done,hk,hj,rfl,rfl,rfl,hdl,hcut,ho,hf,hb⟩
 refine ae.of (λh=>?_) (λh=>?_) <;> simp only[dTx,dFx]at h
 · have hlt:k<s.length:=by omega
   have ew:i64.wrap ((k:Int)+1)=((k+1:Nat):Int):=by rw[wrap_i64 (by omega) (by omega)];omega
   try dsimp only
   rw[ew,byte_at hlt,mu]
   rw[Ig c s _ k hlt]at hcut
   refine⟨⟨by omega,h⟩,?_⟩
   refine ae.of (λh2=>?_) (λh2=>?_)
   · rw[beq_iff_eq]at h2
     rw[if_pos h2]at hcut
     refine⟨⟨⟨by omega,by omega⟩,by omega,by omega⟩,?_⟩
     rintro _ rfl k3 w3 hk3 hw3
     simp only[Int.toNat_natCast]at hw3 ⊢
     obtain⟨w4,a4,n4,c4,hr,ho4,hf4,hb4⟩:=FW (ty:=az) (w0:=w) (cm:=1) (vs:=[_]) (j5 _) cb pJ (by decide) ho hf hb hk3 hw3 (xl trivial) (by omega)
     refine⟨w4,a4,n4,c4,hr,s.length-(k+1),by omega,k+1,k+1,_,by omega,Nat.le_refl _,rfl,rfl,rfl,?_,?_,ho4,hf4,hb4⟩
     · simp;omega
     · have hnil:(s.take (k+1)).drop (k+1)=[]:=List.drop_eq_nil_of_le (by rw[List.length_take];omega)
       rw[hcut,hnil]
       simp
   · rw[beq_eq_false_iff_ne]at h2
     rw[if_neg h2]at hcut
     refine⟨s.length-(k+1),by omega,k+1,j,done,by omega,by omega,rfl,rfl,rfl,by omega,?_,ho,hf,hb⟩
     rw[hcut,List.take_succ_eq_append_getElem hlt,List.drop_append_of_le_length (by rw[List.length_take];omega)]
 · have:k=s.length:=by omega
   subst this
   refine⟨⟨by omega,by omega⟩,?_⟩
   rintro _ rfl k3 w3 hk3 hw3
   simp only[Int.toNat_natCast]at hw3 ⊢
   obtain⟨w4,a4,n4,c4,hr,ho4,hf4,hb4⟩:=FW (ty:=az) (w0:=w) (cm:=1) (vs:=[_]) (j5 _) cb pJ (by decide) ho hf hb hk3 hw3 (xl trivial) (by omega)
   refine⟨w4,a4,n4,c4,hr,_,_,_,rfl,?_,hf4,hb4⟩
   rw[hcut]
   simpa[bS]using ho4
theorem pa (s:List UInt8)(hs:s.length <=9223372036854775000)(w:World):
   Cf fO #[vS s] w (Ret λv w'=>v=(if zD s then .tuple #[vI (wW s),.bool true]else .tuple #[vI 0,.bool false])/\w'=w):=by
 apply nk
 refine fY (λw'=>zD s/\w'=w) ?_ ?_
 · refine ax (iV s (by omega) w) ?_
   rintro _ w' ⟨rfl,hw⟩
   rw[hw]
   refine⟨_,rfl,?_⟩
   have bad: ¬ zD s->(.tuple #[vI 0,.bool false]:Value)=(if zD s then .tuple #[vI (wW s),.bool true]else .tuple #[vI 0,.bool false])/\w=w:=λhn=>⟨by rw[if_neg hn],rfl⟩
   refine ae.of (λh=>bad λhn=>by rw[hn.1]at h;cases h) (λh=>?_)
   have hd:cC s=true:=by simpa using h
   refine ae.of (λh2=>bad λhn=>by have:=hn.2.1;simp at h2;omega) (λh2=>?_)
   have hl:s.length <=18:=by simp at h2;omega
   refine ae.of (λh3=>?_) (λh3=>?_) <;> simp only[dTx,dFx]at h3
   · have hl1:1<s.length:=by omega
     refine⟨⟨by decide,by omega⟩,?_⟩
     have hb:=byte_at (s:=s) (k:=0) (by omega)
     rw[show((0:Nat):Int)=0 from rfl]at hb
     have hu:=mu s[0] 48
     rw[show(((48:UInt8).toNat:Nat):Int)=48 from rfl]at hu
     rw[hb,hu]
     have hhd:s.head?=some s[0]:=by rw[List.head?_eq_getElem?,List.getElem?_eq_getElem]
     refine ae.of (λh4=>bad λhn=>hn.2.2 ⟨?_,hl1⟩) (λh4=>⟨⟨hd,hl,λhn=>?_⟩,rfl⟩)
     · rw[beq_iff_eq]at h4;rw[hhd,h4]
     · rw[hhd]at hn
       rw[Option.some.inj hn.1]at h4;simp at h4
   · exact⟨⟨hd,hl,λhn=>h3 (by omega)⟩,rfl⟩
 · rintro w' ⟨hn,hw⟩
   rw[hw]
   have hdg:∀c∈s,ue c=true:=by
     have:=hn.1
     unfold cC at this
     rw[Bool.and_eq_true]at this
     exact λc hc=>List.all_eq_true.1 this.2 c hc
   have hl:=hn.2.1
   refine⟨λm v i w'=>∃k:Nat,k <=s.length/\i=(k:Int)/\m=s.length-k/\v=wW (s.take k)/\w'=w,⟨_,0,by omega,rfl,rfl,rfl,rfl⟩,?_⟩
   intro m v i
   refine aC.of ?_ _
   rintro w' ⟨k,hk,rfl,rfl,rfl,hw'⟩
   rw[hw']
   refine ae.of (λh=>?_) (λh=>?_) <;> simp only[dTx,dFx]at h
   · have hlt:k<s.length:=by omega
     rw[byte_at hlt]
     have hc:=hdg s[k] (List.getElem_mem hlt)
     have hu:=kY s[k]
     have hb:=qU (s.take k) 0 (by decide) (λc hc=>hdg c (List.mem_of_mem_take hc))
     have hpow:(10:Int) ^ (s.take k).length <=10 ^ 17:=by
       have:(s.take k).length <=17:=by rw[List.length_take];omega
       exact_mod_cast Nat.pow_le_pow_right (by decide:0<10) this
     have hb2:0 <=wW (s.take k)/\wW (s.take k)<10 ^ 17:=⟨hb.1,by
       have h2:=hb.2
       have:wW (s.take k)<(0+1)*10 ^ (s.take k).length:=h2
       omega⟩
     refine⟨⟨by omega,h⟩,s.length-(k+1),by omega,k+1,by omega,by rw[wrap_i64 (by omega) (by omega)];omega,rfl,?_,rfl⟩
     rw[wrap_i64 (n:=wW (s.take k)*10) (by omega) (by omega),wrap_i64 (n:=((s[k].toNat:Nat):Int)) (by omega) (by omega),wrap_i64 (n:=_+_) (by omega) (by omega),wrap_i64 (by omega) (by omega),List.take_succ_eq_append_getElem hlt]
     unfold wW
     rw[List.foldl_append]
     show _=_*10+(((s[k].toNat:Nat):Int)-48)
     omega
   · have:k=s.length:=by omega
     subst this
     rw[List.take_length,if_pos hn];exact⟨rfl,rfl⟩
theorem xi (s:List UInt8)(hs:s.length <=100000000)(w:World):Cf lT #[vS s] w (Ret λv w'=>v=adT (v4V s)/\bW w w'):=by
 apply ut
 intro k2 w2 hk2 hw2
 have hB2:=(hw2▸ah w _:bW w w2)
 have h2:am w2 k2 ak (adC ad0):=am.new hk2 hw2
 intro k5 w4 hk5 hw4
 have hb4:=(hw4▸ah w2 _:bW w2 w4)
 have hB4:=ab hB2 hb4 hB2.size
 have h54:am w4 k5 ak (adC ad0):=am.new hk5 hw4
 obtain⟨w5,hs5,h55,hg5⟩:=bh.store0 (cs:=adC ad0) rfl (cA _) h54 rfl
 refine⟨w5,hs5,?_⟩
 have hk5w:w.heap.size <=k5:=by have:=hB2.size;omega
 have hlt2:=h2.lt
 have h25:=(h2.below hb4).grown hg5 (fH (by omega))
 have hB5:=Below.put hB4 hg5 hk5w
 refine ax (dM s 46 hs w5) ?_
 rintro _ w3 ⟨a,n,c,rfl,ho,hf,hb3⟩
 have hB3:=ab hB5 hb3 hB5.size
 have h23:=h25.below hb3
 have h53:=h55.below hb3
 have hn:=ho.len
 have hlens:∀x∈bS 46 [] s,x.length <=s.length:=λx hx=>by simpa using kH 46 s [] x hx
 have none_end:∀{wx:World},v4V s=none->am wx k2 ak (adC ad0)->bW w wx->_:=fun{wx} hv h2x hBx=>bh.fin (K:=λvr wy=>(.tuple #[vr,.bool false]:Value)=adT (v4V s)/\bW w wy) (cs:=adC ad0) rfl (cA _) h2x rfl hBx (by omega) λwy hb=>⟨by rw[hv];rfl,hb⟩
 refine⟨_,_,_,rfl,ae.of (λh4=>?_) (λh4=>?_)⟩
 · refine none_end (MV λhc=>?_) h23 hB3
   rw[bne_iff_ne]at h4;omega
 have hl4:(bS 46 [] s).length=4:=by simp at h4;omega
 have hlt5:=h55.lt
 have hog:∀g,bK a=some g->g≠k5:=λg hg e=>by have:=hf g hg;omega
 obtain⟨L,hL⟩:∃L,L=bS 46 [] s:=⟨_,rfl⟩
 rw[<- hL]at ho hl4 hlens hn
 have hv4:v4V s=if L.length=4/\∀x∈L,yf x then some (List.replicate 12 0++L.map ipB)else none:=by rw[hL];rfl
 refine⟨λm i w'=>∃k:Nat,k <=4/\i=(k:Int)/\m=4-k/\(∀j (hj:j<k) (h:j<L.length),yf L[j])/\am w' k5 ak (adC (v4S L k))/\am w' k2 ak (adC ad0)/\Ow tS au w' NoB a n c L/\bW w w',
   ⟨_,0,by omega,rfl,rfl,λj hj=>by omega,h53,h23,ho,hB3⟩,?_⟩
 intro m i
 refine aC.of ?_ _
 rintro w6 ⟨k,hk,rfl,rfl,hok,h56,h26,ho6,hB6⟩
 refine ae.of (λh=>?_) (λh=>?_) <;> simp only[dTx,dFx]at h
 · have hk4:k<4:=by omega
   have hkL:k<L.length:=by omega
   refine⟨⟨⟨by omega,by omega⟩,ho6.all.isSome (by omega)⟩,_,ho6.all.text aA hkL,?_⟩
   have hlk:=hlens L[k] (List.getElem_mem hkL)
   refine ax (pa L[k] (by omega) w6) ?_
   rintro _ w7 ⟨rfl,hw7⟩
   have hb7:bW w6 w7:=hw7▸Below.refl _ _
   have hB7:=ab hB6 hb7 hB6.size
   have hnone: ¬ yf L[k]->v4V s=none:=λhx=>by
     rw[hv4,if_neg λhc=>hx (hc.2 _ (List.getElem_mem hkL))]
   refine⟨if zD L[k]then wW L[k]else 0,if zD L[k]then true else false,by split <;> rfl,?_⟩
   refine⟨λw'=>w'=w7/\yf L[k],?_,?_⟩
   · refine K9 (B:=λJ=>ae _ (J true w7) (J _ w7)) (!decide (yf L[k])) (ae.of (λh1=>⟨rfl,?_⟩) (λh1=>⟨rfl,?_⟩)) ?_
     · have: ¬ zD L[k]:=λhc=>by rw[if_pos hc]at h1;cases h1
       have h2: ¬ yf L[k]:=λhc=>this hc.1
       simp[h2]
     · have hnp:zD L[k]:=Decidable.byContradiction λhc=>by rw[if_neg hc]at h1;cases h1
       rw[if_pos hnp,Bool.eq_iff_iff]
       simp[yf,hnp]
     · refine ae.of (λh1=>none_end (hnone (by simpa using h1)) (h26.below hb7) hB7) (λh1=>⟨rfl,by simpa using h1⟩)
   · refine aC.of ?_ _
     rintro wj ⟨hwj,hip⟩
     rw[hwj];clear hwj
     have e12:i64.wrap (12+(k:Int))=((12+k:Nat):Int):=by rw[wrap_i64 (by omega) (by omega)];omega
     try dsimp only
     rw[e12,cT,if_pos hip.1,L1 hip,Nat.zero_add]
     refine⟨⟨⟨by omega,by omega⟩,rfl⟩,?_⟩
     have h57:=h56.below hb7
     obtain⟨w8,hs8,h58,hg8⟩:=h57.put (P:=prog) gh (i:=12+k) (v:=.int .u8 (((ipB L[k]).toNat:Nat):Int)) (by rw[bX,Ab hl4 (by omega)];omega) rfl rfl
     rw[qi,IW hl4 hk4]at h58
     refine⟨w8,hs8,4-(k+1),by omega,k+1,by omega,by rw[wrap_i64 (by omega) (by omega)];omega,rfl,?_,h58,(h26.below hb7).grown hg8 (fH (by omega)),(ho6.below hb7).put hog hg8,Below.put hB7 hg8 hk5w⟩
     intro j hj hjl
     by_cases e:j=k
     · subst e;exact hip
     · exact hok j (by omega) hjl
 · have:k=4:=by omega
   subst this
   have hall:∀x∈L,yf x:=λx hx=>by
     obtain⟨j,hj,rfl⟩:=List.mem_iff_getElem.1 hx
     exact hok j (by omega) hj
   have hv:v4V s=some (v4S L 4):=by rw[hv4,if_pos ⟨hl4,hall⟩,Qi hl4]
   have hlen:(adC (v4S L 4)).length=16:=by rw[bX,Ab hl4 (by omega)]
   refine⟨_,bh.load0 h56 hlen,?_⟩
   exact bh.fin (K:=λvr wy=>(.tuple #[vr,.bool true]:Value)=adT (v4V s)/\bW w wy) hlen (cA _) h26 rfl hB6 (by omega) λwy hb=>⟨by rw[hv];rfl,hb⟩
theorem tB {s:List UInt8}{p:Nat}(h:at2 s p):s=s.take p++58::58::s.drop (p+2):=by
 obtain⟨h1,h2⟩:=h
 obtain⟨l1,e1⟩:=List.getElem?_eq_some_iff.1 h1
 obtain⟨l2,e2⟩:=List.getElem?_eq_some_iff.1 h2
 conv=>lhs;rw[<- List.take_append_drop p s,List.drop_eq_getElem_cons l1,List.drop_eq_getElem_cons l2,e1,e2]
theorem qT (c:UInt8)(r:List UInt8)(h:r=[]\/∃t,r=c::t):([]:List UInt8)∈bS c [] r:=by
 rcases h with rfl|⟨t,rfl⟩
 · simp[bS]
 · show _∈(if c=c then _ else _)
   rw[if_pos rfl];simp
theorem Me {l:List (List UInt8)}(h:([]:List UInt8)∈l):l.all co=false:=by
 rw[Bool.eq_false_iff]
 intro hc
 have:=List.all_eq_true.1 hc [] h
 revert this;decide
theorem Ik {s:List UInt8}(h:e8 s=true)(i:Nat): ¬ at2 s i:=by
 intro hi
 unfold e8 at h
 rw[Bool.and_eq_true]at h
 have hm:([]:List UInt8)∈bS 58 [] s:=by
   rw[tB hi,cy]
   exact List.mem_append_right _ (qT 58 _ (.inr ⟨_,rfl⟩))
 rw[Me hm]at h
 exact absurd h.2 (by decide)
theorem late {s:List UInt8}{p q:Nat}(h:at2 s p)(hq:p<q)(hq2:at2 s q):(ce (s.take q)).all co=false:=by
 have hl:=(List.getElem?_eq_some_iff.1 hq2.1).1
 have hs:=tB h
 have hp:p<s.length:=by omega
 have hne:s.take q≠[]:=by
   intro e
   have:=congrArg List.length e
   rw[List.length_take,List.length_nil]at this
   omega
 unfold ce
 rw[if_neg hne]
 have e:s.take q=s.take p++58::(58::s.drop (p+2)).take (q-p-1):=by
   conv=>lhs;rw[hs]
   rw[List.take_append,List.length_take,Nat.min_eq_left (by omega),List.take_of_length_le (by rw[List.length_take];omega)]
   rw[show q-p=(q-p-1)+1 by omega,List.take_succ_cons];rfl
 rw[e,cy]
 refine Me (List.mem_append_right _ (qT 58 _ ?_))
 cases hk:q-p-1 with
 | zero=>exact .inl rfl
 | succ k=>exact .inr ⟨_,rfl⟩
def zsK:Nat->List UInt8
 | 0=>[48]
 | k+1=>zsK k++[58,48]
theorem HO:∀k,(zsK k).length=2*k+1
 | 0=>rfl
 | k+1=>by rw[zsK,List.length_append,HO k];simp;omega
theorem Cc:∀k,bS 58 [] (zsK k)=List.replicate (k+1) [48]
 | 0=>rfl
 | k+1=>by
   rw[zsK,cy,Cc k,List.replicate_succ' (n:=k+1)];rfl
def mK (f:List UInt8):List UInt8:=if f=[]then[]else f++[58]
def wT (b:List UInt8):List UInt8:=if b=[]then[]else 58::b
def yF (f b:List UInt8)(k:Nat):List UInt8:=mK f++zsK k++wT b
theorem Cb (f b:List UInt8)(k:Nat):bS 58 [] (yF f b k)=ce f++List.replicate (k+1) [48]++ce b:=by
 unfold yF mK wT ce
 have e:∀b:List UInt8,bS 58 [] (zsK k++if b=[]then[]else 58::b)=List.replicate (k+1) [48]++(if b=[]then[]else bS 58 [] b):=by
   intro b
   split
   · rw[List.append_nil,List.append_nil,Cc]
   · rw[cy,Cc]
 by_cases hf:f=[]
 · rw[if_pos hf,if_pos hf,List.nil_append,e,List.nil_append]
 · rw[if_neg hf,if_neg hf,List.append_assoc,List.append_assoc,List.singleton_append,cy,e,List.append_assoc]
theorem Ci (f b:List UInt8)(k:Nat):e8 (yF f b k)=true ↔ ((ce f).all co=true/\(ce b).all co=true)/\(ce f).length+(k+1)+(ce b).length=8:=by
 unfold e8
 rw[Cb]
 have h0:co [48]=true:=by decide
 have hz:(List.replicate (k+1) ([48]:List UInt8)).all co=true:=List.all_eq_true.2 λx hx=>by rw[(List.mem_replicate.1 hx).2];exact h0
 rw[List.all_append,List.all_append,hz,Bool.and_true,Bool.and_eq_true,Bool.and_eq_true,dTx,List.length_append,List.length_append,List.length_replicate]
 exact And.comm
theorem IY {f b:List UInt8}{k:Nat}(h:e8 (yF f b k)=true):(bS 58 [] (yF f b k)).map kO=v6L (ce f) (ce b):=by
 have hk:=((Ci f b k).1 h).2
 rw[Cb,List.map_append,List.map_append,List.map_replicate,show kO [48]=0 by decide]
 unfold v6L
 rw[show 8-(ce f).length-(ce b).length=k+1 by omega]
theorem Qj {s:List UInt8}(h:e8 s=true):v6V s=some ((bS 58 [] s).map kO):=by
 rcases nO s with⟨h1,h2⟩|⟨p,h1,h2,h3⟩
 · unfold v6V
   have hc:=h
   unfold e8 at hc
   rw[Bool.and_eq_true,dTx]at hc
   have hn:s≠[]:=by rintro rfl;exact absurd hc.1 (by decide)
   have hr:ce s=bS 58 [] s:=by unfold ce;rw[if_neg hn]
   have hr0:ce []=[]:=rfl
   rw[h1]
   simp only[hr,hr0]
   rw[if_pos]
   · unfold v6L
     rw[hc.1]
     simp
   · unfold Gq
     rw[hc.2]
     simp[hc.1]
 · exact absurd h2 (Ik h p)
theorem Qk {s:List UInt8}(h:e8 s=false)(hn:∀i,¬ at2 s i):v6V s=none:=by
 rcases nO s with⟨h1,h2⟩|⟨p,h1,h2,h3⟩
 · unfold v6V
   rw[h1]
   rw[if_neg]
   intro hc
   have hr0:ce []=[]:=rfl
   unfold Gq at hc
   simp only[hr0,List.all_nil,Bool.and_true,Bool.and_eq_true,List.length_nil,Nat.add_zero]at hc
   have hc2:(ce s).all co=true/\(ce s).length=8:=by simpa using hc
   unfold ce at hc2
   split at hc2
   · exact absurd hc2.2 (by decide)
   · rw[<- Bool.not_eq_true]at h
     refine h ?_
     unfold e8
     rw[hc2.1,hc2.2];rfl
 · exact absurd h2 (hn p)
theorem MW {s:List UInt8}{p:Nat}(h:at2 s p)(h2:∀j,j<p-> ¬ at2 s j):
   v6V s=if((ce (s.take p)).all co=true/\(ce (s.drop (p+2))).all co=true)/\(ce (s.take p)).length+(ce (s.drop (p+2))).length<8 then some (v6L (ce (s.take p)) (ce (s.drop (p+2))))else none:=by
 rcases nO s with⟨h1,h3⟩|⟨q,h1,h3,h4,h5⟩
 · exact absurd h (h3 p)
 · have e:q=p:=by
     rcases Nat.lt_trichotomy q p with hl|hl|hl
     · exact absurd h3 (h2 q hl)
     · exact hl
     · exact absurd h (h4 p hl)
   subst e
   unfold v6V Gq
   rw[h1]
   simp only[if_true,Bool.and_eq_true,dTx]
def e8V (s:List UInt8):Option (List UInt8):=if e8 s=true then some (lE ((bS 58 [] s).map kO))else none
theorem qy (c:UInt8)(w:World):Cf gX #[.int .u8 ((c.toNat:Nat):Int)] w (Ret λv w'=>v=vI (if oX c=true then(ua c:Int)else -1)/\w'=w):=by
 apply pu
 have hu:=kY c
 have h16:oX c=decide (ua c<16):=rfl
 refine vt (w:=w) (¬ (48 <=c.toNat/\c.toNat <=57)) (Pc (ae.of (λh=>?_) (λh=>⟨rfl,by simp at h;omega⟩))) (λh1=>?_)
 · have:48 <=c.toNat/\c.toNat <=57:=by simp at h;omega
   have e:ua c=c.toNat-48:=by unfold ua;rw[if_pos this]
   rw[h16,e,if_pos (by simp;omega),wrap_i64 (n:=((c.toNat:Nat):Int)) (by omega) (by omega),wrap_i64 (by omega) (by omega)]
   exact⟨by congr 1;omega,rfl⟩
 refine vt (w:=w) (¬ (97 <=c.toNat/\c.toNat <=102)) (Pc (ae.of (λh=>?_) (λh=>⟨rfl,by simp at h;omega⟩))) (λh2=>?_)
 · have:97 <=c.toNat/\c.toNat <=102:=by simp at h;omega
   have e:ua c=c.toNat-87:=by unfold ua;rw[if_neg h1,if_pos this]
   rw[h16,e,if_pos (by simp;omega),wrap_i64 (n:=((c.toNat:Nat):Int)) (by omega) (by omega),wrap_i64 (by omega) (by omega)]
   exact⟨by congr 1;omega,rfl⟩
 refine Pc (ae.of (λh=>?_) (λh=>?_))
 · have:65 <=c.toNat/\c.toNat <=70:=by simp at h;omega
   have e:ua c=c.toNat-55:=by unfold ua;rw[if_neg h1,if_neg h2,if_pos this]
   rw[h16,e,if_pos (by simp;omega),wrap_i64 (n:=((c.toNat:Nat):Int)) (by omega) (by omega),wrap_i64 (by omega) (by omega)]
   exact⟨by congr 1;omega,rfl⟩
 · have: ¬ (65 <=c.toNat/\c.toNat <=70):=by simp at h;omega
   have e:ua c=16:=by unfold ua;rw[if_neg h1,if_neg h2,if_neg this]
   rw[h16,e,if_neg (by decide)]
   exact⟨rfl,rfl⟩
theorem jK (s:List UInt8)(hs:s.length <=100000000)(w:World):Cf dZ #[vS s] w (Ret λv w'=>v=adT (e8V s)/\bW w w'):=by
 apply px
 intro k2 w2 hk2 hw2
 have hB2:=(hw2▸ah w _:bW w w2)
 have h2:am w2 k2 ak (adC ad0):=am.new hk2 hw2
 intro k5 w4 hk5 hw4
 have hb4:=(hw4▸ah w2 _:bW w2 w4)
 have hB4:=ab hB2 hb4 hB2.size
 have h54:am w4 k5 ak (adC ad0):=am.new hk5 hw4
 obtain⟨w5,hs5,h55,hg5⟩:=bh.store0 (cs:=adC ad0) rfl (cA _) h54 rfl
 refine⟨w5,hs5,?_⟩
 have hk5w:w.heap.size <=k5:=by have:=hB2.size;omega
 have hlt2:=h2.lt
 have h25:=(h2.below hb4).grown hg5 (fH (by omega))
 have hB5:=Below.put hB4 hg5 hk5w
 refine ax (dM s 58 hs w5) ?_
 rintro _ w3 ⟨a,n,c,rfl,ho,hf,hb3⟩
 have hB3:=ab hB5 hb3 hB5.size
 have h23:=h25.below hb3
 have h53:=h55.below hb3
 have hn:=ho.len
 have hlens:∀x∈bS 58 [] s,x.length <=s.length:=λx hx=>by simpa using kH 58 s [] x hx
 have none_end:∀{wx:World},e8 s=false->am wx k2 ak (adC ad0)->bW w wx->_:=fun{wx} hv h2x hBx=>bh.fin (K:=λvr wy=>(.tuple #[vr,.bool false]:Value)=adT (e8V s)/\bW w wy) (cs:=adC ad0) rfl (cA _) h2x rfl hBx (by omega) λwy hb=>⟨by unfold e8V;rw[hv];rfl,hb⟩
 refine⟨_,_,_,rfl,ae.of (λh4=>?_) (λh4=>?_)⟩
 · refine none_end ?_ h23 hB3
   rw[bne_iff_ne]at h4
   unfold e8
   rw[decide_eq_false (by omega),Bool.false_and]
 have hl8:(bS 58 [] s).length=8:=by simp at h4;omega
 have hlt5:=h55.lt
 have hog:∀g,bK a=some g->g≠k5:=λg hg e=>by have:=hf g hg;omega
 have he8:e8 s=(bS 58 [] s).all co:=by unfold e8;rw[decide_eq_true hl8,Bool.true_and]
 have he8V:e8 s=true->e8V s=some (lE ((bS 58 [] s).map kO)):=λh=>if_pos h
 obtain⟨L,hL⟩:∃L,L=bS 58 [] s:=⟨_,rfl⟩
 rw[<- hL]at ho hl8 hlens hn he8 he8V
 have hbad:∀{x},x∈L->co x=false->e8 s=false:=fun{x} hx hg=>by
   rw[he8,Bool.eq_false_iff]
   intro hc
   rw[List.all_eq_true.1 hc x hx]at hg;cases hg
 have hG:(L.map kO).length=8:=by simp[hl8]
 refine⟨λm i w'=>∃k:Nat,k <=8/\i=(k:Int)/\m=8-k/\(∀j (hj:j<k) (h:j<L.length),co L[j]=true)/\am w' k5 ak (adC (Iq (L.map kO) k))/\am w' k2 ak (adC ad0)/\Ow tS au w' NoB a n c L/\bW w w',
   ⟨_,0,by omega,rfl,rfl,λj hj=>by omega,h53,h23,ho,hB3⟩,?_⟩
 intro m i
 refine aC.of ?_ _
 rintro w6 ⟨k,hk,rfl,rfl,hok,h56,h26,ho6,hB6⟩
 refine ae.of (λh=>?_) (λh=>?_) <;> simp only[dTx,dFx]at h
 · have hk8:k<8:=by omega
   have hkL:k<L.length:=by omega
   have hld:=ho6.all.text (P:=prog) aA hkL
   have hlk:=hlens L[k] (List.getElem_mem hkL)
   have hin:(0 <=(k:Int)/\(k:Int)<((n:Nat):Int))/\Option.isSome a=true:=⟨⟨by omega,by omega⟩,ho6.all.isSome (by omega)⟩
   have hmem:L[k]∈L:=List.getElem_mem hkL
   refine vt (w:=w6) (1 <=L[k].length/\L[k].length <=4) ?_ (λhl4=>?_)
   · refine⟨λb w'=>w'=w6/\b=(!(decide (1 <=L[k].length)&&decide (L[k].length <=4))),⟨hin,_,hld,ae.of (λh1=>⟨rfl,?_⟩) (λh1=>⟨hin,_,hld,rfl,?_⟩)⟩,?_⟩
     · have: ¬ 1 <=L[k].length:=by simp at h1;omega
       simp[this]
     · have:1 <=L[k].length:=by simp at h1;omega
       rw[decide_eq_true this,Bool.true_and,Bool.eq_iff_iff];simp;omega
     · intro b
       refine aC.of ?_ _
       rintro wj ⟨hwj,hb⟩
       rw[hwj,hb];clear hwj hb
       refine ae.of (λh1=>none_end (hbad hmem ?_) h26 hB6) (λh1=>⟨rfl,by simpa using h1⟩)
       unfold co
       have h1':(decide (1 <=L[k].length)&&decide (L[k].length <=4))=false:=by simpa only[Bool.not_eq_true']using h1
       rw[h1',Bool.false_and]
   · refine⟨λm v i w'=>w'=w6/\∃j:Nat,j <=L[k].length/\i=(j:Int)/\m=L[k].length-j/\v=((kO (L[k].take j):Nat):Int)/\∀q (hq:q<j) (h:q<L[k].length),oX (L[k][q])=true,
       ⟨_,rfl,0,by omega,rfl,rfl,rfl,λq hq=>by omega⟩,?_⟩
     intro m v i
     refine aC.of ?_ _
     rintro wj ⟨hwj,j,hj,rfl,rfl,rfl,hx⟩
     rw[hwj];clear hwj
     refine⟨hin,_,hld,?_⟩
     have hgl:=xd hx (by omega)
     refine ae.of (λh5=>?_) (λh5=>?_) <;> simp only[dTx,dFx]at h5
     · have hjl:j<L[k].length:=by omega
       refine⟨hin,_,hld,⟨by omega,h5⟩,?_⟩
       rw[byte_at hjl]
       refine ax (qy (L[k][j]) w6) ?_
       rintro _ w7 ⟨rfl,hw7⟩
       rw[hw7]
       refine⟨_,rfl,?_⟩
       by_cases hh:oX (L[k][j])=true
       · rw[if_pos hh]
         have h16:ua (L[k][j])<16:=by simpa[oX]using hh
         refine ae.no (by simp) ⟨L[k].length-(j+1),by omega,rfl,j+1,by omega,by rw[wrap_i64 (by omega) (by omega)];omega,rfl,?_,λq hq hql=>?_⟩
         · rw[wrap_i64 (n:=_*_) (by omega) (by omega),wrap_i64 (by omega) (by omega),Fx _ hjl];omega
         · by_cases e:q=j
           · subst e;exact hh
           · exact hx q (by omega) hql
       · rw[if_neg hh]
         refine ae.yes (by decide) (none_end (hbad hmem ?_) h26 hB6)
         unfold co
         have:(L[k]).all oX=false:=by
           rw[Bool.eq_false_iff]
           intro hc
           exact hh (List.all_eq_true.1 hc _ (List.getElem_mem hjl))
         rw[this,Bool.and_false]
     · have:j=L[k].length:=by omega
       subst this
       rw[List.take_length]at hgl ⊢
       have hg:co L[k]=true:=by
         unfold co
         rw[decide_eq_true hl4.1,decide_eq_true hl4.2,Bool.true_and,Bool.true_and]
         exact List.all_eq_true.2 λc hc=>by
           obtain⟨q,hq,rfl⟩:=List.mem_iff_getElem.1 hc
           exact hx q hq hq
       have hGk:(L.map kO)[k]'(by omega)=kO L[k]:=by simp
       refine⟨by decide,?_⟩
       rintro _ rfl
       have e1:i64.wrap (2*(k:Int))=((2*k:Nat):Int):=by rw[wrap_i64 (by omega) (by omega)];omega
       have e2:i64.wrap (((2*k:Nat):Int)+1)=((2*k+1:Nat):Int):=by rw[wrap_i64 (by omega) (by omega)];omega
       have e3:IntKind.u8.wrap (i64.wrap (Int.tdiv ((kO L[k]:Nat):Int) 256))=(((UInt8.ofNat (kO L[k]/256)).toNat:Nat):Int):=by
         rw[sC (by omega),wrap_i64 (by omega) (by omega),wrap_u8 (by omega) (by omega),Av (by omega)];omega
       have e4:IntKind.u8.wrap (Int.tmod ((kO L[k]:Nat):Int) 256)=(((UInt8.ofNat (kO L[k]%256)).toNat:Nat):Int):=by
         rw[sD (by omega),wrap_u8 (by omega) (by omega),Av (by omega)];omega
       rw[e1,e2,cT,cT,e3]
       simp only[Nat.zero_add]
       have hlen:=vf hG hk
       obtain⟨w8,hs8,h58,hg8⟩:=h56.put (P:=prog) gh (i:=2*k) (v:=.int .u8 (((UInt8.ofNat (kO L[k]/256)).toNat:Nat):Int)) (by rw[bX,hlen];omega) rfl rfl
       rw[qi]at h58
       refine⟨⟨⟨by omega,by omega⟩,trivial⟩,w8,hs8,by decide,?_⟩
       rintro _ rfl
       rw[e4]
       obtain⟨w9,hs9,h59,hg9⟩:=h58.put (P:=prog) gh (i:=2*k+1) (v:=.int .u8 (((UInt8.ofNat (kO L[k]%256)).toNat:Nat):Int)) (by rw[bX,List.length_set,hlen];omega) rfl rfl
       rw[qi,<- hGk,Fw hG hk8]at h59
       refine⟨⟨⟨by omega,by omega⟩,trivial⟩,w9,hs9,8-(k+1),by omega,k+1,by omega,by rw[wrap_i64 (by omega) (by omega)];omega,rfl,?_,h59,(h26.grown hg8 (fH (by omega))).grown hg9 (fH (by omega)),(ho6.put hog hg8).put hog hg9,Below.put (Below.put hB6 hg8 hk5w) hg9 hk5w⟩
       intro q hq hql
       by_cases e:q=k
       · subst e;exact hg
       · exact hok q (by omega) hql
 · have:k=8:=by omega
   subst this
   have hv:e8 s=true:=by
     rw[he8]
     exact List.all_eq_true.2 λx hx=>by
       obtain⟨j,hj,rfl⟩:=List.mem_iff_getElem.1 hx
       exact hok j (by omega) hj
   have hlen:(adC (Iq (L.map kO) 8)).length=16:=by rw[bX,vf hG (by omega)]
   refine⟨_,bh.load0 h56 hlen,?_⟩
   exact bh.fin (K:=λvr wy=>(.tuple #[vr,.bool true]:Value)=adT (e8V s)/\bW w wy) hlen (cA _) h26 rfl hB6 (by omega) λwy hb=>⟨by rw[he8V hv,<- LF hG];rfl,hb⟩
theorem Fl (s:List UInt8):Qz (e8V s):=λa h=>by
 unfold e8V at h
 split at h
 · rename_i h8
   unfold e8 at h8
   rw[Bool.and_eq_true,dTx]at h8
   rw[<- Option.some.inj h,q9,List.length_map,h8.1]
 · cases h
theorem xj (s:List UInt8)(hs:s.length <=99999000)(w:World):Cf lV #[vS s] w (Ret λv w'=>v=adT (v6A s)/\bW w w'):=by
 apply uu
 intro k2 w2 hk2 hw2
 have hB2:=(hw2▸ah w _:bW w w2)
 have h2:am w2 k2 ak (adC ad0):=am.new hk2 hw2
 refine ax (jK s (by omega) w2) ?_
 rintro _ w3 ⟨rfl,hb3⟩
 have hB3:=ab hB2 hb3 hB2.size
 have h23:=h2.below hb3
 refine⟨_,_,by rw[vL],?_⟩
 refine bh.new (zs:=adC ad0) (cs:=adC ((e8V s).getD ad0)) rfl (pT (Fl s)) (cA _) w3 λk4 w4 hk4 h44 hb4=>?_
 have hB4:=ab hB3 hb4 hB3.size
 have h24:=h23.below hb4
 have kr:∀{x:List UInt8} {wx:World},v6A s=some x->am wx k2 ak (adC ad0)->bW w wx->_:=fun{x wx} hv h2x hBx=>bh.fin (K:=λvr wy=>(.tuple #[vr,.bool true]:Value)=adT (v6A s)/\bW w wy) (cs:=adC x) (by rw[bX];exact IX s _ hv) (cA _) h2x rfl hBx (by omega) λwy hb=>⟨by rw[hv];rfl,hb⟩
 refine ae.of (λh=>?_) (λh=>?_)
 · have h8:e8 s=true:=by
     unfold e8V at h
     split at h
     · assumption
     · cases h
   refine⟨_,bh.load0 h44 (pT (Fl s)),?_⟩
   have he:e8V s=some (lE ((bS 58 [] s).map kO)):=if_pos h8
   rw[he]
   exact kr (x:=lE ((bS 58 [] s).map kO)) (by unfold v6A;rw[Qj h8];rfl) h24 hB4
 have h8:e8 s=false:=by
   unfold e8V at h
   split at h
   · cases h
   · rename_i hne;simpa using hne
 refine⟨λm i w'=>∃k:Nat,k <=s.length/\i=(k:Int)/\m=s.length-k/\
     (∀j,j<k->at2 s j->(∀i,i<j-> ¬ at2 s i)-> ¬ (((ce (s.take j)).all co=true/\(ce (s.drop (j+2))).all co=true)/\(ce (s.take j)).length+(ce (s.drop (j+2))).length<8))/\
     am w' k2 ak (adC ad0)/\bW w w',⟨_,0,by omega,rfl,rfl,λj hj=>by omega,h24,hB4⟩,?_⟩
 intro m i
 refine aC.of ?_ _
 rintro w5 ⟨k,hk,rfl,rfl,hno,h25,hB5⟩
 have e2:i64.wrap ((k:Int)+2)=((k+2:Nat):Int):=by rw[wrap_i64 (by omega) (by omega)];omega
 have e1:i64.wrap ((k:Int)+1)=((k+1:Nat):Int):=by rw[wrap_i64 (by omega) (by omega)];omega
 rw[e2,e1]
 refine ae.of (λh=>?_) (λh=>?_) <;> simp only[dTx,dFx]at h
 · have hk2':k+2 <=s.length:=by omega
   have hk0:k<s.length:=by omega
   have hk1:k+1<s.length:=by omega
   have hstep:∀{wx:World},(at2 s k->(∀i,i<k-> ¬ at2 s i)-> ¬ (((ce (s.take k)).all co=true/\(ce (s.drop (k+2))).all co=true)/\(ce (s.take k)).length+(ce (s.drop (k+2))).length<8))->
       am wx k2 ak (adC ad0)->bW w wx->∃m':Nat,m'<s.length-k/\∃k':Nat,k' <=s.length/\((k+1:Nat):Int)=(k':Int)/\m'=s.length-k'/\
     (∀j,j<k'->at2 s j->(∀i,i<j-> ¬ at2 s i)-> ¬ (((ce (s.take j)).all co=true/\(ce (s.drop (j+2))).all co=true)/\(ce (s.take j)).length+(ce (s.drop (j+2))).length<8))/\
     am wx k2 ak (adC ad0)/\bW w wx:=fun{wx} hc h2x hBx=>⟨s.length-(k+1),by omega,k+1,by omega,rfl,rfl,λj hj=>by
       by_cases e:j=k
       · subst e;exact hc
       · exact hno j (by omega),h2x,hBx⟩
   have u0:=mu s[k] 58
   have u1:=mu s[k+1] 58
   rw[show(((58:UInt8).toNat:Nat):Int)=58 from rfl]at u0 u1
   refine vt (w:=w5) (at2 s k) ⟨⟨by omega,by omega⟩,?_⟩ (λhat=>?_)
   · rw[byte_at hk0,bne,u0]
     refine ae.of (λhx=>hstep (λhat=>?_) h25 hB5) (λhx=>⟨⟨by omega,by omega⟩,?_⟩)
     · have:=hat.1
       rw[List.getElem?_eq_getElem hk0]at this
       rw[Option.some.inj this]at hx;simp at hx
     · rw[byte_at hk1,bne,u1]
       refine ae.of (λhy=>hstep (λhat=>?_) h25 hB5) (λhy=>⟨rfl,?_⟩)
       · have:=hat.2
         rw[List.getElem?_eq_getElem hk1]at this
         rw[Option.some.inj this]at hy;simp at hy
       · exact⟨by rw[List.getElem?_eq_getElem hk0];simp at hx;rw[hx],by rw[List.getElem?_eq_getElem hk1];simp at hy;rw[hy]⟩
   · refine⟨⟨by omega,by omega⟩,?_⟩
     intro s40 e40
     refine⟨⟨by omega,by omega⟩,?_⟩
     intro s44 e44
     simp only[Int.toNat_natCast]at e40 e44
     have l40:s40.length <=s.length:=by rw[e40,List.length_take];omega
     have l44:s44.length <=s.length:=by rw[e44,List.length_drop];omega
     have l4:s40.length+s44.length+2=s.length:=by rw[e40,e44,List.length_take,List.length_drop];omega
     refine Qa (B:=λJ=>ae _ (_/\∀s48,s48=(s40++[58])->J s48 w5) (J s40 w5)) (mK s40) (ae.of (λhx=>⟨fits (by simp;omega),?_⟩) (λhx=>⟨rfl,?_⟩)) ?_
     · rintro _ rfl
       exact⟨rfl,by unfold mK;rw[if_neg (by simpa using hx)]⟩
     · unfold mK;rw[if_pos (by simpa using hx)];simpa using hx
     refine Qa (B:=λJ=>ae _ (_/\∀s48,s48=([58]++s44)->J s48 w5) (J s44 w5)) (wT s44) (ae.of (λhx=>⟨fits (by simp;omega),?_⟩) (λhx=>⟨rfl,?_⟩)) ?_
     · rintro _ rfl
       exact⟨rfl,by unfold wT;rw[if_neg (by simpa using hx)];rfl⟩
     · unfold wT;rw[if_pos (by simpa using hx)];simpa using hx
     have lf:(mK s40).length <=s40.length+1:=by unfold mK;split <;> simp
     have lb:(wT s44).length <=s44.length+1:=by unfold wT;split <;> simp
     refine⟨λm z i w'=>∃q:Nat,q <=8/\i=(q:Int)/\m=8-q/\z=zsK q/\(∀j,j<q->e8 (yF s40 s44 j)=false)/\am w' k2 ak (adC ad0)/\bW w w',⟨_,0,by omega,rfl,rfl,rfl,λj hj=>by omega,h25,hB5⟩,?_⟩
     intro m z i
     refine aC.of ?_ _
     rintro w6 ⟨q,hq,rfl,rfl,rfl,hq8,h26,hB6⟩
     have hzl:=HO q
     refine ae.of (λh5=>?_) (λh5=>?_) <;> simp only[dTx,dFx]at h5
     · refine⟨fits (by omega),?_⟩
       intro s60 e60
       have l60:s60.length=(mK s40).length+(zsK q).length:=by rw[e60,List.length_append]
       refine⟨fits (by omega),?_⟩
       intro s62 e62
       have f62:s62=yF s40 s44 q:=by rw[e62,e60];rfl
       have l62:s62.length <=100000000:=by rw[e62,List.length_append];omega
       refine ax (jK s62 l62 w6) ?_
       rintro _ w7 ⟨rfl,hb7⟩
       have hB7:=ab hB6 hb7 hB6.size
       rw[f62]
       refine⟨_,_,by rw[vL],?_⟩
       refine bh.new (zs:=adC ad0) (cs:=adC ((e8V (yF s40 s44 q)).getD ad0)) rfl (pT (Fl _)) (cA _) w7 λk11 w8 hk11 h118 hb8=>?_
       have hB8:=ab hB7 hb8 hB7.size
       have h28:=(h26.below hb7).below hb8
       by_cases ht:e8 (yF s40 s44 q)=true
       · have he:e8V (yF s40 s44 q)=some (lE ((bS 58 [] (yF s40 s44 q)).map kO)):=if_pos ht
         have hl:=pT (Fl (yF s40 s44 q))
         rw[he]at h118 hl ⊢
         refine ae.yes rfl ⟨_,bh.load0 h118 hl,?_⟩
         refine kr (x:=lE ((bS 58 [] (yF s40 s44 q)).map kO)) ?_ h28 hB8
         have ht2:=(Ci s40 s44 q).1 ht
         rw[IY ht]
         have hfirst:∀j,j<k-> ¬ at2 s j:=λj hj hc=>by
           have:=late hc hj hat
           rw[<- e40,ht2.1.1]at this;cases this
         unfold v6A
         rw[MW hat hfirst,<- e40,<- e44,if_pos ⟨ht2.1,by omega⟩];rfl
       · have he:e8V (yF s40 s44 q)=none:=if_neg ht
         rw[he]at h118 ⊢
         refine ae.no rfl ⟨fits (by simp;omega),?_⟩
         rintro _ rfl
         refine⟨8-(q+1),by omega,q+1,by omega,by rw[wrap_i64 (by omega) (by omega)];omega,rfl,rfl,λj hj=>?_,h28,hB8⟩
         by_cases e:j=q
         · subst e;simpa using ht
         · exact hq8 j (by omega)
     · have:q=8:=by omega
       subst this
       refine hstep (λ_ hfirst hc=>?_) h26 hB6
       rw[<- e40,<- e44]at hc
       have:=(Ci s40 s44 (7-(ce s40).length-(ce s44).length)).2 ⟨hc.1,by omega⟩
       rw[hq8 _ (by omega)]at this;cases this
 · have hv:v6A s=none:=by
     unfold v6A
     rcases nO s with⟨h1,h2⟩|⟨p,h1,h2,h3,h4⟩
     · rw[Qk h8 h2];rfl
     · rw[MW h2 h3,if_neg (hno p (by omega) h2 h3)];rfl
   exact bh.fin (K:=λvr wy=>(.tuple #[vr,.bool false]:Value)=adT (v6A s)/\bW w wy) (cs:=adC ad0) rfl (cA _) h25 rfl hB5 (by omega) λwy hb=>⟨by rw[hv];rfl,hb⟩
theorem Fk {n:Nat}(h:n<10):DF n=[UInt8.ofNat (48+n)]:=Lib.decDigits_one h
theorem Cd {n:Nat}(h: ¬ n<10):DF n=DF (n/10)++[UInt8.ofNat (48+n%10)]:=by
 show Lib.decDigits n=_
 rw[Lib.decDigits,dif_neg h]
theorem jh {w w8:World}{k8:Nat}{d:Nat}(hd:d<10){x:Int}(hx:x=(d:Int))(hk:k8=w.heap.size)(hw:w8=w.alloc (.cells #[.int .u8 (IntKind.u8.wrap (i64.wrap ((48:Int)+x)))] aG)):
   ∀u,bW w8 u->(convert aP au (.slice (some ⟨k8,0,none⟩) 1 1)).run prog u=.ok (vS [UInt8.ofNat (48+d)]) u:=by
 intro u hu
 have e:IntKind.u8.wrap (i64.wrap ((48:Int)+x))=(((UInt8.ofNat (48+d)).toNat:Nat):Int):=by
   rw[hx,wrap_i64 (by omega) (by omega),wrap_u8 (by omega) (by omega),Av (by omega)];omega
 rw[e]at hw
 have ho:Ow tU8 aG w8 NoB (some ⟨k8,0,none⟩) 1 1 [UInt8.ofNat (48+d)]:=Ow.newF tT hk hw (iK.one (ul rfl)) (show 1 <=maxLen by decide)
 exact qN bZ aA bP (ho.below hu).all
theorem cJ:∀(n:Nat) (h:n <=9223372036854775807) (w:World),Cf aY #[vI (n:Int)] w (Ret λv w'=>v=vS (DF n)/\bW w w')
 | n,hn,w=>by
   apply mq
   refine ae.of (λh=>?_) (λh=>?_) <;> simp only[dTx,dFx]at h
   · intro k8 w8 hk8 hw8
     refine⟨_,jh (d:=n) (by omega) rfl hk8 hw8 w8 (Below.refl _ _),?_⟩
     rw[Fk (by omega)]
     exact⟨rfl,hw8▸ah _ _⟩
   · have hlt:n/10<n:=by omega
     refine⟨by decide,?_⟩
     rintro _ rfl
     refine⟨by decide,?_⟩
     rintro _ rfl
     have e1:i64.wrap (Int.tdiv (n:Int) 10)=((n/10:Nat):Int):=by rw[sC (by omega),wrap_i64 (by omega) (by omega)];omega
     have e2:Int.tmod (n:Int) 10=((n%10:Nat):Int):=by rw[sD (by omega)];omega
     rw[e1,e2,Cd (by omega)]
     have hd:bW w (World.drew w):=ve rfl rfl rfl (Nat.le_refl _) (λ_ _=>rfl)
     have hl:=j4 (n:=n/10) (by omega)
     refine⟨?_,?_⟩
     · refine ax (cJ (n/10) (by omega) (World.drew w)) ?_
       rintro _ w1 ⟨rfl,hb1⟩
       refine⟨_,rfl,?_⟩
       intro k8 w8 hk8 hw8
       refine⟨_,jh (d:=n%10) (by omega) rfl hk8 hw8 w8 (Below.refl _ _),fits (by simp;omega),?_⟩
       rintro _ rfl
       have hB1:=ab hd hb1 hd.size
       exact⟨rfl,ab hB1 (hw8▸ah _ _) hB1.size⟩
     · intro k8 w8 hk8 hw8
       have hb8:Below (World.drew w).heap.size (World.drew w) w8:=hw8▸ah _ _
       have hB8:=ab hd hb8 hd.size
       refine⟨?_,_,jh (d:=n%10) (by omega) rfl hk8 hw8 w8 (Below.refl _ _),?_⟩
       · refine ax (cJ (n/10) (by omega) w8) ?_
         rintro _ w1 ⟨rfl,hb1⟩
         refine⟨_,rfl,_,jh (d:=n%10) (by omega) rfl hk8 hw8 w1 hb1,fits (by simp;omega),?_⟩
         rintro _ rfl
         exact⟨rfl,ab hB8 hb1 hB8.size⟩
       · refine ax (cJ (n/10) (by omega) w8) ?_
         rintro _ w1 ⟨rfl,hb1⟩
         refine⟨_,rfl,fits (by simp;omega),?_⟩
         rintro _ rfl
         exact⟨rfl,ab hB8 hb1 hB8.size⟩
 termination_by n=>n
theorem qu (a:List UInt8)(ha:a.length=16)(w:World):Cf gV #[adV a] w (Ret λv w'=>v=vS (As a)/\bW w w'):=by
 apply po
 intro k1 w1 hk1 hw1
 have hB1:=(hw1▸ah w _:bW w w1)
 have h1:am w1 k1 ak (adC a):=am.new hk1 hw1
 have ld:∀(i:Nat) (hi:i<a.length) (u:World),bW w1 u->(Instr.loadAt aG (.pointer (ao (some ⟨k1,0,none⟩) (i:Int) 1))).run prog u=.ok (.int .u8 ((a[i].toNat:Nat):Int)) u:=λi hi u hu=>by
   rw[cT,Nat.zero_add]
   exact(h1.below hu).load1 bP rfl (tw hi)
 have dc:∀(c:UInt8) (u:World),bW w1 u->Cf aY #[vI (i64.wrap ((c.toNat:Nat):Int))] u λe w'=>e=.returned (vS (DF c.toNat))/\Below w1.heap.size u w':=λc u hu=>by
   have:=kY c
   rw[wrap_i64 (by omega) (by omega)]
   exact iU (cJ c.toNat (by omega) u) hu
 have l12:=j4 (n:=a[12].toNat) (by have:=kY a[12];omega)
 have l13:=j4 (n:=a[13].toNat) (by have:=kY a[13];omega)
 have l14:=j4 (n:=a[14].toNat) (by have:=kY a[14];omega)
 have l15:=j4 (n:=a[15].toNat) (by have:=kY a[15];omega)
 refine⟨⟨⟨by decide,by decide⟩,rfl⟩,_,ld 12 (by omega),_,dc _,fits (by simp;omega),?_⟩
 rintro _ rfl
 refine⟨⟨⟨by decide,by decide⟩,rfl⟩,_,ld 13 (by omega),_,dc _,fits (by simp;omega),?_⟩
 rintro _ rfl
 refine⟨fits (by simp;omega),?_⟩
 rintro _ rfl
 refine⟨⟨⟨by decide,by decide⟩,rfl⟩,_,ld 14 (by omega),_,dc _,fits (by simp;omega),?_⟩
 rintro _ rfl
 refine⟨fits (by simp;omega),?_⟩
 rintro _ rfl
 refine⟨⟨⟨by decide,by decide⟩,rfl⟩,_,ld 15 (by omega),_,dc _,fits (by simp;omega),?_⟩
 rintro _ rfl
 intro wq hwq
 rw[xC ha]
 exact⟨by simp only[List.append_assoc],ab hB1 hwq hB1.size⟩
theorem tZ:∀d:Nat,d<16->(([48,49,50,51,52,53,54,55,56,57,97,98,99,100,101,102]:List UInt8).take (d+1)).drop d=[LK d]:=by decide
theorem mO:∀(n:Nat) (h:n<65536) (w:World),Cf gY #[vI (n:Int)] w (Ret λv w'=>v=vS (zu n)/\bW w w')
 | n,hn,w=>by
   apply si
   refine ae.of (λh=>?_) (λh=>?_) <;> simp only[dTx,dFx]at h
   · have e:i64.wrap ((n:Int)+1)=((n+1:Nat):Int):=by rw[wrap_i64 (by omega) (by omega)];omega
     try dsimp only
     rw[e]
     refine⟨⟨⟨by omega,by simp;omega⟩,by omega,by omega⟩,?_⟩
     rintro _ rfl
     simp only[Int.toNat_natCast]
     rw[tZ n (by omega),yb (by omega)]
     exact⟨rfl,Below.refl _ _⟩
   · have hlt:n/16<n:=by omega
     have e1:i64.wrap (Int.tdiv (n:Int) 16)=((n/16:Nat):Int):=by rw[sC (by omega),wrap_i64 (by omega) (by omega)];omega
     have e2:Int.tmod (n:Int) 16=((n%16:Nat):Int):=by rw[sD (by omega)];omega
     refine⟨by decide,?_⟩
     rintro _ rfl
     rw[e1,e2]
     have hl:=vg (n:=n/16) (by omega)
     refine⟨_,λu hu=>iU (mO (n/16) (by omega) u) hu,by decide,?_⟩
     rintro _ rfl
     refine⟨by decide,?_⟩
     rintro _ rfl
     have e:i64.wrap (((n%16:Nat):Int)+1)=((n%16+1:Nat):Int):=by rw[wrap_i64 (by omega) (by omega)];omega
     try dsimp only
     rw[e]
     refine⟨⟨⟨by omega,by simp;omega⟩,by omega,by omega⟩,?_⟩
     rintro _ rfl
     simp only[Int.toNat_natCast]
     rw[tZ (n%16) (by omega)]
     refine⟨fits (by simp;omega),?_⟩
     rintro _ rfl
     intro wq hwq
     rw[oU (n:=n) (by omega)]
     exact⟨rfl,hwq⟩
 termination_by n=>n
theorem tA (zs:List Bool)(p l:Nat):HQ zs p (l+1)=(HQ zs p l&&zs.getD (p+l) false):=by
 unfold HQ;rw[List.range_succ,List.all_append];simp
theorem I2 (a:List UInt8){k:Nat}(h:k<8):(zsA a).getD k false=(vu a k==0):=by
 unfold zsA
 rw[List.getD_eq_getElem?_getD,List.getElem?_map,List.getElem?_eq_getElem (by rw[tV];exact h),Er];rfl
theorem uf (sep:List UInt8)(r:List (List UInt8))(y:List UInt8):Lib.joinTail sep (r++[y])=Lib.joinTail sep r++(sep++y):=by simp[Lib.joinTail]
theorem Gm (l:List Nat)(x:Nat):wrL (l++[x])=if l=[]then zu x else wrL l++[58]++zu x:=by
 unfold wrL
 cases l with
 | nil=>simp[Lib.join_one]
 | cons y r=>
   rw[if_neg (by simp),List.map_append,List.map_cons,List.cons_append,List.map_cons,List.map_nil,Lib.join_cons,Lib.join_cons,uf]
   simp
theorem jJ (a:List UInt8)(ha:a.length=16)(k:Nat)(hk:k<8)(w:World):Cf dY #[adV a,vI (k:Int)] w (Ret λv w'=>v=vI ((vu a k:Nat):Int)/\bW w w'):=by
 apply pm
 intro k1 w1 hk1 hw1
 have hB1:=(hw1▸ah w _:bW w w1)
 have h1:am w1 k1 ak (adC a):=am.new hk1 hw1
 have e1:i64.wrap (2*(k:Int))=((2*k:Nat):Int):=by rw[wrap_i64 (by omega) (by omega)];omega
 have e2:i64.wrap (((2*k:Nat):Int)+1)=((2*k+1:Nat):Int):=by rw[wrap_i64 (by omega) (by omega)];omega
 rw[e1,e2,cT,cT,Nat.zero_add,Nat.zero_add]
 refine⟨⟨⟨by omega,by omega⟩,rfl⟩,_,λu hu=>(h1.below hu).load1 bP rfl (tw (a:=a) (i:=2*k) (by omega)),⟨⟨by omega,by omega⟩,rfl⟩,_,λu hu=>(h1.below hu).load1 bP rfl (tw (a:=a) (i:=2*k+1) (by omega)),λwq hwq=>⟨?_,ab hB1 hwq hB1.size⟩⟩
 have u1:=kY (a[2*k]'(by omega))
 have u2:=kY (a[2*k+1]'(by omega))
 have hval:(a[2*k]'(by omega)).toNat*256+(a[2*k+1]'(by omega)).toNat=vu a k:=by
   unfold vu
   rw[List.getD_eq_getElem?_getD,List.getD_eq_getElem?_getD,List.getElem?_eq_getElem (by omega),List.getElem?_eq_getElem (by omega)];rfl
 rw[<- hval,wrap_i64 (n:=(((a[2*k]'(by omega)).toNat:Nat):Int)) (by omega) (by omega),wrap_i64 (n:=(((a[2*k+1]'(by omega)).toNat:Nat):Int)) (by omega) (by omega),wrap_i64 (n:=_*_) (by omega) (by omega),wrap_i64 (by omega) (by omega)]
 congr 1
theorem iq (a:List UInt8)(ha:a.length=16)(p q:Nat)(hpq:p <=q)(hq:q <=8)(w:World):Cf cj #[adV a,vI (p:Int),vI (q:Int)] w
   (Ret λv w'=>v=vS (wrL (((gL a).drop p).take (q-p)))/\bW w w'):=by
 apply qC
 intro k1 w1 hk1 hw1
 have hB1:=(hw1▸ah w _:bW w w1)
 have h1:am w1 k1 ak (adC a):=am.new hk1 hw1
 have hgl:=tV a
 have hbx:∀j,∀x∈((gL a).drop p).take j,x<65536:=λj x hx=>AJ a x (List.mem_of_mem_drop (List.mem_of_mem_take hx))
 refine⟨λm s i w'=>∃j:Nat,j <=q-p/\i=((p+j:Nat):Int)/\m=q-p-j/\s=wrL (((gL a).drop p).take j)/\bW w1 w',⟨_,0,by omega,rfl,rfl,rfl,Below.refl _ _⟩,?_⟩
 intro m s i
 refine aC.of ?_ _
 rintro w2 ⟨j,hj,rfl,rfl,rfl,hB2⟩
 have hl:=nw (hbx j)
 rw[List.length_take,List.length_drop]at hl
 refine ae.of (λh=>?_) (λh=>?_) <;> simp only[dTx,dFx]at h
 · have hlt:p+j<q:=by omega
   refine Qa (B:=λJ=>ae _ (_/\∀s19,s19=(_++[58])->J s19 w2) (J _ w2)) (if j=0 then[]else wrL (((gL a).drop p).take j)++[58]) (ae.of (λhx=>⟨fits (by simp;omega),?_⟩) (λhx=>⟨rfl,?_⟩)) ?_
   · rintro _ rfl
     simp only[gt_iff_lt,dTx]at hx
     exact⟨rfl,by rw[if_neg (by omega)]⟩
   · simp only[gt_iff_lt,dFx]at hx
     have:j=0:=by omega
     subst this
     rw[if_pos rfl];rfl
   · refine⟨_,bh.load0 (h1.below hB2) (by rw[bX,ha]),?_⟩
     refine ax (jJ a ha (p+j) (by omega) w2) ?_
     rintro _ w3 ⟨rfl,hb3⟩
     have hB3:=ab hB2 hb3 hB2.size
     refine⟨_,rfl,?_⟩
     refine ax (mO (vu a (p+j)) (Cv _ _) w3) ?_
     rintro _ w4 ⟨rfl,hb4⟩
     have hB4:=ab hB3 hb4 hB3.size
     have hl4:=vg (Cv a (p+j))
     refine⟨_,rfl,fits (by split <;> simp <;> omega),?_⟩
     rintro _ rfl
     refine⟨q-p-(j+1),by omega,j+1,by omega,by rw[wrap_i64 (by omega) (by omega)];omega,rfl,?_,hB4⟩
     have hjd:j<((gL a).drop p).length:=by rw[List.length_drop];omega
     rw[List.take_succ_eq_append_getElem hjd,Gm,List.getElem_drop,Er]
     by_cases hj0:j=0
     · subst hj0;rfl
     · rw[if_neg hj0,if_neg]
       intro e
       have:=congrArg List.length e
       rw[List.length_take]at this;simp at this;omega
 · have:j=q-p:=by omega
   subst this
   exact⟨rfl,ab hB1 hB2 hB1.size⟩
theorem qw (a:List UInt8)(ha:a.length=16)(w:World):Cf gW #[adV a] w (Ret λv w'=>v=vS (yD a)/\bW w w'):=by
 apply pq
 intro k1 w1 hk1 hw1
 have hB1:=(hw1▸ah w _:bW w w1)
 have h1:am w1 k1 ak (adC a):=am.new hk1 hw1
 have ha16:(adC a).length=16:=by rw[bX,ha]
 have hgl:=tV a
 obtain⟨z1,z2,z3⟩:=Ag (I3 a)
 have ht:yD a=if(cr (zsA a)).2<2 then wrL (gL a)else wrL ((gL a).take (cr (zsA a)).1)++[58,58]++wrL ((gL a).drop ((cr (zsA a)).1+(cr (zsA a)).2)):=rfl
 refine⟨λm i w'=>∃L:Nat,1 <=L/\L <=8/\i=(L:Int)/\m=L/\(∀L' A,L<L'->A+L' <=8->HQ (zsA a) A L'=false)/\bW w1 w',⟨_,8,by omega,by omega,rfl,rfl,λL' A h1 h2=>by omega,Below.refl _ _⟩,?_⟩
 intro m i
 refine aC.of ?_ _
 rintro w2 ⟨L,hL1,hL8,rfl,hm,hlong,hB2⟩
 obtain rfl:L=m:=hm.symm
 refine ae.of (λh=>?_) (λh=>?_) <;> simp only[ge_iff_le,dTx,dFx]at h
 · have hL2:2 <=L:=by omega
   refine⟨λm i w'=>∃A:Nat,A+L <=9/\i=(A:Int)/\m=9-A/\(∀A',A'<A->HQ (zsA a) A' L=false)/\bW w1 w',⟨_,0,by omega,rfl,rfl,λA' h=>by omega,hB2⟩,?_⟩
   intro m i
   refine aC.of ?_ _
   rintro w3 ⟨A,hA,rfl,rfl,hearly,hB3⟩
   have eAL:i64.wrap ((A:Int)+(L:Int))=((A+L:Nat):Int):=by rw[wrap_i64 (by omega) (by omega)];omega
   try dsimp only
   rw[eAL]
   refine ae.of (λh2=>?_) (λh2=>?_) <;> simp only[dTx,dFx]at h2
   · have hAL:A+L <=8:=by omega
     refine⟨λm b i w'=>∃j:Nat,j <=L/\i=((A+j:Nat):Int)/\m=L-j/\b=HQ (zsA a) A j/\bW w1 w',⟨_,0,by omega,rfl,rfl,rfl,hB3⟩,?_⟩
     intro m b i
     refine aC.of ?_ _
     rintro w4 ⟨j,hj,rfl,rfl,rfl,hB4⟩
     have ew:i64.wrap (((A+j:Nat):Int)+1)=((A+(j+1):Nat):Int):=by rw[wrap_i64 (by omega) (by omega)];omega
     try dsimp only
     rw[ew]
     refine ae.of (λh3=>?_) (λh3=>?_) <;> simp only[dTx,dFx]at h3
     · have hjL:j<L:=by omega
       refine ae.of (λh4=>?_) (λh4=>?_)
       · refine⟨_,bh.load0 (h1.below hB4) ha16,?_⟩
         refine ax (jJ a ha (A+j) (by omega) w4) ?_
         rintro _ w5 ⟨rfl,hb5⟩
         refine⟨_,rfl,L-(j+1),by omega,j+1,by omega,rfl,rfl,?_,ab hB4 hb5 hB4.size⟩
         rw[tA,h4,Bool.true_and,I2 a (by omega),Bool.eq_iff_iff]
         simp
       · exact⟨L-(j+1),by omega,j+1,by omega,rfl,rfl,by rw[tA,h4,Bool.false_and],hB4⟩
     · have:j=L:=by omega
       subst this
       refine ae.of (λh4=>?_) (λh4=>?_)
       · have hu:=z3 j A hL2 hAL h4
         have hAz:j=(cr (zsA a)).2/\A=(cr (zsA a)).1:=by
           rcases hu with hu|⟨hu1,hu2⟩
           · exfalso
             have:=z2 (by omega)
             rw[hlong _ _ hu z1]at this;cases this
           · refine⟨hu1,?_⟩
             rcases Nat.lt_or_ge (cr (zsA a)).1 A with hc|hc
             · exfalso
               have:=z2 (by omega)
               rw[<- hu1,hearly _ hc]at this;cases this
             · omega
         have l1:=nw (l:=(gL a).take A) λx hx=>AJ a x (List.mem_of_mem_take hx)
         have l2:=nw (l:=(gL a).drop (A+j)) λx hx=>AJ a x (List.mem_of_mem_drop hx)
         rw[List.length_take]at l1
         rw[List.length_drop]at l2
         have hp1:∀u,bW w4 u->Cf cj #[adV a,vI 0,vI (A:Int)] u λe w'=>e=.returned (vS (wrL ((gL a).take A)))/\Below w4.heap.size u w':=λu hu=>by
           have:=iq a ha 0 A (by omega) (by omega) u
           rw[List.drop_zero,Nat.sub_zero]at this
           exact iU this hu
         have hp2:∀u,bW w4 u->Cf cj #[adV a,vI ((A+j:Nat):Int),vI 8] u λe w'=>e=.returned (vS (wrL ((gL a).drop (A+j))))/\Below w4.heap.size u w':=λu hu=>by
           have:=iq a ha (A+j) 8 (by omega) (by omega) u
           rw[List.take_of_length_le (by rw[List.length_drop];omega)]at this
           exact iU this hu
         refine⟨_,λu hu=>bh.load0 ((h1.below hB4).below hu) ha16,_,hp1,fits (by simp;omega),?_⟩
         rintro _ rfl
         refine⟨_,λu hu=>bh.load0 ((h1.below hB4).below hu) ha16,_,hp2,fits (by simp;omega),?_⟩
         rintro _ rfl
         intro wq hwq
         have hq:=ab hB4 hwq hB4.size
         refine⟨?_,ab hB1 hq hB1.size⟩
         rw[ht,if_neg (by omega),<- hAz.1,<- hAz.2]
       · refine⟨9-(A+1),by omega,A+1,by omega,by rw[wrap_i64 (by omega) (by omega)];omega,rfl,λA' hA'=>?_,hB4⟩
         by_cases e:A'=A
         · subst e;exact h4
         · exact hearly A' (by omega)
   · refine⟨L-1,by omega,L-1,by omega,by omega,by rw[wrap_i64 (by omega) (by omega)];omega,rfl,λL' A' hl ha'=>?_,hB3⟩
     by_cases e:L'=L
     · subst e;exact hearly A' (by omega)
     · exact hlong L' A' (by omega) ha'
 · refine⟨_,bh.load0 (h1.below hB2) ha16,?_⟩
   have:=iq a ha 0 8 (by omega) (by omega) w2
   rw[List.drop_zero,List.take_of_length_le (by omega)]at this
   refine ax this ?_
   rintro _ w5 ⟨rfl,hb5⟩
   have hq:=ab hB2 hb5 hB2.size
   refine⟨_,rfl,?_,ab hB1 hq hB1.size⟩
   rw[ht,if_pos]
   refine Decidable.byContradiction λhc=>?_
   have:=z2 (by omega)
   rw[hlong _ _ (by omega) z1]at this;cases this
theorem Mz {P:Program}{t:TypeId}{x y:Operand}{xs ys:Array Value}{b:Bool}(hm:P.eqGuardType P.depth t=false)(h:eqV P 10000 t (.agg xs) (.agg ys)=some b)(w:World):
   ((do eqGuard .neq t x y (.agg xs) (.agg ys);binOp .neq t (.agg xs) (.agg ys):Sem Value)).run P w=.ok (.bool (!b)) w:=by
 rw[Sem.run_bind,run_eqGuard_agg w .neq t x y xs ys hm,Result.andThen_ok,run_neq_struct,Jg _ _ _ _ _ w h,Result.andThen_ok]
theorem LP {h g:Hst}(o:h.ok)(p:g.ok){x y:Operand}(w:World):((do eqGuard .neq ai x y h.v g.v;binOp .neq ai h.v g.v:Sem Value)).run prog w=.ok (.bool (!lG h g)) w:=
 Mz Cw (Il o p) w
theorem qA (s:List UInt8)(hs:s.length <=9223372036854775800)(w:World):Cf hZ #[vS s] w (Ret λv w'=>v=.bool (bs s)/\w'=w):=by
 apply pC
 refine⟨λm i w'=>∃k:Nat,k <=s.length/\i=(k:Int)/\m=s.length-k/\(s.take k).all im=true/\w'=w,⟨_,0,by omega,rfl,rfl,rfl,rfl⟩,?_⟩
 intro m i
 refine aC.of ?_ _
 rintro w' ⟨k,hk,rfl,rfl,hno,hw'⟩
 rw[hw'];clear hw'
 refine ae.of (λh=>?_) (λh=>?_) <;> simp only[dTx,dFx]at h
 · have hlt:k<s.length:=by omega
   rw[byte_at hlt]
   have e45:=mu s[k] 45
   have e95:=mu s[k] 95
   rw[show(((45:UInt8).toNat:Nat):Int)=45 from rfl]at e45
   rw[show(((95:UInt8).toNat:Nat):Int)=95 from rfl]at e95
   simp only[bne,e45,e95]
   have kr:im s[k]=true->∃m':Nat,m'<s.length-k/\∃k2:Nat,k2 <=s.length/\i64.wrap ((k:Int)+1)=(k2:Int)/\m'=s.length-k2/\(s.take k2).all im=true/\True:=λhc=>
     ⟨s.length-(k+1),by omega,k+1,by omega,by rw[wrap_i64 (by omega) (by omega)];omega,rfl,by rw[List.take_succ_eq_append_getElem hlt,List.all_append,hno];simp[hc],trivial⟩
   have bad:im s[k]=false->(.bool false:Value)=.bool (bs s)/\True:=λhc=>⟨by
     have:s.all im=false:=by
       rw[Bool.eq_false_iff]
       intro hx
       rw[List.all_eq_true.1 hx _ (List.getElem_mem hlt)]at hc;cases hc
     unfold bs;rw[this,Bool.and_false],trivial⟩
   refine⟨⟨by omega,h⟩,?_⟩
   generalize s[k]=c at*
   have tail: ¬ (97 <=c.toNat/\c.toNat <=122)-> ¬ (48 <=c.toNat/\c.toNat <=57)->ae (!(c==45)) (ae (!(c==95)) ((.bool false:Value)=.bool (bs s)/\True) (∃m':Nat,m'<s.length-k/\∃k2:Nat,k2 <=s.length/\i64.wrap ((k:Int)+1)=(k2:Int)/\m'=s.length-k2/\(s.take k2).all im=true/\True)) (∃m':Nat,m'<s.length-k/\∃k2:Nat,k2 <=s.length/\i64.wrap ((k:Int)+1)=(k2:Int)/\m'=s.length-k2/\(s.take k2).all im=true/\True):=λn1 n2=>by
     have d1:(decide (97 <=c.toNat)&&decide (c.toNat <=122))=false:=by rw[Bool.eq_false_iff];intro hc;simp at hc;exact n1 hc
     have d2:(decide (48 <=c.toNat)&&decide (c.toNat <=57))=false:=by rw[Bool.eq_false_iff];intro hc;simp at hc;exact n2 hc
     have hc:im c=(c==45 || c==95):=by unfold im;rw[d1,d2];simp
     rw[hc]at kr bad
     refine ae.of (λh4=>ae.of (λh5=>bad ?_) (λh5=>kr ?_)) (λh4=>kr ?_)
     · rw[Bool.not_eq_true']at h4 h5;rw[h4,h5];rfl
     · rw[Bool.not_eq_false']at h5;rw[h5];simp
     · rw[Bool.not_eq_false']at h4;rw[h4];simp
   refine ae.of (λh2=>?_) (λh2=>?_) <;> simp only[dTx,dFx]at h2
   · refine ae.of (λh3=>tail (by omega) ?_) (λh3=>?_) <;> simp only[gt_iff_lt,dTx,dFx]at h3
     · omega
     · refine ae.of (λh4=>tail (by omega) ?_) (λh4=>kr ?_) <;> simp only[gt_iff_lt,dTx,dFx]at h4
       · omega
       · unfold im;rw[decide_eq_true (p:=48 <=c.toNat) (by omega),decide_eq_true (p:=c.toNat <=57) (by omega)];simp
   · refine ae.of (λh3=>?_) (λh3=>kr ?_) <;> simp only[gt_iff_lt,dTx,dFx]at h3
     · refine ae.no (by simp;omega) (ae.yes (by simp;omega) (tail (by omega) (by omega)))
     · unfold im;rw[decide_eq_true (p:=97 <=c.toNat) (by omega),decide_eq_true (p:=c.toNat <=122) (by omega)];simp
 · have:k=s.length:=by omega
   subst this
   rw[List.take_length]at hno
   unfold bs
   rw[hno,Bool.and_true]
   refine ae.of (λh2=>⟨?_,rfl⟩) (λh2=>⟨?_,rfl⟩) <;> simp only[ge_iff_le,dTx,dFx]at h2
   · rw[decide_eq_true (p:=1 <=s.length) (by omega),Bool.true_and];congr 1;rw[Bool.eq_iff_iff];simp;omega
   · rw[decide_eq_false (p:=1 <=s.length) (by omega),Bool.false_and]
theorem qz (s:List UInt8)(hs:s.length <=90000000)(w:World):Cf gZ #[vS s] w (Ret (nL s w)):=by
 apply py
 intro k2 w2 hk2 hw2
 have hB2:=(hw2▸ah w _:bW w w2)
 have h2:am w2 k2 ai jf.cells:=am.new hk2 hw2
 have hk2w:w.heap.size <=k2:=by omega
 have fin:∀{wx:World} (o:Option Hst),(∀x,o=some x->x.ok)->cQ s=o->am wx k2 ai jf.cells->bW w wx->
     ∃wy,(Instr.storeAt ai (.pointer (some ⟨k2,0,none⟩)) (o.getD jf).v).run prog wx=.ok () wy/\∃vr:Value,(aR ai (.pointer (some ⟨k2,0,none⟩))).run prog wy=.ok vr wy/\nL s w (.tuple #[vr,vI (if o.isSome then 0 else 31)]) wy:=fun{wx} o ho hv h2x hBx=>
   aJ.fin (K:=λvr wy=>nL s w (.tuple #[vr,vI (if o.isSome then 0 else 31)]) wy) (cs:=(o.getD jf).cells) (Hst.len (zy ho)) (Hst.one _) h2x rfl hBx hk2w λwy hb=>⟨by rw[hv,nV];rfl,hb⟩
 have bad:=fun{wx:World} (hv:cQ s=none) (h2x:am wx k2 ai jf.cells) (hBx:bW w wx)=>fin none (λx hx=>by cases hx) hv h2x hBx
 refine vt (w:=w2) (¬ s.head?=some 91) ?_ (λh91=>?_)
 · refine⟨λb w'=>w'=w2/\b=decide (s.head?=some 91),ae.of (λh=>⟨⟨by decide,by simpa using h⟩,rfl,?_⟩) (λh=>⟨rfl,?_⟩),λb=>aC.of ?_ _⟩
   · have hl:0<s.length:=by simpa using h
     have hb:=byte_at (s:=s) (k:=0) hl
     rw[show((0:Nat):Int)=0 from rfl]at hb
     have hu:=mu s[0] 91
     rw[show(((91:UInt8).toNat:Nat):Int)=91 from rfl]at hu
     rw[hb,hu,List.head?_eq_getElem?,List.getElem?_eq_getElem hl,Bool.eq_iff_iff]
     simp
   · have hl:s=[]:=by
       simp only[gt_iff_lt,dFx]at h
       exact List.length_eq_zero_iff.1 (by omega)
     subst hl;rfl
   · rintro wj ⟨hwj,hb⟩
     rw[hwj,hb];clear hwj hb
     refine ae.of (λh=>?_) (λh=>⟨rfl,of_decide_eq_false h⟩)
     have h91:s.head?=some 91:=of_decide_eq_true h
     have hne:s≠[]:=by rintro rfl;cases h91
     have hl:0<s.length:=List.length_pos_iff.2 hne
     have hv:cQ s=if s.getLast?=some 93 then(v6A ((s.drop 1).take (s.length-2))).map λa=>⟨3,[],a⟩ else none:=by unfold cQ;rw[if_pos h91]
     have ei:i64.wrap (((s.length:Nat):Int)-1)=((s.length-1:Nat):Int):=by rw[wrap_i64 (by omega) (by omega)];omega
     try dsimp only
     rw[ei,byte_at (show s.length-1<s.length by omega)]
     have hgl:s.getLast?=some (s[s.length-1]'(by omega)):=by rw[List.getLast?_eq_getElem?,List.getElem?_eq_getElem (by omega)]
     have hu:=mu (s[s.length-1]'(by omega)) 93
     rw[show(((93:UInt8).toNat:Nat):Int)=93 from rfl]at hu
     refine⟨⟨by omega,by omega⟩,?_⟩
     simp only[bne,hu]
     refine ae.of (λhc=>bad ?_ h2 hB2) (λhc=>?_)
     · rw[hv,if_neg]
       rw[hgl]
       intro e
       rw[Option.some.inj e]at hc;simp at hc
     · have hlast:s.getLast?=some 93:=by rw[hgl];simpa using hc
       have hl2:2 <=s.length:=by
         refine Decidable.byContradiction λhc2=>?_
         have e1:s.length=1:=by omega
         obtain⟨x,rfl⟩:=List.length_eq_one_iff.1 e1
         rw[Option.some.inj (show some x=some 91 from h91)]at hlast
         cases hlast
       rw[if_pos hlast]at hv
       simp only[Int.toNat_natCast]
       refine⟨⟨⟨by omega,by omega⟩,by decide,by omega⟩,?_⟩
       intro s32 e32
       have e33:s32=(s.drop 1).take (s.length-2):=by
         rw[e32,show(Int.toNat 1)=1 from rfl,List.drop_take,show s.length-1-1=s.length-2 by omega]
       rw[<- e33]at hv
       have l32:s32.length <=s.length:=by rw[e33];simp;omega
       refine ax (xj s32 (by omega) w2) ?_
       rintro _ w4 ⟨rfl,hb4⟩
       have hB4:=ab hB2 hb4 hB2.size
       refine⟨_,_,by rw[vL],?_⟩
       have hal:=pT (IX s32)
       refine bh.new (zs:=adC ad0) (cs:=adC ((v6A s32).getD ad0)) rfl hal (cA _) w4 λk8 w8 hk8 h8 hb8=>?_
       have hB8:=ab hB4 hb8 hB4.size
       have h28:=(h2.below hb4).below hb8
       cases ho:v6A s32 with
       | none=>
         exact ae.yes rfl (bad (by rw[hv,ho];rfl) h28 hB8)
       | some x=>
         rw[ho]at h8 hal
         refine ae.no rfl ⟨_,bh.load0 h8 hal,_,qR 3 (by rw[<- bX];exact hal) w8,?_⟩
         exact fin (some ⟨3,[],x⟩) (λy hy=>by cases hy;show x.length=16;rw[<- bX];exact hal) (by rw[hv,ho];rfl) h28 hB8
 · have hv:cQ s=if cC (th (bS 46 [] (ir s)))=true then(v4V s).map λa=>⟨2,[],a⟩ else if s.length <=253/\(bS 46 [] (ir s)).all bs=true then some ⟨1,ir s,ad0⟩ else none:=by unfold cQ;rw[if_neg h91]
   refine ax (qt s (by omega) w2) ?_
   rintro _ w3 ⟨rfl,hb3⟩
   have hB3:=ab hB2 hb3 hB2.size
   refine⟨_,rfl,?_⟩
   have ll:(ir s).length=s.length:=by simp[ir]
   refine ax (dM (ir s) 46 (by omega) w3) ?_
   rintro _ w4 ⟨a,n,c,rfl,ho,hf,hb4⟩
   have hB4:=ab hB3 hb4 hB3.size
   have h24:=(h2.below hb3).below hb4
   have hn:=ho.len
   subst hn
   have hlens:∀x∈bS 46 [] (ir s),x.length <=s.length:=λx hx=>by have:=kH 46 (ir s) [] x hx;simp[ll]at this;omega
   have hcn:=kn 46 (ir s) []
   have hnz:0<(bS 46 [] (ir s)).length:=List.length_pos_iff.2 (mW 46 (ir s) [])
   refine⟨_,_,_,rfl,?_⟩
   generalize bS 46 [] (ir s)=L at*
   have ei:i64.wrap (((L.length:Nat):Int)-1)=((L.length-1:Nat):Int):=by rw[wrap_i64 (by omega) (by omega)];omega
   try dsimp only
   rw[ei]
   refine⟨⟨⟨by omega,by omega⟩,ho.all.isSome hnz⟩,_,ho.all.text aA (by omega),?_⟩
   rw[<- rc hnz]
   have hll:(th L).length <=s.length:=by rw[rc hnz];exact hlens _ (List.getElem_mem _)
   refine ax (iV (th L) (by omega) w4) ?_
   rintro _ w5 ⟨rfl,hw5⟩
   rw[hw5];clear hw5
   refine⟨_,rfl,ae.of (λhd=>?_) (λhd=>?_)⟩
   · rw[if_pos hd]at hv
     refine ax (xi s (by omega) w4) ?_
     rintro _ w6 ⟨rfl,hb6⟩
     have hB6:=ab hB4 hb6 hB4.size
     refine⟨_,_,by rw[vL],?_⟩
     have hal:=pT (N7 s)
     refine bh.new (zs:=adC ad0) (cs:=adC ((v4V s).getD ad0)) rfl hal (cA _) w6 λk8 w8 hk8 h8 hb8=>?_
     have hB8:=ab hB6 hb8 hB6.size
     have h28:=(h24.below hb6).below hb8
     cases ho:v4V s with
     | none=>
       rw[ho]at hv
       exact ae.yes rfl (bad hv h28 hB8)
     | some x=>
       rw[ho]at hv h8 hal
       refine ae.no rfl ⟨_,bh.load0 h8 hal,_,qR 2 (by rw[<- bX];exact hal) w8,?_⟩
       exact fin (some ⟨2,[],x⟩) (λy hy=>by cases hy;show x.length=16;rw[<- bX];exact hal) hv h28 hB8
   · rw[if_neg (by rw[hd];decide)]at hv
     have hbad: ¬ (s.length <=253/\L.all bs=true)->cQ s=none:=λh=>by rw[hv,if_neg h]
     refine⟨λm i w'=>∃k:Nat,k <=L.length/\i=(k:Int)/\m=L.length-k/\(L.take k).all bs=true/\w'=w4,⟨_,0,by omega,rfl,rfl,rfl,rfl⟩,?_⟩
     intro m i
     refine aC.of ?_ _
     rintro w5 ⟨k,hk,rfl,rfl,hno,hw5⟩
     rw[hw5];clear hw5
     refine ae.of (λh=>?_) (λh=>?_) <;> simp only[dTx,dFx]at h
     · have hlt:k<L.length:=by omega
       refine⟨⟨⟨by omega,h⟩,ho.all.isSome (by omega)⟩,_,ho.all.text aA hlt,?_⟩
       refine ax (qA L[k] (by have:=hlens _ (List.getElem_mem hlt);omega) w4) ?_
       rintro _ w6 ⟨rfl,hw6⟩
       rw[hw6];clear hw6
       refine⟨_,rfl,ae.of (λh3=>bad (hbad λhc=>?_) h24 hB4) (λh3=>?_)⟩
       · rw[List.all_eq_true.1 hc.2 _ (List.getElem_mem hlt)]at h3;cases h3
       · refine⟨L.length-(k+1),by omega,k+1,by omega,by rw[wrap_i64 (by omega) (by omega)];omega,rfl,?_,rfl⟩
         rw[List.take_succ_eq_append_getElem hlt,List.all_append,hno]
         simpa using h3
     · have:k=L.length:=by omega
       subst this
       rw[List.take_length]at hno
       refine ae.of (λh3=>bad (hbad λhc=>?_) h24 hB4) (λh3=>?_) <;> simp only[gt_iff_lt,dTx,dFx]at h3
       · have:=hc.1;omega
       · exact fin (some ⟨1,ir s,ad0⟩) (λx hx=>by cases hx;rfl) (by rw[hv,if_pos ⟨by omega,hno⟩]) h24 hB4
theorem kT {h:Hst}(o:h.ok)(w:World):Cf fD #[h.v] w (Ret λv w'=>v=vS (dj h)/\bW w w'):=by
 apply qD
 intro k1 w1 hk1 hw1
 have hB1:=(hw1▸ah w _:bW w w1)
 have h1:am w1 k1 ai h.cells:=am.new hk1 hw1
 refine⟨rfl,_,h1.load1 aB rfl rfl,?_⟩
 unfold dj
 refine ae.of (λc1=>?_) (λc1=>?_) <;> simp only[beq_iff_eq,beq_eq_false_iff_ne,ne_eq]at c1
 · rw[if_pos c1]
   exact⟨rfl,_,h1.load1 aA rfl rfl,rfl,hB1⟩
 rw[if_neg c1]
 refine⟨rfl,_,h1.load1 aB rfl rfl,?_⟩
 refine ae.of (λc2=>?_) (λc2=>?_) <;> simp only[beq_iff_eq,beq_eq_false_iff_ne,ne_eq]at c2
 · rw[if_pos c2]
   refine⟨rfl,_,Et o h1,?_⟩
   refine ax (qu h.ad o w1) ?_
   rintro _ w2 ⟨rfl,hb2⟩
   exact⟨_,rfl,rfl,ab hB1 hb2 hB1.size⟩
 rw[if_neg c2]
 refine⟨rfl,_,h1.load1 aB rfl rfl,?_⟩
 refine ae.of (λc3=>?_) (λc3=>?_) <;> simp only[beq_iff_eq,beq_eq_false_iff_ne,ne_eq]at c3
 · rw[if_pos c3]
   refine⟨rfl,_,Et o h1,?_⟩
   refine ax (qw h.ad o w1) ?_
   rintro _ w2 ⟨rfl,hb2⟩
   have h6:=yE h.ad
   refine⟨_,rfl,fits (by simp;omega),?_⟩
   rintro _ rfl
   refine⟨fits (by simp;omega),?_⟩
   rintro _ rfl
   exact⟨rfl,ab hB1 hb2 hB1.size⟩
 · rw[if_neg c3]
   exact⟨rfl,hB1⟩
theorem dN {h:Hst}(o:h.ok)(hn:h.name.length <=80000000)(w:World):Cf cv #[h.v] w (Ret λv w'=>v=.bool (br h)/\bW w w'):=by
 apply pz
 have hxl:=yd o
 intro k1 w1 hk1 hw1
 have hB1:=(hw1▸ah w _:bW w w1)
 have h1:am w1 k1 ai h.cells:=am.new hk1 hw1
 refine⟨_,aJ.load0 h1 (Hst.len o),?_⟩
 refine ax (kT o w1) ?_
 rintro _ w2 ⟨rfl,hb2⟩
 have hB2:=ab hB1 hb2 hB1.size
 refine⟨_,rfl,?_⟩
 refine ax (qz (dj h) (by omega) w2) ?_
 rintro _ w3 ⟨rfl,hb3⟩
 have hB3:=ab hB2 hb3 hB2.size
 refine⟨_,_,by rw[nV],?_⟩
 have hok:((cQ (dj h)).getD jf).ok:=zy λx hx=>il hx
 refine aJ.new (zs:=jf.cells) (cs:=((cQ (dj h)).getD jf).cells) rfl (Hst.len hok) (Hst.one _) w3 λk4 w4 hk4 h4 hb4=>?_
 have hB4:=ab hB3 hb4 hB3.size
 have h14:=((h1.below hb2).below hb3).below hb4
 unfold br
 cases hv:cQ (dj h)with
 | none=>exact ae.no rfl ⟨rfl,hB4⟩
 | some g=>
   rw[hv]at h4 hok
   exact ae.yes rfl ⟨_,aJ.load0 h4 (Hst.len hok),_,aJ.load0 h14 (Hst.len o),_,CD hok o w4,rfl,hB4⟩
theorem iW {h:Hst}(o:h.ok)(hn:h.name.length <=80000000)(w:World):Cf dH #[h.v] w (Ret (zf h w)):=by
 apply nl
 intro k1 w1 hk1 hw1
 have hB1:=(hw1▸ah w _:bW w w1)
 have h1:am w1 k1 ai h.cells:=am.new hk1 hw1
 have none_end:∀{wx:World},¬ (h.kind=1/\br h=true)->bW w wx->zf h w (.slice none 0 0) wx:=λhc hb=>⟨none,0,0,rfl,by unfold aH;rw[if_neg hc];exact Ow.nil _ _ _ _,bI.none _,hb⟩
 refine fY (λw'=>(h.kind=1/\br h=true)/\bW w1 w') ⟨rfl,_,h1.load1 aB rfl rfl,?_⟩ ?_
 · refine ae.of (λc=>none_end (λhc=>?_) hB1) (λc=>?_)
   · rw[hc.1]at c;simp at c
   · have hk:h.kind=1:=by simpa using c
     refine⟨_,aJ.load0 h1 (Hst.len o),?_⟩
     refine ax (dN o hn w1) ?_
     rintro _ w2 ⟨rfl,hb2⟩
     refine⟨_,rfl,ae.of (λc2=>none_end (λhc=>?_) (ab hB1 hb2 hB1.size)) (λc2=>⟨⟨hk,by simpa using c2⟩,hb2⟩)⟩
     rw[hc.2]at c2;cases c2
 · rintro w2 ⟨hc,hb2⟩
   have hB2:=ab hB1 hb2 hB1.size
   refine⟨rfl,_,(h1.below hb2).load1 aA rfl rfl,?_⟩
   refine ax (dM h.name 46 (by omega) w2) ?_
   rintro _ w3 ⟨a,n,c,rfl,ho,hf,hb3⟩
   exact⟨_,_,_,rfl,_,_,_,rfl,by unfold aH;rw[if_pos hc];exact ho,hf.mono hB2.size,ab hB2 hb3 hB2.size⟩
theorem jL {h d:Hst}(oh:h.ok)(od:d.ok)(hn:h.name.length <=80000000)(dn:d.name.length <=80000000)(w:World):Cf ee #[h.v,d.v] w (Ret λv w'=>v=.bool (lL h d)/\bW w w'):=by
 rw[Aa oh od]
 apply pA
 intro k2 w2 hk2 hw2
 have hB2:=(hw2▸ah w _:bW w w2)
 have h2:am w2 k2 ai h.cells:=am.new hk2 hw2
 intro k3 w3 hk3 hw3
 have hb3:=(hw3▸ah w2 _:bW w2 w3)
 have hB3:=ab hB2 hb3 hB2.size
 have h3:am w3 k3 ai d.cells:=am.new hk3 hw3
 have h23:=h2.below hb3
 have u:HE h d=if(aH h).length=0\/(aH d).length=0 then false else decide (d.name.length+1<h.name.length)&&(h.name.drop (h.name.length-(d.name.length+1))==46::d.name):=rfl
 refine fY (λw'=> ¬ ((aH h).length=0\/(aH d).length=0)/\bW w3 w') ?_ ?_
 · refine⟨_,aJ.load0 h23 (Hst.len oh),?_⟩
   refine ax (iW oh hn w3) ?_
   rintro _ w4 ⟨a,l,c,rfl,ho,-,hb4⟩
   have hB4:=ab hB3 hb4 hB3.size
   refine⟨_,_,_,rfl,?_⟩
   rw[ho.len]
   refine ae.of (λc1=>⟨?_,hB4⟩) (λc1=>?_)
   · rw[u,if_pos (.inl (by simp at c1;simp[c1]))]
   refine⟨_,aJ.load0 (h3.below hb4) (Hst.len od),?_⟩
   refine ax (iW od dn w4) ?_
   rintro _ w5 ⟨a5,l5,c5,rfl,ho5,-,hb5⟩
   have hB5:=ab hB4 hb5 hB4.size
   refine⟨_,_,_,rfl,?_⟩
   rw[ho5.len]
   refine ae.of (λc2=>⟨?_,hB5⟩) (λc2=>⟨?_,ab hb4 hb5 hb4.size⟩)
   · rw[u,if_pos (.inr (by simp at c2;simp[c2]))]
   · simp at c1 c2
     rintro(hx|hx)
     · exact c1 (List.length_eq_zero_iff.1 hx)
     · exact c2 (List.length_eq_zero_iff.1 hx)
 · rintro w4 ⟨hc,hb4⟩
   have hB4:=ab hB3 hb4 hB3.size
   have l2:=(h23.below hb4).load1 (P:=prog) (i:=1) (v:=vS h.name) aA rfl rfl
   refine⟨rfl,_,(h3.below hb4).load1 aA rfl rfl,fits (by simp;omega),?_⟩
   rintro _ rfl
   refine⟨rfl,_,l2,?_⟩
   rw[u,if_neg hc]
   refine ae.of (λc1=>?_) (λc1=>⟨?_,hB4⟩)
   · have hl:d.name.length+1<h.name.length:=by simp at c1;omega
     have e:i64.wrap (((h.name.length:Nat):Int)-((([46]++d.name).length:Nat):Int))=((h.name.length-(d.name.length+1):Nat):Int):=by
       rw[wrap_i64 (by simp;omega) (by simp;omega)];simp;omega
     refine⟨rfl,_,l2,rfl,_,l2,?_⟩
     rw[e]
     simp only[Int.toNat_natCast]
     refine⟨⟨by omega,by omega⟩,?_⟩
     rintro _ rfl
     rw[decide_eq_true hl,Bool.true_and]
     exact⟨rfl,hB4⟩
   · have: ¬ d.name.length+1<h.name.length:=by simp at c1;omega
     rw[decide_eq_false this,Bool.false_and]
theorem nq (a b:Value){w K}(h:nA w (.cells (Value.cells a) ai) λc d=>nA d (.cells (Value.cells b) ai) λe f=>∃g:FP [],(∃i,Ld ai (vA c 0) f i/\uB cv #[i] f λj k=>ae (!j) (K (.bool false) k) (∃l,Ld ai (vA e 0) k l/\uB cv #[l] k λm n=>ae (!m) (K (.bool false) n) (g n)))/\aC 9 (∀i,g i->∃j,Ld ai (vA c 0) i j/\∃k,Ld ai (vA e 0) i k/\∃l,(do eqGuard .eql ai (.tmp 13) (.tmp 14) j k;binOp .eql ai j k:Sem Value).run prog i=.ok (.bool l) i/\ae l (K (.bool true) i) (∃m,Ld ai (vA c 0) i m/\∃n,Ld ai (vA e 0) i n/\uB ee #[m,n] i λo p=>K (.bool o) p))):Cf cD #[a,b] w (Ret K):=ru func27 [(2,[])] h
theorem pD (a b:Value)(c:Int){w K}(h:nA w (.cells (Value.cells a) bE) λd e=>nA e (.cells (Value.cells b) aq) λf g=>∃i:FP [],(true/\∃j,Ld aX (vA d 20) g (.bool j)/\ae j (true/\∃k,Ld ai (vA d 2) g k/\true/\∃l,Ld ai (vA f 1) g l/\∃m,(do eqGuard .neq ai (.tmp 11) (.tmp 13) k l;binOp .neq ai k l:Sem Value).run prog g=.ok (.bool m) g/\ae m (K (.bool false) g) (true/\∃n,Ld ai (vA f 1) g n/\true/\∃o,Ld ai (vA d 2) g o/\uB cD #[n,o] g λp q=>ae (!p) (K (.bool false) q) (i q))) (true/\∃k,Ld ai (vA f 1) g k/\true/\∃l,Ld ai (vA d 2) g l/\uB cD #[k,l] g λm n=>ae (!m) (K (.bool false) n) (i n)))/\aC 18 (∀j,i j->∃k:FP [],(true/\∃l,Ld au (vA f 19) j (vS l)/\true/\∃m,Ld au (vA d 21) j (vS m)/\uB iQ #[vS l,vS m] j λn o=>ae (!n) (K (.bool false) o) (true/\∃p,Ld aX (vA d 22) o (.bool p)/\ae p (true/\∃q,Ld aX (vA f 0) o (.bool q)/\ae (!q) (K (.bool false) o) (true/\∃r,Ld lO (vA d 25) o (vI r)/\ae (decide (c >=r)) (K (.bool false) o) (k o))) (true/\∃q,Ld lO (vA d 25) o (vI q)/\ae (decide (c >=q)) (K (.bool false) o) (k o))))/\aC 22 (∀l,k l->true/\∃m,Ld aw (vA f 20) l (vI m)/\ae (m==(1:Int)) (true/\∃n,Ld aw (vA d 24) l (vI n)/\K (.bool (n !=(3:Int))) l) (true/\∃n,Ld aw (vA f 20) l (vI n)/\ae (n==(2:Int)) (true/\∃o,Ld aw (vA d 24) l (vI o)/\K (.bool (o==(1:Int))) l) (true/\∃o,Ld aw (vA f 20) l (vI o)/\K (.bool (o==(0:Int))) l))))):Cf ic #[a,b,vI c] w (Ret K):=ru func84 [(2,[]),(10,[])] h
theorem qE (a:lU){w K}(h:∃b:Nat->FP [.one (.int .i64)],(∃c,b c (0:Int) w)/\∀c d,aC 29 (∀e,b c d e->ae (decide (d<((List.length a:Nat):Int))) (bx d ((List.length a:Nat):Int)/\ae (decide ((aQ a d)<(33:Int))) (K (.bool false) e) (bx d ((List.length a:Nat):Int)/\ae (decide ((aQ a d)>(126:Int))) (K (.bool false) e) (bx d ((List.length a:Nat):Int)/\ae ((aQ a d)==(63:Int)) (K (.bool false) e) (bx d ((List.length a:Nat):Int)/\ae ((aQ a d)==(35:Int)) (K (.bool false) e) (∃f:Nat,f<c/\b f (i64.wrap (d+(1:Int))) e))))) (ae (decide (((List.length a:Nat):Int) >=(1:Int))) (ae (decide (((List.length a:Nat):Int) <=(2048:Int))) (bx (0:Int) ((List.length a:Nat):Int)/\K (.bool ((aQ a (0:Int))==(47:Int))) e) (K (.bool false) e)) (K (.bool false) e)))):Cf iP #[vS a] w (Ret K):=ru func140 [(6,[(3,.one (.int .i64))])] h
theorem qF (a b:lU){w K}(h:ae (a==b) (K (.bool true) w) (∃c:FP [],(ae (decide (((List.length a:Nat):Int) <=((List.length b:Nat):Int))) (K (.bool false) w) (bd ((List.length b:Nat):Int) (((List.length a):Nat):Int)/\∀d,d=(List.take (Int.toNat ((List.length b:Nat):Int)) a)->ae (!(d==b)) (K (.bool false) w) (c w)))/\aC 14 (∀d,c d->bx ((List.length b:Nat):Int) ((List.length a:Nat):Int)/\ae ((aQ a ((List.length b:Nat):Int))==(47:Int)) (K (.bool true) d) (ae (decide (((List.length b:Nat):Int)>(0:Int))) (bx (i64.wrap (((List.length b:Nat):Int)-(1:Int))) ((List.length b:Nat):Int)/\K (.bool ((aQ b (i64.wrap (((List.length b:Nat):Int)-(1:Int))))==(47:Int))) d) (K (.bool false) d))))):Cf iQ #[vS a,vS b] w (Ret K):=ru func141 [(10,[])] h
theorem r5 (s:List UInt8)(hs:s.length <=9223372036854775800)(w:World):Cf iP #[vS s] w (Ret λv w'=>v=.bool (jn s)/\w'=w):=by
 apply qE
 refine⟨λm i w'=>∃k:Nat,k <=s.length/\i=(k:Int)/\m=s.length-k/\(s.take k).all tj=true/\w'=w,⟨_,0,by omega,rfl,rfl,rfl,rfl⟩,?_⟩
 intro m i
 refine aC.of ?_ _
 rintro w' ⟨k,hk,rfl,rfl,hno,hw'⟩
 rw[hw'];clear hw'
 refine ae.of (λh=>?_) (λh=>?_) <;> simp only[dTx,dFx]at h
 · have hlt:k<s.length:=by omega
   rw[byte_at hlt]
   have hin:(0 <=(k:Int)/\(k:Int)<((s.length:Nat):Int)):=⟨by omega,h⟩
   refine⟨hin,zH _ _ hin (λhc=>?_) (λhc=>⟨by rw[FT hlt hc],rfl⟩)⟩
   exact⟨s.length-(k+1),by omega,k+1,by omega,by rw[wrap_i64 (by omega) (by omega)];omega,rfl,by rw[List.take_succ_eq_append_getElem hlt,List.all_append,hno];simp[hc],rfl⟩
 · have:k=s.length:=by omega
   subst this
   rw[List.take_length]at hno
   unfold jn
   rw[hno,Bool.and_true]
   refine ae.of (λh2=>?_) (λh2=>⟨?_,rfl⟩) <;> simp only[ge_iff_le,dTx,dFx]at h2
   · refine ae.of (λh3=>?_) (λh3=>⟨?_,rfl⟩) <;> simp only[dTx,dFx]at h3
     · have hl:0<s.length:=by omega
       have hb:=byte_at (s:=s) (k:=0) hl
       rw[show((0:Nat):Int)=0 from rfl]at hb
       have hu:=mu s[0] 47
       rw[show(((47:UInt8).toNat:Nat):Int)=47 from rfl]at hu
       refine⟨⟨by decide,by omega⟩,?_,rfl⟩
       rw[hb,hu,decide_eq_true (p:=s.length <=2048) (by omega),Bool.and_true,List.head?_eq_getElem?,List.getElem?_eq_getElem hl]
       congr 1
       rw[Bool.eq_iff_iff];simp
     · rw[decide_eq_false (p:=s.length <=2048) (by omega),Bool.and_false]
   · have:s=[]:=List.length_eq_zero_iff.1 (by omega)
     subst this;rfl
theorem pc {h d:Hst}(oh:h.ok)(od:d.ok)(hn:h.name.length <=80000000)(dn:d.name.length <=80000000)(w:World):Cf cD #[h.v,d.v] w (Ret λv w'=>v=.bool (GT h d)/\bW w w'):=by
 apply nq
 intro k2 w2 hk2 hw2
 have hB2:=(hw2▸ah w _:bW w w2)
 have h2:am w2 k2 ai h.cells:=am.new hk2 hw2
 intro k3 w3 hk3 hw3
 have hb3:=(hw3▸ah w2 _:bW w2 w3)
 have hB3:=ab hB2 hb3 hB2.size
 have h3:am w3 k3 ai d.cells:=am.new hk3 hw3
 have h23:=h2.below hb3
 unfold GT
 refine fY (λw'=>br h=true/\br d=true/\bW w3 w') ?_ ?_
 · refine⟨_,aJ.load0 h23 (Hst.len oh),?_⟩
   refine ax (dN oh hn w3) ?_
   rintro _ w4 ⟨rfl,hb4⟩
   have hB4:=ab hB3 hb4 hB3.size
   refine⟨_,rfl,ae.of (λc=>⟨?_,hB4⟩) (λc=>?_)⟩
   · rw[Bool.not_eq_true']at c;rw[c];rfl
   rw[Bool.not_eq_false']at c
   refine⟨_,aJ.load0 (h3.below hb4) (Hst.len od),?_⟩
   refine ax (dN od dn w4) ?_
   rintro _ w5 ⟨rfl,hb5⟩
   refine⟨_,rfl,ae.of (λc2=>⟨?_,ab hB4 hb5 hB4.size⟩) (λc2=>⟨c,?_,ab hb4 hb5 hb4.size⟩)⟩
   · rw[Bool.not_eq_true']at c2;rw[c,c2];rfl
   · rwa [Bool.not_eq_false']at c2
 · rintro w4 ⟨r1,r2,hb4⟩
   have hB4:=ab hB3 hb4 hB3.size
   rw[r1,r2,Bool.true_and,Bool.true_and]
   refine⟨_,aJ.load0 (h23.below hb4) (Hst.len oh),_,aJ.load0 (h3.below hb4) (Hst.len od),_,CD oh od w4,?_⟩
   refine ae.of (λc1=>⟨by rw[c1];rfl,hB4⟩) (λc1=>?_)
   refine⟨_,aJ.load0 (h23.below hb4) (Hst.len oh),_,aJ.load0 (h3.below hb4) (Hst.len od),?_⟩
   refine ax (jL oh od hn dn w4) ?_
   rintro _ w5 ⟨rfl,hb5⟩
   exact⟨_,rfl,by rw[c1];rfl,ab hB4 hb5 hB4.size⟩
theorem r6 (p o:List UInt8)(hp:p.length <=9223372036854775800)(ho:o.length <=9223372036854775800)(w:World):Cf iQ #[vS p,vS o] w (Ret λv w'=>v=.bool (vz p o)/\w'=w):=by
 apply qF
 unfold vz
 refine ae.of (λc=>⟨by rw[c];rfl,rfl⟩) (λc=>?_)
 rw[c,Bool.false_or]
 refine vt (w:=w) (o.length<p.length/\p.take o.length=o) ?_ ?_
 · refine ae.of (λh=>⟨?_,rfl⟩) (λh=>⟨⟨by omega,?_⟩,?_⟩) <;> simp only[dTx,dFx]at h
   · rw[decide_eq_false (p:=o.length<p.length) (by omega),Bool.false_and]
   · omega
   · rintro _ rfl
     rw[Int.toNat_natCast]
     refine ae.of (λh2=>⟨?_,rfl⟩) (λh2=>⟨rfl,by omega,?_⟩)
     · rw[Bool.not_eq_true']at h2;rw[h2,Bool.false_and,Bool.and_false]
     · rw[Bool.not_eq_false']at h2;exact eq_of_beq h2
 · rintro⟨h1,h2⟩
   rw[decide_eq_true h1,h2,beq_self_eq_true,Bool.true_and,Bool.true_and]
   have hu:=mu p[o.length] 47
   rw[show(((47:UInt8).toNat:Nat):Int)=47 from rfl]at hu
   rw[byte_at h1,hu,List.getElem?_eq_getElem h1]
   refine⟨⟨by omega,by omega⟩,ae.of (λc1=>⟨?_,rfl⟩) (λc1=>?_)⟩
   · rw[eq_of_beq c1];rfl
   · rw[decide_eq_false (p:=some p[o.length]=some 47) (λhx=>by rw[Option.some.inj hx]at c1;simp at c1),Bool.false_or]
     refine ae.of (λc2=>?_) (λc2=>⟨?_,rfl⟩) <;> simp only[gt_iff_lt,dTx,dFx]at c2
     · have hl:o.length-1<o.length:=by omega
       have ei:i64.wrap (((o.length:Nat):Int)-1)=((o.length-1:Nat):Int):=by rw[wrap_i64 (by omega) (by omega)];omega
       have hu:=mu o[o.length-1] 47
       rw[show(((47:UInt8).toNat:Nat):Int)=47 from rfl]at hu
       rw[ei,byte_at hl,hu,List.getLast?_eq_getElem?,List.getElem?_eq_getElem hl]
       refine⟨⟨by omega,by omega⟩,?_,rfl⟩
       congr 1
       rw[Bool.eq_iff_iff];simp
     · have:o=[]:=List.length_eq_zero_iff.1 (by omega)
       subst this;rfl
theorem qB {c:Cky}{r:Req}(oc:c.ok)(or:r.ok)(cn:c.host.name.length <=80000000)(rn:r.host.name.length <=80000000)(cp:c.path.length <=9223372036854775800)(rp:r.path.length <=9223372036854775800)(now:Int)(w:World):
   Cf ic #[c.v,r.v,vI now] w (Ret λv w'=>v=.bool (vF c r now)/\bW w w'):=by
 apply pD
 intro k3 w3 hk3 hw3
 have hB3:=(hw3▸ah w _:bW w w3)
 have h3:am w3 k3 bE c.cells:=am.new hk3 hw3
 intro k4 w4 hk4 hw4
 have hb4:=(hw4▸ah w3 _:bW w3 w4)
 have hB4:=ab hB3 hb4 hB3.size
 have h4:am w4 k4 aq r.cells:=am.new hk4 hw4
 have h34:=h3.below hb4
 have lch:∀{wx},bW w4 wx->(Instr.loadAt ai (.pointer (some ⟨k3,2,none⟩))).run prog wx=.ok c.host.v wx:=λhb=>aJ.load (h34.below hb) (i:=2) (us:=c.host.cells) (Hst.len oc) (λj hj=>Bn oc hj)
 have lrh:∀{wx},bW w4 wx->(Instr.loadAt ai (.pointer (some ⟨k4,1,none⟩))).run prog wx=.ok r.host.v wx:=λhb=>aJ.load (h4.below hb) (i:=1) (us:=r.host.cells) (Hst.len or) (λj hj=>jp or hj)
 have b0:=Below.refl w4.heap.size w4
 have dom:∀{wx:World} {J:FP []},bW w4 wx->(c.only && !lG c.host r.host)=false->(∀wy,bW w4 wy->GT r.host c.host=true->J wy)->
     Cf cD #[r.host.v,c.host.v] wx λe21 w21=>∃(b21:Bool),e21=.returned (.bool b21)/\ae (!b21) ((.bool false:Value)=.bool (vF c r now)/\bW w w21) (J w21):=fun{wx J} hbx h0 hJ=>by
   refine ax (pc or oc rn cn wx) ?_
   rintro _ w5 ⟨rfl,hb5⟩
   have hb:=ab hbx hb5 hbx.size
   refine⟨_,rfl,ae.of (λh=>⟨?_,ab hB4 hb hB4.size⟩) (λh=>hJ w5 hb ?_)⟩
   · rw[Bool.not_eq_true']at h;unfold vF;rw[h,Bool.false_and,Bool.and_false]
   · rwa [Bool.not_eq_false']at h
 refine fY (λw'=>(c.only && !lG c.host r.host)=false/\GT r.host c.host=true/\bW w4 w') ?_ ?_
 · refine⟨rfl,_,h34.load1 bv rfl (cO oc 0),ae.of (λh=>?_) (λh=>?_)⟩
   · refine⟨rfl,_,lch b0,rfl,_,lrh b0,_,LP oc or w4,ae.of (λh2=>⟨?_,hB4⟩) (λh2=>?_)⟩
     · unfold vF;rw[h,h2];rfl
     · exact⟨rfl,_,lrh b0,rfl,_,lch b0,dom b0 (by rw[h,h2];rfl) λwy hb hd=>⟨by rw[h,h2];rfl,hd,hb⟩⟩
   · exact⟨rfl,_,lrh b0,rfl,_,lch b0,dom b0 (by rw[h];rfl) λwy hb hd=>⟨by rw[h];rfl,hd,hb⟩⟩
 · rintro w5 ⟨e1,e2,hb5⟩
   have hB5:=ab hB4 hb5 hB4.size
   have h35:=h34.below hb5
   have h45:=h4.below hb5
   have hs:vF c r now=(vz r.path c.path&&(!(c.sec && !r.sec)&&(!(decide (now >=c.exp))&&xT c.same r.cross))):=by unfold vF;rw[e1,e2];rfl
   refine fY (λw'=>vF c r now=xT c.same r.cross/\w'=w5) ?_ ?_
   · refine⟨rfl,_,h45.load1 aA rfl (cK or 0),rfl,_,h35.load1 aA rfl (cO oc 1),?_⟩
     refine ax (r6 r.path c.path rp cp w5) ?_
     rintro _ w6 ⟨rfl,hw6⟩
     rw[hw6];clear hw6
     refine⟨_,rfl,ae.of (λh=>⟨?_,hB5⟩) (λh=>?_)⟩
     · rw[Bool.not_eq_true']at h;rw[hs,h];rfl
     rw[Bool.not_eq_false']at h
     rw[hs,h,Bool.true_and]
     refine⟨rfl,_,h35.load1 bv rfl (cO oc 2),ae.of (λh2=>?_) (λh2=>?_)⟩
     · refine⟨rfl,_,h45.load1 bv rfl (i:=0) rfl,ae.of (λh3=>⟨?_,hB5⟩) (λh3=>?_)⟩
       · rw[h2,h3];rfl
       · rw[h2,h3]
         refine⟨rfl,_,h35.load1 kZ rfl (cO oc 5),ae.of (λh4=>⟨?_,hB5⟩) (λh4=>⟨?_,rfl⟩)⟩
         · rw[h4];rfl
         · rw[h4];rfl
     · rw[h2]
       refine⟨rfl,_,h35.load1 kZ rfl (cO oc 5),ae.of (λh4=>⟨?_,hB5⟩) (λh4=>⟨?_,rfl⟩)⟩
       · rw[h4];rfl
       · rw[h4];rfl
   · rintro w6 ⟨hc,hw6⟩
     rw[hw6,hc]
     unfold xT
     have lc:=h45.load1 (P:=prog) aB rfl (cK or 1)
     have ls:=h35.load1 (P:=prog) aB rfl (cO oc 4)
     refine⟨rfl,_,lc,ae.of (λh=>?_) (λh=>?_)⟩
     · rw[if_pos (eq_of_beq h)]
       exact⟨rfl,_,ls,rfl,hB5⟩
     rw[if_neg (beq_eq_false_iff_ne.1 h)]
     refine⟨rfl,_,lc,ae.of (λh=>?_) (λh=>?_)⟩
     · rw[if_pos (eq_of_beq h)]
       exact⟨rfl,_,ls,rfl,hB5⟩
     rw[if_neg (beq_eq_false_iff_ne.1 h)]
     exact⟨rfl,_,lc,rfl,hB5⟩
theorem Kd (l:List Txt):vP l ∉ l:=(qZ l).2.1
theorem qG (a b:Value)(c:Int){w K}(h:nA w (.cells (Value.cells a) bE) λd e=>nA e (.cells (Value.cells b) aq) λf g=>∃i,Ld aq (vA f 0) g i/\uB eu #[i] g λj k=>ae j (∃l,Ld bE (vA d 0) k l/\∃m,Ld aq (vA f 0) k m/\uB ic #[l,m,vI c] k λn o=>K (.bool n) o) (K (.bool false) k)):Cf gG #[a,b,vI c] w (Ret K):=ru func39 [] h
theorem ns (a b:Value){w K}(h:nA w (.cells (Value.cells a) bT) λc d=>nA d (.cells (Value.cells b) aq) λe f=>∃g:FP [],(∃i,Ld aq (vA e 0) f i/\uB eu #[i] f λj k=>ae (!j) (K (.bool false) k) (true/\∃l,Ld au (vA e 19) k (vS l)/\true/\∃m,Ld au (vA c 21) k (vS m)/\uB fP #[vS l,vS m] k λn o=>ae (!n) (K (.bool false) o) (g o)))/\aC 12 (∀i,g i->∃j:FP [],(true/\∃k,Ld aX (vA e 0) i (.bool k)/\ae k (true/\∃l,Ld aX (vA c 20) i (.bool l)/\ae (!l) (K (.bool false) i) (true/\∃m,Ld aX (vA e 0) i (.bool m)/\ae (!m) (true/\∃n,Ld aX (vA c 19) i (.bool n)/\ae (!n) (K (.bool false) i) (j i)) (j i))) (true/\∃l,Ld aX (vA e 0) i (.bool l)/\ae (!l) (true/\∃m,Ld aX (vA c 19) i (.bool m)/\ae (!m) (K (.bool false) i) (j i)) (j i)))/\aC 18 (∀k,j k->true/\∃l,Ld aX (vA c 0) k (.bool l)/\ae l (true/\∃m,Ld ai (vA e 1) k m/\true/\∃n,Ld ai (vA c 1) k n/\uB ee #[m,n] k λo p=>K (.bool o) p) (true/\∃m,Ld ai (vA e 1) k m/\true/\∃n,Ld ai (vA c 1) k n/\∃o,(do eqGuard .eql ai (.tmp 41) (.tmp 43) m n;binOp .eql ai m n:Sem Value).run prog k=.ok (.bool o) k/\K (.bool o) k)))):Cf eI #[a,b] w (Ret K):=ru func43 [(2,[]),(10,[])] h
theorem pE (a:Value){w K}(h:nA w (.cells (Value.cells a) aq) λb c=>true/\∃d,Ld ai (vA b 1) c d/\uB cv #[d] c λe f=>ae e (true/\∃g,Ld au (vA b 19) f (vS g)/\uB iP #[vS g] f λi j=>ae i (true/\∃k,Ld aw (vA b 20) j (vI k)/\ae (decide (k >=(0:Int))) (true/\∃l,Ld aw (vA b 20) j (vI l)/\K (.bool (decide (l <=(2:Int)))) j) (K (.bool false) j)) (K (.bool false) j)) (K (.bool false) f)):Cf eu #[a] w (Ret K):=ru func83 [] h
theorem nr (a b:lU){w K}(h:ae (decide (((List.length a:Nat):Int) >=((List.length b:Nat):Int))) (bd ((List.length b:Nat):Int) (((List.length a):Nat):Int)/\∀c,c=(List.take (Int.toNat ((List.length b:Nat):Int)) a)->K (.bool (c==b)) w) (K (.bool false) w)):Cf fP #[vS a,vS b] w (Ret K):=ru func91 [] h
theorem jM {r:Req}(o:r.ok)(hn:r.host.name.length <=80000000)(hp:r.path.length <=9223372036854775800)(w:World):Cf eu #[r.v] w (Ret λv w'=>v=.bool (mi r)/\bW w w'):=by
 apply pE
 intro k1 w1 hk1 hw1
 have b1:=(hw1▸ah w _:bW w w1)
 have A1:am w1 k1 aq r.cells:=am.new hk1 hw1
 refine⟨rfl,_,aJ.load A1 (i:=1) (us:=r.host.cells) (Hst.len o) (λj hj=>jp o hj),?_⟩
 refine ax (dN o (by omega) w1) ?_
 rintro _ w5 ⟨rfl,b5⟩
 have B5:=ab b1 b5 b1.size
 refine⟨_,rfl,ae.of (λh=>?_) (λh=>⟨by unfold mi;rw[h];rfl,B5⟩)⟩
 have A5:=A1.below b5
 refine⟨rfl,_,A5.load1 aA rfl (i:=19) (cK o 0),?_⟩
 refine ax (r5 r.path hp w5) ?_
 rintro _ w9 ⟨rfl,hw9⟩
 rw[hw9];clear hw9 w9
 refine⟨_,rfl,ae.of (λh2=>?_) (λh2=>⟨by unfold mi;rw[h,h2];rfl,B5⟩)⟩
 refine⟨rfl,_,A5.load1 aB rfl (i:=20) (cK o 1),ae.of (λh3=>?_) (λh3=>⟨by unfold mi;rw[h,h2,h3];rfl,B5⟩)⟩
 exact⟨rfl,_,A5.load1 aB rfl (i:=20) (cK o 1),by unfold mi;rw[h,h2,h3];rfl,B5⟩
theorem om {c:Cky}{r:Req}(oc:c.ok)(or:r.ok)(cn:c.host.name.length <=80000000)(rn:r.host.name.length <=80000000)(cp:c.path.length <=9223372036854775800)(rp:r.path.length <=9223372036854775800)(now:Int)(w:World):
   Cf gG #[c.v,r.v,vI now] w (Ret λv w'=>v=.bool (Ct c r now)/\bW w w'):=by
 apply qG
 intro k3 w3 hk3 hw3 k4 w4 hk4 hw4
 have b3:=(hw3▸ah w _:bW w w3)
 have b4:=(hw4▸ah w3 _:bW w3 w4)
 have A3:am w3 k3 bE c.cells:=am.new hk3 hw3
 have A4:am w4 k4 aq r.cells:=am.new hk4 hw4
 have B4:=ab b3 b4 b3.size
 refine⟨_,bQ.load0 A4 (Req.len or),?_⟩
 refine ax (jM or rn rp w4) ?_
 rintro _ w8 ⟨rfl,b8⟩
 have B8:=ab B4 b8 B4.size
 refine⟨_,rfl,ae.of (λh=>?_) (λh=>⟨by unfold Ct;rw[h];rfl,B8⟩)⟩
 refine⟨_,uQ.load0 ((A3.below b4).below b8) (Cky.len oc),_,bQ.load0 (A4.below b8) (Req.len or),?_⟩
 refine ax (qB oc or cn rn cp rp now w8) ?_
 rintro _ w13 ⟨rfl,b13⟩
 exact⟨_,rfl,by unfold Ct;rw[h];rfl,ab B8 b13 B8.size⟩
theorem OG {ts:List Txt}(hp:ts.Pairwise (· < ·)){s:Txt}(h:s∈ts):tx ts (ofT ts s).toNat=s:=by
 obtain⟨i,hi,es,e⟩:=CL hp h
 rw[e,Int.toNat_natCast,MO hi,es]
theorem Q0 {ts:List Txt}(hp:ts.Pairwise (· < ·)){x:Nat}(h:x <=ts.length):ofT ts (tx ts x)=(x:Int):=by
 rcases Nat.lt_or_ge x ts.length with h1|h1
 · rw[MO h1];exact Iy hp h1
 · have:x=ts.length:=by omega
   subst this
   rw[Do,CM (Kd ts)]
theorem pd (s p:List UInt8)(w:World):Cf fP #[vS s,vS p] w (Ret λv w'=>v=.bool (HR s p)/\w'=w):=by
 apply nr
 refine ae.of (λh=>⟨⟨by omega,by simpa using h⟩,λt ht=>⟨?_,rfl⟩⟩) (λh=>⟨?_,rfl⟩)
 · rw[ht];unfold HR;rw[h,Int.toNat_natCast];rfl
 · unfold HR;rw[h];rfl
theorem kU {p:Pat}{r:Req}(op:p.ok)(or:r.ok)(pn:p.host.name.length <=80000000)(rn:r.host.name.length <=80000000)(rp:r.path.length <=9223372036854775800)(w:World):
   Cf eI #[p.v,r.v] w (Ret λv w'=>v=.bool (mi r&&sE p r)/\bW w w'):=by
 apply ns
 intro k2 w2 hk2 hw2 k3 w3 hk3 hw3
 have b2:=(hw2▸ah w _:bW w w2)
 have b3:=(hw3▸ah w2 _:bW w2 w3)
 have A2:am w3 k2 bT p.cells:=(am.new hk2 hw2:am w2 k2 bT p.cells).below b3
 have A3:am w3 k3 aq r.cells:=am.new hk3 hw3
 have B3:=ab b2 b3 b2.size
 refine fY (λW=>bW w3 W/\mi r=true/\HR r.path p.pre=true) ?_ ?_
 · refine⟨_,bQ.load0 A3 (Req.len or),?_⟩
   refine ax (jM or rn rp w3) ?_
   rintro _ w6 ⟨rfl,b6⟩
   have B6:=ab B3 b6 B3.size
   refine⟨_,rfl,ae.of (λh=>⟨by rw[show mi r=false by simpa using h];rfl,B6⟩) (λh=>?_)⟩
   have h:mi r=true:=by simpa using h
   refine⟨rfl,_,(A3.below b6).load1 aA rfl (i:=19) (cK or 0),rfl,_,(A2.below b6).load1 aA rfl (i:=21) (mB op 2),?_⟩
   refine ax (pd _ _ w6) ?_
   rintro _ w13 ⟨rfl,hw13⟩
   rw[hw13];clear hw13 w13
   refine⟨_,rfl,ae.of (λh2=>⟨?_,B6⟩) (λh2=>⟨b6,h,by simpa using h2⟩)⟩
   unfold sE
   rw[show HR r.path p.pre=false by simpa using h2,Bool.false_and,Bool.and_false]
 rintro W ⟨bWx,hr,hb⟩
 have BW:=ab B3 bWx B3.size
 have A2:=A2.below bWx
 have A3:=A3.below bWx
 have hv:(mi r&&sE p r)=((if r.sec=true then p.sec else p.plain)&&(if p.wild=true then lL r.host p.host else lG r.host p.host)):=by unfold sE;rw[hr,hb];rfl
 rw[hv]
 have ls:=A3.load1 (P:=prog) bv rfl (i:=0) rfl
 refine fY (λV=>V=W/\(if r.sec=true then p.sec else p.plain)=true) ?_ ?_
 · refine⟨rfl,_,ls,ae.of (λh=>⟨rfl,_,A2.load1 bv rfl (i:=20) (mB op 1),ae.of (λh2=>⟨?_,BW⟩) (λh2=>⟨rfl,_,ls,ae.no (by rw[h];rfl) ⟨rfl,?_⟩⟩)⟩) (λh=>⟨rfl,_,ls,ae.yes (by rw[h];rfl) ⟨rfl,_,A2.load1 bv rfl (i:=19) (mB op 0),ae.of (λh2=>⟨?_,BW⟩) (λh2=>⟨rfl,?_⟩)⟩⟩)⟩
   · rw[if_pos h,show p.sec=false by simpa using h2];rfl
   · rw[if_pos h];simpa using h2
   · rw[if_neg (by rw[h];decide),show p.plain=false by simpa using h2];rfl
   · rw[if_neg (by rw[h];decide)];simpa using h2
 rintro V ⟨hV,hs⟩
 rw[hV];clear hV V
 rw[hs,Bool.true_and]
 have lr:=aJ.load (P:=prog) A3 (i:=1) (us:=r.host.cells) (Hst.len or) (λj hj=>jp or hj)
 have lp:=aJ.load (P:=prog) A2 (i:=1) (us:=p.host.cells) (Hst.len op) (λj hj=>Bv op hj)
 refine⟨rfl,_,A2.load1 bv rfl (i:=0) rfl,ae.of (λh=>⟨rfl,_,lr,rfl,_,lp,?_⟩) (λh=>⟨rfl,_,lr,rfl,_,lp,_,CD or op W,?_,BW⟩)⟩
 · refine ax (jL or op rn pn W) ?_
   rintro _ w39 ⟨rfl,b39⟩
   exact⟨_,rfl,by rw[if_pos h],ab BW b39 BW.size⟩
 · rw[if_neg (by rw[h];decide)]
theorem uo (a:Option Addr)(b c:Nat)(d e:Value){w K}(h:nA w (.cells (Value.cells d) aL) λf g=>nA g (.cells (Value.cells e) aq) λi j=>uB du #[] j λk l=>ae (!k) (K (.bool false) l) (true/\true/\true/\∃m,Ld au (vA f 3) l (vS m)/\true/\true/\∃n,Ld au (vA f 21) l (vS n)/\true/\true/\true/\∃o,Ld au (vA f 31) l (vS o)/\true/\true/\∃p,Ld au (vA f 50) l (vS p)/\true/\true/\∃q,Ld au (vA i 2) l (vS q)/\true/\∃r,Ld au (vA i 19) l (vS r)/\nA l (.cells #[vS m,vS n,vS o,vS p,vS q,vS r] au) λs t=>uB ji #[.slice a b c,.slice (vA s 0) 6 6] t λu v=>ae u (K (.bool true) v) (∃x,Ld aL (vA f 0) v x/\Cf gu #[.slice a b c,x] v λy z=>∃A B C,y=rT #[A,B,.bool C]/\nA z (.cells aV aj) λD E=>nA E (.cells aV aj) λF G=>∃H,Sv aj (vA D 0) A G H/\∃I,Sv aj (vA F 0) B H I/\ae (!C) (K (.bool true) I) (uP gI #[.slice a b c] I λJ L=>∃M,Ld aj (vA D 0) L M/\∃N,Ld aj (vA F 0) L N/\Cf dI #[M,N] L λO P=>∃Q R,O=rT #[Q,vI R]/\nA P (.cells aV aj) λS T=>∃U,Sv aj (vA S 0) Q T U/\∃V,Ld aj (vA S 0) U V/\Cf dV #[.pointer J,V] U λX Y=>∃Z aa ac,X=rT #[Z,.bool aa,vI ac]/\nA Y (.cells dD aq) λad ag=>∃al,Sv aq (vA ad 0) Z ag al/\∃an:FP [.one .bool],(true/\∃ba,Ld bE (vA f 0) al ba/\∃bb,Ld aq (vA i 0) al bb/\true/\true/\∃bc,Ld lO (vA f 26) al (vI bc)/\uB gG #[ba,bb,vI bc] al λbd bj=>ae bd (true/\∃bk,Ld bT (vA f 29) bj bk/\∃bl,Ld aq (vA i 0) bj bl/\uB eI #[bk,bl] bj λbn bo=>an bn bo) (an false bj))/\∀ba,aC 13 (∀bb,an ba bb->∃bc:FP [],(∃bd:FP [.one .bool],(ae (R !=(0:Int)) (bd true bb) (ae (ac !=(0:Int)) (bd true bb) (bd (!aa) bb)))/\∀bj,aC 9 (∀bk,bd bj bk->ae bj (ae (R==(0:Int)) (ae (ac==(0:Int)) (ae (!ba) (∃bl,Ld aq (vA ad 0) bk bl/\∃bn,(do eqGuard .eql aq (.tmp 99) (.tmp 100) bl (.agg dD);binOp .eql aq bl (.agg dD):Sem Value).run prog bk=.ok (.bool bn) bk/\K (.bool bn) bk) (K (.bool false) bk)) (K (.bool false) bk)) (K (.bool false) bk)) (bc bk)))/\aC 26 (∀bd,bc bd->∃bj:FP [],(true/\∃bk,Ld bE (vA f 0) bd bk/\∃bl,Ld aq (vA ad 0) bd bl/\true/\true/\∃bn,Ld lO (vA f 26) bd (vI bn)/\uB gG #[bk,bl,vI bn] bd λbo bq=>ae (!bo) (K (.bool false) bq) (true/\∃bw,Ld bT (vA f 29) bq bw/\∃bx,Ld aq (vA ad 0) bq bx/\uB eI #[bw,bx] bq λbz ca=>ae (!bz) (K (.bool false) ca) (bj ca)))/\aC 16 (∀bk,bj bk->ae (!ba) (∀bl,bW bk bl->K (.bool true) bl) (true/\∃bl,(∀bn,bW bk bn->Ld ai (vA ad 1) bn bl)/\∃bn,(∀bo,bW bk bo->Cf fD #[bl] bo λbq bw=>bq=.returned (vS bn)/\Below bk.heap.size bo bw)/\true/\∃bo,(∀bq,bW bk bq->Ld ai (vA i 1) bq bo)/\∃bq,(∀bw,bW bk bw->Cf fD #[bo] bw λbx bz=>bx=.returned (vS bq)/\Below bk.heap.size bw bz)/\ae (decide (((List.length bn:Nat):Int) <=((List.length bq:Nat):Int))) (true/\∃bw,(∀bx,bW bk bx->Ld au (vA ad 19) bx (vS bw))/\true/\∃bx,(∀bz,bW bk bz->Ld au (vA i 19) bz (vS bx))/\∀bz,bW bk bz->K (.bool (decide (((List.length bw:Nat):Int) <=((List.length bx:Nat):Int)))) bz) (∀bw,bW bk bw->K (.bool false) bw))))))))):Cf oJ #[.slice a b c,d,e] w (Ret K):=ru func8 [(34,[(16,.one .bool)]),(36,[]),(37,[(87,.one .bool)]),(44,[])] h
theorem LA {ts:List Txt}(hl:ts.length <=30):(vP ts).length=1:=by
 have h1:=(qZ ts).1
 have h2:=Eo ts
 unfold vP kQ
 rw[List.length_reverse,uZ (by omega),show(zn ts-1)/38=0 by omega,tE];rfl
theorem KZ {h:Hst}(o:h.ok)(hk:h.kind≠1)(hr:br h=true):h.name.length=0:=by
 have hv:=ma o hr
 unfold cQ at hv
 split at hv
 · split at hv
   · rw[Option.map_eq_some_iff]at hv
     obtain⟨a,_,e⟩:=hv
     rw[<- e];rfl
   · cases hv
 split at hv
 · rw[Option.map_eq_some_iff]at hv
   obtain⟨a,_,e⟩:=hv
   rw[<- e];rfl
 split at hv
 · exact absurd (by rw[<- Option.some.inj hv]) hk
 · cases hv
theorem Pu {h:Hst}(o:h.ok)(hr:br h=true):jE (fi h)=(dj h).length+1:=by
 by_cases hk:h.kind=1
 · rw[GR o hk hr];unfold dj;rw[if_pos hk]
 · exact GQ o hk hr
theorem OE {ts:List Txt}(hp:ts.Pairwise (· < ·))(hl:ts.length <=30){y:Txt}(hy:bs y=true):bs (tx ts (ofT ts y).toNat)=true/\(tx ts (ofT ts y).toNat).length <=y.length:=by
 by_cases h:y∈ts
 · rw[OG hp h];exact⟨hy,Nat.le_refl _⟩
 · rw[CM h,Int.toNat_natCast,Do]
   have:=(iT hy).1
   exact⟨rY (by omega),by rw[LA hl];omega⟩
theorem Jt {ts:List Txt}(hp:ts.Pairwise (· < ·))(hl:ts.length <=30):∀{t:List Txt},(∀y∈t,bs y=true)->jE (t.map λy=>tx ts (ofT ts y).toNat) <=jE t
 | [],_=>Nat.le_refl _
 | y::t,h=>by
   have h1:=(OE hp hl (h y List.mem_cons_self)).2
   have h2:=Jt hp hl (t:=t) λz hz=>h z (List.mem_cons_of_mem _ hz)
   rw[List.map_cons]
   simp only[jE];omega
theorem Jy {ts:List Txt}(hp:ts.Pairwise (· < ·))(hl:ts.length <=30){h:Hst}(o:h.ok)(hr:br h=true){x:Nat}{u:List Nat}(e:cH ts h=x::u)(hx:x<ts.length):
   ng ((cH ts h).map (tx ts))/\jE ((cH ts h).map (tx ts)) <=jE (fi h):=by
 have hw:=(Cz o hr).2
 unfold cH at e ⊢
 rw[List.map_map]
 cases ht:fi h with
 | nil=>rw[ht]at hw;exact hw.elim
 | cons s t=>
   rw[ht]at hw e
   rw[List.map_cons]at e
   injection e with e1 e2
   have hs:s∈ts:=Classical.byContradiction λhc=>by
     rw[CM hc,Int.toNat_natCast]at e1;omega
   have es:tx ts (ofT ts s).toNat=s:=OG hp hs
   rw[List.map_cons]
   show ng (tx ts (ofT ts s).toNat::t.map λy=>tx ts (ofT ts y).toNat)/\jE (tx ts (ofT ts s).toNat::t.map λy=>tx ts (ofT ts y).toNat) <=_
   rw[es]
   rcases hw with⟨h1,h2⟩|⟨h1,h2,h3⟩
   · subst h2;exact⟨.inl ⟨h1,rfl⟩,Nat.le_refl _⟩
   · refine⟨.inr ⟨h1,h2,λy hy=>?_⟩,?_⟩
     · obtain⟨z,hz,rfl⟩:=List.mem_map.1 hy
       exact(OE hp hl (h3 z hz)).1
     · have:=Jt hp hl h3
       simp only[jE];omega
section
variable {ts:List Txt} (hp:ts.Pairwise (· < ·)) (hl:ts.length <=30) {L:List Nat->Prop} (hH:∀v,L v->∃x u,v=x::u/\x<ts.length)
include hp hl hH
theorem LO (h:oB ts L none){r:Hst}(o:r.ok)(hr:br r=true): ¬ L (cH ts r):=λhLr=>by
 obtain⟨x,u,e,hx⟩:=hH _ hLr
 obtain⟨h1,h2⟩:=Jy hp hl o hr e hx
 have:=h _ hLr h1
 rw[oS (lD ts r)]at this
 have:=BX o hr
 omega
theorem Km {g:Hst}(hL:∀v,L v->∀x∈v,x<ts.length+1)(h:oB ts L (some g)):br g=true/\L (cH ts g)/\∀r:Hst,r.ok->br r=true->L (cH ts r)->(dj g).length <=(dj r).length:=by
 obtain⟨v,h1,h2,h3⟩:=h
 have h5:=hL v h1.1.1
 obtain⟨g',e1,e2,e3,e4⟩:=En h5 h1.1.2 h2
 rw[h3]at e1
 obtain rfl:=Option.some.inj e1
 have ew:cH ts g=v:=by
   unfold cH
   rw[e4,List.map_map]
   conv=>rhs;rw[<- List.map_id v]
   refine List.map_congr_left λx hx=>?_
   show(ofT ts (tx ts x)).toNat=x
   rw[Q0 hp (by have:=h5 x hx;omega)]
   exact Int.toNat_natCast x
 refine⟨e3,by rw[ew];exact h1.1.1,λr o hr hLr=>?_⟩
 obtain⟨x,u,e,hx⟩:=hH _ hLr
 obtain⟨c1,c2⟩:=Jy hp hl o hr e hx
 have h6:=h1.2 _ ⟨hLr,c1⟩
 rw[oS h5,oS (lD ts r)]at h6
 have h7:=Pu e2 e3
 rw[e4]at h7
 have h8:=Pu o hr
 omega
end
theorem NC {m:Nat}{w v:List Nat}(h:Ek m w v):w <+:v:=by
 unfold Ek at h
 split at h
 · rw[h];exact List.prefix_refl _
 · split at h
   · exact h
   · exact h.1
theorem MB {ts:List Txt}(hp:ts.Pairwise (· < ·))(htl:ts.length <=60){h:Hst}(o:h.ok)(kd:kB ts h=true){only:Bool}{v:List Nat}(hv:(HU ts h only).Lang (HU ts h only).s v):∃x u,v=x::u/\x<ts.length:=by
 have lc:=rI ts o kd
 obtain⟨m,hm⟩:∃m,xG (HU ts h only) (cH ts h) m:=by
   unfold HU
   by_cases h1:only=true
   · rw[if_pos h1];exact⟨0,yq (by omega) o lc⟩
   · rw[if_neg h1]
     by_cases k1:h.kind=1
     · exact⟨_,GE (by omega) o lc k1 true⟩
     · rw[(uW k1).1];exact⟨0,yq (by omega) o lc⟩
 obtain⟨k1,k2⟩:=(G3 hp h).1 ((Ew hp h).1 kd)
 obtain⟨r,rfl⟩:=NC ((hm.lang v).1 hv).2
 cases hw:cH ts h with
 | nil=>exact absurd hw k1
 | cons x u=>
   refine⟨x,u++r,rfl,?_⟩
   have h1:=lD ts h x (by rw[hw];exact List.mem_cons_self)
   have h2:x≠ts.length:=λe=>k2 (by rw[hw,<- e];exact List.mem_cons_self)
   omega
section
variable {ts:List Txt} {z:Rgn} (oh:z.h.Ok) (op:z.p.Ok)
include oh op
theorem tY (q:Req):hasB ts z q=true ↔ mi q=true/\(if q.sec=true then z.s1 else z.s0)=true/\(if q.cross=0 then z.c0 else if q.cross=1 then z.c1 else z.c2)=true/\z.h.Lang z.h.s (cH ts q.host)/\z.p.Lang z.p.s (pw q.path):=by
 unfold hasB
 rw[Bool.and_eq_true,Bool.and_eq_true,Bool.and_eq_true,Bool.and_eq_true,AN,iC oh]
 refine and_congr_right λhr=>?_
 have hp:jn q.path=true:=by
   unfold mi at hr
   simp only[Bool.and_eq_true]at hr
   exact hr.2.1
 rw[tX (jo hp).1,iC op]
end
theorem Qo {ts:List Txt}(hp:ts.Pairwise (· < ·))(hl:ts.length <=30){z:Rgn}(oh:z.h.Ok)(op:z.p.Ok)(kz:z.h.k=((ts.length+1:Nat):Int))(kp:z.p.k=92)(hH:∀v,z.h.Lang z.h.s v->∃x u,v=x::u/\x<ts.length)
   {rh:Option Hst} {rp:Option (List UInt8)} (h1:oB ts (z.h.Lang z.h.s) rh) (h2:∀g,rh=some g->g.ok) (h3:j6 (z.p.Lang z.p.s) rp):
   (zc z rh rp=none/\∀q:Req,q.ok->hasB ts z q=false)\/∃r,zc z rh rp=some r/\r.ok/\hasB ts z r=true/\r.host.name.length <=300/\r.path.length <=2048/\∀q:Req,q.ok->hasB ts z q=true->(dj r.host).length <=(dj q.host).length/\r.path.length <=q.path.length:=by
 have hK:z.h.K=ts.length+1:=by unfold DA.K;rw[kz];exact Int.toNat_natCast _
 have hP:z.p.K=92:=by unfold DA.K;rw[kp];rfl
 have hL:∀v,z.h.Lang z.h.s v->∀x∈v,x<ts.length+1:=λv hv x hx=>by rw[<- hK];exact hv.1 x hx
 have hQ:∀v,z.p.Lang z.p.s v->∀x∈v,x<92:=λv hv x hx=>by rw[<- hP];exact hv.1 x hx
 have rq:∀{q:Req},mi q=true->br q.host=true/\jn q.path=true/\0 <=q.cross/\q.cross <=2:=fun{q} h=>by
   unfold mi at h
   simp only[Bool.and_eq_true,dTx]at h
   exact⟨h.1,h.2.1,h.2.2.1,h.2.2.2⟩
 have no:(∀q:Req,q.ok->hasB ts z q=true->False)->∀q:Req,q.ok->hasB ts z q=false:=λh q o=>by
   rw[Bool.eq_false_iff];exact λhc=>h q o hc
 cases rh with
 | none=>
   refine .inl ⟨rfl,no λq o hc=>?_⟩
   obtain⟨a1,_,_,a4,_⟩:=(tY oh op q).1 hc
   exact LO hp hl hH h1 o (rq a1).1 a4
 | some g=>
   cases rp with
   | none=>
     refine .inl ⟨rfl,no λq o hc=>?_⟩
     obtain⟨a1,_,_,_,a5⟩:=(tY oh op q).1 hc
     exact Hg hQ h3 (rq a1).2.1 a5
   | some t=>
     have og:=h2 g rfl
     obtain⟨f1,f2,f3⟩:=Km hp hl hH hL h1
     obtain⟨t1,t2,t3⟩:=EI hQ h3
     by_cases hc:vw z.sch 0<0\/vw z.crs 0<0
     · refine .inl ⟨if_pos hc,no λq o hq=>?_⟩
       obtain⟨_,a2,a3,_,_⟩:=(tY oh op q).1 hq
       rcases hc with hc|hc
       · have hc:vw [z.s0,z.s1] 0<0:=hc
         revert hc a2
         generalize z.s0=A;generalize z.s1=B;generalize q.sec=C
         revert A B C;decide
       · have hc:vw [z.c0,z.c1,z.c2] 0<0:=hc
         revert hc a3
         generalize z.c0=A;generalize z.c1=B;generalize z.c2=C
         intro a3 hc
         by_cases e0:q.cross=0
         · rw[if_pos e0]at a3;subst a3;exact absurd hc (by simp[vw])
         · rw[if_neg e0]at a3
           by_cases e1:q.cross=1
           · rw[if_pos e1]at a3;subst a3;revert hc;revert A C;decide
           · rw[if_neg e1]at a3;subst a3;revert hc;revert A B;decide
     · have e:zc z (some g) (some t)=some ⟨vw z.sch 0==1,g,t,vw z.crs 0⟩:=if_neg hc
       have hs:(if(vw [z.s0,z.s1] 0==1)=true then z.s1 else z.s0)=true:=by
         have hc: ¬ (vw [z.s0,z.s1] 0<0):=λh=>hc (.inl h)
         revert hc
         generalize z.s0=A;generalize z.s1=B
         revert A B;decide
       have hx:(if vw [z.c0,z.c1,z.c2] 0=0 then z.c0 else if vw [z.c0,z.c1,z.c2] 0=1 then z.c1 else z.c2)=true/\0 <=vw [z.c0,z.c1,z.c2] 0/\vw [z.c0,z.c1,z.c2] 0 <=2:=by
         have hc: ¬ (vw [z.c0,z.c1,z.c2] 0<0):=λh=>hc (.inr h)
         revert hc
         generalize z.c0=A;generalize z.c1=B;generalize z.c2=C
         revert A B C;decide
       have hreq:mi ⟨vw z.sch 0==1,g,t,vw z.crs 0⟩=true:=by
         unfold mi
         show(br g&&(jn t&&(decide (vw [z.c0,z.c1,z.c2] 0 >=0)&&decide (vw [z.c0,z.c1,z.c2] 0 <=2))))=true
         rw[f1,t1,decide_eq_true hx.2.1,decide_eq_true hx.2.2];rfl
       have gn:g.name.length <=300:=by
         have h8:=Pu og f1
         have h9:=BX og f1
         by_cases gk:g.kind=1
         · have:=(jq og gk f1).2.2.2.1
           omega
         · have:=KZ og gk f1
           omega
       refine .inr ⟨_,e,og,(tY oh op _).2 ⟨hreq,hs,hx.1,f2,t2⟩,gn,(jo t1).2.2,λq o hq=>?_⟩
       obtain⟨a1,_,_,a4,a5⟩:=(tY oh op q).1 hq
       exact⟨f3 q.host o (rq a1).1 a4,t3 q.path (rq a1).2.1 a5⟩
theorem JP {ts:List Txt}(htl:ts.length <=60){x y:Rgn}{h p:DA}(t:RgT ts x y)(mh:oC x.h y.h h)(mp:oC x.p y.p p):hB ts h=true/\pB p=true/\Few h (Bi ts)/\Few p (dE [47]):=by
 obtain⟨oh,kh⟩:=mh.ok
 obtain⟨op,kp⟩:=mp.ok
 have nh:=mh.len t.fh
 have np:=mp.len t.fp
 obtain⟨b1,b2,_,b4⟩:=qk (s:=[47]) (by decide)
 have b4:(dE [47]).n <=3:=b4
 have k1:h.k=(ts.length:Int)+1:=by rw[kh,t.kx];omega
 refine⟨?_,?_,zm oh (Fe htl) (k1.trans (I6 ts).symm) ?_,zm op b1 ((kp.trans t.kp).trans b2.symm) ?_⟩
 · unfold hB;rw[di.2 oh,decide_eq_true k1];rfl
 · unfold pB;rw[di.2 op,decide_eq_true (kp.trans t.kp)];rfl
 · show h.n*4 <=65536;omega
 · exact Nat.le_trans (Nat.mul_le_mul np b4) (by decide)
theorem L9 {ts:List Txt}(hp:ts.Pairwise (· < ·))(htl:ts.length <=60){k:Cas}(o:k.ok){x y:Rgn}(h:Rg2 ts k x y)(t:RgT ts x y){z:DA}(mh:oC x.h y.h z)(v:List Nat)(hv:z.Lang z.s v):∃a u,v=a::u/\a<ts.length:=by
 have h1:=((mh.lang t.kh v).1 hv).1
 obtain⟨kc,rfl,_⟩:=h
 exact MB hp htl o.1 kc h1
set_option maxHeartbeats 1000000 in
theorem DG {w:World}(he:Env w){a:Option Addr}{n c:Nat}{l:List Txt}(hs:Sl tS w kj a n c l){k:Cas}(o:k.ok){q:Req}(oq:q.ok):
   Cf oJ #[.slice a n c,k.v,q.v] w (Ret λv w'=>v=.bool true/\bW w w'):=by
 apply uo
 refine Ff he hs o oq (K:=λv w'=>v=.bool true/\bW w w') _ (λw' h=>⟨rfl,h⟩) ?_
 intro k4 k5 k7 k8 p k11 W x y z X1 X2 Y1 Y2 Z1 Z2 F
 have htl:(pZ l).length <=16:=Nat.le_trans (sq l) F.ll
 have g1:=F.cn
 have g2:=F.cp
 have g3:=F.pn
 have g5:=F.qn
 have g6:=F.qp
 obtain⟨hh,hp,fh,fp⟩:=JP (by omega) F.rt F.mh F.mp
 have Z:=fun(r:Req) (or:r.ok)=>F.has o (r:=r) or
 refine⟨_,aE.load0 F.a11 rfl,?_⟩
 refine ax (mg (he.step F.bel) F.al (by omega) F.lx F.sz hh hp fh fp) ?_
 rintro _ w61 ⟨b61,rh,rp,hL,hok,hP,rfl⟩
 have B61:=ab F.bel b61 F.bel.size
 obtain⟨rq,bb,e1,e2,orq,hc⟩:∃(rq:Req) (bb:Bool),(zc z rh rp).getD Gt=rq/\(zc z rh rp).isSome=bb/\rq.ok/\(bb=false/\rq=Gt/\(∀q:Req,q.ok->hasB (pZ l) z q=false)\/bb=true/\hasB (pZ l) z rq=true/\rq.host.name.length <=300/\rq.path.length <=2048/\∀q:Req,q.ok->hasB (pZ l) z q=true->(dj rq.host).length <=(dj q.host).length/\rq.path.length <=q.path.length):=by
   rcases Qo (xy l) (by omega) F.mh.ok.1 F.mp.ok.1 (F.mh.ok.2.trans F.rt.kx) (F.mp.ok.2.trans F.rt.kp) (L9 (xy l) (by omega) o F.r2 F.rt F.mh) hL hok hP with⟨en,hno⟩|⟨r,er,or,hr,gn,tn,hmin⟩
   · rw[en];exact⟨Gt,false,rfl,rfl,rfl,.inl ⟨rfl,rfl,hno⟩⟩
   · rw[er];exact⟨r,true,rfl,rfl,or,.inr ⟨rfl,hr,gn,tn,hmin⟩⟩
 rw[e1,e2]
 clear e1 e2 hL hok hP
 refine⟨_,bb,0,rfl,?_⟩
 intro k13 w13 hk13 hw13
 have b13:=(hw13▸ah w61 _:bW w61 w13)
 obtain⟨wx,q1,v13,gr⟩:=bQ.store0 (P:=prog) (cs:=rq.cells) (Req.len orq) (Req.one _) (am.new hk13 hw13:am w13 k13 aq Gt.cells) rfl
 have bx:bW w61 wx:=Below.put b13 gr (by omega)
 have Bx:=ab B61 bx B61.size
 have bWx:=ab b61 bx b61.size
 have A4:=F.a4.below bWx
 have A5:=F.a5.below bWx
 clear gr b13 hk13 hw13
 have lc:=fun{u:World} (hu:bW wx u)=>uQ.load (P:=prog) (A4.below hu) (i:=0) (us:=k.c.cells) (Cky.len o.1) (λj hj=>by rw[Nat.zero_add];exact ql o hj)
 have lb:=fun{u:World} (hu:bW wx u)=>(A4.below hu).load1 (P:=prog) kZ rfl (i:=26) ((ql o (by decide)).trans (cO o.1 6))
 have lp:=fun{u:World} (hu:bW wx u)=>Ac.load (P:=prog) (A4.below hu) (i:=29) (us:=k.p.cells) (Pat.len o.2) (λj hj=>BP o j)
 have lq:=fun{u:World} (hu:bW wx u)=>bQ.load0 (P:=prog) (A5.below hu) (Req.len oq)
 have lr:=fun{u:World} (hu:bW wx u)=>bQ.load0 (P:=prog) (v13.below hu) (Req.len orq)
 have b0:=Below.refl wx.heap.size wx
 refine⟨wx,q1,λb u=>bW wx u/\b=hasB (pZ l) z q,⟨rfl,_,lc b0,_,lq b0,rfl,rfl,_,lb b0,?_⟩,λb16=>aC.of ?_ _⟩
 · refine ax (om o.1 oq (by omega) (by omega) (by omega) (by omega) k.c.born wx) ?_
   rintro _ w71 ⟨rfl,b71⟩
   refine⟨_,rfl,ae.of (λh=>⟨rfl,_,lp b71,_,lq b71,?_⟩) (λh=>⟨b71,by rw[Z q oq,h];rfl⟩)⟩
   refine ax (kU o.2 oq (by omega) (by omega) (by omega) w71) ?_
   rintro _ w76 ⟨rfl,b76⟩
   exact⟨_,rfl,ab b71 b76 b71.size,by rw[Z q oq,h];rfl⟩
 rintro wj ⟨bj,rfl⟩
 have Bj:=ab Bx bj Bx.size
 refine⟨λu=>u=wj/\bb=true,⟨λb u=>u=wj/\b= !bb,ae.no rfl (ae.no rfl ⟨rfl,rfl⟩),λb87=>aC.of ?_ _⟩,aC.of ?_ _⟩
 · rintro u ⟨hu,rfl⟩
   rw[hu];clear hu u
   refine ae.of (λh=>?_) (λh=>⟨rfl,by simpa using h⟩)
   rcases hc with⟨_,e,hno⟩|⟨e,_⟩
   · refine ae.yes rfl (ae.yes rfl (ae.yes (by rw[hno q oq];rfl) ⟨_,lr bj,_,Mu (c:=rq) (d:=Gt) orq rfl wj,?_,Bj⟩))
     rw[(CT (v:=Gt) orq rfl).2 e]
   · rw[e]at h;cases h
 rintro u ⟨hu,hb⟩
 rw[hu];clear hu u
 rcases hc with⟨e,_⟩|⟨_,hr,gn,tn,hmin⟩
 · rw[hb]at e;cases e
 have hz:=Z rq orq
 rw[hr]at hz
 have hg:Ct k.c rq k.c.born=true:=by
   cases h:Ct k.c rq k.c.born with
   | true=>rfl
   | false=>rw[h]at hz;cases hz
 have hcv:(mi rq&&sE k.p rq)=true:=by rw[hg]at hz;exact hz.symm
 refine⟨λV=>bW wj V,⟨rfl,_,lc bj,_,lr bj,rfl,rfl,_,lb bj,?_⟩,aC.of ?_ _⟩
 · refine ax (om o.1 orq (by omega) (by omega) (by omega) (by omega) k.c.born wj) ?_
   rintro _ w109 ⟨rfl,b109⟩
   have bj2:=ab bj b109 bj.size
   refine⟨_,rfl,ae.no (by rw[hg];rfl) ⟨rfl,_,lp bj2,_,lr bj2,?_⟩⟩
   refine ax (kU o.2 orq (by omega) (by omega) (by omega) w109) ?_
   rintro _ w115 ⟨rfl,b115⟩
   exact⟨_,rfl,ae.no (by rw[hcv];rfl) (ab b109 b115 b109.size)⟩
 rintro V bV
 have BV:=ab Bj bV Bj.size
 have bjV:=ab bj bV bj.size
 have fin:∀{wq:World},bW V wq->bW w wq:=λhq=>ab BV hq BV.size
 refine ae.of (λh wq hq=>⟨rfl,fin hq⟩) (λh=>?_)
 have hq:hasB (pZ l) z q=true:=by simpa using h
 obtain⟨m1,m2⟩:=hmin q oq hq
 have up:=fun{u:World} (hu:bW V u)=>ab bjV hu bjV.size
 refine⟨rfl,_,λu hu=>aJ.load (v13.below (up hu)) (i:=1) (us:=rq.host.cells) (Hst.len orq) (λj hj=>jp orq hj),dj rq.host,λu hu=>?_,rfl,_,λu hu=>aJ.load (A5.below (up hu)) (i:=1) (us:=q.host.cells) (Hst.len oq) (λj hj=>jp oq hj),dj q.host,λu hu=>?_,ae.yes (decide_eq_true (by omega)) ⟨rfl,rq.path,λu hu=>(v13.below (up hu)).load1 aA rfl (i:=19) (cK orq 0),rfl,q.path,λu hu=>(A5.below (up hu)).load1 aA rfl (i:=19) (cK oq 0),λwq hq=>⟨by rw[decide_eq_true (by omega)],fin hq⟩⟩⟩
 · refine(kT orq u).mono ?_
   rintro e w' ⟨v,rfl,rfl,hb⟩
   exact⟨rfl,hb.mono hu.size⟩
 · refine(kT oq u).mono ?_
   rintro e w' ⟨v,rfl,rfl,hb⟩
   exact⟨rfl,hb.mono hu.size⟩
end Go.Pk
