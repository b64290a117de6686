/- What the laws lean on: V4, UrlA, UrlB, MatA, Elem, OpR, ScrP, MapG, KeyS, V20, WrdE, WrdF, Fnv; what is used. Its conditions: none. -/
import Derived.Test.YtikdahhdhchlfaaGreatDoorKE
import Derived.Lib.LastIndexByte
import Derived.Lib.Join
open Go.IntKind (i64)
open Go.Proofs.Tryz
set_option linter.unusedVariables false
set_option maxRecDepth 100000
open List (length)
open Option (isSome)
namespace Go.Pk
open Go.RowKit (Below)
open Go.Proofs
theorem zv (a:Option Addr)(b c:Nat){w K}(h:nA w (.map #[] 0) λd e=>∃f g i j,(Instr.makeSlice bw (vI 1) (vI 1)).run prog e=.ok (.slice g i j) f/\nA f (.cells #[.map (some d),.slice g i j] aO) λk l=>∃m:Nat->FP [.one (.int .i64)],(∃n,m n (0:Int) l)/\∀n o,aX 28 (∀p,m n o p->ab (decide (o<((b:Nat):Int))) ((bx o ((b:Nat):Int)/\Option.isSome a=true)/\∃q r,Ld aG (an a o 2) p (.agg #[vI q,vS r])/\nA p (.cells #[vI 0,vS []] aG) λs t=>∃u,Sv aG (vA s 0) (.agg #[vI q,vS r]) t u/\∃v x,Ld aG (vA s 0) u (.agg #[vI v,vS x])/\uS qI #[.agg #[vI v,vS x]] u λy z=>Cf qH #[vS y] z λA B=>∃C D E F,A=rT #[.agg #[vI C,vS D],.bool E,vI F]/\nA B (.cells #[vI 0,vS []] aG) λG H=>∃I,Sv aG (vA G 0) (.agg #[vI C,vS D]) H I/\∃J:FP [.one .bool],(ab (F==(0:Int)) (ab E (∃L M,Ld aG (vA G 0) I (.agg #[vI L,vS M])/\∃N O,Ld aG (vA s 0) I (.agg #[vI N,vS O])/\∃P,(do eqGuard .eql aG (.tmp 32) (.tmp 33) (.agg #[vI L,vS M]) (.agg #[vI N,vS O]);binOp .eql aG (.agg #[vI L,vS M]) (.agg #[vI N,vS O]):Sem Value).run prog I=.ok (.bool P) I/\J P I) (J false I)) (J false I))/\∀L,aX 9 (∀M,J L M->ab L (∃N O,Ld aG (vA s 0) M (.agg #[vI N,vS O])/\uU gK #[.pointer (vA k 0),.agg #[vI N,vS O]] M λP=>∃Q:Nat,Q<n/\m Q (i64.wrap (o+(1:Int))) P) (∃N:Nat,N<n/\m N (i64.wrap (o+(1:Int))) M))) (K (.pointer (vA k 0)) p))):Cf kl #[.slice a b c] w (Ret K):=ru func15 [(8,[(15,.one (.int .i64))]),(21,[(35,.one .bool)])] h
theorem BG (a:lU){w K}(h:nA w (.cells #[vI 0,vS []] aG) λb c=>uS gx #[vS a] c λd e=>∃f:FP [],(∃g:FP [.one .bool],(ab (d==[]) (g true e) (uB dy #[vS d,vS [47,47]] e λi j=>g i j))/\∀i,aX 5 (∀j,g i j->ab i (∃k,Sv aG (vA b 0) (.agg #[vI 0,vS []]) j k/\∃l m,Rv aG (vA b 0) k (.agg #[vI l,vS m])/\K (.tuple #[.agg #[vI l,vS m],.bool false,vI 0]) k) (f j)))/\aX 9 (∀g,f g->∃i:FP [.one .str],(uI dI #[vS d,vS [32,9]] g λj k=>ab (decide (j >=(0:Int))) (bd j (((List.length d):Nat):Int)/\∀l,l=(List.take (Int.toNat j) d)->i l k) (i d k))/\∀j,aX 8 (∀k,i j k->Cf mg #[vS j] k λl m=>∃n o,l=rT #[vI n,vS o]/\Cf ft #[vS o] m λp q=>∃r s,p=rT #[r,vI s]/\nA q (.cells bF ae) λt u=>∃v,Sv ae (vA t 0) r u v/\∃x:FP [],(∃y:FP [.one .bool],(ab (s !=(0:Int)) (y true v) (true/\∃z,Ld bp (vA t 0) v (vI z)/\ab (z !=(1:Int)) (y true v) (ab (n==(3:Int)) (∃A,Ld ae (vA t 0) v A/\uL bO #[A] v λB C D E=>y (decide (((C:Nat):Int)<(2:Int))) E) (y false v))))/\∀z,aX 16 (∀A,y z A->ab z (∃B,Sv aG (vA b 0) (.agg #[vI 0,vS []]) A B/\∃C D,Rv aG (vA b 0) B (.agg #[vI C,vS D])/\K (.tuple #[.agg #[vI C,vS D],.bool false,vI 51]) B) (x A)))/\aX 20 (∀y,x y->true/\∃z,Ld ah (vA t 1) y (vS z)/\∃A,Sv aG (vA b 0) (.agg #[vI n,vS z]) y A/\∃B C,Rv aG (vA b 0) A (.agg #[vI B,vS C])/\K (.tuple #[.agg #[vI B,vS C],.bool true,vI 0]) A)))):Cf qH #[vS a] w (Ret K):=ru func30 [(4,[]),(5,[(17,.one .bool)]),(12,[(0,.one .str)]),(24,[]),(25,[(52,.one .bool)])] h
theorem BH (a:Int)(b:lU){w K}(h:nA w (.cells #[vI a,vS b] aG) λc d=>true/\∃e,(∀f,bW d f->Ld bp (vA c 0) f (vI e))/\∃f,(∀g,bW d g->Cf mh #[vI e] g λi j=>i=.returned (vS f)/\Below d.heap.size g j)/\true/\∃g,(∀i,bW d i->Ld ah (vA c 1) i (vS g))/\(((List.length f+List.length g:Nat):Int) <=i64.max)/\∀i,i=(f++g)->∀j,bW d j->K (vS i) j):Cf qI #[.agg #[vI a,vS b]] w (Ret K):=ru func31 [] h
theorem pN (a:Option Addr)(b:Int)(c:lU){w K}(h:nA w (.cells #[vI b,vS c] aG) λd e=>true/\∃f,Ld ah (vA d 1) e (vS f)/\uL cY #[vS f,.int .u8 46] e λg i j k=>∃l:Nat->FP [.one (.int .i64),.one (.int .i64)],(∃m,l m (0:Int) (i64.wrap (((i:Nat):Int)-(1:Int))) k)/\∀m n o,aX 50 (∀p,l m n o p->ab (decide (o >=(0:Int))) ((bx o ((i:Nat):Int)/\Option.isSome g=true)/\∃q,Ld ah (an g o 1) p (vS q)/\nA p (.cells #[vI 0,vS []] cd) λr s=>∃t,Sv cd (vA r 0) (.agg #[vI n,vS q]) s t/\∃u:FP [],((Option.isSome a=true)/\(Option.isSome a=true)/\∃v,(∀x,bW t x->Ld bj (Option.map (λy=>y.add 0) a) x (.map v))/\∃x y,(∀z,bW t z->Ld cd (vA r 0) z (.agg #[vI x,vS y]))/\∃z A,(∀B,bW t B->(Instr.lookup bj (.map v) (.agg #[vI x,vS y]) true).run prog B=.ok (.tuple #[vI z,.bool A]) B)/\∀B,bW t B->ab (!A) ((Option.isSome a=true)/\(Option.isSome a=true)/\∃C,(∀D,bW B D->Ld bj (Option.map (λE=>E.add 0) a) D (.map C))/\∃D E,(∀F,bW B F->Ld cd (vA r 0) F (.agg #[vI D,vS E]))/\(Option.isSome a=true)/\(Option.isSome a=true)/\∃F G H,(∀I,bW B I->Ld bw (Option.map (λJ=>J.add 1) a) I (.slice F G H))/\∀I,bW B I->∃J,(Instr.mapUpdate bj (.map C) (.agg #[vI D,vS E]) (vI ((G:Nat):Int))).run prog I=.ok () J/\(Option.isSome a=true)/\(Option.isSome a=true)/\∃L M N,Ld bw (Option.map (λO=>O.add 1) a) J (.slice L M N)/\nA J (.cells #[.bool false,.bool false,.bool false,.bool false] aZ) λO P=>∃Q R S T,(Builtin.append_ #[bw,bw] bw #[.slice L M N,.slice (vA O 0) 1 1]).run prog P=.ok (.slice R S T) Q/\(Option.isSome a=true)/\(Option.isSome a=true)/\∃U,Sv bw (Option.map (λV=>V.add 1) a) (.slice R S T) Q U/\u U) (u B))/\aX 33 (∀v,u v->(Option.isSome a=true)/\(Option.isSome a=true)/\∃x,(∀y,bW v y->Ld bj (Option.map (λz=>z.add 0) a) y (.map x))/\∃y z,(∀A,bW v A->Ld cd (vA r 0) A (.agg #[vI y,vS z]))/\∃A,(∀B,bW v B->(Instr.lookup bj (.map x) (.agg #[vI y,vS z]) false).run prog B=.ok (vI A) B)/\∀B,bW v B->∃C:Nat,C<m/\l C A (i64.wrap (o-(1:Int))) B)) ((Option.isSome a=true)/\(Option.isSome a=true)/\∃q r s,(∀t,bW p t->Ld bw (Option.map (λu=>u.add 1) a) t (.slice q r s))/\true/\∃t,(∀u,bW p u->Ld bp (vA d 0) u (vI t))/\(bx n ((r:Nat):Int)/\Option.isSome q=true)/\(bx t ((4:Nat):Int)/\isSome (an q n 4))/\∀u,bW p u->∃v,Sv bX (an (an q n 4) t 1) (.bool true) u v/\K (.tuple #[]) v))):Cf gK #[.pointer a,.agg #[vI b,vS c]] w (Ret K):=ru func32 [(10,[(4,.one (.int .i64)),(6,.one (.int .i64))]),(21,[]),(2000028,[(10,.one .bool)]),(2000033,[(9,.one .bool)])] h
theorem BM (a:Value){w K}(h:nA w (.cells (Value.cells a) ba) λb c=>true/\∃d,Ld ae (vA b 1) c d/\uB eC #[d] c λe f=>ab e (true/\∃g,Ld bp (vA b 19) f (vI g)/\ab (decide (g >=(1:Int))) (true/\∃i,Ld bp (vA b 19) f (vI i)/\ab (decide (i <=(65535:Int))) (true/\∃j,Ld ah (vA b 20) f (vS j)/\uB lu #[vS j] f λk l=>K (.bool k) l) (K (.bool false) f)) (K (.bool false) f)) (K (.bool false) f)):Cf jQ #[a] w (Ret K):=ru func41 [] h
theorem Dw (a:lU){w K}(h:∃b:FP [],(ab (a==[]) (K (.bool false) w) (ab (decide (((List.length a:Nat):Int)>(2048:Int))) (K (.bool false) w) (bx (0:Int) ((List.length a:Nat):Int)/\ab ((dp a (0:Int)) !=(47:Int)) (K (.bool false) w) (b w))))/\aX 13 (∀c,b c->∃d e f g,(convert ah bf (vS a)).run prog c=.ok (.slice e f g) d/\∃i:Nat->FP [.one (.int .i64)],(∃j,i j (0:Int) d)/\∀j k,aX 20 (∀l,i j k l->ab (decide (k<((f:Nat):Int))) ((bx k ((f:Nat):Int)/\Option.isSome e=true)/\∃m,Ld bI (an e k 1) l (.int .u8 m)/\ab (decide (m<(33:Int))) (K (.bool false) l) (ab (decide (m>(126:Int))) (K (.bool false) l) (ab (m==(63:Int)) (K (.bool false) l) (ab (m==(35:Int)) (K (.bool false) l) (∃n:Nat,n<j/\i n (i64.wrap (k+(1:Int))) l))))) (K (.bool true) l)))):Cf lu #[vS a] w (Ret K):=ru func43 [(2,[]),(14,[(20,.one (.int .i64))])] h
theorem zb (a:Option Addr)(b:Value)(c d e f:lU)(g:Bool)(i:Int)(j:Bool)(k:Int)(l m:Bool)(n o:Int){w K}(h:nA w (.cells (Value.cells b) ba) λp q=>nA q (.cells #[vS c,vS d,vS e,vS f,.bool g,vI i,.bool j,vI k,.bool l,.bool m,vI n] aq) λr s=>nA s (.cells cy af) λt u=>∃v,Ld ba (vA p 0) u v/\∃x y z A B C D E F G H,Ld aq (vA r 0) u (hV x y z A B C D E F G H)/\uI lS #[v,(hV x y z A B C D E F G H),vI o] u λI J=>ab (I !=(0:Int)) (∃L,Sv af (vA t 0) (.agg cy) J L/\∃M,Rv af (vA t 0) L M/\K (.tuple #[M,vI I]) L) (true/\∃L,Ld ae (vA p 1) J L/\true/\∃M,Ld ah (vA r 2) J (vS M)/\Cf kN #[.pointer a,L,vS M] J λN O=>∃P Q R,N=rT #[P,.bool Q,vI R]/\nA O (.cells bF ae) λS T=>∃U,Sv ae (vA S 0) P T U/\∃V:FP [.one (.int .i64)],(ab (R !=(0:Int)) (V R U) (∃X:FP [.one .bool],(true/\∃Y,Ld bX (vA r 8) U (.bool Y)/\ab Y (true/\∃Z,Ld bX (vA p 0) U (.bool Z)/\X (!Z) U) (X false U))/\∀Y,aX 7 (∀Z,X Y Z->ab Y (V (104:Int) Z) (∃ac:FP [.one .bool],(true/\∃ad,Ld bp (vA r 10) Z (vI ad)/\ab (ad==(1:Int)) (true/\∃ag,Ld bX (vA r 8) Z (.bool ag)/\ac (!ag) Z) (ac false Z))/\∀ad,aX 8 (∀ag,ac ad ag->ab ad (V (105:Int) ag) (∃aj al bb bc bd bk bo bq bs bx ca,Ld aq (vA r 0) ag (hV aj al bb bc bd bk bo bq bs bx ca)/\uB kL #[(hV aj al bb bc bd bk bo bq bs bx ca),.bool Q] ag λcb cc=>ab cb (V (106:Int) cc) (V R cc)))))))/\∀X,aX 24 (∀Y,V X Y->ab (X !=(0:Int)) (∃Z,Sv af (vA t 0) (.agg cy) Y Z/\∃ac,Rv af (vA t 0) Z ac/\K (.tuple #[ac,vI X]) Z) (true/\∃Z,Ld ah (vA r 3) Y (vS Z)/\∃ac:FP [.one .str],(ab (Z==[]) (true/\∃ad,Ld ah (vA p 20) Y (vS ad)/\uS jN #[vS ad] Y λag aj=>ac ag aj) (ac Z Y))/\∀ad,aX 5 (∀ag,ac ad ag->true/\∃aj,(∀al,bW ag al->Ld ah (vA r 0) al (vS aj))/\true/\∃al,(∀bb,bW ag bb->Ld ah (vA r 1) bb (vS al))/\∃bb,(∀bc,bW ag bc->Ld ae (vA S 0) bc bb)/\true/\∃bc,(∀bd,bW ag bd->Ld bX (vA r 8) bd (.bool bc))/\true/\∃bd,(∀bk,bW ag bk->Ld bX (vA r 9) bk (.bool bd))/\true/\∃bk,(∀bo,bW ag bo->Ld bp (vA r 10) bo (vI bk))/\∃bo bq bs bx ca cb cc ce cf ch ck,(∀cl,bW ag cl->Ld aq (vA r 0) cl (hV bo bq bs bx ca cb cc ce cf ch ck))/\∃cl,(∀cm,bW ag cm->Cf jH #[(hV bo bq bs bx ca cb cc ce cf ch ck),vI o] cm λcn cp=>cn=.returned (vI cl)/\Below ag.heap.size cm cp)/\∃cm,(∀cn,bW ag cn->(Instr.build af #[(0,vS aj),(1,vS al),(2,bb),(3,.bool Q),(4,vS ad),(5,.bool bc),(6,.bool bd),(7,vI bk),(8,vI cl),(9,vI o),(10,vI o)]).run prog cn=.ok cm cn)/\∀cn,bW ag cn->∃cp,Sv af (vA t 0) cm cn cp/\∃cr,Rv af (vA t 0) cp cr/\K (.tuple #[cr,vI 0]) cp))))):Cf kh #[.pointer a,b,.agg #[vS c,vS d,vS e,vS f,.bool g,vI i,.bool j,vI k,.bool l,.bool m,vI n],vI o] w (Ret K):=ru func61 [(14,[(13,.one (.int .i64))]),(20,[(36,.one .bool)]),(24,[(44,.one .bool)]),(43,[(14,.one .str)]),(2000050,[(19,.one .bool)])] h
theorem xQ (a b:Value)(c:Int){w K}(h:nA w (.cells (Value.cells a) af) λd e=>nA e (.cells (Value.cells b) aR) λf g=>true/\∃i,Ld bu (vA d 25) g (vI i)/\ab (decide (c<i)) (true/\∃j,Ld bX (vA f 0) g (.bool j)/\ab j (true/\∃k,Ld bp (vA d 24) g (vI k)/\true/\∃l,Ld bp (vA f 20) g (vI l)/\uB fu #[vI k,vI l] g λm n=>ab m (true/\∃o,Ld ah (vA f 19) n (vS o)/\true/\∃p,Ld ah (vA d 21) n (vS p)/\uB gw #[vS o,vS p] n λq r=>ab q (∃s,Ld af (vA d 0) r s/\true/\∃t,Ld ae (vA f 1) r t/\uB ln #[s,t] r λu v=>K (.bool u) v) (K (.bool false) r)) (K (.bool false) n)) (true/\∃k,Ld bX (vA d 22) g (.bool k)/\ab (!k) (true/\∃l,Ld bp (vA d 24) g (vI l)/\true/\∃m,Ld bp (vA f 20) g (vI m)/\uB fu #[vI l,vI m] g λn o=>ab n (true/\∃p,Ld ah (vA f 19) o (vS p)/\true/\∃q,Ld ah (vA d 21) o (vS q)/\uB gw #[vS p,vS q] o λr s=>ab r (∃t,Ld af (vA d 0) s t/\true/\∃u,Ld ae (vA f 1) s u/\uB ln #[t,u] s λv x=>K (.bool v) x) (K (.bool false) s)) (K (.bool false) o)) (K (.bool false) g))) (K (.bool false) g)):Cf mc #[a,b,vI c] w (Ret K):=ru func70 [] h
theorem xP (a b:Value){w K}(h:nA w (.cells (Value.cells a) af) λc d=>nA d (.cells (Value.cells b) af) λe f=>true/\∃g,Ld ah (vA c 21) f (vS g)/\true/\∃i,Ld ah (vA e 21) f (vS i)/\ab (((List.length g:Nat):Int) !=((List.length i:Nat):Int)) (true/\∃j,Ld ah (vA c 21) f (vS j)/\true/\∃k,Ld ah (vA e 21) f (vS k)/\K (.bool (decide (((List.length j:Nat):Int)>((List.length k:Nat):Int)))) f) (true/\∃j,Ld bp (vA c 28) f (vI j)/\true/\∃k,Ld bp (vA e 28) f (vI k)/\K (.bool (decide (j<k))) f)):Cf mb #[a,b] w (Ret K):=ru func73 [] h
theorem xV (a:lU){w K}(h:∃b:Nat->FP [.one (.int .i64)],(∃c,b c (0:Int) w)/\∀c d,aX 18 (∀e,b c d e->ab (decide (d<(2:Int))) (∃f,(Instr.index Gx (.agg #[vI 2,vI 3]) (vI d)).run prog e=.ok (vI f) e/\uS mh #[vI f] e λg i=>Cf bS #[vS a,vS g] i λj k=>∃l m,j=rT #[vS l,.bool m]/\ab m (K (.tuple #[vI f,vS l]) k) (∃n:Nat,n<c/\b n (i64.wrap (d+(1:Int))) k)) (K (.tuple #[vI 1,vS a]) e))):Cf mg #[vS a] w (Ret K):=ru func79 [(6,[(9,.one (.int .i64))])] h
def uG (a:Int)(b:World)(c:VP):Prop:=ab (a==(2:Int)) (c (vS [42,46]) b) (ab (a==(3:Int)) (c (vS [33]) b) (c (vS []) b))
theorem BI (a:Int){w K}(h:uG a w K):Cf mh #[vI a] w (Ret K):=ru func82 [] h
theorem xE (a:Value)(b c d e:lU)(f:Bool)(g:Int)(i:Bool)(j:Int)(k l:Bool)(m n:Int){w K}(h:nA w (.cells (Value.cells a) ba) λo p=>nA p (.cells #[vS b,vS c,vS d,vS e,.bool f,vI g,.bool i,vI j,.bool k,.bool l,vI m] aq) λq r=>∃s,Ld ba (vA o 0) r s/\uB jQ #[s] r λt u=>ab (!t) (K (vI 41) u) (∃v x y z A B C D E F G,Ld aq (vA q 0) u (hV v x y z A B C D E F G)/\uB kO #[(hV v x y z A B C D E F G)] u λH I=>ab (!H) (K (vI 82) I) (ab (decide (n<(0:Int))) (K (vI 122) I) (ab (decide (n>(1099511627776:Int))) (K (vI 122) I) (K (vI 0) I))))):Cf lS #[a,.agg #[vS b,vS c,vS d,vS e,.bool f,vI g,.bool i,vI j,.bool k,.bool l,vI m],vI n] w (Ret K):=ru func118 [] h
theorem vu (a:Option Addr)(b:Value)(c:lU){w K}(h:nA w (.cells (Value.cells b) ae) λd e=>nA e (.cells bF ae) λf g=>ab (c==[]) (∃i,Ld ae (vA d 0) g i/\∃j,Sv ae (vA f 0) i g j/\∃k,Rv ae (vA f 0) j k/\K (.tuple #[k,.bool true,vI 0]) j) (Cf ft #[vS c] g λi j=>∃k l,i=rT #[k,vI l]/\nA j (.cells bF ae) λm n=>∃o,Sv ae (vA m 0) k n o/\∃p:FP [],(ab (l !=(0:Int)) (∃q,Ld ae (vA m 0) o q/\∃r,Sv ae (vA f 0) q o r/\∃s,Rv ae (vA f 0) r s/\K (.tuple #[s,.bool false,vI 101]) r) (∃q:FP [.one .bool],(∃r,Ld ae (vA m 0) o r/\uB cz #[.pointer a,r] o λs t=>ab s (∃u,Ld ae (vA m 0) t u/\∃v,Ld ae (vA d 0) t v/\∃x,(do eqGuard .neq ae (.tmp 28) (.tmp 29) u v;binOp .neq ae u v:Sem Value).run prog t=.ok (.bool x) t/\q x t) (q false t))/\∀r,aX 8 (∀s,q r s->ab r (∃t,Ld ae (vA m 0) s t/\∃u,Sv ae (vA f 0) t s u/\∃v,Rv ae (vA f 0) u v/\K (.tuple #[v,.bool false,vI 102]) u) (∃t,Ld ae (vA d 0) s t/\∃u,Ld ae (vA m 0) s u/\uB eT #[t,u] s λv x=>ab (!v) (∃y,Ld ae (vA m 0) x y/\∃z,Sv ae (vA f 0) y x z/\∃A,Rv ae (vA f 0) z A/\K (.tuple #[A,.bool false,vI 103]) z) (p x)))))/\aX 22 (∀q,p q->(∃r,Ld ae (vA m 0) (World.drew q) r/\∃s,Ld ae (vA m 0) (World.drew q) s/\uB cz #[.pointer a,s] (World.drew q) λt u=>∃v,Sv ae (vA f 0) r u v/\∃x,Rv ae (vA f 0) v x/\K (.tuple #[x,.bool t,vI 0]) v)/\∃r,Ld ae (vA m 0) (World.drew q) r/\(∃s,Ld ae (vA m 0) (World.drew q) s/\uB cz #[.pointer a,r] (World.drew q) λt u=>∃v,Sv ae (vA f 0) s u v/\∃x,Rv ae (vA f 0) v x/\K (.tuple #[x,.bool t,vI 0]) v)/\uB cz #[.pointer a,r] (World.drew q) λs t=>∃u,Ld ae (vA m 0) t u/\∃v,Sv ae (vA f 0) u t v/\∃x,Rv ae (vA f 0) v x/\K (.tuple #[x,.bool s,vI 0]) v))):Cf kN #[.pointer a,b,vS c] w (Ret K):=ru func119 [(12,[]),(20,[(23,.one .bool)])] h
theorem vq (a b c d:lU)(e:Bool)(f:Int)(g:Bool)(i:Int)(j k:Bool)(l:Int)(m:Bool){w K}(h:nA w (.cells #[vS a,vS b,vS c,vS d,.bool e,vI f,.bool g,vI i,.bool j,.bool k,vI l] aq) λn o=>true/\∃p,Ld ah (vA n 0) o (vS p)/\∃q:FP [.one .str],(ab (p==[]) (true/\∃r,Ld ah (vA n 1) o (vS r)/\q r o) (q p o))/\∀r,aX 4 (∀s,q r s->uI kK #[vS r] s λt u=>ab (t==(1:Int)) (true/\∃v,Ld bX (vA n 8) u (.bool v)/\K (.bool (!v)) u) (ab (t==(2:Int)) (true/\∃v,Ld bX (vA n 8) u (.bool v)/\ab (!v) (K (.bool true) u) (ab (!m) (K (.bool true) u) (true/\∃x,Ld ah (vA n 3) u (vS x)/\K (.bool (!(x==[47]))) u))) (K (.bool false) u)))):Cf kL #[.agg #[vS a,vS b,vS c,vS d,.bool e,vI f,.bool g,vI i,.bool j,.bool k,vI l],.bool m] w (Ret K):=ru func120 [(4,[(5,.one .str)])] h
theorem tI (a:lU){w K}(h:uI mj #[vS a,.int .u8 47] w λb c=>∃d:FP [.one .bool],(ab (decide (b>(0:Int))) (bx (0:Int) ((List.length a:Nat):Int)/\d ((dp a (0:Int))==(47:Int)) c) (d false c))/\∀e,aX 6 (∀f,d e f->ab e (bd b (((List.length a):Nat):Int)/\∀g,g=(List.take (Int.toNat b) a)->K (vS g) f) (K (vS [47]) f))):Cf jN #[vS a] w (Ret K):=ru func121 [(5,[(12,.one .bool)])] h
theorem tC (a b c d:lU)(e:Bool)(f:Int)(g:Bool)(i:Int)(j k:Bool)(l m:Int){w K}(h:nA w (.cells #[vS a,vS b,vS c,vS d,.bool e,vI f,.bool g,vI i,.bool j,.bool k,vI l] aq) λn o=>true/\∃p,Ld bX (vA n 6) o (.bool p)/\ab p (true/\∃q,Ld bu (vA n 7) o (vI q)/\K (vI (i64.wrap (m+q))) o) (true/\∃q,Ld bX (vA n 4) o (.bool q)/\ab q (true/\∃r,Ld bu (vA n 5) o (vI r)/\∃s,(Builtin.min_ #[bu,bu] bu #[vI r,vI (i64.wrap (m+(34560000:Int)))]).run prog o=.ok (vI s) o/\K (vI s) o) (K (vI 9223372036854775807) o))):Cf jH #[.agg #[vS a,vS b,vS c,vS d,.bool e,vI f,.bool g,vI i,.bool j,.bool k,vI l],vI m] w (Ret K):=ru func122 [] h
theorem vC (a b:Value){w K}(h:nA w (.cells (Value.cells a) ae) λc d=>nA d (.cells (Value.cells b) ae) λe f=>∃g,Ld ae (vA c 0) f g/\∃i,Ld ae (vA e 0) f i/\∃j,(do eqGuard .eql ae (.tmp 5) (.tmp 6) g i;binOp .eql ae g i:Sem Value).run prog f=.ok (.bool j) f/\ab j (∃k,Ld ae (vA c 0) f k/\uB eC #[k] f λl m=>ab l (K (.bool true) m) (∃n,Ld ae (vA c 0) m n/\∃o,Ld ae (vA e 0) m o/\uB iG #[n,o] m λp q=>K (.bool p) q)) (∃k,Ld ae (vA c 0) f k/\∃l,Ld ae (vA e 0) f l/\uB iG #[k,l] f λm n=>K (.bool m) n)):Cf eT #[a,b] w (Ret K):=ru func125 [] h
theorem zl (a b:lU){w K}(h:Cf bS #[vS a,vS b] w λc d=>∃e f,c=rT #[vS e,.bool f]/\ab f (ab (e==[]) (K (.bool true) d) (bx (0:Int) ((List.length e:Nat):Int)/\ab ((dp e (0:Int))==(47:Int)) (K (.bool true) d) (uB jP #[vS b,vS [47]] d λg i=>K (.bool g) i))) (K (.bool false) d)):Cf gw #[vS a,vS b] w (Ret K):=ru func126 [] h
theorem tJ (a b:Int){w K}(h:ab (b==(0:Int)) (K (.bool true) w) (ab (b==(1:Int)) (K (.bool (a !=(3:Int))) w) (ab (b==(2:Int)) (K (.bool (a==(1:Int))) w) (K (.bool false) w)))):Cf fu #[vI a,vI b] w (Ret K):=ru func137 [] h
theorem Du (a b:Value){w K}(h:nA w (.cells (Value.cells a) af) λc d=>nA d (.cells (Value.cells b) ae) λe f=>true/\∃g,Ld bX (vA c 20) f (.bool g)/\ab g (true/\∃i,Ld ae (vA c 2) f i/\∃j,Ld ae (vA e 0) f j/\∃k,(do eqGuard .eql ae (.tmp 8) (.tmp 9) i j;binOp .eql ae i j:Sem Value).run prog f=.ok (.bool k) f/\ab k (∃l,Ld ae (vA e 0) f l/\uB eC #[l] f λm n=>K (.bool m) n) (K (.bool false) f)) (∃i,Ld ae (vA e 0) f i/\true/\∃j,Ld ae (vA c 2) f j/\uB eT #[i,j] f λk l=>K (.bool k) l)):Cf ln #[a,b] w (Ret K):=ru func138 [] h
theorem BQ (a:Bool){w K}(h:ab a (K (.tuple #[vS [104,116,116,112,115,58,47,47],vI 443]) w) (K (.tuple #[vS [104,116,116,112,58,47,47],vI 80]) w)):Cf qN #[.bool a] w (Ret K):=ru func171 [] h
theorem BL (a:lU){w K}(h:nA w (.cells np ba) λb c=>Cf ml #[vS a,vS [104,116,116,112,115,58,47,47]] c λd e=>∃f g,d=rT #[vS f,.bool g]/\∃i:FP [.one .str],(ab (!g) (Cf ml #[vS a,vS [104,116,116,112,58,47,47]] e λj k=>∃l m,j=rT #[vS l,.bool m]/\ab (!m) (∃n,Sv ba (vA b 0) (.agg np) k n/\∃o,Rv ba (vA b 0) n o/\K (.tuple #[o,vI 41]) n) (i l k)) (i f e))/\∀j,aX 12 (∀k,i j k->uI dI #[vS j,vS [47,63,35]] k λl m=>∃n:FP [.one (.int .i64)],(ab (decide (l<(0:Int))) (n ((List.length j:Nat):Int) m) (n l m))/\∀o,aX 4 (∀p,n o p->Cf qN #[.bool g] p λq r=>∃s t,q=rT #[vS s,vI t]/\bd o (((List.length j):Nat):Int)/\∀u,u=(List.take (Int.toNat o) j)->Cf qM #[vS u,vI t] r λv x=>∃y z A,v=rT #[y,vI z,vI A]/\nA x (.cells bF ae) λB C=>∃D,Sv ae (vA B 0) y C D/\ab (A !=(0:Int)) (∃E,Sv ba (vA b 0) (.agg np) D E/\∃F,Rv ba (vA b 0) E F/\K (.tuple #[F,vI A]) E) (bd o (((List.length j):Nat):Int)/\∀E,E=(List.drop (Int.toNat o) j)->∃F:FP [.one .str],(uI dI #[vS E,vS [63,35]] D λG H=>ab (decide (G >=(0:Int))) (bd G (((List.length E):Nat):Int)/\∀I,I=(List.take (Int.toNat G) E)->F I H) (F E H))/\∀G,aX 8 (∀H,F G H->∃I:FP [.one .str],(ab (G==[]) (I [47] H) (I G H))/\∀J,aX 2 (∀L,I J L->uB lu #[vS J] L λM N=>ab (!M) (∃O,Sv ba (vA b 0) (.agg np) N O/\∃P,Rv ba (vA b 0) O P/\K (.tuple #[P,vI 43]) O) (∃O,Ld ae (vA B 0) N O/\∃P,(Instr.build ba #[(0,.bool g),(1,O),(2,vI z),(3,vS J)]).run prog N=.ok P N/\∃Q,Sv ba (vA b 0) P N Q/\∃R,Rv ba (vA b 0) Q R/\K (.tuple #[R,vI 0]) Q))))))):Cf qK #[vS a] w (Ret K):=ru func178 [(4,[(4,.one .str)]),(22,[(7,.one (.int .i64))]),(42,[(13,.one .str)]),(50,[(13,.one .str)])] h
theorem mA (a:Option Addr)(b:Value){w K}(h:nA w (.cells (Value.cells b) ae) λc d=>∃e,Ld ae (vA c 0) d e/\uL bO #[e] d λf g i j=>ab (decide (((g:Nat):Int)>(0:Int))) (∃k,Ld ae (vA c 0) j k/\uI dJ #[.pointer a,k] j λl m=>K (.bool (l==((g:Nat):Int))) m) (K (.bool false) j)):Cf cz #[.pointer a,b] w (Ret K):=ru func192 [] h
theorem vp (a:lU){w K}(h:∃b:Nat->FP [.one (.int .i64)],(∃c,b c (0:Int) w)/\∀c d,aX 26 (∀e,b c d e->ab (decide (d<(3:Int))) (∃f,(Instr.index Ax (.agg #[vS [],vS [95,95,115,101,99,117,114,101,45],vS [95,95,104,111,115,116,45]]) (vI d)).run prog e=.ok (vS f) e/\ab (decide (d>(0:Int))) (ab (decide (((List.length a:Nat):Int) >=((List.length f:Nat):Int))) (bd ((List.length f:Nat):Int) (((List.length a):Nat):Int)/\∀g,g=(List.take (Int.toNat ((List.length f:Nat):Int)) a)->uS dt #[vS g] e λi j=>ab (i==f) (K (vI d) j) (∃k:Nat,k<c/\b k (i64.wrap (d+(1:Int))) j)) (∃g:Nat,g<c/\b g (i64.wrap (d+(1:Int))) e)) (∃g:Nat,g<c/\b g (i64.wrap (d+(1:Int))) e)) (K (vI 0) e))):Cf kK #[vS a] w (Ret K):=ru func193 [(6,[(6,.one (.int .i64))])] h
theorem mC (a:Option Addr)(b:Value){w K}(h:nA w (.cells (Value.cells b) ae) λc d=>∃e,Ld ae (vA c 0) d e/\uL bO #[e] d λf g i j=>∃k,(Builtin.min_ #[bp,bp] bp #[vI 1,vI ((g:Nat):Int)]).run prog j=.ok (vI k) j/\∃l:FP [.one (.int .i64),.one (.int .i64)],(∃m:Nat->FP [.one (.int .i64),.one (.int .i64),.one (.int .i64),.one (.int .i64)],(∃n,m n (0:Int) k (0:Int) (1:Int) j)/\∀n o p q r,aX 56 (∀s,m n o p q r s->ab (decide (r <=((g:Nat):Int))) (∃t:FP [.one (.int .i64)],((Option.isSome a=true)/\(Option.isSome a=true)/\∃u v x,Ld bw (Option.map (λy=>y.add 1) a) s (.slice u v x)/\(bx o ((v:Nat):Int)/\Option.isSome u=true)/\(bx (2:Int) ((4:Nat):Int)/\isSome (an u o 4))/\∃y,Ld bX (an (an u o 4) (2:Int) 1) s (.bool y)/\ab y (t r s) (t p s))/\∀u,aX 9 (∀v,t u v->(Option.isSome a=true)/\(Option.isSome a=true)/\∃x,(∀y,bW v y->Ld bj (Option.map (λz=>z.add 0) a) y (.map x))/\(bx (i64.wrap (((g:Nat):Int)-r)) ((g:Nat):Int)/\Option.isSome f=true)/\∃y,(∀z,bW v z->Ld ah (an f (i64.wrap (((g:Nat):Int)-r)) 1) z (vS y))/\∃z A,(∀B,bW v B->(Instr.lookup bj (.map x) (.agg #[vI o,vS y]) true).run prog B=.ok (.tuple #[vI z,.bool A]) B)/\∀B,bW v B->ab (!A) (l u q B) (∃C:FP [.one (.int .i64)],((Option.isSome a=true)/\(Option.isSome a=true)/\∃D E F,Ld bw (Option.map (λG=>G.add 1) a) B (.slice D E F)/\(bx z ((E:Nat):Int)/\Option.isSome D=true)/\(bx (1:Int) ((4:Nat):Int)/\isSome (an D z 4))/\∃G,Ld bX (an (an D z 4) (1:Int) 1) B (.bool G)/\ab G (C r B) (C u B))/\∀D,aX 9 (∀E,C D E->(Option.isSome a=true)/\(Option.isSome a=true)/\∃F G H,Ld bw (Option.map (λI=>I.add 1) a) E (.slice F G H)/\(bx z ((G:Nat):Int)/\Option.isSome F=true)/\(bx (3:Int) ((4:Nat):Int)/\isSome (an F z 4))/\∃I,Ld bX (an (an F z 4) (3:Int) 1) E (.bool I)/\ab I (∃J:Nat,J<n/\m J z D (i64.wrap (r-(1:Int))) (i64.wrap (r+(1:Int))) E) (∃J:Nat,J<n/\m J z D q (i64.wrap (r+(1:Int))) E))))) (l p q s)))/\∀m n,aX 58 (∀o,l m n o->ab (decide (n>(0:Int))) (K (vI n) o) (K (vI m) o))):Cf dJ #[.pointer a,b] w (Ret K):=ru func198 [(6,[(7,.one (.int .i64)),(8,.one (.int .i64))]),(10,[(6,.one (.int .i64)),(7,.one (.int .i64)),(8,.one (.int .i64)),(9,.one (.int .i64))]),(19,[(7,.one (.int .i64))]),(35,[(7,.one (.int .i64))])] h
theorem BN (a b:lU){w K}(h:∃c:FP [],(ab (decide (((List.length a:Nat):Int)<((List.length b:Nat):Int))) (K (.tuple #[vS a,.bool false]) w) (bd ((List.length b:Nat):Int) (((List.length a):Nat):Int)/\∀d,d=(List.take (Int.toNat ((List.length b:Nat):Int)) a)->uB iH #[vS d,vS b] w λe f=>ab (!e) (K (.tuple #[vS a,.bool false]) f) (c f)))/\aX 17 (∀d,c d->bd ((List.length b:Nat):Int) (((List.length a):Nat):Int)/\∀e,e=(List.drop (Int.toNat ((List.length b:Nat):Int)) a)->K (.tuple #[vS e,.bool true]) d)):Cf ml #[vS a,vS b] w (Ret K):=ru func258 [(2,[])] h
theorem BP (a:lU)(b:Int){w K}(h:nA w (.cells bF ae) λc d=>Cf qL #[vS a] d λe f=>∃g i,e=rT #[vS g,vS i]/\Cf ft #[vS g] f λj k=>∃l m,j=rT #[l,vI m]/\nA k (.cells bF ae) λn o=>∃p,Sv ae (vA n 0) l o p/\∃q:FP [],(∃r:FP [.one .bool],(ab (m !=(0:Int)) (r true p) (ab (!(i==[])) (bx (0:Int) ((List.length i:Nat):Int)/\r ((dp i (0:Int)) !=(58:Int)) p) (r false p)))/\∀s,aX 10 (∀t,r s t->ab s (∃u,Sv ae (vA c 0) (.agg bF) t u/\∃v,Rv ae (vA c 0) u v/\K (.tuple #[v,vI 0,vI 31]) u) (q t)))/\aX 14 (∀r,q r->ab (i==[]) (∃s,Ld ae (vA n 0) r s/\∃t,Sv ae (vA c 0) s r t/\∃u,Rv ae (vA c 0) t u/\K (.tuple #[u,vI b,vI 0]) t) (bd (1:Int) (((List.length i):Nat):Int)/\∀s,s=(List.drop (Int.toNat 1) i)->Cf eU #[vS s] r λt u=>∃v x,t=rT #[vI v,.bool x]/\∃y:FP [],(∃z:FP [.one .bool],(ab (!x) (z true u) (ab (decide (v<(1:Int))) (z true u) (z (decide (v>(65535:Int))) u)))/\∀A,aX 9 (∀B,z A B->ab A (∃C,Sv ae (vA c 0) (.agg bF) B C/\∃D,Rv ae (vA c 0) C D/\K (.tuple #[D,vI 0,vI 42]) C) (y B)))/\aX 13 (∀z,y z->∃A,Ld ae (vA n 0) z A/\∃B,Sv ae (vA c 0) A z B/\∃C,Rv ae (vA c 0) B C/\K (.tuple #[C,vI v,vI 0]) B)))):Cf qM #[vS a,vI b] w (Ret K):=ru func259 [(6,[]),(7,[(33,.one .bool)]),(24,[]),(25,[(54,.one .bool)])] h
theorem BO (a:lU){w K}(h:uB dy #[vS a,vS [91]] w λb c=>ab b (uI dz #[vS a,.int .u8 93] c λd e=>ab (decide (d >=(0:Int))) (bd (i64.wrap (d+(1:Int))) (((List.length a):Nat):Int)/\∀f,f=(List.take (Int.toNat (i64.wrap (d+(1:Int)))) a)->bd (i64.wrap (d+(1:Int))) (((List.length a):Nat):Int)/\∀g,g=(List.drop (Int.toNat (i64.wrap (d+(1:Int)))) a)->∀i,bW e i->K (.tuple #[vS f,vS g]) i) (K (.tuple #[vS a,vS []]) e)) (uI dz #[vS a,.int .u8 58] c λd e=>ab (decide (d >=(0:Int))) (bd d (((List.length a):Nat):Int)/\∀f,f=(List.take (Int.toNat d) a)->bd d (((List.length a):Nat):Int)/\∀g,g=(List.drop (Int.toNat d) a)->∀i,bW e i->K (.tuple #[vS f,vS g]) i) (K (.tuple #[vS a,vS []]) e))):Cf qL #[vS a] w (Ret K):=ru func306 [] h
set_option linter.unusedSimpArgs false
set_option maxRecDepth 20000
def rY (c:UInt8):Bool:= !(decide (((c.toNat:Nat):Int)<33) || (decide (((c.toNat:Nat):Int)>126) || (c==63 || c==35)))
def qY (s:List UInt8):Bool:=decide (s.head?=some 47)&&(decide (s.length <=2048)&&s.all rY)
structure Url where
 sec:Bool
 host:Hst
 port:Int
 path:List UInt8
def Url.cells (u:Url):List Value:=.bool u.sec::(u.host.cells++[vI u.port,vS u.path])
def Url.v (u:Url):Value:=.agg u.cells.toArray
def li:Url:=⟨false,iq,0,[]⟩
def Url.ok (u:Url):Prop:=u.host.ok
theorem Url.len {u:Url}(o:u.ok):u.cells.length=21:=by unfold Url.cells;rw[List.length_cons,List.length_append,Hst.len o];rfl
theorem Url.one (u:Url):uX u.cells:=br rfl (qW (Hst.one _) (br rfl (br rfl jZ)))
theorem Ca {u:Url}(o:u.ok){j:Nat}(h:j<18):u.cells[1+j]? =u.host.cells[j]? :=by
 unfold Url.cells
 rw[Nat.add_comm,List.getElem?_cons_succ,List.getElem?_append_left (by rw[Hst.len o];exact h)]
theorem Gu {u:Url}(o:u.ok):u.cells[19]? =some (vI u.port):=by
 unfold Url.cells
 rw[List.getElem?_cons_succ,List.getElem?_append_right (by rw[Hst.len o];exact Nat.le_refl _),Hst.len o];rfl
theorem Gt {u:Url}(o:u.ok):u.cells[20]? =some (vS u.path):=by
 unfold Url.cells
 rw[List.getElem?_cons_succ,List.getElem?_append_right (by rw[Hst.len o];decide),Hst.len o];rfl
def qb (u:Url):Bool:=cW u.host&&(decide (u.port >=1)&&(decide (u.port <=65535)&&qY u.path))
def dC (p s:List UInt8):Nat:=(s.takeWhile λc=> !p.contains c).length
theorem rJ (p s:List UInt8):dC p s <=s.length:=ko _ _
def OB (s:List UInt8):Option (List UInt8×Bool):=
 if cF (s.take 7)=[104,116,116,112,58,47,47]then some (s.drop 7,false)else if cF (s.take 8)=[104,116,116,112,115,58,47,47]then some (s.drop 8,true)else none
def fh (p:List UInt8):Nat:=if p.head?=some 91 then min (dC [93] p+1) p.length else dC [58] p
def vb (p:List UInt8):Option Hst:=if p.drop (fh p)≠[]/\(p.drop (fh p)).head?≠some 58 then none else bR (p.take (fh p))
def EU (sec:Bool)(b:List UInt8):Option Int:=if b=[]then some (if sec then 443 else 80)else if vj (b.drop 1)/\1 <=gj (b.drop 1)/\gj (b.drop 1) <=65535 then some (gj (b.drop 1))else none
def vk (r:List UInt8):List UInt8:=if r.take (dC [63,35] r)=[]then[47]else r.take (dC [63,35] r)
def Mr (r:List UInt8)(sec:Bool):Url×Int:=
 match vb (r.take (dC [47,63,35] r))with
 | none=>(li,31)
 | some h=>match EU sec ((r.take (dC [47,63,35] r)).drop (fh (r.take (dC [47,63,35] r))))with
   | none=>(li,42)
   | some n=>if qY (vk (r.drop (dC [47,63,35] r)))=true then(⟨sec,h,n,vk (r.drop (dC [47,63,35] r))⟩,0)else(li,43)
def uv (s:List UInt8):Url×Int:=match OB s with
 | none=>(li,41)
 | some (r,b)=>Mr r b
theorem FQ {p:List UInt8}{h:Hst}(e:vb p=some h):h.ok:=by
 unfold vb at e
 split at e
 · cases e
 · exact gO e
theorem OC (r:List UInt8)(b:Bool):(Mr r b).1.ok:=by
 unfold Mr
 split
 · rfl
 · rename_i h hh
   split
   · rfl
   · split
     · exact FQ hh
     · rfl
theorem Fk (s:List UInt8):(uv s).1.ok:=by
 unfold uv
 split
 · rfl
 · exact OC _ _
theorem L4 {s:List UInt8}{k:Nat}(hlt:k<s.length)(h:rY s[k]=false):qY s=false:=by
 have:s.all rY=false:=by
   rw[Bool.eq_false_iff];intro hx;rw[List.all_eq_true.1 hx _ (List.getElem_mem hlt)]at h;cases h
 unfold qY;rw[this,Bool.and_false,Bool.and_false]
theorem Hj (c:UInt8)(H:Prop)(hH:H){Y N:Prop}(hy:rY c=true->Y)(hn:rY c=false->N):
   ab (decide (((c.toNat:Nat):Int)<33)) N (H/\ab (decide (((c.toNat:Nat):Int)>126)) N (H/\ab (((c.toNat:Nat):Int)==(63:Int)) N (H/\ab (((c.toNat:Nat):Int)==(35:Int)) N Y))):=by
 have e63:=zI c 63
 have e35:=zI c 35
 rw[show(((63:UInt8).toNat:Nat):Int)=63 from rfl]at e63
 rw[show(((35:UInt8).toNat:Nat):Int)=35 from rfl]at e35
 rw[e63,e35]
 refine ab.of (λh=>hn ?_) (λh=>⟨hH,ab.of (λh2=>hn ?_) (λh2=>⟨hH,ab.of (λh3=>hn ?_) (λh3=>⟨hH,ab.of (λh4=>hn ?_) (λh4=>hy ?_)⟩)⟩)⟩)
 · unfold rY;rw[h];rfl
 · unfold rY;rw[h,h2];rfl
 · unfold rY;rw[h,h2,h3];rfl
 · unfold rY;rw[h,h2,h3,h4];rfl
 · unfold rY;rw[h,h2,h3,h4];rfl
theorem ET (c:UInt8){Y N:Prop}(hy:rY c=true->Y)(hn:rY c=false->N):
   ab (decide (((c.toNat:Nat):Int)<33)) N (ab (decide (((c.toNat:Nat):Int)>126)) N (ab (((c.toNat:Nat):Int)==(63:Int)) N (ab (((c.toNat:Nat):Int)==(35:Int)) N Y))):=by
 have:=Hj c True trivial hy hn
 simpa only[true_and]using this
theorem sW:Whl prog ba 21:=⟨⟨_,_,HF⟩,by kernel_rfl⟩
theorem rm (s:List UInt8)(w:World):Cf lu #[vS s] w (Ret λv w'=>v=.bool (qY s)/\bW w w'):=by
 apply Dw
 refine wZ (w:=w) (s.head?=some 47/\s.length <=2048) ?_ ?_
 · refine ab.of (λh=>⟨?_,Below.refl _ _⟩) (λh=>?_)
   · have:s=[]:=by simpa using h
     subst this;rfl
   have hne:s≠[]:=by simpa using h
   have hl:0<s.length:=List.length_pos_iff.2 hne
   have hh:s.head?=some s[0]:=by rw[List.head?_eq_getElem?,List.getElem?_eq_getElem hl]
   refine ab.of (λh=>⟨?_,Below.refl _ _⟩) (λh2=>⟨⟨by decide,by omega⟩,?_⟩)
   · unfold qY;rw[decide_eq_false (p:=s.length <=2048) (by simp at h;omega),Bool.false_and,Bool.and_false]
   have hb:=byte_at (s:=s) (k:=0) hl
   rw[show((0:Nat):Int)=0 from rfl]at hb
   have hu:=zI s[0] 47
   rw[show(((47:UInt8).toNat:Nat):Int)=47 from rfl]at hu
   simp only[bne,hb,hu]
   refine ab.of (λh3=>⟨?_,Below.refl _ _⟩) (λh3=>⟨trivial,?_,by simp at h2;omega⟩)
   · unfold qY;rw[hh,decide_eq_false (p:=some s[0]=some 47) (by simpa using h3),Bool.false_and]
   · rw[hh];simpa using h3
 · rintro⟨hh,hl⟩
   have hp:qY s=s.all rY:=by unfold qY;rw[decide_eq_true hh,decide_eq_true hl,Bool.true_and,Bool.true_and]
   obtain⟨w2,a,n,c,hr,ho,hb2,hf⟩:=lO (P:=prog) aw cg cB w s (by omega) NoB
   have hnn:=ho.len
   subst hnn
   refine⟨w2,a,_,c,hr,?_⟩
   refine⟨λm i w'=>∃k:Nat,k <=s.length/\i=(k:Int)/\m=s.length-k/\(s.take k).all rY=true/\w'=w2,⟨_,0,by omega,rfl,rfl,rfl,rfl⟩,?_⟩
   intro m i
   refine aX.of ?_ _
   rintro w' ⟨k,hk,rfl,rfl,hno,hw'⟩
   rw[hw'];clear hw'
   refine ab.of (λh=>?_) (λh=>?_) <;> simp only[dTx,dFx]at h
   · have hlt:k<s.length:=by omega
     obtain⟨v,hv,hrep⟩:=ho.all.load1 (i:=(k:Int)) cB rfl rfl (by simpa using hlt)
     have:=yk hrep
     subst this
     simp only[Int.toNat_natCast]at hv
     refine⟨⟨⟨by omega,h⟩,ho.all.isSome hlt⟩,_,hv,ET _ (λhc=>?_) (λhc=>⟨by rw[L4 hlt hc],hb2⟩)⟩
     exact⟨s.length-(k+1),by omega,k+1,by omega,by rw[wrap_i64 (by omega) (by omega)];omega,rfl,by rw[List.take_succ_eq_append_getElem hlt,List.all_append,hno];simp[hc],rfl⟩
   · have:k=s.length:=by omega
     subst this
     rw[List.take_length]at hno
     exact⟨by rw[hp,hno],hb2⟩
theorem oK {u:Url}(o:u.ok)(hn:u.host.name.length <=1000000000)(w:World)(he:Env w):Cf jQ #[u.v] w (Ret λv w'=>v=.bool (qb u)/\bW w w'):=by
 apply BM
 intro k1 w1 hk1 hw1
 have hB1:=(hw1▸ai w _:bW w w1)
 have h1:am w1 k1 ba u.cells:=am.new hk1 hw1
 refine⟨rfl,_,aY.load h1 (i:=1) (us:=u.host.cells) (Hst.len o) (λj hj=>Ca o hj),?_⟩
 refine ax (fE o hn w1 (he.step hB1)) ?_
 rintro _ w2 ⟨rfl,hb2⟩
 have hB2:=aa hB1 hb2 hB1.size
 have h2:=h1.below hb2
 refine⟨_,rfl,?_⟩
 unfold qb
 refine ab.of (λc1=>?_) (λc1=>⟨by rw[c1];rfl,hB2⟩)
 refine⟨rfl,_,h2.load1 bT rfl (Gu o),ab.of (λc2=>?_) (λc2=>⟨by rw[c1,c2];rfl,hB2⟩)⟩
 refine⟨rfl,_,h2.load1 bT rfl (Gu o),ab.of (λc3=>?_) (λc3=>⟨by rw[c1,c2,c3];rfl,hB2⟩)⟩
 refine⟨rfl,_,h2.load1 aw rfl (Gt o),?_⟩
 refine ax (rm _ w2) ?_
 rintro _ w3 ⟨rfl,hb3⟩
 exact⟨_,rfl,by rw[c1,c2,c3];rfl,aa hB2 hb3 hB2.size⟩
def Rc (x:Url×Int):Value:=.tuple #[x.1.v,vI x.2]
theorem QS {s p:List UInt8}(h:cF s=p):s.length=p.length:=by rw[<- h];simp[cF]
def D5 (s:List UInt8)(w:World)(v:Value)(w':World):Prop:=v=Rc (uv s)/\bW w w'
def Ck (h d:Hst):Bool:=cW h&&(cW d&&(ir h d || oJ h d))
theorem ui {h:Hst}(hl:(aC h).length≠0):cW h=true:=by
 unfold aC at hl
 split at hl
 · rename_i c;exact c.2
 · exact absurd rfl hl
theorem Ln {h d:Hst}(oh:h.ok)(od:d.ok):((ir h d&&cW h) || oJ h d)=Ck h d:=by
 unfold Ck
 by_cases hu:oJ h d=true
 · have hd0: ¬ ((aC d).length=0\/(aC h).length <=(aC d).length):=λhc=>by unfold oJ at hu;rw[if_pos hc]at hu;cases hu
   rw[hu,ui (h:=h) (by omega),ui (h:=d) (by omega)];simp
 · have hu':oJ h d=false:=by simpa using hu
   rw[hu',Bool.or_false,Bool.or_false]
   by_cases he:ir h d=true
   · have:=(iK oh od).1 he
     subst this
     rw[he];cases cW h <;> rfl
   · have he':ir h d=false:=by simpa using he
     rw[he'];cases cW h <;> cases cW d <;> rfl
def xl (s:List UInt8):Nat->Nat
 | 0=>0
 | k+1=>if s[k]? =some 47 then k else xl s k
theorem FX (s:List UInt8):∀k,xl s k <=k
 | 0=>Nat.le_refl _
 | k+1=>by
   have:=FX s k
   unfold xl;split <;> omega
def Lk (s:List UInt8):List UInt8:=if xl s s.length=0\/s.head?≠some 47 then[47]else s.take (xl s s.length)
theorem Js (s:List UInt8):∀k,k <=s.length->(0<Lib.lastIdx (mkS s) 47 k ↔ xl s k≠0)/\(0<Lib.lastIdx (mkS s) 47 k->Lib.lastIdx (mkS s) 47 k=(xl s k:Nat))
 | 0,_=>⟨by simp[Lib.lastIdx,xl],by simp[Lib.lastIdx]⟩
 | k+1,h=>by
   have e:(mkS s).data[k]! =s[k]'(by omega):=by
     have:(mkS s).data=s.toArray:=rfl
     rw[this,getElem!_pos s.toArray k (by simp;omega)];simp
   have ih:=Js s k (by omega)
   unfold Lib.lastIdx xl
   rw[e,List.getElem?_eq_getElem (by omega)]
   by_cases c:s[k]'(by omega)=47
   · rw[if_pos (by rw[c];rfl),if_pos (by rw[c])]
     exact⟨by omega,λ_=>rfl⟩
   · rw[if_neg (λhx=>c (UInt8.toNat_inj.1 (by rw[show(UInt8.toNat 47)=47 from rfl];omega))),if_neg (λhx=>c (Option.some.inj hx))]
     exact ih
def yV (p o:List UInt8):Bool:=(p==o) || (decide (o.length<p.length)&&((p.take o.length==o)&&(decide (p[o.length]? =some 47) || decide (o.getLast?=some 47))))
structure Cky where
 name:List UInt8
 value:List UInt8
 host:Hst
 only:Bool
 path:List UInt8
 sec:Bool
 http:Bool
 same:Int
 exp:Int
 born:Int
 used:Int
 seq:Int
def Cky.tail (c:Cky):List Value:=[.bool c.only,vS c.path,.bool c.sec,.bool c.http,vI c.same,vI c.exp,vI c.born,vI c.used,vI c.seq]
def Cky.cells (c:Cky):List Value:=vS c.name::vS c.value::(c.host.cells++c.tail)
def Cky.v (c:Cky):Value:=.agg c.cells.toArray
def wM:Cky:=⟨[],[],iq,false,[],false,false,0,0,0,0,0⟩
def Cky.ok (c:Cky):Prop:=c.host.ok
theorem Cky.len {c:Cky}(o:c.ok):c.cells.length=29:=by unfold Cky.cells;rw[List.length_cons,List.length_cons,List.length_append,Hst.len o];rfl
theorem Cky.one (c:Cky):uX c.cells:=br rfl (br rfl (qW (Hst.one _) (br rfl (br rfl (br rfl (br rfl (br rfl (br rfl (br rfl (br rfl (br rfl jZ)))))))))))
theorem rB {c:Cky}(o:c.ok){j:Nat}(h:j<18):c.cells[2+j]? =c.host.cells[j]? :=by
 unfold Cky.cells
 rw[show 2+j=j+1+1 by omega,List.getElem?_cons_succ,List.getElem?_cons_succ,List.getElem?_append_left (by rw[Hst.len o];exact h)]
theorem bN {c:Cky}(o:c.ok)(j:Nat):c.cells[20+j]? =c.tail[j]? :=by
 unfold Cky.cells
 rw[show 20+j=(18+j)+1+1 by omega,List.getElem?_cons_succ,List.getElem?_cons_succ,List.getElem?_append_right (by rw[Hst.len o];omega),Hst.len o]
 congr 1;omega
structure Req where
 sec:Bool
 host:Hst
 path:List UInt8
 cross:Int
def Req.tail (r:Req):List Value:=[vS r.path,vI r.cross]
def Req.cells (r:Req):List Value:=.bool r.sec::(r.host.cells++r.tail)
def Req.v (r:Req):Value:=.agg r.cells.toArray
def Req.ok (r:Req):Prop:=r.host.ok
theorem Req.len {r:Req}(o:r.ok):r.cells.length=21:=by unfold Req.cells;rw[List.length_cons,List.length_append,Hst.len o];rfl
theorem Req.one (r:Req):uX r.cells:=br rfl (qW (Hst.one _) (br rfl (br rfl jZ)))
theorem Gh {r:Req}(o:r.ok){j:Nat}(h:j<18):r.cells[1+j]? =r.host.cells[j]? :=by
 unfold Req.cells
 rw[Nat.add_comm,List.getElem?_cons_succ,List.getElem?_append_left (by rw[Hst.len o];exact h)]
theorem r6 {r:Req}(o:r.ok)(j:Nat):r.cells[19+j]? =r.tail[j]? :=by
 unfold Req.cells
 rw[show 19+j=(18+j)+1 by omega,List.getElem?_cons_succ,List.getElem?_append_right (by rw[Hst.len o];omega),Hst.len o]
 congr 1;omega
def uc (same cross:Int):Bool:=if cross=1 then same !=3 else if cross=2 then same==1 else cross==0
def gr (c:Cky)(r:Req)(now:Int):Bool:=
 !(c.only && !ir c.host r.host)&&(Ck r.host c.host&&(yV r.path c.path&&(!(c.sec && !r.sec)&&(!(decide (now >=c.exp))&&uc c.same r.cross))))
theorem gR {h d:Hst}(oh:h.ok)(od:d.ok)(hn:h.name.length <=1000000000)(dn:d.name.length <=1000000000)(w:World)(he:Env w):Cf eT #[h.v,d.v] w (Ret λv w'=>v=.bool (Ck h d)/\bW w w'):=by
 rw[<- Ln oh od]
 apply vC
 intro k2 w2 hk2 hw2
 have hB2:=(hw2▸ai w _:bW w w2)
 have h2:am w2 k2 ae h.cells:=am.new hk2 hw2
 intro k3 w3 hk3 hw3
 have hb3:=(hw3▸ai w2 _:bW w2 w3)
 have hB3:=aa hB2 hb3 hB2.size
 have h3:am w3 k3 ae d.cells:=am.new hk3 hw3
 have h23:=h2.below hb3
 have und:∀wx,bW w3 wx->∃v13:Value,(Instr.loadAt ae (.pointer (some ⟨k2,0,none⟩))).run prog wx=.ok v13 wx/\∃v14:Value,(Instr.loadAt ae (.pointer (some ⟨k3,0,none⟩))).run prog wx=.ok v14 wx/\
     Cf iG #[v13,v14] wx λe15 w15=>∃(b15:Bool),e15=.returned (.bool b15)/\((.bool b15:Value)=.bool (oJ h d)/\bW w w15):=λwx hbx=>by
   refine⟨_,aY.load0 (h23.below hbx) (Hst.len oh),_,aY.load0 (h3.below hbx) (Hst.len od),?_⟩
   have hBx:=aa hB3 hbx hB3.size
   refine ax (A5 oh od hn dn wx (he.step hBx)) ?_
   rintro _ w4 ⟨rfl,hb4⟩
   exact⟨_,rfl,rfl,aa hBx hb4 hBx.size⟩
 refine⟨_,aY.load0 h23 (Hst.len oh),_,aY.load0 h3 (Hst.len od),_,FR oh od w3,?_⟩
 refine ab.of (λc1=>?_) (λc1=>?_)
 · refine⟨_,aY.load0 h23 (Hst.len oh),?_⟩
   refine ax (fE oh hn w3 (he.step hB3)) ?_
   rintro _ w4 ⟨rfl,hb4⟩
   refine⟨_,rfl,ab.of (λc2=>⟨by rw[c1,c2];rfl,aa hB3 hb4 hB3.size⟩) (λc2=>?_)⟩
   rw[c1,c2]
   exact und w4 hb4
 · rw[c1]
   exact und w3 (Below.refl _ _)
theorem vg (s:List UInt8)(hs:s.length<4611686018427387904)(w:World):Cf jN #[vS s] w (Ret λv w'=>v=vS (Lk s)/\w'=w):=by
 apply tI
 refine(Tryz.strings_LastIndexByte (mkS s) 47 (show s.toArray.size<_ by simpa using hs) w).mono ?_
 rintro _ w' ⟨rfl,hw⟩
 rw[hw];clear hw
 refine⟨_,rfl,?_⟩
 have hK:=Js s s.length (Nat.le_refl _)
 have e:Lib.lastIndexByte (mkS s) 47=Lib.lastIdx (mkS s) 47 s.length:=by unfold Lib.lastIndexByte;rw[show(mkS s).size=s.length from by show s.toArray.size=_;simp]
 rw[e]
 generalize Lib.lastIdx (mkS s) 47 s.length=n at*
 have hle:=FX s s.length
 refine qC (w:=w) (decide (¬ (xl s s.length=0\/s.head?≠some 47))) ?_ ?_
 · refine ab.of (λh=>?_) (λh=>⟨rfl,?_⟩) <;> simp only[gt_iff_lt,dTx,dFx]at h
   · have h0:=hK.1.1 h
     have hl:0<s.length:=by omega
     have hb:=byte_at (s:=s) (k:=0) hl
     rw[show((0:Nat):Int)=0 from rfl]at hb
     have hu:=zI s[0] 47
     rw[show(((47:UInt8).toNat:Nat):Int)=47 from rfl]at hu
     refine⟨⟨by decide,by omega⟩,rfl,?_⟩
     rw[hb,hu,List.head?_eq_getElem?,List.getElem?_eq_getElem hl,Bool.eq_iff_iff]
     simp[h0]
   · have h0:xl s s.length=0:=Decidable.byContradiction λhc=>h (hK.1.2 hc)
     rw[eq_comm,dFx]
     exact λhc=>hc (.inl h0)
 · refine ab.of (λh=>?_) (λh=>⟨?_,rfl⟩)
   · have h:=of_decide_eq_true h
     have hn:=hK.2 (hK.1.2 λhc=>h (.inl hc))
     subst hn
     refine⟨⟨by omega,by omega⟩,?_⟩
     rintro _ rfl
     exact⟨by unfold Lk;rw[if_neg h];rfl,rfl⟩
   · have h:=of_decide_eq_false h
     unfold Lk;rw[if_pos (Decidable.not_not.1 h)]
theorem aW:Whl prog af 29:=⟨⟨_,_,jB⟩,by kernel_rfl⟩
theorem jE:Whl prog aR 21:=⟨⟨_,_,zD⟩,by kernel_rfl⟩
theorem Whl.elem {α:Type}{T:Ty α}{P:Program}{t:TypeId}{n:Nat}(hw:Whl P t n)(hk:T.k=n){w:World}{A:Bl}{a:Option Addr}{l c:Nat}{xs:List α}(h:Sl T w A a l c xs){i:Nat}(hi:i<xs.length):
   ∃vs,(Instr.loadAt t (.pointer (an a (i:Int) n))).run P w=.ok (.agg vs.toArray) w/\T.rep w A vs xs[i]:=by
 obtain⟨bytes,z,tf⟩:=hw.tf
 obtain⟨ti,hti,hsz,_,_⟩:=tf.info
 have hag:=hw.ag
 cases hu:P.underlying t with
 | none=>rw[hu]at hag;cases hag
 | some d=>
   rw[hu]at hag
   simp only[Option.map_some,Option.some.injEq]at hag
   have:=h.loadA hu hag hti hk hsz (i:=(i:Int)) (by simpa using hi)
   simpa using this
set_option linter.unusedSectionVars false
structure OpR where
 kind:Int
 url:Url
 text:List UInt8
 req:Req
 n:Int
structure OpR.ok (o:OpR):Prop where
 uo:o.url.ok
 ro:o.req.host.ok
 up:o.url.path.length <=1000000
 un:o.url.host.name.length <=1000000
 rp:o.req.path.length <=1000000
 rn:o.req.host.name.length <=1000000
 tx:o.text.length <=1000000
def OpR.cells (o:OpR):List Value:=vI o.kind::(o.url.cells++(vS o.text::(o.req.cells++[vI o.n])))
def OpR.v (o:OpR):Value:=.agg o.cells.toArray
theorem OpR.len {o:OpR}(k:o.ok):o.cells.length=45:=by
 unfold OpR.cells
 rw[List.length_cons,List.length_append,List.length_cons,List.length_append,Url.len k.uo,Req.len k.ro]
 rfl
theorem OpR.one (o:OpR):uX o.cells:=br rfl (qW (Url.one _) (br rfl (qW (Req.one _) (br rfl jZ))))
theorem MS {o:OpR}(k:o.ok){j:Nat}(h:j<21):o.cells[1+j]? =o.url.cells[j]? :=by
 unfold OpR.cells
 rw[Nat.add_comm,List.getElem?_cons_succ,List.getElem?_append_left (by rw[Url.len k.uo];exact h)]
theorem N1 {o:OpR}(k:o.ok):o.cells[22]? =some (vS o.text):=by
 unfold OpR.cells
 rw[show 22=21+1 from rfl,List.getElem?_cons_succ,List.getElem?_append_right (by rw[Url.len k.uo];exact Nat.le_refl _),Url.len k.uo]
 rfl
theorem JV {o:OpR}(k:o.ok){j:Nat}(h:j<21):o.cells[23+j]? =o.req.cells[j]? :=by
 unfold OpR.cells
 rw[show 23+j=(22+j)+1 by omega,List.getElem?_cons_succ,List.getElem?_append_right (by rw[Url.len k.uo];omega),Url.len k.uo,show 22+j-21=j+1 by omega,List.getElem?_cons_succ,List.getElem?_append_left (by rw[Req.len k.ro];exact h)]
theorem Pz {o:OpR}(k:o.ok):o.cells[44]? =some (vI o.n):=by
 unfold OpR.cells
 rw[show 44=43+1 from rfl,List.getElem?_cons_succ,List.getElem?_append_right (by rw[Url.len k.uo];decide),Url.len k.uo,show 43-21=21+1 from rfl,List.getElem?_cons_succ,List.getElem?_append_right (by rw[Req.len k.ro];exact Nat.le_refl _),Req.len k.ro]
 rfl
structure OpW (o:OpR):Prop where
 uo:o.url.ok
 ro:o.req.host.ok
 hi:o.n <=9223372036854775807
theorem OpW.len {o:OpR}(k:OpW o):o.cells.length=45:=by
 unfold OpR.cells
 rw[List.length_cons,List.length_append,List.length_cons,List.length_append,Url.len k.uo,Req.len k.ro]
 rfl
def tOp:Ty OpR where
 k:=45
 pos:=by decide
 rep:=λ_ _ vs o=>vs=o.cells/\OpW o
 len:=λh=>by rw[h.1];exact OpW.len h.2
 one:=fun{_ _ _ x} h v hv=>by rw[h.1]at hv;exact OpR.one x v hv
 keep:=λh _=>h
 mono:=λh _=>h
theorem qO:Flat tOp:=λ_ _ _ _ _ _ h=>h
theorem tA {P:Program}{t:TypeId}(hw:Whl P t 45){w:World}{A:Bl}{a:Option Addr}{l c:Nat}{xs:List OpR}(h:Sl tOp w A a l c xs){i:Nat}(hi:i<xs.length):
   (Instr.loadAt t (.pointer (an a (i:Int) 45))).run P w=.ok xs[i].v w/\OpW xs[i]:=by
 obtain⟨vs,h1,e,o⟩:=hw.elem (T:=tOp) rfl h hi
 subst e
 exact⟨h1,o⟩
theorem gX:Whl prog ao 45:=⟨⟨_,_,oH⟩,by kernel_rfl⟩
theorem Jw {o:OpR}(k:OpW o)(w:World):(Instr.buildSlice aK 1 #[(0,o.v)]).run prog w=.ok (.slice (some ⟨w.heap.size,0,none⟩) 1 1) (w.alloc (.cells o.cells.toArray ao)):=by
 obtain⟨kd,⟨us,⟨ukd,un,ua⟩,uport,upath⟩,tx,⟨sc,⟨rkd,rn,ra⟩,pt,cr⟩,n⟩:=o
 obtain⟨x0,x1,x2,x3,x4,x5,x6,x7,x8,x9,x10,x11,x12,x13,x14,x15,rfl⟩:=fg ua k.uo
 obtain⟨y0,y1,y2,y3,y4,y5,y6,y7,y8,y9,y10,y11,y12,y13,y14,y15,rfl⟩:=fg ra k.ro
 kernel_rfl
section
def Nj:List UInt8:=[115,101,116]
def Ni:List UInt8:=[103,101,116]
def D9:List UInt8:=[116,105,99,107]
def tZ:List UInt8:=[99,108,101,97,114]
def H7:List UInt8:=[104,116,116,112]
def Cw:List UInt8:=[104,116,116,112,115]
def H8:List UInt8:=[115,97,109,101]
def OZ:List UInt8:=[116,111,112]
def OY:List UInt8:=[115,117,98]
def qZ:Req:=⟨false,iq,[],0⟩
def di:OpR:=⟨4,li,[],qZ,0⟩
def lj (c:List UInt8):Int:=if c=H8 then 0 else if c=OZ then 1 else if c=OY then 2 else -1
def dR (c:List UInt8):Int:=if c=H7 then 0 else if c=Cw then 1 else -1
def O4 (n:Int):List UInt8:=if n=0 then H8 else if n=1 then OZ else OY
def N7 (b:Bool):List UInt8:=if b then Cw else H7
def fF (o:OpR):Bool:=
 if o.kind=1 then qb o.url
 else if o.kind=2 then cW o.req.host&&(qY o.req.path&&(decide (0 <=o.req.cross)&&decide (o.req.cross <=2)))
 else if o.kind=3 then decide (0 <=o.n)&&decide (o.n <=1099511627776)
 else true
def QD (a b:List UInt8):Option OpR:=if(uv a).2=0 then(unP b).map λt=>⟨1,(uv a).1,t,qZ,0⟩ else none
def Qr (a b c d:List UInt8):Option OpR:=if 0 <=dR a then(bR b).map λh=>⟨2,li,[],⟨dR a==1,h,c,lj d⟩,0⟩ else none
def On (a:List UInt8):Option OpR:=if vj a then some ⟨3,li,[],qZ,gj a⟩ else none
def dD (s:List UInt8):Option OpR:=
 if([]:List UInt8)∈dr 32 [] s then none else
 match dr 32 [] s with
 | [k]=>if k=tZ then some di else none
 | [k,a]=>if k=D9 then(On a).filter fF else none
 | [k,a,b]=>if k=Nj then(QD a b).filter fF else none
 | [k,a,b,c,d]=>if k=Ni then(Qr a b c d).filter fF else none
 | _=>none
variable (urlX:Url->List UInt8)
def tv (o:OpR):List UInt8:=
 if o.kind=1 then Nj++32::(urlX o.url++32::zL o.text)
 else if o.kind=2 then Ni++32::(N7 o.req.sec++32::(mr o.req.host++32::(o.req.path++32::O4 o.req.cross)))
 else if o.kind=3 then D9++32::HQ o.n.toNat
 else tZ
def NO (o:OpR)(again:List UInt8):Option OpR:=if fF o&&(tv urlX o==again)then some o else none
def mN (f:List UInt8->Option OpR):Nat->List (List UInt8)->List OpR->List OpR×Int×Int×Int
 | _,[],out=>(out,0,0,0)
 | i,x::r,out=>if i=200 then([],53,(i:Int)+1,1)else match f x with
   | none=>([],131,(i:Int)+1,1)
   | some o=>mN f (i+1) r (out++[o])
def pW (f:List UInt8->Option OpR)(s:List UInt8):List OpR×Int×Int×Int:=if 20000<s.length then([],54,1,1)else mN f 0 (uj s) []
end
section
variable {α β:Type} [DecidableEq α]
def KVg (ek:α->Value)(ev:β->Value)(es:List MapEntry)(kvs:List (α×β)):Prop:=es.map (λe=>(e.key,e.val))=kvs.map λp=>(ek p.1,ev p.2)
def pR (ek:α->Value)(ev:β->Value)(w:World)(r:Nat)(kvs:List (α×β)):Prop:=∃es clock,w.heap[r]? =some (.map es clock)/\KVg ek ev es.toList kvs
def cT (k:α):List (α×β)->Option β
 | []=>none
 | (k',v)::l=>if k=k' then some v else cT k l
def eo (k:α):List (α×β)->Nat->Option (Nat×β)
 | [],_=>none
 | (k',v)::l,i=>if k=k' then some (i,v)else eo k l (i+1)
theorem qV (k:α):∀(l:List (α×β)) (i:Nat),(eo k l i).map (·.2)=cT k l
 | [],_=>rfl
 | (k',v)::l,i=>by
   unfold eo cT
   split
   · rfl
   · exact qV k l (i+1)
theorem rP (k:α)(v:β)(k':α):∀l:List (α×β),cT k' (l++[(k,v)])=(cT k' l).or (if k'=k then some v else none)
 | []=>by
   show(if k'=k then some v else none)=_
   rfl
 | (x,y)::l=>by
   show(if k'=x then some y else cT k' (l++[(k,v)]))=(if k'=x then some y else cT k' l).or _
   split
   · rfl
   · exact rP k v k' l
structure na (P:Program)(kt:TypeId)(ek:α->Value):Prop where
 check:∀(b:Bool) (k:α) (w:World),(Instr.checkKey b 10000 kt (ek k)).run P w=.ok () w
 find:∀{β:Type} (ev:β->Value) (k:α) (es:List MapEntry) (kvs:List (α×β)) (w:World),KVg ek ev es kvs->(Instr.findKey kt (ek k) es).run P w=.ok ((eo k kvs 0).map λp=>(p.1,ev p.2)) w
theorem na.struct {P:Program}{kt:TypeId}{fs:Array Field}(hu:P.underlying kt=some (.struct fs)){ek:α->Value}(heq:∀a b,eqV P 10000 kt (ek a) (ek b)=some (decide (a=b)))
   (check:∀(b:Bool) (k:α) (w:World),(Instr.checkKey b 10000 kt (ek k)).run P w=.ok () w):na P kt ek where
 check:=check
 find:=by
   intro β ev k es kvs w h
   have ask:∀(es:List MapEntry) (kvs:List (α×β)) (i:Nat),KVg ek ev es kvs->(Instr.findAsking kt (ek k) es i).run P w=.ok ((eo k kvs i).map λp=>(p.1,ev p.2)) w:=by
     intro es
     induction es with
     | nil=>
       intro kvs i h
       have:kvs=[]:=by unfold KVg at h;simp at h;exact h
       subst this;rfl
     | cons e es ih=>
       intro kvs i h
       cases kvs with
       | nil=>unfold KVg at h;simp at h
       | cons p kvs=>
         obtain⟨k',v⟩:=p
         unfold KVg at h
         simp only[List.map_cons,List.cons.injEq,Prod.mk.injEq]at h
         obtain⟨⟨hk,hv⟩,ht⟩:=h
         unfold Instr.findAsking eo
         rw[hk]
         have he:(Op.equal kt (ek k) (ek k')).run P w=.ok (decide (k=k')) w:=ID 10000 kt _ _ _ w (heq k k')
         rw[Sem.run_bind,he,Result.andThen_ok]
         by_cases e1:k=k'
         · simp[e1,hv]
         · simp only[e1,decide_false,if_false]
           exact ih kvs (i+1) ht
   unfold Instr.findKey
   rw[Sem.run_bind,bn hu,Result.andThen_ok]
   cases es with
   | nil=>
     have:kvs=[]:=by unfold KVg at h;simp at h;exact h
     subst this;rfl
   | cons e es=>exact ask (e::es) kvs 0 h
variable {ek:α->Value} {ev:β->Value}
theorem pR.below {w w':World}{r:Nat}{kvs:List (α×β)}(h:pR ek ev w r kvs)(hb:bW w w'):pR ek ev w' r kvs:=by
 obtain⟨es,c,hh,hkv⟩:=h
 exact⟨es,c,(hb.block r (Array.getElem?_eq_some_iff.1 hh).1).trans hh,hkv⟩
theorem pR.lt {w:World}{r:Nat}{kvs:List (α×β)}(h:pR ek ev w r kvs):r<w.heap.size:=by
 obtain⟨es,c,hh,hkv⟩:=h
 exact(Array.getElem?_eq_some_iff.1 hh).1
theorem pR.keep {w w':World}{r:Nat}{kvs:List (α×β)}(h:pR ek ev w r kvs)(hb:w'.heap[r]? =w.heap[r]?):pR ek ev w' r kvs:=by
 obtain⟨es,c,hh,hkv⟩:=h
 exact⟨es,c,hb.trans hh,hkv⟩
theorem pR.grown {w w':World}{r:Nat}{kvs:List (α×β)}(h:pR ek ev w r kvs){k:Nat}(hg:w.grownBy w' (some k))(hne:r≠k):pR ek ev w' r kvs:=h.keep (hg.block r h.lt λe=>hne (Option.some.inj e))
theorem pR.new {w w':World}{r:Nat}(hr:r=w.heap.size)(hw:w'=w.alloc (.map #[] 0)):pR ek ev w' r []:=by
 subst hr hw
 exact⟨#[],0,heap_alloc_new w _,rfl⟩
theorem mn {P:Program}{w:World}{r:Nat}{es:Array MapEntry}{c:Nat}(h:w.heap[r]? =some (.map es c)):(getObj r).run P w=.ok (.map es c) w:=by
 simp only[getObj,Sem.run,h]
theorem pR.look2 {P:Program}{mt kt et:TypeId}{n bytes:Nat}{z:Value}(hm:P.underlying mt=some (.map kt et))(hk:na P kt ek)(he:TF P et n bytes z){w:World}{r:Nat}{kvs:List (α×β)}(h:pR ek ev w r kvs)(k:α):
   (Instr.lookup mt (.map (some r)) (ek k) true).run P w=.ok (.tuple #[((cT k kvs).map ev).getD z,.bool (cT k kvs).isSome]) w:=by
 obtain⟨es,c,hh,hkv⟩:=h
 obtain⟨i,hi,_,_,hz⟩:=he.info
 unfold Instr.lookup
 simp only[Sem.run_bind,bn hm,Result.andThen_ok,mn hh,Sem.run_pure,hk.check,hk.find ev k _ _ _ hkv]
 rw[<- qV k kvs 0]
 cases eo k kvs 0 with
 | none=>simp[zeroValue,my hi,hz]
 | some p=>simp
theorem pR.look1 {P:Program}{mt kt et:TypeId}{n bytes:Nat}{z:Value}(hm:P.underlying mt=some (.map kt et))(hk:na P kt ek)(he:TF P et n bytes z){w:World}{r:Nat}{kvs:List (α×β)}(h:pR ek ev w r kvs)(k:α):
   (Instr.lookup mt (.map (some r)) (ek k) false).run P w=.ok (((cT k kvs).map ev).getD z) w:=by
 obtain⟨es,c,hh,hkv⟩:=h
 obtain⟨i,hi,_,_,hz⟩:=he.info
 unfold Instr.lookup
 simp only[Sem.run_bind,bn hm,Result.andThen_ok,mn hh,Sem.run_pure,hk.check,hk.find ev k _ _ _ hkv]
 rw[<- qV k kvs 0]
 cases eo k kvs 0 with
 | none=>simp[zeroValue,my hi,hz]
 | some p=>simp
theorem pR.put {P:Program}{mt kt et:TypeId}(hm:P.underlying mt=some (.map kt et))(hk:na P kt ek){w:World}{r:Nat}{kvs:List (α×β)}(h:pR ek ev w r kvs){k:α}(hno:cT k kvs=none)(v:β):
   ∃w',(Instr.mapUpdate mt (.map (some r)) (ek k) (ev v)).run P w=.ok () w'/\pR ek ev w' r (kvs++[(k,v)])/\w.grownBy w' (some r):=by
 obtain⟨es,c,hh,hkv⟩:=h
 have hlt:r<w.heap.size:=(Array.getElem?_eq_some_iff.1 hh).1
 have hnone:eo k kvs 0=none:=by
   have:=qV k kvs 0
   rw[hno]at this
   simpa using this
 refine⟨{ w with heap:=w.heap.setIfInBounds r (.map (es.push { key:=ek k,val:=ev v,born:=c }) (c+1)) },?_,⟨es.push { key:=ek k,val:=ev v,born:=c },c+1,by simp[hlt],?_⟩,⟨rfl,rfl,rfl,by simp,λj hj hne=>?_⟩⟩
 · unfold Instr.mapUpdate
   simp only[Sem.run_bind,bn hm,Result.andThen_ok,mn hh,hk.check,hk.find ev k _ _ _ hkv,hnone,Option.map_none]
   simp only[setObj,Sem.run,hh]
 · unfold KVg at hkv ⊢
   simp only[Array.toList_push,List.map_append,List.map_cons,List.map_nil,hkv]
 · have:r≠j:=λe=>hne (by rw[e])
   simp[Array.getElem?_setIfInBounds_ne this]
end
def evS (s:List UInt8):Value:=vS s
def evN (n:Int):Value:=vI n
theorem na.str {P:Program}{kt:TypeId}(hu:P.underlying kt=some .string):na P kt evS where
 check:=by
   intro b k w
   unfold Instr.checkKey
   rw[Sem.run_bind,bn hu,Result.andThen_ok]
   rfl
 find:=by
   intro β ev k es kvs w h
   have now:∀(es:List MapEntry) (kvs:List (List UInt8×β)) (i:Nat),KVg evS ev es kvs->Instr.findNow .string (evS k) es i=some ((eo k kvs i).map λp=>(p.1,ev p.2)):=by
     intro es
     induction es with
     | nil=>
       intro kvs i h
       have:kvs=[]:=by unfold KVg at h;simp at h;exact h
       subst this;rfl
     | cons e es ih=>
       intro kvs i h
       cases kvs with
       | nil=>unfold KVg at h;simp at h
       | cons p kvs=>
         obtain⟨k',v⟩:=p
         unfold KVg at h
         simp only[List.map_cons,List.cons.injEq,Prod.mk.injEq]at h
         obtain⟨⟨hk,hv⟩,ht⟩:=h
         unfold Instr.findNow eo
         rw[hk]
         have he:Instr.sameNow .string (evS k) (evS k')=some (decide (k=k')):=by
           have e2:(mkS k==mkS k')=(k==k'):=by
             show((mkS k).data==(mkS k').data)=_
             simp[mkS]
           show some (mkS k==mkS k')=_
           rw[e2]
           congr 1
           rw[Bool.eq_iff_iff];simp
         rw[he]
         by_cases e1:k=k'
         · simp[e1,hv]
         · simp only[e1,decide_false,if_false]
           exact ih kvs (i+1) ht
   unfold Instr.findKey
   rw[Sem.run_bind,bn hu,Result.andThen_ok,now es kvs 0 h]
   rfl
set_option maxRecDepth 100000
theorem xR (a:lU){w K}(h:uL cY #[vS a,.int .u8 10] w λb c d e=>∃f:FP [.one .slice],((bx (i64.wrap (((c:Nat):Int)-(1:Int))) ((c:Nat):Int)/\Option.isSome b=true)/\∃g,Ld ah (an b (i64.wrap (((c:Nat):Int)-(1:Int))) 1) e (vS g)/\ab (g==[]) (bd (i64.wrap (((c:Nat):Int)-(1:Int))) ((d:Nat):Int)/\f b (Int.toNat (i64.wrap (((c:Nat):Int)-(1:Int)))) d e) (f b c d e))/\∀g i j,aX 12 (∀k,f g i j k->∃l:Nat->FP [.one (.int .i64)],(∃m,l m (0:Int) k)/\∀m n,aX 12 (∀o,l m n o->ab (decide (n<((i:Nat):Int))) ((bx n ((i:Nat):Int)/\Option.isSome g=true)/\∃p,Ld ah (an g n 1) o (vS p)/\uS jb #[vS p,vS [13]] o λq r=>(bx n ((i:Nat):Int)/\Option.isSome g=true)/\∃s,Sv ah (an g n 1) (vS q) r s/\∃t:Nat,t<m/\l t (i64.wrap (n+(1:Int))) s) (uL fe #[.slice g i j] o λp q r s=>K (.slice p q r) s)))):Cf me #[vS a] w (Ret K):=ru func19 [(4,[(3,.one .slice)]),(14,[(21,.one (.int .i64))])] h
theorem xU (a:lU){w K}(h:uL cY #[vS a,.int .u8 32] w λb c d e=>uB ej #[.slice b c d,vS []] e λf g=>ab f (K (.tuple #[.slice none 0 0,.bool false]) g) (K (.tuple #[.slice b c d,.bool true]) g)):Cf mf #[vS a] w (Ret K):=ru func47 [] h
theorem zo (a:lU){w K}(h:ab (a==[]) (K (vS [37]) w) (∃b c d e,(convert ah bf (vS a)).run prog w=.ok (.slice c d e) b/\∃f:Nat->FP [.one .slice,.one (.int .i64)],(∃g,f g none 0 0 (0:Int) b)/\∀g i j k l,aX 28 (∀m,f g i j k l m->ab (decide (l<((d:Nat):Int))) ((bx l ((d:Nat):Int)/\Option.isSome c=true)/\∃n,Ld bI (an c l 1) m (.int .u8 n)/\∃o:FP [.one .bool],(ab (decide (n>(32:Int))) (ab (decide (n<(127:Int))) (o (n !=(37:Int)) m) (o false m)) (o false m))/\∀p,aX 9 (∀q,o p q->ab p (nA q (.cells #[.int .u8 n] bI) λr s=>∃t u v x,(Builtin.append_ #[bf,bf] bf #[.slice i j k,.slice (vA r 0) 1 1]).run prog s=.ok (.slice u v x) t/\∃y:Nat,y<g/\f y u v x (i64.wrap (l+(1:Int))) t) ((0 <=(4:Int))/\bx (Int.fdiv n (2 ^ (min (Int.toNat 4) (IntKind.bits .u8)))) ((List.length [48,49,50,51,52,53,54,55,56,57,65,66,67,68,69,70]:Nat):Int)/\bx (IntKind.u8.wrap (((BitVec.ofInt (IntKind.bits .u8) n) &&& (BitVec.ofInt (IntKind.bits .u8) (15:Int))).toNat:Nat)) ((List.length [48,49,50,51,52,53,54,55,56,57,65,66,67,68,69,70]:Nat):Int)/\∀r,q.heap.size <=r->∀s,bW q s->s.heap[r]? =some (.cells #[.int .u8 37,.int .u8 (dp [48,49,50,51,52,53,54,55,56,57,65,66,67,68,69,70] (Int.fdiv n (2 ^ (min (Int.toNat 4) (IntKind.bits .u8))))),.int .u8 (dp [48,49,50,51,52,53,54,55,56,57,65,66,67,68,69,70] (IntKind.u8.wrap (((BitVec.ofInt (IntKind.bits .u8) n) &&& (BitVec.ofInt (IntKind.bits .u8) (15:Int))).toNat:Nat)))] bI)->∃t u v x,(Builtin.append_ #[bf,bf] bf #[.slice i j k,.slice (vA r 0) 3 3]).run prog s=.ok (.slice u v x) t/\∃y:Nat,y<g/\f y u v x (i64.wrap (l+(1:Int))) t))) (∃n,(convert bf ah (.slice i j k)).run prog m=.ok (vS n) m/\K (vS n) m)))):Cf iI #[vS a] w (Ret K):=ru func26 [(16,[(3,.one .slice),(11,.one (.int .i64))]),(27,[(24,.one .bool)]),(3000031,[(0,.one .bool),(1,.one .bool),(2,.one .bool),(4,.one .bool),(5,.one .bool),(3,.one .bool),(6,.one .bool),(7,.one .bool)])] h
theorem zp (a:Int){w K}(h:uI dz #[vS [48,49,50,51,52,53,54,55,56,57,65,66,67,68,69,70],.int .u8 a] w λb c=>K (.int .u8 (IntKind.u8.wrap b)) c):Cf ki #[.int .u8 a] w (Ret K):=ru func260 [] h
theorem vF (a:lU){w K}(h:uS jb #[vS a,vS [37]] w λb c=>∃d:Nat->FP [.one .slice,.one .str],(∃e,d e none 0 0 b c)/\∀e f g i j,aX 29 (∀k,d e f g i j k->ab (!(j==[])) (bx (0:Int) ((List.length j:Nat):Int)/\∃l:FP [.one (.int .u8),.one (.int .i64)],(ab ((dp j (0:Int))==(37:Int)) (ab (decide (((List.length j:Nat):Int)<(3:Int))) (K (.tuple #[vS [],.bool false]) k) (bx (1:Int) ((List.length j:Nat):Int)/\∃m,(∀n,bW k n->Cf ki #[.int .u8 (dp j (1:Int))] n λo p=>o=.returned (.int .u8 m)/\Below k.heap.size n p)/\(0 <=(4:Int))/\bx (2:Int) ((List.length j:Nat):Int)/\∃n,(∀o,bW k o->Cf ki #[.int .u8 (dp j (2:Int))] o λp q=>p=.returned (.int .u8 n)/\Below k.heap.size o q)/\∀o,bW k o->l (IntKind.u8.wrap (((BitVec.ofInt (IntKind.bits .u8) (IntKind.u8.wrap (m*2 ^ (min (Int.toNat 4) (IntKind.bits .u8))))) ||| (BitVec.ofInt (IntKind.bits .u8) (IntKind.u8.wrap (((BitVec.ofInt (IntKind.bits .u8) n) &&& (BitVec.ofInt (IntKind.bits .u8) (15:Int))).toNat:Nat)))).toNat:Nat)) (3:Int) o)) (l (dp j (0:Int)) (1:Int) k))/\∀m n,aX 16 (∀o,l m n o->nA o (.cells #[.int .u8 m] bI) λp q=>∃r s t u,(Builtin.append_ #[bf,bf] bf #[.slice f g i,.slice (vA p 0) 1 1]).run prog q=.ok (.slice s t u) r/\bd n (((List.length j):Nat):Int)/\∀v,v=(List.drop (Int.toNat n) j)->∃x:Nat,x<e/\d x s t u v r)) (∃l,(convert bf ah (.slice f g i)).run prog k=.ok (vS l) k/\uS iI #[vS l] k λm n=>ab (!(m==a)) (K (.tuple #[vS [],.bool false]) n) (∃o,(convert bf ah (.slice f g i)).run prog n=.ok (vS o) n/\K (.tuple #[vS o,.bool true]) n)))):Cf kT #[vS a] w (Ret K):=ru func179 [(8,[(4,.one .slice),(5,.one .str)]),(18,[(6,.one (.int .u8)),(7,.one (.int .i64))])] h
theorem zq (a:Option Addr)(b c:Nat)(d:Option Addr)(e f:Nat){w K}(h:ab (((b:Nat):Int) !=((e:Nat):Int)) (K (.bool false) w) (∃g:Nat->FP [.one (.int .i64)],(∃i,g i (0:Int) w)/\∀i j,aX 14 (∀k,g i j k->ab (decide (j<((b:Nat):Int))) ((bx j ((b:Nat):Int)/\Option.isSome a=true)/\∃l,(∀m,bW k m->Ld ah (an a j 1) m (vS l))/\(bx j ((e:Nat):Int)/\Option.isSome d=true)/\∃m,(∀n,bW k n->Ld ah (an d j 1) n (vS m))/\∀n,bW k n->ab (!(l==m)) (K (.bool false) n) (∃o:Nat,o<i/\g o (i64.wrap (j+(1:Int))) n)) (K (.bool true) k)))):Cf iJ #[.slice a b c,.slice d e f] w (Ret K):=ru func13 [(14,[(13,.one (.int .i64))])] h
set_option maxRecDepth 20000
theorem JJ {x y:List UInt8}(h:mkS x=mkS y):x=y:=by
 have:=congrArg (λb:ByteArray=>b.data.toList) h
 simpa[mkS]using this
theorem Eg {w:World}{A:Bl}{a:Option Addr}{n c:Nat}{xs:List (List UInt8)}(ho:Sl tS w A a n c xs)(hne:xs≠[]):
   ∃b off,a=some ⟨b,off,none⟩/\∀j,j<(xs.map mkS).length->w.cell? ⟨b,off+j,none⟩=some (.string ((xs.map mkS).getD j ByteArray.empty)):=by
 obtain⟨hn,hnc,hcm,h4⟩:=ho
 rcases h4 with h4|⟨b,off,rfl,hbl,_,cs,hcs,hcell⟩
 · exact absurd h4 hne
 · have he:=ib hcs
   refine⟨b,off,rfl,λj hj=>?_⟩
   rw[List.length_map]at hj
   rw[hcell j (by rw[he];simpa using hj),he,List.getElem?_map,List.getElem?_eq_getElem hj,List.getD_eq_getElem?_getD,List.getElem?_map,List.getElem?_eq_getElem hj];rfl
theorem J7 {t:TypeId}{w:World}{B n:Nat}{v:Value}{xs:List (List UInt8)}(h:w.ownsRow B t 1 v n (xs.map λx=>vS x))(hn:n=xs.length):
   ∃a c,v=.slice a n c/\Ow tS t w NoB a n c xs/\bZ B a:=by
 rcases h.2 with⟨rfl,h0⟩|⟨g,cap,cur,rfl,hb,hg,hle,hm,hs,ht⟩
 · have:xs=[]:=List.eq_nil_of_length_eq_zero (by omega)
   subst this
   exact⟨none,0,by rw[h0],by rw[h0];exact Ow.nil _ _ _ _,bZ.none _⟩
 · refine⟨_,cap,rfl,⟨hn,hle,hm,.inr ⟨g,cur,(0,0),rfl,hg,λi _=>by simp,by show cur.size=cap*1;simpa using hs,?_⟩⟩,λx hx=>by simp[eY]at hx;omega⟩
   show fP _ _ _ (cur.toList.take (n*1)) xs
   rw[ht];exact rr λ_ _=>trivial
theorem fP.takeJ {α:Type}{T:Ty α}{w:World}{A:Bl}{l:List Value}{xs:List α}(h:fP T w A l xs){j:Nat}(hj:j <=xs.length):fP T w A (l.take (j*T.k)) (xs.take j):=by
 have hle:j*T.k <=xs.length*T.k:=Nat.mul_le_mul_right _ hj
 refine⟨by rw[List.length_take,List.length_take,h.len,Nat.min_eq_left hle,Nat.min_eq_left hj],λi hi=>?_⟩
 rw[List.length_take,Nat.min_eq_left hj]at hi
 have:=h.rep i (by omega)
 have h2:(i+1)*T.k <=j*T.k:=Nat.mul_le_mul_right _ hi
 rw[Nat.succ_mul]at h2
 rw[List.getElem_take,List.drop_take,List.take_take,Nat.min_eq_left (by omega)]
 exact this
theorem Ow.takeJ {α:Type}{T:Ty α}{t:TypeId}{w:World}{A:Bl}{a:Option Addr}{n c:Nat}{xs:List α}(h:Ow T t w A a n c xs){j:Nat}(hj:j <=xs.length):Ow T t w A a j c (xs.take j):=by
 obtain⟨hn,hnc,hcm,h4⟩:=h
 refine⟨by rw[List.length_take,Nat.min_eq_left hj],by omega,hcm,?_⟩
 rcases h4 with⟨e1,e2,e3⟩|⟨g,cur,fr,e,hg,hf,hs,hr⟩
 · exact .inl ⟨e1,e2,by rw[e3];simp⟩
 · refine .inr ⟨g,cur,fr,e,hg,hf,hs,?_⟩
   have:=hr.takeJ hj
   rwa [List.take_take,Nat.min_eq_left (by rw[hn];exact Nat.mul_le_mul_right _ hj)]at this
theorem Ei {w:World}{A:Bl}{a:Option Addr}{n c:Nat}{xs:List (List UInt8)}(ho:Sl tS w A a n c xs)(x:List UInt8)(hx:xs.length <=9223372036854775807):
   Cf ej #[.slice a n c,vS x] w (Ret λv w'=>v=.bool (decide (x∈xs))/\w'=w):=by
 have hn:=ho.1
 subst hn
 by_cases hne:xs=[]
 · subst hne
   refine(Tryz.slices_Contains_string_empty a c (mkS x) w).mono ?_
   rintro _ _ ⟨rfl,rfl⟩
   exact⟨_,rfl,by simp,rfl⟩
 · obtain⟨b,off,rfl,hc⟩:=Eg ho hne
   refine(Tryz.slices_Contains_string b off xs.length c (xs.map mkS) (mkS x) w (by simp) hx hc).mono ?_
   rintro _ _ ⟨rfl,rfl⟩
   refine⟨_,rfl,?_,rfl⟩
   congr 1
   rw[Bool.eq_iff_iff,Lib.containsS_iff,dTx,List.take_of_length_le (by simp),List.mem_map]
   exact⟨λ⟨y,hy,e⟩=>JJ e▸hy,λh=>⟨x,h,rfl⟩⟩
theorem yS (s:List UInt8)(hs:s.length <=10000000)(w:World)(he:Env w):
   Cf mf #[vS s] w (Ret λv w'=>(if([]:List UInt8)∈dr 32 [] s then v=.tuple #[.slice none 0 0,.bool false]else ∃a n c,v=.tuple #[.slice a n c,.bool true]/\Ow tS ah w' NoB a n c (dr 32 [] s)/\bZ w.heap.size a)/\bW w w'):=by
 apply xU
 refine ax (dv s 32 (by omega) w he) ?_
 rintro _ w1 ⟨a,n,c,rfl,ho,hf,hb⟩
 refine⟨_,_,_,rfl,?_⟩
 refine ax (Ei ho.all [] (by have:=dF 32 s [];omega)) ?_
 rintro _ w2 ⟨rfl,rfl⟩
 refine⟨_,rfl,ab.of (λh=>?_) (λh=>?_)⟩
 · refine⟨?_,hb⟩
   rw[if_pos (of_decide_eq_true h)]
 · refine⟨?_,hb⟩
   rw[if_neg (of_decide_eq_false h)];exact⟨_,_,_,rfl,ho,hf⟩
theorem K9 {w:World}{a:Option Addr}{n c:Nat}{xs:List (List UInt8)}(ho:Ow tS ah w NoB a n c xs)(hx:xs.length <=100000000):
   Cf fe #[.slice a n c] w (Ret λv w'=>∃a' n' c',v=.slice a' n' c'/\Ow tS ah w' NoB a' n' c' xs/\bZ w.heap.size a'/\bW w w'):=by
 have hn:=ho.len
 subst hn
 by_cases hne:xs=[]
 · subst hne
   cases a with
   | none=>
     refine(Tryz.slices_Clone_string_nil 0 c w).mono ?_
     rintro _ _ ⟨rfl,rfl⟩
     exact⟨_,rfl,_,_,_,rfl,Ow.nil _ _ _ _,bZ.none _,Below.refl _ _⟩
   | some a=>
     refine(Tryz.slices_Clone_string_zero a c w).mono ?_
     rintro _ w' ⟨v',rfl,hr,_,hb⟩
     obtain⟨a',c',rfl,ho',hf'⟩:=J7 (xs:=[]) hr rfl
     exact⟨_,rfl,_,_,_,rfl,ho',hf',hb⟩
 · obtain⟨b,off,rfl,hc⟩:=Eg ho.all hne
   refine(Tryz.slices_Clone_string b off xs.length c (xs.map mkS) w (by simp) (by omega) hc).mono ?_
   rintro _ w' ⟨v',rfl,hr,_,hb⟩
   rw[List.take_of_length_le (by simp),List.map_map]at hr
   obtain⟨a',c',rfl,ho',hf'⟩:=J7 (xs:=xs) hr rfl
   exact⟨_,rfl,_,_,_,rfl,ho',hf',hb⟩
theorem Hw {L:List (List UInt8)}{f:List UInt8->List UInt8}{k:Nat}(h:k<L.length):((L.take k).map f++L.drop k).set k (f L[k])=(L.take (k+1)).map f++L.drop (k+1):=by
 rw[List.set_append_right _ _ (by simp;omega),List.length_map,List.length_take,Nat.min_eq_left (by omega),Nat.sub_self,List.drop_eq_getElem_cons h,List.set_cons_zero,List.take_succ_eq_append_getElem h,List.map_append,List.append_assoc];rfl
theorem yR (s:List UInt8)(hs:s.length <=10000000)(w:World)(he:Env w):
   Cf me #[vS s] w (Ret λv w'=>∃a n cp,v=.slice a n cp/\Ow tS ah w' NoB a n cp (uj s)/\bZ w.heap.size a/\bW w w'):=by
 apply xR
 refine ax (dv s 10 (by omega) w he) ?_
 rintro _ w1 ⟨a,n,c,rfl,ho,hf,hb⟩
 have hn:=ho.len
 subst hn
 refine⟨_,_,_,rfl,?_⟩
 have hne:=jG 10 s []
 have hcnt:=dF 10 s []
 have hpl:=jp 10 s []
 have hlin:uj s=((if(dr 10 [] s).getLast?=some []then(dr 10 [] s).dropLast else dr 10 [] s)).map u0:=rfl
 revert ho hne hcnt hpl hlin
 generalize dr 10 [] s=L
 intro ho hne hcnt hpl hlin
 have hpos:0<L.length:=List.length_pos_iff.2 hne
 have hcap:=ho.2.1
 have e1:i64.wrap (((L.length:Nat):Int)-(1:Int))=((L.length-1:Nat):Int):=by rw[wrap_i64 (by omega) (by omega)];omega
 refine⟨λa3 l3 c3 w'=>w'=w1/\∃M:List (List UInt8),uj s=M.map u0/\(∀x∈M,x.length <=s.length)/\M.length <=s.length+1/\a3=a/\Ow tS ah w1 NoB a3 l3 c3 M,?_,?_⟩
 · obtain⟨v,hv,hrep⟩:=ho.all.load1 (i:=((L.length-1:Nat):Int)) aw rfl rfl (by simp;omega)
   obtain⟨rfl,_⟩:=kX hrep
   simp only[Int.toNat_natCast]at hv
   rw[e1]
   refine⟨⟨⟨by omega,by omega⟩,ho.all.isSome (i:=0) hpos⟩,_,hv,?_⟩
   have hmem:∀x∈L,x.length <=s.length:=λx hx=>by have:=hpl x hx;simpa using this
   refine ab.of (λh=>?_) (λh=>?_)
   · have h:L[L.length-1]'(by omega)=[]:=eq_of_beq h
     refine⟨⟨by omega,by omega⟩,rfl,L.dropLast,?_,λx hx=>hmem x (List.dropLast_subset _ hx),by rw[List.length_dropLast];omega,rfl,?_⟩
     · rw[hlin,if_pos (zV hpos h)]
     · rw[List.dropLast_eq_take,Int.toNat_natCast];exact ho.takeJ (by omega)
   · refine⟨rfl,L,?_,hmem,hcnt,rfl,ho⟩
     rw[hlin,if_neg]
     rw[zV hpos rfl]
     intro e
     rw[Option.some.inj e]at h;cases h
 · intro a3 l3 c3
   refine aX.of ?_ _
   rintro w2 ⟨rfl,M,hM,hMl,hMn,rfl,hoM⟩
   have hl3:=hoM.len
   subst hl3
   refine⟨λm i w'=>∃k:Nat,k <=M.length/\i=(k:Int)/\m=M.length-k/\Ow tS ah w' NoB a3 M.length c3 ((M.take k).map u0++M.drop k)/\bW w w',
     ⟨_,0,by omega,rfl,rfl,hoM,hb⟩,?_⟩
   intro m i
   refine aX.of ?_ _
   rintro w3 ⟨k,hk,rfl,rfl,ho3,hB3⟩
   have hlen3:((M.take k).map u0++M.drop k).length=M.length:=by simp;omega
   refine ab.of (λh=>?_) (λh=>?_) <;> simp only[dTx,dFx]at h
   · have hlt:k<M.length:=by omega
     have hget:((M.take k).map u0++M.drop k)[k]'(by omega)=M[k]:=by
       rw[List.getElem_append_right (by simp;omega)]
       simp[Nat.min_eq_left (Nat.le_of_lt hlt)]
     obtain⟨v,hv,hrep⟩:=ho3.all.load1 (i:=(k:Int)) aw rfl rfl (by rw[Int.toNat_natCast,hlen3];exact hlt)
     obtain⟨rfl,_⟩:=kX hrep
     simp only[Int.toNat_natCast]at hv
     rw[hget]at hv
     have hmk:=hMl M[k] (List.getElem_mem hlt)
     refine⟨⟨⟨by omega,h⟩,ho3.all.isSome (i:=k) (by omega)⟩,_,hv,?_⟩
     refine(Tryz.strings_TrimSuffix (mkS M[k]) (mkS [13]) w3 (by show(M[k]).length <=_;omega)).mono ?_
     rintro _ w4 ⟨rfl,rfl⟩
     refine⟨u0 M[k],?_,⟨⟨by omega,h⟩,ho3.all.isSome (i:=k) (by omega)⟩,?_⟩
     · show Ending.returned (vS (Lib.trimSuffix M[k] [13]))=_
       rw[(wm M[k] 13).2,u0]
       split
       · rw[List.dropLast_eq_take]
       · rfl
     · obtain⟨w5,hs5,ho5,hg5⟩:=ho3.store (P:=prog) fz (λ_ _ h=>h) (i:=(k:Int)) (by rw[Int.toNat_natCast,hlen3];exact hlt) (k:=1) rfl (v:=vS (u0 M[k])) (x:=u0 M[k]) (iu trivial)
       refine⟨w5,hs5,M.length-(k+1),by omega,k+1,by omega,by rw[wrap_i64 (by omega) (by omega)];omega,rfl,?_,hB3.grown hg5 hB3.size hf⟩
       rw[Int.toNat_natCast,Hw hlt]at ho5
       exact ho5
   · have:k=M.length:=by omega
     subst this
     rw[List.take_length,List.drop_length,List.append_nil,<- hM]at ho3
     have hll:=ho3.len
     refine ax (K9 ho3 (by omega)) ?_
     rintro _ w4 ⟨a',n',c',rfl,ho4,hf4,hb4⟩
     exact⟨_,_,_,rfl,_,_,_,rfl,ho4,hf4.mono hB3.size,aa hB3 hb4 hB3.size⟩
theorem mw {A B:Bl}{a0:Option Addr}{l0 c0:Nat}{xs:List (List UInt8)}{a1:Option Addr}{l1 c1:Nat}{ys:List (List UInt8)}{w:World}(hx:Sl tS w A a0 l0 c0 xs)(hy:Sl tS w B a1 l1 c1 ys)(hl:xs.length <=9223372036854775800):
   Cf iJ #[.slice a0 l0 c0,.slice a1 l1 c1] w (Ret λv w'=>v=.bool (decide (xs=ys))/\bW w w'):=by
 have hn:=hx.1
 have hm:=hy.1
 subst hn hm
 apply zq
 refine ab.of (λh=>?_) (λh=>?_)
 · refine⟨?_,Below.refl _ _⟩
   rw[decide_eq_false]
   rintro rfl
   simp at h
 have hlen:xs.length=ys.length:=by
   have:((xs.length:Nat):Int)=((ys.length:Nat):Int):=by simpa using h
   omega
 refine⟨λm i w'=>∃k:Nat,k <=xs.length/\i=(k:Int)/\m=xs.length-k/\xs.take k=ys.take k/\bW w w',⟨_,0,by omega,rfl,rfl,rfl,Below.refl _ _⟩,?_⟩
 intro m i
 refine aX.of ?_ _
 rintro w1 ⟨k,hk,rfl,rfl,heq,hB⟩
 refine ab.of (λh2=>?_) (λh2=>?_) <;> simp only[dTx,dFx]at h2
 · have hlt:k<xs.length:=by omega
   refine⟨⟨⟨by omega,h2⟩,hx.isSome hlt⟩,xs[k],λu hu=>?_,⟨⟨by omega,by omega⟩,hy.isSome (i:=k) (by omega)⟩,ys[k]'(by omega),λu hu=>?_,?_⟩
   · obtain⟨v,hv,hrep⟩:=(hx.below (aa hB hu hB.size)).load1 (P:=prog) (i:=(k:Int)) aw rfl rfl (by simpa using hlt)
     obtain⟨rfl,_⟩:=kX hrep
     exact hv
   · obtain⟨v,hv,hrep⟩:=(hy.below (aa hB hu hB.size)).load1 (P:=prog) (i:=(k:Int)) aw rfl rfl (by simp;omega)
     obtain⟨rfl,_⟩:=kX hrep
     exact hv
   · intro wq hwq
     have hBq:=aa hB hwq hB.size
     refine ab.of (λh3=>?_) (λh3=>?_)
     · refine⟨?_,hBq⟩
       rw[decide_eq_false]
       rintro rfl
       simp at h3
     · have h3:xs[k]=ys[k]'(by omega):=by simpa using h3
       refine⟨xs.length-(k+1),by omega,k+1,by omega,by have:=hx.2.1;have:=hx.2.2.1;rw[wrap_i64 (by omega) (by omega)];omega,rfl,?_,hBq⟩
       rw[List.take_succ_eq_append_getElem hlt,List.take_succ_eq_append_getElem (by omega),heq,h3]
 · have:k=xs.length:=by omega
   subst this
   refine⟨?_,hB⟩
   rw[List.take_length,hlen,List.take_length]at heq
   rw[decide_eq_true heq]
def mI (P:Program)(v:Value)(args:Array Value)(w:World)(R:Ending->World->Prop):Prop:=
 match(match v with
   | .func (.func f) first captured=>if rA P f then some (f,(first.toList++(args.toList++captured.toList)).toArray)else none
   | _=>none:Option (FuncId×Array Value))with
 | some (f,l)=>Calls P f l w R
 | none=>False
theorem mI.of {P:Program}{f:FuncId}{args:Array Value}{w:World}{R:Ending->World->Prop}(hc:rA P f=true)(h:Calls P f args w R):mI P (.func (.func f) #[] #[]) args w R:=by
 unfold mI
 show(match(if rA P f then some (f,_)else none:Option (FuncId×Array Value))with|some (f,l)=>Calls P f l w R|none=>False)
 rw[if_pos hc]
 simpa using h
end Go.Pk
