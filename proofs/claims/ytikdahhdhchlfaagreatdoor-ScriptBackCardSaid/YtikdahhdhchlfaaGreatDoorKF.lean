/- What the laws lean on: V4, UrlA, UrlB, MatA, Elem, OpR, ScrP, MapG, KeyS, V20, WrdE, WrdF, Fnv; what is used. Its conditions: none. -/
import Derived.Test.YtikdahhdhchlfaaGreatDoorKE
import Derived.Lib.LastIndexByte
import Derived.Lib.Join
set_option linter.unusedVariables false
set_option linter.unusedSimpArgs false
set_option linter.unusedSectionVars false
set_option maxRecDepth 100000
open Go.IntKind (i64)
open Go.Proofs.Tryz
open List (length)
open Option (isSome)
namespace Go.Pk
open Go.RowKit (Below)
open Go.Proofs
theorem DK (a:Option Addr)(b c:Nat){w K}(h:nA w (.map #[] 0) λd e=>∃f g i j,(Instr.makeSlice bJ (vI 1) (vI 1)).run prog e=.ok (.slice g i j) f/\nA f (.cells #[.map (some d),.slice g i j] aV) λk l=>∃m:Nat->FP [.one (.int .i64)],(∃n,m n (0:Int) l)/\∀n o,aJ 28 (∀p,m n o p->ab (decide (o<((b:Nat):Int))) ((bx o ((b:Nat):Int)/\Option.isSome a=true)/\∃q r,Ld aW (aq a o 2) p (.agg #[vI q,vS r])/\nA p (.cells #[vI 0,vS []] aW) λs t=>∃u,Sv aW (vA s 0) (.agg #[vI q,vS r]) t u/\∃v x,Ld aW (vA s 0) u (.agg #[vI v,vS x])/\uS uf #[.agg #[vI v,vS x]] u λy z=>Cf ue #[vS y] z λA B=>∃C D E F,A=rT #[.agg #[vI C,vS D],.bool E,vI F]/\nA B (.cells #[vI 0,vS []] aW) λG H=>∃I,Sv aW (vA G 0) (.agg #[vI C,vS D]) H I/\∃J:FP [.one .bool],(ab (F==(0:Int)) (ab E (∃L M,Ld aW (vA G 0) I (.agg #[vI L,vS M])/\∃N O,Ld aW (vA s 0) I (.agg #[vI N,vS O])/\∃P,(do eqGuard .eql aW (.tmp 32) (.tmp 33) (.agg #[vI L,vS M]) (.agg #[vI N,vS O]);binOp .eql aW (.agg #[vI L,vS M]) (.agg #[vI N,vS O]):Sem Value).run prog I=.ok (.bool P) I/\J P I) (J false I)) (J false I))/\∀L,aJ 9 (∀M,J L M->ab L (∃N O,Ld aW (vA s 0) M (.agg #[vI N,vS O])/\uU jb #[.pointer (vA k 0),.agg #[vI N,vS O]] M λP=>∃Q:Nat,Q<n/\m Q (i64.wrap (o+(1:Int))) P) (∃N:Nat,N<n/\m N (i64.wrap (o+(1:Int))) M))) (K (.pointer (vA k 0)) p))):Cf qE #[.slice a b c] w (Ret K):=ru func15 [(8,[(15,.one (.int .i64))]),(21,[(35,.one .bool)])] h
theorem Gc (a:lU){w K}(h:nA w (.cells #[vI 0,vS []] aW) λb c=>uS iK #[vS a] c λd e=>∃f:FP [],(∃g:FP [.one .bool],(ab (d==[]) (g true e) (uB ej #[vS d,vS [47,47]] e λi j=>g i j))/\∀i,aJ 5 (∀j,g i j->ab i (∃k,Sv aW (vA b 0) (.agg #[vI 0,vS []]) j k/\∃l m,Rv aW (vA b 0) k (.agg #[vI l,vS m])/\K (.tuple #[.agg #[vI l,vS m],.bool false,vI 0]) k) (f j)))/\aJ 9 (∀g,f g->∃i:FP [.one .str],(uI eF #[vS d,vS [32,9]] g λj k=>ab (decide (j >=(0:Int))) (bd j (((List.length d):Nat):Int)/\∀l,l=(List.take (Int.toNat j) d)->i l k) (i d k))/\∀j,aJ 8 (∀k,i j k->Cf oW #[vS j] k λl m=>∃n o,l=rT #[vI n,vS o]/\Cf gy #[vS o] m λp q=>∃r s,p=rT #[r,vI s]/\nA q (.cells bj ae) λt u=>∃v,Sv ae (vA t 0) r u v/\∃x:FP [],(∃y:FP [.one .bool],(ab (s !=(0:Int)) (y true v) (true/\∃z,Ld bh (vA t 0) v (vI z)/\ab (z !=(1:Int)) (y true v) (ab (n==(3:Int)) (∃A,Ld ae (vA t 0) v A/\uL ct #[A] v λB C D E=>y (decide (((C:Nat):Int)<(2:Int))) E) (y false v))))/\∀z,aJ 16 (∀A,y z A->ab z (∃B,Sv aW (vA b 0) (.agg #[vI 0,vS []]) A B/\∃C D,Rv aW (vA b 0) B (.agg #[vI C,vS D])/\K (.tuple #[.agg #[vI C,vS D],.bool false,vI 51]) B) (x A)))/\aJ 20 (∀y,x y->true/\∃z,Ld ah (vA t 1) y (vS z)/\∃A,Sv aW (vA b 0) (.agg #[vI n,vS z]) y A/\∃B C,Rv aW (vA b 0) A (.agg #[vI B,vS C])/\K (.tuple #[.agg #[vI B,vS C],.bool true,vI 0]) A)))):Cf ue #[vS a] w (Ret K):=ru func30 [(4,[]),(5,[(17,.one .bool)]),(12,[(0,.one .str)]),(24,[]),(25,[(52,.one .bool)])] h
theorem Gd (a:Int)(b:lU){w K}(h:nA w (.cells #[vI a,vS b] aW) λc d=>true/\∃e,(∀f,bW d f->Ld bh (vA c 0) f (vI e))/\∃f,(∀g,bW d g->Cf oX #[vI e] g λi j=>i=.returned (vS f)/\Below d.heap.size g j)/\true/\∃g,(∀i,bW d i->Ld ah (vA c 1) i (vS g))/\(((List.length f+List.length g:Nat):Int) <=i64.max)/\∀i,i=(f++g)->∀j,bW d j->K (vS i) j):Cf uf #[.agg #[vI a,vS b]] w (Ret K):=ru func31 [] h
theorem ss (a:Option Addr)(b:Int)(c:lU){w K}(h:nA w (.cells #[vI b,vS c] aW) λd e=>true/\∃f,Ld ah (vA d 1) e (vS f)/\uL dA #[vS f,.int .u8 46] e λg i j k=>∃l:Nat->FP [.one (.int .i64),.one (.int .i64)],(∃m,l m (0:Int) (i64.wrap (((i:Nat):Int)-(1:Int))) k)/\∀m n o,aJ 50 (∀p,l m n o p->ab (decide (o >=(0:Int))) ((bx o ((i:Nat):Int)/\Option.isSome g=true)/\∃q,Ld ah (aq g o 1) p (vS q)/\nA p (.cells #[vI 0,vS []] cB) λr s=>∃t,Sv cB (vA r 0) (.agg #[vI n,vS q]) s t/\∃u:FP [],((Option.isSome a=true)/\(Option.isSome a=true)/\∃v,(∀x,bW t x->Ld bz (Option.map (λy=>y.add 0) a) x (.map v))/\∃x y,(∀z,bW t z->Ld cB (vA r 0) z (.agg #[vI x,vS y]))/\∃z A,(∀B,bW t B->(Instr.lookup bz (.map v) (.agg #[vI x,vS y]) true).run prog B=.ok (.tuple #[vI z,.bool A]) B)/\∀B,bW t B->ab (!A) ((Option.isSome a=true)/\(Option.isSome a=true)/\∃C,(∀D,bW B D->Ld bz (Option.map (λE=>E.add 0) a) D (.map C))/\∃D E,(∀F,bW B F->Ld cB (vA r 0) F (.agg #[vI D,vS E]))/\(Option.isSome a=true)/\(Option.isSome a=true)/\∃F G H,(∀I,bW B I->Ld bJ (Option.map (λJ=>J.add 1) a) I (.slice F G H))/\∀I,bW B I->∃J,(Instr.mapUpdate bz (.map C) (.agg #[vI D,vS E]) (vI ((G:Nat):Int))).run prog I=.ok () J/\(Option.isSome a=true)/\(Option.isSome a=true)/\∃L M N,Ld bJ (Option.map (λO=>O.add 1) a) J (.slice L M N)/\nA J (.cells #[.bool false,.bool false,.bool false,.bool false] bi) λO P=>∃Q R S T,(Builtin.append_ #[bJ,bJ] bJ #[.slice L M N,.slice (vA O 0) 1 1]).run prog P=.ok (.slice R S T) Q/\(Option.isSome a=true)/\(Option.isSome a=true)/\∃U,Sv bJ (Option.map (λV=>V.add 1) a) (.slice R S T) Q U/\u U) (u B))/\aJ 33 (∀v,u v->(Option.isSome a=true)/\(Option.isSome a=true)/\∃x,(∀y,bW v y->Ld bz (Option.map (λz=>z.add 0) a) y (.map x))/\∃y z,(∀A,bW v A->Ld cB (vA r 0) A (.agg #[vI y,vS z]))/\∃A,(∀B,bW v B->(Instr.lookup bz (.map x) (.agg #[vI y,vS z]) false).run prog B=.ok (vI A) B)/\∀B,bW v B->∃C:Nat,C<m/\l C A (i64.wrap (o-(1:Int))) B)) ((Option.isSome a=true)/\(Option.isSome a=true)/\∃q r s,(∀t,bW p t->Ld bJ (Option.map (λu=>u.add 1) a) t (.slice q r s))/\true/\∃t,(∀u,bW p u->Ld bh (vA d 0) u (vI t))/\(bx n ((r:Nat):Int)/\Option.isSome q=true)/\(bx t ((4:Nat):Int)/\isSome (aq q n 4))/\∀u,bW p u->∃v,Sv bV (aq (aq q n 4) t 1) (.bool true) u v/\K (.tuple #[]) v))):Cf jb #[.pointer a,.agg #[vI b,vS c]] w (Ret K):=ru func32 [(10,[(4,.one (.int .i64)),(6,.one (.int .i64))]),(21,[]),(2000028,[(10,.one .bool)]),(2000033,[(9,.one .bool)])] h
theorem Gi (a:Value){w K}(h:nA w (.cells (Value.cells a) ay) λb c=>true/\∃d,Ld ae (vA b 1) c d/\uB fA #[d] c λe f=>ab e (true/\∃g,Ld bh (vA b 19) f (vI g)/\ab (decide (g >=(1:Int))) (true/\∃i,Ld bh (vA b 19) f (vI i)/\ab (decide (i <=(65535:Int))) (true/\∃j,Ld ah (vA b 20) f (vS j)/\uB nH #[vS j] f λk l=>K (.bool k) l) (K (.bool false) f)) (K (.bool false) f)) (K (.bool false) f)):Cf jz #[a] w (Ret K):=ru func41 [] h
theorem H3 (a:lU){w K}(h:∃b:FP [],(ab (a==[]) (K (.bool false) w) (ab (decide (((List.length a:Nat):Int)>(2048:Int))) (K (.bool false) w) (bx (0:Int) ((List.length a:Nat):Int)/\ab ((bf a (0:Int)) !=(47:Int)) (K (.bool false) w) (b w))))/\aJ 13 (∀c,b c->∃d e f g,(convert ah aG (vS a)).run prog c=.ok (.slice e f g) d/\∃i:Nat->FP [.one (.int .i64)],(∃j,i j (0:Int) d)/\∀j k,aJ 20 (∀l,i j k l->ab (decide (k<((f:Nat):Int))) ((bx k ((f:Nat):Int)/\Option.isSome e=true)/\∃m,Ld aQ (aq e k 1) l (.int .u8 m)/\ab (decide (m<(33:Int))) (K (.bool false) l) (ab (decide (m>(126:Int))) (K (.bool false) l) (ab (m==(63:Int)) (K (.bool false) l) (ab (m==(35:Int)) (K (.bool false) l) (∃n:Nat,n<j/\i n (i64.wrap (k+(1:Int))) l))))) (K (.bool true) l)))):Cf nH #[vS a] w (Ret K):=ru func43 [(2,[]),(14,[(20,.one (.int .i64))])] h
theorem Di (a:Option Addr)(b:Value)(c d e f:lU)(g:Bool)(i:Int)(j:Bool)(k:Int)(l m:Bool)(n o:Int){w K}(h:nA w (.cells (Value.cells b) ay) λp q=>nA q (.cells #[vS c,vS d,vS e,vS f,.bool g,vI i,.bool j,vI k,.bool l,.bool m,vI n] ax) λr s=>nA s (.cells cT af) λt u=>∃v,Ld ay (vA p 0) u v/\∃x y z A B C D E F G H,Ld ax (vA r 0) u (hV x y z A B C D E F G H)/\uI oB #[v,(hV x y z A B C D E F G H),vI o] u λI J=>ab (I !=(0:Int)) (∃L,Sv af (vA t 0) (.agg cT) J L/\∃M,Rv af (vA t 0) L M/\K (.tuple #[M,vI I]) L) (true/\∃L,Ld ae (vA p 1) J L/\true/\∃M,Ld ah (vA r 2) J (vS M)/\Cf mX #[.pointer a,L,vS M] J λN O=>∃P Q R,N=rT #[P,.bool Q,vI R]/\nA O (.cells bj ae) λS T=>∃U,Sv ae (vA S 0) P T U/\∃V:FP [.one (.int .i64)],(ab (R !=(0:Int)) (V R U) (∃X:FP [.one .bool],(true/\∃Y,Ld bV (vA r 8) U (.bool Y)/\ab Y (true/\∃Z,Ld bV (vA p 0) U (.bool Z)/\X (!Z) U) (X false U))/\∀Y,aJ 7 (∀Z,X Y Z->ab Y (V (104:Int) Z) (∃ac:FP [.one .bool],(true/\∃ad,Ld bh (vA r 10) Z (vI ad)/\ab (ad==(1:Int)) (true/\∃ag,Ld bV (vA r 8) Z (.bool ag)/\ac (!ag) Z) (ac false Z))/\∀ad,aJ 8 (∀ag,ac ad ag->ab ad (V (105:Int) ag) (∃aj al an bb bc bd bk bo bp bq br,Ld ax (vA r 0) ag (hV aj al an bb bc bd bk bo bp bq br)/\uB mW #[(hV aj al an bb bc bd bk bo bp bq br),.bool Q] ag λbs bx=>ab bs (V (106:Int) bx) (V R bx)))))))/\∀X,aJ 24 (∀Y,V X Y->ab (X !=(0:Int)) (∃Z,Sv af (vA t 0) (.agg cT) Y Z/\∃ac,Rv af (vA t 0) Z ac/\K (.tuple #[ac,vI X]) Z) (true/\∃Z,Ld ah (vA r 3) Y (vS Z)/\∃ac:FP [.one .str],(ab (Z==[]) (true/\∃ad,Ld ah (vA p 20) Y (vS ad)/\uS lD #[vS ad] Y λag aj=>ac ag aj) (ac Z Y))/\∀ad,aJ 5 (∀ag,ac ad ag->true/\∃aj,(∀al,bW ag al->Ld ah (vA r 0) al (vS aj))/\true/\∃al,(∀an,bW ag an->Ld ah (vA r 1) an (vS al))/\∃an,(∀bb,bW ag bb->Ld ae (vA S 0) bb an)/\true/\∃bb,(∀bc,bW ag bc->Ld bV (vA r 8) bc (.bool bb))/\true/\∃bc,(∀bd,bW ag bd->Ld bV (vA r 9) bd (.bool bc))/\true/\∃bd,(∀bk,bW ag bk->Ld bh (vA r 10) bk (vI bd))/\∃bk bo bp bq br bs bx ca cb cc ce,(∀cf,bW ag cf->Ld ax (vA r 0) cf (hV bk bo bp bq br bs bx ca cb cc ce))/\∃cf,(∀ch,bW ag ch->Cf lw #[(hV bk bo bp bq br bs bx ca cb cc ce),vI o] ch λck cl=>ck=.returned (vI cf)/\Below ag.heap.size ch cl)/\∃ch,(∀ck,bW ag ck->(Instr.build af #[(0,vS aj),(1,vS al),(2,an),(3,.bool Q),(4,vS ad),(5,.bool bb),(6,.bool bc),(7,vI bd),(8,vI cf),(9,vI o),(10,vI o)]).run prog ck=.ok ch ck)/\∀ck,bW ag ck->∃cl,Sv af (vA t 0) ch ck cl/\∃cm,Rv af (vA t 0) cl cm/\K (.tuple #[cm,vI 0]) cl))))):Cf mC #[.pointer a,b,.agg #[vS c,vS d,vS e,vS f,.bool g,vI i,.bool j,vI k,.bool l,.bool m,vI n],vI o] w (Ret K):=ru func61 [(14,[(13,.one (.int .i64))]),(20,[(36,.one .bool)]),(24,[(44,.one .bool)]),(43,[(14,.one .str)]),(2000050,[(19,.one .bool)])] h
theorem Br (a b:Value)(c:Int){w K}(h:nA w (.cells (Value.cells a) af) λd e=>nA e (.cells (Value.cells b) aN) λf g=>true/\∃i,Ld bu (vA d 25) g (vI i)/\ab (decide (c<i)) (true/\∃j,Ld bV (vA f 0) g (.bool j)/\ab j (true/\∃k,Ld bh (vA d 24) g (vI k)/\true/\∃l,Ld bh (vA f 20) g (vI l)/\uB gz #[vI k,vI l] g λm n=>ab m (true/\∃o,Ld ah (vA f 19) n (vS o)/\true/\∃p,Ld ah (vA d 21) n (vS p)/\uB iJ #[vS o,vS p] n λq r=>ab q (∃s,Ld af (vA d 0) r s/\true/\∃t,Ld ae (vA f 1) r t/\uB nE #[s,t] r λu v=>K (.bool u) v) (K (.bool false) r)) (K (.bool false) n)) (true/\∃k,Ld bV (vA d 22) g (.bool k)/\ab (!k) (true/\∃l,Ld bh (vA d 24) g (vI l)/\true/\∃m,Ld bh (vA f 20) g (vI m)/\uB gz #[vI l,vI m] g λn o=>ab n (true/\∃p,Ld ah (vA f 19) o (vS p)/\true/\∃q,Ld ah (vA d 21) o (vS q)/\uB iJ #[vS p,vS q] o λr s=>ab r (∃t,Ld af (vA d 0) s t/\true/\∃u,Ld ae (vA f 1) s u/\uB nE #[t,u] s λv x=>K (.bool v) x) (K (.bool false) s)) (K (.bool false) o)) (K (.bool false) g))) (K (.bool false) g)):Cf oK #[a,b,vI c] w (Ret K):=ru func70 [] h
theorem Bp (a b:Value){w K}(h:nA w (.cells (Value.cells a) af) λc d=>nA d (.cells (Value.cells b) af) λe f=>true/\∃g,Ld ah (vA c 21) f (vS g)/\true/\∃i,Ld ah (vA e 21) f (vS i)/\ab (((List.length g:Nat):Int) !=((List.length i:Nat):Int)) (true/\∃j,Ld ah (vA c 21) f (vS j)/\true/\∃k,Ld ah (vA e 21) f (vS k)/\K (.bool (decide (((List.length j:Nat):Int)>((List.length k:Nat):Int)))) f) (true/\∃j,Ld bh (vA c 28) f (vI j)/\true/\∃k,Ld bh (vA e 28) f (vI k)/\K (.bool (decide (j<k))) f)):Cf oJ #[a,b] w (Ret K):=ru func73 [] h
theorem BP (a:lU){w K}(h:∃b:Nat->FP [.one (.int .i64)],(∃c,b c (0:Int) w)/\∀c d,aJ 18 (∀e,b c d e->ab (decide (d<(2:Int))) (∃f,(Instr.index Ll (.agg #[vI 2,vI 3]) (vI d)).run prog e=.ok (vI f) e/\uS oX #[vI f] e λg i=>Cf cv #[vS a,vS g] i λj k=>∃l m,j=rT #[vS l,.bool m]/\ab m (K (.tuple #[vI f,vS l]) k) (∃n:Nat,n<c/\b n (i64.wrap (d+(1:Int))) k)) (K (.tuple #[vI 1,vS a]) e))):Cf oW #[vS a] w (Ret K):=ru func79 [(6,[(9,.one (.int .i64))])] h
def yC (a:Int)(b:World)(c:VP):Prop:=ab (a==(2:Int)) (c (vS [42,46]) b) (ab (a==(3:Int)) (c (vS [33]) b) (c (vS []) b))
theorem Ge (a:Int){w K}(h:yC a w K):Cf oX #[vI a] w (Ret K):=ru func82 [] h
theorem Bb (a:Value)(b c d e:lU)(f:Bool)(g:Int)(i:Bool)(j:Int)(k l:Bool)(m n:Int){w K}(h:nA w (.cells (Value.cells a) ay) λo p=>nA p (.cells #[vS b,vS c,vS d,vS e,.bool f,vI g,.bool i,vI j,.bool k,.bool l,vI m] ax) λq r=>∃s,Ld ay (vA o 0) r s/\uB jz #[s] r λt u=>ab (!t) (K (vI 41) u) (∃v x y z A B C D E F G,Ld ax (vA q 0) u (hV v x y z A B C D E F G)/\uB mY #[(hV v x y z A B C D E F G)] u λH I=>ab (!H) (K (vI 82) I) (ab (decide (n<(0:Int))) (K (vI 122) I) (ab (decide (n>(1099511627776:Int))) (K (vI 122) I) (K (vI 0) I))))):Cf oB #[a,.agg #[vS b,vS c,vS d,vS e,.bool f,vI g,.bool i,vI j,.bool k,.bool l,vI m],vI n] w (Ret K):=ru func118 [] h
theorem zd (a:Option Addr)(b:Value)(c:lU){w K}(h:nA w (.cells (Value.cells b) ae) λd e=>nA e (.cells bj ae) λf g=>ab (c==[]) (∃i,Ld ae (vA d 0) g i/\∃j,Sv ae (vA f 0) i g j/\∃k,Rv ae (vA f 0) j k/\K (.tuple #[k,.bool true,vI 0]) j) (Cf gy #[vS c] g λi j=>∃k l,i=rT #[k,vI l]/\nA j (.cells bj ae) λm n=>∃o,Sv ae (vA m 0) k n o/\∃p:FP [],(ab (l !=(0:Int)) (∃q,Ld ae (vA m 0) o q/\∃r,Sv ae (vA f 0) q o r/\∃s,Rv ae (vA f 0) r s/\K (.tuple #[s,.bool false,vI 101]) r) (∃q:FP [.one .bool],(∃r,Ld ae (vA m 0) o r/\uB cU #[.pointer a,r] o λs t=>ab s (∃u,Ld ae (vA m 0) t u/\∃v,Ld ae (vA d 0) t v/\∃x,(do eqGuard .neq ae (.tmp 28) (.tmp 29) u v;binOp .neq ae u v:Sem Value).run prog t=.ok (.bool x) t/\q x t) (q false t))/\∀r,aJ 8 (∀s,q r s->ab r (∃t,Ld ae (vA m 0) s t/\∃u,Sv ae (vA f 0) t s u/\∃v,Rv ae (vA f 0) u v/\K (.tuple #[v,.bool false,vI 102]) u) (∃t,Ld ae (vA d 0) s t/\∃u,Ld ae (vA m 0) s u/\uB fU #[t,u] s λv x=>ab (!v) (∃y,Ld ae (vA m 0) x y/\∃z,Sv ae (vA f 0) y x z/\∃A,Rv ae (vA f 0) z A/\K (.tuple #[A,.bool false,vI 103]) z) (p x)))))/\aJ 22 (∀q,p q->(∃r,Ld ae (vA m 0) (World.drew q) r/\∃s,Ld ae (vA m 0) (World.drew q) s/\uB cU #[.pointer a,s] (World.drew q) λt u=>∃v,Sv ae (vA f 0) r u v/\∃x,Rv ae (vA f 0) v x/\K (.tuple #[x,.bool t,vI 0]) v)/\∃r,Ld ae (vA m 0) (World.drew q) r/\(∃s,Ld ae (vA m 0) (World.drew q) s/\uB cU #[.pointer a,r] (World.drew q) λt u=>∃v,Sv ae (vA f 0) s u v/\∃x,Rv ae (vA f 0) v x/\K (.tuple #[x,.bool t,vI 0]) v)/\uB cU #[.pointer a,r] (World.drew q) λs t=>∃u,Ld ae (vA m 0) t u/\∃v,Sv ae (vA f 0) u t v/\∃x,Rv ae (vA f 0) v x/\K (.tuple #[x,.bool s,vI 0]) v))):Cf mX #[.pointer a,b,vS c] w (Ret K):=ru func119 [(12,[]),(20,[(23,.one .bool)])] h
theorem zc (a b c d:lU)(e:Bool)(f:Int)(g:Bool)(i:Int)(j k:Bool)(l:Int)(m:Bool){w K}(h:nA w (.cells #[vS a,vS b,vS c,vS d,.bool e,vI f,.bool g,vI i,.bool j,.bool k,vI l] ax) λn o=>true/\∃p,Ld ah (vA n 0) o (vS p)/\∃q:FP [.one .str],(ab (p==[]) (true/\∃r,Ld ah (vA n 1) o (vS r)/\q r o) (q p o))/\∀r,aJ 4 (∀s,q r s->uI mV #[vS r] s λt u=>ab (t==(1:Int)) (true/\∃v,Ld bV (vA n 8) u (.bool v)/\K (.bool (!v)) u) (ab (t==(2:Int)) (true/\∃v,Ld bV (vA n 8) u (.bool v)/\ab (!v) (K (.bool true) u) (ab (!m) (K (.bool true) u) (true/\∃x,Ld ah (vA n 3) u (vS x)/\K (.bool (!(x==[47]))) u))) (K (.bool false) u)))):Cf mW #[.agg #[vS a,vS b,vS c,vS d,.bool e,vI f,.bool g,vI i,.bool j,.bool k,vI l],.bool m] w (Ret K):=ru func120 [(4,[(5,.one .str)])] h
theorem xK (a:lU){w K}(h:uI o7 #[vS a,.int .u8 47] w λb c=>∃d:FP [.one .bool],(ab (decide (b>(0:Int))) (bx (0:Int) ((List.length a:Nat):Int)/\d ((bf a (0:Int))==(47:Int)) c) (d false c))/\∀e,aJ 6 (∀f,d e f->ab e (bd b (((List.length a):Nat):Int)/\∀g,g=(List.take (Int.toNat b) a)->K (vS g) f) (K (vS [47]) f))):Cf lD #[vS a] w (Ret K):=ru func121 [(5,[(12,.one .bool)])] h
theorem xE (a b c d:lU)(e:Bool)(f:Int)(g:Bool)(i:Int)(j k:Bool)(l m:Int){w K}(h:nA w (.cells #[vS a,vS b,vS c,vS d,.bool e,vI f,.bool g,vI i,.bool j,.bool k,vI l] ax) λn o=>true/\∃p,Ld bV (vA n 6) o (.bool p)/\ab p (true/\∃q,Ld bu (vA n 7) o (vI q)/\K (vI (i64.wrap (m+q))) o) (true/\∃q,Ld bV (vA n 4) o (.bool q)/\ab q (true/\∃r,Ld bu (vA n 5) o (vI r)/\∃s,(Builtin.min_ #[bu,bu] bu #[vI r,vI (i64.wrap (m+(34560000:Int)))]).run prog o=.ok (vI s) o/\K (vI s) o) (K (vI 9223372036854775807) o))):Cf lw #[.agg #[vS a,vS b,vS c,vS d,.bool e,vI f,.bool g,vI i,.bool j,.bool k,vI l],vI m] w (Ret K):=ru func122 [] h
theorem zk (a b:Value){w K}(h:nA w (.cells (Value.cells a) ae) λc d=>nA d (.cells (Value.cells b) ae) λe f=>∃g,Ld ae (vA c 0) f g/\∃i,Ld ae (vA e 0) f i/\∃j,(do eqGuard .eql ae (.tmp 5) (.tmp 6) g i;binOp .eql ae g i:Sem Value).run prog f=.ok (.bool j) f/\ab j (∃k,Ld ae (vA c 0) f k/\uB fA #[k] f λl m=>ab l (K (.bool true) m) (∃n,Ld ae (vA c 0) m n/\∃o,Ld ae (vA e 0) m o/\uB jO #[n,o] m λp q=>K (.bool p) q)) (∃k,Ld ae (vA c 0) f k/\∃l,Ld ae (vA e 0) f l/\uB jO #[k,l] f λm n=>K (.bool m) n)):Cf fU #[a,b] w (Ret K):=ru func125 [] h
theorem Ds (a b:lU){w K}(h:Cf cv #[vS a,vS b] w λc d=>∃e f,c=rT #[vS e,.bool f]/\ab f (ab (e==[]) (K (.bool true) d) (bx (0:Int) ((List.length e:Nat):Int)/\ab ((bf e (0:Int))==(47:Int)) (K (.bool true) d) (uB lG #[vS b,vS [47]] d λg i=>K (.bool g) i))) (K (.bool false) d)):Cf iJ #[vS a,vS b] w (Ret K):=ru func126 [] h
theorem xL (a b:Int){w K}(h:ab (b==(0:Int)) (K (.bool true) w) (ab (b==(1:Int)) (K (.bool (a !=(3:Int))) w) (ab (b==(2:Int)) (K (.bool (a==(1:Int))) w) (K (.bool false) w)))):Cf gz #[vI a,vI b] w (Ret K):=ru func137 [] h
theorem HZ (a b:Value){w K}(h:nA w (.cells (Value.cells a) af) λc d=>nA d (.cells (Value.cells b) ae) λe f=>true/\∃g,Ld bV (vA c 20) f (.bool g)/\ab g (true/\∃i,Ld ae (vA c 2) f i/\∃j,Ld ae (vA e 0) f j/\∃k,(do eqGuard .eql ae (.tmp 8) (.tmp 9) i j;binOp .eql ae i j:Sem Value).run prog f=.ok (.bool k) f/\ab k (∃l,Ld ae (vA e 0) f l/\uB fA #[l] f λm n=>K (.bool m) n) (K (.bool false) f)) (∃i,Ld ae (vA e 0) f i/\true/\∃j,Ld ae (vA c 2) f j/\uB fU #[i,j] f λk l=>K (.bool k) l)):Cf nE #[a,b] w (Ret K):=ru func138 [] h
theorem Gm (a:Bool){w K}(h:ab a (K (.tuple #[vS [104,116,116,112,115,58,47,47],vI 443]) w) (K (.tuple #[vS [104,116,116,112,58,47,47],vI 80]) w)):Cf pb #[.bool a] w (Ret K):=ru func171 [] h
theorem Gh (a:lU){w K}(h:nA w (.cells eh ay) λb c=>Cf pa #[vS a,vS [104,116,116,112,115,58,47,47]] c λd e=>∃f g,d=rT #[vS f,.bool g]/\∃i:FP [.one .str],(ab (!g) (Cf pa #[vS a,vS [104,116,116,112,58,47,47]] e λj k=>∃l m,j=rT #[vS l,.bool m]/\ab (!m) (∃n,Sv ay (vA b 0) (.agg eh) k n/\∃o,Rv ay (vA b 0) n o/\K (.tuple #[o,vI 41]) n) (i l k)) (i f e))/\∀j,aJ 12 (∀k,i j k->uI eF #[vS j,vS [47,63,35]] k λl m=>∃n:FP [.one (.int .i64)],(ab (decide (l<(0:Int))) (n ((List.length j:Nat):Int) m) (n l m))/\∀o,aJ 4 (∀p,n o p->Cf pb #[.bool g] p λq r=>∃s t,q=rT #[vS s,vI t]/\bd o (((List.length j):Nat):Int)/\∀u,u=(List.take (Int.toNat o) j)->Cf uj #[vS u,vI t] r λv x=>∃y z A,v=rT #[y,vI z,vI A]/\nA x (.cells bj ae) λB C=>∃D,Sv ae (vA B 0) y C D/\ab (A !=(0:Int)) (∃E,Sv ay (vA b 0) (.agg eh) D E/\∃F,Rv ay (vA b 0) E F/\K (.tuple #[F,vI A]) E) (bd o (((List.length j):Nat):Int)/\∀E,E=(List.drop (Int.toNat o) j)->∃F:FP [.one .str],(uI eF #[vS E,vS [63,35]] D λG H=>ab (decide (G >=(0:Int))) (bd G (((List.length E):Nat):Int)/\∀I,I=(List.take (Int.toNat G) E)->F I H) (F E H))/\∀G,aJ 8 (∀H,F G H->∃I:FP [.one .str],(ab (G==[]) (I [47] H) (I G H))/\∀J,aJ 2 (∀L,I J L->uB nH #[vS J] L λM N=>ab (!M) (∃O,Sv ay (vA b 0) (.agg eh) N O/\∃P,Rv ay (vA b 0) O P/\K (.tuple #[P,vI 43]) O) (∃O,Ld ae (vA B 0) N O/\∃P,(Instr.build ay #[(0,.bool g),(1,O),(2,vI z),(3,vS J)]).run prog N=.ok P N/\∃Q,Sv ay (vA b 0) P N Q/\∃R,Rv ay (vA b 0) Q R/\K (.tuple #[R,vI 0]) Q))))))):Cf uh #[vS a] w (Ret K):=ru func178 [(4,[(4,.one .str)]),(22,[(7,.one (.int .i64))]),(42,[(13,.one .str)]),(50,[(13,.one .str)])] h
theorem pu (a:Option Addr)(b:Value){w K}(h:nA w (.cells (Value.cells b) ae) λc d=>∃e,Ld ae (vA c 0) d e/\uL ct #[e] d λf g i j=>ab (decide (((g:Nat):Int)>(0:Int))) (∃k,Ld ae (vA c 0) j k/\uI eG #[.pointer a,k] j λl m=>K (.bool (l==((g:Nat):Int))) m) (K (.bool false) j)):Cf cU #[.pointer a,b] w (Ret K):=ru func192 [] h
theorem zb (a:lU){w K}(h:∃b:Nat->FP [.one (.int .i64)],(∃c,b c (0:Int) w)/\∀c d,aJ 26 (∀e,b c d e->ab (decide (d<(3:Int))) (∃f,(Instr.index EV (.agg #[vS [],vS [95,95,115,101,99,117,114,101,45],vS [95,95,104,111,115,116,45]]) (vI d)).run prog e=.ok (vS f) e/\ab (decide (d>(0:Int))) (ab (decide (((List.length a:Nat):Int) >=((List.length f:Nat):Int))) (bd ((List.length f:Nat):Int) (((List.length a):Nat):Int)/\∀g,g=(List.take (Int.toNat ((List.length f:Nat):Int)) a)->uS dQ #[vS g] e λi j=>ab (i==f) (K (vI d) j) (∃k:Nat,k<c/\b k (i64.wrap (d+(1:Int))) j)) (∃g:Nat,g<c/\b g (i64.wrap (d+(1:Int))) e)) (∃g:Nat,g<c/\b g (i64.wrap (d+(1:Int))) e)) (K (vI 0) e))):Cf mV #[vS a] w (Ret K):=ru func193 [(6,[(6,.one (.int .i64))])] h
theorem px (a:Option Addr)(b:Value){w K}(h:nA w (.cells (Value.cells b) ae) λc d=>∃e,Ld ae (vA c 0) d e/\uL ct #[e] d λf g i j=>∃k,(Builtin.min_ #[bh,bh] bh #[vI 1,vI ((g:Nat):Int)]).run prog j=.ok (vI k) j/\∃l:FP [.one (.int .i64),.one (.int .i64)],(∃m:Nat->FP [.one (.int .i64),.one (.int .i64),.one (.int .i64),.one (.int .i64)],(∃n,m n (0:Int) k (0:Int) (1:Int) j)/\∀n o p q r,aJ 56 (∀s,m n o p q r s->ab (decide (r <=((g:Nat):Int))) (∃t:FP [.one (.int .i64)],((Option.isSome a=true)/\(Option.isSome a=true)/\∃u v x,Ld bJ (Option.map (λy=>y.add 1) a) s (.slice u v x)/\(bx o ((v:Nat):Int)/\Option.isSome u=true)/\(bx (2:Int) ((4:Nat):Int)/\isSome (aq u o 4))/\∃y,Ld bV (aq (aq u o 4) (2:Int) 1) s (.bool y)/\ab y (t r s) (t p s))/\∀u,aJ 9 (∀v,t u v->(Option.isSome a=true)/\(Option.isSome a=true)/\∃x,(∀y,bW v y->Ld bz (Option.map (λz=>z.add 0) a) y (.map x))/\(bx (i64.wrap (((g:Nat):Int)-r)) ((g:Nat):Int)/\Option.isSome f=true)/\∃y,(∀z,bW v z->Ld ah (aq f (i64.wrap (((g:Nat):Int)-r)) 1) z (vS y))/\∃z A,(∀B,bW v B->(Instr.lookup bz (.map x) (.agg #[vI o,vS y]) true).run prog B=.ok (.tuple #[vI z,.bool A]) B)/\∀B,bW v B->ab (!A) (l u q B) (∃C:FP [.one (.int .i64)],((Option.isSome a=true)/\(Option.isSome a=true)/\∃D E F,Ld bJ (Option.map (λG=>G.add 1) a) B (.slice D E F)/\(bx z ((E:Nat):Int)/\Option.isSome D=true)/\(bx (1:Int) ((4:Nat):Int)/\isSome (aq D z 4))/\∃G,Ld bV (aq (aq D z 4) (1:Int) 1) B (.bool G)/\ab G (C r B) (C u B))/\∀D,aJ 9 (∀E,C D E->(Option.isSome a=true)/\(Option.isSome a=true)/\∃F G H,Ld bJ (Option.map (λI=>I.add 1) a) E (.slice F G H)/\(bx z ((G:Nat):Int)/\Option.isSome F=true)/\(bx (3:Int) ((4:Nat):Int)/\isSome (aq F z 4))/\∃I,Ld bV (aq (aq F z 4) (3:Int) 1) E (.bool I)/\ab I (∃J:Nat,J<n/\m J z D (i64.wrap (r-(1:Int))) (i64.wrap (r+(1:Int))) E) (∃J:Nat,J<n/\m J z D q (i64.wrap (r+(1:Int))) E))))) (l p q s)))/\∀m n,aJ 58 (∀o,l m n o->ab (decide (n>(0:Int))) (K (vI n) o) (K (vI m) o))):Cf eG #[.pointer a,b] w (Ret K):=ru func198 [(6,[(7,.one (.int .i64)),(8,.one (.int .i64))]),(10,[(6,.one (.int .i64)),(7,.one (.int .i64)),(8,.one (.int .i64)),(9,.one (.int .i64))]),(19,[(7,.one (.int .i64))]),(35,[(7,.one (.int .i64))])] h
theorem Gj (a b:lU){w K}(h:∃c:FP [],(ab (decide (((List.length a:Nat):Int)<((List.length b:Nat):Int))) (K (.tuple #[vS a,.bool false]) w) (bd ((List.length b:Nat):Int) (((List.length a):Nat):Int)/\∀d,d=(List.take (Int.toNat ((List.length b:Nat):Int)) a)->uB jP #[vS d,vS b] w λe f=>ab (!e) (K (.tuple #[vS a,.bool false]) f) (c f)))/\aJ 17 (∀d,c d->bd ((List.length b:Nat):Int) (((List.length a):Nat):Int)/\∀e,e=(List.drop (Int.toNat ((List.length b:Nat):Int)) a)->K (.tuple #[vS e,.bool true]) d)):Cf pa #[vS a,vS b] w (Ret K):=ru func258 [(2,[])] h
theorem Gl (a:lU)(b:Int){w K}(h:nA w (.cells bj ae) λc d=>Cf ui #[vS a] d λe f=>∃g i,e=rT #[vS g,vS i]/\Cf gy #[vS g] f λj k=>∃l m,j=rT #[l,vI m]/\nA k (.cells bj ae) λn o=>∃p,Sv ae (vA n 0) l o p/\∃q:FP [],(∃r:FP [.one .bool],(ab (m !=(0:Int)) (r true p) (ab (!(i==[])) (bx (0:Int) ((List.length i:Nat):Int)/\r ((bf i (0:Int)) !=(58:Int)) p) (r false p)))/\∀s,aJ 10 (∀t,r s t->ab s (∃u,Sv ae (vA c 0) (.agg bj) t u/\∃v,Rv ae (vA c 0) u v/\K (.tuple #[v,vI 0,vI 31]) u) (q t)))/\aJ 14 (∀r,q r->ab (i==[]) (∃s,Ld ae (vA n 0) r s/\∃t,Sv ae (vA c 0) s r t/\∃u,Rv ae (vA c 0) t u/\K (.tuple #[u,vI b,vI 0]) t) (bd (1:Int) (((List.length i):Nat):Int)/\∀s,s=(List.drop (Int.toNat 1) i)->Cf fV #[vS s] r λt u=>∃v x,t=rT #[vI v,.bool x]/\∃y:FP [],(∃z:FP [.one .bool],(ab (!x) (z true u) (ab (decide (v<(1:Int))) (z true u) (z (decide (v>(65535:Int))) u)))/\∀A,aJ 9 (∀B,z A B->ab A (∃C,Sv ae (vA c 0) (.agg bj) B C/\∃D,Rv ae (vA c 0) C D/\K (.tuple #[D,vI 0,vI 42]) C) (y B)))/\aJ 13 (∀z,y z->∃A,Ld ae (vA n 0) z A/\∃B,Sv ae (vA c 0) A z B/\∃C,Rv ae (vA c 0) B C/\K (.tuple #[C,vI v,vI 0]) B)))):Cf uj #[vS a,vI b] w (Ret K):=ru func259 [(6,[]),(7,[(33,.one .bool)]),(24,[]),(25,[(54,.one .bool)])] h
theorem Gk (a:lU){w K}(h:uB ej #[vS a,vS [91]] w λb c=>ab b (uI eo #[vS a,.int .u8 93] c λd e=>ab (decide (d >=(0:Int))) (bd (i64.wrap (d+(1:Int))) (((List.length a):Nat):Int)/\∀f,f=(List.take (Int.toNat (i64.wrap (d+(1:Int)))) a)->bd (i64.wrap (d+(1:Int))) (((List.length a):Nat):Int)/\∀g,g=(List.drop (Int.toNat (i64.wrap (d+(1:Int)))) a)->∀i,bW e i->K (.tuple #[vS f,vS g]) i) (K (.tuple #[vS a,vS []]) e)) (uI eo #[vS a,.int .u8 58] c λd e=>ab (decide (d >=(0:Int))) (bd d (((List.length a):Nat):Int)/\∀f,f=(List.take (Int.toNat d) a)->bd d (((List.length a):Nat):Int)/\∀g,g=(List.drop (Int.toNat d) a)->∀i,bW e i->K (.tuple #[vS f,vS g]) i) (K (.tuple #[vS a,vS []]) e))):Cf ui #[vS a] w (Ret K):=ru func306 [] h
def qe (c:UInt8):Bool:= !(decide (((c.toNat:Nat):Int)<33) || (decide (((c.toNat:Nat):Int)>126) || (c==63 || c==35)))
def gV (s:List UInt8):Bool:=decide (s.head?=some 47)&&(decide (s.length <=2048)&&s.all qe)
structure Url where
 sec:Bool
 host:Hst
 port:Int
 path:List UInt8
def Url.cells (u:Url):List Value:=.bool u.sec::(u.host.cells++[vI u.port,vS u.path])
def Url.v (u:Url):Value:=.agg u.cells.toArray
def eX:Url:=⟨false,gJ,0,[]⟩
def Url.ok (u:Url):Prop:=u.host.ok
theorem Url.len {u:Url}(o:u.ok):u.cells.length=21:=by unfold Url.cells;rw[List.length_cons,List.length_append,Hst.len o];rfl
theorem Url.one (u:Url):yM u.cells:=bI rfl (ux (Hst.one _) (bI rfl (bI rfl nj)))
theorem sd {u:Url}(o:u.ok){j:Nat}(h:j<18):u.cells[1+j]? =u.host.cells[j]? :=by
 unfold Url.cells
 rw[Nat.add_comm,List.getElem?_cons_succ,List.getElem?_append_left (by rw[Hst.len o];exact h)]
theorem lj {u:Url}(o:u.ok):u.cells[19]? =some (vI u.port):=by
 unfold Url.cells
 rw[List.getElem?_cons_succ,List.getElem?_append_right (by rw[Hst.len o];exact Nat.le_refl _),Hst.len o];rfl
theorem li {u:Url}(o:u.ok):u.cells[20]? =some (vS u.path):=by
 unfold Url.cells
 rw[List.getElem?_cons_succ,List.getElem?_append_right (by rw[Hst.len o];decide),Hst.len o];rfl
def fm (u:Url):Bool:=cC u.host&&(decide (u.port >=1)&&(decide (u.port <=65535)&&gV u.path))
def cz (p s:List UInt8):Nat:=(s.takeWhile λc=> !p.contains c).length
theorem jH (p s:List UInt8):cz p s <=s.length:=mJ _ _
def Lg (s:List UInt8):Option (List UInt8×Bool):=
 if co (s.take 7)=[104,116,116,112,58,47,47]then some (s.drop 7,false)else if co (s.take 8)=[104,116,116,112,115,58,47,47]then some (s.drop 8,true)else none
def df (p:List UInt8):Nat:=if p.head?=some 91 then min (cz [93] p+1) p.length else cz [58] p
def nI (p:List UInt8):Option Hst:=if p.drop (df p)≠[]/\(p.drop (df p)).head?≠some 58 then none else bt (p.take (df p))
def uC (sec:Bool)(b:List UInt8):Option Int:=if b=[]then some (if sec then 443 else 80)else if nK (b.drop 1)/\1 <=ez (b.drop 1)/\ez (b.drop 1) <=65535 then some (ez (b.drop 1))else none
def kV (r:List UInt8):List UInt8:=if r.take (cz [63,35] r)=[]then[47]else r.take (cz [63,35] r)
def Lh (r:List UInt8)(sec:Bool):Url×Int:=
 match nI (r.take (cz [47,63,35] r))with
 | none=>(eX,31)
 | some h=>match uC sec ((r.take (cz [47,63,35] r)).drop (df (r.take (cz [47,63,35] r))))with
   | none=>(eX,42)
   | some n=>if gV (kV (r.drop (cz [47,63,35] r)))=true then(⟨sec,h,n,kV (r.drop (cz [47,63,35] r))⟩,0)else(eX,43)
def iR (s:List UInt8):Url×Int:=match Lg s with
 | none=>(eX,41)
 | some (r,b)=>Lh r b
theorem KF {p:List UInt8}{h:Hst}(e:nI p=some h):h.ok:=by
 unfold nI at e
 split at e
 · cases e
 · exact fM e
theorem TX (r:List UInt8)(b:Bool):(Lh r b).1.ok:=by
 unfold Lh
 split
 · rfl
 · rename_i h hh
   split
   · rfl
   · split
     · exact KF hh
     · rfl
theorem GA (s:List UInt8):(iR s).1.ok:=by
 unfold iR
 split
 · rfl
 · exact TX _ _
theorem KW {s:List UInt8}{k:Nat}(hlt:k<s.length)(h:qe s[k]=false):gV s=false:=by
 have:s.all qe=false:=by
   rw[Bool.eq_false_iff];intro hx;rw[List.all_eq_true.1 hx _ (List.getElem_mem hlt)]at h;cases h
 unfold gV;rw[this,Bool.and_false,Bool.and_false]
theorem Ew (c:UInt8)(H:Prop)(hH:H){Y N:Prop}(hy:qe c=true->Y)(hn:qe c=false->N):
   ab (decide (((c.toNat:Nat):Int)<33)) N (H/\ab (decide (((c.toNat:Nat):Int)>126)) N (H/\ab (((c.toNat:Nat):Int)==(63:Int)) N (H/\ab (((c.toNat:Nat):Int)==(35:Int)) N Y))):=by
 have e63:=my c 63
 have e35:=my c 35
 rw[show(((63:UInt8).toNat:Nat):Int)=63 from rfl]at e63
 rw[show(((35:UInt8).toNat:Nat):Int)=35 from rfl]at e35
 rw[e63,e35]
 refine ab.of (λh=>hn ?_) (λh=>⟨hH,ab.of (λh2=>hn ?_) (λh2=>⟨hH,ab.of (λh3=>hn ?_) (λh3=>⟨hH,ab.of (λh4=>hn ?_) (λh4=>hy ?_)⟩)⟩)⟩)
 · unfold qe;rw[h];rfl
 · unfold qe;rw[h,h2];rfl
 · unfold qe;rw[h,h2,h3];rfl
 · unfold qe;rw[h,h2,h3,h4];rfl
 · unfold qe;rw[h,h2,h3,h4];rfl
theorem JF (c:UInt8){Y N:Prop}(hy:qe c=true->Y)(hn:qe c=false->N):
   ab (decide (((c.toNat:Nat):Int)<33)) N (ab (decide (((c.toNat:Nat):Int)>126)) N (ab (((c.toNat:Nat):Int)==(63:Int)) N (ab (((c.toNat:Nat):Int)==(35:Int)) N Y))):=by
 have:=Ew c True trivial hy hn
 simpa only[true_and]using this
theorem gP:Whl prog ay 21:=⟨⟨_,_,Mq⟩,by kernel_rfl⟩
theorem uO (s:List UInt8)(w:World):Cf nH #[vS s] w (Ret λv w'=>v=.bool (gV s)/\bW w w'):=by
 apply H3
 refine si (w:=w) (s.head?=some 47/\s.length <=2048) ?_ ?_
 · refine ab.of (λh=>⟨?_,Below.refl _ _⟩) (λh=>?_)
   · have:s=[]:=by simpa using h
     subst this;rfl
   have hne:s≠[]:=by simpa using h
   have hl:0<s.length:=List.length_pos_iff.2 hne
   have hh:s.head?=some s[0]:=by rw[List.head?_eq_getElem?,List.getElem?_eq_getElem hl]
   refine ab.of (λh=>⟨?_,Below.refl _ _⟩) (λh2=>⟨⟨by decide,by omega⟩,?_⟩)
   · unfold gV;rw[decide_eq_false (p:=s.length <=2048) (by simp at h;omega),Bool.false_and,Bool.and_false]
   have hb:=byte_at (s:=s) (k:=0) hl
   rw[show((0:Nat):Int)=0 from rfl]at hb
   have hu:=my s[0] 47
   rw[show(((47:UInt8).toNat:Nat):Int)=47 from rfl]at hu
   simp only[bne,hb,hu]
   refine ab.of (λh3=>⟨?_,Below.refl _ _⟩) (λh3=>⟨trivial,?_,by simp at h2;omega⟩)
   · unfold gV;rw[hh,decide_eq_false (p:=some s[0]=some 47) (by simpa using h3),Bool.false_and]
   · rw[hh];simpa using h3
 · rintro⟨hh,hl⟩
   have hp:gV s=s.all qe:=by unfold gV;rw[decide_eq_true hh,decide_eq_true hl,Bool.true_and,Bool.true_and]
   obtain⟨w2,a,n,c,hr,ho,hb2,hf⟩:=ov (P:=prog) av bw bS w s (by omega) NoB
   have hnn:=ho.len
   subst hnn
   refine⟨w2,a,_,c,hr,?_⟩
   refine⟨λm i w'=>∃k:Nat,k <=s.length/\i=(k:Int)/\m=s.length-k/\(s.take k).all qe=true/\w'=w2,⟨_,0,by omega,rfl,rfl,rfl,rfl⟩,?_⟩
   intro m i
   refine aJ.of ?_ _
   rintro w' ⟨k,hk,rfl,rfl,hno,hw'⟩
   rw[hw'];clear hw'
   refine ab.of (λh=>?_) (λh=>?_) <;> simp only[dTx,dFx]at h
   · have hlt:k<s.length:=by omega
     obtain⟨v,hv,hrep⟩:=ho.all.load1 (i:=(k:Int)) bS rfl rfl (by simpa using hlt)
     have:=Ck hrep
     subst this
     simp only[Int.toNat_natCast]at hv
     refine⟨⟨⟨by omega,h⟩,ho.all.isSome hlt⟩,_,hv,JF _ (λhc=>?_) (λhc=>⟨by rw[KW hlt hc],hb2⟩)⟩
     exact⟨s.length-(k+1),by omega,k+1,by omega,by rw[wrap_i64 (by omega) (by omega)];omega,rfl,by rw[List.take_succ_eq_append_getElem hlt,List.all_append,hno];simp[hc],rfl⟩
   · have:k=s.length:=by omega
     subst this
     rw[List.take_length]at hno
     exact⟨by rw[hp,hno],hb2⟩
theorem mN {u:Url}(o:u.ok)(hn:u.host.name.length <=1000000000)(w:World)(he:Env w):Cf jz #[u.v] w (Ret λv w'=>v=.bool (fm u)/\bW w w'):=by
 apply Gi
 intro k1 w1 hk1 hw1
 have hB1:=(hw1▸ai w _:bW w w1)
 have h1:ao w1 k1 ay u.cells:=ao.new hk1 hw1
 refine⟨rfl,_,aP.load h1 (i:=1) (us:=u.host.cells) (Hst.len o) (λj hj=>sd o hj),?_⟩
 refine aw (gG o hn w1 (he.step hB1)) ?_
 rintro _ w2 ⟨rfl,hb2⟩
 have hB2:=aa hB1 hb2 hB1.size
 have h2:=h1.below hb2
 refine⟨_,rfl,?_⟩
 unfold fm
 refine ab.of (λc1=>?_) (λc1=>⟨by rw[c1];rfl,hB2⟩)
 refine⟨rfl,_,h2.load1 bG rfl (lj o),ab.of (λc2=>?_) (λc2=>⟨by rw[c1,c2];rfl,hB2⟩)⟩
 refine⟨rfl,_,h2.load1 bG rfl (lj o),ab.of (λc3=>?_) (λc3=>⟨by rw[c1,c2,c3];rfl,hB2⟩)⟩
 refine⟨rfl,_,h2.load1 av rfl (li o),?_⟩
 refine aw (uO _ w2) ?_
 rintro _ w3 ⟨rfl,hb3⟩
 exact⟨_,rfl,by rw[c1,c2,c3];rfl,aa hB2 hb3 hB2.size⟩
def Wl (x:Url×Int):Value:=.tuple #[x.1.v,vI x.2]
theorem Uc {s p:List UInt8}(h:co s=p):s.length=p.length:=by rw[<- h];simp[co]
def qk (s:List UInt8)(w:World)(v:Value)(w':World):Prop:=v=Wl (iR s)/\bW w w'
def GK (h d:Hst):Bool:=cC h&&(cC d&&(jA h d || rj h d))
theorem yg {h:Hst}(hl:(aK h).length≠0):cC h=true:=by
 unfold aK at hl
 split at hl
 · rename_i c;exact c.2
 · exact absurd rfl hl
theorem Qj {h d:Hst}(oh:h.ok)(od:d.ok):((jA h d&&cC h) || rj h d)=GK h d:=by
 unfold GK
 by_cases hu:rj h d=true
 · have hd0: ¬ ((aK d).length=0\/(aK h).length <=(aK d).length):=λhc=>by unfold rj at hu;rw[if_pos hc]at hu;cases hu
   rw[hu,yg (h:=h) (by omega),yg (h:=d) (by omega)];simp
 · have hu':rj h d=false:=by simpa using hu
   rw[hu',Bool.or_false,Bool.or_false]
   by_cases he:jA h d=true
   · have:=(je oh od).1 he
     subst this
     rw[he];cases cC h <;> rfl
   · have he':jA h d=false:=by simpa using he
     rw[he'];cases cC h <;> cases cC d <;> rfl
def AR (s:List UInt8):Nat->Nat
 | 0=>0
 | k+1=>if s[k]? =some 47 then k else AR s k
theorem KM (s:List UInt8):∀k,AR s k <=k
 | 0=>Nat.le_refl _
 | k+1=>by
   have:=KM s k
   unfold AR;split <;> omega
def Qf (s:List UInt8):List UInt8:=if AR s s.length=0\/s.head?≠some 47 then[47]else s.take (AR s s.length)
theorem N2 (s:List UInt8):∀k,k <=s.length->(0<Lib.lastIdx (mkS s) 47 k ↔ AR s k≠0)/\(0<Lib.lastIdx (mkS s) 47 k->Lib.lastIdx (mkS s) 47 k=(AR s k:Nat))
 | 0,_=>⟨by simp[Lib.lastIdx,AR],by simp[Lib.lastIdx]⟩
 | k+1,h=>by
   have e:(mkS s).data[k]! =s[k]'(by omega):=by
     have:(mkS s).data=s.toArray:=rfl
     rw[this,getElem!_pos s.toArray k (by simp;omega)];simp
   have ih:=N2 s k (by omega)
   unfold Lib.lastIdx AR
   rw[e,List.getElem?_eq_getElem (by omega)]
   by_cases c:s[k]'(by omega)=47
   · rw[if_pos (by rw[c];rfl),if_pos (by rw[c])]
     exact⟨by omega,λ_=>rfl⟩
   · rw[if_neg (λhx=>c (UInt8.toNat_inj.1 (by rw[show(UInt8.toNat 47)=47 from rfl];omega))),if_neg (λhx=>c (Option.some.inj hx))]
     exact ih
def C3 (p o:List UInt8):Bool:=(p==o) || (decide (o.length<p.length)&&((p.take o.length==o)&&(decide (p[o.length]? =some 47) || decide (o.getLast?=some 47))))
structure Cky where
 name:List UInt8
 value:List UInt8
 host:Hst
 only:Bool
 path:List UInt8
 sec:Bool
 http:Bool
 same:Int
 exp:Int
 born:Int
 used:Int
 seq:Int
def Cky.tail (c:Cky):List Value:=[.bool c.only,vS c.path,.bool c.sec,.bool c.http,vI c.same,vI c.exp,vI c.born,vI c.used,vI c.seq]
def Cky.cells (c:Cky):List Value:=vS c.name::vS c.value::(c.host.cells++c.tail)
def Cky.v (c:Cky):Value:=.agg c.cells.toArray
def An:Cky:=⟨[],[],gJ,false,[],false,false,0,0,0,0,0⟩
def Cky.ok (c:Cky):Prop:=c.host.ok
theorem Cky.len {c:Cky}(o:c.ok):c.cells.length=29:=by unfold Cky.cells;rw[List.length_cons,List.length_cons,List.length_append,Hst.len o];rfl
theorem Cky.one (c:Cky):yM c.cells:=bI rfl (bI rfl (ux (Hst.one _) (bI rfl (bI rfl (bI rfl (bI rfl (bI rfl (bI rfl (bI rfl (bI rfl (bI rfl nj)))))))))))
theorem uZ {c:Cky}(o:c.ok){j:Nat}(h:j<18):c.cells[2+j]? =c.host.cells[j]? :=by
 unfold Cky.cells
 rw[show 2+j=j+1+1 by omega,List.getElem?_cons_succ,List.getElem?_cons_succ,List.getElem?_append_left (by rw[Hst.len o];exact h)]
theorem cq {c:Cky}(o:c.ok)(j:Nat):c.cells[20+j]? =c.tail[j]? :=by
 unfold Cky.cells
 rw[show 20+j=(18+j)+1+1 by omega,List.getElem?_cons_succ,List.getElem?_cons_succ,List.getElem?_append_right (by rw[Hst.len o];omega),Hst.len o]
 congr 1;omega
structure Req where
 sec:Bool
 host:Hst
 path:List UInt8
 cross:Int
def Req.tail (r:Req):List Value:=[vS r.path,vI r.cross]
def Req.cells (r:Req):List Value:=.bool r.sec::(r.host.cells++r.tail)
def Req.v (r:Req):Value:=.agg r.cells.toArray
def Req.ok (r:Req):Prop:=r.host.ok
theorem Req.len {r:Req}(o:r.ok):r.cells.length=21:=by unfold Req.cells;rw[List.length_cons,List.length_append,Hst.len o];rfl
theorem Req.one (r:Req):yM r.cells:=bI rfl (ux (Hst.one _) (bI rfl (bI rfl nj)))
theorem vM {r:Req}(o:r.ok){j:Nat}(h:j<18):r.cells[1+j]? =r.host.cells[j]? :=by
 unfold Req.cells
 rw[Nat.add_comm,List.getElem?_cons_succ,List.getElem?_append_left (by rw[Hst.len o];exact h)]
theorem jj {r:Req}(o:r.ok)(j:Nat):r.cells[19+j]? =r.tail[j]? :=by
 unfold Req.cells
 rw[show 19+j=(18+j)+1 by omega,List.getElem?_cons_succ,List.getElem?_append_right (by rw[Hst.len o];omega),Hst.len o]
 congr 1;omega
def xZ (same cross:Int):Bool:=if cross=1 then same !=3 else if cross=2 then same==1 else cross==0
def iF (c:Cky)(r:Req)(now:Int):Bool:=
 !(c.only && !jA c.host r.host)&&(GK r.host c.host&&(C3 r.path c.path&&(!(c.sec && !r.sec)&&(!(decide (now >=c.exp))&&xZ c.same r.cross))))
theorem jg {h d:Hst}(oh:h.ok)(od:d.ok)(hn:h.name.length <=1000000000)(dn:d.name.length <=1000000000)(w:World)(he:Env w):Cf fU #[h.v,d.v] w (Ret λv w'=>v=.bool (GK h d)/\bW w w'):=by
 rw[<- Qj oh od]
 apply zk
 intro k2 w2 hk2 hw2
 have hB2:=(hw2▸ai w _:bW w w2)
 have h2:ao w2 k2 ae h.cells:=ao.new hk2 hw2
 intro k3 w3 hk3 hw3
 have hb3:=(hw3▸ai w2 _:bW w2 w3)
 have hB3:=aa hB2 hb3 hB2.size
 have h3:ao w3 k3 ae d.cells:=ao.new hk3 hw3
 have h23:=h2.below hb3
 have und:∀wx,bW w3 wx->∃v13:Value,(Instr.loadAt ae (.pointer (some ⟨k2,0,none⟩))).run prog wx=.ok v13 wx/\∃v14:Value,(Instr.loadAt ae (.pointer (some ⟨k3,0,none⟩))).run prog wx=.ok v14 wx/\
     Cf jO #[v13,v14] wx λe15 w15=>∃(b15:Bool),e15=.returned (.bool b15)/\((.bool b15:Value)=.bool (rj h d)/\bW w w15):=λwx hbx=>by
   refine⟨_,aP.load0 (h23.below hbx) (Hst.len oh),_,aP.load0 (h3.below hbx) (Hst.len od),?_⟩
   have hBx:=aa hB3 hbx hB3.size
   refine aw (Fu oh od hn dn wx (he.step hBx)) ?_
   rintro _ w4 ⟨rfl,hb4⟩
   exact⟨_,rfl,rfl,aa hBx hb4 hBx.size⟩
 refine⟨_,aP.load0 h23 (Hst.len oh),_,aP.load0 h3 (Hst.len od),_,Hr oh od w3,?_⟩
 refine ab.of (λc1=>?_) (λc1=>?_)
 · refine⟨_,aP.load0 h23 (Hst.len oh),?_⟩
   refine aw (gG oh hn w3 (he.step hB3)) ?_
   rintro _ w4 ⟨rfl,hb4⟩
   refine⟨_,rfl,ab.of (λc2=>⟨by rw[c1,c2];rfl,aa hB3 hb4 hB3.size⟩) (λc2=>?_)⟩
   rw[c1,c2]
   exact und w4 hb4
 · rw[c1]
   exact und w3 (Below.refl _ _)
theorem yV (s:List UInt8)(hs:s.length<4611686018427387904)(w:World):Cf lD #[vS s] w (Ret λv w'=>v=vS (Qf s)/\w'=w):=by
 apply xK
 refine(Tryz.strings_LastIndexByte (mkS s) 47 (show s.toArray.size<_ by simpa using hs) w).mono ?_
 rintro _ w' ⟨rfl,hw⟩
 rw[hw];clear hw
 refine⟨_,rfl,?_⟩
 have hK:=N2 s s.length (Nat.le_refl _)
 have e:Lib.lastIndexByte (mkS s) 47=Lib.lastIdx (mkS s) 47 s.length:=by unfold Lib.lastIndexByte;rw[show(mkS s).size=s.length from by show s.toArray.size=_;simp]
 rw[e]
 generalize Lib.lastIdx (mkS s) 47 s.length=n at*
 have hle:=KM s s.length
 refine iU (w:=w) (decide (¬ (AR s s.length=0\/s.head?≠some 47))) ?_ ?_
 · refine ab.of (λh=>?_) (λh=>⟨rfl,?_⟩) <;> simp only[gt_iff_lt,dTx,dFx]at h
   · have h0:=hK.1.1 h
     have hl:0<s.length:=by omega
     have hb:=byte_at (s:=s) (k:=0) hl
     rw[show((0:Nat):Int)=0 from rfl]at hb
     have hu:=my s[0] 47
     rw[show(((47:UInt8).toNat:Nat):Int)=47 from rfl]at hu
     refine⟨⟨by decide,by omega⟩,rfl,?_⟩
     rw[hb,hu,List.head?_eq_getElem?,List.getElem?_eq_getElem hl,Bool.eq_iff_iff]
     simp[h0]
   · have h0:AR s s.length=0:=Decidable.byContradiction λhc=>h (hK.1.2 hc)
     rw[eq_comm,dFx]
     exact λhc=>hc (.inl h0)
 · refine ab.of (λh=>?_) (λh=>⟨?_,rfl⟩)
   · have h:=of_decide_eq_true h
     have hn:=hK.2 (hK.1.2 λhc=>h (.inl hc))
     subst hn
     refine⟨⟨by omega,by omega⟩,?_⟩
     rintro _ rfl
     exact⟨by unfold Qf;rw[if_neg h];rfl,rfl⟩
   · have h:=of_decide_eq_false h
     unfold Qf;rw[if_pos (Decidable.not_not.1 h)]
theorem be:Whl prog af 29:=⟨⟨_,_,lg⟩,by kernel_rfl⟩
theorem gH:Whl prog aN 21:=⟨⟨_,_,DU⟩,by kernel_rfl⟩
theorem Whl.elem {α:Type}{T:Ty α}{P:Program}{t:TypeId}{n:Nat}(hw:Whl P t n)(hk:T.k=n){w:World}{A:Bl}{a:Option Addr}{l c:Nat}{xs:List α}(h:Sl T w A a l c xs){i:Nat}(hi:i<xs.length):
   ∃vs,(Instr.loadAt t (.pointer (aq a (i:Int) n))).run P w=.ok (.agg vs.toArray) w/\T.rep w A vs xs[i]:=by
 obtain⟨bytes,z,tf⟩:=hw.tf
 obtain⟨ti,hti,hsz,_,_⟩:=tf.info
 have hag:=hw.ag
 cases hu:P.underlying t with
 | none=>rw[hu]at hag;cases hag
 | some d=>
   rw[hu]at hag
   simp only[Option.map_some,Option.some.injEq]at hag
   have:=h.loadA hu hag hti hk hsz (i:=(i:Int)) (by simpa using hi)
   simpa using this
structure OpR where
 kind:Int
 url:Url
 text:List UInt8
 req:Req
 n:Int
structure OpR.ok (o:OpR):Prop where
 uo:o.url.ok
 ro:o.req.host.ok
 up:o.url.path.length <=1000000
 un:o.url.host.name.length <=1000000
 rp:o.req.path.length <=1000000
 rn:o.req.host.name.length <=1000000
 tx:o.text.length <=1000000
def OpR.cells (o:OpR):List Value:=vI o.kind::(o.url.cells++(vS o.text::(o.req.cells++[vI o.n])))
def OpR.v (o:OpR):Value:=.agg o.cells.toArray
theorem OpR.len {o:OpR}(k:o.ok):o.cells.length=45:=by
 unfold OpR.cells
 rw[List.length_cons,List.length_append,List.length_cons,List.length_append,Url.len k.uo,Req.len k.ro]
 rfl
theorem OpR.one (o:OpR):yM o.cells:=bI rfl (ux (Url.one _) (bI rfl (ux (Req.one _) (bI rfl nj))))
theorem En {o:OpR}(k:o.ok){j:Nat}(h:j<21):o.cells[1+j]? =o.url.cells[j]? :=by
 unfold OpR.cells
 rw[Nat.add_comm,List.getElem?_cons_succ,List.getElem?_append_left (by rw[Url.len k.uo];exact h)]
theorem FQ {o:OpR}(k:o.ok):o.cells[22]? =some (vS o.text):=by
 unfold OpR.cells
 rw[show 22=21+1 from rfl,List.getElem?_cons_succ,List.getElem?_append_right (by rw[Url.len k.uo];exact Nat.le_refl _),Url.len k.uo]
 rfl
theorem pJ {o:OpR}(k:o.ok){j:Nat}(h:j<21):o.cells[23+j]? =o.req.cells[j]? :=by
 unfold OpR.cells
 rw[show 23+j=(22+j)+1 by omega,List.getElem?_cons_succ,List.getElem?_append_right (by rw[Url.len k.uo];omega),Url.len k.uo,show 22+j-21=j+1 by omega,List.getElem?_cons_succ,List.getElem?_append_left (by rw[Req.len k.ro];exact h)]
theorem PI {o:OpR}(k:o.ok):o.cells[44]? =some (vI o.n):=by
 unfold OpR.cells
 rw[show 44=43+1 from rfl,List.getElem?_cons_succ,List.getElem?_append_right (by rw[Url.len k.uo];decide),Url.len k.uo,show 43-21=21+1 from rfl,List.getElem?_cons_succ,List.getElem?_append_right (by rw[Req.len k.ro];exact Nat.le_refl _),Req.len k.ro]
 rfl
structure OpW (o:OpR):Prop where
 uo:o.url.ok
 ro:o.req.host.ok
 hi:o.n <=9223372036854775807
theorem OpW.len {o:OpR}(k:OpW o):o.cells.length=45:=by
 unfold OpR.cells
 rw[List.length_cons,List.length_append,List.length_cons,List.length_append,Url.len k.uo,Req.len k.ro]
 rfl
def tOp:Ty OpR where
 k:=45
 pos:=by decide
 rep:=λ_ _ vs o=>vs=o.cells/\OpW o
 len:=λh=>by rw[h.1];exact OpW.len h.2
 one:=fun{_ _ _ x} h v hv=>by rw[h.1]at hv;exact OpR.one x v hv
 keep:=λh _=>h
 mono:=λh _=>h
theorem Jd:Flat tOp:=λ_ _ _ _ _ _ h=>h
theorem uv {P:Program}{t:TypeId}(hw:Whl P t 45){w:World}{A:Bl}{a:Option Addr}{l c:Nat}{xs:List OpR}(h:Sl tOp w A a l c xs){i:Nat}(hi:i<xs.length):
   (Instr.loadAt t (.pointer (aq a (i:Int) 45))).run P w=.ok xs[i].v w/\OpW xs[i]:=by
 obtain⟨vs,h1,e,o⟩:=hw.elem (T:=tOp) rfl h hi
 subst e
 exact⟨h1,o⟩
theorem ec:Whl prog ak 45:=⟨⟨_,_,Cd⟩,by kernel_rfl⟩
theorem RY {o:OpR}(k:OpW o)(w:World):(Instr.buildSlice cE 1 #[(0,o.v)]).run prog w=.ok (.slice (some ⟨w.heap.size,0,none⟩) 1 1) (w.alloc (.cells o.cells.toArray ak)):=by
 obtain⟨kd,⟨us,⟨ukd,un,ua⟩,uport,upath⟩,tx,⟨sc,⟨rkd,rn,ra⟩,pt,cr⟩,n⟩:=o
 obtain⟨x0,x1,x2,x3,x4,x5,x6,x7,x8,x9,x10,x11,x12,x13,x14,x15,rfl⟩:=fi ua k.uo
 obtain⟨y0,y1,y2,y3,y4,y5,y6,y7,y8,y9,y10,y11,y12,y13,y14,y15,rfl⟩:=fi ra k.ro
 kernel_rfl
section
theorem OB:gV []=false:=by decide
theorem NQ:bt []=none:=by decide
theorem Rs:(iR []).2≠0:=by decide
def xX:List UInt8:=[115,101,116]
def sA:List UInt8:=[103,101,116]
def mv:List UInt8:=[116,105,99,107]
def jM:List UInt8:=[99,108,101,97,114]
def II:List UInt8:=[104,116,116,112]
def gv:List UInt8:=[104,116,116,112,115]
def IJ:List UInt8:=[115,97,109,101]
def GJ:List UInt8:=[116,111,112]
def GW:List UInt8:=[115,117,98]
def j6:Req:=⟨false,gJ,[],0⟩
def eP:OpR:=⟨4,eX,[],j6,0⟩
def gI (c:List UInt8):Int:=if c=IJ then 0 else if c=GJ then 1 else if c=GW then 2 else -1
def cS (c:List UInt8):Int:=if c=II then 0 else if c=gv then 1 else -1
def gY (n:Int):List UInt8:=if n=0 then IJ else if n=1 then GJ else GW
def fN (b:Bool):List UInt8:=if b then gv else II
def cX (o:OpR):Bool:=
 if o.kind=1 then fm o.url
 else if o.kind=2 then cC o.req.host&&(gV o.req.path&&(decide (0 <=o.req.cross)&&decide (o.req.cross <=2)))
 else if o.kind=3 then decide (0 <=o.n)&&decide (o.n <=1099511627776)
 else true
def TB (a b:List UInt8):Option OpR:=if(iR a).2=0 then(unP b).map λt=>⟨1,(iR a).1,t,j6,0⟩ else none
def Ta (a b c d:List UInt8):Option OpR:=if 0 <=cS a then(bt b).map λh=>⟨2,eX,[],⟨cS a==1,h,c,gI d⟩,0⟩ else none
def Pg (a:List UInt8):Option OpR:=if nK a then some ⟨3,eX,[],j6,ez a⟩ else none
def bT (s:List UInt8):Option OpR:=
 if([]:List UInt8)∈bK 32 [] s then none else
 match bK 32 [] s with
 | [k]=>if k=jM then some eP else none
 | [k,a]=>if k=mv then(Pg a).filter cX else none
 | [k,a,b]=>if k=xX then(TB a b).filter cX else none
 | [k,a,b,c,d]=>if k=sA then(Ta a b c d).filter cX else none
 | _=>none
variable (qj:Url->List UInt8)
def fQ (o:OpR):List UInt8:=
 if o.kind=1 then xX++32::(qj o.url++32::j8 o.text)
 else if o.kind=2 then sA++32::(fN o.req.sec++32::(cD o.req.host++32::(o.req.path++32::gY o.req.cross)))
 else if o.kind=3 then mv++32::mA o.n.toNat
 else jM
def fh (o:OpR)(again:List UInt8):Option OpR:=if cX o&&(fQ qj o==again)then some o else none
def kZ (s:List UInt8):Option OpR:=
 match bK 32 [] s with
 | [k,a]=>if k=mv then(if nK a then fh qj ⟨3,eX,[],j6,ez a⟩ s else none)else fh qj eP s
 | [k,a,b]=>if k=xX then(if(iR a).2=0 then(unP b).bind λt=>fh qj ⟨1,(iR a).1,t,j6,0⟩ (xX++32::(qj (iR a).1++32::b))else none)else fh qj eP s
 | [k,a,b,c,d]=>if k=sA then(bt b).bind λh=>fh qj ⟨2,eX,[],⟨a==gv,h,c,if d=GW then 2 else if d=GJ then 1 else 0⟩,0⟩ (sA++32::(a++32::(cD h++32::(c++32::d))))else fh qj eP s
 | _=>fh qj eP s
theorem vd {s:List UInt8}(h:(32:UInt8)∈s):fh qj eP s=none:=by
 unfold fh
 rw[if_neg]
 intro e
 rw[Bool.and_eq_true]at e
 have e2:jM=s:=eq_of_beq e.2
 subst e2
 revert h;decide
theorem MY:fh qj eP jM=some eP:=by
 unfold fh
 rw[if_pos]
 rw[show fQ qj eP=jM from rfl]
 rw[show cX eP=true from rfl];exact beq_self_eq_true jM
theorem BZ:∀{x y r q:List UInt8},(∀c∈x,c≠32)->(∀c∈y,c≠32)->x++32::r=y++32::q->x=y/\r=q
 | [],[],r,q,_,_,h=>by simpa using h
 | [],d::y,r,q,_,hy,h=>by simp at h;exact absurd h.1.symm (hy d List.mem_cons_self)
 | c::x,[],r,q,hx,_,h=>by simp at h;exact absurd h.1 (hx c List.mem_cons_self)
 | c::x,d::y,r,q,hx,hy,h=>by
   simp only[List.cons_append,List.cons.injEq]at h
   obtain⟨e1,e2⟩:=BZ (x:=x) (y:=y) (λz hz=>hx z (List.mem_cons_of_mem _ hz)) (λz hz=>hy z (List.mem_cons_of_mem _ hz)) h.2
   exact⟨by rw[h.1,e1],e2⟩
theorem Ea:∀(r:List UInt8) (c:UInt8) (m:Nat),(∀x∈r,eA x=true)->1 <=m->mA (r.foldl (λn c=>n*10+(c.toNat-48)) m)=mA m++r
 | [],c,m,_,_=>by rw[List.foldl_nil,List.append_nil]
 | d::r,c,m,h,hm=>by
   have hd:=h d List.mem_cons_self
   unfold eA at hd
   rw[Bool.and_eq_true,dTx,dTx,UInt8.le_iff_toNat_le,UInt8.le_iff_toNat_le]at hd
   have h48:(48:UInt8).toNat=48:=rfl
   have h57:(57:UInt8).toNat=57:=rfl
   rw[List.foldl_cons,Ea r c _ (λx hx=>h x (List.mem_cons_of_mem _ hx)) (by omega),nB (by omega),List.append_assoc]
   congr 1
   · congr 1;omega
   · rw[show(m*10+(d.toNat-48))%10=d.toNat-48 by omega,show 48+(d.toNat-48)=d.toNat by omega,UInt8.ofNat_toNat];rfl
theorem Ko:∀(r:List UInt8) (m:Nat),(∀x∈r,eA x=true)->r.foldl (fun(n:Int) (c:UInt8)=>n*10+((c.toNat:Int)-48)) (m:Int)=((r.foldl (fun(n:Nat) (c:UInt8)=>n*10+(c.toNat-48)) m:Nat):Int)
 | [],m,_=>rfl
 | d::r,m,h=>by
   have hd:=h d List.mem_cons_self
   unfold eA at hd
   rw[Bool.and_eq_true,dTx,dTx,UInt8.le_iff_toNat_le,UInt8.le_iff_toNat_le]at hd
   have h48:(48:UInt8).toNat=48:=rfl
   rw[List.foldl_cons,List.foldl_cons,<- Ko r _ (λx hx=>h x (List.mem_cons_of_mem _ hx))]
   congr 1
   omega
theorem M7 {a:List UInt8}(h:nK a):0 <=ez a/\mA (ez a).toNat=a:=by
 obtain⟨h1,_,h3⟩:=h
 unfold dE at h1
 rw[Bool.and_eq_true]at h1
 have hall:=List.all_eq_true.1 h1.2
 have e:ez a=((a.foldl (fun(n:Nat) (c:UInt8)=>n*10+(c.toNat-48)) 0:Nat):Int):=Ko a 0 hall
 rw[e]
 refine⟨Int.natCast_nonneg _,?_⟩
 rw[Int.toNat_natCast]
 cases a with
 | nil=>simp at h1
 | cons c r=>
   have hd:=hall c List.mem_cons_self
   unfold eA at hd
   rw[Bool.and_eq_true,dTx,dTx,UInt8.le_iff_toNat_le,UInt8.le_iff_toNat_le]at hd
   have h48:(48:UInt8).toNat=48:=rfl
   have h57:(57:UInt8).toNat=57:=rfl
   have h1c:mA (c.toNat-48)=[c]:=by rw[mB (by omega),show 48+(c.toNat-48)=c.toNat by omega,UInt8.ofNat_toNat]
   rw[List.foldl_cons,Nat.zero_mul,Nat.zero_add]
   by_cases hz:1 <=c.toNat-48
   · rw[Ea r c _ (λx hx=>hall x (List.mem_cons_of_mem _ hx)) hz,h1c];rfl
   · have hr:r=[]:=by
       cases r with
       | nil=>rfl
       | cons d r=>
         refine absurd ⟨?_,by simp⟩ h3
         rw[List.head?_cons];congr 1
         exact UInt8.toNat_inj.1 (by rw[h48];omega)
     subst hr
     exact h1c
theorem OV {a:List UInt8}(h1:a≠II)(h2:a≠gv):cS a= -1/\fN (a==gv)≠a:=by
 unfold cS fN
 rw[if_neg h1,if_neg h2,show(a==gv)=false from by simpa using h2]
 exact⟨rfl,λe=>h1 e.symm⟩
theorem OW (b:Bool):∀y∈fN b,y≠32:=by cases b <;> decide
theorem Qt (h:Hst){a:List UInt8}(c d:List UInt8)(ha:∀y∈a,y≠32):
   fh qj ⟨2,eX,[],⟨a==gv,h,c,if d=GW then 2 else if d=GJ then 1 else 0⟩,0⟩ (sA++32::(a++32::(cD h++32::(c++32::d))))=
   Option.filter cX (if 0 <=cS a then some ⟨2,eX,[],⟨cS a==1,h,c,gI d⟩,0⟩ else none):=by
 have hl:∀(x:Bool) (n:Int),(fQ qj ⟨2,eX,[],⟨x,h,c,n⟩,0⟩==sA++32::(a++32::(cD h++32::(c++32::d))))=(decide (fN x=a)&&decide (gY n=d)):=by
   intro x n
   rw[Bool.eq_iff_iff,beq_iff_eq,Bool.and_eq_true,dTx,dTx]
   show sA++32::(fN x++32::(cD h++32::(c++32::gY n)))=_ ↔ _
   constructor
   · intro e
     have e:=List.cons.inj (List.append_cancel_left e)
     obtain⟨e1,e2⟩:=BZ (OW x) ha e.2
     have e3:=List.cons.inj (List.append_cancel_left e2)
     have e4:=List.cons.inj (List.append_cancel_left e3.2)
     exact⟨e1,e4.2⟩
   · rintro⟨rfl,rfl⟩;rfl
 unfold fh
 rw[hl]
 by_cases a1:a=II\/a=gv
 · have hs:0 <=cS a/\(cS a==1)=(a==gv)/\fN (a==gv)=a:=by
     rcases a1 with rfl|rfl <;> decide
   rw[if_pos hs.1,hs.2.1,hs.2.2,decide_eq_true (rfl:a=a),Bool.true_and]
   by_cases d1:d=IJ\/d=GJ\/d=GW
   · have hd:(if d=GW then(2:Int)else if d=GJ then 1 else 0)=gI d/\gY (gI d)=d:=by
       rcases d1 with rfl|rfl|rfl <;> decide
     rw[hd.1,hd.2,decide_eq_true (rfl:d=d),Bool.and_true]
     generalize (⟨2,eX,[],⟨a==gv,h,c,gI d⟩,0⟩:OpR)=o
     cases hr:cX o <;> simp[Option.filter,hr]
   · have hd:gI d= -1/\gY (if d=GW then(2:Int)else if d=GJ then 1 else 0)≠d:=by
       have q1:d≠IJ:=λe=>d1 (.inl e)
       have q2:d≠GJ:=λe=>d1 (.inr (.inl e))
       have q3:d≠GW:=λe=>d1 (.inr (.inr e))
       unfold gI
       rw[if_neg q1,if_neg q2,if_neg q3,if_neg q3,if_neg q2]
       exact⟨rfl,λe=>q1 e.symm⟩
     rw[decide_eq_false hd.2,Bool.and_false,hd.1]
     have hr:cX ⟨2,eX,[],⟨a==gv,h,c,-1⟩,0⟩=false:=by
       unfold cX
       simp
     simp[Option.filter,hr]
 · obtain⟨e1,e2⟩:=OV (λe=>a1 (.inl e)) (λe=>a1 (.inr e))
   rw[decide_eq_false e2,Bool.false_and,Bool.and_false,e1];rfl
theorem zS (s:List UInt8):kZ qj s=bT s:=by
 have hj:=pe 32 s []
 have hn:∀x∈bK 32 [] s,∀y∈x,y≠32:=λx hx y hy=>(zF 32 s [] x hx (by simp) y hy).2
 rw[List.nil_append]at hj
 unfold kZ bT
 have hne:=gQ 32 s []
 revert hj hn hne
 generalize bK 32 [] s=w
 intro hj hn hne
 match w with
 | []=>exact absurd rfl hne
 | [k]=>
   rw[Lib.join_one]at hj
   subst hj
   by_cases hk:k=jM
   · subst hk
     rw[if_neg (by decide)]
     show fh qj eP jM=if jM=jM then _ else _
     rw[MY,if_pos rfl]
   · have e:fh qj eP k=none:=by
       unfold fh
       rw[if_neg]
       intro e
       rw[Bool.and_eq_true]at e
       exact hk (eq_of_beq e.2).symm
     show fh qj eP k=if _ then _ else if k=jM then _ else _
     rw[e,if_neg hk,ite_self]
 | [k,a]=>
   have hs:s=k++32::a:=by rw[<- hj];simp[Lib.join_cons,Lib.joinTail]
   show(if k=mv then _ else _)=if _ then _ else if k=mv then _ else _
   by_cases hk:k=mv
   · subst hk
     rw[if_pos rfl,if_pos rfl]
     by_cases hp:nK a
     · obtain⟨d0,d1⟩:=M7 hp
       rw[if_pos hp,Pg,if_pos hp,if_neg (by
         intro e
         simp at e
         rcases e with e|e
         · cases e
         · subst e;exact absurd hp.1 (by decide))]
       unfold fh
       have hl:fQ qj ⟨3,eX,[],j6,ez a⟩=s:=by
         show mv++32::mA (ez a).toNat=s
         rw[d1,hs]
       rw[hl,beq_self_eq_true,Bool.and_true]
       cases hr:cX ⟨3,eX,[],j6,ez a⟩ <;> simp[Option.filter,hr]
     · rw[if_neg hp,Pg,if_neg hp];simp
   · rw[if_neg hk,if_neg hk,ite_self]
     exact vd qj (by rw[hs];simp)
 | [k,a,b]=>
   have hs:(32:UInt8)∈s:=by rw[<- hj];simp[Lib.join_cons,Lib.joinTail]
   show(if k=xX then _ else _)=if _ then _ else if k=xX then _ else _
   by_cases hk:k=xX
   · subst hk
     rw[if_pos rfl,if_pos rfl]
     cases hu:unP b with
     | none=>
       have e1:TB a b=none:=by unfold TB;rw[hu];split <;> rfl
       rw[e1];simp
     | some t=>
       by_cases h0:(iR a).2=0
       · have ht:=(rf b t).1 hu
         rw[if_pos h0,TB,if_pos h0,hu,if_neg (by
           intro e
           simp only[List.mem_cons,List.not_mem_nil,or_false]at e
           rcases e with e|e|e
           · cases e
           · subst e;exact Rs h0
           · subst e;rw[TT]at hu;cases hu)]
         show fh qj ⟨1,(iR a).1,t,j6,0⟩ _=Option.filter cX (some ⟨1,(iR a).1,t,j6,0⟩)
         have hl:fQ qj ⟨1,(iR a).1,t,j6,0⟩=xX++32::(qj (iR a).1++32::b):=by rw[<- ht];rfl
         unfold fh
         rw[hl,beq_self_eq_true,Bool.and_true]
         cases hr:cX ⟨1,(iR a).1,t,j6,0⟩ <;> simp[Option.filter,hr]
       · rw[if_neg h0,TB,if_neg h0];simp
   · rw[if_neg hk,if_neg hk,ite_self]
     exact vd qj hs
 | [k,a,b,c,d]=>
   have hs:(32:UInt8)∈s:=by rw[<- hj];simp[Lib.join_cons,Lib.joinTail]
   show(if k=sA then _ else _)=if _ then _ else if k=sA then _ else _
   by_cases hk:k=sA
   · subst hk
     rw[if_pos rfl,if_pos rfl]
     cases hh:bt b with
     | none=>
       have e1:Ta a b c d=none:=by unfold Ta;rw[hh];split <;> rfl
       rw[e1];simp
     | some h=>
       have ha:∀y∈a,y≠32:=hn a (by simp)
       have key:=Qt qj h c d ha
       refine Eq.trans key ?_
       by_cases hm:([]:List UInt8)∈[sA,a,b,c,d]
       · rw[if_pos hm]
         simp only[List.mem_cons,List.not_mem_nil,or_false]at hm
         rcases hm with e|e|e|e|e
         · cases e
         · subst e;rfl
         · subst e;rw[NQ]at hh;cases hh
         · subst e
           by_cases hs:0 <=cS a
           · rw[if_pos hs]
             have hr:cX ⟨2,eX,[],⟨cS a==1,h,[],gI d⟩,0⟩=false:=by unfold cX;simp[OB]
             simp[Option.filter,hr]
           · rw[if_neg hs];rfl
         · subst e
           by_cases hs:0 <=cS a
           · rw[if_pos hs]
             have hr:cX ⟨2,eX,[],⟨cS a==1,h,c,gI []⟩,0⟩=false:=by unfold cX;rw[show gI []= -1 by decide];simp
             simp[Option.filter,hr]
           · rw[if_neg hs];rfl
       · rw[if_neg hm]
         show _=Option.filter cX (Ta a b c d)
         unfold Ta;rw[hh];rfl
   · rw[if_neg hk,if_neg hk,ite_self]
     exact vd qj hs
 | [k,a,b,c]=>
   show fh qj eP s=if _ then _ else none
   rw[ite_self]
   exact vd qj (by rw[<- hj];simp[Lib.join_cons,Lib.joinTail])
 | k::a::b::c::d::e::r=>
   show fh qj eP s=if _ then _ else none
   rw[ite_self]
   exact vd qj (by rw[<- hj];simp[Lib.join_cons,Lib.joinTail])
def gK (f:List UInt8->Option OpR):Nat->List (List UInt8)->List OpR->List OpR×Int×Int×Int
 | _,[],out=>(out,0,0,0)
 | i,x::r,out=>if i=200 then([],53,(i:Int)+1,1)else match f x with
   | none=>([],131,(i:Int)+1,1)
   | some o=>gK f (i+1) r (out++[o])
def fk (f:List UInt8->Option OpR)(s:List UInt8):List OpR×Int×Int×Int:=if 20000<s.length then([],54,1,1)else gK f 0 (ka s) []
end
section
variable {α β:Type} [DecidableEq α]
def KVg (ek:α->Value)(ev:β->Value)(es:List MapEntry)(kvs:List (α×β)):Prop:=es.map (λe=>(e.key,e.val))=kvs.map λp=>(ek p.1,ev p.2)
def sy (ek:α->Value)(ev:β->Value)(w:World)(r:Nat)(kvs:List (α×β)):Prop:=∃es clock,w.heap[r]? =some (.map es clock)/\KVg ek ev es.toList kvs
def dw (k:α):List (α×β)->Option β
 | []=>none
 | (k',v)::l=>if k=k' then some v else dw k l
def fj (k:α):List (α×β)->Nat->Option (Nat×β)
 | [],_=>none
 | (k',v)::l,i=>if k=k' then some (i,v)else fj k l (i+1)
theorem uw (k:α):∀(l:List (α×β)) (i:Nat),(fj k l i).map (·.2)=dw k l
 | [],_=>rfl
 | (k',v)::l,i=>by
   unfold fj dw
   split
   · rfl
   · exact uw k l (i+1)
theorem vw (k:α)(v:β)(k':α):∀l:List (α×β),dw k' (l++[(k,v)])=(dw k' l).or (if k'=k then some v else none)
 | []=>by
   show(if k'=k then some v else none)=_
   rfl
 | (x,y)::l=>by
   show(if k'=x then some y else dw k' (l++[(k,v)]))=(if k'=x then some y else dw k' l).or _
   split
   · rfl
   · exact vw k v k' l
structure qb (P:Program)(kt:TypeId)(ek:α->Value):Prop where
 check:∀(b:Bool) (k:α) (w:World),(Instr.checkKey b 10000 kt (ek k)).run P w=.ok () w
 find:∀{β:Type} (ev:β->Value) (k:α) (es:List MapEntry) (kvs:List (α×β)) (w:World),KVg ek ev es kvs->(Instr.findKey kt (ek k) es).run P w=.ok ((fj k kvs 0).map λp=>(p.1,ev p.2)) w
theorem qb.struct {P:Program}{kt:TypeId}{fs:Array Field}(hu:P.underlying kt=some (.struct fs)){ek:α->Value}(heq:∀a b,eqV P 10000 kt (ek a) (ek b)=some (decide (a=b)))
   (check:∀(b:Bool) (k:α) (w:World),(Instr.checkKey b 10000 kt (ek k)).run P w=.ok () w):qb P kt ek where
 check:=check
 find:=by
   intro β ev k es kvs w h
   have ask:∀(es:List MapEntry) (kvs:List (α×β)) (i:Nat),KVg ek ev es kvs->(Instr.findAsking kt (ek k) es i).run P w=.ok ((fj k kvs i).map λp=>(p.1,ev p.2)) w:=by
     intro es
     induction es with
     | nil=>
       intro kvs i h
       have:kvs=[]:=by unfold KVg at h;simp at h;exact h
       subst this;rfl
     | cons e es ih=>
       intro kvs i h
       cases kvs with
       | nil=>unfold KVg at h;simp at h
       | cons p kvs=>
         obtain⟨k',v⟩:=p
         unfold KVg at h
         simp only[List.map_cons,List.cons.injEq,Prod.mk.injEq]at h
         obtain⟨⟨hk,hv⟩,ht⟩:=h
         unfold Instr.findAsking fj
         rw[hk]
         have he:(Op.equal kt (ek k) (ek k')).run P w=.ok (decide (k=k')) w:=Nl 10000 kt _ _ _ w (heq k k')
         rw[Sem.run_bind,he,Result.andThen_ok]
         by_cases e1:k=k'
         · simp[e1,hv]
         · simp only[e1,decide_false,if_false]
           exact ih kvs (i+1) ht
   unfold Instr.findKey
   rw[Sem.run_bind,bD hu,Result.andThen_ok]
   cases es with
   | nil=>
     have:kvs=[]:=by unfold KVg at h;simp at h;exact h
     subst this;rfl
   | cons e es=>exact ask (e::es) kvs 0 h
variable {ek:α->Value} {ev:β->Value}
theorem sy.below {w w':World}{r:Nat}{kvs:List (α×β)}(h:sy ek ev w r kvs)(hb:bW w w'):sy ek ev w' r kvs:=by
 obtain⟨es,c,hh,hkv⟩:=h
 exact⟨es,c,(hb.block r (Array.getElem?_eq_some_iff.1 hh).1).trans hh,hkv⟩
theorem sy.lt {w:World}{r:Nat}{kvs:List (α×β)}(h:sy ek ev w r kvs):r<w.heap.size:=by
 obtain⟨es,c,hh,hkv⟩:=h
 exact(Array.getElem?_eq_some_iff.1 hh).1
theorem sy.keep {w w':World}{r:Nat}{kvs:List (α×β)}(h:sy ek ev w r kvs)(hb:w'.heap[r]? =w.heap[r]?):sy ek ev w' r kvs:=by
 obtain⟨es,c,hh,hkv⟩:=h
 exact⟨es,c,hb.trans hh,hkv⟩
theorem sy.grown {w w':World}{r:Nat}{kvs:List (α×β)}(h:sy ek ev w r kvs){k:Nat}(hg:w.grownBy w' (some k))(hne:r≠k):sy ek ev w' r kvs:=h.keep (hg.block r h.lt λe=>hne (Option.some.inj e))
theorem sy.new {w w':World}{r:Nat}(hr:r=w.heap.size)(hw:w'=w.alloc (.map #[] 0)):sy ek ev w' r []:=by
 subst hr hw
 exact⟨#[],0,heap_alloc_new w _,rfl⟩
theorem pd {P:Program}{w:World}{r:Nat}{es:Array MapEntry}{c:Nat}(h:w.heap[r]? =some (.map es c)):(getObj r).run P w=.ok (.map es c) w:=by
 simp only[getObj,Sem.run,h]
theorem sy.look2 {P:Program}{mt kt et:TypeId}{n bytes:Nat}{z:Value}(hm:P.underlying mt=some (.map kt et))(hk:qb P kt ek)(he:TF P et n bytes z){w:World}{r:Nat}{kvs:List (α×β)}(h:sy ek ev w r kvs)(k:α):
   (Instr.lookup mt (.map (some r)) (ek k) true).run P w=.ok (.tuple #[((dw k kvs).map ev).getD z,.bool (dw k kvs).isSome]) w:=by
 obtain⟨es,c,hh,hkv⟩:=h
 obtain⟨i,hi,_,_,hz⟩:=he.info
 unfold Instr.lookup
 simp only[Sem.run_bind,bD hm,Result.andThen_ok,pd hh,Sem.run_pure,hk.check,hk.find ev k _ _ _ hkv]
 rw[<- uw k kvs 0]
 cases fj k kvs 0 with
 | none=>simp[zeroValue,pq hi,hz]
 | some p=>simp
theorem sy.look1 {P:Program}{mt kt et:TypeId}{n bytes:Nat}{z:Value}(hm:P.underlying mt=some (.map kt et))(hk:qb P kt ek)(he:TF P et n bytes z){w:World}{r:Nat}{kvs:List (α×β)}(h:sy ek ev w r kvs)(k:α):
   (Instr.lookup mt (.map (some r)) (ek k) false).run P w=.ok (((dw k kvs).map ev).getD z) w:=by
 obtain⟨es,c,hh,hkv⟩:=h
 obtain⟨i,hi,_,_,hz⟩:=he.info
 unfold Instr.lookup
 simp only[Sem.run_bind,bD hm,Result.andThen_ok,pd hh,Sem.run_pure,hk.check,hk.find ev k _ _ _ hkv]
 rw[<- uw k kvs 0]
 cases fj k kvs 0 with
 | none=>simp[zeroValue,pq hi,hz]
 | some p=>simp
theorem sy.put {P:Program}{mt kt et:TypeId}(hm:P.underlying mt=some (.map kt et))(hk:qb P kt ek){w:World}{r:Nat}{kvs:List (α×β)}(h:sy ek ev w r kvs){k:α}(hno:dw k kvs=none)(v:β):
   ∃w',(Instr.mapUpdate mt (.map (some r)) (ek k) (ev v)).run P w=.ok () w'/\sy ek ev w' r (kvs++[(k,v)])/\w.grownBy w' (some r):=by
 obtain⟨es,c,hh,hkv⟩:=h
 have hlt:r<w.heap.size:=(Array.getElem?_eq_some_iff.1 hh).1
 have hnone:fj k kvs 0=none:=by
   have:=uw k kvs 0
   rw[hno]at this
   simpa using this
 refine⟨{ w with heap:=w.heap.setIfInBounds r (.map (es.push { key:=ek k,val:=ev v,born:=c }) (c+1)) },?_,⟨es.push { key:=ek k,val:=ev v,born:=c },c+1,by simp[hlt],?_⟩,⟨rfl,rfl,rfl,by simp,λj hj hne=>?_⟩⟩
 · unfold Instr.mapUpdate
   simp only[Sem.run_bind,bD hm,Result.andThen_ok,pd hh,hk.check,hk.find ev k _ _ _ hkv,hnone,Option.map_none]
   simp only[setObj,Sem.run,hh]
 · unfold KVg at hkv ⊢
   simp only[Array.toList_push,List.map_append,List.map_cons,List.map_nil,hkv]
 · have:r≠j:=λe=>hne (by rw[e])
   simp[Array.getElem?_setIfInBounds_ne this]
end
def evS (s:List UInt8):Value:=vS s
def evN (n:Int):Value:=vI n
theorem qb.str {P:Program}{kt:TypeId}(hu:P.underlying kt=some .string):qb P kt evS where
 check:=by
   intro b k w
   unfold Instr.checkKey
   rw[Sem.run_bind,bD hu,Result.andThen_ok]
   rfl
 find:=by
   intro β ev k es kvs w h
   have now:∀(es:List MapEntry) (kvs:List (List UInt8×β)) (i:Nat),KVg evS ev es kvs->Instr.findNow .string (evS k) es i=some ((fj k kvs i).map λp=>(p.1,ev p.2)):=by
     intro es
     induction es with
     | nil=>
       intro kvs i h
       have:kvs=[]:=by unfold KVg at h;simp at h;exact h
       subst this;rfl
     | cons e es ih=>
       intro kvs i h
       cases kvs with
       | nil=>unfold KVg at h;simp at h
       | cons p kvs=>
         obtain⟨k',v⟩:=p
         unfold KVg at h
         simp only[List.map_cons,List.cons.injEq,Prod.mk.injEq]at h
         obtain⟨⟨hk,hv⟩,ht⟩:=h
         unfold Instr.findNow fj
         rw[hk]
         have he:Instr.sameNow .string (evS k) (evS k')=some (decide (k=k')):=by
           have e2:(mkS k==mkS k')=(k==k'):=by
             show((mkS k).data==(mkS k').data)=_
             simp[mkS]
           show some (mkS k==mkS k')=_
           rw[e2]
           congr 1
           rw[Bool.eq_iff_iff];simp
         rw[he]
         by_cases e1:k=k'
         · simp[e1,hv]
         · simp only[e1,decide_false,if_false]
           exact ih kvs (i+1) ht
   unfold Instr.findKey
   rw[Sem.run_bind,bD hu,Result.andThen_ok,now es kvs 0 h]
   rfl
theorem Bt (a:lU){w K}(h:uL dA #[vS a,.int .u8 10] w λb c d e=>∃f:FP [.one .slice],((bx (i64.wrap (((c:Nat):Int)-(1:Int))) ((c:Nat):Int)/\Option.isSome b=true)/\∃g,Ld ah (aq b (i64.wrap (((c:Nat):Int)-(1:Int))) 1) e (vS g)/\ab (g==[]) (bd (i64.wrap (((c:Nat):Int)-(1:Int))) ((d:Nat):Int)/\f b (Int.toNat (i64.wrap (((c:Nat):Int)-(1:Int)))) d e) (f b c d e))/\∀g i j,aJ 12 (∀k,f g i j k->∃l:Nat->FP [.one (.int .i64)],(∃m,l m (0:Int) k)/\∀m n,aJ 12 (∀o,l m n o->ab (decide (n<((i:Nat):Int))) ((bx n ((i:Nat):Int)/\Option.isSome g=true)/\∃p,Ld ah (aq g n 1) o (vS p)/\uS j9 #[vS p,vS [13]] o λq r=>(bx n ((i:Nat):Int)/\Option.isSome g=true)/\∃s,Sv ah (aq g n 1) (vS q) r s/\∃t:Nat,t<m/\l t (i64.wrap (n+(1:Int))) s) (uL gj #[.slice g i j] o λp q r s=>K (.slice p q r) s)))):Cf oL #[vS a] w (Ret K):=ru func19 [(4,[(3,.one .slice)]),(14,[(21,.one (.int .i64))])] h
theorem Bw (a:lU){w K}(h:uL dA #[vS a,.int .u8 32] w λb c d e=>uB fg #[.slice b c d,vS []] e λf g=>ab f (K (.tuple #[.slice none 0 0,.bool false]) g) (K (.tuple #[.slice b c d,.bool true]) g)):Cf oM #[vS a] w (Ret K):=ru func47 [] h
theorem Dv (a:lU){w K}(h:ab (a==[]) (K (vS [37]) w) (∃b c d e,(convert ah aG (vS a)).run prog w=.ok (.slice c d e) b/\∃f:Nat->FP [.one .slice,.one (.int .i64)],(∃g,f g none 0 0 (0:Int) b)/\∀g i j k l,aJ 28 (∀m,f g i j k l m->ab (decide (l<((d:Nat):Int))) ((bx l ((d:Nat):Int)/\Option.isSome c=true)/\∃n,Ld aQ (aq c l 1) m (.int .u8 n)/\∃o:FP [.one .bool],(ab (decide (n>(32:Int))) (ab (decide (n<(127:Int))) (o (n !=(37:Int)) m) (o false m)) (o false m))/\∀p,aJ 9 (∀q,o p q->ab p (nA q (.cells #[.int .u8 n] aQ) λr s=>∃t u v x,(Builtin.append_ #[aG,aG] aG #[.slice i j k,.slice (vA r 0) 1 1]).run prog s=.ok (.slice u v x) t/\∃y:Nat,y<g/\f y u v x (i64.wrap (l+(1:Int))) t) ((0 <=(4:Int))/\bx (Int.fdiv n (2 ^ (min (Int.toNat 4) (IntKind.bits .u8)))) ((List.length [48,49,50,51,52,53,54,55,56,57,65,66,67,68,69,70]:Nat):Int)/\bx (IntKind.u8.wrap (((BitVec.ofInt (IntKind.bits .u8) n) &&& (BitVec.ofInt (IntKind.bits .u8) (15:Int))).toNat:Nat)) ((List.length [48,49,50,51,52,53,54,55,56,57,65,66,67,68,69,70]:Nat):Int)/\∀r,q.heap.size <=r->∀s,bW q s->s.heap[r]? =some (.cells #[.int .u8 37,.int .u8 (bf [48,49,50,51,52,53,54,55,56,57,65,66,67,68,69,70] (Int.fdiv n (2 ^ (min (Int.toNat 4) (IntKind.bits .u8))))),.int .u8 (bf [48,49,50,51,52,53,54,55,56,57,65,66,67,68,69,70] (IntKind.u8.wrap (((BitVec.ofInt (IntKind.bits .u8) n) &&& (BitVec.ofInt (IntKind.bits .u8) (15:Int))).toNat:Nat)))] aQ)->∃t u v x,(Builtin.append_ #[aG,aG] aG #[.slice i j k,.slice (vA r 0) 3 3]).run prog s=.ok (.slice u v x) t/\∃y:Nat,y<g/\f y u v x (i64.wrap (l+(1:Int))) t))) (∃n,(convert aG ah (.slice i j k)).run prog m=.ok (vS n) m/\K (vS n) m)))):Cf jQ #[vS a] w (Ret K):=ru func26 [(16,[(3,.one .slice),(11,.one (.int .i64))]),(27,[(24,.one .bool)]),(3000031,[(0,.one .bool),(1,.one .bool),(2,.one .bool),(4,.one .bool),(5,.one .bool),(3,.one .bool),(6,.one .bool),(7,.one .bool)])] h
theorem Dw (a:Int){w K}(h:uI eo #[vS [48,49,50,51,52,53,54,55,56,57,65,66,67,68,69,70],.int .u8 a] w λb c=>K (.int .u8 (IntKind.u8.wrap b)) c):Cf mD #[.int .u8 a] w (Ret K):=ru func260 [] h
theorem zn (a:lU){w K}(h:uS j9 #[vS a,vS [37]] w λb c=>∃d:Nat->FP [.one .slice,.one .str],(∃e,d e none 0 0 b c)/\∀e f g i j,aJ 29 (∀k,d e f g i j k->ab (!(j==[])) (bx (0:Int) ((List.length j:Nat):Int)/\∃l:FP [.one (.int .u8),.one (.int .i64)],(ab ((bf j (0:Int))==(37:Int)) (ab (decide (((List.length j:Nat):Int)<(3:Int))) (K (.tuple #[vS [],.bool false]) k) (bx (1:Int) ((List.length j:Nat):Int)/\∃m,(∀n,bW k n->Cf mD #[.int .u8 (bf j (1:Int))] n λo p=>o=.returned (.int .u8 m)/\Below k.heap.size n p)/\(0 <=(4:Int))/\bx (2:Int) ((List.length j:Nat):Int)/\∃n,(∀o,bW k o->Cf mD #[.int .u8 (bf j (2:Int))] o λp q=>p=.returned (.int .u8 n)/\Below k.heap.size o q)/\∀o,bW k o->l (IntKind.u8.wrap (((BitVec.ofInt (IntKind.bits .u8) (IntKind.u8.wrap (m*2 ^ (min (Int.toNat 4) (IntKind.bits .u8))))) ||| (BitVec.ofInt (IntKind.bits .u8) (IntKind.u8.wrap (((BitVec.ofInt (IntKind.bits .u8) n) &&& (BitVec.ofInt (IntKind.bits .u8) (15:Int))).toNat:Nat)))).toNat:Nat)) (3:Int) o)) (l (bf j (0:Int)) (1:Int) k))/\∀m n,aJ 16 (∀o,l m n o->nA o (.cells #[.int .u8 m] aQ) λp q=>∃r s t u,(Builtin.append_ #[aG,aG] aG #[.slice f g i,.slice (vA p 0) 1 1]).run prog q=.ok (.slice s t u) r/\bd n (((List.length j):Nat):Int)/\∀v,v=(List.drop (Int.toNat n) j)->∃x:Nat,x<e/\d x s t u v r)) (∃l,(convert aG ah (.slice f g i)).run prog k=.ok (vS l) k/\uS jQ #[vS l] k λm n=>ab (!(m==a)) (K (.tuple #[vS [],.bool false]) n) (∃o,(convert aG ah (.slice f g i)).run prog n=.ok (vS o) n/\K (.tuple #[vS o,.bool true]) n)))):Cf nf #[vS a] w (Ret K):=ru func179 [(8,[(4,.one .slice),(5,.one .str)]),(18,[(6,.one (.int .u8)),(7,.one (.int .i64))])] h
theorem Dx (a:Option Addr)(b c:Nat)(d:Option Addr)(e f:Nat){w K}(h:ab (((b:Nat):Int) !=((e:Nat):Int)) (K (.bool false) w) (∃g:Nat->FP [.one (.int .i64)],(∃i,g i (0:Int) w)/\∀i j,aJ 14 (∀k,g i j k->ab (decide (j<((b:Nat):Int))) ((bx j ((b:Nat):Int)/\Option.isSome a=true)/\∃l,(∀m,bW k m->Ld ah (aq a j 1) m (vS l))/\(bx j ((e:Nat):Int)/\Option.isSome d=true)/\∃m,(∀n,bW k n->Ld ah (aq d j 1) n (vS m))/\∀n,bW k n->ab (!(l==m)) (K (.bool false) n) (∃o:Nat,o<i/\g o (i64.wrap (j+(1:Int))) n)) (K (.bool true) k)))):Cf qA #[.slice a b c,.slice d e f] w (Ret K):=ru func13 [(14,[(13,.one (.int .i64))])] h
theorem Od {x y:List UInt8}(h:mkS x=mkS y):x=y:=by
 have:=congrArg (λb:ByteArray=>b.data.toList) h
 simpa[mkS]using this
theorem IV {w:World}{A:Bl}{a:Option Addr}{n c:Nat}{xs:List (List UInt8)}(ho:Sl tS w A a n c xs)(hne:xs≠[]):
   ∃b off,a=some ⟨b,off,none⟩/\∀j,j<(xs.map mkS).length->w.cell? ⟨b,off+j,none⟩=some (.string ((xs.map mkS).getD j ByteArray.empty)):=by
 obtain⟨hn,hnc,hcm,h4⟩:=ho
 rcases h4 with h4|⟨b,off,rfl,hbl,_,cs,hcs,hcell⟩
 · exact absurd h4 hne
 · have he:=jr hcs
   refine⟨b,off,rfl,λj hj=>?_⟩
   rw[List.length_map]at hj
   rw[hcell j (by rw[he];simpa using hj),he,List.getElem?_map,List.getElem?_eq_getElem hj,List.getD_eq_getElem?_getD,List.getElem?_map,List.getElem?_eq_getElem hj];rfl
theorem Ox {t:TypeId}{w:World}{B n:Nat}{v:Value}{xs:List (List UInt8)}(h:w.ownsRow B t 1 v n (xs.map λx=>vS x))(hn:n=xs.length):
   ∃a c,v=.slice a n c/\Ow tS t w NoB a n c xs/\bU B a:=by
 rcases h.2 with⟨rfl,h0⟩|⟨g,cap,cur,rfl,hb,hg,hle,hm,hs,ht⟩
 · have:xs=[]:=List.eq_nil_of_length_eq_zero (by omega)
   subst this
   exact⟨none,0,by rw[h0],by rw[h0];exact Ow.nil _ _ _ _,bU.none _⟩
 · refine⟨_,cap,rfl,⟨hn,hle,hm,.inr ⟨g,cur,(0,0),rfl,hg,λi _=>by simp,by show cur.size=cap*1;simpa using hs,?_⟩⟩,λx hx=>by simp[eJ]at hx;omega⟩
   show gh _ _ _ (cur.toList.take (n*1)) xs
   rw[ht];exact uT λ_ _=>trivial
theorem gh.takeJ {α:Type}{T:Ty α}{w:World}{A:Bl}{l:List Value}{xs:List α}(h:gh T w A l xs){j:Nat}(hj:j <=xs.length):gh T w A (l.take (j*T.k)) (xs.take j):=by
 have hle:j*T.k <=xs.length*T.k:=Nat.mul_le_mul_right _ hj
 refine⟨by rw[List.length_take,List.length_take,h.len,Nat.min_eq_left hle,Nat.min_eq_left hj],λi hi=>?_⟩
 rw[List.length_take,Nat.min_eq_left hj]at hi
 have:=h.rep i (by omega)
 have h2:(i+1)*T.k <=j*T.k:=Nat.mul_le_mul_right _ hi
 rw[Nat.succ_mul]at h2
 rw[List.getElem_take,List.drop_take,List.take_take,Nat.min_eq_left (by omega)]
 exact this
theorem Ow.takeJ {α:Type}{T:Ty α}{t:TypeId}{w:World}{A:Bl}{a:Option Addr}{n c:Nat}{xs:List α}(h:Ow T t w A a n c xs){j:Nat}(hj:j <=xs.length):Ow T t w A a j c (xs.take j):=by
 obtain⟨hn,hnc,hcm,h4⟩:=h
 refine⟨by rw[List.length_take,Nat.min_eq_left hj],by omega,hcm,?_⟩
 rcases h4 with⟨e1,e2,e3⟩|⟨g,cur,fr,e,hg,hf,hs,hr⟩
 · exact .inl ⟨e1,e2,by rw[e3];simp⟩
 · refine .inr ⟨g,cur,fr,e,hg,hf,hs,?_⟩
   have:=hr.takeJ hj
   rwa [List.take_take,Nat.min_eq_left (by rw[hn];exact Nat.mul_le_mul_right _ hj)]at this
theorem IX {w:World}{A:Bl}{a:Option Addr}{n c:Nat}{xs:List (List UInt8)}(ho:Sl tS w A a n c xs)(x:List UInt8)(hx:xs.length <=9223372036854775807):
   Cf fg #[.slice a n c,vS x] w (Ret λv w'=>v=.bool (decide (x∈xs))/\w'=w):=by
 have hn:=ho.1
 subst hn
 by_cases hne:xs=[]
 · subst hne
   refine(Tryz.slices_Contains_string_empty a c (mkS x) w).mono ?_
   rintro _ _ ⟨rfl,rfl⟩
   exact⟨_,rfl,by simp,rfl⟩
 · obtain⟨b,off,rfl,hc⟩:=IV ho hne
   refine(Tryz.slices_Contains_string b off xs.length c (xs.map mkS) (mkS x) w (by simp) hx hc).mono ?_
   rintro _ _ ⟨rfl,rfl⟩
   refine⟨_,rfl,?_,rfl⟩
   congr 1
   rw[Bool.eq_iff_iff,Lib.containsS_iff,dTx,List.take_of_length_le (by simp),List.mem_map]
   exact⟨λ⟨y,hy,e⟩=>Od e▸hy,λh=>⟨x,h,rfl⟩⟩
theorem CZ (s:List UInt8)(hs:s.length <=10000000)(w:World)(he:Env w):
   Cf oM #[vS s] w (Ret λv w'=>(if([]:List UInt8)∈bK 32 [] s then v=.tuple #[.slice none 0 0,.bool false]else ∃a n c,v=.tuple #[.slice a n c,.bool true]/\Ow tS ah w' NoB a n c (bK 32 [] s)/\bU w.heap.size a)/\bW w w'):=by
 apply Bw
 refine aw (dV s 32 (by omega) w he) ?_
 rintro _ w1 ⟨a,n,c,rfl,ho,hf,hb⟩
 refine⟨_,_,_,rfl,?_⟩
 refine aw (IX ho.all [] (by have:=dK 32 s [];omega)) ?_
 rintro _ w2 ⟨rfl,rfl⟩
 refine⟨_,rfl,ab.of (λh=>?_) (λh=>?_)⟩
 · refine⟨?_,hb⟩
   rw[if_pos (of_decide_eq_true h)]
 · refine⟨?_,hb⟩
   rw[if_neg (of_decide_eq_false h)];exact⟨_,_,_,rfl,ho,hf⟩
theorem P2 {w:World}{a:Option Addr}{n c:Nat}{xs:List (List UInt8)}(ho:Ow tS ah w NoB a n c xs)(hx:xs.length <=100000000):
   Cf gj #[.slice a n c] w (Ret λv w'=>∃a' n' c',v=.slice a' n' c'/\Ow tS ah w' NoB a' n' c' xs/\bU w.heap.size a'/\bW w w'):=by
 have hn:=ho.len
 subst hn
 by_cases hne:xs=[]
 · subst hne
   cases a with
   | none=>
     refine(Tryz.slices_Clone_string_nil 0 c w).mono ?_
     rintro _ _ ⟨rfl,rfl⟩
     exact⟨_,rfl,_,_,_,rfl,Ow.nil _ _ _ _,bU.none _,Below.refl _ _⟩
   | some a=>
     refine(Tryz.slices_Clone_string_zero a c w).mono ?_
     rintro _ w' ⟨v',rfl,hr,_,hb⟩
     obtain⟨a',c',rfl,ho',hf'⟩:=Ox (xs:=[]) hr rfl
     exact⟨_,rfl,_,_,_,rfl,ho',hf',hb⟩
 · obtain⟨b,off,rfl,hc⟩:=IV ho.all hne
   refine(Tryz.slices_Clone_string b off xs.length c (xs.map mkS) w (by simp) (by omega) hc).mono ?_
   rintro _ w' ⟨v',rfl,hr,_,hb⟩
   rw[List.take_of_length_le (by simp),List.map_map]at hr
   obtain⟨a',c',rfl,ho',hf'⟩:=Ox (xs:=xs) hr rfl
   exact⟨_,rfl,_,_,_,rfl,ho',hf',hb⟩
theorem Mi {L:List (List UInt8)}{f:List UInt8->List UInt8}{k:Nat}(h:k<L.length):((L.take k).map f++L.drop k).set k (f L[k])=(L.take (k+1)).map f++L.drop (k+1):=by
 rw[List.set_append_right _ _ (by simp;omega),List.length_map,List.length_take,Nat.min_eq_left (by omega),Nat.sub_self,List.drop_eq_getElem_cons h,List.set_cons_zero,List.take_succ_eq_append_getElem h,List.map_append,List.append_assoc];rfl
theorem CY (s:List UInt8)(hs:s.length <=10000000)(w:World)(he:Env w):
   Cf oL #[vS s] w (Ret λv w'=>∃a n cp,v=.slice a n cp/\Ow tS ah w' NoB a n cp (ka s)/\bU w.heap.size a/\bW w w'):=by
 apply Bt
 refine aw (dV s 10 (by omega) w he) ?_
 rintro _ w1 ⟨a,n,c,rfl,ho,hf,hb⟩
 have hn:=ho.len
 subst hn
 refine⟨_,_,_,rfl,?_⟩
 have hne:=gQ 10 s []
 have hcnt:=dK 10 s []
 have hpl:=fI 10 s []
 have hlin:ka s=((if(bK 10 [] s).getLast?=some []then(bK 10 [] s).dropLast else bK 10 [] s)).map mT:=rfl
 revert ho hne hcnt hpl hlin
 generalize bK 10 [] s=L
 intro ho hne hcnt hpl hlin
 have hpos:0<L.length:=List.length_pos_iff.2 hne
 have hcap:=ho.2.1
 have e1:i64.wrap (((L.length:Nat):Int)-(1:Int))=((L.length-1:Nat):Int):=by rw[wrap_i64 (by omega) (by omega)];omega
 refine⟨λa3 l3 c3 w'=>w'=w1/\∃M:List (List UInt8),ka s=M.map mT/\(∀x∈M,x.length <=s.length)/\M.length <=s.length+1/\a3=a/\Ow tS ah w1 NoB a3 l3 c3 M,?_,?_⟩
 · obtain⟨v,hv,hrep⟩:=ho.all.load1 (i:=((L.length-1:Nat):Int)) av rfl rfl (by simp;omega)
   obtain⟨rfl,_⟩:=lZ hrep
   simp only[Int.toNat_natCast]at hv
   rw[e1]
   refine⟨⟨⟨by omega,by omega⟩,ho.all.isSome (i:=0) hpos⟩,_,hv,?_⟩
   have hmem:∀x∈L,x.length <=s.length:=λx hx=>by have:=hpl x hx;simpa using this
   refine ab.of (λh=>?_) (λh=>?_)
   · have h:L[L.length-1]'(by omega)=[]:=eq_of_beq h
     refine⟨⟨by omega,by omega⟩,rfl,L.dropLast,?_,λx hx=>hmem x (List.dropLast_subset _ hx),by rw[List.length_dropLast];omega,rfl,?_⟩
     · rw[hlin,if_pos (rY hpos h)]
     · rw[List.dropLast_eq_take,Int.toNat_natCast];exact ho.takeJ (by omega)
   · refine⟨rfl,L,?_,hmem,hcnt,rfl,ho⟩
     rw[hlin,if_neg]
     rw[rY hpos rfl]
     intro e
     rw[Option.some.inj e]at h;cases h
 · intro a3 l3 c3
   refine aJ.of ?_ _
   rintro w2 ⟨rfl,M,hM,hMl,hMn,rfl,hoM⟩
   have hl3:=hoM.len
   subst hl3
   refine⟨λm i w'=>∃k:Nat,k <=M.length/\i=(k:Int)/\m=M.length-k/\Ow tS ah w' NoB a3 M.length c3 ((M.take k).map mT++M.drop k)/\bW w w',
     ⟨_,0,by omega,rfl,rfl,hoM,hb⟩,?_⟩
   intro m i
   refine aJ.of ?_ _
   rintro w3 ⟨k,hk,rfl,rfl,ho3,hB3⟩
   have hlen3:((M.take k).map mT++M.drop k).length=M.length:=by simp;omega
   refine ab.of (λh=>?_) (λh=>?_) <;> simp only[dTx,dFx]at h
   · have hlt:k<M.length:=by omega
     have hget:((M.take k).map mT++M.drop k)[k]'(by omega)=M[k]:=by
       rw[List.getElem_append_right (by simp;omega)]
       simp[Nat.min_eq_left (Nat.le_of_lt hlt)]
     obtain⟨v,hv,hrep⟩:=ho3.all.load1 (i:=(k:Int)) av rfl rfl (by rw[Int.toNat_natCast,hlen3];exact hlt)
     obtain⟨rfl,_⟩:=lZ hrep
     simp only[Int.toNat_natCast]at hv
     rw[hget]at hv
     have hmk:=hMl M[k] (List.getElem_mem hlt)
     refine⟨⟨⟨by omega,h⟩,ho3.all.isSome (i:=k) (by omega)⟩,_,hv,?_⟩
     refine(Tryz.strings_TrimSuffix (mkS M[k]) (mkS [13]) w3 (by show(M[k]).length <=_;omega)).mono ?_
     rintro _ w4 ⟨rfl,rfl⟩
     refine⟨mT M[k],?_,⟨⟨by omega,h⟩,ho3.all.isSome (i:=k) (by omega)⟩,?_⟩
     · show Ending.returned (vS (Lib.trimSuffix M[k] [13]))=_
       rw[(zT M[k] 13).2,mT]
       split
       · rw[List.dropLast_eq_take]
       · rfl
     · obtain⟨w5,hs5,ho5,hg5⟩:=ho3.store (P:=prog) dI (λ_ _ h=>h) (i:=(k:Int)) (by rw[Int.toNat_natCast,hlen3];exact hlt) (k:=1) rfl (v:=vS (mT M[k])) (x:=mT M[k]) (eN trivial)
       refine⟨w5,hs5,M.length-(k+1),by omega,k+1,by omega,by rw[wrap_i64 (by omega) (by omega)];omega,rfl,?_,hB3.grown hg5 hB3.size hf⟩
       rw[Int.toNat_natCast,Mi hlt]at ho5
       exact ho5
   · have:k=M.length:=by omega
     subst this
     rw[List.take_length,List.drop_length,List.append_nil,<- hM]at ho3
     have hll:=ho3.len
     refine aw (P2 ho3 (by omega)) ?_
     rintro _ w4 ⟨a',n',c',rfl,ho4,hf4,hb4⟩
     exact⟨_,_,_,rfl,_,_,_,rfl,ho4,hf4.mono hB3.size,aa hB3 hb4 hB3.size⟩
theorem FW {A B:Bl}{a0:Option Addr}{l0 c0:Nat}{xs:List (List UInt8)}{a1:Option Addr}{l1 c1:Nat}{ys:List (List UInt8)}{w:World}(hx:Sl tS w A a0 l0 c0 xs)(hy:Sl tS w B a1 l1 c1 ys)(hl:xs.length <=9223372036854775800):
   Cf qA #[.slice a0 l0 c0,.slice a1 l1 c1] w (Ret λv w'=>v=.bool (decide (xs=ys))/\bW w w'):=by
 have hn:=hx.1
 have hm:=hy.1
 subst hn hm
 apply Dx
 refine ab.of (λh=>?_) (λh=>?_)
 · refine⟨?_,Below.refl _ _⟩
   rw[decide_eq_false]
   rintro rfl
   simp at h
 have hlen:xs.length=ys.length:=by
   have:((xs.length:Nat):Int)=((ys.length:Nat):Int):=by simpa using h
   omega
 refine⟨λm i w'=>∃k:Nat,k <=xs.length/\i=(k:Int)/\m=xs.length-k/\xs.take k=ys.take k/\bW w w',⟨_,0,by omega,rfl,rfl,rfl,Below.refl _ _⟩,?_⟩
 intro m i
 refine aJ.of ?_ _
 rintro w1 ⟨k,hk,rfl,rfl,heq,hB⟩
 refine ab.of (λh2=>?_) (λh2=>?_) <;> simp only[dTx,dFx]at h2
 · have hlt:k<xs.length:=by omega
   refine⟨⟨⟨by omega,h2⟩,hx.isSome hlt⟩,xs[k],λu hu=>?_,⟨⟨by omega,by omega⟩,hy.isSome (i:=k) (by omega)⟩,ys[k]'(by omega),λu hu=>?_,?_⟩
   · obtain⟨v,hv,hrep⟩:=(hx.below (aa hB hu hB.size)).load1 (P:=prog) (i:=(k:Int)) av rfl rfl (by simpa using hlt)
     obtain⟨rfl,_⟩:=lZ hrep
     exact hv
   · obtain⟨v,hv,hrep⟩:=(hy.below (aa hB hu hB.size)).load1 (P:=prog) (i:=(k:Int)) av rfl rfl (by simp;omega)
     obtain⟨rfl,_⟩:=lZ hrep
     exact hv
   · intro wq hwq
     have hBq:=aa hB hwq hB.size
     refine ab.of (λh3=>?_) (λh3=>?_)
     · refine⟨?_,hBq⟩
       rw[decide_eq_false]
       rintro rfl
       simp at h3
     · have h3:xs[k]=ys[k]'(by omega):=by simpa using h3
       refine⟨xs.length-(k+1),by omega,k+1,by omega,by have:=hx.2.1;have:=hx.2.2.1;rw[wrap_i64 (by omega) (by omega)];omega,rfl,?_,hBq⟩
       rw[List.take_succ_eq_append_getElem hlt,List.take_succ_eq_append_getElem (by omega),heq,h3]
 · have:k=xs.length:=by omega
   subst this
   refine⟨?_,hB⟩
   rw[List.take_length,hlen,List.take_length]at heq
   rw[decide_eq_true heq]
def pC (P:Program)(v:Value)(args:Array Value)(w:World)(R:Ending->World->Prop):Prop:=
 match(match v with
   | .func (.func f) first captured=>if uY P f then some (f,(first.toList++(args.toList++captured.toList)).toArray)else none
   | _=>none:Option (FuncId×Array Value))with
 | some (f,l)=>Calls P f l w R
 | none=>False
theorem pC.of {P:Program}{f:FuncId}{args:Array Value}{w:World}{R:Ending->World->Prop}(hc:uY P f=true)(h:Calls P f args w R):pC P (.func (.func f) #[] #[]) args w R:=by
 unfold pC
 show(match(if uY P f then some (f,_)else none:Option (FuncId×Array Value))with|some (f,l)=>Calls P f l w R|none=>False)
 rw[if_pos hc]
 simpa using h
end Go.Pk
