/- What the laws lean on: V4, UrlA, UrlB, MatA, PatP, TopP, V31, Elem, PrT, DfaP, Chg, Hep, DfaQ, DfaR, DaB, V30, SymA, SymB, SymC, Sort, Iter, M, ShelfSort, SymD, SymP, SymE, SymQ, SymF; what is used. Its conditions: none. -/
import Derived.Test.YthbkoifpgkjadaaGreatDoorKE
import Derived.Lib.LastIndexByte
import Derived.Sort.Row
import Derived.Sort.Grow
import Derived.Sort.EncStr
import Derived.RangeFuncBox
import Derived.RangeFuncLeaves
import Derived.Shelf.Abstract
import Derived.WalkKit
import Derived.OwnWalkIn
import Derived.TacticsInMore
import Derived.LoopNIn
import Derived.LoopIn
import Derived.Maps.AppendAt
import Derived.Shelf.SortM.Plain
import Derived.Shelf.SortM.SortNone
import Derived.Lib.SlicesCompact
import Derived.Lib.RowBridge
set_option linter.unusedVariables false
set_option linter.unusedSimpArgs false
set_option linter.unusedSectionVars false
set_option maxRecDepth 100000
open List (all_append append_nil getElem_mem length length_append length_cons length_nil length_take map_append map_cons map_nil mem_append mem_cons_of_mem mem_cons_self mem_singleton nil_append replicate size_toArray take_length take_succ_eq_append_getElem)
open Option (map_some)
open Go.World (drew)
variable {w:Go.World}{m i j k:Nat}{t:Go.TypeId}{o:Type}{p:Option Go.Addr}{s:List UInt8}{P:Go.Program}{A:Go.Pk.Bl}{d:Go.Value}{z:List (List UInt8×Int)}
open Go.IntKind (i64)
open Go.Proofs.Tryz
open List (length)
open Option (isSome)
namespace Go.Pk
open Go.RowKit (Below)
open Go.Proofs
theorem EC (a:Option Addr)(b c:Nat){w K}(h:nA w (.map #[] 0) λd e=>∃f g i j,(Instr.makeSlice cO (vI 1) (vI 1)).run prog e=.ok (.slice g i j) f/\nA f (.cells #[.map (some d),.slice g i j] cx) λk l=>∃m:Nat->FP [shI],(∃n,m n (0:Int) l)/\∀n o,aP 28 (∀p,m n o p->ab (decide (o<(b:Int))) ((bx o (b:Int)/\Option.isSome a=true)/\∃q r,Ld aC (aw a o 2) p (.agg #[vI q,vS r])/\nA p (.cells #[vI 0,vS []] aC) λs t=>∃u,Sv aC (vA s 0) (.agg #[vI q,vS r]) t u/\∃v x,Ld aC (vA s 0) u (.agg #[vI v,vS x])/\uS uA #[.agg #[vI v,vS x]] u λy z=>Cf pp #[vS y] z λA B=>∃C D E F,A=rT #[.agg #[vI C,vS D],.bool E,vI F]/\nA B (.cells #[vI 0,vS []] aC) λG H=>∃I,Sv aC (vA G 0) (.agg #[vI C,vS D]) H I/\∃J:FP [shB],(ab (F==0) (ab E (∃L M,Ld aC (vA G 0) I (.agg #[vI L,vS M])/\∃N O,Ld aC (vA s 0) I (.agg #[vI N,vS O])/\∃P,(do eqGuard .eql aC (.tmp 32) (.tmp 33) (.agg #[vI L,vS M]) (.agg #[vI N,vS O]);binOp .eql aC (.agg #[vI L,vS M]) (.agg #[vI N,vS O]):Sem Value).run prog I=.ok (.bool P) I/\J P I) (J false I)) (J false I))/\∀L,aP 9 (∀M,J L M->ab L (∃N O,Ld aC (vA s 0) M (.agg #[vI N,vS O])/\uU jp #[.pointer (vA k 0),.agg #[vI N,vS O]] M λP=>∃Q:Nat,Q<n/\m Q (i64.wrap (o+1)) P) (∃N:Nat,N<n/\m N (i64.wrap (o+1)) M))) (K (.pointer (vA k 0)) p))):Cf rm #[.slice a b c] w (Ret K):=ru func36 [(8,[(15,shI)]),(21,[(35,shB)])] h
theorem DW (a:lU){w K}(h:∃b:Nat->FP [shI],(∃c,b c (0:Int) w)/\∀c d,aP 29 (∀e,b c d e->ab (decide (d<((length a:Nat):Int))) (bx d ((length a:Nat):Int)/\ab (decide ((aU a d)<(33:Int))) (K (.bool false) e) (bx d ((length a:Nat):Int)/\ab (decide ((aU a d)>(126:Int))) (K (.bool false) e) (bx d ((length a:Nat):Int)/\ab ((aU a d)==63) (K (.bool false) e) (bx d ((length a:Nat):Int)/\ab ((aU a d)==35) (K (.bool false) e) (∃f:Nat,f<c/\b f (i64.wrap (d+1)) e))))) (ab (decide (((length a:Nat):Int) >=1)) (ab (decide (((length a:Nat):Int) <=2048)) (bx (0:Int) ((length a:Nat):Int)/\K (.bool ((aU a (0:Int))==47)) e) (K (.bool false) e)) (K (.bool false) e)))):Cf ic #[vS a] w (Ret K):=ru func48 [(6,[(3,shI)])] h
theorem G2 (a:lU){w K}(h:nA w (.cells #[vI 0,vS []] aC) λb c=>uS qV #[vS a] c λd e=>∃f:FP [],(∃g:FP [shB],(ab (d==[]) (g true e) (uB dW #[vS d,vS [47,47]] e λi j=>g i j))/\∀i,aP 5 (∀j,g i j->ab i (∃k,Sv aC (vA b 0) (.agg #[vI 0,vS []]) j k/\∃l m,Rv aC (vA b 0) k (.agg #[vI l,vS m])/\K (.tuple #[.agg #[vI l,vS m],.bool false,vI 0]) k) (f j)))/\aP 9 (∀g,f g->∃i:FP [.one .str],(uI fg #[vS d,vS [32,9]] g λj k=>ab (decide (j >=0)) (bd j (((length d):Nat):Int)/\∀l,l=(List.take (Int.toNat j) d)->i l k) (i d k))/\∀j,aP 8 (∀k,i j k->Cf pu #[vS j] k λl m=>∃n o,l=rT #[vI n,vS o]/\Cf jd #[vS o] m λp q=>∃r s,p=rT #[r,vI s]/\nA q (.cells bB am) λt u=>∃v,Sv am (vA t 0) r u v/\∃x:FP [],(∃y:FP [shB],(ab (s !=0) (y true v) (true/\∃z,Ld co (vA t 0) v (vI z)/\ab (z !=1) (y true v) (ab (n==3) (∃A,Ld am (vA t 0) v A/\uL cU #[A] v λB C D E=>y (decide ((C:Int)<(2:Int))) E) (y false v))))/\∀z,aP 16 (∀A,y z A->ab z (∃B,Sv aC (vA b 0) (.agg #[vI 0,vS []]) A B/\∃C D,Rv aC (vA b 0) B (.agg #[vI C,vS D])/\K (.tuple #[.agg #[vI C,vS D],.bool false,vI 51]) B) (x A)))/\aP 20 (∀y,x y->true/\∃z,Ld ai (vA t 1) y (vS z)/\∃A,Sv aC (vA b 0) (.agg #[vI n,vS z]) y A/\∃B C,Rv aC (vA b 0) A (.agg #[vI B,vS C])/\K (.tuple #[.agg #[vI B,vS C],.bool true,vI 0]) A)))):Cf pp #[vS a] w (Ret K):=ru func77 [(4,[]),(5,[(17,shB)]),(12,[(0,.one .str)]),(24,[]),(25,[(52,shB)])] h
theorem G3 (a:Int)(b:lU){w K}(h:nA w (.cells #[vI a,vS b] aC) λc d=>true/\∃e,(∀f,bW d f->Ld co (vA c 0) f (vI e))/\∃f,(∀g,bW d g->Cf px #[vI e] g λi j=>i=.returned (vS f)/\Below d.heap.size g j)/\true/\∃g,(∀i,bW d i->Ld ai (vA c 1) i (vS g))/\(((length f+length g:Nat):Int) <=i64.max)/\∀i,i=(f++g)->∀j,bW d j->K (vS i) j):Cf uA #[.agg #[vI a,vS b]] w (Ret K):=ru func83 [] h
theorem sX (a:Option Addr)(b:Int)(c:lU){w K}(h:nA w (.cells #[vI b,vS c] aC) λd e=>true/\∃f,Ld ai (vA d 1) e (vS f)/\uL ec #[vS f,.int .u8 46] e λg i j k=>∃l:Nat->FP [shI,shI],(∃m,l m (0:Int) (i64.wrap ((i:Int)-1)) k)/\∀m n o,aP 50 (∀p,l m n o p->ab (decide (o >=0)) ((bx o (i:Int)/\Option.isSome g=true)/\∃q,Ld ai (aw g o 1) p (vS q)/\nA p (.cells #[vI 0,vS []] cS) λr s=>∃t,Sv cS (vA r 0) (.agg #[vI n,vS q]) s t/\∃u:FP [],((Option.isSome a=true)/\(Option.isSome a=true)/\∃v,(∀x,bW t x->Ld cj (Option.map (λy=>y.add 0) a) x (.map v))/\∃x y,(∀z,bW t z->Ld cS (vA r 0) z (.agg #[vI x,vS y]))/\∃z A,(∀B,bW t B->(Instr.lookup cj (.map v) (.agg #[vI x,vS y]) true).run prog B=.ok (.tuple #[vI z,.bool A]) B)/\∀B,bW t B->ab (!A) ((Option.isSome a=true)/\(Option.isSome a=true)/\∃C,(∀D,bW B D->Ld cj (Option.map (λE=>E.add 0) a) D (.map C))/\∃D E,(∀F,bW B F->Ld cS (vA r 0) F (.agg #[vI D,vS E]))/\(Option.isSome a=true)/\(Option.isSome a=true)/\∃F G H,(∀I,bW B I->Ld cO (Option.map (λJ=>J.add 1) a) I (.slice F G H))/\∀I,bW B I->∃J,(Instr.mapUpdate cj (.map C) (.agg #[vI D,vS E]) (vI (G:Int))).run prog I=.ok () J/\(Option.isSome a=true)/\(Option.isSome a=true)/\∃L M N,Ld cO (Option.map (λO=>O.add 1) a) J (.slice L M N)/\nA J (.cells #[.bool false,.bool false,.bool false,.bool false] cy) λO P=>∃Q R S T,(Builtin.append_ #[cO,cO] cO #[.slice L M N,.slice (vA O 0) 1 1]).run prog P=.ok (.slice R S T) Q/\(Option.isSome a=true)/\(Option.isSome a=true)/\∃U,Sv cO (Option.map (λV=>V.add 1) a) (.slice R S T) Q U/\u U) (u B))/\aP 33 (∀v,u v->(Option.isSome a=true)/\(Option.isSome a=true)/\∃x,(∀y,bW v y->Ld cj (Option.map (λz=>z.add 0) a) y (.map x))/\∃y z,(∀A,bW v A->Ld cS (vA r 0) A (.agg #[vI y,vS z]))/\∃A,(∀B,bW v B->(Instr.lookup cj (.map x) (.agg #[vI y,vS z]) false).run prog B=.ok (vI A) B)/\∀B,bW v B->∃C:Nat,C<m/\l C A (i64.wrap (o-1)) B)) ((Option.isSome a=true)/\(Option.isSome a=true)/\∃q r s,(∀t,bW p t->Ld cO (Option.map (λu=>u.add 1) a) t (.slice q r s))/\true/\∃t,(∀u,bW p u->Ld co (vA d 0) u (vI t))/\(bx n (r:Int)/\Option.isSome q=true)/\(bx t ((4:Nat):Int)/\isSome (aw q n 4))/\∀u,bW p u->∃v,Sv iG (aw (aw q n 4) t 1) (.bool true) u v/\K (.tuple #[]) v))):Cf jp #[.pointer a,.agg #[vI b,vS c]] w (Ret K):=ru func84 [(10,[(4,shI),(6,shI)]),(21,[]),(2000028,[(10,shB)]),(2000033,[(9,shB)])] h
theorem DZ (a:lU){w K}(h:nA w (.cells #[vI 0,vS []] aC) λb c=>uS qX #[vS a] c λd e=>∃f:FP [],(∃g:FP [shB],(ab (d==[]) (g true e) (uB iJ #[vS d,vS [47,47]] e λi j=>g i j))/\∀i,aP 5 (∀j,g i j->ab i (∃k,Sv aC (vA b 0) (.agg #[vI 0,vS []]) j k/\∃l m,Rv aC (vA b 0) k (.agg #[vI l,vS m])/\K (.tuple #[.agg #[vI l,vS m],.bool false,vI 0]) k) (f j)))/\aP 9 (∀g,f g->∃i:Nat->FP [.one .str,shI],(∃j,i j d (0:Int) g)/\∀j k l,aP 19 (∀m,i j k l m->ab (decide (l<((length k:Nat):Int))) (∃n:FP [shB],(bx l ((length k:Nat):Int)/\ab ((aU k l)==32) (n true m) (bx l ((length k:Nat):Int)/\n ((aU k l)==9) m))/\∀o,aP 9 (∀p,n o p->ab o (bd l (((length k):Nat):Int)/\∀q,q=(List.take (Int.toNat l) k)->∃r:Nat,r<j/\i r q (i64.wrap (l+1)) p) (∃q:Nat,q<j/\i q k (i64.wrap (l+1)) p))) (nA m (.cells #[vI 0,vS []] aC) λn o=>∃p,Sv aC (vA n 0) (.agg #[vI 1,vS []]) o p/\∃q:FP [.one .str],(uB iJ #[vS k,vS [33]] p λr s=>ab r (true/\∃t,Sv co (vA n 0) (vI 3) s t/\bd (1:Int) (((length k):Nat):Int)/\∀u,u=(List.drop (Int.toNat 1) k)->q u t) (uB iJ #[vS k,vS [42,46]] s λt u=>ab t (true/\∃v,Sv co (vA n 0) (vI 2) u v/\bd (2:Int) (((length k):Nat):Int)/\∀x,x=(List.drop (Int.toNat 2) k)->q x v) (q k u)))/\∀r,aP 10 (∀s,q r s->Cf iw #[vS r] s λt u=>∃v x,t=rT #[v,vI x]/\nA u (.cells bB am) λy z=>∃A,Sv am (vA y 0) v z A/\∃B:FP [],(∃C:FP [shB],(ab (x !=0) (C true A) (true/\∃D,Ld co (vA y 0) A (vI D)/\ab (D !=1) (C true A) (true/\∃E,Ld co (vA n 0) A (vI E)/\ab (E==3) (∃F,Ld am (vA y 0) A F/\uL gK #[F] A λG H I J=>C (decide ((H:Int)<(2:Int))) J) (C false A))))/\∀D,aP 17 (∀E,C D E->ab D (∃F,Sv aC (vA b 0) (.agg #[vI 0,vS []]) E F/\∃G H,Rv aC (vA b 0) F (.agg #[vI G,vS H])/\K (.tuple #[.agg #[vI G,vS H],.bool false,vI 51]) F) (B E)))/\aP 21 (∀C,B C->true/\∃D,Ld ai (vA y 1) C (vS D)/\true/\∃E,Sv ai (vA n 1) (vS D) C E/\∃F G,Ld aC (vA n 0) E (.agg #[vI F,vS G])/\∃H,Sv aC (vA b 0) (.agg #[vI F,vS G]) E H/\∃I J,Rv aC (vA b 0) H (.agg #[vI I,vS J])/\K (.tuple #[.agg #[vI I,vS J],.bool true,vI 0]) H)))))):Cf ra #[vS a] w (Ret K):=ru func89 [(4,[]),(5,[(16,shB)]),(16,[(0,.one .str),(5,shI)]),(25,[(33,shB)]),(33,[(0,.one .str)]),(49,[]),(50,[(70,shB)])] h
theorem Ji (a:lU){w K}(h:∃b:FP [],(ab (a==[]) (K (.bool false) w) (ab (decide (((length a:Nat):Int)>(2048:Int))) (K (.bool false) w) (bx (0:Int) ((length a:Nat):Int)/\ab ((aU a (0:Int)) !=47) (K (.bool false) w) (b w))))/\aP 13 (∀c,b c->∃d e f g,(convert ai aQ (vS a)).run prog c=.ok (.slice e f g) d/\∃i:Nat->FP [shI],(∃j,i j (0:Int) d)/\∀j k,aP 20 (∀l,i j k l->ab (decide (k<(f:Int))) ((bx k (f:Int)/\Option.isSome e=true)/\∃m,Ld bc (aw e k 1) l (.int .u8 m)/\ab (decide (m<(33:Int))) (K (.bool false) l) (ab (decide (m>(126:Int))) (K (.bool false) l) (ab (m==63) (K (.bool false) l) (ab (m==35) (K (.bool false) l) (∃n:Nat,n<j/\i n (i64.wrap (k+1)) l))))) (K (.bool true) l)))):Cf nK #[vS a] w (Ret K):=ru func97 [(2,[]),(14,[(20,shI)])] h
theorem Cw (a:lU){w K}(h:∃b:Nat->FP [shI],(∃c,b c (0:Int) w)/\∀c d,aP 18 (∀e,b c d e->ab (decide (d<(2:Int))) (∃f,(Instr.index Mk (.agg #[vI 2,vI 3]) (vI d)).run prog e=.ok (vI f) e/\uS px #[vI f] e λg i=>Cf eR #[vS a,vS g] i λj k=>∃l m,j=rT #[vS l,.bool m]/\ab m (K (.tuple #[vI f,vS l]) k) (∃n:Nat,n<c/\b n (i64.wrap (d+1)) k)) (K (.tuple #[vI 1,vS a]) e))):Cf pu #[vS a] w (Ret K):=ru func154 [(6,[(9,shI)])] h
def zc (a:Int)(b:World)(c:VP):Prop:=ab (a==2) (c (vS [42,46]) b) (ab (a==3) (c (vS [33]) b) (c (vS []) b))
theorem G4 (a:Int){w K}(h:zc a w K):Cf px #[vI a] w (Ret K):=ru func160 [] h
theorem zG (a b:lU){w K}(h:ab (decide (((length a:Nat):Int) >=((length b:Nat):Int))) (bd ((length b:Nat):Int) (((length a):Nat):Int)/\∀c,c=(List.take (Int.toNat ((length b:Nat):Int)) a)->K (.bool (c==b)) w) (K (.bool false) w)):Cf iJ #[vS a,vS b] w (Ret K):=ru func164 [] h
theorem Cr (a:lU){w K}(h:nA w (.cells eQ aM) λb c=>nA c (.cells eQ aM) λd e=>∃f,Sv aM (vA d 0) (.agg #[.bool false,vI 0,vS [],u0,u0,u0,u0,u0,u0,u0,u0,u0,u0,u0,u0,u0,u0,u0,u0,vI 80,vS []]) e f/\∃g:FP [.one .str],(∃i:FP [shB],(ab (decide (((length a:Nat):Int) >=7)) (bd (7:Int) (((length a):Nat):Int)/\∀j,j=(List.take (Int.toNat 7) a)->uS jo #[vS j] f λk l=>i (k==[104,116,116,112,58,47,47]) l) (i false f))/\∀j,aP 8 (∀k,i j k->ab j (bd (7:Int) (((length a):Nat):Int)/\∀l,l=(List.drop (Int.toNat 7) a)->g l k) (∃l:FP [shB],(ab (decide (((length a:Nat):Int) >=8)) (bd (8:Int) (((length a):Nat):Int)/\∀m,m=(List.take (Int.toNat 8) a)->uS jo #[vS m] k λn o=>l (n==[104,116,116,112,115,58,47,47]) o) (l false k))/\∀m,aP 8 (∀n,l m n->ab m (bd (8:Int) (((length a):Nat):Int)/\∀o,o=(List.drop (Int.toNat 8) a)->true/\∃p,Sv iG (vA d 0) (.bool true) n p/\true/\∃q,Sv co (vA d 19) (vI 443) p q/\g o q) (∃o,Sv aM (vA b 0) (.agg eQ) n o/\∃p,Rv aM (vA b 0) o p/\K (.tuple #[p,vI 41]) o)))))/\∀i,aP 26 (∀j,g i j->uI fX #[vS i,vS [47,63,35]] j λk l=>bd k (((length i):Nat):Int)/\∀m,m=(List.take (Int.toNat k) i)->uI fX #[vS m,vS [58]] l λn o=>∃p:FP [shI],(∃q:FP [shB],(ab (decide (((length m:Nat):Int)>(0:Int))) (bx (0:Int) ((length m:Nat):Int)/\q ((aU m (0:Int))==91) o) (q false o))/\∀r,aP 7 (∀s,q r s->ab r (uI fX #[vS m,vS [93]] s λt u=>∃v,(Builtin.min_ #[co,co] co #[vI (i64.wrap (t+1)),vI ((length m:Nat):Int)]).run prog u=.ok (vI v) u/\p v u) (p n s)))/\∀q,aP 14 (∀r,p q r->bd q (((length m):Nat):Int)/\∀s,s=(List.take (Int.toNat q) m)->Cf iw #[vS s] r λt u=>∃v x,t=rT #[v,vI x]/\nA u (.cells bB am) λy z=>∃A,Sv am (vA y 0) v z A/\bd q (((length m):Nat):Int)/\∀B,B=(List.drop (Int.toNat q) m)->∃C:FP [],(∃D:FP [shB],(ab (x !=0) (D true A) (ab (decide (((length B:Nat):Int)>(0:Int))) (bx (0:Int) ((length B:Nat):Int)/\D ((aU B (0:Int)) !=58) A) (D false A)))/\∀E,aP 11 (∀F,D E F->ab E (∃G,Sv aM (vA b 0) (.agg eQ) F G/\∃H,Rv aM (vA b 0) G H/\K (.tuple #[H,vI 31]) G) (C F)))/\aP 14 (∀D,C D->∃E,Ld am (vA y 0) D E/\true/\∃F,Sv am (vA d 1) E D F/\∃G:FP [],(ab (decide (((length B:Nat):Int)>(0:Int))) (bd (1:Int) (((length B):Nat):Int)/\∀H,H=(List.drop (Int.toNat 1) B)->Cf ka #[vS H] F λI J=>∃L M,I=rT #[vI L,.bool M]/\∃N:FP [shB],(ab (!M) (N true J) (ab (decide (L<(1:Int))) (N true J) (N (decide (L>(65535:Int))) J)))/\∀O,aP 9 (∀P,N O P->ab O (∃Q,Sv aM (vA b 0) (.agg eQ) P Q/\∃R,Rv aM (vA b 0) Q R/\K (.tuple #[R,vI 42]) Q) (true/\∃Q,Sv co (vA d 19) (vI L) P Q/\G Q))) (G F))/\aP 25 (∀H,G H->bd k (((length i):Nat):Int)/\∀I,I=(List.drop (Int.toNat k) i)->true/\∃J,Sv ai (vA d 20) (vS I) H J/\true/\true/\(∃L,Ld ai (vA d 20) (drew J) (vS L)/\∃M,Ld ai (vA d 20) (drew J) (vS M)/\uI fX #[vS M,vS [63,35]] (drew J) λN O=>bd N (((length L):Nat):Int)/\∀P,P=(List.take (Int.toNat N) L)->true/\∃Q,Sv ai (vA d 20) (vS P) O Q/\∃R:FP [],(true/\∃S,Ld ai (vA d 20) Q (vS S)/\ab (S==[]) (true/\∃T,Sv ai (vA d 20) (vS [47]) Q T/\R T) (R Q))/\aP 4 (∀S,R S->true/\∃T,Ld ai (vA d 20) S (vS T)/\uB ic #[vS T] S λU V=>ab (!U) (∃X,Sv aM (vA b 0) (.agg eQ) V X/\∃Y,Rv aM (vA b 0) X Y/\K (.tuple #[Y,vI 43]) X) (∃X,Ld aM (vA d 0) V X/\∃Y,Sv aM (vA b 0) X V Y/\∃Z,Rv aM (vA b 0) Y Z/\K (.tuple #[Z,vI 0]) Y)))/\∃L,Ld ai (vA d 20) (drew J) (vS L)/\(∃M,Ld ai (vA d 20) (drew J) (vS M)/\uI fX #[vS L,vS [63,35]] (drew J) λN O=>bd N (((length M):Nat):Int)/\∀P,P=(List.take (Int.toNat N) M)->true/\∃Q,Sv ai (vA d 20) (vS P) O Q/\∃R:FP [],(true/\∃S,Ld ai (vA d 20) Q (vS S)/\ab (S==[]) (true/\∃T,Sv ai (vA d 20) (vS [47]) Q T/\R T) (R Q))/\aP 4 (∀S,R S->true/\∃T,Ld ai (vA d 20) S (vS T)/\uB ic #[vS T] S λU V=>ab (!U) (∃X,Sv aM (vA b 0) (.agg eQ) V X/\∃Y,Rv aM (vA b 0) X Y/\K (.tuple #[Y,vI 43]) X) (∃X,Ld aM (vA d 0) V X/\∃Y,Sv aM (vA b 0) X V Y/\∃Z,Rv aM (vA b 0) Y Z/\K (.tuple #[Z,vI 0]) Y)))/\uI fX #[vS L,vS [63,35]] (drew J) λM N=>∃O,Ld ai (vA d 20) N (vS O)/\bd M (((length O):Nat):Int)/\∀P,P=(List.take (Int.toNat M) O)->true/\∃Q,Sv ai (vA d 20) (vS P) N Q/\∃R:FP [],(true/\∃S,Ld ai (vA d 20) Q (vS S)/\ab (S==[]) (true/\∃T,Sv ai (vA d 20) (vS [47]) Q T/\R T) (R Q))/\aP 4 (∀S,R S->true/\∃T,Ld ai (vA d 20) S (vS T)/\uB ic #[vS T] S λU V=>ab (!U) (∃X,Sv aM (vA b 0) (.agg eQ) V X/\∃Y,Rv aM (vA b 0) X Y/\K (.tuple #[Y,vI 43]) X) (∃X,Ld aM (vA d 0) V X/\∃Y,Sv aM (vA b 0) X V Y/\∃Z,Rv aM (vA b 0) Y Z/\K (.tuple #[Z,vI 0]) Y))))))):Cf pk #[vS a] w (Ret K):=ru func168 [(6,[(5,.one .str)]),(7,[(23,shB)]),(11,[(34,shB)]),(28,[(8,shI)]),(29,[(54,shB)]),(38,[]),(39,[(82,shB)]),(48,[]),(55,[(104,shB)]),(68,[]),(68,[]),(68,[])] h
theorem G6 (a:lU){w K}(h:nA w (.cells eQ aM) λb c=>Cf py #[vS a,vS [104,116,116,112,115,58,47,47]] c λd e=>∃f g,d=rT #[vS f,.bool g]/\∃i:FP [.one .str],(ab (!g) (Cf py #[vS a,vS [104,116,116,112,58,47,47]] e λj k=>∃l m,j=rT #[vS l,.bool m]/\ab (!m) (∃n,Sv aM (vA b 0) (.agg eQ) k n/\∃o,Rv aM (vA b 0) n o/\K (.tuple #[o,vI 41]) n) (i l k)) (i f e))/\∀j,aP 12 (∀k,i j k->uI fg #[vS j,vS [47,63,35]] k λl m=>∃n:FP [shI],(ab (decide (l<(0:Int))) (n ((length j:Nat):Int) m) (n l m))/\∀o,aP 4 (∀p,n o p->Cf uG #[.bool g] p λq r=>∃s t,q=rT #[vS s,vI t]/\bd o (((length j):Nat):Int)/\∀u,u=(List.take (Int.toNat o) j)->Cf uF #[vS u,vI t] r λv x=>∃y z A,v=rT #[y,vI z,vI A]/\nA x (.cells bB am) λB C=>∃D,Sv am (vA B 0) y C D/\ab (A !=0) (∃E,Sv aM (vA b 0) (.agg eQ) D E/\∃F,Rv aM (vA b 0) E F/\K (.tuple #[F,vI A]) E) (bd o (((length j):Nat):Int)/\∀E,E=(List.drop (Int.toNat o) j)->∃F:FP [.one .str],(uI fg #[vS E,vS [63,35]] D λG H=>ab (decide (G >=0)) (bd G (((length E):Nat):Int)/\∀I,I=(List.take (Int.toNat G) E)->F I H) (F E H))/\∀G,aP 8 (∀H,F G H->∃I:FP [.one .str],(ab (G==[]) (I [47] H) (I G H))/\∀J,aP 2 (∀L,I J L->uB nK #[vS J] L λM N=>ab (!M) (∃O,Sv aM (vA b 0) (.agg eQ) N O/\∃P,Rv aM (vA b 0) O P/\K (.tuple #[P,vI 43]) O) (∃O,Ld am (vA B 0) N O/\∃P,(Instr.build aM #[(0,.bool g),(1,O),(2,vI z),(3,vS J)]).run prog N=.ok P N/\∃Q,Sv aM (vA b 0) P N Q/\∃R,Rv aM (vA b 0) Q R/\K (.tuple #[R,vI 0]) Q))))))):Cf uD #[vS a] w (Ret K):=ru func251 [(4,[(4,.one .str)]),(22,[(7,shI)]),(42,[(13,.one .str)]),(50,[(13,.one .str)])] h
theorem DX (a b:lU){w K}(h:∃c:Nat->FP [shI],(∃d,c d (0:Int) w)/\∀d e,aP 22 (∀f,c d e f->ab (decide (e<((length a:Nat):Int))) (∃g:Nat->FP [shI],(∃i,g i (0:Int) f)/\∀i j,aP 15 (∀k,g i j k->ab (decide (j<((length b:Nat):Int))) (bx e ((length a:Nat):Int)/\bx j ((length b:Nat):Int)/\∀l,bW k l->ab ((aU a e)==(aU b j)) (K (vI e) l) (∃m:Nat,m<i/\g m (i64.wrap (j+1)) l)) (∃l:Nat,l<d/\c l (i64.wrap (e+1)) k))) (K (vI ((length a:Nat):Int)) f))):Cf fX #[vS a,vS b] w (Ret K):=ru func256 [(6,[(5,shI)]),(18,[(6,shI)])] h
theorem G7 (a b:lU){w K}(h:∃c:FP [],(ab (decide (((length a:Nat):Int)<((length b:Nat):Int))) (K (.tuple #[vS a,.bool false]) w) (bd ((length b:Nat):Int) (((length a):Nat):Int)/\∀d,d=(List.take (Int.toNat ((length b:Nat):Int)) a)->uB qU #[vS d,vS b] w λe f=>ab (!e) (K (.tuple #[vS a,.bool false]) f) (c f)))/\aP 17 (∀d,c d->bd ((length b:Nat):Int) (((length a):Nat):Int)/\∀e,e=(List.drop (Int.toNat ((length b:Nat):Int)) a)->K (.tuple #[vS e,.bool true]) d)):Cf py #[vS a,vS b] w (Ret K):=ru func312 [(2,[])] h
theorem Ha (a:Bool){w K}(h:ab a (K (.tuple #[vS [104,116,116,112,115,58,47,47],vI 443]) w) (K (.tuple #[vS [104,116,116,112,58,47,47],vI 80]) w)):Cf uG #[.bool a] w (Ret K):=ru func313 [] h
theorem G9 (a:lU)(b:Int){w K}(h:nA w (.cells bB am) λc d=>Cf uE #[vS a] d λe f=>∃g i,e=rT #[vS g,vS i]/\Cf jd #[vS g] f λj k=>∃l m,j=rT #[l,vI m]/\nA k (.cells bB am) λn o=>∃p,Sv am (vA n 0) l o p/\∃q:FP [],(∃r:FP [shB],(ab (m !=0) (r true p) (ab (!(i==[])) (bx (0:Int) ((length i:Nat):Int)/\r ((aU i (0:Int)) !=58) p) (r false p)))/\∀s,aP 10 (∀t,r s t->ab s (∃u,Sv am (vA c 0) (.agg bB) t u/\∃v,Rv am (vA c 0) u v/\K (.tuple #[v,vI 0,vI 31]) u) (q t)))/\aP 14 (∀r,q r->ab (i==[]) (∃s,Ld am (vA n 0) r s/\∃t,Sv am (vA c 0) s r t/\∃u,Rv am (vA c 0) t u/\K (.tuple #[u,vI b,vI 0]) t) (bd (1:Int) (((length i):Nat):Int)/\∀s,s=(List.drop (Int.toNat 1) i)->Cf j8 #[vS s] r λt u=>∃v x,t=rT #[vI v,.bool x]/\∃y:FP [],(∃z:FP [shB],(ab (!x) (z true u) (ab (decide (v<(1:Int))) (z true u) (z (decide (v>(65535:Int))) u)))/\∀A,aP 9 (∀B,z A B->ab A (∃C,Sv am (vA c 0) (.agg bB) B C/\∃D,Rv am (vA c 0) C D/\K (.tuple #[D,vI 0,vI 42]) C) (y B)))/\aP 13 (∀z,y z->∃A,Ld am (vA n 0) z A/\∃B,Sv am (vA c 0) A z B/\∃C,Rv am (vA c 0) B C/\K (.tuple #[C,vI v,vI 0]) B)))):Cf uF #[vS a,vI b] w (Ret K):=ru func314 [(6,[]),(7,[(33,shB)]),(24,[]),(25,[(54,shB)])] h
theorem G8 (a:lU){w K}(h:uB dW #[vS a,vS [91]] w λb c=>ab b (uI eS #[vS a,.int .u8 93] c λd e=>ab (decide (d >=0)) (bd (i64.wrap (d+1)) (((length a):Nat):Int)/\∀f,f=(List.take (Int.toNat (i64.wrap (d+1))) a)->bd (i64.wrap (d+1)) (((length a):Nat):Int)/\∀g,g=(List.drop (Int.toNat (i64.wrap (d+1))) a)->∀i,bW e i->K (.tuple #[vS f,vS g]) i) (K (.tuple #[vS a,vS []]) e)) (uI eS #[vS a,.int .u8 58] c λd e=>ab (decide (d >=0)) (bd d (((length a):Nat):Int)/\∀f,f=(List.take (Int.toNat d) a)->bd d (((length a):Nat):Int)/\∀g,g=(List.drop (Int.toNat d) a)->∀i,bW e i->K (.tuple #[vS f,vS g]) i) (K (.tuple #[vS a,vS []]) e))):Cf uE #[vS a] w (Ret K):=ru func343 [] h
def uO (c:UInt8):Bool:= !(decide (((c.toNat:Nat):Int)<33) || (decide (((c.toNat:Nat):Int)>126) || (c==63 || c==35)))
def mN (s:lU):Bool:=decide (s.head?=some 47)&&(decide (s.length <=2048)&&s.all uO)
structure Url where
 sec:Bool
 host:Hst
 port:Int
 path:lU
def Url.cells (u:Url):List Value:=.bool u.sec::(u.host.cells++[vI u.port,vS u.path])
def Url.v (u:Url):Value:=.agg u.cells.toArray
def nh:Url:=⟨false,jZ,0,[]⟩
def Url.ok (u:Url):Prop:=u.host.ok
theorem Url.len {u:Url}(o:u.ok):u.cells.length=21:=by unfold Url.cells;rw[length_cons,length_append,Hst.len o];rfl
theorem Url.one (u:Url):zR u.cells:=bz rfl (Gw (Hst.one _) (bz rfl (bz rfl ja)))
theorem Hl {u:Url}(o:u.ok)(h:j<18):u.cells[1+j]? =u.host.cells[j]? :=by
 unfold Url.cells;rw[Nat.add_comm,List.getElem?_cons_succ,List.getElem?_append_left (by rw[Hst.len o];exact h)]
theorem sU {u:Url}(o:u.ok):u.cells[20]? =some (vS u.path):=by
 unfold Url.cells;rw[List.getElem?_cons_succ,List.getElem?_append_right (by rw[Hst.len o];decide),Hst.len o];rfl
theorem SU (u:Url)(b:Bool):u.cells.set 0 (.bool b)=({ u with sec:=b } :Url).cells:=rfl
theorem JB {u:Url}(o:u.ok)(n:Int):u.cells.set 19 (vI n)=({ u with port:=n } :Url).cells:=by
 unfold Url.cells;rw[List.set_cons_succ,List.set_append_right _ _ (by rw[Hst.len o];exact Nat.le_refl _),Hst.len o];rfl
theorem CU {u:Url}(o:u.ok)(p:lU):u.cells.set 20 (vS p)=({ u with path:=p } :Url).cells:=by
 unfold Url.cells;rw[List.set_cons_succ,List.set_append_right _ _ (by rw[Hst.len o];decide),Hst.len o];rfl
theorem SV {u:Url}(o:u.ok)(h:Hst):u.cells.take 1++h.cells++u.cells.drop (1+18)=({ u with host:=h } :Url).cells:=by
 unfold Url.cells;rw[show 1+18=18+1 from rfl,List.drop_succ_cons,List.drop_append_of_le_length (by rw[Hst.len o];exact Nat.le_refl _),List.drop_of_length_le (by rw[Hst.len o];exact Nat.le_refl _)];rfl
def dt (p s:lU):Nat:=(s.takeWhile λc=> !p.contains c).length
theorem kf (p s:lU):dt p s <=s.length:=yQ _ _
def QL (s:lU):Option (lU×Bool):=
 if eF (s.take 7)=[104,116,116,112,58,47,47]then some (s.drop 7,false)else if eF (s.take 8)=[104,116,116,112,115,58,47,47]then some (s.drop 8,true)else none
def el (p:lU):Nat:=if p.head?=some 91 then min (dt [93] p+1) p.length else dt [58] p
theorem PR (p:lU):el p <=p.length:=by
 unfold el;split
 ·omega
 ·exact kf _ _
def qk (p:lU):Option Hst:=if p.drop (el p)≠[]/\(p.drop (el p)).head?≠some 58 then none else bY (p.take (el p))
def zr (sec:Bool)(b:lU):Option Int:=if b=[]then some (if sec then 443 else 80)else if Ae (b.drop 1)/\1 <=mJ (b.drop 1)/\mJ (b.drop 1) <=65535 then some (mJ (b.drop 1))else none
def qo (r:lU):lU:=if r.take (dt [63,35] r)=[]then[47]else r.take (dt [63,35] r)
def NB (r:lU)(sec:Bool):Url×Int:=
 match qk (r.take (dt [47,63,35] r))with
 |none=>(nh,31)
 |some h=>match zr sec ((r.take (dt [47,63,35] r)).drop (el (r.take (dt [47,63,35] r))))with
  |none=>(nh,42)
  |some n=>if mN (qo (r.drop (dt [47,63,35] r)))=true then(⟨sec,h,n,qo (r.drop (dt [47,63,35] r))⟩,0)else(nh,43)
def vi (s:lU):Url×Int:=match QL s with
 |none=>(nh,41)
 |some (r,b)=>NB r b
theorem Ls {p:lU}{h:Hst}(e:qk p=some h):h.ok:=by
 unfold qk at e;split at e
 ·cases e
 ·exact iX e
theorem VT (r:lU)(b:Bool):(NB r b).1.ok:=by
 unfold NB;split
 ·rfl
 ·rename_i h y;split
  ·rfl
  ·split
   ·exact Ls y
   ·rfl
theorem QO (s:lU):(vi s).1.ok:=by
 unfold vi;split
 ·rfl
 ·exact VT _ _
theorem LP (y:k<s.length)(h:uO s[k]=false):mN s=false:=by
 have:s.all uO=false:=by
  rw[Bool.eq_false_iff];intro D;rw[List.all_eq_true.1 D _ (getElem_mem y)]at h;cases h
 unfold mN;rw[this,Bool.and_false,Bool.and_false]
theorem E3 (c:UInt8)(D:Prop)(H:D){I N:Prop}(O:uO c=true->I)(F:uO c=false->N):
 ab (decide (((c.toNat:Nat):Int)<33)) N (D/\ab (decide (((c.toNat:Nat):Int)>126)) N (D/\ab (((c.toNat:Nat):Int)==63) N (D/\ab (((c.toNat:Nat):Int)==35) N I))):=by
 have M:=om c 63;have J:=om c 35;rw[show(((63:UInt8).toNat:Nat):Int)=63 from rfl]at M;rw[show(((35:UInt8).toNat:Nat):Int)=35 from rfl]at J;rw[M,J];refine ab.of (λh=>F ?_) (λh=>⟨H,ab.of (λy=>F ?_) (λy=>⟨H,ab.of (λE=>F ?_) (λE=>⟨H,ab.of (λG=>F ?_) (λG=>O ?_)⟩)⟩)⟩)
 ·unfold uO;rw[h];rfl
 ·unfold uO;rw[h,y];rfl
 ·unfold uO;rw[h,y,E];rfl
 ·unfold uO;rw[h,y,E,G];rfl
 ·unfold uO;rw[h,y,E,G];rfl
theorem Kp (c:UInt8){y N:Prop}(E:uO c=true->y)(D:uO c=false->N):
 ab (decide (((c.toNat:Nat):Int)<33)) N (ab (decide (((c.toNat:Nat):Int)>126)) N (ab (((c.toNat:Nat):Int)==63) N (ab (((c.toNat:Nat):Int)==35) N y))):=by
 have:=E3 c True trivial E D;simpa only[true_and]using this
theorem sw:Whl prog aM 21:=⟨⟨_,_,Ni⟩,by kernel_rfl⟩
theorem vk (s:lU)(w:World):Cf nK #[vS s] w (Ret λv w'=>v=.bool (mN s)/\bW w w'):=by
 apply Ji;refine jE (w:=w) (s.head?=some 47/\s.length <=2048) ?_ ?_
 ·refine ab.of (λh=>⟨?_,Below.refl _ _⟩) (λh=>?_)
  ·have:s=[]:=by simpa using h
   subst this;rfl
  have Z:s≠[]:=by simpa using h
  have D:0<s.length:=List.length_pos_iff.2 Z;have y:s.head?=some s[0]:=by rw[List.head?_eq_getElem?,List.getElem?_eq_getElem D]
  refine ab.of (λh=>⟨?_,Below.refl _ _⟩) (λY=>⟨⟨by decide,by omega⟩,?_⟩)
  ·unfold mN;rw[decide_eq_false (p:=s.length <=2048) (by simp at h;omega),Bool.false_and,Bool.and_false]
  have J:=byte_at (s:=s) (k:=0) D;rw[show((0:Nat):Int)=0 from rfl]at J;have O:=om s[0] 47;rw[show(((47:UInt8).toNat:Nat):Int)=47 from rfl]at O;simp only[bne,J,O];refine ab.of (λF=>⟨?_,Below.refl _ _⟩) (λF=>⟨trivial,?_,by simp at Y;omega⟩)
  ·unfold mN;rw[y,decide_eq_false (p:=some s[0]=some 47) (by simpa using F),Bool.false_and]
  ·rw[y];simpa using F
 ·rintro⟨y,D⟩;have hp:mN s=s.all uO:=by unfold mN;rw[decide_eq_true y,decide_eq_true D,Bool.true_and,Bool.true_and]
  obtain⟨V,a,n,c,ac,I,M,af⟩:=oI (P:=prog) aI bH cr w s (by omega) NoB;have aa:=I.len;subst aa;refine⟨V,a,_,c,ac,?_⟩;refine⟨λm i w'=>∃k:Nat,k <=s.length/\i=(k:Int)/\m=s.length-k/\(s.take k).all uO=true/\w'=V,⟨_,0,by omega,rfl,rfl,rfl,rfl⟩,?_⟩;intro m i;refine aP.of ?_ _;rintro w' ⟨k,ag,rfl,rfl,H,U⟩;rw[U];clear U;refine ab.of (λh=>?_) (λh=>?_)<;>simp only[dTx,dFx]at h
  ·have E:k<s.length:=by omega
   obtain⟨v,R,ad⟩:=I.all.load1 (i:=(k:Int)) cr rfl rfl (by simpa using E);have:=CP ad;subst this;simp only[Int.toNat_natCast]at R;refine⟨⟨⟨by omega,h⟩,I.all.isSome E⟩,_,R,Kp _ (λG=>?_) (λG=>⟨by rw[LP E G],M⟩)⟩;exact⟨s.length-(k+1),by omega,k+1,by omega,by rw[wrJ];omega,rfl,by rw[take_succ_eq_append_getElem E,all_append,H];simp[G],rfl⟩
  ·have:k=s.length:=by omega
   subst this;rw[take_length]at H;exact⟨by rw[hp,H],M⟩
theorem pH (s:lU)(U:s.length <=9223372036854775800)(w:World):Cf ic #[vS s] w (Ret λv w'=>v=.bool (mN s)/\w'=w):=by
 apply DW;refine⟨λm i w'=>∃k:Nat,k <=s.length/\i=(k:Int)/\m=s.length-k/\(s.take k).all uO=true/\w'=w,⟨_,0,by omega,rfl,rfl,rfl,rfl⟩,?_⟩;intro m i;refine aP.of ?_ _;rintro w' ⟨k,R,rfl,rfl,E,O⟩;rw[O];clear O;refine ab.of (λh=>?_) (λh=>?_)<;>simp only[dTx,dFx]at h
 ·have D:k<s.length:=by omega
  rw[byte_at D];have I:(0 <=(k:Int)/\(k:Int)<((s.length:Nat):Int)):=⟨by omega,h⟩
  refine⟨I,E3 _ _ I (λy=>?_) (λy=>⟨by rw[LP D y],rfl⟩)⟩;exact⟨s.length-(k+1),by omega,k+1,by omega,by rw[wrJ];omega,rfl,by rw[take_succ_eq_append_getElem D,all_append,E];simp[y],rfl⟩
 ·have:k=s.length:=by omega
  subst this;rw[take_length]at E;unfold mN;rw[E,Bool.and_true];refine ab.of (λF=>?_) (λF=>⟨?_,rfl⟩)<;>simp only[ge_iff_le,dTx,dFx]at F
  ·refine ab.of (λG=>?_) (λG=>⟨?_,rfl⟩)<;>simp only[dTx,dFx]at G
   ·have J:0<s.length:=by omega
    have H:=byte_at (s:=s) (k:=0) J;rw[show((0:Nat):Int)=0 from rfl]at H;have M:=om s[0] 47;rw[show(((47:UInt8).toNat:Nat):Int)=47 from rfl]at M;refine⟨⟨by decide,by omega⟩,?_,rfl⟩;rw[H,M,decide_eq_true (p:=s.length <=2048) (by omega),Bool.and_true,List.head?_eq_getElem?,List.getElem?_eq_getElem J];congr 1;rw[Bool.eq_iff_iff];simp
   ·rw[decide_eq_false (p:=s.length <=2048) (by omega),Bool.and_false]
  ·have:s=[]:=List.length_eq_zero_iff.1 (by omega);subst this;rfl
theorem lL (s p:lU)(ac:s.length <=9223372036854775800)(hp:p.length <=9223372036854775800)(w:World):Cf fX #[vS s,vS p] w (Ret λv w'=>v=vI ((dt p s:Nat):Int)/\bW w w'):=by
 apply DX;refine⟨λm i w'=>∃k:Nat,k <=s.length/\i=(k:Int)/\m=s.length-k/\k <=dt p s/\bW w w',⟨_,0,by omega,rfl,rfl,Nat.zero_le _,Below.refl _ _⟩,?_⟩;intro m i;refine aP.of ?_ _;rintro ag ⟨k,J,rfl,Z,O,I⟩;refine ab.of (λh=>?_) (λh=>?_)<;>simp only[dTx,dFx]at h
 ·have M:k<s.length:=by omega
  have R:=nf (λc=> !p.contains c) s k M O;refine⟨λm i w'=>∃j:Nat,j <=p.length/\i=(j:Int)/\m=p.length-j/\(p.take j).contains s[k]=false/\bW w w',⟨_,0,by omega,rfl,rfl,rfl,I⟩,?_⟩;intro af ad;refine aP.of ?_ _;rintro aj ⟨j,Y,rfl,aa,D,F⟩;refine ab.of (λE=>?_) (λE=>?_)<;>simp only[dTx,dFx]at E
  ·have G:j<p.length:=by omega
   rw[byte_at M,byte_at G,om];refine⟨⟨by omega,h⟩,⟨by omega,E⟩,λan V=>?_⟩;have H:=ae F V F.size;refine ab.of (λy=>⟨?_,H⟩) (λy=>?_)
   ·have U:p.contains s[k]=true:=by rw[List.contains_iff_mem,eq_of_beq y];exact getElem_mem G
    have: ¬ k<(s.takeWhile λc=> !p.contains c).length:=λJ=>by have:=R.2 J;rw[U]at this;cases this
    have e:dt p s=k:=by unfold dt at O ⊢;omega
    rw[e]
   ·refine⟨p.length-(j+1),by omega,j+1,by omega,by rw[wrJ];omega,rfl,?_,H⟩;rw[take_succ_eq_append_getElem G];simp only[List.contains_eq_mem,dFx,mem_append,mem_singleton]at D ⊢;rintro(hx|hx)
    ·exact D hx
    ·rw[hx]at y;simp at y
  ·have:j=p.length:=by omega
   subst this;rw[take_length]at D;have:k<dt p s:=R.1 (by rw[D];rfl);exact⟨s.length-(k+1),by omega,k+1,by omega,by rw[wrJ];omega,rfl,by omega,F⟩
 ·have:=kf p s;have e:dt p s=s.length:=by omega
  exact⟨by rw[e],I⟩
structure StU (w0:World)(t:TypeId)(k2 k4:Nat)(u:Url)(w:World):Prop where
 h4:aB w k4 t u.cells
 h2:aB w k2 t nh.cells
 hb:bW w0 w
 hne:k2≠k4
 hk4:w0.heap.size <=k4
 hk2:w0.heap.size <=k2
 ho:u.ok
theorem StU.below {w0:World}{u:Url}{w w':World}(S:StU w0 t m i u w)(y:bW w w'):StU w0 t m i u w':=
 ⟨S.h4.below y,S.h2.below y,ae S.hb y S.hb.size,S.hne,S.hk4,S.hk2,S.ho⟩
theorem StU.put {x:TypeId}{bytes:Nat}{z:Value}(M:TF P x 1 bytes z){w0:World}{F y:Nat}{u D:Url}(S:StU w0 t F y u w)
 {v:Value} (I:i<21) (h1:v.oneCell'=true) (H:v.cells= #[v]) (e:u.cells.set i v=D.cells) (o:D.ok):
 ∃wx,(Instr.storeAt x (.pointer (some ⟨y,i,none⟩)) v).run P w=.ok () wx/\StU w0 t F y D wx:=by
 obtain⟨wx,J,G,E⟩:=S.h4.put M (i:=i) (v:=v) (by rw[Url.len S.ho];exact I) h1 H;exact⟨wx,J,e▸G,S.h2.grown E (fM S.hne),Below.put S.hb E S.hk4,S.hne,S.hk4,S.hk2,o⟩
theorem StU.putH {x:TypeId}(H:Whl P x 18){w0:World}{F y:Nat}{u:Url}(S:StU w0 t F y u w){h:Hst}(o:h.ok):
 ∃wx,(Instr.storeAt x (.pointer (some ⟨y,1,none⟩)) h.v).run P w=.ok () wx/\StU w0 t F y { u with host:=h } wx:=by
 obtain⟨wx,G,D,E⟩:=H.store (Hst.len o) (Hst.one h) S.h4 (i:=1) (by rw[Url.len S.ho];decide);rw[SV S.ho]at D;exact⟨wx,G,D,S.h2.grown E (fM S.hne),Below.put S.hb E S.hk4,S.hne,S.hk4,S.hk2,o⟩
def qap (x:Url×Int):Value:=.tuple #[x.1.v,vI x.2]
theorem Wd {s p:lU}(h:eF s=p):s.length=p.length:=by rw[<- h];simp[eF]
def qI (s:lU)(w:World)(v:Value)(w':World):Prop:=v=qap (vi s)/\bW w w'
theorem DB (s:lU)(eb:s.length <=90000000)(w:World):Cf pk #[vS s] w (Ret (qI s w)):=by
 apply Cr;intro y b5 b9 b3;have a0:=(b3▸ar w _:bW w b5)
 have O:aB b5 y aM nh.cells:=aB.new b9 b3;refine sw.new (zs:=nh.cells) (cs:=({ nh with port:=80 } :Url).cells) rfl rfl (Url.one _) b5 λF w4 de b7 bt=>?_;have df:=O.lt;have S0:StU w aM y F { nh with port:=80 } w4:=⟨b7,O.below bt,ae a0 bt a0.size,by omega,by have:=a0.size;omega,by omega,rfl⟩
 clear a0 O b7 bt df b9 b3 de;have Z:∀{J:World} {u:Url} {e:Int},StU w aM y F u J->vi s=(nh,e)->
  ∃wy,(Instr.storeAt aM (.pointer (some ⟨y,0,none⟩)) (.agg eQ)).run prog J=.ok () wy/\∃I:Value,(aS aM (.pointer (some ⟨y,0,none⟩))).run prog wy=.ok I wy/\qI s w (.tuple #[I,vI e]) wy:=fun{J u e} S b0=>
  sw.fin (K:=λI wy=>qI s w (.tuple #[I,vI e]) wy) (cs:=nh.cells) rfl (Url.one _) S.h2 rfl S.hb S.hk2 λwy H=>⟨by rw[b0];rfl,H⟩
 have d2:∀b:Bool,(Value.bool b).cells= #[Value.bool b]:=λ_=>rfl;refine⟨λr w'=>∃b,QL s=some (r,b)/\StU w aM y F { nh with sec:=b,port:=if b then 443 else 80 } w',?_,?_⟩
 ·refine HP (λb w'=>b=decide (eF (s.take 7)=[104,116,116,112,58,47,47])/\StU w aM y F { nh with port:=80 } w') ?_ ?_
  ·refine ab.of (λh=>⟨⟨by decide,by simpa using h⟩,?_⟩) (λh=>⟨?_,S0⟩)
   ·rintro _ rfl;refine aK (nC _ (by simp;omega) w4) ?_;rintro _ bb ⟨rfl,c2⟩;refine⟨_,rfl,?_,S0.below c2⟩;rw[Bool.eq_iff_iff,beq_iff_eq,dTx];rfl
   ·rw[eq_comm,dFx];intro U;have:=Wd U;simp at this h;omega
  ·rintro b bb ⟨rfl,ac⟩;refine ab.of (λh=>?_) (λh=>?_)
   ·rw[dTx]at h;have E:=Wd h;refine⟨⟨by decide,by simp at E;omega⟩,?_⟩;rintro _ rfl;exact⟨false,by unfold QL;rw[if_pos h];rfl,ac⟩
   ·have b8: ¬ eF (s.take 7)=[104,116,116,112,58,47,47]:=of_decide_eq_false h;clear h;refine HP (λb w'=>b=decide (eF (s.take 8)=[104,116,116,112,115,58,47,47])/\StU w aM y F { nh with port:=80 } w') ?_ ?_
    ·refine ab.of (λh=>⟨⟨by decide,by simpa using h⟩,?_⟩) (λh=>⟨?_,ac⟩)
     ·rintro _ rfl;refine aK (nC _ (by simp;omega) bb) ?_;rintro _ b6 ⟨rfl,bu⟩;refine⟨_,rfl,?_,ac.below bu⟩;rw[Bool.eq_iff_iff,beq_iff_eq,dTx];rfl
     ·rw[eq_comm,dFx];intro U;have:=Wd U;simp at this h;omega
    ·rintro b b6 ⟨rfl,an⟩;refine ab.of (λh=>?_) (λh=>?_)
     ·rw[dTx]at h;have E:=Wd h;refine⟨⟨by decide,by simp at E;omega⟩,?_⟩;rintro _ rfl;obtain⟨be,dn,ad⟩:=an.put (P:=prog) KI (i:=0) (v:=.bool true) (by decide) rfl rfl (SU _ true) rfl;refine⟨rfl,be,dn,rfl,?_⟩;obtain⟨bk,dr,bl⟩:=ad.put (P:=prog) mE (i:=19) (v:=vI 443) (by decide) rfl rfl (JB ad.ho 443) rfl;exact⟨bk,dr,true,by unfold QL;rw[if_neg b8,if_pos h];rfl,bl⟩
     ·exact Z an (by unfold vi QL;rw[if_neg b8,if_neg (of_decide_eq_false h)])
 ·intro r;refine aP.of ?_ _;rintro bb ⟨sec,R,ac⟩;have ea:r.length <=s.length:=by
   unfold QL at R;split at R
   ·cases R;simp
   split at R
   ·cases R;simp
   ·cases R
  have hV:vi s=NB r sec:=by unfold vi;rw[R]
  rw[hV]at Z;have cn:∀{J:World} {u:Url},StU w aM y F u J->NB r sec=(u,0)->∃v:Value,(Instr.loadAt aM (.pointer (some ⟨F,0,none⟩))).run prog J=.ok v J/\
   ∃wy,(Instr.storeAt aM (.pointer (some ⟨y,0,none⟩)) v).run prog J=.ok () wy/\∃I:Value,(aS aM (.pointer (some ⟨y,0,none⟩))).run prog wy=.ok I wy/\qI s w (.tuple #[I,vI 0]) wy:=fun{J u} S b0=>
   ⟨u.v,sw.load0 S.h4 (Url.len S.ho),sw.fin (K:=λI wy=>qI s w (.tuple #[I,vI 0]) wy) (cs:=u.cells) (Url.len S.ho) (Url.one _) S.h2 rfl S.hb S.hk2 λwy H=>⟨by rw[hV,b0];rfl,H⟩⟩
  clear R S0;refine aK (lL r [47,63,35] (by omega) (by decide) bb) ?_;rintro _ b6 ⟨rfl,bu⟩;have an:=ac.below bu;have d3:=kf [47,63,35] r;refine⟨_,rfl,⟨by omega,by omega⟩,?_⟩;rw[Int.toNat_natCast];have G:NB r sec=match qk (r.take (dt [47,63,35] r))with
   |none=>(nh,31)
   |some h=>match zr sec ((r.take (dt [47,63,35] r)).drop (el (r.take (dt [47,63,35] r))))with
    |none=>(nh,42)
    |some n=>if mN (qo (r.drop (dt [47,63,35] r)))=true then(⟨sec,h,n,qo (r.drop (dt [47,63,35] r))⟩,0)else(nh,43):=rfl
  have dj:(r.take (dt [47,63,35] r)).length <=s.length:=by simp;omega
  intro p hp;rw[<- hp]at G dj;clear hp;refine aK (lL p [58] (by omega) (by decide) b6) ?_;rintro _ be ⟨rfl,c3⟩;have ad:=an.below c3;refine⟨_,rfl,?_⟩;refine⟨λn w'=>n=((el p:Nat):Int)/\StU w aM y F { nh with sec:=sec,port:=if sec then 443 else 80 } w',?_,?_⟩
  ·refine gX (w:=be) (decide (p.head?=some 91)) ?_ ?_
   ·refine ab.of (λh=>⟨⟨by decide,by simpa using h⟩,rfl,?_⟩) (λh=>⟨rfl,?_⟩)
    ·have E:0<p.length:=by simpa using h
     have H:=byte_at (s:=p) (k:=0) E;rw[show((0:Nat):Int)=0 from rfl]at H;have ag:=om p[0] 91;rw[show(((91:UInt8).toNat:Nat):Int)=91 from rfl]at ag;rw[H,ag,List.head?_eq_getElem?,List.getElem?_eq_getElem E,Bool.eq_iff_iff];simp
    ·have:p=[]:=by
      simp only[gt_iff_lt,dFx]at h;exact List.length_eq_zero_iff.1 (by omega)
     subst this;rfl
   ·refine ab.of (λh=>?_) (λh=>⟨?_,ad⟩)
    ·refine aK (lL p [93] (by omega) (by decide) be) ?_;rintro _ bk ⟨rfl,c4⟩;have d5:=kf [93] p;refine⟨_,rfl,_,run_min_int2 _ _ _ _ _ _ _,?_,ad.below c4⟩;unfold el;rw[if_pos (of_decide_eq_true h),wrJ];omega
    ·unfold el;rw[if_neg (of_decide_eq_false h)]
  ·intro n;refine aP.of ?_ _;rintro bk ⟨rfl,bl⟩;have d8:=PR p;refine⟨⟨by omega,by omega⟩,?_⟩;rw[Int.toNat_natCast];have aa:qk p=if p.drop (el p)≠[]/\(p.drop (el p)).head?≠some 58 then none else bY (p.take (el p)):=rfl;have dc:(p.take (el p)).length <=s.length:=by simp;omega
   intro c U;rw[<- U]at aa dc;clear U;refine aK (ki c (by omega) bk) ?_;rintro _ d1 ⟨rfl,c8⟩;have ch:=bl.below c8;have af:=pD λx D=>iX (s:=c) D;rw[iy];refine⟨_,_,rfl,?_⟩;refine bn.new (zs:=jZ.cells) (cs:=((bY c).getD jZ).cells) rfl (Hst.len af) (Hst.one _) d1 λef cf d7 bp cp=>?_;have S10:=ch.below cp;refine⟨⟨by omega,by omega⟩,?_⟩;have c9:(p.drop (el p)).length <=s.length:=by simp;omega
   intro q cb;rw[<- cb]at G aa c9;clear cb;refine iV (λw'=>w'=cf/\∃h,bY c=some h/\qk p=some h) ?_ ?_
   ·refine gX (w:=cf) (decide (qk p=none)) ?_ ?_
    ·have U:∀(c1:bY c=none),qk p=none:=λc1=>by rw[aa,c1];split<;>rfl
     refine ab.of (λh=>⟨rfl,?_⟩) (λh=>ab.of (λO=>⟨⟨by decide,by simpa using O⟩,rfl,?_⟩) (λO=>⟨rfl,?_⟩))
     ·have:bY c=none:=by
       cases V:bY c with
       |none=>rfl
       |some x=>rw[V]at h;cases h
      rw[decide_eq_true (U this)]
     all_goals
      have V:bY c≠none:=λV=>by rw[V]at h;cases h
     ·have E:0<q.length:=by simpa using O
      have H:=byte_at (s:=q) (k:=0) E;rw[show((0:Nat):Int)=0 from rfl]at H;have ag:=om q[0] 58;rw[show(((58:UInt8).toNat:Nat):Int)=58 from rfl]at ag;have dg:q≠[]:=List.length_pos_iff.1 E;have dd:q.head?=some q[0]:=by rw[List.head?_eq_getElem?,List.getElem?_eq_getElem E]
      have e:((aU q 0) !=58)= !(q[0]==58):=by rw[H];show(!_)=_;rw[ag]
      rw[e,aa,dd];by_cases c:q[0]=58
      ·rw[if_neg (by rintro⟨-,D⟩;exact D (by rw[c])),decide_eq_false V,c];rfl
      ·rw[if_pos ⟨dg,λD=>c (Option.some.inj D)⟩,beq_eq_false_iff_ne.2 c];rfl
     ·have:q=[]:=by
       simp only[gt_iff_lt,dFx]at O;exact List.length_eq_zero_iff.1 (by omega)
      rw[aa,if_neg (λD=>D.1 this),decide_eq_false V]
    ·refine ab.of (λh=>?_) (λh=>⟨rfl,?_⟩)
     ·exact Z S10 (by rw[G,of_decide_eq_true h])
     ·have b1:=of_decide_eq_false h;cases Y:qk p with
      |none=>exact absurd Y b1
      |some x=>
       refine⟨x,?_,rfl⟩;rw[aa]at Y;split at Y
       ·cases Y
       ·exact Y
   ·rintro eg ⟨rfl,h,V,Y⟩;rw[Y]at G;rw[V]at bp af;simp only[Option.getD_some]at bp af;refine⟨_,bn.load0 bp (Hst.len af),rfl,?_⟩;obtain⟨a9,dk,S12⟩:=S10.putH (P:=prog) bn af;refine⟨a9,dk,?_⟩;refine iV (λw'=>∃n,zr sec q=some n/\StU w aM y F ⟨sec,h,n,[]⟩ w') ?_ ?_
    ·refine ab.of (λc1=>?_) (λc1=>?_)
     ·have E:0<q.length:=by simpa using c1
      refine⟨⟨by decide,by omega⟩,?_⟩;intro d bw;rw[show Int.toNat 1=1 from rfl]at bw;have d4:d.length <=q.length:=by rw[bw];simp
      have bq:zr sec q=if Ae d/\1 <=mJ d/\mJ d <=65535 then some (mJ d)else none:=by unfold zr;rw[if_neg (List.length_pos_iff.1 E),<- bw]
      refine aK (rK d (by omega) a9) ?_;rintro _ du ⟨rfl,cc⟩;rw[cc];clear cc;by_cases av:Ae d
      ·rw[if_pos av];refine⟨_,_,rfl,?_⟩;refine gX (w:=a9) (decide (¬ (1 <=mJ d/\mJ d <=65535))) ?_ ?_
       ·refine ab.no rfl (ab.of (λM=>⟨rfl,?_⟩) (λM=>⟨rfl,?_⟩))
        ·rw[eq_comm,dTx];simp at M;omega
        ·rw[Bool.eq_iff_iff,dTx,dTx];simp at M;omega
       ·refine ab.of (λM=>?_) (λM=>⟨rfl,?_⟩)
        ·rw[dTx]at M;exact Z S12 (by rw[G,bq,if_neg (λD=>M D.2)])
        ·have cl:1 <=mJ d/\mJ d <=65535:=Decidable.not_not.1 (of_decide_eq_false M);obtain⟨aj,b2,S14⟩:=S12.put (P:=prog) mE (i:=19) (v:=vI (mJ d)) (by decide) rfl rfl (JB S12.ho _) S12.ho;exact⟨aj,b2,mJ d,by rw[bq,if_pos ⟨av,cl⟩],S14⟩
      ·rw[if_neg av];refine⟨_,_,rfl,?_⟩;refine gX (w:=a9) true (ab.yes rfl ⟨rfl,rfl⟩) (ab.yes rfl ?_);exact Z S12 (by rw[G,bq,if_neg (λD=>av D.1)])
     ·have:q=[]:=by
       simp only[gt_iff_lt,dFx]at c1;exact List.length_eq_zero_iff.1 (by omega)
      exact⟨_,by unfold zr;rw[if_pos this],S12⟩
    ·rintro du ⟨n,b1,S13⟩;rw[b1]at G;refine⟨⟨by omega,by omega⟩,?_⟩;have ds:(r.drop (dt [47,63,35] r)).length <=s.length:=by simp;omega
     intro x D;rw[<- D]at G ds;clear D;refine⟨rfl,?_⟩;obtain⟨aj,b2,S14⟩:=S13.put (P:=prog) dG (i:=20) (v:=vS x) (by decide) rfl rfl (CU S13.ho _) S13.ho;refine⟨aj,b2,rfl,rfl,?_⟩;have S15:StU w aM y F ⟨sec,h,n,x⟩ (drew aj):=S14.below (dJ aj);have a8:=S15.h4.load1 (P:=prog) aI rfl (sU S15.ho);have d6:=kf [63,35] x;have bs:qo x=if x.take (dt [63,35] x)=[]then[47]else x.take (dt [63,35] x):=rfl;refine⟨⟨_,a8,_,a8,?_⟩,_,a8,⟨_,a8,?_⟩,?_⟩
     all_goals
      refine aK (lL x [63,35] (by omega) (by decide) _) ?_;rintro _ ei ⟨rfl,cv⟩;have S16:=S15.below cv;refine⟨_,rfl,?_⟩
      try refine⟨_,S16.h4.load1 (P:=prog) aI rfl (sU S16.ho),?_⟩
      refine⟨⟨by omega,by show((dt [63,35] x:Nat):Int) <=((x.length:Nat):Int);omega⟩,?_⟩;rw[Int.toNat_natCast];rintro _ rfl;have ed:(x.take (dt [63,35] x)).length <=s.length:=by simp;omega
      obtain⟨dv,dl,S17⟩:=S16.put (P:=prog) dG (i:=20) (v:=vS (x.take (dt [63,35] x))) (by decide) rfl rfl (CU S16.ho _) S16.ho;refine⟨rfl,dv,dl,?_⟩;refine iV (λw'=>StU w aM y F ⟨sec,h,n,qo x⟩ w') ?_ ?_
      ·refine⟨rfl,_,S17.h4.load1 (P:=prog) aI rfl (sU S17.ho),ab.of (λc=>⟨rfl,?_⟩) (λc=>?_)⟩
       ·obtain⟨b4,dm,S18⟩:=S17.put (P:=prog) dG (i:=20) (v:=vS [47]) (by decide) rfl rfl (CU S17.ho _) S17.ho;have e:qo x=[47]:=by rw[bs,if_pos (eq_of_beq c)]
        rw[e];exact⟨b4,dm,S18⟩
       ·have e:qo x=x.take (dt [63,35] x):=by rw[bs,if_neg (beq_eq_false_iff_ne.1 c)]
        rw[e];exact S17
      ·intro b4 S18;have d9:(qo x).length <=s.length+1:=by
        rw[bs];split
        ·simp
        ·omega
       refine⟨rfl,_,S18.h4.load1 (P:=prog) aI rfl (sU S18.ho),?_⟩;refine aK (pH _ (by show(qo x).length <=_;omega) b4) ?_;rintro _ ek ⟨rfl,cd⟩;rw[cd];clear cd;refine⟨_,rfl,ab.of (λc=>?_) (λc=>?_)⟩
       ·exact Z S18 (by rw[G];exact if_neg (by rw[Bool.not_eq_true']at c;rw[show mN (qo x)=false from c];decide))
       ·exact cn S18 (by rw[G];exact if_pos (by rw[Bool.not_eq_false']at c;exact c))
structure Req where
 sec:Bool
 host:Hst
 path:lU
 cross:Int
def Req.tail (r:Req):List Value:=[vS r.path,vI r.cross]
def Req.cells (r:Req):List Value:=.bool r.sec::(r.host.cells++r.tail)
def Req.v (r:Req):Value:=.agg r.cells.toArray
def Req.ok (r:Req):Prop:=r.host.ok
theorem Req.len {r:Req}(o:r.ok):r.cells.length=21:=by unfold Req.cells;rw[length_cons,length_append,Hst.len o];rfl
theorem Req.one (r:Req):zR r.cells:=bz rfl (Gw (Hst.one _) (bz rfl (bz rfl ja)))
theorem Ai {r:Req}(o:r.ok)(h:j<18):r.cells[1+j]? =r.host.cells[j]? :=by
 unfold Req.cells;rw[Nat.add_comm,List.getElem?_cons_succ,List.getElem?_append_left (by rw[Hst.len o];exact h)]
theorem mY {r:Req}(o:r.ok)(j:Nat):r.cells[19+j]? =r.tail[j]? :=by
 unfold Req.cells;rw[show 19+j=(18+j)+1 by omega,List.getElem?_cons_succ,List.getElem?_append_right (by rw[Hst.len o];omega),Hst.len o];congr 1;omega
theorem oA:Whl prog bj 21:=⟨⟨_,_,EF⟩,by kernel_rfl⟩
structure Pat where
 wild:Bool
 host:Hst
 plain:Bool
 sec:Bool
 pre:lU
def Pat.tail (p:Pat):List Value:=[.bool p.plain,.bool p.sec,vS p.pre]
def Pat.cells (p:Pat):List Value:=.bool p.wild::(p.host.cells++p.tail)
def Pat.v (p:Pat):Value:=.agg p.cells.toArray
def Pat.ok (p:Pat):Prop:=p.host.ok
theorem Pat.len {p:Pat}(o:p.ok):p.cells.length=22:=by unfold Pat.cells;rw[length_cons,length_append,Hst.len o];rfl
theorem Pat.one (p:Pat):zR p.cells:=bz rfl (Gw (Hst.one _) (bz rfl (bz rfl (bz rfl ja))))
theorem Af {p:Pat}(o:p.ok)(h:j<18):p.cells[1+j]? =p.host.cells[j]? :=by
 unfold Pat.cells;rw[Nat.add_comm,List.getElem?_cons_succ,List.getElem?_append_left (by rw[Hst.len o];exact h)]
theorem mX {p:Pat}(o:p.ok)(j:Nat):p.cells[19+j]? =p.tail[j]? :=by
 unfold Pat.cells;rw[show 19+j=(18+j)+1 by omega,List.getElem?_cons_succ,List.getElem?_append_right (by rw[Hst.len o];omega),Hst.len o];congr 1;omega
def NZ (s p:lU):Bool:=decide (((s.length:Nat):Int) >=((p.length:Nat):Int))&&(s.take p.length==p)
theorem Rj (s p:lU):NZ s p=true↔p <+:s:=by
 unfold NZ;rw[Bool.and_eq_true,dTx,beq_iff_eq,List.prefix_iff_eq_take];constructor
 ·rintro⟨_,h⟩;exact h.symm
 ·intro h;refine⟨?_,h.symm⟩;have:=congrArg length h;rw[length_take]at this;omega
def wk (r:Req):Bool:=mh r.host&&(mN r.path&&(decide (r.cross >=0)&&decide (r.cross <=2)))
def jH (p:Pat)(r:Req):Bool:=NZ r.path p.pre&&((if r.sec=true then p.sec else p.plain)&&(if p.wild=true then pY r.host p.host else vH r.host p.host))
def sP:Pat:=⟨false,jZ,false,false,[]⟩
abbrev Ho:lU:=[104,111,115,116]
def XT:List lU:=[[],[104,116,116,112],[104,116,116,112,115],[98,111,116,104]]
def j3 (s:lU):Int:=if s=[]then 0 else if s=[104,116,116,112]then 1 else if s=[104,116,116,112,115]then 2 else if s=[98,111,116,104]then 3 else -1
def M1 (a b c:lU):Pat×Int×Nat:=match bY (if Lib.hasPrefix a [42,46]=true then a.drop 2 else a)with
 |none=>(sP,31,1)
 |some h=>if Lib.hasPrefix a [42,46]=true/\h.kind≠1 then(sP,31,1)else if j3 b<1 then(sP,211,2)else if mN c=false then(sP,43,3)
  else(⟨Lib.hasPrefix a [42,46],h,j3 b==1 || j3 b==3,j3 b==2 || j3 b==3,c⟩,0,0)
def Rc (L:List lU):Pat×Int×Nat:=match L with
 |[k,a,b,c]=>if k=Ho then M1 a b c else(sP,131,0)
 |_=>(sP,131,0)
def dA (s:lU):Pat×Int×Nat:=if[]∈bE 32 [] s then(sP,131,0)else Rc (bE 32 [] s)
theorem Vf (a b c:lU):(M1 a b c).1.ok:=by
 unfold M1;split
 ·rfl
 ·rename_i h y;split
  ·rfl
  split
  ·rfl
  split
  ·rfl
  ·exact iX y
theorem Gx (s:lU):(dA s).1.ok:=by
 unfold dA;split
 ·rfl
 unfold Rc;split
 ·split
  ·exact Vf _ _ _
  ·rfl
 ·rfl
def qn (p q:Pat):Bool:=(p.wild==q.wild)&&(vH p.host q.host&&((p.plain==q.plain)&&((p.sec==q.sec)&&((p.pre==q.pre)&&true))))
theorem I1 {p q:Pat}(o:p.ok)(k:q.ok):qn p q=true↔p=q:=by
 unfold qn;rw[Bool.and_eq_true,Bool.and_eq_true,Bool.and_eq_true,Bool.and_eq_true,Bool.and_true,rB o k,beq_iff_eq,beq_iff_eq,beq_iff_eq,beq_iff_eq];cases p;cases q;simp
def CK (_:Nat)(out:List Pat)(x:lU):List Pat ⊕ (Int×Int):=
 if x=[]\/x.head?=some 35 then .inl out
 else if(dA x).2.1≠0 then .inr ((dA x).2.1,(qL (bE 32 [] x) (dA x).2.2:Nat))
 else if out.any (qn (dA x).1)=true then .inr (52,1)
 else if out.length=12 then .inr (53,1)
 else .inl (out++[(dA x).1])
def EJ (s:lU):List Pat ⊕ Flt:=FM CK [] s
def lS:Ty Pat where
 k:=22
 pos:=by decide
 rep:=λ_ _ vs o=>vs=o.cells/\o.ok
 len:=λh=>by rw[h.1];exact Pat.len h.2
 one:=fun{_ _ _ x} h v hv=>by rw[h.1]at hv;exact Pat.one x v hv
 keep:=λh _=>h
 mono:=λh _=>h
theorem vC:Flat lS:=λ_ _ _ _ _ _ h=>h
theorem nV (a:Option Addr)(b c:Nat)(d:Int){w K}(h:∃e:Nat->FP [shI],(∃f,e f (0:Int) w)/\∀f g,aP 12 (∀i,e f g i->ab (decide (g<(b:Int))) ((bx g (b:Int)/\Option.isSome a=true)/\∃j,Ld co (aw a g 1) i (vI j)/\ab (d==j) (K (vI g) i) (∃k:Nat,k<f/\e k (i64.wrap (g+1)) i)) (K (vI (-1)) i))):Cf jI #[.slice a b c,vI d] w (Ret K):=ru func263 [(6,[(8,shI)])] h
theorem my (a:Option Addr)(b c:Nat)(d:Int){w K}(h:uI jI #[.slice a b c,vI d] w λe f=>K (.bool (decide (e >=0))) f):Cf fk #[.slice a b c,vI d] w (Ret K):=ru func180 [] h
theorem Whl.elem {T:Ty o}{n:Nat}(E:Whl P t n)(G:T.k=n){a:Option Addr}{l c:Nat}{xs:List o}(h:Sl T w A a l c xs)(F:i<xs.length):
 ∃vs,(Instr.loadAt t (.pointer (aw a (i:Int) n))).run P w=.ok (.agg vs.toArray) w/\T.rep w A vs xs[i]:=by
 obtain⟨bytes,z,J⟩:=E.tf;obtain⟨M,I,H,_,_⟩:=J.info;have y:=E.ag;cases D:P.underlying t with
 |none=>rw[D]at y;cases y
 |some d=>
  rw[D]at y;simp only[map_some,Option.some.injEq]at y;have:=h.loadA D y I G H (i:=(i:Int)) (by simpa using F);simpa using this
theorem Sl.num (E:P.underlying t=some (.int .i64)){a:Option Addr}{l c:Nat}{xs:List Int}(h:Sl KD w A a l c xs)(D:i<xs.length):
 (Instr.loadAt t (.pointer (aw a (i:Int) 1))).run P w=.ok (vI xs[i]) w:=by
 obtain⟨v,h1,y⟩:=h.load1 E rfl rfl (i:=(i:Int)) (by simpa using D);rw[h1,F2 y];simp
structure DA where
 k:Int
 st:Int
 nx:List Int
 ac:List Bool
abbrev DA.n (d:DA):Nat:=d.ac.length
abbrev DA.K (d:DA):Nat:=d.k.toNat
def DA.to (d:DA)(s x:Nat):Nat:=(d.nx.getD (s*d.K+x) 0).toNat
def DA.run (d:DA):Nat->List Nat->Nat
 |s,[]=>s
 |s,x::w=>d.run (d.to s x) w
structure Chg (S:List Nat)(w w':World):Prop where
 os:w'.os=w.os
 tape:w'.tape=w.tape
 output:w'.output=w.output
 size:w.heap.size <=w'.heap.size
 block:∀k,k<w.heap.size->k∉S->w'.heap[k]? =w.heap[k]?
theorem Chg.refl (S:List Nat)(w:World):Chg S w w:=⟨rfl,rfl,rfl,Nat.le_refl _,λ_ _ _=>rfl⟩
theorem Chg.trans {S:List Nat}{a b c:World}(h:Chg S a b)(k:Chg S b c):Chg S a c:=
 ⟨k.os.trans h.os,k.tape.trans h.tape,k.output.trans h.output,Nat.le_trans h.size k.size,λi y D=>(k.block i (Nat.lt_of_lt_of_le y h.size) D).trans (h.block i y D)⟩
theorem Chg.of {S:List Nat}{w w':World}(h:bW w w'):Chg S w w':=⟨h.os,h.tape,h.output,h.size,λk y _=>h.block k y⟩
theorem Chg.grown {S:List Nat}{w w':World}{r:Nat}(h:w.grownBy w' (some r))(D:r∈S):Chg S w w':=
 ⟨h.os,h.tape,h.output,h.size,λk y E=>h.block k y λe=>E (by cases e;exact D)⟩
theorem Chg.mono {S y:List Nat}{w w':World}(h:Chg S w w')(G:∀k∈S,k∈y):Chg y w w':=⟨h.os,h.tape,h.output,h.size,λk D F=>h.block k D λE=>F (G k E)⟩
theorem Chg.below {S:List Nat}{B:Nat}{w w':World}(h:Chg S w w')(E:B <=w.heap.size)(D:∀k∈S,B <=k):Below B w w':=
 ⟨h.os,h.tape,h.output,h.size,λk F=>h.block k (by omega) λy=>by have:=D k y;omega⟩
theorem Chg.none {w w':World}(h:Chg [] w w'):bW w w':=h.below (Nat.le_refl _) λk y=>by cases y
theorem Chg.keep {S:List Nat}{w w':World}(h:Chg S w w'):EM (λb=>b∉S) w w':=⟨h.size,λb D y=>h.block b D y⟩
theorem Chg.arr {S:List Nat}{w w':World}(h:Chg S w w'){vs:List Value}(y:aB w k t vs)(D:k∉S):aB w' k t vs:=y.block (h.block k y.lt D)
theorem Chg.step {S:List Nat}{a b c:World}(h:Chg S a b)(k:bW b c):Chg S a c:=h.trans (Chg.of k)
theorem Chg.put {S:List Nat}{a b c:World}{r:Nat}(h:Chg S a b)(k:b.grownBy c (some r))(E:a.heap.size <=r):Chg S a c:=
 ⟨k.os.trans h.os,k.tape.trans h.tape,k.output.trans h.output,Nat.le_trans h.size k.size,λi y D=>(k.block i (Nat.lt_of_lt_of_le y h.size) (λe=>by cases e;omega)).trans (h.block i y D)⟩
theorem Chg.row {w w':World}{a:Option Addr}(h:w.grownBy w' (fm a)):Chg (fm a).toList w w':=
 ⟨h.os,h.tape,h.output,h.size,λk y D=>h.block k y λe=>D (by rw[<- e];simp)⟩
theorem iM {l:List o}{d v:o}(h:l[i]? =some v):l.getD i d=v:=by rw[List.getD_eq_getElem?_getD,h];rfl
def setRow (k at_:Nat)(v:Int)(nx:List Int):Nat->List Int
 |0=>nx
 |j+1=>(setRow k at_ v nx j).set (at_*k+j) v
def Mj (w:World)(a a':Option Addr):Prop:=∀g,fm a'=some g->fm a=some g\/w.heap.size <=g
theorem vW (k:Nat):(Option.map (λx=>x.add 0) (some (⟨k,0,none⟩:Addr)))=some ⟨k,0,none⟩:=by simp[Addr.add]
theorem fc (k o:Nat):(Option.map (λx=>x.add o) (some (⟨k,0,none⟩:Addr)))=some ⟨k,o,none⟩:=by
 simp only[map_some,gQ,Nat.zero_add]
theorem Mj.fresh {B:Nat}{a a':Option Addr}(h:Mj w a a')(y:bo B a)(E:B <=w.heap.size):bo B a':=λg D=>by
 rcases h g D with h1|h1
 ·exact y g h1
 ·omega
theorem pL (a:Option Addr){w K}(h:(Option.isSome a=true)/\(Option.isSome a=true)/\∃b c d,Ld aA (Option.map (λe=>e.add 0) a) w (.slice b c d)/\K (vI (i64.wrap ((c:Int)+1))) w):Cf aV #[.pointer a] w (Ret K):=ru func13 [] h
theorem Cs (a:Option Addr)(b c:Nat){w K}(h:nA w (.cells #[] ai) λd e=>∃f:Nat->FP [.one .slice,shI],(∃g,f g (vA d 0) 0 0 (0:Int) e)/\∀g i j k l,aP 13 (∀m,f g i j k l m->ab (decide (l<(b:Int))) ((bx l (b:Int)/\Option.isSome a=true)/\∃n,Ld ai (aw a l 1) m (vS n)/\uB uy #[.slice i j k,vS n] m λo p=>ab (!o) (nA p (.cells #[vS n] ai) λq r=>∃s t u v,(Builtin.append_ #[aA,aA] aA #[.slice i j k,.slice (vA q 0) 1 1]).run prog r=.ok (.slice t u v) s/\∃x:Nat,x<g/\f x t u v (i64.wrap (l+1)) s) (∃q:Nat,q<g/\f q i j k (i64.wrap (l+1)) p)) (K (.slice i j k) m))):Cf bZ #[.slice a b c] w (Ret K):=ru func18 [(8,[(3,.one .slice),(9,shI)])] h
theorem GZ (a:Option Addr)(b c:Nat)(d:lU){w K}(h:∃e:Nat->FP [shI],(∃f,e f (0:Int) w)/\∀f g,aP 9 (∀i,e f g i->ab (decide (g<(b:Int))) ((bx g (b:Int)/\Option.isSome a=true)/\∃j,Ld ai (aw a g 1) i (vS j)/\ab (j==d) (K (.bool true) i) (∃k:Nat,k<f/\e k (i64.wrap (g+1)) i)) (K (.bool false) i))):Cf uy #[.slice a b c,vS d] w (Ret K):=ru func46 [(6,[(9,shI)])] h
theorem ED (a:Option Addr)(b c:Nat){w K}(h:uV eA #[.slice a b c] w λd e=>uL gO #[d] e λf g i j=>uL fY #[.slice f g i] j λk l m n=>nA n (.map #[] 0) λo p=>nA p (.cells #[.slice k l m,.map (some o)] eJ) λq r=>true/\true/\∃s t u,Ld aA (vA q 0) r (.slice s t u)/\∃v:Nat->FP [shI],(∃x,v x (0:Int) r)/\∀x y,aP 13 (∀z,v x y z->ab (decide (y<(t:Int))) ((bx y (t:Int)/\Option.isSome s=true)/\∃A,Ld ai (aw s y 1) z (vS A)/\true/\true/\∃B,Ld gH (vA q 1) z (.map B)/\∃C,(Instr.mapUpdate gH (.map B) (vS A) (vI y)).run prog z=.ok () C/\∃D:Nat,D<x/\v D (i64.wrap (y+1)) C) (K (.pointer (vA q 0)) z))):Cf rq #[.slice a b c] w (Ret K):=ru func86 [(8,[(18,shI)])] h
theorem nW (a:Value){w K}(h:uL gq #[a] w λb c d e=>uU ii #[.slice b c d] e λf=>K (.slice b c d) f):Cf gO #[a] w (Ret K):=ru func162 [] h
theorem nE (a:Value){w K}(h:uL fA #[.slice none 0 0,a] w λb c d e=>K (.slice b c d) e):Cf gq #[a] w (Ret K):=ru func252 [] h
theorem j2 (a:Option Addr)(b c:Nat){w K}(h:nA w (.cells #[.slice a b c] aA) λd e=>K (.func (.func bX) #[] #[.pointer (vA d 0)]) e):Cf eA #[.slice a b c] w (Ret K):=ru func163 [] h
def cnt (k:Int):Int:=if k <=35 then k-33 else if k <=63 then k-34 else k-35
def Zv (c:Int):Int:=if c<33\/c>126\/c=35\/c=63 then -1 else cnt c
def PQ:Nat->lU
 |0=>[]
 |n+1=>if n+33=63\/n+33=35 then PQ n else PQ n++[UInt8.ofNat (n+33)]
def Ub:lU:=PQ 94
def sym (c:UInt8):Int:=Zv (c.toNat:Nat)
def xN (s:lU):Bool:=s.all λc=>decide (0 <=sym c)
def YX (i:Int):Bool:=decide (0 <=i)&&decide (i<92)
def chr (i:Int):UInt8:=Ub[i.toNat]?.getD 0
def one (n:Int):lU:=if YX n then[chr n]else[]
open Go.Sort (Holds putRow grow putCells mapBlock)
theorem Ow.trunc {T:Ty o}{a:Option Addr}{n c:Nat}{xs:List o}(h:Ow T t w A a n c xs){ys zs:List o}(e:xs=ys++zs):Ow T t w A a ys.length c ys:=by
 obtain⟨h1,H,I,D⟩:=h;subst e h1;refine⟨rfl,by simp at H;omega,I,?_⟩;rcases D with⟨y,G,e3⟩|⟨g,cur,fr,e,M,J,R,D⟩
 ·exact .inl ⟨y,G,(List.append_eq_nil_iff.1 e3).1⟩
 ·refine .inr ⟨g,cur,fr,e,M,J,R,?_⟩;have O:=D.len;have y:cur.toList.take (ys.length*T.k)=(cur.toList.take ((ys++zs).length*T.k)).take (ys.length*T.k):=by
   rw[List.take_take];congr 1;rw[length_append,Nat.add_mul];omega
  refine⟨?_,λi F=>?_⟩
  ·rw[y,length_take,O,length_append,Nat.add_mul];omega
  ·have E:=D.rep i (by simp;omega);rw[List.getElem_append_left F]at E;have U:i*T.k+T.k <=ys.length*T.k:=by
    have:=Nat.mul_le_mul_right T.k (show i+1 <=ys.length from F)
    rwa [Nat.add_mul,Nat.one_mul]at this
   rw[y,List.drop_take,List.take_take];rw[show min T.k (ys.length*T.k-i*T.k)=T.k by omega];exact E
theorem Ow.holds [Inhabited o]{e:o->Value}{h1:∀x,(e x).oneCell'=true}{p:o->Prop}{g n c:Nat}{xs:List o}
 (h:Ow (Ty.enc e h1 p) t w A (some ⟨g,0,none⟩) n c xs):Holds e w g 0 xs.toArray/\g<w.heap.size:=by
 obtain⟨V,Y,Z,D⟩:=h;rcases D with⟨H,_⟩|⟨U,cur,fr,G,E,J,R,D⟩
 ·cases H
 ·cases G;refine⟨λj M=>?_,(Array.getElem?_eq_some_iff.1 E).1⟩;have F:j<xs.length:=by simpa using M
  have O:j<cur.size:=by rw[R];simp[Ty.enc];omega
  have I:=jL D;refine⟨?_,?_⟩
  ·rw[iW E,Nat.zero_add];have y:(cur.toList.take (n*(Ty.enc e h1 p).k))[j]? =some (e xs[j]):=by rw[I];simp[F]
   rw[List.getElem?_take]at y;split at y
   ·simp at y ⊢;rw[y];simp[F]
   ·cases y
  ·rw[Nat.zero_add];exact EU E (J j O)
theorem Ow.putR [Inhabited o]{e:o->Value}{h1:∀x,(e x).oneCell'=true}{p:o->Prop}{g n c:Nat}{xs ys:List o}
 (h:Ow (Ty.enc e h1 p) t w A (some ⟨g,0,none⟩) n c xs) (D:ys.length=xs.length) (hp:∀af∈ys,p af) (q:Nat) (F:Array Obj):
 Ow (Ty.enc e h1 p) t (grow (putRow e (Go.Sort.ahead w q) g 0 ys.toArray) F) A (some ⟨g,0,none⟩) n c ys/\w.grownBy (grow (putRow e (Go.Sort.ahead w q) g 0 ys.toArray) F) (some g):=by
 obtain⟨G,R,U,H⟩:=h;rcases H with⟨O,_⟩|⟨ag,cur,fr,M,I,V,J,H⟩
 ·cases O
 ·cases M;have aa:=(Array.getElem?_eq_some_iff.1 I).1;have E:(putRow e (Go.Sort.ahead w q) g 0 ys.toArray).heap.size=w.heap.size:=by simp[Go.Sort.ahead]
  have Y:(grow (putRow e (Go.Sort.ahead w q) g 0 ys.toArray) F).heap[g]? =some (.cells (putCells e 0 ys.toArray cur) t fr):=by
   rw[Sort.heap_grow_old _ _ (by rw[E];exact aa)];show((Go.Sort.ahead w q).heap.modify g _)[g]? =_;rw[Array.getElem?_modify,if_pos rfl];show(w.heap[g]?).map _=_;rw[I];rfl
  refine⟨⟨by rw[D];exact G,R,U,.inr ⟨g,_,fr,rfl,Y,?_,?_,?_⟩⟩,?_⟩
  ·intro i y;exact V i (by simpa[putCells]using y)
  ·simpa[putCells]using J
  ·have:(putCells e 0 ys.toArray cur).toList.take (n*(Ty.enc e h1 p).k)=ys.map e:=by
    have ac:n*(Ty.enc e h1 p).k=ys.length:=by rw[D,G];simp[Ty.enc]
    have aj:ys.length <=cur.size:=by rw[J,D];simp[Ty.enc];omega
    rw[ac];apply List.ext_getElem?;intro i;rw[List.getElem?_take];by_cases y:i<ys.length
    ·rw[if_pos y];have:i<cur.size:=by omega
     simp[putCells,y,this]
    ·rw[if_neg y];simp[y]
   rw[this];exact mQ hp
  ·refine⟨rfl,rfl,rfl,by simp[grow,E],λk Z ad=>?_⟩;rw[Sort.heap_grow_old _ _ (by rw[E];exact Z)];show((Go.Sort.ahead w q).heap.modify g _)[k]? =_;rw[Array.getElem?_modify,if_neg (λe=>ad (by rw[e]))];rfl
theorem Ow.put0 [Inhabited o]{e:o->Value}{h1:∀x,(e x).oneCell'=true}{p:o->Prop}{g n c:Nat}{xs ys:List o}
 (h:Ow (Ty.enc e h1 p) t w A (some ⟨g,0,none⟩) n c xs) (y:ys.length=xs.length) (hp:∀D∈ys,p D) (q:Nat):
 Ow (Ty.enc e h1 p) t (putRow e (Go.Sort.ahead w q) g 0 ys.toArray) A (some ⟨g,0,none⟩) n c ys/\w.grownBy (putRow e (Go.Sort.ahead w q) g 0 ys.toArray) (some g):=by
 have:=h.putR y hp q #[]
 rwa [Sort.grow_empty]at this
theorem MY {e:o->Value}{h1:∀x,(e x).oneCell'=true}{p:o->Prop}{B n:Nat}{v:Value}{xs:List o}(A:Bl)(h:w.ownsRow B t 1 v n (xs.map e))(G:n=xs.length)(hp:∀x∈xs,p x):
 ∃a c,v=.slice a n c/\Ow (Ty.enc e h1 p) t w A a n c xs/\bo B a:=by
 rcases h.2 with⟨rfl,y⟩|⟨g,cap,cur,rfl,M,D,E,F,H,I⟩
 ·have:xs=[]:=List.eq_nil_of_length_eq_zero (by omega);subst this;exact⟨none,0,by rw[y],by rw[y];exact Ow.nil _ _ _ _,bo.none _⟩
 ·refine⟨_,cap,rfl,⟨G,E,F,.inr ⟨g,cur,(0,0),rfl,D,λi _=>by simp,by simpa[Ty.enc]using H,?_⟩⟩,λx J=>by simp[fm]at J;omega⟩;show jc _ _ _ (cur.toList.take (n*1)) xs;rw[I];exact mQ hp
section
open Go.RowKit Go.Shelf Go.Pk
attribute [local go_sem] Oper.semAt_some
def upto {α:Type}(f:Nat->α)(k:Nat):List α:=(List.range k).map f
theorem Jw (f:Nat->o)(k:Nat):upto f (k+1)=upto f k++[f k]:=by simp[upto,List.range_succ]
theorem KO (f:Nat->o)(k:Nat):(upto f k).length=k:=by simp[upto]
theorem SS (zs:List lU):upto (λj=>zs[j]?.getD []) zs.length=zs:=by
 apply List.ext_getElem
 ·simp[upto]
 ·intro i h1 y;simp[upto,y]
theorem QK (zs:List lU)(y:k <=zs.length):upto (λj=>zs[j]?.getD []) k=zs.take k:=by
 apply List.ext_getElem
 ·simp[upto,y]
 ·intro i h1 D;have:i<zs.length:=by simp[upto]at h1;omega
  simp[upto,this]
set_option maxRecDepth 100000 in
set_option maxHeartbeats 2000000 in
theorem Ns (F:Fence)(n:Nat)(h7:F.fn 254)(hro:F.round=none)(hn:1 <=n)(l Bs n₀ b off len cap:Nat)(zs:List lU)(hreach:len*16 <=140737488351232)(hb:b<n₀)(J Jx:List lU->World->Prop)
 (hY:∀pre x W,J pre W->pre.length<len->YieldAt F (n-1) prog l #[vS x] W λe W'=>
  (e=.returned (.bool true)/\J (pre++[x]) W'/\Below n₀ W W')\/(e=.returned (.bool false)/\Jx (pre++[x]) W'))
 (W:World) (hBs:W.cell? ⟨Bs,0,none⟩=some (.slice (some ⟨b,off,none⟩) len cap)) (hc:∀j,j<len->W.cell? ⟨b,off+j,none⟩=some (vS (zs[j]?.getD []))) (h0:J [] W):
 CallsIn F n prog 254 #[.func (.yield l) #[] #[],.pointer (some ⟨Bs,0,none⟩)] W λe W'=>(∃v,e=.returned v)/\
  ((∃ys,ys=upto (λj=>zs[j]?.getD []) len/\J ys W')\/(∃pre,(∃k,k <=len/\pre=upto (λj=>zs[j]?.getD []) k)/\Jx pre W')):=by
 refine callsIn_of_wp func254 rfl h7 ?_ hro;simp only[Tryz.ntmps254,size_toArray,length_cons,length_nil,Nat.reduceAdd,Nat.reduceSub,Array.replicate_succ,Array.replicate_zero,List.push_toArray,List.append_toArray,nil_append,List.cons_append];gi_wp2;gi_loopw [7] (λi wr=>∃k:Nat,k <=len/\i=vI k/\J (upto (λj=>zs[j]?.getD []) k) wr/\Below n₀ W wr)
  (λi _=>len-(RowKit.intOf i).toNat)
 case atStart=>exact⟨0,Nat.zero_le _,rfl,h0,Below.refl _ _⟩
 case round=>
  obtain⟨k,hk,rfl,hJs,hnx⟩:=hrel;have hcx:k<len->wr.cell? ⟨b,off+k,none⟩=some (vS (zs[k]?.getD [])):=λh=>(hnx.cell (p:=⟨b,off+k,none⟩) hb).trans (hc k h);by_cases hlt:k<len
  ·obtain⟨fn,tmps,assign,body,hy,hR⟩:=hY _ (zs[k]?.getD []) wr hJs (by rw[KO];exact hlt);have hcx':=hcx hlt;gi_wp2;refine hR.mono ?_;rintro e W3 (⟨rfl,hJ3,hk3⟩|⟨rfl,hJx3⟩)
   ·gi_wp2;go_roundw
    case rel=>exact⟨k+1,by omega,by simp,by rw[Jw];exact hJ3,hnx.trans hk3⟩
    case measure=>simp[RowKit.intOf];omega
   ·gi_wp2;refine bodyPost_ret (results_none rfl _ _ _) rfl ?_;exact⟨⟨_,rfl⟩,.inr ⟨_,⟨k+1,by omega,(Jw _ _).symm⟩,hJx3⟩⟩
  ·obtain rfl:k=len:=by omega
   gi_wp2;go_end0;exact⟨⟨_,rfl⟩,.inl ⟨_,rfl,hJs⟩⟩
def Df (n₀:Nat)(W:World)(sv:Value)(zs:List lU):Prop:=
 (zs=[]/\∃a c,sv=.slice a 0 c)\/∃b off cap,sv=.slice (some ⟨b,off,none⟩) zs.length cap/\b<n₀/\∀j,j<zs.length->W.cell? ⟨b,off+j,none⟩=some (vS (zs[j]?.getD []))
theorem Df.below {A B:World}(h:Below m A B){zs:List lU} :Df m A d zs->Df m B d zs
 |.inl e=>.inl e
 |.inr ⟨b,off,cap,e,y,D⟩=>.inr ⟨b,off,cap,e,y,λj E=>(h.cell (p:=⟨b,off+j,none⟩) y).trans (D j E)⟩
set_option maxRecDepth 100000 in
set_option maxHeartbeats 1000000 in
theorem EK (F:Fence)(n:Nat)(h7:F.fn 254)(hro:F.round=none)(l Bs:Nat)(J:List lU->World->Prop)(a:Option Addr)(c:Nat)(W:World)(hBs:W.cell? ⟨Bs,0,none⟩=some (.slice a 0 c))(h0:J [] W):
 CallsIn F n prog 254 #[.func (.yield l) #[] #[],.pointer (some ⟨Bs,0,none⟩)] W λe W'=>(∃v,e=.returned v)/\J [] W':=by
 refine callsIn_of_wp func254 rfl h7 ?_ hro;simp only[Tryz.ntmps254,size_toArray,length_cons,length_nil,Nat.reduceAdd,Nat.reduceSub,Array.replicate_succ,Array.replicate_zero,List.push_toArray,List.append_toArray,nil_append,List.cons_append];gi_wp2;gi_loopw [7] (λi wr=>i=vI 0/\J [] wr) (λ_ _=>0)
 case atStart=>exact⟨rfl,h0⟩
 case round=>
  obtain⟨rfl,hJs⟩:=hrel;gi_wp2;go_end0;exact⟨⟨_,rfl⟩,hJs⟩
theorem JF (D:Fence)(n:Nat)(J:D.fn 254)(R:D.round=none)(af:1 <=n)(y G:Nat)(sv:Value)(zs:List lU)(aj:zs.length*16 <=140737488351232)(w:World)(Y:y<w.heap.size)(ag:G <=w.heap.size)
 (ac:w.cell? ⟨y,0,none⟩=some sv) (Z:Df G w sv zs):
 SeqStopsK D n prog 254 #[.pointer (some ⟨y,0,none⟩)] (λx:lU=> #[vS x]) (Below G) (λys=>ys=zs) (λpre=>pre <+:zs) zs.length w:=λl H U W M _ _ aa I=>by
 have O:=(M.cell (p:=⟨y,0,none⟩) Y).trans ac;rcases Z.below (M.mono ag)with⟨rfl,a,c,rfl⟩|⟨b,off,cap,rfl,hb,hcs⟩
 ·exact(EK D n J R l y H a c W O I).mono λe V ⟨F,E⟩=>⟨F,.inl ⟨_,rfl,E⟩⟩
 ·refine(Ns D n J R af l y G b off zs.length cap zs aj hb H U aa W O hcs I).mono ?_;rintro e V ⟨F,⟨ys,rfl,E⟩|⟨pre,⟨k,ad,rfl⟩,E⟩⟩
  ·exact⟨F,.inl ⟨_,SS zs,E⟩⟩
  ·exact⟨F,.inr ⟨_,by rw[QK zs ad];exact List.take_prefix _ _,E⟩⟩
theorem Kf:(prog.info? 9).map (λi=>(i.zero,i.size,i.bytes))=some (some (vS []),1,16):=by kernel_rfl
set_option maxRecDepth 100000 in
set_option maxHeartbeats 2000000 in
theorem HL (F:Fence)(n:Nat)(h3:F.fn 315)(h7:F.fn 254)(hro:F.round=none)(hn:3 <=n)(Bs:Nat)(sv:Value)(zs:List lU)(hlen:zs.length <=maxLen)(hbytes:zs.length*16 <=140737488351232)(w:World)(hBs:Bs<w.heap.size)
 (hc:w.cell? ⟨Bs,0,none⟩=some sv) (hI:Df w.heap.size w sv zs):
 CallsIn F n prog 315 #[.slice none 0 0,.func (.func 254) #[] #[.pointer (some ⟨Bs,0,none⟩)]] w λe W'=>∃v,e=.returned v/\W'.ownsRow w.heap.size 9 1 v zs.length (zs.map λx=>vS x)/\bW w W':=by
 have h1:1 <=n:=by omega
 obtain⟨i0,hi,hz0,hz1,hz2⟩:=info_parts Kf;refine callsIn_of_wp_marks func315 rfl h3 ?_ hro;simp only[Tryz.ntmps315,size_toArray,length_cons,length_nil,Nat.reduceAdd,Nat.reduceSub,Array.replicate_succ,Array.replicate_zero,List.push_toArray,List.append_toArray,nil_append,List.cons_append];gi_wp2;have bO:=Boxed.new w 43 (.slice none 0 0);have hB0:bW w (w.alloc (.cells #[.slice none 0 0] 43)):=(Below.refl _ w).alloc (Nat.le_refl _) _;refine wpIn_rangeFunc_ownG hro h1 (gf:=254) (lb:= #[.pointer (some ⟨Bs,0,none⟩)]) rfl h7 (enters_of func254 (by kernel_rfl) rfl)
  (JF F (n-1) h7 hro (by omega) Bs w.heap.size sv zs hbytes _ (by simp;omega) (by simp) ((hB0.cell (p:=⟨Bs,0,none⟩) hBs).trans hc) (hI.below hB0)) belowK_t (belowK_b (by simp)) (Below.refl _ _) (λ_=>rfl)
  (fun(pre:List lU) W=>(∃v,Boxed W w.heap.size 43 v/\W.ownsRow w.heap.size 9 1 v pre.length (pre.map (λx=>vS x))/\(v=v))/\bW w W)
  (λ_ _ _=>False)
  (OwnFrom.and (Own.from (holdsRow_own w.heap.size w.heap.size 43 9 1 (λpre:List lU=>pre.length) (λpre:List lU=>pre.map (λx=>vS x)) (λpre v=>v=v)) _) (ownFrom_below (Nat.le_refl _) (by simp)))
  (λ_ _ _ _ _ hs _ _=>hs)
  ⟨⟨_,bO,World.ownsRow_nil _ _ _ _,rfl⟩,hB0⟩
  (λx=> { tmps:= #[.slice none 0 0,.func (.func 254) #[] #[.pointer (some ⟨Bs,0,none⟩)],.pointer (some ⟨w.heap.size,0,none⟩),undef,.slice none 0 0,vS x,.func (.func 254) #[] #[.pointer (some ⟨Bs,0,none⟩)],vS x,undef,undef,undef,undef,undef],defers:=[] }) ?assign ?body ?done ?stop
 case assign=>
  intro l x W K hK;gi_wp2;exact hK
 case body=>
  rintro l pre x W ⟨⟨v,hv,hrow,-⟩,hB⟩ hlt;have hc:=hv.cell;gi_wp2_with (gi_at_builtin;refine wpListIn_append_own _ rfl _ _ 43 rfl w.heap.size 9 i0 (vS []) 1 16 Tryz.underlying43 hi hz0 hz1 hz2 rfl (by decide) _ _ _ rfl (hrow.alloc _) ⟨W.heap.size,0,none⟩ 1 1 [vS x] rfl rfl (cell_one_new _ _ _) (by simp[Value.oneCell']) (by omega) (by omega) (by have:=hB.size;simp;omega) ?_;intro v' w1 hown' hgrow _;obtain⟨g',cap',rfl⟩:=ownsRow_succ hown';obtain⟨hv1,hv2,hr2,hk2,hb2⟩:=hv.appended (by decide) hrow hB.size (Nat.le_refl _) hown' hgrow;have hc1:=hv1.cell;have hf1:=hv1.frozen);exact⟨hk2.from _,hb2,⟨_,hv2,by simpa using hr2⟩,hB.trans hb2⟩
 case done=>
  rintro D ys W hD rfl ⟨⟨v,hv,hrow,-⟩,hB⟩ hK;have hc:=hv.cell;gi_wp2;refine⟨by simp,.inl ⟨_,_,rfl,run_takeDeferred hK,?_⟩⟩;exact⟨_,Go.results_tmp rfl _ _ _,v,rfl,ownsRow_putObj hrow _ hK rfl,hB.trans (belowK_b (w:=w) (Nat.le_refl _) W D _ _ (by simp at hD;omega) hK rfl rfl)⟩
 case stop=>
  rintro D c pre W _ _ h _;exact h.elim
end
def KV (es:List MapEntry)(kvs:List (lU×Int)):Prop:=es.map (λe=>(e.key,e.val))=kvs.map λp=>(vS p.1,vI p.2)
def qH (w:World)(r:Nat)(kvs:List (lU×Int)):Prop:=∃es clock,w.heap[r]? =some (.map es clock)/\KV es.toList kvs
def IJ (k:lU):List (lU×Int)->Option Int
 |[]=>none
 |(k',v)::l=>if k=k' then some v else IJ k l
def Kg (k:lU):List (lU×Int)->Nat->Option (Nat×Int)
 |[],_=>none
 |(k',v)::l,i=>if k=k' then some (i,v)else Kg k l (i+1)
theorem E1 (k:lU):∀(l:List (lU×Int)) (i:Nat),(Kg k l i).map (·.2)=IJ k l
 |[],_=>rfl
 |(k',v)::l,i=>by
  unfold Kg IJ;split
  ·rfl
  ·exact E1 k l (i+1)
theorem Pz (a b:lU):(mkS a==mkS b)=(a==b):=by
 show((mkS a).data==(mkS b).data)=_;simp[mkS]
theorem UX {a b:lU} :(mkS a==mkS b)=decide (a=b):=by
 rw[Pz,Bool.eq_iff_iff];simp
theorem Bb (k:lU):∀(D:List MapEntry) (y:List (lU×Int)) (i:Nat),KV D y->
 Instr.findNow .string (vS k) D i=some ((Kg k y i).map λp=>(p.1,vI p.2))
 |[],y,i,h=>by
  have:y=[]:=by
   unfold KV at h;simp at h;exact h
  subst this;rfl
 |e::D,[],i,h=>by unfold KV at h;simp at h
 |e::D,(k',v)::y,i,h=>by
  unfold KV at h;simp only[map_cons,List.cons.injEq,Prod.mk.injEq]at h;obtain⟨⟨F,H⟩,G⟩:=h;unfold Instr.findNow Kg;rw[F];simp only[Instr.sameNow,UX];by_cases E:k=k'
  ·simp[E,H]
  ·simp only[E,decide_false,if_false];exact Bb k D y (i+1) G
theorem J7 (D:P.underlying t=some .string){k:lU}{y:List MapEntry}(h:KV y z)(w:World):
 (Instr.findKey t (vS k) y).run P w=.ok ((Kg k z 0).map λp=>(p.1,vI p.2)) w:=by
 unfold Instr.findKey;rw[Sem.run_bind,bT D,Result.andThen_ok,Bb k y z 0 h];rfl
theorem H0 (y:P.underlying t=some .string)(b:Bool)(s:ByteArray)(w:World):(Instr.checkKey b 10000 t (.string s)).run P w=.ok () w:=by
 show(Instr.checkKey b (9999+1) t (.string s)).run P w=_;unfold Instr.checkKey;rw[Sem.run_bind,bT y,Result.andThen_ok];rfl
theorem Na {r:Nat}{y:Array MapEntry}{c:Nat}(h:w.heap[r]? =some (.map y c)):(getObj r).run P w=.ok (.map y c) w:=by
 simp only[getObj,Sem.run,h]
theorem qH.below {w w':World}{r:Nat}(h:qH w r z)(E:bW w w'):qH w' r z:=by
 obtain⟨D,c,y,F⟩:=h;exact⟨D,c,(E.block r (Array.getElem?_eq_some_iff.1 y).1).trans y,F⟩
theorem qH.keep {w w':World}{r:Nat}(h:qH w r z)(D:w'.heap[r]? =w.heap[r]?):qH w' r z:=by
 obtain⟨y,c,E,F⟩:=h;exact⟨y,c,D.trans E,F⟩
theorem qH.new {w w':World}{r:Nat}(y:r=w.heap.size)(D:w'=w.alloc (.map #[] 0)):qH w' r []:=by
 subst y D;exact⟨#[],0,heap_alloc_new w _,rfl⟩
theorem Gg {mt G H:TypeId}(J:P.underlying mt=some (.map G H))(F:P.underlying G=some .string){r:Nat}(h:qH w r z){k:lU}(O:IJ k z=none)(v:Int):
 ∃w',(Instr.mapUpdate mt (.map (some r)) (vS k) (vI v)).run P w=.ok () w'/\qH w' r (z++[(k,v)])/\w.grownBy w' (some r):=by
 obtain⟨E,c,y,D⟩:=h;have I:r<w.heap.size:=(Array.getElem?_eq_some_iff.1 y).1;have R:Kg k z 0=none:=by
  have:=E1 k z 0;rw[O]at this;simpa using this
 refine⟨{ w with heap:=w.heap.setIfInBounds r (.map (E.push { key:=vS k,val:=vI v,born:=c }) (c+1)) },?_,⟨E.push { key:=vS k,val:=vI v,born:=c },c+1,by simp[I],?_⟩,⟨rfl,rfl,rfl,by simp,λj U M=>?_⟩⟩
 ·unfold Instr.mapUpdate;simp only[Sem.run_bind,bT J,Result.andThen_ok,Na y,H0 F,J7 F D,R,Option.map_none];simp only[setObj,Sem.run,y]
 ·unfold KV at D ⊢;simp only[Array.toList_push,map_append,map_cons,map_nil,D]
 ·have:r≠j:=λe=>M (by rw[e]);simp[Array.getElem?_setIfInBounds_ne this]
end Go.Pk
namespace Go.Proofs
open Go.Pk (Cf vS vI bW)
open Go.Shelf
def Tryz.sortS_ren:Go.Shelf.Ren:=⟨fun|6=>253|8=>317|9=>316|19=>353|20=>354|21=>344|22=>345|23=>346|24=>347|25=>348|26=>349|27=>350|28=>351|29=>352|36=>373|31=>374|32=>375|37=>376|38=>377|39=>378|41=>388|n=>n,fun|27=>43|29=>9|3=>3|32=>323|26=>43|0=>0|44=>380|46=>325|4=>4|36=>374|35=>373|41=>208|5=>5|9=>9|53=>400|57=>404|63=>411|64=>276|n=>n,fun|n=>n⟩
theorem Tryz.sortS:Go.Proofs.SlLaysM.n6 prog Tryz.sortS_ren:= {
 mixed:=by kernel_rfl
 f6:=⟨Tryz.f253.name,by decide,func253.trans (congrArg some (by kernel_rfl))⟩
 f8:=func317.trans (congrArg some (by kernel_rfl))
 f9:=⟨Tryz.f316.name,by decide,func316.trans (congrArg some (by kernel_rfl))⟩
 f19:=func353.trans (congrArg some (by kernel_rfl))
 f20:=func354.trans (congrArg some (by kernel_rfl))
 f21:=⟨Tryz.f344.name,by decide,func344.trans (congrArg some (by kernel_rfl))⟩
 f22:=⟨Tryz.f345.name,by decide,func345.trans (congrArg some (by kernel_rfl))⟩
 f23:=⟨Tryz.f346.name,by decide,func346.trans (congrArg some (by kernel_rfl))⟩
 f24:=⟨Tryz.f347.name,by decide,func347.trans (congrArg some (by kernel_rfl))⟩
 f25:=⟨Tryz.f348.name,by decide,func348.trans (congrArg some (by kernel_rfl))⟩
 f26:=⟨Tryz.f349.name,by decide,func349.trans (congrArg some (by kernel_rfl))⟩
 f27:=⟨Tryz.f350.name,by decide,func350.trans (congrArg some (by kernel_rfl))⟩
 f28:=⟨Tryz.f351.name,by decide,func351.trans (congrArg some (by kernel_rfl))⟩
 f29:=⟨Tryz.f352.name,by decide,func352.trans (congrArg some (by kernel_rfl))⟩
 f31:=func374.trans (congrArg some (by kernel_rfl))
 f32:=func375.trans (congrArg some (by kernel_rfl))
 f36:=⟨Tryz.f373.name,by decide,func373.trans (congrArg some (by kernel_rfl))⟩
 f37:=⟨Tryz.f376.name,by decide,func376.trans (congrArg some (by kernel_rfl))⟩
 f38:=⟨Tryz.f377.name,by decide,func377.trans (congrArg some (by kernel_rfl))⟩
 f39:=⟨Tryz.f378.name,by decide,func378.trans (congrArg some (by kernel_rfl))⟩
 f41:=⟨Tryz.f388.name,by decide,func388.trans (congrArg some (by kernel_rfl))⟩
 t0:=Tryz.underlying0
 a0:=Tryz.isAgg0
 z0:=Tryz.sizeOf0
 v0:=Tryz.zeroValue0
 t3:=Tryz.underlying3
 a3:=Tryz.isAgg3
 z3:=Tryz.sizeOf3
 v3:=Tryz.zeroValue3
 t4:=Tryz.underlying4
 a4:=Tryz.isAgg4
 z4:=Tryz.sizeOf4
 v4:=Tryz.zeroValue4
 t5:=Tryz.underlying5
 a5:=Tryz.isAgg5
 z5:=Tryz.sizeOf5
 v5:=Tryz.zeroValue5
 t9:=Tryz.underlying9
 a9:=Tryz.isAgg9
 z9:=Tryz.sizeOf9
 v9:=Tryz.zeroValue9
 t26:=Tryz.underlying43
 a26:=Tryz.isAgg43
 z26:=Tryz.sizeOf43
 v26:=Tryz.zeroValue43
 t27:=Tryz.underlying43
 a27:=Tryz.isAgg43
 z27:=Tryz.sizeOf43
 v27:=Tryz.zeroValue43
 t29:=Tryz.underlying9
 a29:=Tryz.isAgg9
 z29:=Tryz.sizeOf9
 v29:=Tryz.zeroValue9
 t32:=Tryz.underlying323
 a32:=Tryz.isAgg323
 z32:=Tryz.sizeOf323
 v32:=Tryz.zeroValue323
 t35:=Tryz.underlying373
 a35:=Tryz.isAgg373
 z35:=Tryz.sizeOf373
 v35:=Tryz.zeroValue373
 t36:=Tryz.underlying374
 a36:=Tryz.isAgg374
 z36:=Tryz.sizeOf374
 v36:=Tryz.zeroValue374
 t41:=Tryz.underlying208
 a41:=Tryz.isAgg208
 z41:=Tryz.sizeOf208
 v41:=Tryz.zeroValue208
 t44:=Tryz.underlying380
 a44:=Tryz.isAgg380
 z44:=Tryz.sizeOf380
 v44:=Tryz.zeroValue380
 t46:=Tryz.underlying325
 a46:=Tryz.isAgg325
 z46:=Tryz.sizeOf325
 v46:=Tryz.zeroValue325
 t53:=Tryz.underlying400
 a53:=Tryz.isAgg400
 z53:=Tryz.sizeOf400
 v53:=Tryz.zeroValue400
 t57:=Tryz.underlying404
 a57:=Tryz.isAgg404
 z57:=Tryz.sizeOf404
 v57:=Tryz.zeroValue404
 t63:=Tryz.underlying411
 a63:=Tryz.isAgg411
 z63:=Tryz.sizeOf411
 v63:=Tryz.zeroValue411
 t64:=Tryz.underlying276
 a64:=Tryz.isAgg276
 z64:=Tryz.sizeOf276
 v64:=Tryz.zeroValue276 }
end Go.Proofs
namespace Go.Pk
open Go.RowKit (Below)
open Go.Proofs
open Go.Sort (Holds putRow grow putCells mapBlock)
theorem Sl.texts {a:Option Addr}{n c:Nat}{zs:List lU}(h:Sl tS w qw a n c zs):Df w.heap.size w (.slice a n c) zs:=by
 obtain⟨rfl,I,J,E⟩:=h;rcases E with rfl|⟨b,off,rfl,F,_,l,H,G⟩
 ·exact .inl ⟨rfl,a,c,rfl⟩
 ·refine .inr ⟨b,off,c,rfl,F,λj D=>?_⟩;have y:=jL H;rw[G j (by rw[y];simpa using D),y];simp[D]
theorem HM (y:Nat)(sv:Value)(zs:List lU)(O:zs.length <=1000000)(w:World)(D:y<w.heap.size)(G:w.cell? ⟨y,0,none⟩=some sv)(E:Df w.heap.size w sv zs):
 Cf fA #[.slice none 0 0,.func (.func bX) #[] #[.pointer (some ⟨y,0,none⟩)]] w
  (Ret λv w'=>∃a n c,v=.slice a n c/\Ow tS ai w' NoB a n c zs/\bo w.heap.size a/\bW w w'):=by
 refine(callsIn_wide (n:=3)).1 ?_;have:=HL Fence.wide 3 trivial trivial rfl (by omega) y sv zs (by unfold maxLen;omega) (by omega) w D G E;refine this.mono ?_;rintro e M ⟨v,rfl,J,F⟩;obtain⟨a,c,rfl,I,H⟩:=MY (e:=λs=>vS s) (h1:=λ_=>rfl) (p:=λ_=>True) NoB J rfl (λ_ _=>trivial);exact⟨_,rfl,a,_,c,rfl,I,H,F⟩
theorem Mt (y:Nat)(sv:Value)(zs:List lU)(I:zs.length <=1000000)(w:World)(D:y<w.heap.size)(G:w.cell? ⟨y,0,none⟩=some sv)(E:Df w.heap.size w sv zs):
 Cf gq #[.func (.func bX) #[] #[.pointer (some ⟨y,0,none⟩)]] w
  (Ret λv w'=>∃a n c,v=.slice a n c/\Ow tS ai w' NoB a n c zs/\bo w.heap.size a/\bW w w'):=by
 apply nE;refine aK (HM y sv zs I w D G E) ?_;rintro _ M ⟨a,n,c,rfl,J,H,F⟩;exact⟨a,n,c,rfl,a,n,c,rfl,J,H,F⟩
abbrev srt (zs:List lU):List lU:=zs.mergeSort λx y=>decide (x <=y)
theorem VE (a:Option Addr)(n c:Nat)(zs:List lU)(G:zs.length <=1000000)(w:World)(y:Ow tS ai w NoB a n c zs):
 Cf ii #[.slice a n c] w (Ret λv w'=>v=.tuple #[]/\Ow tS ai w' NoB a n c (srt zs)/\w.grownBy w' (fm a)):=by
 have E:=y.len;subst E;rcases y.2.2.2 with⟨rfl,rfl,rfl⟩|⟨g,cur,fr,rfl,_⟩
 ·refine(Tryz.slices_Sort_string_none none 0 w).mono ?_;rintro _ _ ⟨rfl,rfl⟩;exact⟨_,rfl,rfl,by simpa[srt]using y,⟨rfl,rfl,rfl,Nat.le_refl _,λ_ _ _=>rfl⟩⟩
 ·have D:=y.holds;refine(Tryz.slices_Sort_string g 0 c zs w D.1 D.2 (by omega)).mono ?_;rintro _ _ ⟨rfl,q,F,rfl⟩;have:=y.putR (ys:=srt zs) (by simp) (λ_ _=>trivial) q F;exact⟨_,rfl,rfl,this.1,this.2⟩
theorem Qw (y:Nat)(sv:Value)(zs:List lU)(F:zs.length <=1000000)(w:World)(G:y<w.heap.size)(I:w.cell? ⟨y,0,none⟩=some sv)(H:Df w.heap.size w sv zs):
 Cf gO #[.func (.func bX) #[] #[.pointer (some ⟨y,0,none⟩)]] w
  (Ret λv w'=>∃a n c,v=.slice a n c/\Ow tS ai w' NoB a n c (srt zs)/\bo w.heap.size a/\bW w w'):=by
 apply nW;refine aK (Mt y sv zs F w G I H) ?_;rintro _ R ⟨a,n,c,rfl,M,E,D⟩;refine⟨a,n,c,rfl,?_⟩;refine aK (VE a n c zs F R M) ?_;rintro _ U ⟨rfl,O,J⟩;exact⟨rfl,a,n,c,rfl,O,E,D.grown J D.size E⟩
theorem QS (a:Option Addr)(n c:Nat)(w:World):Cf eA #[.slice a n c] w
 (Ret λv w'=>v=.func (.func bX) #[] #[.pointer (some ⟨w.heap.size,0,none⟩)]/\w'=w.alloc (.cells #[.slice a n c] aA)):=by
 apply j2;rintro _ _ rfl rfl;exact⟨rfl,rfl⟩
theorem Mu (a:Option Addr)(n c:Nat)(zs:List lU)(F:zs.length <=1000000)(w:World)(y:Ow tS ai w NoB a n c zs):
 Cf fY #[.slice a n c] w (Ret λv w'=>∃n',v=.slice a n' c/\Ow tS ai w' NoB a n' c (Lib.compact zs)/\w.grownBy w' (fm a)):=by
 have E:=y.len;subst E;rcases y.2.2.2 with⟨rfl,rfl,rfl⟩|⟨g,cur,fr,rfl,_⟩
 ·refine(Tryz.slices_Compact_string_empty none 0 w).mono ?_;rintro _ _ ⟨rfl,rfl⟩;exact⟨_,rfl,_,rfl,y,⟨rfl,rfl,rfl,Nat.le_refl _,λ_ _ _=>rfl⟩⟩
 ·have D:=y.holds;refine(Tryz.slices_Compact_string g 0 c zs w D.1 (by omega) y.2.1).mono ?_;rintro _ _ ⟨rfl,q,rfl⟩;have G:=Lib.compact_length_le zs;have:=y.put0 (ys:=Lib.compact zs++replicate (zs.length-(Lib.compact zs).length) []) (by simp;omega) (λ_ _=>trivial) q;exact⟨_,rfl,_,rfl,this.1.trunc rfl,this.2⟩
abbrev Txt:=lU
def va (l:List Txt):List Txt:=Lib.compact (l.mergeSort λx y=>decide (x <=y))
theorem CO {a b:Txt}(h:a <=b)(y:a≠b):a<b:=by
 have:=List.le_iff_lt_or_eq.1 h;exact this.resolve_right y
theorem TK (l:List Txt):(l.mergeSort λx y=>decide (x <=y)).Pairwise (· <= ·):=by
 have h:=List.pairwise_mergeSort (le:=fun(x y:Txt)=>decide (x <=y)) (λa b c h1 D=>by simp only[dTx]at*;exact List.le_trans h1 D)
  (λa b=>by simp only[Bool.or_eq_true,dTx];exact List.le_total a b) l
 exact h.imp λh=>by simpa using h
theorem Me (d:List Txt)(R:d.Pairwise (· <= ·)):∀m,m <=d.length->(Lib.compactUpTo d.toArray m).Pairwise (· < ·)/\(∀x,x∈Lib.compactUpTo d.toArray m↔x∈d.take m):=by
 intro m;induction m with
 |zero=>intro _;simp[Lib.compactUpTo]
 |succ m af=>
  intro aj;obtain⟨h1,D⟩:=af (by omega);have G:m<d.length:=by omega
  have E:d.toArray[m]! =d[m]:=by simp[G]
  rw[Lib.compactUpTo_succ,take_succ_eq_append_getElem G,E];by_cases y:Lib.keeps d.toArray m=true
  ·rw[if_pos y];refine⟨List.pairwise_append.2 ⟨h1,by simp,?_⟩,λx=>by rw[mem_append,D,mem_append]⟩;intro x H ag ac;have ad:ag=d[m]:=by simpa using ac
   subst ad;have aa:=(D x).1 H;obtain⟨i,U,rfl⟩:=List.getElem_of_mem aa;rw[length_take]at U;rw[List.getElem_take];have M:m≠0:=by omega
   simp only[Lib.keeps,dTx]at y;have O:=y.resolve_left M;have F:d.toArray[m-1]! =d[m-1]:=by simp[show m-1<d.length by omega]
   rw[E,F]at O;have Z:d[m-1] <=d[m]:=List.pairwise_iff_getElem.1 R (m-1) m (by omega) G (by omega);have J:=CO Z (λe=>O e.symm);by_cases V:i=m-1
   ·subst V;exact J
   ·have Y:d[i] <=d[m-1]:=List.pairwise_iff_getElem.1 R i (m-1) (by omega) (by omega) (by omega);exact List.lt_of_le_of_lt Y J
  ·rw[if_neg y];refine⟨by simpa using h1,λx=>?_⟩;rw[append_nil,D,mem_append];refine⟨.inl,λh=>h.elim id λh=>?_⟩;have H:x=d[m]:=by simpa using h
   subst H;simp only[Lib.keeps,dTx,not_or,Classical.not_not]at y;obtain⟨M,I⟩:=y;have F:d.toArray[m-1]! =d[m-1]:=by simp[show m-1<d.length by omega]
   rw[E,F]at I;rw[I];exact List.mem_take_iff_getElem.2 ⟨m-1,by omega,rfl⟩
theorem Kx (l:List Txt):(va l).Pairwise (· < ·):=(Me _ (TK l) _ (Nat.le_refl _)).1
theorem Sa {l:List Txt}{x:Txt} :x∈va l↔x∈l:=by
 have:=(Me _ (TK l) _ (Nat.le_refl _)).2 x;unfold va Lib.compact;rw[this,take_length,List.mem_mergeSort]
theorem Nc (l:List Txt):(va l).Nodup:=(Kx l).imp fun{a b} h e=>by subst e;exact List.lt_irrefl a h
theorem Hb (l:List Txt):(va l).length <=l.length:=by
 have:=Lib.compact_length_le (l.mergeSort λx y=>decide (x <=y));rw[List.length_mergeSort]at this;exact this
def Nz (ts:List Txt):List (Txt×Int):=ts.zipIdx.map λp=>(p.1,((p.2:Nat):Int))
theorem O9 (ts:List Txt)(x:Txt):Nz (ts++[x])=Nz ts++[(x,(ts.length:Int))]:=by
 unfold Nz;rw[List.zipIdx_append];simp
theorem E0 {k:Txt} :∀{ts:List Txt},k∉ts->∀(l:List (Txt×Int)),l.map (·.1)=ts->IJ k l=none
 |_,h,[],e=>rfl
 |[],h,(k',v)::l,e=>by simp at e
 |t::ts,h,(k',v)::l,e=>by
  simp only[map_cons,List.cons.injEq]at e;obtain⟨rfl,e⟩:=e;simp only[List.mem_cons,not_or]at h;unfold IJ;rw[if_neg h.1];exact E0 h.2 l e
theorem O8 (ts:List Txt):(Nz ts).map (·.1)=ts:=by
 unfold Nz;rw[List.map_map];exact List.zipIdx_map_fst 0 ts
theorem Bz {ts:List Txt}{k:Txt}(h:k∉ts):IJ k (Nz ts)=none:=E0 h _ (O8 ts)
theorem ww {l:List o}(h:k<l.length):l.take (k+1)=l.take k++[l[k]]:=take_succ_eq_append_getElem h
def qD (w:World)(p:Option Addr)(ts:List Txt):Prop:=
 ∃b a n c m cs fr,p=some ⟨b,0,none⟩/\w.heap[b]? =some (.cells cs eJ fr)/\cs= #[.slice a n c,.map (some m)]/\Sl tS w qw a n c ts/\qH w m (Nz ts)/\ts.Pairwise (· < ·)
theorem qD.below {w w':World}{ts:List Txt}(h:qD w p ts)(y:bW w w'):qD w' p ts:=by
 obtain⟨b,a,n,c,m,cs,fr,E,D,e3,F,e5,G⟩:=h;exact⟨b,a,n,c,m,cs,fr,E,(y.block b (Array.getElem?_eq_some_iff.1 D).1).trans D,e3,F.below y,e5.below y,G⟩
def KT (B:Nat)(w:World)(p:Option Addr)(ts:List Txt):Prop:=
 ∃b a n c m cs fr,p=some ⟨b,0,none⟩/\w.heap[b]? =some (.cells cs eJ fr)/\cs= #[.slice a n c,.map (some m)]/\Sl tS w (λg=>B <=g) a n c ts/\qH w m (Nz ts)/\ts.Pairwise (· < ·)/\B <=b/\B <=m
theorem EE (a:Option Addr)(n c:Nat)(l:List Txt)(an:l.length <=1000000)(w:World)(b7:Sl tS w qw a n c l):
 Cf rq #[.slice a n c] w (Ret λv w'=>∃p,v=.pointer p/\KT w.heap.size w' p (va l)/\bW w w'):=by
 apply ED;refine aK (QS a n c w) ?_;rintro _ _ ⟨rfl,rfl⟩;refine⟨_,rfl,?_⟩;have E:bW w (w.alloc (.cells #[.slice a n c] aA)):=ar _ _;have b8:=b7.below E;have bl:(w.alloc (.cells #[.slice a n c] aA)).cell? ⟨w.heap.size,0,none⟩=some (.slice a n c):=by
  rw[iW (heap_alloc_new w _)];rfl
 refine aK (Qw w.heap.size (.slice a n c) l an _ (by simp) bl (Sl.texts b8)) ?_;rintro _ b9 ⟨a1,be,c1,rfl,b4,ac,bk⟩;have V:=ae E bk E.size;refine⟨a1,be,c1,rfl,?_⟩;refine aK (Mu a1 be c1 _ (by simpa[srt]using an) b9 b4) ?_;rintro _ w2 ⟨D,rfl,M,bp⟩;have F:bW w w2:=V.grown bp V.size (ac.mono E.size);refine⟨a1,D,c1,rfl,?_⟩;have M:Ow tS ai w2 NoB a1 D c1 (va l):=M;intro k3 w3 aj R;intro I w4 bt U;have Y:bW w2 w3:=R▸ar _ _;have Z:bW w3 w4:=U▸ar _ _;have cl:w3.heap.size=w2.heap.size+1:=by rw[R];simp
 have cn:w4.heap.size=w3.heap.size+1:=by rw[U];simp
 have aa:bW w2 w4:=ae Y Z Y.size;have bw:qH w3 k3 []:=qH.new aj R;have b0:qH w4 k3 []:=bw.below Z;have af:w4.heap[I]? =some (.cells #[.slice a1 D c1,.map (some k3)] eJ (0,0)):=by
  rw[U,bt];exact heap_alloc_new w3 _
 have a8:=M.below aa;have ch:=a8.len;have cf:=Hb l;have bu:=M.lt;refine⟨rfl,rfl,a1,D,c1,?_,?_⟩
 ·exact il bh rfl (by rw[iW af];rfl)
 refine⟨λm i w'=>∃n:Nat,n <=(va l).length/\i=(n:Int)/\m=(va l).length-n/\qH w' k3 (Nz ((va l).take n))/\w4.grownBy w' (some k3),
  ⟨_,0,by omega,rfl,rfl,by simpa[Nz]using b0,⟨rfl,rfl,rfl,Nat.le_refl _,λ_ _ _=>rfl⟩⟩,?_⟩
 intro m i;refine aP.of ?_ _;rintro w' ⟨j,cd,rfl,rfl,O,y⟩;have bs:I≠k3:=by omega
 have ad:w'.heap[I]? =some (.cells #[.slice a1 D c1,.map (some k3)] eJ (0,0)):=by
  rw[y.block I (by omega) (λe=>bs (Option.some.inj e))];exact af
 have a0:Ow tS ai w' NoB a1 D c1 (va l):=a8.keep (jf y λb G e=>by
  rcases G with G|G
  ·exact G
  ·have:=bu b G.symm;simp at e;omega)
 refine ab.of (λh=>?_) (λh=>?_)<;>simp at h
 ·have a9:=a0.all;have J:j<(va l).length:=by omega
  refine⟨⟨⟨by omega,by omega⟩,a9.isSome J⟩,?_⟩;obtain⟨v,bb,b6⟩:=a9.load1 (i:=(j:Int)) aI rfl rfl (by simpa using J);obtain⟨rfl,-⟩:=vd b6;simp only[Int.toNat_natCast]at bb;refine⟨_,bb,rfl,rfl,some k3,?_,?_⟩
  ·exact il j6 rfl (by rw[iW ad];rfl)
  have b3:IJ (va l)[j] (Nz ((va l).take j))=none:=Bz λb2=>by
   obtain⟨i,bq,e⟩:=List.getElem_of_mem b2;rw[length_take]at bq;rw[List.getElem_take]at e;have:=List.pairwise_iff_getElem.1 (Kx l) i j (by omega) J (by omega);rw[e]at this;exact List.lt_irrefl _ this
  obtain⟨cb,b5,b1,H⟩:=Gg (P:=prog) j6 aI O b3 (j:Int);refine⟨cb,b5,_,?_,j+1,by omega,?_,rfl,?_,?_⟩
  ·omega
  ·rw[wrJ];omega
  ·rw[ww J,O9,length_take,Nat.min_eq_left (by omega)];exact b1
  ·exact⟨H.os.trans y.os,H.tape.trans y.tape,H.output.trans y.output,Nat.le_trans y.size H.size,λk ag av=>(H.block k (Nat.lt_of_lt_of_le ag y.size) av).trans (y.block k ag av)⟩
 ·have:j=(va l).length:=by omega
  subst this;rw[take_length]at O;have cc:=F.size;refine⟨_,rfl,⟨I,a1,D,c1,k3,_,_,rfl,ad,rfl,a0.sl (λ_ _ h=>h.elim) (λg y=>ac.mono E.size g y),O,Kx l,by omega,by omega⟩,?_⟩;refine(ae F aa F.size).grown y (by have:=F.size;omega) λk e=>?_;cases e;rw[aj];exact F.size
theorem vU [DecidableEq o]:∀{l m:List o},l.Nodup->(∀x∈l,x∈m)->l.length <=m.length
 |[],m,_,_=>Nat.zero_le _
 |x::l,m,h,D=>by
  have E:=D x mem_cons_self;have y:=List.nodup_cons.1 h;have:=vU (l:=l) (m:=m.erase x) y.2 λG F=>(List.mem_erase_of_ne (λe=>y.1 (by rw[<- e];exact F))).2 (D G (mem_cons_of_mem _ F));rw[List.length_erase_of_mem E]at this;have:=List.length_pos_of_mem E;simp;omega
theorem IW [DecidableEq o]{l m:List o}(h:l.Nodup)(k:m.Nodup)(D:∀x,x∈l↔x∈m):l.length=m.length:=
 Nat.le_antisymm (vU h λx y=>(D x).1 y) (vU k λx y=>(D x).2 y)
def LC:Txt:=[97,98,99,100,101,102,103,104,105,106,107,108,109,110,111,112,113,114,115,116,117,118,119,120,121,122,48,49,50,51,52,53,54,55,56,57,45,95]
def letter (i:Nat):UInt8:=LC[i]?.getD 0
def Tn (n:Nat):Txt:=if h:n=0 then[]else letter ((n-1)%38)::Tn ((n-1)/38)
termination_by n
decreasing_by omega
theorem Ox:Tn 0=[]:=by rw[Tn];rfl
theorem RI {n:Nat}(h:n≠0):Tn n=letter ((n-1)%38)::Tn ((n-1)/38):=by rw[Tn,dif_neg h]
def Dq (n:Nat):Txt:=(Tn n).reverse
def LB (c:UInt8):Nat:=LC.findIdx (· ==c)
def ZB:Txt->Nat
 |[]=>0
 |c::t=>LB c+1+38*ZB t
theorem Bv:∀i,i<38->LB (letter i)=i:=by decide
theorem JE (n:Nat):ZB (Tn n)=n:=by
 induction n using Nat.strongRecOn with
 |_ n y=>
  by_cases h:n=0
  ·subst h;rw[Ox];rfl
  ·rw[RI h,ZB,y _ (by omega),Bv _ (by omega)];omega
theorem PD {a b:Nat}(h:Dq a=Dq b):a=b:=by
 have:=congrArg List.reverse h;simp only[Dq,List.reverse_reverse]at this;rw[<- JE a,this,JE]
def NF (l:List Txt)(n:Nat):Prop:=1 <=n/\Dq n∉l/\∀k,1 <=k->k<n->Dq k∈l
theorem RS {l:List Txt}{n:Nat}(h:∀k,1 <=k->k<n->Dq k∈l):n <=l.length+1:=by
 have:=vU (l:=(List.range' 1 (n-1)).map Dq) (m:=l) (by
  refine List.pairwise_map.2 ((List.nodup_range' (s:=1) (n:=n-1)).imp fun{a b} y e=>y (PD e))) (by
  intro x E;obtain⟨k,D,rfl⟩:=List.mem_map.1 E;rw[List.mem_range'_1]at D;exact h k (by omega) (by omega))
 simp at this;omega
theorem RR (l:List Txt):∃n,NF l n:=by
 have key:∀m,(∀k,1 <=k->k <=m->Dq k∈l)\/∃n,NF l n:=by
  intro m;induction m with
  |zero=>exact .inl λk h1 D=>by omega
  |succ m y=>
   rcases y with y|y
   ·by_cases h:Dq (m+1)∈l
    ·refine .inl λk h1 D=>?_;by_cases E:k=m+1
     ·rw[E];exact h
     ·exact y k h1 (by omega)
    ·exact .inr ⟨m+1,by omega,h,λk h1 D=>y k h1 (by omega)⟩
   ·exact .inr y
 rcases key (l.length+1)with h|h
 ·have:=RS (n:=l.length+2) λk h1 D=>h k h1 (by omega);omega
 ·exact h
noncomputable def UG (l:List Txt):Nat:=Classical.choose (RR l)
noncomputable def WK (l:List Txt):Txt:=Dq (UG l)
def mD (l:List Txt):List Txt:=l.foldl (λout s=>if s∈out then out else out++[s]) []
theorem vf (l:List Txt)(s:Txt):mD (l++[s])=if s∈mD l then mD l else mD l++[s]:=by
 unfold mD;rw[List.foldl_append];rfl
theorem SI {P:List o->Prop}(y:P [])(h1:∀l x,P l->P (l++[x])):∀l,P l:=by
 have key:∀m:List o,P m.reverse:=by
  intro m;induction m with
  |nil=>exact y
  |cons x m D=>rw[List.reverse_cons];exact h1 _ _ D
 intro l;have:=key l.reverse
 rwa [List.reverse_reverse]at this
theorem yr (l:List Txt):(mD l).Nodup/\(∀x,x∈mD l↔x∈l)/\(mD l).length <=l.length:=by
 refine SI (P:=λl=>(mD l).Nodup/\(∀x,x∈mD l↔x∈l)/\(mD l).length <=l.length) ?_ ?_ l
 ·exact⟨List.nodup_nil,λx=>Iff.rfl,Nat.le_refl _⟩
 ·intro l s G;obtain⟨h1,y,H⟩:=G;rw[vf];split
  ·rename_i D;refine⟨h1,λx=>?_,by simp;omega⟩;rw[y,mem_append];refine⟨.inl,λh=>h.elim id λh=>?_⟩;have:x=s:=by simpa using h
   subst this;exact(y x).1 D
  ·rename_i D;refine⟨List.nodup_append.2 ⟨h1,by simp,λa E b F e=>?_⟩,λx=>by rw[mem_append,mem_append,y],by simp;omega⟩;have:b=s:=by simpa using F
   subst this;subst e;exact D E
theorem KF (l:List Txt):∀x,x∈mD l↔x∈va l:=λx=>by rw[(yr l).2.1,Sa]
theorem Fg (l:List Txt):(mD l).length=(va l).length:=IW (yr l).1 (Nc l) (KF l)
noncomputable def Zw (ts:List Txt)(i:Int):Txt:=if i=(ts.length:Int)then WK ts else if 0 <=i/\i<(ts.length:Int)then ts[i.toNat]?.getD []else[]
theorem qD.some {ts:List Txt}(h:qD w p ts):Option.isSome p=true:=by
 obtain⟨b,a,n,c,m,cs,fr,rfl,_⟩:=h;rfl
theorem qD.load0 {ts:List Txt}(h:qD w p ts):∃a n c,(Instr.loadAt aA (.pointer (Option.map (λx=>x.add 0) p))).run prog w=.ok (.slice a n c) w/\Sl tS w qw a n c ts:=by
 obtain⟨b,a,n,c,m,cs,fr,rfl,y,rfl,D,_⟩:=h;refine⟨a,n,c,?_,D⟩;show(Instr.loadAt aA (.pointer (Option.some ((⟨b,0,none⟩:Addr).add 0)))).run prog w=_;rw[gQ];exact il bh rfl (by rw[iW y];rfl)
theorem qD.load1 {ts:List Txt}(h:qD w p ts):∃m,(Instr.loadAt gH (.pointer (Option.map (λx=>x.add 1) p))).run prog w=.ok (.map (Option.some m)) w/\qH w m (Nz ts)/\p.isSome=true:=by
 obtain⟨b,a,n,c,m,cs,fr,rfl,y,rfl,E,D,_⟩:=h;refine⟨m,?_,D,rfl⟩;show(Instr.loadAt gH (.pointer (Option.some ((⟨b,0,none⟩:Addr).add 1)))).run prog w=_;rw[gQ];exact il j6 rfl (by rw[iW y];rfl)
theorem wu (p:Option Addr)(ts:List Txt)(F:ts.length <=1000000)(w:World)(h:qD w p ts):
 Cf aV #[.pointer p] w (Ret λv w'=>v=vI ((ts.length:Int)+1)/\w'=w):=by
 apply pL;obtain⟨a,n,c,D,E⟩:=h.load0;have y:=E.len;refine⟨h.some,h.some,a,n,c,D,?_,rfl⟩;rw[wrJ,y]
end Go.Pk
