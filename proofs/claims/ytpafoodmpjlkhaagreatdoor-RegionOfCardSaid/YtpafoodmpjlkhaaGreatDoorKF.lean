/- What the laws lean on: V31, V32, V33, Elem, PrT, DfaP, DaM, Chg; what is used. Its conditions: none. -/
import Derived.Test.YtpafoodmpjlkhaaGreatDoorKE
set_option linter.unusedVariables false
set_option linter.unusedSimpArgs false
set_option linter.unusedSectionVars false
set_option maxRecDepth 100000
open Go.IntKind (i64)
open Go.Proofs.Tryz
open List (length)
open Option (isSome)
namespace Go.Pk
open Go.RowKit (Below)
open Go.Proofs
theorem un (a:Int)(b:Option Addr){w K}(h:ae (decide (a<(0:Int))) (K (.bool true) w) (∃c,Ld ay b w (vI c)/\K (.bool (decide (a >=c))) w)):Cf bT #[vI a,.pointer b] w (Ret K):=ru func155 [] h
theorem fi (a:Option Addr)(b c:Nat)(d:Option Addr){w K}(h:∃e:Nat->FP [.one (.int .i64)],(∃f,e f (0:Int) w)/\∀f g,aE 12 (∀i,e f g i->ae (decide (g<((b:Nat):Int))) ((bx g ((b:Nat):Int)/\Option.isSome a=true)/\∃j,Ld ay (am a g 1) i (vI j)/\uB bT #[vI j,.pointer d] i λk l=>ae k (K (vI g) l) (∃m:Nat,m<f/\e m (i64.wrap (g+(1:Int))) l)) (K (vI (-1)) i))):Cf bs #[.slice a b c,.func (.func bT) #[] #[.pointer d]] w (Ret K):=ru func202 [(6,[(8,.one (.int .i64))])] h
theorem dX (a:Option Addr)(b c:Nat)(d:Option Addr){w K}(h:uI bs #[.slice a b c,.func (.func bT) #[] #[.pointer d]] w λe f=>K (.bool (decide (e >=(0:Int)))) f):Cf aJ #[.slice a b c,.func (.func bT) #[] #[.pointer d]] w (Ret K):=ru func152 [] h
theorem AP (a b:Int)(c:Option Addr)(d e:Nat)(f:Option Addr)(g i:Nat){w K}(h:nA w (.cells #[vI a,vI b,.slice c d e,.slice f g i] ai) λj k=>true/\∃l m n,Ld aQ (vA j 3) k (.slice l m n)/\nA k (.cells #[vI 0] ay) λo p=>∃q,Sv ay (vA o 0) (vI ((m:Nat):Int)) p q/\∃r:FP [],(true/\∃s,Ld ay (vA j 0) q (vI s)/\ae (decide (s<(1:Int))) (K (.bool false) q) (true/\∃t,Ld ay (vA j 0) q (vI t)/\ae (decide (t>(512:Int))) (K (.bool false) q) (∃u,Ld ay (vA o 0) q (vI u)/\ae (decide (u<(1:Int))) (K (.bool false) q) (∃v,Ld ay (vA o 0) q (vI v)/\ae (decide (v>(65536:Int))) (K (.bool false) q) (true/\∃x y z,Ld aA (vA j 2) q (.slice x y z)/\∃A,Ld ay (vA o 0) q (vI A)/\true/\∃B,Ld ay (vA j 0) q (vI B)/\ae (((y:Nat):Int) !=(i64.wrap (A*B))) (K (.bool false) q) (true/\∃C,Ld ay (vA j 1) q (vI C)/\ae (decide (C<(0:Int))) (K (.bool false) q) (true/\∃D,Ld ay (vA j 1) q (vI D)/\∃E,Ld ay (vA o 0) q (vI E)/\ae (decide (D >=E)) (K (.bool false) q) (r q))))))))/\aE 38 (∀s,r s->true/\∃t u v,Ld aA (vA j 2) s (.slice t u v)/\uB aJ #[.slice t u v,.func (.func bT) #[] #[.pointer (vA o 0)]] s λx y=>K (.bool (!x)) y)):Cf iG #[.agg #[vI a,vI b,.slice c d e,.slice f g i]] w (Ret K):=ru func102 [(4,[])] h
theorem AQ (a b:Int)(c:Option Addr)(d e:Nat)(f:Option Addr)(g i:Nat)(j:Option Addr)(k l:Nat){w K}(h:nA w (.cells #[vI a,vI b,.slice c d e,.slice f g i] ai) λm n=>∃o p q r s t u v,Ld ai (vA m 0) n (.agg #[vI o,vI p,.slice q r s,.slice t u v])/\uB iG #[.agg #[vI o,vI p,.slice q r s,.slice t u v]] n λx y=>ae (!x) (K (.bool false) y) (true/\∃z,Ld ay (vA m 1) y (vI z)/\∃A:Nat->FP [.one (.int .i64),.one (.int .i64)],(∃B,A B z (0:Int) y)/\∀B C D,aE 24 (∀E,A B C D E->ae (decide (D<((k:Nat):Int))) ((bx D ((k:Nat):Int)/\Option.isSome j=true)/\∃F,Ld ay (am j D 1) E (vI F)/\∃G:FP [],(ae (decide (F<(0:Int))) (K (.bool false) E) (true/\∃H,Ld ay (vA m 0) E (vI H)/\ae (decide (F >=H)) (K (.bool false) E) (G E)))/\aE 9 (∀H,G H->true/\∃I J L,Ld aA (vA m 2) H (.slice I J L)/\true/\∃M,Ld ay (vA m 0) H (vI M)/\(bx (i64.wrap ((i64.wrap (C*M))+F)) ((J:Nat):Int)/\Option.isSome I=true)/\∃N,Ld ay (am I (i64.wrap ((i64.wrap (C*M))+F)) 1) H (vI N)/\∃O:Nat,O<B/\A O N (i64.wrap (D+(1:Int))) H)) (true/\∃F G H,Ld aQ (vA m 3) E (.slice F G H)/\(bx C ((G:Nat):Int)/\Option.isSome F=true)/\∃I,Ld bR (am F C 1) E (.bool I)/\K (.bool I) E)))):Cf dC #[.agg #[vI a,vI b,.slice c d e,.slice f g i],.slice j k l] w (Ret K):=ru func82 [(16,[(5,.one (.int .i64)),(15,.one (.int .i64))]),(27,[])] h
theorem qF (a b:Int){w K}(h:(0 <=(32:Int))/\(0 <=(32:Int))/\(0 <=(32:Int))/\(0 <=(32:Int))/\(0 <=(32:Int))/\K (.tuple #[.int .u64 (IntKind.u64.wrap ((IntKind.u64.wrap ((IntKind.u64.wrap ((Int.fdiv a (2 ^ (min (Int.toNat 32) (IntKind.bits .u64))))*(Int.fdiv b (2 ^ (min (Int.toNat 32) (IntKind.bits .u64))))))+(Int.fdiv (IntKind.u64.wrap ((IntKind.u64.wrap ((Int.fdiv a (2 ^ (min (Int.toNat 32) (IntKind.bits .u64))))*(IntKind.u64.wrap (((BitVec.ofInt (IntKind.bits .u64) b) &&& (BitVec.ofInt (IntKind.bits .u64) (4294967295:Int))).toNat:Nat))))+(Int.fdiv (IntKind.u64.wrap ((IntKind.u64.wrap (((BitVec.ofInt (IntKind.bits .u64) a) &&& (BitVec.ofInt (IntKind.bits .u64) (4294967295:Int))).toNat:Nat))*(IntKind.u64.wrap (((BitVec.ofInt (IntKind.bits .u64) b) &&& (BitVec.ofInt (IntKind.bits .u64) (4294967295:Int))).toNat:Nat)))) (2 ^ (min (Int.toNat 32) (IntKind.bits .u64)))))) (2 ^ (min (Int.toNat 32) (IntKind.bits .u64))))))+(Int.fdiv (IntKind.u64.wrap ((IntKind.u64.wrap (((BitVec.ofInt (IntKind.bits .u64) (IntKind.u64.wrap ((IntKind.u64.wrap ((Int.fdiv a (2 ^ (min (Int.toNat 32) (IntKind.bits .u64))))*(IntKind.u64.wrap (((BitVec.ofInt (IntKind.bits .u64) b) &&& (BitVec.ofInt (IntKind.bits .u64) (4294967295:Int))).toNat:Nat))))+(Int.fdiv (IntKind.u64.wrap ((IntKind.u64.wrap (((BitVec.ofInt (IntKind.bits .u64) a) &&& (BitVec.ofInt (IntKind.bits .u64) (4294967295:Int))).toNat:Nat))*(IntKind.u64.wrap (((BitVec.ofInt (IntKind.bits .u64) b) &&& (BitVec.ofInt (IntKind.bits .u64) (4294967295:Int))).toNat:Nat)))) (2 ^ (min (Int.toNat 32) (IntKind.bits .u64))))))) &&& (BitVec.ofInt (IntKind.bits .u64) (4294967295:Int))).toNat:Nat))+(IntKind.u64.wrap ((IntKind.u64.wrap (((BitVec.ofInt (IntKind.bits .u64) a) &&& (BitVec.ofInt (IntKind.bits .u64) (4294967295:Int))).toNat:Nat))*(Int.fdiv b (2 ^ (min (Int.toNat 32) (IntKind.bits .u64)))))))) (2 ^ (min (Int.toNat 32) (IntKind.bits .u64)))))),.int .u64 (IntKind.u64.wrap (a*b))]) w):Cf lp #[.int .u64 a,.int .u64 b] w (Ret K):=ru func204 [] h
theorem sZ (a b:Int){w K}(h:Cf lp #[.int .u64 a,.int .u64 b] w λc d=>∃e f,c=rT #[.int .u64 e,.int .u64 f]/\K (.tuple #[.int .u64 e,.int .u64 f]) d):Cf jQ #[.int .u64 a,.int .u64 b] w (Ret K):=ru func154 [] h
theorem kX (a:Option Addr)(b c:Nat)(d:Int){w K}(h:∃e:FP [],(ae (decide (d<(0:Int))) (False) (e w))/\aE 3 (∀f,e f->Cf jQ #[.int .u64 (IntKind.u64.wrap ((b:Nat):Int)),.int .u64 (IntKind.u64.wrap d)] f λg i=>∃j k,g=rT #[.int .u64 j,.int .u64 k]/\∃l:FP [],(∃m:FP [.one .bool],(ae (decide (j>(0:Int))) (m true i) (m (decide (k>(9223372036854775807:Int))) i))/\∀n,aE 5 (∀o,m n o->ae n (False) (l o)))/\aE 7 (∀m,l m->∃n o p q,(Instr.makeSlice aA (vI (i64.wrap k)) (vI (i64.wrap k))).run prog m=.ok (.slice o p q) n/\∃r s,(Builtin.copy_ #[aA,aA] ay #[.slice o p q,.slice a b c]).run prog n=.ok (vI s) r/\∃t:Nat->FP [.one (.int .i64)],(∃u,t u s r)/\∀u v,aE 13 (∀x,t u v x->ae (decide (v<((p:Nat):Int))) (bd v ((p:Nat):Int)/\bd v ((q:Nat):Int)/\∃y z,(Builtin.copy_ #[aA,aA] ay #[.slice (xh o q (Int.toNat v) 1) (p-(Int.toNat v)) (q-(Int.toNat v)),.slice o (Int.toNat v) q]).run prog (World.drew x)=.ok (vI z) y/\∃A:Nat,A<u/\t A (i64.wrap (v+z)) y) (K (.slice o p q) x))))):Cf aY #[.slice a b c,vI d] w (Ret K):=ru func101 [(2,[]),(10,[]),(11,[(26,.one .bool)]),(22,[(8,.one (.int .i64))])] h
theorem qC (a:Option Addr)(b:Bool)(c:Int){w K}(h:(Option.isSome a=true)/\(Option.isSome a=true)/\(isSome (Option.map (λd=>d.add 0) a))/\∃d e f,Ld aQ (Option.map (λg=>g.add 3) (Option.map (λg=>g.add 0) a)) w (.slice d e f)/\nA w (.cells #[.bool b] bR) λg i=>∃j k l m,(Builtin.append_ #[aQ,aQ] aQ #[.slice d e f,.slice (vA g 0) 1 1]).run prog i=.ok (.slice k l m) j/\(Option.isSome a=true)/\(Option.isSome a=true)/\(isSome (Option.map (λn=>n.add 0) a))/\∃n,Sv aQ (Option.map (λo=>o.add 3) (Option.map (λo=>o.add 0) a)) (.slice k l m) j n/\(Option.isSome a=true)/\(Option.isSome a=true)/\(isSome (Option.map (λo=>o.add 0) a))/\(Option.isSome a=true)/\(Option.isSome a=true)/\(isSome (Option.map (λo=>o.add 0) a))/\∃o p q,(∀r,bW n r->Ld aA (Option.map (λs=>s.add 2) (Option.map (λs=>s.add 0) a)) r (.slice o p q))/\∃r,(∀s,bW n s->Ld ay (Option.map (λt=>t.add 0) (Option.map (λt=>t.add 0) a)) s (vI r))/\∀s,n.heap.size <=s->∃t:FP [.one .slice],(∀u v x y z,t u v x y->bW y z->t u v x z)/\(∀u,bW n u->u.heap[s]? =some (.cells #[vI c] ay)->uL aY #[.slice (vA s 0) 1 1,vI r] u λv x y z=>t v x y z/\bW u z)/\∀u v x,∀y,bW n y->t u v x y->y.heap[s]? =some (.cells #[vI c] ay)->∃z A B C,(Builtin.append_ #[aA,aA] aA #[.slice o p q,.slice u v x]).run prog y=.ok (.slice A B C) z/\(Option.isSome a=true)/\(Option.isSome a=true)/\(isSome (Option.map (λD=>D.add 0) a))/\∃D,Sv aA (Option.map (λE=>E.add 2) (Option.map (λE=>E.add 0) a)) (.slice A B C) z D/\(Option.isSome a=true)/\(Option.isSome a=true)/\(isSome (Option.map (λE=>E.add 0) a))/\∃E F G,Ld aQ (Option.map (λH=>H.add 3) (Option.map (λH=>H.add 0) a)) D (.slice E F G)/\K (vI (i64.wrap (((F:Nat):Int)-(1:Int)))) D):Cf cq #[.pointer a,.bool b,vI c] w (Ret K):=ru func132 [(3000005,[(0,.one .bool),(1,.one .bool),(2,.one .bool),(3,.one .bool),(4,.one .bool),(6,.one .bool),(8,.one .bool),(9,.one .bool),(10,.one .bool),(11,.one .bool),(5,.one .bool),(12,.one .bool),(7,.one .bool),(13,.one .slice)])] h
theorem uo (a:Int)(b:Option Addr){w K}(h:ae (decide (a<(0:Int))) (K (.bool true) w) (∃c,Ld ay b w (vI c)/\K (.bool (decide (a >=c))) w)):Cf bU #[vI a,.pointer b] w (Ret K):=ru func153 [] h
theorem fj (a:Option Addr)(b c:Nat)(d:Option Addr){w K}(h:∃e:Nat->FP [.one (.int .i64)],(∃f,e f (0:Int) w)/\∀f g,aE 12 (∀i,e f g i->ae (decide (g<((b:Nat):Int))) ((bx g ((b:Nat):Int)/\Option.isSome a=true)/\∃j,Ld ay (am a g 1) i (vI j)/\uB bU #[vI j,.pointer d] i λk l=>ae k (K (vI g) l) (∃m:Nat,m<f/\e m (i64.wrap (g+(1:Int))) l)) (K (vI (-1)) i))):Cf bs #[.slice a b c,.func (.func bU) #[] #[.pointer d]] w (Ret K):=ru func202 [(6,[(8,.one (.int .i64))])] h
theorem dY (a:Option Addr)(b c:Nat)(d:Option Addr){w K}(h:uI bs #[.slice a b c,.func (.func bU) #[] #[.pointer d]] w λe f=>K (.bool (decide (e >=(0:Int)))) f):Cf aJ #[.slice a b c,.func (.func bU) #[] #[.pointer d]] w (Ret K):=ru func152 [] h
theorem AR (a:Int)(b:Option Addr)(c d:Nat)(e:Bool){w K}(h:nA w (.cells #[vI a] ay) λf g=>nA g (.cells #[vI 0,vI 0,.slice none 0 0,.slice none 0 0] ai) λi j=>∃k:FP [],(∃l:FP [.one .bool],(∃m,Ld ay (vA f 0) j (vI m)/\ae (decide (m<(1:Int))) (l true j) (∃n,Ld ay (vA f 0) j (vI n)/\ae (decide (n>(512:Int))) (l true j) (uB aJ #[.slice b c d,.func (.func bU) #[] #[.pointer (vA f 0)]] j λo p=>l o p)))/\∀m,aE 10 (∀n,l m n->ae m (∃o,Sv ai (vA i 0) (.agg #[vI 0,vI 0,.slice none 0 0,.slice none 0 0]) n o/\∃p q r s t u v x,Rv ai (vA i 0) o (.agg #[vI p,vI q,.slice r s t,.slice u v x])/\K (.tuple #[.agg #[vI p,vI q,.slice r s t,.slice u v x],vI 151]) o) (k n)))/\aE 13 (∀l,k l->ae (decide (((c:Nat):Int)>(65534:Int))) (∃m,Sv ai (vA i 0) (.agg #[vI 0,vI 0,.slice none 0 0,.slice none 0 0]) l m/\∃n o p q r s t u,Rv ai (vA i 0) m (.agg #[vI n,vI o,.slice p q r,.slice s t u])/\K (.tuple #[.agg #[vI n,vI o,.slice p q r,.slice s t u],vI 152]) m) (∃m,Ld ay (vA f 0) l (vI m)/\nA l (.cells #[vI m,vI 1,.slice none 0 0,.slice none 0 0] iD) λn o=>uI cq #[.pointer (vA n 0),.bool false,vI 0] o λp q=>∃r:Nat->FP [.one (.int .i64)],(∃s,r s (0:Int) q)/\∀s t,aE 21 (∀u,r s t u->ae (decide (t<((c:Nat):Int))) ((bx t ((c:Nat):Int)/\Option.isSome b=true)/\∃v,Ld ay (am b t 1) u (vI v)/\uI cq #[.pointer (vA n 0),.bool false,vI 0] u λx y=>true/\true/\true/\∃z A B,(∀C,bW y C->Ld aA (vA n 2) C (.slice z A B))/\∃C,(∀D,bW y D->Ld ay (vA f 0) D (vI C))/\(bx (i64.wrap ((i64.wrap (x*C))+v)) ((A:Nat):Int)/\Option.isSome z=true)/\∀D,bW y D->∃E,Sv ay (am z (i64.wrap ((i64.wrap (x*C))+v)) 1) (vI (i64.wrap (x+(1:Int)))) D E/\∃F:Nat,F<s/\r F (i64.wrap (t+(1:Int))) E) (true/\true/\true/\∃v x y,Ld aQ (vA n 3) u (.slice v x y)/\∃z:FP [.one (.int .i64)],(ae e (z ((x:Nat):Int) u) (z (0:Int) u))/\∀A,aE 2 (∀B,z A B->uI cq #[.pointer (vA n 0),.bool true,vI A] B λC D=>true/\true/\∃E F G H I J L M,Ld ai (vA n 0) D (.agg #[vI E,vI F,.slice G H I,.slice J L M])/\∃N,Sv ai (vA i 0) (.agg #[vI E,vI F,.slice G H I,.slice J L M]) D N/\∃O P Q R S T U V,Rv ai (vA i 0) N (.agg #[vI O,vI P,.slice Q R S,.slice T U V])/\K (.tuple #[.agg #[vI O,vI P,.slice Q R S,.slice T U V],vI 0]) N)))))):Cf lT #[vI a,.slice b c d,.bool e] w (Ret K):=ru func98 [(2,[]),(3,[(24,.one .bool)]),(26,[(38,.one (.int .i64))]),(3000039,[(0,.one .bool),(1,.one .bool),(2,.one .bool),(3,.one .bool),(5,.one .bool),(8,.one .bool),(10,.one .bool),(11,.one .bool),(4,.one .bool),(6,.one .bool),(7,.one .bool),(9,.one .bool),(12,.one .bool)]),(45,[(13,.one (.int .i64))])] h
theorem Cs (a:Int){w K}(h:nA w (.cells #[vI 0,vI 0,.slice none 0 0,.slice none 0 0] ai) λb c=>∃d:FP [],(∃e:FP [.one .bool],(ae (decide (a<(1:Int))) (e true c) (e (decide (a>(512:Int))) c))/\∀f,aE 5 (∀g,e f g->ae f (∃i,Sv ai (vA b 0) (.agg #[vI 0,vI 0,.slice none 0 0,.slice none 0 0]) g i/\∃j k l m n o p q,Rv ai (vA b 0) i (.agg #[vI j,vI k,.slice l m n,.slice o p q])/\K (.tuple #[.agg #[vI j,vI k,.slice l m n,.slice o p q],vI 151]) i) (d g)))/\aE 8 (∀e,d e->nA e (.cells #[vI a,vI 0,.slice none 0 0,.slice none 0 0] iD) λf g=>uI cq #[.pointer (vA f 0),.bool false,vI 0] g λi j=>true/\true/\∃k l m n o p q r,Ld ai (vA f 0) j (.agg #[vI k,vI l,.slice m n o,.slice p q r])/\∃s,Sv ai (vA b 0) (.agg #[vI k,vI l,.slice m n o,.slice p q r]) j s/\∃t u v x y z A B,Rv ai (vA b 0) s (.agg #[vI t,vI u,.slice v x y,.slice z A B])/\K (.tuple #[.agg #[vI t,vI u,.slice v x y,.slice z A B],vI 0]) s)):Cf lj #[vI a] w (Ret K):=ru func99 [(2,[]),(3,[(10,.one .bool)])] h
theorem Ct (a:Int)(b:Option Addr)(c d:Nat){w K}(h:nA w (.cells #[vI 0,vI 0,.slice none 0 0,.slice none 0 0] ai) λe f=>Cf lT #[vI a,.slice b c d,.bool false] f λg i=>∃j k l m n o p q r,g=rT #[.agg #[vI j,vI k,.slice l m n,.slice o p q],vI r]/\∃s,Sv ai (vA e 0) (.agg #[vI j,vI k,.slice l m n,.slice o p q]) i s/\∃t u v x y z A B,Rv ai (vA e 0) s (.agg #[vI t,vI u,.slice v x y,.slice z A B])/\K (.tuple #[.agg #[vI t,vI u,.slice v x y,.slice z A B],vI r]) s):Cf oU #[vI a,.slice b c d] w (Ret K):=ru func49 [] h
theorem yv (a:Int)(b:Option Addr)(c d:Nat){w K}(h:nA w (.cells #[vI 0,vI 0,.slice none 0 0,.slice none 0 0] ai) λe f=>Cf lT #[vI a,.slice b c d,.bool true] f λg i=>∃j k l m n o p q r,g=rT #[.agg #[vI j,vI k,.slice l m n,.slice o p q],vI r]/\∃s,Sv ai (vA e 0) (.agg #[vI j,vI k,.slice l m n,.slice o p q]) i s/\∃t u v x y z A B,Rv ai (vA e 0) s (.agg #[vI t,vI u,.slice v x y,.slice z A B])/\K (.tuple #[.agg #[vI t,vI u,.slice v x y,.slice z A B],vI r]) s):Cf kz #[vI a,.slice b c d] w (Ret K):=ru func100 [] h
theorem wv (a b:Bool){w K}(h:ae a (K (.bool b) w) (K (.bool false) w)):Cf eI #[.bool a,.bool b] w (Ret K):=ru func74 [] h
theorem j5 (a b:Int)(c:Option Addr)(d e:Nat)(f:Option Addr)(g i:Nat)(j k:Int)(l:Option Addr)(m n:Nat)(o:Option Addr)(p q:Nat){w K}(h:nA w (.cells #[vI a,vI b,.slice c d e,.slice f g i] ai) λr s=>nA s (.cells #[vI j,vI k,.slice l m n,.slice o p q] ai) λt u=>nA u (.cells #[vI 0,vI 0,.slice none 0 0,.slice none 0 0] ai) λv x=>∃y:FP [],(∃z:FP [.one .bool],(∃A B C D E F G H,Ld ai (vA r 0) x (.agg #[vI A,vI B,.slice C D E,.slice F G H])/\uB iG #[.agg #[vI A,vI B,.slice C D E,.slice F G H]] x λI J=>ae (!I) (z true J) (∃L M N O P Q R S,Ld ai (vA t 0) J (.agg #[vI L,vI M,.slice N O P,.slice Q R S])/\uB iG #[.agg #[vI L,vI M,.slice N O P,.slice Q R S]] J λT U=>ae (!T) (z true U) (true/\∃V,Ld ay (vA r 0) U (vI V)/\true/\∃X,Ld ay (vA t 0) U (vI X)/\z (V !=X) U)))/\∀A,aE 14 (∀B,z A B->ae A (∃C,Sv ai (vA v 0) (.agg #[vI 0,vI 0,.slice none 0 0,.slice none 0 0]) B C/\∃D E F G H I J L,Rv ai (vA v 0) C (.agg #[vI D,vI E,.slice F G H,.slice I J L])/\K (.tuple #[.agg #[vI D,vI E,.slice F G H,.slice I J L],vI 151]) C) (y B)))/\aE 17 (∀z,y z->true/\∃A,Ld ay (vA r 0) z (vI A)/\nA z (.cells #[vI A,vI 0,.slice none 0 0,.slice none 0 0] iD) λB C=>true/\∃D,Ld ay (vA r 1) C (vI D)/\true/\∃E,Ld ay (vA t 1) C (vI E)/\nA C (.cells #[vI 0,vI 0] aK) λF G=>∃H,Sv aK (vA F 0) (.agg #[vI D,vI E]) G H/\nA H (.map #[] 0) λI J=>∃L M,Ld aK (vA F 0) J (.agg #[vI L,vI M])/\∃N,(Instr.mapUpdate dp (.map (some I)) (.agg #[vI L,vI M]) (vI 0)).run prog J=.ok () N/\∃O P,Ld aK (vA F 0) N (.agg #[vI O,vI P])/\nA N (.cells #[vI O,vI P] aK) λQ R=>∃S:Nat->FP [.one .slice],(∃T,S T (vA Q 0) 1 1 R)/\∀T U V X,aE 104 (∀Y,S T U V X Y->true/\true/\true/\∃Z aa ac,Ld aQ (vA B 3) Y (.slice Z aa ac)/\ae (decide (((aa:Nat):Int)<((V:Nat):Int))) (true/\true/\true/\∃ad ag al,Ld aQ (vA B 3) Y (.slice ad ag al)/\(bx ((ag:Nat):Int) ((V:Nat):Int)/\Option.isSome U=true)/\∃an ba,Ld aK (am U ((ag:Nat):Int) 2) Y (.agg #[vI an,vI ba])/\nA Y (.cells #[vI 0,vI 0] aK) λbb bc=>∃bd,Sv aK (vA bb 0) (.agg #[vI an,vI ba]) bc bd/\∃bj:FP [.one (.int .i64)],(true/\true/\true/\true/\∃bk bl bn,(∀bq,bW bd bq->Ld aQ (vA r 3) bq (.slice bk bl bn))/\∃bq,(∀bw,bW bd bw->Ld ay (vA bb 0) bw (vI bq))/\(bx bq ((bl:Nat):Int)/\Option.isSome bk=true)/\∃bw,(∀bz,bW bd bz->Ld bR (am bk bq 1) bz (.bool bw))/\∃bz ca cc,(∀ch,bW bd ch->Ld aQ (vA t 3) ch (.slice bz ca cc))/\∃ch,(∀cl,bW bd cl->Ld ay (vA bb 1) cl (vI ch))/\(bx ch ((ca:Nat):Int)/\Option.isSome bz=true)/\∃cl,(∀cm,bW bd cm->Ld bR (am bz ch 1) cm (.bool cl))/\∀cm,bW bd cm->uB eI #[.bool bw,.bool cl] cm λcn cp=>uI cq #[.pointer (vA B 0),.bool cn,vI 0] cp λcs cx=>bj cs cx)/\∀bk,aE 16 (∀bl,bj bk bl->true/\∃bn,Ld ay (vA r 0) bl (vI bn)/\∃bq:Nat->FP [.one .slice,.one (.int .i64)],(∃bw,bq bw U V X (0:Int) bl)/\∀bw bz ca cc ch,aE 60 (∀cl,bq bw bz ca cc ch cl->ae (decide (ch<bn)) (true/\true/\true/\true/\true/\true/\∃cm cn cp,(∀cs,bW cl cs->Ld aA (vA r 2) cs (.slice cm cn cp))/\∃cs,(∀cx,bW cl cx->Ld ay (vA bb 0) cx (vI cs))/\∃cx,(∀da,bW cl da->Ld ay (vA r 0) da (vI cx))/\(bx (i64.wrap ((i64.wrap (cs*cx))+ch)) ((cn:Nat):Int)/\Option.isSome cm=true)/\∃da,(∀db,bW cl db->Ld ay (am cm (i64.wrap ((i64.wrap (cs*cx))+ch)) 1) db (vI da))/\∃db dc dd,(∀dg,bW cl dg->Ld aA (vA t 2) dg (.slice db dc dd))/\∃dg,(∀dk,bW cl dk->Ld ay (vA bb 1) dk (vI dg))/\∃dk,(∀dl,bW cl dl->Ld ay (vA t 0) dl (vI dk))/\(bx (i64.wrap ((i64.wrap (dg*dk))+ch)) ((dc:Nat):Int)/\Option.isSome db=true)/\∃dl,(∀dn,bW cl dn->Ld ay (am db (i64.wrap ((i64.wrap (dg*dk))+ch)) 1) dn (vI dl))/\∀dn,cl.heap.size <=dn->∀dr,bW cl dr->dr.heap[dn]? =some (.cells #[vI 0,vI 0] aK)->∃ds,Sv aK (vA dn 0) (.agg #[vI da,vI dl]) dr ds/\∃ea eb,Ld aK (vA dn 0) ds (.agg #[vI ea,vI eb])/\∃ec ed,(Instr.lookup dp (.map (some I)) (.agg #[vI ea,vI eb]) true).run prog ds=.ok (.tuple #[vI ec,.bool ed]) ds/\∃ef:FP [.one .slice,.one (.int .i64)],(ae (!ed) (∃eg eh,Ld aK (vA dn 0) ds (.agg #[vI eg,vI eh])/\∃ei,(Instr.mapUpdate dp (.map (some I)) (.agg #[vI eg,vI eh]) (vI ((ca:Nat):Int))).run prog ds=.ok () ei/\∃ej ek,Ld aK (vA dn 0) ei (.agg #[vI ej,vI ek])/\nA ei (.cells #[vI ej,vI ek] aK) λel em=>∃en eo eq er,(Builtin.append_ #[gT,gT] gT #[.slice bz ca cc,.slice (vA el 0) 1 1]).run prog em=.ok (.slice eo eq er) en/\ef eo eq er ((ca:Nat):Int) en) (ef bz ca cc ec ds))/\∀eg eh ei ej,aE 11 (∀ek,ef eg eh ei ej ek->true/\true/\true/\true/\∃el em en,(∀eo,bW ek eo->Ld aA (vA B 2) eo (.slice el em en))/\∃eo,(∀eq,bW ek eq->Ld ay (vA r 0) eq (vI eo))/\(bx (i64.wrap ((i64.wrap (bk*eo))+ch)) ((em:Nat):Int)/\Option.isSome el=true)/\∀eq,bW ek eq->∃er,Sv ay (am el (i64.wrap ((i64.wrap (bk*eo))+ch)) 1) (vI ej) eq er/\∃es:Nat,es<bw/\bq es eg eh ei (i64.wrap (ch+(1:Int))) er)) (ae (decide (((ca:Nat):Int)>(65536:Int))) (∃cm,Sv ai (vA v 0) (.agg #[vI 0,vI 0,.slice none 0 0,.slice none 0 0]) cl cm/\∃cn cp cs cx da db dc dd,Rv ai (vA v 0) cm (.agg #[vI cn,vI cp,.slice cs cx da,.slice db dc dd])/\K (.tuple #[.agg #[vI cn,vI cp,.slice cs cx da,.slice db dc dd],vI 152]) cm) (∃cm:Nat,cm<T/\S cm bz ca cc cl))))) (true/\true/\∃ad ag al an ba bb bc bd,Ld ai (vA B 0) Y (.agg #[vI ad,vI ag,.slice al an ba,.slice bb bc bd])/\∃bj,Sv ai (vA v 0) (.agg #[vI ad,vI ag,.slice al an ba,.slice bb bc bd]) Y bj/\∃bk bl bn bq bw bz ca cc,Rv ai (vA v 0) bj (.agg #[vI bk,vI bl,.slice bn bq bw,.slice bz ca cc])/\K (.tuple #[.agg #[vI bk,vI bl,.slice bn bq bw,.slice bz ca cc],vI 0]) bj)))):Cf lV #[.agg #[vI a,vI b,.slice c d e,.slice f g i],.agg #[vI j,vI k,.slice l m n,.slice o p q],.func (.func eI) #[] #[]] w (Ret K):=ru func73 [(2,[]),(3,[(32,.one .bool)]),(20,[(11,.one .slice)]),(30,[(13,.one (.int .i64))]),(1000031,[]),(3000031,[(0,.one .bool),(1,.one .bool),(2,.one .bool),(4,.one .bool),(8,.one .bool),(10,.one .bool),(3,.one .bool),(5,.one .bool),(6,.one .bool),(7,.one .bool),(9,.one .bool),(11,.one .bool),(12,.one .bool),(13,.one .bool)]),(36,[(11,.one .slice),(85,.one (.int .i64))]),(3000048,[(0,.one .bool),(2,.one .bool),(4,.one .bool),(7,.one .bool),(11,.one .bool),(13,.one .bool),(15,.one .bool),(18,.one .bool),(1,.one .bool),(3,.one .bool),(5,.one .bool),(6,.one .bool),(8,.one .bool),(9,.one .bool),(10,.one .bool),(12,.one .bool),(14,.one .bool),(16,.one .bool),(17,.one .bool),(19,.one .bool),(20,.one .bool),(21,.one .bool),(22,.one .bool),(23,.one .bool)]),(51,[(11,.one .slice),(16,.one (.int .i64))]),(3000061,[(0,.one .bool),(1,.one .bool),(2,.one .bool),(3,.one .bool),(5,.one .bool),(6,.one .bool),(9,.one .bool),(11,.one .bool),(4,.one .bool),(7,.one .bool),(8,.one .bool),(10,.one .bool),(12,.one .bool)])] h
theorem Cr (a b:Int)(c:Option Addr)(d e:Nat)(f:Option Addr)(g i:Nat)(j k:Int)(l:Option Addr)(m n:Nat)(o:Option Addr)(p q:Nat){w K}(h:nA w (.cells #[vI a,vI b,.slice c d e,.slice f g i] ai) λr s=>nA s (.cells #[vI j,vI k,.slice l m n,.slice o p q] ai) λt u=>nA u (.cells #[vI 0,vI 0,.slice none 0 0,.slice none 0 0] ai) λv x=>∃y z A B C D E F,Ld ai (vA r 0) x (.agg #[vI y,vI z,.slice A B C,.slice D E F])/\∃G H I J L M N O,Ld ai (vA t 0) x (.agg #[vI G,vI H,.slice I J L,.slice M N O])/\Cf lV #[.agg #[vI y,vI z,.slice A B C,.slice D E F],.agg #[vI G,vI H,.slice I J L,.slice M N O],.func (.func eI) #[] #[]] x λP Q=>∃R S T U V X Y Z aa,P=rT #[.agg #[vI R,vI S,.slice T U V,.slice X Y Z],vI aa]/\∃ac,Sv ai (vA v 0) (.agg #[vI R,vI S,.slice T U V,.slice X Y Z]) Q ac/\∃ad ag al an ba bb bc bd,Rv ai (vA v 0) ac (.agg #[vI ad,vI ag,.slice al an ba,.slice bb bc bd])/\K (.tuple #[.agg #[vI ad,vI ag,.slice al an ba,.slice bb bc bd],vI aa]) ac):Cf cF #[.agg #[vI a,vI b,.slice c d e,.slice f g i],.agg #[vI j,vI k,.slice l m n,.slice o p q]] w (Ret K):=ru func31 [] h
theorem lC (a:Option Addr)(b c:Nat)(d:Int){w K}(h:∃e:Nat->FP [.one (.int .i64)],(∃f,e f (0:Int) w)/\∀f g,aE 12 (∀i,e f g i->ae (decide (g<((b:Nat):Int))) ((bx g ((b:Nat):Int)/\Option.isSome a=true)/\∃j,Ld ay (am a g 1) i (vI j)/\ae (d==j) (K (vI g) i) (∃k:Nat,k<f/\e k (i64.wrap (g+(1:Int))) i)) (K (vI (-1)) i))):Cf ix #[.slice a b c,vI d] w (Ret K):=ru func151 [(6,[(8,.one (.int .i64))])] h
theorem j9 (a:Option Addr)(b c:Nat)(d:Int){w K}(h:uI ix #[.slice a b c,vI d] w λe f=>K (.bool (decide (e >=(0:Int)))) f):Cf dE #[.slice a b c,vI d] w (Ret K):=ru func97 [] h
theorem fS (a:Option Addr)(b c:Nat)(d:Bool){w K}(h:∃e:Nat->FP [.one (.int .i64)],(∃f,e f (0:Int) w)/\∀f g,aE 12 (∀i,e f g i->ae (decide (g<((b:Nat):Int))) ((bx g ((b:Nat):Int)/\Option.isSome a=true)/\∃j,Ld bR (am a g 1) i (.bool j)/\ae (d==j) (K (vI g) i) (∃k:Nat,k<f/\e k (i64.wrap (g+(1:Int))) i)) (K (vI (-1)) i))):Cf bC #[.slice a b c,.bool d] w (Ret K):=ru func90 [(6,[(8,.one (.int .i64))])] h
theorem tl (a:Int){w K}(h:ae (decide (a<(1:Int))) (K (.bool true) w) (K (.bool (decide (a>(1048576:Int)))) w)):Cf bN #[vI a] w (Ret K):=ru func156 [] h
theorem fe (a:Option Addr)(b c:Nat){w K}(h:∃d:Nat->FP [.one (.int .i64)],(∃e,d e (0:Int) w)/\∀e f,aE 12 (∀g,d e f g->ae (decide (f<((b:Nat):Int))) ((bx f ((b:Nat):Int)/\Option.isSome a=true)/\∃i,Ld ay (am a f 1) g (vI i)/\uB bN #[vI i] g λj k=>ae j (K (vI f) k) (∃l:Nat,l<e/\d l (i64.wrap (f+(1:Int))) k)) (K (vI (-1)) g))):Cf bs #[.slice a b c,.func (.func bN) #[] #[]] w (Ret K):=ru func202 [(6,[(8,.one (.int .i64))])] h
theorem dV (a:Option Addr)(b c:Nat){w K}(h:uI bs #[.slice a b c,.func (.func bN) #[] #[]] w λd e=>K (.bool (decide (d >=(0:Int)))) e):Cf aJ #[.slice a b c,.func (.func bN) #[] #[]] w (Ret K):=ru func152 [] h
theorem yK (a:Option Addr)(b c:Nat){w K}(h:uB aJ #[.slice a b c,.func (.func bN) #[] #[]] w λd e=>K (.bool (!d)) e):Cf nC #[.slice a b c] w (Ret K):=ru func103 [] h
theorem j7 (a:Option Addr)(b c:Nat){w K}(h:K (vI ((b:Nat):Int)) w):Cf iJ #[.slice a b c] w (Ret K):=ru func278 [] h
theorem pe (a:Option Addr)(b c:Nat)(d e:Int){w K}(h:(bx d ((b:Nat):Int)/\Option.isSome a=true)/\(isSome (am a d 2))/\∃f,(∀g,bW w g->Ld ay (Option.map (λi=>i.add 0) (am a d 2)) g (vI f))/\(bx e ((b:Nat):Int)/\Option.isSome a=true)/\(isSome (am a e 2))/\∃g,(∀i,bW w i->Ld ay (Option.map (λj=>j.add 0) (am a e 2)) i (vI g))/\∀i,bW w i->K (.bool (decide (f<g))) i):Cf du #[.slice a b c,vI d,vI e] w (Ret K):=ru func279 [] h
theorem pg (a:Option Addr)(b c:Nat)(d e:Int){w K}(h:(bx e ((b:Nat):Int)/\Option.isSome a=true)/\(bx d ((b:Nat):Int)/\Option.isSome a=true)/\∃f g,(∀i,bW w i->Ld aC (am a e 2) i (.agg #[vI f,vI g]))/\∃i j,(∀k,bW w k->Ld aC (am a d 2) k (.agg #[vI i,vI j]))/\(bx d ((b:Nat):Int)/\Option.isSome a=true)/\∀k,bW w k->∃l,Sv aC (am a d 2) (.agg #[vI f,vI g]) k l/\(bx e ((b:Nat):Int)/\Option.isSome a=true)/\∃m,Sv aC (am a e 2) (.agg #[vI i,vI j]) l m/\K (.tuple #[]) m):Cf dv #[.slice a b c,vI d,vI e] w (Ret K):=ru func280 [(3000000,[(0,.one .bool),(1,.one .bool),(2,.one .bool),(3,.one .bool),(4,.one .bool),(5,.one .bool),(6,.one .bool),(8,.one .bool),(9,.one .bool),(10,.one .bool),(7,.one .bool),(11,.one .bool),(12,.one .bool)])] h
theorem pf (a:Option Addr)(b:Value){w K}(h:(Option.isSome a=true)/\∃c d e,(∀f,bW w f->Ld aH a f (.slice c d e))/\∃f g,(∀i,bW w i->(Instr.typeAssert b qm aC false).run prog i=.ok (.agg #[vI f,vI g]) i)/\∀i,w.heap.size <=i->∀j,bW w j->j.heap[i]? =some (.cells #[vI f,vI g] aC)->∃k l m n,(Builtin.append_ #[aH,aH] aH #[.slice c d e,.slice (vA i 0) 1 1]).run prog j=.ok (.slice l m n) k/\(Option.isSome a=true)/\∃o,Sv aH a (.slice l m n) k o/\K (.tuple #[]) o):Cf gX #[.pointer a,b] w (Ret K):=ru func282 [(3000000,[(0,.one .bool),(1,.one .bool),(2,.one .bool),(4,.one .bool),(3,.one .bool),(5,.one .bool),(6,.one .bool)])] h
theorem qG (a:Option Addr){w K}(h:(Option.isSome a=true)/\(Option.isSome a=true)/\∃b c d,(∀e,bW w e->Ld aH a e (.slice b c d))/\∃e f g,(∀i,bW w i->Ld aH a i (.slice e f g))/\(bx (i64.wrap (((f:Nat):Int)-(1:Int))) ((c:Nat):Int)/\Option.isSome b=true)/\∃i j,(∀k,bW w k->Ld aC (am b (i64.wrap (((f:Nat):Int)-(1:Int))) 2) k (.agg #[vI i,vI j]))/\∀k,w.heap.size <=k->∀l,bW w l->l.heap[k]? =some (.cells #[vI 0,vI 0] aC)->∃m,Sv aC (vA k 0) (.agg #[vI i,vI j]) l m/\(Option.isSome a=true)/\(Option.isSome a=true)/\∃n o p,(∀q,bW m q->Ld aH a q (.slice n o p))/\∃q r s,(∀t,bW m t->Ld aH a t (.slice q r s))/\bd (i64.wrap (((r:Nat):Int)-(1:Int))) ((p:Nat):Int)/\(Option.isSome a=true)/\∀t,bW m t->∃u,Sv aH a (.slice n (Int.toNat (i64.wrap (((r:Nat):Int)-(1:Int)))) p) t u/\∃v x,Ld aC (vA k 0) u (.agg #[vI v,vI x])/\K (.iface aC (.agg #[vI v,vI x])) u):Cf iK #[.pointer a] w (Ret K):=ru func281 [(3000003,[(0,.one .bool),(1,.one .bool),(3,.one .bool),(4,.one .bool),(2,.one .bool),(5,.one .bool),(6,.one .bool),(7,.one .bool),(8,.one .bool),(9,.one .bool),(10,.one .bool)]),(3000005,[(0,.one .bool),(1,.one .bool),(2,.one .bool),(4,.one .bool),(5,.one .bool),(3,.one .bool),(6,.one .bool),(7,.one .bool),(8,.one .bool),(9,.one .bool),(10,.one .bool)])] h
theorem gC (a:Addr)(b:Int){w K}(h:∃c:Nat->FP [.one (.int .i64)],(∃d,c d b w)/\∀d e,aE 19 (∀f,c d e f->((2:Int)≠0)/\∀g,g=(i64.wrap (Int.tdiv (i64.wrap (e-(1:Int))) (2:Int)))->∃i:FP [],(ae (g==e) (K (.tuple #[]) f) (∃j k l,Ld aH (some a) f (.slice j k l)/\uB du #[.slice j k l,vI e,vI g] f λm n=>ae (!m) (K (.tuple #[]) n) (i n)))/\aE 10 (∀j,i j->∃k l m,Ld aH (some a) j (.slice k l m)/\uU dv #[.slice k l m,vI g,vI e] j λn=>∃o:Nat,o<d/\c o g n))):Cf gz #[.iface aP (.pointer (some a)),vI b] w (Ret K):=ru func205 [(1,[(1,.one (.int .i64))]),(5,[])] h
theorem gd (a:Addr)(b c:Int){w K}(h:∃d:Nat->FP [.one (.int .i64)],(∃e,d e b w)/\∀e f,aE 36 (∀g,d e f g->∃i:FP [],(ae (decide ((i64.wrap ((i64.wrap ((2:Int)*f))+(1:Int))) >=c)) (K (.bool (decide (f>b))) g) (ae (decide ((i64.wrap ((i64.wrap ((2:Int)*f))+(1:Int)))<(0:Int))) (K (.bool (decide (f>b))) g) (i g)))/\aE 7 (∀j,i j->∃k:FP [.one (.int .i64)],(ae (decide ((i64.wrap ((i64.wrap ((i64.wrap ((2:Int)*f))+(1:Int)))+(1:Int)))<c)) (∃l m n,Ld aH (some a) j (.slice l m n)/\uB du #[.slice l m n,vI (i64.wrap ((i64.wrap ((i64.wrap ((2:Int)*f))+(1:Int)))+(1:Int))),vI (i64.wrap ((i64.wrap ((2:Int)*f))+(1:Int)))] j λo p=>ae o (k (i64.wrap ((i64.wrap ((i64.wrap ((2:Int)*f))+(1:Int)))+(1:Int))) p) (k (i64.wrap ((i64.wrap ((2:Int)*f))+(1:Int))) p)) (k (i64.wrap ((i64.wrap ((2:Int)*f))+(1:Int))) j))/\∀l,aE 13 (∀m,k l m->∃n o p,Ld aH (some a) m (.slice n o p)/\uB du #[.slice n o p,vI l,vI f] m λq r=>ae (!q) (K (.bool (decide (f>b))) r) (∃s t u,Ld aH (some a) r (.slice s t u)/\uU dv #[.slice s t u,vI f,vI l] r λv=>∃x:Nat,x<e/\d x l v))))):Cf fC #[.iface aP (.pointer (some a)),vI b,vI c] w (Ret K):=ru func206 [(6,[(7,.one (.int .i64))]),(10,[]),(18,[(9,.one (.int .i64))])] h
theorem fZ (a:Addr)(b:Value){w K}(h:uU gX #[.pointer (some a),b] w λc=>∃d e f,Ld aH (some a) c (.slice d e f)/\uI iJ #[.slice d e f] c λg i=>uU gz #[.iface aP (.pointer (some a)),vI (i64.wrap (g-(1:Int)))] i λj=>K (.tuple #[]) j):Cf dt #[.iface aP (.pointer (some a)),b] w (Ret K):=ru func157 [] h
theorem gr (a:Addr){w K}(h:∃b c d,Ld aH (some a) w (.slice b c d)/\uI iJ #[.slice b c d] w λe f=>∃g i j,Ld aH (some a) f (.slice g i j)/\uU dv #[.slice g i j,vI 0,vI (i64.wrap (e-(1:Int)))] f λk=>uB fC #[.iface aP (.pointer (some a)),vI 0,vI (i64.wrap (e-(1:Int)))] k λl m=>uV iK #[.pointer (some a)] m λn o=>K n o):Cf fX #[.iface aP (.pointer (some a))] w (Ret K):=ru func159 [] h
theorem yJ (a b:Int)(c:Option Addr)(d e:Nat)(f:Option Addr)(g i:Nat){w K}(h:nA w (.cells #[vI a,vI b,.slice c d e,.slice f g i] ai) λj k=>true/\∃l m n,Ld aQ (vA j 3) k (.slice l m n)/\∃o p q r,(Instr.makeSlice iE (vI ((m:Nat):Int)) (vI ((m:Nat):Int))).run prog k=.ok (.slice p q r) o/\true/\∃s t u,Ld aA (vA j 2) o (.slice s t u)/\∃v:Nat->FP [.one (.int .i64)],(∃x,v x (0:Int) o)/\∀x y,aE 25 (∀z,v x y z->ae (decide (y<((t:Nat):Int))) ((bx y ((t:Nat):Int)/\Option.isSome s=true)/\∃A,Ld ay (am s y 1) z (vI A)/\(bx A ((q:Nat):Int)/\Option.isSome p=true)/\true/\true/\∃B C D,(∀E,bW z E->Ld bo (am p A 1) E (.slice B C D))/\∃E,(∀F,bW z F->Ld ay (vA j 0) F (vI E))/\(E≠0)/\∀F,F=(i64.wrap (Int.tdiv y E))->∃G,(∀H,bW z H->Ld ay (vA j 0) H (vI G))/\(G≠0)/\∀H,H=(Int.tmod y G)->∀I,z.heap.size <=I->∀J,bW z J->J.heap[I]? =some (.cells #[vI F,vI H] dx)->∃L M N O,(Builtin.append_ #[bo,bo] bo #[.slice B C D,.slice (vA I 0) 1 1]).run prog J=.ok (.slice M N O) L/\(bx A ((q:Nat):Int)/\Option.isSome p=true)/\∃P,Sv bo (am p A 1) (.slice M N O) L P/\∃Q:Nat,Q<x/\v Q (i64.wrap (y+(1:Int))) P) (K (.slice p q r) z))):Cf nB #[.agg #[vI a,vI b,.slice c d e,.slice f g i]] w (Ret K):=ru func158 [(8,[(13,.one (.int .i64))]),(3000019,[(0,.one .bool),(1,.one .bool),(2,.one .bool),(3,.one .bool),(4,.one .bool),(6,.one .bool),(7,.one .bool),(10,.one .bool),(11,.one .bool),(5,.one .bool),(8,.one .bool),(9,.one .bool),(12,.one .bool),(13,.one .bool),(14,.one .bool),(15,.one .bool)])] h
theorem yL (a b:Int)(c:Option Addr)(d e:Nat)(f:Option Addr)(g i:Nat)(j:Option Addr)(k l:Nat){w K}(h:nA w (.cells #[vI a,vI b,.slice c d e,.slice f g i] ai) λm n=>nA n (.cells #[vI 9223372036854775807] ay) λo p=>true/\∃q r s,Ld aQ (vA m 3) p (.slice q r s)/\uL aY #[.slice (vA o 0) 1 1,vI ((r:Nat):Int)] p λt u v x=>nA x (.cells #[.slice none 0 0] aH) λy z=>true/\∃A B C,Ld aQ (vA m 3) z (.slice A B C)/\∃D:Nat->FP [.one (.int .i64)],(∃E,D E (0:Int) z)/\∀E F,aE 16 (∀G,D E F G->ae (decide (F<((B:Nat):Int))) ((bx F ((B:Nat):Int)/\Option.isSome A=true)/\∃H,Ld bR (am A F 1) G (.bool H)/\ae H ((bx F ((u:Nat):Int)/\Option.isSome t=true)/\∃I,Sv ay (am t F 1) (vI 0) G I/\uU dt #[.iface aP (.pointer (vA y 0)),.iface aC (.agg #[vI 0,vI F])] I λJ=>∃L:Nat,L<E/\D L (i64.wrap (F+(1:Int))) J) (∃I:Nat,I<E/\D I (i64.wrap (F+(1:Int))) G)) (∃H I J L M N O P,Ld ai (vA m 0) G (.agg #[vI H,vI I,.slice J L M,.slice N O P])/\uL nB #[.agg #[vI H,vI I,.slice J L M,.slice N O P]] G λQ R S T=>∃U:Nat->FP [],(∃V,U V T)/\∀V,aE 55 (∀X,U V X->∃Y Z aa,Ld aH (vA y 0) X (.slice Y Z aa)/\ae (decide (((Z:Nat):Int)>(0:Int))) (uV fX #[.iface aP (.pointer (vA y 0))] X λac ad=>∃ag al,(Instr.typeAssert ac qm aC false).run prog ad=.ok (.agg #[vI ag,vI al]) ad/\nA ad (.cells #[vI 0,vI 0] aC) λan ba=>∃bb,Sv aC (vA an 0) (.agg #[vI ag,vI al]) ba bb/\true/\∃bc,(∀bd,bW bb bd->Ld ay (vA an 0) bd (vI bc))/\true/\∃bd,(∀bj,bW bb bj->Ld ay (vA an 1) bj (vI bd))/\(bx bd ((u:Nat):Int)/\Option.isSome t=true)/\∃bj,(∀bk,bW bb bk->Ld ay (am t bd 1) bk (vI bj))/\∀bk,bW bb bk->ae (decide (bc>bj)) (∃bl:Nat,bl<V/\U bl bk) (true/\∃bl,Ld ay (vA an 1) bk (vI bl)/\(bx bl ((R:Nat):Int)/\Option.isSome Q=true)/\∃bn bq bw,Ld bo (am Q bl 1) bk (.slice bn bq bw)/\∃bz:Nat->FP [.one (.int .i64)],(∃ca,bz ca (0:Int) bk)/\∀ca cc,aE 33 (∀ch,bz ca cc ch->ae (decide (cc<((bq:Nat):Int))) ((bx cc ((bq:Nat):Int)/\Option.isSome bn=true)/\∃cl cm,Ld dx (am bn cc 2) ch (.agg #[vI cl,vI cm])/\nA ch (.cells #[vI 0,vI 0] dx) λcn cp=>∃cs,Sv dx (vA cn 0) (.agg #[vI cl,vI cm]) cp cs/\true/\∃cx,(∀da,bW cs da->Ld ay (vA an 0) da (vI cx))/\true/\∃da,(∀db,bW cs db->Ld ay (vA cn 1) db (vI da))/\(bx da ((k:Nat):Int)/\Option.isSome j=true)/\∃db,(∀dc,bW cs dc->Ld ay (am j da 1) dc (vI db))/\∀dc,bW cs dc->true/\∃dd,Ld ay (vA cn 0) dc (vI dd)/\(bx dd ((u:Nat):Int)/\Option.isSome t=true)/\∃dg,Ld ay (am t dd 1) dc (vI dg)/\ae (decide ((i64.wrap (cx+db))<dg)) (true/\∃dk,Ld ay (vA cn 0) dc (vI dk)/\(bx dk ((u:Nat):Int)/\Option.isSome t=true)/\∃dl,Sv ay (am t dk 1) (vI (i64.wrap (cx+db))) dc dl/\true/\∃dn,Ld ay (vA cn 0) dl (vI dn)/\uU dt #[.iface aP (.pointer (vA y 0)),.iface aC (.agg #[vI (i64.wrap (cx+db)),vI dn])] dl λdr=>∃ds:Nat,ds<ca/\bz ds (i64.wrap (cc+(1:Int))) dr) (∃dk:Nat,dk<ca/\bz dk (i64.wrap (cc+(1:Int))) dc)) (∃cl:Nat,cl<V/\U cl ch)))) (K (.slice t u v) X))))):Cf nE #[.agg #[vI a,vI b,.slice c d e,.slice f g i],.slice j k l] w (Ret K):=ru func104 [(10,[(22,.one (.int .i64))]),(33,[]),(52,[(59,.one (.int .i64))])] h
theorem wZ (a b:Int)(c:Option Addr)(d e:Nat)(f:Option Addr)(g i:Nat)(j:Option Addr)(k l:Nat)(m:Int){w K}(h:nA w (.cells #[vI a,vI b,.slice c d e,.slice f g i] ai) λn o=>∃p:FP [],(∃q r s t u v x y,Ld ai (vA n 0) o (.agg #[vI q,vI r,.slice s t u,.slice v x y])/\uB iG #[.agg #[vI q,vI r,.slice s t u,.slice v x y]] o λz A=>ae (!z) (K (.tuple #[.slice none 0 0,.bool false,vI 151]) A) (true/\∃B,Ld ay (vA n 0) A (vI B)/\ae (((k:Nat):Int) !=B) (K (.tuple #[.slice none 0 0,.bool false,vI 151]) A) (uB nC #[.slice j k l] A λC D=>ae (!C) (K (.tuple #[.slice none 0 0,.bool false,vI 151]) D) (p D))))/\aE 18 (∀q,p q->∃r s t u v x y z,Ld ai (vA n 0) q (.agg #[vI r,vI s,.slice t u v,.slice x y z])/\uL nE #[.agg #[vI r,vI s,.slice t u v,.slice x y z],.slice j k l] q λA B C D=>∃E:FP [],(true/\∃F,Ld ay (vA n 1) D (vI F)/\(bx F ((B:Nat):Int)/\Option.isSome A=true)/\∃G,Ld ay (am A F 1) D (vI G)/\ae (decide (G>m)) (K (.tuple #[.slice none 0 0,.bool false,vI 0]) D) (true/\∃H,Ld ay (vA n 1) D (vI H)/\(bx H ((B:Nat):Int)/\Option.isSome A=true)/\∃I,Ld ay (am A H 1) D (vI I)/\ae (I==(9223372036854775807:Int)) (K (.tuple #[.slice none 0 0,.bool false,vI 0]) D) (E D)))/\aE 18 (∀F,E F->true/\∃G,Ld ay (vA n 1) F (vI G)/\∃H:Nat->FP [.one .slice,.one (.int .i64)],(∃I,H I none 0 0 G F)/\∀I J L M N,aE 49 (∀O,H I J L M N O->(bx N ((B:Nat):Int)/\Option.isSome A=true)/\∃P,Ld ay (am A N 1) O (vI P)/\ae (decide (P>(0:Int))) (true/\∃Q,Ld ay (vA n 0) O (vI Q)/\∃R:Nat->FP [.one .slice,.one (.int .i64),.one (.int .i64)],(∃S,R S J L M N (0:Int) O)/\∀S T U V X Y,aE 41 (∀Z,R S T U V X Y Z->ae (decide (Y<Q)) (true/\∃aa ac ad,Ld aA (vA n 2) Z (.slice aa ac ad)/\true/\∃ag,Ld ay (vA n 0) Z (vI ag)/\(bx (i64.wrap ((i64.wrap (X*ag))+Y)) ((ac:Nat):Int)/\Option.isSome aa=true)/\∃al,Ld ay (am aa (i64.wrap ((i64.wrap (X*ag))+Y)) 1) Z (vI al)/\∃an:FP [.one .bool],((bx al ((B:Nat):Int)/\Option.isSome A=true)/\∃ba,(∀bb,bW Z bb->Ld ay (am A al 1) bb (vI ba))/\ae (decide (ba<(9223372036854775807:Int))) ((bx al ((B:Nat):Int)/\Option.isSome A=true)/\∃bb,(∀bc,bW Z bc->Ld ay (am A al 1) bc (vI bb))/\(bx Y ((k:Nat):Int)/\Option.isSome j=true)/\∃bc,(∀bd,bW Z bd->Ld ay (am j Y 1) bd (vI bc))/\(bx X ((B:Nat):Int)/\Option.isSome A=true)/\∃bd,(∀bj,bW Z bj->Ld ay (am A X 1) bj (vI bd))/\∀bj,bW Z bj->an ((i64.wrap (bb+bc))==bd) bj) (∀bb,bW Z bb->an false bb))/\∀ba,aE 20 (∀bb,an ba bb->ae ba (nA bb (.cells #[vI Y] ay) λbc bd=>∃bj bk bl bn,(Builtin.append_ #[aA,aA] aA #[.slice T U V,.slice (vA bc 0) 1 1]).run prog bd=.ok (.slice bk bl bn) bj/\∃bq:Nat,bq<I/\H bq bk bl bn al bj) (∃bc:Nat,bc<S/\R bc T U V X (i64.wrap (Y+(1:Int))) bb))) (∃aa:Nat,aa<I/\H aa T U V X Z))) (K (.tuple #[.slice J L M,.bool true,vI 0]) O))))):Cf eS #[.agg #[vI a,vI b,.slice c d e,.slice f g i],.slice j k l,vI m] w (Ret K):=ru func53 [(2,[]),(12,[]),(26,[(10,.one .slice),(11,.one (.int .i64))]),(37,[(10,.one .slice),(11,.one (.int .i64)),(56,.one (.int .i64))]),(50,[(89,.one .bool)])] h
theorem wV (a b:Int)(c:Option Addr)(d e:Nat)(f:Option Addr)(g i:Nat){w K}(h:nA w (.cells #[vI a,vI b,.slice c d e,.slice f g i] ai) λj k=>true/\∃l m n,Ld aQ (vA j 3) k (.slice l m n)/\∃o:FP [],(true/\∃p,Ld ay (vA j 0) k (vI p)/\ae (decide (p<(1:Int))) (K (.bool false) k) (true/\∃q,Ld ay (vA j 0) k (vI q)/\ae (decide (q>(512:Int))) (K (.bool false) k) (ae (decide (((m:Nat):Int)<(1:Int))) (K (.bool false) k) (ae (decide (((m:Nat):Int)>(65536:Int))) (K (.bool false) k) (true/\∃r s t,Ld aA (vA j 2) k (.slice r s t)/\true/\∃u,Ld ay (vA j 0) k (vI u)/\ae (((s:Nat):Int) !=(i64.wrap (((m:Nat):Int)*u))) (K (.bool false) k) (o k))))))/\aE 27 (∀p,o p->true/\∃q r s,Ld aA (vA j 2) p (.slice q r s)/\∃t:Nat->FP [.one (.int .i64)],(∃u,t u (0:Int) p)/\∀u v,aE 13 (∀x,t u v x->ae (decide (v<((r:Nat):Int))) ((bx v ((r:Nat):Int)/\Option.isSome q=true)/\∃y,Ld ay (am q v 1) x (vI y)/\ae (decide (y<(0:Int))) (K (.bool false) x) (ae (decide (y >=((m:Nat):Int))) (K (.bool false) x) (∃z:Nat,z<u/\t z (i64.wrap (v+(1:Int))) x))) (true/\∃y,Ld ay (vA j 1) x (vI y)/\ae (decide (y >=(0:Int))) (true/\∃z,Ld ay (vA j 1) x (vI z)/\K (.bool (decide (z<((m:Nat):Int)))) x) (K (.bool false) x))))):Cf jy #[.agg #[vI a,vI b,.slice c d e,.slice f g i]] w (Ret K):=ru func23 [(4,[]),(16,[(38,.one (.int .i64))])] h
theorem sX (a:Option Addr)(b:Value){w K}(h:nA w (.cells (Value.cells b) ah) λc d=>∃e,Ld ah (vA c 0) d e/\uL gj #[.pointer a,e] d λf g i j=>ae (((g:Nat):Int)==(0:Int)) (K (.tuple #[.slice none 0 0,vI 181]) j) (uI aO #[.pointer a] j λk l=>uB dE #[.slice f g i,vI (i64.wrap (k-(1:Int)))] l λm n=>ae m (K (.tuple #[.slice none 0 0,vI 181]) n) (K (.tuple #[.slice f g i,vI 0]) n))):Cf gU #[.pointer a,b] w (Ret K):=ru func48 [] h
theorem wC (a:Option Addr)(b:Value){w K}(h:nA w (.cells (Value.cells b) ah) λc d=>nA d (.cells #[vI 0,vI 0,.slice none 0 0,.slice none 0 0] ai) λe f=>∃g,Ld ah (vA c 0) f g/\Cf gU #[.pointer a,g] f λi j=>∃k l m n,i=rT #[.slice k l m,vI n]/\ae (n !=(0:Int)) (∃o,Sv ai (vA e 0) (.agg #[vI 0,vI 0,.slice none 0 0,.slice none 0 0]) j o/\∃p q r s t u v x,Rv ai (vA e 0) o (.agg #[vI p,vI q,.slice r s t,.slice u v x])/\K (.tuple #[.agg #[vI p,vI q,.slice r s t,.slice u v x],vI n]) o) (uI aO #[.pointer a] j λo p=>Cf oU #[vI o,.slice k l m] p λq r=>∃s t u v x y z A B,q=rT #[.agg #[vI s,vI t,.slice u v x,.slice y z A],vI B]/\∃C,Sv ai (vA e 0) (.agg #[vI s,vI t,.slice u v x,.slice y z A]) r C/\∃D E F G H I J L,Rv ai (vA e 0) C (.agg #[vI D,vI E,.slice F G H,.slice I J L])/\K (.tuple #[.agg #[vI D,vI E,.slice F G H,.slice I J L],vI B]) C)):Cf fM #[.pointer a,b] w (Ret K):=ru func12 [] h
theorem rC (a:Option Addr)(b:Value){w K}(h:nA w (.cells (Value.cells b) ah) λc d=>nA d (.cells #[vI 0,vI 0,.slice none 0 0,.slice none 0 0] ai) λe f=>∃g,Ld ah (vA c 0) f g/\Cf jP #[.pointer a,g,.bool true] f λi j=>∃k l m n o p q r s,i=rT #[.agg #[vI k,vI l,.slice m n o,.slice p q r],vI s]/\∃t,Sv ai (vA e 0) (.agg #[vI k,vI l,.slice m n o,.slice p q r]) j t/\∃u v x y z A B C,Rv ai (vA e 0) t (.agg #[vI u,vI v,.slice x y z,.slice A B C])/\K (.tuple #[.agg #[vI u,vI v,.slice x y z,.slice A B C],vI s]) t):Cf dm #[.pointer a,b] w (Ret K):=ru func14 [] h
theorem qE (a:lU){w K}(h:Cf iZ #[vS a] w λb c=>∃d e,b=rT #[d,vI e]/\nA c (.cells br ah) λf g=>∃i,Sv ah (vA f 0) d g i/\ae (e==(0:Int)) (true/\∃j,Ld ay (vA f 0) i (vI j)/\ae (j !=(1:Int)) (∃k,Ld ah (vA f 0) i k/\uS lX #[k] i λl m=>K (.bool (l==a)) m) (K (.bool false) i)) (K (.bool false) i)):Cf iH #[vS a] w (Ret K):=ru func54 [] h
theorem sY (a:lU){w K}(h:(((List.length a+List.length [46,120]:Nat):Int) <=i64.max)/\∀b,b=(a++[46,120])->Cf iZ #[vS b] w λc d=>∃e f,c=rT #[e,vI f]/\nA d (.cells br ah) λg i=>∃j,Sv ah (vA g 0) e i j/\ae (f==(0:Int)) (true/\∃k,Ld aq (vA g 1) j (vS k)/\(((List.length a+List.length [46,120]:Nat):Int) <=i64.max)/\∀l,l=(a++[46,120])->ae (k==l) (∃m,Ld ah (vA g 0) j m/\uL lW #[m] j λn o p q=>K (.bool (((o:Nat):Int)==(2:Int))) q) (K (.bool false) j)) (K (.bool false) j)):Cf gV #[vS a] w (Ret K):=ru func55 [] h
theorem sS (a:Option Addr){w K}(h:nA w (.cells #[vI 0,vI 0,.slice none 0 0,.slice none 0 0] ai) λb c=>uI aO #[.pointer a] c λd e=>ae (decide (d>(512:Int))) (∃f,Sv ai (vA b 0) (.agg #[vI 0,vI 0,.slice none 0 0,.slice none 0 0]) e f/\∃g i j k l m n o,Rv ai (vA b 0) f (.agg #[vI g,vI i,.slice j k l,.slice m n o])/\K (.tuple #[.agg #[vI g,vI i,.slice j k l,.slice m n o],vI 151]) f) (∃f g i j,(Instr.makeSlice aA (vI (i64.wrap ((4:Int)*d))) (vI (i64.wrap ((4:Int)*d)))).run prog e=.ok (.slice g i j) f/\nA f (.cells #[.bool false,.bool false,.bool true,.bool true] bR) λk l=>nA l (.cells #[vI 0,vI 0,.slice none 0 0,.slice none 0 0] ai) λm n=>∃o,Sv ai (vA m 0) (.agg #[vI d,vI 1,.slice g i j,.slice (vA k 0) 4 4]) n o/\∃p:Nat->FP [.one (.int .i64)],(∃q,p q (0:Int) o)/\∀q r,aE 38 (∀s,p q r s->ae (decide (r<d)) (uS cZ #[.pointer a,vI r] s λt u=>uB iH #[vS t] u λv x=>ae v (true/\∃y z A,Ld aA (vA m 2) x (.slice y z A)/\(bx (i64.wrap ((i64.wrap ((1:Int)*d))+r)) ((z:Nat):Int)/\Option.isSome y=true)/\∃B,Sv ay (am y (i64.wrap ((i64.wrap ((1:Int)*d))+r)) 1) (vI 3) x B/\∃C:Nat,C<q/\p C (i64.wrap (r+(1:Int))) B) (uB gV #[vS t] x λy z=>ae y (true/\∃A B C,Ld aA (vA m 2) z (.slice A B C)/\(bx (i64.wrap ((i64.wrap ((2:Int)*d))+r)) ((B:Nat):Int)/\Option.isSome A=true)/\∃D,Sv ay (am A (i64.wrap ((i64.wrap ((2:Int)*d))+r)) 1) (vI 2) z D/\uB gk #[vS t] D λE F=>ae (!E) (true/\∃G H I,Ld aA (vA m 2) F (.slice G H I)/\(bx (i64.wrap ((i64.wrap ((1:Int)*d))+r)) ((H:Nat):Int)/\Option.isSome G=true)/\∃J,Sv ay (am G (i64.wrap ((i64.wrap ((1:Int)*d))+r)) 1) (vI 2) F J/\∃L:Nat,L<q/\p L (i64.wrap (r+(1:Int))) J) (∃G:Nat,G<q/\p G (i64.wrap (r+(1:Int))) F)) (∃A:Nat,A<q/\p A (i64.wrap (r+(1:Int))) z))) (∃t u v x y z A B,Ld ai (vA m 0) s (.agg #[vI t,vI u,.slice v x y,.slice z A B])/\∃C,Sv ai (vA b 0) (.agg #[vI t,vI u,.slice v x y,.slice z A B]) s C/\∃D E F G H I J L,Rv ai (vA b 0) C (.agg #[vI D,vI E,.slice F G H,.slice I J L])/\K (.tuple #[.agg #[vI D,vI E,.slice F G H,.slice I J L],vI 0]) C)))):Cf jN #[.pointer a] w (Ret K):=ru func16 [(18,[(20,.one (.int .i64))])] h
theorem sU (a:Option Addr)(b c:Int)(d:Option Addr)(e f:Nat)(g:Option Addr)(i j:Nat){w K}(h:nA w (.cells #[vI b,vI c,.slice d e f,.slice g i j] ai) λk l=>nA l (.cells br ah) λm n=>Cf jN #[.pointer a] n λo p=>∃q r s t u v x y z,o=rT #[.agg #[vI q,vI r,.slice s t u,.slice v x y],vI z]/\nA p (.cells #[vI 0,vI 0,.slice none 0 0,.slice none 0 0] ai) λA B=>∃C,Sv ai (vA A 0) (.agg #[vI q,vI r,.slice s t u,.slice v x y]) B C/\ae (z !=(0:Int)) (∃D,Sv ah (vA m 0) (.agg br) C D/\∃E,Rv ah (vA m 0) D E/\K (.tuple #[E,.bool false,vI z]) D) (∃D E F G H I J L,Ld ai (vA k 0) C (.agg #[vI D,vI E,.slice F G H,.slice I J L])/\∃M N O P Q R S T,Ld ai (vA A 0) C (.agg #[vI M,vI N,.slice O P Q,.slice R S T])/\Cf cF #[.agg #[vI D,vI E,.slice F G H,.slice I J L],.agg #[vI M,vI N,.slice O P Q,.slice R S T]] C λU V=>∃X Y Z aa ac ad ag al an,U=rT #[.agg #[vI X,vI Y,.slice Z aa ac,.slice ad ag al],vI an]/\nA V (.cells #[vI 0,vI 0,.slice none 0 0,.slice none 0 0] ai) λba bb=>∃bc,Sv ai (vA ba 0) (.agg #[vI X,vI Y,.slice Z aa ac,.slice ad ag al]) bb bc/\ae (an !=(0:Int)) (∃bd,Sv ah (vA m 0) (.agg br) bc bd/\∃bj,Rv ah (vA m 0) bd bj/\K (.tuple #[bj,.bool false,vI an]) bd) (uI aO #[.pointer a] bc λbd bj=>∃bk:Nat->FP [.one .slice,.one (.int .i64)],(∃bl,bk bl none 0 0 (0:Int) bj)/\∀bl bn bq bw bx,aE 12 (∀bz,bk bl bn bq bw bx bz->ae (decide (bx<bd)) (uS cZ #[.pointer a,vI bx] bz λca cc=>nA cc (.cells #[vI (i64.wrap (((List.length ca:Nat):Int)+(1:Int)))] ay) λch cl=>∃cm cn cp cs,(Builtin.append_ #[aA,aA] aA #[.slice bn bq bw,.slice (vA ch 0) 1 1]).run prog cl=.ok (.slice cn cp cs) cm/\∃cx:Nat,cx<bl/\bk cx cn cp cs (i64.wrap (bx+(1:Int))) cm) (∃ca cc ch cl cm cn cp cs,Ld ai (vA ba 0) bz (.agg #[vI ca,vI cc,.slice ch cl cm,.slice cn cp cs])/\Cf eS #[.agg #[vI ca,vI cc,.slice ch cl cm,.slice cn cp cs],.slice bn bq bw,vI 254] bz λcx da=>∃db dc dd dg dk,cx=rT #[.slice db dc dd,.bool dg,vI dk]/\∃dl:FP [],(∃dn:FP [.one .bool],(ae (!dg) (dn true da) (dn (dk !=(0:Int)) da))/\∀dr,aE 5 (∀ds,dn dr ds->ae dr (∃ea,Sv ah (vA m 0) (.agg br) ds ea/\∃eb,Rv ah (vA m 0) ea eb/\K (.tuple #[eb,.bool false,vI dk]) ea) (dl ds)))/\aE 10 (∀dn,dl dn->Cf po #[.pointer a,.slice db dc dd] dn λdr ds=>∃ea eb,dr=rT #[ea,.bool eb]/\nA ds (.cells br ah) λec ed=>∃ef,Sv ah (vA ec 0) ea ed ef/\∃eg,Ld ah (vA ec 0) ef eg/\∃eh,Sv ah (vA m 0) eg ef eh/\∃ei,Rv ah (vA m 0) eh ei/\K (.tuple #[ei,.bool eb,vI 0]) eh)))))):Cf jO #[.pointer a,.agg #[vI b,vI c,.slice d e f,.slice g i j]] w (Ret K):=ru func15 [(28,[(10,.one .slice),(36,.one (.int .i64))]),(43,[]),(44,[(60,.one .bool)])] h
theorem qD (a:lU){w K}(h:uB gV #[vS a] w λb c=>K (.bool (!b)) c):Cf bJ #[vS a] w (Ret K):=ru func64 [] h
theorem de (a:Option Addr)(b c:Nat){w K}(h:∃d:Nat->FP [.one (.int .i64)],(∃e,d e (0:Int) w)/\∀e f,aE 12 (∀g,d e f g->ae (decide (f<((b:Nat):Int))) ((bx f ((b:Nat):Int)/\Option.isSome a=true)/\∃i,Ld aq (am a f 1) g (vS i)/\uB bJ #[vS i] g λj k=>ae j (K (vI f) k) (∃l:Nat,l<e/\d l (i64.wrap (f+(1:Int))) k)) (K (vI (-1)) g))):Cf bE #[.slice a b c,.func (.func bJ) #[] #[]] w (Ret K):=ru func115 [(6,[(8,.one (.int .i64))])] h
theorem cM (a:Option Addr)(b c:Nat){w K}(h:uI bE #[.slice a b c,.func (.func bJ) #[] #[]] w λd e=>K (.bool (decide (d >=(0:Int)))) e):Cf aU #[.slice a b c,.func (.func bJ) #[] #[]] w (Ret K):=ru func63 [] h
theorem yG (a:Option Addr)(b c:Nat)(d:Value){w K}(h:nA w (.cells (Value.cells d) ah) λe f=>nA f (.cells #[] ay) λg i=>∃j,Ld ah (vA e 0) i j/\uB eQ #[j] i λk l=>ae (!k) (K (.slice (vA g 0) 0 0) l) (true/\∃m,Ld ay (vA e 0) l (vI m)/\ae (m !=(1:Int)) (∃n,Ld ah (vA e 0) l n/\uS kD #[n] l λo p=>uI oV #[.slice a b c,vS o] p λq r=>nA r (.cells #[vI q] ay) λs t=>K (.slice (vA s 0) 1 1) t) (∃n,Ld ah (vA e 0) l n/\uL gm #[n] l λo p q r=>∃s:Nat->FP [.one .slice,.one (.int .i64)],(∃t,s t (vA g 0) 0 0 (i64.wrap (((p:Nat):Int)-(1:Int))) r)/\∀t u v x y,aE 13 (∀z,s t u v x y z->ae (decide (y >=(0:Int))) ((bx y ((p:Nat):Int)/\Option.isSome o=true)/\∃A,Ld aq (am o y 1) z (vS A)/\uI oV #[.slice a b c,vS A] z λB C=>nA C (.cells #[vI B] ay) λD E=>∃F G H I,(Builtin.append_ #[aA,aA] aA #[.slice u v x,.slice (vA D 0) 1 1]).run prog E=.ok (.slice G H I) F/\∃J:Nat,J<t/\s J G H I (i64.wrap (y-(1:Int))) F) (K (.slice u v x) z))))):Cf kE #[.slice a b c,d] w (Ret K):=ru func22 [(26,[(5,.one .slice),(7,.one (.int .i64))])] h
theorem wW (a:Option Addr)(b c:Nat)(d:Value){w K}(h:nA w (.cells (Value.cells d) ah) λe f=>∃g,Ld ah (vA e 0) f g/\uL kE #[.slice a b c,g] f λi j k l=>∃m:Nat->FP [.one (.int .i64)],(∃n,m n (0:Int) l)/\∀n o,aE 11 (∀p,m n o p->ae (decide (o<((j:Nat):Int))) ((bx o ((j:Nat):Int)/\Option.isSome i=true)/\∃q,Ld ay (am i o 1) p (vI q)/\uL jx #[.slice a b c] p λr s t u=>ae (q==((s:Nat):Int)) (K (.bool false) u) (∃v:Nat,v<n/\m v (i64.wrap (o+(1:Int))) u)) (K (.bool (decide (((j:Nat):Int)>(0:Int)))) p))):Cf mp #[.slice a b c,d] w (Ret K):=ru func21 [(8,[(13,.one (.int .i64))])] h
theorem Whl.elem {α:Type}{T:Ty α}{P:Program}{t:TypeId}{n:Nat}(hw:Whl P t n)(hk:T.k=n){w:World}{A:Bl}{a:Option Addr}{l c:Nat}{xs:List α}(h:Sl T w A a l c xs){i:Nat}(hi:i<xs.length):
   ∃vs,(Instr.loadAt t (.pointer (am a (i:Int) n))).run P w=.ok (.agg vs.toArray) w/\T.rep w A vs xs[i]:=by
 obtain⟨bytes,z,tf⟩:=hw.tf
 obtain⟨ti,hti,hsz,_,_⟩:=tf.info
 have hag:=hw.ag
 cases hu:P.underlying t with
 | none=>rw[hu]at hag;cases hag
 | some d=>
   rw[hu]at hag
   simp only[Option.map_some,Option.some.injEq]at hag
   have:=h.loadA hu hag hti hk hsz (i:=(i:Int)) (by simpa using hi)
   simpa using this
abbrev Pi:=Int×Int
def prC (p:Pi):List Value:=[vI p.1,vI p.2]
def prV (p:Pi):Value:=.agg #[vI p.1,vI p.2]
def tP:Ty Pi where
 k:=2
 pos:=by decide
 rep:=λ_ _ vs p=>vs=prC p
 len:=λh=>by rw[h];rfl
 one:=fun{_ _ _ x} h v hv=>by rw[h]at hv;exact(aN rfl (aN rfl hQ):yT (prC x)) v hv
 keep:=λh _=>h
 mono:=λh _=>h
theorem z6:Flat tP:=λ_ _ _ _ _ _ h=>h
theorem Sl.pair {P:Program}{t:TypeId}(hw:Whl P t 2){w:World}{A:Bl}{a:Option Addr}{l c:Nat}{xs:List Pi}(h:Sl tP w A a l c xs){i:Nat}(hi:i<xs.length):
   (Instr.loadAt t (.pointer (am a (i:Int) 2))).run P w=.ok (prV xs[i]) w:=by
 obtain⟨vs,h1,h2⟩:=hw.elem rfl h hi
 have h2:vs=prC xs[i]:=h2
 rw[h2]at h1;exact h1
theorem Sl.pair0 {P:Program}{t:TypeId}(hu:P.underlying t=some (.int .i64)){w:World}{A:Bl}{a:Option Addr}{l c:Nat}{xs:List Pi}(h:Sl tP w A a l c xs){i:Nat}(hi:i<xs.length):
   (Instr.loadAt t (.pointer (Option.map (λx=>x.add 0) (am a (i:Int) 2)))).run P w=.ok (vI xs[i].1) w/\(Instr.loadAt t (.pointer (Option.map (λx=>x.add 1) (am a (i:Int) 2)))).run P w=.ok (vI xs[i].2) w:=by
 rcases h.2.2.2 with h4|⟨b,off,e,hb,hab,h4⟩
 · subst h4;cases hi
 · obtain⟨vs,h5,h6⟩:=h4.elem hi
   have h5:vs=prC xs[i]:=h5
   subst h5
   rw[e,zX]
   simp only[Option.map_some,dq,Int.toNat_natCast]
   constructor
   · show(do loadVar t (<- Instr.sureAddr (.pointer (some _)))).run P w=_
     rw[Sem.run_bind,fH]
     exact cV hu rfl (h6 0 (by decide))
   · show(do loadVar t (<- Instr.sureAddr (.pointer (some _)))).run P w=_
     rw[Sem.run_bind,fH]
     exact cV hu rfl (h6 1 (by decide))
theorem Sl.some_of {α:Type}{T:Ty α}{w:World}{A:Bl}{a:Option Addr}{n c:Nat}{xs:List α}(h:Sl T w A a n c xs){i:Nat}(hi:i<xs.length)(k:Nat):(am a (i:Int) k).isSome=true:=by
 have:=h.isSome hi
 cases a with
 | none=>cases this
 | some x=>rfl
theorem Sl.num {P:Program}{t:TypeId}(hu:P.underlying t=some (.int .i64)){w:World}{A:Bl}{a:Option Addr}{l c:Nat}{xs:List Int}(h:Sl fu w A a l c xs){i:Nat}(hi:i<xs.length):
   (Instr.loadAt t (.pointer (am a (i:Int) 1))).run P w=.ok (vI xs[i]) w:=by
 obtain⟨v,h1,h2⟩:=h.load1 hu rfl rfl (i:=(i:Int)) (by simpa using hi)
 rw[h1,GT h2]
 simp
theorem Sl.tru {P:Program}{t:TypeId}(hu:P.underlying t=some .bool){w:World}{A:Bl}{a:Option Addr}{l c:Nat}{xs:List Bool}(h:Sl lg w A a l c xs){i:Nat}(hi:i<xs.length):
   (Instr.loadAt t (.pointer (am a (i:Int) 1))).run P w=.ok (.bool xs[i]) w:=by
 obtain⟨v,h1,h2⟩:=h.load1 hu rfl rfl (i:=(i:Int)) (by simpa using hi)
 rw[h1,uF h2]
 simp
theorem xi {α:Type}{xs:List α}{i j:Nat}(hi:i<xs.length)(hj:j<xs.length):((xs.set i xs[j]).set j xs[i]).Perm xs:=List.set_set_perm hi hj
structure DA where
 k:Int
 st:Int
 nx:List Int
 ac:List Bool
structure DA.Ok (d:DA):Prop where
 k1:1 <=d.k
 k2:d.k <=512
 n1:1 <=d.ac.length
 n2:d.ac.length <=65536
 len:(d.nx.length:Int)=(d.ac.length:Int)*d.k
 s0:0 <=d.st
 s1:d.st<(d.ac.length:Int)
 nx0:∀x∈d.nx,0 <=x/\x<(d.ac.length:Int)
abbrev DA.n (d:DA):Nat:=d.ac.length
abbrev DA.K (d:DA):Nat:=d.k.toNat
abbrev DA.s (d:DA):Nat:=d.st.toNat
def DA.to (d:DA)(s x:Nat):Nat:=(d.nx.getD (s*d.K+x) 0).toNat
def DA.run (d:DA):Nat->List Nat->Nat
 | s,[]=>s
 | s,x::w=>d.run (d.to s x) w
def DA.acc (d:DA)(s:Nat):Bool:=d.ac.getD s false
def DA.Lang (d:DA)(s:Nat)(w:List Nat):Prop:=(∀x∈w,x<d.K)/\d.acc (d.run s w)=true
theorem DA.Ok.kk {d:DA}(h:d.Ok):(d.K:Int)=d.k:=by have:=h.k1;show((d.k.toNat:Nat):Int)=d.k;omega
theorem DA.Ok.lenN {d:DA}(h:d.Ok):d.nx.length=d.n*d.K:=by
 have h1:=h.len
 rw[<- h.kk,<- Int.natCast_mul]at h1
 exact Int.ofNat.inj h1
theorem nM {s x n K:Nat}(hs:s<n)(hx:x<K):s*K+x<n*K:=by
 have:(s+1)*K <=n*K:=Nat.mul_le_mul_right _ hs
 rw[Nat.succ_mul]at this
 omega
theorem DA.Ok.at {d:DA}(h:d.Ok){s x:Nat}(hs:s<d.n)(hx:x<d.K):∃v,d.nx[s*d.K+x]? =some v/\0 <=v/\v<(d.n:Int)/\d.to s x=v.toNat:=by
 have hi:s*d.K+x<d.nx.length:=by rw[h.lenN];exact nM hs hx
 refine⟨d.nx[s*d.K+x],List.getElem?_eq_getElem hi,(h.nx0 _ (List.getElem_mem hi)).1,(h.nx0 _ (List.getElem_mem hi)).2,?_⟩
 unfold DA.to
 rw[List.getD_eq_getElem?_getD,List.getElem?_eq_getElem hi];rfl
theorem DA.Ok.to_lt {d:DA}(h:d.Ok){s x:Nat}(hs:s<d.n)(hx:x<d.K):d.to s x<d.n:=by
 obtain⟨v,_,h1,h2,e⟩:=h.at hs hx
 rw[e];omega
theorem DA.Ok.s_lt {d:DA}(h:d.Ok):d.s<d.n:=by have:=h.s0;have:=h.s1;show d.st.toNat<d.ac.length;omega
theorem DA.Ok.run_lt {d:DA}(h:d.Ok):∀{w:List Nat} {s:Nat},s<d.n->(∀x∈w,x<d.K)->d.run s w<d.n
 | [],s,hs,_=>hs
 | x::w,s,hs,hw=>by
   show d.run (d.to s x) w<d.n
   exact h.run_lt (h.to_lt hs (hw x List.mem_cons_self)) λy hy=>hw y (List.mem_cons_of_mem _ hy)
theorem DA.Lang.cons {d:DA}{s x:Nat}{w:List Nat} :d.Lang s (x::w) ↔ x<d.K/\d.Lang (d.to s x) w:=by
 unfold DA.Lang
 simp only[List.mem_cons,forall_eq_or_imp,DA.run]
 exact and_assoc
theorem DA.Lang.nil {d:DA}{s:Nat} :d.Lang s [] ↔ d.acc s=true:=by simp[DA.Lang,DA.run]
theorem oY (d:DA):∀(u v:List Nat) (s:Nat),d.run s (u++v)=d.run (d.run s u) v
 | [],_,_=>rfl
 | x::u,v,s=>oY d u v (d.to s x)
def cAt (cs:List Int)(x:Nat):Int:=cs.getD x 0
def dz (cs:List Int):List Nat->Int
 | []=>0
 | x::w=>cAt cs x+dz cs w
abbrev INF:Int:=9223372036854775807
theorem tL:INF=9223372036854775807:=rfl
def oAt (out:List Int)(s:Nat):Int:=out.getD s 0
def ql (cs:List Int):Prop:=∀c∈cs,1 <=c/\c <=1048576
theorem ql.at {cs:List Int}(h:ql cs){x:Nat}(hx:x<cs.length):1 <=cAt cs x/\cAt cs x <=1048576:=by
 unfold cAt
 rw[List.getD_eq_getElem?_getD,List.getElem?_eq_getElem hx]
 exact h _ (List.getElem_mem hx)
theorem cR {out:List Int}{s:Nat}(h:s<out.length)(v:Int):oAt (out.set s v) s=v:=by simp[oAt,List.getD_eq_getElem?_getD,h]
theorem ct {out:List Int}{s t:Nat}(h:s≠t)(v:Int):oAt (out.set s v) t=oAt out t:=by simp[oAt,List.getD_eq_getElem?_getD,List.getElem?_set_ne h]
structure pm (d:DA)(cs out:List Int):Prop where
 len:out.length=d.n
 lo:∀s,s<d.n->0 <=oAt out s/\oAt out s <=INF
 acc0:∀s,s<d.n->d.acc s=true->oAt out s=0
 sound:∀s,s<d.n->oAt out s≠INF->∃w,d.Lang s w/\dz cs w=oAt out s
 step:∀s x,s<d.n->x<d.K->oAt out (d.to s x)≠INF->oAt out s≠INF/\oAt out s <=oAt out (d.to s x)+cAt cs x
 most:∀s,s<d.n->oAt out s≠INF->oAt out s <=68719476736
theorem pm.le {d:DA}{cs out:List Int}(h:pm d cs out)(hd:d.Ok):∀{w:List Nat} {s:Nat},s<d.n->d.Lang s w->oAt out s≠INF/\oAt out s <=dz cs w
 | [],s,hs,hw=>by
   rw[h.acc0 s hs (DA.Lang.nil.1 hw)]
   exact⟨by decide,by simp[dz]⟩
 | x::w,s,hs,hw=>by
   obtain⟨hx,hw'⟩:=DA.Lang.cons.1 hw
   obtain⟨h1,h2⟩:=h.le hd (hd.to_lt hs hx) hw'
   obtain⟨h3,h4⟩:=h.step s x hs hx h1
   exact⟨h3,by simp only[dz];omega⟩
def xe:List Nat->List Nat->Prop
 | a::u,b::v=>a<b\/a=b/\xe u v
 | _,_=>False
def AB (d:DA)(cs out:List Int)(s x:Nat):Prop:=oAt out (d.to s x)<INF/\oAt out (d.to s x)+cAt cs x=oAt out s
inductive Gr (d:DA)(cs out:List Int):Nat->List Nat->Nat->Prop
 | nil (s:Nat):Gr d cs out s [] s
 | cons {s x t:Nat} {w:List Nat} :x<d.K->0<oAt out s->AB d cs out s x->(∀y,y<x-> ¬ AB d cs out s y)->Gr d cs out (d.to s x) w t->Gr d cs out s (x::w) t
theorem Gr.snoc {d:DA}{cs out:List Int}{s t x:Nat}{w:List Nat}(h:Gr d cs out s w t)(hx:x<d.K)(h0:0<oAt out t)(hk:AB d cs out t x)(hl:∀y,y<x-> ¬ AB d cs out t y):Gr d cs out s (w++[x]) (d.to t x):=by
 induction h with
 | nil s=>exact .cons hx h0 hk hl (.nil _)
 | cons a b c e _ ih=>exact .cons a b c e (ih h0 hk hl)
theorem Gr.lt {d:DA}{cs out:List Int}(hd:d.Ok){s t:Nat}{w:List Nat}(h:Gr d cs out s w t)(hs:s<d.n):t<d.n:=by
 induction h with
 | nil s=>exact hs
 | cons a b c e _ ih=>exact ih (hd.to_lt hs a)
theorem pm.next {d:DA}{cs out:List Int}(h:pm d cs out)(hd:d.Ok)(hc:ql cs)(hk:cs.length=d.K){s:Nat}(hs:s<d.n)(h0:oAt out s≠INF)(h1:0<oAt out s):∃x,x<d.K/\AB d cs out s x:=by
 obtain⟨w,hw,e⟩:=h.sound s hs h0
 cases w with
 | nil=>rw[<- e]at h1;simp[dz]at h1
 | cons x w=>
   obtain⟨hx,hw'⟩:=DA.Lang.cons.1 hw
   have ht:=hd.to_lt hs hx
   obtain⟨h2,h3⟩:=h.le hd ht hw'
   obtain⟨h4,h5⟩:=h.step s x hs hx h2
   simp only[dz]at e
   have:=(h.lo _ ht).2
   exact⟨x,hx,by omega,by omega⟩
theorem Gr.law {d:DA}{cs out:List Int}(h:pm d cs out)(hd:d.Ok)(hc:ql cs)(hk:cs.length=d.K){s t:Nat}{w:List Nat}(hg:Gr d cs out s w t)(hs:s<d.n)(h0:oAt out s≠INF)(ht:oAt out t=0):
   d.Lang s w/\dz cs w=oAt out s/\∀v,d.Lang s v->dz cs w<dz cs v\/dz cs v=dz cs w/\(v=w\/xe w v):=by
 induction hg with
 | nil s=>
   obtain⟨w,hw,e⟩:=h.sound s hs h0
   have hw0:w=[]:=by
     cases w with
     | nil=>rfl
     | cons x w=>
       obtain⟨hx,hw'⟩:=DA.Lang.cons.1 hw
       have h2:=(h.le hd (hd.to_lt hs hx) hw').2
       have h3:=(h.lo _ (hd.to_lt hs hx)).1
       have h4:=(hc.at (x:=x) (by omega)).1
       simp only[dz]at e
       omega
   subst hw0
   refine⟨hw,by simp[dz,ht],λv hv=>?_⟩
   cases v with
   | nil=>exact .inr ⟨rfl,.inl rfl⟩
   | cons x v=>
     obtain⟨hx,hv'⟩:=DA.Lang.cons.1 hv
     have h2:=(h.le hd (hd.to_lt hs hx) hv').2
     have h3:=(h.lo _ (hd.to_lt hs hx)).1
     have h4:=(hc.at (x:=x) (by omega)).1
     left
     simp only[dz]
     omega
 | @cons s x t w hx hp hok hl hg ih=>
   have hs':=hd.to_lt hs hx
   obtain⟨i1,i2,i3⟩:=ih hs' (by have:=hok.1;omega) ht
   refine⟨DA.Lang.cons.2 ⟨hx,i1⟩,by simp only[dz];rw[i2];have:=hok.2;omega,λv hv=>?_⟩
   have e0:dz cs (x::w)=oAt out s:=by simp only[dz];rw[i2];have:=hok.2;omega
   rw[e0]
   cases v with
   | nil=>
     have:=(h.acc0 s hs (DA.Lang.nil.1 hv))
     omega
   | cons y v=>
     obtain⟨hy,hv'⟩:=DA.Lang.cons.1 hv
     obtain⟨h2,h3⟩:=h.le hd (hd.to_lt hs hy) hv'
     obtain⟨h4,h5⟩:=h.step s y hs hy h2
     have e1:dz cs (y::v)=cAt cs y+dz cs v:=rfl
     by_cases hlt:oAt out s<dz cs (y::v)
     · exact .inl hlt
     · right
       have hlo:=(h.lo _ (hd.to_lt hs hy)).2
       have hoky:AB d cs out s y:=⟨by omega,by omega⟩
       refine⟨by omega,?_⟩
       rcases Nat.lt_trichotomy x y with hxy|hxy|hxy
       · exact .inr (.inl hxy)
       · subst hxy
         rcases i3 v hv' with h6|⟨h6,h7⟩
         · omega
         · rcases h7 with h7|h7
           · exact .inl (by rw[h7])
           · exact .inr (.inr ⟨rfl,h7⟩)
       · exact absurd hoky (hl y hxy)
theorem rG:∀{u v:List Nat},xe u v-> ¬ xe v u
 | [],_,h,_=>h
 | _::_,[],h,_=>h
 | a::u,b::v,h,k=>by
   rcases h with h|⟨h,h'⟩ <;> rcases k with k|⟨k,k'⟩ <;> first|omega|exact rG h' k'
def pn (cs:List Int)(L:List Nat->Prop)(w:List Nat):Prop:=L w/\∀v,L v->dz cs w<dz cs v\/dz cs v=dz cs w/\(v=w\/xe w v)
theorem pn.one {cs:List Int}{L:List Nat->Prop}{w v:List Nat}(h:pn cs L w)(k:pn cs L v):w=v:=by
 rcases h.2 v k.1 with h1|⟨h1,h1'|h1'⟩ <;> rcases k.2 w h.1 with h2|⟨h2,h2'|h2'⟩
 all_goals first
   | exact h1'.symm
   | exact h2'
   | (exfalso;omega)
   | exact absurd h2' (rG h1')
theorem pn.congr {cs:List Int}{L L':List Nat->Prop}{w:List Nat}(h:pn cs L w)(e:∀v,L v ↔ L' v):pn cs L' w:=⟨(e _).1 h.1,λv hv=>h.2 v ((e _).2 hv)⟩
def Jv (d:DA)(cs out:List Int)(s:Nat):Prop:=∀f x,f<d.n->x<d.K->d.to f x=s->oAt out f <=oAt out s+cAt cs x
def Bnd (d:DA)(C:Int)(out:List Int)(s:Nat):Prop:=∃p:List Nat,(s::p).Nodup/\(∀t∈p,t<d.n/\oAt out t<oAt out s)/\oAt out s <=(p.length:Int)*C
structure Ib (cs:List Int)(C:Int):Prop where
 lo:1 <=C
 hi:C <=1048576
 all:∀x,x<cs.length->cAt cs x <=C
structure HT (d:DA)(cs:List Int)(C:Int)(out:List Int):Prop where
 len:out.length=d.n
 lo:∀s,s<d.n->0 <=oAt out s/\oAt out s <=INF
 acc0:∀s,s<d.n->d.acc s=true->oAt out s=0
 sound:∀s,s<d.n->oAt out s≠INF->∃w,d.Lang s w/\dz cs w=oAt out s
 bnd:∀s,s<d.n->oAt out s≠INF->Bnd d C out s
abbrev Hp:=List (Int×Nat)
def HIn (d:DA)(out:List Int)(H:Hp):Prop:=∀p∈H,p.2<d.n/\oAt out p.2 <=p.1/\p.1 <=68719476736
def HV (d:DA)(cs out:List Int)(H:Hp)(s:Nat):Prop:=oAt out s≠INF->(oAt out s,s)∈H\/Jv d cs out s
theorem Ex:∀{n:Nat} {l:List Nat},l.Nodup->(∀x∈l,x<n)->l.length <=n:=by
 intro n
 induction n with
 | zero=>
   intro l _ h
   cases l with
   | nil=>exact Nat.le_refl _
   | cons x l=>exact absurd (h x List.mem_cons_self) (Nat.not_lt_zero _)
 | succ n ih=>
   intro l hn h
   have h1:(l.filter λx=>decide (x≠n)).length <=n:=by
     refine ih (hn.filter _) λx hx=>?_
     obtain⟨hx,hne⟩:=List.mem_filter.1 hx
     have:=h x hx
     have:x≠n:=by simpa using hne
     omega
   have h2:l.length <=(l.filter λx=>decide (x≠n)).length+1:=by
     clear ih h h1
     induction l with
     | nil=>exact Nat.zero_le _
     | cons x l ih2=>
       obtain⟨hx,hl⟩:=List.nodup_cons.1 hn
       rw[List.filter_cons]
       by_cases e:x=n
       · subst e
         have:(l.filter λy=>decide (y≠x))=l:=List.filter_eq_self.2 λy hy=>by
           have:y≠x:=λe=>hx (e▸hy)
           simpa using this
         rw[if_neg (by simp),this]
         exact Nat.le_refl _
       · have:=ih2 hl
         simp only[ne_eq,e,not_false_eq_true,decide_true,if_true,List.length_cons]
         simp only[ne_eq]at this
         omega
   omega
theorem Bnd.leC {d:DA}{C:Int}(hC:0 <=C){out:List Int}{s:Nat}(hs:s<d.n)(h:Bnd d C out s):oAt out s <=((d.n-1:Nat):Int)*C:=by
 obtain⟨p,hn,hp,hb⟩:=h
 have h1:(s::p).length <=d.n:=Ex hn λx hx=>by
   rcases List.mem_cons.1 hx with rfl|hx
   · exact hs
   · exact(hp x hx).1
 simp only[List.length_cons]at h1
 exact Int.le_trans hb (Int.mul_le_mul_of_nonneg_right (by omega) hC)
theorem Bnd.le {d:DA}(hd:d.Ok){C:Int}(hC:0 <=C)(hC2:C <=1048576){out:List Int}{s:Nat}(hs:s<d.n)(h:Bnd d C out s):oAt out s <=68719476736-1048576:=by
 have h1:=h.leC hC hs
 have h2:d.n <=65536:=hd.n2
 have h3:((d.n-1:Nat):Int)*C <=65535*1048576:=Int.mul_le_mul (by omega) hC2 hC (by omega)
 omega
theorem HT.first {d:DA}{cs:List Int}{C:Int}{out:List Int}(hl:out.length=d.n)(h:∀s,s<d.n->oAt out s=if d.acc s=true then 0 else INF):HT d cs C out where
 len:=hl
 lo:=λs hs=>by rw[h s hs];split <;> decide
 acc0:=λs hs ha=>by rw[h s hs,if_pos ha]
 sound:=λs hs hi=>by
   rw[h s hs]at hi ⊢
   by_cases ha:d.acc s=true
   · exact⟨[],DA.Lang.nil.2 ha,by rw[if_pos ha];rfl⟩
   · rw[if_neg ha]at hi;exact absurd rfl hi
 bnd:=λs hs hi=>by
   rw[h s hs]at hi
   by_cases ha:d.acc s=true
   · refine⟨[],by simp,by simp,?_⟩
     rw[h s hs,if_pos ha];simp
   · rw[if_neg ha]at hi;exact absurd rfl hi
theorem HT.down {d:DA}{cs:List Int}{C:Int}{out:List Int}(hd:d.Ok)(hc:ql cs)(hC:Ib cs C)(hk:cs.length=d.K)(h:HT d cs C out){f x s:Nat}(hf:f<d.n)(hx:x<d.K)(e:d.to f x=s)(hi:oAt out s≠INF){v:Int}(hv:v=oAt out s+cAt cs x)(hlt:v<oAt out f):
   HT d cs C (out.set f v):=by
 have hs:s<d.n:=e▸hd.to_lt hf hx
 have hfl:f<out.length:=by rw[h.len];exact hf
 have hcx:=hc.at (x:=x) (by omega)
 have hne:f≠s:=λe=>by subst e;omega
 have hb:=h.bnd s hs hi
 have hbl:=hb.le hd (by have:=hC.lo;omega) hC.hi hs
 have hxC:=hC.all x (by omega)
 have hlos:=(h.lo s hs).1
 have hI:=tL
 have hmono:∀t,oAt (out.set f v) t <=oAt out t:=λt=>by
   by_cases et:f=t
   · subst et;rw[cR hfl];omega
   · rw[ct et];exact Int.le_refl _
 refine⟨by simp[h.len],λt ht=>?_,λt ht ha=>?_,λt ht hti=>?_,λt ht hti=>?_⟩
 · by_cases et:f=t
   · subst et;rw[cR hfl];omega
   · rw[ct et];exact h.lo t ht
 · by_cases et:f=t
   · subst et;have:=h.acc0 f ht ha;omega
   · rw[ct et];exact h.acc0 t ht ha
 · by_cases et:f=t
   · subst et
     rw[cR hfl]
     obtain⟨w,hw,ew⟩:=h.sound s hs hi
     refine⟨x::w,DA.Lang.cons.2 ⟨hx,by rw[e];exact hw⟩,?_⟩
     simp only[dz];omega
   · rw[ct et]at hti ⊢;exact h.sound t ht hti
 · by_cases et:f=t
   · subst et
     obtain⟨p,hn,hp,hbb⟩:=hb
     refine⟨s::p,?_,λt ht=>?_,?_⟩
     · refine List.nodup_cons.2 ⟨λhm=>?_,hn⟩
       rcases List.mem_cons.1 hm with hm|hm
       · exact hne hm
       · have:=(hp f hm).2;omega
     · rw[cR hfl]
       rcases List.mem_cons.1 ht with rfl|ht
       · exact⟨hs,by rw[ct hne];omega⟩
       · have h1:=hp t ht
         exact⟨h1.1,by have:=hmono t;omega⟩
     · rw[cR hfl]
       simp only[List.length_cons]
       have e2:(((p.length+1:Nat):Int))*C=(p.length:Int)*C+C:=by rw[Int.natCast_add,Int.add_mul];simp
       omega
   · rw[ct et]at hti
     obtain⟨p,hn,hp,hbb⟩:=h.bnd t ht hti
     refine⟨p,hn,λu hu=>⟨(hp u hu).1,?_⟩,?_⟩
     · rw[ct et]
       have:=hmono u
       have:=(hp u hu).2
       omega
     · rw[ct et];exact hbb
theorem HT.done {d:DA}{cs:List Int}{C:Int}{out:List Int}(hd:d.Ok)(hc:ql cs)(hC:Ib cs C)(hk:cs.length=d.K)(h:HT d cs C out)(hr:∀s,s<d.n->HV d cs out [] s):pm d cs out where
 len:=h.len
 lo:=h.lo
 acc0:=h.acc0
 sound:=h.sound
 step:=λs x hs hx hi=>by
   have ht:=hd.to_lt hs hx
   have hcx:=hc.at (x:=x) (by omega)
   rcases hr _ ht hi with h1|h1
   · cases h1
   · have h2:=h1 s x hs hx rfl
     have h3:=(h.bnd _ ht hi).le hd (by have:=hC.lo;omega) hC.hi ht
     have hI:=tL
     exact⟨by omega,h2⟩
 most:=λs hs hi=>by have:=(h.bnd s hs hi).le hd (by have:=hC.lo;omega) hC.hi hs;omega
theorem HV.down {d:DA}{cs out:List Int}{H:Hp}{f t:Nat}{v:Int}(hl:f<out.length)(hlt:v<oAt out f)(hft:f≠t)(h:HV d cs out H t):HV d cs (out.set f v) H t:=by
 intro hi
 rw[ct hft]at hi ⊢
 rcases h hi with h1|h1
 · exact .inl h1
 · refine .inr λg x hg hx e=>?_
   have h2:=h1 g x hg hx e
   rw[ct hft]
   by_cases eg:f=g
   · subst eg;rw[cR hl];omega
   · rw[ct eg];exact h2
theorem HV.sub {d:DA}{cs out:List Int}{H H':Hp}{t:Nat}(hs:∀p∈H,p∈H')(h:HV d cs out H t):HV d cs out H' t:=λhi=>(h hi).imp (hs _) id
theorem HIn.down {d:DA}{out:List Int}{H:Hp}{f:Nat}{v:Int}(hl:f<out.length)(hf:f<d.n)(hlt:v<oAt out f)(hv:v <=68719476736)(h:HIn d out H):HIn d (out.set f v) ((v,f)::H):=by
 intro p hp
 rcases List.mem_cons.1 hp with rfl|hp
 · exact⟨hf,by rw[cR hl];exact Int.le_refl _,hv⟩
 · obtain⟨h1,h2,h3⟩:=h p hp
   refine⟨h1,?_,h3⟩
   by_cases e:f=p.2
   · rw[e]at hlt hl;rw[e,cR hl];omega
   · rw[ct e];exact h2
def DC (M:Nat)(out:List Int):Nat:=(out.map λo=>min o.toNat (M+1)).sum
theorem EI {M:Nat}{v:Int} :∀{out:List Int} {f:Nat},f<out.length->v.toNat <=M->v.toNat<(oAt out f).toNat->DC M (out.set f v)<DC M out
 | [],_,h,_,_=>absurd h (Nat.not_lt_zero _)
 | o::out,0,_,hM,h=>by
   simp only[List.set_cons_zero,DC,List.map_cons,List.sum_cons]
   have:oAt (o::out) 0=o:=rfl
   rw[this]at h
   omega
 | o::out,f+1,hl,hM,h=>by
   simp only[List.set_cons_succ,DC,List.map_cons,List.sum_cons]
   have:=EI (M:=M) (v:=v) (out:=out) (f:=f) (by simpa using hl) hM h
   unfold DC at this
   omega
theorem Hz (M:Nat):∀out:List Int,DC M out <=out.length*(M+1)
 | []=>Nat.zero_le _
 | o::out=>by
   have:=Hz M out
   unfold DC at this ⊢
   simp only[List.map_cons,List.sum_cons,List.length_cons,Nat.succ_mul]
   omega
structure DaS (w:World)(a:Option Addr)(n c:Nat)(b:Option Addr)(m e:Nat)(d:DA):Prop where
 nx:Sl fu w iv a n c d.nx
 ac:Sl lg w iv b m e d.ac
theorem DaS.below {w w':World}{a b:Option Addr}{n c m e:Nat}{d:DA}(h:DaS w a n c b m e d)(hb:bW w w'):DaS w' a n c b m e d:=⟨h.nx.below hb,h.ac.below hb⟩
def daV (a:Option Addr)(n c:Nat)(b:Option Addr)(m e:Nat)(d:DA):Value:=.agg #[vI d.k,vI d.st,.slice a n c,.slice b m e]
def okD (d:DA):Bool:=decide (1 <=d.k)&&decide (d.k <=512)&&decide (1 <=d.ac.length)&&decide (d.ac.length <=65536)&&decide ((d.nx.length:Int)=(d.ac.length:Int)*d.k)&&decide (0 <=d.st)&&decide (d.st<(d.ac.length:Int)) &&
 d.nx.all λx=>decide (0 <=x)&&decide (x<(d.ac.length:Int))
theorem fG {d:DA} :okD d=true ↔ d.Ok:=by
 unfold okD
 simp only[Bool.and_eq_true,dTx,List.all_eq_true]
 constructor
 · rintro⟨⟨⟨⟨⟨⟨⟨h1,h2⟩,h3⟩,h4⟩,h5⟩,h6⟩,h7⟩,h8⟩
   exact⟨h1,h2,h3,h4,h5,h6,h7,h8⟩
 · rintro⟨h1,h2,h3,h4,h5,h6,h7,h8⟩
   exact⟨⟨⟨⟨⟨⟨⟨h1,h2⟩,h3⟩,h4⟩,h5⟩,h6⟩,h7⟩,h8⟩
def HB (k:Int)(w:List Int):Bool:=w.all λx=>decide (0 <=x)&&decide (x<k)
def ja (d:DA)(w:List Int):Bool:=okD d&&(HB d.k w&&d.acc (d.run d.s (w.map Int.toNat)))
theorem tr {d:DA}(h:d.Ok)(w:List Nat):ja d (w.map fun(x:Nat)=>(x:Int))=true ↔ d.Lang d.s w:=by
 have e:(w.map fun(x:Nat)=>(x:Int)).map Int.toNat=w:=by
   rw[List.map_map]
   conv=>rhs;rw[<- List.map_id w]
   exact List.map_congr_left λx _=>Int.toNat_natCast x
 unfold ja DA.Lang HB
 rw[e,fG.2 h,Bool.true_and,Bool.and_eq_true,List.all_eq_true]
 refine and_congr ?_ Iff.rfl
 constructor
 · intro H x hx
   have:=H (x:Int) (List.mem_map.2 ⟨x,hx,rfl⟩)
   simp only[Bool.and_eq_true,dTx]at this
   have:=h.kk
   omega
 · intro H y hy
   obtain⟨x,hx,rfl⟩:=List.mem_map.1 hy
   have:=H x hx
   have:=h.kk
   simp only[Bool.and_eq_true,dTx]
   omega
structure Chg (S:List Nat)(w w':World):Prop where
 os:w'.os=w.os
 tape:w'.tape=w.tape
 output:w'.output=w.output
 size:w.heap.size <=w'.heap.size
 block:∀k,k<w.heap.size->k ∉ S->w'.heap[k]? =w.heap[k]?
theorem Chg.refl (S:List Nat)(w:World):Chg S w w:=⟨rfl,rfl,rfl,Nat.le_refl _,λ_ _ _=>rfl⟩
theorem Chg.trans {S:List Nat}{a b c:World}(h:Chg S a b)(k:Chg S b c):Chg S a c:=
 ⟨k.os.trans h.os,k.tape.trans h.tape,k.output.trans h.output,Nat.le_trans h.size k.size,λi hi hs=>(k.block i (Nat.lt_of_lt_of_le hi h.size) hs).trans (h.block i hi hs)⟩
theorem Chg.of {S:List Nat}{w w':World}(h:bW w w'):Chg S w w':=⟨h.os,h.tape,h.output,h.size,λk hk _=>h.block k hk⟩
theorem Chg.grown {S:List Nat}{w w':World}{r:Nat}(h:w.grownBy w' (some r))(hr:r∈S):Chg S w w':=
 ⟨h.os,h.tape,h.output,h.size,λk hk hs=>h.block k hk λe=>hs (by cases e;exact hr)⟩
theorem Chg.mono {S S':List Nat}{w w':World}(h:Chg S w w')(hs:∀k∈S,k∈S'):Chg S' w w':=⟨h.os,h.tape,h.output,h.size,λk hk hn=>h.block k hk λhm=>hn (hs k hm)⟩
theorem Chg.below {S:List Nat}{B:Nat}{w w':World}(h:Chg S w w')(hB:B <=w.heap.size)(hs:∀k∈S,B <=k):Below B w w':=
 ⟨h.os,h.tape,h.output,h.size,λk hk=>h.block k (by omega) λhm=>by have:=hs k hm;omega⟩
theorem Chg.none {w w':World}(h:Chg [] w w'):bW w w':=h.below (Nat.le_refl _) λk hk=>by cases hk
theorem Chg.keep {S:List Nat}{w w':World}(h:Chg S w w'):qP (λb=>b ∉ S) w w':=⟨h.size,λb hb ha=>h.block b hb ha⟩
theorem Chg.arr {S:List Nat}{w w':World}(h:Chg S w w'){k:Nat}{t:TypeId}{vs:List Value}(ha:ak w k t vs)(hk:k ∉ S):ak w' k t vs:=ha.block (h.block k ha.lt hk)
theorem Chg.step {S:List Nat}{a b c:World}(h:Chg S a b)(k:bW b c):Chg S a c:=h.trans (Chg.of k)
theorem Chg.put {S:List Nat}{a b c:World}{r:Nat}(h:Chg S a b)(k:b.grownBy c (some r))(hr:a.heap.size <=r):Chg S a c:=
   ⟨k.os.trans h.os,k.tape.trans h.tape,k.output.trans h.output,Nat.le_trans h.size k.size,λi hi hs=>(k.block i (Nat.lt_of_lt_of_le hi h.size) (λe=>by cases e;omega)).trans (h.block i hi hs)⟩
end Go.Pk
