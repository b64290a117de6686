/- What the laws lean on: V31, V33, PrT, DfaP, DaM, Hep, DaA, Make, Rep, DfaQ, DfaR, DaB, DaC, Lst, Bwd, ColX, V35, V30, Sort, Iter, M, ShelfSort; what is used. Its conditions: none. -/
import Derived.Test.YthbkoifpgkjadaaGreatDoorKF
import Derived.Deep.OwnRows
import Derived.RangeFuncNested
import Derived.RangeFuncLeaves
import Derived.Shelf.Abstract
import Derived.Shelf.AbstractIn
import Derived.WalkKit
import Derived.OwnWalkIn
import Derived.TacticsInMore
import Derived.RegionIn
import Derived.LoopNIn
import Derived.LoopIn
import Derived.Maps.AppendAt
import Derived.Sort.Row
import Derived.Sort.Grow
import Derived.Sort.EncStr
import Derived.RangeFuncBox
import Derived.Shelf.SortM.Plain
import Derived.Shelf.SortM.SortNone
set_option linter.unusedVariables false
set_option linter.unusedSimpArgs false
set_option linter.unusedSectionVars false
set_option maxRecDepth 100000
open Go.IntKind (i64)
open Go.Proofs.Tryz
open List (length)
open Option (isSome)
namespace Go.Pk
open Go.RowKit (Below)
open Go.Proofs
theorem vF (a b:Int){w K}(h:(0 <=(32:Int))/\(0 <=(32:Int))/\(0 <=(32:Int))/\(0 <=(32:Int))/\(0 <=(32:Int))/\K (.tuple #[.int .u64 (IntKind.u64.wrap ((IntKind.u64.wrap ((IntKind.u64.wrap ((Int.fdiv a (2 ^ (min (Int.toNat 32) (IntKind.bits .u64))))*(Int.fdiv b (2 ^ (min (Int.toNat 32) (IntKind.bits .u64))))))+(Int.fdiv (IntKind.u64.wrap ((IntKind.u64.wrap ((Int.fdiv a (2 ^ (min (Int.toNat 32) (IntKind.bits .u64))))*(IntKind.u64.wrap (((BitVec.ofInt (IntKind.bits .u64) b) &&& (BitVec.ofInt (IntKind.bits .u64) (4294967295:Int))).toNat:Nat))))+(Int.fdiv (IntKind.u64.wrap ((IntKind.u64.wrap (((BitVec.ofInt (IntKind.bits .u64) a) &&& (BitVec.ofInt (IntKind.bits .u64) (4294967295:Int))).toNat:Nat))*(IntKind.u64.wrap (((BitVec.ofInt (IntKind.bits .u64) b) &&& (BitVec.ofInt (IntKind.bits .u64) (4294967295:Int))).toNat:Nat)))) (2 ^ (min (Int.toNat 32) (IntKind.bits .u64)))))) (2 ^ (min (Int.toNat 32) (IntKind.bits .u64))))))+(Int.fdiv (IntKind.u64.wrap ((IntKind.u64.wrap (((BitVec.ofInt (IntKind.bits .u64) (IntKind.u64.wrap ((IntKind.u64.wrap ((Int.fdiv a (2 ^ (min (Int.toNat 32) (IntKind.bits .u64))))*(IntKind.u64.wrap (((BitVec.ofInt (IntKind.bits .u64) b) &&& (BitVec.ofInt (IntKind.bits .u64) (4294967295:Int))).toNat:Nat))))+(Int.fdiv (IntKind.u64.wrap ((IntKind.u64.wrap (((BitVec.ofInt (IntKind.bits .u64) a) &&& (BitVec.ofInt (IntKind.bits .u64) (4294967295:Int))).toNat:Nat))*(IntKind.u64.wrap (((BitVec.ofInt (IntKind.bits .u64) b) &&& (BitVec.ofInt (IntKind.bits .u64) (4294967295:Int))).toNat:Nat)))) (2 ^ (min (Int.toNat 32) (IntKind.bits .u64))))))) &&& (BitVec.ofInt (IntKind.bits .u64) (4294967295:Int))).toNat:Nat))+(IntKind.u64.wrap ((IntKind.u64.wrap (((BitVec.ofInt (IntKind.bits .u64) a) &&& (BitVec.ofInt (IntKind.bits .u64) (4294967295:Int))).toNat:Nat))*(Int.fdiv b (2 ^ (min (Int.toNat 32) (IntKind.bits .u64)))))))) (2 ^ (min (Int.toNat 32) (IntKind.bits .u64)))))),.int .u64 (IntKind.u64.wrap (a*b))]) w):Cf pF #[.int .u64 a,.int .u64 b] w (Ret K):=ru func369 [] h
theorem yx (a b:Int){w K}(h:Cf pF #[.int .u64 a,.int .u64 b] w λc d=>∃e f,c=rT #[.int .u64 e,.int .u64 f]/\K (.tuple #[.int .u64 e,.int .u64 f]) d):Cf mQ #[.int .u64 a,.int .u64 b] w (Ret K):=ru func335 [] h
theorem pj (a:Option Addr)(b c:Nat)(d:Int){w K}(h:∃e:FP [],(ae (decide (d<(0:Int))) (False) (e w))/\aN 3 (∀f,e f->Cf mQ #[.int .u64 (IntKind.u64.wrap ((b:Nat):Int)),.int .u64 (IntKind.u64.wrap d)] f λg i=>∃j k,g=rT #[.int .u64 j,.int .u64 k]/\∃l:FP [],(∃m:FP [.one .bool],(ae (decide (j>(0:Int))) (m true i) (m (decide (k>(9223372036854775807:Int))) i))/\∀n,aN 5 (∀o,m n o->ae n (False) (l o)))/\aN 7 (∀m,l m->∃n o p q,(Instr.makeSlice aZ (vI (i64.wrap k)) (vI (i64.wrap k))).run prog m=.ok (.slice o p q) n/\∃r s,(Builtin.copy_ #[aZ,aZ] aP #[.slice o p q,.slice a b c]).run prog n=.ok (vI s) r/\∃t:Nat->FP [.one (.int .i64)],(∃u,t u s r)/\∀u v,aN 13 (∀x,t u v x->ae (decide (v<((p:Nat):Int))) (bd v ((p:Nat):Int)/\bd v ((q:Nat):Int)/\∃y z,(Builtin.copy_ #[aZ,aZ] aP #[.slice (sS o q (Int.toNat v) 1) (p-(Int.toNat v)) (q-(Int.toNat v)),.slice o (Int.toNat v) q]).run prog (World.drew x)=.ok (vI z) y/\∃A:Nat,A<u/\t A (i64.wrap (v+z)) y) (K (.slice o p q) x))))):Cf eM #[.slice a b c,vI d] w (Ret K):=ru func298 [(2,[]),(10,[]),(11,[(26,.one .bool)]),(22,[(8,.one (.int .i64))])] h
theorem vC (a:Option Addr)(b:Bool)(c:Int){w K}(h:(Option.isSome a=true)/\(Option.isSome a=true)/\(isSome (Option.map (λd=>d.add 0) a))/\∃d e f,Ld df (Option.map (λg=>g.add 3) (Option.map (λg=>g.add 0) a)) w (.slice d e f)/\nA w (.cells #[.bool b] cd) λg i=>∃j k l m,(Builtin.append_ #[df,df] df #[.slice d e f,.slice (vA g 0) 1 1]).run prog i=.ok (.slice k l m) j/\(Option.isSome a=true)/\(Option.isSome a=true)/\(isSome (Option.map (λn=>n.add 0) a))/\∃n,Sv df (Option.map (λo=>o.add 3) (Option.map (λo=>o.add 0) a)) (.slice k l m) j n/\(Option.isSome a=true)/\(Option.isSome a=true)/\(isSome (Option.map (λo=>o.add 0) a))/\(Option.isSome a=true)/\(Option.isSome a=true)/\(isSome (Option.map (λo=>o.add 0) a))/\∃o p q,(∀r,bW n r->Ld aZ (Option.map (λs=>s.add 2) (Option.map (λs=>s.add 0) a)) r (.slice o p q))/\∃r,(∀s,bW n s->Ld aP (Option.map (λt=>t.add 0) (Option.map (λt=>t.add 0) a)) s (vI r))/\∀s,n.heap.size <=s->∃t:FP [.one .slice],(∀u v x y z,t u v x y->bW y z->t u v x z)/\(∀u,bW n u->u.heap[s]? =some (.cells #[vI c] aP)->uL eM #[.slice (vA s 0) 1 1,vI r] u λv x y z=>t v x y z/\bW u z)/\∀u v x,∀y,bW n y->t u v x y->y.heap[s]? =some (.cells #[vI c] aP)->∃z A B C,(Builtin.append_ #[aZ,aZ] aZ #[.slice o p q,.slice u v x]).run prog y=.ok (.slice A B C) z/\(Option.isSome a=true)/\(Option.isSome a=true)/\(isSome (Option.map (λD=>D.add 0) a))/\∃D,Sv aZ (Option.map (λE=>E.add 2) (Option.map (λE=>E.add 0) a)) (.slice A B C) z D/\(Option.isSome a=true)/\(Option.isSome a=true)/\(isSome (Option.map (λE=>E.add 0) a))/\∃E F G,Ld df (Option.map (λH=>H.add 3) (Option.map (λH=>H.add 0) a)) D (.slice E F G)/\K (vI (i64.wrap (((F:Nat):Int)-(1:Int)))) D):Cf eX #[.pointer a,.bool b,vI c] w (Ret K):=ru func328 [(3000005,[(0,.one .bool),(1,.one .bool),(2,.one .bool),(3,.one .bool),(4,.one .bool),(6,.one .bool),(8,.one .bool),(9,.one .bool),(10,.one .bool),(11,.one .bool),(5,.one .bool),(12,.one .bool),(7,.one .bool),(13,.one .slice)])] h
theorem Ae (a:Int)(b:Option Addr){w K}(h:ae (decide (a<(0:Int))) (K (.bool true) w) (∃c,Ld aP b w (vI c)/\K (.bool (decide (a >=c))) w)):Cf dr #[vI a,.pointer b] w (Ret K):=ru func334 [] h
theorem gZ (a:Option Addr)(b c:Nat)(d:Option Addr){w K}(h:∃e:Nat->FP [.one (.int .i64)],(∃f,e f (0:Int) w)/\∀f g,aN 12 (∀i,e f g i->ae (decide (g<((b:Nat):Int))) ((bx g ((b:Nat):Int)/\Option.isSome a=true)/\∃j,Ld aP (am a g 1) i (vI j)/\uB dr #[vI j,.pointer d] i λk l=>ae k (K (vI g) l) (∃m:Nat,m<f/\e m (i64.wrap (g+(1:Int))) l)) (K (vI (-1)) i))):Cf iN #[.slice a b c,.func (.func dr) #[] #[.pointer d]] w (Ret K):=ru func294 [(6,[(8,.one (.int .i64))])] h
theorem gd (a:Option Addr)(b c:Nat)(d:Option Addr){w K}(h:uI iN #[.slice a b c,.func (.func dr) #[] #[.pointer d]] w λe f=>K (.bool (decide (e >=(0:Int)))) f):Cf eA #[.slice a b c,.func (.func dr) #[] #[.pointer d]] w (Ret K):=ru func222 [] h
theorem Gk (a:Int)(b:Option Addr)(c d:Nat)(e:Bool){w K}(h:nA w (.cells #[vI a] aP) λf g=>nA g (.cells #[vI 0,vI 0,.slice none 0 0,.slice none 0 0] ax) λi j=>∃k:FP [],(∃l:FP [.one .bool],(∃m,Ld aP (vA f 0) j (vI m)/\ae (decide (m<(1:Int))) (l true j) (∃n,Ld aP (vA f 0) j (vI n)/\ae (decide (n>(512:Int))) (l true j) (uB eA #[.slice b c d,.func (.func dr) #[] #[.pointer (vA f 0)]] j λo p=>l o p)))/\∀m,aN 10 (∀n,l m n->ae m (∃o,Sv ax (vA i 0) (.agg #[vI 0,vI 0,.slice none 0 0,.slice none 0 0]) n o/\∃p q r s t u v x,Rv ax (vA i 0) o (.agg #[vI p,vI q,.slice r s t,.slice u v x])/\K (.tuple #[.agg #[vI p,vI q,.slice r s t,.slice u v x],vI 151]) o) (k n)))/\aN 13 (∀l,k l->ae (decide (((c:Nat):Int)>(65534:Int))) (∃m,Sv ax (vA i 0) (.agg #[vI 0,vI 0,.slice none 0 0,.slice none 0 0]) l m/\∃n o p q r s t u,Rv ax (vA i 0) m (.agg #[vI n,vI o,.slice p q r,.slice s t u])/\K (.tuple #[.agg #[vI n,vI o,.slice p q r,.slice s t u],vI 152]) m) (∃m,Ld aP (vA f 0) l (vI m)/\nA l (.cells #[vI m,vI 1,.slice none 0 0,.slice none 0 0] mI) λn o=>uI eX #[.pointer (vA n 0),.bool false,vI 0] o λp q=>∃r:Nat->FP [.one (.int .i64)],(∃s,r s (0:Int) q)/\∀s t,aN 21 (∀u,r s t u->ae (decide (t<((c:Nat):Int))) ((bx t ((c:Nat):Int)/\Option.isSome b=true)/\∃v,Ld aP (am b t 1) u (vI v)/\uI eX #[.pointer (vA n 0),.bool false,vI 0] u λx y=>true/\true/\true/\∃z A B,(∀C,bW y C->Ld aZ (vA n 2) C (.slice z A B))/\∃C,(∀D,bW y D->Ld aP (vA f 0) D (vI C))/\(bx (i64.wrap ((i64.wrap (x*C))+v)) ((A:Nat):Int)/\Option.isSome z=true)/\∀D,bW y D->∃E,Sv aP (am z (i64.wrap ((i64.wrap (x*C))+v)) 1) (vI (i64.wrap (x+(1:Int)))) D E/\∃F:Nat,F<s/\r F (i64.wrap (t+(1:Int))) E) (true/\true/\true/\∃v x y,Ld df (vA n 3) u (.slice v x y)/\∃z:FP [.one (.int .i64)],(ae e (z ((x:Nat):Int) u) (z (0:Int) u))/\∀A,aN 2 (∀B,z A B->uI eX #[.pointer (vA n 0),.bool true,vI A] B λC D=>true/\true/\∃E F G H I J L M,Ld ax (vA n 0) D (.agg #[vI E,vI F,.slice G H I,.slice J L M])/\∃N,Sv ax (vA i 0) (.agg #[vI E,vI F,.slice G H I,.slice J L M]) D N/\∃O P Q R S T U V,Rv ax (vA i 0) N (.agg #[vI O,vI P,.slice Q R S,.slice T U V])/\K (.tuple #[.agg #[vI O,vI P,.slice Q R S,.slice T U V],vI 0]) N)))))):Cf qu #[vI a,.slice b c d,.bool e] w (Ret K):=ru func295 [(2,[]),(3,[(24,.one .bool)]),(26,[(38,.one (.int .i64))]),(3000039,[(0,.one .bool),(1,.one .bool),(2,.one .bool),(3,.one .bool),(5,.one .bool),(8,.one .bool),(10,.one .bool),(11,.one .bool),(4,.one .bool),(6,.one .bool),(7,.one .bool),(9,.one .bool),(12,.one .bool)]),(45,[(13,.one (.int .i64))])] h
theorem Im (a:Int){w K}(h:nA w (.cells #[vI 0,vI 0,.slice none 0 0,.slice none 0 0] ax) λb c=>∃d:FP [],(∃e:FP [.one .bool],(ae (decide (a<(1:Int))) (e true c) (e (decide (a>(512:Int))) c))/\∀f,aN 5 (∀g,e f g->ae f (∃i,Sv ax (vA b 0) (.agg #[vI 0,vI 0,.slice none 0 0,.slice none 0 0]) g i/\∃j k l m n o p q,Rv ax (vA b 0) i (.agg #[vI j,vI k,.slice l m n,.slice o p q])/\K (.tuple #[.agg #[vI j,vI k,.slice l m n,.slice o p q],vI 151]) i) (d g)))/\aN 8 (∀e,d e->nA e (.cells #[vI a,vI 0,.slice none 0 0,.slice none 0 0] mI) λf g=>uI eX #[.pointer (vA f 0),.bool false,vI 0] g λi j=>true/\true/\∃k l m n o p q r,Ld ax (vA f 0) j (.agg #[vI k,vI l,.slice m n o,.slice p q r])/\∃s,Sv ax (vA b 0) (.agg #[vI k,vI l,.slice m n o,.slice p q r]) j s/\∃t u v x y z A B,Rv ax (vA b 0) s (.agg #[vI t,vI u,.slice v x y,.slice z A B])/\K (.tuple #[.agg #[vI t,vI u,.slice v x y,.slice z A B],vI 0]) s)):Cf pz #[vI a] w (Ret K):=ru func277 [(2,[]),(3,[(10,.one .bool)])] h
theorem Io (a:Int)(b:Option Addr)(c d:Nat){w K}(h:nA w (.cells #[vI 0,vI 0,.slice none 0 0,.slice none 0 0] ax) λe f=>Cf qu #[vI a,.slice b c d,.bool false] f λg i=>∃j k l m n o p q r,g=rT #[.agg #[vI j,vI k,.slice l m n,.slice o p q],vI r]/\∃s,Sv ax (vA e 0) (.agg #[vI j,vI k,.slice l m n,.slice o p q]) i s/\∃t u v x y z A B,Rv ax (vA e 0) s (.agg #[vI t,vI u,.slice v x y,.slice z A B])/\K (.tuple #[.agg #[vI t,vI u,.slice v x y,.slice z A B],vI r]) s):Cf tU #[vI a,.slice b c d] w (Ret K):=ru func227 [] h
theorem DW (a:Int)(b:Option Addr)(c d:Nat){w K}(h:nA w (.cells #[vI 0,vI 0,.slice none 0 0,.slice none 0 0] ax) λe f=>Cf qu #[vI a,.slice b c d,.bool true] f λg i=>∃j k l m n o p q r,g=rT #[.agg #[vI j,vI k,.slice l m n,.slice o p q],vI r]/\∃s,Sv ax (vA e 0) (.agg #[vI j,vI k,.slice l m n,.slice o p q]) i s/\∃t u v x y z A B,Rv ax (vA e 0) s (.agg #[vI t,vI u,.slice v x y,.slice z A B])/\K (.tuple #[.agg #[vI t,vI u,.slice v x y,.slice z A B],vI r]) s):Cf nV #[vI a,.slice b c d] w (Ret K):=ru func296 [] h
theorem pT (a:Option Addr)(b c:Nat)(d:Int){w K}(h:∃e:Nat->FP [.one (.int .i64)],(∃f,e f (0:Int) w)/\∀f g,aN 12 (∀i,e f g i->ae (decide (g<((b:Nat):Int))) ((bx g ((b:Nat):Int)/\Option.isSome a=true)/\∃j,Ld aP (am a g 1) i (vI j)/\ae (d==j) (K (vI g) i) (∃k:Nat,k<f/\e k (i64.wrap (g+(1:Int))) i)) (K (vI (-1)) i))):Cf kh #[.slice a b c,vI d] w (Ret K):=ru func263 [(6,[(8,.one (.int .i64))])] h
theorem ny (a:Option Addr)(b c:Nat)(d:Int){w K}(h:uI kh #[.slice a b c,vI d] w λe f=>K (.bool (decide (e >=(0:Int)))) f):Cf dM #[.slice a b c,vI d] w (Ret K):=ru func180 [] h
theorem nN (a:Option Addr)(b c:Nat)(d:Bool){w K}(h:∃e:Nat->FP [.one (.int .i64)],(∃f,e f (0:Int) w)/\∀f g,aN 12 (∀i,e f g i->ae (decide (g<((b:Nat):Int))) ((bx g ((b:Nat):Int)/\Option.isSome a=true)/\∃j,Ld cd (am a g 1) i (.bool j)/\ae (d==j) (K (vI g) i) (∃k:Nat,k<f/\e k (i64.wrap (g+(1:Int))) i)) (K (vI (-1)) i))):Cf fM #[.slice a b c,.bool d] w (Ret K):=ru func297 [(6,[(8,.one (.int .i64))])] h
theorem yv (a:Option Addr)(b:Value){w K}(h:nA w (.cells (Value.cells b) af) λc d=>∃e,Ld af (vA c 0) d e/\uL ur #[.pointer a,e] d λf g i j=>ae (((g:Nat):Int)==(0:Int)) (K (.tuple #[.slice none 0 0,vI 181]) j) (uI bh #[.pointer a] j λk l=>uB dM #[.slice f g i,vI (i64.wrap (k-(1:Int)))] l λm n=>ae m (K (.tuple #[.slice none 0 0,vI 181]) n) (K (.tuple #[.slice f g i,vI 0]) n))):Cf jK #[.pointer a,b] w (Ret K):=ru func226 [] h
theorem CK (a:Option Addr)(b:Value){w K}(h:nA w (.cells (Value.cells b) af) λc d=>nA d (.cells #[vI 0,vI 0,.slice none 0 0,.slice none 0 0] ax) λe f=>∃g,Ld af (vA c 0) f g/\Cf jK #[.pointer a,g] f λi j=>∃k l m n,i=rT #[.slice k l m,vI n]/\ae (n !=(0:Int)) (∃o,Sv ax (vA e 0) (.agg #[vI 0,vI 0,.slice none 0 0,.slice none 0 0]) j o/\∃p q r s t u v x,Rv ax (vA e 0) o (.agg #[vI p,vI q,.slice r s t,.slice u v x])/\K (.tuple #[.agg #[vI p,vI q,.slice r s t,.slice u v x],vI n]) o) (uI bh #[.pointer a] j λo p=>Cf tU #[vI o,.slice k l m] p λq r=>∃s t u v x y z A B,q=rT #[.agg #[vI s,vI t,.slice u v x,.slice y z A],vI B]/\∃C,Sv ax (vA e 0) (.agg #[vI s,vI t,.slice u v x,.slice y z A]) r C/\∃D E F G H I J L,Rv ax (vA e 0) C (.agg #[vI D,vI E,.slice F G H,.slice I J L])/\K (.tuple #[.agg #[vI D,vI E,.slice F G H,.slice I J L],vI B]) C)):Cf iH #[.pointer a,b] w (Ret K):=ru func140 [] h
theorem wW (a:Option Addr)(b:Value){w K}(h:nA w (.cells (Value.cells b) af) λc d=>nA d (.cells #[vI 0,vI 0,.slice none 0 0,.slice none 0 0] ax) λe f=>∃g,Ld af (vA c 0) f g/\Cf mO #[.pointer a,g,.bool true] f λi j=>∃k l m n o p q r s,i=rT #[.agg #[vI k,vI l,.slice m n o,.slice p q r],vI s]/\∃t,Sv ax (vA e 0) (.agg #[vI k,vI l,.slice m n o,.slice p q r]) j t/\∃u v x y z A B C,Rv ax (vA e 0) t (.agg #[vI u,vI v,.slice x y z,.slice A B C])/\K (.tuple #[.agg #[vI u,vI v,.slice x y z,.slice A B C],vI s]) t):Cf fk #[.pointer a,b] w (Ret K):=ru func192 [] h
abbrev Pi:=Int×Int
def prC (p:Pi):List Value:=[vI p.1,vI p.2]
def prV (p:Pi):Value:=.agg #[vI p.1,vI p.2]
def tP:Ty Pi where
 k:=2
 pos:=by decide
 rep:=λ_ _ vs p=>vs=prC p
 len:=λh=>by rw[h];rfl
 one:=fun{_ _ _ x} h v hv=>by rw[h]at hv;exact(aJ rfl (aJ rfl gX):vX (prC x)) v hv
 keep:=λh _=>h
 mono:=λh _=>h
theorem Sl.pair {P:Program}{t:TypeId}(hw:Whl P t 2){w:World}{A:Bl}{a:Option Addr}{l c:Nat}{xs:List Pi}(h:Sl tP w A a l c xs){i:Nat}(hi:i<xs.length):
   (Instr.loadAt t (.pointer (am a (i:Int) 2))).run P w=.ok (prV xs[i]) w:=by
 obtain⟨vs,h1,h2⟩:=hw.elem rfl h hi
 have h2:vs=prC xs[i]:=h2
 rw[h2]at h1;exact h1
theorem Sl.num {P:Program}{t:TypeId}(hu:P.underlying t=some (.int .i64)){w:World}{A:Bl}{a:Option Addr}{l c:Nat}{xs:List Int}(h:Sl lS w A a l c xs){i:Nat}(hi:i<xs.length):
   (Instr.loadAt t (.pointer (am a (i:Int) 1))).run P w=.ok (vI xs[i]) w:=by
 obtain⟨v,h1,h2⟩:=h.load1 hu rfl rfl (i:=(i:Int)) (by simpa using hi)
 rw[h1,Oc h2]
 simp
structure DA where
 k:Int
 st:Int
 nx:List Int
 ac:List Bool
structure DA.Ok (d:DA):Prop where
 k1:1 <=d.k
 k2:d.k <=512
 n1:1 <=d.ac.length
 n2:d.ac.length <=65536
 len:(d.nx.length:Int)=(d.ac.length:Int)*d.k
 s0:0 <=d.st
 s1:d.st<(d.ac.length:Int)
 nx0:∀x∈d.nx,0 <=x/\x<(d.ac.length:Int)
abbrev DA.n (d:DA):Nat:=d.ac.length
abbrev DA.K (d:DA):Nat:=d.k.toNat
abbrev DA.s (d:DA):Nat:=d.st.toNat
def DA.to (d:DA)(s x:Nat):Nat:=(d.nx.getD (s*d.K+x) 0).toNat
def DA.run (d:DA):Nat->List Nat->Nat
 | s,[]=>s
 | s,x::w=>d.run (d.to s x) w
def DA.acc (d:DA)(s:Nat):Bool:=d.ac.getD s false
theorem DA.Ok.kk {d:DA}(h:d.Ok):(d.K:Int)=d.k:=by have:=h.k1;show((d.k.toNat:Nat):Int)=d.k;omega
theorem DA.Ok.lenN {d:DA}(h:d.Ok):d.nx.length=d.n*d.K:=by
 have h1:=h.len
 rw[<- h.kk,<- Int.natCast_mul]at h1
 exact Int.ofNat.inj h1
theorem Vq {s x n K:Nat}(hs:s<n)(hx:x<K):s*K+x<n*K:=by
 have:(s+1)*K <=n*K:=Nat.mul_le_mul_right _ hs
 rw[Nat.succ_mul]at this
 omega
theorem DA.Ok.at {d:DA}(h:d.Ok){s x:Nat}(hs:s<d.n)(hx:x<d.K):∃v,d.nx[s*d.K+x]? =some v/\0 <=v/\v<(d.n:Int)/\d.to s x=v.toNat:=by
 have hi:s*d.K+x<d.nx.length:=by rw[h.lenN];exact Vq hs hx
 refine⟨d.nx[s*d.K+x],List.getElem?_eq_getElem hi,(h.nx0 _ (List.getElem_mem hi)).1,(h.nx0 _ (List.getElem_mem hi)).2,?_⟩
 unfold DA.to
 rw[List.getD_eq_getElem?_getD,List.getElem?_eq_getElem hi];rfl
theorem DA.Ok.to_lt {d:DA}(h:d.Ok){s x:Nat}(hs:s<d.n)(hx:x<d.K):d.to s x<d.n:=by
 obtain⟨v,_,h1,h2,e⟩:=h.at hs hx
 rw[e];omega
structure DaS (w:World)(a:Option Addr)(n c:Nat)(b:Option Addr)(m e:Nat)(d:DA):Prop where
 nx:Sl lS w uc a n c d.nx
 ac:Sl AA w uc b m e d.ac
theorem DaS.below {w w':World}{a b:Option Addr}{n c m e:Nat}{d:DA}(h:DaS w a n c b m e d)(hb:bW w w'):DaS w' a n c b m e d:=⟨h.nx.below hb,h.ac.below hb⟩
def daV (a:Option Addr)(n c:Nat)(b:Option Addr)(m e:Nat)(d:DA):Value:=.agg #[vI d.k,vI d.st,.slice a n c,.slice b m e]
theorem ai.put1 {P:Program}{u:TypeId}{bytes:Nat}{z:Value}(tf:TF P u 1 bytes z){w:World}{k:Nat}{t:TypeId}{x v:Value}(h:ai w k t [x])(h1:v.oneCell'=true)(hc:v.cells= #[v]):
   ∃w',(Instr.storeAt u (.pointer (some ⟨k,0,none⟩)) v).run P w=.ok () w'/\ai w' k t [v]/\w.grownBy w' (some k):=by
 obtain⟨w',hs,ha,hg⟩:=h.store tf (i:=0) (v:=v) (by rw[hc];rfl) (by simp) (by rw[hc];intro c hcc;simp at hcc;subst hcc;exact h1)
 refine⟨w',hs,?_,hg⟩
 rw[hc]at ha
 exact ha
theorem Chg.row {w w':World}{a:Option Addr}(h:w.grownBy w' (dV a)):Chg (dV a).toList w w':=
 ⟨h.os,h.tape,h.output,h.size,λk hk hn=>h.block k hk λe=>hn (by rw[<- e];simp)⟩
theorem lG:Whl prog ax 4:=⟨⟨_,_,Mw⟩,by kernel_rfl⟩
def inR (N x:Int):Bool:=decide (0 <=x)&&decide (x<N)
theorem ND {w:World}{k:Nat}{N:Int}(hk:ai w k aP [vI N]):(Instr.loadAt aP (.pointer (some ⟨k,0,none⟩))).run prog w=.ok (vI N) w:=hk.load1 cD rfl rfl
theorem BG (x:Int){w:World}{k:Nat}{N:Int}(hk:ai w k aP [vI N]):Cf dr #[vI x,.pointer (some ⟨k,0,none⟩)] w (Ret λv w'=>v=.bool (!inR N x)/\w'=w):=by
 apply Ae
 refine ae.of (λh=>⟨?_,rfl⟩) (λh=>⟨N,ND hk,?_,rfl⟩) <;> simp only[dTx,dFx]at h
 · congr 1;unfold inR;rw[decide_eq_false (by omega)];rfl
 · congr 1;unfold inR
   have h0:(0:Int) <=x:=by omega
   by_cases h2:x<N
   · have h3: ¬ N <=x:=by omega
     simp[h0,h2,h3]
   · have h3:N <=x:=by omega
     simp[h0,h2,h3]
theorem we {w:World}{A:Bl}{a:Option Addr}{n c:Nat}{xs:List Int}(hs:Sl lS w A a n c xs){k:Nat}{N:Int}(hk:ai w k aP [vI N]):
   Cf eA #[.slice a n c,.func (.func dr) #[] #[.pointer (some ⟨k,0,none⟩)]] w (Ret λv w'=>v=.bool (!xs.all (inR N))/\w'=w):=by
 have hn:=hs.len
 subst hn
 have hle:=hs.le
 apply gd
 refine aB (K:=λv w'=>∃i:Int,v=vI i/\(decide (i >=0))=(!xs.all (inR N))/\w'=w) ?_ ?_
 · apply gZ
   refine⟨λm i w'=>∃j:Nat,j <=xs.length/\i=(j:Int)/\m=xs.length-j/\(xs.take j).all (inR N)=true/\w'=w,⟨_,0,by omega,rfl,rfl,rfl,rfl⟩,?_⟩
   intro m i
   refine aN.of ?_ _
   rintro w' ⟨j,hj,rfl,rfl,hno,hw'⟩
   rw[hw'];clear hw'
   refine ae.of (λh=>?_) (λh=>?_) <;> simp only[dTx,dFx]at h
   · have hlt:j<xs.length:=by omega
     refine⟨⟨⟨by omega,h⟩,hs.isSome hlt⟩,_,hs.num cD hlt,?_⟩
     refine aB (BG xs[j] hk) ?_
     rintro _ w3 ⟨rfl,hw3⟩
     rw[hw3]
     refine⟨_,rfl,ae.of (λh3=>?_) (λh3=>?_)⟩
     · refine⟨_,rfl,?_,rfl⟩
       have:xs.all (inR N)=false:=by
         rw[Bool.eq_false_iff]
         intro hc
         rw[List.all_eq_true.1 hc _ (List.getElem_mem hlt)]at h3;cases h3
       rw[this,decide_eq_true (by omega)];rfl
     · refine⟨xs.length-(j+1),by omega,j+1,by omega,by rw[wrap_i64 (by omega) (by omega)];omega,rfl,?_,rfl⟩
       rw[List.take_succ_eq_append_getElem hlt,List.all_append,hno]
       simpa using h3
   · have:j=xs.length:=by omega
     subst this
     rw[List.take_length]at hno
     exact⟨_,rfl,by rw[hno];decide,rfl⟩
 · rintro _ w3 ⟨i,rfl,hi,hw3⟩
   exact⟨_,rfl,by rw[hi],hw3⟩
theorem Q0 (z:Value)(n:Nat):madeCells #[z] n=(List.replicate n z).toArray:=by
 unfold madeCells
 apply Array.ext
 · simp
 · intro i h1 h2
   simp at h1 ⊢
   rw[Nat.mod_one];rfl
theorem Ow.ofArr {w:World}{A:Bl}{g:Nat}{t:TypeId}{xs:List Int}(h:ai w g t (xs.map λx=>vI x))(hl:xs.length <=maxLen):Ow lS t w A (some ⟨g,0,none⟩) xs.length xs.length xs:=by
 refine⟨rfl,Nat.le_refl _,hl,.inr ⟨g,_,(0,0),rfl,h,λi hi h2=>by omega,by simp[lS,Xe,Ty.enc],?_⟩⟩
 have e:(lS.k)=1:=rfl
 rw[e,Nat.mul_one]
 have e2:(xs.map λx=>vI x).toArray.toList.take xs.length=xs.map λx=>vI x:=List.take_of_length_le (by simp)
 rw[e2]
 exact(mj (e:=λn=>vI n) (h1:=λ_=>rfl) (p:=λ_=>True) (λx _=>trivial):kg lS w A (xs.map λx=>vI x) xs)
theorem Mf (k:Nat)(hk:k <=1000000)(w:World):Cf mQ #[.int .u64 1,.int .u64 (k:Int)] w (Ret λv w'=>v=.tuple #[.int .u64 0,.int .u64 (k:Int)]/\w'=w):=by
 apply yx
 refine aB (K:=λv w'=>v=.tuple #[.int .u64 0,.int .u64 (k:Int)]/\w'=w) ?_ ?_
 · apply vF
   have c1:Int.fdiv (1:Int) (2 ^ (min (Int.toNat (32:Int)) (IntKind.bits .u64)))=0:=by decide
   have c2:Int.fdiv (k:Int) (2 ^ (min (Int.toNat (32:Int)) (IntKind.bits .u64)))=0:=by
     show Int.fdiv (k:Int) 4294967296=0
     rw[Int.fdiv_eq_ediv_of_nonneg _ (by omega)]
     omega
   have c0:Int.fdiv (0:Int) (2 ^ (min (Int.toNat (32:Int)) (IntKind.bits .u64)))=0:=by decide
   have w0:IntKind.u64.wrap (0:Int)=0:=by decide
   have wk:IntKind.u64.wrap (k:Int)=(k:Int):=IntWalk.u64_in _ ⟨by omega,by omega⟩
   have m1:(((BitVec.ofInt (IntKind.bits .u64) (1:Int)) &&& (BitVec.ofInt (IntKind.bits .u64) (4294967295:Int))).toNat:Nat)=1:=by decide
   have m0:(((BitVec.ofInt (IntKind.bits .u64) (0:Int)) &&& (BitVec.ofInt (IntKind.bits .u64) (4294967295:Int))).toNat:Nat)=0:=by decide
   have mk:(((BitVec.ofInt (IntKind.bits .u64) (k:Int)) &&& (BitVec.ofInt (IntKind.bits .u64) (4294967295:Int))).toNat:Nat)=k:=by
     show(((BitVec.ofInt 64 (k:Int)) &&& (BitVec.ofInt 64 (4294967295:Int))).toNat:Nat)=k
     have e1:BitVec.ofInt 64 (k:Int)=BitVec.ofNat 64 k:=by simp
     have e2:BitVec.ofInt 64 (4294967295:Int)=BitVec.ofNat 64 4294967295:=by decide
     rw[e1,e2,BitVec.toNat_and,BitVec.toNat_ofNat,BitVec.toNat_ofNat,Nat.mod_eq_of_lt (show k<2 ^ 64 by omega),show(4294967295%2 ^ 64:Nat)=2 ^ 32-1 by decide,Nat.and_two_pow_sub_one_eq_mod]
     omega
   have w1:IntKind.u64.wrap ((1:Nat):Int)=1:=by decide
   have z0:IntKind.u64.wrap ((0:Nat):Int)=0:=by decide
   refine⟨by decide,by decide,by decide,by decide,by decide,?_,rfl⟩
   rw[c1,c2,m1,mk,w1,wk]
   simp only[Int.zero_mul,Int.mul_zero,Int.one_mul,Int.zero_add,Int.add_zero,w0,wk,c0,c2,m0,z0]
 · rintro _ w3 ⟨rfl,hw3⟩
   exact⟨_,_,rfl,rfl,hw3⟩
def rF (v:Int)(i k:Nat):List Int:=List.replicate i v++List.replicate (k-i) 0
theorem NU {v:Int}{i k:Nat}(h:i <=k):(rF v i k).length=k:=by simp[rF];omega
theorem sq (v:Int)(i k:Nat):((rF v i k).map λx=>vI x)=List.replicate i (vI v)++List.replicate (k-i) (vI 0):=by simp[rF]
theorem Ih {w:World}{A:Bl}{a0:Option Addr}{c0:Nat}{v:Int}(hs:Sl lS w A a0 1 c0 [v]){k:Nat}(h1:1 <=k)(hk:k <=1000000):
   Cf eM #[.slice a0 1 c0,vI (k:Int)] w (Ret λr w'=>∃a':Option Addr,r=.slice a' k k/\Ow lS aP w' NoB a' k k (List.replicate k v)/\bg w.heap.size a'/\bW w w'):=by
 apply pj
 refine j8 (λw'=>w'=w) ?_ ?_
 · refine ae.of (λh=>?_) (λ_=>rfl)
   simp only[dTx]at h
   omega
 intro wj ej
 rw[ej];clear ej wj
 have wk:IntKind.u64.wrap (k:Int)=(k:Int):=IntWalk.u64_in _ ⟨by omega,by omega⟩
 rw[show IntKind.u64.wrap (((1:Nat):Int))=(1:Int) by decide,wk]
 refine aB (Mf k hk w) ?_
 rintro _ w18 ⟨rfl,e18⟩
 rw[e18];clear e18 w18
 refine⟨_,_,rfl,j8 (λw'=>w'=w) ⟨λb w'=>b=false/\w'=w,?_,λb=>aN.of ?_ _⟩ ?_⟩
 · refine ae.of (λh=>?_) (λ_=>⟨?_,rfl⟩)
   · simp only[dTx]at h;omega
   · rw[decide_eq_false (by omega)]
 · rintro wj ⟨hb0,hw0⟩
   exact ae.no hb0 hw0
 intro wj ej
 rw[ej];clear ej wj
 try dsimp only
 rw[show i64.wrap (k:Int)=(k:Int) from wrap_i64 (by omega) (by omega)]
 obtain⟨ti,hti,hsz,hbt,hzz⟩:=fV.info
 have hr:=run_make_row (P:=prog) aZ aP ti (vI 0) fh hti hzz hsz rfl .i64 .i64 k (by rw[hbt];omega) (by omega) w
 rw[Q0]at hr
 obtain⟨w30,hw30⟩:∃w30,w30=w.alloc (.cells (List.replicate k (vI 0)).toArray aP):=⟨_,rfl⟩
 obtain⟨g,hg⟩:∃g,g=w.heap.size:=⟨_,rfl⟩
 rw[<- hw30,<- hg]at hr
 have A30:ai w30 g aP (List.replicate k (vI 0)):=ai.new hg hw30
 have hb30:bW w w30:=hw30▸ah w _
 refine⟨w30,some ⟨g,0,none⟩,k,k,hr,?_⟩
 have step:∀(W:World) (i j:Nat) (sa:Addr) (sl sc dc:Nat),ai W g aP ((rF v i k).map λx=>vI x)->i <=k->j=Nat.min sl (k-i)->(∀t,t<j->W.cell? (sa.add t)=some (vI v))->
     ∃W',(Builtin.copy_ #[aZ,aZ] aP #[.slice (some ⟨g,i,none⟩) (k-i) dc,.slice (some sa) sl sc]).run prog W=.ok (vI ((j:Nat):Int)) W'/\ai W' g aP ((rF v (i+j) k).map λx=>vI x)/\W.grownBy W' (some g):=by
   intro W i j sa sl sc dc hA hi hj hc
   have hjk:i+j <=k:=by
     have:Nat.min sl (k-i) <=k-i:=Nat.min_le_right _ _
     omega
   have hlen:=congrArg List.length (sq v i k)
   have hrun:=run_copy_row (P:=prog) W aZ aZ aP aP g i (k-i) dc sa sl sc ((rF v i k).map λx=>vI x).toArray aP (List.replicate j (vI v)) fh (by rw[hti];simp[hsz]) hA (by rw[List.length_replicate];exact hj)
     (λt u hu=>by
       have ht:t<j:=by have:=(List.getElem?_eq_some_iff.1 hu).1;simpa using this
       rw[List.getElem?_replicate,if_pos ht]at hu
       rw[<- Option.some.inj hu];exact hc t ht)
     (by simp[NU hi];try omega) (λu hu=>by rw[(List.mem_replicate.1 hu).2];rfl)
   refine⟨_,by rw[hrun,List.length_replicate];rfl,?_,fw W g _⟩
   have hh:=setRow_heap W g ((rF v i k).map λx=>vI x).toArray ((((rF v i k).map λx=>vI x).toArray.toList.take i++List.replicate j (vI v)++((rF v i k).map λx=>vI x).toArray.toList.drop (i+(List.replicate j (vI v)).length)).toArray) aP (0,0) hA
   have e:(((rF v i k).map λx=>vI x).toArray.toList.take i++List.replicate j (vI v)++((rF v i k).map λx=>vI x).toArray.toList.drop (i+(List.replicate j (vI v)).length))=(rF v (i+j) k).map λx=>vI x:=by
     simp only[List.length_replicate]
     rw[sq,sq,List.take_left' (by simp),List.drop_append,List.drop_of_length_le (by simp <;> omega),List.nil_append,List.length_replicate,List.drop_replicate,List.replicate_append_replicate]
     congr 2
     try omega
   rw[List.length_replicate]at hh e
   unfold ai
   rw[<- e]
   exact hh
 obtain⟨b,off,rfl,hbl,_,l,hl,hcell⟩:=hs.2.2.2.resolve_left (by simp)
 have hl':l=[vI v]:=fx (h1:=λ_=>rfl) hl
 subst hl'
 have s0:=hcell 0 (by simp)
 have A30':ai w30 g aP ((rF v 0 k).map λx=>vI x):=by rw[sq];simpa using A30
 obtain⟨w33,r33,A33,g33⟩:=step w30 0 1 ⟨b,off,none⟩ 1 c0 k A30' (Nat.zero_le _) (by show 1=Nat.min 1 (k-0);exact(Nat.min_eq_left (by omega)).symm) (λt ht=>by
   have:t=0:=by omega
   subst this
   rw[Bf,li (hb30.block b hbl)]
   simpa using s0)
 rw[Nat.sub_zero]at r33
 refine⟨w33,_,r33,?_⟩
 have hg0:w.heap.size <=g:=by omega
 have hb33:bW w w33:=Below.put hb30 g33 hg0
 refine⟨λm n w'=>∃i:Nat,n=(i:Int)/\1 <=i/\i <=k/\m=k-i/\ai w' g aP ((rF v i k).map λx=>vI x)/\bW w w',⟨_,1,rfl,Nat.le_refl _,h1,rfl,A33,hb33⟩,?_⟩
 intro m n
 refine aN.of ?_ _
 rintro wl ⟨i,rfl,hi1,hik,rfl,Al,hbl'⟩
 refine ae.of (λh=>?_) (λh=>?_) <;> simp only[dTx,dFx]at h
 · refine⟨⟨by omega,by omega⟩,⟨by omega,by omega⟩,?_⟩
   have Ad:ai (World.drew wl) g aP ((rF v i k).map λx=>vI x):=Al.below (cF wl)
   obtain⟨w45,r45,A45,g45⟩:=step (World.drew wl) i (Nat.min i (k-i)) ⟨g,0,none⟩ i k (k-i) Ad hik rfl (λt ht=>by
     have hti':t<i:=Nat.lt_of_lt_of_le ht (Nat.min_le_left _ _)
     rw[gw,Nat.zero_add,Ad.cell,sq,List.getElem?_append_left (by simpa using hti'),List.getElem?_replicate,if_pos hti'])
   have es:sS (some ⟨g,0,none⟩) k i 1=some ⟨g,i,none⟩:=by
     unfold sS
     rw[if_neg (by omega)]
     show some (Addr.add ⟨g,0,none⟩ (i*1))=_
     rw[gw,Nat.mul_one,Nat.zero_add]
   rw[Int.toNat_natCast,es]
   have hmin:1 <=Nat.min i (k-i):=by
     show 1 <=min i (k-i)
     omega
   have hmin2:Nat.min i (k-i) <=k-i:=Nat.min_le_right _ _
   refine⟨w45,_,r45,k-(i+Nat.min i (k-i)),by omega,i+Nat.min i (k-i),?_,by omega,by omega,rfl,A45,Below.put (hbl'.trans ((cF wl).mono hbl'.size)) g45 hg0⟩
   rw[wrap_i64 (by omega) (by omega)];omega
 · have:i=k:=by omega
   subst this
   have e:(rF v i i)=List.replicate i v:=by simp[rF]
   rw[e]at Al
   have ho:=Ow.ofArr (A:=NoB) Al (by rw[List.length_replicate];show i <=9223372036854775807;omega)
   rw[List.length_replicate]at ho
   exact⟨_,rfl,ho,λx hx=>by simp[dV]at hx;omega,hbl'⟩
theorem wD {α:Type}{l:List α}{i:Nat}{d v:α}(h:l[i]? =some v):l.getD i d=v:=by rw[List.getD_eq_getElem?_getD,h];rfl
def U9 (m:Nat)(w v:List Nat):Prop:=if m=0 then v=w else if m=1 then w <+:v else w <+:v/\w.length<v.length
structure GS (d:DA)(w:List Nat)(m:Nat):Prop where
 ok:d.Ok
 st:d.s=1
 mm:m <=2
 n:d.n=w.length+2+m/2
 acc:∀s,s<d.n->d.acc s=decide (s=w.length+1+m/2)
 sink:∀x,x<d.K->d.to 0 x=0
 mid:∀(i x:Nat) (hi:i<w.length),x<d.K->d.to (i+1) x=if x=w[i]then i+2 else 0
 last:∀x,x<d.K->d.to (w.length+1) x=if m=0 then 0 else w.length+m
 more:m=2->∀x,x<d.K->d.to (w.length+2) x=w.length+2
theorem GS.run0 {d:DA}{w:List Nat}{m:Nat}(h:GS d w m):∀{v:List Nat},(∀x∈v,x<d.K)->d.run 0 v=0
 | [],_=>rfl
 | x::v,hv=>by
   show d.run (d.to 0 x) v=0
   rw[h.sink x (hv x List.mem_cons_self)]
   exact h.run0 λy hy=>hv y (List.mem_cons_of_mem _ hy)
theorem GS.runM {d:DA}{w:List Nat}{m s:Nat}(h:GS d w m)(hs:∀x,x<d.K->d.to s x=s):∀{v:List Nat},(∀x∈v,x<d.K)->d.run s v=s
 | [],_=>rfl
 | x::v,hv=>by
   show d.run (d.to s x) v=s
   rw[hs x (hv x List.mem_cons_self)]
   exact h.runM hs λy hy=>hv y (List.mem_cons_of_mem _ hy)
theorem GS.acc_at {d:DA}{w:List Nat}{m s:Nat}(h:GS d w m)(hs:s<w.length+2+m/2):d.acc s=true ↔ s=w.length+1+m/2:=by
 rw[h.acc s (by rw[h.n];exact hs)];simp
theorem Qz {w:List Nat}{i:Nat}(h:i<w.length):w.drop i=w[i]::w.drop (i+1):=List.drop_eq_getElem_cons h
theorem GS.from {d:DA}{w:List Nat}{m:Nat}(h:GS d w m):∀{v:List Nat} {i:Nat},i <=w.length->(∀x∈v,x<d.K)->(d.acc (d.run (i+1) v)=true ↔ U9 m (w.drop i) v)
 | [],i,hi,_=>by
   have hm:=h.mm
   show d.acc (i+1)=true ↔ _
   rw[h.acc_at (by omega)]
   unfold U9
   by_cases h0:m=0
   · subst h0
     simp only[if_true]
     constructor
     · intro e;rw[List.drop_eq_nil_of_le (by omega)]
     · intro e
       have:=congrArg List.length e
       simp only[List.length_nil,List.length_drop]at this
       omega
   · rw[if_neg h0]
     by_cases h1:m=1
     · subst h1
       simp only[if_true,List.prefix_nil,List.drop_eq_nil_iff]
       omega
     · rw[if_neg h1]
       simp only[List.length_nil]
       omega
 | x::v,i,hi,hv=>by
   have hm:=h.mm
   have hx:=hv x List.mem_cons_self
   have hv':∀y∈v,y<d.K:=λy hy=>hv y (List.mem_cons_of_mem _ hy)
   show d.acc (d.run (d.to (i+1) x) v)=true ↔ _
   rcases Nat.lt_or_ge i w.length with hlt|hge
   · rw[h.mid i x hlt hx,Qz hlt]
     by_cases e:x=w[i]
     · rw[if_pos e,h.from (i:=i+1) hlt hv']
       unfold U9
       subst e
       simp only[List.cons.injEq,true_and,List.cons_prefix_cons,List.length_cons,Nat.add_lt_add_iff_right]
     · rw[if_neg e,h.run0 hv',h.acc_at (by omega)]
       have hne: ¬ (x::v=w[i]::w.drop (i+1)):=λh0=>e (List.cons.inj h0).1
       have hnp: ¬ (w[i]::w.drop (i+1) <+:x::v):=λh0=>e (List.cons_prefix_cons.1 h0).1.symm
       constructor
       · intro h0;omega
       · intro h0
         unfold U9 at h0
         split at h0
         · exact(hne h0).elim
         · split at h0
           · exact(hnp h0).elim
           · exact(hnp h0.1).elim
   · have hi':i=w.length:=by omega
     subst hi'
     rw[List.drop_length,h.last x hx]
     unfold U9
     by_cases h0:m=0
     · subst h0
       rw[if_pos rfl,h.run0 hv',h.acc_at (by omega)]
       simp
     · rw[if_neg h0,if_neg h0]
       by_cases h1:m=1
       · subst h1
         rw[h.runM (λy hy=>by rw[h.last y hy];simp) hv',h.acc_at (by omega)]
         simp
       · have h2:m=2:=by omega
         subst h2
         rw[h.runM (h.more rfl) hv',h.acc_at (by omega)]
         simp
def sG (k:Nat)(t:Int):List Int:=List.replicate k t
def gO (k:Nat):List Nat->Nat->List Int
 | [],_=>[]
 | x::w,s=>(sG k 0).set x ((s+1:Nat):Int)++gO k w (s+1)
theorem Bv (k:Nat):∀(u:List Nat) (x s:Nat),gO k (u++[x]) s=gO k u s++(sG k 0).set x ((s+u.length+1:Nat):Int)
 | [],x,s=>by simp[gO]
 | y::u,x,s=>by
   simp only[List.cons_append,gO]
   rw[Bv k u x (s+1),List.append_assoc]
   simp only[List.length_cons]
   rw[show s+1+u.length+1=s+(u.length+1)+1 by omega]
theorem pu (k:Nat):∀(u:List Nat) (s:Nat),(gO k u s).length=u.length*k
 | [],s=>by simp[gO]
 | y::u,s=>by
   simp only[gO,List.length_append,List.length_set,sG,List.length_replicate,List.length_cons,Nat.succ_mul,pu k u (s+1)]
   omega
theorem VG {nx A R B:List Int}{s k x:Nat}(e:nx=A++(R++B))(hA:A.length=s*k)(hR:R.length=k)(hx:x<k):nx.getD (s*k+x) 0=R.getD x 0:=by
 subst e
 rw[List.getD_eq_getElem?_getD,List.getD_eq_getElem?_getD,List.getElem?_append_right (by omega),hA,show s*k+x-s*k=x by omega,List.getElem?_append_left (by omega)]
theorem Ew (k:Nat):∀(u:List Nat) (s i:Nat) (hi:i<u.length),gO k u s=gO k (u.take i) s++((sG k 0).set u[i] ((s+i+1:Nat):Int)++gO k (u.drop (i+1)) (s+i+1))
 | [],_,_,h=>absurd h (Nat.not_lt_zero _)
 | y::u,s,0,_=>by simp[gO]
 | y::u,s,i+1,h=>by
   have hi:i<u.length:=by simpa using h
   have e:=Ew k u (s+1) i hi
   simp only[List.take_succ_cons,List.drop_succ_cons,List.getElem_cons_succ,gO]
   rw[e,List.append_assoc]
   rw[show s+1+i+1=s+(i+1)+1 by omega]
theorem HF {k x:Nat}(t:Int)(hx:x<k):(sG k t).getD x 0=t:=by simp[sG,List.getD_eq_getElem?_getD,hx]
theorem HG {k x y:Nat}(v:Int)(hx:x<k)(hy:y<k):((sG k 0).set y v).getD x 0=if x=y then v else 0:=by
 rw[List.getD_eq_getElem?_getD]
 by_cases e:x=y
 · subst e
   rw[List.getElem?_set_self (by simpa[sG]using hx),if_pos rfl];rfl
 · rw[List.getElem?_set_ne (λe2=>e e2.symm),if_neg e]
   simp[sG,hx]
def MJ (k:Nat)(w:List Nat)(t:Int):List Int:=sG k 0++(gO k w 1++sG k t)
def MI (w:List Nat):List Bool:=List.replicate (w.length+1) false++[true]
def chD (k:Nat)(w:List Nat)(t:Int):DA:=⟨(k:Int),1,MJ k w t,MI w⟩
theorem qk (w:List Nat):(MI w).length=w.length+2:=by simp[MI]
theorem Kr (k:Nat)(w:List Nat)(t:Int):(MJ k w t).length=(w.length+2)*k:=by
 simp only[MJ,List.length_append,sG,List.length_replicate,pu]
 rw[show w.length+2=w.length+1+1 by omega,Nat.succ_mul,Nat.succ_mul]
 omega
theorem EK (k:Nat):∀(u:List Nat) (s:Nat) (v:Int),v∈gO k u s->v=0\/((s:Int)<v/\v <=((s+u.length:Nat):Int))
 | [],s,v,h=>by simp[gO]at h
 | y::u,s,v,h=>by
   simp only[gO,List.mem_append]at h
   rcases h with h|h
   · rcases List.mem_or_eq_of_mem_set h with h|h
     · simp[sG,List.mem_replicate]at h;exact .inl h.2
     · simp only[List.length_cons];omega
   · rcases EK k u (s+1) v h with h|h
     · exact .inl h
     · simp only[List.length_cons];omega
theorem UZ {w:List Nat}{s:Nat}(hs:s<w.length+2):(MI w).getD s false=decide (s=w.length+1):=by
 unfold MI
 rw[List.getD_eq_getElem?_getD]
 by_cases e:s=w.length+1
 · subst e
   rw[List.getElem?_append_right (by simp)]
   simp
 · rw[List.getElem?_append_left (by simp;omega),List.getElem?_replicate,if_pos (by omega)]
   simp[e]
theorem Tx {k:Nat}(hk1:1 <=k)(hk2:k <=512){w:List Nat}(hw:∀x∈w,x<k)(hl:w.length <=65534)(m:Nat)(hm:m<2):GS (chD k w (if m=0 then 0 else((w.length+1:Nat):Int))) w m:=by
 have hK:(chD k w (if m=0 then 0 else((w.length+1:Nat):Int))).K=k:=by simp[DA.K,chD]
 have hto:∀{s x:Nat} {A R B:List Int},MJ k w (if m=0 then 0 else((w.length+1:Nat):Int))=A++(R++B)->A.length=s*k->R.length=k->x<k->(chD k w (if m=0 then 0 else((w.length+1:Nat):Int))).to s x=(R.getD x 0).toNat:=λe hA hR hx=>by
   unfold DA.to
   rw[hK]
   exact congrArg Int.toNat (VG e hA hR hx)
 have hn:(chD k w (if m=0 then 0 else((w.length+1:Nat):Int))).n=w.length+2:=qk w
 have hm2:m/2=0:=by omega
 refine⟨⟨?_,?_,?_,?_,?_,?_,?_,?_⟩,rfl,by omega,by rw[hn,hm2],λs hs=>?_,λx hx=>?_,λi x hi hx=>?_,λx hx=>?_,λe=>by omega⟩
 · show(1:Int) <=(k:Int);omega
 · show(k:Int) <=512;omega
 · rw[show(chD k w (if m=0 then 0 else((w.length+1:Nat):Int))).ac=MI w from rfl,qk];omega
 · rw[show(chD k w (if m=0 then 0 else((w.length+1:Nat):Int))).ac=MI w from rfl,qk];omega
 · show((MJ k w _).length:Int)=((MI w).length:Int)*(k:Int)
   rw[Kr,qk,Int.natCast_mul]
 · show(0:Int) <=1;omega
 · show(1:Int)<((MI w).length:Int);rw[qk];omega
 · intro v hv
   show 0 <=v/\v<((MI w).length:Int)
   rw[qk]
   have hv':v∈MJ k w (if m=0 then 0 else((w.length+1:Nat):Int)):=hv
   unfold MJ at hv'
   rcases List.mem_append.1 hv' with h|h
   · simp[sG,List.mem_replicate]at h;omega
   · rcases List.mem_append.1 h with h|h
     · rcases EK k w 1 v h with h|h <;> omega
     · have:=(List.mem_replicate.1 h).2
       split at this <;> omega
 · show(MI w).getD s false=_
   rw[hn]at hs
   rw[UZ hs,hm2]
   try simp
 · rw[hK]at hx
   rw[hto (A:=[]) (s:=0) (x:=x) (by unfold MJ;rfl) (by simp) (by simp[sG]) hx,HF _ hx]
   try rfl
 · rw[hK]at hx
   have e:=Ew k w 1 i hi
   rw[hto (A:=sG k 0++gO k (w.take i) 1) (s:=i+1) (x:=x) (R:=(sG k 0).set w[i] ((1+i+1:Nat):Int)) (by unfold MJ;rw[e];simp only[List.append_assoc];rfl)
     (by rw[List.length_append,pu,List.length_take,Nat.min_eq_left (by omega),sG,List.length_replicate,Nat.succ_mul];omega) (by simp[sG]) hx,HG _ hx (hw _ (List.getElem_mem hi))]
   split
   · show(((1+i+1:Nat):Int)).toNat=i+2
     omega
   · rfl
 · rw[hK]at hx
   rw[hto (A:=sG k 0++gO k w 1) (s:=w.length+1) (x:=x) (B:=[]) (by unfold MJ;simp only[List.append_assoc,List.append_nil];rfl)
     (by rw[List.length_append,pu,sG,List.length_replicate,Nat.succ_mul];omega) (by simp[sG]) hx,HF _ hx]
   split
   · rfl
   · have:m=1:=by omega
     subst this;rfl
def setRow (k at_:Nat)(v:Int)(nx:List Int):Nat->List Int
 | 0=>nx
 | j+1=>(setRow k at_ v nx j).set (at_*k+j) v
theorem yK (k a:Nat)(v:Int)(nx:List Int):∀j,(setRow k a v nx j).length=nx.length
 | 0=>rfl
 | j+1=>by simp[setRow,yK k a v nx j]
theorem GS.to_up {d:DA}{w:List Nat}{m:Nat}(h:GS d w m){s x:Nat}(hs:s<d.n)(hx:x<d.K):d.to s x=0\/s <=d.to s x:=by
 have hm:=h.mm
 have hn:=h.n
 rcases Nat.eq_zero_or_pos s with rfl|h0
 · exact .inl (h.sink x hx)
 · obtain⟨i,rfl⟩:∃i,s=i+1:=⟨s-1,by omega⟩
   rcases Nat.lt_trichotomy i w.length with hi|hi|hi
   · rw[h.mid i x hi hx]
     split
     · right;omega
     · exact .inl rfl
   · subst hi
     rw[h.last x hx]
     split
     · exact .inl rfl
     · right;omega
   · have h2:m=2:=by omega
     have h3:i=w.length+1:=by omega
     subst h3
     right
     rw[show w.length+1+1=w.length+2 by omega,h.more h2 x hx]
     exact Nat.le_refl _
theorem GS.run_up {d:DA}{w:List Nat}{m:Nat}(h:GS d w m):∀{v:List Nat} {s:Nat},s<d.n->(∀x∈v,x<d.K)->d.run s v=0\/s <=d.run s v
 | [],s,_,_=>.inr (Nat.le_refl _)
 | x::v,s,hs,hv=>by
   have hx:=hv x List.mem_cons_self
   have hv':∀y∈v,y<d.K:=λy hy=>hv y (List.mem_cons_of_mem _ hy)
   show d.run (d.to s x) v=0\/s <=d.run (d.to s x) v
   rcases h.to_up hs hx with e|e
   · rw[e];exact .inl (h.run0 hv')
   · rcases h.run_up (h.ok.to_lt hs hx) hv' with e2|e2
     · exact .inl e2
     · exact .inr (Nat.le_trans e e2)
theorem GS.run_at {d:DA}{w:List Nat}{m:Nat}(h:GS d w m){i:Nat}(hi:i<w.length):∀{v:List Nat} {j:Nat},j <=i->(∀x∈v,x<d.K)->(d.run (j+1) v=i+1 ↔ v=(w.take i).drop j)
 | [],j,hj,_=>by
   show j+1=i+1 ↔ _
   constructor
   · intro e
     have:j=i:=by omega
     subst this
     rw[List.drop_eq_nil_of_le (by rw[List.length_take];omega)]
   · intro e
     have:=congrArg List.length e
     rw[List.length_nil,List.length_drop,List.length_take]at this
     omega
 | x::v,j,hj,hv=>by
   have hx:=hv x List.mem_cons_self
   have hv':∀y∈v,y<d.K:=λy hy=>hv y (List.mem_cons_of_mem _ hy)
   have hn:=h.n
   show d.run (d.to (j+1) x) v=i+1 ↔ _
   rw[h.mid j x (by omega) hx]
   rcases Nat.lt_or_ge j i with hlt|hge
   · have e:(w.take i).drop j=w[j]'(by omega)::(w.take i).drop (j+1):=by
       rw[List.drop_eq_getElem_cons (by rw[List.length_take];omega),List.getElem_take]
     rw[e]
     by_cases ex:x=w[j]'(by omega)
     · rw[if_pos ex,h.run_at hi (j:=j+1) hlt hv',ex]
       simp
     · rw[if_neg ex,h.run0 hv']
       simp[ex]
   · have:j=i:=by omega
     subst this
     rw[List.drop_eq_nil_of_le (by rw[List.length_take];omega)]
     simp only[reduceCtorEq,iff_false]
     split
     · rcases h.run_up (s:=j+2) (v:=v) (by omega) hv' with e|e <;> omega
     · rw[h.run0 hv'];omega
def noD (k:Nat):DA:=⟨(k:Int),0,List.replicate k 0,[false]⟩
structure MV (tm ti tb:TypeId)(w:World)(km:Nat)(a:Option Addr)(n c:Nat)(b:Option Addr)(m e:Nat)(d:DA):Prop where
 var:ai w km tm [vI d.k,vI d.st,.slice a n c,.slice b m e]
 nx:Ow lS ti w NoB a n c d.nx
 ac:Ow AA tb w NoB b m e d.ac
 na:∀g,dV a=some g->g≠km
 nb:∀g,dV b=some g->g≠km
 ne:∀g,dV a=some g->dV b≠some g
theorem MV.below {tm ti tb:TypeId}{w w':World}{km:Nat}{a b:Option Addr}{n c m e:Nat}{d:DA}(h:MV tm ti tb w km a n c b m e d)(hb:bW w w'):MV tm ti tb w' km a n c b m e d:=⟨h.var.below hb,h.nx.below hb,h.ac.below hb,h.na,h.nb,h.ne⟩
def pO (km:Nat)(a b:Option Addr):List Nat:=km::((dV a).toList++(dV b).toList)
theorem iJ {km x:Nat}{a b:Option Addr} :x∈pO km a b ↔ x=km\/dV a=some x\/dV b=some x:=by simp[pO]
def u6 (w:World)(a a':Option Addr):Prop:=∀g,dV a'=some g->dV a=some g\/w.heap.size <=g
theorem Ow.other {α:Type}{T:Ty α}{t:TypeId}{w w':World}{a b:Option Addr}{n c:Nat}{xs:List α}(h:Ow T t w NoB a n c xs)(hg:w.grownBy w' (dV b))(hne:∀g,dV a=some g->dV b≠some g):Ow T t w' NoB a n c xs:=
 h.keep (fQ hg λk hk e=>by
   rcases hk with hk|hk
   · exact hk
   · exact hne k hk.symm e.symm)
abbrev Mk:=MV mI aP cd
theorem tY (k:Nat):(Option.map (λx=>x.add 0) (some (⟨k,0,none⟩:Addr)))=some ⟨k,0,none⟩:=by simp[Addr.add]
theorem dI (k o:Nat):(Option.map (λx=>x.add o) (some (⟨k,0,none⟩:Addr)))=some ⟨k,o,none⟩:=by
 simp only[Option.map_some,gw,Nat.zero_add]
theorem GB {w:World}{km:Nat}{a b:Option Addr}{n c m e:Nat}{d:DA}(h:Mk w km a n c b m e d)(hk1:1 <=d.k)(hk2:d.k <=512)(hm:d.ac.length <=200000)(hnx:d.nx.length <=200000*512)(acc:Bool)(t:Int):
   Cf eX #[.pointer (some ⟨km,0,none⟩),.bool acc,vI t] w
     (Ret λv w'=>v=vI ((d.ac.length:Nat):Int)/\∃a' n' c' b' m' e',Mk w' km a' n' c' b' m' e' ⟨d.k,d.st,d.nx++List.replicate d.K t,d.ac++[acc]⟩/\Chg (pO km a b) w w'/\u6 w a a'/\u6 w b b'):=by
 apply vC
 have hlt:=h.var.lt
 have hml:=h.ac.len
 have hnl:=h.nx.len
 simp only[tY,dI]
 refine⟨rfl,rfl,rfl,b,m,e,h.var.load1 gT rfl rfl,?_⟩
 intro k14 w14 hk14 hw14
 have hb14:=(hw14▸ah w _:bW w w14)
 have H14:=h.below hb14
 have hsrc:Src AA w14 NoB (some ⟨k14,0,none⟩) 1 [acc]:=Src.new1F HB hk14 hw14 AQ
 obtain⟨w15,b1,m1,e1,r15,o15,g15,f15⟩:=dF (ty:=df) gT kU (by decide) H14.ac (λ_ _ h=>h) (cm:=1) hsrc (by simp;omega)
 have hs14:=hb14.size
 have v15:=H14.var.grown g15 λex=>h.nb km ex.symm rfl
 have x15:=H14.nx.other g15 h.ne
 have hne1:∀g,dV b1=some g->g≠km:=λg hg ex=>by
   rcases f15 g hg with h1|h1
   · exact h.nb g h1 ex
   · omega
 obtain⟨wx,sx,vx,gx⟩:=v15.store EX (i:=3) (v:=.slice b1 m1 e1) rfl (by simp) (by intro c hc;simp[Value.cells]at hc;subst hc;rfl)
 have vx:ai wx km mI [vI d.k,vI d.st,.slice a n c,.slice b1 m1 e1]:=vx
 have xx:=x15.put (λg hg ex=>h.na g hg ex) gx
 have ox:=o15.put (λg hg ex=>hne1 g hg ex) gx
 have cx:Chg (pO km a b) w wx:=by
   have c1:Chg (pO km a b) w w14:=Chg.of hb14
   have c2:Chg (pO km a b) w14 w15:=(Chg.row g15).mono λk hk=>iJ.2 (.inr (.inr (by simpa using hk)))
   exact(c1.trans c2).trans (Chg.grown gx (iJ.2 (.inl rfl)))
 have hsx:=cx.size
 have hne15:∀g,dV a=some g->dV b1≠some g:=λg hg ex=>by
   rcases f15 g ex with h1|h1
   · exact h.ne g hg h1
   · have:=h.nx.lt g hg;omega
 refine⟨w15,b1,m1,e1,r15,rfl,rfl,rfl,wx,sx,rfl,rfl,rfl,rfl,rfl,rfl,a,n,c,λu hu=>(vx.below hu).load1 fh rfl rfl,d.k,λu hu=>(vx.below hu).load1 cD rfl rfl,λk26 hk26=>?_⟩
 have hKk:(d.K:Int)=d.k:=by show((d.k.toNat:Nat):Int)=d.k;omega
 have hK1:1 <=d.K/\d.K <=512:=by show 1 <=d.k.toNat/\d.k.toNat <=512;omega
 refine⟨λaa ll cc W=>∃a':Option Addr,aa=a'/\ll=d.K/\cc=d.K/\Sl lS W (λg=>wx.heap.size <=g) aa ll cc (List.replicate d.K t),?_,?_,?_⟩
 · rintro aa ll cc x y ⟨a',rfl,rfl,rfl,hs⟩ hb
   exact⟨_,rfl,rfl,rfl,hs.below hb⟩
 · intro u32 hu hcell
   have hsl:Sl lS u32 uc (some ⟨k26,0,none⟩) 1 1 [t]:=by
     refine⟨rfl,Nat.le_refl _,by decide,.inr ⟨k26,0,rfl,(Array.getElem?_eq_some_iff.1 hcell).1,trivial,[vI t],kg.one sF,λj hj=>?_⟩⟩
     rw[hO hcell,Nat.zero_add];simp
   rw[<- hKk]
   refine(Ih hsl hK1.1 (by omega)).mono ?_
   rintro _ w32 ⟨_,rfl,a',rfl,ho,hf,hb⟩
   refine⟨a',d.K,d.K,rfl,⟨a',rfl,rfl,rfl,ho.sl (λb _ hb=>hb.elim) λg hg=>?_⟩,hb⟩
   have:=hf g hg
   have:=hu.size
   omega
 rintro aa ll cc wq hq ⟨a',rfl,rfl,rfl,hs⟩ hcell
 have vq:=vx.below hq
 have xq:=xx.below hq
 have oq:=ox.below hq
 obtain⟨w33,a3,n3,c3,r33,o33,g33,f33⟩:=dF (ty:=aZ) fh fV (by decide) xq (λ_ _ h=>h) (cm:=d.K) (hs.flat tV) (by simp;omega)
 have v33:=vq.grown g33 λex=>h.na km ex.symm rfl
 have hqs:=hq.size
 have hne3:∀g,dV a3=some g->g≠km:=λg hg ex=>by
   rcases f33 g hg with h1|h1
   · exact h.na g h1 ex
   · omega
 have o33b:=oq.other g33 λg hg ex=>hne15 g ex hg
 obtain⟨w5,s5,v5,g5⟩:=v33.store CY (i:=2) (v:=.slice a3 n3 c3) rfl (by simp) (by intro c hc;simp[Value.cells]at hc;subst hc;rfl)
 have v5:ai w5 km mI [vI d.k,vI d.st,.slice a3 n3 c3,.slice b1 m1 e1]:=v5
 refine⟨w33,a3,n3,c3,r33,rfl,rfl,rfl,w5,s5,rfl,rfl,rfl,b1,m1,e1,v5.load1 gT rfl rfl,?_,a3,n3,c3,b1,m1,e1,⟨v5,o33.put (λg hg ex=>hne3 g hg ex) g5,o33b.put (λg hg ex=>hne1 g hg ex) g5,hne3,hne1,λg hg ex=>?_⟩,?_,λg hg=>?_,λg hg=>?_⟩
 · have:=o15.len
   rw[this,List.length_append,List.length_singleton,wrap_i64 (by omega) (by omega)]
   congr 1;omega
 · rcases f33 g hg with h1|h1
   · exact hne15 g h1 ex
   · have:=ox.lt g ex;omega
 · have c2:Chg (pO km a b) wx wq:=Chg.of hq
   have c3':Chg (pO km a b) wq w33:=(Chg.row g33).mono λk hk=>iJ.2 (.inr (.inl (by simpa using hk)))
   exact((cx.trans c2).trans c3').trans (Chg.grown g5 (iJ.2 (.inl rfl)))
 · rcases f33 g hg with h1|h1
   · exact .inl h1
   · exact .inr (by omega)
 · rcases f15 g hg with h1|h1
   · exact .inl h1
   · exact .inr (by omega)
structure Es (B:Nat)(w:World)(a:Option Addr)(n c:Nat)(b:Option Addr)(m e:Nat)(d:DA):Prop where
 nx:Ow lS aP w NoB a n c d.nx
 ac:Ow AA cd w NoB b m e d.ac
 ne:∀g,dV a=some g->dV b≠some g
 fa:bg B a
 fb:bg B b
theorem Es.das {B:Nat}{w:World}{a b:Option Addr}{n c m e:Nat}{d:DA}(h:Es B w a n c b m e d):DaS w a n c b m e d:=⟨h.nx.all,h.ac.all⟩
theorem Es.below {B:Nat}{w w':World}{a b:Option Addr}{n c m e:Nat}{d:DA}(h:Es B w a n c b m e d)(hb:bW w w'):Es B w' a n c b m e d:=⟨h.nx.below hb,h.ac.below hb,h.ne,h.fa,h.fb⟩
theorem Es.mono {B B':Nat}{w:World}{a b:Option Addr}{n c m e:Nat}{d:DA}(h:Es B w a n c b m e d)(hB:B' <=B):Es B' w a n c b m e d:=⟨h.nx,h.ac,h.ne,h.fa.mono hB,h.fb.mono hB⟩
def Do (w:World)(d:DA)(v:Value)(w':World):Prop:=∃(a:Option Addr) (n c:Nat) (b:Option Addr) (m e:Nat),v=.tuple #[daV a n c b m e d,vI 0]/\Es w.heap.size w' a n c b m e d/\bW w w'
theorem u6.fresh {B:Nat}{w:World}{a a':Option Addr}(h:u6 w a a')(hf:bg B a)(hB:B <=w.heap.size):bg B a':=λg hg=>by
 rcases h g hg with h1|h1
 · exact hf g h1
 · omega
def chS (k:Nat)(wn:List Nat)(i:Nat):DA:=⟨(k:Int),1,sG k 0++gO k (wn.take i) 1,List.replicate (i+1) false⟩
theorem SX (k:Nat)(wn:List Nat){i:Nat}(hi:i <=wn.length):(chS k wn i).nx.length=(i+1)*k:=by
 show(sG k 0++gO k (wn.take i) 1).length=_
 rw[List.length_append,pu,List.length_take,Nat.min_eq_left hi,sG,List.length_replicate,Nat.succ_mul];omega
theorem Kt {w:World}{A:Bl}{a:Option Addr}{n c:Nat}{k:Nat}{wn:List Nat}(hs:Sl lS w A a n c (wn.map fun(x:Nat)=>(x:Int)))(hk1:1 <=k)(hk2:k <=512)(hw:∀x∈wn,x<k)(hl:wn.length <=65534)(stays:Bool):
   Cf qu #[vI (k:Int),.slice a n c,.bool stays] w (Ret (Do w (chD k wn (if stays=true then((wn.length+1:Nat):Int)else 0)))):=by
 apply Gk
 have hn:=hs.len
 rw[List.length_map]at hn
 subst hn
 intro k3 w3 hk3 hw3 k6 w6 hk6 hw6
 have A3':ai w3 k3 aP [vI (k:Int)]:=ai.new hk3 hw3
 have hb3:=(hw3▸ah w _:bW w w3)
 have hb6:=(hw6▸ah w3 _:bW w3 w6)
 have A3:=A3'.below hb6
 have A6:ai w6 k6 ax [vI 0,vI 0,.slice none 0 0,.slice none 0 0]:=ai.new hk6 hw6
 have hB:=ab hb3 hb6 hb3.size
 have hk36:k3<k6:=by have:=A3'.lt;omega
 have hk0:w.heap.size <=k3:=by omega
 have hs6:=hs.below hB
 clear A3' hb3 hw3 hb6 hw6
 have hall:((wn.map fun(x:Nat)=>(x:Int)).all (inR (k:Int)))=true:=by
   rw[List.all_eq_true]
   intro y hy
   obtain⟨x,hx,rfl⟩:=List.mem_map.1 hy
   have:=hw x hx
   unfold inR
   rw[decide_eq_true (by omega),decide_eq_true (by omega)];rfl
 refine j8 (λw'=>w'=w6) ⟨λb w'=>b=false/\w'=w6,?_,λb=>aN.of ?_ _⟩ ?_
 · refine⟨_,ND A3,ae.no (decide_eq_false (by omega)) ⟨_,ND A3,ae.no (decide_eq_false (by omega)) ?_⟩⟩
   refine aB (we hs6 A3) ?_
   rintro _ w23 ⟨rfl,e23⟩
   exact⟨_,rfl,by rw[hall];rfl,e23⟩
 · rintro wj ⟨e1,e2⟩
   exact ae.no e1 e2
 intro wj ej
 rw[ej];clear ej wj
 refine ae.no (decide_eq_false (by omega)) ⟨_,ND A3,?_⟩
 intro k33 w33 hk33 hw33
 have hb33:=(hw33▸ah w6 _:bW w6 w33)
 have hlt6:=A6.lt
 have M0:Mk w33 k33 none 0 0 none 0 0 ⟨(k:Int),1,[],[]⟩:=⟨ai.new hk33 hw33,Ow.nil _ _ _ _,Ow.nil _ _ _ _,(λg hg=>by cases hg),(λg hg=>by cases hg),λg hg=>by cases hg⟩
 have hK:(⟨(k:Int),1,[],[]⟩:DA).K=k:=by show((k:Int)).toNat=k;omega
 refine aB (GB M0 (by show(1:Int) <=(k:Int);omega) (by show(k:Int) <=512;omega) (by simp) (by simp) false 0) ?_
 rintro _ w35 ⟨rfl,a1,n1,c1,b1,m1,e1,M1,g1,f1,f2⟩
 refine⟨_,rfl,?_⟩
 have hs33:w33.heap.size=k33+1:=by rw[hk33,hw33];simp
 have none35:∀x∈pO k33 none none,x=k33:=λx hx=>by
   rcases iJ.1 hx with h|h|h
   · exact h
   · cases h
   · cases h
 have A3b:=g1.arr (A3.below hb33) (λhm=>by have:=none35 _ hm;omega)
 have A6b:=g1.arr (A6.below hb33) (λhm=>by have:=none35 _ hm;omega)
 have hB33:=ab hB hb33 hB.size
 have hB35:bW w w35:=hB33.trans (g1.below hB33.size λx hx=>by have:=none35 _ hx;omega)
 have st0:(⟨(k:Int),1,[]++List.replicate (⟨(k:Int),1,[],[]⟩:DA).K 0,[]++[false]⟩:DA)=chS k wn 0:=by rw[hK];simp[chS,sG,gO]
 rw[st0]at M1
 refine⟨λm i wl=>∃(j:Nat) (a:Option Addr) (n c:Nat) (b:Option Addr) (m' e:Nat),i=(j:Int)/\j <=wn.length/\m=wn.length-j/\Mk wl k33 a n c b m' e (chS k wn j)/\ai wl k3 aP [vI (k:Int)]/\ai wl k6 ax [vI 0,vI 0,.slice none 0 0,.slice none 0 0]/\bg (k33+1) a/\bg (k33+1) b/\bW w wl,
   ⟨_,0,a1,n1,c1,b1,m1,e1,rfl,Nat.zero_le _,rfl,M1,A3b,A6b,u6.fresh f1 (bg.none _) (by omega),u6.fresh f2 (bg.none _) (by omega),hB35⟩,?_⟩
 clear M1 A3b A6b hB35 f1 f2 g1 M0
 intro m i
 refine aN.of ?_ _
 rintro wl ⟨j,a1,n1,c1,b1,m1,e1,rfl,hj,rfl,M,A3l,A6l,fa,fb,hBl⟩
 have hsl:=hs.below hBl
 have hKj:(chS k wn j).K=k:=by show((k:Int)).toNat=k;omega
 have hacl:(chS k wn j).ac.length=j+1:=by simp[chS]
 have hnxl:=SX k wn hj
 have hjk:(j+1)*k <=65535*512:=Nat.mul_le_mul (by omega) hk2
 have stl:=fun(acc:Bool) (t:Int)=>GB M (by show(1:Int) <=(k:Int);omega) (by show(k:Int) <=512;omega) (by omega) (by omega) acc t
 have hMlt:=M.var.lt
 have blk:∀x∈pO k33 a1 b1,k33 <=x:=λx hx=>by
   rcases iJ.1 hx with h|h|h
   · omega
   · have:=fa x h;omega
   · have:=fb x h;omega
 refine ae.of (λh=>?_) (λh=>?_) <;> simp only[dTx,dFx]at h
 · have hlt:j<wn.length:=by omega
   have hlt':j<(wn.map fun(x:Nat)=>(x:Int)).length:=by simpa using hlt
   refine⟨⟨⟨by omega,h⟩,hsl.isSome hlt'⟩,_,hsl.num cD hlt',?_⟩
   rw[List.getElem_map]
   refine aB (stl false 0) ?_
   rintro _ w43 ⟨rfl,a2,n2,c2,b2,m2,e2,M2,g2,f1,f2⟩
   rw[hacl]
   have A3b:=g2.arr A3l (λhm=>by have:=blk _ hm;omega)
   have A6b:=g2.arr A6l (λhm=>by have:=blk _ hm;omega)
   have hxk:wn[j]<k:=hw _ (List.getElem_mem hlt)
   have e1':i64.wrap (((j+1:Nat):Int)*(k:Int))=(((j+1)*k:Nat):Int):=by
     rw[show((j+1:Nat):Int)*(k:Int)=(((j+1)*k:Nat):Int) from(Int.natCast_mul _ _).symm]
     exact wrap_i64 (by omega) (by omega)
   have e2':i64.wrap ((((j+1)*k:Nat):Int)+((wn[j]:Nat):Int))=(((j+1)*k+wn[j]:Nat):Int):=by
     rw[wrap_i64 (by omega) (by omega)];omega
   have e3':i64.wrap (((j+1:Nat):Int)+1)=((1+j+1:Nat):Int):=by
     rw[wrap_i64 (by omega) (by omega)];omega
   have hn2:=M2.nx.len
   have hl2:((chS k wn j).nx++List.replicate (chS k wn j).K 0).length=(j+1)*k+k:=by rw[List.length_append,hnxl,List.length_replicate,hKj]
   have hn2':n2=(j+1)*k+k:=hn2.trans hl2
   have hidx:(j+1)*k+wn[j]<((chS k wn j).nx++List.replicate (chS k wn j).K 0).length:=by omega
   refine⟨_,rfl,rfl,rfl,rfl,a2,n2,c2,λu hu=>(M2.var.below hu).load1 fh rfl rfl,(k:Int),λu hu=>ND (A3b.below hu),?_⟩
   rw[e1',e2',e3']
   refine⟨⟨⟨by omega,by omega⟩,M2.nx.all.isSome hidx⟩,λwq hq=>?_⟩
   have M2q:=M2.below hq
   obtain⟨wx,sx,ox,gx⟩:=M2q.nx.store fV (λ_ _ h=>h) (i:=(((j+1)*k+wn[j]:Nat):Int)) (by rw[Int.toNat_natCast];exact hidx) (k:=1) rfl (v:=vI ((1+j+1:Nat):Int)) (x:=((1+j+1:Nat):Int)) sF
   rw[Int.toNat_natCast]at ox
   have enx:((chS k wn j).nx++List.replicate (chS k wn j).K 0).set ((j+1)*k+wn[j]) ((1+j+1:Nat):Int)=(chS k wn (j+1)).nx:=by
     rw[List.set_append_right _ _ (by omega),hnxl,show(j+1)*k+wn[j]-(j+1)*k=wn[j] by omega,hKj]
     show(sG k 0++gO k (wn.take j) 1)++_=sG k 0++gO k (wn.take (j+1)) 1
     rw[List.take_succ_eq_append_getElem hlt,Bv,List.append_assoc,List.length_take,Nat.min_eq_left (by omega)]
     rfl
   have hgx:Chg (pO k33 a2 b2) w43 wx:=(Chg.of hq).trans ((Chg.row gx).mono λx hx=>iJ.2 (.inr (.inl (by simpa using hx))))
   have fa2:=u6.fresh f1 fa (by omega)
   have fb2:=u6.fresh f2 fb (by omega)
   have blk2:∀x∈pO k33 a2 b2,k33 <=x:=λx hx=>by
     rcases iJ.1 hx with h|h|h
     · omega
     · have:=fa2 x h;omega
     · have:=fb2 x h;omega
   have hB43:bW w w43:=hBl.trans (g2.below hBl.size λx hx=>by have:=blk x hx;omega)
   refine⟨wx,sx,wn.length-(j+1),by omega,j+1,a2,n2,c2,b2,m2,e2,by rw[wrap_i64 (by omega) (by omega)];omega,hlt,rfl,⟨?_,?_,?_,M2.na,M2.nb,M2.ne⟩,hgx.arr A3b (λhm=>by have:=blk2 _ hm;omega),hgx.arr A6b (λhm=>by have:=blk2 _ hm;omega),fa2,fb2,hB43.trans (hgx.below hB43.size λx hx=>by have:=blk2 x hx;omega)⟩
   · exact M2q.var.grown gx λex=>M2.na k33 ex.symm rfl
   · rw[<- enx];exact ox
   · have:=M2q.ac.other gx λg hg ex=>M2.ne g ex hg
     have eac:(chS k wn j).ac++[false]=(chS k wn (j+1)).ac:=by
       show List.replicate (j+1) false++[false]=List.replicate (j+1+1) false
       rw[<- List.replicate_succ']
     rw[<- eac];exact this
 · have:j=wn.length:=by omega
   subst this
   refine⟨rfl,rfl,rfl,b1,m1,e1,M.var.load1 gT rfl rfl,?_⟩
   have hm1:=M.ac.len
   refine⟨λi w'=>i=(if stays=true then((wn.length+1:Nat):Int)else 0)/\w'=wl,?_,λt=>aN.of ?_ _⟩
   · refine ae.of (λhst=>⟨?_,rfl⟩) (λhst=>⟨?_,rfl⟩)
     · rw[if_pos hst,hm1,hacl]
     · rw[if_neg (by rw[hst];simp)]
   rintro wj ⟨rfl,rfl⟩
   refine aB (stl true _) ?_
   rintro _ w68 ⟨rfl,a2,n2,c2,b2,m2,e2,M2,g2,f1,f2⟩
   have A6b:=g2.arr A6l (λhm=>by have:=blk _ hm;omega)
   have fa2:=u6.fresh f1 fa (by omega)
   have fb2:=u6.fresh f2 fb (by omega)
   have hB68:bW w w68:=hBl.trans (g2.below hBl.size λx hx=>by have:=blk x hx;omega)
   have ld:=lG.load0 (cs:=[vI (k:Int),vI 1,.slice a2 n2 c2,.slice b2 m2 e2]) M2.var rfl
   obtain⟨wx,sx,v6,g6⟩:=lG.store0 (P:=prog) (cs:=[vI (k:Int),vI 1,.slice a2 n2 c2,.slice b2 m2 e2]) rfl (aJ rfl (aJ rfl (aJ rfl (aJ rfl gX)))) A6b rfl
   have ld6:=ai.res (lG.load0 (cs:=[vI (k:Int),vI 1,.slice a2 n2 c2,.slice b2 m2 e2]) v6 rfl)
   refine⟨_,rfl,rfl,rfl,_,_,a2,n2,c2,b2,m2,e2,ld,wx,sx,_,_,a2,n2,c2,b2,m2,e2,ld6,a2,n2,c2,b2,m2,e2,rfl,⟨?_,?_,M2.ne,fa2.mono (by omega),fb2.mono (by omega)⟩,Below.put hB68 g6 (by omega)⟩
   · have:=M2.nx.put (λg hg ex=>by have:=fa2 g hg;omega) g6
     have enx:∀t:Int,(chS k wn wn.length).nx++List.replicate (chS k wn wn.length).K t=MJ k wn t:=λt=>by
       rw[hKj]
       show(sG k 0++gO k (wn.take wn.length) 1)++_=_
       rw[List.take_length,List.append_assoc];rfl
     simp only[enx]at this
     exact this
   · exact M2.ac.put (λg hg ex=>by have:=fb2 g hg;omega) g6
def daL (a:Option Addr)(n c:Nat)(b:Option Addr)(m e:Nat)(d:DA):List Value:=[vI d.k,vI d.st,.slice a n c,.slice b m e]
theorem rW (a:Option Addr)(n c:Nat)(b:Option Addr)(m e:Nat)(d:DA):vX (daL a n c b m e d):=aJ rfl (aJ rfl (aJ rfl (aJ rfl gX)))
theorem jo {w:World}{k:Nat}{vs:List Value}(h:ai w k ax vs)(hv:vs.length=4)(a:Option Addr)(n c:Nat)(b:Option Addr)(m e:Nat)(d:DA):
   ∃wx,(Instr.storeAt ax (.pointer (some ⟨k,0,none⟩)) (daV a n c b m e d)).run prog w=.ok () wx/\(aV ax (.pointer (some ⟨k,0,none⟩))).run prog wx=.ok (daV a n c b m e d) wx/\w.grownBy wx (some k):=by
 obtain⟨wx,sx,v6,g6⟩:=lG.store0 (P:=prog) (cs:=daL a n c b m e d) rfl (rW _ _ _ _ _ _ _) h hv
 exact⟨wx,sx,ai.res (lG.load0 (cs:=daL a n c b m e d) v6 rfl),g6⟩
theorem Es.put {B:Nat}{w w':World}{a b:Option Addr}{n c m e k:Nat}{d:DA}(h:Es B w a n c b m e d)(hg:w.grownBy w' (some k))(hk:k<B):Es B w' a n c b m e d:=
 ⟨h.nx.put (λg hg' ex=>by have:=h.fa g hg';omega) hg,h.ac.put (λg hg' ex=>by have:=h.fb g hg';omega) hg,h.ne,h.fa,h.fb⟩
theorem BF {w:World}{A:Bl}{a:Option Addr}{n c:Nat}{k:Nat}{wn:List Nat}(hs:Sl lS w A a n c (wn.map fun(x:Nat)=>(x:Int)))(hk1:1 <=k)(hk2:k <=512)(hw:∀x∈wn,x<k)(hl:wn.length <=65534):
   Cf tU #[vI (k:Int),.slice a n c] w (Ret (Do w (chD k wn 0))):=by
 apply Io
 intro k4 w4 hk4 hw4
 have hb4:=(hw4▸ah w _:bW w w4)
 have A4:ai w4 k4 ax [vI 0,vI 0,.slice none 0 0,.slice none 0 0]:=ai.new hk4 hw4
 refine aB (Kt (hs.below hb4) hk1 hk2 hw hl false) ?_
 rintro _ w8 ⟨a1,n1,c1,b1,m1,e1,rfl,O,hb8⟩
 have hlt:=A4.lt
 obtain⟨wx,s1,s2,g1⟩:=jo (A4.below hb8) rfl a1 n1 c1 b1 m1 e1 (chD k wn 0)
 have hB:=ab hb4 hb8 hb4.size
 exact⟨_,_,a1,n1,c1,b1,m1,e1,_,rfl,wx,s1,_,_,a1,n1,c1,b1,m1,e1,s2,a1,n1,c1,b1,m1,e1,rfl,(O.put g1 hlt).mono hb4.size,Below.put hB g1 (by omega)⟩
theorem wo {w:World}{A:Bl}{a:Option Addr}{n c:Nat}{k:Nat}{wn:List Nat}(hs:Sl lS w A a n c (wn.map fun(x:Nat)=>(x:Int)))(hk1:1 <=k)(hk2:k <=512)(hw:∀x∈wn,x<k)(hl:wn.length <=65534):
   Cf nV #[vI (k:Int),.slice a n c] w (Ret (Do w (chD k wn ((wn.length+1:Nat):Int)))):=by
 apply DW
 intro k4 w4 hk4 hw4
 have hb4:=(hw4▸ah w _:bW w w4)
 have A4:ai w4 k4 ax [vI 0,vI 0,.slice none 0 0,.slice none 0 0]:=ai.new hk4 hw4
 refine aB (Kt (hs.below hb4) hk1 hk2 hw hl true) ?_
 rintro _ w8 ⟨a1,n1,c1,b1,m1,e1,rfl,O,hb8⟩
 have hlt:=A4.lt
 obtain⟨wx,s1,s2,g1⟩:=jo (A4.below hb8) rfl a1 n1 c1 b1 m1 e1 (chD k wn ((wn.length+1:Nat):Int))
 have hB:=ab hb4 hb8 hb4.size
 exact⟨_,_,a1,n1,c1,b1,m1,e1,_,rfl,wx,s1,_,_,a1,n1,c1,b1,m1,e1,s2,a1,n1,c1,b1,m1,e1,rfl,(O.put g1 hlt).mono hb4.size,Below.put hB g1 (by omega)⟩
theorem vc {w:World}{k:Nat}(hk1:1 <=k)(hk2:k <=512):Cf pz #[vI (k:Int)] w (Ret (Do w (noD k))):=by
 apply Im
 intro k2 w2 hk2' hw2
 have hb2:=(hw2▸ah w _:bW w w2)
 have A2:ai w2 k2 ax [vI 0,vI 0,.slice none 0 0,.slice none 0 0]:=ai.new hk2' hw2
 refine j8 (λw'=>w'=w2) ⟨λb w'=>b=false/\w'=w2,?_,λb=>aN.of ?_ _⟩ ?_
 · exact ae.no (decide_eq_false (by omega)) ⟨decide_eq_false (by omega),rfl⟩
 · rintro wj ⟨e1,e2⟩
   exact ae.no e1 e2
 intro wj ej
 rw[ej];clear ej wj
 intro k15 w15 hk15 hw15
 have hb15:=(hw15▸ah w2 _:bW w2 w15)
 have hlt:=A2.lt
 have M0:Mk w15 k15 none 0 0 none 0 0 ⟨(k:Int),0,[],[]⟩:=⟨ai.new hk15 hw15,Ow.nil _ _ _ _,Ow.nil _ _ _ _,(λg hg=>by cases hg),(λg hg=>by cases hg),λg hg=>by cases hg⟩
 have hK:(⟨(k:Int),0,[],[]⟩:DA).K=k:=by show((k:Int)).toNat=k;omega
 have hs15:w15.heap.size=k15+1:=by rw[hk15,hw15];simp
 refine aB (GB M0 (by show(1:Int) <=(k:Int);omega) (by show(k:Int) <=512;omega) (by simp) (by simp) false 0) ?_
 rintro _ w17 ⟨rfl,a1,n1,c1,b1,m1,e1,M1,g1,f1,f2⟩
 have st0:(⟨(k:Int),0,[]++List.replicate (⟨(k:Int),0,[],[]⟩:DA).K 0,[]++[false]⟩:DA)=noD k:=by rw[hK];simp[noD]
 rw[st0]at M1
 have none15:∀x∈pO k15 none none,x=k15:=λx hx=>by
   rcases iJ.1 hx with h|h|h
   · exact h
   · cases h
   · cases h
 have A2b:=g1.arr (A2.below hb15) (λhm=>by have:=none15 _ hm;omega)
 have hB15:=ab hb2 hb15 hb2.size
 have hB17:bW w w17:=hB15.trans (g1.below hB15.size λx hx=>by have:=none15 _ hx;omega)
 have fa:=u6.fresh f1 (bg.none (k15+1)) (by omega)
 have fb:=u6.fresh f2 (bg.none (k15+1)) (by omega)
 have ld:=lG.load0 (cs:=daL a1 n1 c1 b1 m1 e1 (noD k)) M1.var rfl
 obtain⟨wx,s1,s2,g2⟩:=jo A2b rfl a1 n1 c1 b1 m1 e1 (noD k)
 have O:Es (k15+1) w17 a1 n1 c1 b1 m1 e1 (noD k):=⟨M1.nx,M1.ac,M1.ne,fa,fb⟩
 exact⟨_,rfl,rfl,rfl,_,_,a1,n1,c1,b1,m1,e1,ld,wx,s1,_,_,a1,n1,c1,b1,m1,e1,s2,a1,n1,c1,b1,m1,e1,rfl,(O.put g2 (by omega)).mono (by omega),Below.put hB17 g2 (by omega)⟩
theorem Ow.cells {α:Type}{T:Ty α}{t:TypeId}{w:World}{A:Bl}{a:Option Addr}{n c:Nat}{xs:List α}(h:Ow T t w A a n c xs){g:Nat}(hg:dV a=some g):∃o:Obj,w.heap[g]? =some o/\o.isCells=true:=by
 rcases h.2.2.2 with⟨e,_⟩|⟨g',cur,fr,e,hh,_⟩
 · rw[e]at hg;cases hg
 · rw[e]at hg
   have:g'=g:=by simpa[dV]using hg
   subst this
   exact⟨_,hh,rfl⟩
def E6 (w:World)(row:Option Nat):Prop:=∀r,row=some r->∃o:Obj,w.heap[r]? =some o/\o.isCells=false
theorem ai.turned {w w':World}{k:Nat}{t:TypeId}{vs:List Value}{row:Option Nat}(h:ai w k t vs)(hg:w.grownBy w' row)(hr:E6 w row):ai w' k t vs:=
 h.grown hg λe=>by
   obtain⟨o,ho,hc⟩:=hr k e.symm
   rw[show w.heap[k]? =_ from h]at ho;cases ho;cases hc
theorem Ow.turned {α:Type}{T:Ty α}{t:TypeId}{w w':World}{a:Option Addr}{n c:Nat}{xs:List α}{row:Option Nat}(h:Ow T t w NoB a n c xs)(hg:w.grownBy w' row)(hr:E6 w row):Ow T t w' NoB a n c xs:=by
 cases row with
 | none=>exact h.keep (fQ hg λb hb e=>by cases e)
 | some r=>
   refine h.put (λg hg' e=>?_) hg
   subst e
   obtain⟨o,ho,hc⟩:=h.cells hg'
   obtain⟨o',ho',hc'⟩:=hr g rfl
   rw[ho]at ho';cases ho';rw[hc]at hc';cases hc'
theorem yY {n₀:Nat}{w0 w w':World}{row:Option Nat}(h:Below n₀ w0 w)(hn:n₀ <=w.heap.size)(hg:w.grownBy w' row)(hr:∀r,row=some r->n₀ <=r):Below n₀ w0 w':=h.grown hg hn hr
def vB (md:Region.Mode)(ops:Array Oper):Nat->Array Bool->List (List Nat)
 | 0,_=>[[]]
 | f+1,listed=>match Region.ready md ops listed with
   | []=>[[]]
   | i::is=>(i::is).flatMap λj=>(vB md ops f (listed.setIfInBounds j true)).map (j:: ·)
theorem wK {md:Region.Mode}{ops:Array Oper} :∀(fuel t:Nat) (listed:Array Bool),Region.linearise.go md ops fuel t listed []∈vB md ops fuel listed
 | 0,t,listed=>by simp[Region.linearise.go,vB]
 | fuel+1,t,listed=>by
   simp only[Region.linearise.go]
   change (match(Region.ready md ops listed)[t%(Region.ready md ops listed).length]? with
     | some i=>Region.linearise.go md ops fuel (t/(Region.ready md ops listed).length) (listed.setIfInBounds i true) [i]
     | none=>[].reverse)∈_
   cases hr:Region.ready md ops listed with
   | nil=>simp[vB,hr]
   | cons x xs=>
     have hlt:t%(x::xs).length<(x::xs).length:=Nat.mod_lt _ (by simp)
     rw[List.getElem?_eq_getElem hlt]
     simp only[vB,hr]
     rw[linearise_go_acc,List.reverse_singleton,List.singleton_append]
     exact List.mem_flatMap.2 ⟨_,List.getElem_mem hlt,List.mem_map.2 ⟨_,wK fuel _ _,rfl⟩⟩
section
variable {F:Fence} {n:Nat} {P:Program} {ops:Array Oper} {Q:Exit->Act->World->Prop} {a:Act} {w:World}
theorem zN:∀(l:List Nat) (a:Act) (w:World),wpListIn F n P ops Q (l.filterMap λi=>ops[i]?) a w->wpOpsIn F n P ops Q l a w
 | [],a,w,h=>h
 | i::l,a,w,h=>by
   have ih:=zN l
   cases ho:ops[i]? with
   | none=>
     rw[List.filterMap_cons_none ho]at h
     simp only[wpOpsIn,ho]
     exact ih _ _ h
   | some o=>
     rw[List.filterMap_cons_some ho]at h
     simp only[wpOpsIn,ho]
     unfold wpListIn at h
     have e:wpListIn F n P ops Q (l.filterMap λi=>ops[i]?)=wpListIn F n P ops Q (l.filterMap λi=>ops[i]?):=rfl
     split at h
     · rename_i hw
       rw[if_pos hw]
       exact Oper.wpIn_mono (λa w=>ih a w) h
     · rename_i hw
       rw[if_neg hw]
       exact⟨h.1,ih _ _ h.2⟩
theorem Kh {id:Nat}{os:List (List Oper)}(hm:P.follows .mixedOrders=true)(ho:(vB .any ops ops.size (Array.replicate ops.size false)).map (λl=>l.filterMap λi=>ops[i]?)=os)
   (h:∀l∈os,wpListIn F n P ops Q l a w.drew):(Code.region id ops true).wpIn F n P Q a w:=
 wpIn_region_draw λt=>by
   simp only[Region.schedule,hm,Bool.true_or,if_true]
   refine zN _ _ _ (h _ ?_)
   rw[<- ho]
   exact List.mem_map.2 ⟨_,wK _ _ _,rfl⟩
end
section
variable {F:Fence} {n:Nat} {P:Program} {ops:Array Oper} {Q:Exit->Act->World->Prop} {a:Act} {w:World} {rest:List Oper} {o:Oper}
theorem Tn (hw:Region.wanted o (yielded ops a.tmps)=true)(h:∀K:Act->World->Prop,(∀a w,wpListIn F n P ops Q rest a w->K a w)->o.wpIn F n P a w K Q):wpListIn F n P ops Q (o::rest) a w:=
 wpListIn_step λK hK=>by rw[if_pos hw];exact h K hK
theorem QL (hw:Region.wanted o (yielded ops a.tmps)=true)(hd:∀c,o.op≠.defer c)(ha:o.about P w a.eval=none){v:Value}{w':World}(hrun:(execOp a.eval o).run P w=.ok (.value v) w')(hK:wpListIn F n P ops Q rest (a.put o.dst v) w'):wpListIn F n P ops Q (o::rest) a w:=by
 refine Tn hw λK hK'=>⟨λf hf=>?_,?_⟩
 · rw[ha]at hf;cases hf
 · rw[Oper.semAt_plain F _ _ hd,hrun]
   exact hK' _ _ hK
theorem WN (hw:Region.wanted o (yielded ops a.tmps)=true)(hd:∀c,o.op≠.defer c)(ha:o.about P w a.eval=none){w':World}(hrun:(execOp a.eval o).run P w=.ok .skip w')(hK:wpListIn F n P ops Q rest (a.put o.dst undef) w'):wpListIn F n P ops Q (o::rest) a w:=by
 refine Tn hw λK hK'=>⟨λf hf=>?_,?_⟩
 · rw[ha]at hf;cases hf
 · rw[Oper.semAt_plain F _ _ hd,hrun]
   exact hK' _ _ hK
theorem lN (hw:Region.wanted o (yielded ops a.tmps)=true){t:TypeId}{x:Operand}(hop:o.op=.load t x){p:Value}(hx:a.eval x=p){v:Value}(hrun:(Instr.loadAt t p).run P w=.ok v w)(hK:wpListIn F n P ops Q rest (a.put o.dst v) w):wpListIn F n P ops Q (o::rest) a w:=
 QL hw (by rw[hop];intro c hc;cases hc) (by simp[Oper.about,hop]) (by simp[execOp,hop,hx,hrun,Result.andThen]) hK
theorem uv (hw:Region.wanted o (yielded ops a.tmps)=true){t:TypeId}{x y:Operand}(hop:o.op=.store t x y){p u:Value}(hx:a.eval x=p)(hy:a.eval y=u){w':World}(hrun:(Instr.storeAt t p u).run P w=.ok () w')(hK:wpListIn F n P ops Q rest (a.put o.dst undef) w'):wpListIn F n P ops Q (o::rest) a w:=
 WN hw (by rw[hop];intro c hc;cases hc) (by simp[Oper.about,hop]) (by simp[execOp,hop,hx,hy,hrun,Result.andThen]) hK
theorem Vi (hw:Region.wanted o (yielded ops a.tmps)=true){t:TypeId}(hop:o.op=.alloc t){v:Value}{w':World}(hrun:(Instr.alloc t true (.tuple #[])).run P w=.ok v w')(hK:wpListIn F n P ops Q rest (a.put o.dst v) w'):wpListIn F n P ops Q (o::rest) a w:=
 QL hw (by rw[hop];intro c hc;cases hc) (by simp[Oper.about,hop]) (by simp[execOp,hop,hrun,Result.andThen]) hK
theorem Xp (hw:Region.wanted o (yielded ops a.tmps)=true){t:TypeId}{x:Operand}(hop:o.op=.box t x){u:Value}(hx:a.eval x=u){k:Nat}{w':World}(hk:k=w.heap.size)(hw':w'=w.alloc (.cells u.cells t))(hK:wpListIn F n P ops Q rest (a.put o.dst (.pointer (some ⟨k,0,none⟩))) w'):wpListIn F n P ops Q (o::rest) a w:=by
 subst hk hw'
 exact QL hw (by rw[hop];intro c hc;cases hc) (by simp[Oper.about,hop]) (by
   have hb:(Instr.box t u).run P w=.ok (.pointer (some ⟨w.heap.size,0,none⟩)) (w.alloc (.cells u.cells t)):=rfl
   simp[execOp,hop,hx,hb,Result.andThen]) hK
theorem rH (hw:Region.wanted o (yielded ops a.tmps)=true){x:Operand}(hop:o.op=.move x\/o.op=.assign x){u:Value}(hx:a.eval x=u)(hK:wpListIn F n P ops Q rest (a.put o.dst u) w):wpListIn F n P ops Q (o::rest) a w:=
 QL hw (by rcases hop with hop|hop <;> (rw[hop];intro c hc;cases hc)) (by rcases hop with hop|hop <;> simp[Oper.about,hop]) (by rcases hop with hop|hop <;> simp[execOp,hop,hx]) hK
theorem nf (hw:Region.wanted o (yielded ops a.tmps)=true){t:TypeId}{x:Operand}(hop:o.op=.buildSlice t 1 #[(0,x)]){u:Value}(hx:a.eval x=u){v:Value}{w':World}(hrun:(Instr.buildSlice t 1 #[(0,u)]).run P w=.ok v w')(hK:wpListIn F n P ops Q rest (a.put o.dst v) w'):wpListIn F n P ops Q (o::rest) a w:=
 QL hw (by rw[hop];intro c hc;cases hc) (by simp[Oper.about,hop]) (by simp[execOp,hop,hx,hrun,Result.andThen]) hK
theorem pd (hw:Region.wanted o (yielded ops a.tmps)=true){t:TypeId}{x y:Operand}(hop:o.op=.call { callee:=.builtin .append,args:= #[x,y],argTypes:= #[t,t] }){p q:Value}(hx:a.eval x=p)(hy:a.eval y=q){v:Value}{w':World}(hrun:(Builtin.append_ #[t,t] o.type #[p,q]).run P w=.ok v w')(hK:wpListIn F n P ops Q rest (a.put o.dst v) w'):wpListIn F n P ops Q (o::rest) a w:=
 QL hw (by rw[hop];intro c hc;cases hc) (by simp[Oper.about,hop,resolve,Target.leads,Sem.run_pure]) (by simp[execOp,hop,resolve,invoke,builtin,hx,hy,hrun,Result.andThen]) hK
theorem Vj (hw:Region.wanted o (yielded ops a.tmps)=true){f:FuncId}{xs:Array Operand}{ts:Array TypeId}(hop:o.op=.call { callee:=.value (.func f),args:=xs,argTypes:=ts }){us:Array Value}(hx:xs.map a.eval=us)(hn:1 <=n)(hF:∀g,F.fn g)(ef:∀(args:Array Value) (w:World),(callFunc f args).run P w=.ok (.enter f args) w)
   (h:CallsIn F (n-1) P f us w λe w'=>∃v,e=.returned v/\wpListIn F n P ops Q rest (a.put o.dst v) w'):wpListIn F n P ops Q (o::rest) a w:=by
 refine Tn hw λK hK'=>⟨λg hg=>hF g,?_⟩
 rw[Oper.semAt_plain F _ _ (by rw[hop];intro c hc;cases hc)]
 have hr:(execOp a.eval o).run P w=.ok (.enter f us) w:=by
   subst hx
   simp[execOp,hop,resolve,invoke,Deferred.ofValue,Act.eval,Result.andThen]
   exact ef _ _
 rw[hr,Oper.uponIn_enter]
 refine⟨λ_=>hn,h.mono ?_⟩
 rintro e w' ⟨v,rfl,hv⟩
 exact hK' _ _ hv
theorem KG (hw:Region.wanted o (yielded ops a.tmps)=true){f:FuncId}{x:Operand}{ts:Array TypeId}(hop:o.op=.call { callee:=.value (.func f),args:= #[x],argTypes:=ts }){u:Value}(hx:a.eval x=u)(hn:1 <=n)(hF:∀g,F.fn g)(ef:∀(args:Array Value) (w:World),(callFunc f args).run P w=.ok (.enter f args) w)
   (h:CallsIn F (n-1) P f #[u] w λe w'=>∃v,e=.returned v/\wpListIn F n P ops Q rest (a.put o.dst v) w'):wpListIn F n P ops Q (o::rest) a w:=
 Vj hw hop (us:= #[u]) (by simp[hx]) hn hF ef h
theorem ut (hw:Region.wanted o (yielded ops a.tmps)=true){f:FuncId}{x y:Operand}{ts:Array TypeId}(hop:o.op=.call { callee:=.value (.func f),args:= #[x,y],argTypes:=ts }){u v:Value}(hx:a.eval x=u)(hy:a.eval y=v)(hn:1 <=n)(hF:∀g,F.fn g)(ef:∀(args:Array Value) (w:World),(callFunc f args).run P w=.ok (.enter f args) w)
   (h:CallsIn F (n-1) P f #[u,v] w λe w'=>∃v,e=.returned v/\wpListIn F n P ops Q rest (a.put o.dst v) w'):wpListIn F n P ops Q (o::rest) a w:=
 Vj hw hop (us:= #[u,v]) (by simp[hx,hy]) hn hF ef h
theorem PI {x y:Code}(h:x.wpIn F n P (Exit.then (y.wpIn F n P Q) Q) a w):(Code.seq x y).wpIn F n P Q a w:=wpIn_seq h
theorem Se {y:Code}{R:Exit->Act->World->Prop}(h:y.wpIn F n P Q a w):wpListIn F n P ops (Exit.then (y.wpIn F n P Q) R) [] a w:=h
theorem WM {x y:Code}(K:Act->World->Prop)(h:x.wpIn F n P (Exit.then K Q) a w)(hK:∀a w,K a w->y.wpIn F n P Q a w):(Code.seq x y).wpIn F n P Q a w:=
 wpIn_seq (Code.wpIn_mono (λe a w q=>by cases e <;> first|exact hK _ _ q|exact q) h)
theorem WL {K:Act->World->Prop}{R:Exit->Act->World->Prop}(h:K a w):wpListIn F n P ops (Exit.then K R) [] a w:=h
theorem Tl {id:Nat}{ops:Array Oper}(hm:P.follows .mixedOrders=true)(L:List (List Nat))(hL:vB .any ops ops.size (Array.replicate ops.size false)=L)
   (h:∀l∈L,wpListIn F n P ops Q (l.filterMap λi=>ops[i]?) a w.drew):(Code.region id ops true).wpIn F n P Q a w:=
 Kh hm rfl λl hl=>by
   rw[hL]at hl
   obtain⟨x,hx,rfl⟩:=List.mem_map.1 hl
   exact h x hx
end
def IG {α:Type}(f:Nat->α)(k:Nat):List α:=(List.range k).map f
theorem xj {α:Type}(f:Nat->α)(k:Nat):IG f (k+1)=IG f k++[f k]:=by simp[IG,List.range_succ]
theorem Da {α:Type}(f:Nat->α)(k:Nat):(IG f k).length=k:=by simp[IG]
def bkF {α:Type}(d:α)(len:Nat)(zs:List α)(k:Nat):Int×α:=((len:Int)-1-(k:Int),zs[len-1-k]?.getD d)
theorem Nc {α:Type}(d:α)(zs:List α):(IG (bkF d zs.length zs) zs.length).map Prod.snd=zs.reverse:=by
 apply List.ext_getElem
 · simp[IG]
 · intro i h1 h2
   have hi:i<zs.length:=by simpa[IG]using h1
   have:zs.length-1-i<zs.length:=by omega
   simp[IG,bkF,List.getElem_reverse,this]
theorem Nd {α:Type}(d:α)(zs:List α){k:Nat}(hk:k <=zs.length){p:Int×α}(hp:p∈IG (bkF d zs.length zs) k):p.2∈zs:=by
 unfold IG at hp
 obtain⟨i,hi,rfl⟩:=List.mem_map.1 hp
 rw[List.mem_range]at hi
 have:zs.length-1-i<zs.length:=by omega
 show zs[zs.length-1-i]?.getD d∈zs
 rw[List.getElem?_eq_getElem this]
 exact List.getElem_mem this
section
open Go.RowKit Go.Shelf Go.Pk
attribute [local go_sem] Oper.semAt_some
set_option maxRecDepth 100000 in
set_option maxHeartbeats 2000000 in
theorem SR (F:Fence)(n:Nat)(h7:F.fn 224)(hro:F.round=none)(hn:1 <=n)(l Bs b off len cap:Nat)(zs:List (List UInt8))(hreach:len <=140737488351232)(A:Bl)(hAb:A b)(hAB:A Bs)(J Jx:List (Int×(List UInt8))->World->Prop)
   (hY:∀pre x W,J pre W->pre.length<len->YieldAt F (n-1) prog l #[vI x.1,vS x.2] W λe W'=>
     (e=.returned (.bool true)/\J (pre++[x]) W'/\vV A W W')\/(e=.returned (.bool false)/\Jx (pre++[x]) W'))
   (W:World) (hBs:W.cell? ⟨Bs,0,none⟩=some (.slice (some ⟨b,off,none⟩) len cap)) (hBn:Bs<W.heap.size) (hbn:b<W.heap.size) (hc:∀j,j<len->W.cell? ⟨b,off+j,none⟩=some (vS (zs[j]?.getD []))) (h0:J [] W):
   CallsIn F n prog 224 #[.func (.yield l) #[] #[],.pointer (some ⟨Bs,0,none⟩)] W λe W'=>(∃v,e=.returned v)/\
     ((∃ys,ys=IG (bkF [] len zs) len/\J ys W')\/(∃pre,(∃k,k <=len/\pre=IG (bkF [] len zs) k)/\Jx pre W')):=by
 refine callsIn_of_wp func224 rfl h7 ?_ hro
 simp only[Tryz.ntmps224,List.size_toArray,List.length_cons,List.length_nil,Nat.reduceAdd,Nat.reduceSub,Array.replicate_succ,Array.replicate_zero,List.push_toArray,List.append_toArray,List.nil_append,List.cons_append]
 gi_wp2
 gi_loopw [3] (λi wr=>∃k:Nat,k <=len/\i=vI ((len:Int)-1-(k:Int))/\J (IG (bkF [] len zs) k) wr/\vV A W wr)
   (λi _=>(RowKit.intOf i+1).toNat)
 case atStart=>exact⟨0,Nat.zero_le _,by simp,h0,vV.refl _ _⟩
 case round=>
   obtain⟨k,hk,rfl,hJs,hnx⟩:=hrel
   by_cases hlt:k<len
   · have hcx:wr.cell? ⟨b,off+(len-1-k),none⟩=some (vS (zs[len-1-k]?.getD [])):=(li (hnx.block b hbn hAb) _).trans (hc _ (by omega))
     have hBs':wr.cell? ⟨Bs,0,none⟩=some (.slice (some ⟨b,off,none⟩) len cap):=(li (hnx.block Bs hBn hAB) _).trans hBs
     have hi:(len:Int)-1-(k:Int)=((len-1-k:Nat):Int):=by omega
     obtain⟨fn,tmps,assign,body,hy,hR⟩:=hY _ (bkF [] len zs k) wr hJs (by rw[Da];exact hlt)
     dsimp only[bkF]at hy
     rw[hi]at hy ⊢
     gi_wp2
     refine hR.mono ?_
     rintro e W3 (⟨rfl,hJ3,hk3⟩|⟨rfl,hJx3⟩)
     · gi_wp2
       go_roundw
       case rel=>exact⟨k+1,by omega,by simp <;> omega,by rw[xj];exact hJ3,hnx.trans hk3⟩
       case measure=>simp[RowKit.intOf] <;> omega
     · gi_wp2
       refine bodyPost_ret (results_none rfl _ _ _) rfl ?_
       exact⟨⟨_,rfl⟩,.inr ⟨_,⟨k+1,by omega,(xj _ _).symm⟩,hJx3⟩⟩
   · obtain rfl:k=len:=by omega
     gi_wp2
     go_end0
     exact⟨⟨_,rfl⟩,.inl ⟨_,rfl,hJs⟩⟩
set_option maxRecDepth 100000 in
set_option maxHeartbeats 1000000 in
theorem Jo (F:Fence)(n:Nat)(h7:F.fn 224)(hro:F.round=none)(l Bs:Nat)(J:List (Int×(List UInt8))->World->Prop)(a:Option Addr)(c:Nat)(W:World)(hBs:W.cell? ⟨Bs,0,none⟩=some (.slice a 0 c))(h0:J [] W):
   CallsIn F n prog 224 #[.func (.yield l) #[] #[],.pointer (some ⟨Bs,0,none⟩)] W λe W'=>(∃v,e=.returned v)/\J [] W':=by
 refine callsIn_of_wp func224 rfl h7 ?_ hro
 simp only[Tryz.ntmps224,List.size_toArray,List.length_cons,List.length_nil,Nat.reduceAdd,Nat.reduceSub,Array.replicate_succ,Array.replicate_zero,List.push_toArray,List.append_toArray,List.nil_append,List.cons_append]
 gi_wp2
 gi_loopw [3] (λi wr=>i=vI (-1)/\J [] wr) (λ_ _=>0)
 case atStart=>exact⟨rfl,h0⟩
 case round=>
   obtain⟨rfl,hJs⟩:=hrel
   gi_wp2
   go_end0
   exact⟨⟨_,rfl⟩,hJs⟩
theorem LF (F:Fence)(n:Nat)(h7:F.fn 224)(hro:F.round=none)(hn:1 <=n)(Bs:Nat){a:Option Addr}{len cap:Nat}(zs:List (List UInt8))(hreach:zs.length <=140737488351232){w:World}{t:TypeId}(hBs:ai w Bs t [.slice a len cap])(hs:Sl tS w uc a len cap zs):
   SeqStopsK F n prog 224 #[.pointer (some ⟨Bs,0,none⟩)] (λx:Int×List UInt8=> #[vI x.1,vS x.2]) (vV (λb=>b=Bs\/∃o,a=some ⟨b,o,none⟩)) (λys=>ys.map Prod.snd=zs.reverse) (λpre=>∀p∈pre,p.2∈zs) zs.length w:=λl J Jx W hW _ _ hY h0=>by
 have hBW:=hBs.below hW
 have hlt:=hBW.lt
 have hsW:=hs.below hW
 obtain⟨rfl,h2,h3,h4⟩:=hsW
 rcases h4 with rfl|⟨b,off,rfl,hb,_,cl,hl,hc⟩
 · exact(Jo F n h7 hro l Bs J a cap W (hBW.cell 0) h0).mono λe W' ⟨he,hj⟩=>⟨he,.inl ⟨_,rfl,hj⟩⟩
 · refine(SR F n h7 hro hn l Bs b off zs.length cap zs hreach _ (.inr ⟨off,rfl⟩) (.inl rfl) J Jx hY W (hBW.cell 0) hlt hb (λj hj=>?_) h0).mono ?_
   · have he:=fx hl
     rw[hc j (by rw[he];simpa using hj),he]
     simp[hj]
   · rintro e W' ⟨he,⟨ys,rfl,hj⟩|⟨pre,⟨k,hk,rfl⟩,hj⟩⟩
     · exact⟨he,.inl ⟨_,Nc _ _,hj⟩⟩
     · exact⟨he,.inr ⟨_,λp hp=>Nd _ _ hk hp,hj⟩⟩
set_option maxRecDepth 100000 in
set_option maxHeartbeats 2000000 in
theorem SQ (F:Fence)(n:Nat)(h7:F.fn 181)(hro:F.round=none)(hn:1 <=n)(l Bs b off len cap:Nat)(zs:List Int)(hreach:len <=140737488351232)(A:Bl)(hAb:A b)(hAB:A Bs)(J Jx:List (Int×Int)->World->Prop)
   (hY:∀pre x W,J pre W->pre.length<len->YieldAt F (n-1) prog l #[vI x.1,vI x.2] W λe W'=>
     (e=.returned (.bool true)/\J (pre++[x]) W'/\vV A W W')\/(e=.returned (.bool false)/\Jx (pre++[x]) W'))
   (W:World) (hBs:W.cell? ⟨Bs,0,none⟩=some (.slice (some ⟨b,off,none⟩) len cap)) (hBn:Bs<W.heap.size) (hbn:b<W.heap.size) (hc:∀j,j<len->W.cell? ⟨b,off+j,none⟩=some (vI (zs[j]?.getD 0))) (h0:J [] W):
   CallsIn F n prog 181 #[.func (.yield l) #[] #[],.pointer (some ⟨Bs,0,none⟩)] W λe W'=>(∃v,e=.returned v)/\
     ((∃ys,ys=IG (bkF 0 len zs) len/\J ys W')\/(∃pre,(∃k,k <=len/\pre=IG (bkF 0 len zs) k)/\Jx pre W')):=by
 refine callsIn_of_wp func181 rfl h7 ?_ hro
 simp only[Tryz.ntmps181,List.size_toArray,List.length_cons,List.length_nil,Nat.reduceAdd,Nat.reduceSub,Array.replicate_succ,Array.replicate_zero,List.push_toArray,List.append_toArray,List.nil_append,List.cons_append]
 gi_wp2
 gi_loopw [3] (λi wr=>∃k:Nat,k <=len/\i=vI ((len:Int)-1-(k:Int))/\J (IG (bkF 0 len zs) k) wr/\vV A W wr)
   (λi _=>(RowKit.intOf i+1).toNat)
 case atStart=>exact⟨0,Nat.zero_le _,by simp,h0,vV.refl _ _⟩
 case round=>
   obtain⟨k,hk,rfl,hJs,hnx⟩:=hrel
   by_cases hlt:k<len
   · have hcx:wr.cell? ⟨b,off+(len-1-k),none⟩=some (vI (zs[len-1-k]?.getD 0)):=(li (hnx.block b hbn hAb) _).trans (hc _ (by omega))
     have hBs':wr.cell? ⟨Bs,0,none⟩=some (.slice (some ⟨b,off,none⟩) len cap):=(li (hnx.block Bs hBn hAB) _).trans hBs
     have hi:(len:Int)-1-(k:Int)=((len-1-k:Nat):Int):=by omega
     obtain⟨fn,tmps,assign,body,hy,hR⟩:=hY _ (bkF 0 len zs k) wr hJs (by rw[Da];exact hlt)
     dsimp only[bkF]at hy
     rw[hi]at hy ⊢
     gi_wp2
     refine hR.mono ?_
     rintro e W3 (⟨rfl,hJ3,hk3⟩|⟨rfl,hJx3⟩)
     · gi_wp2
       go_roundw
       case rel=>exact⟨k+1,by omega,by simp <;> omega,by rw[xj];exact hJ3,hnx.trans hk3⟩
       case measure=>simp[RowKit.intOf] <;> omega
     · gi_wp2
       refine bodyPost_ret (results_none rfl _ _ _) rfl ?_
       exact⟨⟨_,rfl⟩,.inr ⟨_,⟨k+1,by omega,(xj _ _).symm⟩,hJx3⟩⟩
   · obtain rfl:k=len:=by omega
     gi_wp2
     go_end0
     exact⟨⟨_,rfl⟩,.inl ⟨_,rfl,hJs⟩⟩
set_option maxRecDepth 100000 in
set_option maxHeartbeats 1000000 in
theorem Jn (F:Fence)(n:Nat)(h7:F.fn 181)(hro:F.round=none)(l Bs:Nat)(J:List (Int×Int)->World->Prop)(a:Option Addr)(c:Nat)(W:World)(hBs:W.cell? ⟨Bs,0,none⟩=some (.slice a 0 c))(h0:J [] W):
   CallsIn F n prog 181 #[.func (.yield l) #[] #[],.pointer (some ⟨Bs,0,none⟩)] W λe W'=>(∃v,e=.returned v)/\J [] W':=by
 refine callsIn_of_wp func181 rfl h7 ?_ hro
 simp only[Tryz.ntmps181,List.size_toArray,List.length_cons,List.length_nil,Nat.reduceAdd,Nat.reduceSub,Array.replicate_succ,Array.replicate_zero,List.push_toArray,List.append_toArray,List.nil_append,List.cons_append]
 gi_wp2
 gi_loopw [3] (λi wr=>i=vI (-1)/\J [] wr) (λ_ _=>0)
 case atStart=>exact⟨rfl,h0⟩
 case round=>
   obtain⟨rfl,hJs⟩:=hrel
   gi_wp2
   go_end0
   exact⟨⟨_,rfl⟩,hJs⟩
theorem LD (F:Fence)(n:Nat)(h7:F.fn 181)(hro:F.round=none)(hn:1 <=n)(Bs:Nat){a:Option Addr}{len cap:Nat}(zs:List Int)(hreach:zs.length <=140737488351232){w:World}{t:TypeId}(hBs:ai w Bs t [.slice a len cap])(hs:Sl lS w uc a len cap zs):
   SeqStopsK F n prog 181 #[.pointer (some ⟨Bs,0,none⟩)] (λx:Int×Int=> #[vI x.1,vI x.2]) (vV (λb=>b=Bs\/∃o,a=some ⟨b,o,none⟩)) (λys=>ys.map Prod.snd=zs.reverse) (λpre=>∀p∈pre,p.2∈zs) zs.length w:=λl J Jx W hW _ _ hY h0=>by
 have hBW:=hBs.below hW
 have hlt:=hBW.lt
 have hsW:=hs.below hW
 obtain⟨rfl,h2,h3,h4⟩:=hsW
 rcases h4 with rfl|⟨b,off,rfl,hb,_,cl,hl,hc⟩
 · exact(Jn F n h7 hro l Bs J a cap W (hBW.cell 0) h0).mono λe W' ⟨he,hj⟩=>⟨he,.inl ⟨_,rfl,hj⟩⟩
 · refine(SQ F n h7 hro hn l Bs b off zs.length cap zs hreach _ (.inr ⟨off,rfl⟩) (.inl rfl) J Jx hY W (hBW.cell 0) hlt hb (λj hj=>?_) h0).mono ?_
   · have he:=fx (e:=λn=>vI n) (h1:=λ_=>rfl) (p:=λ_=>True) hl
     rw[hc j (by rw[he];simpa using hj),he]
     simp[hj]
   · rintro e W' ⟨he,⟨ys,rfl,hj⟩|⟨pre,⟨k,hk,rfl⟩,hj⟩⟩
     · exact⟨he,.inl ⟨_,Nc _ _,hj⟩⟩
     · exact⟨he,.inr ⟨_,λp hp=>Nd _ _ hk hp,hj⟩⟩
end
def PL {α:Type}(T:Ty α)(ta tv:TypeId)(kv B:Nat)(w0:World)(xs:List α)(W:World):Prop:=
 ∃(a:Option Addr) (n c:Nat),ai W kv tv [.slice a n c]/\Ow T ta W NoB a n c xs/\(∀g,dV a=some g->B <=g)/\Below kv w0 W
theorem Qk {α β:Type}{T:Ty α}{ta tv:TypeId}{kv B:Nat}{w0:World}{f:β->List α}(hkv:kv<B):OwnFrom B (λpre W=>PL T ta tv kv B w0 (f pre) W):=by
 rintro pre W W' row ⟨a,n,c,hB,ho,hf,hb⟩ hg hr
 have hr':E6 W row:=λr e=>(hr r e).2
 refine⟨a,n,c,hB.turned hg hr',ho.turned hg hr',hf,yY hb (Nat.le_of_lt hB.lt) hg λr e=>?_⟩
 have:=(hr r e).1
 omega
theorem PL.drew {α:Type}{T:Ty α}{ta tv:TypeId}{kv B:Nat}{w0 W:World}{xs:List α}(h:PL T ta tv kv B w0 xs W):PL T ta tv kv B w0 xs W.drew:=by
 obtain⟨a,n,c,h1,h2,h3,h4⟩:=h
 exact⟨a,n,c,h1.below (cF W),h2.below (cF W),h3,h4.trans ((cF W).mono (Nat.le_of_lt h1.lt))⟩
theorem Nw {α:Type}{T:Ty α}(hfl:Flat T){P:Program}{ta tv:TypeId}{bytes bytesv:Nat}{z zv:Value}(hu:P.underlying tv=some (.slice ta))(tf:TF P ta T.k bytes z)(hb0:0<bytes)(tfv:TF P tv 1 bytesv zv)
   {kv B:Nat} {w0 W W1:World} {xs:List α} {a:Option Addr} {n c:Nat} (hB:ai W kv tv [.slice a n c]) (ho:Ow T ta W NoB a n c xs) (hf:∀g,dV a=some g->B <=g) (hb:Below kv w0 W) (hkv:kv<B) (hBW:B <=W.heap.size)
   {k1:Nat} {vs:List Value} {x:α} (hk:k1=W.heap.size) (hw:W1=W.alloc (.cells vs.toArray ta)) (hx:T.rep W NoB vs x) (hbound:(xs.length+1)*bytes <=140737488355328):
   ∃(W2:World) (a':Option Addr) (n' c':Nat),(Builtin.append_ #[tv,tv] tv #[.slice a n c,.slice (some ⟨k1,0,none⟩) 1 1]).run P W1=.ok (.slice a' n' c') W2/\
     ∃W3:World,(Instr.storeAt tv (.pointer (some ⟨kv,0,none⟩)) (.slice a' n' c')).run P W2=.ok () W3/\PL T ta tv kv B w0 (xs++[x]) W3/\KeepsFrom B W W3/\∀b,b<B->b≠kv->W3.heap[b]? =W.heap[b]? :=by
 have hB1:bW W W1:=hw▸ah W _
 have ho3:=ho.below hB1
 have hsrc:Src T W1 NoB (some ⟨k1,0,none⟩) 1 [x]:=Src.new1F hfl hk hw hx
 obtain⟨W2,a4,n4,c4,hr,ho4,hgr,hfr⟩:=dF (ty:=tv) hu tf hb0 ho3 (λ_ _ h=>h) (cm:=1) hsrc (by simpa using hbound)
 have hkv2:some kv≠dV a:=λe=>by have:=hf kv e.symm;omega
 have hA2:ai W2 kv tv [.slice a n c]:=(hB.below hB1).grown hgr hkv2
 obtain⟨W3,hst,hA3,hg3⟩:=hA2.store tfv (i:=0) (v:=.slice a4 n4 c4) rfl (by simp) (by intro c hcc;simp[Value.cells]at hcc;subst hcc;rfl)
 have hf4:∀g,dV a4=some g->B <=g:=λg hg=>by
   rcases hfr g hg with h|h
   · exact hf g h
   · exact Nat.le_trans hBW (Nat.le_trans hB1.size h)
 have hs3:W.heap.size <=W3.heap.size:=Nat.le_trans hB1.size (Nat.le_trans hgr.size hg3.size)
 have same:∀b,b<W.heap.size->b≠kv->some b≠dV a->W3.heap[b]? =W.heap[b]? :=λb hb1 hb2 hb3=>by
   have l1:=Nat.lt_of_lt_of_le hb1 hB1.size
   rw[hg3.block b (Nat.lt_of_lt_of_le l1 hgr.size) (λe=>hb2 (by cases e;rfl)),hgr.block b l1 hb3,hB1.block b hb1]
 refine⟨W2,a4,n4,c4,hr,W3,hst,⟨a4,n4,c4,hA3,ho4.put (λg hg e=>by have:=hf4 g hg;omega) hg3,hf4,?_⟩,⟨hs3,λk o hk1 hk2 hk3=>?_⟩,λb hb1 hb2=>?_⟩
 · refine⟨?_,?_,?_,Nat.le_trans hb.size hs3,λb hb1=>?_⟩
   · rw[hg3.os,hgr.os,hB1.os,hb.os]
   · rw[hg3.tape,hgr.tape,hB1.tape,hb.tape]
   · rw[hg3.output,hgr.output,hB1.output,hb.output]
   · rw[same b (Nat.lt_trans hb1 hB.lt) (by omega) (λe=>by have:=hf b e.symm;omega),hb.block b hb1]
 · refine(same k (Array.getElem?_eq_some_iff.1 hk2).1 (by omega) (λe=>?_)).trans hk2
   obtain⟨o2,h2,c2⟩:=ho.cells e.symm
   rw[hk2]at h2;cases h2;rw[hk3]at c2;cases c2
 · exact same b (by omega) hb2 λe=>by have:=hf b e.symm;omega
theorem Ch {A:Bl}{W:World}{l:Nat}{o':Obj}(h:∀b,A b->b≠l):vV A W (W.putObj l o'):=⟨by simp[World.putObj],λb hb ha=>(grownBy_putObj' W l o').block b hb λe=>h b ha (by cases e;rfl)⟩
theorem j0 (a:Option Addr)(b c:Nat){w K}(h:nA w (.cells #[.slice a b c] aw) λd e=>K (.func (.func jA) #[] #[.pointer (vA d 0)]) e):Cf kK #[.slice a b c] w (Ret K):=ru func137 [] h
theorem nw (a:Option Addr)(b c:Nat){w K}(h:nA w (.cells #[.slice a b c] aZ) λd e=>K (.func (.func cw) #[] #[.pointer (vA d 0)]) e):Cf fz #[.slice a b c] w (Ret K):=ru func105 [] h
theorem qT (a:Option Addr){w K}(h:(Option.isSome a=true)/\(Option.isSome a=true)/\∃b c d,Ld aw (Option.map (λe=>e.add 0) a) w (.slice b c d)/\K (vI (i64.wrap (((c:Nat):Int)+(1:Int)))) w):Cf bh #[.pointer a] w (Ret K):=ru func13 [] h
theorem Av (a:lU){w K}(h:uS pb #[] w λb c=>∃d e f g,(convert ak aY (vS a)).run prog c=.ok (.slice e f g) d/\∃i:Nat->FP [.one .slice,.one (.int .i64)],(∃j,i j none 0 0 (0:Int) d)/\∀j k l m n,aN 17 (∀o,i j k l m n o->ae (decide (n<((f:Nat):Int))) ((bx n ((f:Nat):Int)/\Option.isSome e=true)/\∃p,Ld bX (am e n 1) o (.int .u8 p)/\uI dH #[vS b,.int .u8 p] o λq r=>ae (decide (q<(0:Int))) (K (.tuple #[.slice none 0 0,.bool false]) r) (nA r (.cells #[vI q] aP) λs t=>∃u v x y,(Builtin.append_ #[aZ,aZ] aZ #[.slice k l m,.slice (vA s 0) 1 1]).run prog t=.ok (.slice v x y) u/\∃z:Nat,z<j/\i z v x y (i64.wrap (n+(1:Int))) u)) (K (.tuple #[.slice k l m,.bool true]) o))):Cf kZ #[vS a] w (Ret K):=ru func65 [(10,[(5,.one .slice),(13,.one (.int .i64))])] h
theorem Ec (a:Option Addr)(b c:Nat){w K}(h:uV eC #[.slice a b c] w λd e=>uL gV #[d] e λf g i j=>uL gh #[.slice f g i] j λk l m n=>nA n (.map #[] 0) λo p=>nA p (.cells #[.slice k l m,.map (some o)] eW) λq r=>true/\true/\∃s t u,Ld aw (vA q 0) r (.slice s t u)/\∃v:Nat->FP [.one (.int .i64)],(∃x,v x (0:Int) r)/\∀x y,aN 13 (∀z,v x y z->ae (decide (y<((t:Nat):Int))) ((bx y ((t:Nat):Int)/\Option.isSome s=true)/\∃A,Ld ak (am s y 1) z (vS A)/\true/\true/\∃B,Ld eo (vA q 1) z (.map B)/\∃C,(Instr.mapUpdate eo (.map B) (vS A) (vI y)).run prog z=.ok () C/\∃D:Nat,D<x/\v D (i64.wrap (y+(1:Int))) C) (K (.pointer (vA q 0)) z))):Cf so #[.slice a b c] w (Ret K):=ru func86 [(8,[(18,.one (.int .i64))])] h
theorem Aw {w K}(h:∃a:Nat->FP [.one .slice,.one (.int .u8)],(∃b,a b none 0 0 (33:Int) w)/\∀b c d e f,aN 14 (∀g,a b c d e f g->ae (decide (f <=(126:Int))) (∃i:FP [.one .bool],(ae (f !=(63:Int)) (i (f !=(35:Int)) g) (i false g))/\∀j,aN 5 (∀k,i j k->ae j (nA k (.cells #[.int .u8 f] bX) λl m=>∃n o p q,(Builtin.append_ #[aY,aY] aY #[.slice c d e,.slice (vA l 0) 1 1]).run prog m=.ok (.slice o p q) n/\∃r:Nat,r<b/\a r o p q (IntKind.u8.wrap (f+(1:Int))) n) (∃l:Nat,l<b/\a l c d e (IntKind.u8.wrap (f+(1:Int))) k))) (∃i,(convert aY ak (.slice c d e)).run prog g=.ok (vS i) g/\K (vS i) g))):Cf pb #[] w (Ret K):=ru func134 [(8,[(1,.one .slice),(2,.one (.int .u8))]),(17,[(12,.one .bool)])] h
theorem rN (a:Option Addr)(b:lU){w K}(h:(Option.isSome a=true)/\(Option.isSome a=true)/\∃c,Ld eo (Option.map (λd=>d.add 1) a) w (.map c)/\∃d e,(Instr.lookup eo (.map c) (vS b) true).run prog w=.ok (.tuple #[vI d,.bool e]) w/\ae e (K (vI d) w) ((Option.isSome a=true)/\(Option.isSome a=true)/\∃f g i,Ld aw (Option.map (λj=>j.add 0) a) w (.slice f g i)/\K (vI ((g:Nat):Int)) w)):Cf lZ #[.pointer a,vS b] w (Ret K):=ru func138 [] h
theorem pU (a:Value){w K}(h:uL gz #[a] w λb c d e=>uU iB #[.slice b c d] e λf=>K (.slice b c d) f):Cf gV #[a] w (Ret K):=ru func162 [] h
theorem ph (a:Value){w K}(h:uL fF #[.slice none 0 0,a] w λb c d e=>K (.slice b c d) e):Cf gz #[a] w (Ret K):=ru func252 [] h
theorem kQ (a:Option Addr)(b c:Nat){w K}(h:nA w (.cells #[.slice a b c] aw) λd e=>K (.func (.func ca) #[] #[.pointer (vA d 0)]) e):Cf eC #[.slice a b c] w (Ret K):=ru func163 [] h
open Go.Sort (Holds putRow grow putCells mapBlock)
theorem Ow.trunc {α:Type}{T:Ty α}{t:TypeId}{w:World}{A:Bl}{a:Option Addr}{n c:Nat}{xs:List α}(h:Ow T t w A a n c xs){ys zs:List α}(e:xs=ys++zs):Ow T t w A a ys.length c ys:=by
 obtain⟨h1,h2,h3,h4⟩:=h
 subst e h1
 refine⟨rfl,by simp at h2;omega,h3,?_⟩
 rcases h4 with⟨e1,e2,e3⟩|⟨g,cur,fr,e,hh,hf,hs,h4⟩
 · exact .inl ⟨e1,e2,(List.append_eq_nil_iff.1 e3).1⟩
 · refine .inr ⟨g,cur,fr,e,hh,hf,hs,?_⟩
   have hl:=h4.len
   have e1:cur.toList.take (ys.length*T.k)=(cur.toList.take ((ys++zs).length*T.k)).take (ys.length*T.k):=by
     rw[List.take_take];congr 1
     rw[List.length_append,Nat.add_mul];omega
   refine⟨?_,λi hi=>?_⟩
   · rw[e1,List.length_take,hl,List.length_append,Nat.add_mul];omega
   · have h5:=h4.rep i (by simp;omega)
     rw[List.getElem_append_left hi]at h5
     have hb:i*T.k+T.k <=ys.length*T.k:=by
       have:=Nat.mul_le_mul_right T.k (show i+1 <=ys.length from hi)
       rwa [Nat.add_mul,Nat.one_mul]at this
     rw[e1,List.drop_take,List.take_take]
     rw[show min T.k (ys.length*T.k-i*T.k)=T.k by omega]
     exact h5
theorem Ow.holds {α:Type}[Inhabited α]{e:α->Value}{h1:∀x,(e x).oneCell'=true}{p:α->Prop}{t:TypeId}{w:World}{A:Bl}{g n c:Nat}{xs:List α}
   (h:Ow (Ty.enc e h1 p) t w A (some ⟨g,0,none⟩) n c xs):Holds e w g 0 xs.toArray/\g<w.heap.size:=by
 obtain⟨h1',h2,h3,h4⟩:=h
 rcases h4 with⟨e1,_⟩|⟨g',cur,fr,e',hh,hf,hs,h4⟩
 · cases e1
 · cases e'
   refine⟨λj hj=>?_,(Array.getElem?_eq_some_iff.1 hh).1⟩
   have hj':j<xs.length:=by simpa using hj
   have hjc:j<cur.size:=by rw[hs];simp[Ty.enc];omega
   have h5:=fx h4
   refine⟨?_,?_⟩
   · rw[hO hh,Nat.zero_add]
     have h6:(cur.toList.take (n*(Ty.enc e h1 p).k))[j]? =some (e xs[j]):=by rw[h5];simp[hj']
     rw[List.getElem?_take]at h6
     split at h6
     · simp at h6 ⊢;rw[h6];simp[hj']
     · cases h6
   · rw[Nat.zero_add];exact EA hh (hf j hjc)
theorem Ow.putR {α:Type}[Inhabited α]{e:α->Value}{h1:∀x,(e x).oneCell'=true}{p:α->Prop}{t:TypeId}{w:World}{A:Bl}{g n c:Nat}{xs ys:List α}
   (h:Ow (Ty.enc e h1 p) t w A (some ⟨g,0,none⟩) n c xs) (hl:ys.length=xs.length) (hp:∀y∈ys,p y) (q:Nat) (os:Array Obj):
   Ow (Ty.enc e h1 p) t (grow (putRow e (Go.Sort.ahead w q) g 0 ys.toArray) os) A (some ⟨g,0,none⟩) n c ys/\w.grownBy (grow (putRow e (Go.Sort.ahead w q) g 0 ys.toArray) os) (some g):=by
 obtain⟨h1',h2,h3,h4⟩:=h
 rcases h4 with⟨e1,_⟩|⟨g',cur,fr,e',hh,hf,hs,h4⟩
 · cases e1
 · cases e'
   have hlt:=(Array.getElem?_eq_some_iff.1 hh).1
   have hsz:(putRow e (Go.Sort.ahead w q) g 0 ys.toArray).heap.size=w.heap.size:=by simp[Go.Sort.ahead]
   have hh':(grow (putRow e (Go.Sort.ahead w q) g 0 ys.toArray) os).heap[g]? =some (.cells (putCells e 0 ys.toArray cur) t fr):=by
     rw[Sort.heap_grow_old _ _ (by rw[hsz];exact hlt)]
     show((Go.Sort.ahead w q).heap.modify g _)[g]? =_
     rw[Array.getElem?_modify,if_pos rfl]
     show(w.heap[g]?).map _=_
     rw[hh];rfl
   refine⟨⟨by rw[hl];exact h1',h2,h3,.inr ⟨g,_,fr,rfl,hh',?_,?_,?_⟩⟩,?_⟩
   · intro i hi;exact hf i (by simpa[putCells]using hi)
   · simpa[putCells]using hs
   · have:(putCells e 0 ys.toArray cur).toList.take (n*(Ty.enc e h1 p).k)=ys.map e:=by
       have hn:n*(Ty.enc e h1 p).k=ys.length:=by rw[hl,h1'];simp[Ty.enc]
       have hcs:ys.length <=cur.size:=by rw[hs,hl];simp[Ty.enc];omega
       rw[hn]
       apply List.ext_getElem?
       intro i
       rw[List.getElem?_take]
       by_cases hi:i<ys.length
       · rw[if_pos hi]
         have:i<cur.size:=by omega
         simp[putCells,hi,this]
       · rw[if_neg hi];simp[hi]
     rw[this]
     exact mj hp
   · refine⟨rfl,rfl,rfl,by simp[grow,hsz],λk hk hne=>?_⟩
     rw[Sort.heap_grow_old _ _ (by rw[hsz];exact hk)]
     show((Go.Sort.ahead w q).heap.modify g _)[k]? =_
     rw[Array.getElem?_modify,if_neg (λe=>hne (by rw[e]))]
     rfl
theorem Ow.put0 {α:Type}[Inhabited α]{e:α->Value}{h1:∀x,(e x).oneCell'=true}{p:α->Prop}{t:TypeId}{w:World}{A:Bl}{g n c:Nat}{xs ys:List α}
   (h:Ow (Ty.enc e h1 p) t w A (some ⟨g,0,none⟩) n c xs) (hl:ys.length=xs.length) (hp:∀y∈ys,p y) (q:Nat):
   Ow (Ty.enc e h1 p) t (putRow e (Go.Sort.ahead w q) g 0 ys.toArray) A (some ⟨g,0,none⟩) n c ys/\w.grownBy (putRow e (Go.Sort.ahead w q) g 0 ys.toArray) (some g):=by
 have:=h.putR hl hp q #[]
 rwa [Sort.grow_empty]at this
theorem Mh {α:Type}{e:α->Value}{h1:∀x,(e x).oneCell'=true}{p:α->Prop}{t:TypeId}{w:World}{B n:Nat}{v:Value}{xs:List α}(A:Bl)(h:w.ownsRow B t 1 v n (xs.map e))(hn:n=xs.length)(hp:∀x∈xs,p x):
   ∃a c,v=.slice a n c/\Ow (Ty.enc e h1 p) t w A a n c xs/\bg B a:=by
 rcases h.2 with⟨rfl,h0⟩|⟨g,cap,cur,rfl,hb,hg,hle,hm,hs,ht⟩
 · have:xs=[]:=List.eq_nil_of_length_eq_zero (by omega)
   subst this
   exact⟨none,0,by rw[h0],by rw[h0];exact Ow.nil _ _ _ _,bg.none _⟩
 · refine⟨_,cap,rfl,⟨hn,hle,hm,.inr ⟨g,cur,(0,0),rfl,hg,λi _=>by simp,by simpa[Ty.enc]using hs,?_⟩⟩,λx hx=>by simp[dV]at hx;omega⟩
   show kg _ _ _ (cur.toList.take (n*1)) xs
   rw[ht];exact mj hp
section
open Go.RowKit Go.Shelf Go.Pk
attribute [local go_sem] Oper.semAt_some
def upto {α:Type}(f:Nat->α)(k:Nat):List α:=(List.range k).map f
theorem IH {α:Type}(f:Nat->α)(k:Nat):upto f (k+1)=upto f k++[f k]:=by simp[upto,List.range_succ]
theorem Kg {α:Type}(f:Nat->α)(k:Nat):(upto f k).length=k:=by simp[upto]
theorem RM (zs:List (List UInt8)):upto (λj=>zs[j]?.getD []) zs.length=zs:=by
 apply List.ext_getElem
 · simp[upto]
 · intro i h1 h2
   simp[upto,h2]
theorem Pn (zs:List (List UInt8)){k:Nat}(hk:k <=zs.length):upto (λj=>zs[j]?.getD []) k=zs.take k:=by
 apply List.ext_getElem
 · simp[upto,hk]
 · intro i h1 h2
   have:i<zs.length:=by simp[upto]at h1;omega
   simp[upto,this]
set_option maxRecDepth 100000 in
set_option maxHeartbeats 2000000 in
theorem MB (F:Fence)(n:Nat)(h7:F.fn 254)(hro:F.round=none)(hn:1 <=n)(l Bs n₀ b off len cap:Nat)(zs:List (List UInt8))(hreach:len*16 <=140737488351232)(hb:b<n₀)(J Jx:List (List UInt8)->World->Prop)
   (hY:∀pre x W,J pre W->pre.length<len->YieldAt F (n-1) prog l #[vS x] W λe W'=>
     (e=.returned (.bool true)/\J (pre++[x]) W'/\Below n₀ W W')\/(e=.returned (.bool false)/\Jx (pre++[x]) W'))
   (W:World) (hBs:W.cell? ⟨Bs,0,none⟩=some (.slice (some ⟨b,off,none⟩) len cap)) (hc:∀j,j<len->W.cell? ⟨b,off+j,none⟩=some (vS (zs[j]?.getD []))) (h0:J [] W):
   CallsIn F n prog 254 #[.func (.yield l) #[] #[],.pointer (some ⟨Bs,0,none⟩)] W λe W'=>(∃v,e=.returned v)/\
     ((∃ys,ys=upto (λj=>zs[j]?.getD []) len/\J ys W')\/(∃pre,(∃k,k <=len/\pre=upto (λj=>zs[j]?.getD []) k)/\Jx pre W')):=by
 refine callsIn_of_wp func254 rfl h7 ?_ hro
 simp only[Tryz.ntmps254,List.size_toArray,List.length_cons,List.length_nil,Nat.reduceAdd,Nat.reduceSub,Array.replicate_succ,Array.replicate_zero,List.push_toArray,List.append_toArray,List.nil_append,List.cons_append]
 gi_wp2
 gi_loopw [7] (λi wr=>∃k:Nat,k <=len/\i=vI k/\J (upto (λj=>zs[j]?.getD []) k) wr/\Below n₀ W wr)
   (λi _=>len-(RowKit.intOf i).toNat)
 case atStart=>exact⟨0,Nat.zero_le _,rfl,h0,Below.refl _ _⟩
 case round=>
   obtain⟨k,hk,rfl,hJs,hnx⟩:=hrel
   have hcx:k<len->wr.cell? ⟨b,off+k,none⟩=some (vS (zs[k]?.getD [])):=λh=>(hnx.cell (p:=⟨b,off+k,none⟩) hb).trans (hc k h)
   by_cases hlt:k<len
   · obtain⟨fn,tmps,assign,body,hy,hR⟩:=hY _ (zs[k]?.getD []) wr hJs (by rw[Kg];exact hlt)
     have hcx':=hcx hlt
     gi_wp2
     refine hR.mono ?_
     rintro e W3 (⟨rfl,hJ3,hk3⟩|⟨rfl,hJx3⟩)
     · gi_wp2
       go_roundw
       case rel=>exact⟨k+1,by omega,by simp,by rw[IH];exact hJ3,hnx.trans hk3⟩
       case measure=>simp[RowKit.intOf];omega
     · gi_wp2
       refine bodyPost_ret (results_none rfl _ _ _) rfl ?_
       exact⟨⟨_,rfl⟩,.inr ⟨_,⟨k+1,by omega,(IH _ _).symm⟩,hJx3⟩⟩
   · obtain rfl:k=len:=by omega
     gi_wp2
     go_end0
     exact⟨⟨_,rfl⟩,.inl ⟨_,rfl,hJs⟩⟩
def Dq (n₀:Nat)(W:World)(sv:Value)(zs:List (List UInt8)):Prop:=
 (zs=[]/\∃a c,sv=.slice a 0 c)\/∃b off cap,sv=.slice (some ⟨b,off,none⟩) zs.length cap/\b<n₀/\∀j,j<zs.length->W.cell? ⟨b,off+j,none⟩=some (vS (zs[j]?.getD []))
theorem Dq.below {n₀:Nat}{A B:World}(h:Below n₀ A B){sv:Value}{zs:List (List UInt8)} :Dq n₀ A sv zs->Dq n₀ B sv zs
 | .inl e=>.inl e
 | .inr ⟨b,off,cap,e,hb,hc⟩=>.inr ⟨b,off,cap,e,hb,λj hj=>(h.cell (p:=⟨b,off+j,none⟩) hb).trans (hc j hj)⟩
set_option maxRecDepth 100000 in
set_option maxHeartbeats 1000000 in
theorem Ep (F:Fence)(n:Nat)(h7:F.fn 254)(hro:F.round=none)(l Bs:Nat)(J:List (List UInt8)->World->Prop)(a:Option Addr)(c:Nat)(W:World)(hBs:W.cell? ⟨Bs,0,none⟩=some (.slice a 0 c))(h0:J [] W):
   CallsIn F n prog 254 #[.func (.yield l) #[] #[],.pointer (some ⟨Bs,0,none⟩)] W λe W'=>(∃v,e=.returned v)/\J [] W':=by
 refine callsIn_of_wp func254 rfl h7 ?_ hro
 simp only[Tryz.ntmps254,List.size_toArray,List.length_cons,List.length_nil,Nat.reduceAdd,Nat.reduceSub,Array.replicate_succ,Array.replicate_zero,List.push_toArray,List.append_toArray,List.nil_append,List.cons_append]
 gi_wp2
 gi_loopw [7] (λi wr=>i=vI 0/\J [] wr) (λ_ _=>0)
 case atStart=>exact⟨rfl,h0⟩
 case round=>
   obtain⟨rfl,hJs⟩:=hrel
   gi_wp2
   go_end0
   exact⟨⟨_,rfl⟩,hJs⟩
theorem zZb (F:Fence)(n:Nat)(h7:F.fn 254)(hro:F.round=none)(hn:1 <=n)(Bs n₀:Nat)(sv:Value)(zs:List (List UInt8))(hreach:zs.length*16 <=140737488351232)(w:World)(hBs:Bs<w.heap.size)(hn₀:n₀ <=w.heap.size)
   (hc:w.cell? ⟨Bs,0,none⟩=some sv) (hI:Dq n₀ w sv zs):
   SeqStopsK F n prog 254 #[.pointer (some ⟨Bs,0,none⟩)] (λx:List UInt8=> #[vS x]) (Below n₀) (λys=>ys=zs) (λpre=>pre <+:zs) zs.length w:=λl J Jx W hW _ _ hY h0=>by
 have hc':=(hW.cell (p:=⟨Bs,0,none⟩) hBs).trans hc
 rcases hI.below (hW.mono hn₀)with⟨rfl,a,c,rfl⟩|⟨b,off,cap,rfl,hb,hcs⟩
 · exact(Ep F n h7 hro l Bs J a c W hc' h0).mono λe W' ⟨he,hj⟩=>⟨he,.inl ⟨_,rfl,hj⟩⟩
 · refine(MB F n h7 hro hn l Bs n₀ b off zs.length cap zs hreach hb J Jx hY W hc' hcs h0).mono ?_
   rintro e W' ⟨he,⟨ys,rfl,hj⟩|⟨pre,⟨k,hk,rfl⟩,hj⟩⟩
   · exact⟨he,.inl ⟨_,RM zs,hj⟩⟩
   · exact⟨he,.inr ⟨_,by rw[Pn zs hk];exact List.take_prefix _ _,hj⟩⟩
theorem JK:(prog.info? 9).map (λi=>(i.zero,i.size,i.bytes))=some (some (vS []),1,16):=by kernel_rfl
set_option maxRecDepth 100000 in
set_option maxHeartbeats 2000000 in
theorem G8 (F:Fence)(n:Nat)(h3:F.fn 315)(h7:F.fn 254)(hro:F.round=none)(hn:3 <=n)(Bs:Nat)(sv:Value)(zs:List (List UInt8))(hlen:zs.length <=maxLen)(hbytes:zs.length*16 <=140737488351232)(w:World)(hBs:Bs<w.heap.size)
   (hc:w.cell? ⟨Bs,0,none⟩=some sv) (hI:Dq w.heap.size w sv zs):
   CallsIn F n prog 315 #[.slice none 0 0,.func (.func 254) #[] #[.pointer (some ⟨Bs,0,none⟩)]] w λe W'=>∃v,e=.returned v/\W'.ownsRow w.heap.size 9 1 v zs.length (zs.map λx=>vS x)/\bW w W':=by
 have h1:1 <=n:=by omega
 obtain⟨i0,hi,hz0,hz1,hz2⟩:=info_parts JK
 refine callsIn_of_wp_marks func315 rfl h3 ?_ hro
 simp only[Tryz.ntmps315,List.size_toArray,List.length_cons,List.length_nil,Nat.reduceAdd,Nat.reduceSub,Array.replicate_succ,Array.replicate_zero,List.push_toArray,List.append_toArray,List.nil_append,List.cons_append]
 gi_wp2
 have bO:=Boxed.new w 43 (.slice none 0 0)
 have hB0:bW w (w.alloc (.cells #[.slice none 0 0] 43)):=(Below.refl _ w).alloc (Nat.le_refl _) _
 refine wpIn_rangeFunc_ownG hro h1 (gf:=254) (lb:= #[.pointer (some ⟨Bs,0,none⟩)]) rfl h7 (enters_of func254 (by kernel_rfl) rfl)
   (zZb F (n-1) h7 hro (by omega) Bs w.heap.size sv zs hbytes _ (by simp;omega) (by simp) ((hB0.cell (p:=⟨Bs,0,none⟩) hBs).trans hc) (hI.below hB0)) belowK_t (belowK_b (by simp)) (Below.refl _ _) (λ_=>rfl)
   (fun(pre:List (List UInt8)) W=>(∃v,Boxed W w.heap.size 43 v/\W.ownsRow w.heap.size 9 1 v pre.length (pre.map (λx=>vS x))/\(v=v))/\bW w W)
   (λ_ _ _=>False)
   (OwnFrom.and (Own.from (holdsRow_own w.heap.size w.heap.size 43 9 1 (λpre:List (List UInt8)=>pre.length) (λpre:List (List UInt8)=>pre.map (λx=>vS x)) (λpre v=>v=v)) _) (ownFrom_below (Nat.le_refl _) (by simp)))
   (λ_ _ _ _ _ hs _ _=>hs)
   ⟨⟨_,bO,World.ownsRow_nil _ _ _ _,rfl⟩,hB0⟩
   (λx=> { tmps:= #[.slice none 0 0,.func (.func 254) #[] #[.pointer (some ⟨Bs,0,none⟩)],.pointer (some ⟨w.heap.size,0,none⟩),undef,.slice none 0 0,vS x,.func (.func 254) #[] #[.pointer (some ⟨Bs,0,none⟩)],vS x,undef,undef,undef,undef,undef],defers:=[] }) ?assign ?body ?done ?stop
 case assign=>
   intro l x W K hK
   gi_wp2
   exact hK
 case body=>
   rintro l pre x W ⟨⟨v,hv,hrow,-⟩,hB⟩ hlt
   have hc:=hv.cell
   gi_wp2_with (gi_at_builtin;refine wpListIn_append_own _ rfl _ _ 43 rfl w.heap.size 9 i0 (vS []) 1 16 Tryz.underlying43 hi hz0 hz1 hz2 rfl (by decide) _ _ _ rfl (hrow.alloc _) ⟨W.heap.size,0,none⟩ 1 1 [vS x] rfl rfl (cell_one_new _ _ _) (by simp[Value.oneCell']) (by omega) (by omega) (by have:=hB.size;simp;omega) ?_;intro v' w1 hown' hgrow _;obtain⟨g',cap',rfl⟩:=ownsRow_succ hown';obtain⟨hv1,hv2,hr2,hk2,hb2⟩:=hv.appended (by decide) hrow hB.size (Nat.le_refl _) hown' hgrow;have hc1:=hv1.cell;have hf1:=hv1.frozen)
   exact⟨hk2.from _,hb2,⟨_,hv2,by simpa using hr2⟩,hB.trans hb2⟩
 case done=>
   rintro D ys W hD rfl ⟨⟨v,hv,hrow,-⟩,hB⟩ hK
   have hc:=hv.cell
   gi_wp2
   refine⟨by simp,.inl ⟨_,_,rfl,run_takeDeferred hK,?_⟩⟩
   exact⟨_,Go.results_tmp rfl _ _ _,v,rfl,ownsRow_putObj hrow _ hK rfl,hB.trans (belowK_b (w:=w) (Nat.le_refl _) W D _ _ (by simp at hD;omega) hK rfl rfl)⟩
 case stop=>
   rintro D c pre W _ _ h _
   exact h.elim
end
def KV (es:List MapEntry)(kvs:List (List UInt8×Int)):Prop:=es.map (λe=>(e.key,e.val))=kvs.map λp=>(vS p.1,vI p.2)
def rD (w:World)(r:Nat)(kvs:List (List UInt8×Int)):Prop:=∃es clock,w.heap[r]? =some (.map es clock)/\KV es.toList kvs
def sz (k:List UInt8):List (List UInt8×Int)->Option Int
 | []=>none
 | (k',v)::l=>if k=k' then some v else sz k l
def H2 (k:List UInt8):List (List UInt8×Int)->Nat->Option (Nat×Int)
 | [],_=>none
 | (k',v)::l,i=>if k=k' then some (i,v)else H2 k l (i+1)
theorem yi (k:List UInt8):∀(l:List (List UInt8×Int)) (i:Nat),(H2 k l i).map (·.2)=sz k l
 | [],_=>rfl
 | (k',v)::l,i=>by
   unfold H2 sz
   split
   · rfl
   · exact yi k l (i+1)
theorem Oy (a b:List UInt8):(mkS a==mkS b)=(a==b):=by
 show((mkS a).data==(mkS b).data)=_
 simp[mkS]
theorem TP {a b:List UInt8} :(mkS a==mkS b)=decide (a=b):=by
 rw[Oy,Bool.eq_iff_iff];simp
theorem BP (k:List UInt8):∀(es:List MapEntry) (kvs:List (List UInt8×Int)) (i:Nat),KV es kvs->
   Instr.findNow .string (vS k) es i=some ((H2 k kvs i).map λp=>(p.1,vI p.2))
 | [],kvs,i,h=>by
   have:kvs=[]:=by
     unfold KV at h;simp at h;exact h
   subst this;rfl
 | e::es,[],i,h=>by unfold KV at h;simp at h
 | e::es,(k',v)::kvs,i,h=>by
   unfold KV at h
   simp only[List.map_cons,List.cons.injEq,Prod.mk.injEq]at h
   obtain⟨⟨hk,hv⟩,ht⟩:=h
   unfold Instr.findNow H2
   rw[hk]
   simp only[Instr.sameNow,TP]
   by_cases e1:k=k'
   · simp[e1,hv]
   · simp only[e1,decide_false,if_false]
     exact BP k es kvs (i+1) ht
theorem BO {P:Program}{kt:TypeId}(hk:P.underlying kt=some .string){k:List UInt8}{es:List MapEntry}{kvs:List (List UInt8×Int)}(h:KV es kvs)(w:World):
   (Instr.findKey kt (vS k) es).run P w=.ok ((H2 k kvs 0).map λp=>(p.1,vI p.2)) w:=by
 unfold Instr.findKey
 rw[Sem.run_bind,bK hk,Result.andThen_ok,BP k es kvs 0 h]
 rfl
theorem yZ {P:Program}{kt:TypeId}(hk:P.underlying kt=some .string)(b:Bool)(s:ByteArray)(w:World):(Instr.checkKey b 10000 kt (.string s)).run P w=.ok () w:=by
 show(Instr.checkKey b (9999+1) kt (.string s)).run P w=_
 unfold Instr.checkKey
 rw[Sem.run_bind,bK hk,Result.andThen_ok]
 rfl
theorem ET {P:Program}{w:World}{r:Nat}{es:Array MapEntry}{c:Nat}(h:w.heap[r]? =some (.map es c)):(getObj r).run P w=.ok (.map es c) w:=by
 simp only[getObj,Sem.run,h]
theorem Ot {P:Program}{mt kt et:TypeId}{z:Value}(hm:P.underlying mt=some (.map kt et))(hk:P.underlying kt=some .string)(he:TF P et 1 8 (vI 0)){w:World}{r:Nat}{kvs:List (List UInt8×Int)}(h:rD w r kvs)(k:List UInt8):
   (Instr.lookup mt (.map (some r)) (vS k) true).run P w=.ok (.tuple #[vI ((sz k kvs).getD 0),.bool (sz k kvs).isSome]) w:=by
 obtain⟨es,c,hh,hkv⟩:=h
 obtain⟨i,hi,_,_,hz⟩:=he.info
 unfold Instr.lookup
 simp only[Sem.run_bind,bK hm,Result.andThen_ok,ET hh,Sem.run_pure,yZ hk,BO hk hkv]
 rw[<- yi k kvs 0]
 cases H2 k kvs 0 with
 | none=>simp[zeroValue,jj hi,hz]
 | some p=>simp
theorem rD.below {w w':World}{r:Nat}{kvs:List (List UInt8×Int)}(h:rD w r kvs)(hb:bW w w'):rD w' r kvs:=by
 obtain⟨es,c,hh,hkv⟩:=h
 exact⟨es,c,(hb.block r (Array.getElem?_eq_some_iff.1 hh).1).trans hh,hkv⟩
theorem rD.keep {w w':World}{r:Nat}{kvs:List (List UInt8×Int)}(h:rD w r kvs)(hb:w'.heap[r]? =w.heap[r]?):rD w' r kvs:=by
 obtain⟨es,c,hh,hkv⟩:=h
 exact⟨es,c,hb.trans hh,hkv⟩
theorem rD.new {w w':World}{r:Nat}(hr:r=w.heap.size)(hw:w'=w.alloc (.map #[] 0)):rD w' r []:=by
 subst hr hw
 exact⟨#[],0,heap_alloc_new w _,rfl⟩
theorem F2 {P:Program}{mt kt et:TypeId}(hm:P.underlying mt=some (.map kt et))(hk:P.underlying kt=some .string){w:World}{r:Nat}{kvs:List (List UInt8×Int)}(h:rD w r kvs){k:List UInt8}(hno:sz k kvs=none)(v:Int):
   ∃w',(Instr.mapUpdate mt (.map (some r)) (vS k) (vI v)).run P w=.ok () w'/\rD w' r (kvs++[(k,v)])/\w.grownBy w' (some r):=by
 obtain⟨es,c,hh,hkv⟩:=h
 have hlt:r<w.heap.size:=(Array.getElem?_eq_some_iff.1 hh).1
 have hnone:H2 k kvs 0=none:=by
   have:=yi k kvs 0
   rw[hno]at this
   simpa using this
 refine⟨{ w with heap:=w.heap.setIfInBounds r (.map (es.push { key:=vS k,val:=vI v,born:=c }) (c+1)) },?_,⟨es.push { key:=vS k,val:=vI v,born:=c },c+1,by simp[hlt],?_⟩,⟨rfl,rfl,rfl,by simp,λj hj hne=>?_⟩⟩
 · unfold Instr.mapUpdate
   simp only[Sem.run_bind,bK hm,Result.andThen_ok,ET hh,yZ hk,BO hk hkv,hnone,Option.map_none]
   simp only[setObj,Sem.run,hh]
 · unfold KV at hkv ⊢
   simp only[Array.toList_push,List.map_append,List.map_cons,List.map_nil,hkv]
 · have:r≠j:=λe=>hne (by rw[e])
   simp[Array.getElem?_setIfInBounds_ne this]
end Go.Pk
namespace Go.Proofs
open Go.Pk (Cf vS vI bW)
open Go.Shelf
def Tryz.sortS_ren:Go.Shelf.Ren:=⟨fun|6=>253|8=>317|9=>316|19=>353|20=>354|21=>344|22=>345|23=>346|24=>347|25=>348|26=>349|27=>350|28=>351|29=>352|36=>373|31=>374|32=>375|37=>376|38=>377|39=>378|41=>388|n=>n,fun|27=>43|29=>9|3=>3|32=>323|26=>43|0=>0|44=>380|46=>325|4=>4|36=>374|35=>373|41=>208|5=>5|9=>9|53=>400|57=>404|63=>411|64=>276|n=>n,fun|n=>n⟩
theorem Tryz.sortS:Go.Proofs.SlLaysM.n6 prog Tryz.sortS_ren:= {
 mixed:=by kernel_rfl
 f6:=⟨Tryz.f253.name,by decide,func253.trans (congrArg some (by kernel_rfl))⟩
 f8:=func317.trans (congrArg some (by kernel_rfl))
 f9:=⟨Tryz.f316.name,by decide,func316.trans (congrArg some (by kernel_rfl))⟩
 f19:=func353.trans (congrArg some (by kernel_rfl))
 f20:=func354.trans (congrArg some (by kernel_rfl))
 f21:=⟨Tryz.f344.name,by decide,func344.trans (congrArg some (by kernel_rfl))⟩
 f22:=⟨Tryz.f345.name,by decide,func345.trans (congrArg some (by kernel_rfl))⟩
 f23:=⟨Tryz.f346.name,by decide,func346.trans (congrArg some (by kernel_rfl))⟩
 f24:=⟨Tryz.f347.name,by decide,func347.trans (congrArg some (by kernel_rfl))⟩
 f25:=⟨Tryz.f348.name,by decide,func348.trans (congrArg some (by kernel_rfl))⟩
 f26:=⟨Tryz.f349.name,by decide,func349.trans (congrArg some (by kernel_rfl))⟩
 f27:=⟨Tryz.f350.name,by decide,func350.trans (congrArg some (by kernel_rfl))⟩
 f28:=⟨Tryz.f351.name,by decide,func351.trans (congrArg some (by kernel_rfl))⟩
 f29:=⟨Tryz.f352.name,by decide,func352.trans (congrArg some (by kernel_rfl))⟩
 f31:=func374.trans (congrArg some (by kernel_rfl))
 f32:=func375.trans (congrArg some (by kernel_rfl))
 f36:=⟨Tryz.f373.name,by decide,func373.trans (congrArg some (by kernel_rfl))⟩
 f37:=⟨Tryz.f376.name,by decide,func376.trans (congrArg some (by kernel_rfl))⟩
 f38:=⟨Tryz.f377.name,by decide,func377.trans (congrArg some (by kernel_rfl))⟩
 f39:=⟨Tryz.f378.name,by decide,func378.trans (congrArg some (by kernel_rfl))⟩
 f41:=⟨Tryz.f388.name,by decide,func388.trans (congrArg some (by kernel_rfl))⟩
 t0:=Tryz.underlying0
 a0:=Tryz.isAgg0
 z0:=Tryz.sizeOf0
 v0:=Tryz.zeroValue0
 t3:=Tryz.underlying3
 a3:=Tryz.isAgg3
 z3:=Tryz.sizeOf3
 v3:=Tryz.zeroValue3
 t4:=Tryz.underlying4
 a4:=Tryz.isAgg4
 z4:=Tryz.sizeOf4
 v4:=Tryz.zeroValue4
 t5:=Tryz.underlying5
 a5:=Tryz.isAgg5
 z5:=Tryz.sizeOf5
 v5:=Tryz.zeroValue5
 t9:=Tryz.underlying9
 a9:=Tryz.isAgg9
 z9:=Tryz.sizeOf9
 v9:=Tryz.zeroValue9
 t26:=Tryz.underlying43
 a26:=Tryz.isAgg43
 z26:=Tryz.sizeOf43
 v26:=Tryz.zeroValue43
 t27:=Tryz.underlying43
 a27:=Tryz.isAgg43
 z27:=Tryz.sizeOf43
 v27:=Tryz.zeroValue43
 t29:=Tryz.underlying9
 a29:=Tryz.isAgg9
 z29:=Tryz.sizeOf9
 v29:=Tryz.zeroValue9
 t32:=Tryz.underlying323
 a32:=Tryz.isAgg323
 z32:=Tryz.sizeOf323
 v32:=Tryz.zeroValue323
 t35:=Tryz.underlying373
 a35:=Tryz.isAgg373
 z35:=Tryz.sizeOf373
 v35:=Tryz.zeroValue373
 t36:=Tryz.underlying374
 a36:=Tryz.isAgg374
 z36:=Tryz.sizeOf374
 v36:=Tryz.zeroValue374
 t41:=Tryz.underlying208
 a41:=Tryz.isAgg208
 z41:=Tryz.sizeOf208
 v41:=Tryz.zeroValue208
 t44:=Tryz.underlying380
 a44:=Tryz.isAgg380
 z44:=Tryz.sizeOf380
 v44:=Tryz.zeroValue380
 t46:=Tryz.underlying325
 a46:=Tryz.isAgg325
 z46:=Tryz.sizeOf325
 v46:=Tryz.zeroValue325
 t53:=Tryz.underlying400
 a53:=Tryz.isAgg400
 z53:=Tryz.sizeOf400
 v53:=Tryz.zeroValue400
 t57:=Tryz.underlying404
 a57:=Tryz.isAgg404
 z57:=Tryz.sizeOf404
 v57:=Tryz.zeroValue404
 t63:=Tryz.underlying411
 a63:=Tryz.isAgg411
 z63:=Tryz.sizeOf411
 v63:=Tryz.zeroValue411
 t64:=Tryz.underlying276
 a64:=Tryz.isAgg276
 z64:=Tryz.sizeOf276
 v64:=Tryz.zeroValue276 }
end Go.Proofs
namespace Go.Pk
open Go.RowKit (Below)
open Go.Proofs
open Go.Sort (Holds putRow grow putCells mapBlock)
end Go.Pk
