/- What the laws lean on: V3, V1, Arr, H, Env, Split, DateP, DateQ, OctA; what is used. Its conditions: none. -/
import Derived.Test.YtpafoodmpjlkhaaGreatDoorKB
import Derived.Lib.ItoaMem
import Derived.Lib.SplitLaws
import Derived.Lib.IndexMore
import Init
set_option linter.unusedVariables false
set_option linter.unusedSimpArgs false
set_option linter.unusedSectionVars false
set_option maxRecDepth 100000
open Go.IntKind (i64)
open Go.Proofs.Tryz
open List (length)
open Option (isSome)
namespace Go.Pk
open Go.RowKit (Below)
open Go.Proofs
abbrev Ld (t:TypeId)(p:Option Addr)(w:World)(v:Value):Prop:=(Instr.loadAt t (.pointer p)).run prog w=.ok v w
abbrev Sv (t:TypeId)(p:Option Addr)(v:Value)(w x:World):Prop:=(Instr.storeAt t (.pointer p) v).run prog w=.ok () x
abbrev hV (a b c d:List UInt8)(e:Bool)(f:Int)(g:Bool)(h:Int)(i j:Bool)(k:Int):Value:=.agg #[.string (mkS a),.string (mkS b),.string (mkS c),.string (mkS d),.bool e,.int .i64 f,.bool g,.int .i64 h,.bool i,.bool j,.int .i64 k]
abbrev lU:=List UInt8
abbrev VP:=Value->World->Prop
abbrev vS (s:lU):Value:=.string (mkS s)
abbrev vI (n:Int):Value:=.int .i64 n
abbrev vA (k i:Nat):Option Addr:=some ⟨k,i,none⟩
abbrev Rv (t:TypeId)(p:Option Addr)(w:World)(v:Value):Prop:=(aZ t (.pointer p)).run prog w=.ok v w
abbrev Cf (f:FuncId)(a:Array Value)(w:World)(R:Ending->World->Prop):Prop:=Calls prog f a w R
abbrev uS (f:FuncId)(a:Array Value)(w:World)(R:lU->World->Prop):Prop:=Calls prog f a w λe x=>∃s,e=.returned (.string (mkS s))/\R s x
abbrev uB (f:FuncId)(a:Array Value)(w:World)(R:Bool->World->Prop):Prop:=Calls prog f a w λe x=>∃s,e=.returned (.bool s)/\R s x
abbrev uI (f:FuncId)(a:Array Value)(w:World)(R:Int->World->Prop):Prop:=Calls prog f a w λe x=>∃s,e=.returned (.int .i64 s)/\R s x
abbrev uP (f:FuncId)(a:Array Value)(w:World)(R:Option Addr->World->Prop):Prop:=Calls prog f a w λe x=>∃s,e=.returned (.pointer s)/\R s x
abbrev uV (f:FuncId)(a:Array Value)(w:World)(R:Value->World->Prop):Prop:=Calls prog f a w λe x=>∃s,e=.returned s/\R s x
abbrev uL (f:FuncId)(a:Array Value)(w:World)(R:Option Addr->Nat->Nat->World->Prop):Prop:=Calls prog f a w λe x=>∃s n c,e=.returned (.slice s n c)/\R s n c x
abbrev uU (f:FuncId)(a:Array Value)(w:World)(R:World->Prop):Prop:=Calls prog f a w λe x=>e=.returned (.tuple #[])/\R x
abbrev rT (a:Array Value):Ending:=.returned (.tuple a)
abbrev bd (i n:Int):Prop:=0 <=i/\i <=n
abbrev bx (i n:Int):Prop:=0 <=i/\i<n
abbrev bW (w x:World):Prop:=Below w.heap.size w x
abbrev nA (w:World)(o:Obj)(R:Nat->World->Prop):Prop:=∀k x,k=w.heap.size->x=w.alloc o->R k x
theorem ru {f:FuncId}{fn:Func}{a:List Value}{w:World}{K:VP}{V:Prop}(hf:prog.funcs[f]? =some fn)(n:Ann)(h:V)(hm:prog.follows .mixedOrders=true:=by kernel_rfl)(hb:fn.body=some (aw fn):=by kernel_rfl)(hn:decide (a.length <=fn.ntmps)=true:=by kernel_rfl)(he:W prog fn.ntmps n 0 (aw fn) (WB prog fn K) (zt 0 a) w=V:=by kernel_rfl):Calls prog f a.toArray w (Ret K):=ao hm hf hb n a (of_decide_eq_true hn) V he h
theorem wQ (a:Value){w K}(h:nA w (.cells (Value.cells a) ah) λb c=>∃d,Ld ah (vA b 0) c d/\uS kD #[d] c λe f=>Cf mi #[vS e] f λg i=>∃j k,g=rT #[j,vI k]/\nA i (.cells br ah) λl m=>∃n,Sv ah (vA l 0) j m n/\ae (k==(0:Int)) (∃o,Ld ah (vA l 0) n o/\∃p,Ld ah (vA b 0) n p/\∃q,(do eqGuard .eql ah (.tmp 14) (.tmp 15) o p;binOp .eql ah o p:Sem Value).run prog n=.ok (.bool q) n/\K (.bool q) n) (K (.bool false) n)):Cf eQ #[a] w (Ret K):=ru func24 [] h
theorem wR (a b:Value){w K}(h:nA w (.cells (Value.cells a) ah) λc d=>nA d (.cells (Value.cells b) ah) λe f=>∃g:FP [],(∃i,Ld ah (vA c 0) f i/\uL gm #[i] f λj k l m=>ae (((k:Nat):Int)==(0:Int)) (K (.bool false) m) (∃n,Ld ah (vA e 0) m n/\uL gm #[n] m λo p q r=>ae (((p:Nat):Int)==(0:Int)) (K (.bool false) r) (g r)))/\aE 11 (∀i,g i->true/\∃j,Ld aq (vA e 1) i (vS j)/\(((List.length [46]+List.length j:Nat):Int) <=i64.max)/\∀k,k=([46]++j)->true/\∃l,Ld aq (vA c 1) i (vS l)/\ae (decide (((List.length l:Nat):Int)>((List.length k:Nat):Int))) (true/\∃m,Ld aq (vA c 1) i (vS m)/\true/\∃n,Ld aq (vA c 1) i (vS n)/\bd (i64.wrap (((List.length n:Nat):Int)-((List.length k:Nat):Int))) (((List.length m):Nat):Int)/\∀o,o=(List.drop (Int.toNat (i64.wrap (((List.length n:Nat):Int)-((List.length k:Nat):Int)))) m)->K (.bool (o==k)) i) (K (.bool false) i))):Cf mj #[a,b] w (Ret K):=ru func26 [(2,[])] h
theorem yC (a:Value){w K}(h:nA w (.cells (Value.cells a) ah) λb c=>true/\∃d,Ld ay (vA b 0) c (vI d)/\ae (d==(1:Int)) (true/\∃e,Ld aq (vA b 1) c (vS e)/\K (vS e) c) (true/\∃e,Ld ay (vA b 0) c (vI e)/\ae (e==(2:Int)) (true/\∃f,Ld aj (vA b 2) c f/\uS me #[f] c λg i=>K (vS g) i) (true/\∃f,Ld ay (vA b 0) c (vI f)/\ae (f==(3:Int)) (true/\∃g,Ld aj (vA b 2) c g/\uS mf #[g] c λi j=>(((List.length [91]+List.length i:Nat):Int) <=i64.max)/\∀k,k=([91]++i)->(((List.length k+List.length [93]:Nat):Int) <=i64.max)/\∀l,l=(k++[93])->K (vS l) j) (K (vS []) c)))):Cf kD #[a] w (Ret K):=ru func44 [] h
theorem uw (a:Value){w K}(h:nA w (.cells (Value.cells a) ah) λb c=>∃d:FP [],(true/\∃e,Ld ay (vA b 0) c (vI e)/\ae (e !=(1:Int)) (K (.slice none 0 0) c) (∃f,Ld ah (vA b 0) c f/\uB eQ #[f] c λg i=>ae (!g) (K (.slice none 0 0) i) (d i)))/\aE 9 (∀e,d e->true/\∃f,Ld aq (vA b 1) e (vS f)/\uL fO #[vS f,.int .u8 46] e λg i j k=>K (.slice g i j) k)):Cf gm #[a] w (Ret K):=ru func60 [(2,[])] h
theorem wP (a:lU){w K}(h:nA w (.cells br ah) λb c=>∃d:FP [],(∃e:FP [.one .bool],(ae (decide (((List.length a:Nat):Int)>(0:Int))) (bx (0:Int) ((List.length a:Nat):Int)/\e ((aX a (0:Int))==(91:Int)) c) (e false c))/\∀f,aE 7 (∀g,e f g->ae f (bx (i64.wrap (((List.length a:Nat):Int)-(1:Int))) ((List.length a:Nat):Int)/\ae ((aX a (i64.wrap (((List.length a:Nat):Int)-(1:Int)))) !=(93:Int)) (∃i,Sv ah (vA b 0) (.agg br) g i/\∃j,Rv ah (vA b 0) i j/\K (.tuple #[j,vI 31]) i) ((bd (i64.wrap (((List.length a:Nat):Int)-(1:Int))) (((List.length a):Nat):Int)/\0 <=(1:Int)/\(1:Int) <=((Int.toNat (i64.wrap (((List.length a:Nat):Int)-(1:Int))):Nat):Int))/\∀i,i=(List.drop (Int.toNat 1) (List.take (Int.toNat (i64.wrap (((List.length a:Nat):Int)-(1:Int)))) a))->Cf sB #[vS i] g λj k=>∃l m,j=rT #[l,.bool m]/\nA k (.cells aS aj) λn o=>∃p,Sv aj (vA n 0) l o p/\ae (!m) (∃q,Sv ah (vA b 0) (.agg br) p q/\∃r,Rv ah (vA b 0) q r/\K (.tuple #[r,vI 31]) q) (∃q,Ld aj (vA n 0) p q/\∃r,(Instr.build ah #[(0,vI 3),(2,q)]).run prog p=.ok r p/\∃s,Sv ah (vA b 0) r p s/\∃t,Rv ah (vA b 0) s t/\K (.tuple #[t,vI 0]) s))) (d g)))/\aE 32 (∀e,d e->uS mc #[vS a] e λf g=>uL fO #[vS f,.int .u8 46] g λi j k l=>(bx (i64.wrap (((j:Nat):Int)-(1:Int))) ((j:Nat):Int)/\Option.isSome i=true)/\∃m,Ld aq (am i (i64.wrap (((j:Nat):Int)-(1:Int))) 1) l (vS m)/\uB iR #[vS m] l λn o=>ae n (Cf sA #[vS a] o λp q=>∃r s,p=rT #[r,.bool s]/\nA q (.cells aS aj) λt u=>∃v,Sv aj (vA t 0) r u v/\ae (!s) (∃x,Sv ah (vA b 0) (.agg br) v x/\∃y,Rv ah (vA b 0) x y/\K (.tuple #[y,vI 31]) x) (∃x,Ld aj (vA t 0) v x/\∃y,(Instr.build ah #[(0,vI 2),(2,x)]).run prog v=.ok y v/\∃z,Sv ah (vA b 0) y v z/\∃A,Rv ah (vA b 0) z A/\K (.tuple #[A,vI 0]) z)) (∃p:Nat->FP [.one (.int .i64)],(∃q,p q (0:Int) o)/\∀q r,aE 10 (∀s,p q r s->ae (decide (r<((j:Nat):Int))) ((bx r ((j:Nat):Int)/\Option.isSome i=true)/\∃t,Ld aq (am i r 1) s (vS t)/\uB ml #[vS t] s λu v=>ae (!u) (∃x,Sv ah (vA b 0) (.agg br) v x/\∃y,Rv ah (vA b 0) x y/\K (.tuple #[y,vI 31]) x) (∃x:Nat,x<q/\p x (i64.wrap (r+(1:Int))) v)) (ae (decide (((List.length a:Nat):Int)>(253:Int))) (∃t,Sv ah (vA b 0) (.agg br) s t/\∃u,Rv ah (vA b 0) t u/\K (.tuple #[u,vI 31]) t) (∃t,Sv ah (vA b 0) (.agg #[vI 1,vS f,.int .u8 0,.int .u8 0,.int .u8 0,.int .u8 0,.int .u8 0,.int .u8 0,.int .u8 0,.int .u8 0,.int .u8 0,.int .u8 0,.int .u8 0,.int .u8 0,.int .u8 0,.int .u8 0,.int .u8 0,.int .u8 0]) s t/\∃u,Rv ah (vA b 0) t u/\K (.tuple #[u,vI 0]) t)))))):Cf mi #[vS a] w (Ret K):=ru func61 [(2,[]),(3,[(19,.one .bool)]),(54,[(64,.one (.int .i64))])] h
theorem yw (a:lU){w K}(h:nA w (.cells br ah) λb c=>Cf jU #[vS a,vS [91]] c λd e=>∃f g,d=rT #[vS f,.bool g]/\ae g (Cf qu #[vS f,vS [93]] e λi j=>∃k l,i=rT #[vS k,.bool l]/\Cf vw #[vS k] j λm n=>∃o p,m=rT #[o,.bool p]/\nA n (.cells aS aj) λq r=>∃s,Sv aj (vA q 0) o r s/\∃t,Ld aj (vA q 0) s t/\ae p (Cf gi #[vI 3,t,.bool l] s λu v=>∃x y,u=rT #[x,vI y]/\∃z,Sv ah (vA b 0) x v z/\∃A,Rv ah (vA b 0) z A/\K (.tuple #[A,vI y]) z) (Cf gi #[vI 3,t,.bool false] s λu v=>∃x y,u=rT #[x,vI y]/\∃z,Sv ah (vA b 0) x v z/\∃A,Rv ah (vA b 0) z A/\K (.tuple #[A,vI y]) z)) (uS ju #[vS a] e λi j=>uL fN #[vS i,.int .u8 46] j λk l m n=>(bx (i64.wrap (((l:Nat):Int)-(1:Int))) ((l:Nat):Int)/\Option.isSome k=true)/\∃o,Ld aq (am k (i64.wrap (((l:Nat):Int)-(1:Int))) 1) n (vS o)/\uB gk #[vS o] n λp q=>ae p (Cf vv #[vS a] q λr s=>∃t u,r=rT #[t,.bool u]/\nA s (.cells aS aj) λv x=>∃y,Sv aj (vA v 0) t x y/\∃z,Ld aj (vA v 0) y z/\Cf gi #[vI 2,z,.bool u] y λA B=>∃C D,A=rT #[C,vI D]/\∃E,Sv ah (vA b 0) C B E/\∃F,Rv ah (vA b 0) E F/\K (.tuple #[F,vI D]) E) (∃r:FP [],(∃s:FP [.one .bool],(ae (decide (((List.length a:Nat):Int)>(253:Int))) (s true q) (uB aU #[.slice k l m,.func (.func bY) #[] #[]] q λt u=>s t u))/\∀t,aE 6 (∀u,s t u->ae t (∃v,Sv ah (vA b 0) (.agg br) u v/\∃x,Rv ah (vA b 0) v x/\K (.tuple #[x,vI 31]) v) (r u)))/\aE 9 (∀s,r s->uS iT #[.slice k l m,vS [46]] s λt u=>∃v,Sv ah (vA b 0) (.agg #[vI 1,vS t,.int .u8 0,.int .u8 0,.int .u8 0,.int .u8 0,.int .u8 0,.int .u8 0,.int .u8 0,.int .u8 0,.int .u8 0,.int .u8 0,.int .u8 0,.int .u8 0,.int .u8 0,.int .u8 0,.int .u8 0,.int .u8 0]) u v/\∃x,Rv ah (vA b 0) v x/\K (.tuple #[x,vI 0]) v)))):Cf iZ #[vS a] w (Ret K):=ru func65 [(28,[]),(29,[(63,.one .bool)])] h
theorem yx (a:Value){w K}(h:nA w (.cells (Value.cells a) ah) λb c=>∃d,Ld ah (vA b 0) c d/\uS lX #[d] c λe f=>Cf iZ #[vS e] f λg i=>∃j k,g=rT #[j,vI k]/\nA i (.cells br ah) λl m=>∃n,Sv ah (vA l 0) j m n/\ae (k==(0:Int)) (∃o,Ld ah (vA l 0) n o/\∃p,Ld ah (vA b 0) n p/\∃q,(do eqGuard .eql ah (.tmp 14) (.tmp 15) o p;binOp .eql ah o p:Sem Value).run prog n=.ok (.bool q) n/\K (.bool q) n) (K (.bool false) n)):Cf kA #[a] w (Ret K):=ru func67 [] h
theorem ww (a:Value){w K}(h:nA w (.cells (Value.cells a) ah) λb c=>∃d:FP [],(true/\∃e,Ld ay (vA b 0) c (vI e)/\ae (e !=(1:Int)) (K (.slice none 0 0) c) (∃f,Ld ah (vA b 0) c f/\uB kA #[f] c λg i=>ae (!g) (K (.slice none 0 0) i) (d i)))/\aE 9 (∀e,d e->true/\∃f,Ld aq (vA b 1) e (vS f)/\uL fN #[vS f,.int .u8 46] e λg i j k=>K (.slice g i j) k)):Cf lW #[a] w (Ret K):=ru func68 [(2,[])] h
theorem AU (a:Value){w K}(h:nA w (.cells (Value.cells a) ah) λb c=>true/\∃d,Ld ay (vA b 0) c (vI d)/\ae (d==(1:Int)) (true/\∃e,Ld aq (vA b 1) c (vS e)/\K (vS e) c) (ae (d==(2:Int)) (true/\∃e,Ld aj (vA b 2) c e/\uS nm #[e] c λf g=>K (vS f) g) (ae (d==(3:Int)) (true/\∃e,Ld aj (vA b 2) c e/\uS np #[e] c λf g=>(((List.length [91]+List.length f:Nat):Int) <=i64.max)/\∀i,i=([91]++f)->(((List.length i+List.length [93]:Nat):Int) <=i64.max)/\∀j,j=(i++[93])->K (vS j) g) (K (vS []) c)))):Cf lX #[a] w (Ret K):=ru func69 [] h
theorem wL (a:Value){w K}(h:nA w (.cells (Value.cells a) aj) λb c=>(bx (12:Int) ((16:Nat):Int)/\true)/\∃d,(∀e,bW c e->Ld aF (am (vA b 0) (12:Int) 1) e (.int .u8 d))/\∃e,(∀f,bW c f->Cf bM #[vI (i64.wrap d)] f λg i=>g=.returned (vS e)/\Below c.heap.size f i)/\(((List.length e+List.length [46]:Nat):Int) <=i64.max)/\∀f,f=(e++[46])->(bx (13:Int) ((16:Nat):Int)/\true)/\∃g,(∀i,bW c i->Ld aF (am (vA b 0) (13:Int) 1) i (.int .u8 g))/\∃i,(∀j,bW c j->Cf bM #[vI (i64.wrap g)] j λk l=>k=.returned (vS i)/\Below c.heap.size j l)/\(((List.length f+List.length i:Nat):Int) <=i64.max)/\∀j,j=(f++i)->(((List.length j+List.length [46]:Nat):Int) <=i64.max)/\∀k,k=(j++[46])->(bx (14:Int) ((16:Nat):Int)/\true)/\∃l,(∀m,bW c m->Ld aF (am (vA b 0) (14:Int) 1) m (.int .u8 l))/\∃m,(∀n,bW c n->Cf bM #[vI (i64.wrap l)] n λo p=>o=.returned (vS m)/\Below c.heap.size n p)/\(((List.length k+List.length m:Nat):Int) <=i64.max)/\∀n,n=(k++m)->(((List.length n+List.length [46]:Nat):Int) <=i64.max)/\∀o,o=(n++[46])->(bx (15:Int) ((16:Nat):Int)/\true)/\∃p,(∀q,bW c q->Ld aF (am (vA b 0) (15:Int) 1) q (.int .u8 p))/\∃q,(∀r,bW c r->Cf bM #[vI (i64.wrap p)] r λs t=>s=.returned (vS q)/\Below c.heap.size r t)/\(((List.length o+List.length q:Nat):Int) <=i64.max)/\∀r,r=(o++q)->∀s,bW c s->K (vS r) s):Cf me #[a] w (Ret K):=ru func92 [] h
theorem wM (a:Value){w K}(h:nA w (.cells (Value.cells a) aj) λb c=>∃d:Nat->FP [.one (.int .i64)],(∃e,d e (8:Int) c)/\∀e f,aE 40 (∀g,d e f g->ae (decide (f >=(2:Int))) (∃i:Nat->FP [.one (.int .i64)],(∃j,i j (0:Int) g)/\∀j k,aE 35 (∀l,i j k l->ae (decide ((i64.wrap (k+f)) <=(8:Int))) (∃m:Nat->FP [.one .bool,.one (.int .i64)],(∃n,m n true k l)/\∀n o p,aE 14 (∀q,m n o p q->ae (decide (p<(i64.wrap (k+f)))) (ae o (∃r,Ld aj (vA b 0) q r/\uI jv #[r,vI p] q λs t=>∃u:Nat,u<n/\m u (s==(0:Int)) (i64.wrap (p+(1:Int))) t) (∃r:Nat,r<n/\m r false (i64.wrap (p+(1:Int))) q)) (ae o (∃r,(∀s,bW q s->Ld aj (vA b 0) s r)/\∃s,(∀t,bW q t->Cf fE #[r,vI 0,vI k] t λu v=>u=.returned (vS s)/\Below q.heap.size t v)/\(((List.length s+List.length [58,58]:Nat):Int) <=i64.max)/\∀t,t=(s++[58,58])->∃u,(∀v,bW q v->Ld aj (vA b 0) v u)/\∃v,(∀x,bW q x->Cf fE #[u,vI (i64.wrap (k+f)),vI 8] x λy z=>y=.returned (vS v)/\Below q.heap.size x z)/\(((List.length t+List.length v:Nat):Int) <=i64.max)/\∀x,x=(t++v)->∀y,bW q y->K (vS x) y) (∃r:Nat,r<j/\i r (i64.wrap (k+(1:Int))) q)))) (∃m:Nat,m<e/\d m (i64.wrap (f-(1:Int))) l))) (∃i,Ld aj (vA b 0) g i/\uS fE #[i,vI 0,vI 8] g λj k=>K (vS j) k))):Cf mf #[a] w (Ret K):=ru func93 [(6,[(3,.one (.int .i64))]),(18,[(4,.one (.int .i64))]),(33,[(5,.one .bool),(6,.one (.int .i64))])] h
theorem Cw (a:lU){w K}(h:nA w (.cells aS aj) λb c=>Cf jw #[vS a] c λd e=>∃f g,d=rT #[f,.bool g]/\nA e (.cells aS aj) λi j=>∃k,Sv aj (vA i 0) f j k/\ae g (∃l,Ld aj (vA i 0) k l/\∃m,Sv aj (vA b 0) l k m/\∃n,Rv aj (vA b 0) m n/\K (.tuple #[n,.bool true]) m) (∃l:Nat->FP [.one (.int .i64)],(∃m,l m (0:Int) k)/\∀m n,aE 57 (∀o,l m n o->ae (decide ((i64.wrap (n+(2:Int))) <=((List.length a:Nat):Int))) (∃p:FP [],(bx n ((List.length a:Nat):Int)/\ae ((aX a n) !=(58:Int)) (∃q:Nat,q<m/\l q (i64.wrap (n+(1:Int))) o) (bx (i64.wrap (n+(1:Int))) ((List.length a:Nat):Int)/\ae ((aX a (i64.wrap (n+(1:Int)))) !=(58:Int)) (∃q:Nat,q<m/\l q (i64.wrap (n+(1:Int))) o) (p o)))/\aE 11 (∀q,p q->bd n (((List.length a):Nat):Int)/\∀r,r=(List.take (Int.toNat n) a)->bd (i64.wrap (n+(2:Int))) (((List.length a):Nat):Int)/\∀s,s=(List.drop (Int.toNat (i64.wrap (n+(2:Int)))) a)->∃t:FP [.one .str],(ae (!(r==[])) ((((List.length r+List.length [58]:Nat):Int) <=i64.max)/\∀u,u=(r++[58])->t u q) (t r q))/\∀u,aE 4 (∀v,t u v->∃x:FP [.one .str],(ae (!(s==[])) ((((List.length [58]+List.length s:Nat):Int) <=i64.max)/\∀y,y=([58]++s)->x y v) (x s v))/\∀y,aE 4 (∀z,x y z->∃A:Nat->FP [.one .str,.one (.int .i64)],(∃B,A B [48] (0:Int) z)/\∀B C D,aE 20 (∀E,A B C D E->ae (decide (D<(8:Int))) ((((List.length u+List.length C:Nat):Int) <=i64.max)/\∀F,F=(u++C)->(((List.length F+List.length y:Nat):Int) <=i64.max)/\∀G,G=(F++y)->Cf jw #[vS G] E λH I=>∃J L,H=rT #[J,.bool L]/\nA I (.cells aS aj) λM N=>∃O,Sv aj (vA M 0) J N O/\ae L (∃P,Ld aj (vA M 0) O P/\∃Q,Sv aj (vA b 0) P O Q/\∃R,Rv aj (vA b 0) Q R/\K (.tuple #[R,.bool true]) Q) ((((List.length C+List.length [58,48]:Nat):Int) <=i64.max)/\∀P,P=(C++[58,48])->∃Q:Nat,Q<B/\A Q P (i64.wrap (D+(1:Int))) O)) (∃F:Nat,F<m/\l F (i64.wrap (n+(1:Int))) E)))))) (∃p,Sv aj (vA b 0) (.agg aS) o p/\∃q,Rv aj (vA b 0) p q/\K (.tuple #[q,.bool false]) p)))):Cf sB #[vS a] w (Ret K):=ru func109 [(16,[(6,.one (.int .i64))]),(25,[]),(35,[(7,.one .str)]),(41,[(8,.one .str)]),(52,[(9,.one .str),(10,.one (.int .i64))])] h
theorem Cv (a:lU){w K}(h:nA w (.cells aS aj) λb c=>nA c (.cells aS aj) λd e=>∃f,Sv aj (vA d 0) (.agg aS) e f/\uL fO #[vS a,.int .u8 46] f λg i j k=>ae (((i:Nat):Int) !=(4:Int)) (∃l,Sv aj (vA b 0) (.agg aS) k l/\∃m,Rv aj (vA b 0) l m/\K (.tuple #[m,.bool false]) l) (∃l:Nat->FP [.one (.int .i64)],(∃m,l m (0:Int) k)/\∀m n,aE 27 (∀o,l m n o->ae (decide (n<(4:Int))) ((bx n ((i:Nat):Int)/\Option.isSome g=true)/\∃p,Ld aq (am g n 1) o (vS p)/\Cf kQ #[vS p] o λq r=>∃s t,q=rT #[vI s,.bool t]/\∃u:FP [],(∃v:FP [.one .bool],(ae (!t) (v true r) (v (decide (s>(255:Int))) r))/\∀x,aE 5 (∀y,v x y->ae x (∃z,Sv aj (vA b 0) (.agg aS) y z/\∃A,Rv aj (vA b 0) z A/\K (.tuple #[A,.bool false]) z) (u y)))/\aE 8 (∀v,u v->(bx (i64.wrap ((12:Int)+n)) ((16:Nat):Int)/\true)/\∃x,Sv aF (am (vA d 0) (i64.wrap ((12:Int)+n)) 1) (.int .u8 (IntKind.u8.wrap s)) v x/\∃y:Nat,y<m/\l y (i64.wrap (n+(1:Int))) x)) (∃p,Ld aj (vA d 0) o p/\∃q,Sv aj (vA b 0) p o q/\∃r,Rv aj (vA b 0) q r/\K (.tuple #[r,.bool true]) q)))):Cf sA #[vS a] w (Ret K):=ru func112 [(18,[(6,.one (.int .i64))]),(29,[]),(30,[(33,.one .bool)])] h
theorem wS (a:lU){w K}(h:∃b:Nat->FP [.one (.int .i64)],(∃c,b c (0:Int) w)/\∀c d,aE 33 (∀e,b c d e->ae (decide (d<((List.length a:Nat):Int))) (bx d ((List.length a:Nat):Int)/\ae (decide ((aX a d)<(97:Int))) (ae (decide ((aX a d)<(48:Int))) (ae ((aX a d) !=(45:Int)) (ae ((aX a d) !=(95:Int)) (K (.bool false) e) (∃f:Nat,f<c/\b f (i64.wrap (d+(1:Int))) e)) (∃f:Nat,f<c/\b f (i64.wrap (d+(1:Int))) e)) (ae (decide ((aX a d)>(57:Int))) (ae ((aX a d) !=(45:Int)) (ae ((aX a d) !=(95:Int)) (K (.bool false) e) (∃f:Nat,f<c/\b f (i64.wrap (d+(1:Int))) e)) (∃f:Nat,f<c/\b f (i64.wrap (d+(1:Int))) e)) (∃f:Nat,f<c/\b f (i64.wrap (d+(1:Int))) e))) (ae (decide ((aX a d)>(122:Int))) (ae (decide ((aX a d)<(48:Int))) (ae ((aX a d) !=(45:Int)) (ae ((aX a d) !=(95:Int)) (K (.bool false) e) (∃f:Nat,f<c/\b f (i64.wrap (d+(1:Int))) e)) (∃f:Nat,f<c/\b f (i64.wrap (d+(1:Int))) e)) (ae (decide ((aX a d)>(57:Int))) (ae ((aX a d) !=(45:Int)) (ae ((aX a d) !=(95:Int)) (K (.bool false) e) (∃f:Nat,f<c/\b f (i64.wrap (d+(1:Int))) e)) (∃f:Nat,f<c/\b f (i64.wrap (d+(1:Int))) e)) (∃f:Nat,f<c/\b f (i64.wrap (d+(1:Int))) e))) (∃f:Nat,f<c/\b f (i64.wrap (d+(1:Int))) e))) (ae (decide (((List.length a:Nat):Int) >=(1:Int))) (K (.bool (decide (((List.length a:Nat):Int) <=(63:Int)))) e) (K (.bool false) e)))):Cf ml #[vS a] w (Ret K):=ru func113 [(6,[(3,.one (.int .i64))])] h
theorem Dy (a:lU){w K}(h:nA w (.cells aS aj) λb c=>Cf zZ #[vS a,vS [58,58]] c λd e=>∃f g i,d=rT #[vS f,vS g,.bool i]/\Cf oT #[vS f] e λj k=>∃l m n o,j=rT #[.slice l m n,.bool o]/\Cf oT #[vS g] k λp q=>∃r s t u,p=rT #[.slice r s t,.bool u]/\∃v:FP [],(∃x:FP [.one .bool],(ae (!o) (x true q) (ae (!u) (x true q) (ae i (ae (decide ((i64.wrap (((m:Nat):Int)+((s:Nat):Int))) >=(8:Int))) (x true q) (ae (!i) (x ((i64.wrap (((m:Nat):Int)+((s:Nat):Int))) !=(8:Int)) q) (x false q))) (ae (!i) (x ((i64.wrap (((m:Nat):Int)+((s:Nat):Int))) !=(8:Int)) q) (x false q)))))/\∀y,aE 20 (∀z,x y z->ae y (∃A,Sv aj (vA b 0) (.agg aS) z A/\∃B,Rv aj (vA b 0) A B/\K (.tuple #[B,.bool false]) A) (v z)))/\aE 23 (∀x,v x->nA x (.cells #[.int .u16 0,.int .u16 0,.int .u16 0,.int .u16 0,.int .u16 0,.int .u16 0,.int .u16 0,.int .u16 0] aG) λy z=>(True)/\∃A B,(Builtin.copy_ #[cT,cT] ay #[.slice (vA y 0) 8 8,.slice l m n]).run prog z=.ok (vI B) A/\bd (i64.wrap ((8:Int)-((s:Nat):Int))) ((8:Nat):Int)/\∃C D,(Builtin.copy_ #[cT,cT] ay #[.slice (some (if 8=(Int.toNat (i64.wrap ((8:Int)-((s:Nat):Int))))then⟨y,0,none⟩ else Addr.add ⟨y,0,none⟩ ((Int.toNat (i64.wrap ((8:Int)-((s:Nat):Int))))*1))) (8-(Int.toNat (i64.wrap ((8:Int)-((s:Nat):Int))))) (8-(Int.toNat (i64.wrap ((8:Int)-((s:Nat):Int))))),.slice r s t]).run prog A=.ok (vI D) C/\∃E F G H I J L M,Ld aG (vA y 0) C (.agg #[.int .u16 E,.int .u16 F,.int .u16 G,.int .u16 H,.int .u16 I,.int .u16 J,.int .u16 L,.int .u16 M])/\uV qt #[.agg #[.int .u16 E,.int .u16 F,.int .u16 G,.int .u16 H,.int .u16 I,.int .u16 J,.int .u16 L,.int .u16 M]] C λN O=>∃P,Sv aj (vA b 0) N O P/\∃Q,Rv aj (vA b 0) P Q/\K (.tuple #[Q,.bool true]) P)):Cf vw #[vS a] w (Ret K):=ru func118 [(10,[]),(11,[(54,.one .bool)])] h
theorem uq (a:Int)(b:Value)(c:Bool){w K}(h:nA w (.cells (Value.cells b) aj) λd e=>nA e (.cells br ah) λf g=>ae (!c) (∃i,Sv ah (vA f 0) (.agg br) g i/\∃j,Rv ah (vA f 0) i j/\K (.tuple #[j,vI 31]) i) (∃i,Ld aj (vA d 0) g i/\∃j,(Instr.build ah #[(0,vI a),(2,i)]).run prog g=.ok j g/\∃k,Sv ah (vA f 0) j g k/\∃l,Rv ah (vA f 0) k l/\K (.tuple #[l,vI 0]) k)):Cf gi #[vI a,b,.bool c] w (Ret K):=ru func119 [] h
theorem Dx (a:lU){w K}(h:nA w (.cells aS aj) λb c=>uL fN #[vS a,.int .u8 46] c λd e f g=>ae (((e:Nat):Int) !=(4:Int)) (∃i,Sv aj (vA b 0) (.agg aS) g i/\∃j,Rv aj (vA b 0) i j/\K (.tuple #[j,.bool false]) i) (nA g (.cells aS aj) λi j=>∃k:Nat->FP [.one (.int .i64)],(∃l,k l (0:Int) j)/\∀l m,aE 27 (∀n,k l m n->ae (decide (m<((e:Nat):Int))) ((bx m ((e:Nat):Int)/\Option.isSome d=true)/\∃o,Ld aq (am d m 1) n (vS o)/\Cf kP #[vS o] n λp q=>∃r s,p=rT #[vI r,.bool s]/\∃t:FP [],(∃u:FP [.one .bool],(ae (!s) (u true q) (u (decide (r>(255:Int))) q))/\∀v,aE 5 (∀x,u v x->ae v (∃y,Sv aj (vA b 0) (.agg aS) x y/\∃z,Rv aj (vA b 0) y z/\K (.tuple #[z,.bool false]) y) (t x)))/\aE 8 (∀u,t u->(bx (i64.wrap ((12:Int)+m)) ((16:Nat):Int)/\true)/\∃v,Sv aF (am (vA i 0) (i64.wrap ((12:Int)+m)) 1) (.int .u8 (IntKind.u8.wrap r)) u v/\∃x:Nat,x<l/\k x (i64.wrap (m+(1:Int))) v)) (∃o,Ld aj (vA i 0) n o/\∃p,Sv aj (vA b 0) o n p/\∃q,Rv aj (vA b 0) p q/\K (.tuple #[q,.bool true]) p)))):Cf vv #[vS a] w (Ret K):=ru func122 [(18,[(18,.one (.int .i64))]),(31,[]),(32,[(33,.one .bool)])] h
theorem sQ (a:lU){w K}(h:uB ns #[vS a] w λb c=>K (.bool (!b)) c):Cf bY #[vS a] w (Ret K):=ru func123 [] h
theorem yy (a:lU){w K}(h:ae (!(a==[])) (ae (decide (((List.length a:Nat):Int) <=(63:Int))) (∃b c d e,(convert aq aM (vS a)).run prog w=.ok (.slice c d e) b/\uB dQ #[.slice c d e,.func (.func cB) #[] #[]] b λf g=>K (.bool (!f)) g) (K (.bool false) w)) (K (.bool false) w)):Cf ns #[vS a] w (Ret K):=ru func124 [] h
theorem yq (a:Value){w K}(h:nA w (.cells (Value.cells a) aj) λb c=>bd (12:Int) ((16:Nat):Int)/\∃d:Nat->FP [.one .slice,.one (.int .i64)],(∃e,d e none 0 0 (0:Int) c)/\∀e f g i j,aE 11 (∀k,d e f g i j k->ae (decide (j<(((16-(Int.toNat 12)):Nat):Int))) ((bx j (((16-(Int.toNat 12)):Nat):Int)/\true)/\∃l,Ld aF (am (some (if 16=(Int.toNat 12)then⟨b,0,none⟩ else Addr.add ⟨b,0,none⟩ ((Int.toNat 12)*1))) j 1) k (.int .u8 l)/\uS pp #[vI (i64.wrap l)] k λm n=>nA n (.cells #[vS m] aq) λo p=>∃q r s t,(Builtin.append_ #[au,au] au #[.slice f g i,.slice (vA o 0) 1 1]).run prog p=.ok (.slice r s t) q/\∃u:Nat,u<e/\d u r s t (i64.wrap (j+(1:Int))) q) (uS iT #[.slice f g i,vS [46]] k λl m=>K (vS l) m))):Cf nm #[a] w (Ret K):=ru func128 [(8,[(3,.one .slice),(8,.one (.int .i64))])] h
theorem yr (a:Value){w K}(h:nA w (.cells (Value.cells a) aj) λb c=>∃d,Ld aj (vA b 0) c d/\Cf lS #[d] c λe f=>∃g i j k l m n o,e=.returned (.agg #[.int .u16 g,.int .u16 i,.int .u16 j,.int .u16 k,.int .u16 l,.int .u16 m,.int .u16 n,.int .u16 o])/\nA f (.cells #[.int .u16 0,.int .u16 0,.int .u16 0,.int .u16 0,.int .u16 0,.int .u16 0,.int .u16 0,.int .u16 0] aG) λp q=>∃r,Sv aG (vA p 0) (.agg #[.int .u16 g,.int .u16 i,.int .u16 j,.int .u16 k,.int .u16 l,.int .u16 m,.int .u16 n,.int .u16 o]) q r/\∃s t u v x y z A,Ld aG (vA p 0) r (.agg #[.int .u16 s,.int .u16 t,.int .u16 u,.int .u16 v,.int .u16 x,.int .u16 y,.int .u16 z,.int .u16 A])/\Cf nr #[.agg #[.int .u16 s,.int .u16 t,.int .u16 u,.int .u16 v,.int .u16 x,.int .u16 y,.int .u16 z,.int .u16 A]] r λB C=>∃D E,B=rT #[vI D,vI E]/\ae (decide (E<(2:Int))) ((True)/\uS gh #[.slice (vA p 0) 8 8] C λF G=>K (vS F) G) (bd D ((8:Nat):Int)/\∃F,(∀G,bW C G->Cf gh #[.slice (vA p 0) (Int.toNat D) 8] G λH I=>H=.returned (vS F)/\Below C.heap.size G I)/\(((List.length F+List.length [58,58]:Nat):Int) <=i64.max)/\∀G,G=(F++[58,58])->bd (i64.wrap (D+E)) ((8:Nat):Int)/\∃H,(∀I,bW C I->Cf gh #[.slice (some (if 8=(Int.toNat (i64.wrap (D+E)))then⟨p,0,none⟩ else Addr.add ⟨p,0,none⟩ ((Int.toNat (i64.wrap (D+E)))*1))) (8-(Int.toNat (i64.wrap (D+E)))) (8-(Int.toNat (i64.wrap (D+E))))] I λJ L=>J=.returned (vS H)/\Below C.heap.size I L)/\(((List.length G+List.length H:Nat):Int) <=i64.max)/\∀I,I=(G++H)->∀J,bW C J->K (vS I) J)):Cf np #[a] w (Ret K):=ru func129 [] h
theorem tj (a:Int){w K}(h:ae (decide (a<(10:Int))) (nA w (.cells #[.int .u8 (IntKind.u8.wrap (i64.wrap ((48:Int)+a)))] aF) λb c=>∃d,(convert aM aq (.slice (vA b 0) 1 1)).run prog c=.ok (vS d) c/\K (vS d) c) (((10:Int)≠0)/\∀b,b=(i64.wrap (Int.tdiv a (10:Int)))->((10:Int)≠0)/\∀c,c=(Int.tmod a (10:Int))->(uS bM #[vI b] (World.drew w) λd e=>nA e (.cells #[.int .u8 (IntKind.u8.wrap (i64.wrap ((48:Int)+c)))] aF) λf g=>∃i,(convert aM aq (.slice (vA f 0) 1 1)).run prog g=.ok (vS i) g/\(((List.length d+List.length i:Nat):Int) <=i64.max)/\∀j,j=(d++i)->K (vS j) g)/\∀d e,d=(World.drew w).heap.size->e=(World.drew w).alloc (.cells #[.int .u8 (IntKind.u8.wrap (i64.wrap ((48:Int)+c)))] aF)->(uS bM #[vI b] e λf g=>∃i,(convert aM aq (.slice (vA d 0) 1 1)).run prog g=.ok (vS i) g/\(((List.length f+List.length i:Nat):Int) <=i64.max)/\∀j,j=(f++i)->K (vS j) g)/\∃f,(convert aM aq (.slice (vA d 0) 1 1)).run prog e=.ok (vS f) e/\uS bM #[vI b] e λg i=>(((List.length g+List.length f:Nat):Int) <=i64.max)/\∀j,j=(g++f)->K (vS j) i)):Cf bM #[vI a] w (Ret K):=ru func145 [] h
theorem wK (a:Value)(b:Int){w K}(h:nA w (.cells (Value.cells a) aj) λc d=>(bx (i64.wrap ((2:Int)*b)) ((16:Nat):Int)/\true)/\∃e,(∀f,bW d f->Ld aF (am (vA c 0) (i64.wrap ((2:Int)*b)) 1) f (.int .u8 e))/\(bx (i64.wrap ((i64.wrap ((2:Int)*b))+(1:Int))) ((16:Nat):Int)/\true)/\∃f,(∀g,bW d g->Ld aF (am (vA c 0) (i64.wrap ((i64.wrap ((2:Int)*b))+(1:Int))) 1) g (.int .u8 f))/\∀g,bW d g->K (vI (i64.wrap ((i64.wrap ((i64.wrap e)*(256:Int)))+(i64.wrap f)))) g):Cf jv #[a,vI b] w (Ret K):=ru func146 [] h
theorem yB (a:Value)(b c:Int){w K}(h:nA w (.cells (Value.cells a) aj) λd e=>∃f:Nat->FP [.one .str,.one (.int .i64)],(∃g,f g [] b e)/\∀g i j,aE 16 (∀k,f g i j k->ae (decide (j<c)) (∃l:FP [.one .str],(ae (decide (j>b)) ((((List.length i+List.length [58]:Nat):Int) <=i64.max)/\∀m,m=(i++[58])->l m k) (l i k))/\∀m,aE 5 (∀n,l m n->∃o,Ld aj (vA d 0) n o/\uI jv #[o,vI j] n λp q=>uS mh #[vI p] q λr s=>(((List.length m+List.length r:Nat):Int) <=i64.max)/\∀t,t=(m++r)->∃u:Nat,u<g/\f u t (i64.wrap (j+(1:Int))) s)) (K (vS i) k))):Cf fE #[a,vI b,vI c] w (Ret K):=ru func147 [(8,[(7,.one .str),(8,.one (.int .i64))]),(17,[(7,.one .str)])] h
theorem wO (a:lU){w K}(h:nA w (.cells aS aj) λb c=>nA c (.cells aS aj) λd e=>∃f,Sv aj (vA d 0) (.agg aS) e f/\uL fO #[vS a,.int .u8 58] f λg i j k=>ae (((i:Nat):Int) !=(8:Int)) (∃l,Sv aj (vA b 0) (.agg aS) k l/\∃m,Rv aj (vA b 0) l m/\K (.tuple #[m,.bool false]) l) (∃l:Nat->FP [.one (.int .i64)],(∃m,l m (0:Int) k)/\∀m n,aE 59 (∀o,l m n o->ae (decide (n<(8:Int))) (∃p:FP [],(∃q:FP [.one .bool],((bx n ((i:Nat):Int)/\Option.isSome g=true)/\∃r,Ld aq (am g n 1) o (vS r)/\ae (decide (((List.length r:Nat):Int)<(1:Int))) (q true o) ((bx n ((i:Nat):Int)/\Option.isSome g=true)/\∃s,Ld aq (am g n 1) o (vS s)/\q (decide (((List.length s:Nat):Int)>(4:Int))) o))/\∀r,aE 13 (∀s,q r s->ae r (∃t,Sv aj (vA b 0) (.agg aS) s t/\∃u,Rv aj (vA b 0) t u/\K (.tuple #[u,.bool false]) t) (p s)))/\aE 16 (∀q,p q->∃r:Nat->FP [.one (.int .i64),.one (.int .i64)],(∃s,r s (0:Int) (0:Int) q)/\∀s t u,aE 25 (∀v,r s t u v->(bx n ((i:Nat):Int)/\Option.isSome g=true)/\∃x,Ld aq (am g n 1) v (vS x)/\ae (decide (u<((List.length x:Nat):Int))) ((bx n ((i:Nat):Int)/\Option.isSome g=true)/\∃y,Ld aq (am g n 1) v (vS y)/\bx u ((List.length y:Nat):Int)/\uI mg #[.int .u8 (aX y u)] v λz A=>ae (decide (z<(0:Int))) (∃B,Sv aj (vA b 0) (.agg aS) A B/\∃C,Rv aj (vA b 0) B C/\K (.tuple #[C,.bool false]) B) (∃B:Nat,B<s/\r B (i64.wrap ((i64.wrap (t*(16:Int)))+z)) (i64.wrap (u+(1:Int))) A)) (((256:Int)≠0)/\∀y,y=(i64.wrap (Int.tdiv t (256:Int)))->(bx (i64.wrap ((2:Int)*n)) ((16:Nat):Int)/\true)/\∃z,Sv aF (am (vA d 0) (i64.wrap ((2:Int)*n)) 1) (.int .u8 (IntKind.u8.wrap y)) v z/\((256:Int)≠0)/\∀A,A=(Int.tmod t (256:Int))->(bx (i64.wrap ((i64.wrap ((2:Int)*n))+(1:Int))) ((16:Nat):Int)/\true)/\∃B,Sv aF (am (vA d 0) (i64.wrap ((i64.wrap ((2:Int)*n))+(1:Int))) 1) (.int .u8 (IntKind.u8.wrap A)) z B/\∃C:Nat,C<m/\l C (i64.wrap (n+(1:Int))) B)))) (∃p,Ld aj (vA d 0) o p/\∃q,Sv aj (vA b 0) p o q/\∃r,Rv aj (vA b 0) q r/\K (.tuple #[r,.bool true]) q)))):Cf jw #[vS a] w (Ret K):=ru func167 [(18,[(6,.one (.int .i64))]),(29,[]),(30,[(34,.one .bool)]),(41,[(7,.one (.int .i64)),(8,.one (.int .i64))])] h
theorem Cp (a:lU){w K}(h:ae (a==[]) (K (.tuple #[.slice none 0 0,.bool true]) w) (uL fN #[vS a,.int .u8 58] w λb c d e=>∃f:Nat->FP [.one .slice,.one (.int .i64)],(∃g,f g none 0 0 (0:Int) e)/\∀g i j k l,aE 20 (∀m,f g i j k l m->ae (decide (l<((c:Nat):Int))) ((bx l ((c:Nat):Int)/\Option.isSome b=true)/\∃n,Ld aq (am b l 1) m (vS n)/\Cf nq #[vS n] m λo p=>∃q r,o=rT #[.int .u16 q,.bool r]/\ae (!r) (K (.tuple #[.slice none 0 0,.bool false]) p) (nA p (.cells #[.int .u16 q] eF) λs t=>∃u v x y,(Builtin.append_ #[cT,cT] cT #[.slice i j k,.slice (vA s 0) 1 1]).run prog t=.ok (.slice v x y) u/\∃z:Nat,z<g/\f z v x y (i64.wrap (l+(1:Int))) u)) (K (.tuple #[.slice i j k,.bool true]) m)))):Cf oT #[vS a] w (Ret K):=ru func172 [(16,[(4,.one .slice),(14,.one (.int .i64))])] h
theorem AO (a b c d e f g i:Int){w K}(h:nA w (.cells #[.int .u16 a,.int .u16 b,.int .u16 c,.int .u16 d,.int .u16 e,.int .u16 f,.int .u16 g,.int .u16 i] aG) λj k=>nA k (.cells aS aj) λl m=>nA m (.cells aS aj) λn o=>∃p:Nat->FP [.one (.int .i64)],(∃q,p q (0:Int) o)/\∀q r,aE 20 (∀s,p q r s->ae (decide (r<(8:Int))) ((bx r ((8:Nat):Int)/\true)/\(bx r ((8:Nat):Int)/\true)/\(∃t,Ld eF (am (vA j 0) r 1) (World.drew s) (.int .u16 t)/\(0 <=(8:Int))/\(bx (i64.wrap ((2:Int)*r)) ((16:Nat):Int)/\true)/\(∃u,Ld eF (am (vA j 0) r 1) (World.drew s) (.int .u16 u)/\∃v,Sv aF (am (vA n 0) (i64.wrap ((2:Int)*r)) 1) (.int .u8 (IntKind.u8.wrap (Int.fdiv t (2 ^ (min (Int.toNat 8) (IntKind.bits .u16)))))) (World.drew s) v/\(bx (i64.wrap ((i64.wrap ((2:Int)*r))+(1:Int))) ((16:Nat):Int)/\true)/\∃x,Sv aF (am (vA n 0) (i64.wrap ((i64.wrap ((2:Int)*r))+(1:Int))) 1) (.int .u8 (IntKind.u8.wrap u)) v x/\∃y:Nat,y<q/\p y (i64.wrap (r+(1:Int))) x)/\∃u,Sv aF (am (vA n 0) (i64.wrap ((2:Int)*r)) 1) (.int .u8 (IntKind.u8.wrap (Int.fdiv t (2 ^ (min (Int.toNat 8) (IntKind.bits .u16)))))) (World.drew s) u/\∃v,Ld eF (am (vA j 0) r 1) u (.int .u16 v)/\(bx (i64.wrap ((i64.wrap ((2:Int)*r))+(1:Int))) ((16:Nat):Int)/\true)/\∃x,Sv aF (am (vA n 0) (i64.wrap ((i64.wrap ((2:Int)*r))+(1:Int))) 1) (.int .u8 (IntKind.u8.wrap v)) u x/\∃y:Nat,y<q/\p y (i64.wrap (r+(1:Int))) x)/\∃t,Ld eF (am (vA j 0) r 1) (World.drew s) (.int .u16 t)/\∃u,Ld eF (am (vA j 0) r 1) (World.drew s) (.int .u16 u)/\(0 <=(8:Int))/\(bx (i64.wrap ((2:Int)*r)) ((16:Nat):Int)/\true)/\∃v,Sv aF (am (vA n 0) (i64.wrap ((2:Int)*r)) 1) (.int .u8 (IntKind.u8.wrap (Int.fdiv u (2 ^ (min (Int.toNat 8) (IntKind.bits .u16)))))) (World.drew s) v/\(bx (i64.wrap ((i64.wrap ((2:Int)*r))+(1:Int))) ((16:Nat):Int)/\true)/\∃x,Sv aF (am (vA n 0) (i64.wrap ((i64.wrap ((2:Int)*r))+(1:Int))) 1) (.int .u8 (IntKind.u8.wrap t)) v x/\∃y:Nat,y<q/\p y (i64.wrap (r+(1:Int))) x) (∃t,Ld aj (vA n 0) s t/\∃u,Sv aj (vA l 0) t s u/\∃v,Rv aj (vA l 0) u v/\K v u))):Cf qt #[.agg #[.int .u16 a,.int .u16 b,.int .u16 c,.int .u16 d,.int .u16 e,.int .u16 f,.int .u16 g,.int .u16 i]] w (Ret K):=ru func173 [(8,[(5,.one (.int .i64))])] h
theorem sR (a:Int){w K}(h:uB lY #[.int .u8 a] w λb c=>K (.bool (!b)) c):Cf cB #[.int .u8 a] w (Ret K):=ru func177 [] h
theorem wA (a:Int){w K}(h:ae (decide (a >=(97:Int))) (ae (decide (a <=(122:Int))) (K (.bool true) w) (ae (decide (a >=(48:Int))) (ae (decide (a <=(57:Int))) (K (.bool true) w) (ae (a==(45:Int)) (K (.bool true) w) (K (.bool (a==(95:Int))) w))) (ae (a==(45:Int)) (K (.bool true) w) (K (.bool (a==(95:Int))) w)))) (ae (decide (a >=(48:Int))) (ae (decide (a <=(57:Int))) (K (.bool true) w) (ae (a==(45:Int)) (K (.bool true) w) (K (.bool (a==(95:Int))) w))) (ae (a==(45:Int)) (K (.bool true) w) (K (.bool (a==(95:Int))) w)))):Cf lY #[.int .u8 a] w (Ret K):=ru func178 [] h
theorem wu (a:Value){w K}(h:nA w (.cells (Value.cells a) aj) λb c=>nA c (.cells #[.int .u16 0,.int .u16 0,.int .u16 0,.int .u16 0,.int .u16 0,.int .u16 0,.int .u16 0,.int .u16 0] aG) λd e=>nA e (.cells #[.int .u16 0,.int .u16 0,.int .u16 0,.int .u16 0,.int .u16 0,.int .u16 0,.int .u16 0,.int .u16 0] aG) λf g=>∃i:Nat->FP [.one (.int .i64)],(∃j,i j (0:Int) g)/\∀j k,aE 19 (∀l,i j k l->ae (decide (k<(8:Int))) ((bx (i64.wrap ((2:Int)*k)) ((16:Nat):Int)/\true)/\∃m,(∀n,bW l n->Ld aF (am (vA b 0) (i64.wrap ((2:Int)*k)) 1) n (.int .u8 m))/\(0 <=(8:Int))/\(bx (i64.wrap ((i64.wrap ((2:Int)*k))+(1:Int))) ((16:Nat):Int)/\true)/\∃n,(∀o,bW l o->Ld aF (am (vA b 0) (i64.wrap ((i64.wrap ((2:Int)*k))+(1:Int))) 1) o (.int .u8 n))/\(bx k ((8:Nat):Int)/\true)/\∀o,bW l o->∃p,Sv eF (am (vA f 0) k 1) (.int .u16 (IntKind.u16.wrap (((BitVec.ofInt (IntKind.bits .u16) (IntKind.u16.wrap ((IntKind.u16.wrap m)*2 ^ (min (Int.toNat 8) (IntKind.bits .u16))))) ||| (BitVec.ofInt (IntKind.bits .u16) (IntKind.u16.wrap n))).toNat:Nat))) o p/\∃q:Nat,q<j/\i q (i64.wrap (k+(1:Int))) p) (∃m n o p q r s t,Ld aG (vA f 0) l (.agg #[.int .u16 m,.int .u16 n,.int .u16 o,.int .u16 p,.int .u16 q,.int .u16 r,.int .u16 s,.int .u16 t])/\∃u,Sv aG (vA d 0) (.agg #[.int .u16 m,.int .u16 n,.int .u16 o,.int .u16 p,.int .u16 q,.int .u16 r,.int .u16 s,.int .u16 t]) l u/\∃v x y z A B C D,Rv aG (vA d 0) u (.agg #[.int .u16 v,.int .u16 x,.int .u16 y,.int .u16 z,.int .u16 A,.int .u16 B,.int .u16 C,.int .u16 D])/\K (.agg #[.int .u16 v,.int .u16 x,.int .u16 y,.int .u16 z,.int .u16 A,.int .u16 B,.int .u16 C,.int .u16 D]) u))):Cf lS #[a] w (Ret K):=ru func182 [(8,[(5,.one (.int .i64))]),(2000019,[(15,.one .bool)])] h
theorem yu (a b c d e f g i:Int){w K}(h:nA w (.cells #[.int .u16 a,.int .u16 b,.int .u16 c,.int .u16 d,.int .u16 e,.int .u16 f,.int .u16 g,.int .u16 i] aG) λj k=>∃l:Nat->FP [.one (.int .i64),.one (.int .i64),.one (.int .i64),.one (.int .i64)],(∃m,l m (0:Int) (0:Int) (0:Int) (0:Int) k)/\∀m n o p q,aE 18 (∀r,l m n o p q r->ae (decide (q<(8:Int))) (∃s:FP [.one (.int .i64)],((bx q ((8:Nat):Int)/\true)/\∃t,Ld eF (am (vA j 0) q 1) r (.int .u16 t)/\ae (t !=(0:Int)) (s (0:Int) r) (s (i64.wrap (p+(1:Int))) r))/\∀t,aE 4 (∀u,s t u->ae (decide (t>o)) (∃v:Nat,v<m/\l v (i64.wrap ((i64.wrap (q+(1:Int)))-t)) t t (i64.wrap (q+(1:Int))) u) (∃v:Nat,v<m/\l v n o t (i64.wrap (q+(1:Int))) u))) (K (.tuple #[vI n,vI o]) r))):Cf nr #[.agg #[.int .u16 a,.int .u16 b,.int .u16 c,.int .u16 d,.int .u16 e,.int .u16 f,.int .u16 g,.int .u16 i]] w (Ret K):=ru func183 [(8,[(4,.one (.int .i64)),(5,.one (.int .i64)),(6,.one (.int .i64)),(8,.one (.int .i64))]),(21,[(6,.one (.int .i64))])] h
theorem um (a:Option Addr)(b c:Nat){w K}(h:∃d:Nat->FP [.one .slice,.one (.int .i64)],(∃e,d e none 0 0 (0:Int) w)/\∀e f g i j,aE 11 (∀k,d e f g i j k->ae (decide (j<((b:Nat):Int))) ((bx j ((b:Nat):Int)/\Option.isSome a=true)/\∃l,Ld eF (am a j 1) k (.int .u16 l)/\uS fY #[.int .u64 (IntKind.u64.wrap l),vI 16] k λm n=>nA n (.cells #[vS m] aq) λo p=>∃q r s t,(Builtin.append_ #[au,au] au #[.slice f g i,.slice (vA o 0) 1 1]).run prog p=.ok (.slice r s t) q/\∃u:Nat,u<e/\d u r s t (i64.wrap (j+(1:Int))) q) (uS iT #[.slice f g i,vS [58]] k λl m=>K (vS l) m))):Cf gh #[.slice a b c] w (Ret K):=ru func184 [(8,[(3,.one .slice),(8,.one (.int .i64))])] h
theorem AV (a:Int){w K}(h:ae (decide (a<(16:Int))) ((bd (i64.wrap (a+(1:Int))) (((List.length [48,49,50,51,52,53,54,55,56,57,97,98,99,100,101,102]):Nat):Int)/\0 <=a/\a <=((Int.toNat (i64.wrap (a+(1:Int))):Nat):Int))/\∀b,b=(List.drop (Int.toNat a) (List.take (Int.toNat (i64.wrap (a+(1:Int)))) [48,49,50,51,52,53,54,55,56,57,97,98,99,100,101,102]))->K (vS b) w) (((16:Int)≠0)/\∀b,b=(i64.wrap (Int.tdiv a (16:Int)))->∃c,(∀d,bW w d->Cf mh #[vI b] d λe f=>e=.returned (vS c)/\Below w.heap.size d f)/\((16:Int)≠0)/\∀d,d=(Int.tmod a (16:Int))->((16:Int)≠0)/\∀e,e=(Int.tmod a (16:Int))->(bd (i64.wrap (e+(1:Int))) (((List.length [48,49,50,51,52,53,54,55,56,57,97,98,99,100,101,102]):Nat):Int)/\0 <=d/\d <=((Int.toNat (i64.wrap (e+(1:Int))):Nat):Int))/\∀f,f=(List.drop (Int.toNat d) (List.take (Int.toNat (i64.wrap (e+(1:Int)))) [48,49,50,51,52,53,54,55,56,57,97,98,99,100,101,102]))->(((List.length c+List.length f:Nat):Int) <=i64.max)/\∀g,g=(c++f)->∀i,bW w i->K (vS g) i)):Cf mh #[vI a] w (Ret K):=ru func190 [] h
theorem wN (a:Int){w K}(h:∃b:FP [],(∃c:FP [.one .bool],(ae (decide (a >=(48:Int))) (c (decide (a <=(57:Int))) w) (c false w))/\∀d,aE 5 (∀e,c d e->ae d (K (vI (i64.wrap ((i64.wrap a)-(48:Int)))) e) (b e)))/\aE 10 (∀c,b c->∃d:FP [],(∃e:FP [.one .bool],(ae (decide (a >=(97:Int))) (e (decide (a <=(102:Int))) c) (e false c))/\∀f,aE 5 (∀g,e f g->ae f (K (vI (i64.wrap ((i64.wrap a)-(87:Int)))) g) (d g)))/\aE 10 (∀e,d e->∃f:FP [.one .bool],(ae (decide (a >=(65:Int))) (f (decide (a <=(70:Int))) e) (f false e))/\∀g,aE 5 (∀i,f g i->ae g (K (vI (i64.wrap ((i64.wrap a)-(55:Int)))) i) (K (vI (-1)) i))))):Cf mg #[.int .u8 a] w (Ret K):=ru func211 [(2,[]),(3,[(8,.one .bool)]),(10,[]),(11,[(17,.one .bool)]),(19,[(26,.one .bool)])] h
theorem yt (a:lU){w K}(h:∃b:FP [],(ae (decide (((List.length a:Nat):Int)<(1:Int))) (K (.tuple #[.int .u16 0,.bool false]) w) (ae (decide (((List.length a:Nat):Int)>(4:Int))) (K (.tuple #[.int .u16 0,.bool false]) w) (b w)))/\aE 10 (∀c,b c->uS ju #[vS a] c λd e=>∃f g i j,(convert aq aM (vS d)).run prog e=.ok (.slice g i j) f/\∃k:Nat->FP [.one (.int .u16),.one (.int .i64)],(∃l,k l (0:Int) (0:Int) f)/\∀l m n,aE 17 (∀o,k l m n o->ae (decide (n<((i:Nat):Int))) ((bx n ((i:Nat):Int)/\Option.isSome g=true)/\∃p,Ld aF (am g n 1) o (.int .u8 p)/\uI jW #[vS [48,49,50,51,52,53,54,55,56,57,97,98,99,100,101,102],.int .u8 p] o λq r=>ae (decide (q<(0:Int))) (K (.tuple #[.int .u16 0,.bool false]) r) ((0 <=(4:Int))/\∃s:Nat,s<l/\k s (IntKind.u16.wrap (((BitVec.ofInt (IntKind.bits .u16) (IntKind.u16.wrap (m*2 ^ (min (Int.toNat 4) (IntKind.bits .u16))))) ||| (BitVec.ofInt (IntKind.bits .u16) (IntKind.u16.wrap q))).toNat:Nat)) (i64.wrap (n+(1:Int))) r)) (K (.tuple #[.int .u16 m,.bool true]) o)))):Cf nq #[vS a] w (Ret K):=ru func214 [(2,[]),(16,[(4,.one (.int .u16)),(20,.one (.int .i64))])] h
theorem cW (a:Option Addr)(b c:Nat){w K}(h:uI bE #[.slice a b c,.func (.func bY) #[] #[]] w λd e=>K (.bool (decide (d >=(0:Int)))) e):Cf aU #[.slice a b c,.func (.func bY) #[] #[]] w (Ret K):=ru func63 [] h
theorem dw (a:Option Addr)(b c:Nat){w K}(h:∃d:Nat->FP [.one (.int .i64)],(∃e,d e (0:Int) w)/\∀e f,aE 12 (∀g,d e f g->ae (decide (f<((b:Nat):Int))) ((bx f ((b:Nat):Int)/\Option.isSome a=true)/\∃i,Ld aq (am a f 1) g (vS i)/\uB bY #[vS i] g λj k=>ae j (K (vI f) k) (∃l:Nat,l<e/\d l (i64.wrap (f+(1:Int))) k)) (K (vI (-1)) g))):Cf bE #[.slice a b c,.func (.func bY) #[] #[]] w (Ret K):=ru func115 [(6,[(8,.one (.int .i64))])] h
theorem dH (a:Option Addr)(b c:Nat){w K}(h:uI fk #[.slice a b c,.func (.func cB) #[] #[]] w λd e=>K (.bool (decide (d >=(0:Int)))) e):Cf dQ #[.slice a b c,.func (.func cB) #[] #[]] w (Ret K):=ru func176 [] h
theorem dZ (a:Option Addr)(b c:Nat){w K}(h:∃d:Nat->FP [.one (.int .i64)],(∃e,d e (0:Int) w)/\∀e f,aE 12 (∀g,d e f g->ae (decide (f<((b:Nat):Int))) ((bx f ((b:Nat):Int)/\Option.isSome a=true)/\∃i,Ld aF (am a f 1) g (.int .u8 i)/\uB cB #[.int .u8 i] g λj k=>ae j (K (vI f) k) (∃l:Nat,l<e/\d l (i64.wrap (f+(1:Int))) k)) (K (vI (-1)) g))):Cf fk #[.slice a b c,.func (.func cB) #[] #[]] w (Ret K):=ru func216 [(6,[(8,.one (.int .i64))])] h
theorem nc (a b:Int){w K}(h:uS eZ #[.int .u64 a,vI b] w λc d=>K (vS c) d):Cf fY #[.int .u64 a,vI b] w (Ret K):=ru func220 [] h
theorem iN (a b:Int){w K}(h:ae (b==(10:Int)) (ae (decide (a<(100:Int))) (uS lk #[vI (i64.wrap a)] w λc d=>K (vS c) d) (nA w (.cells zM zK) λc d=>uI jt #[.int .u64 a] d λe f=>bd e ((24:Nat):Int)/\uU iI #[.slice (vA c 0) (Int.toNat e) 24,.int .u64 a] f λg=>bd e ((24:Nat):Int)/\∃i,(convert aM aq (.slice (vA c 0) (Int.toNat e) 24)).run prog g=.ok (vS i) g/\K (vS i) g)) (Cf cH #[.slice none 0 0,.int .u64 a,vI b,.bool false,.bool false] w λc d=>∃e f g i,c=rT #[.slice e f g,vS i]/\K (vS i) d)):Cf eZ #[.int .u64 a,vI b] w (Ret K):=ru func238 [] h
theorem iO (a:Option Addr)(b c:Nat)(d e:Int)(f g:Bool){w K}(h:∃i:FP [],(∃j:FP [.one .bool],(ae (decide (e<(2:Int))) (j true w) (ae (e==(10:Int)) (j true w) (j (decide (e>(36:Int))) w)))/\∀k,aE 9 (∀l,j k l->ae k (False) (i l)))/\aE 11 (∀j,i j->nA j (.cells zN jp) λk l=>∃m:FP [.one (.int .u64)],(ae f (m (IntKind.u64.wrap (0-d)) l) (m d l))/\∀n,aE 3 (∀o,m n o->∃p:FP [.one (.int .i64)],(uB dP #[vI e] o λq r=>ae q (uI dD #[.int .u64 (IntKind.u64.wrap e)] r λs t=>∃u:Nat->FP [.one (.int .u64),.one (.int .i64)],(∃v,u v n (65:Int) t)/\∀v x y,aE 14 (∀z,u v x y z->ae (decide (x >=(IntKind.u64.wrap e))) (bx (IntKind.u64.wrap (((BitVec.ofInt (IntKind.bits .u64) x) &&& (BitVec.ofInt (IntKind.bits .u64) (IntKind.u64.wrap ((IntKind.u64.wrap e)-(1:Int))))).toNat:Nat)) ((List.length [48,49,50,51,52,53,54,55,56,57,97,98,99,100,101,102,103,104,105,106,107,108,109,110,111,112,113,114,115,116,117,118,119,120,121,122]:Nat):Int)/\(bx (i64.wrap (y-(1:Int))) ((65:Nat):Int)/\true)/\∃A,Sv aF (am (vA k 0) (i64.wrap (y-(1:Int))) 1) (.int .u8 (aX [48,49,50,51,52,53,54,55,56,57,97,98,99,100,101,102,103,104,105,106,107,108,109,110,111,112,113,114,115,116,117,118,119,120,121,122] (IntKind.u64.wrap (((BitVec.ofInt (IntKind.bits .u64) x) &&& (BitVec.ofInt (IntKind.bits .u64) (IntKind.u64.wrap ((IntKind.u64.wrap e)-(1:Int))))).toNat:Nat)))) z A/\(0 <=(IntKind.u64.wrap s))/\∃B:Nat,B<v/\u B (Int.fdiv x (2 ^ (min (Int.toNat (IntKind.u64.wrap s)) (IntKind.bits .u64)))) (i64.wrap (y-(1:Int))) A) (bx x ((List.length [48,49,50,51,52,53,54,55,56,57,97,98,99,100,101,102,103,104,105,106,107,108,109,110,111,112,113,114,115,116,117,118,119,120,121,122]:Nat):Int)/\(bx (i64.wrap (y-(1:Int))) ((65:Nat):Int)/\true)/\∃A,Sv aF (am (vA k 0) (i64.wrap (y-(1:Int))) 1) (.int .u8 (aX [48,49,50,51,52,53,54,55,56,57,97,98,99,100,101,102,103,104,105,106,107,108,109,110,111,112,113,114,115,116,117,118,119,120,121,122] x)) z A/\p (i64.wrap (y-(1:Int))) A))) (∃s:Nat->FP [.one (.int .u64),.one (.int .i64)],(∃t,s t n (65:Int) r)/\∀t u v,aE 18 (∀x,s t u v x->ae (decide (u >=(IntKind.u64.wrap e))) (((IntKind.u64.wrap e)≠0)/\∀y,y=(IntKind.u64.wrap (Int.tdiv u (IntKind.u64.wrap e)))->bx (IntKind.u64.wrap (u-(IntKind.u64.wrap (y*(IntKind.u64.wrap e))))) ((List.length [48,49,50,51,52,53,54,55,56,57,97,98,99,100,101,102,103,104,105,106,107,108,109,110,111,112,113,114,115,116,117,118,119,120,121,122]:Nat):Int)/\(bx (i64.wrap (v-(1:Int))) ((65:Nat):Int)/\true)/\∃z,Sv aF (am (vA k 0) (i64.wrap (v-(1:Int))) 1) (.int .u8 (aX [48,49,50,51,52,53,54,55,56,57,97,98,99,100,101,102,103,104,105,106,107,108,109,110,111,112,113,114,115,116,117,118,119,120,121,122] (IntKind.u64.wrap (u-(IntKind.u64.wrap (y*(IntKind.u64.wrap e))))))) x z/\∃A:Nat,A<t/\s A y (i64.wrap (v-(1:Int))) z) (bx u ((List.length [48,49,50,51,52,53,54,55,56,57,97,98,99,100,101,102,103,104,105,106,107,108,109,110,111,112,113,114,115,116,117,118,119,120,121,122]:Nat):Int)/\(bx (i64.wrap (v-(1:Int))) ((65:Nat):Int)/\true)/\∃y,Sv aF (am (vA k 0) (i64.wrap (v-(1:Int))) 1) (.int .u8 (aX [48,49,50,51,52,53,54,55,56,57,97,98,99,100,101,102,103,104,105,106,107,108,109,110,111,112,113,114,115,116,117,118,119,120,121,122] u)) x y/\p (i64.wrap (v-(1:Int))) y))))/\∀q,aE 62 (∀r,p q r->∃s:FP [.one (.int .i64)],(ae f ((bx (i64.wrap (q-(1:Int))) ((65:Nat):Int)/\true)/\∃t,Sv aF (am (vA k 0) (i64.wrap (q-(1:Int))) 1) (.int .u8 45) r t/\s (i64.wrap (q-(1:Int))) t) (s q r))/\∀t,aE 5 (∀u,s t u->ae g (bd t ((65:Nat):Int)/\∃v x y z,(Builtin.append_ #[aM,aM] aM #[.slice a b c,.slice (some (if 65=(Int.toNat t)then⟨k,0,none⟩ else Addr.add ⟨k,0,none⟩ ((Int.toNat t)*1))) (65-(Int.toNat t)) (65-(Int.toNat t))]).run prog u=.ok (.slice x y z) v/\K (.tuple #[.slice x y z,vS []]) v) (bd t ((65:Nat):Int)/\∃v,(convert aM aq (.slice (some (if 65=(Int.toNat t)then⟨k,0,none⟩ else Addr.add ⟨k,0,none⟩ ((Int.toNat t)*1))) (65-(Int.toNat t)) (65-(Int.toNat t)))).run prog u=.ok (vS v) u/\K (.tuple #[.slice none 0 0,vS v]) u)))))):Cf cH #[.slice a b c,.int .u64 d,vI e,.bool f,.bool g] w (Ret K):=ru func252 [(2,[]),(3,[(28,.one .bool)]),(12,[(1,.one (.int .u64))]),(18,[(13,.one (.int .i64))]),(30,[(1,.one (.int .u64)),(13,.one (.int .i64))]),(50,[(1,.one (.int .u64)),(13,.one (.int .i64))]),(68,[(13,.one (.int .i64))])] h
theorem hX (a:Int){w K}(h:K (.bool ((i64.wrap (((BitVec.ofInt (IntKind.bits .i64) a) &&& (BitVec.ofInt (IntKind.bits .i64) (i64.wrap (a-(1:Int))))).toNat:Nat))==(0:Int))) w):Cf dP #[vI a] w (Ret K):=ru func256 [] h
theorem j6 (a:Int){w K}(h:uI fD #[.int .u64 a] w λb c=>K (vI b) c):Cf dD #[.int .u64 a] w (Ret K):=ru func257 [] h
theorem jh (a:Int){w K}(h:ae (a==(0:Int)) (K (vI 64) w) ((0 <=(58:Int))/\(bx (Int.fdiv (IntKind.u64.wrap ((IntKind.u64.wrap (((BitVec.ofInt (IntKind.bits .u64) a) &&& (BitVec.ofInt (IntKind.bits .u64) (IntKind.u64.wrap (0-a)))).toNat:Nat))*(285870213051353865:Int))) (2 ^ (min (Int.toNat 58) (IntKind.bits .u64)))) ((64:Nat):Int)/\true)/\∃b,Ld aF (am (vA 5 0) (Int.fdiv (IntKind.u64.wrap ((IntKind.u64.wrap (((BitVec.ofInt (IntKind.bits .u64) a) &&& (BitVec.ofInt (IntKind.bits .u64) (IntKind.u64.wrap (0-a)))).toNat:Nat))*(285870213051353865:Int))) (2 ^ (min (Int.toNat 58) (IntKind.bits .u64)))) 1) w (.int .u8 b)/\K (vI (i64.wrap b)) w)):Cf fD #[.int .u64 a] w (Ret K):=ru func259 [] h
theorem ur (a:lU){w K}(h:ae (!(a==[])) (bd (10:Int) (((List.length [48,49,50,51,52,53,54,55,56,57,65,66,67,68,69,70]):Nat):Int)/\∀b,b=(List.take (Int.toNat 10) [48,49,50,51,52,53,54,55,56,57,65,66,67,68,69,70])->uS xS #[vS a,vS b] w λc d=>K (.bool (c==[])) d) (K (.bool false) w)):Cf gk #[vS a] w (Ret K):=ru func56 [] h
theorem wJ (a:lU)(b:Int){w K}(h:nA w (.cells #[] aq) λc d=>∃e:Nat->FP [.one .slice,.one (.int .i64),.one (.int .i64)],(∃f,e f (vA c 0) 0 0 (0:Int) (0:Int) d)/\∀f g i j k l,aE 20 (∀m,e f g i j k l m->ae (decide (l<((List.length a:Nat):Int))) (bx l ((List.length a:Nat):Int)/\ae ((aX a l)==b) ((bd l (((List.length a):Nat):Int)/\0 <=k/\k <=((Int.toNat l:Nat):Int))/\∀n,n=(List.drop (Int.toNat k) (List.take (Int.toNat l) a))->nA m (.cells #[vS n] aq) λo p=>∃q r s t,(Builtin.append_ #[au,au] au #[.slice g i j,.slice (vA o 0) 1 1]).run prog p=.ok (.slice r s t) q/\∃u:Nat,u<f/\e u r s t (i64.wrap (l+(1:Int))) (i64.wrap (l+(1:Int))) q) (∃n:Nat,n<f/\e n g i j k (i64.wrap (l+(1:Int))) m)) (bd k (((List.length a):Nat):Int)/\∀n,n=(List.drop (Int.toNat k) a)->nA m (.cells #[vS n] aq) λo p=>∃q r s t,(Builtin.append_ #[au,au] au #[.slice g i j,.slice (vA o 0) 1 1]).run prog p=.ok (.slice r s t) q/\K (.slice r s t) q))):Cf fO #[vS a,.int .u8 b] w (Ret K):=ru func108 [(10,[(5,.one .slice),(6,.one (.int .i64)),(7,.one (.int .i64))])] h
theorem wH (a:lU){w K}(h:∃b:Nat->FP [.one .str,.one (.int .i64)],(∃c,b c [] (0:Int) w)/\∀c d e,aE 23 (∀f,b c d e f->ae (decide (e<((List.length a:Nat):Int))) (bx e ((List.length a:Nat):Int)/\∃g:FP [.one (.int .u8)],(ae (decide ((aX a e) >=(65:Int))) (ae (decide ((aX a e) <=(90:Int))) (g (IntKind.u8.wrap ((aX a e)+(32:Int))) f) (g (aX a e) f)) (g (aX a e) f))/\∀i,aE 8 (∀j,g i j->nA j (.cells #[.int .u8 i] aF) λk l=>∃m,(convert aM aq (.slice (vA k 0) 1 1)).run prog l=.ok (vS m) l/\(((List.length d+List.length m:Nat):Int) <=i64.max)/\∀n,n=(d++m)->∃o:Nat,o<c/\b o n (i64.wrap (e+(1:Int))) l)) (K (vS d) f))):Cf mc #[vS a] w (Ret K):=ru func110 [(8,[(3,.one .str),(4,.one (.int .i64))]),(19,[(5,.one (.int .u8))])] h
theorem uu (a:lU){w K}(h:∃b:Nat->FP [.one (.int .i64)],(∃c,b c (0:Int) w)/\∀c d,aE 17 (∀e,b c d e->ae (decide (d<((List.length a:Nat):Int))) (bx d ((List.length a:Nat):Int)/\ae (decide ((aX a d)<(48:Int))) (K (.bool false) e) (bx d ((List.length a:Nat):Int)/\ae (decide ((aX a d)>(57:Int))) (K (.bool false) e) (∃f:Nat,f<c/\b f (i64.wrap (d+(1:Int))) e))) (K (.bool (decide (((List.length a:Nat):Int)>(0:Int)))) e))):Cf iR #[vS a] w (Ret K):=ru func111 [(6,[(3,.one (.int .i64))])] h
theorem wG (a:lU)(b:Int){w K}(h:nA w (.cells #[.int .u8 b] aF) λc d=>∃e,(convert aM aq (.slice (vA c 0) 1 1)).run prog d=.ok (vS e) d/\uL vy #[vS a,vS e] d λf g i j=>K (.slice f g i) j):Cf fN #[vS a,.int .u8 b] w (Ret K):=ru func120 [] h
theorem wF (a:lU){w K}(h:∃b c d e,(convert aq aM (vS a)).run prog w=.ok (.slice c d e) b/\∃f:Nat->FP [.one (.int .i64)],(∃g,f g (0:Int) b)/\∀g i,aE 19 (∀j,f g i j->ae (decide (i<((d:Nat):Int))) ((bx i ((d:Nat):Int)/\Option.isSome c=true)/\∃k,Ld aF (am c i 1) j (.int .u8 k)/\∃l:FP [.one .bool],(ae (decide (k >=(65:Int))) (l (decide (k <=(90:Int))) j) (l false j))/\∀m,aE 5 (∀n,l m n->ae m ((bx i ((d:Nat):Int)/\Option.isSome c=true)/\∃o,Sv aF (am c i 1) (.int .u8 (IntKind.u8.wrap ((IntKind.u8.wrap (k-(65:Int)))+(97:Int)))) n o/\∃p:Nat,p<g/\f p (i64.wrap (i+(1:Int))) o) (∃o:Nat,o<g/\f o (i64.wrap (i+(1:Int))) n))) (∃k,(convert aM aq (.slice c d e)).run prog j=.ok (vS k) j/\K (vS k) j))):Cf ju #[vS a] w (Ret K):=ru func121 [(8,[(10,.one (.int .i64))]),(19,[(20,.one .bool)])] h
theorem uv (a:lU){w K}(h:∃b:FP [],(uB iR #[vS a] w λc d=>ae (!c) (K (.tuple #[vI 0,.bool false]) d) (ae (decide (((List.length a:Nat):Int)>(18:Int))) (K (.tuple #[vI 0,.bool false]) d) (ae (decide (((List.length a:Nat):Int)>(1:Int))) (bx (0:Int) ((List.length a:Nat):Int)/\ae ((aX a (0:Int))==(48:Int)) (K (.tuple #[vI 0,.bool false]) d) (b d)) (b d))))/\aE 20 (∀c,b c->∃d:Nat->FP [.one (.int .i64),.one (.int .i64)],(∃e,d e (0:Int) (0:Int) c)/\∀e f g,aE 14 (∀i,d e f g i->ae (decide (g<((List.length a:Nat):Int))) (bx g ((List.length a:Nat):Int)/\∃j:Nat,j<e/\d j (i64.wrap ((i64.wrap ((i64.wrap (f*(10:Int)))+(i64.wrap (aX a g))))-(48:Int))) (i64.wrap (g+(1:Int))) i) (K (.tuple #[vI f,.bool true]) i)))):Cf kQ #[vS a] w (Ret K):=ru func168 [(2,[]),(16,[(4,.one (.int .i64)),(5,.one (.int .i64))])] h
theorem ut (a:lU){w K}(h:∃b:FP [],(uB gk #[vS a] w λc d=>ae (!c) (K (.tuple #[vI 0,.bool false]) d) (ae (decide (((List.length a:Nat):Int)>(18:Int))) (K (.tuple #[vI 0,.bool false]) d) (bx (0:Int) ((List.length a:Nat):Int)/\ae ((aX a (0:Int))==(48:Int)) (ae (decide (((List.length a:Nat):Int)>(1:Int))) (K (.tuple #[vI 0,.bool false]) d) (b d)) (b d))))/\aE 20 (∀c,b c->∃d e f g,(convert aq aM (vS a)).run prog c=.ok (.slice e f g) d/\∃i:Nat->FP [.one (.int .i64),.one (.int .i64)],(∃j,i j (0:Int) (0:Int) d)/\∀j k l,aE 11 (∀m,i j k l m->ae (decide (l<((f:Nat):Int))) ((bx l ((f:Nat):Int)/\Option.isSome e=true)/\∃n,Ld aF (am e l 1) m (.int .u8 n)/\∃o:Nat,o<j/\i o (i64.wrap ((i64.wrap ((10:Int)*k))+(i64.wrap (IntKind.u8.wrap (n-(48:Int)))))) (i64.wrap (l+(1:Int))) m) (K (.tuple #[vI k,.bool true]) m)))):Cf kP #[vS a] w (Ret K):=ru func175 [(2,[]),(16,[(4,.one (.int .i64)),(28,.one (.int .i64))])] h
def ak (w:World)(k:Nat)(t:TypeId)(vs:List Value):Prop:=w.heap[k]? =some (.cells vs.toArray t (0,0))
theorem ak.new {w w':World}{k:Nat}{t:TypeId}{vs:List Value}(hk:k=w.heap.size)(hw:w'=w.alloc (.cells vs.toArray t)):ak w' k t vs:=by
 subst hk hw;exact heap_alloc_new w _
theorem ak.lt {w:World}{k:Nat}{t:TypeId}{vs:List Value}(h:ak w k t vs):k<w.heap.size:=(Array.getElem?_eq_some_iff.1 (show w.heap[k]? =_ from h)).1
theorem ak.block {w w':World}{k:Nat}{t:TypeId}{vs:List Value}(h:ak w k t vs)(e:w'.heap[k]? =w.heap[k]?):ak w' k t vs:=e.trans h
theorem ak.below {w w':World}{k:Nat}{t:TypeId}{vs:List Value}(h:ak w k t vs)(hb:bW w w'):ak w' k t vs:=h.block (hb.block k h.lt)
theorem ak.grown {w w':World}{k:Nat}{t:TypeId}{vs:List Value}{row:Option Nat}(h:ak w k t vs)(hg:w.grownBy w' row)(hne:some k≠row):ak w' k t vs:=h.block (hg.block k h.lt hne)
theorem ak.cell {w:World}{k:Nat}{t:TypeId}{vs:List Value}(h:ak w k t vs)(i:Nat):w.cell? ⟨k,i,none⟩=vs[i]? :=by rw[eG h];simp
theorem ak.load1 {P:Program}{u:TypeId}{d:TypeDesc}(hu:P.underlying u=some d)(ha:CO d=false){w:World}{k:Nat}{t:TypeId}{vs:List Value}(h:ak w k t vs){i:Nat}{v:Value}(hv:vs[i]? =some v):
   (Instr.loadAt u (.pointer (some ⟨k,i,none⟩))).run P w=.ok v w:=cV hu ha (by rw[h.cell];exact hv)
theorem ak.loadA {P:Program}{u:TypeId}{d:TypeDesc}{ti:TypeInfo}(hu:P.underlying u=some d)(ha:CO d=true)(hi:P.info? u=some ti){w:World}{k:Nat}{t:TypeId}{vs us:List Value}(h:ak w k t vs){i:Nat}(hl:us.length=ti.size)
   (hv:∀j,j<us.length->vs[i+j]? =us[j]?):(Instr.loadAt u (.pointer (some ⟨k,i,none⟩))).run P w=.ok (.agg us.toArray) w:=
 vY hu ha hi hl λj hj=>by rw[h.cell];exact hv j hj
theorem ak.res {P:Program}{u:TypeId}{p:Addr}{w w':World}{v:Value}(h:(Instr.loadAt u (.pointer (some p))).run P w=.ok v w'):(aZ u (.pointer (some p))).run P w=.ok v w':=h
theorem ak.store {P:Program}{u:TypeId}{bytes n:Nat}{z:Value}(tf:TF P u n bytes z){w:World}{k:Nat}{t:TypeId}{vs:List Value}(h:ak w k t vs){i:Nat}{v:Value}(hs:v.cells.size=n)(hfit:i+n <=vs.length)(h1:∀c∈v.cells.toList,c.oneCell'=true):
   ∃w',(Instr.storeAt u (.pointer (some ⟨k,i,none⟩)) v).run P w=.ok () w'/\ak w' k t (vs.take i++v.cells.toList++vs.drop (i+n))/\w.grownBy w' (some k):=by
 obtain⟨ti,hti,hsz,_,_⟩:=tf.info
 refine⟨_,run_storeVar_row hti (o:=i) h (λi _=>by simp) (by rw[hs,hsz]) (by rw[hsz];simpa using hfit) h1,?_,fI w k _⟩
 have:=setRow_heap w k vs.toArray (vs.take i++v.cells.toList++vs.drop (i+n)).toArray t (0,0) h
 rw[<- hs]at this ⊢
 exact this
theorem JM {n:Nat}{w:World}{R:Bool->World->Prop}{B:(Bool->World->Prop)->Prop}(f:Bool)(hB:B (λb w'=>w'=w/\b=f))(h:R f w):
   ∃J:FP [.one (.bool)],B J/\∀b:Bool,aE n (∀wj:World,J b wj->R b wj):=by
 refine⟨λb w'=>w'=w/\b=f,hB,λb=>aE.of ?_ _⟩
 rintro wj ⟨rfl,rfl⟩;exact h
theorem Lw {n:Nat}{k:IntKind}{w:World}{R:Int->World->Prop}{B:(Int->World->Prop)->Prop}(f:Int)(hB:B (λb w'=>w'=w/\b=f))(h:R f w):
   ∃J:FP [.one (.int k)],B J/\∀b:Int,aE n (∀wj:World,J b wj->R b wj):=by
 refine⟨λb w'=>w'=w/\b=f,hB,λb=>aE.of ?_ _⟩
 rintro wj ⟨rfl,rfl⟩;exact h
theorem L5 {n:Nat}{w:World}{R:List UInt8->World->Prop}{B:(List UInt8->World->Prop)->Prop}(f:List UInt8)(hB:B (λb w'=>w'=w/\b=f))(h:R f w):
   ∃J:FP [.one (.str)],B J/\∀b:List UInt8,aE n (∀wj:World,J b wj->R b wj):=by
 refine⟨λb w'=>w'=w/\b=f,hB,λb=>aE.of ?_ _⟩
 rintro wj ⟨rfl,rfl⟩;exact h
theorem xT {n:Nat}{w:World}{R:World->Prop}{B:(World->Prop)->Prop}(Q:Prop)(hB:B (λw'=>w'=w/\Q))(h:Q->R w):
   ∃J:FP [],B J/\aE n (∀wj:World,J wj->R wj):=by
 refine⟨λw'=>w'=w/\Q,hB,aE.of ?_ _⟩
 rintro wj ⟨rfl,hq⟩;exact h hq
theorem iA {n:Nat}{R:World->Prop}{B:(World->Prop)->Prop}(Q:World->Prop)(hB:B Q)(h:∀w,Q w->R w):
   ∃J:FP [],B J/\aE n (∀wj:World,J wj->R wj):=⟨Q,hB,aE.of h _⟩
theorem KU {n:Nat}{R:Bool->World->Prop}{B:(Bool->World->Prop)->Prop}(Q:Bool->World->Prop)(hB:B Q)(h:∀b w,Q b w->R b w):
   ∃J:FP [.one (.bool)],B J/\∀b:Bool,aE n (∀wj:World,J b wj->R b wj):=⟨Q,hB,λb=>aE.of (h b) _⟩
theorem LJ {n:Nat}{w:World}{c x:Bool}{R:Bool->World->Prop}(h:R (c&&x) w):∃J:FP [.one (.bool)],ae c (J x w) (J false w)/\∀b:Bool,aE n (∀wj:World,J b wj->R b wj):=
 JM (B:=λJ=>ae c (J x w) (J false w)) (c&&x) (ae.of (λh=>⟨rfl,by rw[h];rfl⟩) (λh=>⟨rfl,by rw[h];rfl⟩)) h
theorem Du {α:Type}{T:Ty α}(hfl:Flat T){P:Program}{st t ty:TypeId}{bytes:Nat}{z:Value}(hu:P.underlying st=some (.slice t))(tf:TF P t T.k bytes z)(hb0:0<bytes)
   {w0 w w1:World} {a:Option Addr} {n c:Nat} {xs:List α} (ho:Ow T t w NoB a n c xs) (hf:bp w0.heap.size a) (hb:bW w0 w) {k1:Nat} {vs:List Value} {x:α} (hk:k1=w.heap.size)
   (hw:w1=w.alloc (.cells vs.toArray t)) (hx:T.rep w NoB vs x) {cm:Nat} (hbound:(xs.length+1)*bytes <=140737488355328):
   ∃(w2:World) (a':Option Addr) (n' c':Nat),(Builtin.append_ #[st,st] ty #[.slice a n c,.slice (some ⟨k1,0,none⟩) 1 cm]).run P w1=.ok (.slice a' n' c') w2/\Ow T t w2 NoB a' n' c' (xs++[x])/\bp w0.heap.size a'/\bW w0 w2:=by
 have hB1:bW w w1:=hw▸af w _
 have ho3:=ho.below hB1
 have hsrc:Src T w1 NoB (some ⟨k1,0,none⟩) 1 [x]:=Src.new1F hfl hk hw hx
 obtain⟨w4,a4,n4,c4,hr,ho4,hgr,hfr⟩:=co (ty:=ty) hu tf hb0 ho3 (λ_ _ h=>h) (cm:=cm) hsrc (by simpa using hbound)
 have hB:=ab hb hB1 hb.size
 exact⟨w4,a4,n4,c4,hr,ho4,hf.app hB.size hfr,hB.grown hgr hB.size hf⟩
theorem j3 {P:Program}{f:FuncId}{args:Array Value}{w u:World}{v:Value}(h:Calls P f args u (Ret λv' w'=>v'=v/\bW u w'))(hu:bW w u):
   Calls P f args u λe w'=>e=.returned v/\Below w.heap.size u w':=by
 refine h.mono ?_
 rintro _ w' ⟨_,rfl,rfl,hb⟩
 exact⟨rfl,hb.mono hu.size⟩
theorem fits {a b:Nat}(h:a+b <=9223372036854775807):((a+b:Nat):Int) <=i64.max:=by simp[IntKind.max,IntKind.bits];omega
theorem HC {P:Program}{name:String}{k:IntKind}{zs:List Int}{w w':World}(h:Lib.TabIs P w name k zs)(hb:∀b,b<w.heap.size->w'.heap[b]? =w.heap[b]?):Lib.TabIs P w' name k zs:=by
 unfold Lib.TabIs World.var? at h ⊢
 cases hg:P.globalNamed name with
 | none=>rw[hg]at h;cases h
 | some g=>
   rw[hg]at h
   simp only[Option.bind_some]at h ⊢
   have hlt:g<w.heap.size:=by
     cases hh:w.heap[g]? with
     | none=>rw[hh]at h;cases h
     | some o=>exact(Array.getElem?_eq_some_iff.1 hh).1
   rw[hb g hlt];exact h
structure Env (w:World):Prop where
 tab:Lib.TabIs prog w "internal/strconv.uint64pow10" .u64 Lib.pow10Tab
 max:∃m:Int,w.cell? ⟨0,0,none⟩=some (vI m)
 tz:w.cell? ⟨5,15,none⟩=some (.int .u8 4)
theorem Gd {w:World}{b o:Nat}{v:Value}(h:w.cell? ⟨b,o,none⟩=some v):b<w.heap.size:=by
 cases hh:w.heap[b]? with
 | none=>simp[World.cell?,hh]at h
 | some x=>exact(Array.getElem?_eq_some_iff.1 hh).1
theorem Env.same {w w':World}(h:Env w)(hb:∀b,b<w.heap.size->w'.heap[b]? =w.heap[b]?):Env w':=by
 obtain⟨m,hm⟩:=h.max
 exact⟨HC h.tab hb,⟨m,by rw[iY (hb _ (Gd hm))];exact hm⟩,by rw[iY (hb _ (Gd h.tz))];exact h.tz⟩
theorem Env.step {w w':World}(h:Env w)(hb:bW w w'):Env w':=h.same λb hlt=>hb.block b hlt
theorem Env.grown {w0 w w':World}{row:Option Nat}(h0:Env w0)(h:Env w)(hg:w.grownBy w' row)(hr:∀x,row=some x->w0.heap.size <=x)(hb:bW w0 w):Env w':=
 h0.step (hb.grown hg hb.size hr)
def bL (c:UInt8):List UInt8->List UInt8->List (List UInt8)
 | cur,[]=>[cur]
 | cur,x::r=>if x=c then cur::bL c [] r else bL c (cur++[x]) r
theorem zW (c:UInt8):∀(a cur r:List UInt8),(∀x∈a,x≠c)->bL c cur (a++c::r)=(cur++a)::bL c [] r
 | [],cur,r,_=>by
   show(if c=c then _ else _)=_
   rw[if_pos rfl,List.append_nil]
 | x::a,cur,r,ha=>by
   show(if x=c then _ else _)=_
   rw[if_neg (ha x List.mem_cons_self)]
   exact(zW c a (cur++[x]) r λy hy=>ha y (List.mem_cons_of_mem _ hy)).trans (by simp)
theorem vm (c:UInt8):∀(a cur:List UInt8),(∀x∈a,x≠c)->bL c cur a=[cur++a]
 | [],cur,_=>by simp[bL]
 | x::a,cur,ha=>by
   show(if x=c then _ else _)=_
   rw[if_neg (ha x List.mem_cons_self)]
   exact(vm c a (cur++[x]) λy hy=>ha y (List.mem_cons_of_mem _ hy)).trans (by simp)
theorem JU (c:UInt8)(s cur:List UInt8)(k:Nat)(h:k<s.length):bL c cur (s.drop k)=if s[k]=c then cur::bL c [] (s.drop (k+1))else bL c (cur++[s[k]]) (s.drop (k+1)):=by
 rw[List.drop_eq_getElem_cons h];rfl
theorem jL (c:UInt8):∀(s cur:List UInt8),bL c cur s≠[]
 | [],cur=>by simp[bL]
 | x::s,cur=>by
   show(if x=c then _ else _)≠_
   split
   · simp
   · exact jL c s _
theorem js (c:UInt8):∀(s cur x:List UInt8),x∈bL c cur s->x.length <=cur.length+s.length
 | [],cur,x,h=>by simp[bL]at h;subst h;simp
 | y::r,cur,x,h=>by
   unfold bL at h
   split at h
   · rcases List.mem_cons.1 h with rfl|h
     · simp
     · have:=js c r [] x h;simp at this ⊢;omega
   · have:=js c r _ x h;simp at this ⊢;omega
theorem gG (c:UInt8):∀(s cur:List UInt8),(bL c cur s).length <=s.length+1
 | [],cur=>by simp[bL]
 | y::r,cur=>by
   unfold bL
   split
   · have:=gG c r [];simp;omega
   · have:=gG c r (cur++[y]);simp;omega
theorem cU (c:UInt8):∀(s cur r:List UInt8),bL c cur (s++c::r)=bL c cur s++bL c [] r
 | [],cur,r=>by
   show(if c=c then _ else _)=_
   rw[if_pos rfl];rfl
 | x::s,cur,r=>by
   show(if x=c then cur::bL c [] (s++c::r)else bL c (cur++[x]) (s++c::r))=(if x=c then cur::bL c [] s else bL c (cur++[x]) s)++bL c [] r
   split
   · rw[cU c s];rfl
   · rw[cU c s]
theorem Fk (s:List UInt8)(c:UInt8):(Lib.index s [c]= -1/\∀x∈s,x≠c)\/∃i:Nat,Lib.index s [c]=(i:Int)/\∃h:i<s.length,s=s.take i++c::s.drop (i+1)/\∀x∈s.take i,x≠c:=by
 induction s with
 | nil=>exact .inl ⟨rfl,λx h=>by cases h⟩
 | cons b l ih=>
   by_cases h:b=c
   · subst h
     refine .inr ⟨0,by rw[Lib.index];simp[List.isPrefixOf],by simp,rfl,λx h=>by simp at h⟩
   · have hp:([c]:List UInt8).isPrefixOf (b::l)=false:=by simp[List.isPrefixOf,Ne.symm h]
     have hix:Lib.index (b::l) [c]=if Lib.index l [c]== -1 then -1 else Lib.index l [c]+1:=by rw[Lib.index,hp];simp
     rcases ih with⟨h1,h2⟩|⟨i,h1,h2,h3,h4⟩
     · refine .inl ⟨by rw[hix,h1];rfl,λx hx=>?_⟩
       rcases List.mem_cons.1 hx with rfl|hx
       · exact h
       · exact h2 x hx
     · refine .inr ⟨i+1,?_,by simpa using h2,?_,λx hx=>?_⟩
       · rw[hix,h1,if_neg (by rw[beq_iff_eq];omega)];omega
       · simp only[List.take_succ_cons,List.drop_succ_cons,List.cons_append]
         rw[<- h3]
       · rw[List.take_succ_cons]at hx
         rcases List.mem_cons.1 hx with rfl|hx
         · exact h
         · exact h4 x hx
theorem xf (c:UInt8):∀(n:Nat) (s:List UInt8),s.length <=n->Lib.splitK [c] 0 (Lib.count s [c]) s=bL c [] s
 | n,s,hn=>by
   rcases Fk s c with⟨h1,h2⟩|⟨i,h1,h2,h3,h4⟩
   · rw[Lib.count_miss h1,vm c s [] h2];rfl
   · have hc:=Lib.count_hit (s:=s) (sub:=[c]) (by simp) h1
     cases n with
     | zero=>omega
     | succ n=>
       have ih:=xf c n (s.drop (i+1)) (by rw[List.length_drop];omega)
       rw[hc,Nat.add_comm 1]
       unfold Lib.splitK
       rw[if_neg (by rw[h1,beq_iff_eq];omega),h1]
       simp only[Int.toNat_natCast,Nat.add_zero,List.length_cons,List.length_nil,Nat.zero_add]
       rw[ih]
       conv=>rhs;rw[h3,zW c _ _ _ h4]
       simp
theorem xg (s:List UInt8)(c:UInt8):(Lib.splitB (mkS [c]) 0 (Lib.countB (mkS s) (mkS [c])) (mkS s)).map Value.string=(bL c [] s).map λx=>vS x:=by
 have h:=Lib.splitB_data (mkS [c]) 0 (Lib.countB (mkS s) (mkS [c])) (mkS s)
 have h2:Lib.splitK (mkS [c]).data.toList 0 (Lib.countB (mkS s) (mkS [c])) (mkS s).data.toList=bL c [] s:=xf c _ s (Nat.le_refl _)
 rw[h2]at h
 rw[<- h,List.map_map]
 rfl
theorem DB (s:List UInt8)(c:UInt8):Lib.countB (mkS s) (mkS [c])+1=(bL c [] s).length:=by
 have h:=xg s c
 have h2:=congrArg List.length h
 rw[List.length_map,List.length_map,Lib.splitB_all (mkS [c]) (Nat.le_refl 1) 0 _ _ rfl]at h2
 exact h2
def LZ (y:Int):Bool:=(decide (Int.tmod y 4=0)&&decide (Int.tmod y 100≠0)) || decide (Int.tmod y 400=0)
def Mm (y m:Int):Int:=if m=2 then(if LZ y then 29 else 28)else if m=4\/m=6\/m=9\/m=11 then 30 else 31
theorem Bh {a b:Int}(h:0 <=a):Int.tmod a b=a%b:=Int.tmod_eq_emod_of_nonneg h
theorem Be {a b:Int}(h:0 <=a):Int.tdiv a b=a/b:=Int.tdiv_eq_ediv_of_nonneg h
def GX (y m d:Int):Prop:=1601 <=y/\y <=9999/\1 <=m/\m <=12/\1 <=d/\d <=Mm y m
instance  (y m d:Int):Decidable (GX y m d):=by unfold GX;infer_instance
def sN (k:Nat):Nat:=if k=400 then 146097 else 365*k+k/4-k/100
def CQ (c:UInt8):UInt8:=if 65 <=c/\c <=90 then c+32 else c
def gS (s:List UInt8):List UInt8:=s.map CQ
theorem IH:∀n,n<256->((CQ (UInt8.ofNat n)).toNat:Int)=if 65 <=(n:Int)/\(n:Int) <=90 then(n:Int)+32 else(n:Int):=by decide+kernel
theorem Es (c:UInt8):((CQ c).toNat:Int)=if 65 <=(c.toNat:Int)/\(c.toNat:Int) <=90 then(c.toNat:Int)+32 else(c.toNat:Int):=by
 have:=IH c.toNat (by have:=c.toNat_lt;omega)
 rwa [UInt8.ofNat_toNat]at this
theorem pt (s:List UInt8)(hs:s.length <=9223372036854775800)(w:World):Cf ju #[vS s] w (Ret λv w'=>v=vS (gS s)/\bW w w'):=by
 apply wF
 obtain⟨w1,a,n,c,hr,ho,hb,hf⟩:=oP aB bG bA w s (by omega) NoB
 have hn:=ho.len
 subst hn
 refine⟨w1,a,_,c,hr,?_⟩
 refine⟨λm i w'=>∃k:Nat,k <=s.length/\i=(k:Int)/\m=s.length-k/\Ow tU8 aF w' NoB a s.length c (gS (s.take k)++s.drop k)/\w1.grownBy w' (bu a),
   ⟨_,0,by omega,rfl,rfl,by simpa[gS]using ho,⟨rfl,rfl,rfl,Nat.le_refl _,λ_ _ _=>rfl⟩⟩,?_⟩
 intro m i
 refine aE.of ?_ _
 rintro w' ⟨k,hk,rfl,rfl,ho',hg⟩
 have hll:(gS (s.take k)++s.drop k).length=s.length:=by simp[gS];omega
 refine ae.of (λh=>?_) (λh=>?_) <;> simp at h
 · have hlk:(gS (s.take k)).length=k:=by simp[gS];omega
   have hsl:=ho'.all
   obtain⟨v,hv,hrep⟩:=hsl.load1 (i:=(k:Int)) bA rfl rfl (by rw[hll];simpa using h)
   have:=tT hrep
   subst this
   have eg:(gS (s.take k)++s.drop k)[(k:Int).toNat]'(by rw[hll];simpa using h)=s[k]:=by
     simp only[Int.toNat_natCast]
     rw[List.getElem_append_right (by rw[hlk];exact Nat.le_refl _)]
     simp[hlk]
   rw[eg]at hv
   have hin:(0 <=(k:Int)/\(k:Int)<((s.length:Nat):Int))/\Option.isSome a=true:=⟨⟨by omega,by omega⟩,hsl.isSome (i:=k) (by rw[hll];exact h)⟩
   have hlt:=mD s[k]
   have hlow:=Es s[k]
   have e1:i64.wrap ((k:Int)+1)=((k+1:Nat):Int):=by rw[wrap_i64 (by omega) (by omega)];omega
   try dsimp only
   rw[e1]
   have hstep:∀x,(gS (s.take k)++s.drop k).set k x=gS (s.take k)++x::s.drop (k+1):=λx=>by
     rw[List.set_append_right _ _ (by rw[hlk];exact Nat.le_refl _),hlk,Nat.sub_self,List.drop_eq_getElem_cons h];rfl
   have hnext:gS (s.take (k+1))++s.drop (k+1)=gS (s.take k)++CQ s[k]::s.drop (k+1):=by
     unfold gS;rw[List.take_succ_eq_append_getElem h,List.map_append,List.append_assoc];rfl
   refine⟨hin,_,hv,λb w''=>w''=w'/\b=decide (65 <=(s[k].toNat:Int)/\(s[k].toNat:Int) <=90),?_,?_⟩
   · refine ae.of (λh2=>?_) (λh2=>?_) <;> simp only[ge_iff_le,dTx,dFx]at h2
     · exact⟨rfl,by simp[h2]⟩
     · exact⟨rfl,by simp[h2]⟩
   · intro b
     refine aE.of ?_ _
     rintro w' ⟨rfl,rfl⟩
     refine ae.of (λh2=>?_) (λh2=>?_) <;> simp only[dTx,dFx]at h2
     · rw[if_pos h2]at hlow
       rw[wrap_u8 (n:=(s[k].toNat:Int)-65) (by omega) (by omega),wrap_u8 (by omega) (by omega)]
       obtain⟨w4,hs4,ho4,hg4⟩:=ho'.store (P:=prog) (bytes:=1) (z:=.int .u8 0) fQ (λ_ _ h=>h) (i:=(k:Int)) (by rw[hll];simpa using h) (k:=1) rfl (v:=.int .u8 ((s[k].toNat:Int)-65+97)) (x:=CQ s[k]) (rz (by rw[hlow];omega))
       simp only[Int.toNat_natCast]at ho4
       rw[hstep,<- hnext]at ho4
       exact⟨hin,w4,hs4,s.length-(k+1),by omega,k+1,by omega,rfl,rfl,ho4,⟨hg4.os.trans hg.os,hg4.tape.trans hg.tape,hg4.output.trans hg.output,Nat.le_trans hg.size hg4.size,λq hq hne=>(hg4.block q (Nat.lt_of_lt_of_le hq hg.size) hne).trans (hg.block q hq hne)⟩⟩
     · rw[if_neg h2]at hlow
       have hc:CQ s[k]=s[k]:=HF hlow
       refine⟨s.length-(k+1),by omega,k+1,by omega,rfl,rfl,?_,hg⟩
       rw[hnext,hc,<- List.drop_eq_getElem_cons h];exact ho'
 · have:k=s.length:=by omega
   subst this
   have e2:gS (s.take s.length)++s.drop s.length=gS s:=by simp
   rw[e2]at ho'
   exact⟨_,oo bG aB bA ho'.all,rfl,hb.grown hg hb.size hf⟩
end Go.Pk
