/- What the laws lean on: V45, V46, TigA, TigP, TigQ, TigB, TigR, TigC; what is used. Its conditions: none. -/
import Derived.Test.YtpafoodmpjlkhaaGreatDoorKI
set_option linter.unusedVariables false
set_option linter.unusedSimpArgs false
set_option linter.unusedSectionVars false
set_option maxRecDepth 100000
open Go.IntKind (i64)
open Go.Proofs.Tryz
open List (length)
open Option (isSome)
namespace Go.Pk
open Go.RowKit (Below)
open Go.Proofs
theorem F9 (a b:Int)(c:Option Addr)(d e:Nat)(f:Option Addr)(g i:Nat){w K}(h:nA w (.cells #[vI a,vI b,.slice c d e,.slice f g i] af) λj k=>true/\∃l m n,Ld aO (vA j 3) k (.slice l m n)/\∃o p q r,(Instr.makeSlice ar (vI ((m:Nat):Int)) (vI ((m:Nat):Int))).run prog k=.ok (.slice p q r) o/\∃s:Nat->FP [.one (.int .i64)],(∃t,s t (0:Int) o)/\∀t u,aC 8 (∀v,s t u v->ae (decide (u<((q:Nat):Int))) ((bx u ((q:Nat):Int)/\Option.isSome p=true)/\∃x,Sv aw (ao p u 1) (vI u) v x/\∃y:Nat,y<t/\s y (i64.wrap (u+(1:Int))) x) (K (.slice p q r) v))):Cf rX #[.agg #[vI a,vI b,.slice c d e,.slice f g i]] w (Ret K):=ru func188 [(8,[(11,.one (.int .i64))])] h
theorem rm (a:Option Addr)(b c:Nat){w K}(h:∃d,(do eqGuard .eql ar (.tmp 3) (.const (.slice none 0 0)) (.slice a b c) (.slice none 0 0);binOp .eql ar (.slice a b c) (.slice none 0 0):Sem Value).run prog w=.ok (.bool d) w/\ae d (K (.slice none 0 0) w) (nA w (.cells #[] aw) λe f=>∃g i j k,(Builtin.append_ #[ar,ar] ar #[.slice (vA e 0) 0 0,.slice a b c]).run prog f=.ok (.slice i j k) g/\K (.slice i j k) g)):Cf cz #[.slice a b c] w (Ret K):=ru func239 [] h
theorem zZ (a b:Int)(c:Option Addr)(d e:Nat)(f:Option Addr)(g i:Nat)(j:Option Addr)(k l:Nat){w K}(h:nA w (.cells #[vI a,vI b,.slice c d e,.slice f g i] af) λm n=>nA n (.cells #[vI 0,vI 0,.slice none 0 0,.slice none 0 0] af) λo p=>true/\∃q,Ld aw (vA m 0) p (vI q)/\nA p (.cells #[vI 0,vI 0,.slice none 0 0,.slice none 0 0] af) λr s=>∃t,Sv af (vA r 0) (.agg #[vI q,vI 0,.slice none 0 0,.slice none 0 0]) s t/\nA t (.map #[] 0) λu v=>true/\∃x,Ld aw (vA m 1) v (vI x)/\(bx x ((k:Nat):Int)/\Option.isSome j=true)/\∃y,Ld aw (ao j x 1) v (vI y)/\∃z,(Instr.mapUpdate nN (.map (some u)) (vI y) (vI 0)).run prog v=.ok () z/\true/\∃A,Ld aw (vA m 1) z (vI A)/\nA z (.cells #[vI A] aw) λB C=>∃D:Nat->FP [.one .slice],(∃E,D E (vA B 0) 1 1 C)/\∀E F G H,aC 72 (∀I,D E F G H I->true/\∃J L M,Ld aO (vA r 3) I (.slice J L M)/\ae (decide (((L:Nat):Int)<((G:Nat):Int))) (true/\∃N O P,Ld aO (vA r 3) I (.slice N O P)/\(bx ((O:Nat):Int) ((G:Nat):Int)/\Option.isSome F=true)/\∃Q,Ld aw (ao F ((O:Nat):Int) 1) I (vI Q)/\∃R:World->Prop,R (World.drew I)/\true/\∃S T U,(∀V,R V->Ld aO (vA r 3) V (.slice S T U))/\true/\∃V X Y,(∀Z,R Z->Ld aO (vA m 3) Z (.slice V X Y))/\(bx Q ((X:Nat):Int)/\Option.isSome V=true)/\∃Z,(∀aa,R aa->Ld aX (ao V Q 1) aa (.bool Z))/\∀aa ac,aa=(World.drew I).heap.size->ac=(World.drew I).alloc (.cells #[.bool Z] aX)->R ac/\∃ad ag al an,(Builtin.append_ #[aO,aO] aO #[.slice S T U,.slice (vA aa 0) 1 1]).run prog ac=.ok (.slice ag al an) ad/\R ad/\true/\∃ba,Sv aO (vA r 3) (.slice ag al an) ad ba/\true/\∃bb,Ld aw (vA m 0) ba (vI bb)/\∃bc:Nat->FP [.one .slice,.one (.int .i64)],(∃bd,bc bd F G H (0:Int) ba)/\∀bd bj bk bl bn,aC 46 (∀bo,bc bd bj bk bl bn bo->ae (decide (bn<bb)) (true/\∃bq bw bz,Ld ar (vA m 2) bo (.slice bq bw bz)/\true/\∃ca,Ld aw (vA m 0) bo (vI ca)/\(bx (i64.wrap ((i64.wrap (Q*ca))+bn)) ((bw:Nat):Int)/\Option.isSome bq=true)/\∃cc,Ld aw (ao bq (i64.wrap ((i64.wrap (Q*ca))+bn)) 1) bo (vI cc)/\(bx cc ((k:Nat):Int)/\Option.isSome j=true)/\∃ch,Ld aw (ao j cc 1) bo (vI ch)/\∃cl cm,(Instr.lookup nN (.map (some u)) (vI ch) true).run prog bo=.ok (.tuple #[vI cl,.bool cm]) bo/\∃cn:FP [.one .slice,.one (.int .i64)],(ae (!cm) ((bx cc ((k:Nat):Int)/\Option.isSome j=true)/\∃cp,Ld aw (ao j cc 1) bo (vI cp)/\∃cs,(Instr.mapUpdate nN (.map (some u)) (vI cp) (vI ((bk:Nat):Int))).run prog bo=.ok () cs/\nA cs (.cells #[vI cc] aw) λcx da=>∃db dc dd dg,(Builtin.append_ #[ar,ar] ar #[.slice bj bk bl,.slice (vA cx 0) 1 1]).run prog da=.ok (.slice dc dd dg) db/\cn dc dd dg ((bk:Nat):Int) db) (cn bj bk bl cl bo))/\∀cp cs cx da,aC 14 (∀db,cn cp cs cx da db->true/\∃dc dd dg,Ld ar (vA r 2) db (.slice dc dd dg)/\nA db (.cells #[vI da] aw) λdk dl=>∃dn dr ds ea,(Builtin.append_ #[ar,ar] ar #[.slice dc dd dg,.slice (vA dk 0) 1 1]).run prog dl=.ok (.slice dr ds ea) dn/\true/\∃eb,Sv ar (vA r 2) (.slice dr ds ea) dn eb/\∃ec:Nat,ec<bd/\bc ec cp cs cx (i64.wrap (bn+(1:Int))) eb)) (∃bq:Nat,bq<E/\D bq bj bk bl bo))) (∃N O P Q R S T U,Ld af (vA r 0) I (.agg #[vI N,vI O,.slice P Q R,.slice S T U])/\∃V,Sv af (vA o 0) (.agg #[vI N,vI O,.slice P Q R,.slice S T U]) I V/\∃X Y Z aa ac ad ag al,Rv af (vA o 0) V (.agg #[vI X,vI Y,.slice Z aa ac,.slice ad ag al])/\K (.agg #[vI X,vI Y,.slice Z aa ac,.slice ad ag al]) V))):Cf gw #[.agg #[vI a,vI b,.slice c d e,.slice f g i],.slice j k l] w (Ret K):=ru func187 [(10,[(7,.one .slice)]),(4000021,[]),(25,[(7,.one .slice),(50,.one (.int .i64))]),(40,[(7,.one .slice),(11,.one (.int .i64))])] h
theorem Dd (a b:Int)(c:Option Addr)(d e:Nat)(f:Option Addr)(g i:Nat){w K}(h:nA w (.cells #[vI a,vI b,.slice c d e,.slice f g i] af) λj k=>nA k (.cells #[vI 0,vI 0,.slice none 0 0,.slice none 0 0] af) λl m=>∃n o p q r s t u,Ld af (vA j 0) m (.agg #[vI n,vI o,.slice p q r,.slice s t u])/\uB iM #[.agg #[vI n,vI o,.slice p q r,.slice s t u]] m λv x=>ae (!v) (∃y,Sv af (vA l 0) (.agg #[vI 0,vI 0,.slice none 0 0,.slice none 0 0]) x y/\∃z A B C D E F G,Rv af (vA l 0) y (.agg #[vI z,vI A,.slice B C D,.slice E F G])/\K (.tuple #[.agg #[vI z,vI A,.slice B C D,.slice E F G],vI 151]) y) (∃y:FP [.one .ptr],(∃z:World->Prop,z (World.drew x)/\∃A B C D E F G H,(∀I,z I->Ld af (vA j 0) I (.agg #[vI A,vI B,.slice C D E,.slice F G H]))/\∃I J L M N O P Q,(∀R,z R->Ld af (vA j 0) R (.agg #[vI I,vI J,.slice L M N,.slice O P Q]))/\(uL rX #[.agg #[vI I,vI J,.slice L M N,.slice O P Q]] (World.drew x) λR S T U=>z U/\(Cf gw #[.agg #[vI A,vI B,.slice C D E,.slice F G H],.slice R S T] U λV X=>∃Y Z aa ac ad ag al an,V=.returned (.agg #[vI Y,vI Z,.slice aa ac ad,.slice ag al an])/\z X/\nA X (.cells #[vI 0,vI 0,.slice none 0 0,.slice none 0 0] af) λba bb=>z bb/\∃bc,Sv af (vA ba 0) (.agg #[vI Y,vI Z,.slice aa ac ad,.slice ag al an]) bb bc/\y (vA ba 0) bc)/\nA U (.cells #[vI 0,vI 0,.slice none 0 0,.slice none 0 0] af) λV X=>z X/\Cf gw #[.agg #[vI A,vI B,.slice C D E,.slice F G H],.slice R S T] X λY Z=>∃aa ac ad ag al an ba bb,Y=.returned (.agg #[vI aa,vI ac,.slice ad ag al,.slice an ba bb])/\z Z/\∃bc,Sv af (vA V 0) (.agg #[vI aa,vI ac,.slice ad ag al,.slice an ba bb]) Z bc/\y (vA V 0) bc)/\∀R S,R=(World.drew x).heap.size->S=(World.drew x).alloc (.cells #[vI 0,vI 0,.slice none 0 0,.slice none 0 0] af)->z S/\uL rX #[.agg #[vI I,vI J,.slice L M N,.slice O P Q]] S λT U V X=>z X/\Cf gw #[.agg #[vI A,vI B,.slice C D E,.slice F G H],.slice T U V] X λY Z=>∃aa ac ad ag al an ba bb,Y=.returned (.agg #[vI aa,vI ac,.slice ad ag al,.slice an ba bb])/\z Z/\∃bc,Sv af (vA R 0) (.agg #[vI aa,vI ac,.slice ad ag al,.slice an ba bb]) Z bc/\y (vA R 0) bc)/\∀z,aC 4 (∀A,y z A->∃B:World->Prop,B (World.drew A)/\∃C D E F G H I J,(∀L,B L->Ld af z L (.agg #[vI C,vI D,.slice E F G,.slice H I J]))/\∃L M N O P Q R S,(∀T,B T->Ld af z T (.agg #[vI L,vI M,.slice N O P,.slice Q R S]))/\uL oR #[.agg #[vI L,vI M,.slice N O P,.slice Q R S]] (World.drew A) λT U V X=>B X/\Cf gw #[.agg #[vI C,vI D,.slice E F G,.slice H I J],.slice T U V] X λY Z=>∃aa ac ad ag al an ba bb,Y=.returned (.agg #[vI aa,vI ac,.slice ad ag al,.slice an ba bb])/\B Z/\∃bc,Sv af (vA l 0) (.agg #[vI aa,vI ac,.slice ad ag al,.slice an ba bb]) Z bc/\∃bd bj bk bl bn bo bq bw,Rv af (vA l 0) bc (.agg #[vI bd,vI bj,.slice bk bl bn,.slice bo bq bw])/\K (.tuple #[.agg #[vI bd,vI bj,.slice bk bl bn,.slice bo bq bw],vI 0]) bc))):Cf rW #[.agg #[vI a,vI b,.slice c d e,.slice f g i]] w (Ret K):=ru func142 [(10,[(4,.one .ptr)]),(4000011,[]),(4000013,[])] h
theorem C9 (a b:Int)(c:Option Addr)(d e:Nat)(f:Option Addr)(g i:Nat)(j k:Int)(l:Option Addr)(m n:Nat)(o:Option Addr)(p q:Nat){w K}(h:nA w (.cells #[vI a,vI b,.slice c d e,.slice f g i] af) λr s=>nA s (.cells #[vI j,vI k,.slice l m n,.slice o p q] af) λt u=>nA u (.cells #[vI 0,vI 0,.slice none 0 0,.slice none 0 0] af) λv x=>∃y z A B C D E F,Ld af (vA r 0) x (.agg #[vI y,vI z,.slice A B C,.slice D E F])/\∃G H I J L M N O,Ld af (vA t 0) x (.agg #[vI G,vI H,.slice I J L,.slice M N O])/\Cf dq #[.agg #[vI y,vI z,.slice A B C,.slice D E F],.agg #[vI G,vI H,.slice I J L,.slice M N O]] x λP Q=>∃R S T U V X Y Z aa,P=rT #[.agg #[vI R,vI S,.slice T U V,.slice X Y Z],vI aa]/\nA Q (.cells #[vI 0,vI 0,.slice none 0 0,.slice none 0 0] af) λac ad=>∃ag,Sv af (vA ac 0) (.agg #[vI R,vI S,.slice T U V,.slice X Y Z]) ad ag/\ae (aa !=(0:Int)) (∃al an ba bb bc bd bj bk,Ld af (vA ac 0) ag (.agg #[vI al,vI an,.slice ba bb bc,.slice bd bj bk])/\∃bl,Sv af (vA v 0) (.agg #[vI al,vI an,.slice ba bb bc,.slice bd bj bk]) ag bl/\∃bn bo bq bw bx bz ca cc,Rv af (vA v 0) bl (.agg #[vI bn,vI bo,.slice bq bw bx,.slice bz ca cc])/\K (.tuple #[.agg #[vI bn,vI bo,.slice bq bw bx,.slice bz ca cc],vI aa]) bl) (∃al an ba bb bc bd bj bk,Ld af (vA ac 0) ag (.agg #[vI al,vI an,.slice ba bb bc,.slice bd bj bk])/\Cf rW #[.agg #[vI al,vI an,.slice ba bb bc,.slice bd bj bk]] ag λbl bn=>∃bo bq bw bx bz ca cc ch cl,bl=rT #[.agg #[vI bo,vI bq,.slice bw bx bz,.slice ca cc ch],vI cl]/\∃cm,Sv af (vA v 0) (.agg #[vI bo,vI bq,.slice bw bx bz,.slice ca cc ch]) bn cm/\∃cn cp cs cx da db dc dd,Rv af (vA v 0) cm (.agg #[vI cn,vI cp,.slice cs cx da,.slice db dc dd])/\K (.tuple #[.agg #[vI cn,vI cp,.slice cs cx da,.slice db dc dd],vI cl]) cm)):Cf nS #[.agg #[vI a,vI b,.slice c d e,.slice f g i],.agg #[vI j,vI k,.slice l m n,.slice o p q]] w (Ret K):=ru func85 [] h
theorem C8 (a b:Value){w K}(h:nA w (.cells (Value.cells a) aj) λc d=>nA d (.cells (Value.cells b) aj) λe f=>nA f (.cells aV aj) λg i=>true/\∃j k l m n o p q,Ld af (vA c 0) i (.agg #[vI j,vI k,.slice l m n,.slice o p q])/\true/\∃r s t u v x y z,Ld af (vA e 0) i (.agg #[vI r,vI s,.slice t u v,.slice x y z])/\Cf nS #[.agg #[vI j,vI k,.slice l m n,.slice o p q],.agg #[vI r,vI s,.slice t u v,.slice x y z]] i λA B=>∃C D E F G H I J L,A=rT #[.agg #[vI C,vI D,.slice E F G,.slice H I J],vI L]/\nA B (.cells #[vI 0,vI 0,.slice none 0 0,.slice none 0 0] af) λM N=>∃O,Sv af (vA M 0) (.agg #[vI C,vI D,.slice E F G,.slice H I J]) N O/\true/\∃P Q R S T U V X,Ld af (vA c 4) O (.agg #[vI P,vI Q,.slice R S T,.slice U V X])/\true/\∃Y Z aa ac ad ag al an,Ld af (vA e 4) O (.agg #[vI Y,vI Z,.slice aa ac ad,.slice ag al an])/\Cf nS #[.agg #[vI P,vI Q,.slice R S T,.slice U V X],.agg #[vI Y,vI Z,.slice aa ac ad,.slice ag al an]] O λba bb=>∃bc bd bj bk bl bn bo bq bw,ba=rT #[.agg #[vI bc,vI bd,.slice bj bk bl,.slice bn bo bq],vI bw]/\nA bb (.cells #[vI 0,vI 0,.slice none 0 0,.slice none 0 0] af) λbz ca=>∃cc,Sv af (vA bz 0) (.agg #[vI bc,vI bd,.slice bj bk bl,.slice bn bo bq]) ca cc/\∃ch cl cm cn cp cs cx da,Ld af (vA M 0) cc (.agg #[vI ch,vI cl,.slice cm cn cp,.slice cs cx da])/\∃db dc dd dg dk dl dn dr,Ld af (vA bz 0) cc (.agg #[vI db,vI dc,.slice dd dg dk,.slice dl dn dr])/\nA cc (.cells aV aj) λds ea=>∃eb,Sv aj (vA ds 0) (.agg #[vI ch,vI cl,.slice cm cn cp,.slice cs cx da,vI db,vI dc,.slice dd dg dk,.slice dl dn dr,.bool false,.bool false,.bool false,.bool false,.bool false]) ea eb/\∃ec:Nat->FP [.one (.int .i64)],(∃ed,ec ed (0:Int) eb)/\∀ed ef,aC 17 (∀eg,ec ed ef eg->ae (decide (ef<(2:Int))) (true/\(bx ef ((2:Nat):Int)/\true)/\∃eh,Ld aX (ao (vA c 8) ef 1) eg (.bool eh)/\ae eh (true/\(bx ef ((2:Nat):Int)/\true)/\∃ei,Ld aX (ao (vA e 8) ef 1) eg (.bool ei)/\true/\(bx ef ((2:Nat):Int)/\true)/\∃ej,Sv aX (ao (vA ds 8) ef 1) (.bool ei) eg ej/\∃ek:Nat,ek<ed/\ec ek (i64.wrap (ef+(1:Int))) ej) (true/\(bx ef ((2:Nat):Int)/\true)/\∃ei,Sv aX (ao (vA ds 8) ef 1) (.bool false) eg ei/\∃ej:Nat,ej<ed/\ec ej (i64.wrap (ef+(1:Int))) ei)) (∃eh:Nat->FP [.one (.int .i64)],(∃ei,eh ei (0:Int) eg)/\∀ei ej,aC 17 (∀ek,eh ei ej ek->ae (decide (ej<(3:Int))) (true/\(bx ej ((3:Nat):Int)/\true)/\∃el,Ld aX (ao (vA c 10) ej 1) ek (.bool el)/\ae el (true/\(bx ej ((3:Nat):Int)/\true)/\∃em,Ld aX (ao (vA e 10) ej 1) ek (.bool em)/\true/\(bx ej ((3:Nat):Int)/\true)/\∃en,Sv aX (ao (vA ds 10) ej 1) (.bool em) ek en/\∃eo:Nat,eo<ei/\eh eo (i64.wrap (ej+(1:Int))) en) (true/\(bx ej ((3:Nat):Int)/\true)/\∃em,Sv aX (ao (vA ds 10) ej 1) (.bool false) ek em/\∃en:Nat,en<ei/\eh en (i64.wrap (ej+(1:Int))) em)) (∃el,Ld aj (vA ds 0) ek el/\nA ek (.cells #[vI L,vI bw] fJ) λem en=>Cf jl #[el,.slice (vA em 0) 2 2] en λeo ep=>∃eq er,eo=rT #[eq,vI er]/\∃es,Sv aj (vA g 0) eq ep es/\∃et,Rv aj (vA g 0) es et/\K (.tuple #[et,vI er]) es))))):Cf dI #[a,b] w (Ret K):=ru func40 [(12,[(32,.one (.int .i64))]),(29,[(49,.one (.int .i64))])] h
theorem uv (a:Int)(b c:Option Addr){w K}(h:∃d,(∀e,bW w e->Ld aK b e (.pointer d))/\(Option.isSome d=true)/\(Option.isSome d=true)/\∃e f g,(∀i,bW w i->Ld ar (Option.map (λj=>j.add 5) d) i (.slice e f g))/\(bx a ((f:Nat):Int)/\Option.isSome e=true)/\∃i,(∀j,bW w j->Ld aw (ao e a 1) j (vI i))/\∃j,(∀k,bW w k->Ld aw c k (vI j))/\∀k,bW w k->K (.bool (i==j)) k):Cf bp #[vI a,.pointer b,.pointer c] w (Ret K):=ru func241 [] h
theorem fZ (a:Option Addr)(b c:Nat)(d e:Option Addr){w K}(h:∃f:Nat->FP [.one (.int .i64)],(∃g,f g (0:Int) w)/\∀g i,aC 12 (∀j,f g i j->ae (decide (i<((b:Nat):Int))) ((bx i ((b:Nat):Int)/\Option.isSome a=true)/\∃k,Ld aw (ao a i 1) j (vI k)/\uB bp #[vI k,.pointer d,.pointer e] j λl m=>ae l (K (vI i) m) (∃n:Nat,n<g/\f n (i64.wrap (i+(1:Int))) m)) (K (vI (-1)) j))):Cf bm #[.slice a b c,.func (.func bp) #[] #[.pointer d,.pointer e]] w (Ret K):=ru func202 [(6,[(8,.one (.int .i64))])] h
theorem fU (a:Option Addr)(b c:Nat)(d e:Option Addr){w K}(h:uI bm #[.slice a b c,.func (.func bp) #[] #[.pointer d,.pointer e]] w λf g=>ae (f==(-1:Int)) (K (.slice a b c) g) (∃i:Nat->FP [.one (.int .i64),.one (.int .i64)],(∃j,i j f (i64.wrap (f+(1:Int))) g)/\∀j k l,aC 21 (∀m,i j k l m->ae (decide (l<((b:Nat):Int))) ((bx l ((b:Nat):Int)/\Option.isSome a=true)/\∃n,Ld aw (ao a l 1) m (vI n)/\uB bp #[vI n,.pointer d,.pointer e] m λo p=>ae (!o) ((bx k ((b:Nat):Int)/\Option.isSome a=true)/\∃q,Sv aw (ao a k 1) (vI n) p q/\∃r:Nat,r<j/\i r (i64.wrap (k+(1:Int))) (i64.wrap (l+(1:Int))) q) (∃q:Nat,q<j/\i q k (i64.wrap (l+(1:Int))) p)) (bd k ((b:Nat):Int)/\∃n,(Builtin.clear_ #[ar] Gx #[.slice (qL a c (Int.toNat k) 1) (b-(Int.toNat k)) (c-(Int.toNat k))]).run prog m=.ok (.tuple #[]) n/\bd k ((c:Nat):Int)/\K (.slice a (Int.toNat k) c) n)))):Cf eY #[.slice a b c,.func (.func bp) #[] #[.pointer d,.pointer e]] w (Ret K):=ru func240 [(16,[(5,.one (.int .i64)),(6,.one (.int .i64))])] h
theorem yB (a b:Option Addr)(c d:Nat)(e:Int){w K}(h:nA w (.cells #[.pointer a] aK) λf g=>nA g (.map #[] 0) λi j=>∃k:Nat->FP [.one (.int .i64)],(∃l,k l (0:Int) j)/\∀l m,aC 43 (∀n,k l m n->ae (decide (m<((c:Nat):Int))) ((bx m ((c:Nat):Int)/\Option.isSome b=true)/\∃o,Ld aw (ao b m 1) n (vI o)/\∃p,(∀q,bW n q->Ld aK (vA f 0) q (.pointer p))/\(Option.isSome p=true)/\(Option.isSome p=true)/\∃q r s,(∀t,bW n t->Ld aF (Option.map (λu=>u.add 4) p) t (.slice q r s))/\∃t,(∀u,bW n u->Ld aK (vA f 0) u (.pointer t))/\(Option.isSome t=true)/\(Option.isSome t=true)/\(isSome (Option.map (λu=>u.add 0) t))/\∃u,(∀v,bW n v->Ld aw (Option.map (λx=>x.add 0) (Option.map (λx=>x.add 0) t)) v (vI u))/\(bx (i64.wrap ((i64.wrap (o*u))+e)) ((r:Nat):Int)/\Option.isSome q=true)/\∃v x y,(∀z,bW n z->Ld ar (ao q (i64.wrap ((i64.wrap (o*u))+e)) 1) z (.slice v x y))/\∀z,bW n z->∃A:Nat->FP [.one (.int .i64)],(∃B,A B (0:Int) z)/\∀B C,aC 21 (∀D,A B C D->ae (decide (C<((x:Nat):Int))) ((bx C ((x:Nat):Int)/\Option.isSome v=true)/\∃E,Ld aw (ao v C 1) D (vI E)/\∃F,Ld aK (vA f 0) D (.pointer F)/\(Option.isSome F=true)/\(Option.isSome F=true)/\∃G H I,Ld ar (Option.map (λJ=>J.add 5) F) D (.slice G H I)/\(bx E ((H:Nat):Int)/\Option.isSome G=true)/\∃J,Ld aw (ao G E 1) D (vI J)/\∃L M N,(Instr.lookup j3 (.map (some i)) (vI J) false).run prog D=.ok (.slice L M N) D/\nA D (.cells #[vI E] aw) λO P=>∃Q R S T,(Builtin.append_ #[ar,ar] ar #[.slice L M N,.slice (vA O 0) 1 1]).run prog P=.ok (.slice R S T) Q/\∃U,(Instr.mapUpdate j3 (.map (some i)) (vI J) (.slice R S T)).run prog Q=.ok () U/\∃V:Nat,V<B/\A V (i64.wrap (C+(1:Int))) U) (∃E:Nat,E<l/\k E (i64.wrap (m+(1:Int))) D))) (∃o p,(Instr.range j3 (.map (some i))).run prog n=.ok (.pointer p) o/\∃q:Nat->FP [],(∃r,q r o)/\∀r,aC 83 (∀s,q r s->((∃t,(Instr.next (.pointer p) false Gx).run prog s=.ok (.tuple #[.bool false]) t/\K (.tuple #[]) t)\/(∃t u v,(Instr.next (.pointer p) false Gx).run prog s=.ok (.tuple #[.bool true,u,v]) t/\∃x:FP [.one (.int .i64),.one .slice],(∃y z,(Instr.entry (.pointer p)).run prog t=.ok (.tuple #[y,z]) t/\ap [.one (.int .i64),.one .slice] x [y,z] t)/\∀y z A B,aC 3 (∀C,x y z A B C->∃D,Ld aK (vA f 0) C (.pointer D)/\(Option.isSome D=true)/\(Option.isSome D=true)/\∃E F G,Ld aF (Option.map (λH=>H.add 6) D) C (.slice E F G)/\(bx y ((F:Nat):Int)/\Option.isSome E=true)/\∃H I J,Ld ar (ao E y 1) C (.slice H I J)/\ae (((A:Nat):Int)==((I:Nat):Int)) (∃L:Nat,L<r/\q L C) (∃L,Ld aK (vA f 0) C (.pointer L)/\(Option.isSome L=true)/\(Option.isSome L=true)/\∃M N O,Ld aF (Option.map (λP=>P.add 6) L) C (.slice M N O)/\nA C (.cells #[vI 0] aw) λP Q=>∃R,Sv aw (vA P 0) (vI ((N:Nat):Int)) Q R/\∃S:Nat->FP [.one (.int .i64)],(∃T,S T (0:Int) R)/\∀T U,aC 12 (∀V,S T U V->ae (decide (U<((A:Nat):Int))) ((bx U ((A:Nat):Int)/\Option.isSome z=true)/\∃X,Ld aw (ao z U 1) V (vI X)/\∃Y:World->Prop,Y (World.drew V)/\∃Z,(∀aa,Y aa->Ld aK (vA f 0) aa (.pointer Z))/\(Option.isSome Z=true)/\(Option.isSome Z=true)/\∃aa ac ad,(∀ag,Y ag->Ld ar (Option.map (λal=>al.add 5) Z) ag (.slice aa ac ad))/\∃ag,(∀al,Y al->Ld aw (vA P 0) al (vI ag))/\(bx X ((ac:Nat):Int)/\Option.isSome aa=true)/\∃al,Sv aw (ao aa X 1) (vI ag) (World.drew V) al/\∃an:Nat,an<T/\S an (i64.wrap (U+(1:Int))) al) (∃X:World->Prop,X (World.drew V)/\∃Y,(∀Z,X Z->Ld aK (vA f 0) Z (.pointer Y))/\(Option.isSome Y=true)/\(Option.isSome Y=true)/\∃Z aa ac,(∀ad,X ad->Ld aF (Option.map (λag=>ag.add 6) Y) ad (.slice Z aa ac))/\∃ad,(∀ag,X ag->Ld aK (vA f 0) ag (.pointer ad))/\(Option.isSome ad=true)/\(Option.isSome ad=true)/\∃ag al an,(∀ba,X ba->Ld aF (Option.map (λbb=>bb.add 6) ad) ba (.slice ag al an))/\(bx y ((al:Nat):Int)/\Option.isSome ag=true)/\∃ba bb bc,(∀bd,X bd->Ld ar (ao ag y 1) bd (.slice ba bb bc))/\uL eY #[.slice ba bb bc,.func (.func bp) #[] #[.pointer (vA f 0),.pointer (vA P 0)]] (World.drew V) λbd bj bk bl=>X bl/\(bx y ((aa:Nat):Int)/\Option.isSome Z=true)/\∃bn,Sv ar (ao Z y 1) (.slice bd bj bk) bl bn/\∃bo:World->Prop,bo (World.drew bn)/\∃bq,(∀bw,bo bw->Ld aK (vA f 0) bw (.pointer bq))/\∃bw,(∀bz,bo bz->Ld aK (vA f 0) bz (.pointer bw))/\(Option.isSome bw=true)/\(Option.isSome bw=true)/\∃bz ca cc,(∀ch,bo ch->Ld aF (Option.map (λcl=>cl.add 6) bw) ch (.slice bz ca cc))/\∀ch cl,ch=(World.drew bn).heap.size->cl=(World.drew bn).alloc (.cells #[.slice z A B] ar)->bo cl/\∃cm cn cp cs,(Builtin.append_ #[aF,aF] aF #[.slice bz ca cc,.slice (vA ch 0) 1 1]).run prog cl=.ok (.slice cn cp cs) cm/\bo cm/\(Option.isSome bq=true)/\(Option.isSome bq=true)/\∃cx,Sv aF (Option.map (λda=>da.add 6) bq) (.slice cn cp cs) cm cx/\∃da:World->Prop,da (World.drew cx)/\∃db,(∀dc,da dc->Ld aK (vA f 0) dc (.pointer db))/\∃dc,(∀dd,da dd->Ld aK (vA f 0) dd (.pointer dc))/\(Option.isSome dc=true)/\(Option.isSome dc=true)/\∃dd dg dk,(∀dl,da dl->Ld aF (Option.map (λdn=>dn.add 7) dc) dl (.slice dd dg dk))/\∃dl,(∀dn,da dn->Ld aK (vA f 0) dn (.pointer dl))/\(Option.isSome dl=true)/\(Option.isSome dl=true)/\∃dn dr ds,(∀ea,da ea->Ld aF (Option.map (λeb=>eb.add 6) dl) ea (.slice dn dr ds))/\(bx y ((dr:Nat):Int)/\Option.isSome dn=true)/\∃ea eb ec,(∀ed,da ed->Ld ar (ao dn y 1) ed (.slice ea eb ec))/\uL cz #[.slice z A B] (World.drew cx) λed ef eg eh=>da eh/\uL cz #[.slice ea eb ec] eh λei ej ek el=>da el/\nA el (.cells #[.slice ed ef eg,.slice ei ej ek] ar) λem en=>da en/\∃eo ep eq er,(Builtin.append_ #[aF,aF] aF #[.slice dd dg dk,.slice (vA em 0) 2 2]).run prog en=.ok (.slice ep eq er) eo/\da eo/\(Option.isSome db=true)/\(Option.isSome db=true)/\∃es,Sv aF (Option.map (λet=>et.add 7) db) (.slice ep eq er) eo es/\∃et:Nat,et<r/\q et es)))))))))):Cf nf #[.pointer a,.slice b c d,vI e] w (Ret K):=ru func223 [(8,[(20,.one (.int .i64))]),(22,[(40,.one (.int .i64))]),(41,[]),(49,[(12,.one (.int .i64)),(13,.one .slice)]),(63,[(86,.one (.int .i64))]),(4000074,[]),(4000077,[]),(4000079,[]),(4000080,[])] h
theorem yA (a b:Int)(c:Option Addr)(d e:Nat)(f:Option Addr)(g i:Nat){w K}(h:nA w (.cells #[vI a,vI b,.slice c d e,.slice f g i] af) λj k=>true/\∃l m n,Ld aO (vA j 3) k (.slice l m n)/\∃o:FP [.one .ptr],(∃p:World->Prop,p (World.drew k)/\∃q r s t u v x y,(∀z,p z->Ld af (vA j 0) z (.agg #[vI q,vI r,.slice s t u,.slice v x y]))/\true/\∃z,(∀A,p A->Ld aw (vA j 0) A (vI z))/\(∃A B C D,(Instr.makeSlice aF (vI (i64.wrap (((m:Nat):Int)*z))) (vI (i64.wrap (((m:Nat):Int)*z)))).run prog (World.drew k)=.ok (.slice B C D) A/\p A/\(∃E F G H,(Instr.makeSlice ar (vI ((m:Nat):Int)) (vI ((m:Nat):Int))).run prog A=.ok (.slice F G H) E/\p E/\∃I J L M,(Instr.makeSlice aF (vI 2) (vI 2)).run prog E=.ok (.slice J L M) I/\p I/\nA I (.cells #[vI q,vI r,.slice s t u,.slice v x y,.slice B C D,.slice F G H,.slice J L M,.slice none 0 0] bJ) λN O=>p O/\o (vA N 0) O)/\∃E F G H,(Instr.makeSlice aF (vI 2) (vI 2)).run prog A=.ok (.slice F G H) E/\p E/\∃I J L M,(Instr.makeSlice ar (vI ((m:Nat):Int)) (vI ((m:Nat):Int))).run prog E=.ok (.slice J L M) I/\p I/\nA I (.cells #[vI q,vI r,.slice s t u,.slice v x y,.slice B C D,.slice J L M,.slice F G H,.slice none 0 0] bJ) λN O=>p O/\o (vA N 0) O)/\(∃A B C D,(Instr.makeSlice ar (vI ((m:Nat):Int)) (vI ((m:Nat):Int))).run prog (World.drew k)=.ok (.slice B C D) A/\p A/\(∃E F G H,(Instr.makeSlice aF (vI (i64.wrap (((m:Nat):Int)*z))) (vI (i64.wrap (((m:Nat):Int)*z)))).run prog A=.ok (.slice F G H) E/\p E/\∃I J L M,(Instr.makeSlice aF (vI 2) (vI 2)).run prog E=.ok (.slice J L M) I/\p I/\nA I (.cells #[vI q,vI r,.slice s t u,.slice v x y,.slice F G H,.slice B C D,.slice J L M,.slice none 0 0] bJ) λN O=>p O/\o (vA N 0) O)/\∃E F G H,(Instr.makeSlice aF (vI 2) (vI 2)).run prog A=.ok (.slice F G H) E/\p E/\∃I J L M,(Instr.makeSlice aF (vI (i64.wrap (((m:Nat):Int)*z))) (vI (i64.wrap (((m:Nat):Int)*z)))).run prog E=.ok (.slice J L M) I/\p I/\nA I (.cells #[vI q,vI r,.slice s t u,.slice v x y,.slice J L M,.slice B C D,.slice F G H,.slice none 0 0] bJ) λN O=>p O/\o (vA N 0) O)/\∃A B C D,(Instr.makeSlice aF (vI 2) (vI 2)).run prog (World.drew k)=.ok (.slice B C D) A/\p A/\(∃E F G H,(Instr.makeSlice aF (vI (i64.wrap (((m:Nat):Int)*z))) (vI (i64.wrap (((m:Nat):Int)*z)))).run prog A=.ok (.slice F G H) E/\p E/\∃I J L M,(Instr.makeSlice ar (vI ((m:Nat):Int)) (vI ((m:Nat):Int))).run prog E=.ok (.slice J L M) I/\p I/\nA I (.cells #[vI q,vI r,.slice s t u,.slice v x y,.slice F G H,.slice J L M,.slice B C D,.slice none 0 0] bJ) λN O=>p O/\o (vA N 0) O)/\∃E F G H,(Instr.makeSlice ar (vI ((m:Nat):Int)) (vI ((m:Nat):Int))).run prog A=.ok (.slice F G H) E/\p E/\∃I J L M,(Instr.makeSlice aF (vI (i64.wrap (((m:Nat):Int)*z))) (vI (i64.wrap (((m:Nat):Int)*z)))).run prog E=.ok (.slice J L M) I/\p I/\nA I (.cells #[vI q,vI r,.slice s t u,.slice v x y,.slice J L M,.slice F G H,.slice B C D,.slice none 0 0] bJ) λN O=>p O/\o (vA N 0) O)/\∀p,aC 11 (∀q,o p q->∃r:Nat->FP [.one (.int .i64)],(∃s,r s (0:Int) q)/\∀s t,aC 82 (∀u,r s t u->ae (decide (t<((m:Nat):Int))) (true/\∃v,Ld aw (vA j 0) u (vI v)/\∃x:Nat->FP [.one (.int .i64)],(∃y,x y (0:Int) u)/\∀y z,aC 36 (∀A,x y z A->ae (decide (z<v)) (true/\∃B C D,(∀E,bW A E->Ld ar (vA j 2) E (.slice B C D))/\true/\∃E,(∀F,bW A F->Ld aw (vA j 0) F (vI E))/\(bx (i64.wrap ((i64.wrap (t*E))+z)) ((C:Nat):Int)/\Option.isSome B=true)/\∃F,(∀G,bW A G->Ld aw (ao B (i64.wrap ((i64.wrap (t*E))+z)) 1) G (vI F))/\true/\∃G,(∀H,bW A H->Ld aw (vA j 0) H (vI G))/\∀H,bW A H->∃I:World->Prop,I (World.drew H)/\(Option.isSome p=true)/\(Option.isSome p=true)/\∃J L M,(∀N,I N->Ld aF (Option.map (λO=>O.add 4) p) N (.slice J L M))/\(Option.isSome p=true)/\(Option.isSome p=true)/\∃N O P,(∀Q,I Q->Ld aF (Option.map (λR=>R.add 4) p) Q (.slice N O P))/\(bx (i64.wrap ((i64.wrap (F*G))+z)) ((O:Nat):Int)/\Option.isSome N=true)/\∃Q R S,(∀T,I T->Ld ar (ao N (i64.wrap ((i64.wrap (F*G))+z)) 1) T (.slice Q R S))/\∀T U,T=(World.drew H).heap.size->U=(World.drew H).alloc (.cells #[vI t] aw)->I U/\∃V X Y Z,(Builtin.append_ #[ar,ar] ar #[.slice Q R S,.slice (vA T 0) 1 1]).run prog U=.ok (.slice X Y Z) V/\I V/\(bx (i64.wrap ((i64.wrap (F*G))+z)) ((L:Nat):Int)/\Option.isSome J=true)/\∃aa,Sv ar (ao J (i64.wrap ((i64.wrap (F*G))+z)) 1) (.slice X Y Z) V aa/\∃ac:Nat,ac<y/\x ac (i64.wrap (z+(1:Int))) aa) (∃B:FP [],(true/\∃C D E,Ld aO (vA j 3) A (.slice C D E)/\(bx t ((D:Nat):Int)/\Option.isSome C=true)/\∃F,Ld aX (ao C t 1) A (.bool F)/\ae F ((Option.isSome p=true)/\(Option.isSome p=true)/\∃G H I,Ld ar (Option.map (λJ=>J.add 5) p) A (.slice G H I)/\(bx t ((H:Nat):Int)/\Option.isSome G=true)/\∃J,Sv aw (ao G t 1) (vI 1) A J/\B J) (B A))/\aC 11 (∀C,B C->∃D:World->Prop,D (World.drew C)/\(Option.isSome p=true)/\(Option.isSome p=true)/\∃E F G,(∀H,D H->Ld aF (Option.map (λI=>I.add 6) p) H (.slice E F G))/\(Option.isSome p=true)/\(Option.isSome p=true)/\∃H I J,(∀L,D L->Ld ar (Option.map (λM=>M.add 5) p) L (.slice H I J))/\(bx t ((I:Nat):Int)/\Option.isSome H=true)/\∃L,(∀M,D M->Ld aw (ao H t 1) M (vI L))/\(Option.isSome p=true)/\(Option.isSome p=true)/\∃M N O,(∀P,D P->Ld aF (Option.map (λQ=>Q.add 6) p) P (.slice M N O))/\(Option.isSome p=true)/\(Option.isSome p=true)/\∃P Q R,(∀S,D S->Ld ar (Option.map (λT=>T.add 5) p) S (.slice P Q R))/\(bx t ((Q:Nat):Int)/\Option.isSome P=true)/\∃S,(∀T,D T->Ld aw (ao P t 1) T (vI S))/\(bx S ((N:Nat):Int)/\Option.isSome M=true)/\∃T U V,(∀X,D X->Ld ar (ao M S 1) X (.slice T U V))/\∀X Y,X=(World.drew C).heap.size->Y=(World.drew C).alloc (.cells #[vI t] aw)->D Y/\∃Z aa ac ad,(Builtin.append_ #[ar,ar] ar #[.slice T U V,.slice (vA X 0) 1 1]).run prog Y=.ok (.slice aa ac ad) Z/\D Z/\(bx L ((F:Nat):Int)/\Option.isSome E=true)/\∃ag,Sv ar (ao E L 1) (.slice aa ac ad) Z ag/\∃al:Nat,al<s/\r al (i64.wrap (t+(1:Int))) ag)))) (∃v:World->Prop,v (World.drew u)/\(Option.isSome p=true)/\(Option.isSome p=true)/\∃x y z,(∀A,v A->Ld aF (Option.map (λB=>B.add 6) p) A (.slice x y z))/\(bx (0:Int) ((y:Nat):Int)/\Option.isSome x=true)/\∃A B C,(∀D,v D->Ld ar (ao x (0:Int) 1) D (.slice A B C))/\(Option.isSome p=true)/\(Option.isSome p=true)/\∃D E F,(∀G,v G->Ld aF (Option.map (λH=>H.add 6) p) G (.slice D E F))/\(bx (1:Int) ((E:Nat):Int)/\Option.isSome D=true)/\∃G H I,(∀J,v J->Ld ar (ao D (1:Int) 1) J (.slice G H I))/\uL cz #[.slice A B C] (World.drew u) λJ L M N=>v N/\uL cz #[.slice G H I] N λO P Q R=>v R/\nA R (.cells #[.slice J L M,.slice O P Q] ar) λS T=>v T/\(Option.isSome p=true)/\(Option.isSome p=true)/\∃U,Sv aF (Option.map (λV=>V.add 7) p) (.slice (vA S 0) 2 2) T U/\K (.pointer p) U)))):Cf mZ #[.agg #[vI a,vI b,.slice c d e,.slice f g i]] w (Ret K):=ru func222 [(4,[(4,.one .ptr)]),(4000005,[]),(10,[(23,.one (.int .i64))]),(25,[(28,.one (.int .i64))]),(4000038,[]),(40,[]),(4000046,[]),(4000049,[])] h
theorem zY (a b:Int)(c:Option Addr)(d e:Nat)(f:Option Addr)(g i:Nat){w K}(h:nA w (.cells #[vI a,vI b,.slice c d e,.slice f g i] af) λj k=>∃l m n o p q r s,Ld af (vA j 0) k (.agg #[vI l,vI m,.slice n o p,.slice q r s])/\uP mZ #[.agg #[vI l,vI m,.slice n o p,.slice q r s]] k λt u=>∃v:Nat->FP [],(∃x,v x u)/\∀x,aC 44 (∀y,v x y->(Option.isSome t=true)/\(Option.isSome t=true)/\∃z A B,Ld aF (Option.map (λC=>C.add 7) t) y (.slice z A B)/\ae (decide (((A:Nat):Int)>(0:Int))) ((Option.isSome t=true)/\(Option.isSome t=true)/\∃C D E,(∀F,bW y F->Ld aF (Option.map (λG=>G.add 7) t) F (.slice C D E))/\(Option.isSome t=true)/\(Option.isSome t=true)/\∃F G H,(∀I,bW y I->Ld aF (Option.map (λJ=>J.add 7) t) I (.slice F G H))/\(bx (i64.wrap (((G:Nat):Int)-(1:Int))) ((D:Nat):Int)/\Option.isSome C=true)/\∃I J L,(∀M,bW y M->Ld ar (ao C (i64.wrap (((G:Nat):Int)-(1:Int))) 1) M (.slice I J L))/\∀M,bW y M->∃N:World->Prop,N (World.drew M)/\(Option.isSome t=true)/\(Option.isSome t=true)/\∃O P Q,(∀R,N R->Ld aF (Option.map (λS=>S.add 7) t) R (.slice O P Q))/\(Option.isSome t=true)/\(Option.isSome t=true)/\∃R S T,(∀U,N U->Ld aF (Option.map (λV=>V.add 7) t) U (.slice R S T))/\bd (i64.wrap (((S:Nat):Int)-(1:Int))) ((Q:Nat):Int)/\(Option.isSome t=true)/\(Option.isSome t=true)/\∃U,Sv aF (Option.map (λV=>V.add 7) t) (.slice O (Int.toNat (i64.wrap (((S:Nat):Int)-(1:Int)))) Q) (World.drew M) U/\true/\∃V,Ld aw (vA j 0) U (vI V)/\∃X:Nat->FP [.one (.int .i64)],(∃Y,X Y (0:Int) U)/\∀Y Z,aC 8 (∀aa,X Y Z aa->ae (decide (Z<V)) (uU nf #[.pointer t,.slice I J L,vI Z] aa λac=>∃ad:Nat,ad<Y/\X ad (i64.wrap (Z+(1:Int))) ac) (∃ac:Nat,ac<x/\v ac aa))) ((Option.isSome t=true)/\(Option.isSome t=true)/\∃C D E,Ld ar (Option.map (λF=>F.add 5) t) y (.slice C D E)/\K (.slice C D E) y))):Cf oR #[.agg #[vI a,vI b,.slice c d e,.slice f g i]] w (Ret K):=ru func189 [(6,[]),(4000017,[]),(21,[(42,.one (.int .i64))])] h
theorem DY {P:Program}{t e:TypeId}(hu:P.underlying t=some (.slice e))(d:Nat)(a:Option Addr)(n c:Nat)(w:World):(Op.equalIn (d+1) t (.slice a n c) (.slice none 0 0)).run P w=.ok a.isNone w:=by cases a <;> simp[Op.equalIn,bD hu]
theorem KD {P:Program}{t e:TypeId}(hu:P.underlying t=some (.slice e))(a:Option Addr)(n c:Nat){x y:Operand}(w:World):((do eqGuard .eql t x y (.slice a n c) (.slice none 0 0);binOp .eql t (.slice a n c) (.slice none 0 0):Sem Value)).run P w=.ok (.bool a.isNone) w:=by
 have h1:=DY (P:=P) hu 9999 a n c w
 rw[Sem.run_bind,show(eqGuard .eql t x y (.slice a n c) (.slice none 0 0)).run P w=.ok () w from rfl]
 show((do pure (.bool (<- Op.equalIn (9999+1) t (.slice a n c) (.slice none 0 0))):Sem Value)).run P w=_
 rw[Sem.run_bind,h1];rfl
theorem Oa (w:World):(zeroValue aw).run prog w=.ok (vI 0) w:=by kernel_rfl
theorem M4 (n:Nat):∀v∈(Builtin.zeroCells (vI 0).cells n).toList,v.oneCell'=true:=Ob (zs:=[vI 0]) (aW rfl jA) n (by decide)
theorem Lj {w:World}{a:Option Addr}{n c:Nat}{xs:List Int}(ho:Ow cI aw w NoB a n c xs){i:Nat}(hi:i <=n):
   ∃wx,(Builtin.clear_ #[ar] Gx #[.slice (qL a c i 1) (n-i) (c-i)]).run prog w=.ok (.tuple #[]) wx/\Ow cI aw wx NoB a i c (xs.take i)/\w.grownBy wx (bK a):=by
 obtain⟨hn,hnc,hcm,ho4⟩:=ho
 by_cases h0:n-i=0
 · have:i=n:=by omega
   subst this
   refine⟨w,?_,⟨by rw[List.length_take];omega,hnc,hcm,?_⟩,⟨rfl,rfl,rfl,Nat.le_refl _,λ_ _ _=>rfl⟩⟩
   · rw[h0]
     unfold Builtin.clear_
     cases qL a c i 1 <;> simp[bD aI]
   · rw[hn,List.take_length]
     rcases ho4 with h|⟨g,cur,fr,h1,h2,h3,h4,h5⟩
     · exact .inl h
     · exact .inr ⟨g,cur,fr,h1,h2,h3,h4,by rw[<- hn];exact h5⟩
 · rcases ho4 with⟨_,rfl,rfl⟩|⟨g,cur,fr,rfl,hg,hf,hcs,hrep⟩
   · simp at hn;omega
   · have hk:cI.k=1:=rfl
     simp only[hk,Nat.mul_one]at hcs hrep
     have hzl:(Builtin.zeroCells (vI 0).cells (n-i)).toList.length=n-i:=by
       rw[Array.length_toList]
       unfold Builtin.zeroCells
       rw[Array.size_map,Array.size_range];exact Nat.mul_one _
     have hz1:=M4 (n-i)
     obtain⟨z,hz0⟩:∃z,z=(vI 0):=⟨_,rfl⟩
     have hz:∀w,(zeroValue aw).run prog w=.ok z w:=λw=>by rw[hz0];exact Oa w
     have hz1:∀v∈(Builtin.zeroCells z.cells (n-i)).toList,v.oneCell'=true:=by rw[hz0];exact hz1
     rw[<- hz0]at hzl
     clear hz0
     have hfit:i+0+(Builtin.zeroCells z.cells (n-i)).toList.length <=cur.size:=by rw[hzl,hcs];omega
     have hst:=iI (P:=prog) g (i) aw fr (Builtin.zeroCells z.cells (n-i)).toList 0 cur w hg hfit hf hz1
     rw[Nat.add_zero]at hst
     have hsub:qL (some ⟨g,0,none⟩) c i 1=some ⟨g,i,none⟩:=by
       unfold qL
       rw[if_neg (by omega)];simp[Addr.add];intro h;omega
     obtain⟨q,hq⟩:∃q,n-i=q+1:=⟨n-i-1,by omega⟩
     refine⟨w.setRow g (cur.toList.take (i)++(Builtin.zeroCells z.cells (n-i)).toList++cur.toList.drop (i+(Builtin.zeroCells z.cells (n-i)).toList.length)).toArray,?_,⟨by rw[List.length_take];omega,by omega,hcm,.inr ⟨g,_,fr,rfl,setRow_heap w g cur _ aw fr hg,?_,?_,?_⟩⟩,gK w g _⟩
     · rw[hsub]
       unfold Builtin.clear_
       rw[hq]at hst ⊢
       simp only[]at hst ⊢
       simp[bD aI,hz,hst,-List.append_assoc]
     · intro j hj
       refine hf j ?_
       rw[List.size_toArray,List.length_append,List.length_append,List.length_take,List.length_drop,Array.length_toList]at hj
       omega
     · rw[hk,Nat.mul_one,List.size_toArray,List.length_append,List.length_append,List.length_take,List.length_drop,Array.length_toList]
       omega
     · have e1:((cur.toList.take (i)++(Builtin.zeroCells z.cells (n-i)).toList++cur.toList.drop (i+(Builtin.zeroCells z.cells (n-i)).toList.length)).toArray).toList.take (i*cI.k)=(cur.toList.take (n)).take (i):=by
         rw[hk,Nat.mul_one]
         rw[List.append_assoc,List.take_append_of_le_length (by rw[List.length_take,Array.length_toList];omega),List.take_take,List.take_take]
         congr 1
         omega
       rw[e1]
       have hlt:(cur.toList.take (n)).length=n:=by have:=hrep.len;rw[hk,Nat.mul_one]at this;rw[this,<- hn]
       refine⟨by rw[List.length_take,hlt,hk,List.length_take,Nat.mul_one];omega,λj hj=>?_⟩
       have hj2:j<xs.length:=by rw[List.length_take]at hj;omega
       have hji:j<i:=by rw[List.length_take]at hj;omega
       have h1:=(hrep.rep j hj2)
       simp only[hk,Nat.mul_one]at h1 ⊢
       rw[List.getElem_take]
       have e2:(((cur.toList.take (n)).take (i)).drop (j)).take 1=((cur.toList.take (n)).drop (j)).take 1:=by
         rw[List.drop_take,List.take_take]
         congr 1
         omega
       rw[e2]
       exact⟨h1.1,h1.2⟩
def Mj (n:Nat):List Int:=(List.range n).map fun(i:Nat)=>(i:Int)
theorem HD {w:World}{a b:Option Addr}{n c m e:Nat}{d:DA}(h:DaS w a n c b m e d)(hd:d.Ok):
   Cf rX #[daV a n c b m e d] w (Ret λv w'=>∃a',v=.slice a' d.n d.n/\Ow cI aw w' NoB a' d.n d.n (Mj d.n)/\bI w.heap.size a'/\bW w w'):=by
 apply F9
 intro k1 w1 hk1 hw1
 have b1:=(hw1▸ah w _:bW w w1)
 have A1:am w1 k1 af (daL a n c b m e d):=am.new hk1 hw1
 have hm:m=d.n:=h.ac.len
 subst hm
 have hN:d.n <=65536:=hd.n2
 obtain⟨w8,a8,r8,o8,b8,f8⟩:=yk (P:=prog) (e:=λn=>vI n) (h1:=λ_=>rfl) (p:=λ_=>True) aI ff (x0:=0) rfl rfl trivial .i64 .i64 d.n (by omega) (by omega) w1 NoB
 refine⟨rfl,b,_,e,A1.load1 bf rfl rfl,w8,a8,_,_,r8,?_⟩
 have B8:=ab b1 b8 b1.size
 have F8:bI w.heap.size a8:=f8.mono b1.size
 refine⟨λmm i wl=>∃j:Nat,j <=d.n/\i=(j:Int)/\mm=d.n-j/\Ow cI aw wl NoB a8 d.n d.n ((Mj d.n).take j++List.replicate (d.n-j) 0)/\bW w wl,⟨_,0,Nat.zero_le _,rfl,rfl,by rw[List.take_zero,List.nil_append];exact o8,B8⟩,?_⟩
 intro mm i
 refine aC.of ?_ _
 rintro wl ⟨j,hj,rfl,rfl,O,Bl⟩
 have hl:(Mj d.n).length=d.n:=by simp[Mj]
 refine ae.of (λh5=>?_) (λh5=>?_) <;> simp only[dTx,dFx]at h5
 · have hlt:j<d.n:=by omega
   have hlen:((Mj d.n).take j++List.replicate (d.n-j) (0:Int)).length=d.n:=by rw[List.length_append,List.length_take,List.length_replicate,hl];omega
   obtain⟨wx,q,ox,gx⟩:=Ow.store (k:=1) ff O (λ_ _ h=>h) (i:=(j:Int)) (by rw[hlen,Int.toNat_natCast];exact hlt) rfl (v:=vI (j:Int)) (x:=(j:Int)) ⟨rfl,trivial⟩
   refine⟨⟨⟨by omega,by omega⟩,O.all.isSome (i:=j) (by rw[hlen];exact hlt)⟩,wx,q,d.n-(j+1),by omega,j+1,hlt,by rw[wrap_i64 (by omega) (by omega)];omega,rfl,?_,Bl.grown gx Bl.size λr e=>F8 r e⟩
   have e1:((Mj d.n).take j++List.replicate (d.n-j) (0:Int)).set (j:Int).toNat (j:Int)=(Mj d.n).take (j+1)++List.replicate (d.n-(j+1)) 0:=by
     have hgj:(Mj d.n)[j]'(by rw[hl];exact hlt)=(j:Int):=by simp[Mj]
     have ht:((Mj d.n).take j).length=j:=by rw[List.length_take,hl];omega
     rw[Int.toNat_natCast,List.set_append_right _ _ (by omega),ht,Nat.sub_self,List.take_succ_eq_append_getElem (by rw[hl];exact hlt),hgj,List.append_assoc]
     obtain⟨q,hq⟩:∃q,d.n-j=q+1:=⟨d.n-j-1,by omega⟩
     rw[hq,List.replicate_succ,List.set_cons_zero,show d.n-(j+1)=q by omega];rfl
   rw[<- e1];exact ox
 · have:j=d.n:=by omega
   subst this
   rw[Nat.sub_self,List.replicate_zero,List.append_nil,List.take_of_length_le (by omega)]at O
   exact⟨a8,rfl,O,F8,Bl⟩
theorem Bo {w:World}{A:Bl}{a:Option Addr}{n c:Nat}{xs:List Int}(h:Sl cI w A a n c xs)(hl:xs.length <=1000000):
   Cf cz #[.slice a n c] w (Ret λv w'=>∃(a':Option Addr) (n' c':Nat),v=.slice a' n' c'/\Ow cI aw w' NoB a' n' c' xs/\bI w.heap.size a'/\bW w w'):=by
 apply rm
 refine⟨_,KD aI a n c w,ae.of (λh1=>?_) (λh1=>?_)⟩
 · have hx:xs=[]:=by
     cases xs with
     | nil=>rfl
     | cons x xs=>
       have:=h.isSome (i:=0) (by simp)
       cases a <;> simp at h1 this
   subst hx
   exact⟨none,0,0,rfl,Ow.nil _ _ _ _,bI.none _,Below.refl _ _⟩
 · intro k5 w5 hk5 hw5
   have b5:=(hw5▸ah w _:bW w w5)
   have O5:Ow cI aw w5 NoB (some ⟨k5,0,none⟩) 0 0 []:=Ow.newF (l:=[]) fG hk5 hw5 (iK.nil _ _ _) (Nat.zero_le _)
   have S5:Src cI w5 NoB a n xs:=Sl.flat fG (h.below b5)
   obtain⟨w7,a7,n7,c7,r7,o7,g7,f7⟩:=dh (ty:=ar) aI ff (by decide) O5 (λ_ _ h=>h) (cm:=c) S5 (by simp;omega)
   have F5:bI w.heap.size (some ⟨k5,0,none⟩):=tU hk5
   exact⟨w7,a7,n7,c7,r7,a7,n7,c7,rfl,o7,F5.app b5.size f7,b5.grown g7 b5.size λr e=>F5 r e⟩
def OK (q0 q1:Option Addr)(L:List Nat)(p:Int->Bool)(xs:List Int)(w:World):Prop:=
 ∀t∈xs,∀u,Chg L w u->Cf bp #[vI t,.pointer q0,.pointer q1] u (Ret λv w'=>v=.bool (p t)/\bW u w')
theorem LW {q0 q1:Option Addr}{L:List Nat}{p:Int->Bool}{w:World}{A:Bl}{a:Option Addr}{l c':Nat}{xs:List Int}(G:OK q0 q1 L p xs w)(hs:Sl cI w A a l c' xs)(hl:xs.length <=1000000):
   Cf bm #[.slice a l c',.func (.func bp) #[] #[.pointer q0,.pointer q1]] w
     (Ret λv w'=>((v=vI (-1)/\∀x∈xs,p x=false)\/∃k:Nat,v=vI (k:Int)/\k<xs.length/\∀x∈xs.take k,p x=false)/\(∀k:Nat,v=vI (k:Int)->∀h:k<xs.length,p xs[k]=true)/\bW w w'):=by
 apply fZ
 have hn:=hs.len
 subst hn
 refine⟨λm i wl=>∃k:Nat,k <=xs.length/\i=(k:Int)/\m=xs.length-k/\(∀x∈xs.take k,p x=false)/\bW w wl,⟨_,0,by omega,rfl,rfl,(λx hx=>by rw[List.take_zero]at hx;cases hx),Below.refl _ _⟩,?_⟩
 intro m1 i1
 refine aC.of ?_ _
 rintro wl ⟨k,hk,rfl,rfl,hno,hbl⟩
 refine ae.of (λhi=>?_) (λhi=>?_) <;> simp only[dTx,dFx]at hi
 · have hlt:k<xs.length:=by omega
   have hsl:=hs.below hbl
   refine⟨⟨⟨by omega,by omega⟩,hsl.isSome hlt⟩,_,hsl.num aB hlt,?_⟩
   have hwk:i64.wrap ((k:Int)+1)=((k+1:Nat):Int):=by rw[wrap_i64 (by omega) (by omega)];omega
   try dsimp only
   rw[hwk]
   refine ax (G _ (List.getElem_mem hlt) wl (Chg.of hbl)) ?_
   rintro _ w16 ⟨rfl,hb16⟩
   have b16:=ab hbl hb16 hbl.size
   refine⟨_,rfl,ae.of (λe=>⟨.inr ⟨k,rfl,hlt,hno⟩,λk' hk' h'=>?_,b16⟩) (λe=>⟨xs.length-(k+1),by omega,k+1,by omega,rfl,rfl,?_,b16⟩)⟩
   · have:k=k':=by injection hk' with _ h;omega
     subst this
     exact e
   · intro y hy
     rw[List.take_succ_eq_append_getElem hlt,List.mem_append]at hy
     rcases hy with hy|hy
     · exact hno y hy
     · rw[List.mem_singleton]at hy;subst hy;exact e
 · have:k=xs.length:=by omega
   subst this
   rw[List.take_length]at hno
   refine⟨.inl ⟨rfl,hno⟩,λk' hk' h'=>?_,hbl⟩
   injection hk' with _ h;omega
theorem Lp {q0 q1:Option Addr}{L:List Nat}{p:Int->Bool}{a:Option Addr}{l c':Nat}{xs:List Int}{w:World}(G:OK q0 q1 L p xs w)(ho:Ow cI aw w NoB a l c' xs)(hL:∀g,bK a=some g->g∈L)(hl:xs.length <=1000000):
   Cf eY #[.slice a l c',.func (.func bp) #[] #[.pointer q0,.pointer q1]] w
     (Ret λv w'=>∃n':Nat,v=.slice a n' c'/\Ow cI aw w' NoB a n' c' (xs.filter λx=> !p x)/\Chg (bK a).toList w w'):=by
 apply fU
 have hn:=ho.len
 have hnc:=ho.2.1
 have grow:∀{u u':World},Chg (bK a).toList w u->u.grownBy u' (bK a)->Chg (bK a).toList w u':=λh g=>h.trans (Chg.row g)
 have inL:∀{u:World},Chg (bK a).toList w u->Chg L w u:=λh=>h.mono λk hk=>hL k (dQ.1 hk)
 refine ax (LW G ho.all hl) ?_
 rintro v w10 ⟨hv,hfst,hb10⟩
 have ho10:=ho.below hb10
 have B10:Chg (bK a).toList w w10:=Chg.of hb10
 rcases hv with⟨rfl,hall⟩|⟨k,rfl,hk,hno⟩
 · refine⟨_,rfl,ae.yes rfl ⟨l,rfl,?_,B10⟩⟩
   rw[List.filter_eq_self.2 λx hx=>by rw[hall x hx];rfl]
   exact ho10
 have hxk:=hfst k rfl hk
 refine⟨_,rfl,ae.no (by simp only[beq_eq_false_iff_ne];omega) ?_⟩
 have hfk:(xs.take k).filter (λx=> !p x)=xs.take k:=List.filter_eq_self.2 λx hx=>by rw[hno x hx];rfl
 have hfk1:(xs.take (k+1)).filter (λx=> !p x)=xs.take k:=by
   rw[List.take_succ_eq_append_getElem hk,Cn,if_neg (by rw[hxk];decide),hfk]
 refine⟨λm i j wl=>∃(q:Nat) (ys:List Int),q <=xs.length/\j=(q:Int)/\m=xs.length-q/\i=((((xs.take q).filter λx=> !p x).length:Nat):Int)/\((xs.take q).filter λx=> !p x).length<q/\ys.length=xs.length/\
     ys.take ((xs.take q).filter λx=> !p x).length=((xs.take q).filter λx=> !p x)/\ys.drop q=xs.drop q/\Ow cI aw wl NoB a l c' ys/\Chg (bK a).toList w wl,
   ⟨_,k+1,xs,by omega,by rw[wrap_i64 (by omega) (by omega)];omega,rfl,by rw[hfk1,List.length_take];omega,by rw[hfk1,List.length_take];omega,rfl,by rw[hfk1,List.length_take];congr 1;omega,rfl,ho10,B10⟩,?_⟩
 intro m i j
 refine aC.of ?_ _
 rintro wl ⟨q,ys,hq,rfl,rfl,rfl,hiq,hyl,hyt,hyd,hoy,Bl⟩
 have hlx:l=xs.length:=hn
 refine ae.of (λhi=>?_) (λhi=>?_) <;> simp only[dTx,dFx]at hi
 · have hlt:q<xs.length:=by omega
   have hlty:q<ys.length:=by omega
   have h1:=List.drop_eq_getElem_cons hlty
   have h2:=List.drop_eq_getElem_cons hlt
   have hyq:ys[q]=xs[q]:=by
     have e:=hyd
     rw[h1,h2]at e
     exact(List.cons.inj e).1
   have hyd1:ys.drop (q+1)=xs.drop (q+1):=by
     have e:=hyd
     rw[h1,h2]at e
     exact(List.cons.inj e).2
   have hld:=hoy.all.num (P:=prog) aB hlty
   rw[hyq]at hld
   refine⟨⟨⟨by omega,by omega⟩,hoy.all.isSome hlty⟩,_,hld,?_⟩
   have hfs:=Cn (λx=> !p x) (xs.take q) xs[q]
   rw[<- List.take_succ_eq_append_getElem hlt]at hfs
   have hw1:i64.wrap ((q:Int)+1)=((q+1:Nat):Int):=by rw[wrap_i64 (by omega) (by omega)];omega
   try dsimp only
   rw[hw1]
   have hmem:=List.getElem_mem hlt
   generalize xs[q]=x at*
   refine ax (G x hmem wl (inL Bl)) ?_
   rintro _ w28 ⟨rfl,hb28⟩
   have B28:Chg (bK a).toList w w28:=Bl.step hb28
   have hoy28:=hoy.below hb28
   refine⟨_,rfl,ae.of (λe=>?_) (λe=>?_)⟩
   · rw[if_pos e]at hfs
     generalize (xs.take q).filter (λx=> !p x)=G0 at*
     have hil:((G0.length:Nat):Int).toNat<ys.length:=by omega
     obtain⟨wy,q3,ho3,g3⟩:=Ow.store (k:=1) ff hoy28 (λ_ _ h=>h) (i:=((G0.length:Nat):Int)) hil rfl (v:=vI x) (x:=x) ⟨rfl,trivial⟩
     refine⟨⟨⟨by omega,by omega⟩,hoy28.all.isSome (i:=G0.length) (by omega)⟩,wy,q3,xs.length-(q+1),by omega,q+1,ys.set G0.length x,by omega,rfl,rfl,?_,?_,?_,?_,?_,?_,?_⟩
     · rw[hfs,wrap_i64 (by omega) (by omega),List.length_append];simp
     · rw[hfs,List.length_append];simp;omega
     · rw[List.length_set];exact hyl
     · rw[hfs,List.length_append]
       show(ys.set G0.length x).take (G0.length+1)=_
       rw[List.take_succ_eq_append_getElem (by rw[List.length_set];omega),List.getElem_set_self,List.take_set_of_le (Nat.le_refl _),hyt]
     · rw[List.drop_set_of_lt (by omega),hyd1]
     · simpa using ho3
     · exact grow B28 g3
   · rw[if_neg (by rw[e];decide)]at hfs
     exact⟨xs.length-(q+1),by omega,q+1,ys,by omega,rfl,rfl,by rw[hfs],by rw[hfs];omega,hyl,by rw[hfs];exact hyt,hyd1,hoy28,B28⟩
 · have:q=xs.length:=by omega
   subst this
   rw[List.take_length]at hiq hyt
   rw[List.take_length]
   generalize xs.filter (λx=> !p x)=G0 at*
   obtain⟨wz,q4,ho4,g4⟩:=Lj hoy (i:=G0.length) (by omega)
   refine⟨⟨by omega,by omega⟩,wz,q4,⟨by omega,by omega⟩,G0.length,rfl,?_,grow Bl g4⟩
   rw[hyt]at ho4
   exact ho4
structure M6 (d:DA)(c:Nat->Nat):Prop where
 acc:∀s t,s<d.n->t<d.n->c s=c t->d.acc s=d.acc t
 «to»:∀s t x,s<d.n->t<d.n->c s=c t->x<d.K->c (d.to s x)=c (d.to t x)
theorem M6.run {d:DA}(hd:d.Ok){c:Nat->Nat}(h:M6 d c):∀{w:List Nat} {s t:Nat},s<d.n->t<d.n->c s=c t->(∀x∈w,x<d.K)->c (d.run s w)=c (d.run t w)
 | [],_,_,_,_,e,_=>e
 | x::w,s,t,hs,ht,e,hw=>by
   have hx:=hw x List.mem_cons_self
   show c (d.run (d.to s x) w)=c (d.run (d.to t x) w)
   exact h.run hd (hd.to_lt hs hx) (hd.to_lt ht hx) (h.to s t x hs ht e hx) λy hy=>hw y (List.mem_cons_of_mem _ hy)
structure tt (d:DA)(c:Nat->Nat)(o:DA)(rs:List Nat):Prop where
 k:o.k=d.k
 st:o.st=0
 first:rs[0]? =some d.s
 nd:(rs.map c).Nodup
 inn:∀r∈rs,r<d.n
 reach:∀r∈rs,∃w:List Nat,(∀x∈w,x<d.K)/\c (d.run d.s w)=c r
 ac:o.ac=rs.map d.acc
 len:o.nx.length=rs.length*d.K
 nx:∀i x r,rs[i]? =some r->x<d.K->∃(j q:Nat),o.nx[i*d.K+x]? =some (j:Int)/\rs[j]? =some q/\c q=c (d.to r x)
theorem tt.kk {d:DA}{c:Nat->Nat}{o:DA}{rs:List Nat}(h:tt d c o rs):o.K=d.K:=by unfold DA.K;rw[h.k]
theorem tt.n {d:DA}{c:Nat->Nat}{o:DA}{rs:List Nat}(h:tt d c o rs):o.ac.length=rs.length:=by rw[h.ac,List.length_map]
theorem tt.le {d:DA}{c:Nat->Nat}{o:DA}{rs:List Nat}(h:tt d c o rs):rs.length <=d.ac.length:=by
 refine pY ?_ h.inn
 have:=h.nd
 rw[List.Nodup,List.pairwise_map]at this
 exact this.imp fun{a b} hab e=>hab (by rw[e])
theorem tt.ok {d:DA}{c:Nat->Nat}{o:DA}{rs:List Nat}(h:tt d c o rs)(hd:d.Ok):o.Ok where
 k1:=by rw[h.k];exact hd.k1
 k2:=by rw[h.k];exact hd.k2
 n1:=by have:=cF h.first;have:=h.n;omega
 n2:=by have:=h.n;have:=h.le;have:=hd.n2;omega
 len:=by
   have h1:=h.len
   have h2:=h.n
   rw[h1,h2,h.k,<- hd.kk,Int.natCast_mul]
 s0:=by rw[h.st];exact Int.le_refl _
 s1:=by have:=cF h.first;have:=h.n;rw[h.st];omega
 nx0:=λv hv=>by
   obtain⟨i,hi,e⟩:=List.mem_iff_getElem.1 hv
   have hK:0<d.K:=by have:=hd.k1;show 0<d.k.toNat;omega
   have hi':=hi
   rw[h.len]at hi'
   have hr:i/d.K<rs.length:=Nat.div_lt_of_lt_mul (by rw[Nat.mul_comm];exact hi')
   obtain⟨j,q,e1,e2,_⟩:=h.nx (i/d.K) (i%d.K) _ (List.getElem?_eq_getElem hr) (Nat.mod_lt _ hK)
   rw[show i/d.K*d.K+i%d.K=i from by rw[Nat.mul_comm];exact Nat.div_add_mod i d.K,List.getElem?_eq_getElem hi,e]at e1
   have hj:=cF e2
   have h2:=h.n
   have e3:v=(j:Int):=Option.some.inj e1
   omega
theorem tt.run {d:DA}{c:Nat->Nat}{o:DA}{rs:List Nat}(h:tt d c o rs)(hd:d.Ok)(hc:M6 d c):∀{w:List Nat} {i s:Nat} {r:Nat},rs[i]? =some r->s<d.n->c s=c r->(∀x∈w,x<d.K)->
   ∃q,rs[o.run i w]? =some q/\c q=c (d.run s w)
 | [],i,s,r,hr,_,e,_=>⟨r,hr,e.symm⟩
 | x::w,i,s,r,hr,hs,e,hw=>by
   have hx:=hw x List.mem_cons_self
   have hrn:=h.inn r (List.mem_of_getElem? hr)
   obtain⟨j,q,e1,e2,e3⟩:=h.nx i x r hr hx
   have et:o.to i x=j:=by unfold DA.to;rw[h.kk,tW e1];rfl
   show ∃q,rs[o.run (o.to i x) w]? =some q/\c q=c (d.run (d.to s x) w)
   rw[et]
   exact h.run hd hc e2 (hd.to_lt hs hx) (by rw[e3];exact hc.to s r x hs hrn e hx) λy hy=>hw y (List.mem_cons_of_mem _ hy)
theorem tt.lang {d:DA}{c:Nat->Nat}{o:DA}{rs:List Nat}(h:tt d c o rs)(hd:d.Ok)(hc:M6 d c)(w:List Nat):o.Lang o.s w ↔ d.Lang d.s w:=by
 unfold DA.Lang
 rw[h.kk]
 refine and_congr_right λhw=>?_
 have hs:o.s=0:=by unfold DA.s;rw[h.st];rfl
 obtain⟨q,e1,e2⟩:=h.run hd hc (w:=w) h.first hd.s_lt rfl hw
 have hq:=h.inn q (List.mem_of_getElem? e1)
 have ea:o.acc (o.run 0 w)=d.acc q:=by
   unfold DA.acc
   rw[h.ac]
   exact tW (by rw[List.getElem?_map,e1];rfl)
 rw[hs,ea,hc.acc q (d.run d.s w) hq (hd.run_lt hd.s_lt hw) e2]
structure Gn (d:DA)(c:Nat->Nat)(rs:List Nat)(ac:List Bool)(nx:List Int)(i x:Nat):Prop where
 first:rs[0]? =some d.s
 nd:(rs.map c).Nodup
 inn:∀r∈rs,r<d.n
 reach:∀r∈rs,∃w:List Nat,(∀x∈w,x<d.K)/\c (d.run d.s w)=c r
 le:ac.length <=rs.length
 acs:ac=(rs.take ac.length).map d.acc
 len:nx.length=i*d.K+x
 ways:∀j y r,(j<i/\y<d.K\/j=i/\y<x)->rs[j]? =some r->∃(t q:Nat),nx[j*d.K+y]? =some (t:Int)/\rs[t]? =some q/\c q=c (d.to r y)
theorem Gn.start {d:DA}(hd:d.Ok)(c:Nat->Nat):Gn d c [d.s] [] [] 0 0 where
 first:=rfl
 nd:=by simp
 inn:=λr hr=>by rw[List.mem_singleton]at hr;subst hr;exact hd.s_lt
 reach:=λr hr=>by rw[List.mem_singleton]at hr;subst hr;exact⟨[],by simp,rfl⟩
 le:=by simp
 acs:=rfl
 len:=by simp
 ways:=λj y r h=>by omega
theorem Gn.state {d:DA}{c:Nat->Nat}{rs:List Nat}{ac:List Bool}{nx:List Int}{i:Nat}(h:Gn d c rs ac nx i 0)(hi:ac.length=i){r:Nat}(hr:rs[i]? =some r):Gn d c rs (ac++[d.acc r]) nx i 0:=
 { h with
   le:=by have:=cF hr;simp;omega
   acs:=by
     have hl:=cF hr
     rw[List.length_append,List.length_singleton,hi,List.take_succ_eq_append_getElem hl,List.map_append]
     have h1:=h.acs
     rw[hi]at h1
     rw[<- h1,(List.getElem?_eq_some_iff.1 hr).2]
     rfl }
theorem Gn.put {d:DA}(hd:d.Ok){c:Nat->Nat}(hc:M6 d c){rs:List Nat}{ac:List Bool}{nx:List Int}{i x:Nat}(h:Gn d c rs ac nx i x)(hi:ac.length=i+1)(hx:x<d.K){r:Nat}(hr:rs[i]? =some r)
   {rs':List Nat} {t q:Nat} (hps:rs'=rs\/rs'=rs++[d.to r x]/\c (d.to r x) ∉ rs.map c) (ht:rs'[t]? =some q) (hq:c q=c (d.to r x)):
   Gn d c rs' ac (nx++[(t:Int)]) i (x+1):=by
 have hrm:r∈rs:=List.mem_of_getElem? hr
 have hrn:=h.inn r hrm
 have hil:i<rs.length:=cF hr
 have hold:∀{j q:Nat},rs[j]? =some q->rs'[j]? =some q:=fun{j q} hj=>by
   rcases hps with rfl|⟨rfl,_⟩
   · exact hj
   · rw[List.getElem?_append_left (cF hj)];exact hj
 have hmem:∀q∈rs',q∈rs\/q=d.to r x:=λq hq=>by
   rcases hps with rfl|⟨rfl,_⟩
   · exact .inl hq
   · rcases List.mem_append.1 hq with hq|hq
     · exact .inl hq
     · exact .inr (List.mem_singleton.1 hq)
 refine⟨hold h.first,?_,λu hu=>?_,λu hu=>?_,?_,?_,by rw[List.length_append,h.len];rfl,λj y u hj hu=>?_⟩
 · rcases hps with rfl|⟨rfl,hno⟩
   · exact h.nd
   · rw[List.map_append]
     refine List.nodup_append.2 ⟨h.nd,by simp,λu hu v hv e=>?_⟩
     simp only[List.map_cons,List.map_nil,List.mem_singleton]at hv
     subst hv
     exact hno (e▸hu)
 · rcases hmem u hu with h1|rfl
   · exact h.inn u h1
   · exact hd.to_lt hrn hx
 · rcases hmem u hu with h1|rfl
   · exact h.reach u h1
   · obtain⟨w,hw,e⟩:=h.reach r hrm
     refine⟨w++[x],λy hy=>?_,?_⟩
     · rcases List.mem_append.1 hy with hy|hy
       · exact hw y hy
       · rw[List.mem_singleton]at hy;subst hy;exact hx
     · rw[oA]
       exact hc.to _ _ x (hd.run_lt hd.s_lt hw) hrn e hx
 · rcases hps with rfl|⟨rfl,_⟩
   · exact h.le
   · have:=h.le;simp;omega
 · have h1:=h.acs
   rcases hps with rfl|⟨rfl,_⟩
   · exact h1
   · rw[List.take_append_of_le_length h.le];exact h1
 · have hu0:rs[j]? =some u:=by
     rcases hps with rfl|⟨rfl,_⟩
     · exact hu
     · rw[List.getElem?_append_left (by omega)]at hu;exact hu
   by_cases e:j=i/\y=x
   · obtain⟨rfl,rfl⟩:=e
     rw[hr]at hu0
     obtain rfl:=Option.some.inj hu0
     exact⟨t,q,by rw[List.getElem?_append_right (by rw[h.len];exact Nat.le_refl _),h.len,Nat.sub_self];rfl,ht,hq⟩
   · obtain⟨t',q',e1,e2,e3⟩:=h.ways j y u (by omega) hu0
     exact⟨t',q',by rw[List.getElem?_append_left (cF e1)];exact e1,hold e2,e3⟩
theorem Gn.row {d:DA}{c:Nat->Nat}{rs:List Nat}{ac:List Bool}{nx:List Int}{i:Nat}(h:Gn d c rs ac nx i d.K):Gn d c rs ac nx (i+1) 0:=
 { h with
   len:=by rw[h.len,Nat.succ_mul];rfl
   ways:=λj y p hj hp=>h.ways j y p (by omega) hp }
theorem Gn.done {d:DA}{c:Nat->Nat}{rs:List Nat}{ac:List Bool}{nx:List Int}{i:Nat}(h:Gn d c rs ac nx i 0)(hi:ac.length=i)(hl:rs.length <=ac.length):tt d c ⟨d.k,0,nx,ac⟩ rs where
 k:=rfl
 st:=rfl
 first:=h.first
 nd:=h.nd
 inn:=h.inn
 reach:=h.reach
 ac:=by
   have h1:=h.acs
   rw[List.take_of_length_le hl]at h1
   exact h1
 len:=by
   have:=h.le
   show nx.length=_
   rw[h.len,show i=rs.length by omega]
   rfl
 nx:=λj x r hj hx=>h.ways j x r (.inl ⟨by have:=cF hj;omega,hx⟩) hj
def BH (d:DA)(c:Nat->Nat)(S:List Nat)(x:Nat):Prop:=∀s t,s<d.n->t<d.n->c s=c t->(d.to s x∈S ↔ d.to t x∈S)
def xL (d:DA)(c:Nat->Nat)(todo:List (List Nat)):Prop:=
 ∀u v,u<d.n->v<d.n->c u≠c v->∃S:List Nat,(S∈todo\/∀x,x<d.K->BH d c S x)/\ ¬ (u∈S ↔ v∈S)
theorem xL.cong {d:DA}(hd:d.Ok){c:Nat->Nat}(h:xL d c [])(ha:∀s t,s<d.n->t<d.n->c s=c t->d.acc s=d.acc t):M6 d c where
 acc:=ha
 «to»:=λs t x hs ht e hx=>by
   by_cases hc:c (d.to s x)=c (d.to t x)
   · exact hc
   · obtain⟨S,h1,h2⟩:=h _ _ (hd.to_lt hs hx) (hd.to_lt ht hx) hc
     rcases h1 with h1|h1
     · cases h1
     · exact absurd (h1 x hx s t hs ht e) h2
def cf (cl:List Nat)(s:Nat):Nat:=cl.getD s 0
def fe (cl:List Nat)(c:Nat)(l:List Nat):List Nat:=l.foldl (λcl s=>cl.set s c) cl
theorem vk (c:Nat):∀(l cl:List Nat),(fe cl c l).length=cl.length
 | [],_=>rfl
 | s::l,cl=>by
   show(fe (cl.set s c) c l).length=cl.length
   rw[vk c l];simp
theorem mG (c:Nat):∀(l cl:List Nat) (s:Nat),s<cl.length->cf (fe cl c l) s=if s∈l then c else cf cl s
 | [],cl,s,_=>by simp[fe]
 | t::l,cl,s,h=>by
   show cf (fe (cl.set t c) c l) s=_
   rw[mG c l _ s (by simpa using h)]
   by_cases hl:s∈l
   · rw[if_pos hl,if_pos (List.mem_cons_of_mem _ hl)]
   · rw[if_neg hl]
     by_cases e:s=t
     · subst e
       rw[if_pos List.mem_cons_self]
       simp[cf,List.getD_eq_getElem?_getD,h]
     · rw[if_neg (by simp[e,hl])]
       simp[cf,List.getD_eq_getElem?_getD,List.getElem?_set_ne (Ne.symm e)]
structure KK (d:DA)(cl:List Nat)(mem:List (List Nat)):Prop where
 len:cl.length=d.n
 mlt:∀s,s<d.n->cf cl s<mem.length
 mems:∀c m,mem[c]? =some m->m.Nodup/\∀s,s∈m ↔ s<d.n/\cf cl s=c
 acc:∀s t,s<d.n->t<d.n->cf cl s=cf cl t->d.acc s=d.acc t
theorem KK.split {d:DA}{cl:List Nat}{mem:List (List Nat)}(h:KK d cl mem){c:Nat}{m l:List Nat}(hm:mem[c]? =some m)(hn:l.Nodup)(hl:∀s∈l,s∈m):
   KK d (fe cl mem.length l) (mem.set c (m.filter λt=> !decide (cf (fe cl mem.length l) t=mem.length))++[l]):=by
 obtain⟨m1,m2⟩:=h.mems c m hm
 have hc:c<mem.length:=cF hm
 have hcf:∀s,s<d.n->cf (fe cl mem.length l) s=if s∈l then mem.length else cf cl s:=λs hs=>mG _ l cl s (by rw[h.len];exact hs)
 have hln:∀s∈l,s<d.n/\cf cl s=c:=λs hs=>(m2 s).1 (hl s hs)
 refine⟨by rw[vk,h.len],λs hs=>?_,λc' m' hm'=>?_,λs t hs ht e=>?_⟩
 · rw[hcf s hs,List.length_append,List.length_set,List.length_singleton]
   split
   · omega
   · have:=h.mlt s hs;omega
 · rcases Nat.lt_trichotomy c' mem.length with h1|h1|h1
   · rw[List.getElem?_append_left (by simpa using h1)]at hm'
     by_cases e:c=c'
     · subst e
       rw[List.getElem?_set_self hc]at hm'
       obtain rfl:=Option.some.inj hm'
       refine⟨m1.filter _,λs=>?_⟩
       rw[List.mem_filter,m2]
       constructor
       · rintro⟨⟨h2,h3⟩,h4⟩
         have h4: ¬ cf (fe cl mem.length l) s=mem.length:=by simpa using h4
         refine⟨h2,?_⟩
         rw[hcf s h2]at h4 ⊢
         split
         · rename_i h5;rw[if_pos h5]at h4;exact absurd rfl h4
         · exact h3
       · rintro⟨h2,h3⟩
         rw[hcf s h2]at h3
         have h5:s ∉ l:=λh5=>by rw[if_pos h5]at h3;omega
         rw[if_neg h5]at h3
         refine⟨⟨h2,h3⟩,?_⟩
         have: ¬ cf (fe cl mem.length l) s=mem.length:=by rw[hcf s h2,if_neg h5];omega
         simpa using this
     · rw[List.getElem?_set_ne e]at hm'
       obtain⟨n1,n2⟩:=h.mems c' m' hm'
       refine⟨n1,λs=>?_⟩
       rw[n2]
       refine and_congr_right λhs=>?_
       rw[hcf s hs]
       by_cases h5:s∈l
       · rw[if_pos h5,(hln s h5).2]
         exact⟨λh6=>absurd h6 e,λh6=>by omega⟩
       · rw[if_neg h5]
   · subst h1
     rw[List.getElem?_append_right (by simp)]at hm'
     simp only[List.length_set,Nat.sub_self,List.getElem?_cons_zero,Option.some.injEq]at hm'
     subst hm'
     refine⟨hn,λs=>⟨λhs=>⟨(hln s hs).1,by rw[hcf s (hln s hs).1,if_pos hs]⟩,λ⟨hs,e⟩=>?_⟩⟩
     rw[hcf s hs]at e
     split at e
     · assumption
     · have:=h.mlt s hs;omega
   · rw[List.getElem?_eq_none (by simp;omega)]at hm';cases hm'
 · rw[hcf s hs,hcf t ht]at e
   by_cases h1:s∈l <;> by_cases h2:t∈l
   · exact h.acc s t hs ht (by rw[(hln s h1).2,(hln t h2).2])
   · rw[if_pos h1,if_neg h2]at e;have:=h.mlt t ht;omega
   · rw[if_neg h1,if_pos h2]at e;have:=h.mlt s hs;omega
   · rw[if_neg h1,if_neg h2]at e;exact h.acc s t hs ht e
def OP (d:DA)(c' c:Nat->Nat):Prop:=∀s t,s<d.n->t<d.n->c' s=c' t->c s=c t
theorem BH.finer {d:DA}{c c':Nat->Nat}{S:List Nat}{x:Nat}(h:BH d c S x)(hf:OP d c' c):BH d c' S x:=λs t hs ht e=>h s t hs ht (hf s t hs ht e)
theorem Dj {d:DA}{cl:List Nat}{mem:List (List Nat)}(h:KK d cl mem){c:Nat}{l:List Nat}(hl:∀s∈l,s<d.n/\cf cl s=c):OP d (cf (fe cl mem.length l)) (cf cl):=by
 intro s t hs ht e
 rw[mG _ l cl s (by rw[h.len];exact hs),mG _ l cl t (by rw[h.len];exact ht)]at e
 by_cases h1:s∈l <;> by_cases h2:t∈l
 · rw[(hl s h1).2,(hl t h2).2]
 · rw[if_pos h1,if_neg h2]at e;have:=h.mlt t ht;omega
 · rw[if_neg h1,if_pos h2]at e;have:=h.mlt s hs;omega
 · rw[if_neg h1,if_neg h2]at e;exact e
theorem xL.split {d:DA}{cl:List Nat}{mem:List (List Nat)}(h:KK d cl mem){todo todo':List (List Nat)}(ha:xL d (cf cl) todo){c:Nat}{l:List Nat}(hl:∀s∈l,s<d.n/\cf cl s=c)
   (hsub:∀S∈todo,S∈todo') (hlt:l∈todo'):xL d (cf (fe cl mem.length l)) todo':=by
 have hf:=Dj h hl
 intro u v hu hv e
 by_cases hc:cf cl u=cf cl v
 · refine⟨l,.inl hlt,λhiff=>e ?_⟩
   rw[mG _ l cl u (by rw[h.len];exact hu),mG _ l cl v (by rw[h.len];exact hv)]
   by_cases h1:u∈l
   · rw[if_pos h1,if_pos (hiff.1 h1)]
   · rw[if_neg h1,if_neg (λh2=>h1 (hiff.2 h2)),hc]
 · obtain⟨S,h1,h2⟩:=ha u v hu hv hc
   exact⟨S,h1.imp (hsub S) λh3 x hx=>(h3 x hx).finer hf,h2⟩
theorem xL.drop {d:DA}{c:Nat->Nat}{S:List Nat}{todo todo':List (List Nat)}(h:xL d c todo)(hs:∀x,x<d.K->BH d c S x)(hsub:∀T∈todo,T=S\/T∈todo'):xL d c todo':=by
 intro u v hu hv e
 obtain⟨T,h1,h2⟩:=h u v hu hv e
 refine⟨T,?_,h2⟩
 rcases h1 with h1|h1
 · rcases hsub T h1 with rfl|h1
   · exact .inr hs
   · exact .inl h1
 · exact .inr h1
structure Hit (d:DA)(c0:Nat->Nat)(S:List Nat)(x:Nat)(hs:List (Nat×List Nat)):Prop where
 keys:(hs.map (·.1)).Nodup
 lists:∀p∈hs,p.2.Nodup/\p.2≠[]/\∀s,s∈p.2 ↔ s<d.n/\c0 s=p.1/\d.to s x∈S
 all:∀s,s<d.n->d.to s x∈S->∃p∈hs,p.1=c0 s
structure JQ (d:DA)(c0:Nat->Nat)(S:List Nat)(x:Nat)(left:List (Nat×List Nat))(cl:List Nat)(mem:List (List Nat))(todo:List (List Nat)):Prop where
 inv:KK d cl mem
 finer:OP d (cf cl) c0
 same:∀p∈left,∀s,s<d.n->c0 s=p.1->cf cl s=p.1
 back:∀p∈left,∀s,s<d.n->cf cl s=p.1->c0 s=p.1
 done:∀s t,s<d.n->t<d.n->cf cl s=cf cl t->(∀p∈left,p.1≠c0 s)->(d.to s x∈S ↔ d.to t x∈S)
 apart:xL d (cf cl) todo
theorem JQ.start {d:DA}{S:List Nat}{x:Nat}{hs:List (Nat×List Nat)}{cl:List Nat}{mem todo:List (List Nat)}(h:KK d cl mem)(ha:xL d (cf cl) todo)(hh:Hit d (cf cl) S x hs):JQ d (cf cl) S x hs cl mem todo where
 inv:=h
 finer:=λ_ _ _ _ e=>e
 same:=λ_ _ _ _ e=>e
 back:=λ_ _ _ _ e=>e
 done:=λs t hs' ht e hno=>by
   have n1:d.to s x ∉ S:=λhm=>by
     obtain⟨p,hp,e2⟩:=hh.all s hs' hm
     exact hno p hp e2
   have n2:d.to t x ∉ S:=λhm=>by
     obtain⟨p,hp,e2⟩:=hh.all t ht hm
     exact hno p hp (by rw[e2,e])
   exact⟨λh=>absurd h n1,λh=>absurd h n2⟩
 apart:=ha
theorem JQ.whole {d:DA}{c0:Nat->Nat}{S:List Nat}{x:Nat}{hs left left':List (Nat×List Nat)}{cl:List Nat}{mem todo:List (List Nat)}(hh:Hit d c0 S x hs)(h:JQ d c0 S x left cl mem todo){p:Nat×List Nat}(hp:p∈left)(hpa:p∈hs)
   (hl:∀q,q∈left' ↔ q∈left/\q.1≠p.1) (hw:∀s,s<d.n->c0 s=p.1->s∈p.2):JQ d c0 S x left' cl mem todo where
 inv:=h.inv
 finer:=h.finer
 same:=λq hq=>h.same q ((hl q).1 hq).1
 back:=λq hq=>h.back q ((hl q).1 hq).1
 done:=λs t hs' ht e hno=>by
   by_cases e2:c0 s=p.1
   · have e3:c0 t=p.1:=by rw[<- h.finer s t hs' ht e];exact e2
     have m1:=((hh.lists p hpa).2.2 s).1 (hw s hs' e2)
     have m2:=((hh.lists p hpa).2.2 t).1 (hw t ht e3)
     exact⟨λ_=>m2.2.2,λ_=>m1.2.2⟩
   · refine h.done s t hs' ht e λq hq e4=>?_
     by_cases e5:q.1=p.1
     · exact e2 (by rw[<- e4,e5])
     · exact hno q ((hl q).2 ⟨hq,e5⟩) e4
 apart:=h.apart
theorem JQ.cut {d:DA}{c0:Nat->Nat}{S:List Nat}{x:Nat}{hs left left':List (Nat×List Nat)}{cl:List Nat}{mem todo todo':List (List Nat)}(hh:Hit d c0 S x hs)(h:JQ d c0 S x left cl mem todo){p:Nat×List Nat}(hp:p∈left)(hpa:p∈hs)
   (hl:∀q,q∈left' ↔ q∈left/\q.1≠p.1) {m:List Nat} (hm:mem[p.1]? =some m) (hsub:∀T∈todo,T∈todo') (hin:p.2∈todo') (hlt:∀q∈hs,q.1<mem.length) (hkey:∀q∈left,q∈hs):
   JQ d c0 S x left' (fe cl mem.length p.2) (mem.set p.1 (m.filter λt=> !decide (cf (fe cl mem.length p.2) t=mem.length))++[p.2]) todo':=by
 obtain⟨l1,l2,l3⟩:=hh.lists p hpa
 have hpl:∀s∈p.2,s<d.n/\cf cl s=p.1:=λs hs'=>by
   obtain⟨h1,h2,h3⟩:=(l3 s).1 hs'
   exact⟨h1,h.same p hp s h1 h2⟩
 have hf:=Dj h.inv hpl
 have hcf:∀s,s<d.n->cf (fe cl mem.length p.2) s=if s∈p.2 then mem.length else cf cl s:=λs hs'=>mG _ p.2 cl s (by rw[h.inv.len];exact hs')
 have hpm:∀s∈p.2,s∈m:=λs hs'=>((h.inv.mems p.1 m hm).2 s).2 (hpl s hs')
 refine⟨h.inv.split hm l1 hpm,λs t hs' ht e=>h.finer s t hs' ht (hf s t hs' ht e),λq hq s hs' e=>?_,λq hq s hs' e=>?_,λs t hs' ht e hno=>?_,h.apart.split h.inv hpl hsub hin⟩
 · obtain⟨q1,q2⟩:=(hl q).1 hq
   have hn:s ∉ p.2:=λhm2=>q2 (by rw[<- e,((l3 s).1 hm2).2.1])
   rw[hcf s hs',if_neg hn]
   exact h.same q q1 s hs' e
 · obtain⟨q1,q2⟩:=(hl q).1 hq
   rw[hcf s hs']at e
   split at e
   · have:=hlt q (hkey q q1);omega
   · exact h.back q q1 s hs' e
 · have e0:=hf s t hs' ht e
   by_cases e2:c0 s=p.1
   · have e3:c0 t=p.1:=by rw[<- h.finer s t hs' ht e0];exact e2
     rw[hcf s hs',hcf t ht]at e
     have k1:d.to s x∈S ↔ s∈p.2:=⟨λhm2=>(l3 s).2 ⟨hs',e2,hm2⟩,λhm2=>((l3 s).1 hm2).2.2⟩
     have k2:d.to t x∈S ↔ t∈p.2:=⟨λhm2=>(l3 t).2 ⟨ht,e3,hm2⟩,λhm2=>((l3 t).1 hm2).2.2⟩
     rw[k1,k2]
     by_cases h1:s∈p.2 <;> by_cases h2:t∈p.2
     · simp[h1,h2]
     · rw[if_pos h1,if_neg h2]at e;have:=h.inv.mlt t ht;omega
     · rw[if_neg h1,if_pos h2]at e;have:=h.inv.mlt s hs';omega
     · simp[h1,h2]
   · refine h.done s t hs' ht e0 λq hq e4=>?_
     by_cases e5:q.1=p.1
     · exact e2 (by rw[<- e4,e5])
     · exact hno q ((hl q).2 ⟨hq,e5⟩) e4
theorem JQ.stable {d:DA}{c0:Nat->Nat}{S:List Nat}{x:Nat}{cl:List Nat}{mem todo:List (List Nat)}(h:JQ d c0 S x [] cl mem todo):BH d (cf cl) S x:=λs t hs ht e=>h.done s t hs ht e λp hp=>by cases hp
theorem G6 {α:Type}[DecidableEq α](q:α):∀(ps:List α) (n:Nat),(∀t,jI q (ps.zipIdx n)=some t->n <=t/\ps[t-n]? =some q)/\(jI q (ps.zipIdx n)=none->q ∉ ps)
 | [],n=>⟨λt h=>by simp[jI]at h,λ_ h=>by cases h⟩
 | p::ps,n=>by
   obtain⟨h1,h2⟩:=G6 q ps (n+1)
   rw[List.zipIdx_cons]
   unfold jI
   by_cases e:q=p
   · rw[if_pos e]
     refine⟨λt h=>?_,λh=>by cases h⟩
     obtain rfl:=Option.some.inj h
     exact⟨Nat.le_refl _,by rw[Nat.sub_self,e];rfl⟩
   · rw[if_neg e]
     refine⟨λt h=>?_,λh hm=>?_⟩
     · obtain⟨h3,h4⟩:=h1 t h
       refine⟨by omega,?_⟩
       rw[show t-n=(t-(n+1))+1 by omega,List.getElem?_cons_succ]
       exact h4
     · rcases List.mem_cons.1 hm with h3|h3
       · exact e h3
       · exact h2 h h3
theorem Qh {α β:Type}[DecidableEq α]{k:α}{v:β}{l:List (α×β)}(h:jI k l=none):upG k v l=l++[(k,v)]:=by
 have h2:=zz k l 0
 rw[h]at h2
 unfold upG
 cases hl:mL k l 0 with
 | none=>rfl
 | some p=>rw[hl]at h2;cases h2
theorem fp1 {k B:Nat}(h:B <=k):∀b∈[k],B <=b:=λb hb=>by rw[List.mem_singleton]at hb;omega
def nI (l:List Nat):List Int:=l.map fun(i:Nat)=>(i:Int)
theorem fm (l:List Nat):(nI l).length=l.length:=List.length_map _
theorem QX {l:List Nat}{i:Nat}(h:i<(nI l).length):(nI l)[i]=((cf l i:Nat):Int):=by
 have h2:i<l.length:=by rw[fm]at h;exact h
 have e:cf l i=l[i]:=by
   unfold cf
   rw[List.getD_eq_getElem?_getD,List.getElem?_eq_getElem h2];rfl
 rw[e]
 simp[nI]
theorem Sl.cls {P:Program}{t:TypeId}(hu:P.underlying t=some (.int .i64)){w:World}{A:Bl}{a:Option Addr}{l c:Nat}{cl:List Nat}(h:Sl cI w A a l c (nI cl)){i:Nat}(hi:i<cl.length):
   (Instr.loadAt t (.pointer (ao a (i:Int) 1))).run P w=.ok (vI ((cf cl i:Nat):Int)) w:=by
 have h2:i<(nI cl).length:=by rw[fm];exact hi
 have:=h.num hu h2
 rwa [QX h2]at this
theorem Gn.few {d:DA}{c:Nat->Nat}{rs:List Nat}{ac:List Bool}{nx:List Int}{i x:Nat}(h:Gn d c rs ac nx i x):rs.length <=d.n:=by
 refine pY ?_ h.inn
 have:=h.nd
 rw[List.Nodup,List.pairwise_map]at this
 exact this.imp fun{a b} hab e=>hab (by rw[e])
abbrev oPs (vs:List Value)(k2 k4 k5 k16:Nat)(x:Option Addr)(xn xc:Nat)(y:Option Addr)(yn yc:Nat)(t:Option Addr)(tn tc:Nat)(K:Int)(cf:Nat->Nat)(rs:List Nat)(nx:List Int)(acs:List Bool):List Pt:=
 [ptO cI aw t tn tc (nI rs),ptM (ekN .i64) evN k16 ((rs.map cf).zipIdx),ptO lH aX y yn yc acs,ptO cI aw x xn xc nx,
   ptA k5 af [vI K,vI 0,.slice x xn xc,.slice y yn yc],ptA k4 af [vI 0,vI 0,.slice none 0 0,.slice none 0 0],ptA k2 af vs]
def OQ (d:DA)(c:Nat->Nat)(w:World)(v:Value)(w':World):Prop:=∃(o:DA) (rs:List Nat),tt d c o rs/\∃(a:Option Addr) (n cc:Nat) (b:Option Addr) (m e:Nat),v=daV a n cc b m e o/\zb w.heap.size w' a n cc b m e o/\bW w w'
set_option maxHeartbeats 1000000 in
theorem EG {w:World}{a b:Option Addr}{n c m e:Nat}{d:DA}(h:DaS w a n c b m e d)(hd:d.Ok){a1:Option Addr}{l1 c1:Nat}{cl:List Nat}(hs:Sl cI w kj a1 l1 c1 (nI cl))(hl:cl.length=d.n)(hc:M6 d (cf cl)):
   Cf gw #[daV a n c b m e d,.slice a1 l1 c1] w (Ret (OQ d (cf cl) w)):=by
 apply zZ
 have hl1:l1=d.n:=by rw[hs.len,fm,hl]
 subst hl1
 have hst:d.st=((d.s:Nat):Int):=by have:=hd.s0;show d.st=((d.st.toNat:Nat):Int);omega
 have hsn:=hd.s_lt
 have hN:d.n <=65536:=hd.n2
 have hKK:=hd.kk
 have hK1:1 <=d.K/\d.K <=512:=by have:=hd.k1;have:=hd.k2;show 1 <=d.k.toNat/\d.k.toNat <=512;omega
 intro k2 w2 hk2 hw2 k4 w4 hk4 hw4
 have S2:Sp w [ptA k2 af (daL a n c b m e d)] w2:=(Sp.nil w).add (hw2▸ah w _) (show am w2 k2 _ _ from am.new hk2 hw2) (fp1 (by omega))
 have S4:=S2.add (hw4▸ah w2 _) (p:=ptA k4 af [vI 0,vI 0,.slice none 0 0,.slice none 0 0]) (show am w4 k4 _ _ from am.new hk4 hw4) (fp1 (by omega))
 refine⟨rfl,d.k,am.load1 aB rfl (S4.at 1 rfl) rfl,?_⟩
 intro k5 w5 hk5 hw5
 have S5:=S4.add (hw5▸ah w4 _) (p:=ptA k5 af [vI 0,vI 0,.slice none 0 0,.slice none 0 0]) (show am w5 k5 _ _ from am.new hk5 hw5) (fp1 (by omega))
 obtain⟨wx,q5,v5,g5⟩:=bG.store0 (P:=prog) (cs:=daL none 0 0 none 0 0 ⟨d.k,0,[],[]⟩) rfl (fM _ _ _ _ _ _ _) (S5.at 0 rfl) rfl
 have S6:=S5.upd 0 rfl (Chg.grown g5 List.mem_cons_self) (p':=ptA k5 af [vI d.k,vI 0,.slice none 0 0,.slice none 0 0]) v5 λb hb=>.inl hb
 have S7:=(S6.add (Below.refl _ _) (p:=ptO cI aw none 0 0 []) (Ow.nil cI aw wx NoB) (λb hb=>by cases hb)).add (Below.refl _ _) (p:=ptO lH aX none 0 0 []) (Ow.nil lH aX wx NoB) (λb hb=>by cases hb)
 refine⟨wx,q5,?_⟩
 intro k16 w16 hk16 hw16
 have S8:=S7.add (hw16▸ah wx _) (p:=ptM (ekN .i64) evN k16 []) (wO.new hk16 hw16) (fp1 (by omega))
 have clS:∀{u:World},bW w u->∀{i:Nat},i<d.n->(Instr.loadAt aw (.pointer (ao a1 ((i:Nat):Int) 1))).run prog u=.ok (vI ((cf cl i:Nat):Int)) u:=fun{u} hb {i} hi=>(hs.below hb).cls aB (by rw[hl];exact hi)
 have clI:∀{i:Nat},i<d.n->Option.isSome a1=true:=fun{i} hi=>hs.isSome (i:=i) (by rw[fm,hl];exact hi)
 refine⟨rfl,d.st,am.load1 aB rfl (S8.at 5 rfl) rfl,?_⟩
 rw[hst]
 obtain⟨wm,qm,Mm,gm⟩:=wO.up (P:=prog) qP (wN.int aB) (Ga .i64) (S8.at 0 rfl:wO (ekN .i64) evN w16 k16 []) (cf cl d.s) 0
 refine⟨⟨⟨by omega,by omega⟩,clI hsn⟩,_,clS S8.bw hsn,wm,qm,rfl,((d.s:Nat):Int),?_,?_⟩
 · rw[<- hst]
   exact am.load1 (v:=vI d.st) aB rfl (S8.oth 0 rfl (Chg.grown gm List.mem_cons_self) 5 rfl (by decide)) rfl
 have S9:=S8.upd 0 rfl (Chg.grown gm List.mem_cons_self) (p':=ptM (ekN .i64) evN k16 (([d.s].map (cf cl)).zipIdx)) Mm λb hb=>.inl hb
 intro k25 w25 hk25 hw25
 have S10:=S9.add (hw25▸ah wm _) (p:=ptO cI aw (some ⟨k25,0,none⟩) 1 1 (nI [d.s])) (Ow.newF (l:=[vI ((d.s:Nat):Int)]) fG hk25 hw25 (iK.one eE) (show 1 <=maxLen by decide)) (λb hb=>by have hb2:b∈(bK (some (⟨k25,0,none⟩:Addr))).toList:=hb;simp[bK]at hb2;omega)
 refine⟨λmm ta tn tc wl=>∃(rs:List Nat) (nx:List Int) (acs:List Bool) (x:Option Addr) (xn xc:Nat) (y:Option Addr) (yn yc:Nat),mm=d.n-acs.length/\
   Gn d (cf cl) rs acs nx acs.length 0/\Sp w (oPs (daL a n c b m e d) k2 k4 k5 k16 x xn xc y yn yc ta tn tc d.k (cf cl) rs nx acs) wl,
   ⟨_,[d.s],[],[],none,0,0,none,0,0,rfl,Gn.start hd _,S10⟩,?_⟩
 clear S10 S9 S8 S7 S6 S5 S4 S2 Mm v5
 intro mm ta tn tc
 refine aC.of ?_ _
 rintro wl ⟨rs,nx,acs,x,xn,xc,y,yn,yc,rfl,OI,S⟩
 have T0:Ow cI aw wl NoB ta tn tc (nI rs):=S.at 0 rfl
 have Y0:Ow lH aX wl NoB y yn yc acs:=S.at 2 rfl
 have V0:am wl k5 af [vI d.k,vI 0,.slice x xn xc,.slice y yn yc]:=S.at 4 rfl
 have htn:tn=rs.length:=by rw[T0.len,fm]
 have hyn:yn=acs.length:=Y0.len
 have hfew:=OI.few
 refine⟨rfl,y,yn,yc,V0.load1 bf rfl rfl,ae.of (λh1=>?_) (λh1=>?_)⟩ <;> simp only[dTx,dFx]at h1
 · have hi:acs.length<rs.length:=by omega
   obtain⟨r,hr⟩:∃r,rs[acs.length]? =some r:=⟨_,List.getElem?_eq_getElem hi⟩
   have hrn:r<d.n:=OI.inn r (List.mem_of_getElem? hr)
   have hcr:cf rs acs.length=r:=by unfold cf;rw[List.getD_eq_getElem?_getD,hr];rfl
   have ldr:=T0.all.cls aB (P:=prog) hi
   rw[hcr,<- hyn]at ldr
   refine⟨rfl,y,yn,yc,V0.load1 bf rfl rfl,⟨⟨by omega,by omega⟩,T0.all.isSome (i:=acs.length) (by rw[fm];exact hi)⟩,_,ldr,?_⟩
   have Sd:=S.below (bg wl)
   have Yd:Ow lH aX wl.drew NoB y yn yc acs:=Sd.at 2 rfl
   refine⟨λu=>Chg (bK y).toList wl.drew u,Chg.refl _ _,rfl,y,yn,yc,λu hu=>am.load1 bf rfl (Sd.oth 2 rfl hu 4 rfl (by decide)) rfl,rfl,b,m,e,λu hu=>am.load1 bf rfl (Sd.oth 2 rfl hu 6 rfl (by decide)) rfl,?_⟩
   have hrac:r<d.ac.length:=hrn
   have hacn:=h.ac.len
   refine⟨⟨⟨by omega,by omega⟩,h.ac.isSome hrac⟩,_,λu hu=>(h.below (Sd.obw 2 rfl hu)).ac.tru bv hrac,?_⟩
   rw[zg hrac]
   intro k45 w45 hk45 hw45
   obtain⟨c45,w46,y',yn',yc',r46,o46,c46,f46⟩:=Kx (ty:=aO) xW bf qO (by decide) Yd hk45 hw45 (x:=d.acc r) vh (cm:=1) (by omega)
   have Sq:=Sd.upd 2 rfl c46 (p':=ptO lH aX y' yn' yc' (acs++[d.acc r])) o46 f46.fp
   obtain⟨wx2,q2,S3,g2⟩:=Sq.put z8 4 rfl (i:=3) (v:=.slice y' yn' yc') rfl rfl (show 3<4 by decide)
   refine⟨c45,w46,y',yn',yc',r46,c46,rfl,wx2,q2,rfl,((d.K:Nat):Int),?_,?_⟩
   · rw[hKK];exact am.load1 aB rfl (S3.at 6 rfl) rfl
   have hin:acs.length<d.n:=by omega
   have OI2:=OI.state rfl hr
   have hal:(acs++[d.acc r]).length=acs.length+1:=by simp
   generalize hacs':acs++[d.acc r]=acs' at*
   refine⟨λm1 ta tn tc xx wl=>∃(j:Nat) (rs:List Nat) (nx:List Int) (x:Option Addr) (xn xc:Nat),xx=(j:Int)/\j <=d.K/\m1=d.K-j/\Gn d (cf cl) rs acs' nx acs.length j/\rs[acs.length]? =some r/\
     Sp w (oPs (daL a n c b m e d) k2 k4 k5 k16 x xn xc y' yn' yc' ta tn tc d.k (cf cl) rs nx acs') wl,⟨_,0,rs,nx,x,xn,xc,rfl,Nat.zero_le _,rfl,OI2,hr,S3⟩,?_⟩
   clear OI2 S3 Sq Sd S T0 Y0 V0 Yd OI hfew
   intro m1 ta1 tn1 tc1 xx
   refine aC.of ?_ _
   rintro wl1 ⟨j,rs1,nx1,x1,xn1,xc1,rfl,hj,rfl,O1,hr1,S1⟩
   have T1:Ow cI aw wl1 NoB ta1 tn1 tc1 (nI rs1):=S1.at 0 rfl
   have M1:wO (ekN .i64) evN wl1 k16 ((rs1.map (cf cl)).zipIdx):=S1.at 1 rfl
   have htn1:tn1=rs1.length:=by rw[T1.len,fm]
   have hfew1:=O1.few
   refine ae.of (λh5=>?_) (λh5=>?_) <;> simp only[dTx,dFx]at h5
   · have hjK:j<d.K:=by omega
     have ia:=kI hrn hjK hN hK1.2
     obtain⟨va,va1,va2,va3,va4⟩:=hd.at hrn hjK
     have ga:r*d.K+j<d.nx.length:=cF va1
     have eto:d.nx[r*d.K+j]=((d.to r j:Nat):Int):=by
       rw[List.getElem?_eq_getElem ga]at va1
       rw[Option.some.inj va1,va4];omega
     have hto:d.to r j<d.n:=hd.to_lt hrn hjK
     have hnn:=h.nx.len
     have dnx:=(h.below S1.bw).nx
     have ldt:=dnx.num aB (P:=prog) ga
     rw[eto]at ldt
     have lk:=M1.g.look2 (P:=prog) qP (wN.int aB) ff (cf cl (d.to r j))
     obtain⟨z1,z2⟩:=G6 (cf cl (d.to r j)) (rs1.map (cf cl)) 0
     refine⟨rfl,a,n,c,am.load1 aI rfl (S1.at 6 rfl) rfl,rfl,((d.K:Nat):Int),by rw[hKK];exact am.load1 aB rfl (S1.at 6 rfl) rfl,?_⟩
     rw[ia.1]
     refine⟨⟨⟨by omega,by omega⟩,dnx.isSome ga⟩,_,ldt,⟨⟨by omega,by omega⟩,clI hto⟩,_,clS S1.bw hto,?_⟩
     refine⟨((((jI (cf cl (d.to r j)) ((rs1.map (cf cl)).zipIdx)).getD 0:Nat)):Int),(jI (cf cl (d.to r j)) ((rs1.map (cf cl)).zipIdx)).isSome,?_,?_⟩
     · have e:((jI (cf cl (d.to r j)) ((rs1.map (cf cl)).zipIdx)).map evN).getD (vI 0)=vI ((((jI (cf cl (d.to r j)) ((rs1.map (cf cl)).zipIdx)).getD 0:Nat)):Int):=by
         cases jI (cf cl (d.to r j)) ((rs1.map (cf cl)).zipIdx) <;> rfl
       rw[<- e];exact lk
     refine⟨λta tn tc v wl=>∃(rs2:List Nat) (t q:Nat),v=(t:Int)/\(rs2=rs1\/rs2=rs1++[d.to r j]/\cf cl (d.to r j) ∉ rs1.map (cf cl))/\rs2[t]? =some q/\cf cl q=cf cl (d.to r j)/\
       Sp w (oPs (daL a n c b m e d) k2 k4 k5 k16 x1 xn1 xc1 y' yn' yc' ta tn tc d.k (cf cl) rs2 nx1 acs') wl,?_,?_⟩
     · cases hlk:jI (cf cl (d.to r j)) ((rs1.map (cf cl)).zipIdx)with
       | some t=>
         refine ae.no rfl ?_
         obtain⟨z3,z4⟩:=z1 t hlk
         rw[Nat.sub_zero,List.getElem?_map]at z4
         cases hq:rs1[t]? with
         | none=>rw[hq]at z4;cases z4
         | some q=>
           rw[hq]at z4
           exact⟨rs1,t,q,rfl,.inl rfl,hq,Option.some.inj z4,S1⟩
       | none=>
         refine ae.yes rfl ⟨⟨⟨by omega,by omega⟩,clI hto⟩,_,clS S1.bw hto,?_⟩
         obtain⟨wm3,qm3,Mm3,gm3⟩:=wO.up (P:=prog) qP (wN.int aB) (Ga .i64) M1 (cf cl (d.to r j)) tn1
         have ez:upG (cf cl (d.to r j)) tn1 ((rs1.map (cf cl)).zipIdx)=((rs1++[d.to r j]).map (cf cl)).zipIdx:=by
           rw[Qh hlk,List.map_append,List.zipIdx_append,htn1];simp
         rw[ez]at Mm3
         have S2:=S1.upd 1 rfl (Chg.grown gm3 List.mem_cons_self) (p':=ptM (ekN .i64) evN k16 (((rs1++[d.to r j]).map (cf cl)).zipIdx)) Mm3 λb hb=>.inl hb
         refine⟨wm3,qm3,?_⟩
         intro k84 w84 hk84 hw84
         obtain⟨c84,w85,t',tn',tc',r85,o85,c85,f85⟩:=Kx (ty:=ar) fG aI ff (by decide) (S2.at 0 rfl:Ow cI aw wm3 NoB ta1 tn1 tc1 (nI rs1)) hk84 hw84 (x:=((d.to r j:Nat):Int)) eE (cm:=1) (by rw[fm];omega)
         have en:nI rs1++[((d.to r j:Nat):Int)]=nI (rs1++[d.to r j]):=by simp[nI]
         rw[en]at o85
         have S3:=S2.upd 0 rfl c85 (p':=ptO cI aw t' tn' tc' (nI (rs1++[d.to r j]))) o85 f85.fp
         exact⟨w85,t',tn',tc',r85,rs1++[d.to r j],tn1,d.to r j,rfl,.inr ⟨rfl,z2 hlk⟩,by rw[htn1];simp,rfl,S3⟩
     intro ta2 tn2 tc2 vv
     refine aC.of ?_ _
     rintro wj ⟨rs2,t,q,rfl,hps,ht,hq,S2⟩
     have hxl:nx1.length=acs.length*d.K+j:=O1.len
     have hmul:acs.length*d.K <=65536*512:=Nat.mul_le_mul (by have:=cF hr1;omega) hK1.2
     refine⟨rfl,x1,xn1,xc1,am.load1 aI rfl (S2.at 4 rfl) rfl,?_⟩
     intro k89 w89 hk89 hw89
     obtain⟨c89,w90,x',xn',xc',r90,o90,c90,f90⟩:=Kx (ty:=ar) fG aI ff (by decide) (S2.at 3 rfl:Ow cI aw wj NoB x1 xn1 xc1 nx1) hk89 hw89 (x:=((t:Nat):Int)) eE (cm:=1) (by omega)
     have S3:=S2.upd 3 rfl c90 (p':=ptO cI aw x' xn' xc' (nx1++[((t:Nat):Int)])) o90 f90.fp
     obtain⟨wx4,q4,S4,g4⟩:=S3.put iY 4 rfl (i:=2) (v:=.slice x' xn' xc') rfl rfl (show 2<4 by decide)
     have hr2:rs2[acs.length]? =some r:=by
       rcases hps with rfl|⟨rfl,_⟩
       · exact hr1
       · rw[List.getElem?_append_left (cF hr1)];exact hr1
     exact⟨w90,x',xn',xc',r90,rfl,wx4,q4,d.K-(j+1),by omega,j+1,rs2,_,x',xn',xc',by rw[wrap_i64 (by omega) (by omega)];omega,hjK,rfl,O1.put hd hc (by rw[<- hacs'];simp) hjK hr1 hps ht hq,hr2,S4⟩
   · have:j=d.K:=by omega
     subst this
     have O2:=O1.row
     refine⟨d.n-acs'.length,by omega,rs1,nx1,acs',x1,xn1,xc1,y',yn',yc',rfl,?_,S1⟩
     rw[hal];exact O2
 · have hle:rs.length <=acs.length:=by omega
   have fin:=OI.done rfl hle
   obtain⟨wx5,s5,s6,g6⟩:=cX (S.at 5 rfl) rfl x xn xc y yn yc (⟨d.k,0,nx,acs⟩:DA)
   have S6:=S.below (Below.refl _ _)
   have c6:Chg [k4] wl wx5:=Chg.grown g6 List.mem_cons_self
   refine⟨_,_,x,xn,xc,y,yn,yc,bG.load0 (cs:=daL x xn xc y yn yc ⟨d.k,0,nx,acs⟩) V0 rfl,wx5,s5,_,_,x,xn,xc,y,yn,yc,s6,⟨d.k,0,nx,acs⟩,rs,fin,x,xn,xc,y,yn,yc,rfl,⟨S.oth 5 rfl c6 3 rfl (by decide),S.oth 5 rfl c6 2 rfl (by decide),?_,?_,?_⟩,S.obw 5 rfl c6⟩
   · exact λg hg hg2=>S.st.ap 3 2 _ _ rfl rfl (by decide) g (dQ.2 hg) (dQ.2 hg2)
   · exact λg hg=>S.low (ptO cI aw x xn xc nx) (by simp) g (dQ.2 hg)
   · exact λg hg=>S.low (ptO lH aX y yn yc acs) (by simp) g (dQ.2 hg)
def kR (d:DA)(f x t:Nat):List Nat:=(List.range f).filter λs=>decide (d.to s x=t)
theorem ym {d:DA}{f x t s:Nat} :s∈kR d f x t ↔ s<f/\d.to s x=t:=by simp[kR]
theorem IC (d:DA)(f x t:Nat):(kR d f x t).Nodup:=List.nodup_range.filter _
theorem Mn (d:DA)(f x t:Nat):(kR d f x t).length <=f:=by
 have:=List.length_filter_le (λs=>decide (d.to s x=t)) (List.range f)
 rw[List.length_range]at this;exact this
theorem EK (d:DA)(f x t:Nat):kR d (f+1) x t=kR d f x t++(if d.to f x=t then[f]else[]):=by
 unfold kR
 rw[List.range_succ,List.filter_append]
 congr 1
 by_cases h:d.to f x=t <;> simp[h]
def bkN (d:DA)(f j i:Nat):List Nat:=kR d (if i%d.K<j then f+1 else f) (i%d.K) (i/d.K)
theorem Pg (d:DA)(hK:0<d.K)(f i:Nat):bkN d f d.K i=bkN d (f+1) 0 i:=by
 unfold bkN
 rw[if_pos (Nat.mod_lt i hK),if_neg (Nat.not_lt_zero _)]
theorem QG {d:DA}{f j i:Nat}(hj:j<d.K)(hi:i=d.to f j*d.K+j):bkN d f (j+1) i=bkN d f j i++[f]:=by
 have h1:i%d.K=j:=by rw[hi,Nat.mul_comm,Nat.mul_add_mod,Nat.mod_eq_of_lt hj]
 have h2:i/d.K=d.to f j:=by rw[hi,Nat.mul_comm,Nat.mul_add_div (by omega),Nat.div_eq_of_lt hj,Nat.add_zero]
 unfold bkN
 rw[h1,h2,if_pos (Nat.lt_succ_self j),if_neg (Nat.lt_irrefl j),EK,if_pos rfl]
theorem QH {d:DA}{f j i:Nat}(hj:j<d.K)(hi:i≠d.to f j*d.K+j):bkN d f (j+1) i=bkN d f j i:=by
 unfold bkN
 by_cases h1:i%d.K=j
 · have h2:d.to f j≠i/d.K:=λe=>hi (by rw[e,<- h1,Nat.mul_comm,Nat.div_add_mod])
   rw[if_pos (by omega),if_neg (by omega),EK,h1,if_neg h2,List.append_nil]
 · have e:(i%d.K<j+1) ↔ (i%d.K<j):=by omega
   simp only[e]
theorem Pf {d:DA}{t x:Nat}(hx:x<d.K):bkN d d.n 0 (t*d.K+x)=kR d d.n x t:=by
 unfold bkN
 rw[if_neg (Nat.not_lt_zero _)]
 congr 1
 · rw[Nat.mul_comm,Nat.mul_add_mod,Nat.mod_eq_of_lt hx]
 · rw[Nat.mul_comm,Nat.mul_add_div (by omega),Nat.div_eq_of_lt hx,Nat.add_zero]
def Bh (d:DA)(s:Nat):Nat:=if d.acc s=true then 1 else 0
def xI (d:DA)(f:Nat):List Nat:=(List.range d.n).map λs=>if s<f then Bh d s else 0
def zC (d:DA)(f:Nat)(b:Bool):List Nat:=(List.range f).filter λs=>d.acc s==b
theorem kG (d:DA)(f:Nat):(xI d f).length=d.n:=by simp[xI]
theorem Jb {d:DA}{f s:Nat}(h:s<d.n):cf (xI d f) s=if s<f then Bh d s else 0:=by
 unfold cf xI
 rw[List.getD_eq_getElem?_getD,List.getElem?_map,List.getElem?_range h];rfl
theorem Lk (d:DA):xI d 0=List.replicate d.n 0:=by
 unfold xI
 rw[List.eq_replicate_iff]
 refine⟨by simp,λb hb=>?_⟩
 obtain⟨s,_,rfl⟩:=List.mem_map.1 hb
 simp
theorem GJ {d:DA}{f:Nat}(hf:f<d.n):xI d (f+1)=if d.acc f=true then(xI d f).set f 1 else xI d f:=by
 have hget:∀(i:Nat) (h:i<d.n),(xI d f)[i]'(by rw[kG];exact h)=if i<f then Bh d i else 0:=λi h=>by simp[xI]
 have hget1:∀(i:Nat) (h:i<d.n),(xI d (f+1))[i]'(by rw[kG];exact h)=if i<f+1 then Bh d i else 0:=λi h=>by simp[xI]
 by_cases ha:d.acc f=true
 · rw[if_pos ha]
   refine List.ext_getElem (by rw[List.length_set,kG,kG]) λi h1 h2=>?_
   rw[kG]at h1
   rw[hget1 i h1,List.getElem_set]
   by_cases e:f=i
   · subst e
     rw[if_pos rfl,if_pos (Nat.lt_succ_self f)]
     unfold Bh;rw[if_pos ha]
   · rw[if_neg e,hget i h1]
     have:(i<f+1) ↔ (i<f):=by omega
     simp only[this]
 · rw[if_neg ha]
   refine List.ext_getElem (by rw[kG,kG]) λi h1 h2=>?_
   rw[kG]at h1
   rw[hget1 i h1,hget i h1]
   by_cases e:f=i
   · subst e
     rw[if_pos (Nat.lt_succ_self f),if_neg (Nat.lt_irrefl f)]
     unfold Bh;rw[if_neg ha]
   · have:(i<f+1) ↔ (i<f):=by omega
     simp only[this]
theorem G8 (d:DA)(f:Nat)(b:Bool):zC d (f+1) b=zC d f b++(if d.acc f=b then[f]else[]):=by
 unfold zC
 rw[List.range_succ,List.filter_append]
 congr 1
 by_cases h:d.acc f=b <;> simp[h]
theorem yl {d:DA}{f s:Nat}{b:Bool} :s∈zC d f b ↔ s<f/\d.acc s=b:=by simp[zC]
theorem FN (d:DA)(f:Nat)(b:Bool):(zC d f b).length <=f:=by
 have:=List.length_filter_le (λs=>d.acc s==b) (List.range f)
 rw[List.length_range]at this;exact this
theorem rM {d:DA}{s:Nat}(h:s<d.n):cf (xI d d.n) s=Bh d s:=by rw[Jb h,if_pos h]
theorem OZ {d:DA}{s t:Nat}(h:Bh d s=Bh d t):d.acc s=d.acc t:=by
 unfold Bh at h
 cases h1:d.acc s <;> cases h2:d.acc t <;> simp[h1,h2]at h ⊢
theorem RN (d:DA):KK d (xI d d.n) [zC d d.n false,zC d d.n true] where
 len:=kG d _
 mlt:=λs hs=>by
   rw[rM hs]
   show Bh d s<2
   unfold Bh;split <;> omega
 mems:=λc m hm=>by
   have nd:∀b,(zC d d.n b).Nodup:=λb=>List.nodup_range.filter _
   match c,hm with
   | 0,hm=>
     obtain rfl:=Option.some.inj hm
     refine⟨nd _,λs=>?_⟩
     rw[yl]
     refine and_congr_right λhs=>?_
     rw[rM hs]
     unfold Bh
     cases d.acc s <;> simp
   | 1,hm=>
     obtain rfl:=Option.some.inj hm
     refine⟨nd _,λs=>?_⟩
     rw[yl]
     refine and_congr_right λhs=>?_
     rw[rM hs]
     unfold Bh
     cases d.acc s <;> simp
   | c+2,hm=>simp at hm
 acc:=λs t hs ht e=>by
   rw[rM hs,rM ht]at e
   exact OZ e
theorem QD (d:DA):xL d (cf (xI d d.n)) [zC d d.n false,zC d d.n true]:=λu v hu hv e=>by
 rw[rM hu,rM hv]at e
 refine⟨zC d d.n true,.inl (by simp),λhiff=>e ?_⟩
 rw[yl,yl]at hiff
 have:d.acc u=true ↔ d.acc v=true:=⟨λh=>(hiff.1 ⟨hu,h⟩).2,λh=>(hiff.2 ⟨hv,h⟩).2⟩
 unfold Bh
 cases h1:d.acc u <;> cases h2:d.acc v <;> simp[h1,h2]at this ⊢
def Nh (d:DA)(cl:List Nat)(m:Nat):Prop:=∀c,2 <=c->c<m->∃s,s<d.n/\cf cl s=c
theorem Nh.le {d:DA}{cl:List Nat}{m:Nat}(h:Nh d cl m):m <=d.n+2:=by
 have h1:((List.range m).drop 2).length <=((List.range d.n).map (cf cl)).length:=mc (List.nodup_range.sublist (List.drop_sublist _ _)) λc hc=>by
   obtain⟨i,hi,e⟩:=List.mem_iff_getElem.1 hc
   rw[List.getElem_drop,List.getElem_range]at e
   rw[List.length_drop,List.length_range]at hi
   obtain⟨s,hs,e2⟩:=h c (by omega) (by omega)
   exact List.mem_map.2 ⟨s,List.mem_range.2 hs,e2⟩
 rw[List.length_drop,List.length_range,List.length_map,List.length_range]at h1
 omega
theorem Nh.split {d:DA}{cl:List Nat}{mem:List (List Nat)}(hi:KK d cl mem)(h:Nh d cl mem.length){c:Nat}{m l:List Nat}(hm:mem[c]? =some m)(hl:∀s∈l,s∈m)(hne:l≠[])(hlt:∃s∈m,s ∉ l):Nh d (fe cl mem.length l) (mem.length+1):=by
 intro k h2 hk
 have hcf:∀s,s<d.n->cf (fe cl mem.length l) s=if s∈l then mem.length else cf cl s:=λs hs=>mG _ l cl s (by rw[hi.len];exact hs)
 obtain⟨m1,m2⟩:=hi.mems c m hm
 by_cases e:k=mem.length
 · subst e
   cases l with
   | nil=>exact absurd rfl hne
   | cons s l=>
     have hs:=((m2 s).1 (hl s List.mem_cons_self)).1
     exact⟨s,hs,by rw[hcf s hs,if_pos List.mem_cons_self]⟩
 · by_cases e2:k=c
   · subst e2
     obtain⟨s,hs,hn⟩:=hlt
     obtain⟨h3,h4⟩:=(m2 s).1 hs
     exact⟨s,h3,by rw[hcf s h3,if_neg hn];exact h4⟩
   · obtain⟨s,hs,e3⟩:=h k h2 (by omega)
     refine⟨s,hs,?_⟩
     rw[hcf s hs,if_neg (λhsl=>e2 ?_)]
     · exact e3
     · rw[<- e3];exact((m2 s).1 (hl s hsl)).2
theorem St.perm {ps qs:List Pt}{w:World}(h:St ps w)(hp:ps.Perm qs):St qs w:=by
 have pw:∀{l:List Pt},(∀(i j:Nat) (p q:Pt),l[i]? =some p->l[j]? =some q->i≠j->∀b∈p.fp,b ∉ q.fp) ↔ l.Pairwise λp q=>∀b∈p.fp,b ∉ q.fp:=fun{l} =>by
   rw[List.pairwise_iff_getElem]
   constructor
   · intro h i j hi hj hij
     exact h i j _ _ (List.getElem?_eq_getElem hi) (List.getElem?_eq_getElem hj) (by omega)
   · intro h i j p q hp hq hne b hb hb2
     obtain⟨hi,rfl⟩:=List.getElem?_eq_some_iff.1 hp
     obtain⟨hj,rfl⟩:=List.getElem?_eq_some_iff.1 hq
     rcases Nat.lt_or_ge i j with hij|hij
     · exact h i j hi hj hij b hb hb2
     · exact h j i hj hi (by omega) b hb2 hb
 exact⟨λp hm=>h.hold p (hp.symm.subset hm),pw.2 ((hp.pairwise_iff fun{x y} hxy b hb hb2=>hxy b hb2 hb).1 (pw.1 h.ap))⟩
theorem Sp.perm {w0 w:World}{ps qs:List Pt}(h:Sp w0 ps w)(hp:ps.Perm qs):Sp w0 qs w:=⟨h.st.perm hp,λp hm=>h.low p (hp.symm.subset hm),h.bw⟩
theorem Sl.hd {P:Program}{t e:TypeId}(hu:P.underlying t=some (.slice e)){w:World}{A:Bl}{a:Option Addr}{l c:Nat}{hs:List Hi}(h:Sl tHi w A a l c hs){i:Nat}{x:Hi}(hi:hs[i]? =some x):
   (Instr.loadAt t (.pointer (ao a (i:Int) 1))).run P w=.ok x.v w:=by
 obtain⟨hlt,rfl⟩:=List.getElem?_eq_some_iff.1 hi
 obtain⟨v,hv,hrep⟩:=h.load1 (P:=P) hu rfl rfl (i:=(i:Int)) (by simpa using hlt)
 have:=hrep.1
 simp only[Int.toNat_natCast,List.cons.injEq,and_true]at this
 rw[hv,this]
structure H3 where
 a:Option Addr
 n:Nat
 c:Nat
def H3.v (h:H3):Value:=.slice h.a h.n h.c
theorem Hk {w0 w:World}{ps:List Pt}(S:Sp w0 ps w)(iR iO:Nat){pool rest hs:List Hi}{a:Option Addr}{n c:Nat}(hR:ps[iR]? =some (ptR aw pool))(hO:ps[iO]? =some (ptO tHi ar a n c hs))(hne:iO≠iR)
   {t:Nat} {h:Hi} (hg:hs[t]? =some h) (hp:pool.Perm (h::rest)) {k1:Nat} {w1:World} {x:Int} (hk:k1=w.heap.size) (hw:w1=w.alloc (.cells #[vI x] aw)) (hb:h.xs.length <=1000000):
   Chg (BA pool) w w1/\∃(w2:World) (h':Hi),(Builtin.append_ #[ar,ar] ar #[h.v,.slice (some ⟨k1,0,none⟩) 1 1]).run prog w1=.ok h'.v w2/\Chg (BA pool) w w2/\h'.xs=h.xs++[x]/\
     ∃wx,(Instr.storeAt ar (.pointer (ao a (t:Int) 1)) h'.v).run prog w2=.ok () wx/\Sp w0 ((ps.set iR (ptR aw (h'::rest))).set iO (ptO tHi ar a n c (hs.set t h'))) wx:=by
 have R:Rws aw w (h::rest):=Rws.perm (S.at iR hR) hp
 have inP:∀b∈(bK h.a).toList,b∈BA pool:=λb hb=>(rz hp).2 (gA.2 (.inl (dQ.1 hb)))
 obtain⟨c1,w2,a2,n2,c2,r2,o2,g2,f2⟩:=Kx (ty:=ar) fG aI ff (by decide) (R.own h List.mem_cons_self) hk (vs:=[vI x]) hw (x:=x) eE (cm:=1) (by omega)
 have R2:Rws aw w2 (⟨a2,n2,c2,h.xs++[x]⟩::rest):=R.upd (h':=⟨a2,n2,c2,h.xs++[x]⟩) g2 o2 f2
 have S2:=S.upd iR hR (g2.mono inP) (p':=ptR aw (⟨a2,n2,c2,h.xs++[x]⟩::rest)) R2 λb hb=>by
   rcases gA.1 hb with e|e
   · rcases f2 b e with e2|e2
     · exact .inl (inP b (dQ.2 e2))
     · exact .inr e2
   · exact .inl ((rz hp).2 (gA.2 (.inr e)))
 have hO2:(ps.set iR (ptR aw (⟨a2,n2,c2,h.xs++[x]⟩::rest)))[iO]? =some (ptO tHi ar a n c hs):=by
   rw[List.getElem?_set_ne (Ne.symm hne)];exact hO
 have O2:Ow tHi ar w2 NoB a n c hs:=S2.at iO hO2
 have ht:t<hs.length:=cF hg
 obtain⟨wx,q,o3,g3⟩:=Ow.store (k:=1) iY O2 (λ_ _ h=>h) (i:=(t:Int)) (by simpa using ht) rfl (v:=Hi.v ⟨a2,n2,c2,h.xs++[x]⟩) (x:=⟨a2,n2,c2,h.xs++[x]⟩) ⟨rfl,trivial⟩
 rw[Int.toNat_natCast]at o3
 refine⟨c1.mono inP,w2,⟨a2,n2,c2,h.xs++[x]⟩,r2,g2.mono inP,rfl,wx,q,S2.upd iO hO2 (Chg.row g3) (p':=ptO tHi ar a n c (hs.set t ⟨a2,n2,c2,h.xs++[x]⟩)) o3 λb hb=>.inl hb⟩
end Go.Pk
