/- What the laws lean on: V1, Arr, H, Env, Split, DateP, DateA, DateB, DateC, DateQ, DateD, OctA; what is used. Its conditions: none. -/
import Derived.Test.YtlfolncaghkmcaaGreatDoorKB
import Derived.Lib.ItoaMem
import Derived.Lib.SplitLaws
import Derived.Lib.IndexMore
import Init
variable {a b:Int}{w u:Go.World}{n i k:Nat}{t:Go.TypeId}{P:Go.Program}
open Go.IntKind (i64)
open Go.Proofs.Tryz
set_option linter.unusedVariables false
set_option maxRecDepth 100000
open List (length)
open Option (isSome)
namespace Go.Pk
open Go.RowKit (Below)
open Go.Proofs
theorem Iy (a:lU){w K}(h:nA w (.cells #[vS [],vS [],vS [],vS [],.bool false,vI 0,.bool false,vI 0,.bool false,.bool false,vI 0] aq) λb c=>uB xF #[vS a] c λd e=>ai d (∃f,Sv aq (vA b 0) (hV [] [] [] [] false (0:Int) false (0:Int) false false (0:Int)) e f/\∃g i j k l m n o p q r,Rv aq (vA b 0) f (hV g i j k l m n o p q r)/\K (.tuple #[(hV g i j k l m n o p q r),vI 81]) f) (uL qx #[vS a,.int .u8 59] e λf g i j=>nA j (.cells #[vS [],vS [],vS [],vS [],.bool false,vI 0,.bool false,vI 0,.bool false,.bool false,vI 0] aq) λk l=>(bx (0:Int) ((g:Nat):Int)/\Option.isSome f=true)/\∃m,Ld ao (aw f (0:Int) 1) l (vS m)/\Cf yd #[vS m] l λn o=>∃p q r,n=rT #[vS p,vS q,.bool r]/\∃s:FP [.one .str,.one .str],(ai (!r) (s [] p o) (s p q o))/\∀t u,aP 3 (∀v,s t u v->(((List.length t+List.length u:Nat):Int) <=i64.max)/\∀x,x=(t++u)->ai (x==[]) (∃y,Sv aq (vA b 0) (hV [] [] [] [] false (0:Int) false (0:Int) false false (0:Int)) v y/\∃z A B C D E F G H I J,Rv aq (vA b 0) y (hV z A B C D E F G H I J)/\K (.tuple #[(hV z A B C D E F G H I J),vI 82]) y) (ai (decide ((i64.wrap (((List.length t:Nat):Int)+((List.length u:Nat):Int)))>(4096:Int))) (∃y,Sv aq (vA b 0) (hV [] [] [] [] false (0:Int) false (0:Int) false false (0:Int)) v y/\∃z A B C D E F G H I J,Rv aq (vA b 0) y (hV z A B C D E F G H I J)/\K (.tuple #[(hV z A B C D E F G H I J),vI 83]) y) (true/\∃y,Sv ao (vA k 0) (vS t) v y/\true/\∃z,Sv ao (vA k 1) (vS u) y z/\bd (1:Int) ((g:Nat):Int)/\∃A:Nat->FP [.one (.int .i64)],(∃B,A B (0:Int) z)/\∀B C,aP 21 (∀D,A B C D->ai (decide (C<(((g-(Int.toNat 1)):Nat):Int))) ((bx C (((g-(Int.toNat 1)):Nat):Int)/\isSome (aS f i (Int.toNat 1) 1))/\∃E,Ld ao (aw (aS f i (Int.toNat 1) 1) C 1) D (vS E)/\Cf yd #[vS E] D λF G=>∃H I J,F=rT #[vS H,vS I,.bool J]/\ai (decide (((List.length I:Nat):Int) <=(1024:Int))) (uS o8 #[vS H] G λL M=>uU vv #[.pointer (vA k 0),vS L,vS I] M λN=>∃O:Nat,O<B/\A O (i64.wrap (C+(1:Int))) N) (∃L:Nat,L<B/\A L (i64.wrap (C+(1:Int))) G)) (∃E F G H I J L M N O P,Ld aq (vA k 0) D (hV E F G H I J L M N O P)/\∃Q,Sv aq (vA b 0) (hV E F G H I J L M N O P) D Q/\∃R S T U V X Y Z ac ad ag,Rv aq (vA b 0) Q (hV R S T U V X Y Z ac ad ag)/\K (.tuple #[(hV R S T U V X Y Z ac ad ag),vI 0]) Q))))))):Cf xe #[vS a] w (Ret K):=ru func31 [(16,[(6,.one .str),(7,.one .str)]),(43,[(51,.one (.int .i64))])] h
theorem LJ (a:lU){w K}(h:uS Am #[vS a,vS [32,9]] w λb c=>K (vS b) c):Cf uZ #[vS a] w (Ret K):=ru func52 [] h
theorem Ki (a:lU)(b:Int){w K}(h:nA w (.cells #[.int .u8 b] bF) λc d=>∃e,(convert bM ao (.slice (vA c 0) 1 1)).run prog d=.ok (vS e) d/\uL JA #[vS a,vS e] d λf g i j=>K (.slice f g i) j):Cf qx #[vS a,.int .u8 b] w (Ret K):=ru func59 [] h
theorem Gx (a:lU){w K}(h:∃b c d e,(convert ao bM (vS a)).run prog w=.ok (.slice c d e) b/\∃f:Nat->FP [.one (.int .i64)],(∃g,f g (0:Int) b)/\∀g i,aP 16 (∀j,f g i j->ai (decide (i<((d:Nat):Int))) ((bx i ((d:Nat):Int)/\Option.isSome c=true)/\∃k,Ld bF (aw c i 1) j (.int .u8 k)/\ai (decide (k<(32:Int))) (ai (k !=(9:Int)) (K (.bool true) j) (ai (k==(127:Int)) (K (.bool true) j) (∃l:Nat,l<g/\f l (i64.wrap (i+(1:Int))) j))) (ai (k==(127:Int)) (K (.bool true) j) (∃l:Nat,l<g/\f l (i64.wrap (i+(1:Int))) j))) (K (.bool false) j))):Cf xF #[vS a] w (Ret K):=ru func62 [(6,[(8,.one (.int .i64))])] h
theorem J8 (a:lU){w K}(h:Cf Gc #[vS a,vS [61]] w λb c=>∃d e f,b=rT #[vS d,vS e,.bool f]/\uS uZ #[vS d] c λg i=>uS uZ #[vS e] i λj k=>K (.tuple #[vS g,vS j,.bool f]) k):Cf yd #[vS a] w (Ret K):=ru func63 [] h
theorem Er (a:Option Addr)(b c:lU){w K}(h:ai (b==[101,120,112,105,114,101,115]) (Cf Bh #[vS c] w λd e=>∃f g,d=rT #[vI f,.bool g]/\ai g ((Option.isSome a=true)/\(Option.isSome a=true)/\∃i,Sv bu (Option.map (λj=>j.add 4) a) (.bool true) e i/\(Option.isSome a=true)/\(Option.isSome a=true)/\∃j,Sv aX (Option.map (λk=>k.add 5) a) (vI f) i j/\K (.tuple #[]) j) (K (.tuple #[]) e)) (ai (b==[109,97,120,45,97,103,101]) (Cf CW #[vS c] w λd e=>∃f g,d=rT #[vI f,.bool g]/\ai g ((Option.isSome a=true)/\(Option.isSome a=true)/\∃i,Sv bu (Option.map (λj=>j.add 6) a) (.bool true) e i/\(Option.isSome a=true)/\(Option.isSome a=true)/\∃j,Sv aX (Option.map (λk=>k.add 7) a) (vI f) i j/\K (.tuple #[]) j) (K (.tuple #[]) e)) (ai (b==[100,111,109,97,105,110]) (uS Em #[vS c,vS [46]] w λd e=>uS o8 #[vS d] e λf g=>(Option.isSome a=true)/\(Option.isSome a=true)/\∃i,Sv ao (Option.map (λj=>j.add 2) a) (vS f) g i/\K (.tuple #[]) i) (ai (b==[112,97,116,104]) ((Option.isSome a=true)/\(Option.isSome a=true)/\∃d,Sv ao (Option.map (λe=>e.add 3) a) (vS []) w d/\uB sb #[vS c,vS [47]] d λe f=>ai e ((Option.isSome a=true)/\(Option.isSome a=true)/\∃g,Sv ao (Option.map (λi=>i.add 3) a) (vS c) f g/\K (.tuple #[]) g) (K (.tuple #[]) f)) (ai (b==[115,101,99,117,114,101]) ((Option.isSome a=true)/\(Option.isSome a=true)/\∃d,Sv bu (Option.map (λe=>e.add 8) a) (.bool true) w d/\K (.tuple #[]) d) (ai (b==[104,116,116,112,111,110,108,121]) ((Option.isSome a=true)/\(Option.isSome a=true)/\∃d,Sv bu (Option.map (λe=>e.add 9) a) (.bool true) w d/\K (.tuple #[]) d) (ai (b==[115,97,109,101,115,105,116,101]) ((Option.isSome a=true)/\(Option.isSome a=true)/\∃d,Sv aJ (Option.map (λe=>e.add 10) a) (vI 0) w d/\Cf uv #[] d λe f=>∃g i j k,e=.returned (.agg #[vS g,vS i,vS j,vS k])/\∃l:Nat->FP [.one (.int .i64)],(∃m,l m (0:Int) f)/\∀m n,aP 13 (∀o,l m n o->ai (decide (n<(4:Int))) (∃p,(Instr.index kQ (.agg #[vS g,vS i,vS j,vS k]) (vI n)).run prog o=.ok (vS p) o/\uB zO #[vS p,vS c] o λq r=>ai q ((Option.isSome a=true)/\(Option.isSome a=true)/\∃s,Sv aJ (Option.map (λt=>t.add 10) a) (vI n) r s/\∃t:Nat,t<m/\l t (i64.wrap (n+(1:Int))) s) (∃s:Nat,s<m/\l s (i64.wrap (n+(1:Int))) r)) (K (.tuple #[]) o))) (K (.tuple #[]) w)))))))):Cf vv #[.pointer a,vS b,vS c] w (Ret K):=ru func64 [(53,[(78,.one (.int .i64))])] h
theorem Kh (a:lU){w K}(h:∃b c d e,(convert ao bM (vS a)).run prog w=.ok (.slice c d e) b/\∃f:Nat->FP [.one (.int .i64)],(∃g,f g (0:Int) b)/\∀g i,aP 19 (∀j,f g i j->ai (decide (i<((d:Nat):Int))) ((bx i ((d:Nat):Int)/\Option.isSome c=true)/\∃k,Ld bF (aw c i 1) j (.int .u8 k)/\∃l:FP [.one .bool],(ai (decide (k >=(65:Int))) (l (decide (k <=(90:Int))) j) (l false j))/\∀m,aP 5 (∀n,l m n->ai m ((bx i ((d:Nat):Int)/\Option.isSome c=true)/\∃o,Sv bF (aw c i 1) (.int .u8 (IntKind.u8.wrap ((IntKind.u8.wrap (k-(65:Int)))+(97:Int)))) n o/\∃p:Nat,p<g/\f p (i64.wrap (i+(1:Int))) o) (∃o:Nat,o<g/\f o (i64.wrap (i+(1:Int))) n))) (∃k,(convert bM ao (.slice c d e)).run prog j=.ok (vS k) j/\K (vS k) j))):Cf o8 #[vS a] w (Ret K):=ru func65 [(8,[(10,.one (.int .i64))]),(19,[(20,.one .bool)])] h
theorem Kj (a:lU){w K}(h:∃b:Nat->FP [.one .str,.one (.int .i64)],(∃c,b c [] (0:Int) w)/\∀c d e,aP 23 (∀f,b c d e f->ai (decide (e<((List.length a:Nat):Int))) (bx e ((List.length a:Nat):Int)/\∃g:FP [.one (.int .u8)],(ai (decide ((bm a e) >=(65:Int))) (ai (decide ((bm a e) <=(90:Int))) (g (IntKind.u8.wrap ((bm a e)+(32:Int))) f) (g (bm a e) f)) (g (bm a e) f))/\∀i,aP 8 (∀j,g i j->nA j (.cells #[.int .u8 i] bF) λk l=>∃m,(convert bM ao (.slice (vA k 0) 1 1)).run prog l=.ok (vS m) l/\(((List.length d+List.length m:Nat):Int) <=i64.max)/\∀n,n=(d++m)->∃o:Nat,o<c/\b o n (i64.wrap (e+(1:Int))) l)) (K (vS d) f))):Cf df #[vS a] w (Ret K):=ru func83 [(8,[(3,.one .str),(4,.one (.int .i64))]),(19,[(5,.one (.int .u8))])] h
theorem II (a:lU){w K}(h:∃b:FP [],(uB gY #[vS a] w λc d=>ai (!c) (K (.tuple #[vI 0,.bool false]) d) (ai (decide (((List.length a:Nat):Int)>(18:Int))) (K (.tuple #[vI 0,.bool false]) d) (ai (decide (((List.length a:Nat):Int)>(1:Int))) (bx (0:Int) ((List.length a:Nat):Int)/\ai ((bm a (0:Int))==(48:Int)) (K (.tuple #[vI 0,.bool false]) d) (b d)) (b d))))/\aP 20 (∀c,b c->∃d:Nat->FP [.one (.int .i64),.one (.int .i64)],(∃e,d e (0:Int) (0:Int) c)/\∀e f g,aP 14 (∀i,d e f g i->ai (decide (g<((List.length a:Nat):Int))) (bx g ((List.length a:Nat):Int)/\∃j:Nat,j<e/\d j (i64.wrap ((i64.wrap ((i64.wrap (f*(10:Int)))+(i64.wrap (bm a g))))-(48:Int))) (i64.wrap (g+(1:Int))) i) (K (.tuple #[vI f,.bool true]) i)))):Cf xg #[vS a] w (Ret K):=ru func86 [(2,[]),(16,[(4,.one (.int .i64)),(5,.one (.int .i64))])] h
theorem IF (a:lU){w K}(h:ai (!(a==[])) (bd (10:Int) (((List.length [48,49,50,51,52,53,54,55,56,57,65,66,67,68,69,70]):Nat):Int)/\∀b,b=(List.take (Int.toNat 10) [48,49,50,51,52,53,54,55,56,57,65,66,67,68,69,70])->uS Am #[vS a,vS b] w λc d=>K (.bool (c==[])) d) (K (.bool false) w)):Cf uy #[vS a] w (Ret K):=ru func113 [] h
theorem J5 (a:lU){w K}(h:nA w (.cells #[.bool false,.bool false,.bool false,.bool false,vI 0,vI 0,vI 0,vI 0,vI 0,vI 0] mY) λb c=>∃d:Nat->FP [.one (.int .i64),.one (.int .i64)],(∃e,d e (0:Int) (0:Int) c)/\∀e f g,aP 26 (∀i,d e f g i->ai (decide (g <=((List.length a:Nat):Int))) (∃j:FP [.one .bool],(ai (g==((List.length a:Nat):Int)) (j true i) (bx g ((List.length a:Nat):Int)/\uB CV #[.int .u8 (bm a g)] i λk l=>j k l))/\∀k,aP 9 (∀l,j k l->ai k (ai (decide (g>f)) ((bd g (((List.length a):Nat):Int)/\0 <=f/\f <=((Int.toNat g:Nat):Int))/\∀m,m=(List.drop (Int.toNat f) (List.take (Int.toNat g) a))->uU vq #[.pointer (vA b 0),vS m] l λn=>∃o:Nat,o<e/\d o (i64.wrap (g+(1:Int))) (i64.wrap (g+(1:Int))) n) (∃m:Nat,m<e/\d m (i64.wrap (g+(1:Int))) (i64.wrap (g+(1:Int))) l)) (∃m:Nat,m<e/\d m f (i64.wrap (g+(1:Int))) l))) (∃j:FP [],(∃k:FP [.one .bool],(true/\∃l,Ld aJ (vA b 7) i (vI l)/\ai (decide (l >=(70:Int))) (true/\∃m,Ld aJ (vA b 7) i (vI m)/\k (decide (m <=(99:Int))) i) (k false i))/\∀l,aP 8 (∀m,k l m->ai l (true/\∃n,Ld aJ (vA b 7) m (vI n)/\true/\∃o,Sv aJ (vA b 7) (vI (i64.wrap (n+(1900:Int)))) m o/\j o) (true/\∃n,Ld aJ (vA b 7) m (vI n)/\ai (decide (n<(70:Int))) (true/\∃o,Ld aJ (vA b 7) m (vI o)/\true/\∃p,Sv aJ (vA b 7) (vI (i64.wrap (o+(2000:Int)))) m p/\j p) (j m))))/\aP 21 (∀k,j k->true/\∃l,Ld aJ (vA b 7) k (vI l)/\true/\∃m,Ld aJ (vA b 8) k (vI m)/\true/\∃n,Ld aJ (vA b 9) k (vI n)/\Cf yR #[vI l,vI m,vI n] k λo p=>∃q r,o=rT #[vI q,.bool r]/\∃s:FP [],(ai (!r) (K (.tuple #[vI 0,.bool false]) p) (true/\∃t,Ld bu (vA b 0) p (.bool t)/\ai (!t) (K (.tuple #[vI 0,.bool false]) p) (true/\∃u,Ld bu (vA b 3) p (.bool u)/\ai (!u) (K (.tuple #[vI 0,.bool false]) p) (true/\(bx (0:Int) ((3:Nat):Int)/\true)/\∃v,Ld aJ (aw (vA b 4) (0:Int) 1) p (vI v)/\ai (decide (v>(23:Int))) (K (.tuple #[vI 0,.bool false]) p) (true/\(bx (1:Int) ((3:Nat):Int)/\true)/\∃x,Ld aJ (aw (vA b 4) (1:Int) 1) p (vI x)/\ai (decide (x>(59:Int))) (K (.tuple #[vI 0,.bool false]) p) (true/\(bx (2:Int) ((3:Nat):Int)/\true)/\∃y,Ld aJ (aw (vA b 4) (2:Int) 1) p (vI y)/\ai (decide (y>(59:Int))) (K (.tuple #[vI 0,.bool false]) p) (s p)))))))/\aP 32 (∀t,s t->true/\(bx (0:Int) ((3:Nat):Int)/\true)/\∃u,Ld aJ (aw (vA b 4) (0:Int) 1) t (vI u)/\true/\(bx (1:Int) ((3:Nat):Int)/\true)/\∃v,Ld aJ (aw (vA b 4) (1:Int) 1) t (vI v)/\true/\(bx (2:Int) ((3:Nat):Int)/\true)/\∃x,Ld aJ (aw (vA b 4) (2:Int) 1) t (vI x)/\K (.tuple #[vI (i64.wrap ((i64.wrap ((i64.wrap ((i64.wrap (q*(86400:Int)))+(i64.wrap (u*(3600:Int)))))+(i64.wrap (v*(60:Int)))))+x)),.bool true]) t))))):Cf Bh #[vS a] w (Ret K):=ru func120 [(10,[(5,.one (.int .i64)),(6,.one (.int .i64))]),(19,[(24,.one .bool)]),(31,[]),(33,[(35,.one .bool)]),(44,[])] h
theorem Lv (a:lU){w K}(h:Cf jU #[vS a,vS [45]] w λb c=>∃d e,b=rT #[vS d,.bool e]/\uB uy #[vS d] c λf g=>ai (!f) (K (.tuple #[vI 0,.bool false]) g) (ai e (K (.tuple #[vI 0,.bool true]) g) (uS zQ #[vS d,vS [48]] g λi j=>Cf xf #[vS i] j λk l=>∃m n,k=rT #[vI m,.bool n]/\ai (!n) (uS Am #[vS d,vS [48]] l λo p=>ai (!(o==[])) (K (.tuple #[vI 34560000,.bool true]) p) (ai (decide (m>(34560000:Int))) (K (.tuple #[vI 34560000,.bool true]) p) (K (.tuple #[vI m,.bool true]) p))) (ai (decide (m>(34560000:Int))) (K (.tuple #[vI 34560000,.bool true]) l) (K (.tuple #[vI m,.bool true]) l))))):Cf CW #[vS a] w (Ret K):=ru func121 [] h
theorem IA {w K}(h:nA w (.cells #[vS [],vS [],vS [],vS []] kQ) λa b=>∃c,Sv kQ (vA a 0) (.agg #[vS [],vS [78,111,110,101],vS [76,97,120],vS [83,116,114,105,99,116]]) b c/\∃d e f g,Rv kQ (vA a 0) c (.agg #[vS d,vS e,vS f,vS g])/\K (.agg #[vS d,vS e,vS f,vS g]) c):Cf uv #[] w (Ret K):=ru func123 [] h
theorem LI (a b:lU){w K}(h:uS o8 #[vS a] w λc d=>uS o8 #[vS b] d λe f=>K (.bool (c==e)) f):Cf zO #[vS a,vS b] w (Ret K):=ru func124 [] h
theorem Iz (a b c d:lU)(e:Bool)(f:Int)(g:Bool)(i:Int)(j k:Bool)(l:Int){w K}(h:nA w (.cells #[vS a,vS b,vS c,vS d,.bool e,vI f,.bool g,vI i,.bool j,.bool k,vI l] aq) λm n=>∃o p q r s t u v x y z,Ld aq (vA m 0) n (hV o p q r s t u v x y z)/\uS xG #[(hV o p q r s t u v x y z)] n λA B=>Cf xe #[vS A] B λC D=>∃E F G H I J L M N O P Q,C=rT #[(hV E F G H I J L M N O P),vI Q]/\nA D (.cells #[vS [],vS [],vS [],vS [],.bool false,vI 0,.bool false,vI 0,.bool false,.bool false,vI 0] aq) λR S=>∃T,Sv aq (vA R 0) (hV E F G H I J L M N O P) S T/\ai (Q==(0:Int)) (∃U V X Y Z ac ad ag aj al an,Ld aq (vA R 0) T (hV U V X Y Z ac ad ag aj al an)/\∃ar bb bc bd bj bk bo bp bq bs bx,Ld aq (vA m 0) T (hV ar bb bc bd bj bk bo bp bq bs bx)/\∃bz,(do eqGuard .eql aq (.tmp 14) (.tmp 15) (hV U V X Y Z ac ad ag aj al an) (hV ar bb bc bd bj bk bo bp bq bs bx);binOp .eql aq (hV U V X Y Z ac ad ag aj al an) (hV ar bb bc bd bj bk bo bp bq bs bx):Sem Value).run prog T=.ok (.bool bz) T/\K (.bool bz) T) (K (.bool false) T)):Cf Ai #[.agg #[vS a,vS b,vS c,vS d,.bool e,vI f,.bool g,vI i,.bool j,.bool k,vI l]] w (Ret K):=ru func125 [] h
theorem Kk (a:lU)(b:Int){w K}(h:nA w (.cells #[] ao) λc d=>∃e:Nat->FP [.one .slice,.one (.int .i64),.one (.int .i64)],(∃f,e f (vA c 0) 0 0 (0:Int) (0:Int) d)/\∀f g i j k l,aP 20 (∀m,e f g i j k l m->ai (decide (l<((List.length a:Nat):Int))) (bx l ((List.length a:Nat):Int)/\ai ((bm a l)==b) ((bd l (((List.length a):Nat):Int)/\0 <=k/\k <=((Int.toNat l:Nat):Int))/\∀n,n=(List.drop (Int.toNat k) (List.take (Int.toNat l) a))->nA m (.cells #[vS n] ao) λo p=>∃q r s t,(Builtin.append_ #[bI,bI] bI #[.slice g i j,.slice (vA o 0) 1 1]).run prog p=.ok (.slice r s t) q/\∃u:Nat,u<f/\e u r s t (i64.wrap (l+(1:Int))) (i64.wrap (l+(1:Int))) q) (∃n:Nat,n<f/\e n g i j k (i64.wrap (l+(1:Int))) m)) (bd k (((List.length a):Nat):Int)/\∀n,n=(List.drop (Int.toNat k) a)->nA m (.cells #[vS n] ao) λo p=>∃q r s t,(Builtin.append_ #[bI,bI] bI #[.slice g i j,.slice (vA o 0) 1 1]).run prog p=.ok (.slice r s t) q/\K (.slice r s t) q))):Cf eD #[vS a,.int .u8 b] w (Ret K):=ru func139 [(10,[(5,.one .slice),(6,.one (.int .i64)),(7,.one (.int .i64))])] h
theorem IH (a:lU){w K}(h:∃b:Nat->FP [.one (.int .i64)],(∃c,b c (0:Int) w)/\∀c d,aP 17 (∀e,b c d e->ai (decide (d<((List.length a:Nat):Int))) (bx d ((List.length a:Nat):Int)/\ai (decide ((bm a d)<(48:Int))) (K (.bool false) e) (bx d ((List.length a:Nat):Int)/\ai (decide ((bm a d)>(57:Int))) (K (.bool false) e) (∃f:Nat,f<c/\b f (i64.wrap (d+(1:Int))) e))) (K (.bool (decide (((List.length a:Nat):Int)>(0:Int)))) e))):Cf gY #[vS a] w (Ret K):=ru func140 [(6,[(3,.one (.int .i64))])] h
theorem IG (a:lU){w K}(h:∃b:FP [],(uB uy #[vS a] w λc d=>ai (!c) (K (.tuple #[vI 0,.bool false]) d) (ai (decide (((List.length a:Nat):Int)>(18:Int))) (K (.tuple #[vI 0,.bool false]) d) (bx (0:Int) ((List.length a:Nat):Int)/\ai ((bm a (0:Int))==(48:Int)) (ai (decide (((List.length a:Nat):Int)>(1:Int))) (K (.tuple #[vI 0,.bool false]) d) (b d)) (b d))))/\aP 20 (∀c,b c->∃d e f g,(convert ao bM (vS a)).run prog c=.ok (.slice e f g) d/\∃i:Nat->FP [.one (.int .i64),.one (.int .i64)],(∃j,i j (0:Int) (0:Int) d)/\∀j k l,aP 11 (∀m,i j k l m->ai (decide (l<((f:Nat):Int))) ((bx l ((f:Nat):Int)/\Option.isSome e=true)/\∃n,Ld bF (aw e l 1) m (.int .u8 n)/\∃o:Nat,o<j/\i o (i64.wrap ((i64.wrap ((10:Int)*k))+(i64.wrap (IntKind.u8.wrap (n-(48:Int)))))) (i64.wrap (l+(1:Int))) m) (K (.tuple #[vI k,.bool true]) m)))):Cf xf #[vS a] w (Ret K):=ru func184 [(2,[]),(16,[(4,.one (.int .i64)),(28,.one (.int .i64))])] h
theorem Lu (a:Int){w K}(h:ai (a==(9:Int)) (K (.bool true) w) (ai (decide (a >=(32:Int))) (ai (decide (a <=(47:Int))) (K (.bool true) w) (ai (decide (a >=(59:Int))) (ai (decide (a <=(64:Int))) (K (.bool true) w) (ai (decide (a >=(91:Int))) (ai (decide (a <=(96:Int))) (K (.bool true) w) (ai (decide (a >=(123:Int))) (K (.bool (decide (a <=(126:Int)))) w) (K (.bool false) w))) (ai (decide (a >=(123:Int))) (K (.bool (decide (a <=(126:Int)))) w) (K (.bool false) w)))) (ai (decide (a >=(91:Int))) (ai (decide (a <=(96:Int))) (K (.bool true) w) (ai (decide (a >=(123:Int))) (K (.bool (decide (a <=(126:Int)))) w) (K (.bool false) w))) (ai (decide (a >=(123:Int))) (K (.bool (decide (a <=(126:Int)))) w) (K (.bool false) w))))) (ai (decide (a >=(59:Int))) (ai (decide (a <=(64:Int))) (K (.bool true) w) (ai (decide (a >=(91:Int))) (ai (decide (a <=(96:Int))) (K (.bool true) w) (ai (decide (a >=(123:Int))) (K (.bool (decide (a <=(126:Int)))) w) (K (.bool false) w))) (ai (decide (a >=(123:Int))) (K (.bool (decide (a <=(126:Int)))) w) (K (.bool false) w)))) (ai (decide (a >=(91:Int))) (ai (decide (a <=(96:Int))) (K (.bool true) w) (ai (decide (a >=(123:Int))) (K (.bool (decide (a <=(126:Int)))) w) (K (.bool false) w))) (ai (decide (a >=(123:Int))) (K (.bool (decide (a <=(126:Int)))) w) (K (.bool false) w)))))):Cf CV #[.int .u8 a] w (Ret K):=ru func191 [] h
theorem Ep (a:Option Addr)(b:lU){w K}(h:∃c:FP [],(Cf CT #[vS b] w λd e=>∃f g i j,d=rT #[.agg #[vI f,vI g,vI i],.bool j]/\nA e (.cells #[vI 0,vI 0,vI 0] ez) λk l=>∃m,Sv ez (vA k 0) (.agg #[vI f,vI g,vI i]) l m/\∃n:FP [.one .bool],(ai j ((Option.isSome a=true)/\(Option.isSome a=true)/\∃o,Ld bu (Option.map (λp=>p.add 0) a) m (.bool o)/\n (!o) m) (n false m))/\∀o,aP 7 (∀p,n o p->ai o (∃q r s,Ld ez (vA k 0) p (.agg #[vI q,vI r,vI s])/\(Option.isSome a=true)/\(Option.isSome a=true)/\∃t,Sv ez (Option.map (λu=>u.add 4) a) (.agg #[vI q,vI r,vI s]) p t/\(Option.isSome a=true)/\(Option.isSome a=true)/\∃u,Sv bu (Option.map (λv=>v.add 0) a) (.bool true) t u/\K (.tuple #[]) u) (c p)))/\aP 22 (∀d,c d->∃e:FP [],(Cf vu #[vS b,vI 1,vI 2] d λf g=>∃i j k,f=rT #[vI i,vS j,.bool k]/\∃l:FP [.one .bool],(ai k ((Option.isSome a=true)/\(Option.isSome a=true)/\∃m,Ld bu (Option.map (λn=>n.add 1) a) g (.bool m)/\l (!m) g) (l false g))/\∀m,aP 7 (∀n,l m n->ai m ((Option.isSome a=true)/\(Option.isSome a=true)/\∃o,Sv aJ (Option.map (λp=>p.add 9) a) (vI i) n o/\(Option.isSome a=true)/\(Option.isSome a=true)/\∃p,Sv bu (Option.map (λq=>q.add 1) a) (.bool true) o p/\K (.tuple #[]) p) (e n)))/\aP 24 (∀f,e f->∃g:FP [],(uI CU #[vS b] f λi j=>∃k:FP [.one .bool],(ai (decide (i>(0:Int))) ((Option.isSome a=true)/\(Option.isSome a=true)/\∃l,Ld bu (Option.map (λm=>m.add 2) a) j (.bool l)/\k (!l) j) (k false j))/\∀l,aP 8 (∀m,k l m->ai l ((Option.isSome a=true)/\(Option.isSome a=true)/\∃n,Sv aJ (Option.map (λo=>o.add 8) a) (vI i) m n/\(Option.isSome a=true)/\(Option.isSome a=true)/\∃o,Sv bu (Option.map (λp=>p.add 2) a) (.bool true) n o/\K (.tuple #[]) o) (g m)))/\aP 19 (∀i,g i->Cf vu #[vS b,vI 2,vI 4] i λj k=>∃l m n,j=rT #[vI l,vS m,.bool n]/\∃o:FP [.one .bool],(ai n ((Option.isSome a=true)/\(Option.isSome a=true)/\∃p,Ld bu (Option.map (λq=>q.add 3) a) k (.bool p)/\o (!p) k) (o false k))/\∀p,aP 7 (∀q,o p q->ai p ((Option.isSome a=true)/\(Option.isSome a=true)/\∃r,Sv aJ (Option.map (λs=>s.add 7) a) (vI l) q r/\(Option.isSome a=true)/\(Option.isSome a=true)/\∃s,Sv bu (Option.map (λt=>t.add 3) a) (.bool true) r s/\K (.tuple #[]) s) (K (.tuple #[]) q)))))):Cf vq #[.pointer a,vS b] w (Ret K):=ru func192 [(0,[]),(3,[(25,.one .bool)]),(10,[]),(13,[(46,.one .bool)]),(20,[]),(23,[(64,.one .bool)]),(32,[(85,.one .bool)])] h
theorem Nv (a b c:Int){w K}(h:∃d:FP [],(ai (decide (a<(1601:Int))) (K (.tuple #[vI 0,.bool false]) w) (ai (decide (a>(9999:Int))) (K (.tuple #[vI 0,.bool false]) w) (ai (decide (b<(1:Int))) (K (.tuple #[vI 0,.bool false]) w) (ai (decide (b>(12:Int))) (K (.tuple #[vI 0,.bool false]) w) (ai (decide (c<(1:Int))) (K (.tuple #[vI 0,.bool false]) w) (uI Bi #[vI a,vI b] w λe f=>ai (decide (c>e)) (K (.tuple #[vI 0,.bool false]) f) (d f)))))))/\aP 27 (∀e,d e->∃f:FP [.one (.int .i64),.one (.int .i64)],(ai (decide ((i64.wrap (b-(3:Int)))<(0:Int))) (f (i64.wrap (a-(1:Int))) (i64.wrap ((i64.wrap (b-(3:Int)))+(12:Int))) e) (f a (i64.wrap (b-(3:Int))) e))/\∀g i,aP 6 (∀j,f g i j->((400:Int)≠0)/\∀k,k=(Int.tmod g (400:Int))->((400:Int)≠0)/\∀l,l=(i64.wrap (Int.tdiv g (400:Int)))->((4:Int)≠0)/\∀m,m=(i64.wrap (Int.tdiv k (4:Int)))->((100:Int)≠0)/\∀n,n=(i64.wrap (Int.tdiv k (100:Int)))->((5:Int)≠0)/\∀o,o=(i64.wrap (Int.tdiv (i64.wrap ((i64.wrap ((153:Int)*i))+(2:Int))) (5:Int)))->K (.tuple #[vI (i64.wrap ((i64.wrap ((i64.wrap ((i64.wrap ((i64.wrap ((i64.wrap ((i64.wrap ((i64.wrap (l*(146097:Int)))+(i64.wrap (k*(365:Int)))))+m))-n))+o))+c))-(1:Int)))-(719468:Int))),.bool true]) j))):Cf yR #[vI a,vI b,vI c] w (Ret K):=ru func193 [(2,[]),(12,[(8,.one (.int .i64)),(9,.one (.int .i64))])] h
theorem Gy (a b c d:lU)(e:Bool)(f:Int)(g:Bool)(i:Int)(j k:Bool)(l:Int){w K}(h:nA w (.cells #[vS a,vS b,vS c,vS d,.bool e,vI f,.bool g,vI i,.bool j,.bool k,vI l] aq) λm n=>true/\∃o,Ld ao (vA m 0) n (vS o)/\(((List.length o+List.length [61]:Nat):Int) <=i64.max)/\∀p,p=(o++[61])->true/\∃q,Ld ao (vA m 1) n (vS q)/\(((List.length p+List.length q:Nat):Int) <=i64.max)/\∀r,r=(p++q)->nA n (.cells #[vS r] ao) λs t=>nA t (.cells #[.slice none 0 0] bI) λu v=>∃x,Sv bI (vA u 0) (.slice (vA s 0) 1 1) v x/\∃y:FP [],(true/\true/\(∃z,Ld bu (vA m 4) (World.drew x) (.bool z)/\∃A,Ld aX (vA m 5) (World.drew x) (vI A)/\uS yS #[vI A] (World.drew x) λB C=>(((List.length [69,120,112,105,114,101,115,61]+List.length B:Nat):Int) <=i64.max)/\∀D,D=([69,120,112,105,114,101,115,61]++B)->uU cT #[.bool z,vS D,.pointer (vA u 0)] C λE=>y E)/\∃z,Ld aX (vA m 5) (World.drew x) (vI z)/\(∃A,Ld bu (vA m 4) (World.drew x) (.bool A)/\uS yS #[vI z] (World.drew x) λB C=>(((List.length [69,120,112,105,114,101,115,61]+List.length B:Nat):Int) <=i64.max)/\∀D,D=([69,120,112,105,114,101,115,61]++B)->uU cT #[.bool A,vS D,.pointer (vA u 0)] C λE=>y E)/\uS yS #[vI z] (World.drew x) λA B=>(((List.length [69,120,112,105,114,101,115,61]+List.length A:Nat):Int) <=i64.max)/\∀C,C=([69,120,112,105,114,101,115,61]++A)->∃D,Ld bu (vA m 4) B (.bool D)/\uU cT #[.bool D,vS C,.pointer (vA u 0)] B λE=>y E)/\aP 8 (∀z,y z->∃A:FP [],(true/\true/\(∃B,Ld bu (vA m 6) (World.drew z) (.bool B)/\∃C,Ld aX (vA m 7) (World.drew z) (vI C)/\uS pY #[vI C,vI 10] (World.drew z) λD E=>(((List.length [77,97,120,45,65,103,101,61]+List.length D:Nat):Int) <=i64.max)/\∀F,F=([77,97,120,45,65,103,101,61]++D)->uU cT #[.bool B,vS F,.pointer (vA u 0)] E λG=>A G)/\∃B,Ld aX (vA m 7) (World.drew z) (vI B)/\(∃C,Ld bu (vA m 6) (World.drew z) (.bool C)/\uS pY #[vI B,vI 10] (World.drew z) λD E=>(((List.length [77,97,120,45,65,103,101,61]+List.length D:Nat):Int) <=i64.max)/\∀F,F=([77,97,120,45,65,103,101,61]++D)->uU cT #[.bool C,vS F,.pointer (vA u 0)] E λG=>A G)/\uS pY #[vI B,vI 10] (World.drew z) λC D=>(((List.length [77,97,120,45,65,103,101,61]+List.length C:Nat):Int) <=i64.max)/\∀E,E=([77,97,120,45,65,103,101,61]++C)->∃F,Ld bu (vA m 6) D (.bool F)/\uU cT #[.bool F,vS E,.pointer (vA u 0)] D λG=>A G)/\aP 8 (∀B,A B->∃C:FP [],(true/\true/\(∃D,Ld ao (vA m 2) (World.drew B) (vS D)/\∃E,Ld ao (vA m 2) (World.drew B) (vS E)/\uS tO #[vS E] (World.drew B) λF G=>(((List.length [68,111,109,97,105,110,61]+List.length F:Nat):Int) <=i64.max)/\∀H,H=([68,111,109,97,105,110,61]++F)->uU cT #[.bool (!(D==[])),vS H,.pointer (vA u 0)] G λI=>C I)/\∃D,Ld ao (vA m 2) (World.drew B) (vS D)/\(∃E,Ld ao (vA m 2) (World.drew B) (vS E)/\uS tO #[vS D] (World.drew B) λF G=>(((List.length [68,111,109,97,105,110,61]+List.length F:Nat):Int) <=i64.max)/\∀H,H=([68,111,109,97,105,110,61]++F)->uU cT #[.bool (!(E==[])),vS H,.pointer (vA u 0)] G λI=>C I)/\uS tO #[vS D] (World.drew B) λE F=>(((List.length [68,111,109,97,105,110,61]+List.length E:Nat):Int) <=i64.max)/\∀G,G=([68,111,109,97,105,110,61]++E)->∃H,Ld ao (vA m 2) F (vS H)/\uU cT #[.bool (!(H==[])),vS G,.pointer (vA u 0)] F λI=>C I)/\aP 9 (∀D,C D->true/\∃E,Ld ao (vA m 3) D (vS E)/\true/\∃F,Ld ao (vA m 3) D (vS F)/\(((List.length [80,97,116,104,61]+List.length F:Nat):Int) <=i64.max)/\∀G,G=([80,97,116,104,61]++F)->uU cT #[.bool (!(E==[])),vS G,.pointer (vA u 0)] D λH=>true/\∃I,Ld bu (vA m 8) H (.bool I)/\uU cT #[.bool I,vS [83,101,99,117,114,101],.pointer (vA u 0)] H λJ=>true/\∃L,Ld bu (vA m 9) J (.bool L)/\uU cT #[.bool L,vS [72,116,116,112,79,110,108,121],.pointer (vA u 0)] J λM=>∃N:FP [.one .bool],(true/\∃O,Ld aJ (vA m 10) M (vI O)/\ai (decide (O>(0:Int))) (true/\∃P,Ld aJ (vA m 10) M (vI P)/\N (decide (P <=(3:Int))) M) (N false M))/\∀O,aP 7 (∀P,N O P->ai O (true/\(Cf uv #[] (World.drew P) λQ R=>∃S T U V,Q=.returned (.agg #[vS S,vS T,vS U,vS V])/\∃X,Ld aJ (vA m 10) R (vI X)/\∃Y,(Instr.index kQ (.agg #[vS S,vS T,vS U,vS V]) (vI X)).run prog R=.ok (vS Y) R/\(((List.length [83,97,109,101,83,105,116,101,61]+List.length Y:Nat):Int) <=i64.max)/\∀Z,Z=([83,97,109,101,83,105,116,101,61]++Y)->uU cT #[.bool true,vS Z,.pointer (vA u 0)] R λac=>∃ad ag aj,Ld bI (vA u 0) ac (.slice ad ag aj)/\uS lY #[.slice ad ag aj,vS [59,32]] ac λal an=>K (vS al) an)/\∃Q,Ld aJ (vA m 10) (World.drew P) (vI Q)/\Cf uv #[] (World.drew P) λR S=>∃T U V X,R=.returned (.agg #[vS T,vS U,vS V,vS X])/\∃Y,(Instr.index kQ (.agg #[vS T,vS U,vS V,vS X]) (vI Q)).run prog S=.ok (vS Y) S/\(((List.length [83,97,109,101,83,105,116,101,61]+List.length Y:Nat):Int) <=i64.max)/\∀Z,Z=([83,97,109,101,83,105,116,101,61]++Y)->uU cT #[.bool true,vS Z,.pointer (vA u 0)] S λac=>∃ad ag aj,Ld bI (vA u 0) ac (.slice ad ag aj)/\uS lY #[.slice ad ag aj,vS [59,32]] ac λal an=>K (vS al) an) (∃Q R S,Ld bI (vA u 0) P (.slice Q R S)/\uS lY #[.slice Q R S,vS [59,32]] P λT U=>K (vS T) U)))))):Cf xG #[.agg #[vS a,vS b,vS c,vS d,.bool e,vI f,.bool g,vI i,.bool j,.bool k,vI l]] w (Ret K):=ru func196 [(6,[]),(1000007,[]),(8,[]),(1000009,[]),(10,[]),(1000011,[]),(19,[(61,.one .bool)]),(1000022,[])] h
theorem Ls (a:lU){w K}(h:nA w (.cells #[vI 0,vI 0,vI 0] ez) λb c=>nA c (.cells #[vI 0,vI 0,vI 0] ez) λd e=>∃f:Nat->FP [.one .str,.one (.int .i64)],(∃g,f g a (0:Int) e)/\∀g i j,aP 32 (∀k,f g i j k->ai (decide (j<(3:Int))) (∃l:FP [.one .str],(ai (decide (j>(0:Int))) (Cf jU #[vS i,vS [58]] k λm n=>∃o p,m=rT #[vS o,.bool p]/\ai (!p) (∃q r s,Ld ez (vA d 0) n (.agg #[vI q,vI r,vI s])/\∃t,Sv ez (vA b 0) (.agg #[vI q,vI r,vI s]) n t/\∃u v x,Rv ez (vA b 0) t (.agg #[vI u,vI v,vI x])/\K (.tuple #[.agg #[vI u,vI v,vI x],.bool false]) t) (l o n)) (l i k))/\∀m,aP 12 (∀n,l m n->Cf vu #[vS m,vI 1,vI 2] n λo p=>∃q r s,o=rT #[vI q,vS r,.bool s]/\ai (!s) (∃t u v,Ld ez (vA d 0) p (.agg #[vI t,vI u,vI v])/\∃x,Sv ez (vA b 0) (.agg #[vI t,vI u,vI v]) p x/\∃y z A,Rv ez (vA b 0) x (.agg #[vI y,vI z,vI A])/\K (.tuple #[.agg #[vI y,vI z,vI A],.bool false]) x) ((bx j ((3:Nat):Int)/\true)/\∃t,Sv aJ (aw (vA d 0) j 1) (vI q) p t/\∃u:Nat,u<g/\f u r (i64.wrap (j+(1:Int))) t))) (∃l m n,Ld ez (vA d 0) k (.agg #[vI l,vI m,vI n])/\∃o,Sv ez (vA b 0) (.agg #[vI l,vI m,vI n]) k o/\∃p q r,Rv ez (vA b 0) o (.agg #[vI p,vI q,vI r])/\K (.tuple #[.agg #[vI p,vI q,vI r],.bool true]) o))):Cf CT #[vS a] w (Ret K):=ru func236 [(8,[(0,.one .str),(10,.one (.int .i64))]),(19,[(0,.one .str)])] h
theorem J7 (a:lU)(b c:Int){w K}(h:uS zQ #[vS a,vS [48,49,50,51,52,53,54,55,56,57]] w λd e=>∃f:FP [],(ai (decide ((i64.wrap (((List.length a:Nat):Int)-((List.length d:Nat):Int)))<b)) (K (.tuple #[vI 0,vS a,.bool false]) e) (ai (decide ((i64.wrap (((List.length a:Nat):Int)-((List.length d:Nat):Int)))>c)) (K (.tuple #[vI 0,vS a,.bool false]) e) (f e)))/\aP 12 (∀g,f g->bd (i64.wrap (((List.length a:Nat):Int)-((List.length d:Nat):Int))) (((List.length a):Nat):Int)/\∀i,i=(List.take (Int.toNat (i64.wrap (((List.length a:Nat):Int)-((List.length d:Nat):Int)))) a)->Cf KZ #[vS i] g λj k=>∃l m,j=rT #[vI l,m]/\bd (i64.wrap (((List.length a:Nat):Int)-((List.length d:Nat):Int))) (((List.length a):Nat):Int)/\∀n,n=(List.drop (Int.toNat (i64.wrap (((List.length a:Nat):Int)-((List.length d:Nat):Int)))) a)->∀o,bW k o->K (.tuple #[vI l,vS n,.bool true]) o)):Cf vu #[vS a,vI b,vI c] w (Ret K):=ru func237 [(4,[])] h
theorem Lt (a:lU){w K}(h:∃b:Nat->FP [.one (.int .i64)],(∃c,b c (0:Int) w)/\∀c d,aP 21 (∀e,b c d e->∃f:FP [],(ai (decide (d<(12:Int))) (ai (decide (((List.length a:Nat):Int) >=(3:Int))) (f e) (K (vI 0) e)) (K (vI 0) e))/\aP 7 (∀g,f g->bd (3:Int) (((List.length a):Nat):Int)/\∀i,i=(List.take (Int.toNat 3) a)->(bd (i64.wrap ((i64.wrap ((3:Int)*d))+(3:Int))) (((List.length [74,97,110,70,101,98,77,97,114,65,112,114,77,97,121,74,117,110,74,117,108,65,117,103,83,101,112,79,99,116,78,111,118,68,101,99]):Nat):Int)/\0 <=(i64.wrap ((3:Int)*d))/\(i64.wrap ((3:Int)*d)) <=((Int.toNat (i64.wrap ((i64.wrap ((3:Int)*d))+(3:Int))):Nat):Int))/\∀j,j=(List.drop (Int.toNat (i64.wrap ((3:Int)*d))) (List.take (Int.toNat (i64.wrap ((i64.wrap ((3:Int)*d))+(3:Int)))) [74,97,110,70,101,98,77,97,114,65,112,114,77,97,121,74,117,110,74,117,108,65,117,103,83,101,112,79,99,116,78,111,118,68,101,99]))->∃k,(∀l,bW g l->Cf zO #[vS i,vS j] l λm n=>m=.returned (.bool k)/\Below g.heap.size l n)/\∀l,bW g l->ai k (K (vI (i64.wrap (d+(1:Int)))) l) (∃m:Nat,m<c/\b m (i64.wrap (d+(1:Int))) l)))):Cf CU #[vS a] w (Ret K):=ru func238 [(6,[(3,.one (.int .i64))]),(7,[])] h
theorem J6 (a b:Int){w K}(h:nA w (.cells O2 A5) λc d=>∃e,Sv A5 (vA c 0) (.agg #[vI 31,vI 28,vI 31,vI 30,vI 31,vI 30,vI 31,vI 31,vI 30,vI 31,vI 30,vI 31]) d e/\∃f:FP [],(ai (b==(2:Int)) (uB Fm #[vI a] e λg i=>ai g (K (vI 29) i) (f i)) (f e))/\aP 7 (∀g,f g->(bx (i64.wrap (b-(1:Int))) ((12:Nat):Int)/\true)/\∃i,Ld aJ (aw (vA c 0) (i64.wrap (b-(1:Int))) 1) g (vI i)/\K (vI i) g)):Cf Bi #[vI a,vI b] w (Ret K):=ru func239 [(4,[])] h
theorem Dh (a:Bool)(b:lU)(c:Option Addr){w K}(h:ai a (∃d e f,Ld bI c w (.slice d e f)/\nA w (.cells #[vS b] ao) λg i=>∃j k l m,(Builtin.append_ #[bI,bI] bI #[.slice d e f,.slice (vA g 0) 1 1]).run prog i=.ok (.slice k l m) j/\∃n,Sv bI c (.slice k l m) j n/\K (.tuple #[]) n) (K (.tuple #[]) w)):Cf cT #[.bool a,vS b,.pointer c] w (Ret K):=ru func240 [] h
theorem Nw (a:Int){w K}(h:((86400:Int)≠0)/\∀b,b=(i64.wrap (Int.tdiv a (86400:Int)))->((86400:Int)≠0)/\∀c,c=(Int.tmod a (86400:Int))->∃d:FP [.one (.int .i64),.one (.int .i64)],(ai (decide (c<(0:Int))) (d (i64.wrap (b-(1:Int))) (i64.wrap (c+(86400:Int))) w) (d b c w))/\∀e f,aP 6 (∀g,d e f g->Cf CS #[vI e] g λi j=>∃k l m n,i=rT #[vI k,vI l,vI m,.bool n]/\ai (!n) (K (vS []) j) (((7:Int)≠0)/\∀o,o=(Int.tmod e (7:Int))->((7:Int)≠0)/\∀p,p=(Int.tmod (i64.wrap (o+(7:Int))) (7:Int))->(bd (i64.wrap ((i64.wrap ((3:Int)*p))+(3:Int))) (((List.length [84,104,117,70,114,105,83,97,116,83,117,110,77,111,110,84,117,101,87,101,100]):Nat):Int)/\0 <=(i64.wrap ((3:Int)*p))/\(i64.wrap ((3:Int)*p)) <=((Int.toNat (i64.wrap ((i64.wrap ((3:Int)*p))+(3:Int))):Nat):Int))/\∀q,q=(List.drop (Int.toNat (i64.wrap ((3:Int)*p))) (List.take (Int.toNat (i64.wrap ((i64.wrap ((3:Int)*p))+(3:Int)))) [84,104,117,70,114,105,83,97,116,83,117,110,77,111,110,84,117,101,87,101,100]))->(((List.length q+List.length [44,32]:Nat):Int) <=i64.max)/\∀r,r=(q++[44,32])->∃s,(∀t,bW j t->Cf qw #[vI m,vI 2] t λu v=>u=.returned (vS s)/\Below j.heap.size t v)/\(((List.length r+List.length s:Nat):Int) <=i64.max)/\∀t,t=(r++s)->(((List.length t+List.length [32]:Nat):Int) <=i64.max)/\∀u,u=(t++[32])->(bd (i64.wrap ((3:Int)*l)) (((List.length [74,97,110,70,101,98,77,97,114,65,112,114,77,97,121,74,117,110,74,117,108,65,117,103,83,101,112,79,99,116,78,111,118,68,101,99]):Nat):Int)/\0 <=(i64.wrap ((i64.wrap ((3:Int)*l))-(3:Int)))/\(i64.wrap ((i64.wrap ((3:Int)*l))-(3:Int))) <=((Int.toNat (i64.wrap ((3:Int)*l)):Nat):Int))/\∀v,v=(List.drop (Int.toNat (i64.wrap ((i64.wrap ((3:Int)*l))-(3:Int)))) (List.take (Int.toNat (i64.wrap ((3:Int)*l))) [74,97,110,70,101,98,77,97,114,65,112,114,77,97,121,74,117,110,74,117,108,65,117,103,83,101,112,79,99,116,78,111,118,68,101,99]))->(((List.length u+List.length v:Nat):Int) <=i64.max)/\∀x,x=(u++v)->(((List.length x+List.length [32]:Nat):Int) <=i64.max)/\∀y,y=(x++[32])->∃z,(∀A,bW j A->Cf qw #[vI k,vI 4] A λB C=>B=.returned (vS z)/\Below j.heap.size A C)/\(((List.length y+List.length z:Nat):Int) <=i64.max)/\∀A,A=(y++z)->(((List.length A+List.length [32]:Nat):Int) <=i64.max)/\∀B,B=(A++[32])->((3600:Int)≠0)/\∀C,C=(i64.wrap (Int.tdiv f (3600:Int)))->∃D,(∀E,bW j E->Cf qw #[vI C,vI 2] E λF G=>F=.returned (vS D)/\Below j.heap.size E G)/\(((List.length B+List.length D:Nat):Int) <=i64.max)/\∀E,E=(B++D)->(((List.length E+List.length [58]:Nat):Int) <=i64.max)/\∀F,F=(E++[58])->((60:Int)≠0)/\∀G,G=(i64.wrap (Int.tdiv f (60:Int)))->((60:Int)≠0)/\∀H,H=(Int.tmod G (60:Int))->∃I,(∀J,bW j J->Cf qw #[vI H,vI 2] J λL M=>L=.returned (vS I)/\Below j.heap.size J M)/\(((List.length F+List.length I:Nat):Int) <=i64.max)/\∀J,J=(F++I)->(((List.length J+List.length [58]:Nat):Int) <=i64.max)/\∀L,L=(J++[58])->((60:Int)≠0)/\∀M,M=(Int.tmod f (60:Int))->∃N,(∀O,bW j O->Cf qw #[vI M,vI 2] O λP Q=>P=.returned (vS N)/\Below j.heap.size O Q)/\(((List.length L+List.length N:Nat):Int) <=i64.max)/\∀O,O=(L++N)->(((List.length O+List.length [32,71,77,84]:Nat):Int) <=i64.max)/\∀P,P=(O++[32,71,77,84])->∀Q,bW j Q->K (vS P) Q))):Cf yS #[vI a] w (Ret K):=ru func241 [(6,[(3,.one (.int .i64)),(4,.one (.int .i64))])] h
theorem Hu (a:lU){w K}(h:uS uZ #[vS a] w λb c=>ai (!(b==a)) ((((List.length [46]+List.length a:Nat):Int) <=i64.max)/\∀d,d=([46]++a)->K (vS d) c) (uB sb #[vS a,vS [46]] c λd e=>ai d ((((List.length [46]+List.length a:Nat):Int) <=i64.max)/\∀f,f=([46]++a)->K (vS f) e) (K (vS a) e))):Cf tO #[vS a] w (Ret K):=ru func243 [] h
def H4 (a:Int)(b:World)(c:VP):Prop:=((4:Int)≠0)/\∀d,d=(Int.tmod a (4:Int))->ai (d==(0:Int)) (((100:Int)≠0)/\∀e,e=(Int.tmod a (100:Int))->ai (e !=(0:Int)) (c (.bool true) b) (((400:Int)≠0)/\∀f,f=(Int.tmod a (400:Int))->c (.bool (f==(0:Int))) b)) (((400:Int)≠0)/\∀e,e=(Int.tmod a (400:Int))->c (.bool (e==(0:Int))) b)
theorem Nx (a:Int){w K}(h:H4 a w K):Cf Fm #[vI a] w (Ret K):=ru func271 [] h
theorem Lr (a:Int){w K}(h:Cf yR #[vI 1601,vI 1,vI 1] w λb c=>∃d e,b=rT #[vI d,.bool e]/\Cf yR #[vI 9999,vI 12,vI 31] c λf g=>∃i j,f=rT #[vI i,.bool j]/\∃k:FP [],(ai (decide (a<d)) (K (.tuple #[vI 0,vI 0,vI 0,.bool false]) g) (ai (decide (a>i)) (K (.tuple #[vI 0,vI 0,vI 0,.bool false]) g) (k g)))/\aP 12 (∀l,k l->((146097:Int)≠0)/\∀m,m=(Int.tmod (i64.wrap (a+(719468:Int))) (146097:Int))->((1460:Int)≠0)/\∀n,n=(i64.wrap (Int.tdiv m (1460:Int)))->((36524:Int)≠0)/\∀o,o=(i64.wrap (Int.tdiv m (36524:Int)))->((146096:Int)≠0)/\∀p,p=(i64.wrap (Int.tdiv m (146096:Int)))->((365:Int)≠0)/\∀q,q=(i64.wrap (Int.tdiv (i64.wrap ((i64.wrap ((i64.wrap (m-n))+o))-p)) (365:Int)))->((4:Int)≠0)/\∀r,r=(i64.wrap (Int.tdiv q (4:Int)))->((100:Int)≠0)/\∀s,s=(i64.wrap (Int.tdiv q (100:Int)))->((153:Int)≠0)/\∀t,t=(i64.wrap (Int.tdiv (i64.wrap ((i64.wrap ((5:Int)*(i64.wrap (m-(i64.wrap ((i64.wrap ((i64.wrap ((365:Int)*q))+r))-s))))))+(2:Int))) (153:Int)))->((5:Int)≠0)/\∀u,u=(i64.wrap (Int.tdiv (i64.wrap ((i64.wrap ((153:Int)*t))+(2:Int))) (5:Int)))->((146097:Int)≠0)/\∀v,v=(i64.wrap (Int.tdiv (i64.wrap (a+(719468:Int))) (146097:Int)))->ai (decide ((i64.wrap (t+(3:Int)))>(12:Int))) (K (.tuple #[vI (i64.wrap ((i64.wrap (q+(i64.wrap (v*(400:Int)))))+(1:Int))),vI (i64.wrap ((i64.wrap (t+(3:Int)))-(12:Int))),vI (i64.wrap ((i64.wrap ((i64.wrap (m-(i64.wrap ((i64.wrap ((i64.wrap ((365:Int)*q))+r))-s))))-u))+(1:Int))),.bool true]) l) (K (.tuple #[vI (i64.wrap (q+(i64.wrap (v*(400:Int))))),vI (i64.wrap (t+(3:Int))),vI (i64.wrap ((i64.wrap ((i64.wrap (m-(i64.wrap ((i64.wrap ((i64.wrap ((365:Int)*q))+r))-s))))-u))+(1:Int))),.bool true]) l))):Cf CS #[vI a] w (Ret K):=ru func272 [(6,[])] h
theorem Df (a b:Int){w K}(h:uS Ak #[vI a] w λc d=>uS Ii #[vS [48],vI (i64.wrap (b-((List.length c:Nat):Int)))] d λe f=>(((List.length e+List.length c:Nat):Int) <=i64.max)/\∀g,g=(e++c)->K (vS g) f):Cf qw #[vI a,vI b] w (Ret K):=ru func273 [] h
set_option linter.unusedSimpArgs false
def av (w:World)(k:Nat)(t:TypeId)(vs:List Value):Prop:=w.heap[k]? =some (.cells vs.toArray t (0,0))
theorem av.new {w w':World}{vs:List Value}(e:k=w.heap.size)(q:w'=w.alloc (.cells vs.toArray t)):av w' k t vs:=by
 subst e q;exact heap_alloc_new w _
theorem av.lt {vs:List Value}(h:av w k t vs):k<w.heap.size:=(Array.getElem?_eq_some_iff.1 (show w.heap[k]? =_ from h)).1
theorem av.block {w w':World}{vs:List Value}(h:av w k t vs)(e:w'.heap[k]? =w.heap[k]?):av w' k t vs:=e.trans h
theorem av.below {w w':World}{vs:List Value}(h:av w k t vs)(e:bW w w'):av w' k t vs:=h.block (e.block k h.lt)
theorem av.grown {w w':World}{vs:List Value}{row:Option Nat}(h:av w k t vs)(e:w.grownBy w' row)(q:some k≠row):av w' k t vs:=h.block (e.block k h.lt q)
theorem av.cell {vs:List Value}(h:av w k t vs)(i:Nat):w.cell? ⟨k,i,none⟩=vs[i]? :=by rw[A6 h];simp
theorem av.load1 {u:TypeId}{d:TypeDesc}(q:P.underlying u=some d)(e:El d=false){vs:List Value}(h:av w k t vs){v:Value}(D:vs[i]? =some v):
 (Instr.loadAt u (.pointer (some ⟨k,i,none⟩))).run P w=.ok v w:=qb q e (by rw[h.cell];exact D)
theorem av.loadA {u:TypeId}{d:TypeDesc}{e:TypeInfo}(H:P.underlying u=some d)(q:El d=true)(D:P.info? u=some e){vs us:List Value}(h:av w k t vs)(G:us.length=e.size)
 (I:∀j,j<us.length->vs[i+j]? =us[j]?):(Instr.loadAt u (.pointer (some ⟨k,i,none⟩))).run P w=.ok (.agg us.toArray) w:=
 JO H q D G λj E=>by rw[h.cell];exact I j E
theorem av.res {u:TypeId}{p:Addr}{w w':World}{v:Value}(h:(Instr.loadAt u (.pointer (some p))).run P w=.ok v w'):(aI u (.pointer (some p))).run P w=.ok v w':=h
theorem av.store {u:TypeId}{bytes n:Nat}{z:Value}(G:TF P u n bytes z){vs:List Value}(h:av w k t vs){v:Value}(e:v.cells.size=n)(D:i+n <=vs.length)(h1:∀c∈v.cells.toList,c.oneCell'=true):
 ∃w',(Instr.storeAt u (.pointer (some ⟨k,i,none⟩)) v).run P w=.ok () w'/\av w' k t (vs.take i++v.cells.toList++vs.drop (i+n))/\w.grownBy w' (some k):=by
 obtain⟨H,E,q,_,_⟩:=G.info
 refine⟨_,run_storeVar_row E (o:=i) h (λi _=>by simp) (by rw[e,q]) (by rw[q];simpa using D) h1,?_,qV w k _⟩
 have:=setRow_heap w k vs.toArray (vs.take i++v.cells.toList++vs.drop (i+n)).toArray t (0,0) h
 rw[<- e]at this ⊢
 exact this
theorem eJ {R:Bool->World->Prop}{B:(Bool->World->Prop)->Prop}(f:Bool)(hB:B (λb w'=>w'=w/\b=f))(h:R f w):
 ∃J:FP [.one (.bool)],B J/\∀b:Bool,aP n (∀e:World,J b e->R b e):=by
 refine⟨λb w'=>w'=w/\b=f,hB,λb=>aP.of ?_ _⟩
 rintro e ⟨rfl,rfl⟩;exact h
theorem IX {k:IntKind}{R:Int->World->Prop}{B:(Int->World->Prop)->Prop}(f:Int)(hB:B (λb w'=>w'=w/\b=f))(h:R f w):
 ∃J:FP [.one (.int k)],B J/\∀b:Int,aP n (∀e:World,J b e->R b e):=by
 refine⟨λb w'=>w'=w/\b=f,hB,λb=>aP.of ?_ _⟩
 rintro e ⟨rfl,rfl⟩;exact h
theorem vU {R:List UInt8->World->Prop}{B:(List UInt8->World->Prop)->Prop}(f:List UInt8)(hB:B (λb w'=>w'=w/\b=f))(h:R f w):
 ∃J:FP [.one (.str)],B J/\∀b:List UInt8,aP n (∀e:World,J b e->R b e):=by
 refine⟨λb w'=>w'=w/\b=f,hB,λb=>aP.of ?_ _⟩
 rintro e ⟨rfl,rfl⟩;exact h
theorem iY {R:World->Prop}{B:(World->Prop)->Prop}(Q:Prop)(hB:B (λw'=>w'=w/\Q))(h:Q->R w):
 ∃J:FP [],B J/\aP n (∀e:World,J e->R e):=by
 refine⟨λw'=>w'=w/\Q,hB,aP.of ?_ _⟩
 rintro e ⟨rfl,q⟩;exact h q
theorem cw {R:World->Prop}{B:(World->Prop)->Prop}(Q:World->Prop)(hB:B Q)(h:∀w,Q w->R w):
 ∃J:FP [],B J/\aP n (∀e:World,J e->R e):=⟨Q,hB,aP.of h _⟩
theorem qs {R:Bool->World->Prop}{B:(Bool->World->Prop)->Prop}(Q:Bool->World->Prop)(hB:B Q)(h:∀b w,Q b w->R b w):
 ∃J:FP [.one (.bool)],B J/\∀b:Bool,aP n (∀e:World,J b e->R b e):=⟨Q,hB,λb=>aP.of (h b) _⟩
theorem Q2 {c x:Bool}{R:Bool->World->Prop}(h:R (c&&x) w):∃J:FP [.one (.bool)],ai c (J x w) (J false w)/\∀b:Bool,aP n (∀e:World,J b e->R b e):=
 eJ (B:=λJ=>ai c (J x w) (J false w)) (c&&x) (ai.of (λh=>⟨rfl,by rw[h];rfl⟩) (λh=>⟨rfl,by rw[h];rfl⟩)) h
theorem orJ {c x:Bool}{R:Bool->World->Prop}(h:R (c || x) w):∃J:FP [.one (.bool)],ai c (J true w) (J x w)/\∀b:Bool,aP n (∀e:World,J b e->R b e):=
 eJ (B:=λJ=>ai c (J true w) (J x w)) (c || x) (ai.of (λh=>⟨rfl,by rw[h];rfl⟩) (λh=>⟨rfl,by rw[h];rfl⟩)) h
theorem AM {α:Type}{T:Ty α}(U:Flat T){st t ty:TypeId}{bytes:Nat}{z:Value}(al:P.underlying st=some (.slice t))(a0:TF P t T.k bytes z)(M:0<bytes)
 {w0 w w1:World} {a:Option Addr} {n c:Nat} {xs:List α} (Z:Ow T t w NoB a n c xs) (E:ci w0.heap.size a) (D:bW w0 w) {e:Nat} {vs:List Value} {x:α} (Y:e=w.heap.size)
 (G:w1=w.alloc (.cells vs.toArray t)) (an:T.rep w NoB vs x) {cm:Nat} (O:(xs.length+1)*bytes <=140737488355328):
 ∃(w2:World) (a':Option Addr) (H c':Nat),(Builtin.append_ #[st,st] ty #[.slice a n c,.slice (some ⟨e,0,none⟩) 1 cm]).run P w1=.ok (.slice a' H c') w2/\Ow T t w2 NoB a' H c' (xs++[x])/\ci w0.heap.size a'/\bW w0 w2:=by
 have q:bW w w1:=G▸au w _
 have ac:=Z.below q
 have aj:Src T w1 NoB (some ⟨e,0,none⟩) 1 [x]:=Src.new1F U Y G an
 obtain⟨a8,a4,ar,I,ag,ad,X,V⟩:=j6 (ty:=ty) al a0 M ac (λ_ _ h=>h) (cm:=cm) aj (by simpa using O)
 have hB:=ah D q D.size
 exact⟨a8,a4,ar,I,ag,ad,E.app hB.size V,hB.grown X hB.size E⟩
theorem fZ {f:FuncId}{args:Array Value}{v:Value}(h:Calls P f args u (Ret λE w'=>E=v/\bW u w'))(D:bW w u):
 Calls P f args u λe w'=>e=.returned v/\Below w.heap.size u w':=by
 refine h.mono ?_
 rintro _ w' ⟨_,rfl,rfl,q⟩
 exact⟨rfl,q.mono D.size⟩
theorem fits {a b:Nat}(h:a+b <=9223372036854775807):((a+b:Nat):Int) <=i64.max:=by simp[IntKind.max,IntKind.bits];omega
theorem sB {t b:Int}(e:0<b):(0 <=t->Int.tdiv t b=t/b/\Int.tmod t b=t%b)/\(t<0->Int.tdiv t b= -((-t)/b)/\Int.tmod t b= -((-t)%b)):=by
 refine⟨λh=>⟨Int.tdiv_eq_ediv_of_nonneg h,Int.tmod_eq_emod_of_nonneg h⟩,λh=>?_⟩
 obtain⟨u,rfl⟩:∃u,t= -u:=⟨-t,by omega⟩
 rw[Int.neg_tdiv,Int.neg_tmod,Int.neg_neg,Int.tdiv_eq_ediv_of_nonneg (by omega),Int.tmod_eq_emod_of_nonneg (by omega)]
 exact⟨rfl,rfl⟩
theorem na {α:Type}(p:α->Bool):∀(s:List α) (k:Nat) (e:k<s.length),k <=(s.takeWhile p).length->(p s[k]=true ↔ k<(s.takeWhile p).length)
 |[],k,e,_=>by cases e
 |c::s,0,e,_=>by
  rw[List.takeWhile_cons]
  simp only[List.getElem_cons_zero]
  cases h:p c <;> simp
 |c::s,k+1,e,h=>by
  rw[List.takeWhile_cons]at h ⊢
  cases q:p c with
  |false=>rw[q]at h;simp at h
  |true=>
   rw[q]at h
   simp only[if_true,List.length_cons]at h ⊢
   have:=na p s k (by simpa using e) (by omega)
   simp only[List.getElem_cons_succ]
   rw[this];omega
theorem bN {α:Type}(p:α->Bool)(s:List α):(s.takeWhile p).length <=s.length:=(List.takeWhile_sublist p).length_le
theorem TI {name:String}{k:IntKind}{zs:List Int}{w w':World}(h:Lib.TabIs P w name k zs)(D:∀b,b<w.heap.size->w'.heap[b]? =w.heap[b]?):Lib.TabIs P w' name k zs:=by
 unfold Lib.TabIs World.var? at h ⊢
 cases e:P.globalNamed name with
 |none=>rw[e]at h;cases h
 |some g=>
  rw[e]at h
  simp only[Option.bind_some]at h ⊢
  have E:g<w.heap.size:=by
   cases q:w.heap[g]? with
   |none=>rw[q]at h;cases h
   |some o=>exact(Array.getElem?_eq_some_iff.1 q).1
  rw[D g E];exact h
structure Env (w:World):Prop where
 tab:Lib.TabIs prog w "internal/strconv.uint64pow10" .u64 Lib.pow10Tab
 max:∃m:Int,w.cell? ⟨0,0,none⟩=some (vI m)
 tz:w.cell? ⟨7,15,none⟩=some (.int .u8 4)
theorem R1 {b o:Nat}{v:Value}(h:w.cell? ⟨b,o,none⟩=some v):b<w.heap.size:=by
 cases e:w.heap[b]? with
 |none=>simp[World.cell?,e]at h
 |some x=>exact(Array.getElem?_eq_some_iff.1 e).1
theorem Env.same {w w':World}(h:Env w)(e:∀b,b<w.heap.size->w'.heap[b]? =w.heap[b]?):Env w':=by
 obtain⟨m,q⟩:=h.max
 exact⟨TI h.tab e,⟨m,by rw[Jh (e _ (R1 q))];exact q⟩,by rw[Jh (e _ (R1 h.tz))];exact h.tz⟩
theorem Env.step {w w':World}(h:Env w)(e:bW w w'):Env w':=h.same λb q=>e.block b q
theorem Env.grown {w0 w w':World}{row:Option Nat}(q:Env w0)(h:Env w)(D:w.grownBy w' row)(E:∀x,row=some x->w0.heap.size <=x)(e:bW w0 w):Env w':=
 q.step (e.grown D e.size E)
def bY (c:UInt8):List UInt8->List UInt8->List (List UInt8)
 |cur,[]=>[cur]
 |cur,x::r=>if x=c then cur::bY c [] r else bY c (cur++[x]) r
theorem A8 (c:UInt8):∀(a cur r:List UInt8),(∀x∈a,x≠c)->bY c cur (a++c::r)=(cur++a)::bY c [] r
 |[],cur,r,_=>by
  show(if c=c then _ else _)=_
  rw[if_pos rfl,List.append_nil]
 |x::a,cur,r,e=>by
  show(if x=c then _ else _)=_
  rw[if_neg (e x List.mem_cons_self)]
  exact(A8 c a (cur++[x]) r λy q=>e y (List.mem_cons_of_mem _ q)).trans (by simp)
theorem yP (c:UInt8):∀(a cur:List UInt8),(∀x∈a,x≠c)->bY c cur a=[cur++a]
 |[],cur,_=>by simp[bY]
 |x::a,cur,e=>by
  show(if x=c then _ else _)=_
  rw[if_neg (e x List.mem_cons_self)]
  exact(yP c a (cur++[x]) λy q=>e y (List.mem_cons_of_mem _ q)).trans (by simp)
theorem VL (c:UInt8)(s cur:List UInt8)(k:Nat)(h:k<s.length):bY c cur (s.drop k)=if s[k]=c then cur::bY c [] (s.drop (k+1))else bY c (cur++[s[k]]) (s.drop (k+1)):=by
 rw[List.drop_eq_getElem_cons h];rfl
theorem j7 (c:UInt8):∀(s cur:List UInt8),bY c cur s≠[]
 |[],cur=>by simp[bY]
 |x::s,cur=>by
  show(if x=c then _ else _)≠_
  split
  ·simp
  ·exact j7 c s _
theorem tg (c:UInt8):∀(s cur x:List UInt8),x∈bY c cur s->x.length <=cur.length+s.length
 |[],cur,x,h=>by simp[bY]at h;subst h;simp
 |y::r,cur,x,h=>by
  unfold bY at h
  split at h
  ·rcases List.mem_cons.1 h with rfl|h
   ·simp
   ·have:=tg c r [] x h;simp at this ⊢;omega
  ·have:=tg c r _ x h;simp at this ⊢;omega
theorem jQ (c:UInt8):∀(s cur:List UInt8),(bY c cur s).length <=s.length+1
 |[],cur=>by simp[bY]
 |y::r,cur=>by
  unfold bY
  split
  ·have:=jQ c r [];simp;omega
  ·have:=jQ c r (cur++[y]);simp;omega
theorem MQ (c:UInt8):∀(s cur x:List UInt8),x∈bY c cur s->(∀y∈cur,y≠c)->∀y∈x,(y∈cur\/y∈s)/\y≠c
 |[],cur,x,h,q,y,e=>by simp[bY]at h;subst h;exact⟨.inl e,q y e⟩
 |z::r,cur,x,h,q,y,e=>by
  unfold bY at h
  split at h
  ·rcases List.mem_cons.1 h with rfl|h
   ·exact⟨.inl e,q y e⟩
   ·have:=MQ c r [] x h (λ_ h=>by cases h) y e
    refine⟨.inr (List.mem_cons_of_mem _ ?_),this.2⟩
    rcases this.1 with h|h
    ·cases h
    ·exact h
  ·rename_i D
   have:=MQ c r (cur++[z]) x h (λy e=>by
    rcases List.mem_append.1 e with h|h
    ·exact q y h
    ·simp at h;subst h;exact D) y e
   refine⟨?_,this.2⟩
   rcases this.1 with h|h
   ·rcases List.mem_append.1 h with h|h
    ·exact .inl h
    ·simp at h;subst h;exact .inr List.mem_cons_self
   ·exact .inr (List.mem_cons_of_mem _ h)
theorem fE (c:UInt8):∀(s cur r:List UInt8),bY c cur (s++c::r)=bY c cur s++bY c [] r
 |[],cur,r=>by
  show(if c=c then _ else _)=_
  rw[if_pos rfl];rfl
 |x::s,cur,r=>by
  show(if x=c then cur::bY c [] (s++c::r)else bY c (cur++[x]) (s++c::r))=(if x=c then cur::bY c [] s else bY c (cur++[x]) s)++bY c [] r
  split
  ·rw[fE c s];rfl
  ·rw[fE c s]
theorem Mc (s:List UInt8)(c:UInt8):(Lib.index s [c]= -1/\∀x∈s,x≠c)\/∃i:Nat,Lib.index s [c]=(i:Int)/\∃h:i<s.length,s=s.take i++c::s.drop (i+1)/\∀x∈s.take i,x≠c:=by
 induction s with
 |nil=>exact .inl ⟨rfl,λx h=>by cases h⟩
 |cons b l I=>
  by_cases h:b=c
  ·subst h
   refine .inr ⟨0,by rw[Lib.index];simp[List.isPrefixOf],by simp,rfl,λx h=>by simp at h⟩
  ·have H:([c]:List UInt8).isPrefixOf (b::l)=false:=by simp[List.isPrefixOf,Ne.symm h]
   have D:Lib.index (b::l) [c]=if Lib.index l [c]== -1 then -1 else Lib.index l [c]+1:=by rw[Lib.index,H];simp
   rcases I with⟨h1,q⟩|⟨i,h1,q,E,G⟩
   ·refine .inl ⟨by rw[D,h1];rfl,λx e=>?_⟩
    rcases List.mem_cons.1 e with rfl|e
    ·exact h
    ·exact q x e
   ·refine .inr ⟨i+1,?_,by simpa using q,?_,λx e=>?_⟩
    ·rw[D,h1,if_neg (by rw[beq_iff_eq];omega)];omega
    ·simp only[List.take_succ_cons,List.drop_succ_cons,List.cons_append]
     rw[<- E]
    ·rw[List.take_succ_cons]at e
     rcases List.mem_cons.1 e with rfl|e
     ·exact h
     ·exact G x e
theorem Kv (c:UInt8):∀(n:Nat) (s:List UInt8),s.length <=n->Lib.splitK [c] 0 (Lib.count s [c]) s=bY c [] s
 |n,s,H=>by
  rcases Mc s c with⟨h1,e⟩|⟨i,h1,e,q,D⟩
  ·rw[Lib.count_miss h1,yP c s [] e];rfl
  ·have E:=Lib.count_hit (s:=s) (sub:=[c]) (by simp) h1
   cases n with
   |zero=>omega
   |succ n=>
    have G:=Kv c n (s.drop (i+1)) (by rw[List.length_drop];omega)
    rw[E,Nat.add_comm 1]
    unfold Lib.splitK
    rw[if_neg (by rw[h1,beq_iff_eq];omega),h1]
    simp only[Int.toNat_natCast,Nat.add_zero,List.length_cons,List.length_nil,Nat.zero_add]
    rw[G]
    conv=>rhs;rw[q,A8 c _ _ _ D]
    simp
theorem Kw (s:List UInt8)(c:UInt8):(Lib.splitB (mkS [c]) 0 (Lib.countB (mkS s) (mkS [c])) (mkS s)).map Value.string=(bY c [] s).map λx=>vS x:=by
 have h:=Lib.splitB_data (mkS [c]) 0 (Lib.countB (mkS s) (mkS [c])) (mkS s)
 have e:Lib.splitK (mkS [c]).data.toList 0 (Lib.countB (mkS s) (mkS [c])) (mkS s).data.toList=bY c [] s:=Kv c _ s (Nat.le_refl _)
 rw[e]at h
 rw[<- h,List.map_map]
 rfl
theorem PL (s:List UInt8)(c:UInt8):Lib.countB (mkS s) (mkS [c])+1=(bY c [] s).length:=by
 have h:=Kw s c
 have e:=congrArg List.length h
 rw[List.length_map,List.length_map,Lib.splitB_all (mkS [c]) (Nat.le_refl 1) 0 _ _ rfl]at e
 exact e
theorem Ue (s:List UInt8)(c:UInt8):Lib.cut s [c]=if c∈s then(s.takeWhile (· !=c),(s.dropWhile (· !=c)).drop 1,true)else(s,[],false):=by
 unfold Lib.cut
 rcases Mc s c with⟨h1,D⟩|⟨i,h1,D,e,E⟩
 ·rw[h1,if_neg (by omega),if_neg (λh=>D c h rfl)]
 ·have H:c∈s:=by rw[e];simp
  rw[h1,if_pos (by omega),if_pos H]
  have I:s.takeWhile (· !=c)=s.take i:=by
   conv=>lhs;rw[e]
   rw[List.takeWhile_append_of_pos (by intro a q;simpa using E a q)]
   simp
  have G:s.dropWhile (· !=c)=c::s.drop (i+1):=by
   conv=>lhs;rw[e]
   rw[List.dropWhile_append_of_pos (by intro a q;simpa using E a q)]
   simp
  rw[I,G];rfl
def xK (y:Int):Bool:=(decide (Int.tmod y 4=0)&&decide (Int.tmod y 100≠0)) || decide (Int.tmod y 400=0)
def zI (y m:Int):Int:=if m=2 then(if xK y then 29 else 28)else if m=4\/m=6\/m=9\/m=11 then 30 else 31
def ED (y:Int):Int:=if xK y then 366 else 365
theorem bP (h:0 <=a):Int.tmod a b=a%b:=Int.tmod_eq_emod_of_nonneg h
theorem bL (h:0 <=a):Int.tdiv a b=a/b:=Int.tdiv_eq_ediv_of_nonneg h
theorem Og {y:Int}(h:0 <=y):xK y=true ↔ (y%4=0/\y%100≠0)\/y%400=0:=by
 unfold xK
 rw[bP h,bP h,bP h]
 simp
theorem QG {y:Int}(h:1 <=y):∃a b c e:Int,y=400*a+100*b+4*c+e+1/\0 <=a/\0 <=b/\b <=3/\0 <=c/\c <=24/\0 <=e/\e <=3:=
 ⟨(y-1)/400,(y-1)%400/100,(y-1)%100/4,(y-1)%4,by omega,by omega,by omega,by omega,by omega,by omega,by omega,by omega⟩
theorem Mf {a b c e:Int}(E:0 <=a)(G:0 <=b)(H:b <=3)(I:0 <=c)(M:c <=24)(O:0 <=e)(U:e <=3):xK (400*a+100*b+4*c+e+1)=true ↔ e=3/\(c≠24\/b=3):=by
 rw[Og (by omega)]
 have h1:(400*a+100*b+4*c+e+1)%4=0 ↔ e=3:=by omega
 have q:(400*a+100*b+4*c+e+1)%100=0 ↔ e=3/\c=24:=by omega
 have D:(400*a+100*b+4*c+e+1)%400=0 ↔ e=3/\c=24/\b=3:=by omega
 rw[h1,D,ne_eq,q];omega
def dY (y:Int):Int:=365*(y-1)+(y-1)/4-(y-1)/100+(y-1)/400
theorem DR {a b c e:Int}(E:0 <=a)(G:0 <=b)(H:b <=3)(I:0 <=c)(M:c <=24)(O:0 <=e)(U:e <=3):dY (400*a+100*b+4*c+e+1)=365*(400*a+100*b+4*c+e)+(97*a+24*b+c):=by
 unfold dY
 have h1:(400*a+100*b+4*c+e+1-1)/4=100*a+25*b+c:=by omega
 have q:(400*a+100*b+4*c+e+1-1)/100=4*a+b:=by omega
 have D:(400*a+100*b+4*c+e+1-1)/400=a:=by omega
 rw[h1,q,D];omega
theorem sJ {y:Int}(h:1 <=y):dY (y+1)=dY y+ED y:=by
 obtain⟨a,b,c,q,rfl,E,G,H,I,M,O,U⟩:=QG h
 have e:=Mf E G H I M O U
 rw[DR E G H I M O U]
 unfold ED
 by_cases V:q=3
 ·subst V
  by_cases D:c=24
  ·subst D
   by_cases X:b=3
   ·subst X
    rw[if_pos (e.2 ⟨rfl,.inr rfl⟩)]
    rw[show 400*a+100*3+4*24+3+1+1=400*(a+1)+100*0+4*0+0+1 by omega,DR (by omega) (by omega) (by omega) (by omega) (by omega) (by omega) (by omega)];omega
   ·rw[if_neg (λh=>by have:=e.1 h;omega)]
    rw[show 400*a+100*b+4*24+3+1+1=400*a+100*(b+1)+4*0+0+1 by omega,DR (by omega) (by omega) (by omega) (by omega) (by omega) (by omega) (by omega)];omega
  ·rw[if_pos (e.2 ⟨rfl,.inl D⟩)]
   rw[show 400*a+100*b+4*c+3+1+1=400*a+100*b+4*(c+1)+0+1 by omega,DR (by omega) (by omega) (by omega) (by omega) (by omega) (by omega) (by omega)];omega
 ·rw[if_neg (λh=>by have:=e.1 h;omega)]
  rw[show 400*a+100*b+4*c+q+1+1=400*a+100*b+4*c+(q+1)+1 by omega,DR (by omega) (by omega) (by omega) (by omega) (by omega) (by omega) (by omega)];omega
def cM (y m:Int):Int:=if m=1 then 0 else if m=2 then 31 else(if xK y then 1 else 0)+
 (if m=3 then 59 else if m=4 then 90 else if m=5 then 120 else if m=6 then 151 else if m=7 then 181 else if m=8 then 212 else if m=9 then 243 else if m=10 then 273 else if m=11 then 304 else if m=12 then 334 else 365)
theorem Ti {m:Int}(h1:1 <=m)(e:m <=12):m=1\/m=2\/m=3\/m=4\/m=5\/m=6\/m=7\/m=8\/m=9\/m=10\/m=11\/m=12:=by omega
theorem wA {y m:Int}(h1:1 <=m)(e:m <=12):cM y (m+1)=cM y m+zI y m:=by
 unfold cM zI
 rcases Ti h1 e with rfl|rfl|rfl|rfl|rfl|rfl|rfl|rfl|rfl|rfl|rfl|rfl <;> cases xK y <;> simp
theorem Jg (y:Int):cM y 13=ED y:=by unfold cM ED;cases xK y <;> simp
theorem pd (y m:Int):28 <=zI y m/\zI y m <=31:=by unfold zI;split <;> (try split) <;> omega
theorem CL {y m:Int}(h1:1 <=m)(e:m <=12):0 <=cM y m/\cM y m <=335:=by
 unfold cM
 rcases Ti h1 e with rfl|rfl|rfl|rfl|rfl|rfl|rfl|rfl|rfl|rfl|rfl|rfl <;> cases xK y <;> simp
def cH (y m d:Int):Prop:=1601 <=y/\y <=9999/\1 <=m/\m <=12/\1 <=d/\d <=zI y m
instance  (y m d:Int):Decidable (cH y m d):=by unfold cH;infer_instance
def fx (y m d:Int):Int:=dY y-719162+cM y m+d-1
theorem ul (y:Int):365 <=ED y/\ED y <=366:=by unfold ED;split <;> omega
theorem Va (h:1 <=a):∀k:Nat,dY a <=dY (a+k)
 |0=>by simp
 |k+1=>by
  have h1:=Va h k
  have e:=sJ (y:=a+k) (by omega)
  have q:=ul (a+k)
  rw[show a+((k+1:Nat):Int)=a+k+1 by omega];omega
theorem Bb (h1:1 <=a)(h:a <=b):dY a <=dY b:=by
 have:=Va h1 (b-a).toNat
 rwa [show a+((b-a).toNat:Int)=b by omega]at this
theorem wD {y:Int}(h1:1601 <=y)(e:y <=10000):584388 <=dY y/\dY y <=3652059:=by
 have q:=Bb (a:=1601) (b:=y) (by omega) h1
 have D:=Bb (a:=y) (b:=10000) (by omega) e
 have E:dY 1601=584388:=by decide
 have G:dY 10000=3652059:=by decide
 omega
theorem U7 {y a:Int}(h:1 <=a):∀k:Nat,a+k <=13->cM y a <=cM y (a+k)
 |0,_=>by simp
 |k+1,D=>by
  have h1:=U7 (y:=y) h k (by omega)
  have e:=wA (y:=y) (m:=a+k) (by omega) (by omega)
  have q:=pd y (a+k)
  rw[show a+((k+1:Nat):Int)=a+k+1 by omega];omega
theorem MM {y a b:Int}(h1:1 <=a)(h:a <=b)(e:b <=13):cM y a <=cM y b:=by
 have:=U7 (y:=y) h1 (b-a).toNat (by omega)
 rwa [show a+((b-a).toNat:Int)=b by omega]at this
theorem Xb {y m d:Int}(a8:1 <=y)(h1:1 <=m)(a0:m <=12)(H O:Int)(hY:H=if m-3<0 then y-1 else y)(I:O=if m-3<0 then m+9 else m-3):
 H/400*146097+H%400*365+H%400/4-H%400/100+(153*O+2)/5+d-1-719468=fx y m d:=by
 obtain⟨a,b,c,e,rfl,V,X,Y,Z,ac,ad,ag⟩:=QG (y:=y) (by omega)
 have M:=Mf V X Y Z ac ad ag
 unfold fx
 rw[DR V X Y Z ac ad ag]
 by_cases aj:m-3<0
 ·rw[if_pos aj]at hY I
  subst hY
  have q:(400*a+100*b+4*c+e+1-1)/400=a:=by omega
  have D:(400*a+100*b+4*c+e+1-1)%400=100*b+4*c+e:=by omega
  have E:(100*b+4*c+e)/4=25*b+c:=by omega
  have G:(100*b+4*c+e)/100=b:=by omega
  rw[q,D,E,G]
  have:m=1\/m=2:=by omega
  rcases this with rfl|rfl <;> subst I <;> unfold cM <;> simp <;> omega
 ·rw[if_neg aj]at hY I
  subst hY
  have ar:cM (400*a+100*b+4*c+e+1) m=(if xK (400*a+100*b+4*c+e+1)=true then 1 else 0)+59+(153*O+2)/5:=by
   have:m=3\/m=4\/m=5\/m=6\/m=7\/m=8\/m=9\/m=10\/m=11\/m=12:=by omega
   rcases this with rfl|rfl|rfl|rfl|rfl|rfl|rfl|rfl|rfl|rfl <;> subst I <;> unfold cM <;> simp <;> omega
  rw[ar]
  have key:(400*a+100*b+4*c+e+1)/400*146097+(400*a+100*b+4*c+e+1)%400*365+(400*a+100*b+4*c+e+1)%400/4-(400*a+100*b+4*c+e+1)%400/100=
   365*(400*a+100*b+4*c+e+1)+(97*a+24*b+c)+(if xK (400*a+100*b+4*c+e+1)=true then 1 else 0):=by
   by_cases al:e=3
   ·subst al
    by_cases U:c=24
    ·subst U
     by_cases an:b=3
     ·subst an
      rw[if_pos (M.2 ⟨rfl,.inr rfl⟩)]
      have q:(400*a+100*3+4*24+3+1)/400=a+1:=by omega
      have D:(400*a+100*3+4*24+3+1)%400=0:=by omega
      rw[q,D];omega
     ·rw[if_neg (λh=>by have:=M.1 h;omega)]
      have q:(400*a+100*b+4*24+3+1)/400=a:=by omega
      have D:(400*a+100*b+4*24+3+1)%400=100*(b+1):=by omega
      have E:(100*(b+1))/4=25*(b+1):=by omega
      have G:(100*(b+1))/100=b+1:=by omega
      rw[q,D,E,G];omega
    ·rw[if_pos (M.2 ⟨rfl,.inl U⟩)]
     have q:(400*a+100*b+4*c+3+1)/400=a:=by omega
     have D:(400*a+100*b+4*c+3+1)%400=100*b+4*(c+1):=by omega
     have E:(100*b+4*(c+1))/4=25*b+c+1:=by omega
     have G:(100*b+4*(c+1))/100=b:=by omega
     rw[q,D,E,G];omega
   ·rw[if_neg (λh=>by have:=M.1 h;omega)]
    have q:(400*a+100*b+4*c+e+1)/400=a:=by omega
    have D:(400*a+100*b+4*c+e+1)%400=100*b+4*c+e+1:=by omega
    have E:(100*b+4*c+e+1)/4=25*b+c:=by omega
    have G:(100*b+4*c+e+1)/100=b:=by omega
    rw[q,D,E,G];omega
  omega
theorem Qd {y m d:Int}(h:cH y m d):dY y <=fx y m d+719162/\fx y m d+719162<dY (y+1)/\cM y m <=fx y m d+719162-dY y/\fx y m d+719162-dY y<cM y (m+1):=by
 obtain⟨h1,M,e,q,O,U⟩:=h
 have D:=CL (y:=y) e (by omega)
 have E:=wA (y:=y) e q
 have G:=MM (y:=y) (a:=m+1) (b:=13) (by omega) (by omega) (by omega)
 have H:=sJ (y:=y) (by omega)
 have I:=Jg y
 unfold fx
 omega
theorem Qe {y m d a b c:Int}(h:cH y m d)(k:cH a b c)(e:fx y m d=fx a b c):y=a/\m=b/\d=c:=by
 have G:=h.1
 have E:=k.1
 have h1:=Qd h
 have H:=Qd k
 rw[e]at h1
 have D:y=a:=by
  rcases Int.lt_trichotomy y a with c|c|c
  ·have:=Bb (show 1 <=y+1 by omega) (show y+1 <=a by omega);omega
  ·exact c
  ·have:=Bb (show 1 <=a+1 by omega) (show a+1 <=y by omega);omega
 subst D
 obtain⟨_,_,I,M,_,_⟩:=h
 obtain⟨_,_,O,U,_,_⟩:=k
 have q:m=b:=by
  rcases Int.lt_trichotomy m b with c|c|c
  ·have:=MM (y:=y) (a:=m+1) (b:=b) (by omega) (by omega) (by omega);omega
  ·exact c
  ·have:=MM (y:=y) (a:=b+1) (b:=m) (by omega) (by omega) (by omega);omega
 subst q
 refine⟨rfl,rfl,?_⟩
 unfold fx at e;omega
set_option maxRecDepth 20000
theorem N4 (y:Int)(w:World):Cf Fm #[vI y] w (Ret λv w'=>v=.bool (xK y)/\w'=w):=by
 apply Nx
 unfold H4 xK
 refine⟨by decide,?_⟩
 rintro _ rfl
 refine ai.of (λh=>?_) (λh=>?_) <;> simp at h
 ·refine⟨by decide,?_⟩
  rintro _ rfl
  refine ai.of (λe=>?_) (λe=>?_) <;> simp at e
  ·exact⟨by simp[h,e],rfl⟩
  ·refine⟨by decide,?_⟩
   rintro _ rfl
   refine⟨?_,rfl⟩
   congr 1
   rw[Bool.eq_iff_iff];simp[h,e]
 ·refine⟨by decide,?_⟩
  rintro _ rfl
  refine⟨?_,rfl⟩
  congr 1
  rw[Bool.eq_iff_iff];simp[h]
def Bc (y m d:Int):Value:=.tuple #[vI (if cH y m d then fx y m d else 0),.bool (decide (cH y m d))]
def Qu:List Int:=[31,28,31,30,31,30,31,31,30,31,30,31]
theorem Wm:∀c∈(Value.agg (Qu.map λn=>vI n).toArray).cells.toList,c.oneCell'=true:=by
 intro c e
 obtain⟨n,_,rfl⟩:∃n,n∈Qu/\vI n=c:=by simpa[Value.cells]using e
 rfl
theorem KY (y m:Int)(h1:1 <=m)(I:m <=12)(w:World):Cf Bi #[vI y,vI m] w (Ret λv w'=>v=vI (zI y m)/\bW w w'):=by
 apply J6
 intro k w1 V H
 have E:bW w w1:=H▸au _ _
 have M:av w1 k A5 (List.replicate 12 (vI 0)):=av.new V H
 obtain⟨e,Y,O,U⟩:=M.store (P:=prog) ON (i:=0) (v:=.agg (Qu.map λn=>vI n).toArray) rfl (by decide) Wm
 refine⟨e,Y,?_⟩
 have G:=E.grown U E.size (λx q=>by cases q;omega)
 refine⟨λw'=>w'=e/\(m=2->xK y=false),?_,?_⟩
 ·refine ai.of (λh=>?_) (λh=>?_) <;> simp at h
  ·refine az (N4 y _) ?_
   rintro _ e ⟨rfl,rfl⟩
   refine⟨_,rfl,?_⟩
   refine ai.of (λD=>?_) (λD=>?_)
   ·refine⟨?_,G⟩
    unfold zI;rw[if_pos h,if_pos D]
   ·exact⟨rfl,λ_=>D⟩
  ·exact⟨rfl,λq=>absurd q h⟩
 ·refine aP.of ?_ _
  rintro e ⟨rfl,X⟩
  rw[wrap_i64 (by omega) (by omega)]
  refine⟨⟨⟨by omega,by omega⟩,rfl⟩,?_⟩
  refine⟨zI y m,?_,rfl,G⟩
  rw[qZ,Nat.zero_add,Nat.mul_one]
  refine O.load1 br rfl ?_
  unfold zI
  rcases Ti h1 I with rfl|rfl|rfl|rfl|rfl|rfl|rfl|rfl|rfl|rfl|rfl|rfl <;> simp[Qu,Value.cells]
  simp[X]
theorem CM (y m d:Int)(bc: -9223372036854775808 <=d/\d <=9223372036854775807)(w:World):Cf yR #[vI y,vI m,vI d] w (Ret λv w'=>v=Bc y m d/\bW w w'):=by
 apply Nv
 have D:∀w',bW w w'-> ¬ cH y m d->(Value.tuple #[vI 0,.bool false]=Bc y m d/\bW w w'):=λw' H h=>by
  refine⟨?_,H⟩
  unfold Bc;rw[if_neg h];simp[h]
 refine⟨λw'=>cH y m d/\bW w w',?_,?_⟩
 ·refine ai.of (λh1=>?_) (λh1=>?_) <;> simp at h1
  ·exact D _ (Below.refl _ _) (by unfold cH;omega)
  refine ai.of (λO=>?_) (λO=>?_) <;> simp at O
  ·exact D _ (Below.refl _ _) (by unfold cH;omega)
  refine ai.of (λE=>?_) (λE=>?_) <;> simp at E
  ·exact D _ (Below.refl _ _) (by unfold cH;omega)
  refine ai.of (λG=>?_) (λG=>?_) <;> simp at G
  ·exact D _ (Below.refl _ _) (by unfold cH;omega)
  refine ai.of (λU=>?_) (λU=>?_) <;> simp at U
  ·exact D _ (Below.refl _ _) (by unfold cH;omega)
  refine az (KY y m E G w) ?_
  rintro _ ac ⟨rfl,H⟩
  refine⟨_,rfl,?_⟩
  refine ai.of (λV=>?_) (λV=>?_) <;> simp at V
  ·exact D _ H (by unfold cH;omega)
  ·exact⟨⟨by omega,by omega,by omega,by omega,by omega,by omega⟩,H⟩
 ·refine aP.of ?_ _
  rintro ac ⟨ar,H⟩
  obtain⟨h1,O,E,G,U,V⟩:=ar
  have bj:=pd y m
  refine⟨λI e w'=>w'=ac/\I=(if m-3<0 then y-1 else y)/\e=(if m-3<0 then m+9 else m-3),?_,?_⟩
  ·rw[wrap_i64 (n:=m-3) (by omega) (by omega)]
   refine ai.of (λh=>?_) (λh=>?_) <;> simp only[dTx,dFx]at h
   ·refine⟨rfl,?_,?_⟩
    ·rw[if_pos h,wrap_i64 (by omega) (by omega)]
    ·rw[if_pos h,wrap_i64 (by omega) (by omega)];omega
   ·exact⟨rfl,by rw[if_neg h],by rw[if_neg h]⟩
  ·intro I e
   refine aP.of ?_ _
   rintro ac ⟨rfl,hY,Y⟩
   have a0:=Xb (y:=y) (m:=m) (d:=d) (by omega) E G I e hY Y
   have bb:1600 <=I/\I <=9999:=by rw[hY];split <;> omega
   have a9:0 <=e/\e <=11:=by rw[Y];split <;> omega
   clear hY Y
   rw[bP (by omega),bL (by omega)]
   refine⟨by decide,?_⟩
   intro of a8
   refine⟨by decide,?_⟩
   intro q ag
   rw[bL (by omega),bL (by omega)]
   refine⟨by decide,?_⟩
   intro M aj
   refine⟨by decide,?_⟩
   intro X al
   refine⟨by decide,?_⟩
   intro Z an
   rw[wrap_i64 (by omega) (by omega)]at ag aj al
   rw[wrap_i64 (n:=153*e) (by omega) (by omega),wrap_i64 (n:=153*e+2) (by omega) (by omega),bL (by omega),wrap_i64 (by omega) (by omega)]at an
   rw[wrap_i64 (n:=q*146097) (by omega) (by omega),wrap_i64 (n:=of*365) (by omega) (by omega),wrap_i64 (n:=q*146097+of*365) (by omega) (by omega),wrap_i64 (n:=q*146097+of*365+M) (by omega) (by omega),
    wrap_i64 (n:=q*146097+of*365+M-X) (by omega) (by omega),wrap_i64 (n:=q*146097+of*365+M-X+Z) (by omega) (by omega),wrap_i64 (n:=q*146097+of*365+M-X+Z+d) (by omega) (by omega),
    wrap_i64 (n:=q*146097+of*365+M-X+Z+d-1) (by omega) (by omega),wrap_i64 (by omega) (by omega)]
   refine⟨?_,H⟩
   have ad:cH y m d:=⟨h1,O,E,G,U,V⟩
   unfold Bc
   rw[if_pos ad,<- a0,ag,aj,al,an,a8]
   simp[ad]
open Classical in
noncomputable def TT (n:Int):Value:=if h:∃p:Int×Int×Int,cH p.1 p.2.1 p.2.2/\fx p.1 p.2.1 p.2.2=n then
 .tuple #[vI (Classical.choose h).1,vI (Classical.choose h).2.1,vI (Classical.choose h).2.2,.bool true]else .tuple #[vI 0,vI 0,vI 0,.bool false]
theorem wB {y m d:Int}(h:cH y m d):TT (fx y m d)=.tuple #[vI y,vI m,vI d,.bool true]:=by
 have e:∃p:Int×Int×Int,cH p.1 p.2.1 p.2.2/\fx p.1 p.2.1 p.2.2=fx y m d:=⟨(y,m,d),h,rfl⟩
 unfold TT
 rw[dif_pos e]
 obtain⟨h1,G⟩:=Classical.choose_spec e
 obtain⟨q,D,E⟩:=Qe h1 h G
 rw[q,D,E]
theorem Jt {y m d:Int}(h:cH y m d): -134774 <=fx y m d/\fx y m d <=2932896:=by
 have h1:=Qd h
 have e:=wD (y:=y) h.1 (by have:=h.2.1;omega)
 have q:=wD (y:=y+1) (by have:=h.1;omega) (by have:=h.2.1;omega)
 have D:=Bb (a:=y+1) (b:=10000) (by have:=h.1;omega) (by have:=h.2.1;omega)
 omega
theorem ns {n:Int}(h:n < -134774\/2932896<n):TT n=.tuple #[vI 0,vI 0,vI 0,.bool false]:=by
 unfold TT
 rw[dif_neg]
 rintro⟨p,h1,h2⟩
 have:=Jt h1
 omega
theorem xL:cH 1601 1 1/\fx 1601 1 1= -134774:=by decide
theorem uG:cH 9999 12 31/\fx 9999 12 31=2932896:=by decide
def sN (k:Nat):Nat:=if k=400 then 146097 else 365*k+k/4-k/100
def gN (n:Nat):Nat:=n-n/1460+n/36524-n/146096
theorem WZ {a:Nat}(h:a<146096):gN a <=gN (a+1):=by unfold gN;omega
theorem SB {a:Nat} :∀k:Nat,a+k <=146096->gN a <=gN (a+k)
 |0,_=>Nat.le_refl _
 |k+1,h=>Nat.le_trans (SB k (by omega)) (WZ (a:=a+k) (by omega))
theorem XR:∀k,k<400->gN (sN k)/365=k/\gN (sN (k+1)-1)/365=k:=by decide+kernel
theorem Xi:∀k,k<400->sN (k+1)=sN k+(if(k+1)%4=0/\((k+1)%100≠0\/k+1=400)then 366 else 365)/\0<sN (k+1)/\sN (k+1) <=146097:=by decide+kernel
theorem Vi:∀j,j <=400->n<sN j->∃k,k<j/\sN k <=n/\n<sN (k+1)
 |0,_,h=>by simp[sN]at h
 |j+1,D,h=>by
  by_cases c:n<sN j
  ·obtain⟨k,h1,e,q⟩:=Vi j (by omega) c
   exact⟨k,by omega,e,q⟩
  ·exact⟨j,by omega,by omega,h⟩
theorem Wz (h:n<146097):∃k,k<400/\gN n/365=k/\sN k <=n/\n<sN (k+1):=by
 obtain⟨k,h1,D,E⟩:=Vi (n:=n) 400 (Nat.le_refl _) (by simpa[sN]using h)
 obtain⟨I,M⟩:=XR k h1
 obtain⟨_,O,U⟩:=Xi k h1
 refine⟨k,h1,?_,D,E⟩
 have e:=SB (a:=sN k) (n-sN k) (by omega)
 have q:=SB (a:=n) (sN (k+1)-1-n) (by omega)
 rw[show sN k+(n-sN k)=n by omega]at e
 rw[show n+(sN (k+1)-1-n)=sN (k+1)-1 by omega]at q
 have G:=Nat.div_le_div_right (c:=365) e
 have H:=Nat.div_le_div_right (c:=365) q
 omega
def WH (mp:Nat):Nat:=[31,30,31,30,31,31,30,31,30,31,31,29][mp]?.getD 0
theorem UC:∀e,e<366->(5*e+2)/153 <=11/\(153*((5*e+2)/153)+2)/5 <=e/\e-(153*((5*e+2)/153)+2)/5+1 <=WH ((5*e+2)/153)/\
 ((5*e+2)/153=11->e-(153*((5*e+2)/153)+2)/5+1=29->e=365):=by decide+kernel
theorem Ux {y:Int}(h:n <=9):zI y ((n:Int)+3)=WH n:=by
 have:n=0\/n=1\/n=2\/n=3\/n=4\/n=5\/n=6\/n=7\/n=8\/n=9:=by omega
 rcases this with rfl|rfl|rfl|rfl|rfl|rfl|rfl|rfl|rfl|rfl <;> simp[zI,WH]
theorem R9 {y n:Int}(I:1 <=y)(h1:dY y <=n+719162)(E:n+719162<dY (y+1))(G: -134774 <=n)(H:n <=2932896):1601 <=y/\y <=9999:=by
 have q:dY 1601=584388:=by decide
 have D:dY 10000=3652059:=by decide
 constructor
 ·apply Int.le_of_not_gt
  intro e
  have:=Bb (a:=y+1) (b:=1601) (by omega) (by omega)
  omega
 ·apply Int.le_of_not_gt
  intro e
  have:=Bb (a:=10000) (b:=y) (by omega) (by omega)
  omega
theorem Th {y m d:Int}(G:1 <=y)(h1:1 <=m)(D:m <=12)(e q:Int)(hY:e=if m-3<0 then y-1 else y)(E:q=if m-3<0 then m+9 else m-3):
 e/400*146097+e%400*365+e%400/4-e%400/100+(153*q+2)/5+d-1-719468=fx y m d:=Xb G h1 D e q hY E
theorem MO {n:Int}(h1: -134774 <=n)(an:n <=2932896)(of yoe E q day era:Int)(ch:of=(n+719468)%146097)(b8:era=(n+719468)/146097)
 (ac:yoe=(of-of/1460+of/36524-of/146096)/365) (bb:E=of-(365*yoe+yoe/4-yoe/100)) (cc:q=(5*E+2)/153) (b6:day=E-(153*q+2)/5+1):
 0 <=of/\of <=146096/\4 <=era/\era <=24/\0 <=yoe/\yoe <=399/\0 <=E/\E <=365/\0 <=q/\q <=11/\1 <=day/\day <=31/\
 cH (if q+3>12 then yoe+era*400+1 else yoe+era*400) (if q+3>12 then q+3-12 else q+3) day/\
 fx (if q+3>12 then yoe+era*400+1 else yoe+era*400) (if q+3>12 then q+3-12 else q+3) day=n:=by
 obtain⟨N,O⟩:∃N:Nat,of=(N:Int):=⟨of.toNat,by omega⟩
 have a8:N<146097:=by omega
 have b9:4 <=era/\era <=24:=by omega
 obtain⟨k,bj,V,cj,ck⟩:=Wz a8
 have ag:yoe=(k:Int):=by rw[ac,O,<- V];unfold gN;omega
 clear V ac
 rw[ag,O]at bb
 obtain⟨X,_,_⟩:=Xi k bj
 have cl:sN k=365*k+k/4-k/100:=by unfold sN;rw[if_neg (by omega)]
 obtain⟨D,b4⟩:∃D:Nat,E=(D:Int):=⟨E.toNat,by omega⟩
 have b5:D=N-sN k:=by omega
 have ar:D<366:=by split at X <;> omega
 obtain⟨bp,bq,M,aj⟩:=UC D ar
 obtain⟨e,a0⟩:∃e:Nat,e=(5*D+2)/153:=⟨_,rfl⟩
 rw[<- a0]at bp bq M aj
 have cf:q=(e:Int):=by omega
 have b7:day=((D-(153*e+2)/5+1:Nat):Int):=by omega
 have ce:WH e <=31:=by
  have:e=0\/e=1\/e=2\/e=3\/e=4\/e=5\/e=6\/e=7\/e=8\/e=9\/e=10\/e=11:=by omega
  rcases this with h|h|h|h|h|h|h|h|h|h|h|h <;> rw[h] <;> decide
 refine⟨by omega,by omega,by omega,by omega,by omega,by omega,by omega,by omega,by omega,by omega,by omega,by omega,?_⟩
 obtain⟨y,m,ey,em,hm1,hm2,hY,hMM⟩:∃y m:Int,y=(if q+3>12 then yoe+era*400+1 else yoe+era*400)/\m=(if q+3>12 then q+3-12 else q+3)/\1 <=m/\m <=12/\
  yoe+era*400=(if m-3<0 then y-1 else y)/\q=(if m-3<0 then m+9 else m-3):=by
  refine⟨_,_,rfl,rfl,?_⟩
  by_cases c:q+3>12
  ·rw[if_pos c,if_pos c,if_pos (by omega),if_pos (by omega)];omega
  ·rw[if_neg c,if_neg c,if_neg (by omega),if_neg (by omega)];omega
 rw[<- ey,<- em]
 have ad:1 <=y:=by rw[ey];split <;> omega
 have bc:1 <=day:=by omega
 have bk:day <=zI y m:=by
  by_cases c:q+3>12
  ·rw[if_pos c]at ey em
   have:e=10\/e=11:=by omega
   rcases this with rfl|rfl
   ·have:m=1:=by omega
    subst this
    have G:WH 10=31:=by decide
    rw[G]at M
    unfold zI;simp;omega
   ·have:m=2:=by omega
    subst this
    have G:WH 11=29:=by decide
    rw[G]at M
    unfold zI
    rw[if_pos rfl]
    by_cases al:D-(153*11+2)/5+1=29
    ·have b3:=aj rfl al
     have cb:(k+1)%4=0/\((k+1)%100≠0\/k+1=400):=by
      apply Classical.byContradiction
      intro a9
      rw[if_neg a9]at X
      omega
     have:xK y=true:=(Og (by omega)).2 (by omega)
     rw[if_pos this];omega
    ·split <;> omega
  ·rw[if_neg c]at ey em
   have:m=(e:Int)+3:=by omega
   rw[this,Ux (by omega)];omega
 have I:=Th (d:=day) ad hm1 hm2 _ _ hY hMM
 have Y:(yoe+era*400)/400=era:=by omega
 have Z:(yoe+era*400)%400=yoe:=by omega
 rw[Y,Z]at I
 have H:fx y m day=n:=by
  rw[<- I,ag]
  clear hY hMM I Y Z
  omega
 refine⟨?_,H⟩
 have bs:=CL (y:=y) hm1 hm2
 have bz:=wA (y:=y) hm1 hm2
 have b0:=MM (y:=y) (a:=m+1) (b:=13) (by omega) (by omega) (by omega)
 have b1:=sJ (y:=y) (by omega)
 have b2:=Jg y
 have U:=R9 (n:=n) ad (by unfold fx at H;omega) (by unfold fx at H;omega) h1 an
 exact⟨U.1,U.2,hm1,hm2,bc,bk⟩
theorem MR (n:Int)(w:World)(cc: -9223372036854775808 <=n/\n <=9223372036854775807):Cf CS #[vI n] w (Ret λv w'=>v=TT n/\bW w w'):=by
 apply Lr
 refine az (CM _ _ _ (by omega) w) ?_
 rintro _ bz ⟨rfl,al⟩
 refine⟨_,_,rfl,?_⟩
 refine az (CM _ _ _ (by omega) bz) ?_
 rintro _ bp ⟨rfl,bq⟩
 have hB:=ah al bq al.size
 refine⟨_,_,rfl,?_⟩
 rw[if_pos xL.1,if_pos uG.1,xL.2,uG.2]
 refine⟨λw'=>w'=bp/\ -134774 <=n/\n <=2932896,?_,?_⟩
 ·refine ai.of (λh=>?_) (λh=>?_) <;> simp only[dTx,dFx]at h
  ·exact⟨(ns (.inl h)).symm,hB⟩
  ·refine ai.of (λD=>?_) (λD=>?_) <;> simp only[gt_iff_lt,dTx,dFx]at D
   ·exact⟨(ns (.inr D)).symm,hB⟩
   ·exact⟨rfl,by omega,by omega⟩
 ·refine aP.of ?_ _
  rintro bp ⟨rfl,h1,D⟩
  rw[wrap_i64 (n:=n+719468) (by omega) (by omega),bP (by omega)]
  refine⟨by decide,?_⟩
  intro of a8
  have U:0 <=of/\of <=146096:=by omega
  refine⟨by decide,?_⟩
  rintro ad V
  rw[bL U.1,wrap_i64 (by omega) (by omega)]at V
  refine⟨by decide,?_⟩
  rintro bk X
  rw[bL U.1,wrap_i64 (by omega) (by omega)]at X
  refine⟨by decide,?_⟩
  rintro bs Y
  rw[bL U.1,wrap_i64 (by omega) (by omega)]at Y
  refine⟨by decide,?_⟩
  rintro e ac
  rw[wrap_i64 (n:=of-ad) (by omega) (by omega),wrap_i64 (n:=of-ad+bk) (by omega) (by omega),wrap_i64 (n:=of-ad+bk-bs) (by omega) (by omega),bL (by omega),wrap_i64 (by omega) (by omega)]at ac
  have bj:0 <=e/\e <=400:=by omega
  refine⟨by decide,?_⟩
  rintro I a9
  rw[bL bj.1,wrap_i64 (by omega) (by omega)]at a9
  refine⟨by decide,?_⟩
  rintro ag bb
  rw[bL bj.1,wrap_i64 (by omega) (by omega)]at bb
  rw[wrap_i64 (n:=365*e) (by omega) (by omega),wrap_i64 (n:=365*e+I) (by omega) (by omega),wrap_i64 (n:=365*e+I-ag) (by omega) (by omega),wrap_i64 (n:=of-(365*e+I-ag)) (by omega) (by omega)]
  obtain⟨q,an⟩:∃q,q=of-(365*e+I-ag):=⟨_,rfl⟩
  rw[<- an]
  have Z:e=(of-of/1460+of/36524-of/146096)/365:=by rw[ac,V,X,Y]
  have O:q=of-(365*e+e/4-e/100):=by rw[an,a9,bb]
  obtain⟨_,_,_,_,b5,b6,b7,b8,_⟩:=MO h1 D of e q _ _ _ a8 rfl Z O rfl rfl
  refine⟨by decide,?_⟩
  rintro E a0
  rw[wrap_i64 (n:=5*q) (by omega) (by omega),wrap_i64 (n:=5*q+2) (by omega) (by omega),bL (by omega),wrap_i64 (by omega) (by omega)]at a0
  refine⟨by decide,?_⟩
  rintro aj bc
  have cb:0 <=E/\E <=12:=by omega
  rw[wrap_i64 (n:=153*E) (by omega) (by omega),wrap_i64 (n:=153*E+2) (by omega) (by omega),bL (by omega),wrap_i64 (by omega) (by omega)]at bc
  refine⟨by decide,?_⟩
  rintro M ar
  rw[bL (by omega),wrap_i64 (by omega) (by omega)]at ar
  obtain⟨_,_,b3,b4,_,_,_,_,b9,b0,b1,b2,H,G⟩:=MO h1 D of e q E (q-aj+1) M a8 ar Z O a0 (by rw[bc])
  clear Z O V X Y ac
  rw[wrap_i64 (n:=E+3) (by omega) (by omega),wrap_i64 (n:=q-aj) (by omega) (by omega),wrap_i64 (n:=q-aj+1) (by omega) (by omega),wrap_i64 (n:=M*400) (by omega) (by omega),wrap_i64 (n:=e+M*400) (by omega) (by omega)]
  refine ai.of (λh=>?_) (λh=>?_) <;> simp only[gt_iff_lt,dTx,dFx]at h
  ·rw[if_pos h,if_pos h]at H G
   rw[wrap_i64 (by omega) (by omega),wrap_i64 (by omega) (by omega)]
   exact⟨by rw[<- G,wB H],hB⟩
  ·rw[if_neg h,if_neg h]at H G
   exact⟨by rw[<- G,wB H],hB⟩
def EE (c:UInt8):UInt8:=if 65 <=c/\c <=90 then c+32 else c
def cN (s:List UInt8):List UInt8:=s.map EE
theorem UA:∀n,n<256->((EE (UInt8.ofNat n)).toNat:Int)=if 65 <=(n:Int)/\(n:Int) <=90 then(n:Int)+32 else(n:Int):=by decide+kernel
theorem Qv (c:UInt8):((EE c).toNat:Int)=if 65 <=(c.toNat:Int)/\(c.toNat:Int) <=90 then(c.toNat:Int)+32 else(c.toNat:Int):=by
 have:=UA c.toNat (by have:=c.toNat_lt;omega)
 rwa [UInt8.ofNat_toNat]at this
theorem pQ (s:List UInt8)(b0:s.length <=9223372036854775800)(w:World):Cf o8 #[vS s] w (Ret λv w'=>v=vS (cN s)/\bW w w'):=by
 apply Kh
 obtain⟨aj,a,n,c,bb,Y,O,a8⟩:=DO ax fF dm w s (by omega) NoB
 have a9:=Y.len
 subst a9
 refine⟨aj,a,_,c,bb,?_⟩
 refine⟨λm i w'=>∃k:Nat,k <=s.length/\i=(k:Int)/\m=s.length-k/\Ow tU8 bF w' NoB a s.length c (cN (s.take k)++s.drop k)/\aj.grownBy w' (j0 a),
  ⟨_,0,by omega,rfl,rfl,by simpa[cN]using Y,⟨rfl,rfl,rfl,Nat.le_refl _,λ_ _ _=>rfl⟩⟩,?_⟩
 intro m i
 refine aP.of ?_ _
 rintro w' ⟨k,bs,rfl,rfl,E,q⟩
 have H:(cN (s.take k)++s.drop k).length=s.length:=by simp[cN];omega
 refine ai.of (λh=>?_) (λh=>?_) <;> simp at h
 ·have G:(cN (s.take k)).length=k:=by simp[cN];omega
  have ac:=E.all
  obtain⟨v,ad,bc⟩:=ac.load1 (i:=(k:Int)) dm rfl rfl (by rw[H];simpa using h)
  have:=Mq bc
  subst this
  have ar:(cN (s.take k)++s.drop k)[(k:Int).toNat]'(by rw[H];simpa using h)=s[k]:=by
   simp only[Int.toNat_natCast]
   rw[List.getElem_append_right (by rw[G];exact Nat.le_refl _)]
   simp[G]
  rw[ar]at ad
  have U:(0 <=(k:Int)/\(k:Int)<((s.length:Nat):Int))/\Option.isSome a=true:=⟨⟨by omega,by omega⟩,ac.isSome (i:=k) (by rw[H];exact h)⟩
  have bz:=qi s[k]
  have I:=Qv s[k]
  have al:i64.wrap ((k:Int)+1)=((k+1:Nat):Int):=by rw[wrap_i64 (by omega) (by omega)];omega
  try dsimp only
  rw[al]
  have bk:∀x,(cN (s.take k)++s.drop k).set k x=cN (s.take k)++x::s.drop (k+1):=λx=>by
   rw[List.set_append_right _ _ (by rw[G];exact Nat.le_refl _),G,Nat.sub_self,List.drop_eq_getElem_cons h];rfl
  have X:cN (s.take (k+1))++s.drop (k+1)=cN (s.take k)++EE s[k]::s.drop (k+1):=by
   unfold cN;rw[List.take_succ_eq_append_getElem h,List.map_append,List.append_assoc];rfl
  refine⟨U,_,ad,λb bp=>bp=w'/\b=decide (65 <=(s[k].toNat:Int)/\(s[k].toNat:Int) <=90),?_,?_⟩
  ·refine ai.of (λe=>?_) (λe=>?_) <;> simp only[ge_iff_le,dTx,dFx]at e
   ·exact⟨rfl,by simp[e]⟩
   ·exact⟨rfl,by simp[e]⟩
  ·intro b
   refine aP.of ?_ _
   rintro w' ⟨rfl,rfl⟩
   refine ai.of (λe=>?_) (λe=>?_) <;> simp only[dTx,dFx]at e
   ·rw[if_pos e]at I
    rw[wrap_u8 (n:=(s[k].toNat:Int)-65) (by omega) (by omega),wrap_u8 (by omega) (by omega)]
    obtain⟨bq,bj,M,D⟩:=E.store (P:=prog) (bytes:=1) (z:=.int .u8 0) zX (λ_ _ h=>h) (i:=(k:Int)) (by rw[H];simpa using h) (k:=1) rfl (v:=.int .u8 ((s[k].toNat:Int)-65+97)) (x:=EE s[k]) (uA (by rw[I];omega))
    simp only[Int.toNat_natCast]at M
    rw[bk,<- X]at M
    exact⟨U,bq,bj,s.length-(k+1),by omega,k+1,by omega,rfl,rfl,M,⟨D.os.trans q.os,D.tape.trans q.tape,D.output.trans q.output,Nat.le_trans q.size D.size,λag Z V=>(D.block ag (Nat.lt_of_lt_of_le Z q.size) V).trans (q.block ag Z V)⟩⟩
   ·rw[if_neg e]at I
    have a0:EE s[k]=s[k]:=AR I
    refine⟨s.length-(k+1),by omega,k+1,by omega,rfl,rfl,?_,q⟩
    rw[X,a0,<- List.drop_eq_getElem_cons h];exact E
 ·have:k=s.length:=by omega
  subst this
  have an:cN (s.take s.length)++s.drop s.length=cN s:=by simp
  rw[an]at E
  exact⟨_,uX fF ax dm E.all,rfl,O.grown q O.size a8⟩
theorem Gn (s t:List UInt8)(D:s.length <=9223372036854775800)(E:t.length <=9223372036854775800)(w:World):Cf zO #[vS s,vS t] w (Ret λv w'=>v=.bool (cN s==cN t)/\bW w w'):=by
 apply LI
 refine az (pQ s D w) ?_
 rintro _ G ⟨rfl,e⟩
 refine⟨_,rfl,?_⟩
 refine az (pQ t E G) ?_
 rintro _ H ⟨rfl,q⟩
 exact⟨_,rfl,rfl,ah e q e.size⟩
end Go.Pk
