/- What the laws lean on: V1, Env, DateP, DateA, DateB, DateC, DateQ, DateD, OctA; what is used. Its conditions: none. -/
import Derived.Test.YtikdahhdhchlfaaGreatDoorKB
import Derived.Lib.ItoaMem
import Init
set_option linter.unusedVariables false
set_option linter.unusedSimpArgs false
set_option linter.unusedSectionVars false
set_option maxRecDepth 100000
open Go.IntKind (i64)
open Go.Proofs.Tryz
open List (length)
open Option (isSome)
namespace Go.Pk
open Go.RowKit (Below)
open Go.Proofs
theorem Bv (a:lU)(b:Int){w K}(h:nA w (.cells #[.int .u8 b] aQ) λc d=>∃e,(convert aG ah (.slice (vA c 0) 1 1)).run prog d=.ok (vS e) d/\uL AD #[vS a,vS e] d λf g i j=>K (.slice f g i) j):Cf dA #[vS a,.int .u8 b] w (Ret K):=ru func44 [] h
theorem ze (a:lU){w K}(h:nA w (.cells #[vS [],vS [],vS [],vS [],.bool false,vI 0,.bool false,vI 0,.bool false,.bool false,vI 0] ax) λb c=>uB j3 #[vS a] c λd e=>ab d (∃f,Sv ax (vA b 0) (hV [] [] [] [] false (0:Int) false (0:Int) false false (0:Int)) e f/\∃g i j k l m n o p q r,Rv ax (vA b 0) f (hV g i j k l m n o p q r)/\K (.tuple #[(hV g i j k l m n o p q r),vI 81]) f) (uL dA #[vS a,.int .u8 59] e λf g i j=>nA j (.cells #[vS [],vS [],vS [],vS [],.bool false,vI 0,.bool false,vI 0,.bool false,.bool false,vI 0] ax) λk l=>(bx (0:Int) ((g:Nat):Int)/\Option.isSome f=true)/\∃m,Ld ah (aq f (0:Int) 1) l (vS m)/\Cf kC #[vS m] l λn o=>∃p q r,n=rT #[vS p,vS q,.bool r]/\∃s:FP [.one .str,.one .str],(ab (!r) (s [] p o) (s p q o))/\∀t u,aJ 3 (∀v,s t u v->(((List.length t+List.length u:Nat):Int) <=i64.max)/\∀x,x=(t++u)->ab (x==[]) (∃y,Sv ax (vA b 0) (hV [] [] [] [] false (0:Int) false (0:Int) false false (0:Int)) v y/\∃z A B C D E F G H I J,Rv ax (vA b 0) y (hV z A B C D E F G H I J)/\K (.tuple #[(hV z A B C D E F G H I J),vI 82]) y) (ab (decide ((i64.wrap (((List.length t:Nat):Int)+((List.length u:Nat):Int)))>(4096:Int))) (∃y,Sv ax (vA b 0) (hV [] [] [] [] false (0:Int) false (0:Int) false false (0:Int)) v y/\∃z A B C D E F G H I J,Rv ax (vA b 0) y (hV z A B C D E F G H I J)/\K (.tuple #[(hV z A B C D E F G H I J),vI 83]) y) (true/\∃y,Sv ah (vA k 0) (vS t) v y/\true/\∃z,Sv ah (vA k 1) (vS u) y z/\bd (1:Int) ((g:Nat):Int)/\∃A:Nat->FP [.one (.int .i64)],(∃B,A B (0:Int) z)/\∀B C,aJ 21 (∀D,A B C D->ab (decide (C<(((g-(Int.toNat 1)):Nat):Int))) ((bx C (((g-(Int.toNat 1)):Nat):Int)/\isSome (iG f i (Int.toNat 1) 1))/\∃E,Ld ah (aq (iG f i (Int.toNat 1) 1) C 1) D (vS E)/\Cf kC #[vS E] D λF G=>∃H I J,F=rT #[vS H,vS I,.bool J]/\ab (decide (((List.length I:Nat):Int) <=(1024:Int))) (uS dQ #[vS H] G λL M=>uU iY #[.pointer (vA k 0),vS L,vS I] M λN=>∃O:Nat,O<B/\A O (i64.wrap (C+(1:Int))) N) (∃L:Nat,L<B/\A L (i64.wrap (C+(1:Int))) G)) (∃E F G H I J L M N O P,Ld ax (vA k 0) D (hV E F G H I J L M N O P)/\∃Q,Sv ax (vA b 0) (hV E F G H I J L M N O P) D Q/\∃R S T U V X Y Z ac ad ag,Rv ax (vA b 0) Q (hV R S T U V X Y Z ac ad ag)/\K (.tuple #[(hV R S T U V X Y Z ac ad ag),vI 0]) Q))))))):Cf jF #[vS a] w (Ret K):=ru func60 [(16,[(6,.one .str),(7,.one .str)]),(43,[(51,.one (.int .i64))])] h
theorem Du (a:lU){w K}(h:uS nh #[vS a,vS [32,9]] w λb c=>K (vS b) c):Cf iK #[vS a] w (Ret K):=ru func76 [] h
theorem vP (a:lU){w K}(h:∃b c d e,(convert ah aG (vS a)).run prog w=.ok (.slice c d e) b/\∃f:Nat->FP [.one (.int .i64)],(∃g,f g (0:Int) b)/\∀g i,aJ 16 (∀j,f g i j->ab (decide (i<((d:Nat):Int))) ((bx i ((d:Nat):Int)/\Option.isSome c=true)/\∃k,Ld aQ (aq c i 1) j (.int .u8 k)/\ab (decide (k<(32:Int))) (ab (k !=(9:Int)) (K (.bool true) j) (ab (k==(127:Int)) (K (.bool true) j) (∃l:Nat,l<g/\f l (i64.wrap (i+(1:Int))) j))) (ab (k==(127:Int)) (K (.bool true) j) (∃l:Nat,l<g/\f l (i64.wrap (i+(1:Int))) j))) (K (.bool false) j))):Cf j3 #[vS a] w (Ret K):=ru func114 [(6,[(8,.one (.int .i64))])] h
theorem Bf (a:lU){w K}(h:Cf vj #[vS a,vS [61]] w λb c=>∃d e f,b=rT #[vS d,vS e,.bool f]/\uS iK #[vS d] c λg i=>uS iK #[vS e] i λj k=>K (.tuple #[vS g,vS j,.bool f]) k):Cf kC #[vS a] w (Ret K):=ru func115 [] h
theorem so (a:Option Addr)(b c:lU){w K}(h:ab (b==[101,120,112,105,114,101,115]) (Cf oC #[vS c] w λd e=>∃f g,d=rT #[vI f,.bool g]/\ab g ((Option.isSome a=true)/\(Option.isSome a=true)/\∃i,Sv bV (Option.map (λj=>j.add 4) a) (.bool true) e i/\(Option.isSome a=true)/\(Option.isSome a=true)/\∃j,Sv bu (Option.map (λk=>k.add 5) a) (vI f) i j/\K (.tuple #[]) j) (K (.tuple #[]) e)) (ab (b==[109,97,120,45,97,103,101]) (Cf qy #[vS c] w λd e=>∃f g,d=rT #[vI f,.bool g]/\ab g ((Option.isSome a=true)/\(Option.isSome a=true)/\∃i,Sv bV (Option.map (λj=>j.add 6) a) (.bool true) e i/\(Option.isSome a=true)/\(Option.isSome a=true)/\∃j,Sv bu (Option.map (λk=>k.add 7) a) (vI f) i j/\K (.tuple #[]) j) (K (.tuple #[]) e)) (ab (b==[100,111,109,97,105,110]) (uS sg #[vS c,vS [46]] w λd e=>uS dQ #[vS d] e λf g=>(Option.isSome a=true)/\(Option.isSome a=true)/\∃i,Sv ah (Option.map (λj=>j.add 2) a) (vS f) g i/\K (.tuple #[]) i) (ab (b==[112,97,116,104]) ((Option.isSome a=true)/\(Option.isSome a=true)/\∃d,Sv ah (Option.map (λe=>e.add 3) a) (vS []) w d/\uB ej #[vS c,vS [47]] d λe f=>ab e ((Option.isSome a=true)/\(Option.isSome a=true)/\∃g,Sv ah (Option.map (λi=>i.add 3) a) (vS c) f g/\K (.tuple #[]) g) (K (.tuple #[]) f)) (ab (b==[115,101,99,117,114,101]) ((Option.isSome a=true)/\(Option.isSome a=true)/\∃d,Sv bV (Option.map (λe=>e.add 8) a) (.bool true) w d/\K (.tuple #[]) d) (ab (b==[104,116,116,112,111,110,108,121]) ((Option.isSome a=true)/\(Option.isSome a=true)/\∃d,Sv bV (Option.map (λe=>e.add 9) a) (.bool true) w d/\K (.tuple #[]) d) (ab (b==[115,97,109,101,115,105,116,101]) ((Option.isSome a=true)/\(Option.isSome a=true)/\∃d,Sv bh (Option.map (λe=>e.add 10) a) (vI 0) w d/\Cf hU #[] d λe f=>∃g i j k,e=.returned (.agg #[vS g,vS i,vS j,vS k])/\∃l:Nat->FP [.one (.int .i64)],(∃m,l m (0:Int) f)/\∀m n,aJ 13 (∀o,l m n o->ab (decide (n<(4:Int))) (∃p,(Instr.index cO (.agg #[vS g,vS i,vS j,vS k]) (vI n)).run prog o=.ok (vS p) o/\uB jP #[vS p,vS c] o λq r=>ab q ((Option.isSome a=true)/\(Option.isSome a=true)/\∃s,Sv bh (Option.map (λt=>t.add 10) a) (vI n) r s/\∃t:Nat,t<m/\l t (i64.wrap (n+(1:Int))) s) (∃s:Nat,s<m/\l s (i64.wrap (n+(1:Int))) r)) (K (.tuple #[]) o))) (K (.tuple #[]) w)))))))):Cf iY #[.pointer a,vS b,vS c] w (Ret K):=ru func116 [(53,[(78,.one (.int .i64))])] h
theorem Bu (a:lU){w K}(h:∃b c d e,(convert ah aG (vS a)).run prog w=.ok (.slice c d e) b/\∃f:Nat->FP [.one (.int .i64)],(∃g,f g (0:Int) b)/\∀g i,aJ 19 (∀j,f g i j->ab (decide (i<((d:Nat):Int))) ((bx i ((d:Nat):Int)/\Option.isSome c=true)/\∃k,Ld aQ (aq c i 1) j (.int .u8 k)/\∃l:FP [.one .bool],(ab (decide (k >=(65:Int))) (l (decide (k <=(90:Int))) j) (l false j))/\∀m,aJ 5 (∀n,l m n->ab m ((bx i ((d:Nat):Int)/\Option.isSome c=true)/\∃o,Sv aQ (aq c i 1) (.int .u8 (IntKind.u8.wrap ((IntKind.u8.wrap (k-(65:Int)))+(97:Int)))) n o/\∃p:Nat,p<g/\f p (i64.wrap (i+(1:Int))) o) (∃o:Nat,o<g/\f o (i64.wrap (i+(1:Int))) n))) (∃k,(convert aG ah (.slice c d e)).run prog j=.ok (vS k) j/\K (vS k) j))):Cf dQ #[vS a] w (Ret K):=ru func117 [(8,[(10,.one (.int .i64))]),(19,[(20,.one .bool)])] h
theorem zl (a:lU){w K}(h:ab (!(a==[])) (bd (10:Int) (((List.length [48,49,50,51,52,53,54,55,56,57,65,66,67,68,69,70]):Nat):Int)/\∀b,b=(List.take (Int.toNat 10) [48,49,50,51,52,53,54,55,56,57,65,66,67,68,69,70])->uS nh #[vS a,vS b] w λc d=>K (.bool (c==[])) d) (K (.bool false) w)):Cf hZ #[vS a] w (Ret K):=ru func151 [] h
theorem zm (a:lU){w K}(h:∃b:FP [],(uB hZ #[vS a] w λc d=>ab (!c) (K (.tuple #[vI 0,.bool false]) d) (ab (decide (((List.length a:Nat):Int)>(18:Int))) (K (.tuple #[vI 0,.bool false]) d) (bx (0:Int) ((List.length a:Nat):Int)/\ab ((bf a (0:Int))==(48:Int)) (ab (decide (((List.length a:Nat):Int)>(1:Int))) (K (.tuple #[vI 0,.bool false]) d) (b d)) (b d))))/\aJ 20 (∀c,b c->∃d e f g,(convert ah aG (vS a)).run prog c=.ok (.slice e f g) d/\∃i:Nat->FP [.one (.int .i64),.one (.int .i64)],(∃j,i j (0:Int) (0:Int) d)/\∀j k l,aJ 11 (∀m,i j k l m->ab (decide (l<((f:Nat):Int))) ((bx l ((f:Nat):Int)/\Option.isSome e=true)/\∃n,Ld aQ (aq e l 1) m (.int .u8 n)/\∃o:Nat,o<j/\i o (i64.wrap ((i64.wrap ((10:Int)*k))+(i64.wrap (IntKind.u8.wrap (n-(48:Int)))))) (i64.wrap (l+(1:Int))) m) (K (.tuple #[vI k,.bool true]) m)))):Cf fV #[vS a] w (Ret K):=ru func180 [(2,[]),(16,[(4,.one (.int .i64)),(28,.one (.int .i64))])] h
theorem Bc (a:lU){w K}(h:nA w (.cells #[.bool false,.bool false,.bool false,.bool false,vI 0,vI 0,vI 0,vI 0,vI 0,vI 0] dq) λb c=>∃d:Nat->FP [.one (.int .i64),.one (.int .i64)],(∃e,d e (0:Int) (0:Int) c)/\∀e f g,aJ 26 (∀i,d e f g i->ab (decide (g <=((List.length a:Nat):Int))) (∃j:FP [.one .bool],(ab (g==((List.length a:Nat):Int)) (j true i) (bx g ((List.length a:Nat):Int)/\uB qx #[.int .u8 (bf a g)] i λk l=>j k l))/\∀k,aJ 9 (∀l,j k l->ab k (ab (decide (g>f)) ((bd g (((List.length a):Nat):Int)/\0 <=f/\f <=((Int.toNat g:Nat):Int))/\∀m,m=(List.drop (Int.toNat f) (List.take (Int.toNat g) a))->uU iW #[.pointer (vA b 0),vS m] l λn=>∃o:Nat,o<e/\d o (i64.wrap (g+(1:Int))) (i64.wrap (g+(1:Int))) n) (∃m:Nat,m<e/\d m (i64.wrap (g+(1:Int))) (i64.wrap (g+(1:Int))) l)) (∃m:Nat,m<e/\d m f (i64.wrap (g+(1:Int))) l))) (∃j:FP [],(∃k:FP [.one .bool],(true/\∃l,Ld bh (vA b 7) i (vI l)/\ab (decide (l >=(70:Int))) (true/\∃m,Ld bh (vA b 7) i (vI m)/\k (decide (m <=(99:Int))) i) (k false i))/\∀l,aJ 8 (∀m,k l m->ab l (true/\∃n,Ld bh (vA b 7) m (vI n)/\true/\∃o,Sv bh (vA b 7) (vI (i64.wrap (n+(1900:Int)))) m o/\j o) (true/\∃n,Ld bh (vA b 7) m (vI n)/\ab (decide (n<(70:Int))) (true/\∃o,Ld bh (vA b 7) m (vI o)/\true/\∃p,Sv bh (vA b 7) (vI (i64.wrap (o+(2000:Int)))) m p/\j p) (j m))))/\aJ 21 (∀k,j k->true/\∃l,Ld bh (vA b 7) k (vI l)/\true/\∃m,Ld bh (vA b 8) k (vI m)/\true/\∃n,Ld bh (vA b 9) k (vI n)/\Cf ly #[vI l,vI m,vI n] k λo p=>∃q r,o=rT #[vI q,.bool r]/\∃s:FP [],(ab (!r) (K (.tuple #[vI 0,.bool false]) p) (true/\∃t,Ld bV (vA b 0) p (.bool t)/\ab (!t) (K (.tuple #[vI 0,.bool false]) p) (true/\∃u,Ld bV (vA b 3) p (.bool u)/\ab (!u) (K (.tuple #[vI 0,.bool false]) p) (true/\(bx (0:Int) ((3:Nat):Int)/\true)/\∃v,Ld bh (aq (vA b 4) (0:Int) 1) p (vI v)/\ab (decide (v>(23:Int))) (K (.tuple #[vI 0,.bool false]) p) (true/\(bx (1:Int) ((3:Nat):Int)/\true)/\∃x,Ld bh (aq (vA b 4) (1:Int) 1) p (vI x)/\ab (decide (x>(59:Int))) (K (.tuple #[vI 0,.bool false]) p) (true/\(bx (2:Int) ((3:Nat):Int)/\true)/\∃y,Ld bh (aq (vA b 4) (2:Int) 1) p (vI y)/\ab (decide (y>(59:Int))) (K (.tuple #[vI 0,.bool false]) p) (s p)))))))/\aJ 32 (∀t,s t->true/\(bx (0:Int) ((3:Nat):Int)/\true)/\∃u,Ld bh (aq (vA b 4) (0:Int) 1) t (vI u)/\true/\(bx (1:Int) ((3:Nat):Int)/\true)/\∃v,Ld bh (aq (vA b 4) (1:Int) 1) t (vI v)/\true/\(bx (2:Int) ((3:Nat):Int)/\true)/\∃x,Ld bh (aq (vA b 4) (2:Int) 1) t (vI x)/\K (.tuple #[vI (i64.wrap ((i64.wrap ((i64.wrap ((i64.wrap (q*(86400:Int)))+(i64.wrap (u*(3600:Int)))))+(i64.wrap (v*(60:Int)))))+x)),.bool true]) t))))):Cf oC #[vS a] w (Ret K):=ru func186 [(10,[(5,.one (.int .i64)),(6,.one (.int .i64))]),(19,[(24,.one .bool)]),(31,[]),(33,[(35,.one .bool)]),(44,[])] h
theorem Dn (a:lU){w K}(h:Cf cv #[vS a,vS [45]] w λb c=>∃d e,b=rT #[vS d,.bool e]/\uB hZ #[vS d] c λf g=>ab (!f) (K (.tuple #[vI 0,.bool false]) g) (ab e (K (.tuple #[vI 0,.bool true]) g) (uS mI #[vS d,vS [48]] g λi j=>Cf fV #[vS i] j λk l=>∃m n,k=rT #[vI m,.bool n]/\ab (!n) (uS nh #[vS d,vS [48]] l λo p=>ab (!(o==[])) (K (.tuple #[vI 34560000,.bool true]) p) (ab (decide (m>(34560000:Int))) (K (.tuple #[vI 34560000,.bool true]) p) (K (.tuple #[vI m,.bool true]) p))) (ab (decide (m>(34560000:Int))) (K (.tuple #[vI 34560000,.bool true]) l) (K (.tuple #[vI m,.bool true]) l))))):Cf qy #[vS a] w (Ret K):=ru func187 [] h
theorem zg {w K}(h:nA w (.cells #[vS [],vS [],vS [],vS []] cO) λa b=>∃c,Sv cO (vA a 0) (.agg #[vS [],vS [78,111,110,101],vS [76,97,120],vS [83,116,114,105,99,116]]) b c/\∃d e f g,Rv cO (vA a 0) c (.agg #[vS d,vS e,vS f,vS g])/\K (.agg #[vS d,vS e,vS f,vS g]) c):Cf hU #[] w (Ret K):=ru func189 [] h
theorem Dt (a b:lU){w K}(h:uS dQ #[vS a] w λc d=>uS dQ #[vS b] d λe f=>K (.bool (c==e)) f):Cf jP #[vS a,vS b] w (Ret K):=ru func190 [] h
theorem zf (a b c d:lU)(e:Bool)(f:Int)(g:Bool)(i:Int)(j k:Bool)(l:Int){w K}(h:nA w (.cells #[vS a,vS b,vS c,vS d,.bool e,vI f,.bool g,vI i,.bool j,.bool k,vI l] ax) λm n=>∃o p q r s t u v x y z,Ld ax (vA m 0) n (hV o p q r s t u v x y z)/\uS j4 #[(hV o p q r s t u v x y z)] n λA B=>Cf jF #[vS A] B λC D=>∃E F G H I J L M N O P Q,C=rT #[(hV E F G H I J L M N O P),vI Q]/\nA D (.cells #[vS [],vS [],vS [],vS [],.bool false,vI 0,.bool false,vI 0,.bool false,.bool false,vI 0] ax) λR S=>∃T,Sv ax (vA R 0) (hV E F G H I J L M N O P) S T/\ab (Q==(0:Int)) (∃U V X Y Z ac ad ag aj al an,Ld ax (vA R 0) T (hV U V X Y Z ac ad ag aj al an)/\∃bb bc bd bk bo bp bq br bs bx ca,Ld ax (vA m 0) T (hV bb bc bd bk bo bp bq br bs bx ca)/\∃cb,(do eqGuard .eql ax (.tmp 14) (.tmp 15) (hV U V X Y Z ac ad ag aj al an) (hV bb bc bd bk bo bp bq br bs bx ca);binOp .eql ax (hV U V X Y Z ac ad ag aj al an) (hV bb bc bd bk bo bp bq br bs bx ca):Sem Value).run prog T=.ok (.bool cb) T/\K (.bool cb) T) (K (.bool false) T)):Cf mY #[.agg #[vS a,vS b,vS c,vS d,.bool e,vI f,.bool g,vI i,.bool j,.bool k,vI l]] w (Ret K):=ru func191 [] h
theorem Dm (a:Int){w K}(h:ab (a==(9:Int)) (K (.bool true) w) (ab (decide (a >=(32:Int))) (ab (decide (a <=(47:Int))) (K (.bool true) w) (ab (decide (a >=(59:Int))) (ab (decide (a <=(64:Int))) (K (.bool true) w) (ab (decide (a >=(91:Int))) (ab (decide (a <=(96:Int))) (K (.bool true) w) (ab (decide (a >=(123:Int))) (K (.bool (decide (a <=(126:Int)))) w) (K (.bool false) w))) (ab (decide (a >=(123:Int))) (K (.bool (decide (a <=(126:Int)))) w) (K (.bool false) w)))) (ab (decide (a >=(91:Int))) (ab (decide (a <=(96:Int))) (K (.bool true) w) (ab (decide (a >=(123:Int))) (K (.bool (decide (a <=(126:Int)))) w) (K (.bool false) w))) (ab (decide (a >=(123:Int))) (K (.bool (decide (a <=(126:Int)))) w) (K (.bool false) w))))) (ab (decide (a >=(59:Int))) (ab (decide (a <=(64:Int))) (K (.bool true) w) (ab (decide (a >=(91:Int))) (ab (decide (a <=(96:Int))) (K (.bool true) w) (ab (decide (a >=(123:Int))) (K (.bool (decide (a <=(126:Int)))) w) (K (.bool false) w))) (ab (decide (a >=(123:Int))) (K (.bool (decide (a <=(126:Int)))) w) (K (.bool false) w)))) (ab (decide (a >=(91:Int))) (ab (decide (a <=(96:Int))) (K (.bool true) w) (ab (decide (a >=(123:Int))) (K (.bool (decide (a <=(126:Int)))) w) (K (.bool false) w))) (ab (decide (a >=(123:Int))) (K (.bool (decide (a <=(126:Int)))) w) (K (.bool false) w)))))):Cf qx #[.int .u8 a] w (Ret K):=ru func264 [] h
theorem sn (a:Option Addr)(b:lU){w K}(h:∃c:FP [],(Cf qv #[vS b] w λd e=>∃f g i j,d=rT #[.agg #[vI f,vI g,vI i],.bool j]/\nA e (.cells #[vI 0,vI 0,vI 0] bl) λk l=>∃m,Sv bl (vA k 0) (.agg #[vI f,vI g,vI i]) l m/\∃n:FP [.one .bool],(ab j ((Option.isSome a=true)/\(Option.isSome a=true)/\∃o,Ld bV (Option.map (λp=>p.add 0) a) m (.bool o)/\n (!o) m) (n false m))/\∀o,aJ 7 (∀p,n o p->ab o (∃q r s,Ld bl (vA k 0) p (.agg #[vI q,vI r,vI s])/\(Option.isSome a=true)/\(Option.isSome a=true)/\∃t,Sv bl (Option.map (λu=>u.add 4) a) (.agg #[vI q,vI r,vI s]) p t/\(Option.isSome a=true)/\(Option.isSome a=true)/\∃u,Sv bV (Option.map (λv=>v.add 0) a) (.bool true) t u/\K (.tuple #[]) u) (c p)))/\aJ 22 (∀d,c d->∃e:FP [],(Cf iX #[vS b,vI 1,vI 2] d λf g=>∃i j k,f=rT #[vI i,vS j,.bool k]/\∃l:FP [.one .bool],(ab k ((Option.isSome a=true)/\(Option.isSome a=true)/\∃m,Ld bV (Option.map (λn=>n.add 1) a) g (.bool m)/\l (!m) g) (l false g))/\∀m,aJ 7 (∀n,l m n->ab m ((Option.isSome a=true)/\(Option.isSome a=true)/\∃o,Sv bh (Option.map (λp=>p.add 9) a) (vI i) n o/\(Option.isSome a=true)/\(Option.isSome a=true)/\∃p,Sv bV (Option.map (λq=>q.add 1) a) (.bool true) o p/\K (.tuple #[]) p) (e n)))/\aJ 24 (∀f,e f->∃g:FP [],(uI qw #[vS b] f λi j=>∃k:FP [.one .bool],(ab (decide (i>(0:Int))) ((Option.isSome a=true)/\(Option.isSome a=true)/\∃l,Ld bV (Option.map (λm=>m.add 2) a) j (.bool l)/\k (!l) j) (k false j))/\∀l,aJ 8 (∀m,k l m->ab l ((Option.isSome a=true)/\(Option.isSome a=true)/\∃n,Sv bh (Option.map (λo=>o.add 8) a) (vI i) m n/\(Option.isSome a=true)/\(Option.isSome a=true)/\∃o,Sv bV (Option.map (λp=>p.add 2) a) (.bool true) n o/\K (.tuple #[]) o) (g m)))/\aJ 19 (∀i,g i->Cf iX #[vS b,vI 2,vI 4] i λj k=>∃l m n,j=rT #[vI l,vS m,.bool n]/\∃o:FP [.one .bool],(ab n ((Option.isSome a=true)/\(Option.isSome a=true)/\∃p,Ld bV (Option.map (λq=>q.add 3) a) k (.bool p)/\o (!p) k) (o false k))/\∀p,aJ 7 (∀q,o p q->ab p ((Option.isSome a=true)/\(Option.isSome a=true)/\∃r,Sv bh (Option.map (λs=>s.add 7) a) (vI l) q r/\(Option.isSome a=true)/\(Option.isSome a=true)/\∃s,Sv bV (Option.map (λt=>t.add 3) a) (.bool true) r s/\K (.tuple #[]) s) (K (.tuple #[]) q)))))):Cf iW #[.pointer a,vS b] w (Ret K):=ru func265 [(0,[]),(3,[(25,.one .bool)]),(10,[]),(13,[(46,.one .bool)]),(20,[]),(23,[(64,.one .bool)]),(32,[(85,.one .bool)])] h
theorem F6 (a b c:Int){w K}(h:∃d:FP [],(ab (decide (a<(1601:Int))) (K (.tuple #[vI 0,.bool false]) w) (ab (decide (a>(9999:Int))) (K (.tuple #[vI 0,.bool false]) w) (ab (decide (b<(1:Int))) (K (.tuple #[vI 0,.bool false]) w) (ab (decide (b>(12:Int))) (K (.tuple #[vI 0,.bool false]) w) (ab (decide (c<(1:Int))) (K (.tuple #[vI 0,.bool false]) w) (uI oD #[vI a,vI b] w λe f=>ab (decide (c>e)) (K (.tuple #[vI 0,.bool false]) f) (d f)))))))/\aJ 27 (∀e,d e->∃f:FP [.one (.int .i64),.one (.int .i64)],(ab (decide ((i64.wrap (b-(3:Int)))<(0:Int))) (f (i64.wrap (a-(1:Int))) (i64.wrap ((i64.wrap (b-(3:Int)))+(12:Int))) e) (f a (i64.wrap (b-(3:Int))) e))/\∀g i,aJ 6 (∀j,f g i j->((400:Int)≠0)/\∀k,k=(Int.tmod g (400:Int))->((400:Int)≠0)/\∀l,l=(i64.wrap (Int.tdiv g (400:Int)))->((4:Int)≠0)/\∀m,m=(i64.wrap (Int.tdiv k (4:Int)))->((100:Int)≠0)/\∀n,n=(i64.wrap (Int.tdiv k (100:Int)))->((5:Int)≠0)/\∀o,o=(i64.wrap (Int.tdiv (i64.wrap ((i64.wrap ((153:Int)*i))+(2:Int))) (5:Int)))->K (.tuple #[vI (i64.wrap ((i64.wrap ((i64.wrap ((i64.wrap ((i64.wrap ((i64.wrap ((i64.wrap ((i64.wrap (l*(146097:Int)))+(i64.wrap (k*(365:Int)))))+m))-n))+o))+c))-(1:Int)))-(719468:Int))),.bool true]) j))):Cf ly #[vI a,vI b,vI c] w (Ret K):=ru func266 [(2,[]),(12,[(8,.one (.int .i64)),(9,.one (.int .i64))])] h
theorem vQ (a b c d:lU)(e:Bool)(f:Int)(g:Bool)(i:Int)(j k:Bool)(l:Int){w K}(h:nA w (.cells #[vS a,vS b,vS c,vS d,.bool e,vI f,.bool g,vI i,.bool j,.bool k,vI l] ax) λm n=>true/\∃o,Ld ah (vA m 0) n (vS o)/\(((List.length o+List.length [61]:Nat):Int) <=i64.max)/\∀p,p=(o++[61])->true/\∃q,Ld ah (vA m 1) n (vS q)/\(((List.length p+List.length q:Nat):Int) <=i64.max)/\∀r,r=(p++q)->nA n (.cells #[vS r] ah) λs t=>nA t (.cells #[.slice none 0 0] aH) λu v=>∃x,Sv aH (vA u 0) (.slice (vA s 0) 1 1) v x/\∃y:FP [],(true/\true/\(∃z,Ld bV (vA m 4) (World.drew x) (.bool z)/\∃A,Ld bu (vA m 5) (World.drew x) (vI A)/\uS lz #[vI A] (World.drew x) λB C=>(((List.length [69,120,112,105,114,101,115,61]+List.length B:Nat):Int) <=i64.max)/\∀D,D=([69,120,112,105,114,101,115,61]++B)->uU aX #[.bool z,vS D,.pointer (vA u 0)] C λE=>y E)/\∃z,Ld bu (vA m 5) (World.drew x) (vI z)/\(∃A,Ld bV (vA m 4) (World.drew x) (.bool A)/\uS lz #[vI z] (World.drew x) λB C=>(((List.length [69,120,112,105,114,101,115,61]+List.length B:Nat):Int) <=i64.max)/\∀D,D=([69,120,112,105,114,101,115,61]++B)->uU aX #[.bool A,vS D,.pointer (vA u 0)] C λE=>y E)/\uS lz #[vI z] (World.drew x) λA B=>(((List.length [69,120,112,105,114,101,115,61]+List.length A:Nat):Int) <=i64.max)/\∀C,C=([69,120,112,105,114,101,115,61]++A)->∃D,Ld bV (vA m 4) B (.bool D)/\uU aX #[.bool D,vS C,.pointer (vA u 0)] B λE=>y E)/\aJ 8 (∀z,y z->∃A:FP [],(true/\true/\(∃B,Ld bV (vA m 6) (World.drew z) (.bool B)/\∃C,Ld bu (vA m 7) (World.drew z) (vI C)/\uS dy #[vI C,vI 10] (World.drew z) λD E=>(((List.length [77,97,120,45,65,103,101,61]+List.length D:Nat):Int) <=i64.max)/\∀F,F=([77,97,120,45,65,103,101,61]++D)->uU aX #[.bool B,vS F,.pointer (vA u 0)] E λG=>A G)/\∃B,Ld bu (vA m 7) (World.drew z) (vI B)/\(∃C,Ld bV (vA m 6) (World.drew z) (.bool C)/\uS dy #[vI B,vI 10] (World.drew z) λD E=>(((List.length [77,97,120,45,65,103,101,61]+List.length D:Nat):Int) <=i64.max)/\∀F,F=([77,97,120,45,65,103,101,61]++D)->uU aX #[.bool C,vS F,.pointer (vA u 0)] E λG=>A G)/\uS dy #[vI B,vI 10] (World.drew z) λC D=>(((List.length [77,97,120,45,65,103,101,61]+List.length C:Nat):Int) <=i64.max)/\∀E,E=([77,97,120,45,65,103,101,61]++C)->∃F,Ld bV (vA m 6) D (.bool F)/\uU aX #[.bool F,vS E,.pointer (vA u 0)] D λG=>A G)/\aJ 8 (∀B,A B->∃C:FP [],(true/\true/\(∃D,Ld ah (vA m 2) (World.drew B) (vS D)/\∃E,Ld ah (vA m 2) (World.drew B) (vS E)/\uS gx #[vS E] (World.drew B) λF G=>(((List.length [68,111,109,97,105,110,61]+List.length F:Nat):Int) <=i64.max)/\∀H,H=([68,111,109,97,105,110,61]++F)->uU aX #[.bool (!(D==[])),vS H,.pointer (vA u 0)] G λI=>C I)/\∃D,Ld ah (vA m 2) (World.drew B) (vS D)/\(∃E,Ld ah (vA m 2) (World.drew B) (vS E)/\uS gx #[vS D] (World.drew B) λF G=>(((List.length [68,111,109,97,105,110,61]+List.length F:Nat):Int) <=i64.max)/\∀H,H=([68,111,109,97,105,110,61]++F)->uU aX #[.bool (!(E==[])),vS H,.pointer (vA u 0)] G λI=>C I)/\uS gx #[vS D] (World.drew B) λE F=>(((List.length [68,111,109,97,105,110,61]+List.length E:Nat):Int) <=i64.max)/\∀G,G=([68,111,109,97,105,110,61]++E)->∃H,Ld ah (vA m 2) F (vS H)/\uU aX #[.bool (!(H==[])),vS G,.pointer (vA u 0)] F λI=>C I)/\aJ 9 (∀D,C D->true/\∃E,Ld ah (vA m 3) D (vS E)/\true/\∃F,Ld ah (vA m 3) D (vS F)/\(((List.length [80,97,116,104,61]+List.length F:Nat):Int) <=i64.max)/\∀G,G=([80,97,116,104,61]++F)->uU aX #[.bool (!(E==[])),vS G,.pointer (vA u 0)] D λH=>true/\∃I,Ld bV (vA m 8) H (.bool I)/\uU aX #[.bool I,vS [83,101,99,117,114,101],.pointer (vA u 0)] H λJ=>true/\∃L,Ld bV (vA m 9) J (.bool L)/\uU aX #[.bool L,vS [72,116,116,112,79,110,108,121],.pointer (vA u 0)] J λM=>∃N:FP [.one .bool],(true/\∃O,Ld bh (vA m 10) M (vI O)/\ab (decide (O>(0:Int))) (true/\∃P,Ld bh (vA m 10) M (vI P)/\N (decide (P <=(3:Int))) M) (N false M))/\∀O,aJ 7 (∀P,N O P->ab O (true/\(Cf hU #[] (World.drew P) λQ R=>∃S T U V,Q=.returned (.agg #[vS S,vS T,vS U,vS V])/\∃X,Ld bh (vA m 10) R (vI X)/\∃Y,(Instr.index cO (.agg #[vS S,vS T,vS U,vS V]) (vI X)).run prog R=.ok (vS Y) R/\(((List.length [83,97,109,101,83,105,116,101,61]+List.length Y:Nat):Int) <=i64.max)/\∀Z,Z=([83,97,109,101,83,105,116,101,61]++Y)->uU aX #[.bool true,vS Z,.pointer (vA u 0)] R λac=>∃ad ag aj,Ld aH (vA u 0) ac (.slice ad ag aj)/\uS cJ #[.slice ad ag aj,vS [59,32]] ac λal an=>K (vS al) an)/\∃Q,Ld bh (vA m 10) (World.drew P) (vI Q)/\Cf hU #[] (World.drew P) λR S=>∃T U V X,R=.returned (.agg #[vS T,vS U,vS V,vS X])/\∃Y,(Instr.index cO (.agg #[vS T,vS U,vS V,vS X]) (vI Q)).run prog S=.ok (vS Y) S/\(((List.length [83,97,109,101,83,105,116,101,61]+List.length Y:Nat):Int) <=i64.max)/\∀Z,Z=([83,97,109,101,83,105,116,101,61]++Y)->uU aX #[.bool true,vS Z,.pointer (vA u 0)] S λac=>∃ad ag aj,Ld aH (vA u 0) ac (.slice ad ag aj)/\uS cJ #[.slice ad ag aj,vS [59,32]] ac λal an=>K (vS al) an) (∃Q R S,Ld aH (vA u 0) P (.slice Q R S)/\uS cJ #[.slice Q R S,vS [59,32]] P λT U=>K (vS T) U)))))):Cf j4 #[.agg #[vS a,vS b,vS c,vS d,.bool e,vI f,.bool g,vI i,.bool j,.bool k,vI l]] w (Ret K):=ru func269 [(6,[]),(1000007,[]),(8,[]),(1000009,[]),(10,[]),(1000011,[]),(19,[(61,.one .bool)]),(1000022,[])] h
theorem Dk (a:lU){w K}(h:nA w (.cells #[vI 0,vI 0,vI 0] bl) λb c=>nA c (.cells #[vI 0,vI 0,vI 0] bl) λd e=>∃f:Nat->FP [.one .str,.one (.int .i64)],(∃g,f g a (0:Int) e)/\∀g i j,aJ 32 (∀k,f g i j k->ab (decide (j<(3:Int))) (∃l:FP [.one .str],(ab (decide (j>(0:Int))) (Cf cv #[vS i,vS [58]] k λm n=>∃o p,m=rT #[vS o,.bool p]/\ab (!p) (∃q r s,Ld bl (vA d 0) n (.agg #[vI q,vI r,vI s])/\∃t,Sv bl (vA b 0) (.agg #[vI q,vI r,vI s]) n t/\∃u v x,Rv bl (vA b 0) t (.agg #[vI u,vI v,vI x])/\K (.tuple #[.agg #[vI u,vI v,vI x],.bool false]) t) (l o n)) (l i k))/\∀m,aJ 12 (∀n,l m n->Cf iX #[vS m,vI 1,vI 2] n λo p=>∃q r s,o=rT #[vI q,vS r,.bool s]/\ab (!s) (∃t u v,Ld bl (vA d 0) p (.agg #[vI t,vI u,vI v])/\∃x,Sv bl (vA b 0) (.agg #[vI t,vI u,vI v]) p x/\∃y z A,Rv bl (vA b 0) x (.agg #[vI y,vI z,vI A])/\K (.tuple #[.agg #[vI y,vI z,vI A],.bool false]) x) ((bx j ((3:Nat):Int)/\true)/\∃t,Sv bh (aq (vA d 0) j 1) (vI q) p t/\∃u:Nat,u<g/\f u r (i64.wrap (j+(1:Int))) t))) (∃l m n,Ld bl (vA d 0) k (.agg #[vI l,vI m,vI n])/\∃o,Sv bl (vA b 0) (.agg #[vI l,vI m,vI n]) k o/\∃p q r,Rv bl (vA b 0) o (.agg #[vI p,vI q,vI r])/\K (.tuple #[.agg #[vI p,vI q,vI r],.bool true]) o))):Cf qv #[vS a] w (Ret K):=ru func307 [(8,[(0,.one .str),(10,.one (.int .i64))]),(19,[(0,.one .str)])] h
theorem Be (a:lU)(b c:Int){w K}(h:uS mI #[vS a,vS [48,49,50,51,52,53,54,55,56,57]] w λd e=>∃f:FP [],(ab (decide ((i64.wrap (((List.length a:Nat):Int)-((List.length d:Nat):Int)))<b)) (K (.tuple #[vI 0,vS a,.bool false]) e) (ab (decide ((i64.wrap (((List.length a:Nat):Int)-((List.length d:Nat):Int)))>c)) (K (.tuple #[vI 0,vS a,.bool false]) e) (f e)))/\aJ 12 (∀g,f g->bd (i64.wrap (((List.length a:Nat):Int)-((List.length d:Nat):Int))) (((List.length a):Nat):Int)/\∀i,i=(List.take (Int.toNat (i64.wrap (((List.length a:Nat):Int)-((List.length d:Nat):Int)))) a)->Cf CN #[vS i] g λj k=>∃l m,j=rT #[vI l,m]/\bd (i64.wrap (((List.length a:Nat):Int)-((List.length d:Nat):Int))) (((List.length a):Nat):Int)/\∀n,n=(List.drop (Int.toNat (i64.wrap (((List.length a:Nat):Int)-((List.length d:Nat):Int)))) a)->∀o,bW k o->K (.tuple #[vI l,vS n,.bool true]) o)):Cf iX #[vS a,vI b,vI c] w (Ret K):=ru func308 [(4,[])] h
theorem Dl (a:lU){w K}(h:∃b:Nat->FP [.one (.int .i64)],(∃c,b c (0:Int) w)/\∀c d,aJ 21 (∀e,b c d e->∃f:FP [],(ab (decide (d<(12:Int))) (ab (decide (((List.length a:Nat):Int) >=(3:Int))) (f e) (K (vI 0) e)) (K (vI 0) e))/\aJ 7 (∀g,f g->bd (3:Int) (((List.length a):Nat):Int)/\∀i,i=(List.take (Int.toNat 3) a)->(bd (i64.wrap ((i64.wrap ((3:Int)*d))+(3:Int))) (((List.length [74,97,110,70,101,98,77,97,114,65,112,114,77,97,121,74,117,110,74,117,108,65,117,103,83,101,112,79,99,116,78,111,118,68,101,99]):Nat):Int)/\0 <=(i64.wrap ((3:Int)*d))/\(i64.wrap ((3:Int)*d)) <=((Int.toNat (i64.wrap ((i64.wrap ((3:Int)*d))+(3:Int))):Nat):Int))/\∀j,j=(List.drop (Int.toNat (i64.wrap ((3:Int)*d))) (List.take (Int.toNat (i64.wrap ((i64.wrap ((3:Int)*d))+(3:Int)))) [74,97,110,70,101,98,77,97,114,65,112,114,77,97,121,74,117,110,74,117,108,65,117,103,83,101,112,79,99,116,78,111,118,68,101,99]))->∃k,(∀l,bW g l->Cf jP #[vS i,vS j] l λm n=>m=.returned (.bool k)/\Below g.heap.size l n)/\∀l,bW g l->ab k (K (vI (i64.wrap (d+(1:Int)))) l) (∃m:Nat,m<c/\b m (i64.wrap (d+(1:Int))) l)))):Cf qw #[vS a] w (Ret K):=ru func309 [(6,[(3,.one (.int .i64))]),(7,[])] h
theorem Bd (a b:Int){w K}(h:nA w (.cells IF ot) λc d=>∃e,Sv ot (vA c 0) (.agg #[vI 31,vI 28,vI 31,vI 30,vI 31,vI 30,vI 31,vI 31,vI 30,vI 31,vI 30,vI 31]) d e/\∃f:FP [],(ab (b==(2:Int)) (uB uc #[vI a] e λg i=>ab g (K (vI 29) i) (f i)) (f e))/\aJ 7 (∀g,f g->(bx (i64.wrap (b-(1:Int))) ((12:Nat):Int)/\true)/\∃i,Ld bh (aq (vA c 0) (i64.wrap (b-(1:Int))) 1) g (vI i)/\K (vI i) g)):Cf oD #[vI a,vI b] w (Ret K):=ru func310 [(4,[])] h
theorem qT (a:Bool)(b:lU)(c:Option Addr){w K}(h:ab a (∃d e f,Ld aH c w (.slice d e f)/\nA w (.cells #[vS b] ah) λg i=>∃j k l m,(Builtin.append_ #[aH,aH] aH #[.slice d e f,.slice (vA g 0) 1 1]).run prog i=.ok (.slice k l m) j/\∃n,Sv aH c (.slice k l m) j n/\K (.tuple #[]) n) (K (.tuple #[]) w)):Cf aX #[.bool a,vS b,.pointer c] w (Ret K):=ru func311 [] h
theorem F7 (a:Int){w K}(h:((86400:Int)≠0)/\∀b,b=(i64.wrap (Int.tdiv a (86400:Int)))->((86400:Int)≠0)/\∀c,c=(Int.tmod a (86400:Int))->∃d:FP [.one (.int .i64),.one (.int .i64)],(ab (decide (c<(0:Int))) (d (i64.wrap (b-(1:Int))) (i64.wrap (c+(86400:Int))) w) (d b c w))/\∀e f,aJ 6 (∀g,d e f g->Cf qu #[vI e] g λi j=>∃k l m n,i=rT #[vI k,vI l,vI m,.bool n]/\ab (!n) (K (vS []) j) (((7:Int)≠0)/\∀o,o=(Int.tmod e (7:Int))->((7:Int)≠0)/\∀p,p=(Int.tmod (i64.wrap (o+(7:Int))) (7:Int))->(bd (i64.wrap ((i64.wrap ((3:Int)*p))+(3:Int))) (((List.length [84,104,117,70,114,105,83,97,116,83,117,110,77,111,110,84,117,101,87,101,100]):Nat):Int)/\0 <=(i64.wrap ((3:Int)*p))/\(i64.wrap ((3:Int)*p)) <=((Int.toNat (i64.wrap ((i64.wrap ((3:Int)*p))+(3:Int))):Nat):Int))/\∀q,q=(List.drop (Int.toNat (i64.wrap ((3:Int)*p))) (List.take (Int.toNat (i64.wrap ((i64.wrap ((3:Int)*p))+(3:Int)))) [84,104,117,70,114,105,83,97,116,83,117,110,77,111,110,84,117,101,87,101,100]))->(((List.length q+List.length [44,32]:Nat):Int) <=i64.max)/\∀r,r=(q++[44,32])->∃s,(∀t,bW j t->Cf eE #[vI m,vI 2] t λu v=>u=.returned (vS s)/\Below j.heap.size t v)/\(((List.length r+List.length s:Nat):Int) <=i64.max)/\∀t,t=(r++s)->(((List.length t+List.length [32]:Nat):Int) <=i64.max)/\∀u,u=(t++[32])->(bd (i64.wrap ((3:Int)*l)) (((List.length [74,97,110,70,101,98,77,97,114,65,112,114,77,97,121,74,117,110,74,117,108,65,117,103,83,101,112,79,99,116,78,111,118,68,101,99]):Nat):Int)/\0 <=(i64.wrap ((i64.wrap ((3:Int)*l))-(3:Int)))/\(i64.wrap ((i64.wrap ((3:Int)*l))-(3:Int))) <=((Int.toNat (i64.wrap ((3:Int)*l)):Nat):Int))/\∀v,v=(List.drop (Int.toNat (i64.wrap ((i64.wrap ((3:Int)*l))-(3:Int)))) (List.take (Int.toNat (i64.wrap ((3:Int)*l))) [74,97,110,70,101,98,77,97,114,65,112,114,77,97,121,74,117,110,74,117,108,65,117,103,83,101,112,79,99,116,78,111,118,68,101,99]))->(((List.length u+List.length v:Nat):Int) <=i64.max)/\∀x,x=(u++v)->(((List.length x+List.length [32]:Nat):Int) <=i64.max)/\∀y,y=(x++[32])->∃z,(∀A,bW j A->Cf eE #[vI k,vI 4] A λB C=>B=.returned (vS z)/\Below j.heap.size A C)/\(((List.length y+List.length z:Nat):Int) <=i64.max)/\∀A,A=(y++z)->(((List.length A+List.length [32]:Nat):Int) <=i64.max)/\∀B,B=(A++[32])->((3600:Int)≠0)/\∀C,C=(i64.wrap (Int.tdiv f (3600:Int)))->∃D,(∀E,bW j E->Cf eE #[vI C,vI 2] E λF G=>F=.returned (vS D)/\Below j.heap.size E G)/\(((List.length B+List.length D:Nat):Int) <=i64.max)/\∀E,E=(B++D)->(((List.length E+List.length [58]:Nat):Int) <=i64.max)/\∀F,F=(E++[58])->((60:Int)≠0)/\∀G,G=(i64.wrap (Int.tdiv f (60:Int)))->((60:Int)≠0)/\∀H,H=(Int.tmod G (60:Int))->∃I,(∀J,bW j J->Cf eE #[vI H,vI 2] J λL M=>L=.returned (vS I)/\Below j.heap.size J M)/\(((List.length F+List.length I:Nat):Int) <=i64.max)/\∀J,J=(F++I)->(((List.length J+List.length [58]:Nat):Int) <=i64.max)/\∀L,L=(J++[58])->((60:Int)≠0)/\∀M,M=(Int.tmod f (60:Int))->∃N,(∀O,bW j O->Cf eE #[vI M,vI 2] O λP Q=>P=.returned (vS N)/\Below j.heap.size O Q)/\(((List.length L+List.length N:Nat):Int) <=i64.max)/\∀O,O=(L++N)->(((List.length O+List.length [32,71,77,84]:Nat):Int) <=i64.max)/\∀P,P=(O++[32,71,77,84])->∀Q,bW j Q->K (vS P) Q))):Cf lz #[vI a] w (Ret K):=ru func312 [(6,[(3,.one (.int .i64)),(4,.one (.int .i64))])] h
theorem xG (a:lU){w K}(h:uS iK #[vS a] w λb c=>ab (!(b==a)) ((((List.length [46]+List.length a:Nat):Int) <=i64.max)/\∀d,d=([46]++a)->K (vS d) c) (uB ej #[vS a,vS [46]] c λd e=>ab d ((((List.length [46]+List.length a:Nat):Int) <=i64.max)/\∀f,f=([46]++a)->K (vS f) e) (K (vS a) e))):Cf gx #[vS a] w (Ret K):=ru func313 [] h
def yw (a:Int)(b:World)(c:VP):Prop:=((4:Int)≠0)/\∀d,d=(Int.tmod a (4:Int))->ab (d==(0:Int)) (((100:Int)≠0)/\∀e,e=(Int.tmod a (100:Int))->ab (e !=(0:Int)) (c (.bool true) b) (((400:Int)≠0)/\∀f,f=(Int.tmod a (400:Int))->c (.bool (f==(0:Int))) b)) (((400:Int)≠0)/\∀e,e=(Int.tmod a (400:Int))->c (.bool (e==(0:Int))) b)
theorem F8 (a:Int){w K}(h:yw a w K):Cf uc #[vI a] w (Ret K):=ru func328 [] h
theorem Dj (a:Int){w K}(h:Cf ly #[vI 1601,vI 1,vI 1] w λb c=>∃d e,b=rT #[vI d,.bool e]/\Cf ly #[vI 9999,vI 12,vI 31] c λf g=>∃i j,f=rT #[vI i,.bool j]/\∃k:FP [],(ab (decide (a<d)) (K (.tuple #[vI 0,vI 0,vI 0,.bool false]) g) (ab (decide (a>i)) (K (.tuple #[vI 0,vI 0,vI 0,.bool false]) g) (k g)))/\aJ 12 (∀l,k l->((146097:Int)≠0)/\∀m,m=(Int.tmod (i64.wrap (a+(719468:Int))) (146097:Int))->((1460:Int)≠0)/\∀n,n=(i64.wrap (Int.tdiv m (1460:Int)))->((36524:Int)≠0)/\∀o,o=(i64.wrap (Int.tdiv m (36524:Int)))->((146096:Int)≠0)/\∀p,p=(i64.wrap (Int.tdiv m (146096:Int)))->((365:Int)≠0)/\∀q,q=(i64.wrap (Int.tdiv (i64.wrap ((i64.wrap ((i64.wrap (m-n))+o))-p)) (365:Int)))->((4:Int)≠0)/\∀r,r=(i64.wrap (Int.tdiv q (4:Int)))->((100:Int)≠0)/\∀s,s=(i64.wrap (Int.tdiv q (100:Int)))->((153:Int)≠0)/\∀t,t=(i64.wrap (Int.tdiv (i64.wrap ((i64.wrap ((5:Int)*(i64.wrap (m-(i64.wrap ((i64.wrap ((i64.wrap ((365:Int)*q))+r))-s))))))+(2:Int))) (153:Int)))->((5:Int)≠0)/\∀u,u=(i64.wrap (Int.tdiv (i64.wrap ((i64.wrap ((153:Int)*t))+(2:Int))) (5:Int)))->((146097:Int)≠0)/\∀v,v=(i64.wrap (Int.tdiv (i64.wrap (a+(719468:Int))) (146097:Int)))->ab (decide ((i64.wrap (t+(3:Int)))>(12:Int))) (K (.tuple #[vI (i64.wrap ((i64.wrap (q+(i64.wrap (v*(400:Int)))))+(1:Int))),vI (i64.wrap ((i64.wrap (t+(3:Int)))-(12:Int))),vI (i64.wrap ((i64.wrap ((i64.wrap (m-(i64.wrap ((i64.wrap ((i64.wrap ((365:Int)*q))+r))-s))))-u))+(1:Int))),.bool true]) l) (K (.tuple #[vI (i64.wrap (q+(i64.wrap (v*(400:Int))))),vI (i64.wrap (t+(3:Int))),vI (i64.wrap ((i64.wrap ((i64.wrap (m-(i64.wrap ((i64.wrap ((i64.wrap ((365:Int)*q))+r))-s))))-u))+(1:Int))),.bool true]) l))):Cf qu #[vI a] w (Ret K):=ru func329 [(6,[])] h
theorem qR (a b:Int){w K}(h:uS ic #[vI a] w λc d=>uS yQ #[vS [48],vI (i64.wrap (b-((List.length c:Nat):Int)))] d λe f=>(((List.length e+List.length c:Nat):Int) <=i64.max)/\∀g,g=(e++c)->K (vS g) f):Cf eE #[vI a,vI b] w (Ret K):=ru func330 [] h
theorem O7 {P:Program}{name:String}{k:IntKind}{zs:List Int}{w w':World}(h:Lib.TabIs P w name k zs)(hb:∀b,b<w.heap.size->w'.heap[b]? =w.heap[b]?):Lib.TabIs P w' name k zs:=by
 unfold Lib.TabIs World.var? at h ⊢
 cases hg:P.globalNamed name with
 | none=>rw[hg]at h;cases h
 | some g=>
   rw[hg]at h
   simp only[Option.bind_some]at h ⊢
   have hlt:g<w.heap.size:=by
     cases hh:w.heap[g]? with
     | none=>rw[hh]at h;cases h
     | some o=>exact(Array.getElem?_eq_some_iff.1 hh).1
   rw[hb g hlt];exact h
structure Env (w:World):Prop where
 tab:Lib.TabIs prog w "internal/strconv.uint64pow10" .u64 Lib.pow10Tab
 max:∃m:Int,w.cell? ⟨0,0,none⟩=some (vI m)
 tz:w.cell? ⟨5,15,none⟩=some (.int .u8 4)
theorem MU {w:World}{b o:Nat}{v:Value}(h:w.cell? ⟨b,o,none⟩=some v):b<w.heap.size:=by
 cases hh:w.heap[b]? with
 | none=>simp[World.cell?,hh]at h
 | some x=>exact(Array.getElem?_eq_some_iff.1 hh).1
theorem Env.same {w w':World}(h:Env w)(hb:∀b,b<w.heap.size->w'.heap[b]? =w.heap[b]?):Env w':=by
 obtain⟨m,hm⟩:=h.max
 exact⟨O7 h.tab hb,⟨m,by rw[Aj (hb _ (MU hm))];exact hm⟩,by rw[Aj (hb _ (MU h.tz))];exact h.tz⟩
theorem Env.step {w w':World}(h:Env w)(hb:bW w w'):Env w':=h.same λb hlt=>hb.block b hlt
theorem Env.grown {w0 w w':World}{row:Option Nat}(h0:Env w0)(h:Env w)(hg:w.grownBy w' row)(hr:∀x,row=some x->w0.heap.size <=x)(hb:bW w0 w):Env w':=
 h0.step (hb.grown hg hb.size hr)
def ut (y:Int):Bool:=(decide (Int.tmod y 4=0)&&decide (Int.tmod y 100≠0)) || decide (Int.tmod y 400=0)
def Jt (y m:Int):Int:=if m=2 then(if ut y then 29 else 28)else if m=4\/m=6\/m=9\/m=11 then 30 else 31
def Tn (y:Int):Int:=if ut y then 366 else 365
theorem gp {a b:Int}(h:0 <=a):Int.tmod a b=a%b:=Int.tmod_eq_emod_of_nonneg h
theorem dD {a b:Int}(h:0 <=a):Int.tdiv a b=a/b:=Int.tdiv_eq_ediv_of_nonneg h
theorem Hw {y:Int}(h:0 <=y):ut y=true ↔ (y%4=0/\y%100≠0)\/y%400=0:=by
 unfold ut
 rw[gp h,gp h,gp h]
 simp
theorem KV {y:Int}(h:1 <=y):∃a b c e:Int,y=400*a+100*b+4*c+e+1/\0 <=a/\0 <=b/\b <=3/\0 <=c/\c <=24/\0 <=e/\e <=3:=
 ⟨(y-1)/400,(y-1)%400/100,(y-1)%100/4,(y-1)%4,by omega,by omega,by omega,by omega,by omega,by omega,by omega,by omega⟩
theorem Ek {a b c e:Int}(ha:0 <=a)(hb:0 <=b)(hb2:b <=3)(hc:0 <=c)(hc2:c <=24)(he:0 <=e)(he2:e <=3):ut (400*a+100*b+4*c+e+1)=true ↔ e=3/\(c≠24\/b=3):=by
 rw[Hw (by omega)]
 have h1:(400*a+100*b+4*c+e+1)%4=0 ↔ e=3:=by omega
 have h2:(400*a+100*b+4*c+e+1)%100=0 ↔ e=3/\c=24:=by omega
 have h3:(400*a+100*b+4*c+e+1)%400=0 ↔ e=3/\c=24/\b=3:=by omega
 rw[h1,h3,ne_eq,h2];omega
def dY (y:Int):Int:=365*(y-1)+(y-1)/4-(y-1)/100+(y-1)/400
theorem rW {a b c e:Int}(ha:0 <=a)(hb:0 <=b)(hb2:b <=3)(hc:0 <=c)(hc2:c <=24)(he:0 <=e)(he2:e <=3):dY (400*a+100*b+4*c+e+1)=365*(400*a+100*b+4*c+e)+(97*a+24*b+c):=by
 unfold dY
 have h1:(400*a+100*b+4*c+e+1-1)/4=100*a+25*b+c:=by omega
 have h2:(400*a+100*b+4*c+e+1-1)/100=4*a+b:=by omega
 have h3:(400*a+100*b+4*c+e+1-1)/400=a:=by omega
 rw[h1,h2,h3];omega
theorem I1 {y:Int}(h:1 <=y):dY (y+1)=dY y+Tn y:=by
 obtain⟨a,b,c,e,rfl,ha,hb,hb2,hc,hc2,he,he2⟩:=KV h
 have hl:=Ek ha hb hb2 hc hc2 he he2
 rw[rW ha hb hb2 hc hc2 he he2]
 unfold Tn
 by_cases h3:e=3
 · subst h3
   by_cases h24:c=24
   · subst h24
     by_cases h33:b=3
     · subst h33
       rw[if_pos (hl.2 ⟨rfl,.inr rfl⟩)]
       rw[show 400*a+100*3+4*24+3+1+1=400*(a+1)+100*0+4*0+0+1 by omega,rW (by omega) (by omega) (by omega) (by omega) (by omega) (by omega) (by omega)];omega
     · rw[if_neg (λh=>by have:=hl.1 h;omega)]
       rw[show 400*a+100*b+4*24+3+1+1=400*a+100*(b+1)+4*0+0+1 by omega,rW (by omega) (by omega) (by omega) (by omega) (by omega) (by omega) (by omega)];omega
   · rw[if_pos (hl.2 ⟨rfl,.inl h24⟩)]
     rw[show 400*a+100*b+4*c+3+1+1=400*a+100*b+4*(c+1)+0+1 by omega,rW (by omega) (by omega) (by omega) (by omega) (by omega) (by omega) (by omega)];omega
 · rw[if_neg (λh=>by have:=hl.1 h;omega)]
   rw[show 400*a+100*b+4*c+e+1+1=400*a+100*b+4*c+(e+1)+1 by omega,rW (by omega) (by omega) (by omega) (by omega) (by omega) (by omega) (by omega)];omega
def cM (y m:Int):Int:=if m=1 then 0 else if m=2 then 31 else(if ut y then 1 else 0)+
 (if m=3 then 59 else if m=4 then 90 else if m=5 then 120 else if m=6 then 151 else if m=7 then 181 else if m=8 then 212 else if m=9 then 243 else if m=10 then 273 else if m=11 then 304 else if m=12 then 334 else 365)
theorem Of {m:Int}(h1:1 <=m)(h2:m <=12):m=1\/m=2\/m=3\/m=4\/m=5\/m=6\/m=7\/m=8\/m=9\/m=10\/m=11\/m=12:=by omega
theorem IQ {y m:Int}(h1:1 <=m)(h2:m <=12):cM y (m+1)=cM y m+Jt y m:=by
 unfold cM Jt
 rcases Of h1 h2 with rfl|rfl|rfl|rfl|rfl|rfl|rfl|rfl|rfl|rfl|rfl|rfl <;> cases ut y <;> simp
theorem RO (y:Int):cM y 13=Tn y:=by unfold cM Tn;cases ut y <;> simp
theorem FG (y m:Int):28 <=Jt y m/\Jt y m <=31:=by unfold Jt;split <;> (try split) <;> omega
theorem Ul {y m:Int}(h1:1 <=m)(h2:m <=12):0 <=cM y m/\cM y m <=335:=by
 unfold cM
 rcases Of h1 h2 with rfl|rfl|rfl|rfl|rfl|rfl|rfl|rfl|rfl|rfl|rfl|rfl <;> cases ut y <;> simp
def dP (y m d:Int):Prop:=1601 <=y/\y <=9999/\1 <=m/\m <=12/\1 <=d/\d <=Jt y m
instance  (y m d:Int):Decidable (dP y m d):=by unfold dP;infer_instance
def dv (y m d:Int):Int:=dY y-719162+cM y m+d-1
theorem To (y:Int):365 <=Tn y/\Tn y <=366:=by unfold Tn;split <;> omega
theorem RR {a:Int}(h:1 <=a):∀k:Nat,dY a <=dY (a+k)
 | 0=>by simp
 | k+1=>by
   have h1:=RR h k
   have h2:=I1 (y:=a+k) (by omega)
   have h3:=To (a+k)
   rw[show a+((k+1:Nat):Int)=a+k+1 by omega];omega
theorem oy {a b:Int}(h1:1 <=a)(h:a <=b):dY a <=dY b:=by
 have:=RR h1 (b-a).toNat
 rwa [show a+((b-a).toNat:Int)=b by omega]at this
theorem Up {y:Int}(h1:1601 <=y)(h2:y <=10000):584388 <=dY y/\dY y <=3652059:=by
 have e1:=oy (a:=1601) (b:=y) (by omega) h1
 have e2:=oy (a:=y) (b:=10000) (by omega) h2
 have e3:dY 1601=584388:=by decide
 have e4:dY 10000=3652059:=by decide
 omega
theorem RN {y a:Int}(h:1 <=a):∀k:Nat,a+k <=13->cM y a <=cM y (a+k)
 | 0,_=>by simp
 | k+1,hk=>by
   have h1:=RN (y:=y) h k (by omega)
   have h2:=IQ (y:=y) (m:=a+k) (by omega) (by omega)
   have h3:=FG y (a+k)
   rw[show a+((k+1:Nat):Int)=a+k+1 by omega];omega
theorem Fb {y a b:Int}(h1:1 <=a)(h:a <=b)(h2:b <=13):cM y a <=cM y b:=by
 have:=RN (y:=y) h1 (b-a).toNat (by omega)
 rwa [show a+((b-a).toNat:Int)=b by omega]at this
theorem UH {y m d:Int}(hy:1 <=y)(h1:1 <=m)(h2:m <=12)(Y M:Int)(hY:Y=if m-3<0 then y-1 else y)(hM:M=if m-3<0 then m+9 else m-3):
   Y/400*146097+Y%400*365+Y%400/4-Y%400/100+(153*M+2)/5+d-1-719468=dv y m d:=by
 obtain⟨a,b,c,e,rfl,ha,hb,hb2,hc,hc2,he,he2⟩:=KV (y:=y) (by omega)
 have hl:=Ek ha hb hb2 hc hc2 he he2
 unfold dv
 rw[rW ha hb hb2 hc hc2 he he2]
 by_cases hm:m-3<0
 · rw[if_pos hm]at hY hM
   subst hY
   have e1:(400*a+100*b+4*c+e+1-1)/400=a:=by omega
   have e2:(400*a+100*b+4*c+e+1-1)%400=100*b+4*c+e:=by omega
   have e3:(100*b+4*c+e)/4=25*b+c:=by omega
   have e4:(100*b+4*c+e)/100=b:=by omega
   rw[e1,e2,e3,e4]
   have:m=1\/m=2:=by omega
   rcases this with rfl|rfl <;> subst hM <;> unfold cM <;> simp <;> omega
 · rw[if_neg hm]at hY hM
   subst hY
   have hc':cM (400*a+100*b+4*c+e+1) m=(if ut (400*a+100*b+4*c+e+1)=true then 1 else 0)+59+(153*M+2)/5:=by
     have:m=3\/m=4\/m=5\/m=6\/m=7\/m=8\/m=9\/m=10\/m=11\/m=12:=by omega
     rcases this with rfl|rfl|rfl|rfl|rfl|rfl|rfl|rfl|rfl|rfl <;> subst hM <;> unfold cM <;> simp <;> omega
   rw[hc']
   have key:(400*a+100*b+4*c+e+1)/400*146097+(400*a+100*b+4*c+e+1)%400*365+(400*a+100*b+4*c+e+1)%400/4-(400*a+100*b+4*c+e+1)%400/100=
       365*(400*a+100*b+4*c+e+1)+(97*a+24*b+c)+(if ut (400*a+100*b+4*c+e+1)=true then 1 else 0):=by
     by_cases h3:e=3
     · subst h3
       by_cases h24:c=24
       · subst h24
         by_cases h33:b=3
         · subst h33
           rw[if_pos (hl.2 ⟨rfl,.inr rfl⟩)]
           have e1:(400*a+100*3+4*24+3+1)/400=a+1:=by omega
           have e2:(400*a+100*3+4*24+3+1)%400=0:=by omega
           rw[e1,e2];omega
         · rw[if_neg (λh=>by have:=hl.1 h;omega)]
           have e1:(400*a+100*b+4*24+3+1)/400=a:=by omega
           have e2:(400*a+100*b+4*24+3+1)%400=100*(b+1):=by omega
           have e3:(100*(b+1))/4=25*(b+1):=by omega
           have e4:(100*(b+1))/100=b+1:=by omega
           rw[e1,e2,e3,e4];omega
       · rw[if_pos (hl.2 ⟨rfl,.inl h24⟩)]
         have e1:(400*a+100*b+4*c+3+1)/400=a:=by omega
         have e2:(400*a+100*b+4*c+3+1)%400=100*b+4*(c+1):=by omega
         have e3:(100*b+4*(c+1))/4=25*b+c+1:=by omega
         have e4:(100*b+4*(c+1))/100=b:=by omega
         rw[e1,e2,e3,e4];omega
     · rw[if_neg (λh=>by have:=hl.1 h;omega)]
       have e1:(400*a+100*b+4*c+e+1)/400=a:=by omega
       have e2:(400*a+100*b+4*c+e+1)%400=100*b+4*c+e+1:=by omega
       have e3:(100*b+4*c+e+1)/4=25*b+c:=by omega
       have e4:(100*b+4*c+e+1)/100=b:=by omega
       rw[e1,e2,e3,e4];omega
   omega
theorem Km {y m d:Int}(h:dP y m d):dY y <=dv y m d+719162/\dv y m d+719162<dY (y+1)/\cM y m <=dv y m d+719162-dY y/\dv y m d+719162-dY y<cM y (m+1):=by
 obtain⟨h1,h2,h3,h4,h5,h6⟩:=h
 have e1:=Ul (y:=y) h3 (by omega)
 have e2:=IQ (y:=y) h3 h4
 have e3:=Fb (y:=y) (a:=m+1) (b:=13) (by omega) (by omega) (by omega)
 have e4:=I1 (y:=y) (by omega)
 have e5:=RO y
 unfold dv
 omega
theorem Kn {y m d a b c:Int}(h:dP y m d)(k:dP a b c)(e:dv y m d=dv a b c):y=a/\m=b/\d=c:=by
 have hy1:=h.1
 have ha1:=k.1
 have h1:=Km h
 have k1:=Km k
 rw[e]at h1
 have hy:y=a:=by
   rcases Int.lt_trichotomy y a with c|c|c
   · have:=oy (show 1 <=y+1 by omega) (show y+1 <=a by omega);omega
   · exact c
   · have:=oy (show 1 <=a+1 by omega) (show a+1 <=y by omega);omega
 subst hy
 obtain⟨_,_,p1,p2,_,_⟩:=h
 obtain⟨_,_,q1,q2,_,_⟩:=k
 have hm:m=b:=by
   rcases Int.lt_trichotomy m b with c|c|c
   · have:=Fb (y:=y) (a:=m+1) (b:=b) (by omega) (by omega) (by omega);omega
   · exact c
   · have:=Fb (y:=y) (a:=b+1) (b:=m) (by omega) (by omega) (by omega);omega
 subst hm
 refine⟨rfl,rfl,?_⟩
 unfold dv at e;omega
theorem Hd (y:Int)(w:World):Cf uc #[vI y] w (Ret λv w'=>v=.bool (ut y)/\w'=w):=by
 apply F8
 unfold yw ut
 refine⟨by decide,?_⟩
 rintro _ rfl
 refine ab.of (λh=>?_) (λh=>?_) <;> simp at h
 · refine⟨by decide,?_⟩
   rintro _ rfl
   refine ab.of (λh2=>?_) (λh2=>?_) <;> simp at h2
   · exact⟨by simp[h,h2],rfl⟩
   · refine⟨by decide,?_⟩
     rintro _ rfl
     refine⟨?_,rfl⟩
     congr 1
     rw[Bool.eq_iff_iff];simp[h,h2]
 · refine⟨by decide,?_⟩
   rintro _ rfl
   refine⟨?_,rfl⟩
   congr 1
   rw[Bool.eq_iff_iff];simp[h]
def Qc (y m d:Int):Value:=.tuple #[vI (if dP y m d then dv y m d else 0),.bool (decide (dP y m d))]
def KN:List Int:=[31,28,31,30,31,30,31,31,30,31,30,31]
theorem TL:∀c∈(Value.agg (KN.map λn=>vI n).toArray).cells.toList,c.oneCell'=true:=by
 intro c hc
 obtain⟨n,_,rfl⟩:∃n,n∈KN/\vI n=c:=by simpa[Value.cells]using hc
 rfl
theorem CM (y m:Int)(h1:1 <=m)(h2:m <=12)(w:World):Cf oD #[vI y,vI m] w (Ret λv w'=>v=vI (Jt y m)/\bW w w'):=by
 apply Bd
 intro k w1 hk hw1
 have hB1:bW w w1:=hw1▸ai _ _
 have ha1:ao w1 k ot (List.replicate 12 (vI 0)):=ao.new hk hw1
 obtain⟨w2,hst,ha2,hg⟩:=ha1.store (P:=prog) Ih (i:=0) (v:=.agg (KN.map λn=>vI n).toArray) rfl (by decide) TL
 refine⟨w2,hst,?_⟩
 have hB2:=hB1.grown hg hB1.size (λx e=>by cases e;omega)
 refine⟨λw'=>w'=w2/\(m=2->ut y=false),?_,?_⟩
 · refine ab.of (λh=>?_) (λh=>?_) <;> simp at h
   · refine aw (Hd y _) ?_
     rintro _ w2 ⟨rfl,rfl⟩
     refine⟨_,rfl,?_⟩
     refine ab.of (λh3=>?_) (λh3=>?_)
     · refine⟨?_,hB2⟩
       unfold Jt;rw[if_pos h,if_pos h3]
     · exact⟨rfl,λ_=>h3⟩
   · exact⟨rfl,λe=>absurd e h⟩
 · refine aJ.of ?_ _
   rintro w2 ⟨rfl,hlp⟩
   rw[wrap_i64 (by omega) (by omega)]
   refine⟨⟨⟨by omega,by omega⟩,rfl⟩,?_⟩
   refine⟨Jt y m,?_,rfl,hB2⟩
   rw[j2,Nat.zero_add,Nat.mul_one]
   refine ha2.load1 bG rfl ?_
   unfold Jt
   rcases Of h1 h2 with rfl|rfl|rfl|rfl|rfl|rfl|rfl|rfl|rfl|rfl|rfl|rfl <;> simp[KN,Value.cells]
   simp[hlp]
theorem qn (y m d:Int)(hd: -9223372036854775808 <=d/\d <=9223372036854775807)(w:World):Cf ly #[vI y,vI m,vI d] w (Ret λv w'=>v=Qc y m d/\bW w w'):=by
 apply F6
 have bad:∀w',bW w w'-> ¬ dP y m d->(Value.tuple #[vI 0,.bool false]=Qc y m d/\bW w w'):=λw' hb h=>by
   refine⟨?_,hb⟩
   unfold Qc;rw[if_neg h];simp[h]
 refine⟨λw'=>dP y m d/\bW w w',?_,?_⟩
 · refine ab.of (λh1=>?_) (λh1=>?_) <;> simp at h1
   · exact bad _ (Below.refl _ _) (by unfold dP;omega)
   refine ab.of (λh2=>?_) (λh2=>?_) <;> simp at h2
   · exact bad _ (Below.refl _ _) (by unfold dP;omega)
   refine ab.of (λh3=>?_) (λh3=>?_) <;> simp at h3
   · exact bad _ (Below.refl _ _) (by unfold dP;omega)
   refine ab.of (λh4=>?_) (λh4=>?_) <;> simp at h4
   · exact bad _ (Below.refl _ _) (by unfold dP;omega)
   refine ab.of (λh5=>?_) (λh5=>?_) <;> simp at h5
   · exact bad _ (Below.refl _ _) (by unfold dP;omega)
   refine aw (CM y m h3 h4 w) ?_
   rintro _ w1 ⟨rfl,hb⟩
   refine⟨_,rfl,?_⟩
   refine ab.of (λh6=>?_) (λh6=>?_) <;> simp at h6
   · exact bad _ hb (by unfold dP;omega)
   · exact⟨⟨by omega,by omega,by omega,by omega,by omega,by omega⟩,hb⟩
 · refine aJ.of ?_ _
   rintro w1 ⟨hi,hb⟩
   obtain⟨h1,h2,h3,h4,h5,h6⟩:=hi
   have hl:=FG y m
   refine⟨λY M w'=>w'=w1/\Y=(if m-3<0 then y-1 else y)/\M=(if m-3<0 then m+9 else m-3),?_,?_⟩
   · rw[wrap_i64 (n:=m-3) (by omega) (by omega)]
     refine ab.of (λh=>?_) (λh=>?_) <;> simp only[dTx,dFx]at h
     · refine⟨rfl,?_,?_⟩
       · rw[if_pos h,wrap_i64 (by omega) (by omega)]
       · rw[if_pos h,wrap_i64 (by omega) (by omega)];omega
     · exact⟨rfl,by rw[if_neg h],by rw[if_neg h]⟩
   · intro Y M
     refine aJ.of ?_ _
     rintro w1 ⟨rfl,hY,hM⟩
     have hm:=UH (y:=y) (m:=m) (d:=d) (by omega) h3 h4 Y M hY hM
     have hYr:1600 <=Y/\Y <=9999:=by rw[hY];split <;> omega
     have hMr:0 <=M/\M <=11:=by rw[hM];split <;> omega
     clear hY hM
     rw[gp (by omega),dD (by omega)]
     refine⟨by decide,?_⟩
     intro of hof
     refine⟨by decide,?_⟩
     intro q1 hq1
     rw[dD (by omega),dD (by omega)]
     refine⟨by decide,?_⟩
     intro q2 hq2
     refine⟨by decide,?_⟩
     intro q3 hq3
     refine⟨by decide,?_⟩
     intro q4 hq4
     rw[wrap_i64 (by omega) (by omega)]at hq1 hq2 hq3
     rw[wrap_i64 (n:=153*M) (by omega) (by omega),wrap_i64 (n:=153*M+2) (by omega) (by omega),dD (by omega),wrap_i64 (by omega) (by omega)]at hq4
     rw[wrap_i64 (n:=q1*146097) (by omega) (by omega),wrap_i64 (n:=of*365) (by omega) (by omega),wrap_i64 (n:=q1*146097+of*365) (by omega) (by omega),wrap_i64 (n:=q1*146097+of*365+q2) (by omega) (by omega),
       wrap_i64 (n:=q1*146097+of*365+q2-q3) (by omega) (by omega),wrap_i64 (n:=q1*146097+of*365+q2-q3+q4) (by omega) (by omega),wrap_i64 (n:=q1*146097+of*365+q2-q3+q4+d) (by omega) (by omega),
       wrap_i64 (n:=q1*146097+of*365+q2-q3+q4+d-1) (by omega) (by omega),wrap_i64 (by omega) (by omega)]
     refine⟨?_,hb⟩
     have hdt:dP y m d:=⟨h1,h2,h3,h4,h5,h6⟩
     unfold Qc
     rw[if_pos hdt,<- hm,hq1,hq2,hq3,hq4,hof]
     simp[hdt]
open Classical in
noncomputable def Um (n:Int):Value:=if h:∃p:Int×Int×Int,dP p.1 p.2.1 p.2.2/\dv p.1 p.2.1 p.2.2=n then
 .tuple #[vI (Classical.choose h).1,vI (Classical.choose h).2.1,vI (Classical.choose h).2.2,.bool true]else .tuple #[vI 0,vI 0,vI 0,.bool false]
theorem IW {y m d:Int}(h:dP y m d):Um (dv y m d)=.tuple #[vI y,vI m,vI d,.bool true]:=by
 have hex:∃p:Int×Int×Int,dP p.1 p.2.1 p.2.2/\dv p.1 p.2.1 p.2.2=dv y m d:=⟨(y,m,d),h,rfl⟩
 unfold Um
 rw[dif_pos hex]
 obtain⟨h1,h2⟩:=Classical.choose_spec hex
 obtain⟨e1,e2,e3⟩:=Kn h1 h h2
 rw[e1,e2,e3]
theorem Aw {y m d:Int}(h:dP y m d): -134774 <=dv y m d/\dv y m d <=2932896:=by
 have h1:=Km h
 have h2:=Up (y:=y) h.1 (by have:=h.2.1;omega)
 have h3:=Up (y:=y+1) (by have:=h.1;omega) (by have:=h.2.1;omega)
 have h4:=oy (a:=y+1) (b:=10000) (by have:=h.1;omega) (by have:=h.2.1;omega)
 omega
theorem Am {n:Int}(h:n < -134774\/2932896<n):Um n=.tuple #[vI 0,vI 0,vI 0,.bool false]:=by
 unfold Um
 rw[dif_neg]
 rintro⟨p,h1,h2⟩
 have:=Aw h1
 omega
theorem N8:dP 1601 1 1/\dv 1601 1 1= -134774:=by decide
theorem KE:dP 9999 12 31/\dv 9999 12 31=2932896:=by decide
def sN (k:Nat):Nat:=if k=400 then 146097 else 365*k+k/4-k/100
def gN (n:Nat):Nat:=n-n/1460+n/36524-n/146096
theorem Ux {a:Nat}(h:a<146096):gN a <=gN (a+1):=by unfold gN;omega
theorem NA {a:Nat} :∀k:Nat,a+k <=146096->gN a <=gN (a+k)
 | 0,_=>Nat.le_refl _
 | k+1,h=>Nat.le_trans (NA k (by omega)) (Ux (a:=a+k) (by omega))
theorem VD:∀k,k<400->gN (sN k)/365=k/\gN (sN (k+1)-1)/365=k:=by decide+kernel
theorem UQ:∀k,k<400->sN (k+1)=sN k+(if(k+1)%4=0/\((k+1)%100≠0\/k+1=400)then 366 else 365)/\0<sN (k+1)/\sN (k+1) <=146097:=by decide+kernel
theorem R7 {n:Nat} :∀j,j <=400->n<sN j->∃k,k<j/\sN k <=n/\n<sN (k+1)
 | 0,_,h=>by simp[sN]at h
 | j+1,hj,h=>by
   by_cases c:n<sN j
   · obtain⟨k,h1,h2,h3⟩:=R7 j (by omega) c
     exact⟨k,by omega,h2,h3⟩
   · exact⟨j,by omega,by omega,h⟩
theorem T5 {n:Nat}(h:n<146097):∃k,k<400/\gN n/365=k/\sN k <=n/\n<sN (k+1):=by
 obtain⟨k,h1,h2,h3⟩:=R7 (n:=n) 400 (Nat.le_refl _) (by simpa[sN]using h)
 obtain⟨e1,e2⟩:=VD k h1
 obtain⟨_,l2,l3⟩:=UQ k h1
 refine⟨k,h1,?_,h2,h3⟩
 have m1:=NA (a:=sN k) (n-sN k) (by omega)
 have m2:=NA (a:=n) (sN (k+1)-1-n) (by omega)
 rw[show sN k+(n-sN k)=n by omega]at m1
 rw[show n+(sN (k+1)-1-n)=sN (k+1)-1 by omega]at m2
 have d1:=Nat.div_le_div_right (c:=365) m1
 have d2:=Nat.div_le_div_right (c:=365) m2
 omega
def Ud (mp:Nat):Nat:=[31,30,31,30,31,31,30,31,30,31,31,29][mp]?.getD 0
theorem QQ:∀doy,doy<366->(5*doy+2)/153 <=11/\(153*((5*doy+2)/153)+2)/5 <=doy/\doy-(153*((5*doy+2)/153)+2)/5+1 <=Ud ((5*doy+2)/153)/\
   ((5*doy+2)/153=11->doy-(153*((5*doy+2)/153)+2)/5+1=29->doy=365):=by decide+kernel
theorem QF {y:Int}{mp:Nat}(h:mp <=9):Jt y ((mp:Int)+3)=Ud mp:=by
 have:mp=0\/mp=1\/mp=2\/mp=3\/mp=4\/mp=5\/mp=6\/mp=7\/mp=8\/mp=9:=by omega
 rcases this with rfl|rfl|rfl|rfl|rfl|rfl|rfl|rfl|rfl|rfl <;> simp[Jt,Ud]
theorem M6 {y n:Int}(hy:1 <=y)(h1:dY y <=n+719162)(h2:n+719162<dY (y+1))(h3: -134774 <=n)(h4:n <=2932896):1601 <=y/\y <=9999:=by
 have e1:dY 1601=584388:=by decide
 have e2:dY 10000=3652059:=by decide
 constructor
 · apply Int.le_of_not_gt
   intro hc
   have:=oy (a:=y+1) (b:=1601) (by omega) (by omega)
   omega
 · apply Int.le_of_not_gt
   intro hc
   have:=oy (a:=10000) (b:=y) (by omega) (by omega)
   omega
theorem Ob {y m d:Int}(hy:1 <=y)(h1:1 <=m)(h2:m <=12)(Y M:Int)(hY:Y=if m-3<0 then y-1 else y)(hM:M=if m-3<0 then m+9 else m-3):
   Y/400*146097+Y%400*365+Y%400/4-Y%400/100+(153*M+2)/5+d-1-719468=dv y m d:=UH hy h1 h2 Y M hY hM
theorem Fc {n:Int}(h1: -134774 <=n)(h2:n <=2932896)(of yoe doy mp day era:Int)(hof:of=(n+719468)%146097)(hera:era=(n+719468)/146097)
   (hy:yoe=(of-of/1460+of/36524-of/146096)/365) (hd:doy=of-(365*yoe+yoe/4-yoe/100)) (hm:mp=(5*doy+2)/153) (hday:day=doy-(153*mp+2)/5+1):
   0 <=of/\of <=146096/\4 <=era/\era <=24/\0 <=yoe/\yoe <=399/\0 <=doy/\doy <=365/\0 <=mp/\mp <=11/\1 <=day/\day <=31/\
   dP (if mp+3>12 then yoe+era*400+1 else yoe+era*400) (if mp+3>12 then mp+3-12 else mp+3) day/\
   dv (if mp+3>12 then yoe+era*400+1 else yoe+era*400) (if mp+3>12 then mp+3-12 else mp+3) day=n:=by
 obtain⟨N,hN⟩:∃N:Nat,of=(N:Int):=⟨of.toNat,by omega⟩
 have hN2:N<146097:=by omega
 have hera2:4 <=era/\era <=24:=by omega
 obtain⟨k,hk,hg,hs1,hs2⟩:=T5 hN2
 have hyk:yoe=(k:Int):=by rw[hy,hN,<- hg];unfold gN;omega
 clear hg hy
 rw[hyk,hN]at hd
 obtain⟨hl,_,_⟩:=UQ k hk
 have hsk:sN k=365*k+k/4-k/100:=by unfold sN;rw[if_neg (by omega)]
 obtain⟨D,hD⟩:∃D:Nat,doy=(D:Int):=⟨doy.toNat,by omega⟩
 have hDN:D=N-sN k:=by omega
 have hD2:D<366:=by split at hl <;> omega
 obtain⟨m1,m2,m3,m4⟩:=QQ D hD2
 obtain⟨M,hM⟩:∃M:Nat,M=(5*D+2)/153:=⟨_,rfl⟩
 rw[<- hM]at m1 m2 m3 m4
 have hmp:mp=(M:Int):=by omega
 have hdd:day=((D-(153*M+2)/5+1:Nat):Int):=by omega
 have hmon:Ud M <=31:=by
   have:M=0\/M=1\/M=2\/M=3\/M=4\/M=5\/M=6\/M=7\/M=8\/M=9\/M=10\/M=11:=by omega
   rcases this with h|h|h|h|h|h|h|h|h|h|h|h <;> rw[h] <;> decide
 refine⟨by omega,by omega,by omega,by omega,by omega,by omega,by omega,by omega,by omega,by omega,by omega,by omega,?_⟩
 obtain⟨y,m,ey,em,hm1,hm2,hY,hMM⟩:∃y m:Int,y=(if mp+3>12 then yoe+era*400+1 else yoe+era*400)/\m=(if mp+3>12 then mp+3-12 else mp+3)/\1 <=m/\m <=12/\
     yoe+era*400=(if m-3<0 then y-1 else y)/\mp=(if m-3<0 then m+9 else m-3):=by
   refine⟨_,_,rfl,rfl,?_⟩
   by_cases c:mp+3>12
   · rw[if_pos c,if_pos c,if_pos (by omega),if_pos (by omega)];omega
   · rw[if_neg c,if_neg c,if_neg (by omega),if_neg (by omega)];omega
 rw[<- ey,<- em]
 have hy1:1 <=y:=by rw[ey];split <;> omega
 have hday31:1 <=day:=by omega
 have hlen:day <=Jt y m:=by
   by_cases c:mp+3>12
   · rw[if_pos c]at ey em
     have:M=10\/M=11:=by omega
     rcases this with rfl|rfl
     · have:m=1:=by omega
       subst this
       have e:Ud 10=31:=by decide
       rw[e]at m3
       unfold Jt;simp;omega
     · have:m=2:=by omega
       subst this
       have e:Ud 11=29:=by decide
       rw[e]at m3
       unfold Jt
       rw[if_pos rfl]
       by_cases c29:D-(153*11+2)/5+1=29
       · have h365:=m4 rfl c29
         have hleap:(k+1)%4=0/\((k+1)%100≠0\/k+1=400):=by
           apply Classical.byContradiction
           intro hc
           rw[if_neg hc]at hl
           omega
         have:ut y=true:=(Hw (by omega)).2 (by omega)
         rw[if_pos this];omega
       · split <;> omega
   · rw[if_neg c]at ey em
     have:m=(M:Int)+3:=by omega
     rw[this,QF (by omega)];omega
 have hmar:=Ob (d:=day) hy1 hm1 hm2 _ _ hY hMM
 have hq1:(yoe+era*400)/400=era:=by omega
 have hq2:(yoe+era*400)%400=yoe:=by omega
 rw[hq1,hq2]at hmar
 have hdo:dv y m day=n:=by
   rw[<- hmar,hyk]
   clear hY hMM hmar hq1 hq2
   omega
 refine⟨?_,hdo⟩
 have c1:=Ul (y:=y) hm1 hm2
 have c2:=IQ (y:=y) hm1 hm2
 have c3:=Fb (y:=y) (a:=m+1) (b:=13) (by omega) (by omega) (by omega)
 have c4:=I1 (y:=y) (by omega)
 have c5:=RO y
 have hb:=M6 (n:=n) hy1 (by unfold dv at hdo;omega) (by unfold dv at hdo;omega) h1 h2
 exact⟨hb.1,hb.2,hm1,hm2,hday31,hlen⟩
theorem Fe (n:Int)(w:World)(hn: -9223372036854775808 <=n/\n <=9223372036854775807):Cf qu #[vI n] w (Ret λv w'=>v=Um n/\bW w w'):=by
 apply Dj
 refine aw (qn _ _ _ (by omega) w) ?_
 rintro _ w1 ⟨rfl,hb1⟩
 refine⟨_,_,rfl,?_⟩
 refine aw (qn _ _ _ (by omega) w1) ?_
 rintro _ w2 ⟨rfl,hb2⟩
 have hB:=aa hb1 hb2 hb1.size
 refine⟨_,_,rfl,?_⟩
 rw[if_pos N8.1,if_pos KE.1,N8.2,KE.2]
 refine⟨λw'=>w'=w2/\ -134774 <=n/\n <=2932896,?_,?_⟩
 · refine ab.of (λh=>?_) (λh=>?_) <;> simp only[dTx,dFx]at h
   · exact⟨(Am (.inl h)).symm,hB⟩
   · refine ab.of (λh2=>?_) (λh2=>?_) <;> simp only[gt_iff_lt,dTx,dFx]at h2
     · exact⟨(Am (.inr h2)).symm,hB⟩
     · exact⟨rfl,by omega,by omega⟩
 · refine aJ.of ?_ _
   rintro w2 ⟨rfl,h1,h2⟩
   rw[wrap_i64 (n:=n+719468) (by omega) (by omega),gp (by omega)]
   refine⟨by decide,?_⟩
   intro of hof
   have hof2:0 <=of/\of <=146096:=by omega
   refine⟨by decide,?_⟩
   rintro q1 hq1
   rw[dD hof2.1,wrap_i64 (by omega) (by omega)]at hq1
   refine⟨by decide,?_⟩
   rintro q2 hq2
   rw[dD hof2.1,wrap_i64 (by omega) (by omega)]at hq2
   refine⟨by decide,?_⟩
   rintro q3 hq3
   rw[dD hof2.1,wrap_i64 (by omega) (by omega)]at hq3
   refine⟨by decide,?_⟩
   rintro yoe hyoe
   rw[wrap_i64 (n:=of-q1) (by omega) (by omega),wrap_i64 (n:=of-q1+q2) (by omega) (by omega),wrap_i64 (n:=of-q1+q2-q3) (by omega) (by omega),dD (by omega),wrap_i64 (by omega) (by omega)]at hyoe
   have hyr:0 <=yoe/\yoe <=400:=by omega
   refine⟨by decide,?_⟩
   rintro q4 hq4
   rw[dD hyr.1,wrap_i64 (by omega) (by omega)]at hq4
   refine⟨by decide,?_⟩
   rintro q5 hq5
   rw[dD hyr.1,wrap_i64 (by omega) (by omega)]at hq5
   rw[wrap_i64 (n:=365*yoe) (by omega) (by omega),wrap_i64 (n:=365*yoe+q4) (by omega) (by omega),wrap_i64 (n:=365*yoe+q4-q5) (by omega) (by omega),wrap_i64 (n:=of-(365*yoe+q4-q5)) (by omega) (by omega)]
   obtain⟨doy,hdoy⟩:∃doy,doy=of-(365*yoe+q4-q5):=⟨_,rfl⟩
   rw[<- hdoy]
   have hy':yoe=(of-of/1460+of/36524-of/146096)/365:=by rw[hyoe,hq1,hq2,hq3]
   have hd':doy=of-(365*yoe+yoe/4-yoe/100):=by rw[hdoy,hq4,hq5]
   obtain⟨_,_,_,_,c5,c6,c7,c8,_⟩:=Fc h1 h2 of yoe doy _ _ _ hof rfl hy' hd' rfl rfl
   refine⟨by decide,?_⟩
   rintro mp hmp
   rw[wrap_i64 (n:=5*doy) (by omega) (by omega),wrap_i64 (n:=5*doy+2) (by omega) (by omega),dD (by omega),wrap_i64 (by omega) (by omega)]at hmp
   refine⟨by decide,?_⟩
   rintro q6 hq6
   have hmr:0 <=mp/\mp <=12:=by omega
   rw[wrap_i64 (n:=153*mp) (by omega) (by omega),wrap_i64 (n:=153*mp+2) (by omega) (by omega),dD (by omega),wrap_i64 (by omega) (by omega)]at hq6
   refine⟨by decide,?_⟩
   rintro era hera
   rw[dD (by omega),wrap_i64 (by omega) (by omega)]at hera
   obtain⟨_,_,c3,c4,_,_,_,_,c9,c10,c11,c12,hdt,hdd⟩:=Fc h1 h2 of yoe doy mp (doy-q6+1) era hof hera hy' hd' hmp (by rw[hq6])
   clear hy' hd' hq1 hq2 hq3 hyoe
   rw[wrap_i64 (n:=mp+3) (by omega) (by omega),wrap_i64 (n:=doy-q6) (by omega) (by omega),wrap_i64 (n:=doy-q6+1) (by omega) (by omega),wrap_i64 (n:=era*400) (by omega) (by omega),wrap_i64 (n:=yoe+era*400) (by omega) (by omega)]
   refine ab.of (λh=>?_) (λh=>?_) <;> simp only[gt_iff_lt,dTx,dFx]at h
   · rw[if_pos h,if_pos h]at hdt hdd
     rw[wrap_i64 (by omega) (by omega),wrap_i64 (by omega) (by omega)]
     exact⟨by rw[<- hdd,IW hdt],hB⟩
   · rw[if_neg h,if_neg h]at hdt hdd
     exact⟨by rw[<- hdd,IW hdt],hB⟩
def xC (c:UInt8):UInt8:=if 65 <=c/\c <=90 then c+32 else c
def co (s:List UInt8):List UInt8:=s.map xC
theorem QN:∀n,n<256->((xC (UInt8.ofNat n)).toNat:Int)=if 65 <=(n:Int)/\(n:Int) <=90 then(n:Int)+32 else(n:Int):=by decide+kernel
theorem KO (c:UInt8):((xC c).toNat:Int)=if 65 <=(c.toNat:Int)/\(c.toNat:Int) <=90 then(c.toNat:Int)+32 else(c.toNat:Int):=by
 have:=QN c.toNat (by have:=c.toNat_lt;omega)
 rwa [UInt8.ofNat_toNat]at this
theorem dU (s:List UInt8)(hs:s.length <=9223372036854775800)(w:World):Cf dQ #[vS s] w (Ret λv w'=>v=vS (co s)/\bW w w'):=by
 apply Bu
 obtain⟨w1,a,n,c,hr,ho,hb,hf⟩:=ov av bw bS w s (by omega) NoB
 have hn:=ho.len
 subst hn
 refine⟨w1,a,_,c,hr,?_⟩
 refine⟨λm i w'=>∃k:Nat,k <=s.length/\i=(k:Int)/\m=s.length-k/\Ow tU8 aQ w' NoB a s.length c (co (s.take k)++s.drop k)/\w1.grownBy w' (eJ a),
   ⟨_,0,by omega,rfl,rfl,by simpa[co]using ho,⟨rfl,rfl,rfl,Nat.le_refl _,λ_ _ _=>rfl⟩⟩,?_⟩
 intro m i
 refine aJ.of ?_ _
 rintro w' ⟨k,hk,rfl,rfl,ho',hg⟩
 have hll:(co (s.take k)++s.drop k).length=s.length:=by simp[co];omega
 refine ab.of (λh=>?_) (λh=>?_) <;> simp at h
 · have hlk:(co (s.take k)).length=k:=by simp[co];omega
   have hsl:=ho'.all
   obtain⟨v,hv,hrep⟩:=hsl.load1 (i:=(k:Int)) bS rfl rfl (by rw[hll];simpa using h)
   have:=Ck hrep
   subst this
   have eg:(co (s.take k)++s.drop k)[(k:Int).toNat]'(by rw[hll];simpa using h)=s[k]:=by
     simp only[Int.toNat_natCast]
     rw[List.getElem_append_right (by rw[hlk];exact Nat.le_refl _)]
     simp[hlk]
   rw[eg]at hv
   have hin:(0 <=(k:Int)/\(k:Int)<((s.length:Nat):Int))/\Option.isSome a=true:=⟨⟨by omega,by omega⟩,hsl.isSome (i:=k) (by rw[hll];exact h)⟩
   have hlt:=nS s[k]
   have hlow:=KO s[k]
   have e1:i64.wrap ((k:Int)+1)=((k+1:Nat):Int):=by rw[wrap_i64 (by omega) (by omega)];omega
   try dsimp only
   rw[e1]
   have hstep:∀x,(co (s.take k)++s.drop k).set k x=co (s.take k)++x::s.drop (k+1):=λx=>by
     rw[List.set_append_right _ _ (by rw[hlk];exact Nat.le_refl _),hlk,Nat.sub_self,List.drop_eq_getElem_cons h];rfl
   have hnext:co (s.take (k+1))++s.drop (k+1)=co (s.take k)++xC s[k]::s.drop (k+1):=by
     unfold co;rw[List.take_succ_eq_append_getElem h,List.map_append,List.append_assoc];rfl
   refine⟨hin,_,hv,λb w''=>w''=w'/\b=decide (65 <=(s[k].toNat:Int)/\(s[k].toNat:Int) <=90),?_,?_⟩
   · refine ab.of (λh2=>?_) (λh2=>?_) <;> simp only[ge_iff_le,dTx,dFx]at h2
     · exact⟨rfl,by simp[h2]⟩
     · exact⟨rfl,by simp[h2]⟩
   · intro b
     refine aJ.of ?_ _
     rintro w' ⟨rfl,rfl⟩
     refine ab.of (λh2=>?_) (λh2=>?_) <;> simp only[dTx,dFx]at h2
     · rw[if_pos h2]at hlow
       rw[wrap_u8 (n:=(s[k].toNat:Int)-65) (by omega) (by omega),wrap_u8 (by omega) (by omega)]
       obtain⟨w4,hs4,ho4,hg4⟩:=ho'.store (P:=prog) (bytes:=1) (z:=.int .u8 0) gn (λ_ _ h=>h) (i:=(k:Int)) (by rw[hll];simpa using h) (k:=1) rfl (v:=.int .u8 ((s[k].toNat:Int)-65+97)) (x:=xC s[k]) (pK (by rw[hlow];omega))
       simp only[Int.toNat_natCast]at ho4
       rw[hstep,<- hnext]at ho4
       exact⟨hin,w4,hs4,s.length-(k+1),by omega,k+1,by omega,rfl,rfl,ho4,⟨hg4.os.trans hg.os,hg4.tape.trans hg.tape,hg4.output.trans hg.output,Nat.le_trans hg.size hg4.size,λq hq hne=>(hg4.block q (Nat.lt_of_lt_of_le hq hg.size) hne).trans (hg.block q hq hne)⟩⟩
     · rw[if_neg h2]at hlow
       have hc:xC s[k]=s[k]:=Cj hlow
       refine⟨s.length-(k+1),by omega,k+1,by omega,rfl,rfl,?_,hg⟩
       rw[hnext,hc,<- List.drop_eq_getElem_cons h];exact ho'
 · have:k=s.length:=by omega
   subst this
   have e2:co (s.take s.length)++s.drop s.length=co s:=by simp
   rw[e2]at ho'
   exact⟨_,me bw av bS ho'.all,rfl,hb.grown hg hb.size hf⟩
theorem pg (s t:List UInt8)(hs:s.length <=9223372036854775800)(ht:t.length <=9223372036854775800)(w:World):Cf jP #[vS s,vS t] w (Ret λv w'=>v=.bool (co s==co t)/\bW w w'):=by
 apply Dt
 refine aw (dU s hs w) ?_
 rintro _ w1 ⟨rfl,hb1⟩
 refine⟨_,rfl,?_⟩
 refine aw (dU t ht w1) ?_
 rintro _ w2 ⟨rfl,hb2⟩
 exact⟨_,rfl,rfl,aa hb1 hb2 hb1.size⟩
end Go.Pk
