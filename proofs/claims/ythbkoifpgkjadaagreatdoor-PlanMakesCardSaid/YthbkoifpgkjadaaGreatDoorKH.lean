/- What the laws lean on: PushC, V52, TplA, Lst, RulB, SufP, SufB, DfaH, HwP, HwQ, HosD, TplB, WrdA, WrdB, WrdC, MapH, SepO, V53; what is used. Its conditions: none. -/
import Derived.Test.YthbkoifpgkjadaaGreatDoorKG
import Derived.RangeFuncNested
import Derived.Shelf.AbstractIn
import Derived.RegionIn
import Derived.Lib.Bytes2
import Derived.Maps.RangeRun
set_option linter.unusedVariables false
set_option linter.unusedSimpArgs false
set_option linter.unusedSectionVars false
set_option maxRecDepth 100000
open List (all_append append_assoc append_nil drop_eq_getElem_cons drop_eq_nil_of_le getElem_mem length length_append length_cons length_nil length_singleton length_take map_append map_cons map_nil mem_append mem_append_left mem_cons_of_mem mem_cons_self mem_of_mem_take mem_singleton nil_append take_length take_of_length_le take_succ_eq_append_getElem)
open Go.World (drew)
variable {w u:Go.World}{n i k:Nat}{p q:Option Go.Addr}{A B:Go.Pk.Bl}{t:Go.TypeId}{s:List UInt8}{P:Go.Program}
open Go.IntKind (i64)
open Go.Proofs.Tryz
open List (length)
open Option (isSome)
namespace Go.Pk
open Go.RowKit (Below)
open Go.Proofs
theorem Zn {I:Type}{T:Ty I}(Y:Flat T){st t ty:TypeId}{bytes:Nat}{z:Value}(av:P.underlying st=some (.slice t))(a9:TF P t T.k bytes z)(U:0<bytes)
 {w0 w w1:World} {S:List Nat} {a:Option Addr} {n c:Nat} {xs:List I} (ad:Ow T t w NoB a n c xs) (J:bo w0.heap.size a) (y:Chg S w0 w) {H:Nat} {vs:List Value} {x:I} (D:H=w.heap.size)
 (M:w1=w.alloc (.cells vs.toArray t)) (a0:T.rep w NoB vs x) {cm:Nat} (V:(xs.length+1)*bytes <=140737488355328):
 ∃(E:World) (F:Option Addr) (n' c':Nat),(Builtin.append_ #[st,st] ty #[.slice a n c,.slice (some ⟨H,0,none⟩) 1 cm]).run P w1=.ok (.slice F n' c') E/\Ow T t E NoB F n' c' (xs++[x])/\bo w0.heap.size F/\Chg S w0 E/\∀b,b<w0.heap.size->E.heap[b]? =w.heap[b]? :=by
 have G:bW w w1:=M▸ar w _;have af:=ad.below G;have an:Src T w1 NoB (some ⟨H,0,none⟩) 1 [x]:=Src.new1F Y D M a0;obtain⟨w4,a4,a8,R,aj,ag,aa,Z⟩:=ff (ty:=ty) av a9 U af (λ_ _ h=>h) (cm:=cm) an (by simpa using V);have O:=y.size;have bb:=G.size;have h1:Below w0.heap.size w w4:=(G.mono O).grown aa (by omega) J;exact⟨w4,a4,a8,R,aj,ag,J.app (by omega) Z,⟨h1.os.trans y.os,h1.tape.trans y.tape,h1.output.trans y.output,Nat.le_trans O h1.size,λk D ac=>(h1.block k D).trans (y.block k D ac)⟩,h1.block⟩
theorem sY (a:Int){w K}(h:ab (decide (a<(97:Int))) (ab (decide (a<(48:Int))) (K (.bool true) w) (K (.bool (decide (a>(57:Int)))) w)) (ab (decide (a>(122:Int))) (ab (decide (a<(48:Int))) (K (.bool true) w) (K (.bool (decide (a>(57:Int)))) w)) (K (.bool false) w))):Cf cG #[.int .u8 a] w (Ret K):=ru func262 [] h
theorem fu (a:Option Addr)(b c:Nat){w K}(h:∃d:Nat->FP [shI],(∃e,d e (0:Int) w)/\∀e f,aP 12 (∀g,d e f g->ab (decide (f<(b:Int))) ((bx f (b:Int)/\Option.isSome a=true)/\∃i,Ld bc (aw a f 1) g (.int .u8 i)/\uB cG #[.int .u8 i] g λj k=>ab j (K (vI f) k) (∃l:Nat,l<e/\d l (i64.wrap (f+1)) k)) (K (vI (-1)) g))):Cf dz #[.slice a b c,.func (.func cG) #[] #[]] w (Ret K):=ru func321 [(6,[(8,shI)])] h
theorem eY (a:Option Addr)(b c:Nat){w K}(h:uI dz #[.slice a b c,.func (.func cG) #[] #[]] w λd e=>K (.bool (decide (d >=0))) e):Cf cW #[.slice a b c,.func (.func cG) #[] #[]] w (Ret K):=ru func261 [] h
theorem yi (a:lU){w K}(h:∃b:FP [],(ab (a==[]) (K (.bool false) w) (ab (decide (((length a:Nat):Int)>(20:Int))) (K (.bool false) w) (b w)))/\aP 8 (∀c,b c->∃d e f g,(convert ai aQ (vS a)).run prog c=.ok (.slice e f g) d/\uB cW #[.slice e f g,.func (.func cG) #[] #[]] d λi j=>K (.bool (!i)) j)):Cf ij #[vS a] w (Ret K):=ru func179 [(2,[])] h
theorem rS (a:lU)(b:Option Addr)(c d:Nat)(e:Option Addr){w K}(h:nA w (.cells #[vS a,.slice b c d] au) λf g=>true/\∃i,Ld ai (vA f 0) g (vS i)/\∃j,Ld ai e g (vS j)/\K (.bool (i==j)) g):Cf dq #[.agg #[vS a,.slice b c d],.pointer e] w (Ret K):=ru func178 [] h
theorem dQ (a:Option Addr)(b c:Nat)(d:Option Addr){w K}(h:∃e:Nat->FP [shI],(∃f,e f (0:Int) w)/\∀f g,aP 12 (∀i,e f g i->ab (decide (g<(b:Int))) ((bx g (b:Int)/\Option.isSome a=true)/\∃j k l m,Ld au (aw a g 2) i (.agg #[vS j,.slice k l m])/\uB dq #[.agg #[vS j,.slice k l m],.pointer d] i λn o=>ab n (K (vI g) o) (∃p:Nat,p<f/\e p (i64.wrap (g+1)) o)) (K (vI (-1)) i))):Cf br #[.slice a b c,.func (.func dq) #[] #[.pointer d]] w (Ret K):=ru func177 [(6,[(8,shI)])] h
theorem wo (a:lU)(b:Option Addr)(c d:Nat){w K}(h:∃e:Nat->FP [.one .str,.one .slice],(∃f,e f a none 0 0 w)/\∀f g i j k,aP 50 (∀l,e f g i j k l->ab (!(g==[])) (Cf lH #[vS g,vS [123]] l λm n=>∃o p q,m=rT #[vS o,vS p,.bool q]/\nA n (.cells #[vS o,vI (-1)] bL) λr s=>∃t u v x,(Builtin.append_ #[ce,ce] ce #[.slice i j k,.slice (vA r 0) 1 1]).run prog s=.ok (.slice u v x) t/\ab (!q) (K (.tuple #[.slice u v x,.bool true]) t) (Cf lH #[vS p,vS [125]] t λy z=>∃A B C,y=rT #[vS A,vS B,.bool C]/\nA z (.cells #[vS []] ai) λD E=>∃F,Sv ai (vA D 0) (vS A) E F/\uI br #[.slice b c d,.func (.func dq) #[] #[.pointer (vA D 0)]] F λG H=>∃I:FP [],(ab (!C) (K (.tuple #[.slice none 0 0,.bool false]) H) (∃J,Ld ai (vA D 0) H (vS J)/\uB ij #[vS J] H λL M=>ab (!L) (K (.tuple #[.slice none 0 0,.bool false]) M) (ab (decide (G<(0:Int))) (K (.tuple #[.slice none 0 0,.bool false]) M) (I M))))/\aP 13 (∀J,I J->nA J (.cells #[vS [],vI G] bL) λL M=>∃N O P Q,(Builtin.append_ #[ce,ce] ce #[.slice u v x,.slice (vA L 0) 1 1]).run prog M=.ok (.slice O P Q) N/\∃R:Nat,R<f/\e R B O P Q N))) (K (.tuple #[.slice i j k,.bool true]) l))):Cf kO #[vS a,.slice b c d] w (Ret K):=ru func101 [(6,[(0,.one .str),(6,.one .slice)]),(28,[])] h
theorem yk (a:Option Addr)(b c:Nat){w K}(h:∃d:Nat->FP [.one .slice,shI],(∃e,d e none 0 0 (0:Int) w)/\∀e f g i j,aP 20 (∀k,d e f g i j k->ab (decide (j<(b:Int))) ((bx j (b:Int)/\Option.isSome a=true)/\∃l m,Ld bL (aw a j 2) k (.agg #[vS l,vI m])/\nA k (.cells #[vS [],vI 0] bL) λn o=>∃p,Sv bL (vA n 0) (.agg #[vS l,vI m]) o p/\∃q:FP [shB],(true/\∃r,Ld co (vA n 1) p (vI r)/\ab (decide (r >=0)) (true/\∃s,Ld co (vA n 1) p (vI s)/\uB fk #[.slice f g i,vI s] p λt u=>q (!t) u) (q false p))/\∀r,aP 9 (∀s,q r s->ab r (true/\∃t,Ld co (vA n 1) s (vI t)/\nA s (.cells #[vI t] co) λu v=>∃x y z A,(Builtin.append_ #[lu,lu] lu #[.slice f g i,.slice (vA u 0) 1 1]).run prog v=.ok (.slice y z A) x/\∃B:Nat,B<e/\d B y z A (i64.wrap (j+1)) x) (∃t:Nat,t<e/\d t f g i (i64.wrap (j+1)) s))) (K (.slice f g i) k))):Cf mb #[.slice a b c] w (Ret K):=ru func102 [(8,[(3,.one .slice),(8,shI)]),(19,[(21,shB)])] h
theorem yj (a:Option Addr)(b c:Nat)(d:Option Addr)(e f:Nat){w K}(h:∃g:Nat->FP [shI,shI],(∃i,g i (1:Int) (0:Int) w)/\∀i j k,aP 17 (∀l,g i j k l->ab (decide (k<(b:Int))) ((bx k (b:Int)/\Option.isSome a=true)/\∃m,Ld co (aw a k 1) l (vI m)/\(bx m (e:Int)/\Option.isSome d=true)/\(isSome (aw d m 2))/\∃n o p,Ld aA (Option.map (λq=>q.add 1) (aw d m 2)) l (.slice n o p)/\ab (decide ((i64.wrap (j*(o:Int)))>(24:Int))) (K (vI (i64.wrap (j*(o:Int)))) l) (∃q:Nat,q<i/\g q (i64.wrap (j*(o:Int))) (i64.wrap (k+1)) l)) (K (vI j) l))):Cf ma #[.slice a b c,.slice d e f] w (Ret K):=ru func103 [(8,[(5,shI),(10,shI)])] h
theorem uY (a:Option Addr)(b c:Nat)(d:Option Addr)(e f:Nat){w K}(h:∃g:Nat->FP [shI,shI],(∃i,g i (0:Int) (0:Int) w)/\∀i j k,aP 36 (∀l,g i j k l->ab (decide (k<(b:Int))) ((bx k (b:Int)/\Option.isSome a=true)/\∃m n,Ld bL (aw a k 2) l (.agg #[vS m,vI n])/\nA l (.cells #[vS [],vI 0] bL) λo p=>∃q,Sv bL (vA o 0) (.agg #[vS m,vI n]) p q/\true/\∃r,Ld ai (vA o 0) q (vS r)/\true/\∃s,Ld co (vA o 1) q (vI s)/\ab (decide (s<(0:Int))) (∃t:Nat,t<i/\g t (i64.wrap (j+((length r:Nat):Int))) (i64.wrap (k+1)) q) (true/\∃t,Ld co (vA o 1) q (vI t)/\(bx t (e:Int)/\Option.isSome d=true)/\(isSome (aw d t 2))/\∃u v x,Ld aA (Option.map (λy=>y.add 1) (aw d t 2)) q (.slice u v x)/\∃y:Nat->FP [shI,shI],(∃z,y z (0:Int) (0:Int) q)/\∀z A B,aP 9 (∀C,y z A B C->ab (decide (B<(v:Int))) ((bx B (v:Int)/\Option.isSome u=true)/\∃D,Ld ai (aw u B 1) C (vS D)/\∃E,(Builtin.max_ #[co,co] co #[vI A,vI ((length D:Nat):Int)]).run prog C=.ok (vI E) C/\∃F:Nat,F<z/\y F E (i64.wrap (B+1)) C) (ab (decide ((i64.wrap ((i64.wrap (j+((length r:Nat):Int)))+A))>(2000:Int))) (K (vI (i64.wrap ((i64.wrap (j+((length r:Nat):Int)))+A))) C) (∃D:Nat,D<i/\g D (i64.wrap ((i64.wrap (j+((length r:Nat):Int)))+A)) (i64.wrap (k+1)) C))))) (K (vI j) l))):Cf jV #[.slice a b c,.slice d e f] w (Ret K):=ru func104 [(8,[(5,shI),(13,shI)]),(33,[(8,shI),(32,shI)])] h
theorem Ol (c:UInt8):∀s:lU,(c∈s->0 <=Lib.indexByte s c/\s.take (Lib.indexByte s c).toNat=s.takeWhile (· !=c)/\s.drop ((Lib.indexByte s c).toNat+1)=(s.dropWhile (· !=c)).drop 1)/\(c∉s->Lib.indexByte s c= -1)
 |[]=>⟨λh=>(by cases h),λ_=>rfl⟩
 |x::s=>by
  obtain⟨I,J⟩:=Ol c s;unfold Lib.indexByte;by_cases y:x=c
  ·subst y;rw[beq_self_eq_true,if_pos rfl];exact⟨λ_=>⟨by decide,by simp,by simp⟩,λh=>absurd mem_cons_self h⟩
  ·rw[beq_eq_false_iff_ne.2 y,if_neg (by decide)];by_cases D:c∈s
   ·obtain⟨F,h1,E⟩:=I D;have H: ¬ (Lib.indexByte s c== -1)=true:=by rw[beq_iff_eq];omega
    refine⟨λ_=>?_,λh=>absurd (mem_cons_of_mem _ D) h⟩;rw[if_neg H];obtain⟨k,G⟩:=Int.eq_ofNat_of_zero_le F;rw[G]at h1 E ⊢;have e:((k:Int)+1).toNat=k+1:=by omega
    rw[Int.toNat_natCast]at h1 E;rw[e,List.take_succ_cons,h1,show k+1+1=(k+1)+1 from rfl,List.drop_succ_cons,E,List.takeWhile_cons_of_pos (by simpa using y),List.dropWhile_cons_of_pos (by simpa using y)];exact⟨by omega,rfl,rfl⟩
   ·have:=J D;refine⟨λh=>?_,λ_=>by rw[this];rfl⟩;rcases List.mem_cons.1 h with e|h
    ·exact absurd e.symm y
    ·exact absurd h D
theorem RE (s:lU)(c:UInt8):Lib.cut s [c]=if c∈s then(s.takeWhile (· !=c),(s.dropWhile (· !=c)).drop 1,true)else(s,[],false):=by
 obtain⟨h1,D⟩:=Ol c s;unfold Lib.cut;rw[Lib.index_one];by_cases h:c∈s
 ·obtain⟨y,E,F⟩:=h1 h;rw[if_pos y,if_pos h,E,<- F];rfl
 ·rw[D h,if_neg (by decide),if_neg h]
theorem JU (w:World)(n:Nat):bW w (w.drewN n):=⟨rfl,rfl,rfl,Nat.le_refl _,λ_ _=>rfl⟩
def M2 (p:Prt):List Value:=[vS p.1,vI p.2]
def TL:Ty Prt where
 k:=2
 pos:=by decide
 rep:=λ_ _ vs o=>vs=M2 o
 len:=λh=>by rw[h];rfl
 one:=fun{_ _ _ x} h v hv=>by rw[h]at hv;simp[M2]at hv;rcases hv with rfl|rfl<;>rfl
 keep:=λh _=>h
 mono:=λh _=>h
theorem FR:Flat TL:=λ_ _ _ _ _ _ h=>h
theorem U4 (s:lU)(h1: ¬ s=[])(y:s.length <=20):nmB s=s.all Lx:=by
 unfold nmB;rw[beq_eq_false_iff_ne.2 h1,decide_eq_true y];rfl
theorem Tl (s:lU)(c:UInt8)(E:s.length<4294967281)(w:World)(y:Env w):Cf lH #[vS s,vS [c]] w (Ret λv w'=>v=.tuple #[vS (if c∈s then s.takeWhile (· !=c)else s),vS (if c∈s then(s.dropWhile (· !=c)).drop 1 else[]),.bool (decide (c∈s))]/\bW w w'):=by
 obtain⟨m,D⟩:=y.max;refine(Tryz.strings_Cut (mkS s) (mkS [c]) m w E D).mono ?_;rintro _ _ ⟨rfl,n,rfl⟩;refine⟨_,rfl,?_,JU w n⟩;have e:Lib.cut (mkS s).data.toList (mkS [c]).data.toList=Lib.cut s [c]:=rfl;rw[e,RE];by_cases h:c∈s
 ·simp only[if_pos h,decide_eq_true h];rfl
 ·simp only[if_neg h,decide_eq_false h];rfl
theorem MQ (c:UInt8)(w:World):Cf cG #[.int .u8 ((c.toNat:Nat):Int)] w (Ret λv w'=>v=.bool (!Lx c)/\w'=w):=by
 apply sY;have key:∀b:Bool,(b=true↔¬ ((97 <=c.toNat/\c.toNat <=122)\/(48 <=c.toNat/\c.toNat <=57)))->Value.bool b=.bool (!Lx c):=λb E=>by
  congr 1;rw[Bool.eq_iff_iff,E,Bool.not_eq_true',<- Bool.not_eq_true];unfold Lx;simp only[Bool.or_eq_true,Bool.and_eq_true,dTx]
 refine ab.of (λh=>ab.of (λy=>⟨key _ ?_,rfl⟩) (λy=>⟨key _ ?_,rfl⟩)) (λh=>ab.of (λy=>ab.of (λD=>⟨key _ ?_,rfl⟩) (λD=>⟨key _ ?_,rfl⟩)) (λy=>⟨key _ ?_,rfl⟩))
 all_goals(simp only[dTx,dFx,true_iff,Bool.false_eq_true,false_iff]at*;omega)
theorem Kk (s:lU)(w:World):Cf ij #[vS s] w (Ret λv w'=>v=.bool (nmB s)/\bW w w'):=by
 apply yi;refine jE (w:=w) (¬ s=[]/\s.length <=20) (ab.of (λh=>⟨?_,Below.refl _ _⟩) (λh=>ab.of (λy=>⟨?_,Below.refl _ _⟩) (λy=>⟨rfl,by simpa using h,by have:=of_decide_eq_false y;omega⟩))) ?_
 ·rw[show s=[] from eq_of_beq h];rfl
 ·have:=of_decide_eq_true y;unfold nmB;rw[decide_eq_false (p:=s.length <=20) (by omega),Bool.false_and,Bool.and_false]
 rintro⟨h1,y⟩;obtain⟨E,a,n,c,R,H,G,Y⟩:=oI (P:=prog) aI bH cr w s (by omega) NoB;have F:=H.len;subst F;have S:=H.all;refine⟨E,a,_,c,R,?_⟩;refine aK (K:=λv w'=>v=.bool (s.any λx=> !Lx x)/\bW E w') ?_ ?_
 ·apply eY;refine aK (K:=λv w'=>v=vI (MG (λx=> !Lx x) s)/\bW E w') ?_ ?_
  ·apply fu;refine⟨qF (λx=> !Lx x) s E,qF.start _ _ _,λm i=>aP.of ?_ _⟩;intro V O;rcases O.go (by omega)with⟨j,hj,rfl,B,h3,hb,hy,F⟩|⟨h3,D,B⟩
   ·obtain⟨v,I,U⟩:=(S.below B).load1 (P:=prog) (i:=(j:Int)) cr rfl rfl (by simpa using hj);have:=CP U;subst this;simp only[Int.toNat_natCast]at I;refine ab.yes h3 ⟨⟨hb,S.isSome hj⟩,_,I,aK (MQ s[j] V) ?_⟩;rintro _ _ ⟨rfl,rfl⟩;exact⟨_,rfl,ab.of (λD=>⟨by rw[hy D],B⟩) (λD=>F D _ B)⟩
   ·exact ab.no h3 ⟨by rw[D],B⟩
  ·rintro _ aa ⟨rfl,M⟩;exact⟨_,rfl,by rw[Bm],M⟩
 ·rintro _ Z ⟨rfl,J⟩;refine⟨_,rfl,?_,ae G J G.size⟩;rw[U4 s h1 y,RV];congr 1;congr 1;funext x;simp
theorem iU:Whl prog au 2:=⟨⟨_,_,pO⟩,by kernel_rfl⟩
theorem Ge {a:Option Addr}{l c:Nat}{xs:List Cho}(h:Sl vq w A a l c xs)(y:i<xs.length):
 ∃(b:Option Addr) (n e:Nat),(Instr.loadAt au (.pointer (aw a (i:Int) 2))).run prog w=.ok (.agg #[.string (mkS xs[i].name),.slice b n e]) w/\Sl tS w A b n e xs[i].vals:=by
 obtain⟨vs,h1,b,n,e,rfl,D⟩:=iU.elem (T:=vq) rfl h y;exact⟨b,n,e,h1,D⟩
theorem Ko (c:Cho)(a:Option Addr)(l e:Nat)(G:aB w k ai [vS s]):
 Cf dq #[.agg #[vS c.name,.slice a l e],.pointer (some ⟨k,0,none⟩)] w (Ret λv w'=>v=.bool (c.name==s)/\bW w w'):=by
 apply rS;intro I E H D;have y:=(D▸ar w _:bW w E)
 have F:aB E I au [vS c.name,.slice a l e]:=aB.new H D;exact⟨rfl,_,F.load1 aI rfl rfl,_,(G.below y).load1 aI rfl rfl,rfl,y⟩
theorem IA {a:Option Addr}{n c:Nat}{xs:List Cho}(D:Sl vq w A a n c xs)(O:aB w k ai [vS s]):
 Cf br #[.slice a n c,.func (.func dq) #[] #[.pointer (some ⟨k,0,none⟩)]] w (Ret λv w'=>v=vI (atC xs s)/\bW w w'):=by
 apply dQ;have F:=D.len;have R:=D.le;subst F;refine⟨qF (λc=>c.name==s) xs w,qF.start _ _ _,λm i=>aP.of ?_ _⟩;intro Y J;rcases J.go R with⟨j,H,rfl,B,E,M,V,F⟩|⟨E,y,B⟩
 ·obtain⟨b,l,e,U,_⟩:=Ge (D.below B) H;refine ab.yes E ⟨⟨M,D.isSome H⟩,_,_,_,_,U,aK (Ko xs[j] b l e (O.below B)) ?_⟩;rintro _ w' ⟨rfl,I⟩;have G:=ae B I B.size;exact⟨_,rfl,ab.of (λy=>⟨by rw[<- V y];rfl,G⟩) (λy=>F y _ G)⟩
 ·exact ab.no E ⟨by rw[<- y];rfl,B⟩
def NH (l:List Cho)(s:lU)(w:World)(v:Value)(w':World):Prop:=bW w w'/\match Db l s with
 |none=>v=.tuple #[.slice none 0 0,.bool false]
 |some ps=>∃a n c,v=.tuple #[.slice a n c,.bool true]/\Ow TL bL w' NoB a n c ps/\bo w.heap.size a
theorem Sn (s:lU)(de:s.length <=1000000){bw c1:Nat}{cs:List Cho}(M:Sl vq w A p bw c1 cs)(bl:Env w):
 Cf kO #[vS s,.slice p bw c1] w (Ret (NH cs s w)):=by
 apply wo;refine⟨λm r a n c w'=>∃out:List Prt,m=r.length/\out.length+r.length <=s.length/\Ow TL bL w' NoB a n c out/\bo w.heap.size a/\bW w w'/\Db cs s=(Db cs r).map λr=>out++r,
  ⟨_,[],rfl,by simp,Ow.nil _ _ _ _,bo.none _,Below.refl _ _,by simp⟩,λm r a n c=>aP.of ?_ _⟩
 rintro c3 ⟨out,rfl,dc,aj,ad,B,I⟩;refine ab.of (λh1=>?_) (λh1=>?_)
 rotate_left
 ·have h1:r=[]:=by simpa using h1
  subst h1;rw[Sy]at I;refine⟨B,?_⟩;rw[I];exact⟨a,n,c,rfl,by simpa using aj,ad⟩
 have h1:r≠[]:=by simpa using h1
 have dd:1 <=r.length:=List.length_pos_iff.2 h1;refine aK (Tl r 123 (by omega) c3 (bl.step B)) ?_;rintro _ dj ⟨rfl,V⟩;have a0:=ae B V B.size;refine⟨_,_,_,rfl,λdf dk bp bt=>?_⟩;by_cases E:(123:UInt8)∈r
 rotate_left
 ·rw[if_neg E,decide_eq_false E]at*;obtain⟨O,U,af,aa,an,ag,ac,F⟩:=uQ (ty:=ce) FR jb iZ (by decide) (aj.below V) ad a0 bp bt (x:=(r,-1)) (vs:=M2 (r,-1)) rfl (cm:=1) (by omega);refine⟨O,U,af,aa,an,ab.yes rfl ⟨F,?_⟩⟩;rw[I,M4 h1 E];exact⟨_,_,_,rfl,ag,ac⟩
 rw[if_pos E,decide_eq_true E]at*;obtain⟨O,U,af,aa,an,ag,ac,F⟩:=uQ (ty:=ce) FR jb iZ (by decide) (aj.below V) ad a0 bp bt (x:=(r.takeWhile (· !=123),-1)) (vs:=M2 (r.takeWhile (· !=123),-1)) rfl (cm:=1) (by omega);refine⟨O,U,af,aa,an,ab.no rfl ?_⟩;have c4:=fh 123 r;have c8:=fh 125 (dF 123 r);show Calls _ _ #[vS (dF 123 r),_] _ _;refine aK (Tl (dF 123 r) 125 (by omega) O (bl.step F)) ?_;rintro _ av ⟨rfl,a9⟩;have B31:=ae F a9 F.size;refine⟨_,_,_,rfl,λbu b0 b9 bs=>?_⟩;have b3:=(bs▸ar av _:bW av b0)
 have A10:aB b0 bu ai [vS []]:=aB.new b9 bs;generalize D:(if(125:UInt8)∈dF 123 r then(dF 123 r).takeWhile (· !=125)else dF 123 r)=K;obtain⟨wx,cv,J,b7⟩:=A10.store dG (i:=0) (v:=vS K) rfl (by decide) (λc M=>by simp[Value.cells]at M;subst M;rfl);have J:aB wx bu ai [vS K]:=J;have bk:bW av wx:=Below.put b3 b7 (by omega);have R:=ae B31 bk B31.size;have ch:=(ag.below a9).below bk;refine⟨wx,cv,?_⟩;refine aK (IA (M.below R) J) ?_;rintro _ b1 ⟨rfl,Y⟩;have B37:=ae R Y R.size;have Z:∀{W:World},bW w W-> ¬ TA cs r->NH cs s w (.tuple #[.slice none 0 0,.bool false]) W:=fun{W} b8 cc=>⟨b8,by rw[I,Sw h1 E cc];rfl⟩
 refine⟨_,rfl,iV (λW=>bW b1 W/\TA cs r) ?_ ?_⟩
 ·by_cases y:(125:UInt8)∈dF 123 r
  rotate_left
  ·rw[decide_eq_false y];exact ab.yes rfl (Z B37 λh=>y h.1)
  rw[decide_eq_true y];rw[if_pos y]at D;refine ab.no rfl ⟨K,(J.below Y).load1 aI rfl rfl,?_⟩;refine aK (Kk K b1) ?_;rintro _ dl ⟨rfl,bb⟩;have a8:=ae B37 bb B37.size;refine⟨_,rfl,ab.of (λG=>Z a8 λh=>?_) (λG=>ab.of (λH=>Z a8 λh=>?_) (λH=>⟨bb,y,?_,?_⟩))⟩
  ·have G:nmB K=false:=by simpa using G
   have:=h.2.1;rw[D,G]at this;cases this
  ·have H:=of_decide_eq_true H;have:=h.2.2;rw[D]at this;omega
  ·rw[D];simpa using G
  ·have H:=of_decide_eq_false H;rw[D];omega
 rintro W ⟨be,bq⟩ dg dm cb cd;have y:=bq.1;rw[if_pos y]at D;have cn:=(ch.below Y).below be;obtain⟨c2,b2,cf,b5,cp,cl,b6,b4⟩:=uQ (ty:=ce) FR jb iZ (by decide) cn ac (ae B37 be B37.size) cb cd (x:=([],atC cs K)) (vs:=M2 ([],atC cs K)) rfl (cm:=1) (by simp;omega);refine⟨c2,b2,cf,b5,cp,(dF 125 (dF 123 r)).length,by omega,_,?_,?_,cl,b6,b4,?_⟩
 ·rw[if_pos y];rfl
 ·rw[if_pos y];show _+(dF 125 (dF 123 r)).length <=_;have c9:2 <=r.length:=by
   have:1 <=(dF 123 r).length:=List.length_pos_iff.2 (List.ne_nil_of_mem y);omega
  simp;omega
 ·rw[if_pos y,I,P2 h1 E bq,D];exact(Kj (Db cs (dF 125 (dF 123 r))) out [(r.takeWhile (· !=123),-1),([],atC cs K)]).trans (by rw[append_assoc out];rfl)
theorem Ow.cells {D:Type}{T:Ty D}{a:Option Addr}{n c:Nat}{xs:List D}(h:Ow T t w A a n c xs){g:Nat}(y:fm a=some g):∃o:Obj,w.heap[g]? =some o/\o.isCells=true:=by
 rcases h.2.2.2 with⟨e,_⟩|⟨E,cur,fr,e,F,_⟩
 ·rw[e]at y;cases y
 ·rw[e]at y;have:E=g:=by simpa[fm]using y
  subst this;exact⟨_,F,rfl⟩
def NG (w:World)(row:Option Nat):Prop:=∀r,row=some r->∃o:Obj,w.heap[r]? =some o/\o.isCells=false
theorem aB.turned {w w':World}{vs:List Value}{row:Option Nat}(h:aB w k t vs)(E:w.grownBy w' row)(F:NG w row):aB w' k t vs:=
 h.grown E λe=>by
  obtain⟨o,y,D⟩:=F k e.symm;rw[show w.heap[k]? =_ from h]at y;cases y;cases D
theorem Ow.turned {F:Type}{T:Ty F}{w w':World}{a:Option Addr}{n c:Nat}{xs:List F}{row:Option Nat}(h:Ow T t w NoB a n c xs)(D:w.grownBy w' row)(J:NG w row):Ow T t w' NoB a n c xs:=by
 cases row with
 |none=>exact h.keep (jf D λb M e=>by cases e)
 |some r=>
  refine h.put (λg H e=>?_) D;subst e;obtain⟨o,I,G⟩:=h.cells H;obtain⟨O,E,y⟩:=J g rfl;rw[I]at E;cases E;rw[G]at y;cases y
theorem Uq {t:lU}(h:t.all (λc=> !pU c)=true):lw t=t:=by
 unfold lw;induction t with
 |nil=>rfl
 |cons c t y=>
  rw[List.all_cons,Bool.and_eq_true]at h;rw[List.takeWhile_cons,h.1,if_pos rfl,y h.2]
theorem Tk {t:lU}(D:k<t.length)(h:(t.take k).all (λc=> !pU c)=true)(y:pU t[k]=true):t.take k=lw t:=by
 unfold lw
 conv=>rhs;rw[<- List.take_append_drop k t]
 rw[List.takeWhile_append_of_pos (by intro x E;exact List.all_eq_true.1 h x E),drop_eq_getElem_cons D,List.takeWhile_cons,y];simp
theorem GI (s:lU)(d1:s.length <=90000000)(w:World):Cf ra #[vS s] w (Ret (KW s w)):=by
 apply DZ;intro k2 G dj cn;have U:=(cn▸ar w _:bW w G)
 have D:aB G k2 aC (rN (0,[])):=aB.new dj cn;have be:w.heap.size <=k2:=by omega
 have d4:=Jt s;refine aK (GF s (by omega) G) ?_;rintro _ d5 ⟨rfl,cp⟩;rw[cp];clear cp;refine⟨_,rfl,?_⟩;have hV:eZ s=if trimB s=[]\/Lib.hasPrefix (trimB s) [47,47]=true then((0,[]),false,0)else MP (nw (lw (trimB s))).1 (bY (nw (lw (trimB s))).2):=rfl;generalize trimB s=t at*;refine jE (w:=G) (¬ (t=[]\/Lib.hasPrefix t [47,47]=true)) ?_ (λde=>?_)
 ·refine gX (w:=G) (decide (t=[]\/Lib.hasPrefix t [47,47]=true)) ?_ ?_
  ·refine ab.of (λh=>⟨rfl,by rw[decide_eq_true (.inl (eq_of_beq h))]⟩) (λh=>?_);refine aK (mr t [47,47] G) ?_;rintro _ d6 ⟨rfl,ds⟩;refine⟨_,rfl,ds,?_⟩;rw[Bool.eq_iff_iff,dTx];exact⟨.inr,λy=>y.elim (λy=>absurd y (beq_eq_false_iff_ne.1 h)) id⟩
  ·refine ab.of (λh=>?_) (λh=>⟨rfl,of_decide_eq_false h⟩);exact xZ (0,[]) D rfl U be λc8 V=>⟨by rw[hV,if_pos (of_decide_eq_true h)],V⟩
 ·rw[if_neg de]at hV;have d2:=Ia t;refine⟨λm c i w'=>w'=G/\((c=t/\∃k:Nat,k <=t.length/\i=(k:Int)/\m=t.length+1-k/\(t.take k).all (λc=> !pU c)=true)\/(c=lw t/\i=((lw t).length:Int)+1/\m=0)),⟨_,rfl,.inl ⟨rfl,0,by omega,rfl,rfl,rfl⟩⟩,?_⟩;intro m c i;refine aP.of ?_ _;rintro w' ⟨cl,bp⟩;rw[cl];clear cl;refine ab.of (λh=>?_) (λh=>?_)<;>simp only[dTx,dFx]at h
  ·rcases bp with⟨b9,k,dg,rfl,rfl,H⟩|⟨rfl,rfl,rfl⟩
   ·rw[b9]at h ⊢;clear b9;have Z:k<t.length:=by omega
    have cd:(0 <=(k:Int)/\(k:Int)<((t.length:Nat):Int)):=⟨by omega,h⟩
    have b0:=om t[k] 32;have b1:=om t[k] 9;rw[show(((32:UInt8).toNat:Nat):Int)=32 from rfl]at b0;rw[show(((9:UInt8).toNat:Nat):Int)=9 from rfl]at b1;rw[byte_at Z,b0,b1];refine gX (w:=G) (pU t[k]) ?_ ?_
    ·refine⟨cd,ab.of (λD=>⟨rfl,?_⟩) (λD=>⟨cd,rfl,?_⟩)⟩
     ·unfold pU;rw[D];rfl
     ·unfold pU;rw[D,Bool.false_or]
    ·refine ab.of (λD=>⟨⟨by omega,by omega⟩,?_⟩) (λD=>?_)
     ·rintro _ rfl;rw[Int.toNat_natCast,Tk Z H D];have e:=congrArg length (Tk Z H D);rw[length_take]at e;exact⟨0,by omega,rfl,.inr ⟨rfl,by rw[wrJ];omega,rfl⟩⟩
     ·exact⟨t.length+1-(k+1),by omega,rfl,.inl ⟨rfl,k+1,by omega,by rw[wrJ];omega,rfl,by rw[take_succ_eq_append_getElem Z,all_append,H];simp[D]⟩⟩
   ·exfalso;omega
  ·have b8:c=lw t:=by
    rcases bp with⟨rfl,k,dg,rfl,rfl,H⟩|⟨y,-,-⟩
    ·have:k=c.length:=by omega
     subst this;rw[take_length]at H;exact(Uq H).symm
    ·exact y
   rw[b8];rw[Pg]at hV;clear bp b8 h;generalize lw t=u at*;intro k6 c4 dk cv;have b7:=(cv▸ar G _:bW G c4)
   have dd:=ae U b7 U.size;obtain⟨bs,dr,an,cc⟩:=gG.store0 (P:=prog) (cs:=rN (1,[])) rfl (uW _) (aB.new dk cv:aB c4 k6 aC (rN (0,[]))) rfl;have dv:=D.lt;have aa:k2≠k6:=by omega
   have Y:w.heap.size <=k6:=by have:=U.size;omega
   have ag:=(D.below b7).grown cc (fM aa);have a0:=Below.put dd cc Y;refine⟨bs,dr,?_⟩;refine⟨λn w'=>∃k,eZ s=MP k (bY n)/\n.length <=u.length/\aB w' k6 aC (rN (k,[]))/\aB w' k2 aC (rN (0,[]))/\bW w w',?_,?_⟩
   ·refine aK (mr u [33] bs) ?_;rintro _ bt ⟨rfl,M⟩;rw[M];clear M;refine⟨_,rfl,ab.of (λc1=>?_) (λc1=>?_)⟩
    ·rw[if_pos c1]at hV;obtain⟨O,bl,av,J⟩:=an.put (P:=prog) mE (i:=0) (v:=vI 3) (by decide) rfl rfl;have dl:1 <=u.length:=by have:=Lib.hasPrefix_le c1;simpa using this
     refine⟨rfl,O,bl,⟨by decide,by omega⟩,?_⟩;rintro _ rfl;exact⟨3,hV,by simp,av,ag.grown J (fM aa),Below.put a0 J Y⟩
    rw[if_neg (by rw[c1];decide)]at hV;refine aK (mr u [42,46] bs) ?_;rintro _ bt ⟨rfl,M⟩;rw[M];clear M;refine⟨_,rfl,ab.of (λE=>?_) (λE=>?_)⟩
    ·rw[if_pos E]at hV;obtain⟨O,bl,av,J⟩:=an.put (P:=prog) mE (i:=0) (v:=vI 2) (by decide) rfl rfl;have dl:2 <=u.length:=by have:=Lib.hasPrefix_le E;simpa using this
     refine⟨rfl,O,bl,⟨by decide,by omega⟩,?_⟩;rintro _ rfl;exact⟨2,hV,by simp,av,ag.grown J (fM aa),Below.put a0 J Y⟩
    ·rw[if_neg (by rw[E];decide)]at hV;exact⟨1,hV,Nat.le_refl _,an,ag,a0⟩
   ·intro n;refine aP.of ?_ _;rintro bt ⟨k,hV,cf,dc,c9,b5⟩;refine aK (ki n (by omega) bt) ?_;rintro _ O ⟨rfl,bb⟩;have b6:=ae b5 bb b5.size;rw[iy];refine⟨_,_,rfl,?_⟩;have ac:=pD λx y=>iX (s:=n) y;refine bn.new (zs:=jZ.cells) (cs:=((bY n).getD jZ).cells) rfl (Hst.len ac) (Hst.one _) O λd3 bq du I a9=>?_;have R:=ae b6 a9 b6.size;have b3:=(c9.below bb).below a9;have b4:=(dc.below bb).below a9;refine iV (λw'=>∃h:Hst,bY n=some h/\eZ s=((k,h.name),true,0)/\bW bq w') ?_ ?_
    ·refine HP (λb w'=>b=decide (eZ s=((0,[]),false,51))/\bW bq w'/\(b=false->∃h:Hst,bY n=some h/\eZ s=((k,h.name),true,0))) ?_ ?_
     ·cases bk:bY n with
      |none=>
       rw[bk]at hV;exact ab.yes rfl ⟨by rw[hV];rfl,Below.refl _ _,λy=>by cases y⟩
      |some h=>
       rw[bk]at hV I ac;have hV:eZ s=if h.kind=1/\ ¬ (k=3/\(aZ h).length<2)then((k,h.name),true,0)else((0,[]),false,51):=hV;have bu: ¬ (h.kind=1/\ ¬ (k=3/\(aZ h).length<2))->(true:Bool)=decide (eZ s=((0,[]),false,51)):=λy=>by rw[hV,if_neg y];rfl
       have xN:(h.kind=1/\ ¬ (k=3/\(aZ h).length<2))->(false:Bool)=decide (eZ s=((0,[]),false,51))/\(∃b2:Hst,some h=some b2/\eZ s=((k,b2.name),true,0)):=λy=>by
        rw[hV,if_pos y];exact⟨(decide_eq_false (by intro y;have:=congrArg (λz=>z.2.1) y;cases this)).symm,h,rfl,rfl⟩
       refine ab.no rfl ⟨rfl,_,I.load1 eI rfl rfl,ab.of (λc1=>⟨bu λy=>?_,Below.refl _ _,λy=>by cases y⟩) (λc1=>?_)⟩
       ·have c1:(h.kind !=1)=true:=c1;rw[y.1]at c1;simp at c1
       have c1:(h.kind !=1)=false:=c1;have c1:h.kind=1:=by simpa using c1
       refine⟨rfl,_,b4.load1 eI rfl rfl,ab.of (λE=>?_) (λE=>?_)⟩
       ·have E:k=3:=eq_of_beq E;refine⟨_,bn.load0 I (Hst.len ac),?_⟩;have cf:h.name.length <=80000000:=by have:=nP bk;omega
        refine aK (js ac cf bq) ?_;rintro _ c2 ⟨a,l,c,rfl,dm,-,F⟩;refine⟨_,_,_,rfl,?_⟩;have ch:=dm.len;simp only[Option.getD_some]at ch;rw[ch];by_cases bw:(aZ h).length<2
        ·try dsimp only
         rw[decide_eq_true (show(((aZ h).length:Nat):Int)<2 by omega)];exact⟨bu λy=>y.2 ⟨E,bw⟩,F,λy=>by cases y⟩
        ·try dsimp only
         rw[decide_eq_false (show ¬ (((aZ h).length:Nat):Int)<2 by omega)];have g:=xN ⟨c1,λy=>bw y.2⟩;exact⟨g.1,F,λ_=>g.2⟩
       ·have g:=xN ⟨c1,λy=>by rw[y.1]at E;cases E⟩;exact⟨g.1,Below.refl _ _,λ_=>g.2⟩
     ·rintro b c2 ⟨V,F,df⟩;refine ab.of (λc=>?_) (λc=>?_)
      ·rw[c,eq_comm,dTx]at V;exact xZ (0,[]) (b3.below F) rfl (ae R F R.size) be λc8 a8=>⟨by rw[V],a8⟩
      ·obtain⟨h,ad,af⟩:=df c;exact⟨h,ad,af,F⟩
    ·rintro c2 ⟨h,ad,af,F⟩;rw[ad]at I;refine⟨rfl,_,(I.below F).load1 aI rfl rfl,rfl,?_⟩;obtain⟨c3,dn,aj,cb⟩:=(b4.below F).put (P:=prog) dG (i:=1) (v:=vS h.name) (show 1<2 by decide) rfl rfl;have aj:aB c3 k6 aC (rN (k,h.name)):=aj;refine⟨c3,dn,_,_,gG.load0 aj rfl,?_⟩;exact xZ (k,h.name) ((b3.below F).grown cb (fM aa)) rfl (Below.put (ae R F R.size) cb Y) be λc8 a8=>⟨by rw[af],a8⟩
abbrev Pth:=List lU
def GS (r:Rul):Pth:=(bE 46 [] r.2).reverse
def Gy (p:Pth):List Pth->Nat->Option Nat
 |[],_=>none
 |q::l,i=>if p=q then some i else Gy p l (i+1)
theorem rI {p:Pth} :∀{l:List Pth} {i:Nat},Gy p l i=none↔p∉l
 |[],i=>by simp[Gy]
 |q::l,i=>by
  unfold Gy;by_cases h:p=q
  ·simp[h]
  ·rw[if_neg h,rI];simp[h]
theorem we {p:Pth} :∀{l:List Pth} {i j:Nat},Gy p l i=some j->i <=j/\l[j-i]? =some p
 |[],i,j,h=>by cases h
 |q::l,i,j,h=>by
  unfold Gy at h;split at h
  ·rename_i e;cases h;exact⟨Nat.le_refl _,by rw[Nat.sub_self,e];rfl⟩
  ·obtain⟨h1,y⟩:=we h;exact⟨by omega,by rw[show j-i=(j-(i+1))+1 by omega];exact y⟩
theorem Ag (p q:Pth):∀(l:List Pth) (i:Nat),Gy p (l++[q]) i=(Gy p l i).or (if p=q then some (i+l.length)else none)
 |[],i=>by
  show(if p=q then some i else none)=_;split<;>rfl
 |x::l,i=>by
  show(if p=x then some i else Gy p (l++[q]) (i+1))=(if p=x then some i else Gy p l (i+1)).or _;split
  ·rfl
  ·rw[Ag p q l (i+1)];congr 2;simp;omega
abbrev xB:=Int×lU
structure NJ (ps:List Pth)(kvs:List (xB×Int)):Prop where
 root:ps[0]? =some []
 first:∀(i:Nat) p,ps[i]? =some p->Gy p ps 0=some i
 closed:∀p l,p++[l]∈ps->p∈ps
 edge:∀(n:Nat) (l:lU),mM ((n:Int),l) kvs=match ps[n]? with
  |some p=>(Gy (p++[l]) ps 0).map λi=>(i:Int)
  |none=>none
theorem SO:NJ [[]] [] where
 root:=rfl
 first:=by
  intro i p h
  match i,h with
  |0,h=>cases h;rfl
 closed:=by intro p l h;simp at h
 edge:=by
  intro n l
  match n with
  |0=>rfl
  |n+1=>rfl
theorem NJ.pos {ps:List Pth}{y:List (xB×Int)}(t:NJ ps y){p:Pth}(h:p∈ps):∃i,Gy p ps 0=some i/\ps[i]? =some p:=by
 cases hp:Gy p ps 0 with
 |none=>exact absurd h (rI.1 hp)
 |some i=>exact⟨i,rfl,by simpa using(we hp).2⟩
theorem NJ.grow {ps:List Pth}{J:List (xB×Int)}(t:NJ ps J){p:Pth}{l:lU}(y:ps[n]? =some p)(I:p++[l]∉ps):NJ (ps++[p++[l]]) (J++[(((n:Int),l),(ps.length:Int))]) where
 root:=by
  have:=t.root;rw[List.getElem?_append_left (by have:=(List.getElem?_eq_some_iff.1 this).1;exact this)];exact this
 first:=by
  intro i q h;rw[Ag];by_cases M:i<ps.length
  ·rw[List.getElem?_append_left M]at h;rw[t.first i q h];rfl
  ·rw[List.getElem?_append_right (by omega)]at h;have E:i=ps.length:=by
    have:=(List.getElem?_eq_some_iff.1 h).1;simp at this;omega
   subst E;rw[Nat.sub_self]at h;cases h;rw[rI.2 I,if_pos rfl];simp
 closed:=by
  intro q x h;rw[mem_append]at h ⊢;rcases h with h|h
  ·exact .inl (t.closed q x h)
  ·rw[mem_singleton]at h;have:=List.append_inj_left' h rfl;subst this;exact .inl (List.mem_of_getElem? y)
 edge:=by
  intro m x;rw[vO,t.edge m x];by_cases H:m<ps.length
  ·rw[List.getElem?_append_left H];obtain⟨q,G⟩:∃q,ps[m]? =some q:=⟨_,List.getElem?_eq_getElem H⟩
   rw[G];simp only;rw[Ag];have e:(((m:Int),x)=((n:Int),l))↔(q++[x]=p++[l]):=by
    constructor
    ·intro h;have h1:m=n:=by have:=congrArg Prod.fst h;simp at this;omega
     have F:x=l:=congrArg Prod.snd h;subst h1 F;rw[G]at y;rw[Option.some.inj y]
    ·intro h;have h1:=List.append_inj_left' h rfl;have F:=List.append_inj_right' h rfl;subst h1;have:=(t.first m q G).symm.trans (t.first n q y);rw[Option.some.inj this,List.singleton_inj.1 F]
   cases hp:Gy (q++[x]) ps 0 with
   |some i=>rfl
   |none=>
    by_cases D:q++[x]=p++[l]
    ·rw[if_pos (e.2 D),if_pos D];simp
    ·rw[if_neg (λh=>D (e.1 h)),if_neg D];rfl
  ·have O:n<ps.length:=(List.getElem?_eq_some_iff.1 y).1;rw[List.getElem?_eq_none (l:=ps) (by omega)];rw[if_neg (λh=>by have:=congrArg Prod.fst h;simp at this;omega)];by_cases E:m=ps.length
   ·subst E;rw[List.getElem?_append_right (Nat.le_refl _),Nat.sub_self];simp only[List.getElem?_cons_zero];have h1:Gy (p++[l]++[x]) (ps++[p++[l]]) 0=none:=by
     rw[rI,mem_append,mem_singleton];rintro(h|h)
     ·exact I (t.closed _ _ h)
     ·have:=congrArg length h;simp at this
    rw[h1];rfl
   ·rw[List.getElem?_append_right (by omega),List.getElem?_eq_none (l:=[p++[l]]) (by simp;omega)];rfl
def marks (rs:List Rul)(p:Pth):List Bool:=(List.range 4).map fun(k:Nat)=>rs.any λr=>decide (r.1=(k:Int)/\GS r=p)
theorem vQ (y:List Rul)(p:Pth):(marks y p).length=4:=by simp[marks]
theorem IL (y:List Rul)(p:Pth)(k:Nat)(h:k<4):(marks y p)[k]? =some (y.any λr=>decide (r.1=(k:Int)/\GS r=p)):=by
 unfold marks;rw[List.getElem?_map,List.getElem?_range h];rfl
structure Tab (ps:List Pth)(es:List (List Bool))(rs:List Rul):Prop where
 len:es.length=ps.length
 mark:∀(i:Nat) p,ps[i]? =some p->es[i]? =some (marks rs p)
 rules:∀r∈rs,GS r∈ps
theorem VH:Tab [[]] [[false,false,false,false]] [] where
 len:=rfl
 mark:=by
  intro i p h
  match i,h with
  |0,h=>cases h;rfl
 rules:=by intro r h;cases h
theorem Tab.grow {ps:List Pth}{E:List (List Bool)}{D:List Rul}(t:Tab ps E D){q:Pth}(H:q∉ps):Tab (ps++[q]) (E++[[false,false,false,false]]) D where
 len:=by rw[length_append,length_append,t.len];rfl
 mark:=by
  intro i p h;by_cases F:i<ps.length
  ·rw[List.getElem?_append_left F]at h;rw[List.getElem?_append_left (by rw[t.len];exact F)];exact t.mark i p h
  ·rw[List.getElem?_append_right (by omega)]at h;have G:i=ps.length:=by
    have:=(List.getElem?_eq_some_iff.1 h).1;simp at this;omega
   subst G;rw[Nat.sub_self]at h;cases h;rw[List.getElem?_append_right (by rw[t.len];exact Nat.le_refl _),t.len,Nat.sub_self];show some _=some _;congr 1;have:∀k:Nat,(D.any λr=>decide (r.1=(k:Int)/\GS r=q))=false:=λk=>by
    rw[List.any_eq_false];intro r y;simp only[dTx];rintro⟨-,he⟩;exact H (he▸t.rules r y)
   unfold marks;simp only[List.range_succ,List.range_zero,map_append,map_nil,map_cons,nil_append,this];rfl
 rules:=λr y=>mem_append_left _ (t.rules r y)
theorem Tab.rule {ps:List Pth}{U:List (xB×Int)}{G:List (List Bool)}{F:List Rul}(T:NJ ps U)(t:Tab ps G F){r:Rul}(I:r.1=(k:Int))(D:ps[n]? =some (GS r))(M:k<4):
 Tab ps (G.set n ((marks F (GS r)).set k true)) (F++[r]) where
 len:=by rw[List.length_set,t.len]
 mark:=by
  intro i p h;have R:n<ps.length:=(List.getElem?_eq_some_iff.1 D).1;by_cases E:n=i
  ·subst E;have hp:p=GS r:=by rw[D]at h;exact(Option.some.inj h).symm
   subst hp;rw[List.getElem?_set_self (by rw[t.len];exact R)];congr 1;apply List.ext_getElem?;intro j;by_cases H:j<4
   ·rw[IL _ _ _ H,List.getElem?_set,vQ];by_cases J:k=j
    ·subst J;rw[if_pos rfl,if_pos M,List.any_append];simp[I]
    ·rw[if_neg J,IL _ _ _ H,List.any_append];have: ¬ r.1=(j:Int):=by rw[I];omega
     simp[this]
   ·rw[List.getElem?_eq_none (by simp[vQ];omega),List.getElem?_eq_none (by rw[vQ];omega)]
  ·rw[List.getElem?_set_ne E,t.mark i p h];congr 1;unfold marks;apply List.map_congr_left;intro k' _;rw[List.any_append];have:GS r≠p:=by
    intro O;subst O;have:=(T.first i _ h).symm.trans (T.first n _ D);exact E (Option.some.inj this).symm
   simp[this]
 rules:=by
  intro x y;rcases List.mem_append.1 y with y|y
  ·exact t.rules x y
  ·rw[mem_singleton]at y;subst y;exact List.mem_of_getElem? D
theorem Pu (s:lU):eF (eF s)=eF s:=by
 have h:∀n,n<256->Da (Da (UInt8.ofNat n))=Da (UInt8.ofNat n):=by decide+kernel
 unfold eF;rw[List.map_map];apply List.map_congr_left;intro c _;have:=h c.toNat (by have:=c.toNat_lt;omega);rw[UInt8.ofNat_toNat]at this;exact this
theorem Xc (s:lU):(eF s).head?=some 91↔s.head?=some 91:=by
 cases s with
 |nil=>simp[eF]
 |cons c r=>
  have h:∀n,n<256->(Da (UInt8.ofNat n)=91↔UInt8.ofNat n=91):=by decide+kernel
  have:=h c.toNat (by have:=c.toNat_lt;omega);rw[UInt8.ofNat_toNat]at this;simpa[eF]using this
theorem O4 {h:Hst}(e:bY s=some h)(J:h.kind=1):h=⟨1,eF s,ad0⟩/\bY (eF s)=some h/\(eF s).length <=253:=by
 have I:=e;unfold bY at e;split at e
 ·split at e
  ·have:=JD e;omega
  ·cases e
 rename_i F;split at e
 ·cases E:v4V s with
  |none=>rw[E]at e;cases e
  |some a=>
   rw[E]at e;have:h.kind=2:=by rw[<- Option.some.inj e]
   omega
 rename_i G;split at e
 ·rename_i y;have D:=Option.some.inj e;refine⟨D.symm,?_,by simpa[eF]using y.1⟩;unfold bY;rw[if_neg (λH=>F ((Xc s).1 H)),Pu,if_neg G,if_pos ⟨by simpa[eF]using y.1,y.2⟩,D]
 ·cases e
def TD (r:Rul):Hst:=⟨1,r.2,ad0⟩
theorem Qf (r:Rul):(TD r).ok:=rfl
theorem MJ (u:lU):(nw u).1=1\/(nw u).1=2\/(nw u).1=3:=by
 unfold nw;split
 ·exact .inr (.inl rfl)
 split
 ·exact .inr (.inr rfl)
 ·exact .inl rfl
structure JO (r:Rul):Prop where
 kind:r.1=1\/r.1=2\/r.1=3
 len:r.2.length <=253
 host:bY r.2=some (TD r)
theorem SG {r:Rul}(h:Qg r=true):JO r:=by
 unfold Qg at h;rw[Bool.and_eq_true,Bool.and_eq_true,beq_iff_eq,BQ]at h;obtain⟨h1,y,D⟩:=h;generalize zv r=s at*;unfold eZ at h1 y D;split at h1
 ·rename_i E;rw[if_pos E]at y;cases y
 ·rename_i E;rw[if_neg E]at y D;have R:=MJ (lw (trimB s));generalize nw (lw (trimB s))=U at*;obtain⟨k,n⟩:=U;unfold MP at h1 y D;cases F:bY n with
  |none=>simp only[F]at y;cases y
  |some g=>
   simp only[F]at h1 y D;split at y
   ·rename_i I;rw[if_pos I]at D;obtain⟨H,M,O⟩:=O4 F I.1;have J:r.1=k:=by rw[<- D]
    have G:r.2=eF n:=by rw[<- D,H]
    refine⟨by rw[J];exact R,by rw[G];exact O,?_⟩;unfold TD;rw[G,M,H]
   ·cases y
theorem JO.right {r:Rul}(h:JO r):mh (TD r)=true:=by
 unfold mh;have:mo (TD r)=r.2:=by unfold mo TD;rw[if_pos rfl]
 rw[this,h.host];exact(rB (Qf r) (Qf r)).2 rfl
theorem JO.labels {r:Rul}(h:JO r):aZ (TD r)=bE 46 [] r.2:=by
 unfold aZ;rw[if_pos ⟨rfl,h.right⟩];rfl
theorem JO.ne {r:Rul}(h:JO r):(aZ (TD r)).length≠0:=by
 rw[h.labels];have:=List.length_pos_iff.2 (jN 46 r.2 []);omega
theorem NJ.take {ps:List Pth}{E:List (xB×Int)}(t:NJ ps E):∀(j:Nat) (p:Pth),p∈ps->p.length <=j->∀k,p.take k∈ps
 |0,p,hp,D,k=>by
  have:p=[]:=List.length_eq_zero_iff.1 (by omega);subst this;rw[List.take_nil];exact hp
 |j+1,p,hp,D,k=>by
  by_cases y:p.length <=k
  ·rw[take_of_length_le y];exact hp
  ·obtain⟨q,l,rfl⟩:∃q l,p=q++[l]:=by
    rcases List.eq_nil_or_concat p with h|⟨q,l,h⟩
    ·subst h;simp at y
    ·exact⟨q,l,by simpa using h⟩
   rw[length_append,length_singleton]at D y;have:=NJ.take t j q (t.closed _ _ hp) (by omega) k;rw[List.take_append_of_le_length (by omega)];exact this
def Z2 (ad lb dg:Nat->Bool)(s x:Nat):Nat:=
 if s=1 then(if ad x=true then 3 else if lb x=true/\dg x=false then 2 else 0)else if s=2 then(if ad x=false/\lb x=true then 2 else 0)else 0
def hNx (ad lb dg:Nat->Bool)(k j:Nat):List Int:=(List.range (4*k)).map λi=>if i%k<j then((Z2 ad lb dg (i/k) (i%k):Nat):Int)else 0
def hD (ad lb dg:Nat->Bool)(k:Nat):DA:=⟨(k:Int),1,hNx ad lb dg k k,[false,false,true,true]⟩
def Yx (s:Txt):Bool:=match bY s with|some h=> !decide (h.kind=1)&&(mo h==s)|none=>false
noncomputable def tx (ts:List Txt)(x:Nat):Txt:=Zw ts (x:Int)
noncomputable def hAd (ts:List Txt)(x:Nat):Bool:=Yx (tx ts x)
theorem H8 {a:Option Addr}{n c:Nat}{xs:List Int}(E:Sl KD w A a n c xs)(y:Int):Cf fk #[.slice a n c,vI y] w (Ret λv w'=>v=.bool (decide (y∈xs))/\w'=w):=by
 have J:=E.len;subst J;have U:=E.le;apply my;refine aK (K:=λv w'=>∃i:Int,v=vI i/\(decide (i >=0))=(decide (y∈xs))/\w'=w) ?_ ?_
 ·apply nV;refine⟨λm i w'=>∃j:Nat,j <=xs.length/\i=(j:Int)/\m=xs.length-j/\y∉xs.take j/\w'=w,⟨_,0,by omega,rfl,rfl,by simp,rfl⟩,?_⟩;intro m i;refine aP.of ?_ _;rintro w' ⟨j,R,rfl,rfl,G,H⟩;rw[H];clear H;refine ab.of (λh=>?_) (λh=>?_)<;>simp only[dTx,dFx]at h
  ·have D:j<xs.length:=by omega
   refine⟨⟨⟨by omega,h⟩,E.isSome D⟩,_,E.num eI D,?_⟩;refine ab.of (λF=>?_) (λF=>?_)
   ·have:y=xs[j]:=by simpa using F
    refine⟨_,rfl,?_,rfl⟩;rw[decide_eq_true (by omega),decide_eq_true (by rw[this];exact getElem_mem D)]
   ·have M:y≠xs[j]:=by simpa using F
    refine⟨xs.length-(j+1),by omega,j+1,by omega,by rw[wrJ];omega,rfl,?_,rfl⟩;rw[take_succ_eq_append_getElem D,mem_append];rintro(h1|h1)
    ·exact G h1
    ·exact M (by simpa using h1)
  ·have:j=xs.length:=by omega
   subst this;rw[take_length]at G;exact⟨_,rfl,by rw[decide_eq_false G];decide,rfl⟩
 ·rintro _ V ⟨i,rfl,I,O⟩;exact⟨_,rfl,by rw[I],O⟩
def vc (out:List Int)(p:Prt):List Int:=if 0 <=p.2/\p.2∉out then out++[p.2]else out
theorem Ao (ps:List Prt):yx ps=ps.foldl vc []:=rfl
theorem Mf {l:List Cho} :∀(ps:List Prt) (out:List Int),(∀i∈out,0 <=i/\i<l.length)->(∀p∈ps,p.2<l.length)->∀i∈ps.foldl vc out,0 <=i/\i<l.length
 |[],out,E,_,i,D=>E i D
 |p::ps,out,E,hp,i,D=>by
  rw[List.foldl_cons]at D;refine Mf ps _ (λk y=>?_) (λq F=>hp q (mem_cons_of_mem _ F)) i D;unfold vc at y;split at y
  ·rename_i h;rcases List.mem_append.1 y with y|y
   ·exact E k y
   ·rw[mem_singleton]at y;rw[y];exact⟨h.1,hp p mem_cons_self⟩
  ·exact E k y
def X2 (cs:List Cho):Prop:=cs.length <=1000000/\∀c∈cs,c.vals.length <=1000000/\∀v∈c.vals,v.length <=1000000
theorem ox {cs:List Cho}{i:Int}(y:0 <=i)(h1:i<cs.length):∃h:i.toNat<cs.length,dR cs i=cs[i.toNat].vals:=by
 have h:i.toNat<cs.length:=by omega
 refine⟨h,?_⟩;unfold dR;rw[List.getElem?_eq_getElem h];rfl
theorem KP:Whl prog bL 2:=⟨⟨_,_,iZ⟩,by kernel_rfl⟩
theorem LD {a:Option Addr}{l c:Nat}{xs:List Prt}(h:Sl TL w A a l c xs)(y:i<xs.length):
 (Instr.loadAt bL (.pointer (aw a (i:Int) 2))).run prog w=.ok (.agg (M2 xs[i]).toArray) w:=by
 obtain⟨vs,h1,e⟩:=KP.elem (T:=TL) rfl h y;have e:vs=M2 xs[i]:=e;subst e;exact h1
theorem vM {a:Option Addr}{l c:Nat}{cs:List Cho}(h:Sl vq w A a l c cs){i:Int}(D:0 <=i)(h1:i<cs.length):
 ((0 <=i/\i<(l:Int))/\Option.isSome a=true)/\Option.isSome (aw a i 2)=true/\∃(b:Option Addr) (n e:Nat),(Instr.loadAt aA (.pointer (Option.map (λx=>x.add 1) (aw a i 2)))).run prog w=.ok (.slice b n e) w/\Sl tS w A b n e (dR cs i):=by
 obtain⟨y,e⟩:=ox D h1;have J:=h.len;obtain⟨k,rfl⟩:=Int.eq_ofNat_of_zero_le D;simp only[Int.toNat_natCast]at y e;have M:=h.isSome y;refine⟨⟨⟨D,by rw[J];exact h1⟩,M⟩,by cases a<;>simp_all [aw],?_⟩;rw[e];rcases h.2.2.2 with E|⟨F,off,H,U,R,E⟩
 ·subst E;cases y
 obtain⟨vs,⟨b,n,G,rfl,O⟩,I⟩:=E.elem y;refine⟨b,n,G,?_,O⟩;rw[H,uv];show(Instr.loadAt aA (.pointer (some ((⟨F,off+(k:Int).toNat*2,none⟩:Addr).add 1)))).run prog w=_;rw[gQ];show(do loadVar aA (<- Instr.sureAddr (.pointer (some _)))).run prog w=_;rw[Sem.run_bind,io];refine il bh rfl ?_;rw[Int.toNat_natCast];exact I 1 (by decide)
theorem VU {M:Option Addr}{U c0:Nat}{ps:List Prt}(H:Sl TL w A M U c0 ps)(bl:ps.length <=3000000):
 Cf mb #[.slice M U c0] w (Ret λv w'=>∃a n c,v=.slice a n c/\Ow KD co w' NoB a n c (yx ps)/\bo w.heap.size a/\bW w w'):=by
 apply yk;have ag:=H.len;subst ag;refine⟨λm a n c i w'=>∃j:Nat,i=(j:Int)/\m=ps.length-j/\j <=ps.length/\Ow KD co w' NoB a n c ((ps.take j).foldl vc [])/\((ps.take j).foldl vc []).length <=j/\bo w.heap.size a/\bW w w',
  ⟨_,0,rfl,rfl,Nat.zero_le _,Ow.nil _ _ _ _,Nat.le_refl _,bo.none _,Below.refl _ _⟩,λm a n c i=>aP.of ?_ _⟩
 rintro bb ⟨j,rfl,rfl,be,I,ol,E,B⟩;refine ab.of (λh=>?_) (λh=>?_)<;>simp only[dTx,dFx]at h
 rotate_left
 ·obtain rfl:j=ps.length:=by omega
  rw[take_length]at I;exact⟨a,n,c,rfl,I,E,B⟩
 have G:j<ps.length:=by omega
 have aa:i64.wrap ((j:Int)+1)=(j:Int)+1:=wrJ;have D:(ps.take (j+1)).foldl vc []=vc ((ps.take j).foldl vc []) ps[j]:=by rw[take_succ_eq_append_getElem G,List.foldl_append];rfl
 rw[aa];generalize (ps.take j).foldl vc []=out at*;refine⟨⟨⟨by omega,h⟩,H.isSome G⟩,_,_,LD (H.below B) G,?_⟩;generalize ps[j]=p at*;refine KP.new (zs:=M2 ([],0)) (cs:=M2 p) rfl rfl (λv R=>by simp[M2]at R;rcases R with rfl|rfl<;>rfl) bb λbq a9 bk F O=>?_;have J:=ae B O B.size;have o5:=I.below O;refine gX (w:=a9) (decide (0 <=p.2/\p.2∉out)) ?_ ?_
 ·refine⟨rfl,p.2,F.load1 eI rfl rfl,ab.of (λy=>⟨rfl,p.2,F.load1 eI rfl rfl,aK (H8 o5.all p.2) ?_⟩) (λy=>⟨rfl,?_⟩)⟩
  ·rintro _ _ ⟨rfl,rfl⟩;refine⟨_,rfl,rfl,?_⟩;have y:=of_decide_eq_true y;rw[Bool.eq_iff_iff];simp[y]
  ·have y:=of_decide_eq_false y;rw[decide_eq_false (λad=>y ad.1)]
 refine ab.of (λy=>⟨rfl,p.2,F.load1 eI rfl rfl,λbp bs af aj=>?_⟩) (λy=>?_)
 ·have y:=of_decide_eq_true y;obtain⟨a8,V,an,Z,a0,av,ac,Y⟩:=uQ (ty:=lu) FQ Jv mE (by decide) o5 E J af aj (x:=p.2) (vs:=[vI p.2]) Qc (cm:=1) (by omega);refine⟨a8,V,an,Z,a0,ps.length-(j+1),by omega,j+1,by omega,rfl,by omega,?_,?_,ac,Y⟩
  ·rw[D];unfold vc;rw[if_pos y];exact av
  ·rw[D];unfold vc;rw[if_pos y];simp;omega
 ·have y:=of_decide_eq_false y;refine⟨ps.length-(j+1),by omega,j+1,by omega,rfl,by omega,?_,?_,E,J⟩
  ·rw[D];unfold vc;rw[if_neg y];exact o5
  ·rw[D];unfold vc;rw[if_neg y];omega
theorem xY (l:List Cho)(i:Int)(r:List Int)(n:Int):M8 l (i::r) n=if 24<n*((dR l i).length:Nat)then n*((dR l i).length:Nat)else M8 l r (n*((dR l i).length:Nat)):=rfl
theorem Vw {J c0:Nat}{us:List Int}(E:Sl KD w A p J c0 us){M c1:Nat}{cs:List Cho}(Z:Sl vq w B q M c1 cs)(af:∀i∈us,0 <=i/\i<cs.length)(V:X2 cs):
 Cf ma #[.slice p J c0,.slice q M c1] w (Ret λv w'=>v=vI (Ja cs us)/\w'=w):=by
 apply yj;have aj:=E.len;have a8:=E.le;subst aj;refine⟨λm n i w'=>w'=w/\∃j:Nat,i=(j:Int)/\m=us.length-j/\j <=us.length/\0 <=n/\n <=24/\Ja cs us=M8 cs (us.drop j) n,⟨_,rfl,0,rfl,rfl,Nat.zero_le _,by decide,by decide,rfl⟩,λm n i=>aP.of ?_ _⟩;rintro be ⟨rfl,j,rfl,rfl,a0,R,U,y⟩;refine ab.of (λh=>?_) (λh=>?_)<;>simp only[dTx,dFx]at h
 rotate_left
 ·rw[drop_eq_nil_of_le (by omega)]at y;exact⟨by rw[y];rfl,rfl⟩
 have D:j<us.length:=by omega
 rw[drop_eq_getElem_cons D,xY]at y;obtain⟨v,I,an⟩:=E.load1 (P:=prog) (i:=(j:Int)) eI rfl rfl (by simpa using D);have:=F2 an;subst this;simp only[Int.toNat_natCast]at I;obtain⟨G,H⟩:=af _ (getElem_mem D);generalize us[j]=i at*;obtain⟨Y,av,b,nb,O,ac,S⟩:=vM Z G H;have ad:=S.len;subst ad;obtain⟨aa,e⟩:=ox G H;have bb:(dR cs i).length <=1000000:=by rw[e];exact(V.2 _ (getElem_mem aa)).1
 have ag:0 <=n*(((dR cs i).length:Nat):Int):=Int.mul_nonneg R (by omega);have a9:n*(((dR cs i).length:Nat):Int) <=24*1000000:=Int.mul_le_mul U (by omega) (by omega) (by omega);refine⟨⟨⟨by omega,h⟩,E.isSome D⟩,i,I,Y,av,b,_,O,ac,?_⟩;rw[wrJ];refine ab.of (λF=>⟨?_,rfl⟩) (λF=>?_)<;>simp only[dTx,dFx]at F
 ·rw[y,if_pos (by omega)]
 ·exact⟨us.length-(j+1),by omega,rfl,j+1,by rw[wrJ];omega,rfl,by omega,ag,by omega,by rw[y,if_neg (by omega)]⟩
theorem Px (a b:Int)(w:World):(Builtin.max_ #[co,co] co #[vI a,vI b]).run prog w=.ok (vI (max a b)) w:=by
 show Result.ok (vI (if b>a then b else a)) w=_;congr 2;split<;>omega
theorem xQ (l:List Cho)(p:Prt)(r:List Prt)(n:Int):IH l (p::r) n=if p.2<0 then IH l r (n+(p.1.length:Nat))else
 if 2000<n+(p.1.length:Nat)+(ql (dR l p.2):Nat)then n+(p.1.length:Nat)+(ql (dR l p.2):Nat)else IH l r (n+(p.1.length:Nat)+(ql (dR l p.2):Nat)):=rfl
theorem Gk:∀(vs:List lU) (m N:Nat),m <=N->(∀v∈vs,v.length <=N)->vs.foldl (λm v=>max m v.length) m <=N
 |[],m,N,h,_=>h
 |v::vs,m,N,h,y=>Gk vs _ N (Nat.max_le.2 ⟨h,y v mem_cons_self⟩) λx D=>y x (mem_cons_of_mem _ D)
theorem Po {O:Option Addr}{ac c0:Nat}{ps:List Prt}(J:Sl TL w A O ac c0 ps){a1:Option Addr}{ad c1:Nat}{cs:List Cho}(a8:Sl vq w B a1 ad c1 cs)(be:∀p∈ps,p.2<cs.length)(U:X2 cs)
 (b1:ps.length <=3000000) (bq:∀p∈ps,p.1.length <=1000000):
 Cf jV #[.slice O ac c0,.slice a1 ad c1] w (Ret λv w'=>v=vI (II cs ps)/\bW w w'):=by
 apply uY;have bl:=J.len;subst bl;refine⟨λm n i w'=>bW w w'/\∃j:Nat,i=(j:Int)/\m=ps.length-j/\j <=ps.length/\0 <=n/\n <=2000+(j:Int)*1000000/\II cs ps=IH cs (ps.drop j) n,⟨_,Below.refl _ _,0,rfl,rfl,Nat.zero_le _,by decide,by decide,rfl⟩,λm n i=>aP.of ?_ _⟩;rintro bt ⟨B,j,rfl,rfl,bw,bu,b2,y⟩;refine ab.of (λh=>?_) (λh=>?_)<;>simp only[dTx,dFx]at h
 rotate_left
 ·rw[drop_eq_nil_of_le (by omega)]at y;exact⟨by rw[y];rfl,B⟩
 have D:j<ps.length:=by omega
 have av:i64.wrap ((j:Int)+1)=(j:Int)+1:=wrJ;rw[drop_eq_getElem_cons D,xQ]at y;rw[av];refine⟨⟨⟨by omega,h⟩,J.isSome D⟩,_,_,LD (J.below B) D,?_⟩;have b6:=bq _ (getElem_mem D);have Z:=be _ (getElem_mem D);generalize ps[j]=p at*;refine KP.new (zs:=M2 ([],0)) (cs:=M2 p) rfl rfl (λv G=>by simp[M2]at G;rcases G with rfl|rfl<;>rfl) bt λb8 bs b0 I af=>?_;have E:=ae B af B.size;have ag:i64.wrap (n+((length p.1:Nat):Int))=n+((p.1.length:Nat):Int):=wrJ;refine⟨rfl,p.1,I.load1 aI rfl rfl,rfl,p.2,I.load1 eI rfl rfl,?_⟩;rw[ag];refine ab.of (λF=>?_) (λF=>?_)<;>simp only[dTx,dFx]at F
 ·exact⟨ps.length-(j+1),by omega,E,j+1,by omega,rfl,by omega,by omega,by omega,by rw[y,if_pos F]⟩
 rw[if_neg F]at y;have Y:0 <=p.2:=by omega
 obtain⟨a0,bp,b,nb,an,a9,S⟩:=vM (a8.below E) Y Z;obtain⟨V,e⟩:=ox Y Z;have aa:∀v∈dR cs p.2,v.length <=1000000:=by rw[e];exact(U.2 _ (getElem_mem V)).2
 have b7:(dR cs p.2).length <=1000000:=by rw[e];exact(U.2 _ (getElem_mem V)).1
 generalize dR cs p.2=vs at*;have bb:=S.len;subst bb;refine⟨rfl,p.2,I.load1 eI rfl rfl,a0,bp,b,_,an,a9,λm x k w'=>w'=bs/\∃t:Nat,k=(t:Int)/\m=vs.length-t/\t <=vs.length/\x=(((vs.take t).foldl (λm v=>max m v.length) 0:Nat):Int),⟨_,rfl,0,rfl,rfl,Nat.zero_le _,rfl⟩,λm x k=>aP.of ?_ _⟩;rintro b9 ⟨rfl,t,rfl,rfl,b5,rfl⟩;have b4:∀t,(vs.take t).foldl (λm v=>max m v.length) 0 <=1000000:=λt=>Gk _ _ _ (Nat.zero_le _) λv G=>aa v (mem_of_mem_take G);refine ab.of (λH=>?_) (λH=>?_)<;>simp only[dTx,dFx]at H
 ·have M:t<vs.length:=by omega
  refine⟨⟨⟨by omega,H⟩,S.isSome M⟩,vs[t],S.text aI M,_,Px _ _ _,vs.length-(t+1),by omega,rfl,t+1,by rw[wrJ];omega,rfl,by omega,?_⟩;rw[take_succ_eq_append_getElem M,List.foldl_append];show max _ _=(((max _ _:Nat)):Int)
  omega
 ·obtain rfl:t=vs.length:=by omega
  have b3:ql vs <=1000000:=Gk vs 0 _ (Nat.zero_le _) aa;have bk:(vs.take vs.length).foldl (λm v=>max m v.length) 0=ql vs:=by rw[take_length];rfl
  rw[bk];have aj:i64.wrap (n+((p.1.length:Nat):Int)+((ql vs:Nat):Int))=n+((p.1.length:Nat):Int)+((ql vs:Nat):Int):=wrJ
  try dsimp only
  rw[aj];refine ab.of (λR=>⟨?_,E⟩) (λR=>?_)<;>simp only[dTx,dFx]at R
  ·rw[y,if_pos (by omega)]
  ·exact⟨ps.length-(j+1),by omega,E,j+1,by omega,rfl,by omega,by omega,by omega,by rw[y,if_neg (by omega)]⟩
theorem Src.here {y:Type}{T:Ty y}{b:Nat}{l:List Value}{xs:List y}(h:w.heap[b]? =some (.cells l.toArray t))(D:jc T w A l xs):Src T w A (some ⟨b,0,none⟩) xs.length xs:=
 ⟨rfl,.inr ⟨b,0,rfl,l,D,λj E=>by rw[iW h,Nat.zero_add];simp⟩⟩
def E5 (c:UInt8):Bool:=decide (33 <=c.toNat/\c.toNat <=126/\c≠37)
theorem JH {c:UInt8}(h:E5 c=true):fU c=[c]:=if_pos (of_decide_eq_true h)
theorem Mg {c:UInt8}(h:E5 c=false):fU c=[37,zn (c.toNat/16),zn (c.toNat%16)]:=if_neg (of_decide_eq_false h)
theorem Nu (c:UInt8):
 Int.fdiv ((c.toNat:Nat):Int) (2 ^ (min (Int.toNat (4:Int)) (IntKind.bits .u8)))=((c.toNat/16:Nat):Int)/\
 IntKind.u8.wrap (((BitVec.ofInt (IntKind.bits .u8) ((c.toNat:Nat):Int)) &&& (BitVec.ofInt (IntKind.bits .u8) (15:Int))).toNat:Nat)=((c.toNat%16:Nat):Int)/\
 aU [48,49,50,51,52,53,54,55,56,57,65,66,67,68,69,70] ((c.toNat/16:Nat):Int)=(((zn (c.toNat/16)).toNat:Nat):Int)/\
 aU [48,49,50,51,52,53,54,55,56,57,65,66,67,68,69,70] ((c.toNat%16:Nat):Int)=(((zn (c.toNat%16)).toNat:Nat):Int):=
 N4 (p:=λc=>Int.fdiv ((c.toNat:Nat):Int) (2 ^ (min (Int.toNat (4:Int)) (IntKind.bits .u8)))=((c.toNat/16:Nat):Int)/\
  IntKind.u8.wrap (((BitVec.ofInt (IntKind.bits .u8) ((c.toNat:Nat):Int)) &&& (BitVec.ofInt (IntKind.bits .u8) (15:Int))).toNat:Nat)=((c.toNat%16:Nat):Int)/\
  aU [48,49,50,51,52,53,54,55,56,57,65,66,67,68,69,70] ((c.toNat/16:Nat):Int)=(((zn (c.toNat/16)).toNat:Nat):Int)/\
  aU [48,49,50,51,52,53,54,55,56,57,65,66,67,68,69,70] ((c.toNat%16:Nat):Int)=(((zn (c.toNat%16)).toNat:Nat):Int)) (by decide+kernel) c
theorem L6 {a b c:UInt8} :jc tU8 w A [.int .u8 ((a.toNat:Nat):Int),.int .u8 ((b.toNat:Nat):Int),.int .u8 ((c.toNat:Nat):Int)] [a,b,c]:=
 ((jc.one (pW rfl)).append (jc.one (pW rfl))).append (jc.one (pW rfl))
theorem Gt (s:lU)(b5:s.length <=1000000000000)(w:World):
 Cf qW #[vS s] w (Ret λv w'=>v=vS (vn s)/\bW w w'):=by
 apply DP;refine ab.of (λh=>?_) (λh=>?_)
 ·obtain rfl:s=[]:=eq_of_beq h;exact⟨rfl,Below.refl _ _⟩
 have bt:s≠[]:=by rintro rfl;cases h
 obtain⟨G,a,n,c,bw,O,ac,b3⟩:=oI aI bH cr w s (by omega) NoB;have bu:=O.len;subst bu;refine⟨G,a,_,c,bw,?_⟩;refine⟨λm a3 av Z i w'=>∃k:Nat,k <=s.length/\i=(k:Int)/\m=s.length-k/\Ow tU8 bc w' NoB a3 av Z (dh (s.take k))/\bo G.heap.size a3/\bW G w',
  ⟨_,0,by omega,rfl,rfl,Ow.nil _ _ _ _,bo.none _,Below.refl _ _⟩,?_⟩
 intro m a3 av Z i;refine aP.of ?_ _;rintro b2 ⟨k,b4,rfl,rfl,E,J,D⟩;have aj:=(oB (s.take k)).2;rw[length_take]at aj;refine ab.of (λh=>?_) (λh=>?_)<;>simp only[dTx,dFx]at h
 ·have M:k<s.length:=by omega
  have ag:dh (s.take (k+1))=dh (s.take k)++fU s[k]:=by rw[take_succ_eq_append_getElem M,oE]
  obtain⟨v,af,b0⟩:=(O.below D).all.load1 (i:=(k:Int)) cr rfl rfl (by simpa using M);have:=CP b0;subst this;simp only[Int.toNat_natCast]at af;have b6:=ov s[k];refine⟨⟨⟨by omega,h⟩,O.all.isSome M⟩,_,af,?_⟩;refine gX (w:=b2) (E5 s[k]) ?_ ?_
  ·unfold E5;refine ab.of (λy=>?_) (λy=>?_)<;>simp only[gt_iff_lt,dTx,dFx]at y
   ·refine ab.of (λaa=>?_) (λaa=>?_)<;>simp only[dTx,dFx]at aa
    ·refine⟨rfl,?_⟩;rw[Bool.eq_iff_iff,bne_iff_ne,dTx];constructor
     ·intro H;exact⟨by omega,by omega,λe=>H (by rw[e];rfl)⟩
     ·rintro⟨_,_,H⟩ e;exact H (yR (by simpa using e))
    ·exact⟨rfl,(decide_eq_false (by omega)).symm⟩
   ·exact⟨rfl,(decide_eq_false (by omega)).symm⟩
  ·refine ab.of (λy=>?_) (λy=>?_)
   ·intro an a0 ad F;obtain⟨Y,a5,V,c5,U,R,bp,bk⟩:=uQ (ty:=aQ) (w0:=G) (cm:=1) (vs:=[_]) nu bH gT (by decide) E J D ad F (pW rfl) (by omega);refine⟨Y,a5,V,c5,U,s.length-(k+1),by omega,k+1,by omega,by rw[wrJ];omega,rfl,?_,bp,bk⟩;rw[ag,JH y];exact R
   ·obtain⟨a8,a9,bb,be⟩:=Nu s[k];rw[a8,a9];have b7:s[k].toNat/16<16:=by omega
    have b8:s[k].toNat%16<16:=Nat.mod_lt _ (by decide);refine⟨by decide,⟨by omega,by simp only[length_cons,length_nil];omega⟩,⟨by omega,by simp only[length_cons,length_nil];omega⟩,?_⟩;rw[bb,be];intro an ad a0 F bl;have b1:Src tU8 a0 NoB (some ⟨an,0,none⟩) 3 [37,zn (s[k].toNat/16),zn (s[k].toNat%16)]:=Src.here (l:=[.int .u8 (((37:UInt8).toNat:Nat):Int),.int .u8 (((zn (s[k].toNat/16)).toNat:Nat):Int),.int .u8 (((zn (s[k].toNat%16)).toNat:Nat):Int)]) bl L6;obtain⟨Y,a5,V,c5,U,R,bs,bq⟩:=ff (ty:=aQ) bH gT (by decide) (E.below F) (λ_ _ h=>h) (cm:=3) b1 (by simp;omega);have I:=ae D F D.size;refine⟨Y,a5,V,c5,U,s.length-(k+1),by omega,k+1,by omega,by rw[wrJ];omega,rfl,?_,J.app I.size bq,I.grown bs I.size J⟩;rw[ag,Mg y];exact R
 ·have:k=s.length:=by omega
  subst this;rw[take_length]at E aj;refine⟨_,mC bH aI cr E.all,?_,ae ac D ac.size⟩;rw[vn,if_neg bt]
theorem AQ:∀n:Nat,n<16->(n<10->IntKind.u8.wrap (i64.wrap ((48:Int)+(n:Int)))=(((zn n).toNat:Nat):Int))/\(¬ n<10->IntKind.u8.wrap (i64.wrap ((55:Int)+(n:Int)))=(((zn n).toNat:Nat):Int)):=by decide+kernel
theorem tu (n:Nat)(y:n<16)(w:World):Cf lz #[vI (n:Int)] w (Ret λv w'=>v=.int .u8 (((zn n).toNat:Nat):Int)/\w'=w):=by
 apply Ce;refine ab.of (λh=>?_) (λh=>?_)<;>simp only[dTx,dFx]at h
 ·rw[(AQ n y).1 (by omega)];exact⟨rfl,rfl⟩
 ·rw[(AQ n y).2 (by omega)];exact⟨rfl,rfl⟩
theorem GG (s:lU)(b4:s.length <=1000000000000)(w:World):
 Cf qY #[vS s] w (Ret λv w'=>v=vS (vn s)/\bW w w'):=by
 apply DT;intro bw w5 aa ag;have bb:bW w w5:=ag▸ar w _;have bt:Ow tU8 bc w5 NoB (some ⟨bw,0,none⟩) 0 0 []:=Ow.newF nu aa ag (l:=[]) (jc.nil _ _ _) (by decide);refine⟨λm a3 G V i w'=>∃k:Nat,k <=s.length/\i=(k:Int)/\m=s.length-k/\Ow tU8 bc w' NoB a3 G V (dh (s.take k))/\bo w.heap.size a3/\bW w w',
  ⟨_,0,by omega,rfl,rfl,bt,kx aa,bb⟩,?_⟩
 intro m a3 G V i;refine aP.of ?_ _;rintro b2 ⟨k,b3,rfl,rfl,E,J,D⟩;have aj:=(oB (s.take k)).2;have an:=(oB (s.take k)).1;rw[length_take]at aj an;refine ab.of (λh=>?_) (λh=>?_)<;>simp only[dTx,dFx]at h
 ·have ac:k<s.length:=by omega
  have af:dh (s.take (k+1))=dh (s.take k)++fU s[k]:=by rw[take_succ_eq_append_getElem ac,oE]
  have ad:=ov s[k];rw[iq (i:=(k:Int)) (by simpa using ac)];simp only[Int.toNat_natCast];refine gX (w:=b2) (E5 s[k]) ?_ ?_
  ·unfold E5;refine⟨⟨by omega,h⟩,?_⟩;refine ab.of (λy=>?_) (λy=>?_)<;>simp only[ge_iff_le,dTx,dFx]at y
   ·refine⟨⟨by omega,h⟩,?_⟩;refine ab.of (λY=>?_) (λY=>?_)<;>simp only[dTx,dFx]at Y
    ·refine⟨⟨by omega,h⟩,rfl,?_⟩;rw[Bool.eq_iff_iff,bne_iff_ne,dTx];constructor
     ·intro H;exact⟨by omega,by omega,λe=>H (by rw[e];rfl)⟩
     ·rintro⟨_,_,H⟩ e;exact H (yR (by simpa using e))
    ·exact⟨rfl,(decide_eq_false (by omega)).symm⟩
   ·exact⟨rfl,(decide_eq_false (by omega)).symm⟩
  ·refine ab.of (λy=>?_) (λy=>?_)
   ·refine⟨⟨by omega,h⟩,?_⟩;intro av a0 Z F;obtain⟨U,a5,R,c5,O,M,bl,be⟩:=uQ (ty:=aQ) (w0:=w) (cm:=1) (vs:=[_]) nu bH gT (by decide) E J D Z F (pW rfl) (by omega);refine⟨U,a5,R,c5,O,s.length-(k+1),by omega,k+1,by omega,by rw[wrJ];omega,rfl,?_,bl,be⟩;rw[af,JH y];exact M
   ·have b0:s[k].toNat/16<16:=by omega
    have b1:s[k].toNat%16<16:=Nat.mod_lt _ (by decide);refine⟨⟨by omega,h⟩,by decide,?_⟩;rintro _ rfl;have a8:i64.wrap (Int.tdiv (i64.wrap ((s[k].toNat:Nat):Int)) (16:Int))=((s[k].toNat/16:Nat):Int):=by
     rw[wrJ (n:=((s[k].toNat:Nat):Int)),Am (by omega),wrJ];omega
    have a9:Int.tmod (i64.wrap ((s[k].toNat:Nat):Int)) (16:Int)=((s[k].toNat%16:Nat):Int):=by
     rw[wrJ (n:=((s[k].toNat:Nat):Int)),An (by omega)];omega
    rw[a8];refine⟨_,λu ad=>aK (tu _ b0 u) (by rintro _ w' ⟨rfl,rfl⟩;exact⟨rfl,Below.refl _ _⟩),⟨by omega,h⟩,by decide,?_⟩;rintro _ rfl;rw[a9];refine⟨_,λu ad=>aK (tu _ b1 u) (by rintro _ w' ⟨rfl,rfl⟩;exact⟨rfl,Below.refl _ _⟩),?_⟩;intro av Z a0 F bk;have bu:Src tU8 a0 NoB (some ⟨av,0,none⟩) 3 [37,zn (s[k].toNat/16),zn (s[k].toNat%16)]:=Src.here (l:=[.int .u8 (((37:UInt8).toNat:Nat):Int),.int .u8 (((zn (s[k].toNat/16)).toNat:Nat):Int),.int .u8 (((zn (s[k].toNat%16)).toNat:Nat):Int)]) bk L6;obtain⟨U,a5,R,c5,O,M,bq,bp⟩:=ff (ty:=aQ) bH gT (by decide) (E.below F) (λ_ _ h=>h) (cm:=3) bu (by simp;omega);have I:=ae D F D.size;refine⟨U,a5,R,c5,O,s.length-(k+1),by omega,k+1,by omega,by rw[wrJ];omega,rfl,?_,J.app I.size bp,I.grown bq I.size J⟩;rw[af,Mg y];exact M
 ·have:k=s.length:=by omega
  subst this;rw[take_length]at E aj an;have bs:=E.len;refine ab.of (λy=>?_) (λy=>?_)
  ·have y:(G:Int)=0:=eq_of_beq y;have:s=[]:=List.length_eq_zero_iff.1 (by omega);rw[this];exact⟨rfl,D⟩
  ·have y: ¬ (G:Int)=0:=by simpa using y
   refine⟨_,mC bH aI cr E.all,?_,D⟩;rw[vn,if_neg];rintro rfl;exact y (by rw[bs];rfl)
theorem SP (h:∀n,n<256->(fU (UInt8.ofNat n)).isPrefixOf s=false):unB s=none:=by
 unfold unB;rw[List.find?_eq_none.2 (λn y=>by rw[h n (List.mem_range.1 y)];simp)];rfl
theorem QY (c:UInt8):vn [c]=fU c:=by unfold vn;rw[if_neg (by simp),dh,dh,append_nil]
theorem Kn {s out rest x:lU}(h:s=dh out++rest):((s.take ((dh out).length+x.length)).drop (dh out).length==x)=x.isPrefixOf rest:=by
 rw[List.drop_take,h,List.drop_left,Nat.add_sub_cancel_left,Bool.eq_iff_iff,beq_iff_eq,List.isPrefixOf_iff_prefix,List.prefix_iff_eq_take];exact⟨Eq.symm,Eq.symm⟩
def unT (s:lU):Value:=.tuple #[vS ((unP s).getD []),.bool (unP s).isSome]
theorem rL (s:lU)(df:s.length <=10000000)(w:World):
 Cf kc #[vS s] w (Ret λv w'=>v=unT s/\bW w w'):=by
 apply zE;refine ab.of (λh=>?_) (λh=>?_)
 ·obtain rfl:s=[37]:=eq_of_beq h;refine⟨?_,Below.refl _ _⟩;unfold unT;rw[XX];rfl
 have bs:s≠[37]:=by rintro rfl;cases h
 intro ch w11 a0 a9;have bt:bW w w11:=a9▸ar w _;have b7:Ow tU8 bc w11 NoB (some ⟨ch,0,none⟩) 0 0 []:=Ow.newF nu a0 a9 (l:=[]) (jc.nil _ _ _) (by decide);refine⟨λm a l c i w'=>∃out rest:lU,s=dh out++rest/\i=(((dh out).length:Nat):Int)/\m=s.length-(dh out).length/\Ow tU8 bc w' NoB a l c out/\bo w.heap.size a/\bW w w',
  ⟨_,[],s,rfl,rfl,rfl,b7,kx a0,bt⟩,?_⟩
 intro m a l c i;refine aP.of ?_ _;rintro dj ⟨out,rest,D,rfl,rfl,ac,b0,aj⟩;have b5:s.length=(dh out).length+rest.length:=by rw[D,length_append]
 have de:=(oB out).1;refine ab.of (λh=>?_) (λh=>?_)<;>simp only[dTx,dFx]at h
 ·have ad:rest≠[]:=by rintro rfl;simp at b5;omega
  have c4:s.drop (dh out).length=rest:=by rw[D,List.drop_left]
  have bp:∀{u:World},unB rest=none->bW w u->(.tuple #[vS [],.bool false]:Value)=unT s/\bW w u:=λe G=>⟨by unfold unT;rw[SR D ad bs e];rfl,G⟩
  refine⟨λbk a1 O c1 M b j w'=>∃k:Nat,k <=256/\j=(k:Int)/\bk=256-k/\bo w.heap.size a1/\bW w w'/\
   ((b=false/\M=(((dh out).length:Nat):Int)/\Ow tU8 bc w' NoB a1 O c1 out/\∀d,d<k->(fU (UInt8.ofNat d)).isPrefixOf rest=false)\/
    (b=true/\∃(x:UInt8) (r:lU),rest=fU x++r/\M=(((dh (out++[x])).length:Nat):Int)/\Ow tU8 bc w' NoB a1 O c1 (out++[x]))),
   ⟨_,0,by omega,rfl,rfl,b0,aj,.inl ⟨rfl,rfl,ac,λd H=>by omega⟩⟩,?_⟩
  intro bk a1 O c1 M b j;refine aP.of ?_ _;rintro w2 ⟨k,c8,rfl,rfl,aa,F,H⟩;have next:b=true->∃be:Nat,be<s.length-(dh out).length/\∃R cp:lU,s=dh R++cp/\M=(((dh R).length:Nat):Int)/\be=s.length-(dh R).length/\Ow tU8 bc w2 NoB a1 O c1 R/\bo w.heap.size a1/\bW w w2:=by
   intro G;rcases H with⟨e,_⟩|⟨_,x,r,af,b2,J⟩
   ·rw[e]at G;cases G
   ·have a8:s=dh (out++[x])++r:=by rw[D,af,oE,append_assoc]
    have h1:=(xu x).1;have U:(dh (out++[x])).length=(dh out).length+(fU x).length:=by rw[oE,length_append]
    have y:s.length=(dh (out++[x])).length+r.length:=by rw[a8,length_append]
    exact⟨_,by omega,out++[x],r,a8,b2,rfl,J,aa,F⟩
  refine⟨λw'=>w'=w2/\k<256/\b=false,?_,aP.of ?_ _⟩
  ·refine ab.of (λU=>?_) (λU=>?_)<;>simp only[dTx,dFx]at U
   ·refine ab.of (λy=>?_) (λy=>?_)
    ·exact⟨rfl,by omega,by simpa using y⟩
    ·refine ab.no y (next (by simpa using y))
   ·refine ab.of (λy=>?_) (λy=>?_)
    ·have y:b=false:=by simpa using y
     rcases H with⟨_,_,_,V⟩|⟨e,_⟩
     ·exact bp (SP λn dd=>V n (by omega)) F
     ·rw[e]at y;cases y
    ·exact next (by simpa using y)
  ·rintro bl ⟨rfl,c9,rfl⟩;obtain⟨_,rfl,J,V⟩:=H.resolve_right (λe=>by cases e.1);have cd:IntKind.u8.wrap (k:Int)=(((UInt8.ofNat k).toNat:Nat):Int):=by
    rw[wrap_u8 (by omega) (by omega),UInt8.toNat_ofNat',Nat.mod_eq_of_lt (by omega)]
   rw[cd];intro cl w4 b3 bb;have Y:bW bl w4:=bb▸ar bl _;have b9:Ow tU8 bc w4 NoB (some ⟨cl,0,none⟩) 1 1 [UInt8.ofNat k]:=Ow.newF nu b3 bb (jc.one (pW rfl)) (show 1 <=maxLen by decide);have an:=ae F Y F.size;refine⟨_,mC bH aI cr b9.all,?_⟩;refine aK (GG [UInt8.ofNat k] (by simp) w4) ?_;rintro _ cv ⟨rfl,Z⟩;have av:=ae an Z an.size;rw[QY];refine⟨_,rfl,?_⟩;generalize af:UInt8.ofNat k=x at*;have dc:=xu x;have bq:i64.wrap (((s.length:Nat):Int)-(((dh out).length:Nat):Int))=((rest.length:Nat):Int):=by rw[wrJ];omega
   have ag:i64.wrap ((((dh out).length:Nat):Int)+(((fU x).length:Nat):Int))=(((dh out).length+(fU x).length:Nat):Int):=by rw[wrJ];omega
   refine gX (w:=cv) ((fU x).isPrefixOf rest) ?_ ?_
   ·rw[bq];refine ab.of (λE=>?_) (λE=>?_)<;>simp only[dTx,dFx]at E
    ·rw[ag];refine⟨⟨⟨by omega,by omega⟩,by omega,by simp only[Int.toNat_natCast];omega⟩,?_⟩;rintro _ rfl;simp only[Int.toNat_natCast];exact⟨trivial,Kn D⟩
    ·refine⟨rfl,?_⟩;cases hp:(fU x).isPrefixOf rest with
     |false=>rfl
     |true=>have:=(List.isPrefixOf_iff_prefix.1 hp).length_le;omega
   ·refine ab.of (λE=>?_) (λE=>?_)
    ·obtain⟨r,cb⟩:=List.isPrefixOf_iff_prefix.1 E;rw[ag];intro dg dk b4 cf;obtain⟨c2,a7,cn,c7,cc,b8,b1,bu⟩:=uQ (ty:=aQ) (w0:=w) (cm:=1) (vs:=[_]) nu bH gT (by decide) ((J.below Y).below Z) aa av b4 cf (pW rfl) (by omega);refine⟨c2,a7,cn,c7,cc,256-(k+1),by omega,k+1,by omega,by rw[wrJ];omega,rfl,b1,bu,.inr ⟨rfl,x,r,cb.symm,?_,b8⟩⟩;rw[oE,length_append]
    ·refine⟨256-(k+1),by omega,k+1,by omega,by rw[wrJ];omega,rfl,aa,av,.inl ⟨rfl,rfl,(J.below Y).below Z,λd c3=>?_⟩⟩;by_cases bw:d=k
     ·rw[bw,af];exact E
     ·exact V d (by omega)
 ·have ad:rest=[]:=List.length_eq_zero_iff.1 (by omega);subst ad;rw[append_nil]at D;refine⟨_,mC bH aI cr ac.all,?_,aj⟩;unfold unT;rw[VO D];have b6:=ac.len;by_cases I:out=[]
  ·rw[if_pos I];subst I;rw[b6];rfl
  ·rw[if_neg I];have:0<out.length:=List.length_pos_iff.2 I;rw[decide_eq_true (by omega)];rfl
theorem MC (c:UInt8):IntKind.u8.wrap (Lib.indexByte [48,49,50,51,52,53,54,55,56,57,65,66,67,68,69,70] c)=((Bj c:Nat):Int):=
 N4 (p:=λc=>IntKind.u8.wrap (Lib.indexByte [48,49,50,51,52,53,54,55,56,57,65,66,67,68,69,70] c)=((Bj c:Nat):Int)) (by decide+kernel) c
theorem OV (c:UInt8):Bj c<16\/Bj c=255:=by
 unfold Bj;split
 ·left;omega
 ·split
  ·left;omega
  ·right;rfl
theorem MI (a b:Nat)(F:a<16\/a=255)(H:b<16\/b=255):
 IntKind.u8.wrap (((BitVec.ofInt (IntKind.bits .u8) (IntKind.u8.wrap ((a:Int)*2 ^ (min (Int.toNat (4:Int)) (IntKind.bits .u8))))) ||| (BitVec.ofInt (IntKind.bits .u8) (IntKind.u8.wrap (((BitVec.ofInt (IntKind.bits .u8) (b:Int)) &&& (BitVec.ofInt (IntKind.bits .u8) (15:Int))).toNat:Nat)))).toNat:Nat)=(((Pf a b).toNat:Nat):Int):=by
 have key:∀a,a<17->∀b,b<17->IntKind.u8.wrap (((BitVec.ofInt (IntKind.bits .u8) (IntKind.u8.wrap ((((if a=16 then 255 else a:Nat)):Int)*2 ^ (min (Int.toNat (4:Int)) (IntKind.bits .u8))))) ||| (BitVec.ofInt (IntKind.bits .u8) (IntKind.u8.wrap (((BitVec.ofInt (IntKind.bits .u8) (((if b=16 then 255 else b:Nat)):Int)) &&& (BitVec.ofInt (IntKind.bits .u8) (15:Int))).toNat:Nat)))).toNat:Nat)=(((Pf (if a=16 then 255 else a) (if b=16 then 255 else b)).toNat:Nat):Int):=by decide+kernel
 have h1:∃y,y<17/\(if y=16 then 255 else y)=a:=by
  rcases F with h|h
  ·exact⟨a,by omega,if_neg (by omega)⟩
  ·exact⟨16,by decide,by rw[if_pos rfl,h]⟩
 have E:∃D,D<17/\(if D=16 then 255 else D)=b:=by
  rcases H with h|h
  ·exact⟨b,by omega,if_neg (by omega)⟩
  ·exact⟨16,by decide,by rw[if_pos rfl,h]⟩
 obtain⟨y,G,rfl⟩:=h1;obtain⟨D,I,rfl⟩:=E;exact key y G D I
theorem vV (c:UInt8)(w:World):Cf mT #[.int .u8 ((c.toNat:Nat):Int)] w (Ret λv w'=>v=.int .u8 ((Bj c:Nat):Int)/\w'=w):=by
 apply DQ;refine(Tryz.strings_IndexByte (mkS [48,49,50,51,52,53,54,55,56,57,65,66,67,68,69,70]) _ w).mono ?_;rintro e w' ⟨rfl,rfl⟩;refine⟨_,rfl,?_,rfl⟩;rw[show((c.toNat:Nat):Int).toNat.toUInt8=c by simp];show Value.int .u8 (IntKind.u8.wrap (Lib.indexByte [48,49,50,51,52,53,54,55,56,57,65,66,67,68,69,70] c))=_;rw[MC]
theorem RD (s:lU):Lib.trimSuffix s [37]=zm s:=by
 rw[(Hd s 37).2];unfold zm;split
 ·rw[List.dropLast_eq_take]
 ·rfl
theorem BF (s:lU)(bt:s.length <=10000000)(w:World):
 Cf np #[vS s] w (Ret λv w'=>v=unT s/\bW w w'):=by
 apply zA;refine(Tryz.strings_TrimSuffix (mkS s) (mkS [37]) w (by show s.length <=_;omega)).mono ?_;rintro e H ⟨rfl,rfl⟩;refine⟨zm s,by rw[<- RD];rfl,?_⟩;have bq:(zm s).length <=s.length:=by unfold zm;split<;>simp
 have U:∀{u:World},unD (zm s)=none->bW H u->(.tuple #[vS [],.bool false]:Value)=unT s/\bW H u:=λe V=>⟨by unfold unT unP;rw[e];rfl,V⟩
 refine⟨λm a l c r w'=>∃out:lU,unD (zm s)=(unD r).map (λt=>out++t)/\out.length+r.length <=(zm s).length/\m=r.length/\Ow tU8 bc w' NoB a l c out/\bo H.heap.size a/\bW H w',
  ⟨_,[],by simp,by simp,rfl,Ow.nil _ _ _ _,bo.none _,Below.refl _ _⟩,?_⟩
 intro m a l c r;refine aP.of ?_ _;rintro R ⟨out,hD,J,rfl,M,Z,F⟩;refine ab.of (λh=>?_) (λh=>?_)
 ·match r,h with
  |x::r,_=>
   have a9:aU (x::r) 0=((x.toNat:Nat):Int):=rfl;simp only[length_cons]at J;refine⟨⟨by decide,by simp only[length_cons];omega⟩,?_⟩;refine⟨λn u w'=>∃(D:UInt8) (q:lU),n=((D.toNat:Nat):Int)/\u=((((x::r).length-q.length:Nat)):Int)/\q=(x::r).drop ((x::r).length-q.length)/\q.length<(x::r).length/\unD (x::r)=(unD q).map (λt=>D::t)/\bW R w',?_,?_⟩
   ·rw[a9];refine ab.of (λy=>?_) (λy=>?_)
    ·obtain rfl:x=37:=yR (by simpa using y);refine ab.of (λE=>?_) (λE=>?_)<;>simp only[dTx,dFx]at E
     ·refine U ?_ F;rw[hD,unD.eq_def]
      match r,E with
      |[],_=>rfl
      |[a],_=>rfl
      |a::b::r,E=>simp only[length_cons]at E;omega
     ·match r,E,J with
      |[],E,_=>simp at E
      |[a],E,_=>simp at E
      |D::z::q,_,J=>
       have bb:aU (37::D::z::q) 1=((D.toNat:Nat):Int):=rfl;have be:aU (37::D::z::q) 2=((z.toNat:Nat):Int):=rfl;rw[bb,be];refine⟨⟨by decide,by simp only[length_cons];omega⟩,_,λu av=>aK (vV D u) (by rintro _ w' ⟨rfl,rfl⟩;exact⟨rfl,Below.refl _ _⟩),by decide,⟨by decide,by simp only[length_cons];omega⟩,_,λu av=>aK (vV z u) (by rintro _ w' ⟨rfl,rfl⟩;exact⟨rfl,Below.refl _ _⟩),?_⟩;intro b0 a8;refine⟨Pf (Bj D) (Bj z),q,MI _ _ (OV D) (OV z),by simp only[length_cons];omega,by simp only[length_cons];rw[show q.length+1+1+1-q.length=3 by omega];rfl,by simp only[length_cons];omega,?_,a8⟩;rw[unD.eq_def];rfl
    ·have ad:x≠37:=λe=>by subst e;cases y
     refine⟨x,r,rfl,by simp only[length_cons];omega,by simp only[length_cons];rw[show r.length+1-r.length=1 by omega];rfl,by simp,?_,Below.refl _ _⟩;rw[unD.eq_def];show(if x=37 then _ else _)=_;rw[if_neg ad]
   ·intro n u;refine aP.of ?_ _;rintro bl ⟨D,q,rfl,rfl,ag,O,aj,G⟩;have I:=ae F G F.size;intro bu bw ac a0;obtain⟨bp,a5,bk,c5,an,af,aa,Y⟩:=uQ (ty:=aQ) (w0:=H) (cm:=1) (vs:=[_]) nu bH gT (by decide) (M.below G) Z I ac a0 (pW rfl) (by omega);refine⟨bp,a5,bk,c5,an,⟨by omega,by omega⟩,?_⟩;rintro _ rfl;rw[Int.toNat_natCast,<- ag];refine⟨q.length,O,out++[D],?_,?_,rfl,af,aa,Y⟩
    ·rw[hD,aj,Option.map_map];congr 1;funext t;simp
    ·simp only[length_append,length_cons,length_nil]at O ⊢;omega
 ·obtain rfl:r=[]:=by simpa using h
  have hD:unD (zm s)=some out:=by rw[hD,unD];simp
  have bs:out.length <=10000000:=by simp at J;omega
  refine⟨_,mC bH aI cr M.all,?_⟩;refine aK (Gt out (by omega) R) ?_;rintro _ bl ⟨rfl,G⟩;have I:=ae F G F.size;refine⟨_,rfl,?_⟩;refine ab.of (λy=>?_) (λy=>?_)
  ·have y:(vn out==s)=false:=by simpa using y
   refine⟨?_,I⟩;unfold unT unP;rw[hD,Option.filter_some,y];rfl
  ·have y:(vn out==s)=true:=by simpa using y
   refine⟨_,mC bH aI cr (M.below G).all,?_,I⟩;unfold unT unP;rw[hD,Option.filter_some,y];rfl
open Go.ChangeMaps (setBlock)
section
variable {α β:Type} [DecidableEq α]
def zj (ek:α->Value)(ev:β->Value)(w:World)(r:Nat)(kvs:List (α×β)):Prop:=
 ∃es clock,w.heap[r]? =some (.map es clock)/\KVg ek ev es.toList kvs/\(es.toList.map (·.born)).Nodup/\∀e∈es.toList,e.born<clock
variable {ek:α->Value} {ev:β->Value}
theorem zj.g {r:Nat}{kvs:List (α×β)}(h:zj ek ev w r kvs):xz ek ev w r kvs:=by
 obtain⟨y,c,D,E,_⟩:=h;exact⟨y,c,D,E⟩
theorem zj.lt {r:Nat}{y:List (α×β)}(h:zj ek ev w r y):r<w.heap.size:=h.g.lt
theorem zj.keep {w w':World}{r:Nat}{kvs:List (α×β)}(h:zj ek ev w r kvs)(D:w'.heap[r]? =w.heap[r]?):zj ek ev w' r kvs:=by
 obtain⟨y,c,E,F⟩:=h;exact⟨y,c,D.trans E,F⟩
theorem zj.below {w w':World}{r:Nat}{kvs:List (α×β)}(h:zj ek ev w r kvs)(y:bW w w'):zj ek ev w' r kvs:=h.keep (y.block r h.lt)
theorem zj.grown {w w':World}{r:Nat}{kvs:List (α×β)}(h:zj ek ev w r kvs)(y:w.grownBy w' (some k))(D:r≠k):zj ek ev w' r kvs:=h.keep (y.block r h.lt λe=>D (Option.some.inj e))
theorem zj.new {w w':World}{r:Nat}(D:r=w.heap.size)(E:w'=w.alloc (.map #[] 0)):zj ek ev w' r []:=by
 subst D E;exact⟨#[],0,heap_alloc_new w _,rfl,List.nodup_nil,λe y=>by cases y⟩
theorem UN {y:List MapEntry}{D:List (α×β)}(h:KVg ek ev y D):y.length=D.length:=by
 have:=congrArg length h;simpa using this
theorem yq {r:Nat}{y:Array MapEntry}{c:Nat}(h:w.heap[r]? =some (.map y c))(o:Obj):(setObj r o).run P w=.ok () { w with heap:=w.heap.setIfInBounds r o } :=by
 simp only[setObj,Sem.run,h]
theorem Bh {r:Nat}(o:Obj):w.grownBy { w with heap:=w.heap.setIfInBounds r o } (some r):=
 ⟨rfl,rfl,rfl,by simp,λj D y=>by
  have:r≠j:=λe=>y (by rw[e]);simp[Array.getElem?_setIfInBounds_ne this]⟩
def upG (k:α)(v:β)(kvs:List (α×β)):List (α×β):=match kY k kvs 0 with
 |some (i,_)=>kvs.set i (k,v)
 |none=>kvs++[(k,v)]
theorem Bw (k:α):∀(l:List (α×β)) (i j:Nat) (v:β),kY k l i=some (j,v)->i <=j/\l[j-i]? =some (k,v)
 |[],i,j,v,h=>by cases h
 |(k',v')::l,i,j,v,h=>by
  unfold kY at h;split at h
  ·rename_i e;subst e;cases h;exact⟨Nat.le_refl _,by rw[Nat.sub_self];rfl⟩
  ·obtain⟨h1,y⟩:=Bw k l (i+1) j v h;refine⟨by omega,?_⟩;rw[show j-i=(j-(i+1))+1 by omega,List.getElem?_cons_succ];exact y
theorem EZ {E:List MapEntry}{F:List (α×β)}(h:KVg ek ev E F){k:α}{v v':β}(G:F[i]? =some (k,v'))(f:MapEntry->MapEntry)(J:∀e,e.key=ek k->(f e).key=ek k/\(f e).val=ev v):KVg ek ev (E.modify i f) (F.set i (k,v)):=by
 unfold KVg at h ⊢;apply List.ext_getElem?;intro j;have y:=congrArg (λl=>l[j]?) h;simp only[List.getElem?_map]at y ⊢;rw[List.getElem?_modify,List.getElem?_set];by_cases e:i=j
 ·subst e;rw[if_pos rfl];rw[G]at y;cases D:E[i]? with
  |none=>rw[D]at y;cases y
  |some x=>
   rw[D]at y;have O:x.key=ek k:=congrArg Prod.fst (Option.some.inj y);obtain⟨H,I⟩:=J x O;have M:i<F.length:=(List.getElem?_eq_some_iff.1 G).1;rw[if_pos M];simp[H,I]
 ·rw[if_neg e];cases D:E[j]? with
  |none=>rw[D]at y;simpa using y
  |some x=>rw[D]at y;simpa[e]using y
theorem lW (y:List MapEntry)(i:Nat)(f:MapEntry->MapEntry)(D:∀e,(f e).born=e.born):(y.modify i f).map (·.born)=y.map (·.born):=by
 apply List.ext_getElem?;intro j;rw[List.getElem?_map,List.getElem?_map,List.getElem?_modify];cases y[j]? with
 |none=>rfl
 |some x=>by_cases e:i=j<;>simp[e,D]
theorem N0 {y D:List MapEntry}{c:Nat}(h:∀e∈y,e.born<c)(E:D.map (·.born)=y.map (·.born)):∀e∈D,e.born<c:=λe F=>by
 have:e.born∈y.map (·.born):=by rw[<- E];exact List.mem_map.2 ⟨e,F,rfl⟩
 obtain⟨x,G,H⟩:=List.mem_map.1 this;rw[<- H];exact h x G
theorem stays {v:Value}(h:Instr.sameBits 10000 v v=true)(w:World):(Instr.keyThatStays v v).run P w=.ok v w:=by
 unfold Instr.keyThatStays;rw[if_pos h];rfl
end
theorem rU {D:Type}{l:List D}{t i:Nat}{v y:D}(h:(l.set t v)[i]? =some y):i=t/\y=v\/i≠t/\l[i]? =some y:=by
 by_cases e:i=t
 ·subst e;left;have F:i<l.length:=by have:=(List.getElem?_eq_some_iff.1 h).1;simpa using this
  rw[List.getElem?_set_self F]at h;exact⟨rfl,(Option.some.inj h).symm⟩
 ·rw[List.getElem?_set_ne (λE=>e E.symm)]at h;exact .inr ⟨e,h⟩
theorem bV {a:Option Addr}{b:Nat} :b∈(fm a).toList↔fm a=some b:=by simp
structure Pt where
 fp:List Nat
 P:World->Prop
 st:∀{w w':World},P w->EM (λb=>b∈fp) w w'->P w'
 lt:∀{w:World},P w->∀b∈fp,b<w.heap.size
def ptA (k:Nat)(t:TypeId)(vs:List Value):Pt where
 fp:=[k]
 P:=λw=>aB w k t vs
 st:=λh hk=>h.block (hk.block k h.lt mem_cons_self)
 lt:=λh b hb=>by rw[mem_singleton]at hb;subst hb;exact h.lt
def ptO {α:Type}(T:Ty α)(t:TypeId)(a:Option Addr)(n c:Nat)(xs:List α):Pt where
 fp:=(fm a).toList
 P:=λw=>Ow T t w NoB a n c xs
 st:=λh hk=>h.keep (hk.mono λb hb=>by
  rcases hb with hb|hb
  ·exact hb.elim
  ·exact bV.2 hb.symm)
 lt:=λh b hb=>h.lt b (bV.1 hb)
structure St (ps:List Pt)(w:World):Prop where
 hold:∀p∈ps,p.P w
 ap:∀(i j:Nat) (p q:Pt),ps[i]? =some p->ps[j]? =some q->i≠j->∀b∈p.fp,b∉q.fp
theorem St.at {ps:List Pt}(h:St ps w)(i:Nat){p:Pt}(y:ps[i]? =some p):p.P w:=h.hold p (List.mem_of_getElem? y)
theorem St.nil (w:World):St [] w:=⟨λp hp=>(by cases hp),λi j p q hp=>by simp at hp⟩
theorem St.upd {ps:List Pt}{w w':World}(h:St ps w)(i:Nat){p p':Pt}(I:ps[i]? =some p)(R:Chg p.fp w w')(hp:p'.P w')(U:∀b∈p'.fp,b∈p.fp\/w.heap.size <=b):St (ps.set i p') w':=by
 have H:∀(j:Nat) (q:Pt),ps[j]? =some q->j≠i->q.P w'/\∀b∈p'.fp,b∉q.fp:=λj q E F=>by
  have J:=h.at j E;refine⟨q.st J (R.keep.mono λb D y=>h.ap j i q p E I F b D y),λb D y=>?_⟩;rcases U b D with h1|h1
  ·exact h.ap j i q p E I F b y h1
  ·have:=q.lt J b y;omega
 refine⟨λq E=>?_,λj k q r E Z F b D y=>?_⟩
 ·obtain⟨j,G⟩:=List.mem_iff_getElem?.1 E;rcases rU G with⟨_,rfl⟩|⟨F,G⟩
  ·exact hp
  ·exact(H j q G F).1
 ·rcases rU E with⟨aa,rfl⟩|⟨V,M⟩<;>rcases rU Z with⟨ac,rfl⟩|⟨Y,O⟩
  ·omega
  ·exact(H k r O Y).2 b D y
  ·exact(H j q M V).2 b y D
  ·exact h.ap j k q r M O F b D y
theorem St.keep {ps:List Pt}{w w':World}(h:St ps w)(D:EM (λb=>∃p∈ps,b∈p.fp) w w'):St ps w':=
 ⟨λp hp=>p.st (h.hold p hp) (D.mono λb y=>⟨p,hp,y⟩),h.ap⟩
theorem St.below {ps:List Pt}{w w':World}(h:St ps w)(y:bW w w'):St ps w':=h.keep (xF y _)
theorem St.add {ps:List Pt}{w w':World}(h:St ps w)(H:bW w w'){p:Pt}(hp:p.P w')(G:∀b∈p.fp,w.heap.size <=b):St (p::ps) w':=by
 refine⟨λq y=>?_,λi j q r y D I b E F=>?_⟩
 ·rcases List.mem_cons.1 y with rfl|y
  ·exact hp
  ·exact(h.below H).hold q y
 ·cases i with
  |zero=>
   cases j with
   |zero=>exact I rfl
   |succ j=>
    simp only[List.getElem?_cons_zero,List.getElem?_cons_succ,Option.some.injEq]at y D;subst y;have:=r.lt (h.at j D) b F;have:=G b E;omega
  |succ i=>
   cases j with
   |zero=>
    simp only[List.getElem?_cons_zero,List.getElem?_cons_succ,Option.some.injEq]at y D;subst D;have:=q.lt (h.at i y) b E;have:=G b F;omega
   |succ j=>
    simp only[List.getElem?_cons_succ]at y D;exact h.ap i j q r y D (by omega) b E F
theorem St.sub {ps D:List Pt}(h:St ps w)(f:Nat->Nat)(E:∀i q,D[i]? =some q->ps[f i]? =some q)(F:∀i j,i<D.length->j<D.length->f i=f j->i=j):St D w:=by
 refine⟨λq y=>?_,λi j p q hp y G=>?_⟩
 ·obtain⟨i,F⟩:=List.mem_iff_getElem?.1 y;exact h.at (f i) (E i q F)
 ·have H:=(List.getElem?_eq_some_iff.1 hp).1;have I:=(List.getElem?_eq_some_iff.1 y).1;exact h.ap (f i) (f j) p q (E i p hp) (E j q y) λe=>G (F i j H I e)
theorem St.tail {p:Pt}{ps:List Pt}(h:St (p::ps) w):St ps w:=h.sub (· +1) (λi q y=>by rw[List.getElem?_cons_succ];exact y) λi j _ _ e=>by omega
theorem St.low {ps:List Pt}{B:Nat}(y:∀p∈ps,∀b∈p.fp,B <=b){p:Pt}(D:ps[i]? =some p):∀b∈p.fp,B <=b:=y p (List.mem_of_getElem? D)
structure Sp (w0:World)(ps:List Pt)(w:World):Prop where
 st:St ps w
 low:∀p∈ps,∀b∈p.fp,w0.heap.size <=b
 bw:bW w0 w
theorem Sp.at {w0 w:World}{ps:List Pt}(h:Sp w0 ps w)(i:Nat){p:Pt}(y:ps[i]? =some p):p.P w:=h.st.at i y
theorem Sp.below {w0 w w':World}{ps:List Pt}(h:Sp w0 ps w)(y:bW w w'):Sp w0 ps w':=⟨h.st.below y,h.low,ae h.bw y h.bw.size⟩
theorem Sp.upd {w0 w w':World}{ps:List Pt}(h:Sp w0 ps w)(i:Nat){p p':Pt}(G:ps[i]? =some p)(E:Chg p.fp w w')(hp:p'.P w')(F:∀b∈p'.fp,b∈p.fp\/w.heap.size <=b):Sp w0 (ps.set i p') w':=by
 have H:=h.low p (List.mem_of_getElem? G);refine⟨h.st.upd i G E hp F,λq I b D=>?_,h.bw.trans (E.below h.bw.size H)⟩;obtain⟨j,y⟩:=List.mem_iff_getElem?.1 I;rcases rU y with⟨_,rfl⟩|⟨_,y⟩
 ·rcases F b D with e|e
  ·exact H b e
  ·have:=h.bw.size;omega
 ·exact h.low q (List.mem_of_getElem? y) b D
theorem Sp.add {w0 w w':World}{ps:List Pt}(h:Sp w0 ps w)(D:bW w w'){p:Pt}(hp:p.P w')(F:∀b∈p.fp,w.heap.size <=b):Sp w0 (p::ps) w':=
 ⟨h.st.add D hp F,λq y b E=>by
  have:=h.bw.size;rcases List.mem_cons.1 y with rfl|y
  ·have:=F b E;omega
  ·exact h.low q y b E,ae h.bw D h.bw.size⟩
theorem Sp.nil (w:World):Sp w [] w:=⟨St.nil w,λp hp=>(by cases hp),Below.refl _ _⟩
theorem Sp.sub {w0 w:World}{ps y:List Pt}(h:Sp w0 ps w)(f:Nat->Nat)(E:∀i q,y[i]? =some q->ps[f i]? =some q)(D:∀i j,i<y.length->j<y.length->f i=f j->i=j):Sp w0 y w:=
 ⟨h.st.sub f E D,λq G b F=>by
  obtain⟨i,D⟩:=List.mem_iff_getElem?.1 G;exact h.low q (List.mem_of_getElem? (E i q D)) b F,h.bw⟩
theorem Sp.tail {w0 w:World}{p:Pt}{ps:List Pt}(h:Sp w0 (p::ps) w):Sp w0 ps w:=h.sub (· +1) (λi q y=>by rw[List.getElem?_cons_succ];exact y) λi j _ _ e=>by omega
theorem Sp.oth {w0 w u:World}{ps:List Pt}(h:Sp w0 ps w)(i:Nat){p:Pt}(F:ps[i]? =some p)(H:Chg p.fp w u)(j:Nat){q:Pt}(y:ps[j]? =some q)(G:j≠i):q.P u:=
 q.st (h.at j y) (H.keep.mono λb D E=>h.st.ap j i q p y F G b D E)
theorem Sp.put {u:TypeId}{bytes:Nat}{z:Value}(J:TF P u 1 bytes z){w0 w:World}{ps:List Pt}(h:Sp w0 ps w)(j:Nat){vs:List Value}(F:ps[j]? =some (ptA k t vs)){v:Value}(E:v.cells= #[v])(h1:v.oneCell'=true)(I:i<vs.length):
 ∃y,(Instr.storeAt u (.pointer (some ⟨k,i,none⟩)) v).run P w=.ok () y/\Sp w0 (ps.set j (ptA k t (vs.set i v))) y/\w.grownBy y (some k):=by
 have G:aB w k t vs:=h.at j F;obtain⟨y,q,A,g⟩:=G.store J (i:=i) (v:=v) (by rw[E];rfl) (by omega) (by intro c D;rw[E]at D;simp at D;subst D;exact h1);refine⟨y,q,h.upd j F (Chg.grown g mem_cons_self) ?_ λb H=>.inl H,g⟩;show aB y k t (vs.set i v);rw[List.set_eq_take_append_cons_drop,if_pos I];rw[E]at A;simpa using A
theorem St.merge {p q r:Pt}{ps:List Pt}(h:St (p::ps) w)(i:Nat)(O:ps[i]? =some q)(V:r.P w)(M:∀b∈r.fp,b∈p.fp\/b∈q.fp):St (ps.set i r) w:=by
 have key:∀(j:Nat) (x:Pt),ps[j]? =some x->j≠i->∀b∈r.fp,b∉x.fp:=λj x D G b E y=>by
  rcases M b E with h1|h1
  ·exact h.ap 0 (j+1) p x rfl (by simpa using D) (by omega) b h1 y
  ·exact h.ap (i+1) (j+1) q x (by simpa using O) (by simpa using D) (by omega) b h1 y
 refine⟨λx D=>?_,λj k x J D Y G b E y=>?_⟩
 ·obtain⟨j,F⟩:=List.mem_iff_getElem?.1 D;rcases rU F with⟨_,rfl⟩|⟨_,F⟩
  ·exact V
  ·exact h.tail.at j F
 ·rcases rU D with⟨Z,rfl⟩|⟨R,H⟩<;>rcases rU Y with⟨aa,rfl⟩|⟨U,I⟩
  ·omega
  ·exact key k J I U b E y
  ·exact key j x H R b y E
  ·exact h.tail.ap j k x J H I G b E y
theorem Sp.merge {p q r:Pt}{ps:List Pt}{w0 w:World}(h:Sp w0 (p::ps) w)(i:Nat)(F:ps[i]? =some q)(G:r.P w)(E:∀b∈r.fp,b∈p.fp\/b∈q.fp):Sp w0 (ps.set i r) w:=
 ⟨h.st.merge i F G E,λx H b D=>by
  obtain⟨j,y⟩:=List.mem_iff_getElem?.1 H;rcases rU y with⟨_,rfl⟩|⟨_,y⟩
  ·rcases E b D with h1|h1
   ·exact h.low p mem_cons_self b h1
   ·exact h.low q (mem_cons_of_mem _ (List.mem_of_getElem? F)) b h1
  ·exact h.low x (mem_cons_of_mem _ (List.mem_of_getElem? y)) b D,h.bw⟩
theorem M5 {F:Type}{T:Ty F}(M:Flat T){st t ty:TypeId}{bytes:Nat}{z:Value}(ad:P.underlying st=some (.slice t))(aj:TF P t T.k bytes z)(I:0<bytes)
 {a:Option Addr} {n c:Nat} {xs:List F} (Y:Ow T t w NoB a n c xs) {D:Nat} {vs:List Value} {x:F} (V:D=w.heap.size)
 (G:u=w.alloc (.cells vs.toArray t)) (af:T.rep w NoB vs x) {cm:Nat} (J:(xs.length+1)*bytes <=140737488355328):
 Chg (fm a).toList w u/\∃(E:World) (a':Option Addr) (n' c':Nat),(Builtin.append_ #[st,st] ty #[.slice a n c,.slice (some ⟨D,0,none⟩) 1 cm]).run P u=.ok (.slice a' n' c') E/\Ow T t E NoB a' n' c' (xs++[x])/\Chg (fm a).toList w E/\Mj w a a':=by
 have y:bW w u:=G▸ar w _;have ac:Src T u NoB (some ⟨D,0,none⟩) 1 [x]:=Src.new1F M V G af;obtain⟨an,a4,ag,H,aa,Z,U,O⟩:=ff (ty:=ty) ad aj I (Y.below y) (λ_ _ h=>h) (cm:=cm) ac (by simpa using J);have c1:Chg (fm a).toList w u:=Chg.of y;exact⟨c1,an,a4,ag,H,aa,Z,c1.trans (Chg.row U),λg R=>(O g R).imp id λh=>Nat.le_trans y.size h⟩
theorem Mj.fp {a y:Option Addr}(h:Mj w a y):∀b∈(fm y).toList,b∈(fm a).toList\/w.heap.size <=b:=λb D=>(h b (bV.1 D)).imp bV.2 id
def gD (a:Option Addr)(b c:Int)(d:World)(e:VP)(f:List PanicEntry->World->Prop):Prop:=(Option.isSome a=true)/\(Option.isSome a=true)/\∃g h i,Ld aA (Option.map (λj=>j.add 3) a) d (.slice g h i)/\bd c (i:Int)/\∃j:Nat->FP [shI,shI],(∃k,j k (1:Int) (0:Int) d)/\∀k l m,aP 10 (∀n,j k l m n->ab (decide (m<(((Int.toNat c):Nat):Int))) ((bx m (((Int.toNat c):Nat):Int)/\Option.isSome g=true)/\∃o,Ld ai (aw g m 1) n (vS o)/\∃p:Nat,p<k/\j p (i64.wrap (l+(i64.wrap (((length o:Nat):Int)+1)))) (i64.wrap (m+1)) n) ((Option.isSome a=true)/\(Option.isSome a=true)/\∃o,Ld co (Option.map (λp=>p.add 2) a) n (vI o)/\f [{ v:=.iface ax (.agg #[vI b,vI o,vI l]),recovered:=false }] n))
theorem nY (E:Option Addr)(y:Int)(D:Int){K:Value->World->Prop}{X:List PanicEntry->World->Prop}(h:gD E y D w K X):Cf aO #[.pointer E,vI y,vI D] w (JN K X):=
 oK (c:=aH Tryz.f158) (by kernel_rfl) func158 (by kernel_rfl) [(6,[(6,shI),(16,shI)]),(5000019,[])] [.pointer E,vI y,vI D] (of_decide_eq_true (by kernel_rfl)) (gD E y D w K X) (by kernel_rfl) h
def gF (a:Option Addr)(b:Int)(c:World)(d:VP)(e:List PanicEntry->World->Prop):Prop:=(Option.isSome a=true)/\(Option.isSome a=true)/\∃f g h,Ld aA (Option.map (λi=>i.add 3) a) c (.slice f g h)/\(bx b (g:Int)/\Option.isSome f=true)/\∃i,Ld ai (aw f b 1) c (vS i)/\Cf np #[vS i] c λj k=>∃l m,j=rT #[vS l,.bool m]/\ab (!m) (Cf aO #[.pointer a,vI 131,vI b] k λn o=>(n=rT #[]/\d (vS l) o)\/∃p,n=.panicked p/\e p o) (d (vS l) k)
theorem oa (D:Option Addr)(y:Int){K:Value->World->Prop}{X:List PanicEntry->World->Prop}(h:gF D y w K X):Cf eW #[.pointer D,vI y] w (JN K X):=
 oK (c:=aH Tryz.f247) (by kernel_rfl) func247 (by kernel_rfl) [(5000008,[])] [.pointer D,vI y] (of_decide_eq_true (by kernel_rfl)) (gF D y w K X) (by kernel_rfl) h
theorem jF (a:lU)(b:Option Addr)(c d:Nat)(e:Option Addr){w K}(h:nA w (.cells #[vS a,.slice b c d] au) λf g=>true/\∃i,Ld ai (vA f 0) g (vS i)/\∃j,Ld ai e g (vS j)/\K (.bool (i==j)) g):Cf aW #[.agg #[vS a,.slice b c d],.pointer e] w (Ret K):=ru func246 [] h
theorem cZ (a:Option Addr)(b c:Nat)(d:Option Addr){w K}(h:∃e:Nat->FP [shI],(∃f,e f (0:Int) w)/\∀f g,aP 12 (∀i,e f g i->ab (decide (g<(b:Int))) ((bx g (b:Int)/\Option.isSome a=true)/\∃j k l m,Ld au (aw a g 2) i (.agg #[vS j,.slice k l m])/\uB aW #[.agg #[vS j,.slice k l m],.pointer d] i λn o=>ab n (K (vI g) o) (∃p:Nat,p<f/\e p (i64.wrap (g+1)) o)) (K (vI (-1)) i))):Cf br #[.slice a b c,.func (.func aW) #[] #[.pointer d]] w (Ret K):=ru func177 [(6,[(8,shI)])] h
theorem cQ (a:Option Addr)(b c:Nat)(d:Option Addr){w K}(h:uI br #[.slice a b c,.func (.func aW) #[] #[.pointer d]] w λe f=>K (.bool (decide (e >=0))) f):Cf cq #[.slice a b c,.func (.func aW) #[] #[.pointer d]] w (Ret K):=ru func245 [] h
theorem kR (a:lU)(b:Option Addr){w K}(h:nA w (.cells #[vS a] ai) λc d=>∃e,Ld ay b d (.pointer e)/\(Option.isSome e=true)/\(Option.isSome e=true)/\∃f g i,Ld aJ (Option.map (λj=>j.add 1) e) d (.slice f g i)/\uB cq #[.slice f g i,.func (.func aW) #[] #[.pointer (vA c 0)]] d λj k=>K (.bool j) k):Cf bM #[vS a,.pointer b] w (Ret K):=ru func244 [] h
theorem jG (a:Value)(b:Option Addr){w K}(h:nA w (.cells (Value.cells a) ah) λc d=>true/\∃e,Ld ai (vA c 0) d (vS e)/\∃f,Ld ai b d (vS f)/\K (.bool (e==f)) d):Cf aX #[a,.pointer b] w (Ret K):=ru func250 [] h
theorem cN (a:Option Addr)(b c:Nat)(d:Option Addr){w K}(h:∃e:Nat->FP [shI],(∃f,e f (0:Int) w)/\∀f g,aP 12 (∀i,e f g i->ab (decide (g<(b:Int))) ((bx g (b:Int)/\Option.isSome a=true)/\∃j,Ld ah (aw a g 24) i j/\uB aX #[j,.pointer d] i λk l=>ab k (K (vI g) l) (∃m:Nat,m<f/\e m (i64.wrap (g+1)) l)) (K (vI (-1)) i))):Cf dB #[.slice a b c,.func (.func aX) #[] #[.pointer d]] w (Ret K):=ru func311 [(6,[(8,shI)])] h
theorem cH (a:Option Addr)(b c:Nat)(d:Option Addr){w K}(h:uI dB #[.slice a b c,.func (.func aX) #[] #[.pointer d]] w λe f=>K (.bool (decide (e >=0))) f):Cf bU #[.slice a b c,.func (.func aX) #[] #[.pointer d]] w (Ret K):=ru func249 [] h
theorem kT (a:lU)(b:Option Addr){w K}(h:nA w (.cells #[vS a] ai) λc d=>∃e,Ld ay b d (.pointer e)/\(Option.isSome e=true)/\(Option.isSome e=true)/\∃f g i,Ld aE (Option.map (λj=>j.add 0) e) d (.slice f g i)/\uB bU #[.slice f g i,.func (.func aX) #[] #[.pointer (vA c 0)]] d λj k=>K (.bool j) k):Cf bm #[vS a,.pointer b] w (Ret K):=ru func248 [] h
def bN (a b:Option Addr)(c:World)(d:VP)(e:List PanicEntry->World->Prop):Prop:=∃f:FP [],((Option.isSome a=true)/\(Option.isSome a=true)/\∃g h i,Ld aA (Option.map (λj=>j.add 3) a) c (.slice g h i)/\(bx (1:Int) (h:Int)/\Option.isSome g=true)/\∃j,Ld ai (aw g (1:Int) 1) c (vS j)/\uB ij #[vS j] c λk l=>ab (!k) (Cf aO #[.pointer a,vI 221,vI 1] l λm n=>(m=rT #[]/\f n)\/∃o,m=.panicked o/\e o n) (uB bM #[vS j,.pointer b] l λm n=>ab m (Cf aO #[.pointer a,vI 52,vI 1] n λo p=>(o=rT #[]/\f p)\/∃q,o=.panicked q/\e q p) (f n)))/\aP 19 (∀g,f g->(Option.isSome a=true)/\(Option.isSome a=true)/\∃h i j,Ld aA (Option.map (λk=>k.add 3) a) g (.slice h i j)/\(bx (1:Int) (i:Int)/\Option.isSome h=true)/\∃k,Ld ai (aw h (1:Int) 1) g (vS k)/\d (vS k) g)
theorem eU (y:Option Addr)(D:Option Addr){K:Value->World->Prop}{X:List PanicEntry->World->Prop}(h:bN y D w K X):Cf bS #[.pointer y,.func (.func bM) #[] #[.pointer D]] w (JN K X):=
 oK (c:=aH Tryz.f243) (by kernel_rfl) func243 (by kernel_rfl) [(2,[]),(5000009,[]),(5000013,[])] [.pointer y,.func (.func bM) #[] #[.pointer D]] (of_decide_eq_true (by kernel_rfl)) (bN y D w K X) (by kernel_rfl) h
def bP (a b:Option Addr)(c:World)(d:VP)(e:List PanicEntry->World->Prop):Prop:=∃f:FP [],((Option.isSome a=true)/\(Option.isSome a=true)/\∃g h i,Ld aA (Option.map (λj=>j.add 3) a) c (.slice g h i)/\(bx (1:Int) (h:Int)/\Option.isSome g=true)/\∃j,Ld ai (aw g (1:Int) 1) c (vS j)/\uB ij #[vS j] c λk l=>ab (!k) (Cf aO #[.pointer a,vI 221,vI 1] l λm n=>(m=rT #[]/\f n)\/∃o,m=.panicked o/\e o n) (uB bm #[vS j,.pointer b] l λm n=>ab m (Cf aO #[.pointer a,vI 52,vI 1] n λo p=>(o=rT #[]/\f p)\/∃q,o=.panicked q/\e q p) (f n)))/\aP 19 (∀g,f g->(Option.isSome a=true)/\(Option.isSome a=true)/\∃h i j,Ld aA (Option.map (λk=>k.add 3) a) g (.slice h i j)/\(bx (1:Int) (i:Int)/\Option.isSome h=true)/\∃k,Ld ai (aw h (1:Int) 1) g (vS k)/\d (vS k) g)
theorem eV (y:Option Addr)(D:Option Addr){K:Value->World->Prop}{X:List PanicEntry->World->Prop}(h:bP y D w K X):Cf bS #[.pointer y,.func (.func bm) #[] #[.pointer D]] w (JN K X):=
 oK (c:=aH Tryz.f243) (by kernel_rfl) func243 (by kernel_rfl) [(2,[]),(5000009,[]),(5000013,[])] [.pointer y,.func (.func bm) #[] #[.pointer D]] (of_decide_eq_true (by kernel_rfl)) (bP y D w K X) (by kernel_rfl) h
def fv (a:Option Addr)(b:World)(c:VP)(d:List PanicEntry->World->Prop):Prop:=nA b (.cells #[.pointer a] ay) λe f=>∃g,Ld ay (vA e 0) f (.pointer g)/\Cf bS #[.pointer g,.func (.func bM) #[] #[.pointer (vA e 0)]] f λh i=>(∃j,h=.returned (vS j)/\nA i (.cells #[vS [],.slice none 0 0] au) λk l=>∃m,Sv au (vA k 0) (.agg #[vS j,.slice none 0 0]) l m/\∃n:Nat->FP [shI],(∃o,n o (2:Int) m)/\∀o p,aP 35 (∀q,n o p q->∃r,Ld ay (vA e 0) q (.pointer r)/\(Option.isSome r=true)/\(Option.isSome r=true)/\∃s t u,Ld aA (Option.map (λv=>v.add 3) r) q (.slice s t u)/\ab (decide (p<(t:Int))) (∃v,Ld ay (vA e 0) q (.pointer v)/\Cf eW #[.pointer v,vI p] q λw x=>(∃y,w=.returned (vS y)/\∃z:FP [],(true/\∃A B C,Ld aA (vA k 1) x (.slice A B C)/\uB dV #[.slice A B C,vS y] x λD E=>ab D (∃F,Ld ay (vA e 0) E (.pointer F)/\Cf aO #[.pointer F,vI 52,vI p] E λG H=>(G=rT #[]/\z H)\/∃I,G=.panicked I/\d I H) (true/\∃F G H,Ld aA (vA k 1) E (.slice F G H)/\ab ((G:Int)==6) (∃I,Ld ay (vA e 0) E (.pointer I)/\Cf aO #[.pointer I,vI 53,vI p] E λJ K=>(J=rT #[]/\z K)\/∃L,J=.panicked L/\d L K) (z E)))/\aP 16 (∀A,z A->true/\∃B C D,Ld aA (vA k 1) A (.slice B C D)/\nA A (.cells #[vS y] ai) λE F=>∃G H I J,(Builtin.append_ #[aA,aA] aA #[.slice B C D,.slice (vA E 0) 1 1]).run prog F=.ok (.slice H I J) G/\true/\∃K,Sv aA (vA k 1) (.slice H I J) G K/\∃L:Nat,L<o/\n L (i64.wrap (p+1)) K))\/∃y,w=.panicked y/\d y x) (∃v:FP [],(∃w,Ld ay (vA e 0) q (.pointer w)/\(Option.isSome w=true)/\(Option.isSome w=true)/\∃x y z,Ld aJ (Option.map (λA=>A.add 1) w) q (.slice x y z)/\ab ((y:Int)==6) (∃A,Ld ay (vA e 0) q (.pointer A)/\Cf aO #[.pointer A,vI 53,vI 0] q λB C=>(B=rT #[]/\v C)\/∃D,B=.panicked D/\d D C) (v q))/\aP 8 (∀w,v w->∃x:World->Prop,x (drew w)/\∃y,(∀z,x z->Ld ay (vA e 0) z (.pointer y))/\∃z,(∀A,x A->Ld ay (vA e 0) A (.pointer z))/\(Option.isSome z=true)/\(Option.isSome z=true)/\∃A B C,(∀D,x D->Ld aJ (Option.map (λE=>E.add 1) z) D (.slice A B C))/\∃D E F G,(∀H,x H->Ld au (vA k 0) H (.agg #[vS D,.slice E F G]))/\∀H I,H=(drew w).heap.size->I=(drew w).alloc (.cells #[vS D,.slice E F G] au)->x I/\∃J K L M,(Builtin.append_ #[aJ,aJ] aJ #[.slice A B C,.slice (vA H 0) 1 1]).run prog I=.ok (.slice K L M) J/\x J/\(Option.isSome y=true)/\(Option.isSome y=true)/\∃N,Sv aJ (Option.map (λO=>O.add 1) y) (.slice K L M) J N/\c (.tuple #[]) N))))\/∃j,h=.panicked j/\d j i
theorem mO (y:Option Addr){K:Value->World->Prop}{X:List PanicEntry->World->Prop}(h:fv y w K X):Cf fK #[.pointer y] w (JN K X):=
 oK (c:=aH Tryz.f156) (by kernel_rfl) func156 (by kernel_rfl) [(5000003,[]),(8,[(3,shI)]),(5000018,[]),(19,[]),(5000024,[]),(5000028,[]),(32,[]),(5000036,[]),(4000038,[])] [.pointer y] (of_decide_eq_true (by kernel_rfl)) (fv y w K X) (by kernel_rfl) h
def gE (a:Option Addr)(b:lU)(c:World)(d:VP)(e:List PanicEntry->World->Prop):Prop:=Cf ly #[vS b] c λf g=>∃h i j k,f=rT #[.slice h i j,.bool k]/\∃l:FP [shB],(ab k ((bx (0:Int) (i:Int)/\Option.isSome h=true)/\∃m,Ld ai (aw h (0:Int) 1) g (vS m)/\ab (m==[99,104,111,105,99,101]) (l (decide ((i:Int)>(2:Int))) g) (l false g)) (l false g))/\∀m,aP 12 (∀n,l m n->ab m ((Option.isSome a=true)/\(Option.isSome a=true)/\∃o,Sv aA (Option.map (λp=>p.add 3) a) (.slice h i j) n o/\Cf fK #[.pointer a] o λp q=>(p=rT #[]/\d (.tuple #[]) q)\/∃r,p=.panicked r/\e r q) (∃o:FP [shB],(ab k ((bx (0:Int) (i:Int)/\Option.isSome h=true)/\∃p,Ld ai (aw h (0:Int) 1) n (vS p)/\ab (p==[99,111,111,107,105,101]) (o ((i:Int)==4) n) (o false n)) (o false n))/\∀p,aP 12 (∀q,o p q->ab p ((Option.isSome a=true)/\(Option.isSome a=true)/\∃r,Sv aA (Option.map (λs=>s.add 3) a) (.slice h i j) q r/\Cf fL #[.pointer a] r λs t=>(s=rT #[]/\d (.tuple #[]) t)\/∃u,s=.panicked u/\e u t) (Cf aO #[.pointer a,vI 131,vI 0] q λr s=>(r=rT #[]/\d (.tuple #[]) s)\/∃t,r=.panicked t/\e t s))))
theorem nZ (y:Option Addr)(D:lU){K:Value->World->Prop}{X:List PanicEntry->World->Prop}(h:gE y D w K X):Cf gP #[.pointer y,vS D] w (JN K X):=
 oK (c:=aH Tryz.f80) (by kernel_rfl) func80 (by kernel_rfl) [(3,[(13,.one (.bool))]),(5000008,[]),(9,[(32,.one (.bool))]),(5000014,[]),(5000015,[])] [.pointer y,vS D] (of_decide_eq_true (by kernel_rfl)) (gE y D w K X) (by kernel_rfl) h
end Go.Pk
