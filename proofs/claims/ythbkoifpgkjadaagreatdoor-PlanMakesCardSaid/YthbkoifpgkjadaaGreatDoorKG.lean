/- What the laws lean on: SymH, PthP, PthB, MapG, DaD, V39, RegA, PatA, V20, WrdE, WrdG, Idx, RulA, V50, TopA, WordP, Fnd, TplP; what is used. Its conditions: none. -/
import Derived.Test.YthbkoifpgkjadaaGreatDoorKF
import Derived.Laws.RangeAny
import Derived.WalkMore
import Derived.Lib.OthersKept
import Derived.Shelf.RegionOpenPlain
set_option linter.unusedVariables false
set_option linter.unusedSimpArgs false
set_option linter.unusedSectionVars false
set_option maxRecDepth 100000
open List (append_assoc append_nil drop_eq_getElem_cons getElem_mem length length_append length_cons length_drop length_map length_nil length_take map_append map_cons map_nil mem_append mem_of_mem_take take_length take_of_length_le take_succ_eq_append_getElem)
open Option (map_some)
variable {n m i j k:Nat}{w u:Go.World}{s r:List UInt8}{t:Go.TypeId}{o:Type}{A:Go.Pk.Bl}{P:Go.Program}
open Go.IntKind (i64)
open Go.Proofs.Tryz
open List (length)
open Option (isSome)
namespace Go.Pk
open Go.RowKit (Below)
open Go.Proofs
theorem I7 (a:Option Addr)(n c:Nat)(l:List Txt)(s:Txt)(w:World)(D:Sl tS w qw a n c l):
 Cf uy #[.slice a n c,vS s] w (Ret λv w'=>v=.bool (decide (s∈l))/\w'=w):=by
 apply GZ;have G:=D.len;have J:=D.le;subst G;refine⟨λm i w'=>w'=w/\∃k:Nat,k <=l.length/\i=(k:Int)/\m=l.length-k/\s∉l.take k,⟨_,rfl,0,by omega,rfl,rfl,by simp⟩,?_⟩;intro m i;refine aP.of ?_ _;rintro _ ⟨rfl,k,I,rfl,rfl,E⟩;refine ab.of (λh=>?_) (λh=>?_)<;>simp at h
 ·obtain⟨v,F,H⟩:=D.load1 (i:=(k:Int)) aI rfl rfl (by simpa using h);obtain⟨rfl,-⟩:=vd H;simp only[Int.toNat_natCast]at F;refine⟨⟨⟨by omega,by omega⟩,D.isSome h⟩,_,F,?_⟩;refine ab.of (λy=>?_) (λy=>?_)<;>simp at y
  ·refine⟨?_,rfl⟩;rw[<- y];simp
  ·refine⟨l.length-(k+1),by omega,rfl,k+1,by omega,?_,rfl,?_⟩
   ·rw[wrJ];omega
   ·rw[ww h,mem_append];rintro(h3|h3)
    ·exact E h3
    ·simp at h3;exact y h3.symm
 ·have:k=l.length:=by omega
  subst this;rw[take_length]at E;exact⟨by simp[E],rfl⟩
theorem tB (a:Option Addr)(n c:Nat)(l:List Txt)(bq:l.length <=1000000)(w:World)(I:Sl tS w qw a n c l):
 Cf bZ #[.slice a n c] w (Ret λv w'=>∃y n' c',v=.slice y n' c'/\Ow tS ai w' NoB y n' c' (mD l)/\bo w.heap.size y/\bW w w'):=by
 apply Cs;have af:=I.len;subst af;intro bb w0 J O;have Y:bW w w0:=O▸ar _ _;have ag:Ow tS ai w0 NoB (some ⟨bb,0,none⟩) 0 0 []:=Ow.newF (eX _) J O (jc.nil _ _ _) (Nat.zero_le _);refine⟨λm y n' c' i w'=>∃k:Nat,k <=l.length/\i=(k:Int)/\m=l.length-k/\Ow tS ai w' NoB y n' c' (mD (l.take k))/\bo w.heap.size y/\bW w w',
  ⟨_,0,by omega,rfl,rfl,ag,kx J,Y⟩,?_⟩
 intro m y n' c' i;refine aP.of ?_ _;rintro w' ⟨k,bp,rfl,rfl,E,G,D⟩;refine ab.of (λh=>?_) (λh=>?_)<;>simp at h
 ·have a8:=I.below D;obtain⟨v,M,a0⟩:=a8.load1 (i:=(k:Int)) aI rfl rfl (by simpa using h);obtain⟨rfl,-⟩:=vd a0;simp only[Int.toNat_natCast]at M;refine⟨⟨⟨by omega,by omega⟩,I.isSome h⟩,_,M,?_⟩;refine aK (I7 y n' c' _ _ w' E.all) ?_;rintro _ w' ⟨rfl,rfl⟩;refine⟨_,rfl,?_⟩;have V:i64.wrap ((k:Int)+1)=((k+1:Nat):Int):=by rw[wrJ];omega
  try dsimp only
  rw[V];have ad:=(yr (l.take k)).2.2;rw[length_take]at ad;refine ab.of (λF=>?_) (λF=>?_)<;>simp at F
  ·intro be R ac H;have aj:=E.below (H▸ar w' (.cells #[.string (mkS l[k])] ai):bW w' R);have a9:Src tS R NoB (some ⟨be,0,none⟩) 1 [l[k]]:=Src.new1F (eX _) ac H (mu trivial);obtain⟨bl,a4,bk,U,av,an,aa,Z⟩:=ff (ty:=aA) bh dG (by decide) aj (λ_ _ h=>h) (cm:=1) a9 (by simp;omega);refine⟨bl,a4,bk,U,av,l.length-(k+1),by omega,k+1,by omega,rfl,rfl,?_,?_,?_⟩
   ·rw[ww h,vf,if_neg F];exact an
   ·subst H;exact G.app (by have:=D.size;simp;omega) Z
   ·subst H;exact(ae D (ar _ _) D.size).grown aa (by have:=D.size;simp;omega) G
  ·refine⟨l.length-(k+1),by omega,k+1,by omega,rfl,rfl,?_,G,D⟩;rw[ww h,vf,if_pos F];exact E
 ·have:k=l.length:=by omega
  subst this;rw[take_length]at E;exact⟨_,_,_,rfl,E,G,D⟩
def pw (s:lU):List Nat:=s.map λc=>(sym c).toNat
theorem FI {c:UInt8}(e:s=c::r):aU s (0:Int)=((c.toNat:Nat):Int):=by subst e;rfl
section
variable {α β:Type} [DecidableEq α]
def KVg (ek:α->Value)(ev:β->Value)(es:List MapEntry)(kvs:List (α×β)):Prop:=es.map (λe=>(e.key,e.val))=kvs.map λp=>(ek p.1,ev p.2)
def xz (ek:α->Value)(ev:β->Value)(w:World)(r:Nat)(kvs:List (α×β)):Prop:=∃es clock,w.heap[r]? =some (.map es clock)/\KVg ek ev es.toList kvs
def mM (k:α):List (α×β)->Option β
 |[]=>none
 |(k',v)::l=>if k=k' then some v else mM k l
def kY (k:α):List (α×β)->Nat->Option (Nat×β)
 |[],_=>none
 |(k',v)::l,i=>if k=k' then some (i,v)else kY k l (i+1)
theorem uM (k:α):∀(l:List (α×β)) (i:Nat),(kY k l i).map (·.2)=mM k l
 |[],_=>rfl
 |(k',v)::l,i=>by
  unfold kY mM;split
  ·rfl
  ·exact uM k l (i+1)
theorem vO (k:α)(v:β)(k':α):∀l:List (α×β),mM k' (l++[(k,v)])=(mM k' l).or (if k'=k then some v else none)
 |[]=>by
  show(if k'=k then some v else none)=_;rfl
 |(x,y)::l=>by
  show(if k'=x then some y else mM k' (l++[(k,v)]))=(if k'=x then some y else mM k' l).or _;split
  ·rfl
  ·exact vO k v k' l
structure Dd (P:Program)(kt:TypeId)(ek:α->Value):Prop where
 check:∀(b:Bool) (k:α) (w:World),(Instr.checkKey b 10000 kt (ek k)).run P w=.ok () w
 find:∀{β:Type} (ev:β->Value) (k:α) (es:List MapEntry) (kvs:List (α×β)) (w:World),KVg ek ev es kvs->(Instr.findKey kt (ek k) es).run P w=.ok ((kY k kvs 0).map λp=>(p.1,ev p.2)) w
theorem Dd.struct {H:Array Field}(O:P.underlying t=some (.struct H)){E:α->Value}(heq:∀a b,eqV P 10000 t (E a) (E b)=some (decide (a=b)))
 (check:∀(b:Bool) (k:α) (w:World),(Instr.checkKey b 10000 t (E k)).run P w=.ok () w):Dd P t E where
 check:=check
 find:=by
  intro β G k D y w h;have ask:∀(D:List MapEntry) (y:List (α×β)) (i:Nat),KVg E G D y->(Instr.findAsking t (E k) D i).run P w=.ok ((kY k y i).map λp=>(p.1,G p.2)) w:=by
   intro D;induction D with
   |nil=>
    intro y i h;have:y=[]:=by unfold KVg at h;simp at h;exact h
    subst this;rfl
   |cons e D U=>
    intro y i h;cases y with
    |nil=>unfold KVg at h;simp at h
    |cons p y=>
     obtain⟨k',v⟩:=p;unfold KVg at h;simp only[map_cons,List.cons.injEq,Prod.mk.injEq]at h;obtain⟨⟨J,R⟩,M⟩:=h;unfold Instr.findAsking kY;rw[J];have I:(Op.equal t (E k) (E k')).run P w=.ok (decide (k=k')) w:=OA 10000 t _ _ _ w (heq k k');rw[Sem.run_bind,I,Result.andThen_ok];by_cases F:k=k'
     ·simp[F,R]
     ·simp only[F,decide_false,if_false];exact U y (i+1) M
  unfold Instr.findKey;rw[Sem.run_bind,bT O,Result.andThen_ok];cases D with
  |nil=>
   have:y=[]:=by unfold KVg at h;simp at h;exact h
   subst this;rfl
  |cons e D=>exact ask (e::D) y 0 h
variable {ek:α->Value} {ev:β->Value}
theorem xz.below {w w':World}{r:Nat}{kvs:List (α×β)}(h:xz ek ev w r kvs)(E:bW w w'):xz ek ev w' r kvs:=by
 obtain⟨D,c,y,F⟩:=h;exact⟨D,c,(E.block r (Array.getElem?_eq_some_iff.1 y).1).trans y,F⟩
theorem xz.lt {r:Nat}{D:List (α×β)}(h:xz ek ev w r D):r<w.heap.size:=by
 obtain⟨E,c,y,F⟩:=h;exact(Array.getElem?_eq_some_iff.1 y).1
theorem xz.keep {w w':World}{r:Nat}{kvs:List (α×β)}(h:xz ek ev w r kvs)(D:w'.heap[r]? =w.heap[r]?):xz ek ev w' r kvs:=by
 obtain⟨y,c,E,F⟩:=h;exact⟨y,c,D.trans E,F⟩
theorem xz.grown {w w':World}{r:Nat}{kvs:List (α×β)}(h:xz ek ev w r kvs)(y:w.grownBy w' (some k))(D:r≠k):xz ek ev w' r kvs:=h.keep (y.block r h.lt λe=>D (Option.some.inj e))
theorem xz.new {w w':World}{r:Nat}(y:r=w.heap.size)(D:w'=w.alloc (.map #[] 0)):xz ek ev w' r []:=by
 subst y D;exact⟨#[],0,heap_alloc_new w _,rfl⟩
theorem xM {r:Nat}{y:Array MapEntry}{c:Nat}(h:w.heap[r]? =some (.map y c)):(getObj r).run P w=.ok (.map y c) w:=by
 simp only[getObj,Sem.run,h]
theorem xz.look2 {mt F D:TypeId}{n bytes:Nat}{z:Value}(M:P.underlying mt=some (.map F D))(E:Dd P F ek)(G:TF P D n bytes z){r:Nat}{y:List (α×β)}(h:xz ek ev w r y)(k:α):
 (Instr.lookup mt (.map (some r)) (ek k) true).run P w=.ok (.tuple #[((mM k y).map ev).getD z,.bool (mM k y).isSome]) w:=by
 obtain⟨R,c,H,J⟩:=h;obtain⟨i,I,_,_,O⟩:=G.info;unfold Instr.lookup;simp only[Sem.run_bind,bT M,Result.andThen_ok,xM H,Sem.run_pure,E.check,E.find ev k _ _ _ J];rw[<- uM k y 0];cases kY k y 0 with
 |none=>simp[zeroValue,kj I,O]
 |some p=>simp
theorem xz.look1 {mt F D:TypeId}{n bytes:Nat}{z:Value}(M:P.underlying mt=some (.map F D))(E:Dd P F ek)(G:TF P D n bytes z){r:Nat}{y:List (α×β)}(h:xz ek ev w r y)(k:α):
 (Instr.lookup mt (.map (some r)) (ek k) false).run P w=.ok (((mM k y).map ev).getD z) w:=by
 obtain⟨R,c,H,J⟩:=h;obtain⟨i,I,_,_,O⟩:=G.info;unfold Instr.lookup;simp only[Sem.run_bind,bT M,Result.andThen_ok,xM H,Sem.run_pure,E.check,E.find ev k _ _ _ J];rw[<- uM k y 0];cases kY k y 0 with
 |none=>simp[zeroValue,kj I,O]
 |some p=>simp
theorem xz.put {mt H I:TypeId}(M:P.underlying mt=some (.map H I))(G:Dd P H ek){r:Nat}{y:List (α×β)}(h:xz ek ev w r y){k:α}(R:mM k y=none)(v:β):
 ∃w',(Instr.mapUpdate mt (.map (some r)) (ek k) (ev v)).run P w=.ok () w'/\xz ek ev w' r (y++[(k,v)])/\w.grownBy w' (some r):=by
 obtain⟨F,c,D,E⟩:=h;have J:r<w.heap.size:=(Array.getElem?_eq_some_iff.1 D).1;have U:kY k y 0=none:=by
  have:=uM k y 0;rw[R]at this;simpa using this
 refine⟨{ w with heap:=w.heap.setIfInBounds r (.map (F.push { key:=ek k,val:=ev v,born:=c }) (c+1)) },?_,⟨F.push { key:=ek k,val:=ev v,born:=c },c+1,by simp[J],?_⟩,⟨rfl,rfl,rfl,by simp,λj V O=>?_⟩⟩
 ·unfold Instr.mapUpdate;simp only[Sem.run_bind,bT M,Result.andThen_ok,xM D,G.check,G.find ev k _ _ _ E,U,Option.map_none];simp only[setObj,Sem.run,D]
 ·unfold KVg at E ⊢;simp only[Array.toList_push,map_append,map_cons,map_nil,E]
 ·have:r≠j:=λe=>O (by rw[e]);simp[Array.getElem?_setIfInBounds_ne this]
end
def d0:DA:=⟨0,0,[],[]⟩
theorem zJ (a b:Value){w K}(h:nA w (.cells (Value.cells a) ak) λc d=>nA d (.cells (Value.cells b) bj) λe f=>∃g:FP [],(∃i,Ld bj (vA e 0) f i/\uB pm #[i] f λj k=>ab (!j) (K (.bool false) k) (true/\∃l,Ld ai (vA e 19) k (vS l)/\true/\∃m,Ld ai (vA c 21) k (vS m)/\uB ke #[vS l,vS m] k λn o=>ab (!n) (K (.bool false) o) (g o)))/\aP 12 (∀i,g i->∃j:FP [],(true/\∃k,Ld iG (vA e 0) i (.bool k)/\ab k (true/\∃l,Ld iG (vA c 20) i (.bool l)/\ab (!l) (K (.bool false) i) (true/\∃m,Ld iG (vA e 0) i (.bool m)/\ab (!m) (true/\∃n,Ld iG (vA c 19) i (.bool n)/\ab (!n) (K (.bool false) i) (j i)) (j i))) (true/\∃l,Ld iG (vA e 0) i (.bool l)/\ab (!l) (true/\∃m,Ld iG (vA c 19) i (.bool m)/\ab (!m) (K (.bool false) i) (j i)) (j i)))/\aP 18 (∀k,j k->true/\∃l,Ld iG (vA c 0) k (.bool l)/\ab l (true/\∃m,Ld am (vA e 1) k m/\true/\∃n,Ld am (vA c 1) k n/\uB ph #[m,n] k λo p=>K (.bool o) p) (true/\∃m,Ld am (vA e 1) k m/\true/\∃n,Ld am (vA c 1) k n/\∃o,(do eqGuard .eql am (.tmp 41) (.tmp 43) m n;binOp .eql am m n:Sem Value).run prog k=.ok (.bool o) k/\K (.bool o) k)))):Cf nq #[a,b] w (Ret K):=ru func30 [(2,[]),(10,[])] h
theorem zN (a:Value){w K}(h:nA w (.cells (Value.cells a) bj) λb c=>true/\∃d,Ld am (vA b 1) c d/\uB mS #[d] c λe f=>ab e (true/\∃g,Ld ai (vA b 19) f (vS g)/\uB nK #[vS g] f λi j=>ab i (true/\∃k,Ld co (vA b 20) j (vI k)/\ab (decide (k >=0)) (true/\∃l,Ld co (vA b 20) j (vI l)/\K (.bool (decide (l <=2))) j) (K (.bool false) j)) (K (.bool false) j)) (K (.bool false) f)):Cf nt #[a] w (Ret K):=ru func50 [] h
theorem yf (a:Bool){w K}(h:ab a (K (vI 1) w) (K (vI 0) w)):Cf lY #[.bool a] w (Ret K):=ru func51 [] h
theorem Ct (a:Value){w K}(h:nA w (.cells (Value.cells a) bj) λb c=>true/\∃d,Ld am (vA b 1) c d/\uB lF #[d] c λe f=>ab e (true/\∃g,Ld ai (vA b 19) f (vS g)/\uB ic #[vS g] f λi j=>ab i (true/\∃k,Ld co (vA b 20) j (vI k)/\ab (decide (k >=0)) (true/\∃l,Ld co (vA b 20) j (vI l)/\K (.bool (decide (l <=2))) j) (K (.bool false) j)) (K (.bool false) j)) (K (.bool false) f)):Cf pm #[a] w (Ret K):=ru func70 [] h
theorem zI (a b:lU){w K}(h:ab (decide (((length a:Nat):Int) >=((length b:Nat):Int))) (bd ((length b:Nat):Int) (((length a):Nat):Int)/\∀c,c=(List.take (Int.toNat ((length b:Nat):Int)) a)->K (.bool (c==b)) w) (K (.bool false) w)):Cf ke #[vS a,vS b] w (Ret K):=ru func71 [] h
theorem SF {r:Req}(o:r.ok)(ac:r.host.name.length <=80000000)(U:Env w):Cf nt #[r.v] w (Ret λv w'=>v=.bool (wk r)/\bW w w'):=by
 apply zN;intro Z J Y R;have G:=(R▸ar w _:bW w J)
 have D:aB J Z bj r.cells:=aB.new Y R;refine⟨rfl,_,bn.load D (i:=1) (us:=r.host.cells) (Hst.len o) (λj V=>Ai o V),?_⟩;refine aK (vG o (by omega) J (U.step G)) ?_;rintro _ aa ⟨rfl,H⟩;have E:=ae G H G.size;refine⟨_,rfl,ab.of (λh=>?_) (λh=>⟨by unfold wk;rw[h];rfl,E⟩)⟩;refine⟨rfl,_,(D.below H).load1 aI rfl (i:=19) (mY o 0),?_⟩;refine aK (vk r.path aa) ?_;rintro _ ad ⟨rfl,O⟩;have F:=ae E O E.size;have M:=(D.below H).below O;refine⟨_,rfl,ab.of (λy=>?_) (λy=>⟨by unfold wk;rw[h,y];rfl,F⟩)⟩;refine⟨rfl,_,M.load1 eI rfl (i:=20) (mY o 1),ab.of (λI=>?_) (λI=>⟨by unfold wk;rw[h,y,I];rfl,F⟩)⟩;exact⟨rfl,_,M.load1 eI rfl (i:=20) (mY o 1),by unfold wk;rw[h,y,I];rfl,F⟩
theorem DC {r:Req}(o:r.ok)(aa:r.host.name.length <=80000000)(hp:r.path.length <=9223372036854775800)(w:World):Cf pm #[r.v] w (Ret λv w'=>v=.bool (wk r)/\bW w w'):=by
 apply Ct;intro V G U M;have I:=(M▸ar w _:bW w G)
 have H:aB G V bj r.cells:=aB.new U M;refine⟨rfl,_,bn.load H (i:=1) (us:=r.host.cells) (Hst.len o) (λj R=>Ai o R),?_⟩;refine aK (tA o (by omega) G) ?_;rintro _ Y ⟨rfl,J⟩;have y:=ae I J I.size;refine⟨_,rfl,ab.of (λh=>?_) (λh=>⟨by unfold wk;rw[h];rfl,y⟩)⟩;have E:=H.below J;refine⟨rfl,_,E.load1 aI rfl (i:=19) (mY o 0),?_⟩;refine aK (pH r.path hp Y) ?_;rintro _ Z ⟨rfl,O⟩;rw[O];clear O Z;refine⟨_,rfl,ab.of (λD=>?_) (λD=>⟨by unfold wk;rw[h,D];rfl,y⟩)⟩;refine⟨rfl,_,E.load1 eI rfl (i:=20) (mY o 1),ab.of (λF=>?_) (λF=>⟨by unfold wk;rw[h,D,F];rfl,y⟩)⟩;exact⟨rfl,_,E.load1 eI rfl (i:=20) (mY o 1),by unfold wk;rw[h,D,F];rfl,y⟩
theorem Qo (b:Bool)(w:World):Cf lY #[.bool b] w (Ret λv w'=>v=vI (if b=true then 1 else 0)/\w'=w):=by
 apply yf;cases b
 ·exact ab.no rfl ⟨rfl,rfl⟩
 ·exact ab.yes rfl ⟨rfl,rfl⟩
theorem ck:Whl prog ak 22:=⟨⟨_,_,ko⟩,by kernel_rfl⟩
theorem rM (s p:lU)(w:World):Cf ke #[vS s,vS p] w (Ret λv w'=>v=.bool (NZ s p)/\w'=w):=by
 apply zI;refine ab.of (λh=>⟨⟨by omega,by simpa using h⟩,λt y=>⟨?_,rfl⟩⟩) (λh=>⟨?_,rfl⟩)
 ·rw[y];unfold NZ;rw[h,Int.toNat_natCast];rfl
 ·unfold NZ;rw[h];rfl
theorem BM {p:Pat}{r:Req}(E:p.ok)(or:r.ok)(bq:p.host.name.length <=80000000)(av:r.host.name.length <=80000000)(bs:r.path.length <=9223372036854775800)(w:World):
 Cf nq #[p.v,r.v] w (Ret λv w'=>v=.bool (wk r&&jH p r)/\bW w w'):=by
 apply zJ;intro ag M a9 ad bp H bb af;have Z:=(ad▸ar w _:bW w M)
 have aa:=(af▸ar M _:bW M H)
 have D:aB H ag ak p.cells:=(aB.new a9 ad:aB M ag ak p.cells).below aa;have F:aB H bp bj r.cells:=aB.new bb af;have I:=ae Z aa Z.size;refine iV (λW=>bW H W/\wk r=true/\NZ r.path p.pre=true) ?_ ?_
 ·refine⟨_,oA.load0 F (Req.len or),?_⟩;refine aK (DC or av bs H) ?_;rintro _ bu ⟨rfl,J⟩;have Y:=ae I J I.size;refine⟨_,rfl,ab.of (λh=>⟨by rw[show wk r=false by simpa using h];rfl,Y⟩) (λh=>?_)⟩;have h:wk r=true:=by simpa using h
  refine⟨rfl,_,(F.below J).load1 aI rfl (i:=19) (mY or 0),rfl,_,(D.below J).load1 aI rfl (i:=21) (mX E 2),?_⟩;refine aK (rM _ _ bu) ?_;rintro _ bt ⟨rfl,ac⟩;rw[ac];clear ac bt;refine⟨_,rfl,ab.of (λy=>⟨?_,Y⟩) (λy=>⟨J,h,by simpa using y⟩)⟩;unfold jH;rw[show NZ r.path p.pre=false by simpa using y,Bool.false_and,Bool.and_false]
 rintro W ⟨R,be,a8⟩;have G:=ae I R I.size;have D:=D.below R;have F:=F.below R;have bl:(wk r&&jH p r)=((if r.sec=true then p.sec else p.plain)&&(if p.wild=true then pY r.host p.host else vH r.host p.host)):=by unfold jH;rw[be,a8];rfl
 rw[bl];have V:=F.load1 (P:=prog) j5 rfl (i:=0) rfl;refine iV (λO=>O=W/\(if r.sec=true then p.sec else p.plain)=true) ?_ ?_
 ·refine⟨rfl,_,V,ab.of (λh=>⟨rfl,_,D.load1 j5 rfl (i:=20) (mX E 1),ab.of (λy=>⟨?_,G⟩) (λy=>⟨rfl,_,V,ab.no (by rw[h];rfl) ⟨rfl,?_⟩⟩)⟩) (λh=>⟨rfl,_,V,ab.yes (by rw[h];rfl) ⟨rfl,_,D.load1 j5 rfl (i:=19) (mX E 0),ab.of (λy=>⟨?_,G⟩) (λy=>⟨rfl,?_⟩)⟩⟩)⟩
  ·rw[if_pos h,show p.sec=false by simpa using y];rfl
  ·rw[if_pos h];simpa using y
  ·rw[if_neg (by rw[h];decide),show p.plain=false by simpa using y];rfl
  ·rw[if_neg (by rw[h];decide)];simpa using y
 rintro O ⟨hV,bk⟩;rw[hV];clear hV O;rw[bk,Bool.true_and];have an:=bn.load (P:=prog) F (i:=1) (us:=r.host.cells) (Hst.len or) (λj U=>Ai or U);have aj:=bn.load (P:=prog) D (i:=1) (us:=p.host.cells) (Hst.len E) (λj U=>Af E U);refine⟨rfl,_,D.load1 j5 rfl (i:=0) rfl,ab.of (λh=>⟨rfl,_,an,rfl,_,aj,?_⟩) (λh=>⟨rfl,_,an,rfl,_,aj,_,Iw or E W,?_,G⟩)⟩
 ·refine aK (Dy or E av bq W) ?_;rintro _ bw ⟨rfl,a0⟩;exact⟨_,rfl,by rw[if_pos h],ae G a0 G.size⟩
 ·rw[if_neg (by rw[h];decide)]
theorem BX (a:lU){w K}(h:uL ec #[vS a,.int .u8 10] w λb c d e=>∃f:FP [.one .slice],((bx (i64.wrap ((c:Int)-1)) (c:Int)/\Option.isSome b=true)/\∃g,Ld ai (aw b (i64.wrap ((c:Int)-1)) 1) e (vS g)/\ab (g==[]) (bd (i64.wrap ((c:Int)-1)) (d:Int)/\f b (Int.toNat (i64.wrap ((c:Int)-1))) d e) (f b c d e))/\∀g i j,aP 12 (∀k,f g i j k->∃l:Nat->FP [shI],(∃m,l m (0:Int) k)/\∀m n,aP 12 (∀o,l m n o->ab (decide (n<(i:Int))) ((bx n (i:Int)/\Option.isSome g=true)/\∃p,Ld ai (aw g n 1) o (vS p)/\uS kX #[vS p,vS [13]] o λq r=>(bx n (i:Int)/\Option.isSome g=true)/\∃s,Sv ai (aw g n 1) (vS q) r s/\∃t:Nat,t<m/\l t (i64.wrap (n+1)) s) (uL gR #[.slice g i j] o λp q r s=>K (.slice p q r) s)))):Cf jm #[vS a] w (Ret K):=ru func73 [(4,[(3,.one .slice)]),(14,[(21,shI)])] h
theorem B1 (a:lU){w K}(h:uL ec #[vS a,.int .u8 32] w λb c d e=>uB dV #[.slice b c d,vS []] e λf g=>ab f (K (.tuple #[.slice none 0 0,.bool false]) g) (K (.tuple #[.slice b c d,.bool true]) g)):Cf ly #[vS a] w (Ret K):=ru func147 [] h
theorem DP (a:lU){w K}(h:ab (a==[]) (K (vS [37]) w) (∃b c d e,(convert ai aQ (vS a)).run prog w=.ok (.slice c d e) b/\∃f:Nat->FP [.one .slice,shI],(∃g,f g none 0 0 (0:Int) b)/\∀g i j k l,aP 28 (∀m,f g i j k l m->ab (decide (l<(d:Int))) ((bx l (d:Int)/\Option.isSome c=true)/\∃n,Ld bc (aw c l 1) m (.int .u8 n)/\∃o:FP [shB],(ab (decide (n>(32:Int))) (ab (decide (n<(127:Int))) (o (n !=37) m) (o false m)) (o false m))/\∀p,aP 9 (∀q,o p q->ab p (nA q (.cells #[.int .u8 n] bc) λr s=>∃t u v x,(Builtin.append_ #[aQ,aQ] aQ #[.slice i j k,.slice (vA r 0) 1 1]).run prog s=.ok (.slice u v x) t/\∃y:Nat,y<g/\f y u v x (i64.wrap (l+1)) t) ((0 <=(4:Int))/\bx (Int.fdiv n (2 ^ (min (Int.toNat 4) (IntKind.bits .u8)))) ((length [48,49,50,51,52,53,54,55,56,57,65,66,67,68,69,70]:Nat):Int)/\bx (IntKind.u8.wrap (((BitVec.ofInt (IntKind.bits .u8) n) &&& (BitVec.ofInt (IntKind.bits .u8) (15:Int))).toNat:Nat)) ((length [48,49,50,51,52,53,54,55,56,57,65,66,67,68,69,70]:Nat):Int)/\∀r,q.heap.size <=r->∀s,bW q s->s.heap[r]? =some (.cells #[.int .u8 37,.int .u8 (aU [48,49,50,51,52,53,54,55,56,57,65,66,67,68,69,70] (Int.fdiv n (2 ^ (min (Int.toNat 4) (IntKind.bits .u8))))),.int .u8 (aU [48,49,50,51,52,53,54,55,56,57,65,66,67,68,69,70] (IntKind.u8.wrap (((BitVec.ofInt (IntKind.bits .u8) n) &&& (BitVec.ofInt (IntKind.bits .u8) (15:Int))).toNat:Nat)))] bc)->∃t u v x,(Builtin.append_ #[aQ,aQ] aQ #[.slice i j k,.slice (vA r 0) 3 3]).run prog s=.ok (.slice u v x) t/\∃y:Nat,y<g/\f y u v x (i64.wrap (l+1)) t))) (∃n,(convert aQ ai (.slice i j k)).run prog m=.ok (vS n) m/\K (vS n) m)))):Cf qW #[vS a] w (Ret K):=ru func342 [(16,[(3,.one .slice),(11,shI)]),(27,[(24,shB)]),(3000031,[(0,shB),(1,shB),(2,shB),(4,shB),(5,shB),(3,shB),(6,shB),(7,shB)])] h
theorem DQ (a:Int){w K}(h:uI eS #[vS [48,49,50,51,52,53,54,55,56,57,65,66,67,68,69,70],.int .u8 a] w λb c=>K (.int .u8 (IntKind.u8.wrap b)) c):Cf mT #[.int .u8 a] w (Ret K):=ru func341 [] h
theorem zA (a:lU){w K}(h:uS kX #[vS a,vS [37]] w λb c=>∃d:Nat->FP [.one .slice,.one .str],(∃e,d e none 0 0 b c)/\∀e f g i j,aP 29 (∀k,d e f g i j k->ab (!(j==[])) (bx (0:Int) ((length j:Nat):Int)/\∃l:FP [.one (.int .u8),shI],(ab ((aU j (0:Int))==37) (ab (decide (((length j:Nat):Int)<(3:Int))) (K (.tuple #[vS [],.bool false]) k) (bx (1:Int) ((length j:Nat):Int)/\∃m,(∀n,bW k n->Cf mT #[.int .u8 (aU j (1:Int))] n λo p=>o=.returned (.int .u8 m)/\Below k.heap.size n p)/\(0 <=(4:Int))/\bx (2:Int) ((length j:Nat):Int)/\∃n,(∀o,bW k o->Cf mT #[.int .u8 (aU j (2:Int))] o λp q=>p=.returned (.int .u8 n)/\Below k.heap.size o q)/\∀o,bW k o->l (IntKind.u8.wrap (((BitVec.ofInt (IntKind.bits .u8) (IntKind.u8.wrap (m*2 ^ (min (Int.toNat 4) (IntKind.bits .u8))))) ||| (BitVec.ofInt (IntKind.bits .u8) (IntKind.u8.wrap (((BitVec.ofInt (IntKind.bits .u8) n) &&& (BitVec.ofInt (IntKind.bits .u8) (15:Int))).toNat:Nat)))).toNat:Nat)) (3:Int) o)) (l (aU j (0:Int)) (1:Int) k))/\∀m n,aP 16 (∀o,l m n o->nA o (.cells #[.int .u8 m] bc) λp q=>∃r s t u,(Builtin.append_ #[aQ,aQ] aQ #[.slice f g i,.slice (vA p 0) 1 1]).run prog q=.ok (.slice s t u) r/\bd n (((length j):Nat):Int)/\∀v,v=(List.drop (Int.toNat n) j)->∃x:Nat,x<e/\d x s t u v r)) (∃l,(convert aQ ai (.slice f g i)).run prog k=.ok (vS l) k/\uS qW #[vS l] k λm n=>ab (!(m==a)) (K (.tuple #[vS [],.bool false]) n) (∃o,(convert aQ ai (.slice f g i)).run prog n=.ok (vS o) n/\K (.tuple #[vS o,.bool true]) n)))):Cf np #[vS a] w (Ret K):=ru func310 [(8,[(4,.one .slice),(5,.one .str)]),(18,[(6,.one (.int .u8)),(7,shI)])] h
theorem B4 (a:lU){w K}(h:nA w (.cells #[] ai) λb c=>uL eE #[vS a,.int .u8 10] c λd e f g=>∃i:Nat->FP [.one .slice,shI],(∃j,i j (vA b 0) 0 0 (0:Int) g)/\∀j k l m n,aP 36 (∀o,i j k l m n o->ab (decide (n<(e:Int))) ((bx n (e:Int)/\Option.isSome d=true)/\∃p,Ld ai (aw d n 1) o (vS p)/\∃q:FP [],(ab (n==(i64.wrap ((e:Int)-1))) (ab (p==[]) (K (.slice k l m) o) (q o)) (q o))/\aP 9 (∀r,q r->∃s:FP [.one .str],(∃t:FP [shB],(ab (decide (((length p:Nat):Int)>(0:Int))) (bx (i64.wrap (((length p:Nat):Int)-1)) ((length p:Nat):Int)/\t ((aU p (i64.wrap (((length p:Nat):Int)-1)))==13) r) (t false r))/\∀u,aP 10 (∀v,t u v->ab u (bd (i64.wrap (((length p:Nat):Int)-1)) (((length p):Nat):Int)/\∀x,x=(List.take (Int.toNat (i64.wrap (((length p:Nat):Int)-1))) p)->s x v) (s p v)))/\∀t,aP 16 (∀u,s t u->nA u (.cells #[vS t] ai) λv x=>∃y z A B,(Builtin.append_ #[aA,aA] aA #[.slice k l m,.slice (vA v 0) 1 1]).run prog x=.ok (.slice z A B) y/\∃C:Nat,C<j/\i C z A B (i64.wrap (n+1)) y))) (K (.slice k l m) o))):Cf jn #[vS a] w (Ret K):=ru func87 [(10,[(3,.one .slice),(12,shI)]),(21,[]),(27,[(6,.one .str)]),(28,[(36,shB)])] h
theorem Ce (a:Int){w K}(h:ab (decide (a<(10:Int))) (K (.int .u8 (IntKind.u8.wrap (i64.wrap ((48:Int)+a)))) w) (K (.int .u8 (IntKind.u8.wrap (i64.wrap ((55:Int)+a)))) w)):Cf lz #[vI a] w (Ret K):=ru func318 [] h
theorem DT (a:lU){w K}(h:nA w (.cells #[] bc) λb c=>∃d:Nat->FP [.one .slice,shI],(∃e,d e (vA b 0) 0 0 (0:Int) c)/\∀e f g i j,aP 43 (∀k,d e f g i j k->ab (decide (j<((length a:Nat):Int))) (∃l:FP [shB],(bx j ((length a:Nat):Int)/\ab (decide ((aU a j) >=33)) (bx j ((length a:Nat):Int)/\ab (decide ((aU a j) <=126)) (bx j ((length a:Nat):Int)/\l ((aU a j) !=37) k) (l false k)) (l false k))/\∀m,aP 15 (∀n,l m n->ab m (bx j ((length a:Nat):Int)/\nA n (.cells #[.int .u8 (aU a j)] bc) λo p=>∃q r s t,(Builtin.append_ #[aQ,aQ] aQ #[.slice f g i,.slice (vA o 0) 1 1]).run prog p=.ok (.slice r s t) q/\∃u:Nat,u<e/\d u r s t (i64.wrap (j+1)) q) (bx j ((length a:Nat):Int)/\((16:Int)≠0)/\∀o,o=(i64.wrap (Int.tdiv (i64.wrap (aU a j)) (16:Int)))->∃p,(∀q,bW n q->Cf lz #[vI o] q λr s=>r=.returned (.int .u8 p)/\bW q s)/\bx j ((length a:Nat):Int)/\((16:Int)≠0)/\∀q,q=(Int.tmod (i64.wrap (aU a j)) (16:Int))->∃r,(∀s,bW n s->Cf lz #[vI q] s λt u=>t=.returned (.int .u8 r)/\bW s u)/\∀s,n.heap.size <=s->∀t,bW n t->t.heap[s]? =some (.cells #[.int .u8 37,.int .u8 p,.int .u8 r] bc)->∃u v x y,(Builtin.append_ #[aQ,aQ] aQ #[.slice f g i,.slice (vA s 0) 3 3]).run prog t=.ok (.slice v x y) u/\∃z:Nat,z<e/\d z v x y (i64.wrap (j+1)) u))) (ab ((g:Int)==0) (K (vS [37]) k) (∃l,(convert aQ ai (.slice f g i)).run prog k=.ok (vS l) k/\K (vS l) k)))):Cf qY #[vS a] w (Ret K):=ru func255 [(8,[(3,.one .slice),(4,shI)]),(17,[(27,shB)]),(3000021,[(0,shB),(1,shB),(2,shB),(7,shB),(8,shB),(3,shB),(4,shB),(5,shB),(6,shB),(9,shB),(10,shB),(11,shB),(12,shB),(13,shB)])] h
theorem zE (a:lU){w K}(h:ab (a==[37]) (K (.tuple #[vS [],.bool true]) w) (nA w (.cells #[] bc) λb c=>∃d:Nat->FP [.one .slice,shI],(∃e,d e (vA b 0) 0 0 (0:Int) c)/\∀e f g i j,aP 51 (∀k,d e f g i j k->ab (decide (j<((length a:Nat):Int))) (∃l:Nat->FP [.one .slice,shI,shB,shI],(∃m,l m f g i j false (0:Int) k)/\∀m n o p q r s,aP 41 (∀t,l m n o p q r s t->∃u:FP [],(ab (decide (s<(256:Int))) (ab (!r) (u t) (ab (!r) (K (.tuple #[vS [],.bool false]) t) (∃v:Nat,v<e/\d v n o p q t))) (ab (!r) (K (.tuple #[vS [],.bool false]) t) (∃v:Nat,v<e/\d v n o p q t)))/\aP 6 (∀v,u v->nA v (.cells #[.int .u8 (IntKind.u8.wrap s)] bc) λx y=>∃z,(convert aQ ai (.slice (vA x 0) 1 1)).run prog y=.ok (vS z) y/\uS qY #[vS z] y λA B=>∃C:FP [shB],(ab (decide (((length A:Nat):Int) <=(i64.wrap (((length a:Nat):Int)-q)))) ((bd (i64.wrap (q+((length A:Nat):Int))) (((length a):Nat):Int)/\0 <=q/\q <=((Int.toNat (i64.wrap (q+((length A:Nat):Int))):Nat):Int))/\∀D,D=(List.drop (Int.toNat q) (List.take (Int.toNat (i64.wrap (q+((length A:Nat):Int)))) a))->C (D==A) B) (C false B))/\∀D,aP 17 (∀E,C D E->ab D (nA E (.cells #[.int .u8 (IntKind.u8.wrap s)] bc) λF G=>∃H I J L,(Builtin.append_ #[aQ,aQ] aQ #[.slice n o p,.slice (vA F 0) 1 1]).run prog G=.ok (.slice I J L) H/\∃M:Nat,M<m/\l M I J L (i64.wrap (q+((length A:Nat):Int))) true (i64.wrap (s+1)) H) (∃F:Nat,F<m/\l F n o p q r (i64.wrap (s+1)) E))))) (∃l,(convert aQ ai (.slice f g i)).run prog k=.ok (vS l) k/\K (.tuple #[vS l,.bool (decide ((g:Int)>(0:Int)))]) k)))):Cf kc #[vS a] w (Ret K):=ru func167 [(16,[(4,.one .slice),(5,shI)]),(30,[(4,.one .slice),(5,shI),(6,shB),(7,shI)]),(31,[]),(41,[(46,shB)])] h
theorem Cb (a:lU){w K}(h:uL eE #[vS a,.int .u8 32] w λb c d e=>∃f:Nat->FP [shI],(∃g,f g (0:Int) e)/\∀g i,aP 9 (∀j,f g i j->ab (decide (i<(c:Int))) ((bx i (c:Int)/\Option.isSome b=true)/\∃k,Ld ai (aw b i 1) j (vS k)/\ab (k==[]) (K (.tuple #[.slice none 0 0,.bool false]) j) (∃l:Nat,l<g/\f l (i64.wrap (i+1)) j)) (K (.tuple #[.slice b c d,.bool true]) j))):Cf o4 #[vS a] w (Ret K):=ru func91 [(8,[(11,shI)])] h
theorem PB {x y:lU}(h:mkS x=mkS y):x=y:=by
 have:=congrArg (λb:ByteArray=>b.data.toList) h;simpa[mkS]using this
theorem JZ {a:Option Addr}{n c:Nat}{xs:List lU}(I:Sl tS w A a n c xs)(H:xs≠[]):
 ∃b off,a=some ⟨b,off,none⟩/\∀j,j<(xs.map mkS).length->w.cell? ⟨b,off+j,none⟩=some (.string ((xs.map mkS).getD j ByteArray.empty)):=by
 obtain⟨O,R,M,D⟩:=I;rcases D with D|⟨b,off,rfl,J,_,cs,G,F⟩
 ·exact absurd D H
 ·have E:=jL G;refine⟨b,off,rfl,λj y=>?_⟩;rw[length_map]at y;rw[F j (by rw[E];simpa using y),E,List.getElem?_map,List.getElem?_eq_getElem y,List.getD_eq_getElem?_getD,List.getElem?_map,List.getElem?_eq_getElem y];rfl
theorem PM {B n:Nat}{v:Value}{xs:List lU}(h:w.ownsRow B t 1 v n (xs.map λx=>vS x))(G:n=xs.length):
 ∃a c,v=.slice a n c/\Ow tS t w NoB a n c xs/\bo B a:=by
 rcases h.2 with⟨rfl,y⟩|⟨g,cap,cur,rfl,M,D,E,F,H,I⟩
 ·have:xs=[]:=List.eq_nil_of_length_eq_zero (by omega);subst this;exact⟨none,0,by rw[y],by rw[y];exact Ow.nil _ _ _ _,bo.none _⟩
 ·refine⟨_,cap,rfl,⟨G,E,F,.inr ⟨g,cur,(0,0),rfl,D,λi _=>by simp,by show cur.size=cap*1;simpa using H,?_⟩⟩,λx J=>by simp[fm]at J;omega⟩;show jc _ _ _ (cur.toList.take (n*1)) xs;rw[I];exact mQ λ_ _=>trivial
theorem jc.takeJ {T:Ty o}{l:List Value}{xs:List o}(h:jc T w A l xs)(y:j <=xs.length):jc T w A (l.take (j*T.k)) (xs.take j):=by
 have F:j*T.k <=xs.length*T.k:=Nat.mul_le_mul_right _ y;refine⟨by rw[length_take,length_take,h.len,Nat.min_eq_left F,Nat.min_eq_left y],λi D=>?_⟩;rw[length_take,Nat.min_eq_left y]at D;have:=h.rep i (by omega);have E:(i+1)*T.k <=j*T.k:=Nat.mul_le_mul_right _ D;rw[Nat.succ_mul]at E;rw[List.getElem_take,List.drop_take,List.take_take,Nat.min_eq_left (by omega)];exact this
theorem Ow.takeJ {T:Ty o}{a:Option Addr}{n c:Nat}{xs:List o}(h:Ow T t w A a n c xs)(y:j <=xs.length):Ow T t w A a j c (xs.take j):=by
 obtain⟨J,R,G,F⟩:=h;refine⟨by rw[length_take,Nat.min_eq_left y],by omega,G,?_⟩;rcases F with⟨D,E,e3⟩|⟨g,cur,fr,e,I,H,O,M⟩
 ·exact .inl ⟨D,E,by rw[e3];simp⟩
 ·refine .inr ⟨g,cur,fr,e,I,H,O,?_⟩;have:=M.takeJ y
  rwa [List.take_take,Nat.min_eq_left (by rw[J];exact Nat.mul_le_mul_right _ y)]at this
theorem AK {a:Option Addr}{n c:Nat}{xs:List lU}(D:Sl tS w A a n c xs)(x:lU)(G:xs.length <=9223372036854775807):
 Cf dV #[.slice a n c,vS x] w (Ret λv w'=>v=.bool (decide (x∈xs))/\w'=w):=by
 have F:=D.1;subst F;by_cases y:xs=[]
 ·subst y;refine(Tryz.slices_Contains_string_empty a c (mkS x) w).mono ?_;rintro _ _ ⟨rfl,rfl⟩;exact⟨_,rfl,by simp,rfl⟩
 ·obtain⟨b,off,rfl,E⟩:=JZ D y;refine(Tryz.slices_Contains_string b off xs.length c (xs.map mkS) (mkS x) w (by simp) G E).mono ?_;rintro _ _ ⟨rfl,rfl⟩;refine⟨_,rfl,?_,rfl⟩;congr 1;rw[Bool.eq_iff_iff,Lib.containsS_iff,dTx,take_of_length_le (by simp),List.mem_map];exact⟨λ⟨I,H,e⟩=>PB e▸H,λh=>⟨x,h,rfl⟩⟩
theorem tk (s:lU)(G:s.length <=10000000)(w:World)(E:Env w):
 Cf ly #[vS s] w (Ret λv w'=>(if([]:lU)∈bE 32 [] s then v=.tuple #[.slice none 0 0,.bool false]else ∃a n c,v=.tuple #[.slice a n c,.bool true]/\Ow tS ai w' NoB a n c (bE 32 [] s)/\bo w.heap.size a)/\bW w w'):=by
 apply B1;refine aK (eH s 32 (by omega) w E) ?_;rintro _ H ⟨a,n,c,rfl,D,F,y⟩;refine⟨_,_,_,rfl,?_⟩;refine aK (AK D.all [] (by have:=dK 32 s [];omega)) ?_;rintro _ I ⟨rfl,rfl⟩;refine⟨_,rfl,ab.of (λh=>?_) (λh=>?_)⟩
 ·refine⟨?_,y⟩;rw[if_pos (of_decide_eq_true h)]
 ·refine⟨?_,y⟩;rw[if_neg (of_decide_eq_false h)];exact⟨_,_,_,rfl,D,F⟩
theorem Rw {a:Option Addr}{n c:Nat}{xs:List lU}(I:Ow tS ai w NoB a n c xs)(O:xs.length <=100000000):
 Cf gR #[.slice a n c] w (Ret λv w'=>∃y n' c',v=.slice y n' c'/\Ow tS ai w' NoB y n' c' xs/\bo w.heap.size y/\bW w w'):=by
 have M:=I.len;subst M;by_cases H:xs=[]
 ·subst H;cases a with
  |none=>
   refine(Tryz.slices_Clone_string_nil 0 c w).mono ?_;rintro _ _ ⟨rfl,rfl⟩;exact⟨_,rfl,_,_,_,rfl,Ow.nil _ _ _ _,bo.none _,Below.refl _ _⟩
  |some a=>
   refine(Tryz.slices_Clone_string_zero a c w).mono ?_;rintro _ w' ⟨v',rfl,D,_,E⟩;obtain⟨y,c',rfl,G,F⟩:=PM (xs:=[]) D rfl;exact⟨_,rfl,_,_,_,rfl,G,F,E⟩
 ·obtain⟨b,off,rfl,J⟩:=JZ I.all H;refine(Tryz.slices_Clone_string b off xs.length c (xs.map mkS) w (by simp) (by omega) J).mono ?_;rintro _ w' ⟨v',rfl,D,_,E⟩;rw[take_of_length_le (by simp),List.map_map]at D;obtain⟨y,c',rfl,G,F⟩:=PM (xs:=xs) D rfl;exact⟨_,rfl,_,_,_,rfl,G,F,E⟩
theorem Nf {L:List lU}{f:lU->lU}(h:k<L.length):((L.take k).map f++L.drop k).set k (f L[k])=(L.take (k+1)).map f++L.drop (k+1):=by
 rw[List.set_append_right _ _ (by simp;omega),length_map,length_take,Nat.min_eq_left (by omega),Nat.sub_self,drop_eq_getElem_cons h,List.set_cons_zero,take_succ_eq_append_getElem h,map_append,append_assoc];rfl
theorem ny (s:lU)(b8:s.length <=10000000)(w:World)(bb:Env w):
 Cf jm #[vS s] w (Ret λv w'=>∃a n Z,v=.slice a n Z/\Ow tS ai w' NoB a n Z (fF s)/\bo w.heap.size a/\bW w w'):=by
 apply BX;refine aK (eH s 10 (by omega) w bb) ?_;rintro _ aj ⟨a,n,c,rfl,D,be,a8⟩;have bs:=D.len;subst bs;refine⟨_,_,_,rfl,?_⟩;have O:=jN 10 s [];have M:=dK 10 s [];have R:=gp 10 s [];have I:fF s=((if(bE 10 [] s).getLast?=some []then(bE 10 [] s).dropLast else bE 10 [] s)).map oN:=rfl;revert D O M R I;generalize bE 10 [] s=L;intro D O M R I;have U:0<L.length:=List.length_pos_iff.2 O;have b4:=D.2.1;have an:i64.wrap (((L.length:Nat):Int)-1)=((L.length-1:Nat):Int):=by rw[wrJ];omega
 refine⟨λa3 ag J w'=>w'=aj/\∃y:List lU,fF s=y.map oN/\(∀x∈y,x.length <=s.length)/\y.length <=s.length+1/\a3=a/\Ow tS ai aj NoB a3 ag J y,?_,?_⟩
 ·obtain⟨v,F,V⟩:=D.all.load1 (i:=((L.length-1:Nat):Int)) aI rfl rfl (by simp;omega);obtain⟨rfl,_⟩:=vd V;simp only[Int.toNat_natCast]at F;rw[an];refine⟨⟨⟨by omega,by omega⟩,D.all.isSome (i:=0) U⟩,_,F,?_⟩;have ac:∀x∈L,x.length <=s.length:=λx Y=>by have:=R x Y;simpa using this
  refine ab.of (λh=>?_) (λh=>?_)
  ·have h:L[L.length-1]'(by omega)=[]:=eq_of_beq h;refine⟨⟨by omega,by omega⟩,rfl,L.dropLast,?_,λx Y=>ac x (List.dropLast_subset _ Y),by rw[List.length_dropLast];omega,rfl,?_⟩
   ·rw[I,if_pos (sJ U h)]
   ·rw[List.dropLast_eq_take,Int.toNat_natCast];exact D.takeJ (by omega)
  ·refine⟨rfl,L,?_,ac,M,rfl,D⟩;rw[I,if_neg];rw[sJ U rfl];intro e;rw[Option.some.inj e]at h;cases h
 ·intro a3 ag J;refine aP.of ?_ _;rintro b9 ⟨rfl,y,av,a0,b3,rfl,af⟩;have bq:=af.len;subst bq;refine⟨λm i w'=>∃k:Nat,k <=y.length/\i=(k:Int)/\m=y.length-k/\Ow tS ai w' NoB a3 y.length J ((y.take k).map oN++y.drop k)/\bW w w',
   ⟨_,0,by omega,rfl,rfl,af,a8⟩,?_⟩
  intro m i;refine aP.of ?_ _;rintro bw ⟨k,b5,rfl,rfl,E,G⟩;have aa:((y.take k).map oN++y.drop k).length=y.length:=by simp;omega
  refine ab.of (λh=>?_) (λh=>?_)<;>simp only[dTx,dFx]at h
  ·have H:k<y.length:=by omega
   have bp:((y.take k).map oN++y.drop k)[k]'(by omega)=y[k]:=by
    rw[List.getElem_append_right (by simp;omega)];simp[Nat.min_eq_left (Nat.le_of_lt H)]
   obtain⟨v,F,V⟩:=E.all.load1 (i:=(k:Int)) aI rfl rfl (by rw[Int.toNat_natCast,aa];exact H);obtain⟨rfl,_⟩:=vd V;simp only[Int.toNat_natCast]at F;rw[bp]at F;have b7:=a0 y[k] (getElem_mem H);refine⟨⟨⟨by omega,h⟩,E.all.isSome (i:=k) (by omega)⟩,_,F,?_⟩;refine(Tryz.strings_TrimSuffix (mkS y[k]) (mkS [13]) bw (by show(y[k]).length <=_;omega)).mono ?_;rintro _ b0 ⟨rfl,rfl⟩;refine⟨oN y[k],?_,⟨⟨by omega,h⟩,E.all.isSome (i:=k) (by omega)⟩,?_⟩
   ·show Ending.returned (vS (Lib.trimSuffix y[k] [13]))=_;rw[(Hd y[k] 13).2,oN];split
    ·rw[List.dropLast_eq_take]
    ·rfl
   ·obtain⟨b1,bu,ad,bl⟩:=E.store (P:=prog) dG (λ_ _ h=>h) (i:=(k:Int)) (by rw[Int.toNat_natCast,aa];exact H) (k:=1) rfl (v:=vS (oN y[k])) (x:=oN y[k]) (mu trivial);refine⟨b1,bu,y.length-(k+1),by omega,k+1,by omega,by rw[wrJ];omega,rfl,?_,G.grown bl G.size be⟩;rw[Int.toNat_natCast,Nf H]at ad;exact ad
  ·have:k=y.length:=by omega
   subst this;rw[take_length,List.drop_length,append_nil,<- av]at E;have b6:=E.len;refine aK (Rw E (by omega)) ?_;rintro _ b0 ⟨b2,n',c',rfl,bt,bk,a9⟩;exact⟨_,_,_,rfl,_,_,_,rfl,bt,bk.mono G.size,ae G a9 G.size⟩
theorem UW {x y:lU} :mkS x=mkS y↔x=y:=⟨PB,λh=>by rw[h]⟩
theorem RX {a:Option Addr}{n c:Nat}{xs:List lU}(y:Sl tS w A a n c xs)(F:xs≠[])(x:lU)(G:xs.length <=9223372036854775807):
 Cf gS #[.slice a n c,vS x] w (Ret λv w'=>v=vI (Lib.idxOfS (xs.map mkS) (mkS x))/\w'=w):=by
 have E:=y.1;subst E;obtain⟨b,off,rfl,D⟩:=JZ y F;refine(Tryz.slices_Index_string b off xs.length c (xs.map mkS) (mkS x) w (by simp) G D).mono ?_;rintro _ _ ⟨rfl,rfl⟩;rw[take_of_length_le (by simp)];exact⟨_,rfl,rfl,rfl⟩
section
open Go.Shelf Go.RowKit Go.Lib Go.Pk
variable {P:Program} {ρ:Ren}
def Asc (cs:ByteArray):Prop:=∀(j:Nat) b,cs.data.toList[j]? =some b->b.toNat<128
theorem Uv {r:Int}(H:128 <=r)(F:Lib.validRune r=true):∃(y:ByteArray) (x:UInt8),Utf8.encode r=y/\2 <=y.size/\y.size <=4/\y.data.toList[y.size-1]? =some x/\128 <=x.toNat:=by
 have G:Utf8.valid r=true:=by
  unfold Lib.validRune at F;unfold Utf8.valid;simp at F ⊢;omega
 have e:Utf8.encode r=if r.toNat<0x80 then⟨#[UInt8.ofNat r.toNat]⟩ else if r.toNat<0x800 then⟨#[UInt8.ofNat (0xC0+r.toNat/64),UInt8.ofNat (0x80+r.toNat%64)]⟩
  else if r.toNat<0x10000 then⟨#[UInt8.ofNat (0xE0+r.toNat/4096),UInt8.ofNat (0x80+r.toNat/64%64),UInt8.ofNat (0x80+r.toNat%64)]⟩
  else⟨#[UInt8.ofNat (0xF0+r.toNat/262144),UInt8.ofNat (0x80+r.toNat/4096%64),UInt8.ofNat (0x80+r.toNat/64%64),UInt8.ofNat (0x80+r.toNat%64)]⟩:=by
  unfold Utf8.encode;rw[G];rfl
 rw[if_neg (by omega)]at e;have D:128 <=(UInt8.ofNat (0x80+r.toNat%64)).toNat:=by rw[UInt8.toNat_ofNat'];omega
 by_cases c1:r.toNat<0x800
 ·rw[if_pos c1]at e;exact⟨_,_,e,(show 2 <=2 by decide),(show 2 <=4 by decide),rfl,D⟩
 rw[if_neg c1]at e;by_cases E:r.toNat<0x10000
 ·rw[if_pos E]at e;exact⟨_,_,e,(show 2 <=3 by decide),(show 3 <=4 by decide),rfl,D⟩
 ·rw[if_neg E]at e;exact⟨_,_,e,(show 2 <=4 by decide),(show 4 <=4 by decide),rfl,D⟩
theorem O7 (F:P.underlying t=some .string)(s:ByteArray)(i:Int)(x:UInt8)(D:0 <=i)(y:s.data.toList[i.toNat]? =some x)(w:World):
 (Instr.index t (.string s) (vI i)).run P w=.ok (.int .u8 (x.toNat:Nat)) w:=by
 have E:i.toNat<s.size:=by
  have:=(List.getElem?_eq_some_iff.1 y).1
  rwa [<- Lib.size_eq]at this
 rw[run_index_string _ _ _ _ _ F,dif_pos ⟨D,by omega⟩];have:=Lib.data_getElem? s i.toNat E;rw[y]at this;rw[<- Option.some.inj this]
set_option maxHeartbeats 4000000 in
set_option maxRecDepth 1000000 in
theorem F7 (L:Lays.n152 P ρ)(cs:ByteArray)(r:Int)(w:World)(h0:128 <=r)(hne:r≠65533)(hv:Lib.validRune r=false):
 Calls P (ρ.f 152) #[.string cs,.int .i32 r] w λe w'=>e=.returned (vI (-1))/\∃n,w'=w.drewN n:=by
 have mixed:=L.mixed;have t3:=L.t3;have a3:=L.a3;have z3:=L.z3;have v3:=L.v3;have u3:=run_underlying L.t3;have t4:=L.t4;have a4:=L.a4;have z4:=L.z4;have v4:=L.v4;have u4:=run_underlying L.t4;have t5:=L.t5;have a5:=L.a5;have z5:=L.z5;have v5:=L.v5;have u5:=run_underlying L.t5;have t9:=L.t9;have a9:=L.a9;have z9:=L.z9;have v9:=L.v9;have u9:=run_underlying L.t9;have t21:=L.t21;have a21:=L.a21;have z21:=L.z21;have v21:=L.v21;have u21:=run_underlying L.t21;have e137:∀args w,(callFunc (ρ.f 137) args).run P w=.ok (.enter (ρ.f 137) args) w:=enters_of L.f137 (by kernel_rfl) rfl;have e119:∀args w,(callFunc (ρ.f 119) args).run P w=.ok (.enter (ρ.f 119) args) w:=enters_of L.f119 (by kernel_rfl) rfl;have hr1: ¬ (r<128):=by omega
 have hr2:(r==65533)=false:=beq_eq_false_iff_ne.2 hne;go_enter L.f152,Body.n152_ntmps ρ;go_wp2_with (first
  |(go_at_fn (ρ.f 119);refine(Any.utf8_ValidRune { L with } _ _).mono ?_;rintro e w' ⟨rfl,hw⟩;rw[hw,hv])
  |(go_at_fn (ρ.f 137);refine(Any.strings_IndexByte { L with } _ _ _).mono ?_;rintro e w' ⟨rfl,hw⟩;rw[hw]))
 go_ret;exact⟨rfl,0,rfl⟩
set_option maxHeartbeats 4000000 in
set_option maxRecDepth 1000000 in
theorem F9 (L:Lays.n152 P ρ)(cs:ByteArray)(ha:Asc cs)(hcs:cs.size <=1000)(r:Int)(w:World)(h0:128 <=r)(hne:r≠65533)(hv:Lib.validRune r=true):
 Calls P (ρ.f 152) #[.string cs,.int .i32 r] w λe w'=>e=.returned (vI (-1))/\∃n,w'=w.drewN n:=by
 have mixed:=L.mixed;have t3:=L.t3;have a3:=L.a3;have z3:=L.z3;have v3:=L.v3;have u3:=run_underlying L.t3;have t4:=L.t4;have a4:=L.a4;have z4:=L.z4;have v4:=L.v4;have u4:=run_underlying L.t4;have t5:=L.t5;have a5:=L.a5;have z5:=L.z5;have v5:=L.v5;have u5:=run_underlying L.t5;have t9:=L.t9;have a9:=L.a9;have z9:=L.z9;have v9:=L.v9;have u9:=run_underlying L.t9;have t21:=L.t21;have a21:=L.a21;have z21:=L.z21;have v21:=L.v21;have u21:=run_underlying L.t21;have e137:∀args w,(callFunc (ρ.f 137) args).run P w=.ok (.enter (ρ.f 137) args) w:=enters_of L.f137 (by kernel_rfl) rfl;have e119:∀args w,(callFunc (ρ.f 119) args).run P w=.ok (.enter (ρ.f 119) args) w:=enters_of L.f119 (by kernel_rfl) rfl;obtain⟨rs,x,hrs,h2,h4,hx,hx128⟩:=Uv h0 hv;have hr1: ¬ (r<128):=by omega
 have hr2:(r==65533)=false:=beq_eq_false_iff_ne.2 hne;have hcv:=λw=>run_convert_int_string (P:=P) w (ρ.t 21) (ρ.t 9) .i32 r (by rw[t21];rfl) t9;rw[hrs]at hcv;have hR:=λw=>O7 (P:=P) t9 rs ((rs.size:Int)-1) x (by omega) (by rw[show((rs.size:Int)-1).toNat=rs.size-1 by omega];exact hx) w;clear hx hrs;go_enter L.f152,Body.n152_ntmps ρ;go_wp2_with (first
  |(go_at_fn (ρ.f 119);refine(Any.utf8_ValidRune { L with } _ _).mono ?_;rintro e w' ⟨rfl,hw⟩;rw[hw,hv])
  |(go_at_fn (ρ.f 137);refine(Any.strings_IndexByte { L with } _ _ _).mono ?_;rintro e w' ⟨rfl,hw⟩;rw[hw]))
 go_wp2_with (go_at_fn (ρ.f 137);refine(Any.strings_IndexByte { L with } _ _ _).mono ?_;rintro e w' ⟨rfl,hw⟩;rw[hw]);go_step3;go_wp2_with (go_at_fn (ρ.f 137);refine(Any.strings_IndexByte { L with } _ _ _).mono ?_;rintro e w' ⟨rfl,hw⟩;rw[hw]);go_loopg [9,10,11,12] 1 (λg s9 _ _ _ wx=>s9=vI ((rs.size:Int)-1)/\wx=w)
 case atStart=>exact⟨rfl,rfl⟩
 case round=>
  obtain⟨rfl,rfl⟩:=hrel;by_cases hlt:rs.size-1<cs.size
  ·obtain⟨y,hy⟩:∃y,cs.data.toList[rs.size-1]? =some y:=⟨_,Lib.data_getElem? cs (rs.size-1) hlt⟩
   have hy128:=ha _ _ hy;have hS:=λw=>O7 (P:=P) t9 cs ((rs.size:Int)-1) y (by omega) (by rw[show((rs.size:Int)-1).toNat=rs.size-1 by omega];exact hy) w;have hl:(rs.size:Int)-1<(cs.size:Int):=by omega
   have hne2:((y.toNat:Int)==(x.toNat:Int))=false:=beq_eq_false_iff_ne.2 (by omega);have hwr:i64.wrap (rs.size:Int)=(rs.size:Int):=wrJ;have hle:(0 <=(rs.size:Int)/\(rs.size:Int) <=(cs.size:Int)):=by omega
   have hmi:Lib.indexByte (List.take (cs.size-rs.size) (List.drop rs.size cs.data.toList)) x= -1:=by
    rw[<- Lib.indexAny_one];refine Lib.indexAny_none λj b _ hb=>?_;obtain⟨k,hk⟩:=List.getElem?_of_mem (List.mem_of_mem_drop (mem_of_mem_take (List.mem_of_getElem? hb)));have:=ha k b hk;have hne:b≠x:=λe=>by rw[e]at this;omega
    simpa using hne
   clear hy;go_wp2_with (go_at_fn (ρ.f 137);refine(Any.strings_IndexByte { L with } _ _ _).mono ?_;rintro e w' ⟨rfl,hw⟩;rw[hw]);go_step3;go_wp2;go_quiet_o (fail);go_wp2;go_quiet_o (exact(Any.strings_IndexByte { L with } _ _ _).mono λe w' h=>⟨h.1,_,h.2⟩);go_wp2;change bodyPost P (Body.n152 ρ) (λe w'=>e=Ending.returned (Value.int i64 (-1))/\∃n,w'=wr.drewN n) Exit.ret _ _;go_ret;exact⟨rfl,_,rfl⟩
  ·have hn: ¬ ((rs.size:Int)-1<(cs.size:Int)):=by omega
   go_wp2;go_ret;exact⟨rfl,0,rfl⟩
set_option maxHeartbeats 4000000 in
set_option maxRecDepth 1000000 in
theorem F8 (L:Lays.n152 P ρ)(cs:ByteArray)(ha:Asc cs)(hcs:cs.size <=1000)(w:World):
 Calls P (ρ.f 152) #[.string cs,.int .i32 65533] w λe w'=>e=.returned (vI (-1))/\bW w w':=by
 have mixed:=L.mixed;have t3:=L.t3;have a3:=L.a3;have z3:=L.z3;have v3:=L.v3;have u3:=run_underlying L.t3;have t4:=L.t4;have a4:=L.a4;have z4:=L.z4;have v4:=L.v4;have u4:=run_underlying L.t4;have t9:=L.t9;have a9:=L.a9;have z9:=L.z9;have v9:=L.v9;have u9:=run_underlying L.t9;have t21:=L.t21;have a21:=L.a21;have z21:=L.z21;have v21:=L.v21;have u21:=run_underlying L.t21;go_enter L.f152,Body.n152_ntmps ρ;go_wp2;go_loopg [5,6] cs.size (λg _ _ wx=>∃i:Nat,i+g=cs.size/\wx=w.iter cs i)
 case atStart=>exact⟨0,by omega,rfl⟩
 case round=>
  obtain⟨i,hig,rfl⟩:=hrel;by_cases hi:i<cs.size
  ·have h128:=ha i _ (Lib.data_getElem? cs i hi);have hnx:∀ty,(Instr.next (.pointer (some ⟨w.heap.size,0,none⟩)) true ty).run P (w.iter cs i)=.ok (.tuple #[.bool true,vI i,.int .i32 ((cs[i]'hi).toNat:Nat)]) (w.iter cs (i+1)):=λty=>run_next_ascii (P:=P) w cs i ty hi h128;generalize cs[i]'hi=y at*;have hy:((y.toNat:Int)==65533)=false:=beq_eq_false_iff_ne.2 (by omega);go_wp2;go_roundg (cs.size-(i+1))
   case measure=>omega
   case rel=>exact⟨i+1,by omega,rfl⟩
  ·have e:i=cs.size:=by omega
   subst e;have hnx:=run_next_end (P:=P) w cs cs.size;go_wp2;go_ret;exact⟨rfl,(Below.refl _ _).alloc (Nat.le_refl _) _⟩
theorem F6 (L:Lays.n152 P ρ)(cs:ByteArray)(G:Asc cs)(H:cs.size <=1000)(r:Int)(w:World)(F:128 <=r):
 Calls P (ρ.f 152) #[.string cs,.int .i32 r] w λe w'=>e=.returned (vI (-1))/\bW w w':=by
 have E:∀n,bW w (w.drewN n):=λn=>⟨rfl,rfl,rfl,Nat.le_refl _,λ_ _=>rfl⟩
 by_cases D:r=65533
 ·rw[D];exact F8 L cs G H w
 cases I:Lib.validRune r with
 |false=>exact(F7 L cs r w F D I).mono λe w' ⟨h1,n,y⟩=>⟨h1,y▸E n⟩
 |true=>exact(F9 L cs G H r w F D I).mono λe w' ⟨h1,n,y⟩=>⟨h1,y▸E n⟩
theorem Mx (s:ByteArray)(i:Nat)(h:i<s.size)(I:128 <=(s[i]'h).toNat):
 128 <=(Utf8.decode s i).1/\1 <=(Utf8.decode s i).2/\i+(Utf8.decode s i).2 <=s.size/\∀j,i <=j->(Y:j<i+(Utf8.decode s i).2)->∀E:j<s.size,128 <=(s[j]'E).toNat:=by
 have M:∀k (hk:k<s.size),s.get! k=s[k]'hk:=λk hk=>by
  simp[ByteArray.get!,getElem!_pos,hk];rfl
 unfold Utf8.decode;have U:(s.get! (i+0)).toNat=(s[i]'h).toNat:=by rw[Nat.add_zero,M i h]
 simp only[U];rw[if_neg (by omega)];have one:∀j,i <=j->j<i+1->∀E:j<s.size,128 <=(s[j]'E).toNat:=λj h1 D E=>by
  have:j=i:=by omega
  subst this;exact I
 have cont:∀k,(decide (i+k<s.size)&&(s.get! (i+k)).toNat/64==2)=true->∃hk:i+k<s.size,128 <=(s[i+k]'hk).toNat:=λk y=>by
  simp only[Bool.and_eq_true,dTx,beq_iff_eq]at y;refine⟨y.1,?_⟩;have:=y.2;rw[M _ y.1]at this;omega
 have H:128 <=Utf8.runeError:=by decide
 split
 ·rename_i y;rw[Bool.and_eq_true]at y;obtain⟨O,F⟩:=cont 1 y.2;split
  ·rename_i G;refine⟨G,show 1 <=2 by decide,by show i+2 <=_;omega,λj h1 D E=>?_⟩;have D:j<i+2:=D;have:j=i\/j=i+1:=by omega
   rcases this with rfl|rfl
   ·exact I
   ·exact F
  ·exact⟨H,by decide,by show i+1 <=_;omega,one⟩
 split
 ·rename_i y;rw[Bool.and_eq_true,Bool.and_eq_true]at y;obtain⟨O,F⟩:=cont 1 y.1.2;obtain⟨V,J⟩:=cont 2 y.2;split
  ·rename_i G;rw[Bool.and_eq_true,dTx]at G;refine⟨by show 128 <=_;omega,show 1 <=3 by decide,by show i+3 <=_;omega,λj h1 D E=>?_⟩;have D:j<i+3:=D;have:j=i\/j=i+1\/j=i+2:=by omega
   rcases this with rfl|rfl|rfl
   ·exact I
   ·exact F
   ·exact J
  ·exact⟨H,by decide,by show i+1 <=_;omega,one⟩
 split
 ·rename_i y;rw[Bool.and_eq_true,Bool.and_eq_true,Bool.and_eq_true]at y;obtain⟨O,F⟩:=cont 1 y.1.1.2;obtain⟨V,J⟩:=cont 2 y.1.2;obtain⟨Z,R⟩:=cont 3 y.2;split
  ·rename_i G;rw[Bool.and_eq_true,dTx]at G;refine⟨by show 128 <=_;omega,show 1 <=4 by decide,by show i+4 <=_;omega,λj h1 D E=>?_⟩;have D:j<i+4:=D;have:j=i\/j=i+1\/j=i+2\/j=i+3:=by omega
   rcases this with rfl|rfl|rfl|rfl
   ·exact I
   ·exact F
   ·exact J
   ·exact R
  ·exact⟨H,by decide,by show i+1 <=_;omega,one⟩
 ·exact⟨H,by decide,by show i+1 <=_;omega,one⟩
set_option maxHeartbeats 8000000 in
set_option maxRecDepth 1000000 in
theorem Dm (L:Lays.n153 P ρ)(cs:ByteArray)(ha:Asc cs)(h2:2 <=cs.size)(hcs:cs.size <=1000)(s:ByteArray)(w:World)(h8:s.size <=8):
 Calls P (ρ.f 153) #[.string s,.string cs] w λe w'=>e=.returned (vI (Lib.indexAny s.data.toList cs.data.toList))/\bW w w':=by
 have hemp:cs.toList.isEmpty=false:=by
  rw[Lib.toList_data];cases h:cs.data.toList with
  |nil=>have:=Lib.size_eq cs;rw[h,length_nil]at this;omega
  |cons _ _=>rfl
 have hn1:((cs.size:Int)==1)=false:=beq_eq_false_iff_ne.2 (by omega);have h8z:decide ((8:Int)<(s.size:Int))=false:=decide_eq_false (by omega);have t3:=L.t3;have a3:=L.a3;have z3:=L.z3;have v3:=L.v3;have t4:=L.t4;have a4:=L.a4;have z4:=L.z4;have v4:=L.v4;have t5:=L.t5;have a5:=L.a5;have z5:=L.z5;have v5:=L.v5;have t9:=L.t9;have a9:=L.a9;have z9:=L.z9;have v9:=L.v9;have t21:=L.t21;have a21:=L.a21;have z21:=L.z21;have v21:=L.v21;have e152:∀args w,(callFunc (ρ.f 152) args).run P w=.ok (.enter (ρ.f 152) args) w:=enters_of L.f152 (by kernel_rfl) rfl;have e226:∀args w,(callFunc (ρ.f 226) args).run P w=.ok (.enter (ρ.f 226) args) w:=enters_of L.f226 (by kernel_rfl) rfl;have L152:Lays.n152 P ρ:= { L with }
 have HA:Aside (Asc cs):=ha;clear ha;go_enter L.f153,Body.n153_ntmps ρ;go_wp2_with (go_at_fn (ρ.f 226);refine(Any.strings_shouldUseASCIISet { L with } _ _).mono ?_;rintro e w' ⟨rfl,hw⟩;rw[hw,h8z]);go_loopg [9,10] s.size (λg _ _ wx=>∃i:Nat,i+g=s.size/\wx.heap[w.heap.size]? =some (.stringIter s i)/\bW w wx/\Lib.NoAny s.data.toList cs.data.toList i)
 case atStart=>exact⟨0,by omega,World.iter_heap w s 0,(Below.refl _ _).alloc (Nat.le_refl _) _,Lib.NoAny.zero _ _⟩
 case round=>
  obtain⟨i,hig,hit,hB,hno⟩:=hrel;have HN:Aside (Lib.NoAny s.data.toList cs.data.toList i):=hno;clear hno;by_cases hi:i<s.size
  ·obtain⟨x,hx⟩:∃x:UInt8,s[i]'hi=x:=⟨_,rfl⟩
   have hxl:s.data.toList[i]? =some x:=by rw[<- hx];exact Lib.data_getElem? s i hi
   by_cases hx128:x.toNat<128
   ·have hnx:=λty=>run_next_ascii_at (P:=P) wr w.heap.size s i ty hit hi (by rw[hx];exact hx128);rw[hx]at hnx;have hit2:=iterAt_heap wr w.heap.size s i (i+1) hit;have hB2:=below_iterAt hB (Nat.le_refl w.heap.size) s (i+1);have Hx:Aside (s.data.toList[i]? =some x):=hxl;clear hxl hx hit;have hcon:=Lib.contains_iff_indexByte cs.data.toList x;have hback:((x.toNat:Int)).toNat.toUInt8=x:=by simp
    cases hin:cs.data.toList.contains x
    ·rw[hin]at hcon;have hlt: ¬ ((0:Int) <=Lib.indexByte cs.data.toList x):=of_decide_eq_false hcon.symm;clear hcon;generalize hgw:wr.iterAt w.heap.size s (i+1)=wi at*;go_wp2_with (go_at_fn (ρ.f 152);refine(Any.strings_IndexRune_ascii { L with } _ _ _ (by omega) (by omega)).mono ?_;rintro e w' ⟨rfl,hw⟩;rw[hw,hback]);go_roundg (s.size-(i+1))
     case measure=>omega
     case rel=>exact⟨i+1,by omega,hit2,hB2,HN.out.succ Hx.out hin⟩
    ·rw[hin]at hcon;have hge:(0:Int) <=Lib.indexByte cs.data.toList x:=of_decide_eq_true hcon.symm;clear hcon;generalize hgw:wr.iterAt w.heap.size s (i+1)=wi at*;go_wp2_with (go_at_fn (ρ.f 152);refine(Any.strings_IndexRune_ascii { L with } _ _ _ (by omega) (by omega)).mono ?_;rintro e w' ⟨rfl,hw⟩;rw[hw,hback]);go_ret;exact⟨by rw[Lib.indexAny_hit HN.out Hx.out hin];rfl,hB2⟩
   ·have hd:=Mx s i hi (by rw[hx];omega);have hnx:=λty=>run_next_any_at (P:=P) wr w.heap.size s i ty hit hi;have hit2:=iterAt_heap wr w.heap.size s i (i+(Utf8.decode s i).2) hit;have hB2:=below_iterAt hB (Nat.le_refl w.heap.size) s (i+(Utf8.decode s i).2);generalize hgw:wr.iterAt w.heap.size s (i+(Utf8.decode s i).2)=wi at*;generalize Utf8.decode s i=cn at*;obtain⟨c,n⟩:=cn;obtain⟨d1,d2,d3,d4⟩:=hd;simp only at d1 d2 d3 d4 hnx hit2;have hL:=F6 L152 cs HA.out hcs (c:Int) wi (by omega);have HD:Aside (∀j,i <=j->(hj:j<i+n)->∀hs:j<s.size,128 <=(s[j]'hs).toNat):=d4;clear d4 hx hxl hit;go_wp2_with (go_at_fn (ρ.f 152);refine hL.mono ?_;rintro e w' ⟨rfl,hw⟩);go_roundg (s.size-(i+n))
    case measure=>omega
    case rel=>
     rename_i hw;refine⟨i+n,by omega,?_,ae hB2 hw hB2.size,?_⟩
     ·rw[hw.block _ (Array.getElem?_eq_some_iff.1 hit2).1];exact hit2
     ·intro j b hj hjb;by_cases hji:j<i
      ·exact HN.out j b hji hjb
      ·have hjs:j<s.size:=by omega
       have h1:=HD.out j (by omega) hj hjs;have h2:s.data.toList[j]? =some (s[j]'hjs):=Lib.data_getElem? s j hjs;rw[h2]at hjb;rw[Option.some.inj hjb]at h1;rw[Bool.eq_false_iff];intro hc;rw[List.contains_iff_mem]at hc;obtain⟨k,hk⟩:=List.getElem?_of_mem hc;have:=HA.out k b hk;omega
  ·have hnx:=λty=>run_next_end_at (P:=P) wr w.heap.size s i ty hit hi;go_wp2;go_ret;have e:i=s.size:=by omega
   have hno:=HN.out;rw[e]at hno;exact⟨by rw[Lib.indexAny_none (by rw[<- Lib.size_eq];exact hno)];rfl,hB⟩
theorem uH (cs:lU)(y:2 <=cs.length)(I:cs.length <=1000)(H:∀c∈cs,c.toNat<128)(s:lU)(J:s.length<4294967281)(w:World):
 Cf fg #[vS s,vS cs] w (Ret λv w'=>v=vI (Lib.indexAny s cs)/\bW w w'):=by
 have D:∀s,(mkS s).size=s.length:=λs=>by show s.toArray.size=_;simp
 have E:Asc (mkS cs):=λj b h=>H b (List.mem_of_getElem? h);by_cases G:(mkS s).size <=8
 ·exact(Dm Tryz.lays153 (mkS cs) E (by rw[D];exact y) (by rw[D];exact I) (mkS s) w G).mono λe w' ⟨h1,y⟩=>⟨_,h1,rfl,y⟩
 ·have F:(prog.info? (Tryz.lays153_ren.t 116)).map (λi=>(i.zero,i.size))=some (some (.agg (Array.replicate 256 (.bool false))),256):=by kernel_rfl
  refine(Any.strings_IndexAny_long Tryz.lays153 (zero_of_info F).1 (zero_of_info F).2 (mkS s) (mkS cs) w (by rw[D];exact y) (by omega) (by rw[D];exact J) (by rw[D];omega) E).mono λe w' ⟨h1,y⟩=>⟨_,h1,rfl,?_⟩
  rw[y];exact((Below.refl _ _).alloc (Nat.le_refl _) _).alloc (by simp) _
theorem xP (s:lU)(y:s.length<4294967281)(w:World):
 Cf fg #[vS s,vS [32,9]] w (Ret λv w'=>v=vI (Lib.indexAny s [32,9])/\bW w w'):=uH [32,9] (by decide) (by decide) (by decide) s y w
end
abbrev Rul:=Int×lU
def zo (k:Int):lU:=if k=2 then[42,46]else if k=3 then[33]else[]
def zv (r:Rul):lU:=zo r.1++r.2
def lw (s:lU):lU:=s.takeWhile λc=> !pU c
def nw (u:lU):Rul:=if Lib.hasPrefix u [42,46]=true then(2,u.drop 2)else if Lib.hasPrefix u [33]=true then(3,u.drop 1)else(1,u)
def MP (k:Int)(o:Option Hst):Rul×Bool×Int:=match o with
 |none=>((0,[]),false,51)
 |some h=>if h.kind=1/\ ¬ (k=3/\(aZ h).length<2)then((k,h.name),true,0)else((0,[]),false,51)
def eZ (s:lU):Rul×Bool×Int:=
 if trimB s=[]\/Lib.hasPrefix (trimB s) [47,47]=true then((0,[]),false,0)else MP (nw (lw (trimB s))).1 (bY (nw (lw (trimB s))).2)
def rN (r:Rul):List Value:=[vI r.1,vS r.2]
def BR (r:Rul):Value:=.agg (rN r).toArray
def W8 (x:Rul×Bool×Int):Value:=.tuple #[BR x.1,.bool x.2.1,vI x.2.2]
def M9 (r q:Rul):Bool:=(r.1==q.1)&&((r.2==q.2)&&true)
theorem BQ (r q:Rul):M9 r q=true↔r=q:=by
 unfold M9;rw[Bool.and_eq_true,Bool.and_true,beq_iff_eq,beq_iff_eq];exact⟨λh=>Prod.ext h.1 h.2,λh=>by rw[h];exact⟨rfl,rfl⟩⟩
def Qg (r:Rul):Bool:=((eZ (zv r)).2.2==0)&&((eZ (zv r)).2.1&&M9 (eZ (zv r)).1 r)
theorem Lw (c:UInt8):([32,9]:lU).contains c=pU c:=by
 unfold pU;rw[Bool.eq_iff_iff];simp
theorem O6:∀s:lU,(0 <=Lib.indexAny s [32,9]->(Lib.indexAny s [32,9]).toNat <=s.length/\s.take (Lib.indexAny s [32,9]).toNat=lw s)/\(¬ 0 <=Lib.indexAny s [32,9]->lw s=s)
 |[]=>⟨λh=>absurd h (by decide),λ_=>rfl⟩
 |c::s=>by
  have E:=O6 s;unfold Lib.indexAny lw;rw[Lw,List.takeWhile_cons];cases F:pU c with
  |true=>exact⟨λ_=>⟨by simp,by simp⟩,λh=>absurd (show(0:Int) <=0 by decide) h⟩
  |false=>
   simp only[Bool.not_false,if_true,Bool.false_eq_true,if_false];have G:=Lib.indexAny_ge [32,9] s;generalize Lib.indexAny s [32,9]=n at*;by_cases D:n= -1
   ·subst D;exact⟨λh=>absurd h (by decide),λ_=>by rw[show s.takeWhile (λc=> !pU c)=s from E.2 (by decide)]⟩
   ·have y:0 <=n:=by omega
    rw[if_neg (by simpa using D)];obtain⟨k,rfl⟩:=Int.eq_ofNat_of_zero_le y;refine⟨λ_=>?_,λh=>absurd (show(0:Int) <=(k:Int)+1 by omega) h⟩;have e:((k:Int)+1).toNat=k+1:=by omega
    have h1:=E.1 y;rw[Int.toNat_natCast]at h1;rw[e,List.take_succ_cons,h1.2];exact⟨by simp;omega,rfl⟩
theorem Jt (s:lU):(trimB s).length <=s.length:=Nh _ _
theorem Ia (s:lU):(lw s).length <=s.length:=yQ _ _
theorem R3 (s:lU):(nw s).2.length <=s.length:=by
 unfold nw;split
 ·simp
 split
 ·simp
 ·exact Nat.le_refl _
theorem Vg (s:lU)(a b:UInt8)(h:Lib.hasPrefix s [a,b]=true):s.head?=some a:=by
 cases s with
 |nil=>cases h
 |cons x r=>
  unfold Lib.hasPrefix at h;simp[List.isPrefixOf]at h;rw[h.1];rfl
theorem Pg (u:lU):nw u=if Lib.hasPrefix u [33]=true then(3,u.drop 1)else if Lib.hasPrefix u [42,46]=true then(2,u.drop 2)else(1,u):=by
 unfold nw;by_cases h1:Lib.hasPrefix u [42,46]=true
 ·rw[if_pos h1];have y:=Vg _ _ _ h1;have D:Lib.hasPrefix u [33]=false:=by rw[(Ah u 33).1,y];decide
  rw[if_neg (by rw[D];decide),if_pos h1]
 ·rw[if_neg h1];by_cases y:Lib.hasPrefix u [33]=true
  ·rw[if_pos y,if_pos y]
  ·rw[if_neg y,if_neg y,if_neg h1]
theorem nP {h:Hst}(e:bY s=some h):h.name.length <=253:=by
 unfold bY at e;split at e
 ·split at e
  ·cases y:v6A ((s.drop 1).take (s.length-2))with
   |none=>rw[y]at e;cases e
   |some a=>rw[y]at e;cases e;exact Nat.zero_le _
  ·cases e
 split at e
 ·cases y:v4V s with
  |none=>rw[y]at e;cases e
  |some a=>rw[y]at e;cases e;exact Nat.zero_le _
 split at e
 ·rename_i h1;cases e;simp only[eF,length_map];exact h1.1
 ·cases e
theorem gG:Whl prog aC 2:=⟨⟨_,_,pP⟩,by kernel_rfl⟩
theorem uW (r:Rul):zR (rN r):=bz rfl (bz rfl ja)
theorem OQ:prog.eqGuardType prog.depth aC=false:=by kernel_rfl
theorem Uy (r q:Rul):eqV prog 10000 aC (BR r) (BR q)=some (M9 r q):=by
 obtain⟨a,b⟩:=r;obtain⟨c,d⟩:=q;kernel_rfl
theorem TE (r q:Rul){x y:Operand}(w:World):((do eqGuard .eql aC x y (BR r) (BR q);binOp .eql aC (BR r) (BR q):Sem Value)).run prog w=.ok (.bool (M9 r q)) w:=
 Qk OQ (Uy r q) w
theorem I3 (s p:lU)(w:World):Cf dW #[vS s,vS p] w (Ret λv w'=>v=.bool (Lib.hasPrefix s p)/\w'=w):=
 (Tryz.strings_HasPrefix (mkS s) (mkS p) w).mono λe w' ⟨h1,y⟩=>⟨_,h1,rfl,y⟩
theorem J2 (s p:lU)(w:World):Cf eR #[vS s,vS p] w (Ret λv w'=>v=.tuple #[vS (Lib.trimPrefix s p),.bool (Lib.hasPrefix s p)]/\w'=w):=
 (Tryz.strings_CutPrefix (mkS s) (mkS p) w).mono λe w' ⟨h1,y⟩=>⟨_,h1,rfl,y⟩
theorem mr (s p:lU)(w:World):Cf iJ #[vS s,vS p] w (Ret λv w'=>v=.bool (Lib.hasPrefix s p)/\w'=w):=by
 apply zG;rw[<- Lib.hasPrefix_of_take];refine ab.of (λh=>?_) (λh=>⟨?_,rfl⟩)<;>simp only[ge_iff_le,dTx,dFx]at h
 ·refine⟨⟨by omega,h⟩,?_⟩;rintro _ rfl;rw[Int.toNat_natCast,decide_eq_true (p:=p.length <=s.length) (by omega),Bool.true_and];exact⟨rfl,rfl⟩
 ·rw[decide_eq_false (p:=p.length <=s.length) (by omega),Bool.false_and]
theorem rO (k:Int)(w:World):Cf px #[vI k] w (Ret λv w'=>v=vS (zo k)/\w'=w):=by
 apply G4;unfold zc zo;refine ab.of (λh=>⟨by rw[if_pos (eq_of_beq h)],rfl⟩) (λh=>?_);rw[if_neg (beq_eq_false_iff_ne.1 h)];exact ab.of (λh=>⟨by rw[if_pos (eq_of_beq h)],rfl⟩) (λh=>⟨by rw[if_neg (beq_eq_false_iff_ne.1 h)],rfl⟩)
theorem DE (u:lU)(w:World):Cf pu #[vS u] w (Ret λv w'=>v=.tuple #[vI (nw u).1,.string (mkS (nw u).2)]/\w'=w):=by
 apply Cw;refine⟨λm i w'=>w'=w/\(m=2/\i=0\/m=1/\i=1/\ ¬ Lib.hasPrefix u [42,46]=true\/m=0/\i=2/\ ¬ Lib.hasPrefix u [42,46]=true/\ ¬ Lib.hasPrefix u [33]=true),⟨2,rfl,.inl ⟨rfl,rfl⟩⟩,?_⟩;intro m i;refine aP.of ?_ _;rintro w' ⟨E,h⟩;rw[E];clear E;rcases h with⟨rfl,rfl⟩|⟨rfl,rfl,h1⟩|⟨rfl,rfl,h1,F⟩
 ·refine ab.yes (by decide) ⟨2,by kernel_rfl,?_⟩;refine aK (rO 2 w) ?_;rintro _ D ⟨rfl,y⟩;rw[y];clear y;refine⟨_,rfl,?_⟩;refine aK (J2 u (zo 2) w) ?_;rintro _ D ⟨rfl,y⟩;rw[y];clear y;refine⟨_,_,rfl,?_⟩;show ab (Lib.hasPrefix u [42,46]) _ _;refine ab.of (λh=>⟨?_,rfl⟩) (λh=>⟨1,by decide,rfl,.inr (.inl ⟨rfl,rfl,by rw[h];decide⟩)⟩);have e:Lib.trimPrefix u (zo 2)=u.drop 2:=by exact if_pos h
  unfold nw;rw[if_pos h,e]
 ·refine ab.yes (by decide) ⟨3,by kernel_rfl,?_⟩;refine aK (rO 3 w) ?_;rintro _ D ⟨rfl,y⟩;rw[y];clear y;refine⟨_,rfl,?_⟩;refine aK (J2 u (zo 3) w) ?_;rintro _ D ⟨rfl,y⟩;rw[y];clear y;refine⟨_,_,rfl,?_⟩;show ab (Lib.hasPrefix u [33]) _ _;refine ab.of (λh=>⟨?_,rfl⟩) (λh=>⟨0,by decide,rfl,.inr (.inr ⟨rfl,rfl,h1,by rw[h];decide⟩)⟩);have e:Lib.trimPrefix u (zo 3)=u.drop 1:=by exact if_pos h
  unfold nw;rw[if_neg h1,if_pos h,e]
 ·exact ab.no (by decide) ⟨by unfold nw;rw[if_neg h1,if_neg F],rfl⟩
theorem Jc (r:Rul)(M:r.2.length <=4611686018427387904)(w:World):Cf uA #[BR r] w (Ret λv w'=>v=vS (zv r)/\bW w w'):=by
 obtain⟨k,n⟩:=r;apply G3;intro O F I E;have D:=(E▸ar w _:bW w F)
 have h1:aB F O aC (rN (k,n)):=aB.new I E;have R:(zo k).length <=2:=by unfold zo;split;decide;split;decide;decide
 refine⟨rfl,k,λu y=>(h1.below y).load1 eI rfl rfl,zo k,λu y=>?_,rfl,n,λu y=>(h1.below y).load1 aI rfl rfl,fits (by simp at M;omega),?_⟩
 ·refine kz ?_ y;exact(rO k u).mono λe w' ⟨v,h1,G,H⟩=>⟨v,h1,G,H▸Below.refl _ _⟩
 rintro _ rfl U J;exact⟨rfl,ae D J D.size⟩
def KW (s:lU)(w:World)(v:Value)(w':World):Prop:=v=W8 (eZ s)/\bW w w'
theorem xZ (r:Rul){w w':World}{vs:List Value}(D:aB w' n aC vs)(J:vs.length=2)(G:bW w w')(I:w.heap.size <=n){b:Bool}{e:Int}{K:Value->World->Prop}
 (F:∀wx,bW w wx->K (W8 (r,b,e)) wx):
 ∃(wx:World),(Instr.storeAt aC (.pointer (some ⟨n,0,none⟩)) (BR r)).run prog w'=.ok () wx/\
  ∃(n0:Int) (y:lU),(aS aC (.pointer (some ⟨n,0,none⟩))).run prog wx=.ok (.agg #[vI n0,vS y]) wx/\
   K (.tuple #[.agg #[vI n0,vS y],.bool b,vI e]) wx:=by
 obtain⟨wx,M,E,H⟩:=gG.store0 (cs:=rN r) rfl (uW r) D J;exact⟨wx,M,r.1,r.2,aB.res (gG.load0 E rfl),F wx (Below.put G H I)⟩
theorem yM (s:lU)(cd:s.length <=2000000000)(w:World)(bp:Env w):Cf pp #[vS s] w (Ret (KW s w)):=by
 apply G2;intro k2 af b4 bs;have a9:=(bs▸ar w _:bW w af)
 have b0:aB af k2 aC (rN (0,[])):=aB.new b4 bs;have aa:w.heap.size <=k2:=by omega
 have cl:=Jt s;refine aK (Gs s (by omega) af) ?_;rintro _ I ⟨rfl,be⟩;have V:=ae a9 be a9.size;have a0:=b0.below be;refine⟨_,rfl,?_⟩;have hV:eZ s=if trimB s=[]\/Lib.hasPrefix (trimB s) [47,47]=true then((0,[]),false,0)else MP (nw (lw (trimB s))).1 (bY (nw (lw (trimB s))).2):=rfl;generalize trimB s=t at*;refine jE (w:=I) (¬ (t=[]\/Lib.hasPrefix t [47,47]=true)) ?_ (λb2=>?_)
 ·refine gX (w:=I) (decide (t=[]\/Lib.hasPrefix t [47,47]=true)) ?_ ?_
  ·refine ab.of (λh=>⟨rfl,by rw[decide_eq_true (.inl (eq_of_beq h))]⟩) (λh=>?_);refine aK (I3 t [47,47] I) ?_;rintro _ O ⟨rfl,b8⟩;refine⟨_,rfl,b8,?_⟩;rw[Bool.eq_iff_iff,dTx];exact⟨.inr,λy=>y.elim (λy=>absurd y (beq_eq_false_iff_ne.1 h)) id⟩
  ·refine ab.of (λh=>?_) (λh=>⟨rfl,of_decide_eq_false h⟩);exact xZ (0,[]) a0 rfl V aa λbw J=>⟨by rw[hV,if_pos (of_decide_eq_true h)],J⟩
 ·rw[if_neg b2]at hV;have ad:=O6 t;have cf:=Ia t;refine⟨λu w'=>u=lw t/\bW I w',?_,?_⟩
  ·refine aK (xP t (by omega) I) ?_;rintro _ O ⟨rfl,H⟩;refine⟨_,rfl,ab.of (λh=>?_) (λh=>?_)⟩
   ·have h:=of_decide_eq_true h;refine⟨⟨h,by have:=(ad.1 h).1;omega⟩,?_⟩;rintro _ rfl;exact⟨(ad.1 h).2,H⟩
   ·exact⟨(ad.2 (of_decide_eq_false h)).symm,H⟩
  ·intro u;refine aP.of ?_ _;rintro O ⟨rfl,H⟩;have Y:=ae V H V.size;have b1:=a0.below H;refine aK (DE (lw t) O) ?_;rintro _ cn ⟨rfl,bt⟩;rw[bt];clear bt;have b5:=R3 (lw t);refine⟨_,_,rfl,?_⟩;generalize nw (lw t)=b9 at*;obtain⟨k,n⟩:=b9;refine aK (lI n (by simp at b5;omega) O (bp.step Y)) ?_;rintro _ cb ⟨rfl,bk⟩;have bb:=ae Y bk Y.size;rw[iy];refine⟨_,_,rfl,?_⟩;have M:=pD λx y=>iX (s:=n) y;refine bn.new (zs:=jZ.cells) (cs:=((bY n).getD jZ).cells) rfl (Hst.len M) (Hst.one _) cb λch ag cc F bl=>?_;have G:=ae bb bl bb.size;have a8:=(b1.below bk).below bl;simp only at hV;refine iV (λw'=>∃h:Hst,bY n=some h/\eZ s=((k,h.name),true,0)/\bW ag w') ?_ ?_
   ·refine HP (λb w'=>b=decide (eZ s=((0,[]),false,51))/\bW ag w'/\(b=false->∃h:Hst,bY n=some h/\eZ s=((k,h.name),true,0))) ?_ ?_
    ·cases ac:bY n with
     |none=>
      rw[ac]at hV;exact ab.yes rfl ⟨by rw[hV];rfl,Below.refl _ _,λy=>by cases y⟩
     |some h=>
      rw[ac]at hV F M;have hV:eZ s=if h.kind=1/\ ¬ (k=3/\(aZ h).length<2)then((k,h.name),true,0)else((0,[]),false,51):=hV;have aj: ¬ (h.kind=1/\ ¬ (k=3/\(aZ h).length<2))->(true:Bool)=decide (eZ s=((0,[]),false,51)):=λy=>by rw[hV,if_neg y];rfl
      have xN:(h.kind=1/\ ¬ (k=3/\(aZ h).length<2))->(false:Bool)=decide (eZ s=((0,[]),false,51))/\(∃av:Hst,some h=some av/\eZ s=((k,av.name),true,0)):=λy=>by
       rw[hV,if_pos y];exact⟨(decide_eq_false (by intro y;have:=congrArg (λz=>z.2.1) y;cases this)).symm,h,rfl,rfl⟩
      refine ab.no rfl ⟨rfl,_,F.load1 eI rfl rfl,ab.of (λc1=>⟨aj λy=>?_,Below.refl _ _,λy=>by cases y⟩) (λc1=>?_)⟩
      ·have c1:(h.kind !=1)=true:=c1;rw[y.1]at c1;simp at c1
      have c1:(h.kind !=1)=false:=c1;have c1:h.kind=1:=by simpa using c1
      refine ab.of (λE=>?_) (λE=>?_)
      ·have E:k=3:=eq_of_beq E;refine⟨_,bn.load0 F (Hst.len M),?_⟩;have b6:h.name.length <=1000000000:=by have:=nP ac;omega
       refine aK (iN M b6 ag (bp.step G)) ?_;rintro _ bu ⟨a,l,c,rfl,b7,-,D⟩;refine⟨_,_,_,rfl,?_⟩;have bq:=b7.len;simp only[Option.getD_some]at bq;rw[bq];by_cases an:(aZ h).length<2
       ·try dsimp only
        rw[decide_eq_true (show(((aZ h).length:Nat):Int)<2 by omega)];exact⟨aj λy=>y.2 ⟨E,an⟩,D,λy=>by cases y⟩
       ·try dsimp only
        rw[decide_eq_false (show ¬ (((aZ h).length:Nat):Int)<2 by omega)];have g:=xN ⟨c1,λy=>an y.2⟩;exact⟨g.1,D,λ_=>g.2⟩
      ·have g:=xN ⟨c1,λy=>by rw[y.1]at E;cases E⟩;exact⟨g.1,Below.refl _ _,λ_=>g.2⟩
    ·rintro b bu ⟨J,D,b3⟩;refine ab.of (λc=>?_) (λc=>?_)
     ·rw[c,eq_comm,dTx]at J;exact xZ (0,[]) (a8.below D) rfl (ae G D G.size) aa λbw Z=>⟨by rw[J],Z⟩
     ·obtain⟨h,R,U⟩:=b3 c;exact⟨h,R,U,D⟩
   ·rintro bu ⟨h,R,U,D⟩;rw[R]at F;refine⟨rfl,_,(F.below D).load1 aI rfl rfl,?_⟩;exact xZ (k,h.name) (a8.below D) rfl (ae G D G.size) aa λbw Z=>⟨by rw[U],Z⟩
theorem uZ (a:lU)(b:Int){w K}(h:uL ec #[vS a,.int .u8 32] w λc d e f=>bd b (e:Int)/\∃g:Nat->FP [shI,shI],(∃i,g i (1:Int) (0:Int) f)/\∀i j k,aP 10 (∀l,g i j k l->ab (decide (k<(((Int.toNat b):Nat):Int))) ((bx k (((Int.toNat b):Nat):Int)/\Option.isSome c=true)/\∃m,Ld ai (aw c k 1) l (vS m)/\∃n:Nat,n<i/\g n (i64.wrap (j+(i64.wrap (((length m:Nat):Int)+1)))) (i64.wrap (k+1)) l) (K (vI j) l))):Cf jW #[vS a,vI b] w (Ret K):=ru func76 [(8,[(5,shI),(13,shI)])] h
theorem sZ {w K}(h:nA w (.cells #[vS [],vS [104,116,116,112],vS [104,116,116,112,115],vS [98,111,116,104]] ai) λa b=>K (.slice (vA a 0) 4 4) b):Cf jq #[] w (Ret K):=ru func150 [] h
theorem gZ (a:Option Addr)(b c:Nat)(d:Value){w K}(h:nA w (.cells (Value.cells d) ak) λe f=>∃g:Nat->FP [shI],(∃i,g i (0:Int) f)/\∀i j,aP 12 (∀k,g i j k->ab (decide (j<(b:Int))) (∃l,(∀m,bW k m->Ld ak (vA e 0) m l)/\(bx j (b:Int)/\Option.isSome a=true)/\∃m,(∀n,bW k n->Ld ak (aw a j 22) n m)/\∃n,(∀o,bW k o->(do eqGuard .eql ak (.tmp 11) (.tmp 15) l m;binOp .eql ak l m:Sem Value).run prog o=.ok (.bool n) o)/\∀o,bW k o->ab n (K (vI j) o) (∃p:Nat,p<i/\g p (i64.wrap (j+1)) o)) (K (vI (-1)) k))):Cf cX #[.slice a b c,d] w (Ret K):=ru func151 [(6,[(8,shI)])] h
theorem gv (a:Option Addr)(b c:Nat)(d:Value){w K}(h:nA w (.cells (Value.cells d) ak) λe f=>∃g,Ld ak (vA e 0) f g/\uI cX #[.slice a b c,g] f λi j=>K (.bool (decide (i >=0))) j):Cf cz #[.slice a b c,d] w (Ret K):=ru func75 [] h
theorem ym (a:lU){w K}(h:nA w (.cells bg ak) λb c=>Cf ly #[vS a] c λd e=>∃f g i j,d=rT #[.slice f g i,.bool j]/\∃k:FP [],(∃l:FP [shB],(ab (!j) (l true e) (ab ((g:Int) !=4) (l true e) ((bx (0:Int) (g:Int)/\Option.isSome f=true)/\∃m,Ld ai (aw f (0:Int) 1) e (vS m)/\l (!(m==[104,111,115,116])) e)))/\∀m,aP 12 (∀n,l m n->ab m (∃o,Sv ak (vA b 0) (.agg bg) n o/\∃p,Rv ak (vA b 0) o p/\K (.tuple #[p,vI 131,vI 0]) o) (k n)))/\aP 16 (∀l,k l->(bx (1:Int) (g:Int)/\Option.isSome f=true)/\∃m,Ld ai (aw f (1:Int) 1) l (vS m)/\Cf eR #[vS m,vS [42,46]] l λn o=>∃p q,n=rT #[vS p,.bool q]/\Cf jd #[vS p] o λr s=>∃t u,r=rT #[t,vI u]/\nA s (.cells bB am) λv x=>∃y,Sv am (vA v 0) t x y/\(bx (2:Int) (g:Int)/\Option.isSome f=true)/\∃z,(∀A,bW y A->Ld ai (aw f (2:Int) 1) A (vS z))/\∃A:FP [.one .slice],(∀B C D E F,A B C D E->bW E F->A B C D F)/\(∀B,bW y B->uL jq #[] B λC D E F=>A C D E F/\bW B F)/\∀B C D,∃E,(∀F,bW y F->A B C D F->Cf gS #[.slice B C D,vS z] F λG H=>G=.returned (vI E)/\bW F H)/\∀F,bW y F->A B C D F->∃G:FP [],(∃H:FP [shB],(ab (u !=0) (H true F) (ab q (true/\∃I,Ld co (vA v 0) F (vI I)/\H (I !=1) F) (H false F)))/\∀I,aP 10 (∀J,H I J->ab I (∃L,Sv ak (vA b 0) (.agg bg) J L/\∃M,Rv ak (vA b 0) L M/\K (.tuple #[M,vI 31,vI 1]) L) (ab (decide (E<(1:Int))) (∃L,Sv ak (vA b 0) (.agg bg) J L/\∃M,Rv ak (vA b 0) L M/\K (.tuple #[M,vI 211,vI 2]) L) ((bx (3:Int) (g:Int)/\Option.isSome f=true)/\∃L,Ld ai (aw f (3:Int) 1) J (vS L)/\uB nK #[vS L] J λM N=>ab (!M) (∃O,Sv ak (vA b 0) (.agg bg) N O/\∃P,Rv ak (vA b 0) O P/\K (.tuple #[P,vI 43,vI 3]) O) (G N)))))/\aP 25 (∀H,G H->(bx (3:Int) (g:Int)/\Option.isSome f=true)/\∃I,(∀J,bW H J->Ld am (vA v 0) J I)/\∃J,(∀L,bW H L->Ld ai (aw f (3:Int) 1) L (vS J))/\∃L,(∀M,bW H M->(Instr.build ak #[(0,.bool q),(1,I),(2,.bool (decide ((i64.wrap (((BitVec.ofInt (IntKind.bits .i64) E) &&& (BitVec.ofInt (IntKind.bits .i64) (1:Int))).toNat:Nat))>(0:Int)))),(3,.bool (decide ((i64.wrap (((BitVec.ofInt (IntKind.bits .i64) E) &&& (BitVec.ofInt (IntKind.bits .i64) (2:Int))).toNat:Nat))>(0:Int)))),(4,vS J)]).run prog M=.ok L M)/\∀M,bW H M->∃N,Sv ak (vA b 0) L M N/\∃O,Rv ak (vA b 0) N O/\K (.tuple #[O,vI 0,vI 0]) N))):Cf mf #[vS a] w (Ret K):=ru func74 [(4,[]),(5,[(29,shB)]),(1000017,[]),(3000017,[(1,shB),(2,shB),(3,shB),(0,.one .slice),(4,shB),(5,shB)]),(18,[]),(20,[(48,shB)]),(3000040,[(0,shB),(2,shB),(3,shB),(4,shB),(5,shB),(6,shB),(7,shB),(8,shB),(9,shB),(1,shB),(10,shB),(11,shB)])] h
theorem yl (a:lU){w K}(h:nA w (.cells #[vI 0,vI 0,vI 0] ax) λb c=>ab (decide (((length a:Nat):Int)>(20000:Int))) (∃d,Sv ax (vA b 0) (.agg #[vI 54,vI 1,vI 1]) c d/\∃e f g,Rv ax (vA b 0) d (.agg #[vI e,vI f,vI g])/\K (.tuple #[.slice none 0 0,.agg #[vI e,vI f,vI g]]) d) (uL jm #[vS a] c λd e f g=>∃i:Nat->FP [.one .slice,shI],(∃j,i j none 0 0 (0:Int) g)/\∀j k l m n,aP 47 (∀o,i j k l m n o->ab (decide (n<(e:Int))) ((bx n (e:Int)/\Option.isSome d=true)/\∃p,Ld ai (aw d n 1) o (vS p)/\∃q:FP [],(ab (p==[]) (∃r:Nat,r<j/\i r k l m (i64.wrap (n+1)) o) (uB dW #[vS p,vS [35]] o λr s=>ab r (∃t:Nat,t<j/\i t k l m (i64.wrap (n+1)) s) (q s)))/\aP 6 (∀r,q r->Cf mf #[vS p] r λs t=>∃u v x,s=rT #[u,vI v,vI x]/\nA t (.cells bg ak) λy z=>∃A,Sv ak (vA y 0) u z A/\∃B:FP [shI],(ab (v !=0) (B v A) (∃C,Ld ak (vA y 0) A C/\uB cz #[.slice k l m,C] A λD E=>ab D (B (52:Int) E) (ab ((l:Int)==12) (B (53:Int) E) (B v E))))/\∀C,aP 11 (∀D,B C D->ab (C !=0) (uI jW #[vS p,vI x] D λE F=>∃G,Sv ax (vA b 0) (.agg #[vI C,vI (i64.wrap (n+1)),vI E]) F G/\∃H I J,Rv ax (vA b 0) G (.agg #[vI H,vI I,vI J])/\K (.tuple #[.slice none 0 0,.agg #[vI H,vI I,vI J]]) G) (∃E,Ld ak (vA y 0) D E/\∃F G H I,(Instr.buildSlice aN 1 #[(0,E)]).run prog D=.ok (.slice G H I) F/\∃J L M N,(Builtin.append_ #[aN,aN] aN #[.slice k l m,.slice G H I]).run prog F=.ok (.slice L M N) J/\∃O:Nat,O<j/\i O L M N (i64.wrap (n+1)) J)))) (∃p,Sv ax (vA b 0) (.agg #[vI 0,vI 0,vI 0]) o p/\∃q r s,Rv ax (vA b 0) p (.agg #[vI q,vI r,vI s])/\K (.tuple #[.slice k l m,.agg #[vI q,vI r,vI s]]) p)))):Cf me #[vS a] w (Ret K):=ru func31 [(16,[(4,.one .slice),(17,shI)]),(27,[]),(35,[(8,shI)])] h
theorem OB {c d:Pat}(o:c.ok)(p:d.ok):eqV prog 10000 ak c.v d.v=some (qn c d):=by
 obtain⟨D,⟨O,U,e3⟩,F,H,J⟩:=c;obtain⟨E,⟨R,V,y⟩,G,I,M⟩:=d;obtain⟨Y,Z,an,av,a0,a8,a9,bb,be,bk,aa,ac,ad,af,ag,aj,rfl⟩:=pV e3 o;obtain⟨bl,bp,b1,b2,b3,b4,b5,b6,b7,b8,bq,bs,bt,bu,bw,b0,rfl⟩:=pV y p;kernel_rfl
theorem Ir:prog.eqGuardType prog.depth ak=false:=by kernel_rfl
theorem Tz {c d:Pat}(o:c.ok)(p:d.ok){x y:Operand}(w:World):((do eqGuard .eql ak x y c.v d.v;binOp .eql ak c.v d.v:Sem Value)).run prog w=.ok (.bool (qn c d)) w:=
 Qk Ir (OB o p) w
theorem Pq {o:Pat}(k:o.ok)(w:World):(Instr.buildSlice aN 1 #[(0,o.v)]).run prog w=.ok (.slice (some ⟨w.heap.size,0,none⟩) 1 1) (w.alloc (.cells o.cells.toArray ak)):=by
 obtain⟨y,⟨G,H,e3⟩,D,E,F⟩:=o;obtain⟨I,J,Z,aa,ac,ad,af,ag,aj,an,M,O,R,U,V,Y,rfl⟩:=pV e3 k;kernel_rfl
theorem lK {a:Option Addr}{l c:Nat}{xs:List Pat}(h:Sl lS w A a l c xs)(y:i<xs.length):
 (Instr.loadAt ak (.pointer (aw a (i:Int) 22))).run prog w=.ok xs[i].v w/\xs[i].ok:=by
 obtain⟨vs,h1,e,o⟩:=ck.elem (T:=lS) rfl h y;subst e;exact⟨h1,o⟩
def XK (p:Pat)(xs:List Pat):Int:=match xs.findIdx? (qn p)with|some i=>(i:Int)|none=> -1
theorem Ve (p:Pat)(xs:List Pat):decide (XK p xs >=0)=xs.any (qn p):=by
 unfold XK;cases h:xs.findIdx? (qn p)with
 |none=>
  rw[List.findIdx?_eq_none_iff]at h;rw[decide_eq_false (by decide),eq_comm,List.any_eq_false];exact λx D=>by rw[h x D];decide
 |some i=>
  obtain⟨y,hp,_⟩:=List.findIdx?_eq_some_iff_getElem.1 h;rw[decide_eq_true (by show(i:Int) >=0;omega),eq_comm,List.any_eq_true];exact⟨_,getElem_mem y,hp⟩
theorem IB {a:Option Addr}{n c:Nat}{xs:List Pat}(D:Sl lS w A a n c xs){p:Pat}(o:p.ok):
 Cf cX #[.slice a n c,p.v] w (Ret λv w'=>v=vI (XK p xs)/\bW w w'):=by
 apply gZ;intro af J Z U;have M:=(U▸ar w _:bW w J)
 have V:aB J af ak p.cells:=aB.new Z U;have ac:=D.len;have av:=D.le;subst ac;refine⟨λm i w'=>∃j:Nat,i=(j:Int)/\m=xs.length-j/\j <=xs.length/\(∀t,t<j->∀h:t<xs.length,qn p xs[t]=false)/\bW J w',⟨_,0,rfl,rfl,Nat.zero_le _,λt h=>absurd h (Nat.not_lt_zero _),Below.refl _ _⟩,λm i=>aP.of ?_ _⟩;rintro a0 ⟨j,rfl,rfl,aj,I,y⟩;have Bl:=ae M y M.size;refine ab.of (λh=>?_) (λh=>?_)<;>simp only[dTx,dFx]at h
 ·have E:j<xs.length:=by omega
  obtain⟨an,ag⟩:=lK (D.below Bl) E;refine⟨_,λu G=>ck.load0 (V.below (ae y G y.size)) (Pat.len o),⟨⟨by omega,h⟩,D.isSome E⟩,_,λu G=>(lK (D.below (ae Bl G Bl.size)) E).1,_,λu G=>Tz o ag u,λa8 O=>?_⟩;have Y:=ae Bl O Bl.size;refine ab.of (λH=>⟨?_,Y⟩) (λH=>⟨xs.length-(j+1),by omega,j+1,by rw[wrJ];omega,rfl,by omega,λt F aa=>?_,ae y O y.size⟩)
  ·have e:xs.findIdx? (qn p)=some j:=List.findIdx?_eq_some_iff_getElem.2 ⟨E,H,λt F=>by rw[I t F (by omega)];decide⟩;unfold XK;rw[e]
  ·rcases Nat.lt_or_ge t j with R|R
   ·exact I t R aa
   ·obtain rfl:t=j:=by omega
    exact H
 ·refine⟨?_,Bl⟩;have e:xs.findIdx? (qn p)=none:=List.findIdx?_eq_none_iff.2 λx ad=>by
   obtain⟨t,F,rfl⟩:=List.getElem_of_mem ad;exact I t (by omega) F
  unfold XK;rw[e]
theorem AM {a:Option Addr}{n c:Nat}{xs:List Pat}(I:Sl lS w A a n c xs){p:Pat}(o:p.ok):
 Cf cz #[.slice a n c,p.v] w (Ret λv w'=>v=.bool (xs.any (qn p))/\bW w w'):=by
 apply gv;intro J E H D;have y:=(D▸ar w _:bW w E)
 have F:aB E J ak p.cells:=aB.new H D;refine⟨_,ck.load0 F (Pat.len o),?_⟩;refine aK (IB (I.below y) o) ?_;rintro _ M ⟨rfl,G⟩;exact⟨_,rfl,by rw[Ve],ae y G y.size⟩
theorem wD (s:lU)(k:Nat)(Y:s.length <=10000000)(U:k <=(bE 32 [] s).length)(w:World)(F:Env w):
 Cf jW #[vS s,vI (k:Int)] w (Ret λv w'=>v=vI (qL (bE 32 [] s) k:Nat)/\bW w w'):=by
 apply uZ;refine aK (eH s 32 (by omega) w F) ?_;rintro _ I ⟨a,n,c,rfl,D,O,E⟩;have H:=gp 32 s [];have M:=dK 32 s [];generalize bE 32 [] s=L at*;have G:=D.len;have J:=D.all.2.1;subst G;refine⟨a,_,c,rfl,⟨by omega,by omega⟩,λm x i w'=>∃j:Nat,i=(j:Int)/\m=k-j/\j <=k/\x=(qL L j:Nat)/\qL L j <=1+j*10000001/\w'=I,⟨_,0,rfl,rfl,Nat.zero_le _,rfl,by rw[H7];omega,rfl⟩,λm x i=>aP.of ?_ _⟩;rintro aa ⟨j,rfl,rfl,R,rfl,V,rfl⟩;refine ab.of (λh=>?_) (λh=>?_)<;>simp only[dTx,dFx,Int.toNat_natCast]at h
 ·have y:j<L.length:=by omega
  have Z:L[j].length <=10000000:=by have:=H _ (getElem_mem y);simp at this;omega
  refine⟨⟨⟨by omega,by simpa using h⟩,D.all.isSome y⟩,L[j],D.all.text aI y,k-(j+1),by omega,j+1,by rw[wrJ];omega,rfl,by omega,?_,?_,rfl⟩
  ·rw[qM y,wrJ (n:=((L[j].length:Nat):Int)+1),wrJ];omega
  ·rw[qM y];omega
 ·obtain rfl:j=k:=by omega
  exact⟨rfl,E⟩
theorem vg (w:World):Cf jq #[] w (Ret λv w'=>∃a,v=.slice a 4 4/\Ow tS ai w' NoB a 4 4 XT/\bo w.heap.size a/\bW w w'):=by
 apply sZ;intro E F y D;exact⟨_,rfl,Ow.newF (eX _) y D (mQ (xs:=XT) λ_ _=>trivial) (by decide),kx y,D▸ar _ _⟩
theorem VB (x:lU):Lib.idxOfS (XT.map mkS) (mkS x)=j3 x:=by
 unfold XT j3;simp only[map_cons,map_nil,Lib.idxOfS,Lib.idxFromS,UW,eq_comm (a:=x)];rfl
theorem Yw:(Value.agg bg)=sP.v:=rfl
theorem N2 {h:Hst}(o:h.ok)(a b c:Bool)(z:lU)(w:World):(Instr.build ak #[(0,.bool a),(1,h.v),(2,.bool b),(3,.bool c),(4,vS z)]).run prog w=.ok (⟨a,h,b,c,z⟩:Pat).v w:=by
 obtain⟨y,D,e3⟩:=h;obtain⟨E,F,R,U,V,Y,Z,aa,ac,ad,G,H,I,J,M,O,rfl⟩:=pV e3 o;kernel_rfl
theorem SH {n:Int}(h:n=1\/n=2\/n=3):decide ((i64.wrap (((BitVec.ofInt (IntKind.bits .i64) n) &&& (BitVec.ofInt (IntKind.bits .i64) (1:Int))).toNat:Nat))>(0:Int))=(n==1 || n==3)/\
 decide ((i64.wrap (((BitVec.ofInt (IntKind.bits .i64) n) &&& (BitVec.ofInt (IntKind.bits .i64) (2:Int))).toNat:Nat))>(0:Int))=(n==2 || n==3):=by
 rcases h with rfl|rfl|rfl<;>decide
theorem VA (y:lU)(h: ¬ j3 y<1):j3 y=1\/j3 y=2\/j3 y=3:=by
 unfold j3 at*;by_cases h1:y=[]
 ·rw[if_pos h1]at h;exact absurd (by decide) h
 rw[if_neg h1]at*;by_cases D:y=[104,116,116,112]
 ·rw[if_pos D];exact .inl rfl
 rw[if_neg D]at*;by_cases E:y=[104,116,116,112,115]
 ·rw[if_pos E];exact .inr (.inl rfl)
 rw[if_neg E]at*;by_cases F:y=[98,111,116,104]
 ·rw[if_pos F];exact .inr (.inr rfl)
 ·rw[if_neg F]at h;exact absurd (by decide) h
theorem Xa {L:List o}(h:L.length=4):∃k x y z,L=[k,x,y,z]:=by
 match L,h with
 |[k,x,y,z],_=>exact⟨k,x,y,z,rfl⟩
theorem vZ (k a b c:lU):Rc [k,a,b,c]=if k=Ho then M1 a b c else(sP,131,0):=rfl
theorem LO {L:List lU}(h:L.length≠4):Rc L=(sP,131,0):=by
 unfold Rc;split
 ·exact absurd rfl h
 ·rfl
def KX (s:lU)(w:World)(v:Value)(w':World):Prop:=v=.tuple #[(dA s).1.v,vI (dA s).2.1,vI ((dA s).2.2:Nat)]/\bW w w'
set_option maxHeartbeats 1000000 in
theorem zQ (s:lU)(c2:s.length <=10000000)(w:World)(b2:Env w):Cf mf #[vS s] w (Ret (KX s w)):=by
 apply ym;intro af aj cn b5;have M:=(b5▸ar w _:bW w aj)
 have bs:aB aj af ak sP.cells:=aB.new cn b5;have dl:=bs.lt;have b1:∀{W:World} {p:Pat} {e k:Int} {j:Nat},p.ok->k=(j:Int)->dA s=(p,e,j)->bW aj W->∃wx,(Instr.storeAt ak (.pointer (some ⟨af,0,none⟩)) p.v).run prog W=.ok () wx/\
  ∃O:Value,(aS ak (.pointer (some ⟨af,0,none⟩))).run prog wx=.ok O wx/\KX s w (.tuple #[O,vI e,vI k]) wx:=fun{W p e k j} o E I Z=>
  ck.fin (K:=λO wx=>KX s w (.tuple #[O,vI e,vI k]) wx) (cs:=p.cells) (Pat.len o) (Pat.one p) (bs.below Z) rfl (ae M Z M.size) (by omega) λwx cf=>⟨by rw[I,E];rfl,cf⟩
 have V:∀{W:World} {e k:Int} {j:Nat},k=(j:Int)->dA s=(sP,e,j)->bW aj W->∃wx,(Instr.storeAt ak (.pointer (some ⟨af,0,none⟩)) (.agg bg)).run prog W=.ok () wx/\
  ∃O:Value,(aS ak (.pointer (some ⟨af,0,none⟩))).run prog wx=.ok O wx/\KX s w (.tuple #[O,vI e,vI k]) wx:=λE I Z=>by rw[Yw];exact b1 rfl E I Z
 refine aK (tk s c2 aj (b2.step M)) ?_;rintro _ J ⟨I,U⟩;by_cases a8:[]∈bE 32 [] s
 ·rw[if_pos a8]at I;subst I;exact⟨none,0,0,false,rfl,jE (w:=J) False (gX (w:=J) true (ab.yes rfl ⟨rfl,rfl⟩) (ab.yes rfl (V (j:=0) rfl (by unfold dA;rw[if_pos a8]) U))) (λh=>h.elim)⟩
 rw[if_neg a8]at I;obtain⟨a,n,c,rfl,b3,de⟩:=I;have Y:dA s=Rc (bE 32 [] s):=by unfold dA;rw[if_neg a8]
 have cv:∀x∈bE 32 [] s,x.length <=s.length:=λx b6=>by have:=gp 32 s [] x b6;simpa using this
 generalize bE 32 [] s=L at*;have cp:=b3.len;subst cp;by_cases av:L.length=4
 rotate_left
 ·exact⟨a,_,c,true,rfl,jE (w:=J) False (gX (w:=J) true (ab.no rfl (ab.yes (by simpa using(by omega: ¬ ((L.length:Nat):Int)=4)) ⟨rfl,rfl⟩)) (ab.yes rfl (V (j:=0) rfl (Y.trans (LO av)) U))) (λh=>h.elim)⟩
 obtain⟨k,x,y,z,rfl⟩:=Xa av;have S:=b3.all;have ag:∀{u:World} (i:Nat) (t:lU),bW J u->[k,x,y,z][i]? =some t->(Instr.loadAt ai (.pointer (aw a (i:Int) 1))).run prog u=.ok (vS t) u:=fun{u} i t F c3=>by
  obtain⟨cl,e⟩:=List.getElem?_eq_some_iff.1 c3;rw[<- e];exact(S.below F).text aI cl
 have ad:a.isSome=true:=S.isSome (i:=0) (show 0<4 by decide);have b6:x.length <=s.length:=cv x (by simp);refine⟨a,_,c,true,rfl,jE (w:=J) (k=Ho) (gX (w:=J) (!(k==Ho)) (ab.no rfl (ab.no rfl ⟨⟨⟨by decide,show(0:Int)<4 by decide⟩,ad⟩,k,ag 0 k (Below.refl _ _) rfl,rfl,rfl⟩)) (ab.of (λh=>V (j:=0) rfl ?_ U) (λh=>⟨rfl,by simpa using h⟩))) ?_⟩
 ·rw[Y,vZ,if_neg (by simpa using h)]
 rintro rfl;have Y:dA s=M1 x y z:=by rw[Y,vZ,if_pos rfl]
 refine⟨⟨⟨by decide,show(1:Int)<4 by decide⟩,ad⟩,x,ag 1 x (Below.refl _ _) rfl,?_⟩;refine aK (J2 x [42,46] J) ?_;rintro _ _ ⟨rfl,rfl⟩;refine⟨_,_,rfl,?_⟩;have dg:(Lib.trimPrefix x [42,46]).length <=x.length:=by unfold Lib.trimPrefix;split<;>simp
 have b4:Lib.trimPrefix x [42,46]=if Lib.hasPrefix x [42,46]=true then x.drop 2 else x:=rfl;generalize dd:Lib.trimPrefix x [42,46]=N at*;have b7:=ae M U M.size;refine aK (lI N (by omega) _ (b2.step b7)) ?_;rintro _ c8 ⟨rfl,bw⟩;rw[iy];refine⟨_,_,rfl,?_⟩;have c4:((bY N).getD jZ).ok:=by
  cases h:bY N with
  |none=>rfl
  |some g=>exact iX h
 refine bn.new (zs:=jZ.cells) (cs:=((bY N).getD jZ).cells) rfl (Hst.len c4) (Hst.one _) c8 λdj dr df cd ch=>?_;have aa:=ae bw ch bw.size;have bt:=ae U aa U.size;refine⟨⟨⟨by decide,show(2:Int)<4 by decide⟩,ad⟩,y,λu F=>ag 2 y (ae aa F aa.size) rfl,λa l c u=>l=4/\c=4/\Ow tS ai u NoB a 4 4 XT,λa l c u v ⟨h1,D,H⟩ Z=>⟨h1,D,H.below Z⟩,λu F=>aK (vg u) ?_,λc9 dk dc=>⟨j3 y,λu F bk=>?_,λbq a9 bk=>?_⟩⟩
 ·rintro _ dm ⟨b8,rfl,bl,_,b9⟩;exact⟨b8,4,4,rfl,⟨rfl,rfl,bl⟩,b9⟩
 ·obtain⟨rfl,rfl,bl⟩:=bk;refine(RX bl.all (by decide) y (by decide)).mono ?_;rintro _ _ ⟨_,rfl,rfl,rfl⟩;exact⟨by rw[VB],Below.refl _ _⟩
 clear bk;have R:=ae bt a9 bt.size;have a0:=cd.below a9;have bb:=ae aa a9 aa.size;have key:(!((bY N).isSome) || (Lib.hasPrefix x [42,46]&&(((bY N).getD jZ).kind !=1)))=false->∃g,bY N=some g/\ ¬ (Lib.hasPrefix x [42,46]=true/\g.kind≠1):=by
  intro h;cases H:bY N with
  |none=>rw[H]at h;cases h
  |some g=>
   rw[H]at h;have h:(Lib.hasPrefix x [42,46]&&(g.kind !=1))=false:=h;exact⟨g,rfl,λ⟨av,ac⟩=>by rw[av]at h;exact ac (by simpa using h)⟩
 have be:∀{g},bY N=some g-> ¬ (Lib.hasPrefix x [42,46]=true/\g.kind≠1)->dA s=if j3 y<1 then(sP,211,2)else if mN z=false then(sP,43,3)else(⟨Lib.hasPrefix x [42,46],g,j3 y==1 || j3 y==3,j3 y==2 || j3 y==3,z⟩,0,0):=fun{g} G E=>by
  rw[Y];unfold M1;rw[<- b4,G];exact if_neg E
 refine iV (λW=>bW bq W/\∃g,bY N=some g/\ ¬ (Lib.hasPrefix x [42,46]=true/\g.kind≠1)/\ ¬ j3 y<1/\ ¬ mN z=false) (gX (w:=bq) (!((bY N).isSome) || (Lib.hasPrefix x [42,46]&&(((bY N).getD jZ).kind !=1))) ?_ ?_) ?_
 ·cases h:bY N with
  |none=>exact ab.yes rfl ⟨rfl,rfl⟩
  |some g=>
   rw[h]at a0;refine ab.no rfl (ab.of (λD=>⟨rfl,g.kind,a0.load1 eI rfl rfl,rfl,by rw[D];rfl⟩) (λD=>⟨rfl,by rw[D];rfl⟩))
 ·refine ab.of (λh=>V (j:=1) rfl ?_ R) (λh=>?_)
  ·rw[Y];unfold M1;rw[<- b4];cases H:bY N with
   |none=>rfl
   |some g=>
    rw[H]at h;have h:(Lib.hasPrefix x [42,46]&&(g.kind !=1))=true:=h;rw[Bool.and_eq_true]at h;exact if_pos ⟨h.1,by simpa using h.2⟩
  obtain⟨g,G,E⟩:=key h;refine ab.of (λD=>V (j:=2) rfl ((be G E).trans (if_pos (by simpa using D))) R) (λD=>⟨⟨⟨by decide,show(3:Int)<4 by decide⟩,ad⟩,z,ag 3 z bb rfl,aK (vk z bq) ?_⟩);have D: ¬ j3 y<1:=by simpa using D
  rintro _ dn ⟨rfl,b0⟩;refine⟨_,rfl,ab.of (λac=>V (j:=3) rfl ((be G E).trans (by rw[if_neg D,if_pos (by simpa using ac)])) (ae R b0 R.size)) (λac=>⟨b0,g,G,E,D,by simpa using ac⟩)⟩
 rintro W ⟨an,g,G,E,D,H⟩;have bu:=ae R an R.size;have W14:=ae bb an bb.size;rw[G]at a0;have bp:g.ok:=iX G;obtain⟨cb,cc⟩:=SH (VA y D);refine⟨⟨⟨by decide,show(3:Int)<4 by decide⟩,ad⟩,g.v,λu F=>bn.load0 (a0.below (ae an F an.size)) (Hst.len bp),z,λu F=>ag 3 z (ae W14 F W14.size) rfl,_,λu F=>by rw[cb,cc];exact N2 bp _ _ _ z u,λds M=>?_⟩;exact b1 (j:=0) (p:=⟨Lib.hasPrefix x [42,46],g,j3 y==1 || j3 y==3,j3 y==2 || j3 y==3,z⟩) bp rfl ((be G E).trans (by rw[if_neg D,if_neg H])) (ae bu M bu.size)
def xE (s:lU)(w:World)(v:Value)(w':World):Prop:=bW w w'/\match EJ s with
 |.inl ps=>∃a n c,v=.tuple #[.slice a n c,vE (0,0,0)]/\Ow lS ak w' NoB a n c ps/\bo w.heap.size a
 |.inr f=>v=.tuple #[.slice none 0 0,vE f]/\f.1≠0
theorem SC {w0 w:World}{a:Option Addr}{n c:Nat}{xs:List Pat}(H:Ow lS ak w NoB a n c xs)(G:bo w0.heap.size a)(F:bW w0 w){x:Pat}(o:x.ok)(I:xs.length <=1000000):
 ∃(E:World) (a1:Option Addr) (D c1:Nat),(Instr.buildSlice aN 1 #[(0,x.v)]).run prog w=.ok (.slice a1 D c1) E/\
  ∃(w2:World) (y:Option Addr) (n' c':Nat),(Builtin.append_ #[aN,aN] aN #[.slice a n c,.slice a1 D c1]).run prog E=.ok (.slice y n' c') w2/\
   Ow lS ak w2 NoB y n' c' (xs++[x])/\bo w0.heap.size y/\bW w0 w2:=
 ⟨_,_,_,_,Pq o w,uQ vC dy ko (by decide) H G F rfl rfl ⟨rfl,o⟩ (by omega)⟩
theorem PO (s:lU):(dA s).2.1≠0\/(dA s).2.2=0:=by
 unfold dA;split
 ·exact .inl (by decide)
 unfold Rc;split
 ·split
  ·unfold M1;split
   ·exact .inl (show(31:Int)≠0 by decide)
   split
   ·exact .inl (show(31:Int)≠0 by decide)
   split
   ·exact .inl (show(211:Int)≠0 by decide)
   split
   ·exact .inl (show(43:Int)≠0 by decide)
   ·exact .inr rfl
  ·exact .inl (show(131:Int)≠0 by decide)
 ·exact .inl (show(131:Int)≠0 by decide)
theorem M0 (s:lU):(dA s).2.2 <=(bE 32 [] s).length:=by
 unfold dA;split
 ·exact Nat.zero_le _
 unfold Rc;split
 ·rename_i k a b c y;rw[y];show(if k=Ho then M1 a b c else(sP,131,0)).2.2 <=4;split
  ·unfold M1;split
   ·exact(by decide:1 <=4)
   split
   ·exact(by decide:1 <=4)
   split
   ·exact(by decide:2 <=4)
   split
   ·exact(by decide:3 <=4)
   ·exact Nat.zero_le _
  ·exact Nat.zero_le _
 ·exact Nat.zero_le _
theorem RT (x:lU)(c:UInt8):Lib.hasPrefix x [c]=decide (x.head?=some c):=(Ah x c).1
set_option maxHeartbeats 1000000 in
theorem zP (s:lU)(w:World)(bb:Env w):Cf me #[vS s] w (Ret (xE s w)):=by
 apply yl;intro aa V c3 b2;have y:=(b2▸ar w _:bW w V)
 have be:aB V aa ax (nG (0,0,0)):=aB.new c3 b2;have d7:=be.lt;have bs:∀{W:World} {a:Option Addr} {n c:Nat} (f:Flt),bW V W->(∀wx,bW w wx->W.grownBy wx (some aa)->xE s w (.tuple #[.slice a n c,vE f]) wx)->∃wx,(Instr.storeAt ax (.pointer (some ⟨aa,0,none⟩)) (vE f)).run prog W=.ok () wx/\
  ∃(p q r:Int),(aS ax (.pointer (some ⟨aa,0,none⟩))).run prog wx=.ok (.agg #[vI p,vI q,vI r]) wx/\xE s w (.tuple #[.slice a n c,.agg #[vI p,vI q,vI r]]) wx:=fun{W a n c} f Z cn=>by
  obtain⟨wx,dg,dl,bt⟩:=di.store0 (P:=prog) (cs:=nG f) rfl (pC _) (be.below Z) rfl;exact⟨wx,dg,f.1,f.2.1,f.2.2,aB.res (di.load0 dl rfl),cn wx (Below.put (ae y Z y.size) bt (by omega)) bt⟩
 have bq:∀{W:World} (f:Flt),EJ s=.inr f->f.1≠0->bW V W->_:=fun{W} f e a8 Z=>bs (a:=none) (n:=0) (c:=0) f Z λwx B _=>⟨B,by rw[e];exact⟨rfl,a8⟩⟩
 refine ab.of (λc1=>bq (54,1,1) (lO (by have:=of_decide_eq_true c1;omega)) (show(54:Int)≠0 by decide) (Below.refl _ _)) (λc1=>?_);have c1: ¬ 20000<s.length:=by have:=of_decide_eq_false c1;omega
 refine aK (ny s (by omega) V (bb.step y)) ?_;rintro _ I ⟨b,nb,du,rfl,b6,dv,F⟩;have cp:=nU s;have d1:=lP s;have hV:EJ s=jX CK 0 ((fF s).drop 0) []:=jY c1;generalize fF s=L at*;have S:=b6.all;have c8:=b6.len;subst c8;refine⟨_,_,_,rfl,λm a n c i w'=>∃(j:Nat) (out:List Pat),j <=L.length/\i=(j:Int)/\m=L.length-j/\out.length <=12/\Ow lS ak w' NoB a n c out/\bo I.heap.size a/\bW I w'/\EJ s=jX CK j (L.drop j) out,
  ⟨_,0,[],Nat.zero_le _,rfl,rfl,by decide,Ow.nil _ _ _ _,bo.none _,Below.refl _ _,hV⟩,λm a n c i=>aP.of ?_ _⟩
 rintro b7 ⟨j,out,d2,rfl,rfl,bu,ac,J,G,a9⟩;have Bl:=ae F G F.size;refine ab.of (λan=>?_) (λan=>?_)<;>simp only[dTx,dFx]at an
 rotate_left
 ·refine bs (0,0,0) Bl λwx B g=>⟨B,?_⟩
  rw[a9,nM CK (by omega)];exact⟨_,_,_,rfl,ac.put (λg c2 e=>by have:=J g c2;have:=F.size;omega) g,J.mono (ae y F y.size).size⟩
 have M:j<L.length:=by omega
 have ch:i64.wrap ((j:Int)+1)=(j:Int)+1:=wrJ;have d5:=cp _ (getElem_mem M);refine⟨⟨⟨by omega,an⟩,S.isSome M⟩,L[j],(S.below G).text aI M,?_⟩;rw[ch];generalize b3:L[j]=x at*;have next:∀{W:World} {a:Option Addr} {n c:Nat} {U:List Pat},CK j out L[j]=.inl U->U.length <=12->Ow lS ak W NoB a n c U->bo I.heap.size a->bW I W->∃b4:Nat,b4<L.length-j/\∃(O:Nat) (out:List Pat),O <=L.length/\(j:Int)+1=(O:Int)/\b4=L.length-O/\out.length <=12/\Ow lS ak W NoB a n c out/\bo I.heap.size a/\bW I W/\EJ s=jX CK O (L.drop O) out:=
  fun{W a n c U} e c4 o f B=>⟨L.length-(j+1),by omega,j+1,U,by omega,rfl,rfl,c4,o,f,B,by rw[a9,je M e]⟩
 have b5:x=[]\/x.head?=some 35->CK j out L[j]=.inl out:=λh=>by rw[b3];unfold CK;rw[if_pos h]
 refine iV (λW=>W=b7/\ ¬ (x=[]\/x.head?=some 35)) ?_ ?_
 ·refine ab.of (λY=>next (b5 (.inl (eq_of_beq Y))) bu ac J G) (λY=>aK (I3 x [35] b7) ?_);rintro _ _ ⟨rfl,rfl⟩;refine⟨_,rfl,?_⟩;rw[RT];exact ab.of (λav=>next (b5 (.inr (of_decide_eq_true av))) bu ac J G) (λav=>⟨rfl,λh=>h.elim (λe=>by rw[e]at Y;cases Y) λe=>of_decide_eq_false av e⟩)
 rintro W ⟨rfl,c9⟩;have H:CK j out L[j]=if(dA x).2.1≠0 then .inr ((dA x).2.1,(qL (bE 32 [] x) (dA x).2.2:Nat))else if out.any (qn (dA x).1)=true then .inr (52,1)else if out.length=12 then .inr (53,1)else .inl (out++[(dA x).1]):=by rw[b3];unfold CK;rw[if_neg c9]
 refine aK (zQ x (by omega) W (bb.step (ae y Bl y.size))) ?_;rintro _ dm ⟨rfl,bp⟩;have R:=Gx x;refine⟨_,_,_,rfl,ck.new (zs:=sP.cells) (cs:=(dA x).1.cells) rfl (Pat.len R) (Pat.one _) dm λd6 ds d3 bw cv=>?_⟩;have c7:=ae bp cv bp.size;have bk:=ae G c7 G.size;have o7:=ac.below c7;refine⟨λE af=>bW ds af/\((E=0/\CK j out L[j]=.inl (out++[(dA x).1])/\out.length<12)\/(E≠0/\CK j out L[j]=.inr (E,(qL (bE 32 [] x) (dA x).2.2:Nat)))),?_,λE=>aP.of ?_ _⟩
 ·refine ab.of (λc5=>⟨Below.refl _ _,.inr ⟨by simpa using c5,by rw[H,if_pos (by simpa using c5)]⟩⟩) (λc5=>⟨_,ck.load0 bw (Pat.len R),?_⟩);have c5:(dA x).2.1=0:=by simpa using c5
  have dc:(dA x).2.2=0:=(PO x).resolve_left λh=>h c5;rw[if_neg (by rw[c5];decide)]at H;rw[dc,H7];refine aK (AM o7.all R) ?_;rintro _ d8 ⟨rfl,aj⟩;refine⟨_,rfl,ab.of (λc6=>⟨aj,.inr ⟨by decide,by rw[H,if_pos c6];rfl⟩⟩) (λc6=>?_)⟩;rw[if_neg (by rw[c6];decide)]at H;rw[o7.len];refine ab.of (λD=>⟨aj,.inr ⟨by decide,by rw[H,if_pos (Q4 (k:=12) D)];rfl⟩⟩) (λD=>⟨aj,.inl ⟨c5,?_,?_⟩⟩)
  ·have D:out.length≠12:=Nx (k:=12) D;rw[H,if_neg D]
  ·have D:out.length≠12:=Nx (k:=12) D;omega
 rintro af ⟨ag,b0⟩;have bl:=ae bk ag bk.size;have ad:=ae F bl F.size;refine ab.of (λa0=>?_) (λa0=>?_)
 ·have b1:E≠0:=by simpa using a0
  obtain⟨_,e⟩:=b0.resolve_left λh=>b1 h.1;refine aK (wD x (dA x).2.2 (by omega) (M0 x) af (bb.step (ae y ad y.size))) ?_;rintro _ d9 ⟨rfl,cb⟩;refine⟨_,rfl,bq (E,(j:Int)+1,_) ?_ b1 (ae ad cb ad.size)⟩;rw[a9,kw M e]
 ·have a8:E=0:=by simpa using a0
  obtain⟨_,e,d4⟩:=b0.resolve_right λh=>h.1 a8;obtain⟨dn,b8,dd,cd,dj,dr,b9,de,cf,dk,df,cl,cc⟩:=SC (o7.below ag) J bl R (by omega);exact⟨_,ck.load0 (bw.below ag) (Pat.len R),dn,b8,dd,cd,dj,dr,b9,de,cf,dk,next e (by simp;omega) df cl cc⟩
def zn (n:Nat):UInt8:=if n<10 then UInt8.ofNat (48+n)else UInt8.ofNat (55+n)
def fU (c:UInt8):lU:=if 33 <=c.toNat/\c.toNat <=126/\c≠37 then[c]else[37,zn (c.toNat/16),zn (c.toNat%16)]
def dh:lU->lU
 |[]=>[]
 |c::s=>fU c++dh s
def vn (s:lU):lU:=if s=[]then[37]else dh s
theorem zi:∀s t:lU,dh (s++t)=dh s++dh t
 |[],_=>rfl
 |c::s,t=>by rw[List.cons_append,dh,dh,zi s t,append_assoc]
theorem oE (s:lU)(c:UInt8):dh (s++[c])=dh s++fU c:=by
 rw[zi,dh,dh,append_nil]
theorem xu (c:UInt8):1 <=(fU c).length/\(fU c).length <=3:=by
 unfold fU;split<;>simp
theorem oB:∀s:lU,s.length <=(dh s).length/\(dh s).length <=3*s.length
 |[]=>⟨Nat.le_refl _,Nat.le_refl _⟩
 |c::s=>by
  have h1:=xu c;have y:=oB s;rw[dh,length_append,length_cons];omega
theorem N4 {p:UInt8->Prop}(h:∀n,n<256->p (UInt8.ofNat n))(c:UInt8):p c:=by
 have:=h c.toNat c.toNat_lt
 rwa [UInt8.ofNat_toNat]at this
theorem OZ:∀n,n<16->zn n≠37:=by decide
theorem Nt (c:UInt8):∃l x,fU c=l++[x]/\x≠37:=by
 unfold fU;split
 ·rename_i h;exact⟨[],c,rfl,h.2.2⟩
 ·exact⟨[37,zn (c.toNat/16)],zn (c.toNat%16),rfl,OZ _ (Nat.mod_lt _ (by decide))⟩
theorem Fk:∀s:lU,s≠[]->∃l x,dh s=l++[x]/\x≠37
 |[c],_=>by obtain⟨l,x,h,y⟩:=Nt c;exact⟨l,x,by rw[dh,dh,append_nil,h],y⟩
 |c::d::s,_=>by
  obtain⟨l,x,h,y⟩:=Fk (d::s) (by simp);exact⟨fU c++l,x,by rw[dh,h,append_assoc],y⟩
def Bj (c:UInt8):Nat:=if 48 <=c.toNat/\c.toNat <=57 then c.toNat-48 else if 65 <=c.toNat/\c.toNat <=70 then c.toNat-55 else 255
theorem EW:∀n,n<16->Bj (zn n)=n:=by decide
def Pf (a b:Nat):UInt8:=UInt8.ofNat ((a*16%256) ||| (b%16))
theorem RZ:∀n,n<256->Pf (n/16) (n%16)=UInt8.ofNat n:=by decide+kernel
def unD:lU->Option lU
 |[]=>some []
 |c::r=>if c=37 then match r with
  |a::b::r=>(unD r).map λt=>Pf (Bj a) (Bj b)::t
  |_=>none
  else(unD r).map λt=>c::t
theorem Hk (c:UInt8)(r:lU):unD (fU c++r)=(unD r).map λt=>c::t:=by
 unfold fU;split
 ·rename_i h;show unD (c::r)=_;rw[unD.eq_def];show(if c=37 then _ else _)=_;rw[if_neg h.2.2]
 ·show unD (37::zn (c.toNat/16)::zn (c.toNat%16)::r)=_;rw[unD,if_pos rfl];have y:=c.toNat_lt;rw[EW _ (by omega),EW _ (Nat.mod_lt _ (by decide)),RZ _ y,UInt8.ofNat_toNat]
theorem wG:∀s:lU,unD (dh s)=some s
 |[]=>by rw[dh,unD]
 |c::s=>by rw[dh,Hk,wG s];rfl
def zm (s:lU):lU:=if s.getLast?=some 37 then s.dropLast else s
def unP (s:lU):Option lU:=(unD (zm s)).filter λt=>vn t==s
theorem CQ (s t:lU):unP s=some t↔vn t=s:=by
 unfold unP;rw[Option.filter_eq_some_iff];refine⟨λh=>eq_of_beq h.2,λh=>⟨?_,by rw[h];exact beq_self_eq_true s⟩⟩;subst h;unfold vn;split
 ·rename_i h;subst h;rfl
 ·rename_i h;obtain⟨l,x,y,D⟩:=Fk t h;have:zm (dh t)=dh t:=by
   unfold zm;rw[if_neg (by rw[y,List.getLast?_concat];simpa using D)]
  rw[this,wG]
def unB (s:lU):Option (UInt8×lU):=((List.range 256).find? λn=>(fU (UInt8.ofNat n)).isPrefixOf s).map λn=>(UInt8.ofNat n,s.drop (fU (UInt8.ofNat n)).length)
theorem JG:∀c d r q,fU c++r=fU d++q->c=d/\r=q:=by
 intro c d r q h;have h1:=Hk c [];have E:=Hk d [];have F:fU c=fU d:=by
  by_cases D:33 <=c.toNat/\c.toNat <=126/\c≠37
  ·by_cases y:33 <=d.toNat/\d.toNat <=126/\d≠37
   ·rw[fU,if_pos D,fU,if_pos y]at h ⊢;simp at h;rw[h.1]
   ·rw[fU,if_pos D,fU,if_neg y]at h;simp at h;exact absurd h.1 D.2.2
  ·by_cases y:33 <=d.toNat/\d.toNat <=126/\d≠37
   ·rw[fU,if_neg D,fU,if_pos y]at h;simp at h;exact absurd h.1.symm y.2.2
   ·rw[fU,if_neg D,fU,if_neg y]at h ⊢;simp at h ⊢;exact⟨h.1,h.2.1⟩
 rw[F,E]at h1;have y:c=d:=by
  have:=h1;rw[unD]at this;simp at this;exact this.symm
 subst y;exact⟨rfl,List.append_cancel_left h⟩
theorem SQ (s:lU)(c:UInt8)(r:lU):unB s=some (c,r)↔s=fU c++r:=by
 unfold unB;constructor
 ·intro h;rw[Option.map_eq_some_iff]at h;obtain⟨n,F,e⟩:=h;have hp:=List.find?_some F;obtain⟨q,y⟩:=List.isPrefixOf_iff_prefix.1 hp;injection e with e1 e2
  subst e1;rw[<- y,List.drop_left]at e2;rw[<- y,e2]
 ·intro h;have E:c.toNat∈List.range 256:=List.mem_range.2 c.toNat_lt;have G:(fU (UInt8.ofNat c.toNat)).isPrefixOf s=true:=by
   rw[UInt8.ofNat_toNat];exact List.isPrefixOf_iff_prefix.2 ⟨r,h.symm⟩
  cases D:(List.range 256).find? λn=>(fU (UInt8.ofNat n)).isPrefixOf s with
  |none=>exact absurd G (by simpa using List.find?_eq_none.1 D _ E)
  |some n=>
   have hp:=List.find?_some D;obtain⟨q,y⟩:=List.isPrefixOf_iff_prefix.1 hp;have:=JG _ _ _ _ (y.trans h);rw[map_some,this.1];congr 2;rw[h,List.drop_left]
theorem QW {s t:lU}(h:dh s=dh t):s=t:=by
 have:=wG s;rw[h,wG t]at this;exact(Option.some.inj this).symm
theorem QX (h:dh s=[]):s=[]:=QW (s:=s) (t:=[]) h
theorem C3:∀(out t rest:lU),dh t=dh out++rest->∃u,t=out++u/\dh u=rest
 |[],t,rest,h=>⟨t,rfl,h⟩
 |c::out,[],rest,h=>by
  have:=(xu c).1;rw[dh,dh,append_assoc]at h;have y:=congrArg length h;rw[length_append]at y;simp at y;omega
 |c::out,d::t,rest,h=>by
  rw[dh,dh,append_assoc]at h;obtain⟨e,y⟩:=JG _ _ _ _ h;obtain⟨u,E,D⟩:=C3 out t rest y;exact⟨u,by rw[e,E];rfl,D⟩
theorem SR {s out rest:lU}(h:s=dh out++rest)(F:rest≠[])(G:s≠[37])(D:unB rest=none):unP s=none:=by
 cases hp:unP s with
 |none=>rfl
 |some t=>
  have y:=(CQ s t).1 hp;unfold vn at y;split at y
  ·exact absurd y.symm G
  ·obtain⟨u,H,E⟩:=C3 out t rest (y.trans h);cases u with
   |nil=>exact absurd E.symm F
   |cons c u=>
    rw[(SQ rest c (dh u)).2 (by rw[<- E];rfl)]at D;cases D
theorem VO (h:s=dh r):unP s=if r=[]then none else some r:=by
 split
 ·rename_i e;subst e;cases hp:unP s with
  |none=>rfl
  |some t=>
   have y:=(CQ s t).1 hp;rw[h]at y;unfold vn at y;split at y
   ·cases y
   ·rename_i D;exact absurd (QX y) D
 ·rename_i D;exact(CQ s r).2 (by rw[vn,if_neg D,h])
theorem XX:unP [37]=some []:=(CQ _ _).2 rfl
def MG {α:Type}(p:α->Bool)(xs:List α):Int:=match xs.findIdx? p with|some i=>(i:Int)|none=> -1
theorem Bo {p:o->Bool}{xs:List o}(h:xs.findIdx? p=some j):MG p xs=(j:Int):=by unfold MG;rw[h]
theorem Bn {p:o->Bool}{xs:List o}(h:xs.findIdx? p=none):MG p xs= -1:=by unfold MG;rw[h]
theorem Bm (p:o->Bool)(xs:List o):decide (MG p xs >=0)=xs.any p:=by
 cases h:xs.findIdx? p with
 |none=>
  rw[Bn h];rw[List.findIdx?_eq_none_iff]at h;rw[decide_eq_false (by decide),eq_comm,List.any_eq_false];exact λx D=>by rw[h x D];decide
 |some i=>
  rw[Bo h];obtain⟨y,hp,_⟩:=List.findIdx?_eq_some_iff_getElem.1 h
  try dsimp only
  rw[decide_eq_true (show(i:Int) >=0 by omega),eq_comm,List.any_eq_true];exact⟨_,getElem_mem y,hp⟩
theorem Ke (p:o->Bool)(xs:List o):MG p xs<xs.length:=by
 cases h:xs.findIdx? p with
 |none=>rw[Bn h];omega
 |some i=>
  rw[Bo h];obtain⟨y,_⟩:=List.findIdx?_eq_some_iff_getElem.1 h;omega
theorem RV (p:o->Bool)(xs:List o):(!xs.any p)=xs.all λx=> !p x:=by
 rw[Bool.eq_iff_iff];simp
def qF {α:Type}(p:α->Bool)(xs:List α)(w:World)(m:Nat)(i:Int)(w':World):Prop:=
 ∃j:Nat,i=(j:Int)/\m=xs.length-j/\j <=xs.length/\(∀t,t<j->∀h:t<xs.length,p xs[t]=false)/\bW w w'
theorem qF.start (p:o->Bool)(xs:List o)(w:World):∃m,qF p xs w m 0 w:=⟨_,0,rfl,rfl,Nat.zero_le _,λt h=>absurd h (Nat.not_lt_zero _),Below.refl _ _⟩
theorem qF.go {p:o->Bool}{xs:List o}{i:Int}(h:qF p xs w m i u)(F:xs.length <=9223372036854775807):
 (∃(j:Nat) (J:j<xs.length),i=(j:Int)/\bW w u/\decide (i<((xs.length:Nat):Int))=true/\(0 <=i/\i<((xs.length:Nat):Int))/\(p xs[j]=true->MG p xs=i)/\
  (p xs[j]=false->∀w',bW w w'->∃H,H<m/\qF p xs w H (i64.wrap (i+1)) w'))\/
 (decide (i<((xs.length:Nat):Int))=false/\MG p xs= -1/\bW w u):=by
 obtain⟨j,rfl,rfl,J,D,B⟩:=h;by_cases G:j<xs.length
 ·refine .inl ⟨j,G,rfl,B,decide_eq_true (by omega),⟨by omega,by omega⟩,λhp=>?_,λhp w' I=>⟨xs.length-(j+1),by omega,j+1,by rw[wrJ];omega,rfl,by omega,λt y F=>?_,I⟩⟩
  ·exact Bo (List.findIdx?_eq_some_iff_getElem.2 ⟨G,hp,λt y=>by rw[D t y (by omega)];decide⟩)
  ·rcases Nat.lt_or_ge t j with E|E
   ·exact D t E F
   ·obtain rfl:t=j:=by omega
    exact hp
 ·refine .inr ⟨decide_eq_false (by omega),Bn (List.findIdx?_eq_none_iff.2 λx M=>?_),B⟩;obtain⟨t,y,rfl⟩:=List.getElem_of_mem M;exact D t (by omega) y
structure Cho where
 name:lU
 vals:List lU
structure Tpl where
 name:lU
 url:Url
 text:lU
 line:Int
def Tpl.tail (t:Tpl):List Value:=[vS t.text,vI t.line]
def Tpl.cells (t:Tpl):List Value:=vS t.name::(t.url.cells++t.tail)
def Tpl.v (t:Tpl):Value:=.agg t.cells.toArray
def Tpl.ok (t:Tpl):Prop:=t.url.ok
theorem Tpl.len {t:Tpl}(o:t.ok):t.cells.length=24:=by unfold Tpl.cells;rw[length_cons,length_append,Url.len o];rfl
theorem Tpl.one (t:Tpl):zR t.cells:=bz rfl (Gw (Url.one _) (bz rfl (bz rfl ja)))
theorem CL {t:Tpl}(o:t.ok)(h:j<21):t.cells[1+j]? =t.url.cells[j]? :=by
 unfold Tpl.cells;rw[Nat.add_comm,List.getElem?_cons_succ,List.getElem?_append_left (by rw[Url.len o];exact h)]
theorem Hj {t:Tpl}(o:t.ok)(j:Nat):t.cells[22+j]? =t.tail[j]? :=by
 unfold Tpl.cells;rw[show 22+j=(21+j)+1 by omega,List.getElem?_cons_succ,List.getElem?_append_right (by rw[Url.len o];omega),Url.len o];congr 1;omega
def kl:Ty Tpl where
 k:=24
 pos:=by decide
 rep:=λ_ _ vs o=>vs=o.cells/\o.ok
 len:=λh=>by rw[h.1];exact Tpl.len h.2
 one:=fun{_ _ _ x} h v hv=>by rw[h.1]at hv;exact Tpl.one x v hv
 keep:=λh _=>h
 mono:=λh _=>h
theorem zW:Flat kl:=λ_ _ _ _ _ _ h=>h
def vq:Ty Cho where
 k:=2
 pos:=by decide
 rep:=λw A vs o=>∃(a:Option Addr) (n c:Nat),vs=[vS o.name,.slice a n c]/\Sl tS w A a n c o.vals
 len:=λ⟨_,_,_,h,_⟩=>by rw[h];rfl
 one:=λ⟨_,_,_,h,_⟩ v hv=>by rw[h]at hv;simp at hv;rcases hv with rfl|rfl<;>rfl
 keep:=λ⟨a,n,c,h,hs⟩ hk=>⟨a,n,c,h,hs.keep hk⟩
 mono:=λ⟨a,n,c,h,hs⟩ ha=>⟨a,n,c,h,hs.mono ha⟩
def Lx (c:UInt8):Bool:=(decide (97 <=c.toNat)&&decide (c.toNat <=122)) || (decide (48 <=c.toNat)&&decide (c.toNat <=57))
def nmB (s:lU):Bool:= !(s==[])&&(decide (s.length <=20)&&s.all Lx)
def atC (l:List Cho)(k:lU):Int:=MG (λc=>c.name==k) l
abbrev Prt:=lU×Int
def xV (l:List Cho):Nat->lU->Option (List Prt)
 |0,_=>some []
 |k+1,s=>if s=[]then some []else
  if(123:UInt8)∈s then
   let rest:=(s.dropWhile (· !=123)).drop 1;let key:=rest.takeWhile (· !=125)
   if(125:UInt8)∈rest/\nmB key=true/\0 <=atC l key then(xV l k ((rest.dropWhile (· !=125)).drop 1)).map λr=>(s.takeWhile (· !=123),-1)::([],atC l key)::r
   else none
  else some [(s,-1)]
def Db (l:List Cho)(s:lU):Option (List Prt):=xV l s.length s
def dF (c:UInt8)(s:lU):lU:=(s.dropWhile (· !=c)).drop 1
theorem fh (c:UInt8)(s:lU):(dF c s).length <=s.length-1:=by
 unfold dF;rw[length_drop];have:=(List.dropWhile_sublist (· !=c) (l:=s)).length_le;omega
theorem sQ (l:List Cho):∀k,xV l k []=some []
 |0=>rfl
 |k+1=>by unfold xV;rw[if_pos rfl]
theorem BH (l:List Cho):∀(k:Nat) (s:lU) (m:Nat),s.length <=k->s.length <=m->xV l k s=xV l m s
 |0,s,m,y,D=>by
  obtain rfl:s=[]:=List.eq_nil_of_length_eq_zero (by omega);rw[sQ,sQ]
 |k+1,s,0,y,D=>by
  obtain rfl:s=[]:=List.eq_nil_of_length_eq_zero (by omega);rw[sQ,sQ]
 |k+1,s,m+1,y,D=>by
  unfold xV;have h1:=fh 123 s;have F:=fh 125 (dF 123 s);have E:=BH l k (dF 125 (dF 123 s)) m (by omega) (by omega);unfold dF at E;simp only[E]
theorem Sy (l:List Cho):Db l []=some []:=rfl
theorem M4 {l:List Cho}(h:s≠[])(y:(123:UInt8)∉s):Db l s=some [(s,-1)]:=by
 unfold Db;obtain⟨k,D⟩:∃k,s.length=k+1:=⟨s.length-1,by have:=List.length_pos_iff.2 h;omega⟩
 rw[D];unfold xV;rw[if_neg h,if_neg y]
def TA (l:List Cho)(s:lU):Prop:=(125:UInt8)∈dF 123 s/\nmB ((dF 123 s).takeWhile (· !=125))=true/\0 <=atC l ((dF 123 s).takeWhile (· !=125))
theorem Sw {l:List Cho}(h:s≠[])(y:(123:UInt8)∈s)(D: ¬ TA l s):Db l s=none:=by
 unfold Db;obtain⟨k,E⟩:∃k,s.length=k+1:=⟨s.length-1,by have:=List.length_pos_iff.2 h;omega⟩
 rw[E];unfold xV;rw[if_neg h,if_pos y];exact if_neg D
theorem P2 {l:List Cho}(h:s≠[])(D:(123:UInt8)∈s)(E:TA l s):
 Db l s=(Db l (dF 125 (dF 123 s))).map λr=>(s.takeWhile (· !=123),-1)::([],atC l ((dF 123 s).takeWhile (· !=125)))::r:=by
 unfold Db;obtain⟨k,F⟩:∃k,s.length=k+1:=⟨s.length-1,by have:=List.length_pos_iff.2 h;omega⟩
 have G:=fh 123 s;have H:=fh 125 (dF 123 s);rw[BH l (dF 125 (dF 123 s)).length (dF 125 (dF 123 s)) k (Nat.le_refl _) (by omega),F]
 conv=>lhs;unfold xV
 rw[if_neg h,if_pos D];have y:=E;unfold TA dF at y;show ite _ _ _=_;rw[if_pos y];rfl
theorem Kj {α:Type}(o:Option (List α))(a b:List α):(o.map λr=>b++r).map (λr=>a++r)=o.map λr=>(a++b)++r:=by
 cases o
 ·rfl
 ·simp
def yx (ps:List Prt):List Int:=ps.foldl (λout p=>if 0 <=p.2/\p.2∉out then out++[p.2]else out) []
def dR (l:List Cho)(i:Int):List lU:=(l[i.toNat]?.map Cho.vals).getD []
def M8 (l:List Cho):List Int->Int->Int
 |[],n=>n
 |i::r,n=>if 24<n*((dR l i).length:Nat)then n*((dR l i).length:Nat)else M8 l r (n*((dR l i).length:Nat))
def Ja (l:List Cho)(us:List Int):Int:=M8 l us 1
def ql (vs:List lU):Nat:=vs.foldl (λm v=>max m v.length) 0
def IH (l:List Cho):List Prt->Int->Int
 |[],n=>n
 |p::r,n=>if p.2<0 then IH l r (n+(p.1.length:Nat))else
  if 2000<n+(p.1.length:Nat)+(ql (dR l p.2):Nat)then n+(p.1.length:Nat)+(ql (dR l p.2):Nat)else IH l r (n+(p.1.length:Nat)+(ql (dR l p.2):Nat))
def II (l:List Cho)(ps:List Prt):Int:=IH l ps 0
def zl:Nat->List lU->List lU->List lU ⊕ (Int×Nat)
 |_,[],vs=>.inl vs
 |i,x::r,vs=>match unP x with
  |none=>.inr (131,i)
  |some s=>if s∈vs then .inr (52,i)else if vs.length=6 then .inr (53,i)else zl (i+1) r (vs++[s])
def xH (L:List lU)(cs:List Cho):Cho ⊕ (Int×Nat):=
 if nmB (L.getD 1 [])=false then .inr (221,1)
 else if(cs.any λc=>c.name==L.getD 1 [])=true then .inr (52,1)
 else match zl 2 (L.drop 2) []with
  |.inr e=>.inr e
  |.inl vs=>if cs.length=6 then .inr (53,0)else .inl ⟨L.getD 1 [],vs⟩
def wF (L:List lU)(ln:Int)(ts:List Tpl)(cs:List Cho):Tpl ⊕ (Int×Nat):=
 if nmB (L.getD 1 [])=false then .inr (221,1)
 else if(ts.any λt=>t.name==L.getD 1 [])=true then .inr (52,1)
 else if(vi (L.getD 2 [])).2≠0 then .inr ((vi (L.getD 2 [])).2,2)
 else match unP (L.getD 3 [])with
  |none=>.inr (131,3)
  |some s=>match Db cs s with
   |none=>.inr (222,3)
   |some ps=>if 24<Ja cs (yx ps)then .inr (53,3)else if 2000<II cs ps then .inr (54,3)else if ts.length=8 then .inr (53,0)
    else .inl ⟨L.getD 1 [],(vi (L.getD 2 [])).1,s,ln⟩
abbrev pQ:lU:=[99,104,111,105,99,101]
abbrev vm:lU:=[99,111,111,107,105,101]
def rdV (L:List lU)(ln:Int)(st:List Tpl×List Cho):(List Tpl×List Cho) ⊕ (Int×Nat):=
 if[]∈L then .inr (131,0)
 else if L.head?=some pQ/\2<L.length then(match xH L st.2 with|.inr e=>.inr e|.inl c=>.inl (st.1,st.2++[c]))
 else if L.head?=some vm/\L.length=4 then(match wF L ln st.1 st.2 with|.inr e=>.inr e|.inl t=>.inl (st.1++[t],st.2))
 else .inr (131,0)
def Hh (i:Nat)(st:List Tpl×List Cho)(x:lU):(List Tpl×List Cho) ⊕ (Int×Int):=
 if x=[]\/x.head?=some 35 then .inl st
 else match rdV (bE 32 [] x) ((i:Int)+1) st with
  |.inl st'=>.inl st'
  |.inr (e,k)=>.inr (e,(qL (bE 32 [] x) k:Nat))
def oc (s:lU):(List Tpl×List Cho) ⊕ Flt:=FM Hh ([],[]) s
end Go.Pk
