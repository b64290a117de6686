/- What the laws lean on: V11, DocF, JarF, DocG, DocH, JarA, JarB, JarC, JarD, JarE, JarG, ScrR, ScrI, OpX, V27; what is used. Its conditions: none. -/
import Derived.Test.YtikdahhdhchlfaaGreatDoorRO
set_option linter.unusedVariables false
set_option linter.unusedSimpArgs false
set_option linter.unusedSectionVars false
set_option maxRecDepth 100000
open List (append_assoc cons_append drop_eq_getElem_cons filter_cons foldl_append getElem_map getElem_mem length length_append length_cons length_drop length_map length_nil length_take map_append mem_cons_of_mem mem_cons_self mem_of_mem_take mem_singleton take_length take_succ_eq_append_getElem take_take)
variable {n m i j k:Nat}{w u v:Go.World}{t:Go.TypeId}{p:Option Go.Addr}{A:Go.Pk.Bl}{L:List Go.Pk.Kpt}{a:Int}{h:List Go.Pk.Pth}{y:List (Go.Pk.jZ×Int)}{z:List (List Bool)}{c:Go.Pk.Cky}
open Go.IntKind (i64)
open Go.Proofs.Tryz
open List (length)
open Option (isSome)
namespace Go.Pk
open Go.RowKit (Below)
open Go.Proofs
theorem NU (a:Option Addr){w K}(h:uP qk #[] w λb c=>nA c (.cells #[vI 0,.pointer a,.pointer b] kC) λd e=>K (.pointer (vA d 0)) e):Cf Ea #[.pointer a] w (Ret K):=ru func23 [] h
theorem EQ (a:Option Addr)(b:Value)(c:lU){w K}(h:nA w (.cells (Value.cells b) bf) λd e=>∃f,Ld bf (vA d 0) e f/\uB mG #[f] e λg i=>af (!g) (K (vI 41) i) (Cf ki #[vS c] i λj k=>∃l m n o p q r s t u v x,j=rT #[(hV l m n o p q r s t u v),vI x]/\nA k (.cells #[vS [],vS [],vS [],vS [],.bool false,vI 0,.bool false,vI 0,.bool false,.bool false,vI 0] aq) λy z=>∃A,Sv aq (vA y 0) (hV l m n o p q r s t u v) z A/\af (x !=0) (K (vI x) A) ((Option.isSome a=true)/\(Option.isSome a=true)/\(Option.isSome a=true)/\(Option.isSome a=true)/\(isSome (Option.map (λB=>B.add 0) a))/\∃B,(∀C,bW A C->Ld kU (Option.map (λD=>D.add 1) a) C (.pointer B))/\∃C,(∀D,bW A D->Ld bf (vA d 0) D C)/\∃D E F G H I J L M N O,(∀P,bW A P->Ld aq (vA y 0) P (hV D E F G H I J L M N O))/\∃P,(∀Q,bW A Q->Ld bg (Option.map (λR=>R.add 0) (Option.map (λR=>R.add 0) a)) Q (vI P))/\∃Q R,(∀S,bW A S->Cf nv #[.pointer B,C,(hV D E F G H I J L M N O),vI P] S λT U=>T=rT #[Q,vI R]/\bW S U)/\∀S,A.heap.size <=S->∀T,bW A T->T.heap[S]? =some (.cells bz ah)->∃U,Sv ah (vA S 0) Q T U/\af (R !=0) (K (vI R) U) (∃V:FP [],(true/\∃X,Ld bF (vA d 0) U (.bool X)/\af (!X) (∃Y,Ld ah (vA S 0) U Y/\uB jw #[.pointer a,Y] U λZ ac=>af Z (K (vI 121) ac) (V ac)) (V U))/\aQ 9 (∀X,V X->∃Y,Ld ah (vA S 0) X Y/\uS om #[.pointer a,Y] X λZ ac=>(Option.isSome a=true)/\(Option.isSome a=true)/\∃ad,(∀ag,bW ac ag->Ld bP (Option.map (λaj=>aj.add 2) a) ag (.pointer ad))/\∃ag,(∀aj,bW ac aj->Ld ah (vA S 0) aj ag)/\∀aj,bW ac aj->uB j8 #[.pointer ad,ag,vS Z] aj λal an=>(Option.isSome a=true)/\(Option.isSome a=true)/\(Option.isSome a=true)/\(Option.isSome a=true)/\(isSome (Option.map (λar=>ar.add 0) a))/\∃ar,(∀bb,bW an bb->Ld bP (Option.map (λbc=>bc.add 2) a) bb (.pointer ar))/\∃bb,(∀bc,bW an bc->Ld bg (Option.map (λbd=>bd.add 0) (Option.map (λbd=>bd.add 0) a)) bc (vI bb))/\∀bc,bW an bc->uI fw #[.pointer ar,vI bb] bc λbd bj=>uU pO #[.pointer a,vS Z] bj λbk=>K (vI 0) bk))))):Cf pN #[.pointer a,b,vS c] w (Ret K):=ru func25 [(3000021,[(0,shB),(1,shB),(2,shB),(6,shB),(7,shB),(8,shB),(9,shB),(3,shB),(4,shB),(5,shB),(10,shB),(11,shB),(12,shB),(13,shB),(14,shB),(15,shB)]),(30,[]),(1000041,[]),(3000041,[(0,shB),(1,shB),(2,shB),(5,shB),(3,shB),(4,shB)]),(1000043,[]),(3000043,[(0,shB),(1,shB),(2,shB),(4,shB),(5,shB),(6,shB),(7,shB),(3,shB),(8,shB)])] h
theorem EP (a:Option Addr)(b:Value){w K}(h:nA w (.cells #[.pointer a] fe) λc d=>nA d (.cells (Value.cells b) aX) λe f=>∃g,Ld fe (vA c 0) f (.pointer g)/\(Option.isSome g=true)/\(Option.isSome g=true)/\∃i,Ld bP (Option.map (λj=>j.add 2) g) f (.pointer i)/\uL j6 #[.pointer i] f λj k l m=>uL cG #[.slice j k l,.func (.func cw) #[] #[.pointer (vA e 0),.pointer (vA c 0)]] m λn o p q=>uU dU #[.slice n o p,.func (.func iL) #[] #[]] q λr=>∃s:Nat->FP [.one .slice,shI],(∃t,s t none 0 0 (0:Int) r)/\∀t u v x y,aQ 21 (∀z,s t u v x y z->af (decide (y<(o:Int))) ((bx y (o:Int)/\Option.isSome n=true)/\∃A,Ld ah (av n y 29) z A/\nA z (.cells bz ah) λB C=>∃D,Sv ah (vA B 0) A C D/\∃E,(∀F,bW D F->Ld fe (vA c 0) F (.pointer E))/\(Option.isSome E=true)/\(Option.isSome E=true)/\∃F,(∀G,bW D G->Ld bP (Option.map (λH=>H.add 2) E) G (.pointer F))/\∃G,(∀H,bW D H->Ld ah (vA B 0) H G)/\∃H,(∀I,bW D I->Ld fe (vA c 0) I (.pointer H))/\(Option.isSome H=true)/\(Option.isSome H=true)/\(isSome (Option.map (λI=>I.add 0) H))/\∃I,(∀J,bW D J->Ld bg (Option.map (λL=>L.add 0) (Option.map (λL=>L.add 0) H)) J (vI I))/\∀J,bW D J->uB j9 #[.pointer F,G,vI I] J λL M=>∃N,Ld ah (vA B 0) M N/\uS zY #[N] M λO P=>nA P (.cells #[vS O] ak) λQ R=>∃S T U V,(Builtin.append_ #[aO,aO] aO #[.slice u v x,.slice (vA Q 0) 1 1]).run prog R=.ok (.slice T U V) S/\∃X:Nat,X<t/\s X T U V (i64.wrap (y+1)) S) (uS dq #[.slice u v x,vS [59,32]] z λA B=>K (vS A) B))):Cf pL #[.pointer a,b] w (Ret K):=ru func27 [(12,[(6,.one .slice),(20,shI)]),(1000024,[]),(3000024,[(0,shB),(1,shB),(2,shB),(3,shB),(4,shB),(5,shB),(6,shB),(7,shB),(8,shB),(9,shB)])] h
theorem Cu (a:Option Addr)(b:Int){w K}(h:∃c:FP [],(af (decide (b<(0:Int))) (K (vI 122) w) ((Option.isSome a=true)/\(Option.isSome a=true)/\(isSome (Option.map (λd=>d.add 0) a))/\∃d,Ld bg (Option.map (λe=>e.add 0) (Option.map (λe=>e.add 0) a)) w (vI d)/\af (decide (b>(i64.wrap ((1099511627776:Int)-d)))) (K (vI 122) w) (c w)))/\aQ 13 (∀d,c d->(Option.isSome a=true)/\(Option.isSome a=true)/\(isSome (Option.map (λe=>e.add 0) a))/\∃e,Ld bg (Option.map (λf=>f.add 0) (Option.map (λf=>f.add 0) a)) d (vI e)/\(Option.isSome a=true)/\(Option.isSome a=true)/\(isSome (Option.map (λf=>f.add 0) a))/\∃f,Sv bg (Option.map (λg=>g.add 0) (Option.map (λg=>g.add 0) a)) (vI (i64.wrap (e+b))) d f/\(Option.isSome a=true)/\(Option.isSome a=true)/\(Option.isSome a=true)/\(Option.isSome a=true)/\(isSome (Option.map (λg=>g.add 0) a))/\∃g,(∀i,bW f i->Ld bP (Option.map (λj=>j.add 2) a) i (.pointer g))/\∃i,(∀j,bW f j->Ld bg (Option.map (λk=>k.add 0) (Option.map (λk=>k.add 0) a)) j (vI i))/\∀j,bW f j->uI fw #[.pointer g,vI i] j λk l=>K (vI 0) l)):Cf oa #[.pointer a,vI b] w (Ret K):=ru func28 [(2,[]),(1000013,[]),(3000013,[(0,shB),(1,shB),(2,shB),(4,shB),(5,shB),(6,shB),(7,shB),(3,shB),(8,shB)])] h
theorem Ar (a:Option Addr){w K}(h:uP qk #[] w λb c=>(Option.isSome a=true)/\(Option.isSome a=true)/\∃d,Sv bP (Option.map (λe=>e.add 2) a) (.pointer b) c d/\K (.tuple #[]) d):Cf mz #[.pointer a] w (Ret K):=ru func29 [] h
theorem uG (a:Option Addr)(b:Value){w K}(h:nA w (.cells (Value.cells b) ah) λc d=>(Option.isSome a=true)/\(Option.isSome a=true)/\∃e,Ld bP (Option.map (λf=>f.add 2) a) d (.pointer e)/\uL j6 #[.pointer e] d λf g i j=>uB cC #[.slice f g i,.func (.func bH) #[] #[.pointer (vA c 0)]] j λk l=>K (.bool k) l):Cf jw #[.pointer a,b] w (Ret K):=ru func62 [] h
theorem Cv (a:Option Addr)(b:Value){w K}(h:nA w (.cells (Value.cells b) ah) λc d=>(Option.isSome a=true)/\(Option.isSome a=true)/\∃e,(∀f,bW d f->Ld kU (Option.map (λg=>g.add 1) a) f (.pointer e))/\true/\∃f,(∀g,bW d g->Ld ai (vA c 2) g f)/\∃g,(∀i,bW d i->Cf iT #[.pointer e,f] i λj k=>j=.returned (vS g)/\Below d.heap.size i k)/\∀i,bW d i->af (!(g==[])) (K (vS g) i) (true/\∃j,Ld ai (vA c 2) i j/\uS my #[j] i λk l=>K (vS k) l)):Cf om #[.pointer a,b] w (Ret K):=ru func63 [] h
theorem ER (a:Option Addr)(b:lU){w K}(h:∃c:Nat->FP [],(∃d,c d w)/\∀d,aQ 24 (∀e,c d e->(Option.isSome a=true)/\(Option.isSome a=true)/\∃f,Ld bP (Option.map (λg=>g.add 2) a) e (.pointer f)/\uI iS #[.pointer f,vS b] e λg i=>af (decide (g>(50:Int))) ((Option.isSome a=true)/\(Option.isSome a=true)/\∃j,Ld bP (Option.map (λk=>k.add 2) a) i (.pointer j)/\Cf iy #[.pointer j,vS b] i λk l=>∃m n,k=rT #[m,.bool n]/\nA l (.cells bz ah) λo p=>∃q,Sv ah (vA o 0) m p q/\(Option.isSome a=true)/\(Option.isSome a=true)/\∃r,(∀s,bW q s->Ld bP (Option.map (λt=>t.add 2) a) s (.pointer r))/\∃s,(∀t,bW q t->Ld ah (vA o 0) t s)/\∀t,bW q t->uB dZ #[.pointer r,s] t λu v=>∃x:Nat,x<d/\c x v) (∃j:Nat->FP [],(∃k,j k i)/\∀k,aQ 22 (∀l,j k l->(Option.isSome a=true)/\(Option.isSome a=true)/\∃m,Ld bP (Option.map (λn=>n.add 2) a) l (.pointer m)/\uI j7 #[.pointer m] l λn o=>af (decide (n>(3000:Int))) ((Option.isSome a=true)/\(Option.isSome a=true)/\∃p,Ld bP (Option.map (λq=>q.add 2) a) o (.pointer p)/\Cf fi #[.pointer p] o λq r=>∃s t,q=rT #[s,.bool t]/\nA r (.cells bz ah) λu v=>∃x,Sv ah (vA u 0) s v x/\(Option.isSome a=true)/\(Option.isSome a=true)/\∃y,(∀z,bW x z->Ld bP (Option.map (λA=>A.add 2) a) z (.pointer y))/\∃z,(∀A,bW x A->Ld ah (vA u 0) A z)/\∀A,bW x A->uB dZ #[.pointer y,z] A λB C=>∃D:Nat,D<k/\j D C) (K (.tuple #[]) o))))):Cf pO #[.pointer a,vS b] w (Ret K):=ru func66 [(2,[]),(1000012,[]),(3000012,[(0,shB),(1,shB),(2,shB),(3,shB),(4,shB)]),(14,[]),(1000024,[]),(3000024,[(0,shB),(1,shB),(2,shB),(3,shB),(4,shB)])] h
theorem yy (a:Value)(b c:Option Addr){w K}(h:nA w (.cells (Value.cells a) ah) λd e=>∃f,(∀g,bW e g->Ld ah (vA d 0) g f)/\∃g,(∀i,bW e i->Ld aX b i g)/\∃i,(∀j,bW e j->Ld fe c j (.pointer i))/\(Option.isSome i=true)/\(Option.isSome i=true)/\(isSome (Option.map (λj=>j.add 0) i))/\∃j,(∀k,bW e k->Ld bg (Option.map (λl=>l.add 0) (Option.map (λl=>l.add 0) i)) k (vI j))/\∃k,(∀l,bW e l->Cf pT #[f,g,vI j] l λm n=>m=.returned (.bool k)/\Below e.heap.size l n)/\∀l,bW e l->K (.bool (!k)) l):Cf cw #[a,.pointer b,.pointer c] w (Ret K):=ru func69 [] h
theorem yz (a b:Value){w K}(h:nA w (.cells (Value.cells a) ah) λc d=>nA d (.cells (Value.cells b) ah) λe f=>∃g,Ld ah (vA c 0) f g/\∃i,Ld ah (vA e 0) f i/\uB pR #[g,i] f λj k=>af j (K (vI (-1)) k) (K (vI 1) k)):Cf iL #[a,b] w (Ret K):=ru func72 [] h
theorem Mb (a:Value){w K}(h:nA w (.cells (Value.cells a) ah) λb c=>true/\∃d,Ld ak (vA b 0) c (vS d)/\af (d==[]) (true/\∃e,Ld ak (vA b 1) c (vS e)/\K (vS e) c) (true/\∃e,Ld ak (vA b 0) c (vS e)/\(((length e+length [61]:Nat):Int) <=i64.max)/\∀f,f=(e++[61])->true/\∃g,Ld ak (vA b 1) c (vS g)/\(((length f+length g:Nat):Int) <=i64.max)/\∀i,i=(f++g)->K (vS i) c)):Cf zY #[a] w (Ret K):=ru func75 [] h
theorem qy (a:Value)(b:Option Addr){w K}(h:nA w (.cells (Value.cells a) ah) λc d=>∃e:FP [shB],(true/\∃f,Ld ai (vA c 2) d f/\(Option.isSome b=true)/\∃g,Ld ai (Option.map (λi=>i.add 2) b) d g/\uB gq #[f,g] d λi j=>af i (e true j) ((Option.isSome b=true)/\∃k,Ld ai (Option.map (λl=>l.add 2) b) j k/\true/\∃l,Ld ai (vA c 2) j l/\uB gq #[k,l] j λm n=>e m n))/\∀f,aQ 12 (∀g,e f g->true/\∃i,Ld bF (vA c 22) g (.bool i)/\af i (true/\∃j,Ld ak (vA c 0) g (vS j)/\(Option.isSome b=true)/\∃k,Ld ak (Option.map (λl=>l.add 0) b) g (vS k)/\af (j==k) (af f ((Option.isSome b=true)/\∃l,Ld ak (Option.map (λm=>m.add 21) b) g (vS l)/\true/\∃m,Ld ak (vA c 21) g (vS m)/\uB iZ #[vS l,vS m] g λn o=>K (.bool n) o) (K (.bool false) g)) (K (.bool false) g)) (K (.bool false) g))):Cf bH #[a,.pointer b] w (Ret K):=ru func124 [(2,[(4,shB)])] h
theorem dj (a:Option Addr)(b c:Nat)(d:Option Addr){w K}(h:uI bv #[.slice a b c,.func (.func bH) #[] #[.pointer d]] w λe f=>K (.bool (decide (e >=0))) f):Cf cC #[.slice a b c,.func (.func bH) #[] #[.pointer d]] w (Ret K):=ru func123 [] h
theorem dB (a:Option Addr)(b c:Nat)(d:Option Addr){w K}(h:∃e:Nat->FP [shI],(∃f,e f (0:Int) w)/\∀f g,aQ 12 (∀i,e f g i->af (decide (g<(b:Int))) ((bx g (b:Int)/\Option.isSome a=true)/\∃j,Ld ah (av a g 29) i j/\uB bH #[j,.pointer d] i λk l=>af k (K (vI g) l) (∃m:Nat,m<f/\e m (i64.wrap (g+1)) l)) (K (vI (-1)) i))):Cf bv #[.slice a b c,.func (.func bH) #[] #[.pointer d]] w (Ret K):=ru func134 [(6,[(8,shI)])] h
theorem dP (a:Option Addr)(b c:Nat)(d e:Option Addr){w K}(h:uI bv #[.slice a b c,.func (.func cw) #[] #[.pointer d,.pointer e]] w λf g=>af (f==(-1:Int)) (K (.slice a b c) g) (∃i:Nat->FP [shI,shI],(∃j,i j f (i64.wrap (f+1)) g)/\∀j k l,aQ 21 (∀m,i j k l m->af (decide (l<(b:Int))) ((bx l (b:Int)/\Option.isSome a=true)/\∃n,Ld ah (av a l 29) m n/\nA m (.cells bz ah) λo p=>∃q,Sv ah (vA o 0) n p q/\∃r,Ld ah (vA o 0) q r/\uB cw #[r,.pointer d,.pointer e] q λs t=>af (!s) (∃u,Ld ah (vA o 0) t u/\(bx k (b:Int)/\Option.isSome a=true)/\∃v,Sv ah (av a k 29) u t v/\∃x:Nat,x<j/\i x (i64.wrap (k+1)) (i64.wrap (l+1)) v) (∃u:Nat,u<j/\i u k (i64.wrap (l+1)) t)) (bd k (b:Int)/\∃n,(Builtin.clear_ #[aP] kF #[.slice (bw a c (Int.toNat k) 29) (b-(Int.toNat k)) (c-(Int.toNat k))]).run prog m=.ok (.tuple #[]) n/\bd k (c:Int)/\K (.slice a (Int.toNat k) c) n)))):Cf cG #[.slice a b c,.func (.func cw) #[] #[.pointer d,.pointer e]] w (Ret K):=ru func67 [(16,[(5,shI),(6,shI)])] h
theorem dV (a:Option Addr)(b c:Nat)(d e:Option Addr){w K}(h:∃f:Nat->FP [shI],(∃g,f g (0:Int) w)/\∀g i,aQ 12 (∀j,f g i j->af (decide (i<(b:Int))) ((bx i (b:Int)/\Option.isSome a=true)/\∃k,Ld ah (av a i 29) j k/\uB cw #[k,.pointer d,.pointer e] j λl m=>af l (K (vI i) m) (∃n:Nat,n<g/\f n (i64.wrap (i+1)) m)) (K (vI (-1)) j))):Cf bv #[.slice a b c,.func (.func cw) #[] #[.pointer d,.pointer e]] w (Ret K):=ru func134 [(6,[(8,shI)])] h
def TX (A:Bl)(w ws:World):Bl:=λb=>(A b/\b<w.heap.size)\/ws.heap.size <=b
theorem Sl.newB {α:Type}{T:Ty α}{a:Option Addr}{n c:Nat}{xs:List α}(h:Sl T w A a n c xs)(e:bW w u):Sl T u (TX A w u) a n c xs:=
 (h.old.below e).mono λb _ e=>.inl e
theorem so (h:u.heap.size <=v.heap.size):∀b,Gp (TX A w u) v b->TX A w u b:=λb e=>e.elim id λh1=>.inr (Nat.le_trans h h1)
theorem JR (h:w.heap.size <=u.heap.size):∀b,TX A w u b->Gp A w b:=λb e=>e.elim (λh1=>.inl h1.1) λh1=>.inr (Nat.le_trans h h1)
theorem yf (h1:w.heap.size <=k)(e:k<u.heap.size): ¬ TX A w u k:=λh=>h.elim (λh=>by have:=h.2;omega) λh=>by omega
theorem Pg:∀(l:List lU) (x:lU),Dh (l++[x])=if l=[]then x else Dh l++[59,32]++x
 |[],x=>rfl
 |[y],x=>rfl
 |y::z::r,x=>by
  have:=Pg (z::r) x;rw[if_neg (by simp)]at this;rw[if_neg (by simp)];show y++[59,32]++Dh (z::r++[x])=y++[59,32]++Dh (z::r)++[59,32]++x;rw[this];simp
theorem Ts {B:Nat} :∀l:List lU,(∀x∈l,x.length <=B)->(Dh l).length <=l.length*(B+2)
 |[],_=>by simp[Dh]
 |[x],h=>by
  have:=h x (mem_cons_self ..);simp only[Dh,length_cons,length_nil];omega
 |x::y::r,h=>by
  have h1:=h x (mem_cons_self ..);have q:=Ts (y::r) λz e=>h z (mem_cons_of_mem _ e);show(x++[59,32]++Dh (y::r)).length <=((y::r).length+1)*(B+2);rw[length_append,length_append,Nat.succ_mul];have:([59,32]:lU).length=2:=rfl;omega
def XX (l:List lU):lU:=if l=[]then[]else Dh l++[59,32]
theorem Vi (l:List lU)(x:lU):Dh (l++[x])=XX l++x:=by
 rw[Pg];unfold XX;split<;>simp
theorem L4 {V H:Nat}{a:Option Addr}{l c:Nat}{s:JS}(b8:Sl rj w A a l c s.L)(U:JI s m)(c7:m <=100000){r:Req}(or:r.ok)(ds:r.host.name.length <=1000000)(dw:r.path.length <=1000000):
 Cf wQ #[.agg #[.slice p V H,.slice a l c,vI s.last,vI s.now],r.v] w (Ret (JaP A p V H (OK s r).1 (.string (mkS (OK s r).2)) w)):=by
 apply Ks;intro Z dx b1 ca cf d0 b2 cb k4 q b3 cc;obtain⟨d3,cr,ch⟩:=jS (P:=prog) (Below.refl w.heap.size w) b1 ca;obtain⟨ar,ct,eg⟩:=jS (P:=prog) cr b2 cb;obtain⟨a0,G,cj⟩:=jS (P:=prog) ct b3 cc;have an:au dx Z am (djC p V H a l c s.last s.now):=au.new b1 ca;have a2:=(an.below ar).below a0;have a3:au q cf aX r.cells:=(au.new b2 cb:au d0 cf aX r.cells).below a0;have a4:au q k4 am (djC none 0 0 none 0 0 0 0):=au.new b3 cc;have dp:Z≠k4:=by have:=(an.below ar).lt;omega
 have dl:=a2.lt;have dn:=a4.lt;refine⟨_,_,_,_,_,_,_,_,iP a2,_,io.load0 a3 (Req.len or),?_⟩;refine aA (J8 (b8.newB G) U c7 or ds dw) ?_;rintro _ er ⟨c0,ef,c1,rfl,b7,c6,M⟩;have cp:=ae G M G.size;have dc:=b7.sl (A':=λb=>q.heap.size <=b) (λ_ _ I=>I.elim) λg ag=>c6 g ag;have b4:=b7.len;rw[length_map]at b4;have bk:∀x∈z8 s.L r s.now,x∈s.L:=λx Y=>(List.mem_filter.1 ((oV s.L r s.now).mem_iff.1 Y)).1;have d5:(z8 s.L r s.now).length <=m:=by
  rw[(oV s.L r s.now).length_eq];exact Nat.le_trans (List.length_filter_le ..) U.few
 unfold OK;generalize d4:z8 s.L r s.now=e at*;subst b4;refine⟨_,_,_,rfl,λm t i w'=>∃(k:Nat) (a':Option Addr) (l' c':Nat),k <=e.length/\i=(k:Int)/\m=e.length-k/\t=Dh ((e.take k).map λx=>me x.c)/\au w' Z am (djC p V H a' l' c' s.last s.now)/\
  Sl rj w' (TX A w q) a' l' c' (xx s.L (e.take k) s.now)/\au w' k4 am (djC none 0 0 none 0 0 0 0)/\Sl qD w' (λb=>q.heap.size <=b) c0 e.length c1 (e.map Kpt.c)/\q.heap.size <=w'.heap.size/\bW w w',
  ⟨_,0,a,l,c,by omega,rfl,rfl,rfl,a2.below M,(b8.newB G).below M,a4.below M,dc,M.size,cp⟩,?_⟩
 intro ei t i;refine aQ.of ?_ _;rintro d1 ⟨k,a',l',c',d6,rfl,rfl,rfl,bb,ad,bc,al,eb,hB⟩;refine af.of (λb0=>?_) (λb0=>?_)<;>simp only[dTx,dFx]at b0
 ·have aj:k<e.length:=by omega
  have b6:k<(e.map Kpt.c).length:=by rw[length_map];exact aj
  obtain⟨b5,-⟩:=lW aN al b6;rw[getElem_map]at b5;refine⟨⟨⟨by omega,by omega⟩,al.isSome b6⟩,_,b5,?_⟩;have E:=e[k].ok;have cn:=U.sm _ (bk _ (getElem_mem aj));have dg:i64.wrap ((k:Int)+1)=((k+1:Nat):Int):=by rw[wrJ];omega
  try dsimp only
  rw[dg];have b9:e.take (k+1)=e.take k++[e[k]]:=fH aj;have d8:(Dh ((e.take k).map λx=>me x.c)).length <=100000*2300002:=by
   have h1:=Ts (B:=2300000) ((e.take k).map λx=>me x.c) (λz dk=>by
    obtain⟨x,Y,rfl⟩:=List.mem_map.1 dk;exact KG (U.sm _ (bk _ (mem_of_mem_take Y))))
   rw[length_map,length_take]at h1;refine Nat.le_trans h1 (Nat.mul_le_mul ?_ (Nat.le_refl _));omega
  have ea:=KG cn;generalize Y:e[k]=x at*;refine aN.new (zs:=mq.cells) (cs:=x.c.cells) (Cky.len (by rfl)) (Cky.len E) (Cky.one _) d1 λee X d7 bj bs=>?_;refine⟨λt cl=>cl=X/\t=XX ((e.take k).map λx=>me x.c),?_,λt=>aQ.of ?_ _⟩
  ·unfold XX;refine af.of (λa9=>⟨fits (by simp only[length_cons,length_nil];omega),λek c8=>⟨rfl,?_⟩⟩) (λa9=>⟨rfl,?_⟩)<;>simp only[dTx,dFx]at a9
   ·rw[if_neg,c8];intro h;have:=congrArg length h;rw[length_map,length_take,length_nil]at this;omega
   ·have:k=0:=by omega
    subst this;rfl
  ·rintro cl ⟨de,rfl⟩;rw[de];refine⟨_,aN.load0 bj (Cky.len E),?_⟩;refine aA (J9 E cn X) ?_;rintro _ es ⟨rfl,bq⟩;have D:=ae bs bq bs.size;have B24:=ae hB D hB.size;have ac:=bb.below D;have c3:=bc.below D;have c4:=ad.below D;have dd:xx s.L (e.take (k+1)) s.now=H1 (xx s.L (e.take k) s.now) (x.c.plc E) s.now:=by
    unfold xx;rw[b9,foldl_append];rfl
   have ce:=U.uses (e.take k);have ed:(xx s.L (e.take k) s.now).length <=m:=ce.few;have d9:(XX ((e.take k).map λx=>me x.c)).length <=100000*2300002+2:=by
    unfold XX;split
    ·exact Nat.zero_le _
    ·rw[length_append];simp only[length_cons,length_nil];omega
   refine⟨_,rfl,fits (by omega),λel c9=>⟨rfl,_,_,_,_,js ac,_,aN.load0 (bj.below bq) (Cky.len E),rfl,_,ac.load1 bB rfl (i:=3) rfl,?_⟩⟩;refine aA (L3 c4 ce.sh (by omega) E s.last s.now) ?_;rintro _ et ⟨a5,ck,a8,rfl,da,O⟩;have cu:=ae B24 O B24.size;obtain⟨d2,dr,c2,g⟩:=Rn (ac.below O) a5 ck a8 s.last;have em:=D.size;have en:=O.size;have eq:=g.size;refine⟨_,_,_,_,_,rfl,rfl,d2,dr,e.length-(k+1),by omega,k+1,a5,ck,a8,by omega,rfl,rfl,?_,c2,?_,?_,?_,by omega,Below.put cu g ch⟩
   ·rw[c9,b9,map_append];exact(Vi _ _).symm
   ·rw[dd];exact((da.mono λb _ I=>so (by omega) b I).wr g (yf ch dl))
   ·exact(c3.below O).grown g (bA (Ne.symm dp))
   ·exact((al.below D).below O).wr g (by show ¬ q.heap.size <=Z;omega)
 ·have:k=e.length:=by omega
  subst this;rw[take_length]at ad ⊢;refine⟨_,_,_,_,_,_,_,_,iP bb,?_⟩;refine Lj (K:=λr X=>JaP A p V H ⟨xx s.L e s.now,s.last,s.now⟩ (vS (Dh (e.map λx=>me x.c))) w (.tuple #[r,vS (Dh (e.map λx=>me x.c))]) X) bc rfl hB cj λX ag c5=>?_;exact⟨a',l',c',rfl,((ad.wr ag (yf cj dn)).mono λb _ I=>JR G.size b I),c5⟩
def WY (s:lU):Hst:=⟨1,s,ad0⟩
def hA:Hst:=WY [97,46,120,46,99,111,109]
def hB:Hst:=WY [98,46,120,46,99,111,109]
def hY:Hst:=WY [121,46,99,111,109]
theorem RE (s:lU)(L:List Kpt)(h:jm L s <=50):∀f,QG s f L=L
 |0=>rfl
 |f+1=>by unfold QG;rw[if_neg (by omega)]
theorem RG (L:List Kpt)(h:L.length <=3000):∀f,RF f L=L
 |0=>rfl
 |f+1=>by unfold RF;rw[if_neg (by omega)]
theorem at_mem (s:ShI L a){k:Kpt}(e:k∈L):atK L k.plc=some k:=by
 cases h:atK L k.plc with
 |none=>exact absurd rfl (py h k e)
 |some x=>
  obtain⟨D,q⟩:=lD h;rw[s.one D e q]
theorem UA (s:ShI L a){k:Kpt}(e:k∈L):(eR L k.plc).length+1=L.length:=by
 have:=(LS s (k:=k) (at_mem s e)).length_eq;rw[length_append,length_map]at this;exact this
def QK (t:lU)(R L:List Kpt):Prop:=∃f,L.length <=f/\QG t f L=R
def QL (R L:List Kpt):Prop:=∃f,L.length <=f/\RF f L=R
theorem QK.next {t:lU}{R L:List Kpt}(s:ShI L a)(h:50<jm L t)(E:QK t R L):∃k,O2 L (λk=>decide (k.site=t))=some k/\k∈L/\QK t R (eR L k.plc):=by
 obtain⟨f,O,e⟩:=E;have G:0<jm L t:=by omega
 obtain⟨x,I,H⟩:=List.countP_pos_iff.1 G;obtain⟨k,q⟩:=O3 (of:=λk=>decide (k.site=t)) s I H;have D:=(SQ s q).1;have M:=uf D;cases f with
 |zero=>omega
 |succ f=>
  unfold QG at e;rw[if_pos h,q]at e;exact⟨k,q,D,f,by omega,e⟩
theorem QK.stop {t:lU}{R L:List Kpt}(h: ¬ 50<jm L t)(e:QK t R L):L=R:=by
 obtain⟨f,D,q⟩:=e;rw[<- q,RE t L (by omega)]
theorem QL.next {R L:List Kpt}(s:ShI L a)(h:3000<L.length)(E:QL R L):∃k,O2 L (λ_=>true)=some k/\k∈L/\QL R (eR L k.plc):=by
 obtain⟨f,I,e⟩:=E;have G:0<L.length:=by omega
 obtain⟨k,q⟩:=O3 (of:=λ_=>true) s (getElem_mem G) rfl;have D:=(SQ s q).1;have H:=uf D;cases f with
 |zero=>omega
 |succ f=>
  unfold RF at e;rw[if_pos h,q]at e;exact⟨k,q,D,f,by omega,e⟩
theorem QL.stop {R L:List Kpt}(h: ¬ 3000<L.length)(e:QL R L):L=R:=by
 obtain⟨f,D,q⟩:=e;rw[<- q,RG L (by omega)]
theorem QK.of (t:lU)(L:List Kpt):QK t (QG t L.length L) L:=⟨_,Nat.le_refl _,rfl⟩
theorem QL.of (L:List Kpt):QL (RF L.length L) L:=⟨_,Nat.le_refl _,rfl⟩
theorem Zo (t:lU):ofD false t=λk=>decide (k.site=t):=rfl
theorem Zp (t:lU):ofD true t=λ_=>true:=rfl
theorem RD (L:List Kpt)(e:Int):(Ic L e).length <=L.length:=List.length_filter_le ..
structure DJ (w ws:World)(R A:Bl)(rs:List Rul)(ar:Option Addr)(lr cr:Nat)(k3 k4 k6:Nat)(u:Url)(s:JS)(wl:World):Prop where
 B:bW w wl
 sz:ws.heap.size <=wl.heap.size
 h4:au wl k4 bf u.cells
 h6:au wl k6 am (djC none 0 0 none 0 0 0 0)
 hR:Sl MS wl (XZ R w) ar lr cr rs
 hL:∃(a:Option Addr) (l c:Nat),au wl k3 am (djC ar lr cr a l c s.last s.now)/\Sl rj wl (TX A w ws) a l c s.L
 g3:w.heap.size <=k3/\k3<ws.heap.size
 g4:w.heap.size <=k4/\k4<ws.heap.size
 g6:w.heap.size <=k6/\k6<ws.heap.size
 n34:k3≠k4
 n36:k3≠k6
theorem DJ.below {w D:World}{R A:Bl}{rs:List Rul}{u:Url}{s:JS}{q wx:World}(e:DJ w D R A rs p n m i j k u s q)(h:bW q wx):DJ w D R A rs p n m i j k u s wx:=by
 obtain⟨a,l,c,E,G⟩:=e.hL;exact⟨ae e.B h e.B.size,Nat.le_trans e.sz h.size,e.h4.below h,e.h6.below h,e.hR.below h,⟨a,l,c,E.below h,G.below h⟩,e.g3,e.g4,e.g6,e.n34,e.n36⟩
theorem DJ.fin {w ag:World}{R A:Bl}{rs:List Rul}{u:Url}{s:JS}{I:World}(e:DJ w ag R A rs p n m i j k u s I){s':JS×Int}{H:Int}(ac:s'=(s,H)):
 ∃(a:Option Addr) (l c:Nat) (a1:Option Addr) (D q:Nat) (E G:Int),(Instr.loadAt am (.pointer (some ⟨i,0,none⟩))).run prog I=.ok (.agg #[.slice a l c,.slice a1 D q,vI E,vI G]) I/\
 ∃wx:World,(Instr.storeAt am (.pointer (some ⟨k,0,none⟩)) (.agg #[.slice a l c,.slice a1 D q,vI E,vI G])).run prog I=.ok () wx/\
  ∃(M:Option Addr) (U O:Nat) (a1:Option Addr) (D q:Nat) (E G:Int),(aS am (.pointer (some ⟨k,0,none⟩))).run prog wx=.ok (.agg #[.slice M U O,.slice a1 D q,vI E,vI G]) wx/\
   JaP A p n m s'.1 (vI s'.2) w (.tuple #[.agg #[.slice M U O,.slice a1 D q,vI E,vI G],vI H]) wx:=by
 subst ac;obtain⟨a,l,c,V,X⟩:=e.hL;refine⟨_,_,_,_,_,_,_,_,iP V,?_⟩;refine Lj (K:=λr wx=>JaP A p n m s (vI H) w (.tuple #[r,vI H]) wx) e.h6 rfl e.B e.g6.1 λwx ad Z=>?_;exact⟨a,l,c,rfl,((X.wr ad (yf e.g6.1 e.g6.2)).mono λb _ Y=>JR (Nat.le_trans e.g3.1 (Nat.le_of_lt e.g3.2)) b Y),Z⟩
theorem DJ.put {w E:World}{R A:Bl}{rs:List Rul}{u:Url}{s:JS}{D:World}(e:DJ w E R A rs p n m i j k u s D){a:Option Addr}{l c:Nat}{last':Int}(M:Sl rj D (TX A w E) a l c L):
 ∃q,(Instr.storeAt ab (.pointer (some ⟨i,1,none⟩)) (.agg #[.slice a l c,vI last'])).run prog D=.ok () q/\DJ w E R A rs p n m i j k u ⟨L,last',s.now⟩ q/\D.grownBy q (some i):=by
 obtain⟨U,Y,V,G,X⟩:=e.hL;obtain⟨q,O,H,g⟩:=Rn G a l c last';have I: ¬ XZ R w i:=λh=>by have:=h.2;have:=e.g3.1;omega
 exact⟨q,O,⟨Below.put e.B g e.g3.1,Nat.le_trans e.sz g.size,e.h4.grown g (bA (Ne.symm e.n34)),e.h6.grown g (bA (Ne.symm e.n36)),e.hR.wr g I,⟨a,l,c,H,M.wr g (yf e.g3.1 e.g3.2)⟩,e.g3,e.g4,e.g6,e.n34,e.n36⟩,g⟩
theorem L5 {A R:Bl}{Z V:Nat}{a:Option Addr}{l c:Nat}{s:JS}(er:Sl rj w A a l c s.L)(an:JI s m)(kc:m <=100000)
 {rs:List Rul} (em:Sl MS w R p Z V rs) (en:rs.length <=1000000) (eq:∀r∈rs,r.2.length <=80000000) {u:Url} (o:u.ok) (lf:u.host.name.length <=1000000) (hs:u.path.length <=1000000) (t:lU) (hf:t.length <=10000000):
 Cf wR #[.agg #[.slice p Z V,.slice a l c,vI s.last,vI s.now],u.v,vS t] w (Ret (JaP A p Z V (xB (rs.filter eo) s u o t).1 (vI (xB (rs.filter eo) s u o t).2) w)):=by
 apply Kt;intro bk hx cn c5 bq hz cp c6 bs w6 cr c7;obtain⟨fr,dg,dc⟩:=jS (P:=prog) (Below.refl w.heap.size w) cn c5;obtain⟨cj,dk,e0⟩:=jS (P:=prog) dg cp c6;obtain⟨b2,b0,e1⟩:=jS (P:=prog) dk cr c7;have dl:DJ w w6 R A rs p Z V bk bq bs u s w6:=by
  have dx:au hx bk am (djC p Z V a l c s.last s.now):=au.new cn c5;have d0:au hz bq bf u.cells:=au.new cp c6;have d1:au w6 bs am (djC none 0 0 none 0 0 0 0):=au.new cr c7;have hi:=dx.lt;have k5:=d0.lt;have hj:=d1.lt;have ld:=cj.size;have le:=b2.size;exact⟨b0,Nat.le_refl _,d0.below b2,d1,em.old.below b0,⟨a,l,c,(dx.below cj).below b2,er.newB b0⟩,⟨dc,by omega⟩,⟨e0,by omega⟩,⟨e1,hj⟩,by omega,by omega⟩
 clear er em cn c5 cp c6 cr c7 fr dg dc cj dk e0 b2 b0 e1;refine⟨_,pr.load0 dl.h4 (Url.len o),?_⟩;refine aA (vb o (by omega) (by omega) w6) ?_;rintro _ hv ⟨rfl,gs⟩;have dn:=dl.below gs;refine⟨_,rfl,af.of (λad=>dn.fin (by unfold xB;rw[if_pos (by simpa using ad)])) (λad=>?_)⟩;have ad: ¬ nN u=false:=by simpa using ad
 refine aA (ve t hf hv) ?_;rintro _ hw ⟨rfl,gt⟩;have e3:=dn.below gt;refine⟨_,_,_,_,_,_,_,_,_,_,_,_,rfl,?_⟩;refine Jo (bI t).1 hw λkq lr j4 f8 g3=>?_;have ar:=e3.below g3;refine af.of (λal=>ar.fin (by unfold xB;rw[if_neg ad,if_pos (by simpa using al)])) (λal=>⟨rfl,?_⟩);have al: ¬ (bI t).2≠0:=by simpa using al
 obtain⟨a3,dc,il,d5,i8⟩:=ar.hL;refine⟨_,_,_,d5.load1 kB rfl (i:=0) rfl,_,pr.load0 ar.h4 (Url.len o),_,_,_,_,_,_,_,_,_,_,_,fY _ f8,rfl,_,d5.load1 bB rfl (i:=3) rfl,?_⟩;refine aA (J7 ar.hR en eq o (by omega) (by omega) (bI t).1 (yk t) s.now) ?_;rintro _ hy ⟨rfl,g0⟩;have e4:=ar.below g0;have e:(jR (rs.filter eo) u (bI t).1 s.now).1.ok:=N2 o _ _;have I: ¬ (jR (rs.filter eo) u (bI t).1 s.now).2≠0->xB (rs.filter eo) s u o t=if u.sec=false/\s.L.any (λk=>Ae k.c (jR (rs.filter eo) u (bI t).1 s.now).1)=true then(s,121)
  else(I5 (rs.filter eo) s (jR (rs.filter eo) u (bI t).1 s.now).1 e,0):=λX=>by
  unfold xB;rw[if_neg ad,if_neg al,if_neg X]
 have et:(jR (rs.filter eo) u (bI t).1 s.now).2≠0->xB (rs.filter eo) s u o t=(s,(jR (rs.filter eo) u (bI t).1 s.now).2):=λX=>by
  unfold xB;rw[if_neg ad,if_neg al,if_pos X]
 have eb:(jR (rs.filter eo) u (bI t).1 s.now).2=0->VE (jR (rs.filter eo) u (bI t).1 s.now).1/\cT (jR (rs.filter eo) u (bI t).1 s.now).1.host=true/\(jR (rs.filter eo) u (bI t).1 s.now).1.born=s.now/\(jR (rs.filter eo) u (bI t).1 s.now).1.used=s.now:=
  λX=>⟨TI hs (yk t) X,KM X⟩
 unfold YV;generalize xB (rs.filter eo) s u o t=fo at*;generalize jR (rs.filter eo) u (bI t).1 s.now=fv at*;obtain⟨q,X⟩:=fv;simp only at e I et eb;refine⟨_,_,rfl,?_⟩;refine aN.new (zs:=mq.cells) (cs:=q.cells) (Cky.len (by rfl)) (Cky.len e) (Cky.one _) hy λkk ht jk d3 gb=>?_;have b9:=e4.below gb;refine af.of (λa9=>b9.fin (et (by simpa using a9))) (λa9=>⟨rfl,?_⟩);have a9:X=0:=by simpa using a9
 obtain⟨f1,f0,i1,i5⟩:=eb a9;have I:=I (by omega);have i3:=ke e f0;have i4:=f1.pt;obtain⟨a5,kt,ir,d6,d8⟩:=b9.hL;have jf:=an.few;refine⟨_,_,_,_,js d6,?_⟩;refine aA (A8 d8 (by omega) s.last) ?_;rintro _ h0 ⟨h7,ks,ip,rfl,c2,ee,Y⟩;have dp:=b9.below Y;have es:=c2.sl (A':=λb=>ht.heap.size <=b) (λ_ _ O=>O.elim) λg g8=>ee g g8;have eg:=c2.len;rw[length_map]at eg;subst eg;refine⟨_,_,_,rfl,λm i aj=>∃k:Nat,k <=s.L.length/\i=(k:Int)/\m=s.L.length-k/\(∀x∈s.L.take k,(!u.sec&&Ae x.c q)=false)/\bW h0 aj,
  ⟨_,0,by omega,rfl,rfl,(λx bj=>by rw[List.take_zero]at bj;cases bj),Below.refl _ _⟩,?_⟩
 intro k3 c8;refine aQ.of ?_ _;rintro aj ⟨k,ji,rfl,rfl,b5,M⟩;have b1:=dp.below M;refine af.of (λef=>?_) (λef=>?_)<;>simp only[dTx,dFx]at ef
 ·have c0:k<s.L.length:=by omega
  have ek:k<(s.L.map Kpt.c).length:=by rw[length_map];exact c0
  have ev:=es.below M;obtain⟨ei,-⟩:=lW aN ev ek;rw[getElem_map]at ei;refine⟨⟨⟨by omega,by omega⟩,ev.isSome ek⟩,_,ei,?_⟩;have c1:=getElem_mem c0;have b7:=s.L[k].ok;have h5:=an.sm _ c1;have lz:=ke b7 (an.right _ c1);have ly:=h5.pt;have hh:i64.wrap ((k:Int)+1)=((k+1:Nat):Int):=by rw[wrJ];omega
  try dsimp only
  rw[hh];have hg:=fH c0;generalize bj:s.L[k]=x at*;refine aN.new (zs:=mq.cells) (cs:=x.c.cells) (Cky.len (by rfl)) (Cky.len b7) (Cky.one _) aj λkm e2 jl f3 b3=>?_;have fq:=ae (ae Y M Y.size) b3 (ae Y M Y.size).size;have dr:=b1.below b3;refine rv (λb w'=>b=(!u.sec&&Ae x.c q)/\bW e2 w') ?_ ?_
  ·refine⟨rfl,_,dr.h4.load1 bK rfl (i:=0) rfl,af.of (λE=>?_) (λE=>⟨by rw[E];rfl,Below.refl _ _⟩)⟩;refine⟨_,aN.load0 f3 (Cky.len b7),_,aN.load0 (d3.below fq) (Cky.len e),?_⟩;refine aA (Ah b7 e (by omega) (by omega) (by omega) (by omega) e2) ?_;rintro _ ln ⟨rfl,g1⟩;exact⟨_,rfl,by rw[E];rfl,g1⟩
  ·rintro b lv ⟨rfl,ea⟩;have e6:=dr.below ea;have fs:=ae (ae M b3 M.size) ea (ae M b3 M.size).size;refine af.of (λE=>e6.fin ?_) (λE=>⟨s.L.length-(k+1),by omega,k+1,by omega,rfl,rfl,?_,fs⟩)
   ·rw[Bool.and_eq_true,Bool.not_eq_true']at E;rw[I,if_pos ⟨E.1,List.any_eq_true.2 ⟨x,c1,E.2⟩⟩]
   ·intro y ag;rw[hg,List.mem_append]at ag;rcases ag with ag|ag
    ·exact b5 y ag
    ·rw[mem_singleton]at ag;subst ag;exact E
 ·have:k=s.L.length:=by omega
  subst this;rw[take_length]at b5;have I:fo=(I5 (rs.filter eo) s q e,0):=by
   rw[I,if_neg];rintro⟨E,G⟩;obtain⟨x,bj,H⟩:=List.any_eq_true.1 G;have:=b5 x bj;rw[E,H]at this;cases this
  have d2:=ae Y M Y.size;have d4:=d3.below d2;clear b5 es c2 ee Y M dp d2 d6 d8;obtain⟨ie,k2,i2,ha,kb⟩:=b1.hL;refine⟨rfl,_,_,_,ha.load1 kB rfl (i:=0) rfl,rfl,_,aR.load d4 (i:=2) (us:=q.host.cells) (Hst.len e) (λj g9=>jp e g9),?_⟩;refine aA (Kb b1.hR en eq e (by omega)) ?_;rintro _ lo ⟨rfl,d9⟩;have ca:=b1.below d9;have f2:=d4.below d9;obtain⟨a7,kx,it,f6,f7⟩:=ca.hL;refine⟨_,rfl,rfl,_,_,_,_,js f6,_,aN.load0 f2 (Cky.len e),?_⟩;have kd:=an.last;have hc:=NK s.L s.last ⟨q,np (rs.filter eo) q.host,e⟩;have el:=an.sh.put ⟨q,np (rs.filter eo) q.host,e⟩;refine aA (L0 f7 an.sh (by omega) (by omega) ⟨q,np (rs.filter eo) q.host,e⟩) ?_;unfold I5 at I;generalize rb s.L s.last ⟨q,np (rs.filter eo) q.host,e⟩=P at*;generalize np (rs.filter eo) q.host=st at*;obtain⟨a8,lp⟩:=P;simp only at hc el I;rintro _ lq ⟨h8,k0,iu,rfl,he,g2⟩;have e5:=ca.below g2;obtain⟨h2,hp,cb,i7⟩:=e5.put (he.mono λb _ O=>so ca.sz b O) (last':=lp);obtain⟨h9,k1,i0,d7,f9⟩:=cb.hL;refine⟨_,_,_,_,_,rfl,rfl,h2,hp,rfl,_,_,_,_,js d7,rfl,_,d7.load1 bB rfl (i:=3) rfl,?_⟩;refine aA (sA f9 (by show a8.length <=1000000;omega) lp s.now) ?_;rintro _ ls ⟨k6,h6,kr,ih,rfl,hd,g4⟩;have D10:=cb.below g4;obtain⟨w11,hm,b8,i6⟩:=D10.put (hd.mono λb _ O=>so cb.sz b O) (last':=lp);have g6:ShI (Ic a8 s.now) lp:=el.filter _;have i9:=RD a8 s.now;have b8:DJ w w6 R A rs p Z V bk bq bs u ⟨Ic a8 s.now,lp,s.now⟩ w11:=b8;refine⟨_,_,_,_,_,rfl,rfl,w11,hm,?_⟩;generalize Ic a8 s.now=ch at*;refine⟨λm aj=>∃D:List Kpt,m=D.length/\D.length <=1000000/\ShI D lp/\QK st (QG st ch.length ch) D/\DJ w w6 R A rs p Z V bk bq bs u ⟨D,lp,s.now⟩ aj,
   ⟨_,ch,rfl,by omega,g6,QK.of _ _,b8⟩,?_⟩
  intro k4;refine aQ.of ?_ _;rintro lw ⟨ac,rfl,bb,b6,ed,ds⟩;obtain⟨k7,k9,la,c8,ex⟩:=ds.hL;refine⟨rfl,_,_,_,_,js c8,?_⟩;refine aA (GX ex bb lp st) ?_;rintro _ lu ⟨rfl,cl⟩;have dw:=ds.below cl;refine⟨_,rfl,af.of (λG=>⟨rfl,?_⟩) (λG=>?_)⟩
  ·have G:50<jm ac st:=by have G:((jm ac st:Nat):Int)>50:=of_decide_eq_true G;omega
   obtain⟨U,ct,cu,b4⟩:=ed.next b6 G;refine⟨_,_,_,_,js (c8.below cl),?_⟩;refine aA (sB (ex.below cl) bb lp st false) ?_;rintro _ h3 ⟨rfl,g5⟩;have e7:=dw.below g5;refine⟨_,_,rfl,?_⟩;rw[Zo,ct];refine aN.new (zs:=mq.cells) (cs:=U.c.cells) (Cky.len (by rfl)) (Cky.len U.ok) (Cky.one _) h3 λkn ll j1 f4 gn=>?_;have cc:=e7.below gn;obtain⟨hk,hn,hq,c9,da⟩:=cc.hL;refine⟨rfl,_,_,_,_,js c9,_,aN.load0 f4 (Cky.len U.ok),?_⟩;refine aA (yu da b6 bb U.ok) ?_;rintro _ lh ⟨hl,ho,hr,rfl,c4,gc⟩;have e9:=cc.below gc;obtain⟨de,dd,fb,-⟩:=e9.put (c4.mono λb _ O=>so cc.sz b O) (last':=lp);have bc:=uf cu;exact⟨_,_,_,_,_,rfl,rfl,de,dd,_,bc,_,rfl,Nat.le_trans (Nat.le_of_lt bc) bb,b6.filter _,b4,fb⟩
  ·have G: ¬ 50<jm ac st:=by have G: ¬ ((jm ac st:Nat):Int)>50:=of_decide_eq_false G;omega
   have ga:=ed.stop G;unfold XT at I;rw[<- ga]at I;refine⟨λm aj=>∃D:List Kpt,m=D.length/\D.length <=1000000/\ShI D lp/\QL (RF ac.length ac) D/\DJ w w6 R A rs p Z V bk bq bs u ⟨D,lp,s.now⟩ aj,
    ⟨_,ac,rfl,bb,b6,QL.of _,dw⟩,?_⟩
   intro hi;refine aQ.of ?_ _;rintro lx ⟨a0,rfl,ck,c3,b4,ce⟩;obtain⟨k8,q2,lc,ew,ey⟩:=ce.hL;have hb:a0.length=q2:=by have:=ey.len;exact this.symm
   subst hb;refine⟨rfl,rfl,_,_,_,ew.load1 ba rfl (i:=1) rfl,af.of (λH=>⟨rfl,?_⟩) (λH=>?_)⟩
   ·have H:3000<a0.length:=by have H:((a0.length:Nat):Int)>3000:=of_decide_eq_true H;omega
    obtain⟨U,ct,cu,g7⟩:=b4.next c3 H;refine⟨_,_,_,_,js ew,?_⟩;refine aA (sB ey ck lp [] true) ?_;rintro _ hu ⟨rfl,ge⟩;have fd:=ce.below ge;refine⟨_,_,rfl,?_⟩;rw[Zp,ct];refine aN.new (zs:=mq.cells) (cs:=U.c.cells) (Cky.len (by rfl)) (Cky.len U.ok) (Cky.one _) hu λkp lm j2 f5 go=>?_;have cf:=fd.below go;obtain⟨hk,hn,hq,c9,da⟩:=cf.hL;refine⟨rfl,_,_,_,_,js c9,_,aN.load0 f5 (Cky.len U.ok),?_⟩;refine aA (yu da c3 ck U.ok) ?_;rintro _ lk ⟨hl,ho,hr,rfl,c4,gl⟩;have fl:=cf.below gl;obtain⟨de,dd,fn,-⟩:=fl.put (c4.mono λb _ O=>so cf.sz b O) (last':=lp);have bc:=uf cu;exact⟨_,_,_,_,_,rfl,rfl,de,dd,_,bc,_,rfl,Nat.le_trans (Nat.le_of_lt bc) ck,c3.filter _,g7,fn⟩
   ·have H: ¬ 3000<a0.length:=by have H: ¬ ((a0.length:Nat):Int)>3000:=of_decide_eq_false H;omega
    exact ce.fin (by rw[I,b4.stop H])
noncomputable def MX (rs:List Rul)(s:JS)(o:OpR)(ok:o.ok):Int×lU:=
 if o.kind=1 then((xB rs s o.url ok.uo o.text).2,[])else if o.kind=2 then(0,(OK s o.req).2)else if o.kind=3 then((mU s o.n).2,[])else if o.kind=4 then(0,[])else(131,[])
def Y3 (A:Bl)(ar:Option Addr)(lr cr:Nat)(s:JS)(x:Int×lU)(w:World)(v:Value)(w':World):Prop:=
 ∃(a:Option Addr) (l c:Nat),v=.tuple #[.agg #[.slice ar lr cr,.slice a l c,vI s.last,vI s.now],vI x.1,vS x.2]/\Sl rj w' (Gp A w) a l c s.L/\bW w w'
theorem NO {A R:Bl}{G E:Nat}{a:Option Addr}{l c:Nat}{s:JS}(c1:Sl rj w A a l c s.L)(a0:JI s m)(b0:m <=100000)
 {rs:List Rul} (cr:Sl MS w R p G E rs) (cu:rs.length <=1000000) (c0:∀r∈rs,r.2.length <=80000000) (o:OpR) (e:o.ok) (cp:o.n <=9223372036854775807):
 Cf z7 #[.agg #[.slice p G E,.slice a l c,vI s.last,vI s.now],o.v] w (Ret (Y3 A p G E (doV (rs.filter eo) s o e) (MX (rs.filter eo) s o e) w)):=by
 apply Mh;intro b4 c3 bj b1 b5 c4 bk b2 an Z bq b3;obtain⟨c5,ce,c6⟩:=jS (P:=prog) (Below.refl w.heap.size w) bj b1;obtain⟨ch,cf,c7⟩:=jS (P:=prog) ce bk b2;obtain⟨a9,H,b9⟩:=jS (P:=prog) cf bq b3;have a2:au Z b4 am (djC p G E a l c s.last s.now):=((au.new bj b1:au c3 b4 am (djC p G E a l c s.last s.now)).below ch).below a9;have a3:au Z b5 aK o.cells:=(au.new bk b2:au c4 b5 aK o.cells).below a9;have a4:au Z an am (djC none 0 0 none 0 0 0 0):=au.new bq b3;have c2:=a4.lt;have al:=c1.newB H;have ct:=cr.old.below H;have ac:∀{aj:World} {s':JS} {x:Int×lU} {a':Option Addr} {l' c':Nat},s'=doV (rs.filter eo) s o e->x=MX (rs.filter eo) s o e->au aj an am (djC none 0 0 none 0 0 0 0)->bW w aj->Sl rj aj (TX A w Z) a' l' c' s'.L->
  ∃wx:World,(Instr.storeAt am (.pointer (some ⟨an,0,none⟩)) (.agg #[.slice p G E,.slice a' l' c',vI s'.last,vI s'.now])).run prog aj=.ok () wx/\
  ∃(a8:Option Addr) (b7 bb:Nat) (a1:Option Addr) (b8 bc:Nat) (ca cb:Int),(aS am (.pointer (some ⟨an,0,none⟩))).run prog wx=.ok (.agg #[.slice a8 b7 bb,.slice a1 b8 bc,vI ca,vI cb]) wx/\
   Y3 A p G E (doV (rs.filter eo) s o e) (MX (rs.filter eo) s o e) w (.tuple #[.agg #[.slice a8 b7 bb,.slice a1 b8 bc,vI ca,vI cb],vI x.1,vS x.2]) wx:=by
  intro aj s' x a' l' c' q D cj hB ck;subst q D;refine Lj (K:=λr wx=>Y3 A p G E (doV (rs.filter eo) s o e) (MX (rs.filter eo) s o e) w (.tuple #[r,vI (MX (rs.filter eo) s o e).1,.string (mkS (MX (rs.filter eo) s o e).2)]) wx) cj rfl hB b9 λwx cn cl=>?_;exact⟨a',l',c',rfl,((ck.wr cn (yf b9 c2)).mono λb _ X=>JR H.size b X),cl⟩
 have via:∀{Y:World} {s':JS} {x:Int×lU} {y:Value},JaP (TX A w Z) p G E s' y Z (.tuple #[.agg #[.slice p G E,.slice a l c,vI s.last,vI s.now],y]) Y->True:=λ_=>trivial;clear via;refine⟨rfl,_,a3.load1 bC rfl (i:=0) rfl,af.of (λq=>?_) (λq=>?_)⟩
 ·have q:o.kind=1:=by simpa using q
  refine⟨_,_,_,_,_,_,_,_,iP a2,rfl,_,pr.load a3 (i:=1) (us:=o.url.cells) (Url.len e.uo) (λj ar=>SV e ar),rfl,_,a3.load1 ax rfl (i:=22) (SU e),?_⟩;have c8:=e.tx;refine aA (L5 al a0 b0 ct cu c0 e.uo e.un e.up o.text (by omega)) ?_;rintro _ Y ⟨a',l',c',rfl,ag,U⟩;refine⟨_,_,_,_,_,_,_,_,_,rfl,?_⟩;refine tR.new (zs:=djC none 0 0 none 0 0 0 0) (cs:=djC p G E a' l' c' _ _) rfl rfl (aY rfl (aY rfl (aY rfl (aY rfl fj)))) Y λb6 cc bs ad V=>?_;have O:=ae U V U.size;refine⟨_,_,_,_,_,_,_,_,iP ad,ac (x:=(_,[])) ?_ ?_ (a4.below O) (ae H O H.size) ((ag.mono λb _ X=>so (Nat.le_refl _) b X).below V)⟩
  ·unfold doV;rw[if_pos q]
  ·unfold MX;rw[if_pos q]
 refine af.of (λD=>?_) (λD=>?_)
 ·have q: ¬ o.kind=1:=by simpa using q
  have D:o.kind=2:=by simpa using D
  refine⟨_,_,_,_,_,_,_,_,iP a2,rfl,_,io.load a3 (i:=23) (us:=o.req.cells) (Req.len e.ro) (λj ar=>O5 e ar),?_⟩;refine aA (L4 al a0 b0 e.ro e.rn e.rp) ?_;rintro _ Y ⟨a',l',c',rfl,ag,U⟩;refine⟨_,_,_,_,_,_,_,_,_,rfl,?_⟩;refine tR.new (zs:=djC none 0 0 none 0 0 0 0) (cs:=djC p G E a' l' c' _ _) rfl rfl (aY rfl (aY rfl (aY rfl (aY rfl fj)))) Y λb6 cc bs ad V=>?_;have O:=ae U V U.size;refine⟨_,_,_,_,_,_,_,_,iP ad,ac (x:=(_,_)) ?_ ?_ (a4.below O) (ae H O H.size) ((ag.mono λb _ X=>so (Nat.le_refl _) b X).below V)⟩
  ·unfold doV;rw[if_neg q,if_pos D]
  ·unfold MX;rw[if_neg q,if_pos D]
 refine af.of (λI=>?_) (λI=>?_)
 ·have q: ¬ o.kind=1:=by simpa using q
  have D: ¬ o.kind=2:=by simpa using D
  have I:o.kind=3:=by simpa using I
  refine⟨_,_,_,_,_,_,_,_,iP a2,rfl,_,a3.load1 bB rfl (i:=44) (XW e),?_⟩;refine aA (Ka al a0 (by omega) o.n cp) ?_;rintro _ Y ⟨a',l',c',rfl,ag,U⟩;refine⟨_,_,_,_,_,_,_,_,_,rfl,?_⟩;refine tR.new (zs:=djC none 0 0 none 0 0 0 0) (cs:=djC p G E a' l' c' _ _) rfl rfl (aY rfl (aY rfl (aY rfl (aY rfl fj)))) Y λb6 cc bs ad V=>?_;have O:=ae U V U.size;refine⟨_,_,_,_,_,_,_,_,iP ad,ac (x:=(_,[])) ?_ ?_ (a4.below O) (ae H O H.size) ((ag.mono λb _ X=>so (Nat.le_refl _) b X).below V)⟩
  ·unfold doV;rw[if_neg q,if_neg D,if_pos I]
  ·unfold MX;rw[if_neg q,if_neg D,if_pos I]
 have q: ¬ o.kind=1:=by simpa using q
 have D: ¬ o.kind=2:=by simpa using D
 have I: ¬ o.kind=3:=by simpa using I
 refine af.of (λM=>?_) (λM=>?_)
 ·have M:o.kind=4:=by simpa using M
  refine⟨rfl,_,_,_,a2.load1 kB rfl (i:=0) rfl,rfl,_,a2.load1 bB rfl (i:=3) rfl,ac (s':=js0 s.now) (x:=(0,[])) (a':=none) (l':=0) (c':=0) ?_ ?_ a4 H (Sl.nil rj Z _ none 0 (Nat.zero_le _))⟩
  ·unfold doV;rw[if_neg q,if_neg D,if_neg I,if_pos M]
  ·unfold MX;rw[if_neg q,if_neg D,if_neg I,if_pos M]
 ·have M: ¬ o.kind=4:=by simpa using M
  refine⟨_,_,_,_,_,_,_,_,iP a2,ac (x:=(131,[])) ?_ ?_ a4 H al⟩
  ·unfold doV;rw[if_neg q,if_neg D,if_neg I,if_neg M]
  ·unfold MX;rw[if_neg q,if_neg D,if_neg I,if_neg M]
theorem kV.chg {F:List Nat}{w0:World}{t G:TypeId}{D q:Nat}{a:Option Addr}{n c:Nat}{E:List Pth}{rs:List Rul}{w w':World}(S:kV w0 t G D q a n c E y z rs w)(h:Chg F w w')
 (e:∀k∈F,w0.heap.size <=k/\k≠D/\k≠q/\eP a≠some k):kV w0 t G D q a n c E y z rs w':=
 ⟨h.arr S.h1 λm=>(e _ m).2.1 rfl,S.h2.keep (h.block q S.h2.lt λm=>(e _ m).2.2.1 rfl),S.h3.keep (h.keep.mono λb I m=>I.elim (λx=>x.elim) λH=>(e _ m).2.2.2 H.symm),S.T,S.t,
  S.hb.trans (h.below S.hb.size λk M=>(e k M).1),S.ne,S.og,S.kt0,S.km0⟩
structure IH (w0:World)(tj ts tt te:TypeId)(pj p ma ms kt km:Nat)(a:Option Addr)(n c:Nat)(ps:List Pth)(kvs:List (jZ×Int))(es:List (List Bool))(rs:List Rul)(s:JS)(w:World):Prop where
 cell:au w pj tj [vI s.now,.pointer (some ⟨kt,0,none⟩),.pointer (some ⟨p,0,none⟩)]
 shf:Shf ts p ma ms s.L s.last w
 tab:kV w0 tt te kt km a n c ps kvs es rs w
 far:∀k∈[pj,p,ma,ms],w0.heap.size <=k/\k≠kt/\k≠km/\eP a≠some k
 own:pj∉[p,ma,ms]
theorem IH.below {w0:World}{M O U I:TypeId}{G p D E q e:Nat}{a:Option Addr}{n c:Nat}{H:List Pth}{rs:List Rul}{s:JS}{w w':World}(J:IH w0 M O U I G p D E q e a n c H y z rs s w)(h:bW w w'):IH w0 M O U I G p D E q e a n c H y z rs s w':=
 ⟨J.cell.below h,J.shf.below h,J.tab.below h,J.far,J.own⟩
theorem IH.step {w0:World}{U D V O:TypeId}{M p e q H G:Nat}{a:Option Addr}{n c:Nat}{rs:List Rul}{s:JS}{w w':World}(J:IH w0 U D V O M p e q H G a n c h y z rs s w){I:Int}
 (E:Chg [p,e,q] w w') (Y:Shf D p e q L I w'):IH w0 U D V O M p e q H G a n c h y z rs ⟨L,I,s.now⟩ w':=
 ⟨E.arr J.cell J.own,Y,J.tab.chg E λk X=>J.far k (mem_cons_of_mem _ X),J.far,J.own⟩
theorem IH.time {w0:World}{D V X U:TypeId}{e p I M q H:Nat}{a:Option Addr}{n c:Nat}{rs:List Rul}{s:JS}{w w':World}(J:IH w0 D V X U e p I M q H a n c h y z rs s w){O:Int}
 (E:w.grownBy w' (some e)) (Y:au w' e D [vI O,.pointer (some ⟨q,0,none⟩),.pointer (some ⟨p,0,none⟩)]):IH w0 D V X U e p I M q H a n c h y z rs ⟨s.L,s.last,O⟩ w':=
 ⟨Y,J.shf.put E J.own,J.tab.chg (Chg.grown (S:=[e]) E (List.mem_singleton.2 rfl)) (λk G=>J.far k (by rw[mem_singleton]at G;subst G;exact mem_cons_self ..)),J.far,J.own⟩
def Pz (w0:World)(tj ts tt te:TypeId)(pj:Nat)(F:List Nat)(rs:List Rul)(s:JS)(w:World):Prop:=
 ∃p ma ms kt km a n c ps kvs es,F=[pj,p,ma,ms]/\IH w0 tj ts tt te pj p ma ms kt km a n c ps kvs es rs s w
theorem Pz.below {w0:World}{D E G q:TypeId}{e:Nat}{F:List Nat}{rs:List Rul}{s:JS}{w w':World}(J:Pz w0 D E G q e F rs s w)(h:bW w w'):Pz w0 D E G q e F rs s w':=by
 obtain⟨p,V,X,O,M,a,n,c,Y,U,I,H,J⟩:=J;exact⟨p,V,X,O,M,a,n,c,Y,U,I,H,J.below h⟩
theorem Pz.base {w0:World}{E G H D:TypeId}{q:Nat}{F:List Nat}{rs:List Rul}{s:JS}(J:Pz w0 E G H D q F rs s w):bW w0 w/\∀k∈F,w0.heap.size <=k/\k<w.heap.size:=by
 obtain⟨p,X,Y,U,O,a,n,c,Z,V,I,rfl,J⟩:=J;refine⟨J.tab.hb,λk e=>⟨(J.far k e).1,?_⟩⟩;have h1:=J.shf.lts;have M:=J.cell.lt;simp at e;rcases e with rfl|rfl|rfl|rfl<;>omega
abbrev KT (w0:World)(pj:Nat)(F:List Nat)(rs:List Rul)(s:JS)(w:World):Prop:=Pz w0 kC aZ bm bE pj F rs s w
theorem P1 {w0:World}{E V:Nat}{a:Option Addr}{n c:Nat}{rs:List Rul}(S:kV w0 bm bE E V a n c h y z rs w):
 Cf Ea #[.pointer (some ⟨E,0,none⟩)] w (Ret λv w'=>∃X F,v=.pointer (some ⟨X,0,none⟩)/\KT w0 X F rs (js0 0) w'/\(∀k∈F,w.heap.size <=k)/\bW w w'):=by
 apply NU;refine aA (Bb w) ?_;rintro _ Y ⟨p,H,I,rfl,O,al,an,ar,e⟩;refine⟨_,rfl,λD w6 ad U=>?_⟩;have G:bW Y w6:=U▸ao Y _;have ac:au w6 D kC [vI 0,.pointer (some ⟨E,0,none⟩),.pointer (some ⟨p,0,none⟩)]:=au.new ad U;have aj:=O.lts;have a9:=S.h1.lt;have bb:=S.h2.lt;have ag:=S.h3.lt;have a8:=S.hb.size;have a0:=e.size;have M:∀k∈[D,p,H,I],w.heap.size <=k:=λk q=>by
  simp at q;rcases q with rfl|rfl|rfl|rfl<;>omega
 refine⟨D,[D,p,H,I],rfl,⟨p,H,I,E,V,a,n,c,h,y,z,rfl,ac,O.below G,(S.below e).below G,λk q=>?_,?_⟩,M,ae e G e.size⟩
 ·have:=M k q;exact⟨by omega,by omega,by omega,λZ=>by have:=ag _ Z;omega⟩
 ·simp;omega
section
variable {w0:World} {pj:Nat} {F:List Nat} {rs:List Rul} {s:JS} {w:World}
def Oe (w0:World)(pj:Nat)(F:List Nat)(rs:List Rul)(s':JS)(w w':World):Prop:=∃F',KT w0 pj F' rs s' w'/\Chg F w w'/\∀k∈F',k∈F\/w.heap.size <=k
theorem Oe.same {w':World}{s':JS}(J:KT w0 pj F rs s' w')(e:Chg F w w'):Oe w0 pj F rs s' w w':=⟨F,J,e,λk q=>.inl q⟩
theorem LB (J:KT w0 pj F rs s w):Cf mz #[.pointer (some ⟨pj,0,none⟩)] w (Ret λv w'=>v=.tuple #[]/\Oe w0 pj F rs (js0 s.now) w w'):=by
 obtain⟨p,a9,bb,Y,X,a,n,c,ac,Z,O,rfl,J⟩:=J;apply Ar;refine aA (Bb w) ?_;rintro _ bq ⟨E,I,M,rfl,H,ar,a0,a8,q⟩;have G:=J.below q;have al:=H.lts;have an:=J.cell.lt;obtain⟨aj,ad,V,g⟩:=G.cell.put CU (i:=2) (v:=.pointer (some ⟨E,0,none⟩)) (show 2<3 by decide) rfl rfl;have bj:=J.tab.h1.lt;have bk:=J.tab.h2.lt;have ag:=J.tab.h3.lt;have bc:=J.tab.hb.size;refine⟨_,rfl,rfl,rfl,aj,ad,rfl,[pj,E,I,M],⟨E,I,M,Y,X,a,n,c,ac,Z,O,rfl,V,H.put g (by simp;omega),G.tab.chg (Chg.grown (S:=[pj]) g (List.mem_singleton.2 rfl)) (λk e=>J.far k (by rw[mem_singleton]at e;subst e;exact mem_cons_self ..)),λk e=>?_,by simp;omega⟩,
  ⟨g.os.trans q.os,g.tape.trans q.tape,g.output.trans q.output,Nat.le_trans q.size g.size,λk e U=>(g.block k (Nat.lt_of_lt_of_le e q.size) (λD=>U (by cases D;exact mem_cons_self ..))).trans (q.block k e)⟩,λk e=>?_⟩
 ·rcases List.mem_cons.1 e with rfl|e
  ·exact J.far _ (mem_cons_self ..)
  ·have:w.heap.size <=k:=by
    simp at e;rcases e with rfl|rfl|rfl<;>omega
   exact⟨by omega,by omega,by omega,λD=>by have:=ag _ D;omega⟩
 ·rcases List.mem_cons.1 e with rfl|e
  ·exact .inl (mem_cons_self ..)
  ·refine .inr ?_;simp at e;rcases e with rfl|rfl|rfl<;>omega
theorem Nt (J:KT w0 pj F rs s w)(H:JI s m)(b0:m <=1000000)(n:Int)(b1:n <=9223372036854775807):
 Cf oa #[.pointer (some ⟨pj,0,none⟩),vI n] w (Ret λv w'=>v=vI (mU s n).2/\Oe w0 pj F rs (mU s n).1 w w'):=by
 have Y:=J;obtain⟨p,U,V,a8,a0,a,bb,c,bc,a9,ac,rfl,J⟩:=J;apply Cu;have bq:=H.n0;have h1:=H.n1;have bs:=H.few;have al:i64.wrap ((1099511627776:Int)-s.now)=1099511627776-s.now:=wrJ;have I:n<0\/1099511627776-s.now<n->(vI 122=vI (mU s n).2/\Oe w0 pj [pj,p,U,V] rs (mU s n).1 w w):=λe=>by
  unfold mU;rw[if_pos e];exact⟨rfl,Oe.same Y (Chg.refl _ _)⟩
 refine⟨λX=>X=w/\ ¬ (n<0\/1099511627776-s.now<n),?_,aQ.of ?_ _⟩
 ·refine af.of (λe=>I (.inl (of_decide_eq_true e))) (λe=>⟨rfl,rfl,rfl,_,J.cell.load1 bB rfl (i:=0) rfl,?_⟩);rw[al];refine af.of (λD=>I (.inr (of_decide_eq_true D))) (λD=>⟨rfl,?_⟩);have:=of_decide_eq_false e;have:=of_decide_eq_false D;omega
 ·rintro X ⟨ar,ag⟩;rw[ar];have an:i64.wrap (s.now+n)=s.now+n:=wrJ;obtain⟨bk,bj,Z,M⟩:=J.cell.put iO (i:=0) (v:=vI (s.now+n)) (show 0<3 by decide) rfl rfl;have q:=J.time M Z;refine⟨rfl,rfl,rfl,_,J.cell.load1 bB rfl (i:=0) rfl,rfl,rfl,rfl,bk,by rw[an];exact bj,rfl,rfl,rfl,rfl,rfl,_,λu G=>(q.below G).cell.load1 cx rfl (i:=2) rfl,_,λu G=>(q.below G).cell.load1 bB rfl (i:=0) rfl,λb4 E=>?_⟩;refine aA (sM (q.below E).shf (by show s.L.length <=_;omega) (s.now+n)) ?_;rintro _ b3 ⟨⟨b2,rfl⟩,aj,O⟩;refine⟨_,rfl,?_⟩;unfold mU;rw[if_neg ag];refine⟨rfl,Oe.same ⟨p,U,V,a8,a0,a,bb,c,bc,a9,ac,rfl,(q.below E).step O aj⟩ ?_⟩;exact((Chg.grown M (mem_cons_self ..)).step E).trans (O.mono λk ad=>mem_cons_of_mem _ ad)
theorem Nu (o:c.ok)(s:VE c)(w:World):Cf zY #[c.v] w (Ret λv w'=>v=vS (me c)/\bW w w'):=by
 apply Mb;intro I M D G;obtain⟨O,q,V⟩:=jS (P:=prog) (Below.refl w.heap.size w) D G;have a1:au M I ah c.cells:=au.new D G;have h1:=s.nm;have U:=s.vl;unfold me;refine⟨rfl,_,a1.load1 ax rfl (i:=0) rfl,af.of (λe=>?_) (λe=>?_)⟩
 ·have e:c.name=[]:=by simpa using e
  rw[if_pos e];exact⟨rfl,_,a1.load1 ax rfl (i:=1) rfl,rfl,q⟩
 ·have e: ¬ c.name=[]:=by simpa using e
  rw[if_neg e];refine⟨rfl,_,a1.load1 ax rfl (i:=0) rfl,fits (by simp;omega),λX E=>⟨rfl,_,a1.load1 ax rfl (i:=1) rfl,fits (by rw[E];simp;omega),λY H=>⟨by rw[H,E],q⟩⟩⟩
theorem Nv (M:Env w0)(J:KT w0 pj F rs s w)(o:c.ok)(ad:c.host.name.length <=1000000000):
 Cf om #[.pointer (some ⟨pj,0,none⟩),c.v] w (Ret λv w'=>v=vS (np rs c.host)/\bW w w'):=by
 obtain⟨p,a9,bb,ar,an,a,n,c',bc,a0,al,rfl,J⟩:=J;apply Cv;intro V Y O U;obtain⟨aj,D,a8⟩:=jS (P:=prog) (Below.refl w.heap.size w) O U;have a3:au Y V ah c.cells:=au.new O U;have G:=J.below D;have X:∀{wx},bW Y wx->(Instr.loadAt ai (.pointer (some ⟨V,2,none⟩))).run prog wx=.ok c.host.v wx:=λH=>aR.load (a3.below H) (i:=2) (us:=c.host.cells) (Hst.len o) (λj ac=>jp o ac);refine⟨rfl,rfl,_,λu q=>(G.below q).cell.load1 pb rfl (i:=1) rfl,rfl,_,λu q=>X q,FH rs c.host,λu q=>?_,λag I=>?_⟩
 ·refine(HV M (G.below q).tab o ad).mono ?_;rintro e w' ⟨v,rfl,rfl,H⟩;exact⟨rfl,H.mono q.size⟩
 ·have E:=ae D I D.size;unfold np;refine af.of (λe=>?_) (λe=>?_)
  ·have e: ¬ FH rs c.host=[]:=by simpa using e
   rw[if_neg e];exact⟨rfl,E⟩
  ·have e:FH rs c.host=[]:=by simpa using e
   rw[if_pos e];refine⟨rfl,_,X I,?_⟩;refine aA (se o ag (M.step (G.below I).tab.hb)) ?_;rintro _ bj ⟨rfl,Z⟩;exact⟨_,rfl,rfl,ae E Z E.size⟩
end
theorem Qg {x c:Cky}(E:x.ok)(G:c.ok)(a8:x.host.name.length <=1000000000)(ad:c.host.name.length <=1000000000)(b4:x.path.length <=1000000000)(b0:c.path.length <=1000000000)(bb:Env w)(bc:au w n ah c.cells):
 Cf bH #[x.v,.pointer (some ⟨n,0,none⟩)] w (Ret λv w'=>v=.bool (Ae x c)/\bW w w'):=by
 apply qy;intro an q aj al;obtain⟨bs,H,b1⟩:=jS (P:=prog) (Below.refl w.heap.size w) aj al;have a2:au q an ah x.cells:=au.new aj al;have a3:=bc.below H;have ag:=bb.step H;have a0:∀{wx},bW q wx->(Instr.loadAt ai (.pointer (some ⟨an,2,none⟩))).run prog wx=.ok x.host.v wx:=λV=>aR.load (a2.below V) (i:=2) (us:=x.host.cells) (Hst.len E) (λj Y=>jp E Y);have ar:∀{wx},bW q wx->(Instr.loadAt ai (.pointer (some ⟨n,2,none⟩))).run prog wx=.ok c.host.v wx:=λV=>aR.load (a3.below V) (i:=2) (us:=c.host.cells) (Hst.len G) (λj Y=>jp G Y);have Z:=Below.refl q.heap.size q;refine rv (λb w'=>b=(AQ x.host c.host || AQ c.host x.host)/\bW q w') ?_ ?_
 ·refine⟨rfl,_,a0 Z,rfl,_,ar Z,?_⟩;refine aA (jH E G a8 ad q ag) ?_;rintro _ bk ⟨rfl,D⟩;refine⟨_,rfl,af.of (λe=>⟨by rw[e];rfl,D⟩) (λe=>?_)⟩;refine⟨rfl,_,ar D,rfl,_,a0 D,?_⟩;refine aA (jH G E ad a8 bk (ag.step D)) ?_;rintro _ b2 ⟨rfl,a9⟩;exact⟨_,rfl,by rw[e];rfl,ae D a9 D.size⟩
 ·rintro b bq ⟨rfl,X⟩;have M:=ae H X H.size;have O:=a2.below X;have ac:=a3.below X;unfold Ae;refine⟨rfl,_,O.load1 bK rfl (i:=22) (bi E 2),af.of (λe=>?_) (λe=>⟨by rw[e];rfl,M⟩)⟩;refine⟨rfl,_,O.load1 ax rfl (i:=0) rfl,rfl,_,ac.load1 ax rfl (i:=0) rfl,af.of (λI=>?_) (λI=>⟨by rw[e,I];rfl,M⟩)⟩;refine af.of (λU=>?_) (λU=>⟨by rw[e,I,U];rfl,M⟩);refine⟨rfl,_,ac.load1 ax rfl (i:=21) (bi G 1),rfl,_,O.load1 ax rfl (i:=21) (bi E 1),?_⟩;refine aA (yd c.path x.path (by omega) bq) ?_;rintro _ b3 ⟨rfl,bj⟩;rw[bj];exact⟨_,rfl,by rw[e,I,U];rfl,M⟩
theorem NF {a:Option Addr}{l c':Nat}{xs:List Cky}(U:Sl qD w A a l c' xs)(bj:xs.length <=1000000)(D:∀x∈xs,x.ok/\x.host.name.length <=1000000000/\x.path.length <=1000000000)(a0:c.ok)(Z:c.host.name.length <=1000000000)(ac:c.path.length <=1000000000)
 (ag:Env w) {X:Nat} (an:au w X ah c.cells):
 Cf bv #[.slice a l c',.func (.func bH) #[] #[.pointer (some ⟨X,0,none⟩)]] w (Ret λv w'=>(∃n:Int,v=vI n/\decide (n >=0)=xs.any λx=>Ae x c)/\bW w w'):=by
 apply dB;have al:=U.len;subst al;refine⟨λm i Y=>∃k:Nat,k <=xs.length/\i=(k:Int)/\m=xs.length-k/\(∀x∈xs.take k,Ae x c=false)/\bW w Y,⟨_,0,by omega,rfl,rfl,(λx D=>by rw[List.take_zero]at D;cases D),Below.refl _ _⟩,?_⟩;intro bq bk;refine aQ.of ?_ _;rintro Y ⟨k,bc,rfl,rfl,H,q⟩;refine af.of (λM=>?_) (λM=>?_)<;>simp only[dTx,dFx]at M
 ·have E:k<xs.length:=by omega
  have V:=U.below q;obtain⟨aj,-⟩:=lW aN V E;refine⟨⟨⟨by omega,by omega⟩,V.isSome E⟩,_,aj,?_⟩;have O:=getElem_mem E;obtain⟨a8,a9,bb⟩:=D _ O;have ar:i64.wrap ((k:Int)+1)=((k+1:Nat):Int):=by rw[wrJ];omega
  try dsimp only
  rw[ar];refine aA (Qg a8 a0 a9 Z bb ac (ag.step q) (an.below q)) ?_;rintro _ bs ⟨rfl,ad⟩;have I:=ae q ad q.size;refine⟨_,rfl,af.of (λG=>⟨⟨_,rfl,?_⟩,I⟩) (λG=>⟨xs.length-(k+1),by omega,k+1,by omega,rfl,rfl,?_,I⟩)⟩
  ·try dsimp only
   rw[decide_eq_true (show(k:Int) >=0 by omega)];exact(List.any_eq_true.2 ⟨_,O,G⟩).symm
  ·intro y e;rw[fH E,List.mem_append]at e;rcases e with e|e
   ·exact H y e
   ·rw[mem_singleton]at e;subst e;exact G
 ·have:k=xs.length:=by omega
  subst this;rw[take_length]at H;refine⟨⟨_,rfl,?_⟩,q⟩;rw[show decide ((-1:Int) >=0)=false by decide];symm;rw[List.any_eq_false];intro x D;rw[H x D];decide
section
variable {w0:World} {pj:Nat} {F:List Nat} {rs:List Rul} {s:JS} {w:World}
theorem Ei (ad:Env w0)(J:KT w0 pj F rs s w)(e:JI s m)(bs:m <=1000000)(ar:c.ok)(X:c.host.name.length <=1000000000)(Y:c.path.length <=1000000000):
 Cf jw #[.pointer (some ⟨pj,0,none⟩),c.v] w (Ret λv w'=>v=.bool (s.L.any λk=>Ae k.c c)/\bW w w'):=by
 have H:=J.base.1;obtain⟨p,b4,b5,b1,b0,a,n,c',b7,b2,bb,rfl,J⟩:=J;apply uG;intro U a0 M O;obtain⟨a9,q,b3⟩:=jS (P:=prog) (Below.refl w.heap.size w) M O;have a3:au a0 U ah c.cells:=au.new M O;have E:=J.below q;have bj:=e.few;have bq:=e.last;refine⟨rfl,rfl,_,E.cell.load1 cx rfl (i:=2) rfl,?_⟩;refine aA (Ba E.shf (by omega) (by omega)) ?_;rintro _ a8 ⟨a',an,V,rfl,aj,bk,G⟩;have D:=ae q G q.size;refine⟨_,_,_,rfl,?_⟩;refine aA (?_:Cf cC #[.slice a' an V,.func (.func bH) #[] #[.pointer (some ⟨U,0,none⟩)]] a8 (Ret λv w'=>v=.bool (s.L.any λk=>Ae k.c c)/\bW w w')) ?_
 ·apply dj;refine aA (NF aj.all (by rw[length_map];omega) (λx al=>?_) ar X Y (ad.step (ae H D H.size)) (a3.below G)) ?_
  ·obtain⟨k,I,rfl⟩:=List.mem_map.1 al;have h1:=ke k.ok (e.right k I);have bc:=(e.sm k I).pt;exact⟨k.ok,by omega,by omega⟩
  ·rintro _ b9 ⟨⟨b6,rfl,ag⟩,ac⟩;refine⟨_,rfl,?_,ae D ac D.size⟩;rw[ag,List.any_map];rfl
 ·rintro _ b8 ⟨rfl,Z⟩;exact⟨_,rfl,rfl,Z⟩
theorem P3 (J:KT w0 pj F rs s w)(cj:ShI s.L s.last)(ch:s.L.length <=1000000)(t:lU):
 Cf pO #[.pointer (some ⟨pj,0,none⟩),vS t] w (Ret λv w'=>v=.tuple #[]/\KT w0 pj F rs ⟨XT t s.L,s.last,s.now⟩ w'/\Chg F w w'):=by
 obtain⟨p,Z,ac,a9,a8,a,n,c',bc,bb,ag,rfl,J⟩:=J;apply ER;unfold XT;refine⟨λm O=>∃e:List Kpt,m=e.length/\e.length <=1000000/\ShI e s.last/\QK t (QG t s.L.length s.L) e/\IH w0 kC aZ bm bE pj p Z ac a9 a8 a n c' bc bb ag rs ⟨e,s.last,s.now⟩ O/\Chg [pj,p,Z,ac] w O,
  ⟨_,s.L,rfl,ch,cj,QK.of _ _,J,Chg.refl _ _⟩,?_⟩
 intro c3;refine aQ.of ?_ _;rintro O ⟨G,rfl,b2,ar,b7,I,bj⟩;refine⟨rfl,rfl,_,I.cell.load1 cx rfl (i:=2) rfl,?_⟩;refine aA (HQ I.shf t) ?_;rintro _ c5 ⟨rfl,ck⟩;rw[ck];refine⟨_,rfl,af.of (λq=>⟨rfl,rfl,?_⟩) (λq=>?_)⟩
 ·have q:50<jm G t:=by have q:((jm G t:Nat):Int)>50:=of_decide_eq_true q;omega
  obtain⟨E,al,an,ad⟩:=b7.next ar q;refine⟨_,I.cell.load1 cx rfl (i:=2) rfl,?_⟩;refine aA (FG I.shf t) ?_;rintro _ cn ⟨rfl,b3⟩;have b9:=I.below b3;refine⟨_,_,rfl,?_⟩;rw[al];refine aN.new (zs:=mq.cells) (cs:=E.c.cells) (Cky.len (by rfl)) (Cky.len E.ok) (Cky.one _) cn λc1 ct cu cb b4=>?_;have bq:=b9.below b4;refine⟨rfl,rfl,_,λu H=>(bq.below H).cell.load1 cx rfl (i:=2) rfl,_,λu H=>aN.load0 (cb.below H) (Cky.len E.ok),λcr Y=>?_⟩;have bs:=bq.below Y;refine aA (mf bs.shf (by show G.length <=_;omega) E.ok) ?_;rintro _ c6 ⟨rfl,a0,V⟩;have X:=uf an;exact⟨_,rfl,_,X,_,rfl,Nat.le_trans (Nat.le_of_lt X) b2,ar.filter _,ad,bs.step V a0,((((bj.step b3).step b4).step Y).trans (V.mono λk aj=>mem_cons_of_mem _ aj))⟩
 ·have q: ¬ 50<jm G t:=by have q: ¬ ((jm G t:Nat):Int)>50:=of_decide_eq_false q;omega
  rw[<- b7.stop q];refine⟨λm O=>∃e:List Kpt,m=e.length/\e.length <=1000000/\ShI e s.last/\QL (RF G.length G) e/\IH w0 kC aZ bm bE pj p Z ac a9 a8 a n c' bc bb ag rs ⟨e,s.last,s.now⟩ O/\Chg [pj,p,Z,ac] w O,
   ⟨_,G,rfl,b2,ar,QL.of _,I,bj⟩,?_⟩
  intro c4;refine aQ.of ?_ _;rintro c9 ⟨U,rfl,ce,b8,ad,M,bk⟩;refine⟨rfl,rfl,_,M.cell.load1 cx rfl (i:=2) rfl,?_⟩;refine aA (Mm M.shf) ?_;rintro _ c7 ⟨rfl,cl⟩;rw[cl];refine⟨_,rfl,af.of (λD=>⟨rfl,rfl,?_⟩) (λD=>?_)⟩
  ·have D:3000<U.length:=by have D:((U.length:Nat):Int)>3000:=of_decide_eq_true D;omega
   obtain⟨E,al,an,cf⟩:=ad.next b8 D;refine⟨_,M.cell.load1 cx rfl (i:=2) rfl,?_⟩;refine aA (uM M.shf) ?_;rintro _ cp ⟨rfl,b5⟩;have ca:=M.below b5;refine⟨_,_,rfl,?_⟩;rw[al];refine aN.new (zs:=mq.cells) (cs:=E.c.cells) (Cky.len (by rfl)) (Cky.len E.ok) (Cky.one _) cp λc2 ct c0 cc b6=>?_;have b0:=ca.below b6;refine⟨rfl,rfl,_,λu H=>(b0.below H).cell.load1 cx rfl (i:=2) rfl,_,λu H=>aN.load0 (cc.below H) (Cky.len E.ok),λcr Y=>?_⟩;have b1:=b0.below Y;refine aA (mf b1.shf (by show U.length <=_;omega) E.ok) ?_;rintro _ c8 ⟨rfl,a0,V⟩;have X:=uf an;exact⟨_,rfl,_,X,_,rfl,Nat.le_trans (Nat.le_of_lt X) ce,b8.filter _,cf,b1.step V a0,((((bk.step b5).step b6).step Y).trans (V.mono λk aj=>mem_cons_of_mem _ aj))⟩
  ·have D: ¬ 3000<U.length:=by have D: ¬ ((U.length:Nat):Int)>3000:=of_decide_eq_false D;omega
   rw[<- ad.stop D];exact⟨rfl,⟨p,Z,ac,a9,a8,a,n,c',bc,bb,ag,rfl,M⟩,bk⟩
end
section
variable {w0:World} {pj:Nat} {F:List Nat} {rs:List Rul} {s:JS} {w:World}
theorem P2 (ac:Env w0)(J:KT w0 pj F rs s w)(a9:JI s m)(em:m <=100000){u:Url}(o:u.ok)(ew:u.host.name.length <=1000000)(d4:u.path.length <=1000000)(t:lU)(eq:t.length <=10000000):
 Cf pN #[.pointer (some ⟨pj,0,none⟩),u.v,vS t] w (Ret λv w'=>v=vI (xB rs s u o t).2/\Oe w0 pj F rs (xB rs s u o t).1 w w'):=by
 have a8:=J.base.1;obtain⟨p,G,H,ag,bb,a,n,c',bj,bc,ar,rfl,J⟩:=J;apply EQ;intro c1 c2 cl c0;obtain⟨d9,al,es⟩:=jS (P:=prog) (Below.refl w.heap.size w) cl c0;have a4:au c2 c1 bf u.cells:=au.new cl c0;have d8:=J.below al;have Z:∀{aj:World} {e:Int},bW w aj->xB rs s u o t=(s,e)->(vI e=vI (xB rs s u o t).2/\Oe w0 pj [pj,p,G,H] rs (xB rs s u o t).1 w aj):=fun{aj e} a0 h=>by
  rw[h];exact⟨rfl,Oe.same ⟨p,G,H,ag,bb,a,n,c',bj,bc,ar,rfl,J.below a0⟩ (Chg.of a0)⟩
 refine⟨_,pr.load0 a4 (Url.len o),?_⟩;refine aA (sR o (by omega) c2 (ac.step (ae a8 al a8.size))) ?_;rintro _ d5 ⟨rfl,cc⟩;have B12:=ae al cc al.size;refine⟨_,rfl,af.of (λI=>Z B12 (by unfold xB;rw[if_pos (by simpa using I)])) (λI=>?_)⟩;have I: ¬ nN u=false:=by simpa using I
 refine aA (sd t (by omega) d5 (ac.step (ae a8 B12 a8.size))) ?_;rintro _ d6 ⟨rfl,ce⟩;have B16:=ae B12 ce B12.size;refine⟨_,_,_,_,_,_,_,_,_,_,_,_,rfl,?_⟩;refine Jo (bI t).1 d6 λer aj ei dn cj=>?_;have X:=ae B16 cj B16.size;refine af.of (λM=>Z X (by unfold xB;rw[if_neg I,if_pos (by simpa using M)])) (λM=>⟨rfl,rfl,rfl,rfl,rfl,?_⟩);have M: ¬ (bI t).2≠0:=by simpa using M
 have b0:=((a4.below cc).below ce).below cj;have bs:=J.below X;have et:=b0.lt;have q:(jR rs u (bI t).1 s.now).1.ok:=N2 o _ _;have U: ¬ (jR rs u (bI t).1 s.now).2≠0->xB rs s u o t=if u.sec=false/\s.L.any (λk=>Ae k.c (jR rs u (bI t).1 s.now).1)=true then(s,121)
  else(I5 rs s (jR rs u (bI t).1 s.now).1 q,0):=λe=>by
  unfold xB;rw[if_neg I,if_neg M,if_neg e]
 have b4:(jR rs u (bI t).1 s.now).2≠0->xB rs s u o t=(s,(jR rs u (bI t).1 s.now).2):=λe=>by
  unfold xB;rw[if_neg I,if_neg M,if_pos e]
 have b2:(jR rs u (bI t).1 s.now).2=0->VE (jR rs u (bI t).1 s.now).1/\cT (jR rs u (bI t).1 s.now).1.host=true/\(jR rs u (bI t).1 s.now).1.born=s.now/\(jR rs u (bI t).1 s.now).1.used=s.now:=
  λe=>⟨TI d4 (yk t) e,KM e⟩
 have cu:∀bk:World,bW aj bk->Cf nv #[.pointer (some ⟨ag,0,none⟩),u.v,(bI t).1.v,vI s.now] bk λdl w34=>dl=.returned (YV (jR rs u (bI t).1 s.now))/\bW bk w34:=λbk ad=>by
  refine(IX ac (bs.below ad).tab o (by omega) (by omega) (bI t).1 (yk t) s.now).mono ?_;rintro e w' ⟨v,rfl,rfl,a0⟩;exact⟨rfl,a0⟩
 clear I M;generalize xB rs s u o t=da at*;generalize jR rs u (bI t).1 s.now=de at*;obtain⟨D,e⟩:=de;simp only at q U b4 b2;unfold YV at cu;refine⟨_,λu ad=>(bs.below ad).cell.load1 pb rfl (i:=1) rfl,_,λx E=>pr.load0 (b0.below E) (Url.len o),_,_,_,_,_,_,_,_,_,_,_,λx E=>fY _ (dn.below E),_,λu ad=>(bs.below ad).cell.load1 bB rfl (i:=0) rfl,D.v,e,cu,?_⟩;intro d2 ek d7 cp d1;have c4:=ae X cp X.size;have en:=X.size;obtain⟨b5,d3,ca,b9⟩:=aN.store0 (P:=prog) (cs:=D.cells) (Cky.len q) (Cky.one D) (show au d7 d2 ah mq.cells from d1) (Cky.len (by rfl));have V:=Below.put c4 b9 (by omega);have c6:=J.below V;have dc:au b5 c1 bf u.cells:=(b0.below cp).grown b9 (bA (by omega));refine⟨b5,d3,af.of (λY=>Z V (b4 (by simpa using Y))) (λY=>?_)⟩;have Y:e=0:=by simpa using Y
 obtain⟨dk,dg,ea,ee⟩:=b2 Y;have U:=U (by omega);have eb:=ke q dg;have ed:=dk.pt;have eg:=a9.few;have el:=a9.last;refine⟨λc3=>bW b5 c3/\da=(I5 rs s D q,0),?_,aQ.of ?_ _⟩
 ·refine⟨rfl,_,dc.load1 bK rfl (i:=0) rfl,af.of (λO=>?_) (λO=>⟨Below.refl _ _,?_⟩)⟩
  ·have O:u.sec=false:=by simpa using O
   refine⟨_,aN.load0 ca (Cky.len q),?_⟩;refine aA (Ei (F:=[pj,p,G,H]) ac ⟨p,G,H,ag,bb,a,n,c',bj,bc,ar,rfl,c6⟩ a9 (by omega) q (by omega) (by omega)) ?_;rintro _ ex ⟨rfl,cf⟩;refine⟨_,rfl,af.of (λb1=>Z (ae V cf V.size) ?_) (λb1=>⟨cf,?_⟩)⟩
   ·rw[U,if_pos ⟨O,b1⟩]
   ·rw[U,if_neg (λh=>by rw[b1]at h;exact absurd h.2 (by decide))]
  ·have O: ¬ u.sec=false:=by simpa using O
   rw[U,if_neg (λh=>O h.1)]
 ·rintro c3 ⟨ck,ct⟩;have bq:=ae V ck V.size;have c9:=J.below bq;have cb:=ca.below ck;rw[ct];clear U b4 b2 Z ct;unfold I5;refine⟨_,aN.load0 cb (Cky.len q),?_⟩;refine aA (Nv (F:=[pj,p,G,H]) ac ⟨p,G,H,ag,bb,a,n,c',bj,bc,ar,rfl,c9⟩ q (by omega)) ?_;rintro _ ey ⟨rfl,ch⟩;have B50:=ae bq ch bq.size;have J50:=J.below B50;have dp:=cb.below ch;have ds:=NK s.L s.last ⟨D,np rs D.host,q⟩;have cn:=a9.sh.put ⟨D,np rs D.host,q⟩;refine⟨_,rfl,rfl,rfl,_,λx E=>(J50.below E).cell.load1 cx rfl (i:=2) rfl,_,λx E=>aN.load0 (dp.below E) (Cky.len q),λe2 dw=>?_⟩;have b6:=ae B50 dw B50.size;have J51:=J.below b6;refine aA (Mn J51.shf (by omega) (by omega) ⟨D,np rs D.host,q⟩) ?_;unfold ZC;generalize rb s.L s.last ⟨D,np rs D.host,q⟩=P at*;generalize np rs D.host=st at*;obtain⟨an,lp⟩:=P;simp only at ds cn;rintro _ e0 ⟨rfl,dx,b7⟩;have J57:=J51.step b7 dx;refine⟨_,rfl,rfl,rfl,rfl,rfl,rfl,_,λx E=>(J57.below E).cell.load1 cx rfl (i:=2) rfl,_,λx E=>(J57.below E).cell.load1 bB rfl (i:=0) rfl,λe3 cr=>?_⟩;have J58:=J57.below cr;have dr:ShI (Ic an s.now) lp:=cn.filter _;have ef:=RD an s.now;refine aA (sM J58.shf (by show an.length <=_;omega) s.now) ?_;rintro _ e1 ⟨⟨ev,rfl⟩,d0,b8⟩;have c7:=J58.step b8 d0;refine⟨_,rfl,?_⟩;refine aA (P3 (F:=[pj,p,G,H]) ⟨p,G,H,ag,bb,a,n,c',bj,bc,ar,rfl,c7⟩ dr (by show(Ic an s.now).length <=_;omega) st) ?_;rintro _ w70 ⟨rfl,c8,dd⟩;have c5:Chg [pj,p,G,H] w w70:=((((Chg.of b6).trans (b7.mono λk b3=>mem_cons_of_mem _ b3)).step cr).trans (b8.mono λk b3=>mem_cons_of_mem _ b3)).trans dd;exact⟨rfl,rfl,Oe.same c8 c5⟩
end
theorem VD {zs:List Value}(h:BS zs)(n:Nat)(E:zs≠[]):∀v∈(Builtin.zeroCells zs.toArray n).toList,v.oneCell'=true:=by
 intro v e;unfold Builtin.zeroCells at e;rw[Array.toList_map]at e;obtain⟨i,_,rfl⟩:=List.mem_map.1 e;have D:0<zs.toArray.size:=by simpa[List.length_pos_iff]using E
 have q:=Nat.mod_lt i D;rw[getElem!_pos zs.toArray _ q];exact h _ (by simp)
theorem Chg.row {S:List Nat}{a b c:World}{row:Option Nat}(h:Chg S a b)(g:b.grownBy c row)(E:∀r,row=some r->a.heap.size <=r\/r∈S):Chg S a c:=
 ⟨g.os.trans h.os,g.tape.trans h.tape,g.output.trans h.output,Nat.le_trans h.size g.size,λi e q=>(g.block i (Nat.lt_of_lt_of_le e h.size) (λD=>by
  rcases E i D.symm with h1|h1
  ·omega
  ·exact q h1)).trans (h.block i e q)⟩
theorem xG {w0 w w':World}{a:Option Addr}(h:bW w0 w)(D:w.grownBy w' (eP a))(q:bU w0.heap.size a):bW w0 w':=h.grown D h.size λr e=>q r e
theorem Ec {α:Type}(p:α->Bool)(l:List α)(x:α):(l++[x]).filter p=if p x=true then l.filter p++[x]else l.filter p:=by
 rw[List.filter_append,filter_cons,List.filter_nil];split<;>simp
theorem VC (w:World):(zeroValue ah).run prog w=.ok mq.v w:=by kernel_rfl
theorem Rc {a:Option Addr}{n c:Nat}{xs:List Cky}(bk:Ow qD ah w NoB a n c xs)(b1:i <=n):
 ∃O,(Builtin.clear_ #[aP] kF #[.slice (bw a c i 29) (n-i) (c-i)]).run prog w=.ok (.tuple #[]) O/\Ow qD ah O NoB a i c (xs.take i)/\w.grownBy O (eP a):=by
 obtain⟨E,bj,U,Z⟩:=bk;by_cases al:n-i=0
 ·have:i=n:=by omega
  subst this;refine⟨w,?_,⟨by rw[length_take];omega,bj,U,?_⟩,⟨rfl,rfl,rfl,Nat.le_refl _,λ_ _ _=>rfl⟩⟩
  ·rw[al];unfold Builtin.clear_;cases bw a c i 29<;>simp[bQ gm]
  ·rw[E,take_length];rcases Z with h|⟨g,cur,q,h1,an,ar,a0,a8⟩
   ·exact .inl h
   ·exact .inr ⟨g,cur,q,h1,an,ar,a0,by rw[<- E];exact a8⟩
 ·rcases Z with⟨_,rfl,rfl⟩|⟨g,cur,q,rfl,Y,X,V,I⟩
  ·simp at E;omega
  ·have e:qD.k=29:=rfl;rw[e]at V I;have ac:(Builtin.zeroCells mq.v.cells (n-i)).toList.length=(n-i)*29:=by
    rw[Array.length_toList];unfold Builtin.zeroCells;rw[Array.size_map,Array.size_range];rfl
   have M:=VD (Cky.one mq) (n-i) (by decide);obtain⟨z,H⟩:∃z,z=mq.v:=⟨_,rfl⟩
   have b0:∀w,(zeroValue ah).run prog w=.ok z w:=λw=>by rw[H];exact VC w
   have M:∀v∈(Builtin.zeroCells z.cells (n-i)).toList,v.oneCell'=true:=by rw[H];exact M
   rw[<- H]at ac;clear H;have a9:i*29+0+(Builtin.zeroCells z.cells (n-i)).toList.length <=cur.size:=by rw[ac,V];omega
   have G:=gJ (P:=prog) g (i*29) ah q (Builtin.zeroCells z.cells (n-i)).toList 0 cur w Y a9 X M;rw[Nat.add_zero]at G;have bs:bw (some ⟨g,0,none⟩) c i 29=some ⟨g,i*29,none⟩:=by
    unfold bw;rw[if_neg (by omega)];simp[Addr.add];intro h;omega
   obtain⟨ad,bq⟩:∃ad,n-i=ad+1:=⟨n-i-1,by omega⟩
   refine⟨w.setRow g (cur.toList.take (i*29)++(Builtin.zeroCells z.cells (n-i)).toList++cur.toList.drop (i*29+(Builtin.zeroCells z.cells (n-i)).toList.length)).toArray,?_,⟨by rw[length_take];omega,by omega,U,.inr ⟨g,_,q,rfl,setRow_heap w g cur _ ah q Y,?_,?_,?_⟩⟩,fc w g _⟩
   ·rw[bs];unfold Builtin.clear_;rw[bq]at G ⊢;simp only[]at G ⊢;simp[bQ gm,b0,G,-append_assoc]
   ·intro j D;refine X j ?_;rw[List.size_toArray,length_append,length_append,length_take,length_drop,Array.length_toList]at D;omega
   ·rw[e,List.size_toArray,length_append,length_append,length_take,length_drop,Array.length_toList];omega
   ·have ag:((cur.toList.take (i*29)++(Builtin.zeroCells z.cells (n-i)).toList++cur.toList.drop (i*29+(Builtin.zeroCells z.cells (n-i)).toList.length)).toArray).toList.take (i*qD.k)=(cur.toList.take (n*29)).take (i*29):=by
     rw[e];rw[append_assoc,List.take_append_of_le_length (by rw[length_take,Array.length_toList];omega),take_take,take_take];congr 1;omega
    rw[ag];have bc:(cur.toList.take (n*29)).length=n*29:=by have:=I.len;rw[e]at this;rw[this,<- E]
    refine⟨by rw[length_take,bc,e,length_take];omega,λj D=>?_⟩;have bb:j<xs.length:=by rw[length_take]at D;omega
    have b2:j<i:=by rw[length_take]at D;omega
    have h1:=(I.rep j bb)
    rw[e]at h1 ⊢;rw[List.getElem_take];have aj:(((cur.toList.take (n*29)).take (i*29)).drop (j*29)).take 29=((cur.toList.take (n*29)).drop (j*29)).take 29:=by
     rw[List.drop_take,take_take];congr 1;omega
    rw[aj];exact⟨h1.1,h1.2⟩
section
variable {w0:World} {pj:Nat} {F:List Nat} {rs:List Rul} {s:JS} {wb:World} {r:Req} {kr kp:Nat}
structure YR (w0:World)(pj:Nat)(F:List Nat)(rs:List Rul)(s:JS)(r:Req)(kr kp:Nat)(wb:World):Prop where
 he:Env w0
 J:KT w0 pj F rs s wb
 hr:au wb kr aX r.cells
 hp:au wb kp fe [.pointer (some ⟨pj,0,none⟩)]
 or:r.ok
 rn:r.host.name.length <=1000000000
theorem RM (O:YR w0 pj F rs s r kr kp wb){x:Cky}(M:x.ok)(ar:x.host.name.length <=1000000000)(b2:x.path.length <=1000000000)(G:bW wb w):
 Cf cw #[x.v,.pointer (some ⟨kr,0,none⟩),.pointer (some ⟨kp,0,none⟩)] w (Ret λv w'=>v=.bool (!eQ x r s.now)/\bW w w'):=by
 obtain⟨X,J,ad,Y,or,al⟩:=O;have D:=J.base.1;obtain⟨p,bq,bs,bc,bb,a,n,c',b0,bj,a9,rfl,J⟩:=J;apply yy;intro aj an H I;obtain⟨a0,E,bk⟩:=jS (P:=prog) (Below.refl w.heap.size w) H I;have a3:au an aj ah x.cells:=au.new H I;have q:=ae G E G.size;have U:=J.below q;have ag:=ad.below q;have Z:=Y.below q;refine⟨_,λu e=>aN.load0 (a3.below e) (Cky.len M),_,λu e=>io.load0 (ag.below e) (Req.len or),_,λu e=>(Z.below e).load1 nO rfl (i:=0) rfl,rfl,rfl,rfl,_,λu e=>(U.below e).cell.load1 bB rfl (i:=0) rfl,eQ x r s.now,λu e=>?_,λb1 ac=>⟨rfl,ae E ac E.size⟩⟩;refine(GI M or ar al (by omega) s.now u (X.step (ae (ae D q D.size) e (ae D q D.size).size))).mono ?_;rintro a8 w' ⟨v,rfl,rfl,V⟩;exact⟨rfl,V.mono e.size⟩
theorem Ns (Z:YR w0 pj F rs s r kr kp wb){a:Option Addr}{l c':Nat}{xs:List Cky}(V:Sl qD w A a l c' xs)(a9:xs.length <=1000000)(G:∀x∈xs,x.ok/\x.host.name.length <=1000000000/\x.path.length <=1000000000)(O:bW wb w):
 Cf bv #[.slice a l c',.func (.func cw) #[] #[.pointer (some ⟨kr,0,none⟩),.pointer (some ⟨kp,0,none⟩)]] w
  (Ret λv w'=>((v=vI (-1)/\∀x∈xs,eQ x r s.now=true)\/∃k:Nat,v=vI (k:Int)/\k<xs.length/\∀x∈xs.take k,eQ x r s.now=true)/\(∀k:Nat,v=vI (k:Int)->∀h:k<xs.length,eQ xs[k] r s.now=false)/\bW w w'):=by
 apply dV;have aj:=V.len;subst aj;refine⟨λm i Y=>∃k:Nat,k <=xs.length/\i=(k:Int)/\m=xs.length-k/\(∀x∈xs.take k,eQ x r s.now=true)/\bW w Y,⟨_,0,by omega,rfl,rfl,(λx G=>by rw[List.take_zero]at G;cases G),Below.refl _ _⟩,?_⟩;intro bc bb;refine aQ.of ?_ _;rintro Y ⟨k,a8,rfl,rfl,E,q⟩;refine af.of (λU=>?_) (λU=>?_)<;>simp only[dTx,dFx]at U
 ·have D:k<xs.length:=by omega
  have X:=V.below q;obtain⟨ad,-⟩:=lW aN X D;refine⟨⟨⟨by omega,by omega⟩,X.isSome D⟩,_,ad,?_⟩;have ag:=getElem_mem D;obtain⟨an,ar,a0⟩:=G _ ag;have al:i64.wrap ((k:Int)+1)=((k+1:Nat):Int):=by rw[wrJ];omega
  try dsimp only
  rw[al];refine aA (RM Z an ar a0 (ae O q O.size)) ?_;rintro _ bj ⟨rfl,ac⟩;have M:=ae q ac q.size;refine⟨_,rfl,af.of (λH=>⟨.inr ⟨k,rfl,D,E⟩,λk' I h'=>?_,M⟩) (λH=>⟨xs.length-(k+1),by omega,k+1,by omega,rfl,rfl,?_,M⟩)⟩
  ·have:k=k':=by injection I with _ h;omega
   subst this;simpa using H
  ·intro y e;rw[fH D,List.mem_append]at e;rcases e with e|e
   ·exact E y e
   ·rw[mem_singleton]at e;subst e;simpa using H
 ·have:k=xs.length:=by omega
  subst this;rw[take_length]at E;refine⟨.inl ⟨rfl,E⟩,λk' I h'=>?_,q⟩;injection I with _ h;omega
theorem Nc (ar:YR w0 pj F rs s r kr kp wb){a:Option Addr}{l c':Nat}{xs:List Cky}(M:Ow qD ah w NoB a l c' xs)(bb:bU wb.heap.size a)(cb:xs.length <=1000000)(b0:∀x∈xs,x.ok/\x.host.name.length <=1000000000/\x.path.length <=1000000000)(ac:bW wb w):
 Cf cG #[.slice a l c',.func (.func cw) #[] #[.pointer (some ⟨kr,0,none⟩),.pointer (some ⟨kp,0,none⟩)]] w
  (Ret λv w'=>∃b3:Nat,v=.slice a b3 c'/\Ow qD ah w' NoB a b3 c' (xs.filter λx=>eQ x r s.now)/\bW wb w'):=by
 apply dP;have cc:=M.len;have c3:=M.2.1;refine aA (Ns ar M.all cb b0 ac) ?_;rintro v c6 ⟨ch,b8,a8⟩;have bq:=M.below a8;have al:=ae ac a8 ac.size;rcases ch with⟨rfl,b6⟩|⟨k,rfl,bj,ce⟩
 ·refine⟨_,rfl,af.yes rfl ⟨l,rfl,?_,al⟩⟩;rw[List.filter_eq_self.2 b6];exact bq
 have ck:=b8 k rfl bj;refine⟨_,rfl,af.no (by simp only[beq_eq_false_iff_ne];omega) ?_⟩;have b7:(xs.take k).filter (λx=>eQ x r s.now)=xs.take k:=List.filter_eq_self.2 ce;have ag:(xs.take (k+1)).filter (λx=>eQ x r s.now)=xs.take k:=by
  rw[fH bj,Ec,if_neg (by rw[ck];decide),b7]
 refine⟨λm i j X=>∃(e:Nat) (ys:List Cky),e <=xs.length/\j=(e:Int)/\m=xs.length-e/\i=((((xs.take e).filter λx=>eQ x r s.now).length:Nat):Int)/\((xs.take e).filter λx=>eQ x r s.now).length<e/\ys.length=xs.length/\
  ys.take ((xs.take e).filter λx=>eQ x r s.now).length=((xs.take e).filter λx=>eQ x r s.now)/\ys.drop e=xs.drop e/\Ow qD ah X NoB a l c' ys/\bW wb X,
  ⟨_,k+1,xs,by omega,by rw[wrJ];omega,rfl,by rw[ag,length_take];omega,by rw[ag,length_take];omega,rfl,by rw[ag,length_take];congr 1;omega,rfl,bq,al⟩,?_⟩
 intro m i j;refine aQ.of ?_ _;rintro X ⟨e,ys,c4,rfl,rfl,rfl,ca,b2,V,U,O,Bl⟩;have c2:l=xs.length:=cc;refine af.of (λbc=>?_) (λbc=>?_)<;>simp only[dTx,dFx]at bc
 ·have H:e<xs.length:=by omega
  have I:e<ys.length:=by omega
  have cl:ys[e]=xs[e]:=by
   have h1:=drop_eq_getElem_cons I;have Z:=drop_eq_getElem_cons H;rw[h1,Z]at U;exact(List.cons.inj U).1
  have b1:ys.drop (e+1)=xs.drop (e+1):=by
   have h1:=drop_eq_getElem_cons I;have Z:=drop_eq_getElem_cons H;rw[h1,Z]at U;exact(List.cons.inj U).2
  obtain⟨bk,-⟩:=lW aN O.all I;rw[cl]at bk;refine⟨⟨⟨by omega,by omega⟩,O.all.isSome I⟩,_,bk,?_⟩;obtain⟨G,cu,c0⟩:=b0 _ (getElem_mem H);have D:=Ec (λx=>eQ x r s.now) (xs.take e) xs[e];rw[<- fH H]at D;have cj:i64.wrap ((e:Int)+1)=((e+1:Nat):Int):=by rw[wrJ];omega
  try dsimp only
  rw[cj];generalize xs[e]=x at*;refine aN.new (zs:=mq.cells) (cs:=x.cells) (Cky.len (by rfl)) (Cky.len G) (Cky.one _) X λc5 c8 c1 a0 a9=>?_;have Y:=ae Bl a9 Bl.size;refine⟨_,aN.load0 a0 (Cky.len G),?_⟩;refine aA (RM ar G cu c0 Y) ?_;rintro _ c7 ⟨rfl,ad⟩;have an:=ae Y ad Y.size;have aj:=(O.below a9).below ad;refine⟨_,rfl,af.of (λE=>?_) (λE=>?_)⟩
  ·have E:eQ x r s.now=true:=by simpa using E
   rw[if_pos E]at D;generalize (xs.take e).filter (λx=>eQ x r s.now)=q at*;have b9:((q.length:Nat):Int).toNat<ys.length:=by omega
   obtain⟨cr,cn,cf,b4⟩:=Ow.store (k:=29) mg aj (λ_ _ h=>h) (i:=((q.length:Nat):Int)) b9 rfl (v:=x.v) (x:=x) ⟨rfl,G⟩;refine⟨_,aN.load0 (a0.below ad) (Cky.len G),⟨⟨by omega,by omega⟩,aj.all.isSome (i:=q.length) (by omega)⟩,cr,cn,xs.length-(e+1),by omega,e+1,ys.set q.length x,by omega,rfl,rfl,?_,?_,?_,?_,?_,?_,?_⟩
   ·rw[D,wrJ,length_append];simp
   ·rw[D,length_append];simp;omega
   ·rw[List.length_set];exact b2
   ·rw[D,length_append];show(ys.set q.length x).take (q.length+1)=_;rw[take_succ_eq_append_getElem (by rw[List.length_set];omega),List.getElem_set_self,List.take_set_of_le (Nat.le_refl _),V]
   ·rw[List.drop_set_of_lt (by omega),b1]
   ·simpa using cf
   ·exact xG an b4 bb
  ·have E:eQ x r s.now=false:=by simpa using E
   rw[if_neg (by rw[E];decide)]at D;exact⟨xs.length-(e+1),by omega,e+1,ys,by omega,rfl,rfl,by rw[D],by rw[D];omega,b2,by rw[D];exact V,b1,aj,an⟩
 ·have:e=xs.length:=by omega
  subst this;rw[take_length]at ca V;rw[take_length];generalize xs.filter (λx=>eQ x r s.now)=q at*;obtain⟨ct,cp,bs,b5⟩:=Rc O (i:=q.length) (by omega);refine⟨⟨by omega,by omega⟩,ct,cp,⟨by omega,by omega⟩,q.length,rfl,?_,xG Bl b5 bb⟩;rw[V]at bs;exact bs
end
open Go.Sort (grow SWO)
theorem Pf:∀xs:List lU,Dh xs=Lib.join xs [59,32]
 |[]=>rfl
 |[x]=>by simp[Dh,Lib.join,List.intercalate]
 |x::y::r=>by
  have:=Pf (y::r);show x++[59,32]++Dh (y::r)=_;rw[this];simp[Lib.join,List.intercalate,List.intersperse]
theorem RO (w:World)(e q D E:Obj):(((w.alloc e).alloc q).alloc D).alloc E=grow (w.drewN 0) #[e,q,D,E]:=by
 unfold grow World.alloc;simp only[World.drewN,Nat.add_zero];congr 1
theorem Ow.chg {α:Type}{T:Ty α}{w w':World}{a:Option Addr}{n c:Nat}{xs:List α}{S:List Nat}(h:Ow T t w NoB a n c xs)(D:Chg S w w')(E:∀g,eP a=some g->g∉S):Ow T t w' NoB a n c xs:=
 h.keep (D.keep.mono λb q=>q.elim (λx=>x.elim) λe=>E b e.symm)
theorem Sl.chg {α:Type}{T:Ty α}{w w':World}{a:Option Addr}{n c:Nat}{xs:List α}{S:List Nat}(h:Sl T w A a n c xs)(q:Chg S w w')(hA:∀b,A b->b∉S):Sl T w' A a n c xs:=h.keep (q.keep.mono λb e=>hA b e)
theorem Q7 {w w':World}{row:Option Nat}(e:w.grownBy w' row):Chg row.toList w w':=⟨e.os,e.tape,e.output,e.size,λk D E=>e.block k D λq=>E (by rw[<- q];simp)⟩
theorem IH.row {w0:World}{V X Y U:TypeId}{O p I M H G:Nat}{a:Option Addr}{n c:Nat}{rs:List Rul}{s:JS}{w w':World}(J:IH w0 V X Y U O p I M H G a n c h y z rs s w){row:Option Nat}(Z:w.grownBy w' row)
 (E:∀r,row=some r->r∉[O,p,I,M]/\w0.heap.size <=r/\r≠H/\r≠G/\eP a≠some r):IH w0 V X Y U O p I M H G a n c h y z rs s w':=by
 have q:=Q7 Z;have D:∀k∈row.toList,row=some k:=λk e=>by cases row with|none=>cases e|some r=>simp at e;rw[e]
 exact⟨q.arr J.cell λm=>(E _ (D _ m)).1 (mem_cons_self ..),J.shf.chg q λk e m=>(E _ (D _ m)).1 (mem_cons_of_mem _ e),J.tab.chg q λk e=>(E _ (D _ e)).2,J.far,J.own⟩
theorem IH.lts {w0:World}{M O U I:TypeId}{G p D E q e:Nat}{a:Option Addr}{n c:Nat}{rs:List Rul}{s:JS}(J:IH w0 M O U I G p D E q e a n c h y z rs s w):
 ∀r,w.heap.size <=r->r∉[G,p,D,E]/\w0.heap.size <=r/\r≠q/\r≠e/\eP a≠some r:=λr ac=>by
 have h1:=J.shf.lts;have V:=J.cell.lt;have X:=J.tab.h1.lt;have Y:=J.tab.h2.lt;have Z:=J.tab.hb.size;refine⟨?_,by omega,by omega,by omega,λH=>by have:=J.tab.h3.lt _ H;omega⟩;simp;omega
instance  (priority:=low) allKpt:Inhabited {k:Kpt // (λ_=>True) k} :=⟨⟨ky,trivial⟩⟩
theorem Yn (x y: {k:Kpt // (λ_=>True) k}):Go.Proofs.ltOf (λx y: {k:Kpt // (λ_=>True) k} =>if dH x.1.c y.1.c=true then(-1:Int)else 1) x y=dH x.1.c y.1.c:=by
 show decide ((if dH x.1.c y.1.c=true then(-1:Int)else 1)<0)=_;by_cases h:dH x.1.c y.1.c=true
 ·rw[if_pos h,h];rfl
 ·rw[if_neg h];have:dH x.1.c y.1.c=false:=by simpa using h
  rw[this];rfl
theorem Yo:SWO (Go.Proofs.ltOf λx y: {k:Kpt // (λ_=>True) k} =>if dH x.1.c y.1.c=true then(-1:Int)else 1):=by
 have e:=Yn;constructor
 ·intro x;rw[e];unfold dH;simp
 ·intro x y z h1 q;rw[e]at*;exact DC h1 q
 ·intro x y z h1 q;rw[e]at*;unfold dH at*;simp only[Bool.or_eq_false_iff,Bool.and_eq_false_iff,dFx]at*;omega
theorem WT (W:World)(x y:Kpt):Cf iL #[x.c.v,y.c.v] W λe w'=>e=.returned (vI (if dH x.c y.c=true then(-1:Int)else 1))/\∃q os',w'=grow (W.drewN q) os':=by
 refine(yz x.c.v y.c.v (K:=λv w'=>v=vI (if dH x.c y.c=true then(-1:Int)else 1)/\∃q os',w'=grow (W.drewN q) os') ?_).mono ?_
 ·intro I M O H X E U D;have a2:au E I ah x.c.cells:=(au.new O H:au M I ah x.c.cells).below (D▸ao M _);have a3:au E X ah y.c.cells:=au.new U D;refine⟨_,aN.load0 a2 (Cky.len x.ok),_,aN.load0 a3 (Cky.len y.ok),?_⟩;refine aA (GH x.ok y.ok E) ?_;rintro _ Y ⟨rfl,V⟩;have G:∃q os',Y=grow (W.drewN q) os':=⟨0,_,by rw[V,D,H];exact RO _ _ _ _ _⟩
  exact⟨_,rfl,af.of (λe=>⟨by rw[if_pos e],G⟩) (λe=>⟨by rw[if_neg (by rw[e];decide)],G⟩)⟩
 ·rintro e w' ⟨v,rfl,rfl,h⟩;exact⟨rfl,h⟩
section
variable {w0:World} {pj:Nat} {F:List Nat} {rs:List Rul} {s:JS} {w:World}
theorem PZ (d0:Env w0)(J:KT w0 pj F rs s w)(H:JI s m)(e6:m <=100000){r:Req}(or:r.ok)(fo:r.host.name.length <=1000000):
 Cf pL #[.pointer (some ⟨pj,0,none⟩),r.v] w (Ret λv w'=>v=.string (mkS (OK s r).2)/\Oe w0 pj F rs (OK s r).1 w w'):=by
 obtain⟨p,I,M,b3,b2,a,n,c',b5,b4,bc,rfl,J⟩:=J;apply EP;intro ar es ck c1 c4 w3 cl c2;obtain⟨ex,c7,fb⟩:=jS (P:=prog) (Below.refl w.heap.size w) ck c1;obtain⟨dk,a0,fd⟩:=jS (P:=prog) c7 cl c2;have a2:au w3 ar fe [.pointer (some ⟨pj,0,none⟩)]:=(au.new ck c1:au es ar fe [.pointer (some ⟨pj,0,none⟩)]).below dk;have a3:au w3 c4 aX r.cells:=au.new cl c2;have X:=J.below a0;have c9:YR w0 pj [pj,p,I,M] rs s r c4 ar w3:=⟨d0,⟨p,I,M,b3,b2,a,n,c',b5,b4,bc,rfl,X⟩,a3,a2,or,by omega⟩
 have e1:=H.few;have e4:=H.last;refine⟨_,a2.load1 nO rfl (i:=0) rfl,rfl,rfl,_,X.cell.load1 cx rfl (i:=2) rfl,?_⟩;refine aA (Ba X.shf (by omega) (by omega)) ?_;rintro _ f2 ⟨b8,e9,b9,rfl,d5,bk,ds⟩;refine⟨_,_,_,rfl,?_⟩;refine aA (Nc c9 d5 bk (by rw[length_map];omega) (λx Z=>?_) ds) ?_
 ·obtain⟨k,G,rfl⟩:=List.mem_map.1 Z;have h1:=ke k.ok (H.right k G);have ey:=(H.sm k G).pt;exact⟨k.ok,by omega,by omega⟩
 rintro _ f3 ⟨er,rfl,cu,B15⟩;refine⟨_,_,_,rfl,?_⟩;have d2:(s.L.map Kpt.c).filter (λx=>eQ x r s.now)=(s.L.filter λk=>eQ k.c r s.now).map Kpt.c:=by rw[List.filter_map];rfl
 rw[d2]at cu;have e2:(s.L.filter λk=>eQ k.c r s.now).length <=s.L.length:=List.length_filter_le ..;refine(Mq (Q:=λ_=>True) _ Yo iL (enters_of func72 (by kernel_rfl) rfl) (λW x y=>WT W x.1 y.1) (λ_ _=>trivial) cu (by omega)).mono ?_;rintro _ w17 ⟨rfl,ys,d8,ea,aj,dx⟩;refine⟨rfl,?_⟩;have dr:ys.map (·.1)=z8 s.L r s.now:=by
  refine KK (R:=λa b=>dH a.c b.c) (d8.trans (oV s.L r s.now).symm) ?_ (Nq H.sh r s.now);rw[List.pairwise_map];refine ea.imp fun{a b} h=>?_;exact(Yn b a).symm.trans h
 rw[dr]at aj;have B17:bW w3 w17:=B15.trans (dx.below B15.size (λk G=>bk k (by simpa using G)));have da:=X.below B17;have dc:=a2.below B17;have cc:∀x∈z8 s.L r s.now,x∈s.L:=λx Z=>(List.mem_filter.1 ((oV s.L r s.now).mem_iff.1 Z)).1;have e0:(z8 s.L r s.now).length <=m:=by
  rw[(oV s.L r s.now).length_eq];omega
 unfold OK;generalize z8 s.L r s.now=e at*;have d4:er=e.length:=by have:=aj.len;rw[length_map]at this;exact this
 subst d4;have ed:Sl qD w17 (λb=>w3.heap.size <=b/\b<w17.heap.size) b8 e.length b9 (e.map Kpt.c):=aj.sl (λ_ _ h=>h.elim) λg U=>⟨bk g U,aj.lt g U⟩
 have ct:=X.lts;have fr:=B17.size;have c8:Chg [pj,p,I,M] w w17:=(Chg.of a0).step B17;have fn:=a2.lt;refine⟨λm a6 c5 ca i D=>∃k:Nat,k <=e.length/\i=(k:Int)/\m=e.length-k/\Ow tS ak D NoB a6 c5 ca ((e.take k).map λx=>me x.c)/\bU w17.heap.size a6/\
  IH w0 kC aZ bm bE pj p I M b3 b2 a n c' b5 b4 bc rs ⟨xx s.L (e.take k) s.now,s.last,s.now⟩ D/\au D ar fe [.pointer (some ⟨pj,0,none⟩)]/\Sl qD D (λb=>w3.heap.size <=b/\b<w17.heap.size) b8 e.length b9 (e.map Kpt.c)/\Chg [pj,p,I,M] w D/\w17.heap.size <=D.heap.size,
  ⟨_,0,by omega,rfl,rfl,Ow.nil _ _ _ _,(λg U=>by cases U),da,dc,ed,c8,Nat.le_refl _⟩,?_⟩
 intro fl a6 c5 ca e7;refine aQ.of ?_ _;rintro D ⟨k,G,rfl,rfl,b0,bq,a8,de,b1,b6,f1⟩;refine af.of (λch=>?_) (λch=>?_)<;>simp only[dTx,dFx]at ch
 ·have bs:k<e.length:=by omega
  have cr:k<(e.map Kpt.c).length:=by rw[length_map];exact bs
  obtain⟨cn,-⟩:=lW aN b1 cr;rw[getElem_map]at cn;refine⟨⟨⟨by omega,by omega⟩,b1.isSome cr⟩,_,cn,?_⟩;have V:=e[k].ok;have ew:=H.sm _ (cc _ (getElem_mem bs));have ek:i64.wrap ((k:Int)+1)=((k+1:Nat):Int):=by rw[wrJ];omega
  try dsimp only
  rw[ek];have c0:e.take (k+1)=e.take k++[e[k]]:=fH bs;have eg:(e.take k).length=k:=by rw[length_take];omega
  generalize e[k]=x at*;refine aN.new (zs:=mq.cells) (cs:=x.c.cells) (Cky.len (by rfl)) (Cky.len V) (Cky.one _) D λen f6 e3 cb ag=>?_;have a9:=a8.below ag;have bb:=de.below ag;refine⟨_,λu q=>(bb.below q).load1 nO rfl (i:=0) rfl,rfl,rfl,_,λu q=>(a9.below q).cell.load1 cx rfl (i:=2) rfl,_,λu q=>aN.load0 (cb.below q) (Cky.len V),_,λu q=>(bb.below q).load1 nO rfl (i:=0) rfl,rfl,rfl,rfl,_,λu q=>(a9.below q).cell.load1 bB rfl (i:=0) rfl,λf5 al=>?_⟩;have ac:=ae ag al ag.size;have b7:=a9.below al;refine aA (Mo b7.shf V s.now) ?_;rintro _ et ⟨rfl,eb,E⟩;have bj:∀b,w3.heap.size <=b->b∉[p,I,M]:=λb ad h=>(ct b ad).1 (mem_cons_of_mem _ h);have J34:=b7.step E eb;have dd:=E.arr (bb.below al) (by
   have h1:=J.shf.lts;simp;omega)
  have dp:=E.arr (cb.below al) (bj en (by omega));have d7:=(b0.below ac).chg E λg U=>bj g (by have:=bq g U;omega);have ee:=(b1.below ac).chg E λb ad=>bj b ad.1;have C34:=(b6.step ac).trans (E.mono λk G=>mem_cons_of_mem _ G);refine⟨_,rfl,_,aN.load0 dp (Cky.len V),?_⟩;refine aA (Nu V ew et) ?_;rintro _ c6 ⟨rfl,ce⟩;refine⟨_,rfl,λem w38 d3 c3=>?_⟩;have dw:bW c6 w38:=c3▸ao c6 _;have O:=ae ce dw ce.size;have ef:Src tS w38 NoB (some ⟨em,0,none⟩) 1 [me x.c]:=Src.new1F (ec _) d3 c3 (gB trivial);obtain⟨ev,dg,eq,dl,d9,d6,Y,d1⟩:=eU (ty:=aO) dW cK (by decide) (d7.below O) (λ_ _ h=>h) (cm:=1) ef (by rw[length_map,eg];simp;omega);have fq:=ac.size;have fs:=E.size;have fv:=O.size;have f0:=Y.size;have an:∀r,eP a6=some r->w17.heap.size <=r:=λr h=>bq r h;have ei:xx s.L (e.take (k+1)) s.now=H1 (xx s.L (e.take k) s.now) (x.c.plc V) s.now:=by
   unfold xx;rw[c0,foldl_append];rfl
  refine⟨ev,dg,eq,dl,d9,e.length-(k+1),by omega,k+1,by omega,rfl,rfl,?_,bq.app (by omega) d1,?_,?_,?_,?_,by omega⟩
  ·rw[c0,map_append];exact d6
  ·rw[ei];exact(J34.below O).row Y λr h=>ct r (by have:=an r h;omega)
  ·exact(dd.below O).grown Y (λdn=>by have:=an _ dn.symm;omega)
  ·exact(ee.below O).chg (Q7 Y) λb ad h=>by
    have:=an b (by simpa using h);omega
  ·exact(C34.step O).row Y λr h=>.inl (by have:=an r h;have:=a0.size;omega)
 ·have:k=e.length:=by omega
  subst this;rw[take_length]at b0 a8;have cp:=Ts (B:=2300000) (e.map λx=>me x.c) (λz el=>by
   obtain⟨x,Z,rfl⟩:=List.mem_map.1 el;exact KG (H.sm _ (cc _ Z)))
  rw[length_map]at cp;have e5:(Dh (e.map λx=>me x.c)).length <=100000*(2300000+2):=Nat.le_trans cp (Nat.mul_le_mul_right _ (by omega));have cj:=Pf (e.map λx=>me x.c);refine aA (Ek b0.all [59,32] (by rw[length_map];omega) (by rw[<- cj];omega)) ?_;rintro _ f4 ⟨rfl,cf⟩;refine⟨_,rfl,?_,Oe.same ⟨p,I,M,b3,b2,a,n,c',b5,b4,bc,rfl,a8.below cf⟩ (b6.step cf)⟩;rw[cj]
end
theorem M4 {k k':Nat}{cur:Array Value}{t t':TypeId}{q:Nat×Nat}{E:List Value}(h:w.heap[k]? =some (.cells cur t q))(h':au w k' t' E)(D:t≠t'):k≠k':=λe=>by
 subst e;have h':w.heap[k]? =_:=h';rw[h]at h';have:=Option.some.inj h';injection this with _ h2 _
 exact D h2
section
variable {w0:World} {pj:Nat} {F:List Nat} {rs:List Rul} {s:JS} {w:World}
theorem Sf (J:KT w0 pj F rs s w){cur:Array Value}{H:Nat×Nat}(D:w.heap[k]? =some (.cells cur t H))(h1:t≠kC)(G:t≠aZ)(O:t≠bm)(U:t≠bE):
 k∉F/\∀w',w0.heap.size <=k->w.grownBy w' (some k)->KT w0 pj F rs s w':=by
 obtain⟨p,ma,ms,ad,km,a,n,c,bb,ag,M,rfl,J⟩:=J;obtain⟨bc,S,V,X,_,_⟩:=J.shf.ex;have aj:=M4 D J.cell h1;have al:=M4 D J.shf.cell G;have an:=M4 D J.tab.h1 O;have ar:k≠ma:=λq=>by
  obtain⟨x,y,e,_⟩:=V;subst q;rw[D]at e;cases e
 have a0:k≠ms:=λq=>by
  obtain⟨x,y,e,_⟩:=X;subst q;rw[D]at e;cases e
 have a8:k≠km:=λq=>by
  obtain⟨x,y,e,_⟩:=J.tab.h2;subst q;rw[D]at e;cases e
 have a9:eP a≠some k:=λq=>by
  rcases J.tab.h3.2.2.2 with⟨E,_⟩|⟨g,cur,H,E,e,_⟩
  ·rw[E]at q;cases q
  ·rw[E]at q;have:g=k:=by simpa[eP]using q
   subst this;rw[D]at e;have:=Option.some.inj e;injection this with _ G _
   exact U G
 have I:k∉[pj,p,ma,ms]:=by simp;exact⟨aj,al,ar,a0⟩
 refine⟨I,λw' Z Y=>⟨p,ma,ms,ad,km,a,n,c,bb,ag,M,rfl,J.row Y λr ac=>?_⟩⟩;cases ac;exact⟨I,Z,an,a8,a9⟩
theorem Ik (J:KT w0 pj F rs s w){a:Option Addr}{n c:Nat}{xs:List lU}(H:Ow tS ak w NoB a n c xs):
 (∀g,eP a=some g->g∉F)/\∀w',bU w0.heap.size a->w.grownBy w' (eP a)->KT w0 pj F rs s w':=by
 rcases H.2.2.2 with⟨rfl,_⟩|⟨g,cur,M,rfl,E,_⟩
 ·refine⟨λg h=>(by cases h),λw' _ e=>?_⟩;exact J.below ⟨e.os,e.tape,e.output,e.size,λk G=>e.block k G (λq=>by cases q)⟩
 ·have:=Sf J E (by decide) (by decide) (by decide) (by decide);refine⟨λx I=>?_,λw' D e=>this.2 w' (D g rfl) e⟩;have:g=x:=by simpa[eP]using I
  subst this;exact this.1
end
def ZR:lU:=[101,114,114,111,114,32]
def Qy (e:Int):lU:=if e=0 then[111,107]else ZR++AP e.toNat
noncomputable def OH (rs:List Rul)(s:JS)(o:OpR)(ok:o.ok):Int:=if o.kind=1 then(xB rs s o.url ok.uo o.text).2 else if o.kind=3 then(mU s o.n).2 else if o.kind=4 then 0 else 131
noncomputable def Pe (rs:List Rul)(s:JS)(o:OpR)(ok:o.ok):lU:=if o.kind=2 then CW (OK s o.req).2 else Qy (OH rs s o ok)
noncomputable def nk (rs:List Rul):JS->List OpK->List lU
 |_,[]=>[]
 |s,o::l=>Pe rs s o.o o.ok::nk rs (doV rs s o.o o.ok) l
theorem Dg (rs:List Rul):∀(l:List OpK) (s:JS),(nk rs s l).length=l.length
 |[],_=>rfl
 |o::l,s=>by rw[nk,length_cons,length_cons,Dg rs l]
theorem FA (rs:List Rul):∀(l m:List OpK) (s:JS),nk rs s (l++m)=nk rs s l++nk rs (A9 rs s l) m
 |[],m,s=>rfl
 |o::l,m,s=>by rw[cons_append,nk,nk,FA rs l m,cons_append];rfl
theorem Mk (rs:List Rul)(o:OpK)(l:List OpK)(s:JS):nk rs s (l++[o])=nk rs s l++[Pe rs (A9 rs s l) o.o o.ok]:=FA rs l [o] s
theorem UU {os:List OpR}(h:∀o∈os,o.ok):∃q:List OpK,q.map (·.o)=os:=by
 have e:(os.attachWith OpR.ok h).map (·.1)=os:=by simp
 exact⟨(os.attachWith OpR.ok h).map λy=>⟨y.1,y.2⟩,by rw[List.map_map];exact e⟩
theorem Xx (h:0 <=a):TO a.toNat=Qy a:=by
 unfold TO Qy;by_cases c:a=0
 ·rw[if_pos (by omega),if_pos c]
 ·rw[if_neg (by omega),if_neg c];rfl
theorem Tg (t:lU):0 <=(bI t).2/\(bI t).2 <=1000:=by
 unfold bI;split
 ·dsimp only;omega
 split
 ·dsimp only;omega
 split<;>(dsimp only;omega)
theorem Xt (rs:List Rul)(u:Url)(h:Hdr)(e:Int):0 <=(jR rs u h e).2/\(jR rs u h e).2 <=1000:=by
 have h1:0 <=Np u h e/\Np u h e <=1000:=by
  unfold Np;split
  ·decide
  split
  ·decide
  split
  ·decide
  split<;>decide
 have q:∀t,0 <=(mu rs u.host t).2.2/\(mu rs u.host t).2.2 <=1000:=by
  intro t;unfold mu;split
  ·dsimp only;omega
  split
  ·dsimp only;omega
  split
  ·dsimp only;omega
  split<;>(dsimp only;omega)
 have D:∀d:Hst×Bool×Int,0 <=d.2.2/\d.2.2 <=1000->0 <=Ib u h d/\Ib u h d <=1000:=by
  intro d E;unfold Ib;split
  ·exact E
  split
  ·decide
  split
  ·decide
  split<;>decide
 unfold jR;split
 ·exact h1
 split
 ·exact D _ (q _)
 ·dsimp only;omega
theorem Tt (rs:List Rul)(s:JS)(u:Url)(e:u.ok)(t:lU):0 <=(xB rs s u e t).2/\(xB rs s u e t).2 <=1000:=by
 unfold xB;split
 ·dsimp only;omega
 split
 ·exact Tg t
 split
 ·exact Xt _ _ _ _
 split<;>(dsimp only;omega)
theorem VZ {B:Nat} :∀l:List lU,(∀x∈l,x.length <=B)->QJ l <=l.length*B
 |[],_=>Nat.zero_le _
 |x::l,h=>by
  have h1:=VZ l λy e=>h y (mem_cons_of_mem _ e);have q:=h x mem_cons_self;rw[QJ,length_cons,Nat.add_mul,Nat.one_mul];omega
theorem Lr {s:JS}(h:JI s 1000)(r:Req):(OK s r).2.length <=1000000000000:=by
 have G:=(List.length_filter_le (λk:Kpt=>eQ k.c r s.now) s.L)
 have H:=h.few;have q:=VZ (B:=2200001) ((s.L.filter λk=>eQ k.c r s.now).map λk=>me k.c) λx D=>by
  obtain⟨k,e,rfl⟩:=List.mem_map.1 D;have:=h.sm k (List.mem_filter.1 e).1;have h1:=this.nm;have E:=this.vl;unfold me;split
  ·omega
  ·simp;omega
 rw[length_map]at q;rw[WU];omega
theorem Pp (s:JS)(n:Int):0 <=(mU s n).2/\(mU s n).2 <=1000:=by
 unfold mU;split<;>(dsimp only;omega)
theorem uq (e:Int)(q:0 <=e/\e <=1000)(w:World)(D:Env w):Cf fX #[vI e] w (Ret λv w'=>v=vS (Qy e)/\bW w w'):=by
 have:=HP e.toNat (by omega) w D
 rwa [Int.toNat_of_nonneg q.1,Xx q.1]at this
structure RnS (wb w0:World)(pj:Nat)(rs:List Rul)(s:JS)(a:Option Addr)(n c:Nat)(xs:List lU)(w:World):Prop where
 ex:∃F,KT w0 pj F rs s w/\∀x∈F,wb.heap.size <=x
 ow:Ow tS ak w NoB a n c xs
 fr:bU wb.heap.size a
 hb:bW wb w
section
variable {wb w0:World} {pj:Nat} {rs:List Rul} {s:JS} {a:Option Addr} {n c:Nat} {xs:List (List UInt8)} {w:World}
theorem RnS.below (R:RnS wb w0 pj rs s a n c xs w){w':World}(h:bW w w'):RnS wb w0 pj rs s a n c xs w':=by
 obtain⟨F,J,e⟩:=R.ex;exact⟨⟨F,J.below h,e⟩,R.ow.below h,R.fr,ae R.hb h R.hb.size⟩
theorem RnS.step (R:RnS wb w0 pj rs s a n c xs w){F:List Nat}(J:KT w0 pj F rs s w)(e:∀x∈F,wb.heap.size <=x){s':JS}{w':World}(h:Oe w0 pj F rs s' w w'):RnS wb w0 pj rs s' a n c xs w':=by
 obtain⟨D,E,q,G⟩:=h;exact⟨⟨D,E,λx H=>(G x H).elim (e x) λh=>Nat.le_trans R.hb.size h⟩,R.ow.chg q (Ik J R.ow).1,R.fr,R.hb.trans (q.below R.hb.size e)⟩
theorem RnS.push (R:RnS wb w0 pj rs s a n c xs w)(H:w0.heap.size <=wb.heap.size)(x:lU)(ad:xs.length <=1000000):∀(k:Nat) (w1:World),k=w.heap.size->w1=w.alloc (.cells #[vS x] ak)->
 ∃(w2:World) (a':Option Addr) (E c':Nat),(Builtin.append_ #[aO,aO] aO #[.slice a n c,.slice (some ⟨k,0,none⟩) 1 1]).run prog w1=.ok (.slice a' E c') w2/\RnS wb w0 pj rs s a' E c' (xs++[x]) w2:=by
 intro k w1 U D;obtain⟨F,J,I⟩:=R.ex;have e:bW w w1:=D▸ao w _;have Y:Src tS w1 NoB (some ⟨k,0,none⟩) 1 [x]:=Src.new1F (vs:=[vS x]) (ec _) U D (gB trivial);obtain⟨ac,a4,Z,G,X,V,q,M⟩:=eU (ty:=aO) dW cK (by decide) (R.ow.below e) (λ_ _ h=>h) (cm:=1) Y (by simp;omega);have hB:=ae R.hb e R.hb.size;exact⟨ac,a4,Z,G,X,⟨⟨F,(Ik (J.below e) (R.ow.below e)).2 _ (λg O=>Nat.le_trans H (R.fr g O)) q,I⟩,V,R.fr.app hB.size M,hB.grown q hB.size R.fr⟩⟩
end
theorem yE {w0:World}(ad:Env w0){b0 ce:Nat}{a:Option Addr}{n c:Nat}{rs:List Rul}(S:kV w0 bm bE b0 ce a n c h y z rs w)
 {a8 q:Nat} (e:List OpK) (bk:Sl tOp w A p a8 q (e.map (·.o))) (cr:e.length <=1000):
 Cf nI #[.pointer (some ⟨b0,0,none⟩),.slice p a8 q] w (Ret λv w'=>∃a n c,v=.slice a n c/\Ow tS ak w' NoB a n c (nk rs (js0 0) e)/\bU w.heap.size a/\bW w w'):=by
 apply HI;refine aA (P1 S) ?_;rintro _ c0 ⟨b1,F,rfl,J,X,b5⟩;have bs:=S.hb.size;have env:∀{u:World},bW w u->Env u:=λb4=>ad.step (ae S.hb b4 bs);have ct:a8=e.length:=by have:=bk.len;rwa [length_map]at this
 have cb:JI (js0 0) 0:=JI.new (by decide) (by decide) 0;refine⟨_,rfl,λm a n c i w'=>∃k:Nat,k <=e.length/\i=(k:Int)/\m=e.length-k/\RnS w w0 b1 rs (A9 rs (js0 0) (e.take k)) a n c (nk rs (js0 0) (e.take k)) w',⟨_,0,Nat.zero_le _,rfl,rfl,⟨⟨F,J,X⟩,Ow.nil _ _ _ _,bU.none _,b5⟩⟩,λm a n c i=>aQ.of ?_ _⟩;rintro ch ⟨k,cn,rfl,rfl,R⟩;have Y:JI (A9 rs (js0 0) (e.take k)) 1000:=(JI.run (rs:=rs) (e.take k) cb).mono (by rw[length_take];omega);refine af.of (λag=>?_) (λag=>?_)<;>simp only[dTx,dFx]at ag
 ·have al:k<e.length:=by omega
  have bq:=bk.below R.hb;have bj:k<(e.map (·.o)).length:=by rw[length_map];exact al
  obtain⟨bc,W⟩:=JJ mh bq bj;rw[getElem_map]at bc W;have ar:A9 rs (js0 0) (e.take (k+1))=doV rs (A9 rs (js0 0) (e.take k)) e[k].o e[k].ok:=by
   rw[fH al,EG]
  have an:nk rs (js0 0) (e.take (k+1))=nk rs (js0 0) (e.take k)++[Pe rs (A9 rs (js0 0) (e.take k)) e[k].o e[k].ok]:=by
   rw[fH al,Mk]
  have a0:=Dg rs (e.take k) (js0 0);rw[length_take]at a0;refine⟨⟨⟨by omega,ag⟩,bq.isSome bj⟩,_,bc,?_⟩;have ca:i64.wrap ((k:Int)+1)=((k+1:Nat):Int):=by rw[wrJ];omega
  try dsimp only
  rw[ca];revert W Y R ar an a0;generalize A9 rs (js0 0) (e.take k)=s;generalize nk rs (js0 0) (e.take k)=xs;generalize e[k]=o;intro R Y W ar an a0;refine mh.new (zs:=ND.cells) (cs:=o.o.cells) gH (OpW.len W) (OpR.one _) ch λcu cj cp b3 b6=>?_;have a9:=R.below b6;refine aA (uq 0 (by decide) cj (env a9.hb)) ?_;rintro _ ck ⟨rfl,bb⟩;have M:=a9.below bb;have Z:=b3.below bb;obtain⟨F,I,X⟩:=M.ex;refine⟨_,rfl,λt w'=>t=Pe rs s o.o o.ok/\RnS w w0 b1 rs (doV rs s o.o o.ok) a n c xs w',⟨rfl,_,Z.load1 bC rfl (i:=0) rfl,?_⟩,λt=>aQ.of ?_ _⟩
  ·refine af.of (λq=>?_) (λq=>?_)
   ·have q:o.o.kind=1:=by simpa using q
    refine⟨rfl,_,pr.load Z (i:=1) (us:=o.o.url.cells) (Url.len o.ok.uo) (λj aj=>SV o.ok aj),rfl,_,Z.load1 ax rfl (SU o.ok),?_⟩;refine aA (P2 ad I Y (by decide) o.ok.uo o.ok.un o.ok.up _ (by have:=o.ok.tx;omega)) ?_;rintro _ V ⟨rfl,O⟩;have E:=M.step I X O;refine⟨_,rfl,?_⟩;refine aA (uq _ (Tt _ _ _ _ _) V (env E.hb)) ?_;rintro _ ac ⟨rfl,U⟩;refine⟨_,rfl,?_,?_⟩
    ·unfold Pe OH;rw[if_neg (by omega),if_pos q]
    ·rw[show doV rs s o.o o.ok=(xB rs s o.o.url o.ok.uo o.o.text).1 from by unfold doV;rw[if_pos q]];exact E.below U
   have q:o.o.kind≠1:=by simpa using q
   refine af.of (λD=>?_) (λD=>?_)
   ·have D:o.o.kind=2:=by simpa using D
    refine⟨rfl,_,io.load Z (i:=23) (us:=o.o.req.cells) (Req.len o.ok.ro) (λj aj=>O5 o.ok aj),?_⟩;refine aA (PZ ad I Y (by decide) (r:=o.o.req) o.ok.ro o.ok.rn) ?_;rintro _ V ⟨rfl,O⟩;have E:=M.step I X O;refine⟨_,rfl,?_⟩;refine aA (yh _ (Lr Y _) V) ?_;rintro _ ac ⟨rfl,U⟩;refine⟨_,rfl,?_,?_⟩
    ·unfold Pe;rw[if_pos D]
    ·rw[show doV rs s o.o o.ok=(OK s o.o.req).1 from by unfold doV;rw[if_neg q,if_pos D]];exact E.below U
   have D:o.o.kind≠2:=by simpa using D
   refine af.of (λG=>?_) (λG=>?_)
   ·have G:o.o.kind=3:=by simpa using G
    refine⟨rfl,_,Z.load1 bB rfl (XW o.ok),?_⟩;refine aA (Nt I Y (by decide) o.o.n W.hi) ?_;rintro _ V ⟨rfl,O⟩;have E:=M.step I X O;refine⟨_,rfl,?_⟩;refine aA (uq _ (Pp _ _) V (env E.hb)) ?_;rintro _ ac ⟨rfl,U⟩;refine⟨_,rfl,?_,?_⟩
    ·unfold Pe OH;rw[if_neg D,if_neg q,if_pos G]
    ·rw[show doV rs s o.o o.ok=(mU s o.o.n).1 from by unfold doV;rw[if_neg q,if_neg D,if_pos G]];exact E.below U
   have G:o.o.kind≠3:=by simpa using G
   refine af.of (λH=>?_) (λH=>?_)
   ·have H:o.o.kind=4:=by simpa using H
    refine aA (LB I) ?_;rintro _ V ⟨rfl,O⟩;have E:=M.step I X O;refine⟨rfl,?_,?_⟩
    ·unfold Pe OH;rw[if_neg D,if_neg q,if_neg G,if_pos H]
    ·rw[show doV rs s o.o o.ok=js0 s.now from by unfold doV;rw[if_neg q,if_neg D,if_neg G,if_pos H]];exact E
   ·have H:o.o.kind≠4:=by simpa using H
    refine aA (uq 131 (by decide) ck (env M.hb)) ?_;rintro _ ac ⟨rfl,U⟩;refine⟨_,rfl,?_,?_⟩
    ·unfold Pe OH;rw[if_neg D,if_neg q,if_neg G,if_neg H]
    ·rw[show doV rs s o.o o.ok=s from by unfold doV;rw[if_neg q,if_neg D,if_neg G,if_neg H]];exact M.below U
  ·rintro V ⟨rfl,E⟩ cc ac b7 b9;obtain⟨cl,a',cf,c',b8,b2⟩:=E.push bs _ (by omega) cc ac b7 b9;exact⟨cl,a',cf,c',b8,e.length-(k+1),by omega,k+1,by omega,rfl,rfl,by rw[ar,an];exact b2⟩
 ·have:k=e.length:=by omega
  subst this;rw[take_length]at R;exact⟨_,_,_,rfl,R.ow,R.fr,R.hb⟩
theorem TR {u:Url}(o:u.ok):u.cells[20]? =some (vS u.path):=by
 unfold Url.cells;rw[show 20=19+1 from rfl,List.getElem?_cons_succ,List.getElem?_append_right (by rw[Hst.len o];decide),Hst.len o];rfl
theorem Tn {r:Req}(o:r.ok):r.cells[2]? =some (vS r.host.name):=by
 unfold Req.cells;rw[show 2=1+1 from rfl,List.getElem?_cons_succ,List.getElem?_append_left (by rw[Hst.len o];decide)];rfl
theorem To {r:Req}(o:r.ok):r.cells[19]? =some (vS r.path):=by
 unfold Req.cells;rw[show 19=18+1 from rfl,List.getElem?_cons_succ,List.getElem?_append_right (by rw[Hst.len o];decide),Hst.len o];rfl
theorem uH (a:Option Addr)(b c:Nat)(d:Option Addr)(e f:Nat){w K}(h:uB iR #[] w λg i=>af (!g) (K (.bool false) i) (∃j:FP [],(uB pQ #[.slice d e f] i λk l=>af k (K (.bool true) l) (af (decide ((b:Int)>(12:Int))) (K (.bool true) l) (j l)))/\aQ 8 (∀k,j k->∃l:Nat->FP [shI],(∃m,l m (0:Int) k)/\∀m n,aQ 10 (∀o,l m n o->af (decide (n<(b:Int))) ((bx n (b:Int)/\Option.isSome a=true)/\∃p q,Ld aJ (av a n 2) o (.agg #[vI p,vS q])/\nA o (.cells #[vI 0,vS []] aJ) λr s=>∃t,Sv aJ (vA r 0) (.agg #[vI p,vS q]) s t/\true/\∃u,Ld ak (vA r 1) t (vS u)/\af (decide (((length u:Nat):Int)>(200:Int))) (K (.bool true) t) (∃v:Nat,v<m/\l v (i64.wrap (n+1)) t)) (uP nK #[.slice a b c] o λp q=>uL nI #[.pointer p,.slice d e f] q λr s t u=>uL wS #[.slice a b c,.slice d e f] u λv x y z=>uB nC #[.slice r s t,.slice v x y] z λA B=>K (.bool A) B))))):Cf nw #[.slice a b c,.slice d e f] w (Ret K):=ru func4 [(10,[]),(22,[(18,shI)])] h
theorem sH {w K}(h:Cf oB #[vS [115,101,116,32,104,116,116,112,58,47,47,104,47,32,97,61,49,10,116,105,99,107,32,49,10,103,101,116,32,104,116,116,112,32,104,32,47,32,115,97,109,101,10]] w λa b=>∃c d e f g i,a=rT #[.slice c d e,.agg #[vI f,vI g,vI i]]/\nA b (.cells #[vI 0,vI 0,vI 0] bO) λj k=>∃l,Sv bO (vA j 0) (.agg #[vI f,vI g,vI i]) k l/\∃m n o,Ld bO (vA j 0) l (.agg #[vI m,vI n,vI o])/\∃p,(do eqGuard .eql bO (.tmp 7) (.tmp 8) (.agg #[vI m,vI n,vI o]) (.agg #[vI 0,vI 0,vI 0]);binOp .eql bO (.agg #[vI m,vI n,vI o]) (.agg #[vI 0,vI 0,vI 0]):Sem Value).run prog l=.ok (.bool p) l/\af p (uP nK #[.slice none 0 0] l λq r=>uL nI #[.pointer q,.slice c d e] r λs t u v=>nA v (.cells #[vS [111,107],vS [111,107],vS [97,61,49]] ak) λx y=>uB nC #[.slice s t u,.slice (vA x 0) 3 3] y λz A=>K (.bool z) A) (K (.bool false) l)):Cf iR #[] w (Ret K):=ru func8 [] h
theorem ES (a:Option Addr)(b c:Nat){w K}(h:∃d:Nat->FP [shI],(∃e,d e (0:Int) w)/\∀e f,aQ 40 (∀g,d e f g->af (decide (f<(b:Int))) ((bx f (b:Int)/\Option.isSome a=true)/\∃i,Ld aK (av a f 45) g i/\nA g (.cells eV aK) λj k=>∃l,Sv aK (vA j 0) i k l/\true/\∃m,Ld ak (vA j 22) l (vS m)/\af (decide (((length m:Nat):Int)>(800:Int))) (K (.bool true) l) (true/\true/\true/\∃n,Ld ak (vA j 3) l (vS n)/\af (decide (((length n:Nat):Int)>(300:Int))) (K (.bool true) l) (true/\true/\∃o,Ld ak (vA j 21) l (vS o)/\af (decide (((length o:Nat):Int)>(800:Int))) (K (.bool true) l) (true/\true/\true/\∃p,Ld ak (vA j 25) l (vS p)/\af (decide (((length p:Nat):Int)>(300:Int))) (K (.bool true) l) (true/\true/\∃q,Ld ak (vA j 42) l (vS q)/\af (decide (((length q:Nat):Int)>(800:Int))) (K (.bool true) l) (∃r:Nat,r<e/\d r (i64.wrap (f+1)) l)))))) (K (.bool (decide ((b:Int)>(40:Int)))) g))):Cf pQ #[.slice a b c] w (Ret K):=ru func12 [(6,[(7,shI)])] h
end Go.Pk
