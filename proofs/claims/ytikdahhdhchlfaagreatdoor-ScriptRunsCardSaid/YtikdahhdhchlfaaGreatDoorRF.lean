/- What the laws lean on: DateO, DateR, DateS, DateT, HdrA, HdrB, HdrC, Big, AddrA, AddrP, AddrB, AddrC, AddrD; what is used. Its conditions: none. -/
import Derived.Test.YtikdahhdhchlfaaGreatDoorRE
import Derived.Laws.CopyRow
set_option linter.unusedVariables false
set_option linter.unusedSimpArgs false
set_option linter.unusedSectionVars false
set_option maxRecDepth 100000
open List (append_assoc append_nil cons_append dropWhile_cons drop_eq_getElem_cons foldl_append foldl_cons getElem_mem length length_append length_cons length_drop length_map length_nil length_take map_append mem_cons_of_mem mem_cons_self mem_of_mem_take nil_append replicate take_append_drop take_length take_of_length_le take_succ_eq_append_getElem)
open Option (map_some)
variable {n m i j k:Nat}{s:List UInt8}{t:Go.TypeId}{w:Go.World}{P:Go.Program}{a b:Int}{y:List Nat}
open Go.IntKind (i64)
open Go.Proofs.Tryz
namespace Go.Pk
open Go.RowKit (Below)
open Go.Proofs
def HT (u:lU):Option (Int×lU):=if 1 <=(eN u).length/\(eN u).length <=2 then some (fg (eN u),u.drop (eN u).length)else none
def gd (f i:Nat)(u:lU):Option (List Int):=(HT u).bind λp=>(df f (i+1) p.2).map (p.1:: ·)
theorem nS (f i:Nat)(s:lU):df (f+1) i s=(xL i s).bind (gd f i):=by
 show(CT i s).bind _=_;unfold CT gd;cases xL i s<;>rfl
theorem Gt {f i:Nat}{u:lU}(h:HT u=none):gd f i u=none:=by unfold gd;rw[h];rfl
theorem Gu {f i:Nat}{u:lU}{p:Int×lU}(h:HT u=some p):gd f i u=(df f (i+1) p.2).map (p.1:: ·):=by unfold gd;rw[h];rfl
def Og (s:lU)(w:World)(v:Value)(w':World):Prop:=
 ∃(a:Option Addr) (n c:Nat) (b:Bool),v=.tuple #[.slice a n c,.bool b]/\bW w w'/\(gg s=none/\b=false\/∃l,gg s=some l/\b=true/\Ow TE aU w' NoB a n c l/\bU w.heap.size a)
theorem J2 (s:lU)(ce:s.length <=9223372036854775000)(w:World):Cf rR #[vS s] w (Ret (Og s w)):=by
 apply Hv;intro b8 w7 Z al;have bb:bW w w7:=al▸ao _ _;have b2:Ow TE aU w7 NoB (some ⟨b8,0,none⟩) 0 0 []:=Ow.newF Jh Z al (gy.nil _ _ _) (Nat.zero_le _);refine⟨λm u a n c i w'=>∃(k:Nat) (out:List Int),k <=3/\i=(k:Int)/\m=3-k/\out.length=k/\(k<3->gg s=(gd (2-k) k u).map (out++ ·))/\(k=3->gg s=some out)/\u.length <=s.length/\
  Ow TE aU w' NoB a n c out/\bU w.heap.size a/\bW w w',
  ⟨_,0,[],by omega,rfl,rfl,rfl,λ_=>?_,λh=>(by omega),Nat.le_refl _,b2,jB Z,bb⟩,?_⟩
 ·show df 3 0 s=_;rw[nS];show gd 2 0 s=_;cases gd 2 0 s<;>rfl
 intro m u a n c i;refine aQ.of ?_ _;rintro D ⟨k,out,cb,rfl,rfl,ac,e,b5,cf,ad,X,G⟩;refine af.of (λh=>?_) (λh=>?_)<;>simp only[dTx,dFx]at h
 ·have bs:k<3:=by omega
  have e:=e bs;have cc:(eN u).length <=u.length:=dF eO u;have M:∀{w':World},HT u=none->bW w w'->Og s w (.tuple #[.slice none 0 0,.bool false]) w':=λI bc=>⟨_,_,_,_,rfl,bc,.inl ⟨by rw[e,Gt I];rfl,rfl⟩⟩
  refine aA (su u (by omega) D) ?_;rintro _ D ⟨rfl,rfl⟩;refine⟨_,rfl,jA (w:=D) (1 <=(eN u).length/\(eN u).length <=2) ?_ ?_⟩
  ·refine af.of (λO=>?_) (λO=>?_)<;>simp only[dTx,dFx]at O
   ·exact M (by unfold HT;rw[if_neg (by omega)]) G
   ·refine af.of (λU=>?_) (λU=>?_)<;>simp only[gt_iff_lt,dTx,dFx]at U
    ·exact M (by unfold HT;rw[if_neg (by omega)]) G
    ·exact⟨rfl,by omega,by omega⟩
  ·intro bk;have b4:HT u=some (fg (eN u),u.drop (eN u).length):=by unfold HT;rw[if_pos bk]
   rw[Gu b4]at e;refine⟨⟨by omega,by omega⟩,?_⟩;rintro _ rfl;simp only[Int.toNat_natCast];rw[C0];refine aA (oI (eN u) (by omega) xN D) ?_;rintro _ D ⟨rfl,rfl⟩;refine⟨_,rfl,?_⟩;intro ch cj b0 b6;obtain⟨ca,a4,b9,an,b3,ag,Y,H⟩:=Ch (ty:=xD) (w0:=w) (cm:=1) Jh TP fR (by decide) ad X G b0 b6 (Xg) (by omega);refine⟨ca,a4,b9,an,b3,⟨by omega,by omega⟩,?_⟩;rintro _ rfl;have a9:i64.wrap ((k:Int)+1)=((k+1:Nat):Int):=by rw[wrJ];omega
   try dsimp only
   rw[a9];simp only[]at e;have aj:(u.drop (eN u).length).length <=s.length:=by rw[length_drop];omega
   generalize u.drop (eN u).length=r at*;refine af.of (λV=>?_) (λV=>?_)<;>simp only[dTx,dFx]at V
   ·have a0:2-k=(1-k)+1:=by omega
    rw[a0,nS]at e;refine af.of (λq=>?_) (λq=>?_)
    ·rw[beq_iff_eq]at q;subst q;exact⟨_,_,_,_,rfl,H,.inl ⟨by rw[e];rfl,rfl⟩⟩
    ·rw[beq_eq_false_iff_ne]at q
     match r,q with
     |x::r,_=>
      refine⟨⟨by omega,by simp<;>omega⟩,?_⟩;have b7:be (x::r) 0=((x.toNat:Nat):Int):=rfl;rw[b7];refine af.of (λE=>?_) (λE=>?_)
      ·have b1:x≠58:=λar=>by subst ar;exact absurd E (by decide)
       exact⟨_,_,_,_,rfl,H,.inl ⟨by rw[e];unfold xL;rw[if_neg (by omega),if_neg (by simpa using b1)];rfl,rfl⟩⟩
      ·have I:x=58:=by
        simp only[bne_eq_false_iff_eq]at E;exact Be E
       subst I;refine⟨⟨by omega,by simp<;>omega⟩,?_⟩;rintro _ rfl;refine⟨3-(k+1),by omega,k+1,out++[fg (eN u)],by omega,rfl,rfl,by simp[ac],λ_=>?_,λh=>by omega,by simp at aj ⊢;omega,ag,Y,H⟩;rw[e];have bj:∀z:lU,xL (k+1) (58::z)=some z:=λz=>by unfold xL;rw[if_neg (by omega)];rfl
       have a8:2-(k+1)=1-k:=by omega
       rw[bj,a8];show((gd (1-k) (k+1) _).map _).map _=(gd (1-k) (k+1) _).map _;cases gd (1-k) (k+1) _<;>simp
   ·have bq:k=2:=by omega
    subst bq;refine⟨0,by omega,3,out++[fg (eN u)],by omega,rfl,rfl,by simp[ac],λh=>by omega,λ_=>?_,aj,ag,Y,H⟩;rw[e];rfl
 ·have:k=3:=by omega
  subst this;exact⟨_,_,_,_,rfl,G,.inr ⟨out,b5 rfl,rfl,ad,X⟩⟩
def LL:List lU:=[[106,97,110],[102,101,98],[109,97,114],[97,112,114],[109,97,121],[106,117,110],[106,117,108],[97,117,103],[115,101,112],[111,99,116],[110,111,118],[100,101,99]]
theorem SA:∀k (h:k<LL.length),LL[k]=JQ k:=by decide
theorem vd (s:lU)(ar:s.length <=9223372036854775800)(w:World):Cf lP #[vS s] w (Ret λv w'=>v=vI (jj s)/\bW w w'):=by
 apply Fm;intro aj w5 ac O;have I:bW w w5:=O▸ao _ _;have ad:Ow tS ak w5 NoB (some ⟨aj,0,none⟩) 12 12 LL:=Ow.newF (l:=LL.map λs=>vS s) (ec _) ac O (nq λ_ _=>trivial) (by decide);refine⟨λm i w'=>∃k:Nat,k <=12/\i=(k:Int)/\m=12-k/\jj s=gk s (12-k) k/\bW w5 w',⟨_,0,by omega,rfl,rfl,rfl,Below.refl _ _⟩,?_⟩;intro m i;refine aQ.of ?_ _;rintro a0 ⟨k,an,rfl,rfl,e,q⟩;have E:=ae I q I.size;refine af.of (λh=>?_) (λh=>?_)<;>simp only[dTx,dFx]at h
 ·have Y:i64.wrap ((k:Int)+1)=((k+1:Nat):Int):=by rw[wrJ];omega
  try dsimp only
  rw[Y];refine af.of (λH=>?_) (λH=>?_)<;>simp only[ge_iff_le,dTx,dFx]at H
  ·refine⟨⟨by omega,by omega⟩,?_⟩;rintro _ rfl;have V:Int.toNat (3:Int)=3:=rfl;rw[V];refine⟨cv (s.take 3),λu G=>?_,⟨⟨by omega,by omega⟩,rfl⟩,JQ k,λu G=>?_,?_⟩
   ·refine(iI (s.take 3) (by simp;omega) u).mono ?_;rintro _ a8 ⟨_,rfl,rfl,Z⟩;exact⟨rfl,Z.mono G.size⟩
   ·have M:(k:Int).toNat<LL.length:=by show k<12;omega
    obtain⟨v,e,ag⟩:=((ad.below q).below G).all.load1 (i:=(k:Int)) ax rfl rfl M;obtain⟨rfl,-⟩:=iX ag;simp only[Int.toNat_natCast]at e;rw[SA k M]at e;exact e
   ·intro al D;have X:12-k=(12-(k+1))+1:=by omega
    rw[X]at e;unfold gk at e;refine af.of (λh=>?_) (λh=>?_)
    ·rw[beq_iff_eq]at h;rw[if_pos ⟨by omega,h⟩]at e;exact⟨by rw[e];congr 1,ae E D E.size⟩
    ·rw[beq_eq_false_iff_ne]at h;rw[if_neg (λU=>h U.2)]at e;exact⟨12-(k+1),by omega,k+1,by omega,rfl,rfl,e,ae q D q.size⟩
  ·intro al D;rw[jI (by omega)]at e;exact⟨12-(k+1),by omega,k+1,by omega,rfl,rfl,by rw[e,jI (by omega)],ae q D q.size⟩
 ·have:k=12:=by omega
  subst this;exact⟨by rw[e];rfl,E⟩
structure V7 (f:Fnd)(t:List Int)(y m d:Int):Prop where
 t:t=if f.time then[f.s0,f.s1,f.s2]else[]
 y:y=if f.year then f.y else -1
 m:m=if f.month then f.m else -1
 d:d=if f.day then f.d else -1
theorem H9:∀(s cur:lU) (k:Nat) (h:k<s.length),CZ cur (s.drop k)=if jF s[k]then cur::CZ [] (s.drop (k+1))else CZ (cur++[s[k]]) (s.drop (k+1)):=λs cur k h=>by
 rw[drop_eq_getElem_cons h];rfl
theorem O6 (h:k<s.length):decide (A6 (be s (k:Int)))=jF s[k]:=by
 unfold jF;rw[mi (i:=(k:Int)) (by simpa using h)];simp only[Int.toNat_natCast]
theorem yg:gZ s a b=true↔a <=((eN s).length:Int)/\((eN s).length:Int) <=b:=by unfold gZ;rw[dTx]
theorem ED (s:lU)(fv:s.length <=10000000)(w:World):Cf oz #[vS s] w (Ret λv w'=>v=zV (kN s)/\bW w w'):=by
 apply CI;intro e7 w17 c5 dg;have d9:bW w w17:=dg▸ao _ _;have ex:Ow tS ak w17 NoB (some ⟨e7,0,none⟩) 1 1 [[]]:=Ow.newF (l:=[_]) (ec _) c5 dg (gy.one (gB trivial)) (by decide);refine⟨λm a n c i w'=>∃(k:Nat) (done:List lU) (cur:lU),k <=s.length/\i=(k:Int)/\m=s.length-k/\done.length <=k/\cur.length <=k/\CZ [] s=done++CZ cur (s.drop k)/\
  Ow tS ak w' NoB a n c (done++[cur])/\bU w.heap.size a/\bW w w',
  ⟨_,0,[],[],by omega,rfl,rfl,Nat.le_refl _,Nat.le_refl _,rfl,ex,jB c5,d9⟩,?_⟩
 intro m a n c i;refine aQ.of ?_ _;rintro bk ⟨k,done,cur,em,rfl,rfl,fo,b4,I,bc,cj,a0⟩;have b5:=bc.len;simp only[length_append,length_cons,length_nil]at b5;subst b5;refine af.of (λh=>?_) (λh=>?_)<;>simp only[dTx,dFx]at h
 ·have V:k<s.length:=by omega
  have cf:i64.wrap ((k:Int)+1)=((k+1:Nat):Int):=by rw[wrJ];omega
  try dsimp only
  rw[cf];refine⟨⟨by omega,h⟩,?_⟩;refine aA (GU _ bk) ?_;rintro _ bk ⟨rfl,rfl⟩;refine⟨_,rfl,?_⟩;rw[O6 V];rw[H9 s cur k V]at I;refine af.of (λe=>?_) (λe=>?_)
  ·rw[if_pos e]at I;intro f2 bq en e5;obtain⟨Y,a4,fb,dx,dc,ck,ei,aj⟩:=Ch (ty:=aO) (w0:=w) (cm:=1) (vs:=[_]) (x:=[]) (ec _) dW cK (by decide) bc cj a0 en e5 (gB trivial) (by simp;omega);exact⟨Y,a4,fb,dx,dc,s.length-(k+1),by omega,k+1,done++[cur],[],by omega,rfl,rfl,by simp;omega,by simp,by rw[I];simp,ck,ei,aj⟩
  ·rw[if_neg (by rw[e];decide)]at I;have d3:i64.wrap ((((done.length+1:Nat):Nat):Int)-1)=(done.length:Int):=by rw[wrJ];omega
   have c2:=bc.below (cy bk);have dd:Option.isSome a=true:=bc.all.isSome (i:=done.length) (by simp);rw[d3];refine⟨⟨⟨by omega,by omega⟩,dd⟩,⟨⟨by omega,by omega⟩,by omega,by omega⟩,?_⟩;rintro _ rfl;obtain⟨v,U,ac⟩:=c2.all.load1 (i:=(done.length:Int)) ax rfl rfl (by simp);obtain⟨rfl,-⟩:=iX ac;simp only[Int.toNat_natCast,List.getElem_concat_length]at U;have d4:(s.take (k+1)).drop k=[s[k]]:=by
    rw[take_succ_eq_append_getElem V,List.drop_append_of_le_length (by simp;omega)];simp[List.drop_take]
   simp only[Int.toNat_natCast];rw[d4];refine⟨cur,U,by simp[IntKind.max,IntKind.bits];omega,?_⟩;rintro _ rfl;obtain⟨Y,e2,ck,ek⟩:=c2.store (P:=prog) (bytes:=16) (z:=vS []) cK (λ_ _ h=>h) (i:=(done.length:Int)) (by simp) (k:=1) rfl (v:=vS (cur++[s[k]])) (x:=cur++[s[k]]) (gB trivial);have c1:=ae a0 (cy bk) a0.size;refine⟨⟨⟨by omega,by omega⟩,dd⟩,Y,e2,s.length-(k+1),by omega,k+1,done,cur++[s[k]],by omega,rfl,rfl,by omega,by simp;omega,I,?_,cj,c1.grown ek c1.size cj⟩;simpa using ck
 ·have:k=s.length:=by omega
  subst this;have I:CZ [] s=done++[cur]:=by rw[I];simp[CZ]
  have de:kN s=(done++[cur]).foldl xu QH:=by unfold kN;rw[I]
  rw[de];have e3:∀x∈done++[cur],x.length <=s.length:=λx dl=>by
   rw[<- I]at dl;simpa using I8 s [] x dl
  generalize ea:done++[cur]=L at*;have eb:L.length=done.length+1:=by rw[<- ea];simp
  rw[<- eb];intro e9 w44 eq dk;have cr:bW bk w44:=dk▸ao _ _;have cu:=ae a0 cr a0.size;have ey:Ow TE aU w44 NoB (some ⟨e9,0,none⟩) 0 0 []:=Ow.newF Jh eq dk (gy.nil _ _ _) (Nat.zero_le _);refine⟨λm at_ bj cn y dr d i w'=>∃(k:Nat) (f:Fnd) (t:List Int),k <=L.length/\i=(k:Int)/\m=L.length-k/\f=(L.take k).foldl xu QH/\V7 f t y dr d/\Ow TE aU w' NoB at_ bj cn t/\bW w44 w',
   ⟨_,0,QH,[],by omega,rfl,rfl,rfl,⟨rfl,rfl,rfl,rfl⟩,ey,Below.refl _ _⟩,?_⟩
  intro m at_ bj cn y dr d i;refine aQ.of ?_ _;rintro w2 ⟨k,f,t,em,rfl,rfl,a8,⟨rfl,rfl,rfl,rfl⟩,X,b1⟩;have M:Gn f:=a8▸N6 _ Nl;have c9:=((bc.below cr).below b1)
  have Z:=ae cu b1 cu.size;have bb:=X.len;have b7:(bj:Int)=0↔f.time=false:=by
   rw[bb];cases f.time<;>simp
  refine af.of (λh=>?_) (λh=>?_)<;>simp only[dTx,dFx]at h
  ·have V:k<L.length:=by omega
   have cf:i64.wrap ((k:Int)+1)=((k+1:Nat):Int):=by rw[wrJ];omega
   try dsimp only
   rw[cf];obtain⟨v,U,ac⟩:=c9.all.load1 (i:=(k:Int)) ax rfl rfl (by simpa using V);obtain⟨rfl,-⟩:=iX ac;simp only[Int.toNat_natCast]at U;refine⟨⟨⟨by omega,h⟩,c9.all.isSome V⟩,_,U,?_⟩;have f0:=e3 L[k] (getElem_mem V);have et:(L.take (k+1)).foldl xu QH=xu f L[k]:=by rw[take_succ_eq_append_getElem V,foldl_append,a8];rfl
   generalize L[k]=x at*;have fq:(eN x).length <=x.length:=dF eO x;have done:∀{w':World} {a':Option Addr} {ds c':Nat} {t':List Int} {dw dp cp:Int},V7 (xu f x) t' dw dp cp->Ow TE aU w' NoB a' ds c' t'->bW w44 w'->
    ∃b9:Nat,b9<L.length-k/\∃(b8:Nat) (f:Fnd) (t:List Int),b8 <=L.length/\((k+1:Nat):Int)=(b8:Int)/\b9=L.length-b8/\f=(L.take b8).foldl xu QH/\V7 f t dw dp cp/\Ow TE aU w' NoB a' ds c' t/\bW w44 w':=
    λel ew ch=>⟨L.length-(k+1),by omega,k+1,_,_,by omega,rfl,rfl,et.symm,el,ew,ch⟩
   refine aA (su x (by omega) w2) ?_;rintro _ w2 ⟨rfl,rfl⟩;refine⟨_,rfl,?_⟩;refine aA (J2 x (by omega) w2) ?_;rintro _ bq ⟨a3,f3,fl,fd,rfl,ct,b4⟩;have da:=X.below ct;have b2:=ae b1 ct b1.size;refine⟨_,_,_,_,rfl,X6 ?_⟩;refine af.of (λe=>?_) (λe=>?_)
   ·rw[Bool.and_eq_true,beq_iff_eq,b7]at e;rcases b4 with⟨_,ar⟩|⟨l,c6,_,e0,fr⟩
    ·rw[ar]at e;cases e.1
    ·obtain⟨er,_⟩:=nu 3 0 x l c6
     match l,er with
     |[p,b9,r],_=>
      have ce:=FV c6 e.2;exact done (t':=[p,b9,r]) (by rw[ce];exact⟨rfl,rfl,rfl,rfl⟩) e0 b2
   ·have ev:gg x=none\/f.time=true:=by
     rcases b4 with⟨ar,_⟩|⟨l,_,ar,_⟩
     ·exact .inl ar
     ·right;rw[ar,Bool.true_and,beq_eq_false_iff_ne,ne_eq,b7]at e;simpa using e
    have ce:=MB ev;rw[ce]at done;clear b4 e;have c4:(if f.day then f.d else -1)<0↔f.day=false:=by
     have:=M.d;cases f.day<;>simp;omega
    have c8:(if f.month then f.m else -1)<0↔f.month=false:=by
     have:=M.m;cases f.month<;>simp;omega
    have dn:(if f.year then f.y else -1)<0↔f.year=false:=by
     have:=M.y;cases f.year<;>simp;omega
    refine X5 ?_;refine af.of (λD=>?_) (λD=>?_)
    ·simp only[Bool.and_eq_true,dTx,c4,ge_iff_le]at D;refine⟨⟨by omega,by omega⟩,?_⟩;rintro _ rfl;simp only[Int.toNat_natCast];rw[C0];refine aA (oI (eN x) (by omega) xN bq) ?_;rintro _ bq ⟨rfl,rfl⟩;refine⟨_,rfl,done (t':=_) ?_ da b2⟩;rw[if_pos ⟨yg.2 (by omega),D.1⟩];exact⟨rfl,rfl,rfl,rfl⟩
    ·have d6: ¬ (gZ x 1 2=true/\f.day=false):=by
      rw[yg];rintro⟨⟨q,E⟩,H⟩;rw[decide_eq_true (c4.2 H),Bool.true_and,decide_eq_true (show((eN x).length:Int) >=1 from q),decide_eq_true E]at D;cases D
     rw[if_neg d6]at done;refine rv (λb w'=>b=(decide ((if f.month then f.m else -1)<0)&&decide (0<jj x))/\bW bq w') ?_ ?_
     ·refine af.of (λq=>?_) (λq=>?_)
      ·refine aA (vd x (by omega) bq) ?_;rintro _ Y ⟨rfl,aj⟩;exact⟨_,rfl,by rw[q];rfl,aj⟩
      ·exact⟨by rw[q];rfl,Below.refl _ _⟩
     ·rintro _ Y ⟨rfl,aj⟩;have cl:=da.below aj;have b3:=ae b2 aj b2.size;refine af.of (λq=>?_) (λq=>?_)
      ·simp only[Bool.and_eq_true,dTx,c8]at q;refine aA (vd x (by omega) Y) ?_;rintro _ f4 ⟨rfl,c0⟩;refine⟨_,rfl,done (t':=_) ?_ (cl.below c0) (ae b3 c0 b3.size)⟩;rw[if_pos ⟨q.2,q.1⟩];exact⟨rfl,rfl,rfl,rfl⟩
      ·have d7: ¬ (0<jj x/\f.month=false):=by
        rintro⟨E,H⟩;rw[decide_eq_true (c8.2 H),decide_eq_true E]at q;cases q
       rw[if_neg d7]at done;refine X5 ?_;refine af.of (λE=>?_) (λE=>?_)
       ·simp only[Bool.and_eq_true,dTx,dn,ge_iff_le]at E;refine⟨⟨by omega,by omega⟩,?_⟩;rintro _ rfl;simp only[Int.toNat_natCast];rw[C0];refine aA (oI (eN x) (by omega) xN Y) ?_;rintro _ Y ⟨rfl,rfl⟩;refine⟨_,rfl,done (t':=_) ?_ cl b3⟩;rw[if_pos ⟨yg.2 (by omega),E.1⟩];exact⟨rfl,rfl,rfl,rfl⟩
       ·have d8: ¬ (gZ x 2 4=true/\f.year=false):=by
         rw[yg];rintro⟨⟨H,h7⟩,h8⟩;rw[decide_eq_true (dn.2 h8),Bool.true_and,decide_eq_true (show((eN x).length:Int) >=2 from H),decide_eq_true h7]at E;cases E
        rw[if_neg d8]at done;exact done (t':=_) ⟨rfl,rfl,rfl,rfl⟩ cl b3
  ·have:k=L.length:=by omega
   subst this;rw[take_length]at a8;rw[<- a8];have fs:=M.y;refine UL (w:=w2) (if f.year then jC f.y else -1) ?_ ?_
   ·refine X6 ?_;cases f.year
    ·refine af.of (λe=>?_) (λe=>?_)
     ·cases e
     ·refine af.of (λD=>?_) (λD=>?_)
      ·cases D
      ·exact⟨rfl,rfl⟩
    ·simp only[if_true];unfold jC;refine af.of (λe=>?_) (λe=>?_)
     ·simp only[Bool.and_eq_true,dTx,ge_iff_le]at e;exact⟨trivial,by rw[if_pos e,wrJ]⟩
     ·have d5: ¬ (70 <=f.y/\f.y <=99):=λ⟨d1,d2⟩=>by
       try dsimp only
       rw[decide_eq_true (show f.y >=70 from d1),decide_eq_true d2]at e;cases e
      rw[if_neg d5];refine af.of (λD=>?_) (λD=>?_)<;>simp only[ge_iff_le,dTx,dFx]at D
      ·refine af.of (λq=>?_) (λq=>?_)<;>simp only[ge_iff_le,dTx,dFx]at q
       ·exact⟨trivial,by rw[if_pos (by omega),wrJ]⟩
       ·exact⟨trivial,by rw[if_neg (by omega)]⟩
      ·omega
   ·have an:∀{w':World},¬ uy f->bW w w'->(.tuple #[vI 0,.bool false]:Value)=zV f/\bW w w':=λb5 ch=>⟨by unfold zV;rw[if_neg b5],ch⟩
    have c3:cQ (if f.year then jC f.y else -1) (if f.month then f.m else -1) (if f.day then f.d else -1)↔cQ (jC f.y) f.m f.d/\f.year=true:=by
     have c7:=M.m0;have ed:=M.d0;unfold cQ;cases f1:f.year
     ·simp
     ·cases a9:f.month
      ·rw[a9]at c7;have:=c7.1 rfl;simp[this]
      ·cases al:f.day
       ·have:=ed al;simp[this]
       ·simp
    generalize hY:(if f.year then jC f.y else -1)=cc at*;generalize b0:(if f.month then f.m else -1)=cb at*;generalize bs:(if f.day then f.d else -1)=ca at*;clear a8 de I;refine jA (w:=w2) (uy f/\cQ cc cb ca) ?_ ?_
    ·refine af.of (λe=>?_) (λe=>?_)
     ·rw[beq_iff_eq,b7]at e;exact an (λG=>by rw[G.2.1]at e;cases e) Z
     ·have b6:f.time=true:=by
       rw[beq_eq_false_iff_ne,ne_eq,b7]at e;simpa using e
      rw[if_pos b6]at X bb;simp only[length_cons,length_nil]at bb;refine aA (EE cc cb ca w2) ?_;rintro _ w2 ⟨rfl,rfl⟩;refine⟨_,rfl,?_⟩;refine af.of (λD=>?_) (λD=>?_)<;>simp only[Bool.not_eq_true',Bool.not_eq_false',dTx,dFx]at D
      ·exact an (λG=>D (c3.2 ⟨G.1,G.2.2.1⟩)) Z
      ·obtain⟨ee,ef⟩:=c3.1 D;have ag:∀i:Nat,(O:i<3)->(Instr.loadAt aU (.pointer (av at_ (i:Int) 1))).run prog w2=.ok (vI ([f.s0,f.s1,f.s2][i])) w2:=λi O=>by
        obtain⟨v,U,ac⟩:=X.all.load1 (i:=(i:Int)) bC rfl rfl (by simpa using O);obtain rfl:=R7 ac;simpa using U
       have ad:∀i:Nat,i<3->((0 <=(i:Int)/\(i:Int)<(bj:Int))/\Option.isSome at_=true):=λi O=>⟨⟨by omega,by omega⟩,X.all.isSome (i:=i) (by simpa using O)⟩
       refine⟨ad 0 (by decide),_,ag 0 (by decide),?_⟩;refine af.of (λq=>?_) (λq=>?_)<;>simp only[gt_iff_lt,dTx,dFx]at q
       ·exact an (λG=>by have:=G.2.2.2.1;simp at q;omega) Z
       refine⟨ad 1 (by decide),_,ag 1 (by decide),?_⟩;refine af.of (λE=>?_) (λE=>?_)<;>simp only[gt_iff_lt,dTx,dFx]at E
       ·exact an (λG=>by have:=G.2.2.2.2.1;simp at E;omega) Z
       refine⟨ad 2 (by decide),_,ag 2 (by decide),?_⟩;refine af.of (λH=>?_) (λH=>?_)<;>simp only[gt_iff_lt,dTx,dFx]at H
       ·exact an (λG=>by have:=G.2.2.2.2.2;simp at H;omega) Z
       simp at q E H;exact⟨rfl,⟨ee,b6,ef,by omega,by omega,by omega⟩,D⟩
    ·rintro⟨G,al⟩;have b6:=G.2.1;rw[if_pos b6]at X bb;simp only[length_cons,length_nil]at bb;refine aA (qu cc cb ca w2) ?_;rintro _ w2 ⟨rfl,rfl⟩;have ag:∀i:Nat,(O:i<3)->∀u:World,bW w2 u->(Instr.loadAt aU (.pointer (av at_ (i:Int) 1))).run prog u=.ok (vI ([f.s0,f.s1,f.s2][i])) u:=λi O u e4=>by
      obtain⟨v,U,ac⟩:=(X.below e4).all.load1 (i:=(i:Int)) bC rfl rfl (by simpa using O);obtain rfl:=R7 ac;simpa using U
     have ad:∀i:Nat,i<3->((0 <=(i:Int)/\(i:Int)<(bj:Int))/\Option.isSome at_=true):=λi O=>⟨⟨by omega,by omega⟩,X.all.isSome (i:=i) (by simpa using O)⟩
     refine⟨_,_,rfl,ad 0 (by decide),_,ag 0 (by decide),ad 1 (by decide),_,ag 1 (by decide),ad 2 (by decide),_,ag 2 (by decide),?_⟩;intro f5 e1;refine⟨?_,ae Z e1 Z.size⟩;have e6:f.year=true:=G.2.2.1;have es:f.month=true:=by
      cases a9:f.month
      ·have:=al.2.2.1;rw[a9]at b0;simp at b0;omega
      ·rfl
     have eg:f.day=true:=by
      cases a9:f.day
      ·have:=al.2.2.2.2.1;rw[a9]at bs;simp at bs;omega
      ·rfl
     rw[if_pos e6]at hY;rw[if_pos es]at b0;rw[if_pos eg]at bs;subst hY b0 bs;have dc:=K7 al;have fn:=M.s0;have h1:=M.s1;have e:=M.s2;unfold zV;rw[if_pos G,if_pos al];simp only[List.getElem_cons_zero,List.getElem_cons_succ];unfold iv;rw[wrJ (n:=cZ (jC f.y) f.m f.d*86400),wrJ (n:=f.s0*3600),wrJ (n:=f.s1*60),wrJ (n:=f.s0*3600+f.s1*60),
      wrJ (n:=f.s0*3600+f.s1*60+f.s2),wrJ]
     congr 4;omega
theorem UD (f:Fnd):f.cells[7]? =some (vI f.y):=rfl
theorem Gv (s:lU)(c2:s.length <=10000000)(w:World):Cf pI #[vS s] w (Ret λv w'=>v=zV (kN s)/\bW w w'):=by
 apply EJ;intro H w4 cj b4;have ca:bW w w4:=b4▸ao _ _;have cc:au w4 H dC QH.cells:=au.new cj b4;have q:true=true:=rfl;have b3:∀x,some H=some x->w.heap.size <=x:=λx I=>by cases I;omega
 refine⟨λm bq i w'=>∃(k j:Nat) (f:Fnd),k <=s.length+1/\i=(k:Int)/\bq=(j:Int)/\j <=k/\m=s.length+1-k/\Gn f/\
  kN s=(if k <=s.length then(CZ ((s.take k).drop j) (s.drop k)).foldl xu f else f)/\au w' H dC f.cells/\bW w w',
  ⟨_,0,0,QH,by omega,rfl,rfl,Nat.le_refl _,rfl,Nl,by rw[if_pos (Nat.zero_le _)];rfl,cc,ca⟩,?_⟩
 intro m bq i;refine aQ.of ?_ _;rintro ad ⟨k,j,f,c0,rfl,rfl,cu,rfl,U,Z,Y,M⟩;have b9:k <=s.length->i64.wrap ((k:Int)+1)=((k+1:Nat):Int):=λbj=>by rw[wrJ];omega
 refine af.of (λh=>?_) (λh=>?_)<;>simp only[dTx,dFx]at h
 ·have bj:k <=s.length:=by omega
  rw[if_pos bj]at Z;rw[b9 bj];refine gS (w:=ad) (decide (k=s.length\/∃h:k<s.length,jF s[k]=true)) ?_ ?_
  ·refine af.of (λe=>?_) (λe=>?_)
   ·rw[beq_iff_eq]at e;exact⟨rfl,(decide_eq_true (.inl (by omega))).symm⟩
   ·rw[beq_eq_false_iff_ne]at e;have E:k<s.length:=by omega
    refine⟨⟨by omega,by omega⟩,?_⟩;refine aA (Jc _ ad) ?_;rintro _ ad ⟨rfl,rfl⟩;refine⟨_,rfl,rfl,?_⟩;rw[O6 E];cases an:jF s[k]
    ·exact(decide_eq_false (by rintro(I|⟨_,I⟩)<;>first|omega|(rw[an]at I;cases I))).symm
    ·exact(decide_eq_true (.inr ⟨E,an⟩)).symm
  ·have a8:(CZ ((s.take k).drop j) (s.drop k))=if(k=s.length\/∃h:k<s.length,jF s[k]=true)then(s.take k).drop j::(if k<s.length then CZ [] (s.drop (k+1))else[])else CZ ((s.take (k+1)).drop j) (s.drop (k+1)):=by
    by_cases E:k<s.length
    ·rw[H9 s _ k E];cases an:jF s[k]
     ·rw[if_neg (by decide),if_neg (by rintro(I|⟨_,I⟩)<;>first|omega|(rw[an]at I;cases I))];rw[take_succ_eq_append_getElem E,List.drop_append_of_le_length (by rw[length_take];omega)]
     ·rw[if_pos rfl,if_pos (.inr ⟨E,an⟩),if_pos E]
    ·have:k=s.length:=by omega
     subst this;rw[if_pos (.inl rfl),if_neg E];simp[CZ]
   refine af.of (λe=>?_) (λe=>?_)<;>simp only[dTx,dFx]at e
   ·rw[if_pos e]at a8;rw[a8,foldl_cons]at Z;have bk:∀{bb:Fnd} {w':World},bb=xu f ((s.take k).drop j)->au w' H dC bb.cells->bW w w'->
     ∃b8:Nat,b8<s.length+1-k/\∃(V j:Nat) (f:Fnd),V <=s.length+1/\((k+1:Nat):Int)=(V:Int)/\((k+1:Nat):Int)=(j:Int)/\j <=V/\b8=s.length+1-V/\Gn f/\
      kN s=(if V <=s.length then(CZ ((s.take V).drop j) (s.drop V)).foldl xu f else f)/\au w' H dC f.cells/\bW w w':=by
     rintro bb w' rfl cb bc;refine⟨s.length+1-(k+1),by omega,k+1,k+1,_,by omega,rfl,rfl,Nat.le_refl _,rfl,TM U _,?_,cb,bc⟩;rw[Z];by_cases E:k<s.length
     ·rw[if_pos E,if_pos (show k+1 <=s.length from E)];congr 2;rw[List.drop_eq_nil_of_le (by rw[length_take];omega)]
     ·rw[if_neg E,if_neg (by omega)];rfl
    refine af.of (λG=>?_) (λG=>?_)<;>simp only[gt_iff_lt,dTx,dFx]at G
    ·refine⟨⟨⟨by omega,by omega⟩,by omega,by omega⟩,?_⟩;rintro _ rfl;simp only[Int.toNat_natCast];refine aA (Jd H f _ (by simp;omega) ad Y) ?_;rintro _ c4 ⟨rfl,ce,cf⟩;exact⟨rfl,bk rfl ce (M.grown cf M.size b3)⟩
    ·refine bk ?_ Y M;have:(s.take k).drop j=[]:=List.drop_eq_nil_of_le (by rw[length_take];omega);rw[this,Pq]
   ·rw[if_neg e]at a8;have E:k<s.length:=by
     by_cases I:k=s.length
     ·exact absurd (.inl I) e
     ·omega
    refine⟨s.length+1-(k+1),by omega,k+1,j,f,by omega,rfl,rfl,by omega,rfl,U,?_,Y,M⟩;rw[if_pos (show k+1 <=s.length from E),Z,a8]
 ·rw[if_neg (by omega)]at Z;subst Z;generalize kN s=f at*;have c3:=U.y;have ar:=Y.load1 (P:=prog) (i:=7) bC rfl (UD f);have X:∀{w':World},¬ uy f->bW w w'->(.tuple #[vI 0,.bool false]:Value)=zV f/\bW w w':=λck bc=>⟨by unfold zV;rw[if_neg ck],bc⟩
  refine eC (λw'=>au w' H dC ({ f with y:=jC f.y } :Fnd).cells/\bW w w') ?_ ?_
  ·refine gS (w:=ad) (decide (70 <=f.y/\f.y <=99)) ?_ ?_
   ·refine⟨q,_,ar,?_⟩;refine af.of (λe=>?_) (λe=>?_)<;>simp only[ge_iff_le,dTx,dFx]at e
    ·refine⟨q,_,ar,rfl,?_⟩;simp[e]
    ·refine⟨rfl,?_⟩;simp[e]
   ·have st:∀n:Int,n=jC f.y->∃wx:World,(Instr.storeAt aU (.pointer (some ⟨H,7,none⟩)) (vI n)).run prog ad=.ok () wx/\au wx H dC ({ f with y:=jC f.y } :Fnd).cells/\bW w wx:=by
     rintro _ rfl;obtain⟨cp,cl,a0,ch⟩:=Y.store (P:=prog) fR (i:=7) (v:=vI (jC f.y)) rfl (by simp[Fnd.cells]) (Ez _);exact⟨cp,cl,by simpa[Fnd.cells,Value.cells]using a0,M.grown ch M.size b3⟩
    refine af.of (λe=>?_) (λe=>?_)<;>simp only[dTx,dFx]at e
    ·exact⟨q,_,ar,q,st _ (by unfold jC;rw[if_pos e,wrJ])⟩
    ·refine⟨q,_,ar,?_⟩;refine af.of (λG=>?_) (λG=>?_)<;>simp only[dTx,dFx]at G
     ·exact⟨q,_,ar,q,st _ (by unfold jC;rw[if_neg e,if_pos G,wrJ])⟩
     ·have:jC f.y=f.y:=by unfold jC;rw[if_neg e,if_neg G]
      rw[this];exact⟨Y,M⟩
  ·rintro cn ⟨a9,b1⟩;refine⟨q,_,a9.load1 bC rfl rfl,q,_,a9.load1 bC rfl rfl,q,_,a9.load1 bC rfl rfl,?_⟩;have ct:=U.d;refine aA (rz _ _ _ (by simp only;omega) cn) ?_;rintro _ w3 ⟨rfl,b2⟩;refine⟨_,_,rfl,?_⟩;have al:=a9.below b2;have O:=ae b1 b2 b1.size;have ac:∀i:Int,0 <=i->i<3->((0 <=i/\i<((3:Nat):Int))/\true=true):=λi h1 e=>⟨⟨h1,e⟩,rfl⟩
   have b5:(Instr.loadAt aU (.pointer (av (some ⟨H,4,none⟩) (0:Int) 1))).run prog w3=.ok (vI f.s0) w3:=by rw[j3];exact al.load1 bC rfl rfl
   have b6:(Instr.loadAt aU (.pointer (av (some ⟨H,4,none⟩) (1:Int) 1))).run prog w3=.ok (vI f.s1) w3:=by rw[j3];exact al.load1 bC rfl rfl
   have b7:(Instr.loadAt aU (.pointer (av (some ⟨H,4,none⟩) (2:Int) 1))).run prog w3=.ok (vI f.s2) w3:=by rw[j3];exact al.load1 bC rfl rfl
   refine jA (w:=w3) (uy f) ?_ ?_
   ·refine af.of (λG=>?_) (λG=>?_)<;>simp only[Bool.not_eq_true',Bool.not_eq_false',dTx,dFx]at G
    ·exact X (λD=>G D.1) O
    refine⟨q,_,al.load1 bK rfl rfl,?_⟩;refine af.of (λag=>?_) (λag=>?_)<;>simp only[Bool.not_eq_true',Bool.not_eq_false']at ag
    ·exact X (λD=>by rw[D.2.1]at ag;cases ag) O
    refine⟨q,_,al.load1 bK rfl rfl,?_⟩;refine af.of (λaj=>?_) (λaj=>?_)<;>simp only[Bool.not_eq_true',Bool.not_eq_false']at aj
    ·exact X (λD=>by rw[D.2.2.1]at aj;cases aj) O
    refine⟨q,ac 0 (by decide) (by decide),_,b5,?_⟩;refine af.of (λbs=>?_) (λbs=>?_)<;>simp only[gt_iff_lt,dTx,dFx]at bs
    ·exact X (λD=>by have:=D.2.2.2.1;omega) O
    refine⟨q,ac 1 (by decide) (by decide),_,b6,?_⟩;refine af.of (λa0=>?_) (λa0=>?_)<;>simp only[gt_iff_lt,dTx,dFx]at a0
    ·exact X (λD=>by have:=D.2.2.2.2.1;omega) O
    refine⟨q,ac 2 (by decide) (by decide),_,b7,?_⟩;refine af.of (λb0=>?_) (λb0=>?_)<;>simp only[gt_iff_lt,dTx,dFx]at b0
    ·exact X (λD=>by have:=D.2.2.2.2.2;omega) O
    exact⟨rfl,G,ag,aj,by omega,by omega,by omega⟩
   ·intro D;refine⟨q,ac 0 (by decide) (by decide),_,b5,q,ac 1 (by decide) (by decide),_,b6,q,ac 2 (by decide) (by decide),_,b7,?_,O⟩;have c1:=K7 D.1;have cr:=U.s0;have h1:=U.s1;have e:=U.s2;unfold zV;rw[if_pos D,if_pos D.1];unfold iv;rw[wrJ (n:=cZ (jC f.y) f.m f.d*86400),wrJ (n:=f.s0*3600),wrJ (n:=f.s1*60),wrJ (n:=cZ (jC f.y) f.m f.d*86400+f.s0*3600),
     wrJ (n:=cZ (jC f.y) f.m f.d*86400+f.s0*3600+f.s1*60),wrJ]
theorem wG (w:World)(k:Nat)(e:Array Obj):bW w (Go.Sort.grow (w.drewN k) e):=by
 refine lR rfl rfl rfl (by simp[Go.Sort.grow,World.drewN]) λj q=>?_;show(w.heap++e)[j]? =_;rw[Array.getElem?_append_left q]
abbrev PC (P:Program)(w:World):Prop:=Lib.TabIs P w "internal/strconv.uint64pow10" .u64 Lib.pow10Tab
theorem jq (n:Int)(H:0 <=n)(h1:n<100)(w:World):Cf eW #[vI n,vI 2] w (Ret λv w'=>v=vS (fy n)/\bW w w'):=by
 obtain⟨k,rfl⟩:∃k:Nat,n=(k:Int):=⟨n.toNat,by omega⟩
 apply sD;refine(Tryz.strconv_Itoa_small k (by omega) w).mono ?_;rintro _ _ ⟨rfl,rfl⟩;refine⟨Lib.decDigits k,rfl,?_⟩;by_cases h:k<10
 ·have e:=Ur k h;have q:i64.wrap ((2:Int)-(((Lib.decDigits k).length:Nat):Int))=((1:Nat):Int):=by rw[e,wrJ];omega
  try dsimp only
  rw[q];refine(Tryz.strings_Repeat (mkS [48]) 1 _ (by decide) (by decide)).mono ?_;rintro _ G ⟨rfl,D⟩;refine⟨[48],rfl,by rw[e];decide,?_⟩;rintro _ rfl;exact⟨by rw[<- Sc k h];rfl,D⟩
 ·have E:=LA k (by omega) (by omega);have e:(Lib.decDigits k).length=2:=by rw[E];rfl
  have q:i64.wrap ((2:Int)-(((Lib.decDigits k).length:Nat):Int))=((0:Nat):Int):=by rw[e,wrJ];omega
  try dsimp only
  rw[q];refine(Tryz.strings_Repeat (mkS [48]) 0 _ (by decide) (by decide)).mono ?_;rintro _ G ⟨rfl,D⟩;refine⟨[],rfl,by rw[e];decide,?_⟩;rintro _ rfl;exact⟨by rw[<- E];rfl,D⟩
theorem DS (n:Int)(G:1000 <=n)(h1:n <=9999)(w:World)(I:PC prog w):Cf eW #[vI n,vI 4] w (Ret λv w'=>v=vS (fy (n/100)++fy (n%100))/\bW w w'):=by
 apply sD;refine(Tryz.strconv_Itoa n (by omega) (by omega) w I).mono ?_;rintro _ _ ⟨rfl,k,M,rfl⟩;have e:=Zj G h1;refine⟨Lib.itoa n,rfl,?_⟩;have D:(Lib.itoa n).length=4:=by rw[e];rfl
 have E:i64.wrap ((4:Int)-(((Lib.itoa n).length:Nat):Int))=((0:Nat):Int):=by rw[D,wrJ];omega
 try dsimp only
 rw[E];refine(Tryz.strings_Repeat (mkS [48]) 0 _ (by decide) (by decide)).mono ?_;rintro _ O ⟨rfl,H⟩;refine⟨[],rfl,by rw[D];decide,?_⟩;rintro _ rfl;have q:=wG w k M;exact⟨by rw[<- e];rfl,ae q H q.size⟩
theorem Vx:∀k,k<7->(([84,104,117,70,114,105,83,97,116,83,117,110,77,111,110,84,117,101,87,101,100]:lU).take (3*k+3)).drop (3*k)=tQ (k:Int):=by decide
theorem W6:∀k,k<12->(([74,97,110,70,101,98,77,97,114,65,112,114,77,97,121,74,117,110,74,117,108,65,117,103,83,101,112,79,99,116,78,111,118,68,101,99]:lU).take (3*k+3)).drop (3*k)=GJ ((k:Int)+1):=by decide
theorem Vy:∀k:Nat,k<7->(tQ (k:Int)).length=3:=by decide
theorem W7:∀k:Nat,k<12->(GJ ((k:Int)+1)).length=3:=by decide
theorem MN {k:Int}(e:0 <=k)(h1:k<7):(tQ k).length=3:=by
 have:=Vy k.toNat (by omega)
 rwa [show((k.toNat:Nat):Int)=k by omega]at this
theorem OY {k:Int}(e:1 <=k)(h1:k <=12):(GJ k).length=3:=by
 have:=W7 (k-1).toNat (by omega)
 rwa [show(((k-1).toNat:Nat):Int)+1=k by omega]at this
theorem Lb (t:Int)(ag: -9223372036854775808 <=t)(h1:t <=9223372036854775807)(w:World)(bj:PC prog w):Cf mx #[vI t] w (Ret λv w'=>v=vS (iY t)/\bW w w'):=by
 apply Kg;obtain⟨E,G⟩:=yN (t:=t) (b:=86400) (by decide);refine⟨by decide,?_⟩;rintro _ rfl;refine⟨by decide,?_⟩;rintro _ rfl;refine⟨λn s w'=>w'=w/\n=t/86400/\s=t%86400,?_,?_⟩
 ·refine af.of (λh=>?_) (λh=>?_)<;>simp only[dTx,dFx]at h
  ·have a9:t<0:=by
    by_cases c:0 <=t
    ·have:=(E c).2;omega
    ·omega
   obtain⟨O,H⟩:=G a9;rw[H]at h;rw[O,H,wrJ (n:= -(-t/86400)),wrJ,wrJ];exact⟨rfl,by omega,by omega⟩
  ·by_cases c:0 <=t
   ·rw[(E c).1,(E c).2,wrJ];exact⟨rfl,rfl,rfl⟩
   ·obtain⟨O,H⟩:=G (by omega);rw[H]at h;rw[O,H,wrJ];exact⟨rfl,by omega,by omega⟩
 ·clear E G;intro n s;refine aQ.of ?_ _;rintro w ⟨rfl,rfl,rfl⟩;refine aA (I9 _ w (by omega)) ?_;rintro _ b2 ⟨rfl,I⟩;by_cases ac:t/86400 < -134774\/2932896<t/86400
  ·rw[oP ac];refine⟨_,_,_,_,rfl,af.yes rfl ⟨by rw[AF ac],I⟩⟩
  obtain⟨y,m,d,U,M⟩:=Q8 (n:=t/86400) (by omega) (by omega);rw[Dk U M,<- M,DN U,M];refine⟨y,m,d,true,rfl,af.no rfl ?_⟩;have aj:=U;obtain⟨b0,b1,ar,a0,bk,bq⟩:=aj;have bs:=si y m;generalize a8:t/86400=n at*;generalize bc:t%86400=s at*;have V:0 <=s/\s<86400:=by omega
  clear ag h1 a8 bc M;obtain⟨E,G⟩:=yN (t:=n) (b:=7) (by decide);have X: -7<Int.tmod n 7/\Int.tmod n 7<7/\(Int.tmod n 7+7)%7=n%7:=by
   by_cases c:0 <=n
   ·rw[(E c).2];omega
   ·rw[(G (by omega)).2];omega
  clear E G;refine⟨by decide,?_⟩;rintro _ rfl;refine⟨by decide,?_⟩;rintro _ rfl;have e8:Int.tmod (i64.wrap (Int.tmod n 7+7)) 7=n%7:=by rw[wrJ,cY (by omega),X.2.2]
  try dsimp only
  rw[e8];clear X e8;have Y:0 <=n%7/\n%7<7:=by omega
  have q:=MN Y.1 Y.2;have e:=OY ar a0;obtain⟨k,an⟩:∃k:Nat,n%7=(k:Int):=⟨(n%7).toNat,by omega⟩
  obtain⟨j,al⟩:∃j:Nat,m=(j:Int)+1:=⟨(m-1).toNat,by omega⟩
  have ad:=Vx k (by omega);have Z:=W6 j (by omega);rw[<- an]at ad;rw[<- al]at Z;rw[wrJ (n:=3*(n%7)),wrJ (n:=3*(n%7)+3),show(3*(n%7)+3).toNat=3*k+3 by omega,show(3*(n%7)).toNat=3*k by omega,ad];refine⟨⟨⟨by omega,by simp only[length_cons,length_nil];omega⟩,by omega,by omega⟩,?_⟩;rintro _ rfl;refine⟨fits (by simp only[length_append,bD,q,e,length_cons,length_nil];omega),?_⟩;rintro _ rfl;refine⟨fy d,λu D=>fF (jq d (by omega) (by omega) u) D,?_⟩;refine⟨fits (by simp only[length_append,bD,q,e,length_cons,length_nil];omega),?_⟩;rintro _ rfl;refine⟨fits (by simp only[length_append,bD,q,e,length_cons,length_nil];omega),?_⟩;rintro _ rfl;rw[wrJ (n:=3*m),wrJ (n:=3*m-3),show(3*m).toNat=3*j+3 by omega,show(3*m-3).toNat=3*j by omega,Z];refine⟨⟨⟨by omega,by simp only[length_cons,length_nil];omega⟩,by omega,by omega⟩,?_⟩;rintro _ rfl;refine⟨fits (by simp only[length_append,bD,q,e,length_cons,length_nil];omega),?_⟩;rintro _ rfl;refine⟨fits (by simp only[length_append,bD,q,e,length_cons,length_nil];omega),?_⟩;rintro _ rfl;refine⟨fy (y/100)++fy (y%100),λu D=>fF (DS y (by omega) (by omega) u (Pi (Pi bj I) D)) D,?_⟩;refine⟨fits (by simp only[length_append,bD,q,e,length_cons,length_nil];omega),?_⟩;rintro _ rfl;refine⟨fits (by simp only[length_append,bD,q,e,length_cons,length_nil];omega),?_⟩;rintro _ rfl;refine⟨by decide,?_⟩;rintro _ rfl;rw[cD V.1,wrJ (n:=s/3600)];refine⟨fy (s/3600),λu D=>fF (jq _ (by omega) (by omega) u) D,?_⟩;refine⟨fits (by simp only[length_append,bD,q,e,length_cons,length_nil];omega),?_⟩;rintro _ rfl;refine⟨fits (by simp only[length_append,bD,q,e,length_cons,length_nil];omega),?_⟩;rintro _ rfl;refine⟨by decide,?_⟩;rintro _ rfl;refine⟨by decide,?_⟩;rintro _ rfl;rw[cD V.1,wrJ (n:=s/60),cY (a:=s/60) (by omega)];refine⟨fy (s/60%60),λu D=>fF (jq _ (by omega) (by omega) u) D,?_⟩;refine⟨fits (by simp only[length_append,bD,q,e,length_cons,length_nil];omega),?_⟩;rintro _ rfl;refine⟨fits (by simp only[length_append,bD,q,e,length_cons,length_nil];omega),?_⟩;rintro _ rfl;refine⟨by decide,?_⟩;rintro _ rfl;rw[cY (a:=s) V.1];refine⟨fy (s%60),λu D=>fF (jq _ (by omega) (by omega) u) D,?_⟩;refine⟨fits (by simp only[length_append,bD,q,e,length_cons,length_nil];omega),?_⟩;rintro _ rfl;refine⟨fits (by simp only[length_append,bD,q,e,length_cons,length_nil];omega),?_⟩;rintro _ rfl;intro b3 bb;refine⟨?_,ae I bb I.size⟩;congr 2;simp[AE,mr,append_assoc]
def stripR (p:UInt8->Bool)(s:lU):lU:=(s.reverse.dropWhile p).reverse
def jU (p:UInt8->Bool)(s:lU):lU:=stripR p (s.dropWhile p)
theorem FM (p:UInt8->Bool)(s:lU)(x:UInt8):stripR p (s++[x])=if p x then stripR p s else s++[x]:=by
 unfold stripR;rw[List.reverse_append];show(List.dropWhile p (x::s.reverse)).reverse=_;rw[dropWhile_cons];split<;>simp
theorem mR (p:UInt8->Bool)(x:UInt8)(s:lU):stripR p (x::s)=if stripR p s=[]then(if p x then[]else[x])else x::stripR p s:=by
 unfold stripR;rw[List.reverse_cons];have key:∀t:lU,List.dropWhile p (t++[x])=if List.dropWhile p t=[]then(if p x then[]else[x])else List.dropWhile p t++[x]:=by
  intro t;induction t with
  |nil=>simp[dropWhile_cons]
  |cons y t e=>
   rw[cons_append,dropWhile_cons,dropWhile_cons];split
   ·exact e
   ·rw[if_neg (by simp)];rfl
 rw[key];by_cases h:List.dropWhile p s.reverse=[]
 ·have h':(List.dropWhile p s.reverse).reverse=[]:=by rw[h];rfl
  rw[if_pos h,if_pos h'];split<;>rfl
 ·have h': ¬ (List.dropWhile p s.reverse).reverse=[]:=by simpa using h
  rw[if_neg h,if_neg h'];simp
theorem ut (p:UInt8->Bool):∀s:lU,(stripR p s).dropWhile p=jU p s
 |[]=>rfl
 |x::s=>by
  have E:=ut p s;unfold jU at E ⊢;cases e:p x with
  |true=>
   have D:List.dropWhile p (x::s)=List.dropWhile p s:=by rw[dropWhile_cons,if_pos e]
   rw[D,<- E,mR];by_cases h:stripR p s=[]
   ·rw[if_pos h,if_pos e,h]
   ·rw[if_neg h,dropWhile_cons,if_pos e]
  |false=>
   have q: ¬ p x=true:=by rw[e];decide
   have D:List.dropWhile p (x::s)=x::s:=by rw[dropWhile_cons,if_neg q]
   rw[D,mR];by_cases h:stripR p s=[]
   ·rw[if_pos h,if_neg q,dropWhile_cons,if_neg q]
   ·rw[if_neg h,dropWhile_cons,if_neg q]
theorem vi (p:UInt8->Bool):∀s:lU,stripR p s=[]↔s.all p=true
 |[]=>by simp[stripR]
 |x::s=>by
  have e:=vi p s;rw[mR,List.all_cons,Bool.and_eq_true,<- e];by_cases h:stripR p s=[]
  ·rw[if_pos h];cases p x<;>simp[h]
  ·rw[if_neg h];simp[h]
theorem kz (p:UInt8->Bool):∀s:lU,jU p s=[]↔s.all p=true
 |[]=>by simp[jU,stripR]
 |x::s=>by
  unfold jU;rw[dropWhile_cons];cases e:p x with
  |true=>rw[if_pos rfl,List.all_cons,e,Bool.true_and];exact kz p s
  |false=>rw[if_neg (by decide),vi]
theorem Qt (p:UInt8->Bool)(s:lU):∀x∈stripR p s,x∈s:=λx e=>by
 unfold stripR at e;rw[List.mem_reverse]at e;exact List.mem_reverse.1 ((List.dropWhile_sublist p).subset e)
theorem Iz (p:UInt8->Bool)(s:lU):∀x∈jU p s,x∈s:=λx e=>(List.dropWhile_sublist p).subset (Qt p _ x e)
theorem AD (p:UInt8->Bool)(s:lU):(jU p s).length <=s.length:=by
 unfold jU stripR;rw[List.length_reverse];have h1:=(List.dropWhile_sublist p (l:=(s.dropWhile p).reverse)).length_le;have e:=(List.dropWhile_sublist p (l:=s)).length_le;rw[List.length_reverse]at h1;omega
theorem FW (s cs:lU):Lib.trimS s cs=jU (cs.contains ·) s:=ut _ s
def mJ (c:UInt8):Bool:=c==32 || c==9
def trimB (s:lU):lU:=jU mJ s
theorem PI:∀n,n<256->([32,9]:lU).contains (UInt8.ofNat n)=mJ (UInt8.ofNat n):=by decide+kernel
theorem Yb (c:UInt8):([32,9]:lU).contains c=mJ c:=by
 have:=PI c.toNat (by have:=c.toNat_lt;omega)
 rwa [UInt8.ofNat_toNat]at this
theorem Xy (s:lU):Lib.trimS s [32,9]=trimB s:=by
 rw[FW];unfold trimB;congr 1;exact funext Yb
def dG (s:lU):Bool:= !(s==[])&&s.all eO
theorem N7 (s:lU):(Lib.trimS s [48,49,50,51,52,53,54,55,56,57]==[])=s.all eO:=by
 rw[FW];have e:(λx=>([48,49,50,51,52,53,54,55,56,57]:lU).contains x)=eO:=funext Rm;rw[e,Bool.eq_iff_iff,beq_iff_eq,kz]
def uD (s:lU):Prop:=dG s=true/\s.length <=18/\ ¬ (s.head?=some 48/\1<s.length)
instance  (s:lU):Decidable (uD s):=by unfold uD;infer_instance
theorem lY (s:lU)(D:s.length <=9223372036854775807)(w:World):Cf ja #[vS s] w (Ret λv w'=>v=vS (trimB s)/\bW w w'):=by
 apply Hg;refine(Tryz.strings_Trim_laid (mkS s) (mkS [32,9]) w D (by decide) (ascii_of_all (by decide))).mono ?_;rintro _ E ⟨rfl,q⟩;have e:Lib.trimS (mkS s).data.toList (mkS [32,9]).data.toList=trimB s:=Xy s;rw[e];exact⟨_,rfl,rfl,q⟩
theorem mL (s:lU)(D:s.length <=9223372036854775807)(w:World):Cf iF #[vS s] w (Ret λv w'=>v=.bool (dG s)/\bW w w'):=by
 apply Cx;unfold dG;refine af.of (λh=>?_) (λh=>?_)
 ·refine⟨⟨by decide,by decide⟩,?_⟩;rintro _ rfl;refine(Tryz.strings_Trim_laid (mkS s) (mkS [48,49,50,51,52,53,54,55,56,57]) w D (by decide) (ascii_of_all (by decide))).mono ?_;rintro _ E ⟨rfl,q⟩;refine⟨_,rfl,?_,q⟩;have e:=N7 s;rw[h,Bool.true_and,<- e];rfl
 ·rw[h];exact⟨rfl,Below.refl _ _⟩
theorem jJ (s:lU)(b0:s.length <=9223372036854775000)(w:World):
 Cf gr #[vS s] w (Ret λv w'=>v=(if uD s then .tuple #[vI (fg s),.bool true]else .tuple #[vI 0,.bool false])/\bW w w'):=by
 apply Cy;have H:∀{w':World},¬ uD s->bW w w'->(.tuple #[vI 0,.bool false]:Value)=(if uD s then .tuple #[vI (fg s),.bool true]else .tuple #[vI 0,.bool false])/\bW w w':=λG q=>⟨by rw[if_neg G],q⟩
 refine eC (λw'=>uD s/\bW w w') ?_ ?_
 ·refine aA (mL s (by omega) w) ?_;rintro _ ad ⟨rfl,q⟩;refine⟨_,rfl,?_⟩;refine af.of (λh=>?_) (λh=>?_)<;>simp only[Bool.not_eq_true',Bool.not_eq_false']at h
  ·exact H (λe=>by rw[e.1]at h;cases h) q
  refine af.of (λV=>?_) (λV=>?_)<;>simp only[gt_iff_lt,dTx,dFx]at V
  ·exact H (λe=>by have:=e.2.1;omega) q
  have ar:s≠[]:=λI=>by rw[I]at h;cases h
  match s,ar with
  |c::r,_=>
   have bb:be (c::r) 0=((c.toNat:Nat):Int):=rfl;rw[bb];refine⟨⟨by decide,by simp only[length_cons];omega⟩,?_⟩;refine af.of (λM=>?_) (λM=>?_)
   ·have e:c=48:=Be (by simpa using M);refine af.of (λX=>?_) (λX=>?_)<;>simp only[gt_iff_lt,dTx,dFx]at X
    ·exact H (λD=>D.2.2 ⟨by rw[e];rfl,by omega⟩) q
    ·exact⟨⟨h,by omega,λD=>by omega⟩,q⟩
   ·have e:c≠48:=λI=>by subst I;cases M
    exact⟨⟨h,by omega,λD=>e (by simpa using D.1)⟩,q⟩
 ·rintro ad ⟨G,q⟩;rw[if_pos G];obtain⟨O,bq,_⟩:=G;have Y:∀c∈s,eO c=true:=λc e=>by
   unfold dG at O;rw[Bool.and_eq_true]at O;exact List.all_eq_true.1 O.2 c e
  obtain⟨ag,a,n,c,a8,U,al,bj⟩:=pz ax bX cE ad s (by omega) NoB;have a0:=U.len;subst a0;have aj:=ae q al q.size;refine⟨ag,a,_,c,a8,?_⟩;refine⟨λm n i w'=>∃k:Nat,k <=s.length/\i=(k:Int)/\n=fg (s.take k)/\m=s.length-k/\w'=ag,⟨_,0,by omega,rfl,rfl,rfl,rfl⟩,?_⟩;intro m n i;refine aQ.of ?_ _;rintro w' ⟨k,bk,rfl,rfl,rfl,rfl⟩;refine af.of (λh=>?_) (λh=>?_)<;>simp only[dTx,dFx]at h
  ·have E:k<s.length:=by omega
   have e:=iH.1 (Y s[k] (getElem_mem E));have Z:=ib (s.take k) 0 (by decide) λc e=>Y c (mem_of_mem_take e);have bs:(10:Int) ^ (s.take k).length <=10 ^ 17:=De (by rw[length_take];omega);have bc:(10:Int) ^ 17=100000000000000000:=by decide
   have hV:(s.take k).foldl (λn c=>n*10+((c.toNat:Int)-48)) 0=fg (s.take k):=rfl;rw[hV]at Z;have an:=Z.2;rw[Int.zero_add,Int.one_mul]at an;obtain⟨v,ac,a9⟩:=U.all.load1 (i:=(k:Int)) cE rfl rfl (by simpa using E);have:=FY a9;subst this;simp only[Int.toNat_natCast]at ac;refine⟨⟨⟨by omega,h⟩,U.all.isSome E⟩,_,ac,s.length-(k+1),by omega,k+1,by omega,by rw[wrJ];omega,?_,rfl,rfl⟩;rw[take_succ_eq_append_getElem E,DV,wrJ (n:=10*fg (s.take k)),wrap_u8 (n:=((s[k].toNat:Nat):Int)-48) (by omega) (by omega),wrJ (n:=((s[k].toNat:Nat):Int)-48),wrJ];omega
  ·have:k=s.length:=by omega
   subst this;rw[take_length];exact⟨rfl,aj⟩
theorem eB (s:lU)(c:UInt8)(O:s.length<4294967281)(w:World)(G:Env w):
 Cf dN #[vS s,.int .u8 ((c.toNat:Nat):Int)] w (Ret λv w'=>∃a n q,v=.slice a n q/\Ow tS ak w' NoB a n q (bR c [] s)/\bU w.heap.size a/\bW w w'):=by
 apply EX;intro k e H D;have hB:=(D▸ao w _:bW w e)
 have M:Ow tU8 bp e NoB (some ⟨k,0,none⟩) 1 1 [c]:=Ow.newF (l:=[_]) r6 H D (gy.one (qJ rfl)) (show 1 <=maxLen by decide);refine⟨_,oM bX ax cE M.all,?_⟩;obtain⟨m,I⟩:=(G.step hB).max;refine(Tryz.strings_Split (mkS s) (mkS [c]) m e O I (Nat.le_refl 1)).mono ?_;rintro _ V ⟨rfl,E⟩;have U:=dJ c s [];rw[FJ,NX]at*;refine⟨_,_,_,rfl,_,_,_,rfl,Ow.newF (ec _) rfl E (nq λ_ _=>trivial) (by show _ <=2 ^ 63-1;omega),jB rfl |>.mono hB.size,ae hB (E▸ao _ _) hB.size⟩
theorem uW (c:UInt8)(w:World):Cf ic #[.int .u8 ((c.toNat:Nat):Int)] w (Ret λv w'=>v=.bool (mJ c)/\w'=w):=by
 apply E7;have e:∀n:UInt8,((((c.toNat:Nat):Int))==((n.toNat:Nat):Int))=(c==n):=λn=>by
  rw[Bool.eq_iff_iff,beq_iff_eq,beq_iff_eq];exact⟨λh=>Be h,λh=>by rw[h]⟩
 have q:=e 32;have D:=e 9;refine af.of (λh=>?_) (λh=>?_)
 ·exact⟨by unfold mJ;rw[<- q,show((((c.toNat:Nat):Int))==((UInt8.toNat 32:Nat):Int))=true from h];rfl,rfl⟩
 ·exact⟨by unfold mJ;rw[<- q,show((((c.toNat:Nat):Int))==((UInt8.toNat 32:Nat):Int))=false from h,Bool.false_or,<- D];rfl,rfl⟩
theorem FN (h:0<s.length):s=s.take (s.length-1)++[s[s.length-1]]:=by
 conv=>lhs;rw[<- take_length (l:=s)]
 have:s.length=(s.length-1)+1:=by omega
 conv=>lhs;rw[this,take_succ_eq_append_getElem (by omega)]
def iB (s:lU):lU:=trimB (s.takeWhile (· !=61))
def gQ (s:lU):lU:=trimB ((s.dropWhile (· !=61)).drop 1)
def Jn (s:lU):Bool:=decide ((61:UInt8)∈s)
theorem ZI (c:UInt8):((c !=61)=true)↔c≠61:=by simp
theorem XA (p:UInt8->Bool)(s:lU):s.take (s.takeWhile p).length=s.takeWhile p:=by
 have h:(s.takeWhile p++s.dropWhile p).take (s.takeWhile p).length=s.takeWhile p:=List.take_left' rfl
 rwa [List.takeWhile_append_dropWhile]at h
theorem Xz (p:UInt8->Bool)(s:lU):s.drop (s.takeWhile p).length=s.dropWhile p:=by
 have h:(s.takeWhile p++s.dropWhile p).drop (s.takeWhile p).length=s.dropWhile p:=List.drop_left' rfl
 rwa [List.takeWhile_append_dropWhile]at h
theorem Qe (h:(61:UInt8)∉s):s.takeWhile (· !=61)=s/\s.dropWhile (· !=61)=[]:=by
 have D:∀x∈s,(x !=61)=true:=λx E=>(ZI x).2 λq=>h (q▸E);have h1:s.takeWhile (· !=61)=s:=by
  have:=List.takeWhile_append_of_pos (p:=(· !=61)) (l₁:=s) (l₂:=[]) D;simpa using this
 have e:=List.takeWhile_append_dropWhile (p:=(· !=(61:UInt8))) (l:=s);refine⟨h1,?_⟩;rw[h1]at e;exact List.append_cancel_left (e.trans (append_nil s).symm)
theorem Lv (h:(61:UInt8)∈s):(s.takeWhile (· !=61)).length<s.length:=by
 have h1:=dF (· !=(61:UInt8)) s;by_cases c:(s.takeWhile (· !=61)).length=s.length
 ·have e:s.takeWhile (· !=61)=s:=(List.takeWhile_sublist _).eq_of_length c;have:=List.all_takeWhile (p:=(· !=(61:UInt8))) (l:=s);rw[e]at this;have:=List.all_eq_true.1 this 61 h;simp at this
 ·omega
def jE (c:UInt8):Bool:=(decide (c.toNat<32) && !(c==9)) || c==127
theorem im (c n:UInt8):((((c.toNat:Nat):Int))==((n.toNat:Nat):Int))=(c==n):=by
 rw[Bool.eq_iff_iff,beq_iff_eq,beq_iff_eq];exact⟨λh=>Be h,λh=>by rw[h]⟩
theorem byte_at (h:k<s.length):be s (k:Int)=((s[k].toNat:Nat):Int):=by
 rw[mi (i:=(k:Int)) (by simpa using h)];simp only[Int.toNat_natCast]
theorem Ps (K:Value->World->Prop)(s:lU)(ac:s.length <=9223372036854775807)(w:World)(q:K (vS (stripR mJ s)) w){a b:Nat} :
 ∃D:Nat->FP [.one (.str)],(∃m:Nat,D m s w)/\∀(m:Nat) (t:lU),aQ a (∀(I:World),D m t I->
  ∃J:FP [],
  (af (decide (((length t:Nat):Int)>(0:Int)))
  (((0 <=(i64.wrap (((length t:Nat):Int)-1))/\(i64.wrap (((length t:Nat):Int)-1))<((length t:Nat):Int)))/\
  Cf ic #[.int .u8 (be t (i64.wrap (((length t:Nat):Int)-1)))] I λZ V=>∃(M:Bool),Z=.returned (.bool M)/\
  af M
  (J V)
  (K (vS t) V))
  (K (vS t) I))/\
  aQ b (∀(X:World),J X->
  ((0 <=(i64.wrap (((length t:Nat):Int)-1))/\(i64.wrap (((length t:Nat):Int)-1)) <=(((length t):Nat):Int)))/\
  ∀(U:lU),U=(List.take (Int.toNat (i64.wrap (((length t:Nat):Int)-1))) t)->
  ∃O:Nat,O<m/\D O U X)):=by
 refine⟨λm t w'=>m=t.length/\stripR mJ s=stripR mJ t/\t.length <=s.length/\w'=w,⟨_,rfl,rfl,Nat.le_refl _,rfl⟩,?_⟩;intro m t;refine aQ.of ?_ _;rintro w' ⟨rfl,H,ad,rfl⟩;refine jA (w:=w') (∃h:0<t.length,mJ t[t.length-1]=true) ?_ ?_
 ·refine af.of (λh=>?_) (λh=>?_)<;>simp only[gt_iff_lt,dTx,dFx]at h
  ·have e:0<t.length:=by omega
   have E:i64.wrap (((t.length:Nat):Int)-1)=((t.length-1:Nat):Int):=by rw[wrJ];omega
   try dsimp only
   rw[E,byte_at (by omega)];refine⟨⟨by omega,by omega⟩,?_⟩;refine aA (uW _ w') ?_;rintro _ w' ⟨rfl,rfl⟩;refine⟨_,rfl,?_⟩;refine af.of (λG=>?_) (λG=>?_)
   ·exact⟨rfl,e,G⟩
   ·have Y:stripR mJ t=t:=by
     conv=>lhs;rw[FN e]
     rw[FM,if_neg (by rw[G];decide),<- FN e]
    rw[H,Y]at q;exact q
  ·have:t=[]:=List.eq_nil_of_length_eq_zero (by omega);subst this;rw[H]at q;exact q
 ·rintro⟨e,hb⟩;have E:i64.wrap (((t.length:Nat):Int)-1)=((t.length-1:Nat):Int):=by rw[wrJ];omega
  try dsimp only
  rw[E];refine⟨⟨by omega,by omega⟩,?_⟩;rintro _ rfl;simp only[Int.toNat_natCast];refine⟨t.length-1,by omega,by rw[length_take];omega,?_,by rw[length_take];omega,trivial⟩;rw[H]
  conv=>lhs;rw[FN e]
  rw[FM,if_pos hb]
theorem mb (s:lU)(M:s.length <=9223372036854775807)(w:World):Cf jb #[vS s] w (Ret λv w'=>v=vS (trimB s)/\w'=w):=by
 apply Hk;refine⟨λm t w'=>m=t.length/\s.dropWhile mJ=t.dropWhile mJ/\t.length <=s.length/\w'=w,⟨_,rfl,rfl,Nat.le_refl _,rfl⟩,?_⟩;intro m t;refine aQ.of ?_ _;rintro w' ⟨rfl,q,G,rfl⟩;refine af.of (λh=>?_) (λh=>?_)<;>simp only[gt_iff_lt,dTx,dFx]at h
 ·match t,h with
  |c::r,h=>
   have H:be (c::r) 0=((c.toNat:Nat):Int):=rfl;rw[H];refine⟨⟨by decide,h⟩,?_⟩;refine aA (uW c w') ?_;rintro _ w' ⟨rfl,rfl⟩;refine⟨_,rfl,?_⟩;refine af.of (λe=>?_) (λe=>?_)
   ·refine⟨⟨by decide,by simp only[length_cons];omega⟩,?_⟩;rintro I E;obtain rfl:I=r:=E;refine⟨_,Nat.lt_succ_self _,rfl,?_,?_,rfl⟩
    ·rw[q,dropWhile_cons,if_pos e]
    ·simp only[length_cons]at G;omega
   ·refine Ps (λv D=>v=vS (trimB s)/\D=w') (c::r) (by omega) w' ?_;refine⟨?_,rfl⟩;unfold trimB jU;rw[q,dropWhile_cons,if_neg (by rw[e];decide)]
 ·have:t=[]:=List.eq_nil_of_length_eq_zero (by omega);subst this;refine Ps (λv D=>v=vS (trimB s)/\D=w') [] (by simp) w' ?_;refine⟨?_,rfl⟩;unfold trimB jU;rw[q];rfl
theorem jK (s:lU)(U:s.length <=9223372036854775807)(w:World):Cf gu #[vS s] w (Ret λv w'=>v=.bool (dG s)/\w'=w):=by
 apply CA;refine⟨λm i w'=>∃k:Nat,k <=s.length/\i=(k:Int)/\m=s.length-k/\(s.take k).all eO=true/\w'=w,⟨_,0,by omega,rfl,rfl,rfl,rfl⟩,?_⟩;intro m i;refine aQ.of ?_ _;rintro w' ⟨k,O,rfl,rfl,q,rfl⟩;refine af.of (λh=>?_) (λh=>?_)<;>simp only[dTx,dFx]at h
 ·have E:k<s.length:=by omega
  have D:=Rl E;have G: ¬ eO s[k]=true->(.bool false:Value)=.bool (dG s)/\w'=w':=λM=>⟨by
   congr 1;symm;unfold dG;rw[Bool.and_eq_false_iff];right;rw[Bool.eq_false_iff];intro e;exact M (List.all_eq_true.1 e _ (getElem_mem E)),rfl⟩
  refine⟨⟨by omega,h⟩,?_⟩;refine af.of (λH=>?_) (λH=>?_)<;>simp only[dTx,dFx]at H
  ·exact G λe=>by have:=(D.1 e).1;omega
  refine⟨⟨by omega,h⟩,?_⟩;refine af.of (λI=>?_) (λI=>?_)<;>simp only[gt_iff_lt,dTx,dFx]at I
  ·exact G λe=>by have:=(D.1 e).2;omega
  ·refine⟨s.length-(k+1),by omega,k+1,by omega,by rw[wrJ];omega,rfl,?_,rfl⟩;rw[take_succ_eq_append_getElem E,List.all_append,q];simp[D.2 ⟨by omega,by omega⟩]
 ·have:k=s.length:=by omega
  subst this;rw[take_length]at q;refine⟨?_,rfl⟩;congr 1;unfold dG;rw[q,Bool.and_true];cases s<;>simp
theorem gx (s:lU)(c:UInt8)(bs:s.length <=100000000)(w:World):
 Cf eX #[vS s,.int .u8 ((c.toNat:Nat):Int)] w (Ret λv w'=>∃a n q,v=.slice a n q/\Ow tS ak w' NoB a n q (bR c [] s)/\bU w.heap.size a/\bW w w'):=by
 apply E0;intro bb an aj al;have hB:=(al▸ao w _:bW w an)
 have a8:Ow tS ak an NoB (some ⟨bb,0,none⟩) 0 0 []:=Ow.newF (ec _) aj al (gy.nil _ _ _) (Nat.zero_le _);refine⟨λm a n q ag i w'=>∃(k j:Nat) (done:List lU),k <=s.length/\j <=k/\i=(k:Int)/\ag=(j:Int)/\m=s.length-k/\done.length <=k/\bR c [] s=done++bR c ((s.take k).drop j) (s.drop k)/\
  Ow tS ak w' NoB a n q done/\bU w.heap.size a/\bW w w',
  ⟨_,0,0,[],by omega,by omega,rfl,rfl,rfl,Nat.le_refl _,rfl,a8,jB aj,hB⟩,?_⟩
 intro m a n q ag i;refine aQ.of ?_ _;rintro b0 ⟨k,j,done,bq,bk,rfl,rfl,rfl,bj,e,X,M,H⟩;refine af.of (λh=>?_) (λh=>?_)<;>simp only[dTx,dFx]at h
 ·have V:k<s.length:=by omega
  have ar:i64.wrap ((k:Int)+1)=((k+1:Nat):Int):=by rw[wrJ];omega
  try dsimp only
  rw[ar,byte_at V,im];rw[Wz c s _ k V]at e;refine⟨⟨by omega,h⟩,?_⟩;refine af.of (λD=>?_) (λD=>?_)
  ·rw[beq_iff_eq]at D;rw[if_pos D]at e;refine⟨⟨⟨by omega,by omega⟩,by omega,by omega⟩,?_⟩;rintro _ rfl a9 bc U E;simp only[Int.toNat_natCast]at E ⊢;obtain⟨ad,a4,ac,G,Z,Y,O,I⟩:=Ch (ty:=aO) (w0:=w) (cm:=1) (vs:=[_]) (ec _) dW cK (by decide) X M H U E (gB trivial) (by omega);refine⟨ad,a4,ac,G,Z,s.length-(k+1),by omega,k+1,k+1,_,by omega,Nat.le_refl _,rfl,rfl,rfl,?_,?_,Y,O,I⟩
   ·simp;omega
   ·have a0:(s.take (k+1)).drop (k+1)=[]:=List.drop_eq_nil_of_le (by rw[length_take];omega);rw[e,a0];simp
  ·rw[beq_eq_false_iff_ne]at D;rw[if_neg D]at e;refine⟨s.length-(k+1),by omega,k+1,j,done,by omega,by omega,rfl,rfl,rfl,by omega,?_,X,M,H⟩;rw[e,take_succ_eq_append_getElem V,List.drop_append_of_le_length (by rw[length_take];omega)]
 ·have:k=s.length:=by omega
  subst this;refine⟨⟨by omega,by omega⟩,?_⟩;rintro _ rfl a9 bc U E;simp only[Int.toNat_natCast]at E ⊢;obtain⟨ad,a4,ac,G,Z,Y,O,I⟩:=Ch (ty:=aO) (w0:=w) (cm:=1) (vs:=[_]) (ec _) dW cK (by decide) X M H U E (gB trivial) (by omega);refine⟨ad,a4,ac,G,Z,_,_,_,rfl,?_,O,I⟩;rw[e];simpa[bR]using Y
theorem sv (s:lU)(O:s.length <=9223372036854775807)(w:World):Cf mB #[vS s] w (Ret λv w'=>v=vI ((s.takeWhile (· !=61)).length:Nat)/\w'=w):=by
 apply Kn;have M:=dF (· !=(61:UInt8)) s;refine⟨λm i w'=>∃k:Nat,k <=(s.takeWhile (· !=61)).length/\i=(k:Int)/\m=s.length-k/\w'=w,⟨_,0,by omega,rfl,rfl,rfl⟩,?_⟩;intro m i;refine aQ.of ?_ _;rintro w' ⟨k,I,rfl,rfl,rfl⟩;refine af.of (λh=>?_) (λh=>?_)<;>simp only[dTx,dFx]at h
 ·have G:k<s.length:=by omega
  have D:=sP (· !=(61:UInt8)) s k G I;rw[ZI]at D;rw[byte_at G];refine⟨⟨by omega,h⟩,?_⟩;have e:=im s[k] 61;refine af.of (λq=>?_) (λq=>?_)
  ·rw[show((((s[k].toNat:Nat):Int))==((UInt8.toNat 61:Nat):Int))=true from q]at e;have E:s[k]=61:=by simpa using e.symm
   exact⟨by congr 1;have: ¬ k<(s.takeWhile (· !=61)).length:=λH=>D.2 H E;omega,rfl⟩
  ·rw[show((((s[k].toNat:Nat):Int))==((UInt8.toNat 61:Nat):Int))=false from q]at e;have E:s[k]≠61:=by simpa using e.symm
   have:=D.1 E;exact⟨s.length-(k+1),by omega,k+1,this,by rw[wrJ];omega,rfl,rfl⟩
 ·exact⟨by congr 1;omega,rfl⟩
theorem vg (s:lU)(e:s.length <=9223372036854775807)(w:World):Cf cJ #[vS s] w (Ret λv w'=>v=vS (iB s)/\w'=w):=by
 apply Ft;have q:=dF (· !=(61:UInt8)) s;refine aA (sv s e w) ?_;rintro _ w ⟨rfl,rfl⟩;refine⟨_,rfl,⟨by omega,by omega⟩,?_⟩;rintro _ rfl;simp only[Int.toNat_natCast];rw[XA];refine aA (mb _ (by omega) w) ?_;rintro _ w ⟨rfl,rfl⟩;exact⟨_,rfl,rfl,rfl⟩
theorem vf (s:lU)(G:s.length <=9223372036854775800)(w:World):Cf bS #[vS s] w (Ret λv w'=>v=vS (gQ s)/\w'=w):=by
 apply Fs;have D:=dF (· !=(61:UInt8)) s;refine aA (sv s (by omega) w) ?_;rintro _ w ⟨rfl,rfl⟩;refine⟨_,rfl,?_⟩;refine af.of (λh=>?_) (λh=>?_)
 ·rw[beq_iff_eq]at h;refine⟨?_,rfl⟩;unfold gQ;by_cases e:(61:UInt8)∈s
  ·have:=Lv e;omega
  ·rw[(Qe e).2];rfl
 ·rw[beq_eq_false_iff_ne]at h;have E:(s.takeWhile (· !=61)).length<s.length:=by omega
  rw[wrJ];refine⟨⟨by omega,by omega⟩,?_⟩;rintro _ rfl;have q:Int.toNat (((s.takeWhile (· !=61)).length:Nat)+1:Int)=(s.takeWhile (· !=61)).length+1:=by omega
  rw[q,<- List.drop_drop,Xz];refine aA (mb _ (by simp;have:=(List.dropWhile_sublist (· !=(61:UInt8)) (l:=s)).length_le;omega) w) ?_;rintro _ w ⟨rfl,rfl⟩;exact⟨_,rfl,rfl,rfl⟩
theorem uT (s:lU)(M:s.length<4294967281)(w:World)(I:Env w):
 Cf lG #[vS s] w (Ret λv w'=>v=.tuple #[vS (iB s),vS (gQ s),.bool (Jn s)]/\bW w w'):=by
 apply EM;obtain⟨m,e⟩:=I.max;refine(Tryz.strings_Cut (mkS s) (mkS [61]) m w M e).mono ?_;rintro _ V ⟨rfl,n,rfl⟩;have E:Lib.cut (mkS s).data.toList (mkS [61]).data.toList=(s.takeWhile (· !=61),(s.dropWhile (· !=61)).drop 1,Jn s):=by
  show Lib.cut s [61]=_;rw[Up];unfold Jn;by_cases e:(61:UInt8)∈s
  ·rw[if_pos e,decide_eq_true e]
  ·rw[if_neg e,decide_eq_false e,(Qe e).1,(Qe e).2];rfl
 rw[E];refine⟨s.takeWhile (· !=61),(s.dropWhile (· !=61)).drop 1,_,rfl,?_⟩;have h1:=dF (· !=(61:UInt8)) s;have U:=(List.dropWhile_sublist (· !=(61:UInt8)) (l:=s)).length_le;refine aA (lY _ (by omega) _) ?_;rintro _ O ⟨rfl,G⟩;refine⟨_,rfl,?_⟩;refine aA (lY _ (by rw[length_drop];omega) O) ?_;rintro _ X ⟨rfl,H⟩;have q:bW w (w.drewN n):=lR rfl rfl rfl (Nat.le_refl _) (λ_ _=>rfl);have D:=ae q G q.size;exact⟨_,rfl,rfl,ae D H D.size⟩
theorem Aa (s:lU)(ar:s.length <=9223372036854775807)(w:World):Cf kW #[vS s] w (Ret λv w'=>v=.bool (s.any jE)/\bW w w'):=by
 apply yw;obtain⟨ag,a,n,c,al,V,Z,a0⟩:=pz ax bX cE w s ar NoB;have aj:=V.len;subst aj;refine⟨ag,a,_,c,al,?_⟩;refine⟨λm i w'=>∃k:Nat,k <=s.length/\i=(k:Int)/\m=s.length-k/\(s.take k).any jE=false/\w'=ag,⟨_,0,by omega,rfl,rfl,rfl,rfl⟩,?_⟩;intro m i;refine aQ.of ?_ _;rintro w' ⟨k,a8,rfl,rfl,U,rfl⟩;refine af.of (λh=>?_) (λh=>?_)<;>simp only[dTx,dFx]at h
 ·have D:k<s.length:=by omega
  obtain⟨v,ac,an⟩:=V.all.load1 (i:=(k:Int)) cE rfl rfl (by simpa using D);have:=FY an;subst this;simp only[Int.toNat_natCast]at ac;have G:jE s[k]=true->(.bool true:Value)=.bool (s.any jE)/\bW w w':=λO=>⟨by
   congr 1;symm;exact List.any_eq_true.2 ⟨_,getElem_mem D,O⟩,Z⟩
  have Y:jE s[k]=false->∃ad:Nat,ad<s.length-k/\∃E:Nat,E <=s.length/\i64.wrap ((k:Int)+1)=(E:Int)/\ad=s.length-E/\(s.take E).any jE=false/\w'=w':=λO=>
   ⟨s.length-(k+1),by omega,k+1,by omega,by rw[wrJ];omega,rfl,by rw[take_succ_eq_append_getElem D,List.any_append,U];simp[O],rfl⟩
  have X:=im s[k] 9;have q:=im s[k] 127;refine⟨⟨⟨by omega,h⟩,V.all.isSome D⟩,_,ac,?_⟩;refine af.of (λH=>?_) (λH=>?_)
  ·simp only[dTx]at H;refine af.of (λI=>?_) (λI=>?_)
   ·refine G ?_;have M:(s[k]==9)=false:=by rw[<- X];simpa using I
    unfold jE;rw[M,decide_eq_true (show s[k].toNat<32 by omega)];rfl
   ·have M:(s[k]==9)=true:=by rw[<- X];simpa using I
    refine af.of (λe=>?_) (λe=>?_)
    ·refine G ?_;unfold jE;rw[<- q,show((((s[k].toNat:Nat):Int))==((UInt8.toNat 127:Nat):Int))=true from e,Bool.or_true]
    ·refine Y ?_;unfold jE;rw[<- q,show((((s[k].toNat:Nat):Int))==((UInt8.toNat 127:Nat):Int))=false from e,M];simp
  ·simp only[dFx]at H;refine af.of (λe=>?_) (λe=>?_)
   ·refine G ?_;unfold jE;rw[<- q,show((((s[k].toNat:Nat):Int))==((UInt8.toNat 127:Nat):Int))=true from e,Bool.or_true]
   ·refine Y ?_;unfold jE;rw[<- q,show((((s[k].toNat:Nat):Int))==((UInt8.toNat 127:Nat):Int))=false from e,decide_eq_false (show ¬ s[k].toNat<32 by omega)];rfl
 ·have:k=s.length:=by omega
  subst this;rw[take_length]at U;exact⟨by rw[U],Z⟩
def Oi (s:lU):Option Int:=if s.head?=some 45 then(if dG (s.drop 1)then some 0 else none)else if dG s then some (min (fg s) 34560000)else none
theorem ym (s:lU)(c:UInt8):Lib.hasPrefix s [c]=decide (s.head?=some c)/\Lib.trimPrefix s [c]=if s.head?=some c then s.drop 1 else s:=by
 cases s with
 |nil=>exact⟨by simp[Lib.hasPrefix],rfl⟩
 |cons x s=>
  by_cases h:x=c
  ·subst h;have q:Lib.hasPrefix (x::s) [x]=true:=by simp[Lib.hasPrefix,List.isPrefixOf]
   refine⟨by rw[q];simp,?_⟩;unfold Lib.trimPrefix;rw[q];simp
  ·have e:Lib.hasPrefix (x::s) [c]=false:=by simp[Lib.hasPrefix,List.isPrefixOf,Ne.symm h]
   refine⟨by rw[e];simp[h],?_⟩;unfold Lib.trimPrefix;rw[e];simp[h]
theorem VO (p:UInt8->Bool):∀s:lU,s.dropWhile p=[]↔s.all p=true
 |[]=>by simp
 |x::s=>by
  rw[dropWhile_cons,List.all_cons];cases h:p x with
  |true=>rw[if_pos rfl,Bool.true_and];exact VO p s
  |false=>simp
theorem Lf:∀(l:lU) (e:Int),l.foldl (λn c=>n*10+((c.toNat:Int)-48)) e=(l.dropWhile (· ==48)).foldl (λn c=>n*10+((c.toNat:Int)-48)) e\/e≠0
 |[],e=>.inl rfl
 |c::l,e=>by
  by_cases q:e=0
  ·subst q;left;rw[dropWhile_cons];split
   ·rename_i h;have:c=48:=by simpa using h
    subst this;rw[foldl_cons];have D:(0:Int)*10+(((48:UInt8).toNat:Int)-48)=0:=by decide
    rw[D];rcases Lf l 0 with h|h
    ·exact h
    ·exact absurd rfl h
   ·rfl
  ·exact .inr q
theorem PQ (l:lU):fg l=fg (l.dropWhile (· ==48)):=by
 rcases Lf l 0 with h|h
 ·exact h
 ·exact absurd rfl h
theorem Rj:∀(l:lU) (e:Int),0 <=e->(∀c∈l,eO c=true)->e*10 ^ l.length <=l.foldl (λn c=>n*10+((c.toNat:Int)-48)) e
 |[],e,h,_=>by simp
 |c::l,e,h,q=>by
  have E:=iH.1 (q c mem_cons_self);have h1:=Rj l (e*10+((c.toNat:Int)-48)) (by omega) λx D=>q x (mem_cons_of_mem _ D);rw[foldl_cons];refine Int.le_trans ?_ h1;rw[length_cons,Int.pow_succ,Int.mul_comm (10 ^ l.length) 10,<- Int.mul_assoc];exact Int.mul_le_mul_of_nonneg_right (by omega) (Int.pow_nonneg (by decide))
theorem Us {l:lU}(q:∀c∈l,eO c=true)(E:l.head?≠some 48)(e:19 <=l.length):34560000<fg l:=by
 match l,e with
 |c::r,e=>
  have U:=iH.1 (q c mem_cons_self);have V:c.toNat≠48:=λD=>E (by have:c=48:=UInt8.toNat_inj.1 D;rw[this];rfl);have h1:=Rj r (0*10+((c.toNat:Int)-48)) (by omega) λx H=>q x (mem_cons_of_mem _ H);have G:fg (c::r)=r.foldl (λn c=>n*10+((c.toNat:Int)-48)) (0*10+((c.toNat:Int)-48)):=rfl;rw[G];have M:(10:Int) ^ 18 <=10 ^ r.length:=De (by simp at e;omega);have I:(10:Int) ^ 18=1000000000000000000:=by decide
  have O:(1:Int)*10 ^ r.length <=(0*10+((c.toNat:Int)-48))*10 ^ r.length:=Int.mul_le_mul_of_nonneg_right (by omega) (Int.pow_nonneg (by decide));omega
structure Hdr where
 name:lU
 value:lU
 domain:lU
 path:lU
 hasE:Bool
 exp:Int
 hasA:Bool
 age:Int
 sec:Bool
 http:Bool
 same:Int
def Hdr.cells (h:Hdr):List Value:=[vS h.name,vS h.value,vS h.domain,vS h.path,.bool h.hasE,vI h.exp,.bool h.hasA,vI h.age,.bool h.sec,.bool h.http,vI h.same]
def Hdr.v (h:Hdr):Value:=.agg h.cells.toArray
def lS:Hdr:=⟨[],[],[],[],false,0,false,0,false,false,0⟩
def KH (v:lU):Int:=if cv v=[110,111,110,101]then 1 else if cv v=[108,97,120]then 2 else if cv v=[115,116,114,105,99,116]then 3 else 0
def mn (h:Hdr)(key value:lU):Hdr:=
 if key=[101,120,112,105,114,101,115]then(if uy (kN value)then{ h with hasE:=true,exp:=iv (kN value) } else h)
 else if key=[109,97,120,45,97,103,101]then(match Oi value with|some n=> { h with hasA:=true,age:=n }|none=>h)
 else if key=[100,111,109,97,105,110]then{ h with domain:=cv (if value.head?=some 46 then value.drop 1 else value) }
 else if key=[112,97,116,104]then{ h with path:=if value.head?=some 47 then value else[] }
 else if key=[115,101,99,117,114,101]then{ h with sec:=true }
 else if key=[104,116,116,112,111,110,108,121]then{ h with http:=true }
 else if key=[115,97,109,101,115,105,116,101]then{ h with same:=KH value }
 else h
theorem au.put {u:TypeId}{bytes:Nat}{z:Value}(I:TF P u 1 bytes z){vs:List Value}(h:au w k t vs){v:Value}(G:i<vs.length)(h1:v.oneCell'=true)(e:v.cells= #[v]):
 ∃w',(Instr.storeAt u (.pointer (some ⟨k,i,none⟩)) v).run P w=.ok () w'/\au w' k t (vs.set i v)/\w.grownBy w' (some k):=by
 obtain⟨w',H,q,E⟩:=h.store I (i:=i) (v:=v) (by rw[e];rfl) (by omega) (by rw[e];intro c D;simp at D;subst D;exact h1);refine⟨w',H,?_,E⟩;rw[e]at q;have:vs.set i v=vs.take i++[v]++vs.drop (i+1):=by
  rw[List.set_eq_take_append_cons_drop,if_pos G];simp
 rw[this];exact q
theorem K9 (s:lU)(c:UInt8)(w:World):Cf cN #[vS s,vS [c]] w (Ret λv w'=>v=.tuple #[vS (if s.head?=some c then s.drop 1 else s),.bool (decide (s.head?=some c))]/\w'=w):=by
 refine(Tryz.strings_CutPrefix (mkS s) (mkS [c]) w).mono ?_;rintro _ _ ⟨rfl,rfl⟩;refine⟨_,rfl,?_,rfl⟩;have h:=ym s c;have D:(mkS s).data.toList=s:=rfl;have E:(mkS [c]).data.toList=[c]:=rfl;rw[D,E,h.1];by_cases q:s.head?=some c
 ·rw[if_pos q];have e:=h.2;rw[if_pos q]at e;rw[e];rfl
 ·rw[if_neg q];have e:=h.2;rw[if_neg q]at e;rw[e];rfl
def VH (s:lU):Value:=match Oi s with|some n=>.tuple #[vI n,.bool true]|none=>.tuple #[vI 0,.bool false]
theorem Jp (s:lU)(bq:s.length <=10000000)(w:World):Cf rI #[vS s] w (Ret λv w'=>v=VH s/\bW w w'):=by
 apply G9;refine aA (K9 s 45 w) ?_;rintro _ w ⟨rfl,rfl⟩;refine⟨_,_,rfl,?_⟩;have bj:(if s.head?=some 45 then s.drop 1 else s).length <=s.length:=by split<;>simp
 refine aA (mL _ (by omega) w) ?_;rintro _ a9 ⟨rfl,D⟩;refine⟨_,rfl,?_⟩;by_cases e:s.head?=some 45
 ·rw[if_pos e,decide_eq_true e];unfold VH Oi;rw[if_pos e];cases G:dG (s.drop 1)
  ·exact af.yes rfl ⟨rfl,D⟩
  ·exact af.no rfl (af.yes rfl ⟨rfl,D⟩)
 ·rw[if_neg e,decide_eq_false e];unfold VH Oi;rw[if_neg e];cases G:dG s
  ·exact af.yes rfl ⟨rfl,D⟩
  ·refine af.no rfl (af.no rfl ?_);refine(Tryz.strings_TrimLeft_one (mkS s) 48 (by decide) a9).mono ?_;rintro _ _ ⟨rfl,rfl⟩;have q:Lib.trimLeftB (mkS s).data.toList 48=s.dropWhile (· ==48):=rfl;rw[q];refine⟨s.dropWhile (· ==48),rfl,?_⟩;have ag:∀c∈s,eO c=true:=λc M=>by
    unfold dG at G;rw[Bool.and_eq_true]at G;exact List.all_eq_true.1 G.2 c M
   have Y:=List.dropWhile_sublist (λc:UInt8=>c==48) (l:=s);have I:∀c∈s.dropWhile (· ==48),eO c=true:=λc M=>ag c (Y.subset M);have X:(s.dropWhile (· ==48)).head?≠some 48:=λq=>by
    have:=List.head?_dropWhile_not (λc:UInt8=>c==48) s;rw[q]at this;simp at this
   have bk:=Y.length_le;have a8:=PQ s;refine aA (jJ _ (by omega) _) ?_;rintro _ ac ⟨rfl,aj⟩;have E:=ae D aj D.size;rw[a8];have Z:(s.dropWhile (· ==48)=[])↔s.all (· ==48)=true:=by
    exact VO _ s
   generalize s.dropWhile (· ==48)=t at*;have an:=ib t 0 (by decide) I;have bc:0 <=fg t:=an.1;by_cases O:uD t
   ·rw[if_pos O];refine⟨_,_,rfl,af.no rfl ?_⟩;refine af.of (λh=>?_) (λh=>?_)<;>simp only[gt_iff_lt,dTx,dFx]at h
    ·exact⟨by rw[if_pos rfl];simp only[];rw[Int.min_eq_right (by omega)],E⟩
    ·exact⟨by rw[if_pos rfl];simp only[];rw[Int.min_eq_left (by omega)],E⟩
   ·rw[if_neg O];refine⟨_,_,rfl,af.yes rfl ?_⟩;refine(Tryz.strings_Trim_one (mkS s) 48 (by decide) ac (by show s.length <=_;omega)).mono ?_;rintro _ w4 ⟨rfl,a0⟩;have al:bW ac w4:=by
     rcases a0 with rfl|rfl
     ·exact Below.refl _ _
     ·exact cy _
    have V:=ae E al E.size;have ad:Lib.trimB (mkS s).data.toList 48=jU (· ==48) s:=ut _ s;rw[ad];refine⟨jU (· ==48) s,rfl,?_⟩;by_cases H:t=[]
    ·have U:jU (· ==48) s=[]:=(kz _ s).2 (Z.1 H);rw[U];refine af.no rfl (af.no rfl ⟨?_,V⟩);rw[H,if_pos rfl];rfl
    ·have U:jU (· ==48) s≠[]:=λq=>H (Z.2 ((kz _ s).1 q));have ar:dG t=true:=by
      unfold dG;rw[Bool.and_eq_true];exact⟨by simpa using H,List.all_eq_true.2 I⟩
     have bb:34560000<fg t:=Us I X (by
      by_cases c:t.length <=18
      ·exact absurd ⟨ar,c,λh=>X h.1⟩ O
      ·omega)
     refine af.yes (by simpa using U) ⟨?_,V⟩;rw[if_pos rfl];simp only[];rw[Int.min_eq_right (by omega)]
theorem LY (s:lU)(al:s.length <=10000000)(w:World):Cf wM #[vS s] w (Ret λv w'=>v=VH s/\w'=w):=by
 apply Km;refine jA (w:=w) (¬ s.head?=some 45) ?_ ?_
 ·refine gS (w:=w) (decide (s.head?=some 45)) ?_ ?_
  ·refine af.of (λh=>?_) (λh=>?_)<;>simp only[gt_iff_lt,dTx,dFx]at h
   ·match s,h with
    |c::r,h=>
     refine⟨⟨by decide,h⟩,rfl,?_⟩;have X:be (c::r) 0=((c.toNat:Nat):Int):=rfl;rw[X];have O:=im c 45;rw[show((((c.toNat:Nat):Int))==45)=(c==45) from O];simp;rw[Bool.eq_iff_iff];simp
   ·have:s=[]:=List.eq_nil_of_length_eq_zero (by omega);subst this;exact⟨rfl,rfl⟩
  ·refine af.of (λh=>?_) (λh=>?_)<;>simp only[dTx,dFx]at h
   ·have ad:1 <=s.length:=by
     cases s with
     |nil=>cases h
     |cons c r=>simp
    refine⟨⟨by decide,by omega⟩,?_⟩;rintro _ rfl;have M:Int.toNat (1:Int)=1:=rfl;rw[M];refine aA (jK (s.drop 1) (by simp;omega) w) ?_;rintro _ w ⟨rfl,rfl⟩;refine⟨_,rfl,?_,rfl⟩;unfold VH Oi;rw[if_pos h];cases dG (s.drop 1)<;>rfl
   ·exact⟨rfl,h⟩
 ·intro U;refine aA (jK s (by omega) w) ?_;rintro _ w ⟨rfl,rfl⟩;refine⟨_,rfl,?_⟩;unfold VH Oi;rw[if_neg U];cases E:dG s
  ·exact af.yes rfl ⟨rfl,rfl⟩
  ·refine af.no rfl ?_;have H:∀c∈s,eO c=true:=λc D=>by
    unfold dG at E;rw[Bool.and_eq_true]at E;exact List.all_eq_true.1 E.2 c D
   refine⟨λm n i w'=>∃k:Nat,k <=s.length/\i=(k:Int)/\m=s.length-k/\n=min (fg (s.take k)) 34560000/\w'=w,⟨_,0,by omega,rfl,rfl,rfl,rfl⟩,?_⟩;intro m n i;refine aQ.of ?_ _;rintro w' ⟨k,ac,rfl,rfl,rfl,rfl⟩;refine af.of (λh=>?_) (λh=>?_)<;>simp only[dTx,dFx]at h
   ·have G:k<s.length:=by omega
    have D:=iH.1 (H s[k] (getElem_mem G));have V:=(ib (s.take k) 0 (by decide) λc D=>H c (mem_of_mem_take D)).1;have Z:0 <=fg (s.take k):=V;have I:fg (s.take (k+1))=fg (s.take k)*10+((s[k].toNat:Int)-48):=by rw[take_succ_eq_append_getElem G,DV]
    rw[byte_at G];generalize Y:fg (s.take k)=q at*;have ag:min q 34560000 <=34560000:=Int.min_le_right _ _;have aj:0 <=min q 34560000:=by rw[Int.min_def];split<;>omega
    rw[wrJ (n:=min q 34560000*10),wrJ (n:=((s[k].toNat:Nat):Int)),wrJ (n:=min q 34560000*10+((s[k].toNat:Nat):Int)),wrJ (n:=min q 34560000*10+((s[k].toNat:Nat):Int)-48),wrJ (n:=(k:Int)+1)];refine⟨⟨by omega,h⟩,?_⟩;refine af.of (λe=>?_) (λe=>?_)<;>simp only[gt_iff_lt,dTx,dFx]at e
    ·refine⟨s.length-(k+1),by omega,k+1,by omega,by omega,rfl,?_,rfl⟩;rw[I];rw[Int.min_def]at e;rw[Int.min_def];split at e<;>split<;>omega
    ·refine⟨s.length-(k+1),by omega,k+1,by omega,by omega,rfl,?_,rfl⟩;rw[I];rw[Int.min_def]at e;rw[Int.min_def,Int.min_def];split at e<;>split<;>omega
   ·have:k=s.length:=by omega
    subst this;rw[take_length];exact⟨rfl,rfl⟩
structure Whl (P:Program)(t:TypeId)(n:Nat):Prop where
 tf:∃bytes z,TF P t n bytes z
 ag:(P.underlying t).map CX=some true
def BS (cs:List Value):Prop:=∀c∈cs,c.oneCell'=true
theorem xh {a b:List Value}(h:BS a)(k:BS b):BS (a++b):=λc e=>(List.mem_append.1 e).elim (h c) (k c)
theorem aY {x:Value}{b:List Value}(h:x.oneCell'=true)(k:BS b):BS (x::b):=λc q=>(List.mem_cons.1 q).elim (λe=>e▸h) (k c)
theorem fj:BS []:=λ_ h=>by cases h
theorem Yz (a:lU):BS (a.map λc=>Value.int .u8 ((c.toNat:Nat):Int)):=λc e=>by
 obtain⟨x,_,rfl⟩:=List.mem_map.1 e;rfl
theorem Whl.store (h:Whl P t n){cs:List Value}(G:cs.length=n)(h1:BS cs){T:TypeId}{vs:List Value}(q:au w k T vs)(E:i+n <=vs.length):
 ∃e,(Instr.storeAt t (.pointer (some ⟨k,i,none⟩)) (.agg cs.toArray)).run P w=.ok () e/\au e k T (vs.take i++cs++vs.drop (i+n))/\w.grownBy e (some k):=by
 obtain⟨bytes,z,H⟩:=h.tf;exact q.store H (i:=i) (v:=.agg cs.toArray) (by simpa[Value.cells]using G) E (λc D=>h1 c (by simpa[Value.cells]using D))
theorem Whl.store0 (h:Whl P t n){cs:List Value}(G:cs.length=n)(h1:BS cs){T:TypeId}{vs:List Value}(D:au w k T vs)(I:vs.length=n):
 ∃e,(Instr.storeAt t (.pointer (some ⟨k,0,none⟩)) (.agg cs.toArray)).run P w=.ok () e/\au e k T cs/\w.grownBy e (some k):=by
 obtain⟨e,H,q,E⟩:=h.store G h1 D (i:=0) (by omega);refine⟨e,H,?_,E⟩;rw[List.take_zero,nil_append,List.drop_eq_nil_of_le (by omega),append_nil]at q;exact q
theorem Whl.load (h:Whl P t n){T:TypeId}{vs us:List Value}(D:au w k T vs)(E:us.length=n)(I:∀j,j<n->vs[i+j]? =us[j]?):
 (Instr.loadAt t (.pointer (some ⟨k,i,none⟩))).run P w=.ok (.agg us.toArray) w:=by
 obtain⟨bytes,z,M⟩:=h.tf;obtain⟨U,H,G,_,_⟩:=M.info;have e:=h.ag;cases q:P.underlying t with
 |none=>rw[q]at e;cases e
 |some d=>
  rw[q]at e;simp only[map_some,Option.some.injEq]at e;exact D.loadA q e H (us:=us) (i:=i) (by rw[G];exact E) (λj O=>I j (by omega))
theorem Whl.load0 (h:Whl P t n){T:TypeId}{cs:List Value}(e:au w k T cs)(q:cs.length=n):
 (Instr.loadAt t (.pointer (some ⟨k,0,none⟩))).run P w=.ok (.agg cs.toArray) w:=h.load e q λj _=>by rw[Nat.zero_add]
theorem Whl.new (h:Whl P t n){zs cs:List Value}(U:zs.length=n)(M:cs.length=n)(h1:BS cs)(w:World){R:Nat->World->Prop}
 (E:∀k wx,k=w.heap.size->au wx k t cs->bW w wx->R k wx):
 ∀(k:Nat) (e:World),k=w.heap.size->e=w.alloc (.cells zs.toArray t)->∃(wx:World),(Instr.storeAt t (.pointer (some ⟨k,0,none⟩)) (.agg cs.toArray)).run P e=.ok () wx/\R k wx:=by
 intro k e q D;have hB:=(D▸ao w _:bW w e)
 obtain⟨wx,O,H,I⟩:=h.store0 M h1 (au.new q D:au e k t zs) U;exact⟨wx,O,E k wx q H (hB.grown I hB.size λx G=>by cases G;omega)⟩
theorem Whl.fin (h:Whl P t n){cs:List Value}(q:cs.length=n)(h1:BS cs){w w':World}{vs:List Value}(G:au w' m t vs)(V:vs.length=n)(e:bW w w')(O:w.heap.size <=m)
 {K:Value->World->Prop} (I:∀wx,bW w wx->K (.agg cs.toArray) wx):
 ∃(wx:World),(Instr.storeAt t (.pointer (some ⟨m,0,none⟩)) (.agg cs.toArray)).run P w'=.ok () wx/\∃D:Value,(aS t (.pointer (some ⟨m,0,none⟩))).run P wx=.ok D wx/\K D wx:=by
 obtain⟨wx,U,H,M⟩:=h.store0 q h1 G V;exact⟨wx,U,_,au.res (h.load0 H q),I wx (e.grown M e.size λx E=>by cases E;exact O)⟩
theorem Below.put {w0 w w':World}(h:bW w0 w)(q:w.grownBy w' (some k))(D:w0.heap.size <=k):bW w0 w':=h.grown q h.size λx e=>by cases e;exact D
theorem bA {x y:Nat}(h:x≠y):some x≠some y:=λe=>h (Option.some.inj e)
theorem iw (k o i:Nat):av (some ⟨k,o,none⟩) (i:Int) 1=some ⟨k,o+i,none⟩:=by
 unfold av;simp only[map_some,Int.toNat_natCast,Nat.mul_one,Option.some.injEq];unfold Addr.add;split<;>simp_all
theorem Ow.put {α:Type}{T:Ty α}{w w':World}{a:Option Addr}{n c k:Nat}{xs:List α}(h:Ow T t w NoB a n c xs)(E:∀g,eP a=some g->g≠k)(D:w.grownBy w' (some k)):Ow T t w' NoB a n c xs:=
 h.keep (eD D λb e q=>by
  rcases e with e|e
  ·exact e
  ·exact E b e.symm (Option.some.inj q))
theorem Sl.text {u:TypeId}(D:P.underlying u=some .string){A:Bl}{a:Option Addr}{n c:Nat}{xs:List lU}(h:Sl tS w A a n c xs)(e:i<xs.length):(Instr.loadAt u (.pointer (av a (i:Int) 1))).run P w=.ok (.string (mkS xs[i])) w:=by
 obtain⟨v,E,q⟩:=h.load1 (i:=(i:Int)) D rfl rfl (by simpa using e);obtain⟨rfl,-⟩:=iX q;simpa using E
def adC (a:lU):List Value:=a.map λc=>Value.int .u8 ((c.toNat:Nat):Int)
def adV (a:lU):Value:=.agg (adC a).toArray
def ad0:lU:=replicate 16 0
theorem dt (a:lU):(adC a).length=a.length:=by simp[adC]
theorem fz (a:lU):BS (adC a):=Yz a
theorem wF (a:lU)(i:Nat)(c:UInt8):(adC a).set i (.int .u8 ((c.toNat:Nat):Int))=adC (a.set i c):=by unfold adC;rw[List.map_set]
theorem Dw {a:lU}(h:i<a.length):(adC a)[i]? =some (.int .u8 ((a[i].toNat:Nat):Int)):=by unfold adC;rw[List.getElem?_map,List.getElem?_eq_getElem h];rfl
def adT:Option lU->Value
 |some a=>.tuple #[adV a,.bool true]
 |none=>.tuple #[adV ad0,.bool false]
def GB (x:lU):Prop:=uD x/\fg x <=255
instance  (x:lU):Decidable (GB x):=by unfold GB;infer_instance
def ipB (x:lU):UInt8:=UInt8.ofNat (fg x).toNat
def v4V (s:lU):Option lU:=if(bR 46 [] s).length=4/\∀x∈bR 46 [] s,GB x then some (replicate 12 0++(bR 46 [] s).map ipB)else none
theorem VS {x:lU}(h:GB x):IntKind.u8.wrap (fg x)=(((ipB x).toNat:Nat):Int):=by
 have D:0 <=fg x:=by
  have:=h.1.1;unfold dG at this;rw[Bool.and_eq_true]at this;exact(ib x 0 (by decide) (λc q=>List.all_eq_true.1 this.2 c q)).1
 have e:=h.2;rw[wrap_u8 D e];unfold ipB;rw[UInt8.toNat_ofNat'];omega
def v4S (L:List lU)(k:Nat):lU:=replicate 12 0++(L.take k).map ipB++replicate (4-k) 0
theorem KN {L:List lU}(h:L.length=4)(e:k <=4):(v4S L k).length=16:=by simp[v4S];omega
theorem TS {L:List lU}(h:L.length=4)(q:k<4):(v4S L k).set (12+k) (ipB (L[k]'(by omega)))=v4S L (k+1):=by
 unfold v4S;have e:(replicate 12 (0:UInt8)++(L.take k).map ipB).length=12+k:=by simp;omega
 rw[List.set_append_right _ _ (by omega),e,Nat.sub_self,take_succ_eq_append_getElem (by omega),map_append];rw[show 4-k=(4-(k+1))+1 by omega,List.replicate_succ (n:=4-(k+1)),List.set_cons_zero];simp
theorem YO {L:List lU}(h:L.length=4):v4S L 4=replicate 12 0++L.map ipB:=by unfold v4S;rw[take_of_length_le (by omega)];simp
theorem V0 (h: ¬ ((bR 46 [] s).length=4/\∀x∈bR 46 [] s,GB x)):v4V s=none:=if_neg h
theorem cH:Whl prog ay 16:=⟨⟨_,_,N4⟩,by kernel_rfl⟩
theorem EB (s:lU)(an:s.length <=9223372036854775000)(w:World):
 Cf ot #[vS s] w (Ret λv w'=>v=(if uD s then .tuple #[vI (fg s),.bool true]else .tuple #[vI 0,.bool false])/\w'=w):=by
 apply CB;refine eC (λw'=>uD s/\w'=w) ?_ ?_
 ·refine aA (jK s (by omega) w) ?_;rintro _ w' ⟨rfl,V⟩;rw[V];refine⟨_,rfl,?_⟩;have H: ¬ uD s->(.tuple #[vI 0,.bool false]:Value)=(if uD s then .tuple #[vI (fg s),.bool true]else .tuple #[vI 0,.bool false])/\w=w:=λe=>⟨by rw[if_neg e],rfl⟩
  refine af.of (λh=>H λe=>by rw[e.1]at h;cases h) (λh=>?_);have X:dG s=true:=by simpa using h
  refine af.of (λq=>H λe=>by have:=e.2.1;simp at q;omega) (λq=>?_);have M:s.length <=18:=by simp at q;omega
  refine af.of (λI=>?_) (λI=>?_)<;>simp only[dTx,dFx]at I
  ·have ac:1<s.length:=by omega
   refine⟨⟨by decide,by omega⟩,?_⟩;have E:=byte_at (s:=s) (k:=0) (by omega);rw[show((0:Nat):Int)=0 from rfl]at E;have U:=im s[0] 48;rw[show(((48:UInt8).toNat:Nat):Int)=48 from rfl]at U;rw[E,U];have Z:s.head?=some s[0]:=by rw[List.head?_eq_getElem?,List.getElem?_eq_getElem]
   refine af.of (λD=>H λe=>e.2.2 ⟨?_,ac⟩) (λD=>⟨⟨X,M,λe=>?_⟩,rfl⟩)
   ·rw[beq_iff_eq]at D;rw[Z,D]
   ·rw[Z]at e;rw[Option.some.inj e.1]at D;simp at D
  ·exact⟨⟨X,M,λe=>I (by omega)⟩,rfl⟩
 ·rintro w' ⟨e,V⟩;rw[V];have Y:∀c∈s,eO c=true:=by
   have:=e.1;unfold dG at this;rw[Bool.and_eq_true]at this;exact λc G=>List.all_eq_true.1 this.2 c G
  have M:=e.2.1;refine⟨λm v i w'=>∃k:Nat,k <=s.length/\i=(k:Int)/\m=s.length-k/\v=fg (s.take k)/\w'=w,⟨_,0,by omega,rfl,rfl,rfl,rfl⟩,?_⟩;intro m v i;refine aQ.of ?_ _;rintro w' ⟨k,aj,rfl,rfl,rfl,ad⟩;rw[ad];refine af.of (λh=>?_) (λh=>?_)<;>simp only[dTx,dFx]at h
  ·have O:k<s.length:=by omega
   rw[byte_at O];have G:=Y s[k] (getElem_mem O);have U:=pa s[k];have E:=ib (s.take k) 0 (by decide) (λc G=>Y c (mem_of_mem_take G));have al:(10:Int) ^ (s.take k).length <=10 ^ 17:=by
    have:(s.take k).length <=17:=by rw[length_take];omega
    exact_mod_cast Nat.pow_le_pow_right (by decide:0<10) this
   have ag:0 <=fg (s.take k)/\fg (s.take k)<10 ^ 17:=⟨E.1,by
    have q:=E.2;have:fg (s.take k)<(0+1)*10 ^ (s.take k).length:=q;omega⟩
   refine⟨⟨by omega,h⟩,s.length-(k+1),by omega,k+1,by omega,by rw[wrJ];omega,rfl,?_,rfl⟩;rw[wrJ (n:=fg (s.take k)*10),wrJ (n:=((s[k].toNat:Nat):Int)),wrJ (n:=_+_),wrJ,take_succ_eq_append_getElem O];unfold fg;rw[foldl_append];show _=_*10+(((s[k].toNat:Nat):Int)-48)
   omega
  ·have:k=s.length:=by omega
   subst this;rw[take_length,if_pos e];exact⟨rfl,rfl⟩
theorem PD (s:lU)(c8:s.length<4294967281)(w:World)(ct:Env w):Cf DY #[vS s] w (Ret λv w'=>v=adT (v4V s)/\bW w w'):=by
 apply NR;intro a0 a9 c1 b8;have X:=(b8▸ao w _:bW w a9)
 have M:au a9 a0 ay (adC ad0):=au.new c1 b8;refine aA (eB s 46 c8 a9 (ct.step X)) ?_;rintro _ cc ⟨a,n,c,rfl,al,dd,b1⟩;have H:=ae X b1 X.size;have O:=M.below b1;have c5:=al.len;have b3:∀x∈bR 46 [] s,x.length <=s.length:=λx E=>by simpa using ia 46 s [] x E
 have cb:∀{bc:World},v4V s=none->au bc a0 ay (adC ad0)->bW w bc->_:=fun{bc} ar cj cp=>cH.fin (K:=λa8 G=>(.tuple #[a8,.bool false]:Value)=adT (v4V s)/\bW w G) (cs:=adC ad0) rfl (fz _) cj rfl cp (by omega) λG Z=>⟨by rw[ar];rfl,Z⟩
 refine⟨_,_,_,rfl,af.of (λV=>?_) (λV=>?_)⟩
 ·refine cb (V0 λe=>?_) O H;rw[bne_iff_ne]at V;omega
 have q:(bR 46 [] s).length=4:=by simp at V;omega
 intro k5 ce c3 b9;have ac:=(b9▸ao cc _:bW cc ce)
 have cn:=ae H ac H.size;have ch:=O.below ac;have ck:au ce k5 ay (adC ad0):=au.new c3 b9;have b5:=al.below ac;have dk:=O.lt;have c7:∀g,eP a=some g->g≠k5:=λg cu bj=>by have:=al.lt g cu;omega
 have c4:w.heap.size <=k5:=by have:=H.size;omega
 obtain⟨L,b0⟩:∃L,L=bR 46 [] s:=⟨_,rfl⟩
 rw[<- b0]at b5 q b3 c5;have b7:v4V s=if L.length=4/\∀x∈L,GB x then some (replicate 12 0++L.map ipB)else none:=by rw[b0];rfl
 refine⟨λm i w'=>∃k:Nat,k <=4/\i=(k:Int)/\m=4-k/\(∀j (I:j<k) (h:j<L.length),GB L[j])/\au w' k5 ay (adC (v4S L k))/\au w' a0 ay (adC ad0)/\Ow tS ak w' NoB a n c L/\bW w w',
  ⟨_,0,by omega,rfl,rfl,λj I=>by omega,ck,ch,b5,cn⟩,?_⟩
 intro m i;refine aQ.of ?_ _;rintro da ⟨k,de,rfl,rfl,b6,bk,U,an,Y⟩;refine af.of (λh=>?_) (λh=>?_)<;>simp only[dTx,dFx]at h
 ·have c2:k<4:=by omega
  have aj:k<L.length:=by omega
  refine⟨⟨⟨by omega,h⟩,an.all.isSome (by omega)⟩,_,an.all.text ax aj,?_⟩;have dg:=b3 L[k] (getElem_mem aj);refine aA (jJ L[k] (by omega) da) ?_;rintro _ bb ⟨rfl,D⟩;have bs:=ae Y D Y.size;have c6: ¬ GB L[k]->v4V s=none:=λE=>by
   rw[b7,if_neg λe=>E (e.2 _ (getElem_mem aj))]
  refine⟨if uD L[k]then fg L[k]else 0,if uD L[k]then true else false,by split<;>rfl,?_⟩;refine⟨λw'=>w'=bb/\GB L[k],?_,?_⟩
  ·refine gS (B:=λJ=>af _ (J true bb) (J _ bb)) (!decide (GB L[k])) (af.of (λh1=>⟨rfl,?_⟩) (λh1=>⟨rfl,?_⟩)) ?_
   ·have: ¬ uD L[k]:=λe=>by rw[if_pos e]at h1;cases h1
    have M: ¬ GB L[k]:=λe=>this e.1;simp[M]
   ·have b4:uD L[k]:=Decidable.byContradiction λe=>by rw[if_neg e]at h1;cases h1
    rw[if_pos b4,Bool.eq_iff_iff];simp[GB,b4]
   ·refine af.of (λh1=>cb (c6 (by simpa using h1)) (U.below D) bs) (λh1=>⟨rfl,by simpa using h1⟩)
  ·refine aQ.of ?_ _;rintro dl ⟨ca,ag⟩;rw[ca];clear ca;have cf:i64.wrap (12+(k:Int))=((12+k:Nat):Int):=by rw[wrJ];omega
   try dsimp only
   rw[cf,iw,if_pos ag.1,VS ag,Nat.zero_add];refine⟨⟨⟨by omega,by omega⟩,rfl⟩,?_⟩;have cl:=bk.below D;obtain⟨dc,c9,bq,ad⟩:=cl.put (P:=prog) ik (i:=12+k) (v:=.int .u8 (((ipB L[k]).toNat:Nat):Int)) (by rw[dt,KN q (by omega)];omega) rfl rfl;rw[wF,TS q c2]at bq;refine⟨dc,c9,4-(k+1),by omega,k+1,by omega,by rw[wrJ];omega,rfl,?_,bq,(U.below D).grown ad (bA (by omega)),(an.below D).put c7 ad,Below.put bs ad c4⟩;intro j I c0;by_cases bj:j=k
   ·subst bj;exact ag
   ·exact b6 j (by omega) c0
 ·have:k=4:=by omega
  subst this;have cr:∀x∈L,GB x:=λx E=>by
   obtain⟨j,I,rfl⟩:=List.mem_iff_getElem.1 E;exact b6 j (by omega) I
  have ar:v4V s=some (v4S L 4):=by rw[b7,if_pos ⟨q,cr⟩,YO q]
  have b2:(adC (v4S L 4)).length=16:=by rw[dt,KN q (by omega)]
  refine⟨_,cH.load0 bk b2,?_⟩;exact cH.fin (K:=λa8 G=>(.tuple #[a8,.bool true]:Value)=adT (v4V s)/\bW w G) b2 (fz _) U rfl Y (by omega) λG Z=>⟨by rw[ar];rfl,Z⟩
theorem NM (s:lU)(dc:s.length <=100000000)(w:World):Cf zZ #[vS s] w (Ret λv w'=>v=adT (v4V s)/\bW w w'):=by
 apply Md;intro ar M c5 ca;have V:=(ca▸ao w _:bW w M)
 have H:au M ar ay (adC ad0):=au.new c5 ca;intro k5 cf c7 cb;have b2:=(cb▸ao M _:bW M cf)
 have cu:=ae V b2 V.size;have cr:au cf k5 ay (adC ad0):=au.new c7 cb;obtain⟨ch,dd,bc,b3⟩:=cH.store0 (cs:=adC ad0) rfl (fz _) cr rfl;refine⟨ch,dd,?_⟩;have b4:w.heap.size <=k5:=by have:=V.size;omega
 have dp:=H.lt;have cl:=(H.below b2).grown b3 (bA (by omega));have bs:=Below.put cu b3 b4;refine aA (gx s 46 dc ch) ?_;rintro _ ds ⟨a,n,c,rfl,aj,c2,Z⟩;have bq:=ae bs Z bs.size;have bb:=cl.below Z;have cp:=bc.below Z;have c8:=aj.len;have b6:∀x∈bR 46 [] s,x.length <=s.length:=λx E=>by simpa using ia 46 s [] x E
 have ce:∀{a8:World},v4V s=none->au a8 ar ay (adC ad0)->bW w a8->_:=fun{a8} an cn c0=>cH.fin (K:=λa0 G=>(.tuple #[a0,.bool false]:Value)=adT (v4V s)/\bW w G) (cs:=adC ad0) rfl (fz _) cn rfl c0 (by omega) λG Y=>⟨by rw[an];rfl,Y⟩
 refine⟨_,_,_,rfl,af.of (λU=>?_) (λU=>?_)⟩
 ·refine ce (V0 λe=>?_) bb bq;rw[bne_iff_ne]at U;omega
 have q:(bR 46 [] s).length=4:=by simp at U;omega
 have dr:=bc.lt;have da:∀g,eP a=some g->g≠k5:=λg c3 a9=>by have:=c2 g c3;omega
 obtain⟨L,b1⟩:∃L,L=bR 46 [] s:=⟨_,rfl⟩
 rw[<- b1]at aj q b6 c8;have b9:v4V s=if L.length=4/\∀x∈L,GB x then some (replicate 12 0++L.map ipB)else none:=by rw[b1];rfl
 refine⟨λm i w'=>∃k:Nat,k <=4/\i=(k:Int)/\m=4-k/\(∀j (I:j<k) (h:j<L.length),GB L[j])/\au w' k5 ay (adC (v4S L k))/\au w' ar ay (adC ad0)/\Ow tS ak w' NoB a n c L/\bW w w',
  ⟨_,0,by omega,rfl,rfl,λj I=>by omega,cp,bb,aj,bq⟩,?_⟩
 intro m i;refine aQ.of ?_ _;rintro cj ⟨k,dl,rfl,rfl,b8,bj,O,al,X⟩;refine af.of (λh=>?_) (λh=>?_)<;>simp only[dTx,dFx]at h
 ·have c6:k<4:=by omega
  have ag:k<L.length:=by omega
  refine⟨⟨⟨by omega,by omega⟩,al.all.isSome (by omega)⟩,_,al.all.text ax ag,?_⟩;have dn:=b6 L[k] (getElem_mem ag);refine aA (EB L[k] (by omega) cj) ?_;rintro _ w7 ⟨rfl,dg⟩;have D:bW cj w7:=dg▸Below.refl _ _;have b0:=ae X D X.size;have c9: ¬ GB L[k]->v4V s=none:=λE=>by
   rw[b9,if_neg λe=>E (e.2 _ (getElem_mem ag))]
  refine⟨if uD L[k]then fg L[k]else 0,if uD L[k]then true else false,by split<;>rfl,?_⟩;refine⟨λw'=>w'=w7/\GB L[k],?_,?_⟩
  ·refine gS (B:=λJ=>af _ (J true w7) (J _ w7)) (!decide (GB L[k])) (af.of (λh1=>⟨rfl,?_⟩) (λh1=>⟨rfl,?_⟩)) ?_
   ·have: ¬ uD L[k]:=λe=>by rw[if_pos e]at h1;cases h1
    have H: ¬ GB L[k]:=λe=>this e.1;simp[H]
   ·have b7:uD L[k]:=Decidable.byContradiction λe=>by rw[if_neg e]at h1;cases h1
    rw[if_pos b7,Bool.eq_iff_iff];simp[GB,b7]
   ·refine af.of (λh1=>ce (c9 (by simpa using h1)) (O.below D) b0) (λh1=>⟨rfl,by simpa using h1⟩)
  ·refine aQ.of ?_ _;rintro dw ⟨cc,ad⟩;rw[cc];clear cc;have ck:i64.wrap (12+(k:Int))=((12+k:Nat):Int):=by rw[wrJ];omega
   try dsimp only
   rw[ck,iw,if_pos ad.1,VS ad,Nat.zero_add];refine⟨⟨⟨by omega,by omega⟩,rfl⟩,?_⟩;have ct:=bj.below D;obtain⟨dk,de,bk,ac⟩:=ct.put (P:=prog) ik (i:=12+k) (v:=.int .u8 (((ipB L[k]).toNat:Nat):Int)) (by rw[dt,KN q (by omega)];omega) rfl rfl;rw[wF,TS q c6]at bk;refine⟨dk,de,4-(k+1),by omega,k+1,by omega,by rw[wrJ];omega,rfl,?_,bk,(O.below D).grown ac (bA (by omega)),(al.below D).put da ac,Below.put b0 ac b4⟩;intro j I c4;by_cases a9:j=k
   ·subst a9;exact ad
   ·exact b8 j (by omega) c4
 ·have:k=4:=by omega
  subst this;have c1:∀x∈L,GB x:=λx E=>by
   obtain⟨j,I,rfl⟩:=List.mem_iff_getElem.1 E;exact b8 j (by omega) I
  have an:v4V s=some (v4S L 4):=by rw[b9,if_pos ⟨q,c1⟩,YO q]
  have b5:(adC (v4S L 4)).length=16:=by rw[dt,KN q (by omega)]
  refine⟨_,cH.load0 bj b5,?_⟩;exact cH.fin (K:=λa0 G=>(.tuple #[a0,.bool true]:Value)=adT (v4V s)/\bW w G) b5 (fz _) O rfl X (by omega) λG Y=>⟨by rw[an];rfl,Y⟩
def C8 (c:UInt8):Nat:=if 48 <=c.toNat/\c.toNat <=57 then c.toNat-48 else if 97 <=c.toNat/\c.toNat <=102 then c.toNat-87 else if 65 <=c.toNat/\c.toNat <=70 then c.toNat-55 else 16
def sf (c:UInt8):Bool:=decide (C8 c<16)
def qH (s:lU):Nat:=s.foldl (λn c=>n*16+C8 c) 0
def eE (s:lU):Bool:=decide (1 <=s.length)&&decide (s.length <=4)&&s.all sf
def dX (s:lU):List lU:=if s=[]then[]else bR 58 [] s
def at2 (s:lU)(i:Nat):Prop:=s[i]? =some 58/\s[i+1]? =some 58
def e8 (s:lU):Bool:=decide ((bR 58 [] s).length=8)&&(bR 58 [] s).all eE
def v6L (A B:List lU):List Nat:=A.map qH++replicate (8-A.length-B.length) 0++B.map qH
def Nk (gap:Bool)(A B:List lU):Bool:=A.all eE&&B.all eE&&(if gap then decide (A.length+B.length<8)else decide (A.length+B.length=8))
def v6V (s:lU):Option (List Nat):=
 if Nk (Lib.cut s [58,58]).2.2 (dX (Lib.cut s [58,58]).1) (dX (Lib.cut s [58,58]).2.1)=true then some (v6L (dX (Lib.cut s [58,58]).1) (dX (Lib.cut s [58,58]).2.1))else none
theorem YY (s:lU)(i:Nat):Lib.occAt s [58,58] i=true↔at2 s i:=by
 unfold Lib.occAt at2;have e:s[i]? =(s.drop i)[0]? :=by rw[List.getElem?_drop];rfl
 have q:s[i+1]? =(s.drop i)[1]? :=by rw[List.getElem?_drop]
 rw[e,q];generalize s.drop i=d
 match d with
 |[]=>simp
 |[a]=>simp
 |a::b::r=>
  simp only[List.isPrefixOf,Bool.and_true,Bool.and_eq_true,beq_iff_eq,List.getElem?_cons_zero,List.getElem?_cons_succ,Option.some.injEq];exact⟨λh=>⟨h.1.symm,h.2.symm⟩,λh=>⟨h.1.symm,h.2.symm⟩⟩
theorem xM (s:lU):(Lib.cut s [58,58]=(s,[],false)/\∀i,¬ at2 s i)\/∃p,Lib.cut s [58,58]=(s.take p,s.drop (p+2),true)/\at2 s p/\(∀j,j<p-> ¬ at2 s j)/\p+2 <=s.length:=by
 rcases Lib.index_spec s [58,58]with⟨h1,h2⟩|⟨p,h1,h2,h3,h4⟩
 ·refine .inl ⟨?_,λi e=>?_⟩
  ·unfold Lib.cut;rw[if_neg (by omega)]
  ·by_cases E:i <=s.length
   ·have:=h2 i E;rw[(YY s i).2 e]at this;cases this
   ·have:=e.1;rw[List.getElem?_eq_none (by omega)]at this;cases this
 ·refine .inr ⟨p,?_,(YY s p).1 h3,λj D q=>?_,?_⟩
  ·unfold Lib.cut;rw[if_pos (by omega),h1];rfl
  ·have:=h4 j D;rw[(YY s j).2 q]at this;cases this
  ·have:=((YY s p).1 h3).2;have G:=(List.getElem?_eq_some_iff.1 this).1;omega
theorem K0 {p:Nat}(h:at2 s p):s=s.take p++58::58::s.drop (p+2):=by
 obtain⟨h1,D⟩:=h;obtain⟨E,e⟩:=List.getElem?_eq_some_iff.1 h1;obtain⟨G,q⟩:=List.getElem?_eq_some_iff.1 D
 conv=>lhs;rw[<- take_append_drop p s,drop_eq_getElem_cons E,drop_eq_getElem_cons G,e,q]
theorem H8 (c:UInt8)(r:lU)(h:r=[]\/∃t,r=c::t):([]:lU)∈bR c [] r:=by
 rcases h with rfl|⟨t,rfl⟩
 ·simp[bR]
 ·show _∈(if c=c then _ else _);rw[if_pos rfl];simp
theorem Yy {l:List lU}(h:([]:lU)∈l):l.all eE=false:=by
 rw[Bool.eq_false_iff];intro e;have:=List.all_eq_true.1 e [] h;revert this;decide
theorem WH (h:e8 s=true)(i:Nat): ¬ at2 s i:=by
 intro e;unfold e8 at h;rw[Bool.and_eq_true]at h;have q:([]:lU)∈bR 58 [] s:=by
  rw[K0 e,ff];exact List.mem_append_right _ (H8 58 _ (.inr ⟨_,rfl⟩))
 rw[Yy q]at h;exact absurd h.2 (by decide)
theorem late {p e:Nat}(h:at2 s p)(O:p<e)(E:at2 s e):(dX (s.take e)).all eE=false:=by
 have I:=(List.getElem?_eq_some_iff.1 E.1).1;have G:=K0 h;have M:p<s.length:=by omega
 have D:s.take e≠[]:=by
  intro q;have:=congrArg length q;rw[length_take,length_nil]at this;omega
 unfold dX;rw[if_neg D];have q:s.take e=s.take p++58::(58::s.drop (p+2)).take (e-p-1):=by
  conv=>lhs;rw[G]
  rw[List.take_append,length_take,Nat.min_eq_left (by omega),take_of_length_le (by rw[length_take];omega)];rw[show e-p=(e-p-1)+1 by omega,List.take_succ_cons];rfl
 rw[q,ff];refine Yy (List.mem_append_right _ (H8 58 _ ?_));cases H:e-p-1 with
 |zero=>exact .inl rfl
 |succ k=>exact .inr ⟨_,rfl⟩
def zsK:Nat->lU
 |0=>[48]
 |k+1=>zsK k++[58,48]
theorem V5:∀k,(zsK k).length=2*k+1
 |0=>rfl
 |k+1=>by rw[zsK,length_append,V5 k];simp;omega
theorem Rh:∀k,bR 58 [] (zsK k)=replicate (k+1) [48]
 |0=>rfl
 |k+1=>by
  rw[zsK,ff,Rh k,List.replicate_succ' (n:=k+1)];rfl
def AV (f:lU):lU:=if f=[]then[]else f++[58]
def MZ (b:lU):lU:=if b=[]then[]else 58::b
def Pv (f b:lU)(k:Nat):lU:=AV f++zsK k++MZ b
theorem Rg (f b:lU)(k:Nat):bR 58 [] (Pv f b k)=dX f++replicate (k+1) [48]++dX b:=by
 unfold Pv AV MZ dX;have q:∀b:lU,bR 58 [] (zsK k++if b=[]then[]else 58::b)=replicate (k+1) [48]++(if b=[]then[]else bR 58 [] b):=by
  intro b;split
  ·rw[append_nil,append_nil,Rh]
  ·rw[ff,Rh]
 by_cases e:f=[]
 ·rw[if_pos e,if_pos e,nil_append,q,nil_append]
 ·rw[if_neg e,if_neg e,append_assoc,append_assoc,List.singleton_append,ff,q,append_assoc]
theorem Rs (f b:lU)(k:Nat):e8 (Pv f b k)=true↔((dX f).all eE=true/\(dX b).all eE=true)/\(dX f).length+(k+1)+(dX b).length=8:=by
 unfold e8;rw[Rg];have e:eE [48]=true:=by decide
 have D:(replicate (k+1) ([48]:lU)).all eE=true:=List.all_eq_true.2 λx q=>by rw[(List.mem_replicate.1 q).2];exact e
 rw[List.all_append,List.all_append,D,Bool.and_true,Bool.and_eq_true,Bool.and_eq_true,dTx,length_append,length_append,List.length_replicate];exact And.comm
theorem XJ {f b:lU}(h:e8 (Pv f b k)=true):(bR 58 [] (Pv f b k)).map qH=v6L (dX f) (dX b):=by
 have e:=((Rs f b k).1 h).2;rw[Rg,map_append,map_append,List.map_replicate,show qH [48]=0 by decide];unfold v6L;rw[show 8-(dX f).length-(dX b).length=k+1 by omega]
theorem Zy (h:e8 s=true):v6V s=some ((bR 58 [] s).map qH):=by
 rcases xM s with⟨h1,q⟩|⟨p,h1,q,H⟩
 ·unfold v6V;have e:=h;unfold e8 at e;rw[Bool.and_eq_true,dTx]at e;have D:s≠[]:=by rintro rfl;exact absurd e.1 (by decide)
  have E:dX s=bR 58 [] s:=by unfold dX;rw[if_neg D]
  have G:dX []=[]:=rfl;rw[h1];simp only[E,G];rw[if_pos]
  ·unfold v6L;rw[e.1];simp
  ·unfold Nk;rw[e.2];simp[e.1]
 ·exact absurd q (WH h p)
theorem Zz (h:e8 s=false)(E:∀i,¬ at2 s i):v6V s=none:=by
 rcases xM s with⟨h1,D⟩|⟨p,h1,D,H⟩
 ·unfold v6V;rw[h1];rw[if_neg];intro q;have G:dX []=[]:=rfl;unfold Nk at q;simp only[G,List.all_nil,Bool.and_true,Bool.and_eq_true,length_nil,Nat.add_zero]at q;have e:(dX s).all eE=true/\(dX s).length=8:=by simpa using q
  unfold dX at e;split at e
  ·exact absurd e.2 (by decide)
  ·rw[<- Bool.not_eq_true]at h;refine h ?_;unfold e8;rw[e.1,e.2];rfl
 ·exact absurd D (E p)
theorem YP {p:Nat}(h:at2 s p)(G:∀j,j<p-> ¬ at2 s j):
 v6V s=if((dX (s.take p)).all eE=true/\(dX (s.drop (p+2))).all eE=true)/\(dX (s.take p)).length+(dX (s.drop (p+2))).length<8 then some (v6L (dX (s.take p)) (dX (s.drop (p+2))))else none:=by
 rcases xM s with⟨h1,q⟩|⟨D,h1,q,H,I⟩
 ·exact absurd h (q p)
 ·have E:D=p:=by
   rcases Nat.lt_trichotomy D p with e|e|e
   ·exact absurd q (G D e)
   ·exact e
   ·exact absurd h (H p e)
  subst E;unfold v6V Nk;rw[h1];simp only[if_true,Bool.and_eq_true,dTx]
theorem YQ {g:List Nat}(h:v6V s=some g):g.length=8:=by
 unfold v6V at h;split at h
 ·rename_i e;rw[<- Option.some.inj h];unfold v6L;unfold Nk at e;rw[Bool.and_eq_true]at e;have:(dX (Lib.cut s [58,58]).1).length+(dX (Lib.cut s [58,58]).2.1).length <=8:=by
   have:=e.2;split at this
   ·have:=of_decide_eq_true this;omega
   ·have:=of_decide_eq_true this;omega
  simp;omega
 ·cases h
theorem xW:∀(s:lU) (n:Nat),s.all sf=true->s.foldl (λn c=>n*16+C8 c) n<(n+1)*16 ^ s.length
 |[],n,_=>by simp
 |c::s,n,h=>by
  rw[List.all_cons,Bool.and_eq_true]at h;have e:C8 c<16:=by simpa[sf]using h.1
  have:=xW s (n*16+C8 c) h.2;rw[foldl_cons,length_cons,Nat.pow_succ];refine Nat.lt_of_lt_of_le this ?_;rw[Nat.mul_comm (16 ^ s.length) 16,<- Nat.mul_assoc];exact Nat.mul_le_mul_right _ (by omega)
theorem VR (h:eE s=true):qH s<65536:=by
 unfold eE at h;simp only[Bool.and_eq_true,dTx]at h;have:=xW s 0 h.2;have e:16 ^ s.length <=16 ^ 4:=Nat.pow_le_pow_right (by decide) h.1.2;unfold qH;have q:(16:Nat) ^ 4=65536:=rfl;omega
def nh (l:List Nat):lU:=l.flatMap λn=>[UInt8.ofNat (n/256),UInt8.ofNat (n%256)]
theorem sa:∀l:List Nat,(nh l).length=2*l.length
 |[]=>rfl
 |n::l=>by
  have:=sa l;unfold nh at this ⊢;rw[List.flatMap_cons,length_append,this];simp;omega
theorem RP (a b:List Nat):nh (a++b)=nh a++nh b:=by unfold nh;rw[List.flatMap_append]
def PW (gs:List Nat)(k:Nat):lU:=nh (gs.take k)++replicate (16-2*k) 0
theorem C4 (h:y.length=8)(e:k <=8):(PW y k).length=16:=by
 unfold PW;rw[length_append,sa,length_take,List.length_replicate];omega
theorem OL (h:y.length=8)(q:k<8):((PW y k).set (2*k) (UInt8.ofNat ((y[k]'(by omega))/256))).set (2*k+1) (UInt8.ofNat ((y[k]'(by omega))%256))=PW y (k+1):=by
 unfold PW;have e:(nh (y.take k)).length=2*k:=by rw[sa,length_take];omega
 rw[show 16-2*k=(16-2*(k+1))+1+1 by omega,List.replicate_succ (n:=16-2*(k+1)+1),List.replicate_succ (n:=16-2*(k+1))];rw[List.set_append_right _ _ (by omega),e,Nat.sub_self,List.set_cons_zero,List.set_append_right _ _ (by omega),e,show 2*k+1-2*k=0+1 by omega,List.set_cons_succ,List.set_cons_zero,
  take_succ_eq_append_getElem (by omega),RP]
 simp[nh]
theorem VQ (h:y.length=8):PW y 8=nh y:=by unfold PW;rw[take_of_length_le (by omega)];simp
def e8V (s:lU):Option lU:=if e8 s=true then some (nh ((bR 58 [] s).map qH))else none
theorem OM (x:lU)(h:j<x.length):qH (x.take (j+1))=qH (x.take j)*16+C8 x[j]:=by
 unfold qH;rw[take_succ_eq_append_getElem h,foldl_append];rfl
theorem Ee {x:lU}(h:∀i (e:i<j) (h:i<x.length),sf x[i]=true)(H:j <=4):qH (x.take j)<65536:=by
 have q:(x.take j).all sf=true:=List.all_eq_true.2 λc D=>by
  obtain⟨i,e,rfl⟩:=List.mem_iff_getElem.1 D;rw[length_take]at e;rw[List.getElem_take];exact h i (by omega) (by omega)
 have h1:=xW (x.take j) 0 q;have E:16 ^ (x.take j).length <=16 ^ 4:=Nat.pow_le_pow_right (by decide) (by rw[length_take];omega);have G:(16:Nat) ^ 4=65536:=rfl;unfold qH;omega
theorem MD (h:n<256):((UInt8.ofNat n).toNat:Int)=(n:Int):=by rw[UInt8.toNat_ofNat'];omega
theorem GQ (c:UInt8)(w:World):Cf pY #[.int .u8 ((c.toNat:Nat):Int)] w (Ret λv w'=>v=vI (if sf c=true then(C8 c:Int)else -1)/\w'=w):=by
 apply Fc;have E:=pa c;have q:sf c=decide (C8 c<16):=rfl;refine jA (w:=w) (¬ (48 <=c.toNat/\c.toNat <=57)) (X6 (af.of (λh=>?_) (λh=>⟨rfl,by simp at h;omega⟩))) (λh1=>?_)
 ·have:48 <=c.toNat/\c.toNat <=57:=by simp at h;omega
  have e:C8 c=c.toNat-48:=by unfold C8;rw[if_pos this]
  rw[q,e,if_pos (by simp;omega),wrJ (n:=((c.toNat:Nat):Int)),wrJ];exact⟨by congr 1;omega,rfl⟩
 refine jA (w:=w) (¬ (97 <=c.toNat/\c.toNat <=102)) (X6 (af.of (λh=>?_) (λh=>⟨rfl,by simp at h;omega⟩))) (λD=>?_)
 ·have:97 <=c.toNat/\c.toNat <=102:=by simp at h;omega
  have e:C8 c=c.toNat-87:=by unfold C8;rw[if_neg h1,if_pos this]
  rw[q,e,if_pos (by simp;omega),wrJ (n:=((c.toNat:Nat):Int)),wrJ];exact⟨by congr 1;omega,rfl⟩
 refine X6 (af.of (λh=>?_) (λh=>?_))
 ·have:65 <=c.toNat/\c.toNat <=70:=by simp at h;omega
  have e:C8 c=c.toNat-55:=by unfold C8;rw[if_neg h1,if_neg D,if_pos this]
  rw[q,e,if_pos (by simp;omega),wrJ (n:=((c.toNat:Nat):Int)),wrJ];exact⟨by congr 1;omega,rfl⟩
 ·have: ¬ (65 <=c.toNat/\c.toNat <=70):=by simp at h;omega
  have e:C8 c=16:=by unfold C8;rw[if_neg h1,if_neg D,if_neg this]
  rw[q,e,if_neg (by decide)];exact⟨rfl,rfl⟩
theorem uZ (s:lU)(d2:s.length <=100000000)(w:World):Cf lM #[vS s] w (Ret λv w'=>v=adT (e8V s)/\bW w w'):=by
 apply Fe;intro b4 aj dw c1;have a0:=(c1▸ao w _:bW w aj)
 have b8:au aj b4 ay (adC ad0):=au.new dw c1;intro k5 c3 dx c2;have cj:=(c2▸ao aj _:bW aj c3)
 have dg:=ae a0 cj a0.size;have de:au c3 k5 ay (adC ad0):=au.new dx c2;obtain⟨c4,d3,ca,cn⟩:=cH.store0 (cs:=adC ad0) rfl (fz _) de rfl;refine⟨c4,d3,?_⟩;have bk:w.heap.size <=k5:=by have:=a0.size;omega
 have ed:=b8.lt;have da:=(b8.below cj).grown cn (bA (by omega));have ch:=Below.put dg cn bk;refine aA (gx s 58 d2 c4) ?_;rintro _ ef ⟨a,n,c,rfl,b0,dp,a8⟩;have cf:=ae ch a8 ch.size;have b9:=da.below a8;have dd:=ca.below a8;have d1:=b0.len;have cr:∀x∈bR 58 [] s,x.length <=s.length:=λx q=>by simpa using ia 58 s [] x q
 have b5:∀{b7:World},e8 s=false->au b7 b4 ay (adC ad0)->bW w b7->_:=fun{b7} b3 dc dk=>cH.fin (K:=λb6 U=>(.tuple #[b6,.bool false]:Value)=adT (e8V s)/\bW w U) (cs:=adC ad0) rfl (fz _) dc rfl dk (by omega) λU D=>⟨by unfold e8V;rw[b3];rfl,D⟩
 refine⟨_,_,_,rfl,af.of (λan=>?_) (λan=>?_)⟩
 ·refine b5 ?_ b9 cf;rw[bne_iff_ne]at an;unfold e8;rw[decide_eq_false (by omega),Bool.false_and]
 have bs:(bR 58 [] s).length=8:=by simp at an;omega
 have ee:=ca.lt;have cu:∀g,eP a=some g->g≠k5:=λg E V=>by have:=dp g E;omega
 have a9:e8 s=(bR 58 [] s).all eE:=by unfold e8;rw[decide_eq_true bs,Bool.true_and]
 have cl:e8 s=true->e8V s=some (nh ((bR 58 [] s).map qH)):=λh=>if_pos h;obtain⟨L,dn⟩:∃L,L=bR 58 [] s:=⟨_,rfl⟩
 rw[<- dn]at b0 bs cr d1 a9 cl;have ck:∀{x},x∈L->eE x=false->e8 s=false:=fun{x} q E=>by
  rw[a9,Bool.eq_false_iff];intro H;rw[List.all_eq_true.1 H x q]at E;cases E
 have Z:(L.map qH).length=8:=by simp[bs]
 refine⟨λm i w'=>∃k:Nat,k <=8/\i=(k:Int)/\m=8-k/\(∀j (ad:j<k) (h:j<L.length),eE L[j]=true)/\au w' k5 ay (adC (PW (L.map qH) k))/\au w' b4 ay (adC ad0)/\Ow tS ak w' NoB a n c L/\bW w w',
  ⟨_,0,by omega,rfl,rfl,λj ad=>by omega,dd,b9,b0,cf⟩,?_⟩
 intro m i;refine aQ.of ?_ _;rintro al ⟨k,ds,rfl,rfl,c0,cb,X,b1,Y⟩;refine af.of (λh=>?_) (λh=>?_)<;>simp only[dTx,dFx]at h
 ·have d0:k<8:=by omega
  have bq:k<L.length:=by omega
  have ag:=b1.all.text (P:=prog) ax bq;have eb:=cr L[k] (getElem_mem bq);have ac:(0 <=(k:Int)/\(k:Int)<(n:Int))/\Option.isSome a=true:=⟨⟨by omega,by omega⟩,b1.all.isSome (by omega)⟩
  have ct:L[k]∈L:=getElem_mem bq;refine jA (w:=al) (1 <=L[k].length/\L[k].length <=4) ?_ (λcp=>?_)
  ·refine⟨λb w'=>w'=al/\b=(!(decide (1 <=L[k].length)&&decide (L[k].length <=4))),⟨ac,_,ag,af.of (λh1=>⟨rfl,?_⟩) (λh1=>⟨ac,_,ag,rfl,?_⟩)⟩,?_⟩
   ·have: ¬ 1 <=L[k].length:=by simp at h1;omega
    simp[this]
   ·have:1 <=L[k].length:=by simp at h1;omega
    rw[decide_eq_true this,Bool.true_and,Bool.eq_iff_iff];simp;omega
   ·intro b;refine aQ.of ?_ _;rintro d9 ⟨O,D⟩;rw[O,D];clear O D;refine af.of (λh1=>b5 (ck ct ?_) X Y) (λh1=>⟨rfl,by simpa using h1⟩);unfold eE;have c9:(decide (1 <=L[k].length)&&decide (L[k].length <=4))=false:=by simpa only[Bool.not_eq_true']using h1
    rw[c9,Bool.false_and]
  ·refine⟨λm v i w'=>w'=al/\∃j:Nat,j <=L[k].length/\i=(j:Int)/\m=L[k].length-j/\v=((qH (L[k].take j):Nat):Int)/\∀e (G:e<j) (h:e<L[k].length),sf (L[k][e])=true,
    ⟨_,rfl,0,by omega,rfl,rfl,rfl,λe G=>by omega⟩,?_⟩
   intro m v i;refine aQ.of ?_ _;rintro d9 ⟨O,j,ad,rfl,rfl,rfl,q⟩;rw[O];clear O;refine⟨ac,_,ag,?_⟩;have dr:=Ee q (by omega);refine af.of (λar=>?_) (λar=>?_)<;>simp only[dTx,dFx]at ar
   ·have bj:j<L[k].length:=by omega
    refine⟨ac,_,ag,⟨by omega,ar⟩,?_⟩;rw[byte_at bj];refine aA (GQ (L[k][j]) al) ?_;rintro _ eg ⟨rfl,d6⟩;rw[d6];refine⟨_,rfl,?_⟩;by_cases I:sf (L[k][j])=true
    ·rw[if_pos I];have ea:C8 (L[k][j])<16:=by simpa[sf]using I
     refine af.no (by simp) ⟨L[k].length-(j+1),by omega,rfl,j+1,by omega,by rw[wrJ];omega,rfl,?_,λe G b2=>?_⟩
     ·rw[wrJ (n:=_*_),wrJ,OM _ bj];omega
     ·by_cases V:e=j
      ·subst V;exact I
      ·exact q e (by omega) b2
    ·rw[if_neg I];refine af.yes (by decide) (b5 (ck ct ?_) X Y);unfold eE;have:(L[k]).all sf=false:=by
      rw[Bool.eq_false_iff];intro H;exact I (List.all_eq_true.1 H _ (getElem_mem bj))
     rw[this,Bool.and_false]
   ·have:j=L[k].length:=by omega
    subst this;rw[take_length]at dr ⊢;have E:eE L[k]=true:=by
     unfold eE;rw[decide_eq_true cp.1,decide_eq_true cp.2,Bool.true_and,Bool.true_and];exact List.all_eq_true.2 λc H=>by
      obtain⟨e,G,rfl⟩:=List.mem_iff_getElem.1 H;exact q e G G
    have dl:(L.map qH)[k]'(by omega)=qH L[k]:=by simp
    refine⟨by decide,?_⟩;rintro _ rfl;have c5:i64.wrap (2*(k:Int))=((2*k:Nat):Int):=by rw[wrJ];omega
    have c6:i64.wrap (((2*k:Nat):Int)+1)=((2*k+1:Nat):Int):=by rw[wrJ];omega
    have c7:IntKind.u8.wrap (i64.wrap (Int.tdiv ((qH L[k]:Nat):Int) 256))=(((UInt8.ofNat (qH L[k]/256)).toNat:Nat):Int):=by
     rw[cD (by omega),wrJ,wrap_u8 (by omega) (by omega),MD (by omega)];omega
    have c8:IntKind.u8.wrap (Int.tmod ((qH L[k]:Nat):Int) 256)=(((UInt8.ofNat (qH L[k]%256)).toNat:Nat):Int):=by
     rw[cY (by omega),wrap_u8 (by omega) (by omega),MD (by omega)];omega
    rw[c5,c6,iw,iw,c7];simp only[Nat.zero_add];have M:=C4 Z ds;obtain⟨d7,d4,cc,bb⟩:=cb.put (P:=prog) ik (i:=2*k) (v:=.int .u8 (((UInt8.ofNat (qH L[k]/256)).toNat:Nat):Int)) (by rw[dt,M];omega) rfl rfl;rw[wF]at cc;refine⟨⟨⟨by omega,by omega⟩,trivial⟩,d7,d4,by decide,?_⟩;rintro _ rfl;rw[c8];obtain⟨d8,d5,ce,bc⟩:=cc.put (P:=prog) ik (i:=2*k+1) (v:=.int .u8 (((UInt8.ofNat (qH L[k]%256)).toNat:Nat):Int)) (by rw[dt,List.length_set,M];omega) rfl rfl;rw[wF,<- dl,OL Z d0]at ce;refine⟨⟨⟨by omega,by omega⟩,trivial⟩,d8,d5,8-(k+1),by omega,k+1,by omega,by rw[wrJ];omega,rfl,?_,ce,(X.grown bb (bA (by omega))).grown bc (bA (by omega)),(b1.put cu bb).put cu bc,Below.put (Below.put Y bb bk) bc bk⟩;intro e G b2;by_cases V:e=k
    ·subst V;exact E
    ·exact c0 e (by omega) b2
 ·have:k=8:=by omega
  subst this;have b3:e8 s=true:=by
   rw[a9];exact List.all_eq_true.2 λx q=>by
    obtain⟨j,ad,rfl⟩:=List.mem_iff_getElem.1 q;exact c0 j (by omega) ad
  have M:(adC (PW (L.map qH) 8)).length=16:=by rw[dt,C4 Z (by omega)]
  refine⟨_,cH.load0 cb M,?_⟩;exact cH.fin (K:=λb6 U=>(.tuple #[b6,.bool true]:Value)=adT (e8V s)/\bW w U) M (fz _) X rfl Y (by omega) λU D=>⟨by rw[cl b3,<- VQ Z];rfl,D⟩
def v6A (s:lU):Option lU:=(v6V s).map nh
def YT (o:Option lU):Prop:=∀a,o=some a->a.length=16
theorem H2 (o:Option lU):adT o=.tuple #[adV (o.getD ad0),.bool o.isSome]:=by cases o<;>rfl
theorem AN {o:Option lU}(h:YT o):(adC (o.getD ad0)).length=16:=by
 rw[dt];cases o with
 |none=>rfl
 |some a=>exact h a rfl
theorem UB (s:lU):YT (e8V s):=λa h=>by
 unfold e8V at h;split at h
 ·rename_i e;unfold e8 at e;rw[Bool.and_eq_true,dTx]at e;rw[<- Option.some.inj h,sa,length_map,e.1]
 ·cases h
theorem TT (s:lU):YT (v6A s):=λa h=>by
 unfold v6A at h;cases e:v6V s with
 |none=>rw[e]at h;cases h
 |some g=>
  rw[e]at h;rw[<- Option.some.inj h,sa,YQ e]
theorem XI (s:lU):YT (v4V s):=λa h=>by
 unfold v4V at h;split at h
 ·rename_i e;rw[<- Option.some.inj h];simp;omega
 ·cases h
theorem NN (s:lU)(d0:s.length <=99999000)(w:World):Cf z6 #[vS s] w (Ret λv w'=>v=adT (v6A s)/\bW w w'):=by
 apply Me;intro O b2 da c1;have cb:=(c1▸ao w _:bW w b2)
 have H:au b2 O ay (adC ad0):=au.new da c1;refine aA (uZ s (by omega) b2) ?_;rintro _ dg ⟨rfl,cj⟩;have cc:=ae cb cj cb.size;have c8:=H.below cj;refine⟨_,_,by rw[H2],?_⟩;refine cH.new (zs:=adC ad0) (cs:=adC ((e8V s).getD ad0)) rfl (AN (UB s)) (fz _) dg λd3 d9 dw c9 ck=>?_;have ce:=ae cc ck cc.size;have b6:=c8.below ck;have b5:∀{x:lU} {wx:World},v6A s=some x->au wx O ay (adC ad0)->bW w wx->_:=fun{x wx} ar a9 bc=>cH.fin (K:=λb1 ag=>(.tuple #[b1,.bool true]:Value)=adT (v6A s)/\bW w ag) (cs:=adC x) (by rw[dt];exact TT s _ ar) (fz _) a9 rfl bc (by omega) λag bj=>⟨by rw[ar];rfl,bj⟩
 refine af.of (λh=>?_) (λh=>?_)
 ·have al:e8 s=true:=by
   unfold e8V at h;split at h
   ·assumption
   ·cases h
  refine⟨_,cH.load0 c9 (AN (UB s)),?_⟩;have V:e8V s=some (nh ((bR 58 [] s).map qH)):=if_pos al;rw[V];exact b5 (x:=nh ((bR 58 [] s).map qH)) (by unfold v6A;rw[Zy al];rfl) b6 ce
 have al:e8 s=false:=by
  unfold e8V at h;split at h
  ·cases h
  ·rename_i dc;simpa using dc
 refine⟨λm i w'=>∃k:Nat,k <=s.length/\i=(k:Int)/\m=s.length-k/\
  (∀j,j<k->at2 s j->(∀i,i<j-> ¬ at2 s i)-> ¬ (((dX (s.take j)).all eE=true/\(dX (s.drop (j+2))).all eE=true)/\(dX (s.take j)).length+(dX (s.drop (j+2))).length<8))/\
  au w' O ay (adC ad0)/\bW w w',⟨_,0,by omega,rfl,rfl,λj X=>by omega,b6,ce⟩,?_⟩
 intro m i;refine aQ.of ?_ _;rintro ad ⟨k,dp,rfl,rfl,ct,aj,an⟩;have c6:i64.wrap ((k:Int)+2)=((k+2:Nat):Int):=by rw[wrJ];omega
 have c5:i64.wrap ((k:Int)+1)=((k+1:Nat):Int):=by rw[wrJ];omega
 rw[c6,c5];refine af.of (λh=>?_) (λh=>?_)<;>simp only[dTx,dFx]at h
 ·have ds:k+2 <=s.length:=by omega
  have bk:k<s.length:=by omega
  have bq:k+1<s.length:=by omega
  have bs:∀{wx:World},(at2 s k->(∀i,i<k-> ¬ at2 s i)-> ¬ (((dX (s.take k)).all eE=true/\(dX (s.drop (k+2))).all eE=true)/\(dX (s.take k)).length+(dX (s.drop (k+2))).length<8))->
   au wx O ay (adC ad0)->bW w wx->∃c2:Nat,c2<s.length-k/\∃k':Nat,k' <=s.length/\((k+1:Nat):Int)=(k':Int)/\c2=s.length-k'/\
   (∀j,j<k'->at2 s j->(∀i,i<j-> ¬ at2 s i)-> ¬ (((dX (s.take j)).all eE=true/\(dX (s.drop (j+2))).all eE=true)/\(dX (s.take j)).length+(dX (s.drop (j+2))).length<8))/\
   au wx O ay (adC ad0)/\bW w wx:=fun{wx} M a9 bc=>⟨s.length-(k+1),by omega,k+1,by omega,rfl,rfl,λj X=>by
    by_cases a0:j=k
    ·subst a0;exact M
    ·exact ct j (by omega),a9,bc⟩
  have c3:=im s[k] 58;have c4:=im s[k+1] 58;rw[show(((58:UInt8).toNat:Nat):Int)=58 from rfl]at c3 c4;refine jA (w:=ad) (at2 s k) ⟨⟨by omega,by omega⟩,?_⟩ (λI=>?_)
  ·rw[byte_at bk,bne,c3];refine af.of (λE=>bs (λI=>?_) aj an) (λE=>⟨⟨by omega,by omega⟩,?_⟩)
   ·have:=I.1;rw[List.getElem?_eq_getElem bk]at this;rw[Option.some.inj this]at E;simp at E
   ·rw[byte_at bq,bne,c4];refine af.of (λZ=>bs (λI=>?_) aj an) (λZ=>⟨rfl,?_⟩)
    ·have:=I.2;rw[List.getElem?_eq_getElem bq]at this;rw[Option.some.inj this]at Z;simp at Z
    ·exact⟨by rw[List.getElem?_eq_getElem bk];simp at E;rw[E],by rw[List.getElem?_eq_getElem bq];simp at Z;rw[Z]⟩
  ·refine⟨⟨by omega,by omega⟩,?_⟩;intro e G;refine⟨⟨by omega,by omega⟩,?_⟩;intro D U;simp only[Int.toNat_natCast]at G U;have d5:e.length <=s.length:=by rw[G,length_take];omega
   have d6:D.length <=s.length:=by rw[U,length_drop];omega
   have d4:e.length+D.length+2=s.length:=by rw[G,U,length_take,length_drop];omega
   refine NZ (B:=λJ=>af _ (_/\∀ac,ac=(e++[58])->J ac ad) (J e ad)) (AV e) (af.of (λE=>⟨fits (by simp;omega),?_⟩) (λE=>⟨rfl,?_⟩)) ?_
   ·rintro _ rfl;exact⟨rfl,by unfold AV;rw[if_neg (by simpa using E)]⟩
   ·unfold AV;rw[if_pos (by simpa using E)];simpa using E
   refine NZ (B:=λJ=>af _ (_/\∀ac,ac=([58]++D)->J ac ad) (J D ad)) (MZ D) (af.of (λE=>⟨fits (by simp;omega),?_⟩) (λE=>⟨rfl,?_⟩)) ?_
   ·rintro _ rfl;exact⟨rfl,by unfold MZ;rw[if_neg (by simpa using E)];rfl⟩
   ·unfold MZ;rw[if_pos (by simpa using E)];simpa using E
   have d8:(AV e).length <=e.length+1:=by unfold AV;split<;>simp
   have lb:(MZ D).length <=D.length+1:=by unfold MZ;split<;>simp
   refine⟨λm z i w'=>∃q:Nat,q <=8/\i=(q:Int)/\m=8-q/\z=zsK q/\(∀j,j<q->e8 (Pv e D j)=false)/\au w' O ay (adC ad0)/\bW w w',⟨_,0,by omega,rfl,rfl,rfl,λj X=>by omega,aj,an⟩,?_⟩;intro m z i;refine aQ.of ?_ _;rintro dk ⟨q,dx,rfl,rfl,rfl,cu,b7,bb⟩;have d1:=V5 q;refine af.of (λca=>?_) (λca=>?_)<;>simp only[dTx,dFx]at ca
   ·refine⟨fits (by omega),?_⟩;intro de b3;have d7:de.length=(AV e).length+(zsK q).length:=by rw[b3,length_append]
    refine⟨fits (by omega),?_⟩;intro b0 b4;have c7:b0=Pv e D q:=by rw[b4,b3];rfl
    have dd:b0.length <=100000000:=by rw[b4,length_append];omega
    refine aA (uZ b0 dd dk) ?_;rintro _ dl ⟨rfl,cl⟩;have cf:=ae bb cl bb.size;rw[c7];refine⟨_,_,by rw[H2],?_⟩;refine cH.new (zs:=adC ad0) (cs:=adC ((e8V (Pv e D q)).getD ad0)) rfl (AN (UB _)) (fz _) dl λd2 ea dr a8 cn=>?_;have ch:=ae cf cn cf.size;have b8:=(b7.below cl).below cn;by_cases Y:e8 (Pv e D q)=true
    ·have V:e8V (Pv e D q)=some (nh ((bR 58 [] (Pv e D q)).map qH)):=if_pos Y;have cr:=AN (UB (Pv e D q));rw[V]at a8 cr ⊢;refine af.yes rfl ⟨_,cH.load0 a8 cr,?_⟩;refine b5 (x:=nh ((bR 58 [] (Pv e D q)).map qH)) ?_ b8 ch;have c0:=(Rs e D q).1 Y;rw[XJ Y];have cp:∀j,j<k-> ¬ at2 s j:=λj X M=>by
      have:=late M X I;rw[<- G,c0.1.1]at this;cases this
     unfold v6A;rw[YP I cp,<- G,<- U,if_pos ⟨c0.1,by omega⟩];rfl
    ·have V:e8V (Pv e D q)=none:=if_neg Y;rw[V]at a8 ⊢;refine af.no rfl ⟨fits (by simp;omega),?_⟩;rintro _ rfl;refine⟨8-(q+1),by omega,q+1,by omega,by rw[wrJ];omega,rfl,rfl,λj X=>?_,b8,ch⟩;by_cases a0:j=q
     ·subst a0;simpa using Y
     ·exact cu j (by omega)
   ·have:q=8:=by omega
    subst this;refine bs (λ_ cp M=>?_) b7 bb;rw[<- G,<- U]at M;have:=(Rs e D (7-(dX e).length-(dX D).length)).2 ⟨M.1,by omega⟩;rw[cu _ (by omega)]at this;cases this
 ·have ar:v6A s=none:=by
   unfold v6A;rcases xM s with⟨h1,H⟩|⟨p,h1,H,b9,dn⟩
   ·rw[Zz al H];rfl
   ·rw[YP H b9,if_neg (ct p (by omega) H b9)];rfl
  exact cH.fin (K:=λb1 ag=>(.tuple #[b1,.bool false]:Value)=adT (v6A s)/\bW w ag) (cs:=adC ad0) rfl (fz _) aj rfl an (by omega) λag bj=>⟨by rw[ar];rfl,bj⟩
def Xq:Ty Int:=Zv .u16 λ_=>True
theorem UC:Flat Xq:=λ_ _ _ _ _ _ h=>h
def i16 (l:List Int):List Value:=l.map λn=>Value.int .u16 n
theorem Xh {A:Bl}{n:Int} :Xq.rep w A [.int .u16 n] n:=⟨rfl,trivial⟩
theorem Tw:∀n,n<256->Lib.indexByte [48,49,50,51,52,53,54,55,56,57,97,98,99,100,101,102] (zP (UInt8.ofNat n))=if C8 (UInt8.ofNat n)<16 then(C8 (UInt8.ofNat n):Int)else -1:=by decide+kernel
theorem Tx (c:UInt8):Lib.indexByte [48,49,50,51,52,53,54,55,56,57,97,98,99,100,101,102] (zP c)=if C8 c<16 then(C8 c:Int)else -1:=by
 have:=Tw c.toNat (by have:=c.toNat_lt;omega)
 rwa [UInt8.ofNat_toNat]at this
theorem ZX {a d:Nat}(M:a<4096)(H:d<16):IntKind.u16.wrap (((BitVec.ofInt (IntKind.bits .u16) (IntKind.u16.wrap ((a:Int)*2 ^ (min (Int.toNat (4:Int)) (IntKind.bits .u16))))) ||| (BitVec.ofInt (IntKind.bits .u16) (IntKind.u16.wrap (d:Int)))).toNat:Nat)=((a*16+d:Nat):Int):=by
 have D:(2:Int) ^ (min (Int.toNat (4:Int)) (IntKind.bits .u16))=16:=by decide
 have e:∀n:Nat,n<65536->IntKind.u16.wrap (n:Int)=(n:Int):=λn I=>by
  have:IntKind.u16.wrap (n:Int)=(n:Int)%65536:=rfl;rw[this];omega
 have E:(a:Int)*16=((a*16:Nat):Int):=by omega
 have q:∀n:Nat,n<65536->(BitVec.ofInt (IntKind.bits .u16) (n:Int)).toNat=n:=λn I=>by
  show(BitVec.ofInt 16 (n:Int)).toNat=n;rw[BitVec.toNat_ofInt];have:((n:Int)%((2 ^ 16:Nat):Int)).toNat=n:=by
   have h:((2 ^ 16:Nat):Int)=65536:=by decide
   rw[h];omega
  exact this
 rw[D,E,e (a*16) (by omega),e d (by omega),BitVec.toNat_or,q (a*16) (by omega),q d (by omega)];have G:a*16 ||| d=a*16+d:=by
  have:=Nat.two_pow_add_eq_or_of_lt (i:=4) H a;rw[Nat.mul_comm a 16];exact this.symm
 rw[G,e _ (by omega)]
def Iv (s:lU):List Int:=(dX s).map λx=>(qH x:Int)
theorem IV (s:lU)(b1:s.length <=9223372036854775800)(w:World):Cf rC #[vS s] w
 (Ret λv w'=>v=(if eE s=true then .tuple #[.int .u16 (qH s:Int),.bool true]else .tuple #[.int .u16 0,.bool false])/\bW w w'):=by
 apply G2;have I:∀{wx:World},eE s=false->bW w wx->(.tuple #[.int .u16 0,.bool false]:Value)=(if eE s=true then .tuple #[.int .u16 (qH s:Int),.bool true]else .tuple #[.int .u16 0,.bool false])/\bW w wx:=λM a9=>⟨by rw[M];rfl,a9⟩
 refine jA (w:=w) (1 <=s.length/\s.length <=4) ?_ (λZ=>?_)
 ·refine af.of (λh=>I ?_ (Below.refl _ _)) (λh=>af.of (λG=>I ?_ (Below.refl _ _)) (λG=>⟨rfl,?_⟩))
  ·unfold eE;rw[decide_eq_false (by simp only[dTx]at h;omega),Bool.false_and,Bool.false_and]
  ·unfold eE;rw[decide_eq_false (p:=s.length <=4) (by simp only[dTx]at G;omega),Bool.and_false,Bool.false_and]
  ·simp only[dFx]at h G;exact⟨by omega,by omega⟩
 refine aA (eA s b1 w) ?_;rintro _ b3 ⟨rfl,Y⟩;refine⟨_,rfl,?_⟩;have b2:(cv s).length=s.length:=by simp[cv]
 obtain⟨V,a,n,c,bs,O,bb,b5⟩:=pz (P:=prog) ax bX cE b3 (cv s) (by omega) NoB;have X:=ae Y bb Y.size;have bk:=O.len;subst bk;refine⟨V,a,_,c,bs,?_⟩;refine⟨λm v i w'=>∃j:Nat,j <=s.length/\i=(j:Int)/\m=s.length-j/\v=((qH (s.take j):Nat):Int)/\(∀e (E:e<j) (h:e<s.length),sf s[e]=true)/\w'=V,⟨_,0,by omega,rfl,rfl,rfl,λe E=>by omega,rfl⟩,?_⟩;intro m v i;refine aQ.of ?_ _;rintro w' ⟨j,b7,rfl,rfl,rfl,H,ag⟩;rw[ag];clear ag;rw[b2];refine af.of (λh=>?_) (λh=>?_)<;>simp only[dTx,dFx]at h
 ·have ac:j<s.length:=by omega
  have b6:=Ee H (by omega);have ad:j<(cv s).length:=by omega
  obtain⟨v,U,b0⟩:=O.all.load1 (i:=(j:Int)) cE rfl rfl (by simpa using ad);have:=FY b0;subst this;simp only[Int.toNat_natCast]at U;have ar:(cv s)[j]=zP s[j]:=by simp[cv]
  rw[ar]at U;refine⟨⟨⟨by omega,h⟩,O.all.isSome ad⟩,_,U,?_⟩;refine(Tryz.strings_IndexByte (mkS [48,49,50,51,52,53,54,55,56,57,97,98,99,100,101,102]) _ V).mono ?_;rintro _ b8 ⟨rfl,aj⟩;rw[aj];clear aj;have an:Lib.indexByte (mkS [48,49,50,51,52,53,54,55,56,57,97,98,99,100,101,102]).data.toList (Int.toNat (((zP s[j]).toNat:Nat):Int)).toUInt8=if C8 s[j]<16 then(C8 s[j]:Int)else -1:=by
   rw[Int.toNat_natCast,show(zP s[j]).toNat.toUInt8=zP s[j] from UInt8.ofNat_toNat];exact Tx s[j]
  rw[an];refine⟨_,rfl,?_⟩;by_cases D:C8 s[j]<16
  ·rw[if_pos D];have bc:sf s[j]=true:=by simpa[sf]using D
   have a0:qH (s.take j)<4096:=by
    have a8:(s.take j).all sf=true:=List.all_eq_true.2 λc q=>by
     obtain⟨i,bj,rfl⟩:=List.mem_iff_getElem.1 q;rw[length_take]at bj;rw[List.getElem_take];exact H i (by omega) (by omega)
    have h1:=xW (s.take j) 0 a8;have G:16 ^ (s.take j).length <=16 ^ 3:=Nat.pow_le_pow_right (by decide) (by rw[length_take];omega);have b4:(16:Nat) ^ 3=4096:=rfl;unfold qH;omega
   refine af.no (by simp) ⟨by decide,s.length-(j+1),by omega,j+1,by omega,by rw[wrJ];omega,rfl,?_,λe E bq=>?_,rfl⟩
   ·rw[ZX a0 D,OM _ ac]
   ·by_cases al:e=j
    ·subst al;exact bc
    ·exact H e (by omega) bq
  ·rw[if_neg D];refine af.yes (by decide) (I ?_ X);unfold eE;have:s.all sf=false:=by
    rw[Bool.eq_false_iff];intro q;have:=List.all_eq_true.1 q _ (getElem_mem ac);exact D (by simpa[sf]using this)
   rw[this,Bool.and_false]
 ·have:j=s.length:=by omega
  subst this;have M:eE s=true:=by
   unfold eE;rw[decide_eq_true Z.1,decide_eq_true Z.2,Bool.true_and,Bool.true_and];exact List.all_eq_true.2 λc q=>by
    obtain⟨e,E,rfl⟩:=List.mem_iff_getElem.1 q;exact H e E E
  rw[take_length,if_pos M];exact⟨rfl,X⟩
def QM (s:lU)(w:World)(v:Value)(w':World):Prop:=
 ∃(a:Option Addr) (n c:Nat),v=.tuple #[.slice a n c,.bool ((dX s).all eE)]/\((dX s).all eE=true->Ow Xq fU w' NoB a n c (Iv s)/\bU w.heap.size a/\(Iv s=[]->a=none/\n=0/\c=0))/\((dX s).all eE=false->n=0)/\bW w w'
theorem Dy (s:lU)(b5:s.length<4294967281)(w:World)(bc:Env w):Cf ug #[vS s] w (Ret (QM s w)):=by
 apply L9;refine af.of (λh=>?_) (λh=>?_)
 ·have I:s=[]:=by simpa using h
  subst I;exact⟨none,0,0,rfl,λ_=>⟨Ow.nil _ _ _ _,bU.none _,λ_=>⟨rfl,rfl,rfl⟩⟩,λ_=>rfl,Below.refl _ _⟩
 have b0:s≠[]:=by simpa using h
 have al:dX s=bR 58 [] s:=by unfold dX;rw[if_neg b0]
 have a8:Iv s=(bR 58 [] s).map λx=>(qH x:Int):=by unfold Iv;rw[al]
 unfold QM;rw[al,a8];refine aA (eB s 58 b5 w bc) ?_;rintro _ X ⟨a,n,c,rfl,ad,cb,e⟩;have cf:=ad.len;have bs:∀x∈bR 58 [] s,x.length <=s.length:=λx U=>by simpa using ia 58 s [] x U
 have ca:=dJ 58 s [];have b1:=gT 58 s [];refine⟨_,_,_,rfl,?_⟩;generalize bR 58 [] s=L at*;refine⟨λm a4 V H i w'=>∃k:Nat,k <=L.length/\i=(k:Int)/\m=L.length-k/\(∀j (E:j<k) (h:j<L.length),eE L[j]=true)/\Ow Xq fU w' NoB a4 V H ((L.take k).map λx=>(qH x:Int))/\bU X.heap.size a4/\bW X w',
  ⟨_,0,by omega,rfl,rfl,λj E=>by omega,Ow.nil _ _ _ _,bU.none _,Below.refl _ _⟩,?_⟩
 intro m a4 V H i;refine aQ.of ?_ _;rintro b8 ⟨k,cc,rfl,rfl,aj,O,ac,q⟩;have ag:=ad.below q;refine af.of (λh=>?_) (λh=>?_)<;>simp only[dTx,dFx]at h
 ·have G:k<L.length:=by omega
  have ce:=bs L[k] (getElem_mem G);refine⟨⟨⟨by omega,h⟩,ag.all.isSome (by omega)⟩,_,ag.all.text ax G,?_⟩;refine aA (IV L[k] (by omega) b8) ?_;rintro _ cj ⟨rfl,Z⟩;have Y:=ae q Z q.size;by_cases D:eE L[k]=true
  ·rw[if_pos D];refine⟨_,_,rfl,af.no rfl ?_⟩;intro ch ck bq b6;have b2:=O.below Z;obtain⟨b9,an,b7,ar,b4,b3,bj,a9⟩:=Ch (ty:=eG) (w0:=X) (cm:=1) (vs:=[_]) UC sQ Mz (by decide) b2 ac Y bq b6 (Xh) (by simp;omega);refine⟨b9,an,b7,ar,b4,L.length-(k+1),by omega,k+1,by omega,by rw[wrJ];omega,rfl,λj E bk=>?_,?_,bj,a9⟩
   ·by_cases a0:j=k
    ·subst a0;exact D
    ·exact aj j (by omega) bk
   ·rw[take_succ_eq_append_getElem G,map_append];exact b3
  ·rw[if_neg D];refine⟨_,_,rfl,af.yes rfl ?_⟩;have M:L.all eE=false:=by
    rw[Bool.eq_false_iff];intro bb;exact D (List.all_eq_true.1 bb _ (getElem_mem G))
   rw[M];exact⟨none,0,0,rfl,(λh=>by cases h),(λ_=>rfl),ae e Y e.size⟩
 ·have:k=L.length:=by omega
  subst this;have M:L.all eE=true:=List.all_eq_true.2 λx U=>by
   obtain⟨j,E,rfl⟩:=List.mem_iff_getElem.1 U;exact aj j (by omega) E
  rw[take_length]at O;rw[M];refine⟨a4,V,H,rfl,(λ_=>⟨O,ac.mono e.size,λI=>?_⟩),(λh=>by cases h),ae e q e.size⟩;exact absurd (List.map_eq_nil_iff.1 I) b1
end Go.Pk
