/- What the laws lean on: RulA, UrlC, ScrD, EqO, V26, ScrE, WrdG, V25, ScrF, ScrG, ScrH, ShP, MapH, ShQ, ShR; what is used. Its conditions: none. -/
import Derived.Test.YtikdahhdhchlfaaGreatDoorRI
import Derived.Maps.RangeRun
set_option linter.unusedVariables false
set_option linter.unusedSimpArgs false
set_option linter.unusedSectionVars false
set_option maxRecDepth 100000
open List (append_assoc append_nil drop_eq_getElem_cons filter_cons getElem_mem length length_append length_cons length_drop length_map length_take map_append map_cons map_nil mem_cons_of_mem mem_cons_self mem_singleton nil_append take_append_drop take_length take_of_length_le take_take)
open Option (map_some)
open Go.World (drew)
variable {n m i j k:Nat}{w u:Go.World}{s:List UInt8}{o:Go.Pk.OpR}{a:Int}{P:Go.Program}{A:Go.Pk.Bl}{G:List (List UInt8)}
open Go.IntKind (i64)
open Go.Proofs.Tryz
open List (length)
open Option (isSome)
namespace Go.Pk
open Go.RowKit (Below)
open Go.Proofs
abbrev Rul:=Int×lU
def sn (k:Int):lU:=if k=2 then[42,46]else if k=3 then[33]else[]
def nj (r:Rul):lU:=sn r.1++r.2
def lE (s:lU):lU:=s.takeWhile λc=> !mJ c
def oG (u:lU):Rul:=if Lib.hasPrefix u [42,46]=true then(2,u.drop 2)else if Lib.hasPrefix u [33]=true then(3,u.drop 1)else(1,u)
def SL (k:Int)(o:Option Hst):Rul×Bool×Int:=match o with
 |none=>((0,[]),false,51)
 |some h=>if h.kind=1/\ ¬ (k=3/\(aF h).length<2)then((k,h.name),true,0)else((0,[]),false,51)
def jn (s:lU):Rul×Bool×Int:=
 if trimB s=[]\/Lib.hasPrefix (trimB s) [47,47]=true then((0,[]),false,0)else SL (oG (lE (trimB s))).1 (bV (oG (lE (trimB s))).2)
def xA (r:Rul):List Value:=[vI r.1,vS r.2]
def Qo (r:Rul):Value:=.agg (xA r).toArray
def Ys (x:Rul×Bool×Int):Value:=.tuple #[Qo x.1,.bool x.2.1,vI x.2.2]
def NQ (r q:Rul):Bool:=(r.1==q.1)&&((r.2==q.2)&&true)
theorem Tp (r q:Rul):NQ r q=true↔r=q:=by
 unfold NQ;rw[Bool.and_eq_true,Bool.and_true,beq_iff_eq,beq_iff_eq];exact⟨λh=>Prod.ext h.1 h.2,λh=>by rw[h];exact⟨rfl,rfl⟩⟩
def eo (r:Rul):Bool:=((jn (nj r)).2.2==0)&&((jn (nj r)).2.1&&NQ (jn (nj r)).1 r)
theorem UM (c:UInt8):([32,9]:lU).contains c=mJ c:=by
 unfold mJ;rw[Bool.eq_iff_iff];simp
theorem R9:∀s:lU,(0 <=Lib.indexAny s [32,9]->(Lib.indexAny s [32,9]).toNat <=s.length/\s.take (Lib.indexAny s [32,9]).toNat=lE s)/\(¬ 0 <=Lib.indexAny s [32,9]->lE s=s)
 |[]=>⟨λh=>absurd h (by decide),λ_=>rfl⟩
 |c::s=>by
  have D:=R9 s;unfold Lib.indexAny lE;rw[UM,List.takeWhile_cons];cases G:mJ c with
  |true=>exact⟨λ_=>⟨by simp,by simp⟩,λh=>absurd (show(0:Int) <=0 by decide) h⟩
  |false=>
   simp only[Bool.not_false,if_true,Bool.false_eq_true,if_false];have H:=Lib.indexAny_ge [32,9] s;generalize Lib.indexAny s [32,9]=n at*;by_cases q:n= -1
   ·subst q;exact⟨λh=>absurd h (by decide),λ_=>by rw[show s.takeWhile (λc=> !mJ c)=s from D.2 (by decide)]⟩
   ·have e:0 <=n:=by omega
    rw[if_neg (by simpa using q)];obtain⟨k,rfl⟩:=Int.eq_ofNat_of_zero_le e;refine⟨λ_=>?_,λh=>absurd (show(0:Int) <=(k:Int)+1 by omega) h⟩;have E:((k:Int)+1).toNat=k+1:=by omega
    have h1:=D.1 e;rw[Int.toNat_natCast]at h1;rw[E,List.take_succ_cons,h1.2];exact⟨by simp;omega,rfl⟩
theorem MC (s:lU):(trimB s).length <=s.length:=AD _ _
theorem K8 (s:lU):(lE s).length <=s.length:=dF _ _
theorem UR (s:lU):(oG s).2.length <=s.length:=by
 unfold oG;split
 ·simp
 split
 ·simp
 ·exact Nat.le_refl _
theorem Xc (s:lU)(a b:UInt8)(h:Lib.hasPrefix s [a,b]=true):s.head?=some a:=by
 cases s with
 |nil=>cases h
 |cons x r=>
  unfold Lib.hasPrefix at h;simp[List.isPrefixOf]at h;rw[h.1];rfl
theorem Si (u:lU):oG u=if Lib.hasPrefix u [33]=true then(3,u.drop 1)else if Lib.hasPrefix u [42,46]=true then(2,u.drop 2)else(1,u):=by
 unfold oG;by_cases h1:Lib.hasPrefix u [42,46]=true
 ·rw[if_pos h1];have e:=Xc _ _ _ h1;have q:Lib.hasPrefix u [33]=false:=by rw[(ym u 33).1,e];decide
  rw[if_neg (by rw[q];decide),if_pos h1]
 ·rw[if_neg h1];by_cases e:Lib.hasPrefix u [33]=true
  ·rw[if_pos e,if_pos e]
  ·rw[if_neg e,if_neg e,if_neg h1]
theorem ui {h:Hst}(e:bV s=some h):h.name.length <=253:=by
 unfold bV at e;split at e
 ·split at e
  ·cases q:v6A ((s.drop 1).take (s.length-2))with
   |none=>rw[q]at e;cases e
   |some a=>rw[q]at e;cases e;exact Nat.zero_le _
  ·cases e
 split at e
 ·cases q:v4V s with
  |none=>rw[q]at e;cases e
  |some a=>rw[q]at e;cases e;exact Nat.zero_le _
 split at e
 ·rename_i h1;cases e;simp only[cv,length_map];exact h1.1
 ·cases e
theorem hZ:Whl prog aJ 2:=⟨⟨_,_,FT⟩,by kernel_rfl⟩
theorem Ak (r:Rul):BS (xA r):=aY rfl (aY rfl fj)
theorem RR:prog.eqGuardType prog.depth aJ=false:=by kernel_rfl
theorem WL (r q:Rul):eqV prog 10000 aJ (Qo r) (Qo q)=some (NQ r q):=by
 obtain⟨a,b⟩:=r;obtain⟨c,d⟩:=q;kernel_rfl
theorem VW (r q:Rul){x y:Operand}(w:World):((do eqGuard .eql aJ x y (Qo r) (Qo q);binOp .eql aJ (Qo r) (Qo q):Sem Value)).run prog w=.ok (.bool (NQ r q)) w:=
 Iw RR (WL r q) w
theorem VU (s p:lU)(w:World):Cf eJ #[vS s,vS p] w (Ret λv w'=>v=.bool (Lib.hasPrefix s p)/\w'=w):=
 (Tryz.strings_HasPrefix (mkS s) (mkS p) w).mono λq w' ⟨h1,e⟩=>⟨_,h1,rfl,e⟩
theorem M7 (s p:lU)(w:World):Cf cN #[vS s,vS p] w (Ret λv w'=>v=.tuple #[vS (Lib.trimPrefix s p),.bool (Lib.hasPrefix s p)]/\w'=w):=
 (Tryz.strings_CutPrefix (mkS s) (mkS p) w).mono λq w' ⟨h1,e⟩=>⟨_,h1,rfl,e⟩
theorem mO (s p:lU)(w:World):Cf iG #[vS s,vS p] w (Ret λv w'=>v=.bool (Lib.hasPrefix s p)/\w'=w):=by
 apply CE;rw[<- Lib.hasPrefix_of_take];refine af.of (λh=>?_) (λh=>⟨?_,rfl⟩)<;>simp only[ge_iff_le,dTx,dFx]at h
 ·refine⟨⟨by omega,h⟩,?_⟩;rintro _ rfl;rw[Int.toNat_natCast,decide_eq_true (p:=p.length <=s.length) (by omega),Bool.true_and];exact⟨rfl,rfl⟩
 ·rw[decide_eq_false (p:=p.length <=s.length) (by omega),Bool.false_and]
theorem sC (k:Int)(w:World):Cf qj #[vI k] w (Ret λv w'=>v=vS (sn k)/\w'=w):=by
 apply Kx;unfold BJ sn;refine af.of (λh=>⟨by rw[if_pos (eq_of_beq h)],rfl⟩) (λh=>?_);rw[if_neg (beq_eq_false_iff_ne.1 h)];exact af.of (λh=>⟨by rw[if_pos (eq_of_beq h)],rfl⟩) (λh=>⟨by rw[if_neg (beq_eq_false_iff_ne.1 h)],rfl⟩)
theorem GY (u:lU)(w:World):Cf qi #[vS u] w (Ret λv w'=>v=.tuple #[vI (oG u).1,.string (mkS (oG u).2)]/\w'=w):=by
 apply Fx;refine⟨λm i w'=>w'=w/\(m=2/\i=0\/m=1/\i=1/\ ¬ Lib.hasPrefix u [42,46]=true\/m=0/\i=2/\ ¬ Lib.hasPrefix u [42,46]=true/\ ¬ Lib.hasPrefix u [33]=true),⟨2,rfl,.inl ⟨rfl,rfl⟩⟩,?_⟩;intro m i;refine aQ.of ?_ _;rintro w' ⟨E,h⟩;rw[E];clear E;rcases h with⟨rfl,rfl⟩|⟨rfl,rfl,h1⟩|⟨rfl,rfl,h1,G⟩
 ·refine af.yes (by decide) ⟨2,by kernel_rfl,?_⟩;refine aA (sC 2 w) ?_;rintro _ D ⟨rfl,e⟩;rw[e];clear e;refine⟨_,rfl,?_⟩;refine aA (M7 u (sn 2) w) ?_;rintro _ D ⟨rfl,e⟩;rw[e];clear e;refine⟨_,_,rfl,?_⟩;show af (Lib.hasPrefix u [42,46]) _ _;refine af.of (λh=>⟨?_,rfl⟩) (λh=>⟨1,by decide,rfl,.inr (.inl ⟨rfl,rfl,by rw[h];decide⟩)⟩);have q:Lib.trimPrefix u (sn 2)=u.drop 2:=by exact if_pos h
  unfold oG;rw[if_pos h,q]
 ·refine af.yes (by decide) ⟨3,by kernel_rfl,?_⟩;refine aA (sC 3 w) ?_;rintro _ D ⟨rfl,e⟩;rw[e];clear e;refine⟨_,rfl,?_⟩;refine aA (M7 u (sn 3) w) ?_;rintro _ D ⟨rfl,e⟩;rw[e];clear e;refine⟨_,_,rfl,?_⟩;show af (Lib.hasPrefix u [33]) _ _;refine af.of (λh=>⟨?_,rfl⟩) (λh=>⟨0,by decide,rfl,.inr (.inr ⟨rfl,rfl,h1,by rw[h];decide⟩)⟩);have q:Lib.trimPrefix u (sn 3)=u.drop 1:=by exact if_pos h
  unfold oG;rw[if_neg h1,if_pos h,q]
 ·exact af.no (by decide) ⟨by unfold oG;rw[if_neg h1,if_neg G],rfl⟩
theorem L8 (r:Rul)(O:r.2.length <=4611686018427387904)(w:World):Cf wU #[Qo r] w (Ret λv w'=>v=vS (nj r)/\bW w w'):=by
 obtain⟨k,n⟩:=r;apply Kw;intro U E I D;have q:=(D▸ao w _:bW w E)
 have h1:au E U aJ (xA (k,n)):=au.new I D;have X:(sn k).length <=2:=by unfold sn;split;decide;split;decide;decide
 refine⟨rfl,k,λu e=>(h1.below e).load1 bC rfl rfl,sn k,λu e=>?_,rfl,n,λu e=>(h1.below e).load1 ax rfl rfl,fits (by simp at O;omega),?_⟩
 ·refine fF ?_ e;exact(sC k u).mono λV w' ⟨v,h1,G,H⟩=>⟨v,h1,G,H▸Below.refl _ _⟩
 rintro _ rfl Y M;exact⟨rfl,ae q M q.size⟩
theorem JY (r:Rul)(M:r.2.length <=4611686018427387904)(w:World):Cf rO #[Qo r] w (Ret λv w'=>v=vS (nj r)/\bW w w'):=by
 obtain⟨k,n⟩:=r;apply Hr;intro O H I E;have q:=(E▸ao w _:bW w H)
 have h1:au H O aJ (xA (k,n)):=au.new I E;have G:=h1.load1 (P:=prog) (i:=0) bC rfl rfl;have D:=h1.load1 (P:=prog) (i:=1) ax rfl rfl;simp at M;refine⟨rfl,_,G,af.of (λc=>?_) (λc=>?_)⟩
 ·refine⟨rfl,_,D,fits (by simp;omega),?_⟩;rintro _ rfl;exact⟨by unfold nj sn;rw[if_pos (eq_of_beq c)],q⟩
 refine⟨rfl,_,G,af.of (λe=>?_) (λe=>?_)⟩
 ·refine⟨rfl,_,D,fits (by simp;omega),?_⟩;rintro _ rfl;exact⟨by unfold nj sn;rw[if_neg (beq_eq_false_iff_ne.1 c),if_pos (eq_of_beq e)],q⟩
 ·exact⟨rfl,_,D,by unfold nj sn;rw[if_neg (beq_eq_false_iff_ne.1 c),if_neg (beq_eq_false_iff_ne.1 e)];rfl,q⟩
def Of (s:lU)(w:World)(v:Value)(w':World):Prop:=v=Ys (jn s)/\bW w w'
theorem Aj (r:Rul){w w':World}{vs:List Value}(D:au w' n aJ vs)(O:vs.length=2)(H:bW w w')(M:w.heap.size <=n){b:Bool}{K:Value->World->Prop}
 (G:∀wx,bW w wx->K (Ys (r,b,a)) wx):
 ∃(wx:World),(Instr.storeAt aJ (.pointer (some ⟨n,0,none⟩)) (Qo r)).run prog w'=.ok () wx/\
  ∃(e:Int) (q:lU),(aS aJ (.pointer (some ⟨n,0,none⟩))).run prog wx=.ok (.agg #[vI e,vS q]) wx/\
   K (.tuple #[.agg #[vI e,vS q],.bool b,vI a]) wx:=by
 obtain⟨wx,U,E,I⟩:=hZ.store0 (cs:=xA r) rfl (Ak r) D O;exact⟨wx,U,r.1,r.2,au.res (hZ.load0 E rfl),G wx (Below.put H I M)⟩
theorem L7 (s:lU)(cn:s.length <=2000000000)(w:World)(b1:Env w):Cf wT #[vS s] w (Ret (Of s w)):=by
 apply Kv;intro k2 an cb b3;have bj:=(b3▸ao w _:bW w an)
 have b7:au an k2 aJ (xA (0,[])):=au.new cb b3;have ag:w.heap.size <=k2:=by omega
 have ct:=MC s;refine aA (lY s (by omega) an) ?_;rintro _ M ⟨rfl,bq⟩;have Z:=ae bj bq bj.size;have bb:=b7.below bq;refine⟨_,rfl,?_⟩;have hV:jn s=if trimB s=[]\/Lib.hasPrefix (trimB s) [47,47]=true then((0,[]),false,0)else SL (oG (lE (trimB s))).1 (bV (oG (lE (trimB s))).2):=rfl;generalize trimB s=t at*;refine jA (w:=M) (¬ (t=[]\/Lib.hasPrefix t [47,47]=true)) ?_ (λb9=>?_)
 ·refine gS (w:=M) (decide (t=[]\/Lib.hasPrefix t [47,47]=true)) ?_ ?_
  ·refine af.of (λh=>⟨rfl,by rw[decide_eq_true (.inl (eq_of_beq h))]⟩) (λh=>?_);refine aA (VU t [47,47] M) ?_;rintro _ V ⟨rfl,ch⟩;refine⟨_,rfl,ch,?_⟩;rw[Bool.eq_iff_iff,dTx];exact⟨.inr,λe=>e.elim (λe=>absurd e (beq_eq_false_iff_ne.1 h)) id⟩
  ·refine af.of (λh=>?_) (λh=>⟨rfl,of_decide_eq_false h⟩);exact Aj (0,[]) bb rfl Z ag λb6 O=>⟨by rw[hV,if_pos (of_decide_eq_true h)],O⟩
 ·rw[if_neg b9]at hV;have al:=R9 t;have cp:=K8 t;refine⟨λu w'=>u=lE t/\bW M w',?_,?_⟩
  ·refine aA (Ad t (by omega) M) ?_;rintro _ V ⟨rfl,I⟩;refine⟨_,rfl,af.of (λh=>?_) (λh=>?_)⟩
   ·have h:=of_decide_eq_true h;refine⟨⟨h,by have:=(al.1 h).1;omega⟩,?_⟩;rintro _ rfl;exact⟨(al.1 h).2,I⟩
   ·exact⟨(al.2 (of_decide_eq_false h)).symm,I⟩
  ·intro u;refine aQ.of ?_ _;rintro V ⟨rfl,I⟩;have ac:=ae Z I Z.size;have b8:=bb.below I;refine aA (GY (lE t) V) ?_;rintro _ cu ⟨rfl,b4⟩;rw[b4];clear b4;have cc:=UR (lE t);refine⟨_,_,rfl,?_⟩;generalize oG (lE t)=cj at*;obtain⟨k,n⟩:=cj;refine aA (jD n (by simp at cc;omega) V (b1.step ac)) ?_;rintro _ ck ⟨rfl,bs⟩;have bk:=ae ac bs ac.size;rw[ii];refine⟨_,_,rfl,?_⟩;have U:=kZ λx e=>gG (s:=n) e;refine aR.new (zs:=gO.cells) (cs:=((bV n).getD gO).cells) rfl (Hst.len U) (Hst.one _) ck λcr ar cl G b0=>?_;have H:=ae bk b0 bk.size;have bc:=(b8.below bs).below b0;simp only at hV;refine eC (λw'=>∃h:Hst,bV n=some h/\jn s=((k,h.name),true,0)/\bW ar w') ?_ ?_
   ·refine rv (λb w'=>b=decide (jn s=((0,[]),false,51))/\bW ar w'/\(b=false->∃h:Hst,bV n=some h/\jn s=((k,h.name),true,0))) ?_ ?_
    ·cases aj:bV n with
     |none=>
      rw[aj]at hV;exact af.yes rfl ⟨by rw[hV];rfl,Below.refl _ _,λe=>by cases e⟩
     |some h=>
      rw[aj]at hV G U;have hV:jn s=if h.kind=1/\ ¬ (k=3/\(aF h).length<2)then((k,h.name),true,0)else((0,[]),false,51):=hV;have a0: ¬ (h.kind=1/\ ¬ (k=3/\(aF h).length<2))->(true:Bool)=decide (jn s=((0,[]),false,51)):=λe=>by rw[hV,if_neg e];rfl
      have a9:(h.kind=1/\ ¬ (k=3/\(aF h).length<2))->(false:Bool)=decide (jn s=((0,[]),false,51))/\(∃h':Hst,some h=some h'/\jn s=((k,h'.name),true,0)):=λe=>by
       rw[hV,if_pos e];exact⟨(decide_eq_false (by intro e;have:=congrArg (λz=>z.2.1) e;cases this)).symm,h,rfl,rfl⟩
      refine af.no rfl ⟨rfl,_,G.load1 bC rfl rfl,af.of (λq=>⟨a0 λe=>?_,Below.refl _ _,λe=>by cases e⟩) (λq=>?_)⟩
      ·have q:(h.kind !=1)=true:=q;rw[e.1]at q;simp at q
      have q:(h.kind !=1)=false:=q;have q:h.kind=1:=by simpa using q
      refine af.of (λE=>?_) (λE=>?_)
      ·have E:k=3:=eq_of_beq E;refine⟨_,aR.load0 G (Hst.len U),?_⟩;have ce:h.name.length <=1000000000:=by have:=ui aj;omega
       refine aA (gw U ce ar (b1.step H)) ?_;rintro _ b5 ⟨a,l,c,rfl,cf,-,D⟩;refine⟨_,_,_,rfl,?_⟩;have b2:=cf.len;simp only[Option.getD_some]at b2;rw[b2];by_cases a8:(aF h).length<2
       ·try dsimp only
        rw[decide_eq_true (show(((aF h).length:Nat):Int)<2 by omega)];exact⟨a0 λe=>e.2 ⟨E,a8⟩,D,λe=>by cases e⟩
       ·try dsimp only
        rw[decide_eq_false (show ¬ (((aF h).length:Nat):Int)<2 by omega)];have g:=a9 ⟨q,λe=>a8 e.2⟩;exact⟨g.1,D,λ_=>g.2⟩
      ·have g:=a9 ⟨q,λe=>by rw[e.1]at E;cases E⟩;exact⟨g.1,Below.refl _ _,λ_=>g.2⟩
    ·rintro b b5 ⟨O,D,ca⟩;refine af.of (λc=>?_) (λc=>?_)
     ·rw[c,eq_comm,dTx]at O;exact Aj (0,[]) (bc.below D) rfl (ae H D H.size) ag λb6 ad=>⟨by rw[O],ad⟩
     ·obtain⟨h,X,Y⟩:=ca c;exact⟨h,X,Y,D⟩
   ·rintro b5 ⟨h,X,Y,D⟩;rw[X]at G;refine⟨rfl,_,(G.below D).load1 ax rfl rfl,?_⟩;exact Aj (k,h.name) (bc.below D) rfl (ae H D H.size) ag λb6 ad=>⟨by rw[Y],ad⟩
theorem lV (p:lU):∀s:lU,Lib.indexAny s p=if eS p s=s.length then -1 else((eS p s:Nat):Int)
 |[]=>rfl
 |b::l=>by
  have H:=lV p l;have I:=xU p l;have e:eS p (b::l)=if p.contains b then 0 else eS p l+1:=by
   unfold eS;rw[List.takeWhile_cons];cases p.contains b<;>rfl
  have q:Lib.indexAny (b::l) p=if p.contains b then(0:Int)else if Lib.indexAny l p== -1 then -1 else Lib.indexAny l p+1:=rfl;by_cases D:p.contains b=true
  ·rw[if_pos D]at e q;rw[q,e,length_cons,if_neg (by omega)];rfl
  ·rw[if_neg D]at e q;rw[q,e,H,length_cons];by_cases h:eS p l=l.length
   ·simp only[h,if_true];rfl
   ·have E: ¬ eS p l+1=l.length+1:=by omega
    have G:(((eS p l:Nat):Int)== -1)=false:=by rw[beq_eq_false_iff_ne];omega
    simp only[if_neg h,if_neg E,G];simp
theorem UI (s:lU)(c:UInt8):Lib.hasPrefix s [c]=decide (s.head?=some c):=by
 cases s with
 |nil=>rfl
 |cons d r=>
  show(c==d&&true)=_;rw[Bool.and_true,List.head?_cons];by_cases h:c=d
  ·rw[h,beq_self_eq_true,decide_eq_true rfl]
  ·rw[beq_eq_false_iff_ne.2 h,decide_eq_false (λe=>h (Option.some.inj e).symm)]
def fQ (s:lU)(sec:Bool):Hst×Int×Int:=match Ca s with
 |none=>(gO,0,31)
 |some h=>match NJ sec (s.drop (gI s))with
  |none=>(gO,0,42)
  |some n=>(h,n,0)
theorem Tj (s:lU)(q:Bool):(fQ s q).1.ok:=by
 unfold fQ;split
 ·rfl
 ·rename_i h e;split
  ·rfl
  ·exact OO e
theorem Qz (r:lU)(e:Bool):Vr r e=if(fQ (r.take (eS [47,63,35] r)) e).2.2≠0 then(pd,(fQ (r.take (eS [47,63,35] r)) e).2.2)
 else if sq (Cg (r.drop (eS [47,63,35] r)))=true then(⟨e,(fQ (r.take (eS [47,63,35] r)) e).1,(fQ (r.take (eS [47,63,35] r)) e).2.1,Cg (r.drop (eS [47,63,35] r))⟩,0)else(pd,43):=by
 unfold Vr fQ;generalize Ca (r.take (eS [47,63,35] r))=o;cases o with
 |none=>rfl
 |some h=>
  show(match NJ e ((r.take (eS [47,63,35] r)).drop (gI (r.take (eS [47,63,35] r))))with|none=>_|some n=>_)=_;generalize NJ e ((r.take (eS [47,63,35] r)).drop (gI (r.take (eS [47,63,35] r))))=q;cases q<;>rfl
theorem Q0 (b:Bool){h:Hst}(o:h.ok)(n:Int)(p:lU)(w:World):(Instr.build bf #[(0,.bool b),(1,h.v),(2,vI n),(3,vS p)]).run prog w=.ok (⟨b,h,n,p⟩:Url).v w:=by
 obtain⟨e,q,a⟩:=h;obtain⟨D,E,V,X,Y,Z,ac,ad,ag,aj,G,H,I,M,O,U,rfl⟩:=fP a o;kernel_rfl
theorem AY (s:lU)(c:UInt8)(w:World):Cf eK #[vS s,.int .u8 (c.toNat:Nat)] w (Ret λv w'=>v=vI (if eS [c] s=s.length then -1 else((eS [c] s:Nat):Int))/\w'=w):=by
 refine(Tryz.strings_IndexByte (mkS s) (c.toNat:Nat) w).mono ?_;rintro _ _ ⟨rfl,rfl⟩;refine⟨_,rfl,?_,rfl⟩;rw[<- lV,Lib.indexAny_one];simp only[Int.toNat_natCast];rw[show c.toNat.toUInt8=c by simp];rfl
theorem Bh (s p:lU)(H:s.length <=9223372036854775800)(E:p.length <=9223372036854775800)(w:World):Cf qm #[vS s,vS p] w (Ret λv w'=>(∃(x:lU) (b:Bool),v=.tuple #[vS x,.bool b]/\(b=decide (cv (s.take p.length)=cv p))/\(b=true->x=s.drop p.length))/\bW w w'):=by
 apply KC;refine eC (λw'=>cv (s.take p.length)=cv p/\bW w w') ?_ ?_
 ·refine af.of (λh=>⟨⟨s,false,rfl,?_,λe=>by cases e⟩,Below.refl _ _⟩) (λh=>?_)<;>simp only[dTx,dFx]at h
  ·rw[eq_comm,dFx];intro e;have:=ZH e;simp[cv]at this;omega
  ·refine⟨⟨by omega,by omega⟩,?_⟩;rw[Int.toNat_natCast];rintro _ rfl;refine aA (qq _ p (by simp;omega) E w) ?_;rintro _ G ⟨rfl,q⟩;refine⟨_,rfl,af.of (λc=>⟨⟨s,false,rfl,?_,λe=>by cases e⟩,q⟩) (λc=>⟨?_,q⟩)⟩
   ·rw[eq_comm,dFx];simpa using c
   ·simpa using c
 ·rintro G ⟨h,q⟩;have D:=ZH h;simp[cv]at D;refine⟨⟨by omega,by omega⟩,?_⟩;rw[Int.toNat_natCast];rintro _ rfl;exact⟨⟨_,true,rfl,(decide_eq_true h).symm,λ_=>rfl⟩,q⟩
theorem MH (s:lU)(O:s.length <=9223372036854775000)(w:World):Cf wX #[vS s] w (Ret λv w'=>v=.tuple #[vS (s.take (gI s)),vS (s.drop (gI s))]/\bW w w'):=by
 apply KD;refine aA (VU s [91] w) ?_;rintro _ U ⟨rfl,E⟩;rw[E];clear E;refine⟨_,rfl,?_⟩;rw[UI];refine af.of (λh=>?_) (λh=>?_)<;>simp only[dTx,dFx]at h
 ·have D:gI s=min (eS [93] s+1) s.length:=by unfold gI;rw[if_pos h]
  have H:=xU [93] s;refine aA (AY s 93 w) ?_;rintro _ I ⟨rfl,e⟩;rw[e];clear e;refine⟨_,rfl,?_⟩;by_cases c:eS [93] s=s.length
  ·rw[if_pos c];refine af.no rfl ⟨?_,Below.refl _ _⟩;rw[show gI s=s.length by omega,take_length,List.drop_length]
  ·rw[if_neg c];have G:i64.wrap (((eS [93] s:Nat):Int)+1)=((gI s:Nat):Int):=by rw[wrJ];omega
   try dsimp only
   rw[G,Int.toNat_natCast];refine af.yes (decide_eq_true (by omega)) ⟨⟨by omega,by omega⟩,?_⟩;rintro _ rfl;refine⟨⟨by omega,by omega⟩,?_⟩;rintro _ rfl M q;exact⟨rfl,q⟩
 ·have D:gI s=eS [58] s:=by unfold gI;rw[if_neg h]
  have H:=xU [58] s;refine aA (AY s 58 w) ?_;rintro _ I ⟨rfl,e⟩;rw[e];clear e;refine⟨_,rfl,?_⟩;rw[<- D];by_cases c:gI s=s.length
  ·rw[if_pos c];refine af.no rfl ⟨?_,Below.refl _ _⟩;rw[c,take_length,List.drop_length]
  ·try dsimp only
   rw[if_neg c,Int.toNat_natCast];refine af.yes (decide_eq_true (by omega)) ⟨⟨by omega,by omega⟩,?_⟩;rintro _ rfl;refine⟨⟨by omega,by omega⟩,?_⟩;rintro _ rfl M q;exact⟨rfl,q⟩
theorem MI (s:lU)(e:Bool)(c0:s.length <=2000000000)(w:World)(Y:Env w):Cf wY #[vS s,vI (if e then 443 else 80)] w (Ret λv w'=>v=.tuple #[(fQ s e).1.v,vI (fQ s e).2.1,vI (fQ s e).2.2]/\bW w w'):=by
 apply KE;intro k4 bq cf ca;have b2:=(ca▸ao w _:bW w bq)
 have cc:au bq k4 ai gO.cells:=au.new cf ca;refine aA (MH s (by omega) bq) ?_;rintro _ cl ⟨rfl,b4⟩;have a0:=ae b2 b4 b2.size;refine⟨_,_,rfl,?_⟩;have ag:Ca s=if s.drop (gI s)≠[]/\(s.drop (gI s)).head?≠some 58 then none else bV (s.take (gI s)):=rfl;have hV:fQ s e=match Ca s with
  |none=>(gO,0,31)
  |some h=>match NJ e (s.drop (gI s))with
   |none=>(gO,0,42)
   |some n=>(h,n,0):=rfl
 have cp:(s.take (gI s)).length <=s.length:=by simp;omega
 have cu:(s.drop (gI s)).length <=s.length:=by simp
 generalize s.take (gI s)=c at*;generalize s.drop (gI s)=D at*;refine aA (jD c (by omega) cl (Y.step a0)) ?_;rintro _ cn ⟨rfl,b5⟩;have b3:=ae a0 b5 a0.size;have aj:=kZ λx G=>gG (s:=c) G;rw[ii];refine⟨_,_,rfl,?_⟩;refine aR.new (zs:=gO.cells) (cs:=((bV c).getD gO).cells) rfl (Hst.len aj) (Hst.one _) cn λcj an ct b1 b6=>?_;have ad:=ae b3 b6 b3.size;have b0:=((cc.below b4).below b5).below b6;have b7:w.heap.size <=k4:=by omega
 have ar:∀{X:Int} {O:World},bW an O->fQ s e=(gO,0,X)->∃q,(Instr.storeAt ai (.pointer (some ⟨k4,0,none⟩)) (.agg bu)).run prog O=.ok () q/\
  ∃M:Value,(aS ai (.pointer (some ⟨k4,0,none⟩))).run prog q=.ok M q/\(Value.tuple #[M,vI 0,vI X]=.tuple #[(fQ s e).1.v,vI (fQ s e).2.1,vI (fQ s e).2.2]/\bW w q):=fun{X O} H Y=>
  aR.fin (K:=λM q=>Value.tuple #[M,vI 0,vI X]=.tuple #[(fQ s e).1.v,vI (fQ s e).2.1,vI (fQ s e).2.2]/\bW w q) (cs:=gO.cells) rfl (Hst.one _) (b0.below H) rfl (ae ad H ad.size) b7 λq bk=>⟨by rw[Y];rfl,bk⟩
 have bs:∀{h:Hst} {n:Int} {O:World},bV c=some h->bW an O->fQ s e=(h,n,0)->∃v,(Instr.loadAt ai (.pointer (some ⟨cj,0,none⟩))).run prog O=.ok v O/\∃q,(Instr.storeAt ai (.pointer (some ⟨k4,0,none⟩)) v).run prog O=.ok () q/\
  ∃M:Value,(aS ai (.pointer (some ⟨k4,0,none⟩))).run prog q=.ok M q/\(Value.tuple #[M,vI n,vI 0]=.tuple #[(fQ s e).1.v,vI (fQ s e).2.1,vI (fQ s e).2.2]/\bW w q):=fun{h n O} bc H Y=>by
  rw[bc]at b1 aj;exact⟨_,aR.load0 (b1.below H) (Hst.len aj),aR.fin (K:=λM q=>Value.tuple #[M,vI n,vI 0]=.tuple #[(fQ s e).1.v,vI (fQ s e).2.1,vI (fQ s e).2.2]/\bW w q) (cs:=h.cells) (Hst.len aj) (Hst.one _) (b0.below H) rfl (ae ad H ad.size) b7 λq bk=>⟨by rw[Y];rfl,bk⟩⟩
 refine eC (λw'=>w'=an/\∃h,bV c=some h/\Ca s=some h) ?_ ?_
 ·refine gS (w:=an) (decide (Ca s=none)) ?_ ?_
  ·have ce:∀(E:bV c=none),Ca s=none:=λE=>by rw[ag,E];split<;>rfl
   refine af.of (λh=>⟨rfl,?_⟩) (λh=>af.of (λac=>⟨⟨by decide,?_⟩,rfl,?_⟩) (λac=>⟨rfl,?_⟩))
   ·have:bV c=none:=by
     cases I:bV c with
     |none=>rfl
     |some x=>rw[I]at h;cases h
    rw[decide_eq_true (ce this)]
   all_goals
    have I:bV c≠none:=λI=>by rw[I]at h;cases h
   ·have:D≠[]:=by simpa using ac
    have:=List.length_pos_iff.2 this;omega
   ·have b8:D≠[]:=by simpa using ac
    have bj:=List.length_pos_iff.2 b8;have H:=byte_at (s:=D) (k:=0) bj;rw[show((0:Nat):Int)=0 from rfl]at H;have b9:=im D[0] 58;rw[show(((58:UInt8).toNat:Nat):Int)=58 from rfl]at b9;have bc:D.head?=some D[0]:=by rw[List.head?_eq_getElem?,List.getElem?_eq_getElem bj]
    have X:((be D 0) !=58)= !(D[0]==58):=by rw[H];show(!_)=_;rw[b9]
    rw[X,ag,bc];by_cases c:D[0]=58
    ·rw[if_neg (by rintro⟨-,G⟩;exact G (by rw[c])),decide_eq_false I,c];rfl
    ·rw[if_pos ⟨b8,λG=>c (Option.some.inj G)⟩,beq_eq_false_iff_ne.2 c];rfl
   ·have:D=[]:=by simpa using ac
    rw[ag,if_neg (λG=>G.1 this),decide_eq_false I]
  ·refine af.of (λh=>?_) (λh=>⟨rfl,?_⟩)
   ·exact ar (Below.refl _ _) (by rw[hV,of_decide_eq_true h])
   ·have ch:=of_decide_eq_false h;cases V:Ca s with
    |none=>exact absurd V ch
    |some x=>
     refine⟨x,?_,rfl⟩;rw[ag]at V;split at V
     ·cases V
     ·exact V
 ·rintro ck ⟨rfl,h,I,V⟩;rw[V]at hV;refine af.of (λE=>?_) (λE=>?_)
  ·have E:D=[]:=by simpa using E
   exact bs I (Below.refl _ _) (by rw[hV,E];rfl)
  ·have E:D≠[]:=by simpa using E
   have bj:=List.length_pos_iff.2 E;refine⟨⟨by decide,by omega⟩,?_⟩;intro d bb;rw[show Int.toNat 1=1 from rfl]at bb;have cr:d.length <=D.length:=by rw[bb];simp
   have a8:NJ e D=if uD d/\1 <=fg d/\fg d <=65535 then some (fg d)else none:=by unfold NJ;rw[if_neg E,<- bb]
   refine aA (jJ d (by omega) ck) ?_;rintro _ al ⟨rfl,a9⟩;by_cases Z:uD d
   ·rw[if_pos Z];refine⟨_,_,rfl,?_⟩;refine jA (w:=al) (1 <=fg d/\fg d <=65535) ?_ ?_
    ·refine gS (w:=al) (decide (¬ (1 <=fg d/\fg d <=65535))) ?_ ?_
     ·refine af.no rfl (af.of (λU=>⟨rfl,?_⟩) (λU=>⟨rfl,?_⟩))
      ·rw[eq_comm,dTx];simp at U;omega
      ·rw[Bool.eq_iff_iff,dTx,dTx];simp at U;omega
     ·refine af.of (λU=>?_) (λU=>⟨rfl,Decidable.not_not.1 (of_decide_eq_false U)⟩);rw[dTx]at U;exact ar a9 (by rw[hV,a8,if_neg (λG=>U G.2)])
    ·intro cb;exact bs I a9 (by rw[hV,a8,if_pos ⟨Z,cb⟩])
   ·rw[if_neg Z];refine⟨_,_,rfl,?_⟩;refine jA (w:=al) False ?_ (λh=>h.elim);refine gS (w:=al) true (af.yes rfl ⟨rfl,rfl⟩) (af.yes rfl ?_);exact ar a9 (by rw[hV,a8,if_neg (λG=>Z G.1)])
theorem MG (s:lU)(cp:s.length <=1000000000)(w:World)(al:Env w):Cf wW #[vS s] w (Ret (MT s w)):=by
 apply KA;intro k2 U b8 bk;have ac:=(bk▸ao w _:bW w U)
 have b4:au U k2 bf pd.cells:=au.new b8 bk;have b9:w.heap.size <=k2:=by omega
 have V:∀{u:Url} {q:Int} {ar:World},u.ok->bW U ar->Bg s=(u,q)->∃wy,(Instr.storeAt bf (.pointer (some ⟨k2,0,none⟩)) u.v).run prog ar=.ok () wy/\
  ∃Z:Value,(aS bf (.pointer (some ⟨k2,0,none⟩))).run prog wy=.ok Z wy/\MT s w (.tuple #[Z,vI q]) wy:=fun{u q ar} o D al=>
  pr.fin (K:=λZ wy=>MT s w (.tuple #[Z,vI q]) wy) (cs:=u.cells) (Url.len o) (Url.one _) (b4.below D) rfl (ae ac D ac.size) b9 λwy H=>⟨by rw[al];rfl,H⟩
 refine aA (Bh s [104,116,116,112,115,58,47,47] (by omega) (by decide) U) ?_;rintro _ cb ⟨⟨x,sec,rfl,O,ca⟩,aj⟩;rw[show([104,116,116,112,115,58,47,47]:lU).length=8 from rfl,show cv [104,116,116,112,115,58,47,47]=[104,116,116,112,115,58,47,47] from rfl]at O;refine⟨_,_,rfl,?_⟩;refine⟨λr w'=>XG s=some (r,sec)/\bW U w',?_,λr=>aQ.of ?_ _⟩
 ·refine af.of (λc=>?_) (λc=>?_)
  ·have c:sec=false:=by simpa using c
   rw[c]at O;have X: ¬ cv (s.take 8)=[104,116,116,112,115,58,47,47]:=of_decide_eq_false O.symm;refine aA (Bh s [104,116,116,112,58,47,47] (by omega) (by decide) cb) ?_;rintro _ b1 ⟨⟨y,b,rfl,D,H⟩,Y⟩;rw[show([104,116,116,112,58,47,47]:lU).length=7 from rfl,show cv [104,116,116,112,58,47,47]=[104,116,116,112,58,47,47] from rfl]at D;have a9:=ae aj Y aj.size;refine⟨_,_,rfl,af.of (λe=>?_) (λe=>⟨?_,a9⟩)⟩
   ·have e:b=false:=by simpa using e
    rw[e]at D;exact V (u:=pd) rfl a9 (by unfold Bg XG;rw[if_neg (of_decide_eq_false D.symm),if_neg X])
   ·have e:b=true:=by simpa using e
    have q:=H e;rw[e]at D;unfold XG;rw[if_pos (of_decide_eq_true D.symm),q,c];rfl
  ·have c:sec=true:=by simpa using c
   have q:=ca c;rw[c]at O;have X:=of_decide_eq_true O.symm;refine⟨?_,aj⟩;unfold XG;rw[if_neg,if_pos X,q,c];rfl;intro a0;have:cv (s.take 7)=(cv (s.take 8)).take 7:=by simp[cv,List.map_take,take_take]
   rw[this,X]at a0;revert a0;decide
 ·rintro b1 ⟨G,Y⟩;have cn:r.length <=s.length:=by
   unfold XG at G;split at G
   ·cases G;simp
   split at G
   ·cases G;simp
   ·cases G
  have hV:Bg s=Vr r sec:=by unfold Bg;rw[G]
  rw[Qz]at hV;have cf:=xU [47,63,35] r;refine aA (xd [47,63,35] (by decide) (by decide) (by decide) r (by omega) b1) ?_;rintro _ an ⟨rfl,b6⟩;have ad:=ae Y b6 Y.size;rw[lV];refine⟨_,rfl,UL (w:=an) ((eS [47,63,35] r:Nat):Int) ?_ ?_⟩
  ·by_cases c:eS [47,63,35] r=r.length
   ·rw[if_pos c];exact af.yes rfl ⟨rfl,by rw[c]⟩
   ·rw[if_neg c];exact af.no (decide_eq_false (by omega)) ⟨rfl,rfl⟩
  refine aA (MJ sec an) ?_;rintro _ cc ⟨rfl,bq⟩;rw[bq];clear bq cc;refine⟨_,_,rfl,⟨by omega,by omega⟩,?_⟩;rw[Int.toNat_natCast];rintro _ rfl;have cl:(r.take (eS [47,63,35] r)).length <=s.length:=by simp;omega
  have ch:(r.drop (eS [47,63,35] r)).length <=s.length:=by simp;omega
  refine aA (MI _ sec (by omega) an ((al.step ac).step ad)) ?_;rintro _ ce ⟨rfl,b7⟩;have bb:=ae ad b7 ad.size;refine⟨_,_,_,rfl,?_⟩;have I:=Tj (r.take (eS [47,63,35] r)) sec;revert hV I;generalize fQ (r.take (eS [47,63,35] r)) sec=p;intro hV I;refine aR.new (zs:=gO.cells) (cs:=p.1.cells) rfl (Hst.len I) (Hst.one _) ce λcr bs ck b2 b5=>?_;have ag:=ae bb b5 bb.size;refine af.of (λc=>?_) (λc=>?_)
  ·have c:p.2.2≠0:=by simpa using c
   rw[if_pos c]at hV;exact V (u:=pd) rfl ag hV
  have c:p.2.2=0:=by simpa using c
  rw[if_neg (by rw[c];decide)]at hV;refine⟨⟨by omega,by omega⟩,?_⟩;generalize r.drop (eS [47,63,35] r)=x at*;intro y H;rw[H];clear H y;have cj:=xU [63,35] x;refine⟨λt w'=>t=x.take (eS [63,35] x)/\bW bs w',?_,λt=>aQ.of ?_ _⟩
  ·refine aA (xd [63,35] (by decide) (by decide) (by decide) x (by omega) bs) ?_;rintro _ b0 ⟨rfl,M⟩;rw[lV];refine⟨_,rfl,?_⟩;by_cases c:eS [63,35] x=x.length
   ·rw[if_pos c,c,take_length];exact af.no rfl ⟨rfl,M⟩
   ·try dsimp only
    rw[if_neg c,Int.toNat_natCast];refine af.yes (decide_eq_true (by omega)) ⟨⟨by omega,by omega⟩,?_⟩;rintro _ rfl;exact⟨rfl,M⟩
  ·rintro b0 ⟨rfl,M⟩;have bc:=ae ag M ag.size;have b3:=b2.below M;refine⟨λt w'=>w'=b0/\t=Cg x,?_,λt=>aQ.of ?_ _⟩
   ·unfold Cg;refine af.of (λc=>⟨rfl,?_⟩) (λc=>⟨rfl,?_⟩)
    ·rw[if_pos (by simpa using c)]
    ·rw[if_neg (by simpa using c)]
   ·rintro _ ⟨rfl,rfl⟩;refine aA (xw (Cg x) _) ?_;rintro _ ct ⟨rfl,a8⟩;have bj:=ae bc a8 bc.size;refine⟨_,rfl,af.of (λE=>?_) (λE=>?_)⟩
    ·have E:sq (Cg x)=false:=by simpa using E
     rw[if_neg (by rw[E];decide)]at hV;exact V (u:=pd) rfl bj hV
    ·have E:sq (Cg x)=true:=by simpa using E
     rw[if_pos E]at hV;exact⟨_,aR.load0 (b3.below a8) (Hst.len I),_,Q0 _ I _ _ _,V (show Url.ok ⟨_,_,_,_⟩ from I) bj hV⟩
theorem Ph {u:Url}(o:u.ok)(t:lU):(⟨1,u,t,xz,0⟩:OpR).cells.length=45:=by
 unfold OpR.cells;rw[length_cons,length_append,Url.len o];rfl
theorem QZ {u:Url}(o:u.ok)(t:lU)(w:World):(Instr.build aK #[(0,vI 1),(1,u.v),(2,vS t)]).run prog w=.ok (⟨1,u,t,xz,0⟩:OpR).v w:=by
 obtain⟨us,⟨q,D,e⟩,G,E⟩:=u;obtain⟨H,I,Z,ac,ad,ag,aj,al,an,ar,M,O,U,V,X,Y,rfl⟩:=fP e o;kernel_rfl
theorem KJ {a:Option Addr}{l c:Nat}{x y:lU}(e:Sl tS w A a l c [x,y])(bj:x.length <=10000000)(ar:y.length <=10000000)(aj:Env w):
 Cf je #[.slice a l c] w (Ret λv w'=>v=.tuple #[(⟨1,(Bg x).1,(unP y).getD [],xz,0⟩:OpR).v,.bool ((unP y).isSome&&((Bg x).2==0))]/\bW w w'):=by
 have an:=e.1;obtain rfl:l=2:=an;apply HK;intro a0 w2 al ac;have D:bW w w2:=ac▸ao w _;have ad:au w2 a0 aK ND.cells:=au.new al ac;obtain⟨v,O,M⟩:=(e.below D).load1 (P:=prog) (i:=0) ax rfl rfl (by simp);obtain⟨rfl,_⟩:=iX M;refine⟨⟨⟨by decide,by decide⟩,e.isSome (i:=0) (by simp)⟩,x,O,?_⟩;refine aA (MG x (by omega) w2 (aj.step D)) ?_;rintro _ a8 ⟨rfl,Y⟩;have V:=ae D Y D.size;refine⟨_,_,rfl,?_⟩;have q:(Bg x).1.ok:=Oa x;refine pr.new (zs:=pd.cells) (cs:=(Bg x).1.cells) rfl (Url.len q) (Url.one _) a8 λbk a9 bc ag Z=>?_;have G:=ae V Z V.size;obtain⟨v,O,M⟩:=(e.below G).load1 (P:=prog) (i:=1) ax rfl rfl (by simp);obtain⟨rfl,_⟩:=iX M;refine⟨⟨⟨by decide,by decide⟩,e.isSome (i:=1) (by simp)⟩,y,O,?_⟩;refine aA (Ex y ar a9) ?_;rintro _ bq ⟨rfl,I⟩;have X:=ae G I G.size;refine⟨_,_,rfl,_,pr.load0 (ag.below I) (Url.len q),_,QZ q _ _,?_⟩;have U:=((ad.below Y).below Z).below I;refine af.of (λE=>?_) (λE=>?_)
 ·exact mh.fin (cs:=(⟨1,(Bg x).1,(unP y).getD [],xz,0⟩:OpR).cells) (Ph q _) (OpR.one _) U gH X (by omega) λbb H=>⟨by rw[E];rfl,H⟩
 ·exact mh.fin (cs:=(⟨1,(Bg x).1,(unP y).getD [],xz,0⟩:OpR).cells) (Ph q _) (OpR.one _) U gH X (by omega) λbb H=>⟨by rw[E];rfl,H⟩
def XF (u v:Url):Bool:=(u.sec==v.sec)&&(gA u.host v.host&&((u.port==v.port)&&((u.path==v.path)&&true)))
def Ql (r q:Req):Bool:=(r.sec==q.sec)&&(gA r.host q.host&&((r.path==q.path)&&((r.cross==q.cross)&&true)))
def SR (o p:OpR):Bool:=(o.kind==p.kind)&&(XF o.url p.url&&((o.text==p.text)&&(Ql o.req p.req&&((o.n==p.n)&&true))))
theorem MF {u v:Url}(o:u.ok)(p:v.ok):XF u v=true↔u=v:=by
 unfold XF;simp only[Bool.and_eq_true,beq_iff_eq,and_true,gi o p];cases u;cases v;simp
theorem Tm {u v:Req}(o:u.ok)(p:v.ok):Ql u v=true↔u=v:=by
 unfold Ql;simp only[Bool.and_eq_true,beq_iff_eq,and_true,gi o p];cases u;cases v;simp
structure OpR.fit (o:OpR):Prop where
 uo:o.url.ok
 ro:o.req.ok
theorem OpR.ok.fit (k:o.ok):o.fit:=⟨k.uo,k.ro⟩
theorem O4 {o p:OpR}(h:o.fit)(k:p.fit):SR o p=true↔o=p:=by
 unfold SR;simp only[Bool.and_eq_true,beq_iff_eq,and_true,MF h.uo k.uo,Tm h.ro k.ro];cases o;cases p;simp
def Ce (o:OpR):OpR:=if o.kind=1 then⟨1,o.url,o.text,xz,0⟩ else if o.kind=2 then⟨2,pd,[],o.req,0⟩ else if o.kind=3 then⟨3,pd,[],xz,o.n⟩ else xK
theorem LN (h:o.fit):(Ce o).fit:=by
 unfold Ce;split
 ·exact⟨h.uo,rfl⟩
 split
 ·exact⟨rfl,h.ro⟩
 split<;>exact⟨rfl,rfl⟩
def jN (o:OpR):Bool:=iq o&&SR o (Ce o)
theorem Qn (h:o.fit):jN o=true↔iq o=true/\o=Ce o:=by
 unfold jN;rw[Bool.and_eq_true,O4 h (LN h)]
theorem NP (h:o.fit)(e:o=Ce o):jN o=iq o:=by
 unfold jN;rw[(O4 h (LN h)).2 e,Bool.and_true]
theorem OpR.len' (k:o.fit):o.cells.length=45:=by
 unfold OpR.cells;rw[length_cons,length_append,length_cons,length_append,Url.len k.uo,Req.len k.ro];rfl
theorem Yi {o p:OpR}(h:o.fit)(k:p.fit):eqV prog 10000 aK o.v p.v=some (SR o p):=by
 obtain⟨a1,⟨V,⟨ag,al,e⟩,Y,ac⟩,a2,⟨ar,⟨bj,bq,D⟩,a8,bb⟩,a3⟩:=o;obtain⟨M,⟨X,⟨aj,an,q⟩,Z,ad⟩,O,⟨a0,⟨bk,bs,E⟩,a9,bc⟩,U⟩:=p;obtain⟨h1,G⟩:=h;obtain⟨H,I⟩:=k;obtain⟨b0,b2,cj,cl,cp,ct,c0,c2,c4,c6,b4,b6,b8,ca,cc,cf,rfl⟩:=fP e h1;obtain⟨c8,da,d1,d3,d5,d7,d9,eb,ee,eg,dd,dg,dl,dp,ds,dx,rfl⟩:=fP D G;obtain⟨b1,b3,ck,cn,cr,cu,c1,c3,c5,c7,b5,b7,b9,cb,ce,ch,rfl⟩:=fP q H;obtain⟨c9,dc,d2,d4,d6,d8,ea,ed,ef,ei,de,dk,dn,dr,dw,d0,rfl⟩:=fP E I;kernel_rfl
theorem UH:prog.eqGuardType prog.depth aK=false:=by kernel_rfl
theorem Xb {c d:OpR}(o:c.fit)(p:d.fit){x y:Operand}(w:World):((do eqGuard .eql aK x y c.v d.v;binOp .eql aK c.v d.v:Sem Value)).run prog w=.ok (.bool (SR c d)) w:=
 Iw UH (Yi o p) w
theorem WK {c d:Req}(o:c.ok)(p:d.ok):eqV prog 10000 aX c.v d.v=some (Ql c d):=by
 obtain⟨D,⟨O,V,e⟩,G,I⟩:=c;obtain⟨E,⟨U,X,q⟩,H,M⟩:=d;obtain⟨Y,Z,ar,a0,a8,a9,bb,bc,bj,bk,ac,ad,ag,aj,al,an,rfl⟩:=fP e o;obtain⟨bq,bs,b6,b7,b8,b9,ca,cb,cc,ce,b0,b1,b2,b3,b4,b5,rfl⟩:=fP q p;kernel_rfl
theorem RQ:prog.eqGuardType prog.depth aX=false:=by kernel_rfl
theorem YD {c d:Req}(o:c.ok)(p:d.ok){x y:Operand}(w:World):((do eqGuard .eql aX x y c.v d.v;binOp .eql aX c.v d.v:Sem Value)).run prog w=.ok (.bool (Ql c d)) w:=
 Iw RQ (WK o p) w
theorem Ku (a:Option Addr)(b c:Nat)(d:Option Addr)(e f:Nat){w K}(h:nA w (.cells #[.slice none 0 0,.slice none 0 0,vI 0,vI 0] am) λg i=>∃j,Sv am (vA g 0) (.agg #[.slice a b c,.slice none 0 0,vI 0,vI 0]) i j/\nA j (.cells #[] ak) λk l=>∃m:Nat->FP [.one .slice,shI],(∃n,m n (vA k 0) 0 0 (0:Int) l)/\∀n o p q r,aQ 35 (∀s,m n o p q r s->af (decide (r<(e:Int))) ((bx r (e:Int)/\Option.isSome d=true)/\∃t,Ld aK (av d r 45) s t/\nA s (.cells eV aK) λu v=>∃x,Sv aK (vA u 0) t v x/\∃y z A B C D E F,Ld am (vA g 0) x (.agg #[.slice y z A,.slice B C D,vI E,vI F])/\∃G,Ld aK (vA u 0) x G/\Cf z7 #[.agg #[.slice y z A,.slice B C D,vI E,vI F],G] x λH I=>∃J L M N O P Q R S T,H=rT #[.agg #[.slice J L M,.slice N O P,vI Q,vI R],vI S,vS T]/\nA I (.cells #[.slice none 0 0,.slice none 0 0,vI 0,vI 0] am) λU V=>∃X,Sv am (vA U 0) (.agg #[.slice J L M,.slice N O P,vI Q,vI R]) V X/\∃Y Z ac ad ag aj al an,Ld am (vA U 0) X (.agg #[.slice Y Z ac,.slice ad ag aj,vI al,vI an])/\∃ar,Sv am (vA g 0) (.agg #[.slice Y Z ac,.slice ad ag aj,vI al,vI an]) X ar/\true/\∃bb,Ld aU (vA u 0) ar (vI bb)/\af (bb==2) (uS rK #[vS T] ar λbc bd=>nA bd (.cells #[vS bc] ak) λbj bk=>∃bo bq bs ca,(Builtin.append_ #[aO,aO] aO #[.slice o p q,.slice (vA bj 0) 1 1]).run prog bk=.ok (.slice bq bs ca) bo/\∃cb:Nat,cb<n/\m cb bq bs ca (i64.wrap (r+1)) bo) (af (S==0) (nA ar (.cells #[vS [111,107]] ak) λbc bd=>∃bj bk bo bq,(Builtin.append_ #[aO,aO] aO #[.slice o p q,.slice (vA bc 0) 1 1]).run prog bd=.ok (.slice bk bo bq) bj/\∃bs:Nat,bs<n/\m bs bk bo bq (i64.wrap (r+1)) bj) (uS eH #[vI S] ar λbc bd=>(((length [101,114,114,111,114,32]+length bc:Nat):Int) <=i64.max)/\∀bj,bj=([101,114,114,111,114,32]++bc)->nA bd (.cells #[vS bj] ak) λbk bo=>∃bq bs ca cb,(Builtin.append_ #[aO,aO] aO #[.slice o p q,.slice (vA bk 0) 1 1]).run prog bo=.ok (.slice bs ca cb) bq/\∃cc:Nat,cc<n/\m cc bs ca cb (i64.wrap (r+1)) bq))) (K (.slice o p q) s))):Cf wS #[.slice a b c,.slice d e f] w (Ret K):=ru func16 [(10,[(6,.one .slice),(17,shI)])] h
theorem YE (k:o.ok)(c:o.kind=1):jN o=(nN o.url&&SR o ⟨1,o.url,o.text,xz,0⟩):=by
 unfold jN iq Ce;rw[if_pos c,if_pos c]
theorem YF (c:o.kind=2):jN o=((cT o.req.host&&(sq o.req.path&&(decide (0 <=o.req.cross)&&decide (o.req.cross <=2))))&&SR o ⟨2,pd,[],o.req,0⟩):=by
 unfold jN iq Ce;rw[if_neg (by omega),if_pos c,if_neg (by omega),if_pos c]
theorem YG (c:o.kind=3):jN o=((decide (0 <=o.n)&&decide (o.n <=1099511627776))&&SR o ⟨3,pd,[],xz,o.n⟩):=by
 unfold jN iq Ce;rw[if_neg (by omega),if_neg (by omega),if_pos c,if_neg (by omega),if_neg (by omega),if_pos c]
theorem YH (e:o.kind≠1)(q:o.kind≠2)(D:o.kind≠3):jN o=SR o xK:=by
 unfold jN iq Ce;rw[if_neg e,if_neg q,if_neg D,if_neg e,if_neg q,if_neg D,Bool.true_and]
theorem QY {r:Req}(k:r.ok)(w:World):(Instr.build aK #[(0,vI 2),(3,r.v)]).run prog w=.ok (⟨2,pd,[],r,0⟩:OpR).v w:=by
 obtain⟨q,⟨G,H,e⟩,D,E⟩:=r;obtain⟨I,M,ac,ad,ag,aj,al,an,ar,a0,O,U,V,X,Y,Z,rfl⟩:=fP e k;kernel_rfl
theorem FC (k:o.ok)(w:World)(ar:Env w):Cf oD #[o.v] w (Ret λv w'=>v=.bool (jN o)/\bW w w'):=by
 apply CR;intro bj M bc a0;have E:=(a0▸ao w _:bW w M)
 have h1:au M bj aK o.cells:=au.new bc a0;have b3:=k.un;have b2:=k.rn;refine⟨rfl,_,h1.load1 bC rfl (i:=0) rfl,af.of (λG=>?_) (λG=>?_)⟩
 ·have G:o.kind=1:=by simpa using G
  have bb:SR o ⟨1,o.url,o.text,xz,0⟩=(o.n==0&&Ql o.req xz):=by
   unfold SR;rw[(MF k.uo k.uo).2 rfl,G];simp[Bool.and_comm]
  rw[YE k G,bb];refine⟨rfl,_,pr.load h1 (i:=1) (us:=o.url.cells) (Url.len k.uo) (λj I=>SV k I),?_⟩;refine aA (sR k.uo (by omega) M (ar.step E)) ?_;rintro _ bk ⟨rfl,al⟩;have Z:=ae E al E.size;have aj:=h1.below al;refine⟨_,rfl,af.of (λq=>?_) (λq=>⟨by rw[q];rfl,Z⟩)⟩;refine⟨rfl,_,aj.load1 bB rfl (XW k),af.of (λe=>?_) (λe=>⟨by rw[q,e];rfl,Z⟩)⟩;exact⟨rfl,_,io.load aj (i:=23) (us:=o.req.cells) (Req.len k.ro) (λj I=>O5 k I),_,YD (d:=xz) k.ro rfl bk,by rw[q,e];rfl,Z⟩
 have G:o.kind≠1:=by simpa using G
 refine af.of (λq=>?_) (λq=>?_)
 ·have q:o.kind=2:=by simpa using q
  rw[YF q];refine⟨rfl,_,io.load h1 (i:=23) (us:=o.req.cells) (Req.len k.ro) (λj I=>O5 k I),?_⟩;refine io.new (zs:=xz.cells) (cs:=o.req.cells) rfl (Req.len k.ro) (Req.one _) M λb4 bq b1 X an=>?_;have ac:=ae E an E.size;have a8:=h1.below an;refine⟨rfl,_,aR.load X (i:=1) (us:=o.req.host.cells) (Hst.len k.ro) (λj I=>Kc k.ro I),?_⟩;refine aA (ij k.ro (by omega) bq (ar.step ac)) ?_;rintro _ bs ⟨rfl,U⟩;have ad:=ae ac U ac.size;refine⟨_,rfl,af.of (λe=>?_) (λe=>⟨by rw[e];rfl,ad⟩)⟩;refine⟨rfl,_,(X.below U).load1 ax rfl (qv k.ro 0),?_⟩;refine aA (xw o.req.path bs) ?_;rintro _ b0 ⟨rfl,ag⟩;have O:=ae ad ag ad.size;have a9:=(a8.below U).below ag;have Y:=(X.below U).below ag;refine⟨_,rfl,af.of (λD=>?_) (λD=>⟨by rw[e,D];rfl,O⟩)⟩;refine⟨rfl,_,Y.load1 bC rfl (qv k.ro 1),af.of (λH=>?_) (λH=>⟨by rw[e,D,show decide (0 <=o.req.cross)=false from H];rfl,O⟩)⟩;refine⟨rfl,_,Y.load1 bC rfl (qv k.ro 1),af.of (λV=>?_) (λV=>⟨by rw[e,D,show decide (0 <=o.req.cross)=true from H,V];rfl,O⟩)⟩;exact⟨_,mh.load0 a9 (OpR.len k),_,io.load0 Y (Req.len k.ro),_,QY k.ro _,_,Xb (d:=⟨2,pd,[],o.req,0⟩) k.fit ⟨rfl,k.ro⟩ b0,by rw[e,D,show decide (0 <=o.req.cross)=true from H,V];rfl,O⟩
 have q:o.kind≠2:=by simpa using q
 refine af.of (λe=>?_) (λe=>?_)
 ·have e:o.kind=3:=by simpa using e
  rw[YG e];refine⟨rfl,_,h1.load1 bB rfl (XW k),af.of (λD=>?_) (λD=>⟨by rw[show decide (0 <=o.n)=false from D];rfl,E⟩)⟩;refine⟨rfl,_,h1.load1 bB rfl (XW k),af.of (λH=>?_) (λH=>⟨by rw[show decide (0 <=o.n)=true from D,H];rfl,E⟩)⟩;exact⟨_,mh.load0 h1 (OpR.len k),rfl,_,h1.load1 bB rfl (XW k),_,Xb (d:=⟨3,pd,[],xz,o.n⟩) k.fit ⟨rfl,rfl⟩ M,by rw[show decide (0 <=o.n)=true from D,H];rfl,E⟩
 have e:o.kind≠3:=by simpa using e
 exact⟨_,mh.load0 h1 (OpR.len k),_,Xb (d:=xK) k.fit ⟨rfl,rfl⟩ M,by rw[YH G q e],E⟩
theorem SE {x y:lU} :mkS x=mkS y↔x=y:=⟨SF,λh=>by rw[h]⟩
theorem ZU (a b c x:lU):Lib.idxOfS ([a,b,c].map mkS) (mkS x)=if x=a then 0 else if x=b then 1 else if x=c then 2 else -1:=by
 simp only[map_cons,map_nil,Lib.idxOfS,Lib.idxFromS,SE,eq_comm (a:=x)];split
 ·rfl
 ·split
  ·rfl
  ·split<;>rfl
theorem ZT (a b x:lU):Lib.idxOfS ([a,b].map mkS) (mkS x)=if x=a then 0 else if x=b then 1 else -1:=by
 simp only[map_cons,map_nil,Lib.idxOfS,Lib.idxFromS,SE,eq_comm (a:=x)];split
 ·rfl
 ·split<;>rfl
theorem zZc {a:Option Addr}{n c:Nat}{xs:List lU}(e:Sl tS w A a n c xs)(E:xs≠[])(x:lU)(G:xs.length <=9223372036854775807):
 Cf aH #[.slice a n c,vS x] w (Ret λv w'=>v=vI (Lib.idxOfS (xs.map mkS) (mkS x))/\w'=w):=by
 have D:=e.1;subst D;obtain⟨b,off,rfl,q⟩:=M5 e E;refine(Tryz.slices_Index_string b off xs.length c (xs.map mkS) (mkS x) w (by simp) G q).mono ?_;rintro _ _ ⟨rfl,rfl⟩;rw[take_of_length_le (by simp)];exact⟨_,rfl,rfl,rfl⟩
theorem HJ (a:Option Addr)(b c:Nat){w K}(h:nA w (.cells eV aK) λd e=>(bx (1:Int) (b:Int)/\Option.isSome a=true)/\∃f,Ld ak (av a (1:Int) 1) e (vS f)/\Cf gV #[vS f] e λg i=>∃j k,g=rT #[j,vI k]/\nA i (.cells bu ai) λl m=>∃n,Sv ai (vA l 0) j m n/\∃o:FP [shI,shI],((bx (0:Int) (b:Int)/\Option.isSome a=true)/\(bx (3:Int) (b:Int)/\Option.isSome a=true)/\(uL dE #[] (drew n) λp q r s=>(∃t,Ld ak (av a (0:Int) 1) s (vS t)/\(uI aH #[.slice p q r,vS t] s λu v=>(uL bZ #[] v λx y z A=>∃B,Ld ak (av a (3:Int) 1) A (vS B)/\uI aH #[.slice x y z,vS B] A λC D=>o u C D)/\∃x,Ld ak (av a (3:Int) 1) v (vS x)/\uL bZ #[] v λy z A B=>uI aH #[.slice y z A,vS x] B λC D=>o u C D)/\∃u,Ld ak (av a (3:Int) 1) s (vS u)/\uI aH #[.slice p q r,vS t] s λv x=>uL bZ #[] x λy z A B=>uI aH #[.slice y z A,vS u] B λC D=>o v C D)/\∃t,Ld ak (av a (3:Int) 1) s (vS t)/\∃u,Ld ak (av a (0:Int) 1) s (vS u)/\uI aH #[.slice p q r,vS u] s λv x=>uL bZ #[] x λy z A B=>uI aH #[.slice y z A,vS t] B λC D=>o v C D)/\(∃p,Ld ak (av a (0:Int) 1) (drew n) (vS p)/\(uL dE #[] (drew n) λq r s t=>(uI aH #[.slice q r s,vS p] t λu v=>(uL bZ #[] v λx y z A=>∃B,Ld ak (av a (3:Int) 1) A (vS B)/\uI aH #[.slice x y z,vS B] A λC D=>o u C D)/\∃x,Ld ak (av a (3:Int) 1) v (vS x)/\uL bZ #[] v λy z A B=>uI aH #[.slice y z A,vS x] B λC D=>o u C D)/\∃u,Ld ak (av a (3:Int) 1) t (vS u)/\uI aH #[.slice q r s,vS p] t λv x=>uL bZ #[] x λy z A B=>uI aH #[.slice y z A,vS u] B λC D=>o v C D)/\∃q,Ld ak (av a (3:Int) 1) (drew n) (vS q)/\uL dE #[] (drew n) λr s t u=>uI aH #[.slice r s t,vS p] u λv x=>uL bZ #[] x λy z A B=>uI aH #[.slice y z A,vS q] B λC D=>o v C D)/\∃p,Ld ak (av a (3:Int) 1) (drew n) (vS p)/\(uL dE #[] (drew n) λq r s t=>∃u,Ld ak (av a (0:Int) 1) t (vS u)/\uI aH #[.slice q r s,vS u] t λv x=>uL bZ #[] x λy z A B=>uI aH #[.slice y z A,vS p] B λC D=>o v C D)/\∃q,Ld ak (av a (0:Int) 1) (drew n) (vS q)/\uL dE #[] (drew n) λr s t u=>uI aH #[.slice r s t,vS q] u λv x=>uL bZ #[] x λy z A B=>uI aH #[.slice y z A,vS p] B λC D=>o v C D)/\∀p q,aQ 10 (∀r,o p q r->(bx (2:Int) (b:Int)/\Option.isSome a=true)/\af (k==0) (∃s,(∀t,bW r t->Ld ai (vA l 0) t s)/\∃t,(∀u,bW r u->Ld ak (av a (2:Int) 1) u (vS t))/\∃u,(∀v,bW r v->(Instr.build aX #[(0,.bool (p==1)),(1,s),(2,vS t),(3,vI q)]).run prog v=.ok u v)/\∃v,(∀x,bW r x->(Instr.build aK #[(0,vI 2),(3,u)]).run prog x=.ok v x)/\∀x,bW r x->∃y,Sv aK (vA d 0) v x y/\∃z,Rv aK (vA d 0) y z/\K (.tuple #[z,.bool (decide (p >=0))]) y) (∃s,(∀t,bW r t->Ld ai (vA l 0) t s)/\∃t,(∀u,bW r u->Ld ak (av a (2:Int) 1) u (vS t))/\∃u,(∀v,bW r v->(Instr.build aX #[(0,.bool (p==1)),(1,s),(2,vS t),(3,vI q)]).run prog v=.ok u v)/\∃v,(∀x,bW r x->(Instr.build aK #[(0,vI 2),(3,u)]).run prog x=.ok v x)/\∀x,bW r x->∃y,Sv aK (vA d 0) v x y/\∃z,Rv aK (vA d 0) y z/\K (.tuple #[z,.bool false]) y))):Cf jd #[.slice a b c] w (Ret K):=ru func98 [(4,[(6,shI),(7,shI)]),(1000005,[]),(3000007,[(0,shB),(1,shB),(3,shB),(4,shB),(6,shB),(9,shB),(10,shB),(11,shB),(12,shB),(13,shB),(14,shB),(2,shB),(5,shB),(7,shB),(8,shB)])] h
theorem Az (a:lU){w K}(h:nA w (.cells eV aK) λb c=>Cf pV #[vS a] c λd e=>∃f g i j,d=rT #[.slice f g i,.bool j]/\af (!j) (∃k,Sv aK (vA b 0) (.agg eV) e k/\∃l,Rv aK (vA b 0) k l/\K (.tuple #[l,.bool false]) k) (∃k:FP [.one .ptr,shB],((bx (0:Int) (g:Int)/\Option.isSome f=true)/\(Cf dD #[] (drew e) λl m=>∃n,l=.returned (.map n)/\(∃o,Ld ak (av f (0:Int) 1) m (vS o)/\(∃p q r,(Instr.lookup aW (.map n) (vS o) true).run prog m=.ok (.tuple #[.agg #[vI p,q],.bool r]) m/\nA m (.cells #[vI 0,.nilFunc] bl) λs t=>∃u,Sv bl (vA s 0) (.agg #[vI p,q]) t u/\k (vA s 0) r u)/\nA m (.cells #[vI 0,.nilFunc] bl) λp q=>∃r s t,(Instr.lookup aW (.map n) (vS o) true).run prog q=.ok (.tuple #[.agg #[vI r,s],.bool t]) q/\∃u,Sv bl (vA p 0) (.agg #[vI r,s]) q u/\k (vA p 0) t u)/\nA m (.cells #[vI 0,.nilFunc] bl) λo p=>∃q,Ld ak (av f (0:Int) 1) p (vS q)/\∃r s t,(Instr.lookup aW (.map n) (vS q) true).run prog p=.ok (.tuple #[.agg #[vI r,s],.bool t]) p/\∃u,Sv bl (vA o 0) (.agg #[vI r,s]) p u/\k (vA o 0) t u)/\(∃l,Ld ak (av f (0:Int) 1) (drew e) (vS l)/\(Cf dD #[] (drew e) λm n=>∃o,m=.returned (.map o)/\(∃p q r,(Instr.lookup aW (.map o) (vS l) true).run prog n=.ok (.tuple #[.agg #[vI p,q],.bool r]) n/\nA n (.cells #[vI 0,.nilFunc] bl) λs t=>∃u,Sv bl (vA s 0) (.agg #[vI p,q]) t u/\k (vA s 0) r u)/\nA n (.cells #[vI 0,.nilFunc] bl) λp q=>∃r s t,(Instr.lookup aW (.map o) (vS l) true).run prog q=.ok (.tuple #[.agg #[vI r,s],.bool t]) q/\∃u,Sv bl (vA p 0) (.agg #[vI r,s]) q u/\k (vA p 0) t u)/\∀m n,m=(drew e).heap.size->n=(drew e).alloc (.cells #[vI 0,.nilFunc] bl)->Cf dD #[] n λo p=>∃q,o=.returned (.map q)/\∃r s t,(Instr.lookup aW (.map q) (vS l) true).run prog p=.ok (.tuple #[.agg #[vI r,s],.bool t]) p/\∃u,Sv bl (vA m 0) (.agg #[vI r,s]) p u/\k (vA m 0) t u)/\∀l m,l=(drew e).heap.size->m=(drew e).alloc (.cells #[vI 0,.nilFunc] bl)->(Cf dD #[] m λn o=>∃p,n=.returned (.map p)/\∃q,Ld ak (av f (0:Int) 1) o (vS q)/\∃r s t,(Instr.lookup aW (.map p) (vS q) true).run prog o=.ok (.tuple #[.agg #[vI r,s],.bool t]) o/\∃u,Sv bl (vA l 0) (.agg #[vI r,s]) o u/\k (vA l 0) t u)/\∃n,Ld ak (av f (0:Int) 1) m (vS n)/\Cf dD #[] m λo p=>∃q,o=.returned (.map q)/\∃r s t,(Instr.lookup aW (.map q) (vS n) true).run prog p=.ok (.tuple #[.agg #[vI r,s],.bool t]) p/\∃u,Sv bl (vA l 0) (.agg #[vI r,s]) p u/\k (vA l 0) t u)/\∀l m,aQ 8 (∀n,k l m n->∃o:FP [],(af (!m) (∃p,Sv aK (vA b 0) (.agg eV) n p/\∃q,Rv aK (vA b 0) p q/\K (.tuple #[q,.bool false]) p) ((Option.isSome l=true)/\∃p,Ld aU (Option.map (λq=>q.add 0) l) n (vI p)/\af ((g:Int) !=(i64.wrap (p+1))) (∃q,Sv aK (vA b 0) (.agg eV) n q/\∃r,Rv aK (vA b 0) q r/\K (.tuple #[r,.bool false]) q) (o n)))/\aQ 12 (∀p,o p->∃q:FP [shB,.one .ptr],((Option.isSome l=true)/\bd (1:Int) (g:Int)/\(∃r,Ld ci (Option.map (λs=>s.add 1) l) (drew p) r/\(qF prog r #[.slice (bw f i (Int.toNat 1) 1) (g-(Int.toNat 1)) (i-(Int.toNat 1))] (drew p) λs t=>∃u v,s=rT #[u,.bool v]/\nA t (.cells eV aK) λx y=>∃z,Sv aK (vA x 0) u y z/\q v (vA x 0) z)/\∀s t,s=(drew p).heap.size->t=(drew p).alloc (.cells eV aK)->qF prog r #[.slice (bw f i (Int.toNat 1) 1) (g-(Int.toNat 1)) (i-(Int.toNat 1))] t λu v=>∃x y,u=rT #[x,.bool y]/\∃z,Sv aK (vA s 0) x v z/\q y (vA s 0) z)/\∀r s,r=(drew p).heap.size->s=(drew p).alloc (.cells eV aK)->∃t,Ld ci (Option.map (λu=>u.add 1) l) s t/\qF prog t #[.slice (bw f i (Int.toNat 1) 1) (g-(Int.toNat 1)) (i-(Int.toNat 1))] s λu v=>∃x y,u=rT #[x,.bool y]/\∃z,Sv aK (vA r 0) x v z/\q y (vA r 0) z)/\∀r s,aQ 8 (∀t,q r s t->∃u,(∀v,bW t v->Ld aK s v u)/\af r (∃v,(∀x,bW t x->Ld aK s x v)/\∃x,(∀y,bW t y->Cf oD #[v] y λz A=>z=.returned (.bool x)/\bW y A)/\∀y,bW t y->∃z,Sv aK (vA b 0) u y z/\∃A,Rv aK (vA b 0) z A/\K (.tuple #[A,.bool x]) z) (∀v,bW t v->∃x,Sv aK (vA b 0) u v x/\∃y,Rv aK (vA b 0) x y/\K (.tuple #[y,.bool false]) x)))))):Cf mE #[vS a] w (Ret K):=ru func20 [(12,[(6,.one .ptr),(7,shB)]),(14,[]),(22,[(5,shB),(8,.one .ptr)]),(3000025,[(1,shB),(2,shB),(0,shB),(3,shB),(4,shB),(5,shB)])] h
theorem UF {r:Req}(o:r.ok):(⟨2,pd,[],r,0⟩:OpR).cells.length=45:=by
 unfold OpR.cells;rw[length_cons,length_append,length_cons,length_append,Req.len o];rfl
theorem Qr (x:lU):Lib.idxOfS ([QW,K1].map mkS) (mkS x)=fm x:=ZT _ _ _
theorem Re (x:lU):Lib.idxOfS ([QX,Ya,X9].map mkS) (mkS x)=oQ x:=ZU _ _ _ _
theorem Sl.str {a:Option Addr}{l c:Nat}{xs:List lU}(D:Sl tS w A a l c xs){i:Int}(h:xs[i.toNat]? =some s):
 (Instr.loadAt ak (.pointer (av a i 1))).run prog w=.ok (vS s) w:=by
 obtain⟨q,e⟩:=List.getElem?_eq_some_iff.1 h;obtain⟨v,G,E⟩:=D.load1 (P:=prog) (i:=i) ax rfl rfl q;obtain⟨rfl,_⟩:=iX E;rw[G,e]
theorem H5 (b:Bool){h:Hst}(o:h.ok)(p:lU)(n:Int)(w:World):(Instr.build aX #[(0,.bool b),(1,h.v),(2,vS p),(3,vI n)]).run prog w=.ok (Req.v ⟨b,h,p,n⟩) w:=by
 obtain⟨k,n,a⟩:=h;obtain⟨e,q,O,U,V,X,Y,Z,ac,ad,D,E,G,H,I,M,rfl⟩:=fP a o;kernel_rfl
theorem K3 {r:Req}(k:r.ok)(w:World):(Instr.build aK #[(0,vI 2),(3,r.v)]).run prog w=.ok (⟨2,pd,[],r,0⟩:OpR).v w:=by
 obtain⟨q,⟨G,H,e⟩,D,E⟩:=r;obtain⟨I,M,ac,ad,ag,aj,al,an,ar,a0,O,U,V,X,Y,Z,rfl⟩:=fP e k;kernel_rfl
theorem KI {a:Option Addr}{l c:Nat}{x y p z:lU}(U:Sl tS w A a l c [x,y,p,z])(cc:y.length <=10000000)(bs:Env w):
 Cf jd #[.slice a l c] w (Ret λv w'=>v=.tuple #[(⟨2,pd,[],⟨fm x==1,(bV y).getD gO,p,oQ z⟩,0⟩:OpR).v,.bool ((bV y).isSome&&decide (0 <=fm x))]/\bW w w'):=by
 have b1:=U.1;obtain rfl:l=4:=b1;apply HJ;intro an w2 b0 bj;have M:bW w w2:=bj▸ao w _;have a8:au w2 an aK ND.cells:=au.new b0 bj;have X:=U.isSome (i:=0) (by simp);refine⟨⟨⟨by decide,by decide⟩,X⟩,y,Sl.str (U.below M) rfl,?_⟩;refine aA (jD y (by omega) w2 (bs.step M)) ?_;rintro _ b8 ⟨rfl,ag⟩;have ac:=ae M ag M.size;have G:=kZ λx b2=>gG (s:=y) b2;rw[ii];refine⟨_,_,rfl,?_⟩;refine aR.new (zs:=gO.cells) (cs:=((bV y).getD gO).cells) rfl (Hst.len G) (Hst.one _) b8 λce E cb Z aj=>?_;have ad:=ae ac aj ac.size;have a9:=(a8.below ag).below aj;have V:=U.below ad;have ca:bW E (drew E):=cy E;refine⟨λn m w'=>n=fm x/\m=oQ z/\bW E w',⟨⟨⟨by decide,by decide⟩,X⟩,⟨⟨by decide,by decide⟩,X⟩,?_⟩,λn m=>aQ.of ?_ _⟩
 ·clear a9 Z a8 G ac ag M aj;have b5:∀{u:World},bW E u->(Instr.loadAt ak (.pointer (av a (0:Int) 1))).run prog u=.ok (vS x) u:=λe=>Sl.str (V.below e) rfl;have b6:∀{u:World},bW E u->(Instr.loadAt ak (.pointer (av a (3:Int) 1))).run prog u=.ok (vS z) u:=λe=>Sl.str (V.below e) rfl;have b7:∀{u:World} {R:Ending->World->Prop},bW E u->(∀(b:Option Addr) (D:World),Ow tS ak D NoB b 2 2 [QW,K1]->bW E D->R (.returned (.slice b 2 2)) D)->Cf dE #[] u R:=fun{u R} e h=>aA (AC u) (by
   rintro _ D ⟨b,rfl,o,_,O⟩;exact h b D o (ae e O e.size))
  have bk:∀{u:World} {R:Ending->World->Prop},bW E u->(∀(b:Option Addr) (D:World),Ow tS ak D NoB b 3 3 [QX,Ya,X9]->bW E D->R (.returned (.slice b 3 3)) D)->Cf bZ #[] u R:=fun{u R} e h=>aA (AA u) (by
   rintro _ D ⟨b,rfl,o,_,O⟩;exact h b D o (ae e O e.size))
  have b3:∀{u:World} {b:Option Addr} {t:lU} {R:Ending->World->Prop},Ow tS ak u NoB b 2 2 [QW,K1]->R (.returned (vI (fm t))) u->Cf aH #[.slice b 2 2,vS t] u R:=fun{u b t R} o h=>aA (zZc o.all (by simp) t (by simp)) (by
   rintro _ _ ⟨rfl,rfl⟩;rw[Qr];exact h)
  have b4:∀{u:World} {b:Option Addr} {t:lU} {R:Ending->World->Prop},Ow tS ak u NoB b 3 3 [QX,Ya,X9]->R (.returned (vI (oQ t))) u->Cf aH #[.slice b 3 3,vS t] u R:=fun{u b t R} o h=>aA (zZc o.all (by simp) t (by simp)) (by
   rintro _ _ ⟨rfl,rfl⟩;rw[Re];exact h)
  repeat' (with_reducible first
   |exact⟨rfl,rfl,by assumption⟩
   |refine And.intro ?_ ?_
   |refine⟨x,b5 (by assumption),?_⟩
   |refine⟨z,b6 (by assumption),?_⟩
   |(refine b7 (by assumption) λ_ _ _ _=>⟨_,_,_,rfl,?_⟩)
   |(refine bk (by assumption) λ_ _ _ _=>⟨_,_,_,rfl,?_⟩)
   |(refine b3 (by assumption) ⟨_,rfl,?_⟩)
   |(refine b4 (by assumption) ⟨_,rfl,?_⟩))
 ·rintro b9 ⟨rfl,rfl,I⟩;have bb:=ae ad I ad.size;have bq:=a9.below I;have ar:Req.ok ⟨fm x==1,(bV y).getD gO,p,oQ z⟩:=G;refine⟨⟨⟨by decide,by decide⟩,X⟩,?_⟩;have tail:∀(b:Bool) (e:b=((bV y).isSome&&decide (0 <=fm x))) (a0:World),bW b9 a0->∃H,(Instr.storeAt aK (.pointer (some ⟨an,0,none⟩)) (⟨2,pd,[],⟨fm x==1,(bV y).getD gO,p,oQ z⟩,0⟩:OpR).v).run prog a0=.ok () H/\
   ∃Y:Value,(aS aK (.pointer (some ⟨an,0,none⟩))).run prog H=.ok Y H/\(Value.tuple #[Y,.bool b]=.tuple #[(⟨2,pd,[],⟨fm x==1,(bV y).getD gO,p,oQ z⟩,0⟩:OpR).v,.bool ((bV y).isSome&&decide (0 <=fm x))]/\bW w H):=λb e a0 bc=>
   mh.fin (K:=λY H=>Value.tuple #[Y,.bool b]=.tuple #[(⟨2,pd,[],⟨fm x==1,(bV y).getD gO,p,oQ z⟩,0⟩:OpR).v,.bool ((bV y).isSome&&decide (0 <=fm x))]/\bW w H) (cs:=(⟨2,pd,[],⟨fm x==1,(bV y).getD gO,p,oQ z⟩,0⟩:OpR).cells) (UF ar) (OpR.one _) (bq.below bc) gH (ae bb bc bb.size) (by omega) λH O=>⟨by rw[e];rfl,O⟩
  refine af.of (λc=>?_) (λc=>?_)
  ·refine⟨_,λu q=>aR.load0 ((Z.below I).below q) (Hst.len G),p,λu q=>Sl.str ((V.below I).below q) rfl,_,λu q=>H5 _ G _ _ u,_,λu q=>K3 ar u,tail _ ?_⟩;cases al:bV y with
   |none=>rw[al]at c;cases c
   |some h=>rfl
  ·refine⟨_,λu q=>aR.load0 ((Z.below I).below q) (Hst.len G),p,λu q=>Sl.str ((V.below I).below q) rfl,_,λu q=>H5 _ G _ _ u,_,λu q=>K3 ar u,tail _ ?_⟩;cases al:bV y with
   |none=>rfl
   |some h=>rw[al]at c;cases c
theorem Ly {h:Hst}(e:bV s=some h):h.name.length <=s.length:=by
 unfold bV at e;split at e
 ·split at e
  ·rw[Option.map_eq_some_iff]at e;obtain⟨a,_,rfl⟩:=e;exact Nat.zero_le _
  ·cases e
 ·split at e
  ·rw[Option.map_eq_some_iff]at e;obtain⟨a,_,rfl⟩:=e;exact Nat.zero_le _
  ·split at e
   ·rw[<- Option.some.inj e];simp[cv]
   ·cases e
theorem RY (s:lU):((bV s).getD gO).name.length <=s.length:=by
 cases e:bV s with
 |none=>exact Nat.zero_le _
 |some h=>exact Ly e
theorem Th (r:lU):(Cg r).length <=r.length+1:=by
 unfold Cg;split
 ·simp
 ·simp;omega
theorem Vs (r:lU)(b:Bool):(Vr r b).1.host.name.length <=r.length/\(Vr r b).1.path.length <=r.length+1:=by
 unfold Vr;split
 ·exact⟨Nat.zero_le _,Nat.zero_le _⟩
 ·rename_i h e;split
  ·exact⟨Nat.zero_le _,Nat.zero_le _⟩
  ·split
   ·refine⟨?_,?_⟩
    ·unfold Ca at e;split at e
     ·cases e
     ·have:=Ly e;simp only[length_take]at this;show h.name.length <=_;omega
    ·have:=Th (r.drop (eS [47,63,35] r));simp only[length_drop]at this;show(Cg _).length <=_;omega
   ·exact⟨Nat.zero_le _,Nat.zero_le _⟩
theorem Vt (s:lU):(Bg s).1.host.name.length <=s.length/\(Bg s).1.path.length <=s.length+1:=by
 unfold Bg;split
 ·exact⟨Nat.zero_le _,Nat.zero_le _⟩
 ·rename_i r b e;have q:r.length <=s.length:=by
   unfold XG at e;split at e
   ·cases e;simp
   split at e
   ·cases e;simp
   ·cases e
  have:=Vs r b;omega
theorem XD (s:lU):((unP s).getD []).length <=s.length:=by
 cases e:unP s with
 |none=>exact Nat.zero_le _
 |some t=>
  have h:=(XC s t).1 e;unfold CW at h;split at h
  ·rename_i c;subst c;exact Nat.zero_le _
  ·have:=(tU t).1;rw[h]at this;exact this
def iW (k:lU)(ws:List lU):OpR×Bool:=
 match ws with
 |[]=>(xK,true)
 |[a]=>(⟨3,pd,[],xz,if uD a then fg a else 0⟩,decide (uD a))
 |[a,b]=>(⟨1,(Bg a).1,(unP b).getD [],xz,0⟩,(unP b).isSome&&((Bg a).2==0))
 |[a,b,c,d]=>(⟨2,pd,[],⟨fm a==1,(bV b).getD gO,c,oQ d⟩,0⟩,(bV b).isSome&&decide (0 <=fm a))
 |_=>(ND,false)
def fO (k:lU)(n:Nat):Bool:=decide (k=Wr/\n=2) || (decide (k=Wq/\n=4) || (decide (k=MY/\n=1) || decide (k=DE/\n=0)))
theorem Qk (k:lU)(e:List lU)(h:(iW k e).2=true):(iW k e).1=Ce (iW k e).1:=by
 revert h;unfold iW;split<;>intro h
 ·rfl
 ·rfl
 ·rfl
 ·rfl
 ·cases h
theorem Vg (k:lU)(e:List lU)(h:∀x∈e,x.length <=900000):(iW k e).1.ok:=by
 unfold iW;split
 ·exact⟨rfl,rfl,Nat.zero_le _,Nat.zero_le _,Nat.zero_le _,Nat.zero_le _,Nat.zero_le _⟩
 ·exact⟨rfl,rfl,Nat.zero_le _,Nat.zero_le _,Nat.zero_le _,Nat.zero_le _,Nat.zero_le _⟩
 ·rename_i a b;have G:=h a (by simp);have q:=h b (by simp);have h1:=Vt a;have E:=XD b;exact⟨Oa a,rfl,by show(Bg a).1.path.length <=_;omega,by show(Bg a).1.host.name.length <=_;omega,Nat.zero_le _,Nat.zero_le _,by show((unP b).getD []).length <=_;omega⟩
 ·rename_i a b c d;have q:=h b (by simp);have H:=h c (by simp);have h1:=RY b;exact⟨rfl,kZ λx D=>gG (s:=b) D,Nat.zero_le _,Nat.zero_le _,by show c.length <=_;omega,by show((bV b).getD gO).name.length <=_;omega,Nat.zero_le _⟩
 ·exact⟨rfl,rfl,Nat.zero_le _,Nat.zero_le _,Nat.zero_le _,Nat.zero_le _,Nat.zero_le _⟩
theorem EA {s k:lU}(E:bR 32 [] s=k::G):fE s=if([]:lU)∈k::G then none else if fO k G.length=true then(if((iW k G).2&&jN (iW k G).1)=true then some (iW k G).1 else none)else none:=by
 unfold fE;rw[E];by_cases q:([]:lU)∈k::G
 ·rw[if_pos q,if_pos q]
 rw[if_neg q,if_neg q];have key:((iW k G).2&&jN (iW k G).1)=((iW k G).2&&iq (iW k G).1):=by
  cases h:(iW k G).2 with
  |false=>rfl
  |true=>
   rw[Bool.true_and,Bool.true_and];have H:(iW k G).1.fit:=by
    unfold iW;split
    ·exact⟨rfl,rfl⟩
    ·exact⟨rfl,rfl⟩
    ·exact⟨Oa _,rfl⟩
    ·exact⟨rfl,kZ λx I=>gG I⟩
    ·exact⟨rfl,rfl⟩
   exact NP H (Qk k G h)
 rw[key];have D:∀(b:Bool) (o:OpR),(if(b&&iq o)=true then some o else none)=Option.filter iq (if b=true then some o else none):=λb o=>by
  cases b<;>cases h:iq o<;>simp[Option.filter,h]
 match G with
 |[]=>
  show(if k=DE then some xK else none)=if fO k 0=true then _ else none;have e:(fO k 0=true)=(k=DE):=by simp[fO]
  simp only[e];rfl
 |[a]=>
  show(if k=MY then(Xu a).filter iq else none)=if fO k 1=true then _ else none;have e:(fO k 1=true)=(k=MY):=by simp[fO]
  simp only[e];congr 1;show _=if(decide (uD a)&&iq ⟨3,pd,[],xz,if uD a then fg a else 0⟩)=true then some (⟨3,pd,[],xz,if uD a then fg a else 0⟩:OpR)else none;rw[D];unfold Xu;by_cases h:uD a
  ·simp only[h,if_true,decide_true]
  ·simp only[h,if_false,decide_false,Bool.false_eq_true]
 |[a,b]=>
  show(if k=Wr then(Zs a b).filter iq else none)=if fO k 2=true then _ else none;have e:(fO k 2=true)=(k=Wr):=by simp[fO]
  simp only[e];congr 1;show _=if(((unP b).isSome&&((Bg a).2==0))&&iq ⟨1,(Bg a).1,(unP b).getD [],xz,0⟩)=true then some (⟨1,(Bg a).1,(unP b).getD [],xz,0⟩:OpR)else none;rw[D];unfold Zs;cases unP b<;>by_cases h:(Bg a).2=0<;>simp[h]
 |[a,b,c]=>
  have e:fO k 3=false:=by simp[fO]
  show none=if fO k 3=true then _ else none;rw[e];rfl
 |[a,b,c,d]=>
  show(if k=Wq then(Zh a b c d).filter iq else none)=if fO k 4=true then _ else none;have e:(fO k 4=true)=(k=Wq):=by simp[fO]
  simp only[e];congr 1;show _=if(((bV b).isSome&&decide (0 <=fm a))&&iq ⟨2,pd,[],⟨fm a==1,(bV b).getD gO,c,oQ d⟩,0⟩)=true then some (⟨2,pd,[],⟨fm a==1,(bV b).getD gO,c,oQ d⟩,0⟩:OpR)else none;rw[D];unfold Zh;cases bV b<;>by_cases h:0 <=fm a<;>simp[h]
 |a::b::c::d::f::r=>
  have e:fO k (a::b::c::d::f::r).length=false:=by simp[fO]
  show none=if fO k (a::b::c::d::f::r).length=true then _ else none;rw[e];rfl
def rdN (k:lU):Int:=((dI k sr).map (·.1)).getD 0
def rdF (k:lU):Value:=((dI k sr).map λp=>Value.func (.func p.2) #[] #[]).getD .nilFunc
theorem Xf {r:Nat}(m:uR evS evR w r sr)(k:lU):(Instr.lookup aW (.map (some r)) (vS k) true).run prog w=.ok (.tuple #[.agg #[vI (rdN k),rdF k],.bool (dI k sr).isSome]) w:=by
 have:=m.look2 cP (qZ.str ax) qM k;unfold evS at this;rw[this];unfold rdN rdF;cases dI k sr<;>rfl
theorem Vf {k:lU}(q:(dI k sr).isSome=true)(D:((n+1:Nat):Int)=rdN k+1):fO k n=true:=by
 have e:k=Wr\/k=Wq\/k=MY\/k=DE:=by
  revert q;simp only[sr,dI];split
  ·rename_i h;intro _;exact .inl h
  split
  ·rename_i h;intro _;exact .inr (.inl h)
  split
  ·rename_i h;intro _;exact .inr (.inr (.inl h))
  split
  ·rename_i h;intro _;exact .inr (.inr (.inr h))
  ·intro h;cases h
 unfold fO;simp only[Bool.or_eq_true,dTx];rcases e with rfl|rfl|rfl|rfl
 ·have:rdN Wr=2:=rfl;exact .inl ⟨rfl,by omega⟩
 ·have:rdN Wq=4:=rfl;exact .inr (.inl ⟨rfl,by omega⟩)
 ·have:rdN MY=1:=rfl;exact .inr (.inr (.inl ⟨rfl,by omega⟩))
 ·have:rdN DE=0:=rfl;exact .inr (.inr (.inr ⟨rfl,by omega⟩))
theorem LX {k:lU}(h:fO k n=true):(dI k sr).isSome=true/\((n+1:Nat):Int)=rdN k+1:=by
 unfold fO at h;simp only[Bool.or_eq_true,dTx]at h;rcases h with⟨rfl,rfl⟩|⟨rfl,rfl⟩|⟨rfl,rfl⟩|⟨rfl,rfl⟩<;>exact⟨rfl,rfl⟩
theorem Xe {a:Option Addr}{l c:Nat}{k:lU}(h:fO k G.length=true)(H:Sl tS u A a l c G)(E:∀x∈G,x.length <=900000)(I:Env u){R:Ending->World->Prop}
 (D:∀e,bW u e->R (.returned (.tuple #[(iW k G).1.v,.bool (iW k G).2])) e):qF prog (rdF k) #[.slice a l c] u R:=by
 unfold fO at h;simp only[Bool.or_eq_true,dTx]at h;rcases h with⟨rfl,h⟩|⟨rfl,h⟩|⟨rfl,h⟩|⟨rfl,h⟩
 ·match G,h with
  |[x,y],_=>
   have M:=E x (by simp);have O:=E y (by simp);refine qF.of (f:=je) (by kernel_rfl) (aA (KJ H (by omega) (by omega) I) ?_);rintro _ e ⟨rfl,q⟩;exact D e q
 ·match G,h with
  |[x,y,p,z],_=>
   have O:=E y (by simp);refine qF.of (f:=jd) (by kernel_rfl) (aA (KI H (by omega) I) ?_);rintro _ e ⟨rfl,q⟩;exact D e q
 ·match G,h with
  |[x],_=>
   have M:=E x (by simp);refine qF.of (f:=ig) (by kernel_rfl) (aA (HO H (by omega)) ?_);rintro _ e ⟨rfl,q⟩;exact D e q
 ·match G,h with
  |[],_=>
   refine qF.of (f:=dK) (by kernel_rfl) (aA (FD a l c u) ?_);rintro _ e ⟨rfl,q⟩;exact D e q
theorem YN:∃d,prog.underlying ci=some d/\CX d=false:=by
 have h:(prog.underlying ci).map CX=some false:=by kernel_rfl
 cases e:prog.underlying ci with
 |none=>rw[e]at h;cases h
 |some d=>rw[e]at h;exact⟨d,rfl,Option.some.inj h⟩
def X1 (s:lU)(w:World)(v:Value)(w':World):Prop:=(∃o:OpR,v=.tuple #[o.v,.bool (fE s).isSome]/\o.fit/\∀p,fE s=some p->o=p)/\bW w w'
structure StR (w:World)(u:World)(m k:Option Nat):Prop where
 b:bW w u
 mm:∀r,m=some r->uR evS evR u r sr
 kk:∀x,k=some x->au u x bl [vI 0,.nilFunc]
 nn:∀r x,m=some r->k=some x->r≠x
 oo:∀x,k=some x->w.heap.size <=x
theorem CS (s:lU)(bq:s.length <=900000)(w:World)(b5:Env w):Cf mE #[vS s] w (Ret (X1 s w)):=by
 apply Az;intro k2 w2 c2 cn;have ad:bW w w2:=cn▸ao w _;have b1:au w2 k2 aK ND.cells:=au.new c2 cn;have cj:w.heap.size <=k2:=by omega
 have a9:∀{wx:World},bW w2 wx->fE s=none->∃wy,(Instr.storeAt aK (.pointer (some ⟨k2,0,none⟩)) (.agg eV)).run prog wx=.ok () wy/\∃U:Value,(aS aK (.pointer (some ⟨k2,0,none⟩))).run prog wy=.ok U wy/\X1 s w (.tuple #[U,.bool false]) wy:=fun{wx} e a8=>
  mh.fin (K:=λU wy=>X1 s w (.tuple #[U,.bool false]) wy) (cs:=ND.cells) gH (OpR.one _) (b1.below e) gH (ae ad e ad.size) cj λwy G=>⟨⟨ND,by rw[a8];rfl,⟨rfl,rfl⟩,λp Y=>by rw[a8]at Y;cases Y⟩,G⟩
 have c3:=gT 32 s [];have b7:=ia 32 s [];have b4:=dJ 32 s [];refine aA (GL s (by omega) w2 (b5.step ad)) ?_;rintro _ H ⟨Z,a0⟩;have b2:=ae ad a0 ad.size;by_cases ar:([]:lU)∈bR 32 [] s
 ·rw[if_pos ar]at Z;subst Z;exact⟨_,_,_,_,rfl,af.yes rfl (a9 a0 (by unfold fE;rw[if_pos ar]))⟩
 rw[if_neg ar]at Z;obtain⟨a,n,c,rfl,b9,dd⟩:=Z;obtain⟨k,ws,ch⟩:∃k ws,bR 32 [] s=k::ws:=by
  cases h:bR 32 [] s with
  |nil=>exact absurd h c3
  |cons k ws=>exact⟨k,ws,rfl⟩
 have V:=EA ch;rw[ch]at b9 ar b7 b4;rw[if_neg ar]at V;have cp:∀x∈ws,x.length <=900000:=λx E=>by
  have:=b7 x (mem_cons_of_mem _ E);simp at this;omega
 have dg:ws.length <=900000:=by simp at b4;omega
 have a8:n=ws.length+1:=b9.len;have b8:=b9.all;have c1:Option.isSome a=true:=b8.isSome (i:=0) (by simp);refine⟨_,_,_,_,rfl,af.no rfl ?_⟩;refine⟨λp b w'=>∃ac,p=some ⟨ac,0,none⟩/\b=(dI k sr).isSome/\au w' ac bl [vI (rdN k),rdF k]/\bW H w',⟨⟨⟨by decide,by omega⟩,c1⟩,?_⟩,λp b=>aQ.of ?_ _⟩
 ·have dk:StR H (drew H) none none:=⟨cy H,λ_ h=>(by cases h),λ_ h=>(by cases h),λ_ _ h=>(by cases h),λ_ h=>(by cases h)⟩
  have bs:∀{u:World} {m x:Option Nat},StR H u m x->(Instr.loadAt ak (.pointer (av a (0:Int) 1))).run prog u=.ok (vS k) u:=λS=>Sl.str (b8.below S.b) rfl;have c8:∀{u:World} {x:Option Nat} {R:Ending->World->Prop},StR H u none x->(∀r u',StR H u' (some r) x->R (.returned (.map (some r))) u')->Cf dD #[] u R:=fun{u x R} S h=>aA (AB u) (by
   rintro _ u' ⟨r,rfl,de,m,e⟩;refine h r u' ⟨ae S.b e S.b.size,λc7 M=>?_,λy G=>(S.kk y G).below e,λc7 y M G=>?_,S.oo⟩
   ·rw[<- Option.some.inj M];exact m
   ·rw[<- Option.some.inj M];have:=(S.kk y G).lt;omega)
  have an:∀{u:World} {m:Option Nat} {R:Nat->World->Prop},StR H u m none->(∀x u',StR H u' m (some x)->R x u')->∀(x:Nat) (u':World),x=u.heap.size->u'=u.alloc (.cells #[vI 0,.nilFunc] bl)->R x u':=fun{u m R} S h x u' E q=>by
   have e:bW u u':=q▸ao u _;refine h x u' ⟨ae S.b e S.b.size,λr M=>(S.mm r M).below e,λy G=>?_,λr y M G=>?_,λy G=>?_⟩
   ·rw[<- Option.some.inj G];exact au.new E q
   ·rw[<- Option.some.inj G];have:=(S.mm r M).lt;omega
   ·rw[<- Option.some.inj G,E];exact S.b.size
  have c6:∀{u:World} {r:Nat} {x:Option Nat},StR H u (some r) x->(Instr.lookup aW (.map (some r)) (vS k) true).run prog u=.ok (.tuple #[.agg #[vI (rdN k),rdF k],.bool (dI k sr).isSome]) u:=λS=>Xf (S.mm _ rfl) k;have st:∀{u:World} {m:Option Nat} {x:Nat},StR H u m (some x)->∃wx,(Instr.storeAt bl (.pointer (some ⟨x,0,none⟩)) (.agg #[vI (rdN k),rdF k])).run prog u=.ok () wx/\∃ac,(some ⟨x,0,none⟩:Option Addr)=some ⟨ac,0,none⟩/\(dI k sr).isSome=(dI k sr).isSome/\au wx ac bl [vI (rdN k),rdF k]/\bW H wx:=fun{u m x} S=>by
   have c4:∀v∈[vI (rdN k),rdF k],v.oneCell'=true:=by
    intro v Z;simp at Z;rcases Z with rfl|rfl
    ·rfl
    ·unfold rdF;cases dI k sr<;>rfl
   obtain⟨wx,bq,O,b6⟩:=(S.kk x rfl).store (P:=prog) qM (i:=0) (v:=.agg #[vI (rdN k),rdF k]) rfl (by decide) c4;exact⟨wx,bq,x,rfl,rfl,O,Below.put S.b b6 (S.oo x rfl)⟩
  clear a9 b1 b2 V b7 b4 a0 ad
  repeat' (with_reducible first
   |exact st (by assumption)
   |refine And.intro ?_ ?_
   |refine⟨k,bs (by assumption),?_⟩
   |refine⟨_,_,_,c6 (by assumption),?_⟩
   |(refine c8 (by assumption) λ_ _ _=>⟨_,rfl,?_⟩)
   |(refine an (by assumption) λ_ _ _=>?_))
 ·rintro D ⟨ac,rfl,rfl,cc,b3⟩;have bb:=ae b2 b3 b2.size;have bj:=ae a0 b3 a0.size;refine jA (w:=D) (fO k ws.length=true) ?_ ?_
  ·refine af.of (λI=>?_) (λI=>?_)
   ·refine a9 bj ?_;rw[V,if_neg];intro h;rw[(LX h).1]at I;cases I
   ·have I:(dI k sr).isSome=true:=by simpa using I
    refine⟨rfl,_,cc.load1 bC rfl (i:=0) rfl,af.of (λX=>?_) (λX=>⟨rfl,?_⟩)⟩
    ·refine a9 bj ?_;rw[V,if_neg];intro h;have M:=(LX h).2;rw[a8,M,wrJ]at X;simp at X
    ·refine Vf I ?_;have X:(n:Int)=i64.wrap (rdN k+1):=by simpa using X
     have dc:0 <=rdN k/\rdN k <=4:=by
      unfold rdN;simp only[sr,dI];split
      ·decide
      split
      ·decide
      split
      ·decide
      split<;>decide
     rw[a8,wrJ]at X;exact X
  ·intro ck;rw[if_pos ck]at V;have al:=Vg k ws cp;have c5:Sl tS D Ds (bw a c 1 1) (n-1) (c-1) ws:=(b8.below b3).from (k:=1) 1 (by simp) rfl;refine⟨λb p w'=>∃aj,p=some ⟨aj,0,none⟩/\b=(iW k ws).2/\au w' aj aK (iW k ws).1.cells/\bW D w',⟨rfl,⟨by decide,by omega⟩,?_⟩,λb p=>aQ.of ?_ _⟩
   ·obtain⟨d,c9,ct⟩:=YN;have bs:∀{u:World},bW D u->(Instr.loadAt ci (.pointer (some ⟨ac,1,none⟩))).run prog u=.ok (rdF k) u:=λe=>(cc.below e).load1 c9 ct (i:=1) rfl;have b0:∀{u:World} {R:Ending->World->Prop},bW D u->(∀u',bW D u'->bW u u'->R (.returned (.tuple #[(iW k ws).1.v,.bool (iW k ws).2])) u')->qF prog (rdF k) #[.slice (bw a c 1 1) (n-1) (c-1)] u R:=λe h=>
     Xe ck (c5.below e) cp (b5.step (ae bb e bb.size)) λu' q=>h u' (ae e q e.size) q
    have bk:bW D (drew D):=cy D;have an:∀{u:World} {R:Nat->World->Prop},bW D u->(∀x u',au u' x aK ND.cells->D.heap.size <=x->bW D u'->R x u')->∀(x:Nat) (u':World),x=u.heap.size->u'=u.alloc (.cells eV aK)->R x u':=fun{u R} e h x u' E q=>
     h x u' (au.new E q) (by have:=e.size;omega) (ae e (q▸ao u _) e.size)
    have st:∀{u:World} {x:Nat},au u x aK ND.cells->D.heap.size <=x->bW D u->∃wx,(Instr.storeAt aK (.pointer (some ⟨x,0,none⟩)) (iW k ws).1.v).run prog u=.ok () wx/\∃aj,(some ⟨x,0,none⟩:Option Addr)=some ⟨aj,0,none⟩/\(iW k ws).2=(iW k ws).2/\au wx aj aK (iW k ws).1.cells/\bW D wx:=fun{u x} O E e=>by
     obtain⟨wx,bq,cu,b6⟩:=mh.store0 (OpR.len al) (OpR.one _) O gH;exact⟨wx,bq,x,rfl,rfl,cu,Below.put e b6 E⟩
    refine⟨⟨rdF k,bs bk,?_,?_⟩,?_⟩
    ·exact b0 bk λu' e _=>⟨_,_,rfl,an e λx cr O E ag=>st O E ag⟩
    ·exact an bk λx cr O E ag=>b0 ag λu' e q=>⟨_,_,rfl,st (O.below q) E e⟩
    ·exact an bk λx cr O E ag=>⟨rdF k,bs ag,b0 ag λu' e q=>⟨_,_,rfl,st (O.below q) E e⟩⟩
   ·rintro da ⟨aj,rfl,rfl,ce,cf⟩;have bc:=ae bb cf bb.size;have c0:=ae bj cf bj.size;have cb:∀(b:Bool),b=(fE s).isSome->∀ca:World,bW da ca->∃wx,(Instr.storeAt aK (.pointer (some ⟨k2,0,none⟩)) (iW k ws).1.v).run prog ca=.ok () wx/\∃U:Value,(aS aK (.pointer (some ⟨k2,0,none⟩))).run prog wx=.ok U wx/\X1 s w (.tuple #[U,.bool b]) wx:=λb e ca cl=>
     mh.fin (K:=λU wx=>X1 s w (.tuple #[U,.bool b]) wx) (cs:=(iW k ws).1.cells) (OpR.len al) (OpR.one _) ((b1.below c0).below cl) gH (ae bc cl bc.size) cj λwx G=>⟨⟨(iW k ws).1,by rw[e];rfl,al.fit,λp Y=>by
      rw[V]at Y;split at Y
      ·exact Option.some.inj Y
      ·cases Y⟩,G⟩
    refine⟨_,λu q=>mh.load0 (ce.below q) (OpR.len al),af.of (λI=>?_) (λI=>?_)⟩
    ·refine⟨_,λu q=>mh.load0 (ce.below q) (OpR.len al),jN (iW k ws).1,λu q=>?_,cb _ ?_⟩
     ·refine(FC al u (b5.step (ae bc q bc.size))).mono ?_;rintro _ u' ⟨_,rfl,rfl,e⟩;exact⟨rfl,e⟩
     ·rw[V,I,Bool.true_and];cases jN (iW k ws).1<;>rfl
    ·exact cb _ (by rw[V,I];rfl)
theorem OpW.fit (k:OpW o):o.fit:=⟨k.uo,k.ro⟩
theorem Xi (f:o.fit)(h:jN o=true):OpW o:=by
 obtain⟨h1,E⟩:=(Qn f).1 h;refine⟨f.uo,f.ro,?_⟩;have G:(Ce o).n <=9223372036854775807:=by
  unfold Ce;split
  ·exact(by decide:(0:Int) <=9223372036854775807)
  split
  ·exact(by decide:(0:Int) <=9223372036854775807)
  split
  ·rename_i e q D;unfold iq at h1;rw[if_neg e,if_neg q,if_pos D,Bool.and_eq_true,dTx,dTx]at h1;show o.n <=_;omega
  ·exact(by decide:(0:Int) <=9223372036854775807)
 rwa [<- E]at G
theorem LU {p:OpR}(h:fE s=some p):jN p=true:=by
 have E:=gT 32 s [];obtain⟨k,e,D⟩:∃k e,bR 32 [] s=k::e:=by
  cases h:bR 32 [] s with
  |nil=>exact absurd h E
  |cons k e=>exact⟨k,e,rfl⟩
 rw[EA D]at h;split at h
 ·cases h
 split at h
 ·split at h
  ·rename_i q;rw[<- Option.some.inj h];rw[Bool.and_eq_true]at q;exact q.2
  ·cases h
 ·cases h
def WN (x:Int×Int×Int):Value:=.agg #[vI x.1,vI x.2.1,vI x.2.2]
def Yk (x:Int×Int×Int):List Value:=[vI x.1,vI x.2.1,vI x.2.2]
theorem RJ (x:Int×Int×Int):BS (Yk x):=aY rfl (aY rfl (aY rfl fj))
theorem Ss (s:lU):∀x∈A0 s,x.length <=s.length:=by
 intro x q;unfold A0 at q;obtain⟨y,e,rfl⟩:=List.mem_map.1 q;have D:y∈bR 10 [] s:=by
  split at e
  ·exact List.dropLast_subset _ e
  ·exact e
 have:=ia 10 s [] y D;have:=Uo y;simp at*;omega
theorem Qi (f:lU->Option OpR)(i:Nat)(out:List OpR):qI f i [] out=(out,0,0,0):=rfl
theorem NG (f:lU->Option OpR)(x:lU)(r:List lU)(out:List OpR)(h:i=200):qI f i (x::r) out=([],53,(i:Int)+1,1):=by rw[qI,if_pos h]
theorem Qh {f:lU->Option OpR}{x:lU}(r:List lU)(out:List OpR)(h:i≠200)(e:f x=none):qI f i (x::r) out=([],131,(i:Int)+1,1):=by rw[qI,if_neg h,e]
theorem NH {f:lU->Option OpR}{x:lU}(r:List lU)(out:List OpR)(h:i≠200)(e:f x=some o):qI f i (x::r) out=qI f (i+1) r (out++[o]):=by rw[qI,if_neg h,e]
theorem Dr:Whl prog bO 3:=⟨⟨_,_,Mv⟩,by kernel_rfl⟩
theorem Xd {w0 w:World}{a:Option Addr}{n c:Nat}{xs:List OpR}(I:Ow tOp aK w NoB a n c xs)(H:bU w0.heap.size a)(G:bW w0 w){x:OpR}(o:OpW x)(M:xs.length <=1000000):
 ∃(E:World) (a1:Option Addr) (q e:Nat),(Instr.buildSlice eF 1 #[(0,x.v)]).run prog w=.ok (.slice a1 q e) E/\
  ∃(w2:World) (a':Option Addr) (D c':Nat),(Builtin.append_ #[eF,eF] eF #[.slice a n c,.slice a1 q e]).run prog E=.ok (.slice a' D c') w2/\
   Ow tOp aK w2 NoB a' D c' (xs++[x])/\bU w0.heap.size a'/\bW w0 w2:=
 ⟨_,_,_,_,Yt o w,Ch WM Bf Mw (by decide) I H G rfl rfl ⟨rfl,o⟩ (by omega)⟩
def ZB (s:lU)(w:World)(v:Value)(w':World):Prop:=∃a n c,v=.tuple #[.slice a n c,WN (A5 fE s).2]/\Ow tOp aK w' NoB a n c (A5 fE s).1/\bU w.heap.size a/\bW w w'
theorem WP {w w' D:World}{e:Nat}{vs:List Value}(M:au w' e bO vs)(Z:vs.length=3)(G:bW w D)(V:w.heap.size <=e)(ac:e<D.heap.size)(U:bW D w'){a:Option Addr}{n c:Nat}{out:List OpR}(X:Ow tOp aK w' NoB a n c out)(H:bU D.heap.size a)(x y z:Int)(E:A5 fE s=(out,x,y,z)):
 ∃wx:World,(Instr.storeAt bO (.pointer (some ⟨e,0,none⟩)) (.agg #[vI x,vI y,vI z])).run prog w'=.ok () wx/\
  ∃(p I r:Int),(aS bO (.pointer (some ⟨e,0,none⟩))).run prog wx=.ok (.agg #[vI p,vI I,vI r]) wx/\ZB s w (.tuple #[.slice a n c,.agg #[vI p,vI I,vI r]]) wx:=by
 obtain⟨wx,Y,O,q⟩:=Dr.store0 (cs:=Yk (x,y,z)) rfl (RJ _) M Z;have hB:=ae G U G.size;refine⟨wx,Y,x,y,z,au.res (Dr.load0 O rfl),a,n,c,by rw[E];rfl,?_,H.mono G.size,Below.put hB q V⟩;rw[E];exact X.put (λg q E=>by have:=H g q;omega) q
theorem FB (s:lU)(w:World)(an:Env w):Cf oB #[vS s] w (Ret (ZB s w)):=by
 apply CQ;intro k3 w3 b9 a0;have I:bW w w3:=a0▸ao w _;have ag:au w3 k3 bO (Yk (0,0,0)):=au.new b9 a0;have cb:w.heap.size <=k3:=by omega
 have ca:=ag.lt;have H:=fun{w':World} {a:Option Addr} {n c:Nat} {out:List OpR} (aj:bW w3 w') (cc:Ow tOp aK w' NoB a n c out) (b8:bU w3.heap.size a) (x y z:Int) V=>WP (s:=s) (ag.below aj) rfl I cb ca aj cc b8 x y z V;refine af.of (λac=>?_) (λac=>?_)<;>simp only[gt_iff_lt,dTx,dFx]at ac
 ·exact H (Below.refl _ _) (Ow.nil _ _ _ _) (bU.none _) 54 1 1 (by unfold A5;rw[if_pos (by omega)])
 refine aA (GK s (by omega) w3 (an.step I)) ?_;rintro _ bb ⟨b,ck,c1,rfl,a8,c2,X⟩;have b3:=Ss s;have b4:A5 fE s=qI fE 0 (A0 s) []:=by unfold A5;rw[if_neg (by omega)]
 generalize A0 s=L at*;have ar:=a8.all;have c6:ck=L.length:=a8.len;refine⟨_,_,_,rfl,λm a n c i w'=>∃(j:Nat) (out:List OpR),j <=L.length/\i=(j:Int)/\m=L.length-j/\out.length=j/\j <=200/\Ow tOp aK w' NoB a n c out/\bU bb.heap.size a/\bW bb w'/\A5 fE s=qI fE j (L.drop j) out,⟨_,0,[],Nat.zero_le _,rfl,rfl,rfl,by decide,Ow.nil _ _ _ _,bU.none _,Below.refl _ _,b4⟩,λm a n c i=>aQ.of ?_ _⟩;rintro cr ⟨j,out,c3,rfl,rfl,c7,c4,a9,ad,E,D⟩;have G:=ae X E X.size;refine af.of (λU=>?_) (λU=>?_)<;>simp only[dTx,dFx]at U
 ·have O:j<L.length:=by omega
  rw[drop_eq_getElem_cons O]at D;refine⟨⟨⟨by omega,U⟩,ar.isSome O⟩,L[j],Sl.str (ar.below E) (by rw[Int.toNat_natCast];exact List.getElem?_eq_getElem O),?_⟩;have bs:i64.wrap ((j:Int)+1)=(j:Int)+1:=wrJ
  try dsimp only
  rw[bs];refine af.of (λe=>?_) (λe=>?_)
  ·have e:j=200:=by simp at e;omega
   exact H G (Ow.nil _ _ _ _) (bU.none _) 53 _ 1 (by rw[D,NG _ _ _ _ e])
  ·have e:j≠200:=by simp at e;omega
   have b2:=ae I G I.size;have cf:L[j].length <=900000:=by have:=b3 _ (getElem_mem O);omega
   refine aA (CS L[j] cf cr (an.step b2)) ?_;rintro _ ct ⟨⟨o,rfl,of,ce⟩,M⟩;have al:=ae G M G.size;refine⟨_,_,rfl,mh.new (zs:=ND.cells) (cs:=o.cells) gH (OpR.len' of) (OpR.one _) ct λc8 c9 c5 b1 Y=>?_⟩;have b6:=ae al Y al.size;have b5:=ae (ae E M E.size) Y (ae E M E.size).size;refine af.of (λq=>?_) (λq=>?_)
   ·have q:fE L[j]=none:=by cases h:fE L[j]with
     |none=>rfl
     |some p=>rw[h]at q;cases q
    exact H b6 (Ow.nil _ _ _ _) (bU.none _) 131 _ 1 (by rw[D,Qh _ _ e q])
   ·obtain⟨p,Z⟩:∃p,fE L[j]=some p:=by cases h:fE L[j]with
     |none=>rw[h]at q;cases q
     |some p=>exact⟨p,rfl⟩
    have V:=ce p Z;subst V;refine⟨_,mh.load0 b1 (OpR.len' of),?_⟩;obtain⟨cu,bc,ch,bk,cn,c0,bj,cj,bq,cp,cl,b0,b7⟩:=Xd ((a9.below M).below Y) ad b5 (Xi of (LU Z)) (by omega);exact⟨cu,bc,ch,bk,cn,c0,bj,cj,bq,cp,L.length-(j+1),by omega,j+1,out++[o],by omega,by omega,rfl,by simp;omega,by omega,cl,b0,b7,by rw[D,NH _ _ e Z]⟩
 ·have:j=L.length:=by omega
  subst this;rw[List.drop_length,Qi]at D;exact H G a9 (ad.mono X.size) 0 0 0 D
structure Plc where
 name:lU
 host:Hst
 only:Bool
 path:lU
 hk:host.ok
instance:DecidableEq Hst:=λa b=>decidable_of_iff (a.kind=b.kind/\a.name=b.name/\a.ad=b.ad) (by cases a;cases b;simp)
instance:DecidableEq Plc:=λa b=>decidable_of_iff (a.name=b.name/\a.host=b.host/\a.only=b.only/\a.path=b.path) (by cases a;cases b;simp)
def Cky.plc (c:Cky)(o:c.ok):Plc:=⟨c.name,c.host,c.only,c.path,o⟩
structure Kpt where
 c:Cky
 site:lU
 ok:c.ok
def Kpt.plc (k:Kpt):Plc:=k.c.plc k.ok
structure ShI (L:List Kpt)(last:Int):Prop where
 up:L.Pairwise λa b=>a.c.seq<b.c.seq
 lo:∀k∈L,1 <=k.c.seq/\k.c.seq <=last
 key:L.Pairwise λa b=>a.plc≠b.plc
 l0:0 <=last
def atK (L:List Kpt)(p:Plc):Option Kpt:=L.find? λk=>decide (k.plc=p)
def rb (L:List Kpt)(last:Int)(c:Kpt):List Kpt×Int:=
 match atK L c.plc with
 |some o=>(L.map λk=>if k.plc=c.plc then⟨{ c.c with born:=o.c.born,seq:=o.c.seq },c.site,c.ok⟩ else k,last)
 |none=>(L++[⟨{ c.c with seq:=last+1 },c.site,c.ok⟩],last+1)
def eR (L:List Kpt)(p:Plc):List Kpt:=L.filter λk=> !decide (k.plc=p)
def H1 (L:List Kpt)(p:Plc)(now:Int):List Kpt:=L.map λk=>if k.plc=p then⟨{ k.c with used:=now },k.site,k.ok⟩ else k
def Ic (L:List Kpt)(now:Int):List Kpt:=L.filter λk=>decide (now<k.c.exp)
def jm (L:List Kpt)(s:lU):Nat:=L.countP λk=>decide (k.site=s)
def SP (of:Kpt->Bool):List Kpt->Option Kpt->Option Kpt
 |[],b=>b
 |k::r,b=>SP of r (if of k=true then(match b with|none=>some k|some x=>if k.c.used<x.c.used then some k else some x)else b)
def O2 (L:List Kpt)(of:Kpt->Bool):Option Kpt:=SP of L none
theorem lD {L:List Kpt}{p:Plc}{k:Kpt}(h:atK L p=some k):k∈L/\k.plc=p:=by
 unfold atK at h;exact⟨List.mem_of_find?_eq_some h,by simpa using List.find?_some h⟩
theorem py {L:List Kpt}{p:Plc}(h:atK L p=none):∀k∈L,k.plc≠p:=λk e=>by
 unfold atK at h;simpa using List.find?_eq_none.1 h k e
theorem ShI.nil:ShI [] 0:=⟨List.Pairwise.nil,(λk h=>by cases h),List.Pairwise.nil,Int.le_refl _⟩
theorem ShI.filter {L:List Kpt}(h:ShI L a)(p:Kpt->Bool):ShI (L.filter p) a:=
 ⟨h.up.filter p,λk e=>h.lo k (List.mem_filter.1 e).1,h.key.filter p,h.l0⟩
theorem ShI.use {L:List Kpt}{last:Int}(h:ShI L last)(p:Plc)(D:Int):ShI (H1 L p D) last:=by
 have e:∀k:Kpt,(if k.plc=p then(⟨{ k.c with used:=D },k.site,k.ok⟩:Kpt)else k).c.seq=k.c.seq/\(if k.plc=p then(⟨{ k.c with used:=D },k.site,k.ok⟩:Kpt)else k).plc=k.plc:=by
  intro k;split<;>exact⟨rfl,rfl⟩
 unfold H1;refine⟨?_,?_,?_,h.l0⟩
 ·rw[List.pairwise_map];exact h.up.imp fun{a b} q=>by rw[(e a).1,(e b).1];exact q
 ·intro k E;obtain⟨x,G,rfl⟩:=List.mem_map.1 E;rw[(e x).1];exact h.lo x G
 ·rw[List.pairwise_map];exact h.key.imp fun{a b} q=>by rw[(e a).2,(e b).2];exact q
theorem ShI.put {L:List Kpt}{last:Int}(h:ShI L last)(c:Kpt):ShI (rb L last c).1 (rb L last c).2:=by
 unfold rb;cases E:atK L c.plc with
 |none=>
  have Z:=py E;refine⟨?_,?_,?_,by have:=h.l0;show 0 <=last+1;omega⟩
  ·rw[List.pairwise_append];refine⟨h.up,List.pairwise_singleton _ _,λa H b D=>?_⟩;rw[List.mem_singleton.1 D];have:=(h.lo a H).2;show a.c.seq<last+1;omega
  ·intro k e;rcases List.mem_append.1 e with e|e
   ·have:=h.lo k e;exact⟨this.1,by show k.c.seq <=last+1;omega⟩
   ·rw[List.mem_singleton.1 e];have:=h.l0;exact⟨by show 1 <=last+1;omega,Int.le_refl _⟩
  ·rw[List.pairwise_append];refine⟨h.key,List.pairwise_singleton _ _,λa H b D=>?_⟩;rw[List.mem_singleton.1 D];exact Z a H
 |some o=>
  obtain⟨ac,ad⟩:=lD E;have one:∀k∈L,k.plc=c.plc->k.c.seq=o.c.seq:=λk e G=>by
   have:k=o:=by
    by_cases q:k=o
    ·exact q
    ·exact absurd (G.trans ad.symm) (by
      have:=h.key;rcases List.mem_iff_getElem.1 e with⟨i,O,rfl⟩
      rcases List.mem_iff_getElem.1 ac with⟨j,U,rfl⟩
      have Y:i≠j:=λx=>q (by subst x;rfl);have V:=List.pairwise_iff_getElem.1 h.key;rcases Nat.lt_or_gt_of_ne Y with M|M
      ·exact V i j O U M
      ·exact λx=>V j i U O M x.symm)
   rw[this]
  have q:∀k∈L,(if k.plc=c.plc then(⟨{ c.c with born:=o.c.born,seq:=o.c.seq },c.site,c.ok⟩:Kpt)else k).c.seq=k.c.seq/\(if k.plc=c.plc then(⟨{ c.c with born:=o.c.born,seq:=o.c.seq },c.site,c.ok⟩:Kpt)else k).plc=k.plc:=by
   intro k e;split
   ·rename_i G;exact⟨(one k e G).symm,G.symm⟩
   ·exact⟨rfl,rfl⟩
  refine⟨?_,?_,?_,h.l0⟩
  ·rw[List.pairwise_map];exact List.Pairwise.imp_of_mem (fun{a b} E D I=>by rw[(q a E).1,(q b D).1];exact I) h.up
  ·intro k e;obtain⟨x,X,rfl⟩:=List.mem_map.1 e;rw[(q x X).1];exact h.lo x X
  ·rw[List.pairwise_map];exact List.Pairwise.imp_of_mem (fun{a b} E D I=>by rw[(q a E).2,(q b D).2];exact I) h.key
structure AL (M:List (Plc×Kpt))(L:List Kpt):Prop where
 perm:(M.map (·.2)).Perm L
 own:∀q∈M,q.1=q.2.plc
theorem AL.nil:AL [] []:=⟨List.Perm.refl _,λq h=>by cases h⟩
theorem AL.keys {e:List (Plc×Kpt)}{L:List Kpt}(h:AL e L):(e.map (·.1)).Perm (L.map Kpt.plc):=by
 have q:e.map (·.1)=(e.map (·.2)).map Kpt.plc:=by
  rw[List.map_map];exact List.map_congr_left λE D=>h.own E D
 rw[q];exact h.perm.map _
theorem AL.nodup {e:List (Plc×Kpt)}{L:List Kpt}(h:AL e L)(s:ShI L a):(e.map (·.1)).Nodup:=by
 rw[h.keys.nodup_iff];have:=s.key;rw[List.Nodup,List.pairwise_map];exact this
theorem JM {α e:Type}[DecidableEq α]{k:α}{v:e} :∀{l:List (α×e)},dI k l=some v->(k,v)∈l
 |[],h=>by cases h
 |(k',D)::l,h=>by
  unfold dI at h;split at h
  ·rename_i q;subst q;cases h;exact mem_cons_self
  ·exact mem_cons_of_mem _ (JM h)
theorem Eu {α D:Type}[DecidableEq α]{k:α}{v:D} :∀{l:List (α×D)},(l.map (·.1)).Nodup->(k,v)∈l->dI k l=some v
 |[],_,h=>by cases h
 |(k',E)::l,q,h=>by
  rw[map_cons,List.nodup_cons]at q;unfold dI;rcases List.mem_cons.1 h with e|h
  ·cases e;rw[if_pos rfl]
  ·rw[if_neg,Eu q.2 h];intro e;exact q.1 (List.mem_map.2 ⟨(k,v),h,e⟩)
theorem AL.look {e:List (Plc×Kpt)}{L:List Kpt}(h:AL e L)(s:ShI L a)(p:Plc):dI p e=atK L p:=by
 cases D:atK L p with
 |some k=>
  obtain⟨I,O⟩:=lD D;obtain⟨H,G,q⟩:=List.mem_map.1 (h.perm.mem_iff.2 I);refine Eu (h.nodup s) ?_;have:H=(p,k):=Prod.ext ((h.own H G).trans (by rw[q,O])) q;rw[<- this];exact G
 |none=>
  cases M:dI p e with
  |none=>rfl
  |some v=>
   have E:=JM M;exact absurd (h.own _ E).symm (py D v (h.perm.mem_iff.1 (List.mem_map.2 ⟨_,E,rfl⟩)))
theorem AL.drop {q:List (Plc×Kpt)}{L:List Kpt}(h:AL q L)(p:Plc):AL (q.filter λe=> !decide (e.1=p)) (eR L p):=by
 refine⟨?_,λe D=>h.own e (List.mem_filter.1 D).1⟩;have E:(q.filter λe=> !decide (e.1=p)).map (·.2)=(q.map (·.2)).filter λk=> !decide (k.plc=p):=by
  rw[List.filter_map];congr 1;exact List.filter_congr λe D=>by rw[h.own e D];rfl
 rw[E];exact h.perm.filter _
open Go.ChangeMaps (setBlock)
section
variable {α β:Type} [DecidableEq α]
def ux (ek:α->Value)(ev:β->Value)(w:World)(r:Nat)(kvs:List (α×β)):Prop:=
 ∃es clock,w.heap[r]? =some (.map es clock)/\KVg ek ev es.toList kvs/\(es.toList.map (·.born)).Nodup/\∀e∈es.toList,e.born<clock
variable {ek:α->Value} {ev:β->Value}
theorem ux.g {r:Nat}{kvs:List (α×β)}(h:ux ek ev w r kvs):uR ek ev w r kvs:=by
 obtain⟨e,c,q,D,_⟩:=h;exact⟨e,c,q,D⟩
theorem ux.lt {r:Nat}{e:List (α×β)}(h:ux ek ev w r e):r<w.heap.size:=h.g.lt
theorem ux.keep {w w':World}{r:Nat}{kvs:List (α×β)}(h:ux ek ev w r kvs)(q:w'.heap[r]? =w.heap[r]?):ux ek ev w' r kvs:=by
 obtain⟨e,c,D,E⟩:=h;exact⟨e,c,q.trans D,E⟩
theorem ux.below {w w':World}{r:Nat}{kvs:List (α×β)}(h:ux ek ev w r kvs)(e:bW w w'):ux ek ev w' r kvs:=h.keep (e.block r h.lt)
theorem ux.grown {w w':World}{r:Nat}{kvs:List (α×β)}(h:ux ek ev w r kvs)(q:w.grownBy w' (some k))(D:r≠k):ux ek ev w' r kvs:=h.keep (q.block r h.lt λe=>D (Option.some.inj e))
theorem ux.new {w w':World}{r:Nat}(q:r=w.heap.size)(D:w'=w.alloc (.map #[] 0)):ux ek ev w' r []:=by
 subst q D;exact⟨#[],0,heap_alloc_new w _,rfl,List.nodup_nil,λE e=>by cases e⟩
theorem xS {γ δ:Type}(f:γ->δ):∀(l:List γ) (i:Nat),(l.eraseIdx i).map f=(l.map f).eraseIdx i
 |[],_=>rfl
 |x::l,0=>rfl
 |x::l,i+1=>by
  show f x::(l.eraseIdx i).map f=f x::(l.map f).eraseIdx i;rw[xS f l i]
def TZ (k:α)(kvs:List (α×β)):List (α×β):=match fD k kvs 0 with
 |some (i,_)=>kvs.eraseIdx i
 |none=>kvs
theorem Sm {e:List MapEntry}{q:List (α×β)}(h:KVg ek ev e q)(i:Nat):KVg ek ev (e.eraseIdx i) (q.eraseIdx i):=by
 unfold KVg at h ⊢;rw[xS,xS,h]
theorem Nw {e:List MapEntry}{q:List (α×β)}(h:KVg ek ev e q):e.length=q.length:=by
 have:=congrArg length h;simpa using this
theorem ur {r:Nat}{e:Array MapEntry}{c:Nat}(h:w.heap[r]? =some (.map e c))(o:Obj):(setObj r o).run P w=.ok () { w with heap:=w.heap.setIfInBounds r o } :=by
 simp only[setObj,Sem.run,h]
theorem r7 {r:Nat}(o:Obj):w.grownBy { w with heap:=w.heap.setIfInBounds r o } (some r):=
 ⟨rfl,rfl,rfl,by simp,λj D q=>by
  have:r≠j:=λe=>q (by rw[e]);simp[Array.getElem?_setIfInBounds_ne this]⟩
theorem ux.del {Y X ad:TypeId}(O:P.underlying Y=some (.map X ad))(D:qZ P X ek){r:Nat}{G:List (α×β)}(h:ux ek ev w r G)(k:α)(Z:Array TypeId)(t:TypeId)(V:Z[0]? =some Y):
 ∃w',(Builtin.delete_ Z t #[.map (some r),ek k]).run P w=.ok (.tuple #[]) w'/\ux ek ev w' r (TZ k G)/\w.grownBy w' (some r):=by
 obtain⟨q,c,e,E,U,H⟩:=h;have M:r<w.heap.size:=(Array.getElem?_eq_some_iff.1 e).1;unfold Builtin.delete_ TZ;cases I:fD k G 0 with
 |none=>
  refine⟨_,?_,⟨q,c,?_,E,U,H⟩,r7 (.map q c)⟩
  ·simp only[V,List.getElem?_toArray,List.getElem?_cons_zero,List.getElem?_cons_succ,Sem.run_bind,bQ O,Result.andThen_ok,qo e,D.check,D.find ev k _ _ _ E,I,Option.map_none,ur e,Sem.run_pure]
  ·simp[M]
 |some p=>
  obtain⟨i,v⟩:=p;refine⟨_,?_,⟨q.eraseIdxIfInBounds i,c,?_,?_,?_,?_⟩,r7 (.map (q.eraseIdxIfInBounds i) c)⟩
  ·simp only[V,List.getElem?_toArray,List.getElem?_cons_zero,List.getElem?_cons_succ,Sem.run_bind,bQ O,Result.andThen_ok,qo e,D.check,D.find ev k _ _ _ E,I,map_some,ur e,Sem.run_pure]
  ·simp[M]
  ·rw[Array.toList_eraseIdxIfInBounds];exact Sm E i
  ·rw[Array.toList_eraseIdxIfInBounds,xS];exact U.sublist (List.eraseIdx_sublist _ _)
  ·rw[Array.toList_eraseIdxIfInBounds];exact λac ag=>H ac (List.mem_of_mem_eraseIdx ag)
def upG (k:α)(v:β)(kvs:List (α×β)):List (α×β):=match fD k kvs 0 with
 |some (i,_)=>kvs.set i (k,v)
 |none=>kvs++[(k,v)]
theorem oZ (k:α):∀(l:List (α×β)) (i j:Nat) (v:β),fD k l i=some (j,v)->i <=j/\l[j-i]? =some (k,v)
 |[],i,j,v,h=>by cases h
 |(k',D)::l,i,j,v,h=>by
  unfold fD at h;split at h
  ·rename_i e;subst e;cases h;exact⟨Nat.le_refl _,by rw[Nat.sub_self];rfl⟩
  ·obtain⟨h1,q⟩:=oZ k l (i+1) j v h;refine⟨by omega,?_⟩;rw[show j-i=(j-(i+1))+1 by omega,List.getElem?_cons_succ];exact q
theorem Qa {E:List MapEntry}{G:List (α×β)}(h:KVg ek ev E G){k:α}{v X:β}(H:G[i]? =some (k,X))(f:MapEntry->MapEntry)(O:∀q,q.key=ek k->(f q).key=ek k/\(f q).val=ev v):KVg ek ev (E.modify i f) (G.set i (k,v)):=by
 unfold KVg at h ⊢;apply List.ext_getElem?;intro j;have e:=congrArg (λl=>l[j]?) h;simp only[List.getElem?_map]at e ⊢;rw[List.getElem?_modify,List.getElem?_set];by_cases q:i=j
 ·subst q;rw[if_pos rfl];rw[H]at e;cases D:E[i]? with
  |none=>rw[D]at e;cases e
  |some x=>
   rw[D]at e;have V:x.key=ek k:=congrArg Prod.fst (Option.some.inj e);obtain⟨I,M⟩:=O x V;have U:i<G.length:=(List.getElem?_eq_some_iff.1 H).1;rw[if_pos U];simp[I,M]
 ·rw[if_neg q];cases D:E[j]? with
  |none=>rw[D]at e;simpa using e
  |some x=>rw[D]at e;simpa[q]using e
theorem DG (q:List MapEntry)(i:Nat)(f:MapEntry->MapEntry)(D:∀e,(f e).born=e.born):(q.modify i f).map (·.born)=q.map (·.born):=by
 apply List.ext_getElem?;intro j;rw[List.getElem?_map,List.getElem?_map,List.getElem?_modify];cases q[j]? with
 |none=>rfl
 |some x=>by_cases e:i=j<;>simp[e,D]
theorem Wt {q D:List MapEntry}{c:Nat}(h:∀e∈q,e.born<c)(E:D.map (·.born)=q.map (·.born)):∀e∈D,e.born<c:=λe G=>by
 have:e.born∈q.map (·.born):=by rw[<- E];exact List.mem_map.2 ⟨e,G,rfl⟩
 obtain⟨x,H,I⟩:=List.mem_map.1 this;rw[<- I];exact h x H
theorem stays {v:Value}(h:Instr.sameBits 10000 v v=true)(w:World):(Instr.keyThatStays v v).run P w=.ok v w:=by
 unfold Instr.keyThatStays;rw[if_pos h];rfl
theorem ux.up {ac Z ad:TypeId}(X:P.underlying ac=some (.map Z ad))(H:qZ P Z ek)(an:∀k,Instr.sameBits 10000 (ek k) (ek k)=true){r:Nat}{I:List (α×β)}(h:ux ek ev w r I)(k:α)(v:β):
 ∃w',(Instr.mapUpdate ac (.map (some r)) (ek k) (ev v)).run P w=.ok () w'/\ux ek ev w' r (upG k v I)/\w.grownBy w' (some r):=by
 obtain⟨D,c,G,E,Y,O⟩:=h;have V:r<w.heap.size:=(Array.getElem?_eq_some_iff.1 G).1;unfold Instr.mapUpdate upG;cases U:fD k I 0 with
 |none=>
  refine⟨_,?_,⟨D.push { key:=ek k,val:=ev v,born:=c },c+1,?_,?_,?_,?_⟩,r7 (.map (D.push { key:=ek k,val:=ev v,born:=c }) (c+1))⟩
  ·simp only[Sem.run_bind,bQ X,Result.andThen_ok,qo G,H.check,H.find ev k _ _ _ E,U,Option.map_none,ur G]
  ·simp[V]
  ·unfold KVg at E ⊢;simp only[Array.toList_push,map_append,map_cons,map_nil,E]
  ·rw[Array.toList_push,map_append,List.nodup_append];refine⟨Y,by simp,λa ag b aj=>?_⟩;obtain⟨e,q,rfl⟩:=List.mem_map.1 ag;simp only[map_cons,map_nil,mem_singleton]at aj;have:=O e q;omega
  ·intro e q;rw[Array.toList_push]at q;rcases List.mem_append.1 q with q|q
   ·have:=O e q;omega
   ·rw[List.mem_singleton.1 q];exact Nat.lt_succ_self _
 |some p=>
  obtain⟨i,ar⟩:=p;obtain⟨_,M⟩:=oZ k I 0 i ar U;rw[Nat.sub_zero]at M;have al:((D[i]?).map (·.key)).getD (ek k)=ek k:=by
   have:=congrArg (λl=>l[i]?) E;simp only[List.getElem?_map,M,Array.getElem?_toList]at this;cases q:D[i]? with
   |none=>rfl
   |some x=>
    rw[q]at this;exact congrArg Prod.fst (Option.some.inj this)
  refine⟨_,?_,⟨D.modify i (λe=> { e with key:=ek k,val:=ev v }),c,?_,?_,?_,?_⟩,r7 (.map (D.modify i λe=> { e with key:=ek k,val:=ev v }) c)⟩
  ·simp only[Sem.run_bind,bQ X,Result.andThen_ok,qo G,H.check,H.find ev k _ _ _ E,U,map_some,al,stays (an k),ur G]
  ·simp[V]
  ·rw[Array.toList_modify];exact Qa E M _ λe _=>⟨rfl,rfl⟩
  ·rw[Array.toList_modify,DG D.toList i (λe=> { e with key:=ek k,val:=ev v }) (λe=>rfl)];exact Y
  ·rw[Array.toList_modify];exact Wt O (DG D.toList i (λe=> { e with key:=ek k,val:=ev v }) (λe=>rfl))
def gC (ek:α->Value)(ev:β->Value)(w:World)(r m:Nat)(kvs left:List (α×β)):Prop:=
 ∃since seen c0 es clock,w.heap[r]? =some (.mapIter (some m) since seen c0)/\w.heap[m]? =some (.map es clock)/\KVg ek ev es.toList kvs/\(es.toList.map (·.born)).Nodup/\(∀e∈es.toList,e.born<clock)/\(∀e∈es.toList,e.born<since)/\since <=c0/\since <=clock/\KVg ek ev (leftOf es seen).toList left
theorem gC.map {r m:Nat}{kvs left:List (α×β)}(h:gC ek ev w r m kvs left):ux ek ev w m kvs:=by
 obtain⟨_,_,_,e,c,_,q,D,E,G,_⟩:=h;exact⟨e,c,q,D,E,G⟩
theorem gC.keep {w w':World}{r m:Nat}{e left:List (α×β)}(h:gC ek ev w r m e left)(H:w'.heap[r]? =w.heap[r]?)(G:w'.heap[m]? =w.heap[m]?):gC ek ev w' r m e left:=by
 obtain⟨a,b,c,d,q,h1,D,E⟩:=h;exact⟨a,b,c,d,q,H.trans h1,G.trans D,E⟩
theorem gC.lt {r m:Nat}{e left:List (α×β)}(h:gC ek ev w r m e left):r<w.heap.size:=by
 obtain⟨_,_,_,_,_,h1,_⟩:=h;exact(Array.getElem?_eq_some_iff.1 h1).1
theorem gC.below {w w':World}{r m:Nat}{q left:List (α×β)}(h:gC ek ev w r m q left)(e:bW w w'):gC ek ev w' r m q left:=h.keep (e.block r h.lt) (e.block m h.map.lt)
theorem yp {G O H:TypeId}(I:P.underlying G=some (.map O H)){q:List (α×β)}(h:ux ek ev w m q):
 ∃w',(Instr.range G (.map (some m))).run P w=.ok (.pointer (some ⟨w.heap.size,0,none⟩)) w'/\gC ek ev w' w.heap.size m q q/\bW w w':=by
 obtain⟨es,c,e,E,M,D⟩:=h;refine⟨w.alloc (.mapIter (some m) c #[] c),?_,⟨c,#[],c,es,c,heap_alloc_new w _,?_,E,M,D,D,Nat.le_refl _,Nat.le_refl _,?_⟩,ao w _⟩
 ·unfold Instr.range;simp only[Sem.run_bind,bQ I,Result.andThen_ok,qo e,Sem.run_pure];rfl
 ·exact((ao w _).block m (Array.getElem?_eq_some_iff.1 e).1).trans e
 ·have:leftOf es #[]=es:=by
   unfold leftOf;rw[Array.filter_eq_self];intro U V;simp
  rw[this];exact E
theorem filter_one {G:Type}(f:G->Nat):∀(l:List G) (e:G),(l.map f).Nodup->e∈l->∃D E,l=D++e::E/\l.filter (λx=> !decide (f x=f e))=D++E
 |[],e,_,h=>by cases h
 |x::l,e,q,h=>by
  rw[map_cons,List.nodup_cons]at q;rcases List.mem_cons.1 h with rfl|h
  ·refine⟨[],l,rfl,?_⟩;rw[filter_cons,if_neg (by simp),nil_append,List.filter_eq_self];intro y I;have:f y≠f e:=λc=>q.1 (List.mem_map.2 ⟨y,I,c⟩);simp[this]
  ·obtain⟨D,E,h1,H⟩:=filter_one f l e q.2 h;refine⟨x::D,E,by rw[h1];rfl,?_⟩;have:f x≠f e:=λc=>q.1 (List.mem_map.2 ⟨e,h,c.symm⟩);rw[filter_cons,if_pos (by simp[this]),H];rfl
theorem gC.step {r m:Nat}{bb left:List (α×β)}(h:gC ek ev w r m bb left)(b4:r≠m)(ty:TypeId):
 (left=[]/\(Instr.next (.pointer (some ⟨r,0,none⟩)) false ty).run P w=.ok (.tuple #[.bool false]) w)\/
 ∃U k v V w',left=U++(k,v)::V/\(Instr.next (.pointer (some ⟨r,0,none⟩)) false ty).run P w=.ok (.tuple #[.bool true,ek k,ev v]) w'/\gC ek ev w' r m bb (U++V)/\(Instr.entry (.pointer (some ⟨r,0,none⟩))).run P w'=.ok (.tuple #[ek k,ev v]) w'/\w.grownBy w' (some r):=by
 obtain⟨D,seen,bc,q,clock,aj,ag,b2,M,bs,al,ca,a0,ad⟩:=h;rcases run_next_at (P:=P) w ty r m D bc seen q clock aj ag al ca with⟨bq,O⟩|⟨e,Y,H,a9,O⟩
 ·refine .inl ⟨?_,O⟩;have:=Nw ad;rw[Array.length_toList,bq]at this;exact List.eq_nil_of_length_eq_zero this.symm
 ·refine .inr ?_;have b9:r<w.heap.size:=(Array.getElem?_eq_some_iff.1 aj).1;have Z:H.heap=w.heap:=by rcases a9 with rfl|rfl<;>rfl
  have b0:=mem_left Y;have b3:(leftOf q (seen.push e.born)).toList=(leftOf q seen).toList.filter λx=> !decide (x.born=e.born):=by
   unfold leftOf;rw[Array.toList_filter,Array.toList_filter,List.filter_filter];exact List.filter_congr λx cc=>by
    rw[Bool.eq_iff_iff];simp[Array.mem_push,and_comm]
  have b6:((leftOf q seen).toList.map (·.born)).Nodup:=by
   unfold leftOf;rw[Array.toList_filter];exact M.sublist ((List.filter_sublist).map _)
  obtain⟨U,V,bj,bk⟩:=filter_one (·.born) _ e b6 Y;have I:=ad;unfold KVg at I;rw[bj,map_append,map_cons]at I;obtain⟨cb,X,b7,b8,G⟩:=List.map_eq_append_iff.1 I.symm;cases X with
  |nil=>cases G
  |cons p X=>
   obtain⟨k,v⟩:=p;rw[map_cons,List.cons.injEq]at G;have ac:e.key=ek k:=(congrArg Prod.fst G.1).symm;have a8:e.val=ev v:=(congrArg Prod.snd G.1).symm;have an:(setBlock H r (.mapIter (some m) D (seen.push e.born) clock)).heap[r]? =some (.mapIter (some m) D (seen.push e.born) clock):=by
    unfold setBlock;simp[Z,b9]
   have ar:(setBlock H r (.mapIter (some m) D (seen.push e.born) clock)).heap[m]? =some (.map q clock):=by
    unfold setBlock;simp only[Z];rw[Array.getElem?_setIfInBounds_ne b4];exact ag
   refine⟨cb,k,v,X,setBlock H r (.mapIter (some m) D (seen.push e.born) clock),b7,?_,⟨D,seen.push e.born,clock,q,clock,an,ar,b2,M,bs,al,a0,a0,?_⟩,?_,?_⟩
   ·rw[<- ac,<- a8];exact O
   ·unfold KVg;rw[b3,bk,map_append,map_append,b8,G.2]
   ·rw[<- ac,<- a8];exact run_entry_at _ r m D seen q clock e an ar b0.1 M
   ·rcases a9 with rfl|rfl
    ·exact r7 _
    ·have E:=cy w;refine⟨E.os,E.tape,E.output,?_,λj b1 b5=>?_⟩
     ·have:=E.size;show _ <=(Array.setIfInBounds _ _ _).size;rw[Array.size_setIfInBounds];exact this
     ·have:r≠j:=λc=>b5 (by rw[c]);show(Array.setIfInBounds _ _ _)[j]? =_;rw[Array.getElem?_setIfInBounds_ne this];exact E.block j b1
end
section
variable {α β:Type} [DecidableEq α]
theorem Et {k:α} :∀{l:List (α×β)} {i:Nat},fD k l i=none->∀q∈l,q.1≠k
 |[],_,_,q,e=>by cases e
 |(k',E)::l,i,h,q,e=>by
  unfold fD at h;split at h
  ·cases h
  ·rename_i D;rcases List.mem_cons.1 e with rfl|e
   ·exact λx=>D x.symm
   ·exact Et h q e
theorem wH {k:α} :∀{l:List (α×β)},(l.map (·.1)).Nodup->TZ k l=l.filter λe=> !decide (e.1=k):=by
 intro l G;unfold TZ;cases E:fD k l 0 with
 |none=>
  rw[List.filter_eq_self.2];intro e q;simpa using Et E e q
 |some p=>
  obtain⟨i,v⟩:=p;obtain⟨_,D⟩:=oZ k l 0 i v E;rw[Nat.sub_zero]at D;obtain⟨M,I⟩:=List.getElem?_eq_some_iff.1 D;have H:l=l.take i++(k,v)::l.drop (i+1):=by
   conv=>lhs;rw[<- take_append_drop i l,drop_eq_getElem_cons M,I]
  show l.eraseIdx i=_;rw[List.eraseIdx_eq_take_drop_succ]
  conv=>rhs;rw[H]
  rw[H,map_append,map_cons,List.nodup_append,List.nodup_cons]at G;obtain⟨V,⟨O,X⟩,U⟩:=G;rw[List.filter_append,filter_cons,if_neg (by simp)];congr 1
  ·rw[List.filter_eq_self.2]
   ·intro e q;have:=U e.1 (List.mem_map.2 ⟨e,q,rfl⟩) k (mem_cons_self ..);simpa using this
  ·rw[List.filter_eq_self.2];intro e q;have:e.1≠k:=λc=>O (List.mem_map.2 ⟨e,q,c⟩);simpa using this
theorem A2 {k k':α} :∀{l:List (α×β)},dI k' (l.filter λG=> !decide (G.1=k))=if k'=k then none else dI k' l
 |[]=>by split<;>rfl
 |(x,v)::l=>by
  have E:=A2 (k:=k) (k':=k') (l:=l);rw[filter_cons];by_cases D:x=k
  ·subst D;rw[if_neg (by simp),E];by_cases e:k'=x
   ·rw[if_pos e,if_pos e]
   ·rw[if_neg e,if_neg e];show _=(if k'=x then _ else _)
    rw[if_neg e]
  ·rw[if_pos (by simpa using D)];show(if k'=x then some v else dI k' _)=_;by_cases e:k'=x
   ·rw[if_pos e];rw[if_neg (λc=>D (e.symm.trans c))];show _=(if k'=x then some v else _)
    rw[if_pos e]
   ·rw[if_neg e,E];by_cases q:k'=k
    ·rw[if_pos q,if_pos q]
    ·rw[if_neg q,if_neg q];show _=(if k'=x then some v else _)
     rw[if_neg e]
theorem LK {k k':α}{v:β} :∀{l:List (α×β)} {i j:Nat} {D:β},fD k l i=some (j,D)->dI k' (l.set (j-i) (k,v))=if k'=k then some v else dI k' l
 |[],_,_,_,h=>by cases h
 |(x,y)::l,i,j,D,h=>by
  unfold fD at h;split at h
  ·rename_i q;subst q;cases h;rw[Nat.sub_self,List.set_cons_zero];show(if k'=k then some v else dI k' l)=if k'=k then some v else(if k'=k then some y else dI k' l);split<;>rfl
  ·rename_i q;have G:=(oZ k l (i+1) j D h).1;have E:=LK (k':=k') (v:=v) h;rw[show j-i=(j-(i+1))+1 by omega,List.set_cons_succ];show(if k'=x then some y else dI k' _)=if k'=k then some v else(if k'=x then some y else dI k' l);by_cases e:k'=x
   ·rw[if_pos e,if_pos e,if_neg (λc=>q (c.symm.trans e))]
   ·rw[if_neg e,if_neg e,E]
theorem Dc {k k':α}{v:β}{l:List (α×β)} :dI k' (upG k v l)=if k'=k then some v else dI k' l:=by
 unfold upG;cases q:fD k l 0 with
 |none=>
  show dI k' (l++[(k,v)])=_;rw[yb];by_cases e:k'=k
  ·subst e;have:dI k' l=none:=by rw[<- xg k' l 0,q];rfl
   rw[this,if_pos rfl];rfl
  ·rw[if_neg e,if_neg e];cases dI k' l<;>rfl
 |some p=>
  obtain⟨j,D⟩:=p;have:=LK (k':=k') (v:=v) q;rw[Nat.sub_zero]at this;exact this
theorem UQ {k:α}{v:β}{l:List (α×β)}{D:β}(h:fD k l 0=some (j,D)):(l.set j (k,v)).map (·.1)=l.map (·.1):=by
 obtain⟨_,e⟩:=oZ k l 0 j D h;rw[Nat.sub_zero]at e;obtain⟨E,G⟩:=List.getElem?_eq_some_iff.1 e;rw[List.map_set];apply List.ext_getElem?;intro i;rw[List.getElem?_set];by_cases q:j=i
 ·subst q;rw[if_pos rfl,if_pos (by simpa using E),List.getElem?_map,e];rfl
 ·rw[if_neg q]
theorem Dn {k:α}{v:β}{l:List (α×β)}(h:(l.map (·.1)).Nodup):((upG k v l).map (·.1)).Nodup:=by
 unfold upG;cases q:fD k l 0 with
 |none=>
  show((l++[(k,v)]).map (·.1)).Nodup;rw[map_append,List.nodup_append];refine⟨h,by simp,λa D b e=>?_⟩;obtain⟨G,E,rfl⟩:=List.mem_map.1 D;simp only[map_cons,map_nil,mem_singleton]at e;rw[e];exact Et q G E
 |some p=>
  obtain⟨j,H⟩:=p;show((l.set j (k,v)).map (·.1)).Nodup;rw[UQ q];exact h
theorem Rk {k:α}{l:List (α×β)}(h:(l.map (·.1)).Nodup):((TZ k l).map (·.1)).Nodup:=by
 rw[wH h];exact h.sublist ((List.filter_sublist).map _)
theorem Sz {k k':α}{l:List (α×β)}(h:(l.map (·.1)).Nodup):dI k' (TZ k l)=if k'=k then none else dI k' l:=by
 rw[wH h];exact A2
end
structure Gq (S:List (lU×Int))(L:List Kpt):Prop where
 nd:(S.map (·.1)).Nodup
 look:∀s,dI s S=if jm L s=0 then none else some ((jm L s:Nat):Int)
theorem Gq.nil:Gq [] []:=⟨List.nodup_nil,λs=>rfl⟩
theorem Gq.val {S:List (lU×Int)}{L:List Kpt}(h:Gq S L)(s:lU):(dI s S).getD 0=((jm L s:Nat):Int):=by
 rw[h.look s];split
 ·rename_i e;rw[e];rfl
 ·rfl
theorem Gq.perm {S:List (lU×Int)}{L L':List Kpt}(h:Gq S L)(e:∀s,jm L' s=jm L s):Gq S L':=⟨h.nd,λs=>by rw[e,h.look s]⟩
theorem Gq.inc {S:List (lU×Int)}{L L':List Kpt}(h:Gq S L){t:lU}(q:∀s,jm L' s=jm L s+if s=t then 1 else 0):Gq (upG t (((jm L t:Nat):Int)+1) S) L':=by
 refine⟨Dn h.nd,λs=>?_⟩;rw[Dc,q s];by_cases e:s=t
 ·subst e;rw[if_pos rfl,if_pos rfl,if_neg (by omega)];congr 1
 ·rw[if_neg e,if_neg e,h.look s];rfl
theorem Gq.dec {S:List (lU×Int)}{L L':List Kpt}(h:Gq S L){t:lU}(q:∀s,jm L s=jm L' s+if s=t then 1 else 0)(D:jm L' t≠0):Gq (upG t (((jm L t:Nat):Int)-1) S) L':=by
 refine⟨Dn h.nd,λs=>?_⟩;rw[Dc];by_cases e:s=t
 ·subst e;have:=q s;rw[if_pos rfl]at this;rw[if_pos rfl,if_neg D,this];congr 1;omega
 ·have:=q s;rw[if_neg e]at this;rw[if_neg e,h.look s,this];rfl
theorem Gq.last {S:List (lU×Int)}{L L':List Kpt}(h:Gq S L){t:lU}(D:∀s,jm L s=jm L' s+if s=t then 1 else 0)(q:jm L' t=0)(v:Int):Gq (TZ t (upG t v S)) L':=by
 refine⟨Rk (Dn h.nd),λs=>?_⟩;rw[Sz (Dn h.nd),Dc];by_cases e:s=t
 ·subst e;rw[if_pos rfl,if_pos q]
 ·have:=D s;rw[if_neg e]at this;rw[if_neg e,if_neg e,h.look s,this];rfl
theorem ShI.one {L:List Kpt}{last:Int}(h:ShI L last){a b:Kpt}(H:a∈L)(I:b∈L)(q:a.plc=b.plc):a=b:=by
 rcases List.mem_iff_getElem.1 H with⟨i,D,rfl⟩
 rcases List.mem_iff_getElem.1 I with⟨j,E,rfl⟩
 have G:=List.pairwise_iff_getElem.1 h.key;rcases Nat.lt_trichotomy i j with e|e|e
 ·exact absurd q (G i j D E e)
 ·subst e;rfl
 ·exact absurd q.symm (G j i E D e)
theorem ShI.seq {L:List Kpt}{last:Int}(h:ShI L last){a b:Kpt}(G:a∈L)(H:b∈L)(I:a.c.seq=b.c.seq):a=b:=by
 rcases List.mem_iff_getElem.1 G with⟨i,q,rfl⟩
 rcases List.mem_iff_getElem.1 H with⟨j,D,rfl⟩
 have E:=List.pairwise_iff_getElem.1 h.up;rcases Nat.lt_trichotomy i j with e|e|e
 ·have:=E i j q D e;omega
 ·subst e;rfl
 ·have:=E j i D q e;omega
theorem AL.new {e:List (Plc×Kpt)}{L:List Kpt}(h:AL e L){k:Kpt}(H:atK L k.plc=none):AL (upG k.plc k e) (L++[k]):=by
 have G:dI k.plc e=none:=by
  cases I:dI k.plc e with
  |none=>rfl
  |some v=>
   have D:=JM I;exact absurd (h.own _ D).symm (py H v (h.perm.mem_iff.1 (List.mem_map.2 ⟨_,D,rfl⟩)))
 have E:fD k.plc e 0=none:=by
  have:=xg k.plc e 0;rw[G]at this;simpa using this
 unfold upG;rw[E];refine⟨?_,λM q=>?_⟩
 ·show((e++[(k.plc,k)]).map (·.2)).Perm _;rw[map_append];exact h.perm.append (List.Perm.refl _)
 ·rcases List.mem_append.1 q with q|q
  ·exact h.own M q
  ·rw[List.mem_singleton.1 q]
theorem AL.over {e:List (Plc×Kpt)}{L:List Kpt}(h:AL e L)(s:ShI L a){k o:Kpt}(ac:atK L k.plc=some o):AL (upG k.plc k e) (L.map λx=>if x.plc=k.plc then k else x):=by
 have V:=h.look s k.plc;rw[ac]at V;have ag:=h.nodup s;cases H:fD k.plc e 0 with
 |none=>
  have:=xg k.plc e 0;rw[H,V]at this;cases this
 |some p=>
  obtain⟨j,al⟩:=p;obtain⟨_,E⟩:=oZ k.plc e 0 j al H;rw[Nat.sub_zero]at E;obtain⟨D,ad⟩:=List.getElem?_eq_some_iff.1 E;have Y:upG k.plc k e=e.map λq=>if q.1=k.plc then(k.plc,k)else q:=by
   unfold upG;rw[H];show e.set j (k.plc,k)=_;apply List.ext_getElem?;intro i;rw[List.getElem?_set,List.getElem?_map];by_cases c:j=i
   ·subst c;rw[if_pos rfl,if_pos D,E];simp
   ·rw[if_neg c];cases O:e[i]? with
    |none=>rfl
    |some q=>
     have:q.1≠k.plc:=λx=>by
      obtain⟨I,aj⟩:=List.getElem?_eq_some_iff.1 O;have X:=List.pairwise_iff_getElem.1 ag;have h1:(e.map (·.1))[j]'(by simpa using D)=k.plc:=by simp[ad]
      have U:(e.map (·.1))[i]'(by simpa using I)=k.plc:=by simp[aj,x]
      rcases Nat.lt_or_gt_of_ne c with G|G
      ·exact X j i (by simpa using D) (by simpa using I) G (h1.trans U.symm)
      ·exact X i j (by simpa using I) (by simpa using D) G (U.trans h1.symm)
     simp[this]
  rw[Y];refine⟨?_,λq M=>?_⟩
  ·have Z:(e.map λq=>if q.1=k.plc then(k.plc,k)else q).map (·.2)=(e.map (·.2)).map λx=>if x.plc=k.plc then k else x:=by
    rw[List.map_map,List.map_map];exact List.map_congr_left λq M=>by
     have:=h.own q M;show(if q.1=k.plc then(k.plc,k)else q).2=if q.2.plc=k.plc then k else q.2;rw[this];split<;>rfl
   rw[Z];exact h.perm.map _
  ·obtain⟨x,O,rfl⟩:=List.mem_map.1 M;split
   ·rfl
   ·exact h.own x O
def before (x y:Kpt):Prop:=x.c.used<y.c.used\/(x.c.used=y.c.used/\x.c.seq <=y.c.seq)
def uw (of:Kpt->Bool)(L:List Kpt)(o:Option Kpt):Prop:=match o with
 |none=>∀k∈L,of k=false
 |some x=>x∈L/\of x=true/\∀k∈L,of k=true->before x k
theorem DF (x:Kpt):before x x:=.inr ⟨rfl,Int.le_refl _⟩
theorem uw.perm {of:Kpt->Bool}{L D:List Kpt}{o:Option Kpt}(h:uw of L o)(q:L.Perm D):uw of D o:=by
 cases o with
 |none=>exact λk e=>h k (q.mem_iff.2 e)
 |some x=>exact⟨q.mem_iff.1 h.1,h.2.1,λk e=>h.2.2 k (q.mem_iff.2 e)⟩
theorem uw.one {of:Kpt->Bool}{L:List Kpt}(s:ShI L a){o p:Option Kpt}(h:uw of L o)(k:uw of L p):o=p:=by
 cases o with
 |none=>
  cases p with
  |none=>rfl
  |some y=>have:=h y k.1;rw[k.2.1]at this;cases this
 |some x=>
  cases p with
  |none=>have:=k x h.1;rw[h.2.1]at this;cases this
  |some y=>
   have h1:=h.2.2 y k.1 k.2.1;have e:=k.2.2 x h.1 h.2.1;have:x=y:=s.seq h.1 k.1 (by unfold before at h1 e;omega);rw[this]
def lZ (o:Option Kpt)(x:Kpt):Bool:=match o with
 |none=>true
 |some y=>decide (x.c.used<y.c.used) || (decide (x.c.used=y.c.used)&&decide (x.c.seq<y.c.seq))
theorem uw.step {of:Kpt->Bool}{L:List Kpt}{o:Option Kpt}(h:uw of L o)(k:Kpt):
 uw of (L++[k]) (bif of k&&lZ o k then some k else o):=by
 cases o with
 |none=>
  have H:(bif of k&&lZ none k then some k else none)=(bif of k then some k else none):=by unfold lZ;rw[Bool.and_true]
  rw[H];cases G:of k with
  |true=>
   refine⟨by simp,G,λy e D=>?_⟩;rcases List.mem_append.1 e with e|e
   ·have:=h y e;rw[D]at this;cases this
   ·rw[List.mem_singleton.1 e];exact DF _
  |false=>
   intro y e;rcases List.mem_append.1 e with e|e
   ·exact h y e
   ·rw[List.mem_singleton.1 e];exact G
 |some x=>
  obtain⟨M,I,E⟩:=h;cases q:(of k&&lZ (some x) k)with
  |true=>
   simp only[Bool.and_eq_true,lZ,Bool.or_eq_true,dTx]at q;refine⟨by simp,q.1,λy e D=>?_⟩;rcases List.mem_append.1 e with e|e
   ·have O:=E y e D;have U:=q.2;unfold before at*;omega
   ·rw[List.mem_singleton.1 e];exact DF _
  |false=>
   refine⟨List.mem_append_left _ M,I,λy e D=>?_⟩;rcases List.mem_append.1 e with e|e
   ·exact E y e D
   ·rw[List.mem_singleton.1 e]at D ⊢;rw[D,Bool.true_and]at q;have q: ¬ lZ (some x) k=true:=by rw[q];decide
    simp only[lZ,Bool.or_eq_true,Bool.and_eq_true,dTx]at q;unfold before;omega
theorem Xn (of:Kpt->Bool)(k:Kpt):∀(o:Option Kpt),(∀x,o=some x->x.c.seq<k.c.seq)->(bif of k&&lZ o k then some k else o)=
 (if of k=true then(match o with|none=>some k|some x=>if k.c.used<x.c.used then some k else some x)else o)
 |none,_=>by cases of k<;>rfl
 |some x,h=>by
  have:=h x rfl;cases of k with
  |false=>rfl
  |true=>
   by_cases e:k.c.used<x.c.used
   ·simp[lZ,e]
   ·have: ¬ k.c.seq<x.c.seq:=by omega
    simp[lZ,e,this]
theorem Io {of:Kpt->Bool} :∀(l pre:List Kpt) (o:Option Kpt),((pre++l).Pairwise λa b=>a.c.seq<b.c.seq)->uw of pre o->uw of (pre++l) (SP of l o)
 |[],pre,o,_,h=>by rw[append_nil];exact h
 |k::l,pre,o,e,h=>by
  have q:=uw.step h k;rw[Xn of k o λx D=>by
   subst D;rw[List.pairwise_append]at e;exact e.2.2 x h.1 k (mem_cons_self ..)]at q
  have:=Io l (pre++[k]) _ (by rw[append_assoc];exact e) q;rw[append_assoc]at this;exact this
theorem um {of:Kpt->Bool}{L:List Kpt}(s:ShI L a):uw of L (O2 L of):=by
 have:=Io (of:=of) L [] none (by rw[nil_append];exact s.up) (λk e=>by cases e);rw[nil_append]at this;exact this
theorem Ul {L:List Kpt}{last:Int}(s:ShI L last){p:Plc}{o:Kpt}(h:atK L p=some o)(t:lU):jm L t=jm (eR L p) t+if t=o.site then 1 else 0:=by
 obtain⟨q,G⟩:=lD h;have E:∀k∈L,k.plc=p->k=o:=λk e D=>s.one e q (D.trans G.symm);clear h;revert E s q;induction L with
 |nil=>intro _ q;cases q
 |cons a L U=>
  intro s q E;have V:ShI L last:=⟨(List.pairwise_cons.1 s.up).2,λk e=>s.lo k (mem_cons_of_mem _ e),(List.pairwise_cons.1 s.key).2,s.l0⟩
  have H:=(List.pairwise_cons.1 s.key).1;unfold jm eR at*;by_cases D:a=o
  ·subst D;have M:(L.filter λk=> !decide (k.plc=p))=L:=List.filter_eq_self.2 λk e=>by
    have:=H k e;rw[G]at this;simpa using λc=>this c.symm
   rw[filter_cons,if_neg (by simp[G]),M,List.countP_cons];simp[eq_comm]
  ·have O:o∈L:=(List.mem_cons.1 q).resolve_left λx=>D x.symm;have I:a.plc≠p:=λx=>D (E a (mem_cons_self ..) x);have:=U V O λk e=>E k (mem_cons_of_mem _ e);rw[filter_cons,if_pos (by simpa using I),List.countP_cons,List.countP_cons,this];omega
theorem Ww (L:List Kpt)(k:Kpt)(t:lU):jm (L++[k]) t=jm L t+if t=k.site then 1 else 0:=by
 unfold jm;rw[List.countP_append,List.countP_cons,List.countP_nil];simp[eq_comm]
end Go.Pk
