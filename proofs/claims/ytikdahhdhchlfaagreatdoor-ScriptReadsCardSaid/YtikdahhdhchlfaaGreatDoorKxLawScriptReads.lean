/- What the law alone leans on: WordP, H, Split, Names, V3, V1, DateN, HdrB, AddrA, AddrP, AddrB, AddrC, AddrF, AddrG, AddrI, HostA, HostC, V4, UrlA, UrlB, ScrP, V20, V22, ScrA, WrdA, WrdB, V23, V26, ScrE, V27, WrdD, V24, UrlZ, ScrO, StpL, ScrQ, ScrT, ScrV; what is used. Its conditions: none. -/
import Derived.Test.YtikdahhdhchlfaaGreatDoorKK
set_option linter.unusedVariables false
set_option linter.unusedSimpArgs false
set_option linter.unusedSectionVars false
set_option maxRecDepth 100000
open Go.IntKind (i64)
open Go.Proofs.Tryz
open List (length)
open Option (isSome)
namespace Go.Pk
open Go.RowKit (Below)
open Go.Proofs
def unB (s:List UInt8):Option (UInt8×List UInt8):=((List.range 256).find? λn=>(eU (UInt8.ofNat n)).isPrefixOf s).map λn=>(UInt8.ofNat n,s.drop (eU (UInt8.ofNat n)).length)
theorem Iv:∀c d r q,eU c++r=eU d++q->c=d/\r=q:=by
 intro c d r q h
 have h1:=Gz c [];have h2:=Gz d []
 have hh:eU c=eU d:=by
   by_cases hc:33 <=c.toNat/\c.toNat <=126/\c≠37
   · by_cases hd:33 <=d.toNat/\d.toNat <=126/\d≠37
     · rw[eU,if_pos hc,eU,if_pos hd]at h ⊢
       simp at h;rw[h.1]
     · rw[eU,if_pos hc,eU,if_neg hd]at h
       simp at h;exact absurd h.1 hc.2.2
   · by_cases hd:33 <=d.toNat/\d.toNat <=126/\d≠37
     · rw[eU,if_neg hc,eU,if_pos hd]at h
       simp at h;exact absurd h.1.symm hd.2.2
     · rw[eU,if_neg hc,eU,if_neg hd]at h ⊢
       simp at h ⊢;exact⟨h.1,h.2.1⟩
 rw[hh,h2]at h1
 have hd:c=d:=by
   have:=h1;rw[unD]at this;simp at this;exact this.symm
 subst hd
 exact⟨rfl,List.append_cancel_left h⟩
theorem Rn (s:List UInt8)(c:UInt8)(r:List UInt8):unB s=some (c,r) ↔ s=eU c++r:=by
 unfold unB
 constructor
 · intro h
   rw[Option.map_eq_some_iff]at h
   obtain⟨n,hn,e⟩:=h
   have hp:=List.find?_some hn
   obtain⟨q,hq⟩:=List.isPrefixOf_iff_prefix.1 hp
   injection e with e1 e2
   subst e1
   rw[<- hq,List.drop_left]at e2
   rw[<- hq,e2]
 · intro h
   have hmem:c.toNat∈List.range 256:=List.mem_range.2 c.toNat_lt
   have hpc:(eU (UInt8.ofNat c.toNat)).isPrefixOf s=true:=by
     rw[UInt8.ofNat_toNat];exact List.isPrefixOf_iff_prefix.2 ⟨r,h.symm⟩
   cases hf:(List.range 256).find? λn=>(eU (UInt8.ofNat n)).isPrefixOf s with
   | none=>exact absurd hpc (by simpa using List.find?_eq_none.1 hf _ hmem)
   | some n=>
     have hp:=List.find?_some hf
     obtain⟨q,hq⟩:=List.isPrefixOf_iff_prefix.1 hp
     have:=Iv _ _ _ _ (hq.trans h)
     rw[Option.map_some,this.1]
     congr 2
     rw[h,List.drop_left]
theorem Cz:∀(out t rest:List UInt8),cF t=cF out++rest->∃u,t=out++u/\cF u=rest
 | [],t,rest,h=>⟨t,rfl,h⟩
 | c::out,[],rest,h=>by
   have:=(xc c).1
   rw[cF,cF,List.append_assoc]at h
   have h2:=congrArg List.length h
   rw[List.length_append]at h2;simp at h2;omega
 | c::out,d::t,rest,h=>by
   rw[cF,cF,List.append_assoc]at h
   obtain⟨e,h2⟩:=Iv _ _ _ _ h
   obtain⟨u,hu,hr⟩:=Cz out t rest h2
   exact⟨u,by rw[e,hu];rfl,hr⟩
theorem Ro {s out rest:List UInt8}(h:s=cF out++rest)(hr:rest≠[])(hs:s≠[37])(hb:unB rest=none):unP s=none:=by
 cases hp:unP s with
 | none=>rfl
 | some t=>
   have ht:=(rf s t).1 hp
   unfold j8 at ht
   split at ht
   · exact absurd ht.symm hs
   · obtain⟨u,hu,hw⟩:=Cz out t rest (ht.trans h)
     cases u with
     | nil=>exact absurd hw.symm hr
     | cons c u=>
       rw[(Rn rest c (cF u)).2 (by rw[<- hw];rfl)]at hb
       cases hb
theorem TU {s out:List UInt8}(h:s=cF out):unP s=if out=[]then none else some out:=by
 split
 · rename_i e;subst e
   cases hp:unP s with
   | none=>rfl
   | some t=>
     have ht:=(rf s t).1 hp
     rw[h]at ht
     unfold j8 at ht
     split at ht
     · cases ht
     · rename_i hne;exact absurd (Ix ht) hne
 · rename_i hne
   exact(rf s out).2 (by rw[j8,if_neg hne,h])
theorem UW:unP [37]=some []:=(rf _ _).2 rfl
theorem Vm {n:Nat}{w:World}{c x:Bool}{R:Bool->World->Prop}(h:R (c&&x) w):∃J:FP [.one (.bool)],ab c (J x w) (J false w)/\∀b:Bool,aJ n (∀wj:World,J b wj->R b wj):=
 iU (B:=λJ=>ab c (J x w) (J false w)) (c&&x) (ab.of (λh=>⟨rfl,by rw[h];rfl⟩) (λh=>⟨rfl,by rw[h];rfl⟩)) h
theorem yn {α:Type}(p:α->Bool):∀(s:List α) (k:Nat) (hk:k<s.length),k <=(s.takeWhile p).length->(p s[k]=true ↔ k<(s.takeWhile p).length)
 | [],k,hk,_=>by cases hk
 | c::s,0,hk,_=>by
   rw[List.takeWhile_cons]
   simp only[List.getElem_cons_zero]
   cases h:p c <;> simp
 | c::s,k+1,hk,h=>by
   rw[List.takeWhile_cons]at h ⊢
   cases hc:p c with
   | false=>rw[hc]at h;simp at h
   | true=>
     rw[hc]at h
     simp only[if_true,List.length_cons]at h ⊢
     have:=yn p s k (by simpa using hk) (by omega)
     simp only[List.getElem_cons_succ]
     rw[this];omega
theorem SM (c:UInt8)(s cur:List UInt8)(k:Nat)(h:k<s.length):bK c cur (s.drop k)=if s[k]=c then cur::bK c [] (s.drop (k+1))else bK c (cur++[s[k]]) (s.drop (k+1)):=by
 rw[List.drop_eq_getElem_cons h];rfl
theorem ix (c:UInt8):∀(s cur r:List UInt8),bK c cur (s++c::r)=bK c cur s++bK c [] r
 | [],cur,r=>by
   show(if c=c then _ else _)=_
   rw[if_pos rfl];rfl
 | x::s,cur,r=>by
   show(if x=c then cur::bK c [] (s++c::r)else bK c (cur++[x]) (s++c::r))=(if x=c then cur::bK c [] s else bK c (cur++[x]) s)++bK c [] r
   split
   · rw[ix c s];rfl
   · rw[ix c s]
abbrev iA:Nat:=3
abbrev oU:Nat:=10
abbrev oN:Nat:=21
abbrev mH:Nat:=22
abbrev mE:Nat:=34
abbrev fe:Nat:=35
abbrev fK:Nat:=49
abbrev oT:Nat:=50
abbrev ng:Nat:=51
abbrev mF:Nat:=52
abbrev ja:Nat:=53
abbrev iL:Nat:=54
abbrev ia:Nat:=55
abbrev oV:Nat:=56
abbrev qB:Nat:=57
abbrev kI:Nat:=86
abbrev i7:Nat:=101
abbrev fB:Nat:=102
abbrev gC:Nat:=103
abbrev kN:Nat:=104
abbrev lE:Nat:=105
abbrev xm:Nat:=106
abbrev jG:Nat:=107
abbrev xl:Nat:=108
abbrev oS:Nat:=109
abbrev oO:Nat:=110
abbrev oP:Nat:=111
abbrev kL:Nat:=112
abbrev kK:Nat:=181
abbrev cI:Nat:=182
abbrev kJ:Nat:=183
abbrev gB:Nat:=184
abbrev oQ:Nat:=261
abbrev oR:Nat:=262
theorem BI (a:lU){w K}(h:nA w (.cells bj ae) λb c=>∃d:FP [],(∃e:FP [.one .bool],(ab (decide (((List.length a:Nat):Int)>(0:Int))) (bx (0:Int) ((List.length a:Nat):Int)/\e ((bf a (0:Int))==(91:Int)) c) (e false c))/\∀f,aJ 7 (∀g,e f g->ab f (bx (i64.wrap (((List.length a:Nat):Int)-(1:Int))) ((List.length a:Nat):Int)/\ab ((bf a (i64.wrap (((List.length a:Nat):Int)-(1:Int)))) !=(93:Int)) (∃i,Sv ae (vA b 0) (.agg bj) g i/\∃j,Rv ae (vA b 0) i j/\K (.tuple #[j,vI 31]) i) ((bd (i64.wrap (((List.length a:Nat):Int)-(1:Int))) (((List.length a):Nat):Int)/\0 <=(1:Int)/\(1:Int) <=((Int.toNat (i64.wrap (((List.length a:Nat):Int)-(1:Int))):Nat):Int))/\∀i,i=(List.drop (Int.toNat 1) (List.take (Int.toNat (i64.wrap (((List.length a:Nat):Int)-(1:Int)))) a))->Cf xm #[vS i] g λj k=>∃l m,j=rT #[l,.bool m]/\nA k (.cells bA am) λn o=>∃p,Sv am (vA n 0) l o p/\ab (!m) (∃q,Sv ae (vA b 0) (.agg bj) p q/\∃r,Rv ae (vA b 0) q r/\K (.tuple #[r,vI 31]) q) (∃q,Ld am (vA n 0) p q/\∃r,(Instr.build ae #[(0,vI 3),(2,q)]).run prog p=.ok r p/\∃s,Sv ae (vA b 0) r p s/\∃t,Rv ae (vA b 0) s t/\K (.tuple #[t,vI 0]) s))) (d g)))/\aJ 32 (∀e,d e->uS i7 #[vS a] e λf g=>uL fK #[vS f,.int .u8 46] g λi j k l=>(bx (i64.wrap (((j:Nat):Int)-(1:Int))) ((j:Nat):Int)/\Option.isSome i=true)/\∃m,Ld ah (aq i (i64.wrap (((j:Nat):Int)-(1:Int))) 1) l (vS m)/\uB jG #[vS m] l λn o=>ab n (Cf xl #[vS a] o λp q=>∃r s,p=rT #[r,.bool s]/\nA q (.cells bA am) λt u=>∃v,Sv am (vA t 0) r u v/\ab (!s) (∃x,Sv ae (vA b 0) (.agg bj) v x/\∃y,Rv ae (vA b 0) x y/\K (.tuple #[y,vI 31]) x) (∃x,Ld am (vA t 0) v x/\∃y,(Instr.build ae #[(0,vI 2),(2,x)]).run prog v=.ok y v/\∃z,Sv ae (vA b 0) y v z/\∃A,Rv ae (vA b 0) z A/\K (.tuple #[A,vI 0]) z)) (∃p:Nat->FP [.one (.int .i64)],(∃q,p q (0:Int) o)/\∀q r,aJ 10 (∀s,p q r s->ab (decide (r<((j:Nat):Int))) ((bx r ((j:Nat):Int)/\Option.isSome i=true)/\∃t,Ld ah (aq i r 1) s (vS t)/\uB oS #[vS t] s λu v=>ab (!u) (∃x,Sv ae (vA b 0) (.agg bj) v x/\∃y,Rv ae (vA b 0) x y/\K (.tuple #[y,vI 31]) x) (∃x:Nat,x<q/\p x (i64.wrap (r+(1:Int))) v)) (ab (decide (((List.length a:Nat):Int)>(253:Int))) (∃t,Sv ae (vA b 0) (.agg bj) s t/\∃u,Rv ae (vA b 0) t u/\K (.tuple #[u,vI 31]) t) (∃t,Sv ae (vA b 0) (.agg #[vI 1,vS f,.int .u8 0,.int .u8 0,.int .u8 0,.int .u8 0,.int .u8 0,.int .u8 0,.int .u8 0,.int .u8 0,.int .u8 0,.int .u8 0,.int .u8 0,.int .u8 0,.int .u8 0,.int .u8 0,.int .u8 0,.int .u8 0]) s t/\∃u,Rv ae (vA b 0) t u/\K (.tuple #[u,vI 0]) t)))))):Cf ja #[vS a] w (Ret K):=ru func53 [(2,[]),(3,[(19,.one .bool)]),(54,[(64,.one (.int .i64))])] h
theorem DA (a:Value){w K}(h:nA w (.cells (Value.cells a) ae) λb c=>true/\∃d,Ld bh (vA b 0) c (vI d)/\ab (d==(1:Int)) (true/\∃e,Ld ah (vA b 1) c (vS e)/\K (vS e) c) (true/\∃e,Ld bh (vA b 0) c (vI e)/\ab (e==(2:Int)) (true/\∃f,Ld am (vA b 2) c f/\uS oO #[f] c λg i=>K (vS g) i) (true/\∃f,Ld bh (vA b 0) c (vI f)/\ab (f==(3:Int)) (true/\∃g,Ld am (vA b 2) c g/\uS oP #[g] c λi j=>(((List.length [91]+List.length i:Nat):Int) <=i64.max)/\∀k,k=([91]++i)->(((List.length k+List.length [93]:Nat):Int) <=i64.max)/\∀l,l=(k++[93])->K (vS l) j) (K (vS []) c)))):Cf iL #[a] w (Ret K):=ru func54 [] h
theorem H1 (a:lU){w K}(h:nA w (.cells bA am) λb c=>Cf kK #[vS a] c λd e=>∃f g,d=rT #[f,.bool g]/\nA e (.cells bA am) λi j=>∃k,Sv am (vA i 0) f j k/\ab g (∃l,Ld am (vA i 0) k l/\∃m,Sv am (vA b 0) l k m/\∃n,Rv am (vA b 0) m n/\K (.tuple #[n,.bool true]) m) (∃l:Nat->FP [.one (.int .i64)],(∃m,l m (0:Int) k)/\∀m n,aJ 57 (∀o,l m n o->ab (decide ((i64.wrap (n+(2:Int))) <=((List.length a:Nat):Int))) (∃p:FP [],(bx n ((List.length a:Nat):Int)/\ab ((bf a n) !=(58:Int)) (∃q:Nat,q<m/\l q (i64.wrap (n+(1:Int))) o) (bx (i64.wrap (n+(1:Int))) ((List.length a:Nat):Int)/\ab ((bf a (i64.wrap (n+(1:Int)))) !=(58:Int)) (∃q:Nat,q<m/\l q (i64.wrap (n+(1:Int))) o) (p o)))/\aJ 11 (∀q,p q->bd n (((List.length a):Nat):Int)/\∀r,r=(List.take (Int.toNat n) a)->bd (i64.wrap (n+(2:Int))) (((List.length a):Nat):Int)/\∀s,s=(List.drop (Int.toNat (i64.wrap (n+(2:Int)))) a)->∃t:FP [.one .str],(ab (!(r==[])) ((((List.length r+List.length [58]:Nat):Int) <=i64.max)/\∀u,u=(r++[58])->t u q) (t r q))/\∀u,aJ 4 (∀v,t u v->∃x:FP [.one .str],(ab (!(s==[])) ((((List.length [58]+List.length s:Nat):Int) <=i64.max)/\∀y,y=([58]++s)->x y v) (x s v))/\∀y,aJ 4 (∀z,x y z->∃A:Nat->FP [.one .str,.one (.int .i64)],(∃B,A B [48] (0:Int) z)/\∀B C D,aJ 20 (∀E,A B C D E->ab (decide (D<(8:Int))) ((((List.length u+List.length C:Nat):Int) <=i64.max)/\∀F,F=(u++C)->(((List.length F+List.length y:Nat):Int) <=i64.max)/\∀G,G=(F++y)->Cf kK #[vS G] E λH I=>∃J L,H=rT #[J,.bool L]/\nA I (.cells bA am) λM N=>∃O,Sv am (vA M 0) J N O/\ab L (∃P,Ld am (vA M 0) O P/\∃Q,Sv am (vA b 0) P O Q/\∃R,Rv am (vA b 0) Q R/\K (.tuple #[R,.bool true]) Q) ((((List.length C+List.length [58,48]:Nat):Int) <=i64.max)/\∀P,P=(C++[58,48])->∃Q:Nat,Q<B/\A Q P (i64.wrap (D+(1:Int))) O)) (∃F:Nat,F<m/\l F (i64.wrap (n+(1:Int))) E)))))) (∃p,Sv am (vA b 0) (.agg bA) o p/\∃q,Rv am (vA b 0) p q/\K (.tuple #[q,.bool false]) p)))):Cf xm #[vS a] w (Ret K):=ru func106 [(16,[(6,.one (.int .i64))]),(25,[]),(35,[(7,.one .str)]),(41,[(8,.one .str)]),(52,[(9,.one .str),(10,.one (.int .i64))])] h
theorem H0 (a:lU){w K}(h:nA w (.cells bA am) λb c=>nA c (.cells bA am) λd e=>∃f,Sv am (vA d 0) (.agg bA) e f/\uL fK #[vS a,.int .u8 46] f λg i j k=>ab (((i:Nat):Int) !=(4:Int)) (∃l,Sv am (vA b 0) (.agg bA) k l/\∃m,Rv am (vA b 0) l m/\K (.tuple #[m,.bool false]) l) (∃l:Nat->FP [.one (.int .i64)],(∃m,l m (0:Int) k)/\∀m n,aJ 27 (∀o,l m n o->ab (decide (n<(4:Int))) ((bx n ((i:Nat):Int)/\Option.isSome g=true)/\∃p,Ld ah (aq g n 1) o (vS p)/\Cf ia #[vS p] o λq r=>∃s t,q=rT #[vI s,.bool t]/\∃u:FP [],(∃v:FP [.one .bool],(ab (!t) (v true r) (v (decide (s>(255:Int))) r))/\∀x,aJ 5 (∀y,v x y->ab x (∃z,Sv am (vA b 0) (.agg bA) y z/\∃A,Rv am (vA b 0) z A/\K (.tuple #[A,.bool false]) z) (u y)))/\aJ 8 (∀v,u v->(bx (i64.wrap ((12:Int)+n)) ((16:Nat):Int)/\true)/\∃x,Sv aQ (aq (vA d 0) (i64.wrap ((12:Int)+n)) 1) (.int .u8 (IntKind.u8.wrap s)) v x/\∃y:Nat,y<m/\l y (i64.wrap (n+(1:Int))) x)) (∃p,Ld am (vA d 0) o p/\∃q,Sv am (vA b 0) p o q/\∃r,Rv am (vA b 0) q r/\K (.tuple #[r,.bool true]) q)))):Cf xl #[vS a] w (Ret K):=ru func108 [(18,[(6,.one (.int .i64))]),(29,[]),(30,[(33,.one .bool)])] h
theorem BK (a:lU){w K}(h:∃b:Nat->FP [.one (.int .i64)],(∃c,b c (0:Int) w)/\∀c d,aJ 33 (∀e,b c d e->ab (decide (d<((List.length a:Nat):Int))) (bx d ((List.length a:Nat):Int)/\ab (decide ((bf a d)<(97:Int))) (ab (decide ((bf a d)<(48:Int))) (ab ((bf a d) !=(45:Int)) (ab ((bf a d) !=(95:Int)) (K (.bool false) e) (∃f:Nat,f<c/\b f (i64.wrap (d+(1:Int))) e)) (∃f:Nat,f<c/\b f (i64.wrap (d+(1:Int))) e)) (ab (decide ((bf a d)>(57:Int))) (ab ((bf a d) !=(45:Int)) (ab ((bf a d) !=(95:Int)) (K (.bool false) e) (∃f:Nat,f<c/\b f (i64.wrap (d+(1:Int))) e)) (∃f:Nat,f<c/\b f (i64.wrap (d+(1:Int))) e)) (∃f:Nat,f<c/\b f (i64.wrap (d+(1:Int))) e))) (ab (decide ((bf a d)>(122:Int))) (ab (decide ((bf a d)<(48:Int))) (ab ((bf a d) !=(45:Int)) (ab ((bf a d) !=(95:Int)) (K (.bool false) e) (∃f:Nat,f<c/\b f (i64.wrap (d+(1:Int))) e)) (∃f:Nat,f<c/\b f (i64.wrap (d+(1:Int))) e)) (ab (decide ((bf a d)>(57:Int))) (ab ((bf a d) !=(45:Int)) (ab ((bf a d) !=(95:Int)) (K (.bool false) e) (∃f:Nat,f<c/\b f (i64.wrap (d+(1:Int))) e)) (∃f:Nat,f<c/\b f (i64.wrap (d+(1:Int))) e)) (∃f:Nat,f<c/\b f (i64.wrap (d+(1:Int))) e))) (∃f:Nat,f<c/\b f (i64.wrap (d+(1:Int))) e))) (ab (decide (((List.length a:Nat):Int) >=(1:Int))) (K (.bool (decide (((List.length a:Nat):Int) <=(63:Int)))) e) (K (.bool false) e)))):Cf oS #[vS a] w (Ret K):=ru func109 [(6,[(3,.one (.int .i64))])] h
theorem BE (a:Value){w K}(h:nA w (.cells (Value.cells a) am) λb c=>(bx (12:Int) ((16:Nat):Int)/\true)/\∃d,(∀e,bW c e->Ld aQ (aq (vA b 0) (12:Int) 1) e (.int .u8 d))/\∃e,(∀f,bW c f->Cf cI #[vI (i64.wrap d)] f λg i=>g=.returned (vS e)/\Below c.heap.size f i)/\(((List.length e+List.length [46]:Nat):Int) <=i64.max)/\∀f,f=(e++[46])->(bx (13:Int) ((16:Nat):Int)/\true)/\∃g,(∀i,bW c i->Ld aQ (aq (vA b 0) (13:Int) 1) i (.int .u8 g))/\∃i,(∀j,bW c j->Cf cI #[vI (i64.wrap g)] j λk l=>k=.returned (vS i)/\Below c.heap.size j l)/\(((List.length f+List.length i:Nat):Int) <=i64.max)/\∀j,j=(f++i)->(((List.length j+List.length [46]:Nat):Int) <=i64.max)/\∀k,k=(j++[46])->(bx (14:Int) ((16:Nat):Int)/\true)/\∃l,(∀m,bW c m->Ld aQ (aq (vA b 0) (14:Int) 1) m (.int .u8 l))/\∃m,(∀n,bW c n->Cf cI #[vI (i64.wrap l)] n λo p=>o=.returned (vS m)/\Below c.heap.size n p)/\(((List.length k+List.length m:Nat):Int) <=i64.max)/\∀n,n=(k++m)->(((List.length n+List.length [46]:Nat):Int) <=i64.max)/\∀o,o=(n++[46])->(bx (15:Int) ((16:Nat):Int)/\true)/\∃p,(∀q,bW c q->Ld aQ (aq (vA b 0) (15:Int) 1) q (.int .u8 p))/\∃q,(∀r,bW c r->Cf cI #[vI (i64.wrap p)] r λs t=>s=.returned (vS q)/\Below c.heap.size r t)/\(((List.length o+List.length q:Nat):Int) <=i64.max)/\∀r,r=(o++q)->∀s,bW c s->K (vS r) s):Cf oO #[a] w (Ret K):=ru func110 [] h
theorem BF (a:Value){w K}(h:nA w (.cells (Value.cells a) am) λb c=>∃d:Nat->FP [.one (.int .i64)],(∃e,d e (8:Int) c)/\∀e f,aJ 40 (∀g,d e f g->ab (decide (f >=(2:Int))) (∃i:Nat->FP [.one (.int .i64)],(∃j,i j (0:Int) g)/\∀j k,aJ 35 (∀l,i j k l->ab (decide ((i64.wrap (k+f)) <=(8:Int))) (∃m:Nat->FP [.one .bool,.one (.int .i64)],(∃n,m n true k l)/\∀n o p,aJ 14 (∀q,m n o p q->ab (decide (p<(i64.wrap (k+f)))) (ab o (∃r,Ld am (vA b 0) q r/\uI kJ #[r,vI p] q λs t=>∃u:Nat,u<n/\m u (s==(0:Int)) (i64.wrap (p+(1:Int))) t) (∃r:Nat,r<n/\m r false (i64.wrap (p+(1:Int))) q)) (ab o (∃r,(∀s,bW q s->Ld am (vA b 0) s r)/\∃s,(∀t,bW q t->Cf gB #[r,vI 0,vI k] t λu v=>u=.returned (vS s)/\Below q.heap.size t v)/\(((List.length s+List.length [58,58]:Nat):Int) <=i64.max)/\∀t,t=(s++[58,58])->∃u,(∀v,bW q v->Ld am (vA b 0) v u)/\∃v,(∀x,bW q x->Cf gB #[u,vI (i64.wrap (k+f)),vI 8] x λy z=>y=.returned (vS v)/\Below q.heap.size x z)/\(((List.length t+List.length v:Nat):Int) <=i64.max)/\∀x,x=(t++v)->∀y,bW q y->K (vS x) y) (∃r:Nat,r<j/\i r (i64.wrap (k+(1:Int))) q)))) (∃m:Nat,m<e/\d m (i64.wrap (f-(1:Int))) l))) (∃i,Ld am (vA b 0) g i/\uS gB #[i,vI 0,vI 8] g λj k=>K (vS j) k))):Cf oP #[a] w (Ret K):=ru func111 [(6,[(3,.one (.int .i64))]),(18,[(4,.one (.int .i64))]),(33,[(5,.one .bool),(6,.one (.int .i64))])] h
theorem BJ (a:Value){w K}(h:nA w (.cells (Value.cells a) ae) λb c=>∃d,Ld ae (vA b 0) c d/\uS iL #[d] c λe f=>Cf ja #[vS e] f λg i=>∃j k,g=rT #[j,vI k]/\nA i (.cells bj ae) λl m=>∃n,Sv ae (vA l 0) j m n/\ab (k==(0:Int)) (∃o,Ld ae (vA l 0) n o/\∃p,Ld ae (vA b 0) n p/\∃q,(do eqGuard .eql ae (.tmp 14) (.tmp 15) o p;binOp .eql ae o p:Sem Value).run prog n=.ok (.bool q) n/\K (.bool q) n) (K (.bool false) n)):Cf kL #[a] w (Ret K):=ru func112 [] h
theorem BH (a:lU){w K}(h:nA w (.cells bA am) λb c=>nA c (.cells bA am) λd e=>∃f,Sv am (vA d 0) (.agg bA) e f/\uL fK #[vS a,.int .u8 58] f λg i j k=>ab (((i:Nat):Int) !=(8:Int)) (∃l,Sv am (vA b 0) (.agg bA) k l/\∃m,Rv am (vA b 0) l m/\K (.tuple #[m,.bool false]) l) (∃l:Nat->FP [.one (.int .i64)],(∃m,l m (0:Int) k)/\∀m n,aJ 59 (∀o,l m n o->ab (decide (n<(8:Int))) (∃p:FP [],(∃q:FP [.one .bool],((bx n ((i:Nat):Int)/\Option.isSome g=true)/\∃r,Ld ah (aq g n 1) o (vS r)/\ab (decide (((List.length r:Nat):Int)<(1:Int))) (q true o) ((bx n ((i:Nat):Int)/\Option.isSome g=true)/\∃s,Ld ah (aq g n 1) o (vS s)/\q (decide (((List.length s:Nat):Int)>(4:Int))) o))/\∀r,aJ 13 (∀s,q r s->ab r (∃t,Sv am (vA b 0) (.agg bA) s t/\∃u,Rv am (vA b 0) t u/\K (.tuple #[u,.bool false]) t) (p s)))/\aJ 16 (∀q,p q->∃r:Nat->FP [.one (.int .i64),.one (.int .i64)],(∃s,r s (0:Int) (0:Int) q)/\∀s t u,aJ 25 (∀v,r s t u v->(bx n ((i:Nat):Int)/\Option.isSome g=true)/\∃x,Ld ah (aq g n 1) v (vS x)/\ab (decide (u<((List.length x:Nat):Int))) ((bx n ((i:Nat):Int)/\Option.isSome g=true)/\∃y,Ld ah (aq g n 1) v (vS y)/\bx u ((List.length y:Nat):Int)/\uI oQ #[.int .u8 (bf y u)] v λz A=>ab (decide (z<(0:Int))) (∃B,Sv am (vA b 0) (.agg bA) A B/\∃C,Rv am (vA b 0) B C/\K (.tuple #[C,.bool false]) B) (∃B:Nat,B<s/\r B (i64.wrap ((i64.wrap (t*(16:Int)))+z)) (i64.wrap (u+(1:Int))) A)) (((256:Int)≠0)/\∀y,y=(i64.wrap (Int.tdiv t (256:Int)))->(bx (i64.wrap ((2:Int)*n)) ((16:Nat):Int)/\true)/\∃z,Sv aQ (aq (vA d 0) (i64.wrap ((2:Int)*n)) 1) (.int .u8 (IntKind.u8.wrap y)) v z/\((256:Int)≠0)/\∀A,A=(Int.tmod t (256:Int))->(bx (i64.wrap ((i64.wrap ((2:Int)*n))+(1:Int))) ((16:Nat):Int)/\true)/\∃B,Sv aQ (aq (vA d 0) (i64.wrap ((i64.wrap ((2:Int)*n))+(1:Int))) 1) (.int .u8 (IntKind.u8.wrap A)) z B/\∃C:Nat,C<m/\l C (i64.wrap (n+(1:Int))) B)))) (∃p,Ld am (vA d 0) o p/\∃q,Sv am (vA b 0) p o q/\∃r,Rv am (vA b 0) q r/\K (.tuple #[r,.bool true]) q)))):Cf kK #[vS a] w (Ret K):=ru func181 [(18,[(6,.one (.int .i64))]),(29,[]),(30,[(34,.one .bool)]),(41,[(7,.one (.int .i64)),(8,.one (.int .i64))])] h
theorem xM (a:Int){w K}(h:ab (decide (a<(10:Int))) (nA w (.cells #[.int .u8 (IntKind.u8.wrap (i64.wrap ((48:Int)+a)))] aQ) λb c=>∃d,(convert aG ah (.slice (vA b 0) 1 1)).run prog c=.ok (vS d) c/\K (vS d) c) (((10:Int)≠0)/\∀b,b=(i64.wrap (Int.tdiv a (10:Int)))->((10:Int)≠0)/\∀c,c=(Int.tmod a (10:Int))->(uS cI #[vI b] (World.drew w) λd e=>nA e (.cells #[.int .u8 (IntKind.u8.wrap (i64.wrap ((48:Int)+c)))] aQ) λf g=>∃i,(convert aG ah (.slice (vA f 0) 1 1)).run prog g=.ok (vS i) g/\(((List.length d+List.length i:Nat):Int) <=i64.max)/\∀j,j=(d++i)->K (vS j) g)/\∀d e,d=(World.drew w).heap.size->e=(World.drew w).alloc (.cells #[.int .u8 (IntKind.u8.wrap (i64.wrap ((48:Int)+c)))] aQ)->(uS cI #[vI b] e λf g=>∃i,(convert aG ah (.slice (vA d 0) 1 1)).run prog g=.ok (vS i) g/\(((List.length f+List.length i:Nat):Int) <=i64.max)/\∀j,j=(f++i)->K (vS j) g)/\∃f,(convert aG ah (.slice (vA d 0) 1 1)).run prog e=.ok (vS f) e/\uS cI #[vI b] e λg i=>(((List.length g+List.length f:Nat):Int) <=i64.max)/\∀j,j=(g++f)->K (vS j) i)):Cf cI #[vI a] w (Ret K):=ru func182 [] h
theorem BD (a:Value)(b:Int){w K}(h:nA w (.cells (Value.cells a) am) λc d=>(bx (i64.wrap ((2:Int)*b)) ((16:Nat):Int)/\true)/\∃e,(∀f,bW d f->Ld aQ (aq (vA c 0) (i64.wrap ((2:Int)*b)) 1) f (.int .u8 e))/\(bx (i64.wrap ((i64.wrap ((2:Int)*b))+(1:Int))) ((16:Nat):Int)/\true)/\∃f,(∀g,bW d g->Ld aQ (aq (vA c 0) (i64.wrap ((i64.wrap ((2:Int)*b))+(1:Int))) 1) g (.int .u8 f))/\∀g,bW d g->K (vI (i64.wrap ((i64.wrap ((i64.wrap e)*(256:Int)))+(i64.wrap f)))) g):Cf kJ #[a,vI b] w (Ret K):=ru func183 [] h
theorem Dz (a:Value)(b c:Int){w K}(h:nA w (.cells (Value.cells a) am) λd e=>∃f:Nat->FP [.one .str,.one (.int .i64)],(∃g,f g [] b e)/\∀g i j,aJ 16 (∀k,f g i j k->ab (decide (j<c)) (∃l:FP [.one .str],(ab (decide (j>b)) ((((List.length i+List.length [58]:Nat):Int) <=i64.max)/\∀m,m=(i++[58])->l m k) (l i k))/\∀m,aJ 5 (∀n,l m n->∃o,Ld am (vA d 0) n o/\uI kJ #[o,vI j] n λp q=>uS oR #[vI p] q λr s=>(((List.length m+List.length r:Nat):Int) <=i64.max)/\∀t,t=(m++r)->∃u:Nat,u<g/\f u t (i64.wrap (j+(1:Int))) s)) (K (vS i) k))):Cf gB #[a,vI b,vI c] w (Ret K):=ru func184 [(8,[(7,.one .str),(8,.one (.int .i64))]),(17,[(7,.one .str)])] h
theorem BG (a:Int){w K}(h:∃b:FP [],(∃c:FP [.one .bool],(ab (decide (a >=(48:Int))) (c (decide (a <=(57:Int))) w) (c false w))/\∀d,aJ 5 (∀e,c d e->ab d (K (vI (i64.wrap ((i64.wrap a)-(48:Int)))) e) (b e)))/\aJ 10 (∀c,b c->∃d:FP [],(∃e:FP [.one .bool],(ab (decide (a >=(97:Int))) (e (decide (a <=(102:Int))) c) (e false c))/\∀f,aJ 5 (∀g,e f g->ab f (K (vI (i64.wrap ((i64.wrap a)-(87:Int)))) g) (d g)))/\aJ 10 (∀e,d e->∃f:FP [.one .bool],(ab (decide (a >=(65:Int))) (f (decide (a <=(70:Int))) e) (f false e))/\∀g,aJ 5 (∀i,f g i->ab g (K (vI (i64.wrap ((i64.wrap a)-(55:Int)))) i) (K (vI (-1)) i))))):Cf oQ #[.int .u8 a] w (Ret K):=ru func261 [(2,[]),(3,[(8,.one .bool)]),(10,[]),(11,[(17,.one .bool)]),(19,[(26,.one .bool)])] h
theorem Gb (a:Int){w K}(h:ab (decide (a<(16:Int))) ((bd (i64.wrap (a+(1:Int))) (((List.length [48,49,50,51,52,53,54,55,56,57,97,98,99,100,101,102]):Nat):Int)/\0 <=a/\a <=((Int.toNat (i64.wrap (a+(1:Int))):Nat):Int))/\∀b,b=(List.drop (Int.toNat a) (List.take (Int.toNat (i64.wrap (a+(1:Int)))) [48,49,50,51,52,53,54,55,56,57,97,98,99,100,101,102]))->K (vS b) w) (((16:Int)≠0)/\∀b,b=(i64.wrap (Int.tdiv a (16:Int)))->∃c,(∀d,bW w d->Cf oR #[vI b] d λe f=>e=.returned (vS c)/\Below w.heap.size d f)/\((16:Int)≠0)/\∀d,d=(Int.tmod a (16:Int))->((16:Int)≠0)/\∀e,e=(Int.tmod a (16:Int))->(bd (i64.wrap (e+(1:Int))) (((List.length [48,49,50,51,52,53,54,55,56,57,97,98,99,100,101,102]):Nat):Int)/\0 <=d/\d <=((Int.toNat (i64.wrap (e+(1:Int))):Nat):Int))/\∀f,f=(List.drop (Int.toNat d) (List.take (Int.toNat (i64.wrap (e+(1:Int)))) [48,49,50,51,52,53,54,55,56,57,97,98,99,100,101,102]))->(((List.length c+List.length f:Nat):Int) <=i64.max)/\∀g,g=(c++f)->∀i,bW w i->K (vS g) i)):Cf oR #[vI a] w (Ret K):=ru func262 [] h
theorem BB (a:lU)(b:Int){w K}(h:nA w (.cells #[] ah) λc d=>∃e:Nat->FP [.one .slice,.one (.int .i64),.one (.int .i64)],(∃f,e f (vA c 0) 0 0 (0:Int) (0:Int) d)/\∀f g i j k l,aJ 20 (∀m,e f g i j k l m->ab (decide (l<((List.length a:Nat):Int))) (bx l ((List.length a:Nat):Int)/\ab ((bf a l)==b) ((bd l (((List.length a):Nat):Int)/\0 <=k/\k <=((Int.toNat l:Nat):Int))/\∀n,n=(List.drop (Int.toNat k) (List.take (Int.toNat l) a))->nA m (.cells #[vS n] ah) λo p=>∃q r s t,(Builtin.append_ #[aH,aH] aH #[.slice g i j,.slice (vA o 0) 1 1]).run prog p=.ok (.slice r s t) q/\∃u:Nat,u<f/\e u r s t (i64.wrap (l+(1:Int))) (i64.wrap (l+(1:Int))) q) (∃n:Nat,n<f/\e n g i j k (i64.wrap (l+(1:Int))) m)) (bd k (((List.length a):Nat):Int)/\∀n,n=(List.drop (Int.toNat k) a)->nA m (.cells #[vS n] ah) λo p=>∃q r s t,(Builtin.append_ #[aH,aH] aH #[.slice g i j,.slice (vA o 0) 1 1]).run prog p=.ok (.slice r s t) q/\K (.slice r s t) q))):Cf fK #[vS a,.int .u8 b] w (Ret K):=ru func49 [(10,[(5,.one .slice),(6,.one (.int .i64)),(7,.one (.int .i64))])] h
theorem zp (a:lU){w K}(h:∃b:FP [],(uB jG #[vS a] w λc d=>ab (!c) (K (.tuple #[vI 0,.bool false]) d) (ab (decide (((List.length a:Nat):Int)>(18:Int))) (K (.tuple #[vI 0,.bool false]) d) (ab (decide (((List.length a:Nat):Int)>(1:Int))) (bx (0:Int) ((List.length a:Nat):Int)/\ab ((bf a (0:Int))==(48:Int)) (K (.tuple #[vI 0,.bool false]) d) (b d)) (b d))))/\aJ 20 (∀c,b c->∃d:Nat->FP [.one (.int .i64),.one (.int .i64)],(∃e,d e (0:Int) (0:Int) c)/\∀e f g,aJ 14 (∀i,d e f g i->ab (decide (g<((List.length a:Nat):Int))) (bx g ((List.length a:Nat):Int)/\∃j:Nat,j<e/\d j (i64.wrap ((i64.wrap ((i64.wrap (f*(10:Int)))+(i64.wrap (bf a g))))-(48:Int))) (i64.wrap (g+(1:Int))) i) (K (.tuple #[vI f,.bool true]) i)))):Cf ia #[vS a] w (Ret K):=ru func55 [(2,[]),(16,[(4,.one (.int .i64)),(5,.one (.int .i64))])] h
theorem BA (a:lU){w K}(h:∃b:Nat->FP [.one .str,.one (.int .i64)],(∃c,b c [] (0:Int) w)/\∀c d e,aJ 23 (∀f,b c d e f->ab (decide (e<((List.length a:Nat):Int))) (bx e ((List.length a:Nat):Int)/\∃g:FP [.one (.int .u8)],(ab (decide ((bf a e) >=(65:Int))) (ab (decide ((bf a e) <=(90:Int))) (g (IntKind.u8.wrap ((bf a e)+(32:Int))) f) (g (bf a e) f)) (g (bf a e) f))/\∀i,aJ 8 (∀j,g i j->nA j (.cells #[.int .u8 i] aQ) λk l=>∃m,(convert aG ah (.slice (vA k 0) 1 1)).run prog l=.ok (vS m) l/\(((List.length d+List.length m:Nat):Int) <=i64.max)/\∀n,n=(d++m)->∃o:Nat,o<c/\b o n (i64.wrap (e+(1:Int))) l)) (K (vS d) f))):Cf i7 #[vS a] w (Ret K):=ru func101 [(8,[(3,.one .str),(4,.one (.int .i64))]),(19,[(5,.one (.int .u8))])] h
theorem zo (a:lU){w K}(h:∃b:Nat->FP [.one (.int .i64)],(∃c,b c (0:Int) w)/\∀c d,aJ 17 (∀e,b c d e->ab (decide (d<((List.length a:Nat):Int))) (bx d ((List.length a:Nat):Int)/\ab (decide ((bf a d)<(48:Int))) (K (.bool false) e) (bx d ((List.length a:Nat):Int)/\ab (decide ((bf a d)>(57:Int))) (K (.bool false) e) (∃f:Nat,f<c/\b f (i64.wrap (d+(1:Int))) e))) (K (.bool (decide (((List.length a:Nat):Int)>(0:Int)))) e))):Cf jG #[vS a] w (Ret K):=ru func107 [(6,[(3,.one (.int .i64))])] h
theorem SN {s:List UInt8}{k:Nat}(h:k<s.length):eA s[k]=true ↔ 48 <=bf s (k:Int)/\bf s (k:Int) <=57:=by
 rw[lm (i:=(k:Int)) (by simpa using h),jT]
 simp only[Int.toNat_natCast];omega
theorem np (s:List UInt8)(hs:s.length <=9223372036854775800)(w:World):Cf i7 #[vS s] w (Ret λv w'=>v=vS (co s)/\bW w w'):=by
 apply BA
 refine⟨λm o i w'=>∃k:Nat,k <=s.length/\i=(k:Int)/\o=co (s.take k)/\m=s.length-k/\bW w w',⟨_,0,by omega,rfl,rfl,rfl,Below.refl _ _⟩,?_⟩
 intro m o i
 refine aJ.of ?_ _
 rintro w1 ⟨k,hk,rfl,rfl,rfl,hb⟩
 refine ab.of (λh=>?_) (λh=>?_) <;> simp only[dTx,dFx]at h
 · have hlt:k<s.length:=by omega
   have hlow:=KO s[k]
   have hu:=nS s[k]
   rw[lm (i:=(k:Int)) (by simpa using hlt)]
   simp only[Int.toNat_natCast]
   refine⟨⟨by omega,h⟩,UD (w:=w1) ((xC s[k]).toNat:Nat) ?_ ?_⟩
   · refine ab.of (λh2=>?_) (λh2=>?_) <;> simp only[ge_iff_le,dTx,dFx]at h2
     · refine ab.of (λh3=>?_) (λh3=>?_) <;> simp only[ge_iff_le,dTx,dFx]at h3
       · rw[if_pos ⟨h2,h3⟩]at hlow
         exact⟨rfl,by rw[wrap_u8 (by omega) (by omega),hlow]⟩
       · rw[if_neg (λe=>h3 e.2)]at hlow
         exact⟨rfl,hlow.symm⟩
     · rw[if_neg (λe=>h2 e.1)]at hlow
       exact⟨rfl,hlow.symm⟩
   · intro k1 w2 hk1 hw2
     have ho:Ow tU8 aQ w2 NoB (some ⟨k1,0,none⟩) 1 1 [xC s[k]]:=Ow.newF ni hk1 hw2 (gh.one (pK rfl)) (show 1 <=maxLen by decide)
     have hl:(co (s.take k)).length=k:=by simp[co];omega
     refine⟨_,me bw av bS ho.all,by rw[hl];simp[IntKind.max,IntKind.bits];omega,?_⟩
     rintro _ rfl
     refine⟨s.length-(k+1),by omega,k+1,by omega,by rw[wrap_i64 (by omega) (by omega)];omega,?_,rfl,aa hb (hw2▸ai _ _) hb.size⟩
     unfold co;rw[List.take_succ_eq_append_getElem hlt,List.map_append];rfl
 · have:k=s.length:=by omega
   subst this
   rw[List.take_length];exact⟨rfl,hb⟩
theorem qP (s:List UInt8)(hs:s.length <=9223372036854775807)(w:World):Cf jG #[vS s] w (Ret λv w'=>v=.bool (dE s)/\w'=w):=by
 apply zo
 refine⟨λm i w'=>∃k:Nat,k <=s.length/\i=(k:Int)/\m=s.length-k/\(s.take k).all eA=true/\w'=w,⟨_,0,by omega,rfl,rfl,rfl,rfl⟩,?_⟩
 intro m i
 refine aJ.of ?_ _
 rintro w' ⟨k,hk,rfl,rfl,hall,rfl⟩
 refine ab.of (λh=>?_) (λh=>?_) <;> simp only[dTx,dFx]at h
 · have hlt:k<s.length:=by omega
   have hd:=SN hlt
   have bad: ¬ eA s[k]=true->(.bool false:Value)=.bool (dE s)/\w'=w':=λhn=>⟨by
     congr 1
     symm
     unfold dE
     rw[Bool.and_eq_false_iff]
     right
     rw[Bool.eq_false_iff]
     intro hc
     exact hn (List.all_eq_true.1 hc _ (List.getElem_mem hlt)),rfl⟩
   refine⟨⟨by omega,h⟩,?_⟩
   refine ab.of (λh2=>?_) (λh2=>?_) <;> simp only[dTx,dFx]at h2
   · exact bad λhc=>by have:=(hd.1 hc).1;omega
   refine⟨⟨by omega,h⟩,?_⟩
   refine ab.of (λh3=>?_) (λh3=>?_) <;> simp only[gt_iff_lt,dTx,dFx]at h3
   · exact bad λhc=>by have:=(hd.1 hc).2;omega
   · refine⟨s.length-(k+1),by omega,k+1,by omega,by rw[wrap_i64 (by omega) (by omega)];omega,rfl,?_,rfl⟩
     rw[List.take_succ_eq_append_getElem hlt,List.all_append,hall]
     simp[hd.2 ⟨by omega,by omega⟩]
 · have:k=s.length:=by omega
   subst this
   rw[List.take_length]at hall
   refine⟨?_,rfl⟩
   congr 1
   unfold dE
   rw[hall,Bool.and_true]
   cases s <;> simp
theorem ii (s:List UInt8)(c:UInt8)(hs:s.length <=100000000)(w:World):
   Cf fK #[vS s,.int .u8 ((c.toNat:Nat):Int)] w (Ret λv w'=>∃a n cp,v=.slice a n cp/\Ow tS ah w' NoB a n cp (bK c [] s)/\bU w.heap.size a/\bW w w'):=by
 apply BB
 intro k8 w8 hk8 hw8
 have hB:=(hw8▸ai w _:bW w w8)
 have ho8:Ow tS ah w8 NoB (some ⟨k8,0,none⟩) 0 0 []:=Ow.newF (dN _) hk8 hw8 (gh.nil _ _ _) (Nat.zero_le _)
 refine⟨λm a n cp fr i w'=>∃(k j:Nat) (done:List (List UInt8)),k <=s.length/\j <=k/\i=(k:Int)/\fr=(j:Int)/\m=s.length-k/\done.length <=k/\bK c [] s=done++bK c ((s.take k).drop j) (s.drop k)/\
     Ow tS ah w' NoB a n cp done/\bU w.heap.size a/\bW w w',
   ⟨_,0,0,[],by omega,by omega,rfl,rfl,rfl,Nat.le_refl _,rfl,ho8,jc hk8,hB⟩,?_⟩
 intro m a n cp fr i
 refine aJ.of ?_ _
 rintro w1 ⟨k,j,done,hk,hj,rfl,rfl,rfl,hdl,hcut,ho,hf,hb⟩
 refine ab.of (λh=>?_) (λh=>?_) <;> simp only[dTx,dFx]at h
 · have hlt:k<s.length:=by omega
   have ew:i64.wrap ((k:Int)+1)=((k+1:Nat):Int):=by rw[wrap_i64 (by omega) (by omega)];omega
   try dsimp only
   rw[ew,byte_at hlt,my]
   rw[SM c s _ k hlt]at hcut
   refine⟨⟨by omega,h⟩,?_⟩
   refine ab.of (λh2=>?_) (λh2=>?_)
   · rw[beq_iff_eq]at h2
     rw[if_pos h2]at hcut
     refine⟨⟨⟨by omega,by omega⟩,by omega,by omega⟩,?_⟩
     rintro _ rfl k3 w3 hk3 hw3
     simp only[Int.toNat_natCast]at hw3 ⊢
     obtain⟨w4,a4,n4,c4,hr,ho4,hf4,hb4⟩:=C4 (ty:=aH) (w0:=w) (cm:=1) (vs:=[_]) (dN _) dW dI (by decide) ho hf hb hk3 hw3 (eN trivial) (by omega)
     refine⟨w4,a4,n4,c4,hr,s.length-(k+1),by omega,k+1,k+1,_,by omega,Nat.le_refl _,rfl,rfl,rfl,?_,?_,ho4,hf4,hb4⟩
     · simp;omega
     · have hnil:(s.take (k+1)).drop (k+1)=[]:=List.drop_eq_nil_of_le (by rw[List.length_take];omega)
       rw[hcut,hnil]
       simp
   · rw[beq_eq_false_iff_ne]at h2
     rw[if_neg h2]at hcut
     refine⟨s.length-(k+1),by omega,k+1,j,done,by omega,by omega,rfl,rfl,rfl,by omega,?_,ho,hf,hb⟩
     rw[hcut,List.take_succ_eq_append_getElem hlt,List.drop_append_of_le_length (by rw[List.length_take];omega)]
 · have:k=s.length:=by omega
   subst this
   refine⟨⟨by omega,by omega⟩,?_⟩
   rintro _ rfl k3 w3 hk3 hw3
   simp only[Int.toNat_natCast]at hw3 ⊢
   obtain⟨w4,a4,n4,c4,hr,ho4,hf4,hb4⟩:=C4 (ty:=aH) (w0:=w) (cm:=1) (vs:=[_]) (dN _) dW dI (by decide) ho hf hb hk3 hw3 (eN trivial) (by omega)
   refine⟨w4,a4,n4,c4,hr,_,_,_,rfl,?_,hf4,hb4⟩
   rw[hcut]
   simpa[bK]using ho4
theorem lT (s:List UInt8)(hs:s.length <=9223372036854775000)(w:World):
   Cf ia #[vS s] w (Ret λv w'=>v=(if nK s then .tuple #[vI (ez s),.bool true]else .tuple #[vI 0,.bool false])/\w'=w):=by
 apply zp
 refine gE (λw'=>nK s/\w'=w) ?_ ?_
 · refine aw (qP s (by omega) w) ?_
   rintro _ w' ⟨rfl,hw⟩
   rw[hw]
   refine⟨_,rfl,?_⟩
   have bad: ¬ nK s->(.tuple #[vI 0,.bool false]:Value)=(if nK s then .tuple #[vI (ez s),.bool true]else .tuple #[vI 0,.bool false])/\w=w:=λhn=>⟨by rw[if_neg hn],rfl⟩
   refine ab.of (λh=>bad λhn=>by rw[hn.1]at h;cases h) (λh=>?_)
   have hd:dE s=true:=by simpa using h
   refine ab.of (λh2=>bad λhn=>by have:=hn.2.1;simp at h2;omega) (λh2=>?_)
   have hl:s.length <=18:=by simp at h2;omega
   refine ab.of (λh3=>?_) (λh3=>?_) <;> simp only[dTx,dFx]at h3
   · have hl1:1<s.length:=by omega
     refine⟨⟨by decide,by omega⟩,?_⟩
     have hb:=byte_at (s:=s) (k:=0) (by omega)
     rw[show((0:Nat):Int)=0 from rfl]at hb
     have hu:=my s[0] 48
     rw[show(((48:UInt8).toNat:Nat):Int)=48 from rfl]at hu
     rw[hb,hu]
     have hhd:s.head?=some s[0]:=by rw[List.head?_eq_getElem?,List.getElem?_eq_getElem]
     refine ab.of (λh4=>bad λhn=>hn.2.2 ⟨?_,hl1⟩) (λh4=>⟨⟨hd,hl,λhn=>?_⟩,rfl⟩)
     · rw[beq_iff_eq]at h4;rw[hhd,h4]
     · rw[hhd]at hn
       rw[Option.some.inj hn.1]at h4;simp at h4
   · exact⟨⟨hd,hl,λhn=>h3 (by omega)⟩,rfl⟩
 · rintro w' ⟨hn,hw⟩
   rw[hw]
   have hdg:∀c∈s,eA c=true:=by
     have:=hn.1
     unfold dE at this
     rw[Bool.and_eq_true]at this
     exact λc hc=>List.all_eq_true.1 this.2 c hc
   have hl:=hn.2.1
   refine⟨λm v i w'=>∃k:Nat,k <=s.length/\i=(k:Int)/\m=s.length-k/\v=ez (s.take k)/\w'=w,⟨_,0,by omega,rfl,rfl,rfl,rfl⟩,?_⟩
   intro m v i
   refine aJ.of ?_ _
   rintro w' ⟨k,hk,rfl,rfl,rfl,hw'⟩
   rw[hw']
   refine ab.of (λh=>?_) (λh=>?_) <;> simp only[dTx,dFx]at h
   · have hlt:k<s.length:=by omega
     rw[byte_at hlt]
     have hc:=hdg s[k] (List.getElem_mem hlt)
     have hu:=nS s[k]
     have hb:=jt (s.take k) 0 (by decide) (λc hc=>hdg c (List.mem_of_mem_take hc))
     have hpow:(10:Int) ^ (s.take k).length <=10 ^ 17:=by
       have:(s.take k).length <=17:=by rw[List.length_take];omega
       exact_mod_cast Nat.pow_le_pow_right (by decide:0<10) this
     have hb2:0 <=ez (s.take k)/\ez (s.take k)<10 ^ 17:=⟨hb.1,by
       have h2:=hb.2
       have:ez (s.take k)<(0+1)*10 ^ (s.take k).length:=h2
       omega⟩
     refine⟨⟨by omega,h⟩,s.length-(k+1),by omega,k+1,by omega,by rw[wrap_i64 (by omega) (by omega)];omega,rfl,?_,rfl⟩
     rw[wrap_i64 (n:=ez (s.take k)*10) (by omega) (by omega),wrap_i64 (n:=((s[k].toNat:Nat):Int)) (by omega) (by omega),wrap_i64 (n:=_+_) (by omega) (by omega),wrap_i64 (by omega) (by omega),List.take_succ_eq_append_getElem hlt]
     unfold ez
     rw[List.foldl_append]
     show _=_*10+(((s[k].toNat:Nat):Int)-48)
     omega
   · have:k=s.length:=by omega
     subst this
     rw[List.take_length,if_pos hn];exact⟨rfl,rfl⟩
theorem JH (s:List UInt8)(hs:s.length <=100000000)(w:World):Cf xl #[vS s] w (Ret λv w'=>v=adT (v4V s)/\bW w w'):=by
 apply H0
 intro k2 w2 hk2 hw2
 have hB2:=(hw2▸ai w _:bW w w2)
 have h2:ao w2 k2 am (adC ad0):=ao.new hk2 hw2
 intro k5 w4 hk5 hw4
 have hb4:=(hw4▸ai w2 _:bW w2 w4)
 have hB4:=aa hB2 hb4 hB2.size
 have h54:ao w4 k5 am (adC ad0):=ao.new hk5 hw4
 obtain⟨w5,hs5,h55,hg5⟩:=cj.store0 (cs:=adC ad0) rfl (eY _) h54 rfl
 refine⟨w5,hs5,?_⟩
 have hk5w:w.heap.size <=k5:=by have:=hB2.size;omega
 have hlt2:=h2.lt
 have h25:=(h2.below hb4).grown hg5 (bF (by omega))
 have hB5:=Below.put hB4 hg5 hk5w
 refine aw (ii s 46 hs w5) ?_
 rintro _ w3 ⟨a,n,c,rfl,ho,hf,hb3⟩
 have hB3:=aa hB5 hb3 hB5.size
 have h23:=h25.below hb3
 have h53:=h55.below hb3
 have hn:=ho.len
 have hlens:∀x∈bK 46 [] s,x.length <=s.length:=λx hx=>by simpa using fI 46 s [] x hx
 have none_end:∀{wx:World},v4V s=none->ao wx k2 am (adC ad0)->bW w wx->_:=fun{wx} hv h2x hBx=>cj.fin (K:=λvr wy=>(.tuple #[vr,.bool false]:Value)=adT (v4V s)/\bW w wy) (cs:=adC ad0) rfl (eY _) h2x rfl hBx (by omega) λwy hb=>⟨by rw[hv];rfl,hb⟩
 refine⟨_,_,_,rfl,ab.of (λh4=>?_) (λh4=>?_)⟩
 · refine none_end (Sc λhc=>?_) h23 hB3
   rw[bne_iff_ne]at h4;omega
 have hl4:(bK 46 [] s).length=4:=by simp at h4;omega
 have hlt5:=h55.lt
 have hog:∀g,eJ a=some g->g≠k5:=λg hg e=>by have:=hf g hg;omega
 obtain⟨L,hL⟩:∃L,L=bK 46 [] s:=⟨_,rfl⟩
 rw[<- hL]at ho hl4 hlens hn
 have hv4:v4V s=if L.length=4/\∀x∈L,CS x then some (List.replicate 12 0++L.map ipB)else none:=by rw[hL];rfl
 refine⟨λm i w'=>∃k:Nat,k <=4/\i=(k:Int)/\m=4-k/\(∀j (hj:j<k) (h:j<L.length),CS L[j])/\ao w' k5 am (adC (v4S L k))/\ao w' k2 am (adC ad0)/\Ow tS ah w' NoB a n c L/\bW w w',
   ⟨_,0,by omega,rfl,rfl,λj hj=>by omega,h53,h23,ho,hB3⟩,?_⟩
 intro m i
 refine aJ.of ?_ _
 rintro w6 ⟨k,hk,rfl,rfl,hok,h56,h26,ho6,hB6⟩
 refine ab.of (λh=>?_) (λh=>?_) <;> simp only[dTx,dFx]at h
 · have hk4:k<4:=by omega
   have hkL:k<L.length:=by omega
   refine⟨⟨⟨by omega,by omega⟩,ho6.all.isSome (by omega)⟩,_,ho6.all.text av hkL,?_⟩
   have hlk:=hlens L[k] (List.getElem_mem hkL)
   refine aw (lT L[k] (by omega) w6) ?_
   rintro _ w7 ⟨rfl,hw7⟩
   have hb7:bW w6 w7:=hw7▸Below.refl _ _
   have hB7:=aa hB6 hb7 hB6.size
   have hnone: ¬ CS L[k]->v4V s=none:=λhx=>by
     rw[hv4,if_neg λhc=>hx (hc.2 _ (List.getElem_mem hkL))]
   refine⟨if nK L[k]then ez L[k]else 0,if nK L[k]then true else false,by split <;> rfl,?_⟩
   refine⟨λw'=>w'=w7/\CS L[k],?_,?_⟩
   · refine iU (B:=λJ=>ab _ (J true w7) (J _ w7)) (!decide (CS L[k])) (ab.of (λh1=>⟨rfl,?_⟩) (λh1=>⟨rfl,?_⟩)) ?_
     · have: ¬ nK L[k]:=λhc=>by rw[if_pos hc]at h1;cases h1
       have h2: ¬ CS L[k]:=λhc=>this hc.1
       simp[h2]
     · have hnp:nK L[k]:=Decidable.byContradiction λhc=>by rw[if_neg hc]at h1;cases h1
       rw[if_pos hnp,Bool.eq_iff_iff]
       simp[CS,hnp]
     · refine ab.of (λh1=>none_end (hnone (by simpa using h1)) (h26.below hb7) hB7) (λh1=>⟨rfl,by simpa using h1⟩)
   · refine aJ.of ?_ _
     rintro wj ⟨hwj,hip⟩
     rw[hwj];clear hwj
     have e12:i64.wrap (12+(k:Int))=((12+k:Nat):Int):=by rw[wrap_i64 (by omega) (by omega)];omega
     try dsimp only
     rw[e12,gR,if_pos hip.1,RX hip,Nat.zero_add]
     refine⟨⟨⟨by omega,by omega⟩,rfl⟩,?_⟩
     have h57:=h56.below hb7
     obtain⟨w8,hs8,h58,hg8⟩:=h57.put (P:=prog) gn (i:=12+k) (v:=.int .u8 (((ipB L[k]).toNat:Nat):Int)) (by rw[cZ,GC hl4 (by omega)];omega) rfl rfl
     rw[tV,Pu hl4 hk4]at h58
     refine⟨w8,hs8,4-(k+1),by omega,k+1,by omega,by rw[wrap_i64 (by omega) (by omega)];omega,rfl,?_,h58,(h26.below hb7).grown hg8 (bF (by omega)),(ho6.below hb7).put hog hg8,Below.put hB7 hg8 hk5w⟩
     intro j hj hjl
     by_cases e:j=k
     · subst e;exact hip
     · exact hok j (by omega) hjl
 · have:k=4:=by omega
   subst this
   have hall:∀x∈L,CS x:=λx hx=>by
     obtain⟨j,hj,rfl⟩:=List.mem_iff_getElem.1 hx
     exact hok j (by omega) hj
   have hv:v4V s=some (v4S L 4):=by rw[hv4,if_pos ⟨hl4,hall⟩,UY hl4]
   have hlen:(adC (v4S L 4)).length=16:=by rw[cZ,GC hl4 (by omega)]
   refine⟨_,cj.load0 h56 hlen,?_⟩
   exact cj.fin (K:=λvr wy=>(.tuple #[vr,.bool true]:Value)=adT (v4V s)/\bW w wy) hlen (eY _) h26 rfl hB6 (by omega) λwy hb=>⟨by rw[hv];rfl,hb⟩
theorem GV {s:List UInt8}{p:Nat}(h:at2 s p):s=s.take p++58::58::s.drop (p+2):=by
 obtain⟨h1,h2⟩:=h
 obtain⟨l1,e1⟩:=List.getElem?_eq_some_iff.1 h1
 obtain⟨l2,e2⟩:=List.getElem?_eq_some_iff.1 h2
 conv=>lhs;rw[<- List.take_append_drop p s,List.drop_eq_getElem_cons l1,List.drop_eq_getElem_cons l2,e1,e2]
theorem D9 (c:UInt8)(r:List UInt8)(h:r=[]\/∃t,r=c::t):([]:List UInt8)∈bK c [] r:=by
 rcases h with rfl|⟨t,rfl⟩
 · simp[bK]
 · show _∈(if c=c then _ else _)
   rw[if_pos rfl];simp
theorem UK {l:List (List UInt8)}(h:([]:List UInt8)∈l):l.all dZ=false:=by
 rw[Bool.eq_false_iff]
 intro hc
 have:=List.all_eq_true.1 hc [] h
 revert this;decide
theorem SQ {s:List UInt8}(h:e8 s=true)(i:Nat): ¬ at2 s i:=by
 intro hi
 unfold e8 at h
 rw[Bool.and_eq_true]at h
 have hm:([]:List UInt8)∈bK 58 [] s:=by
   rw[GV hi,ix]
   exact List.mem_append_right _ (D9 58 _ (.inr ⟨_,rfl⟩))
 rw[UK hm]at h
 exact absurd h.2 (by decide)
theorem late {s:List UInt8}{p q:Nat}(h:at2 s p)(hq:p<q)(hq2:at2 s q):(dJ (s.take q)).all dZ=false:=by
 have hl:=(List.getElem?_eq_some_iff.1 hq2.1).1
 have hs:=GV h
 have hp:p<s.length:=by omega
 have hne:s.take q≠[]:=by
   intro e
   have:=congrArg List.length e
   rw[List.length_take,List.length_nil]at this
   omega
 unfold dJ
 rw[if_neg hne]
 have e:s.take q=s.take p++58::(58::s.drop (p+2)).take (q-p-1):=by
   conv=>lhs;rw[hs]
   rw[List.take_append,List.length_take,Nat.min_eq_left (by omega),List.take_of_length_le (by rw[List.length_take];omega)]
   rw[show q-p=(q-p-1)+1 by omega,List.take_succ_cons];rfl
 rw[e,ix]
 refine UK (List.mem_append_right _ (D9 58 _ ?_))
 cases hk:q-p-1 with
 | zero=>exact .inl rfl
 | succ k=>exact .inr ⟨_,rfl⟩
def zsK:Nat->List UInt8
 | 0=>[48]
 | k+1=>zsK k++[58,48]
theorem Se:∀k,(zsK k).length=2*k+1
 | 0=>rfl
 | k+1=>by rw[zsK,List.length_append,Se k];simp;omega
theorem M5:∀k,bK 58 [] (zsK k)=List.replicate (k+1) [48]
 | 0=>rfl
 | k+1=>by
   rw[zsK,ix,M5 k,List.replicate_succ' (n:=k+1)];rfl
def yb (f:List UInt8):List UInt8:=if f=[]then[]else f++[58]
def IK (b:List UInt8):List UInt8:=if b=[]then[]else 58::b
def Lf (f b:List UInt8)(k:Nat):List UInt8:=yb f++zsK k++IK b
theorem M4 (f b:List UInt8)(k:Nat):bK 58 [] (Lf f b k)=dJ f++List.replicate (k+1) [48]++dJ b:=by
 unfold Lf yb IK dJ
 have e:∀b:List UInt8,bK 58 [] (zsK k++if b=[]then[]else 58::b)=List.replicate (k+1) [48]++(if b=[]then[]else bK 58 [] b):=by
   intro b
   split
   · rw[List.append_nil,List.append_nil,M5]
   · rw[ix,M5]
 by_cases hf:f=[]
 · rw[if_pos hf,if_pos hf,List.nil_append,e,List.nil_append]
 · rw[if_neg hf,if_neg hf,List.append_assoc,List.append_assoc,List.singleton_append,ix,e,List.append_assoc]
theorem Ni (f b:List UInt8)(k:Nat):e8 (Lf f b k)=true ↔ ((dJ f).all dZ=true/\(dJ b).all dZ=true)/\(dJ f).length+(k+1)+(dJ b).length=8:=by
 unfold e8
 rw[M4]
 have h0:dZ [48]=true:=by decide
 have hz:(List.replicate (k+1) ([48]:List UInt8)).all dZ=true:=List.all_eq_true.2 λx hx=>by rw[(List.mem_replicate.1 hx).2];exact h0
 rw[List.all_append,List.all_append,hz,Bool.and_true,Bool.and_eq_true,Bool.and_eq_true,dTx,List.length_append,List.length_append,List.length_replicate]
 exact And.comm
theorem T1 {f b:List UInt8}{k:Nat}(h:e8 (Lf f b k)=true):(bK 58 [] (Lf f b k)).map oq=v6L (dJ f) (dJ b):=by
 have hk:=((Ni f b k).1 h).2
 rw[M4,List.map_append,List.map_append,List.map_replicate,show oq [48]=0 by decide]
 unfold v6L
 rw[show 8-(dJ f).length-(dJ b).length=k+1 by omega]
theorem VI {s:List UInt8}(h:e8 s=true):v6V s=some ((bK 58 [] s).map oq):=by
 rcases vf s with⟨h1,h2⟩|⟨p,h1,h2,h3⟩
 · unfold v6V
   have hc:=h
   unfold e8 at hc
   rw[Bool.and_eq_true,dTx]at hc
   have hn:s≠[]:=by rintro rfl;exact absurd hc.1 (by decide)
   have hr:dJ s=bK 58 [] s:=by unfold dJ;rw[if_neg hn]
   have hr0:dJ []=[]:=rfl
   rw[h1]
   simp only[hr,hr0]
   rw[if_pos]
   · unfold v6L
     rw[hc.1]
     simp
   · unfold Jc
     rw[hc.2]
     simp[hc.1]
 · exact absurd h2 (SQ h p)
theorem VJ {s:List UInt8}(h:e8 s=false)(hn:∀i,¬ at2 s i):v6V s=none:=by
 rcases vf s with⟨h1,h2⟩|⟨p,h1,h2,h3⟩
 · unfold v6V
   rw[h1]
   rw[if_neg]
   intro hc
   have hr0:dJ []=[]:=rfl
   unfold Jc at hc
   simp only[hr0,List.all_nil,Bool.and_true,Bool.and_eq_true,List.length_nil,Nat.add_zero]at hc
   have hc2:(dJ s).all dZ=true/\(dJ s).length=8:=by simpa using hc
   unfold dJ at hc2
   split at hc2
   · exact absurd hc2.2 (by decide)
   · rw[<- Bool.not_eq_true]at h
     refine h ?_
     unfold e8
     rw[hc2.1,hc2.2];rfl
 · exact absurd h2 (hn p)
theorem UZ {s:List UInt8}{p:Nat}(h:at2 s p)(h2:∀j,j<p-> ¬ at2 s j):
   v6V s=if((dJ (s.take p)).all dZ=true/\(dJ (s.drop (p+2))).all dZ=true)/\(dJ (s.take p)).length+(dJ (s.drop (p+2))).length<8 then some (v6L (dJ (s.take p)) (dJ (s.drop (p+2))))else none:=by
 rcases vf s with⟨h1,h3⟩|⟨q,h1,h3,h4,h5⟩
 · exact absurd h (h3 p)
 · have e:q=p:=by
     rcases Nat.lt_trichotomy q p with hl|hl|hl
     · exact absurd h3 (h2 q hl)
     · exact hl
     · exact absurd h (h4 p hl)
   subst e
   unfold v6V Jc
   rw[h1]
   simp only[if_true,Bool.and_eq_true,dTx]
def e8V (s:List UInt8):Option (List UInt8):=if e8 s=true then some (mw ((bK 58 [] s).map oq))else none
theorem C8 (c:UInt8)(w:World):Cf oQ #[.int .u8 ((c.toNat:Nat):Int)] w (Ret λv w'=>v=vI (if mx c=true then(xw c:Int)else -1)/\w'=w):=by
 apply BG
 have hu:=nS c
 have h16:mx c=decide (xw c<16):=rfl
 refine si (w:=w) (¬ (48 <=c.toNat/\c.toNat <=57)) (Vm (ab.of (λh=>?_) (λh=>⟨rfl,by simp at h;omega⟩))) (λh1=>?_)
 · have:48 <=c.toNat/\c.toNat <=57:=by simp at h;omega
   have e:xw c=c.toNat-48:=by unfold xw;rw[if_pos this]
   rw[h16,e,if_pos (by simp;omega),wrap_i64 (n:=((c.toNat:Nat):Int)) (by omega) (by omega),wrap_i64 (by omega) (by omega)]
   exact⟨by congr 1;omega,rfl⟩
 refine si (w:=w) (¬ (97 <=c.toNat/\c.toNat <=102)) (Vm (ab.of (λh=>?_) (λh=>⟨rfl,by simp at h;omega⟩))) (λh2=>?_)
 · have:97 <=c.toNat/\c.toNat <=102:=by simp at h;omega
   have e:xw c=c.toNat-87:=by unfold xw;rw[if_neg h1,if_pos this]
   rw[h16,e,if_pos (by simp;omega),wrap_i64 (n:=((c.toNat:Nat):Int)) (by omega) (by omega),wrap_i64 (by omega) (by omega)]
   exact⟨by congr 1;omega,rfl⟩
 refine Vm (ab.of (λh=>?_) (λh=>?_))
 · have:65 <=c.toNat/\c.toNat <=70:=by simp at h;omega
   have e:xw c=c.toNat-55:=by unfold xw;rw[if_neg h1,if_neg h2,if_pos this]
   rw[h16,e,if_pos (by simp;omega),wrap_i64 (n:=((c.toNat:Nat):Int)) (by omega) (by omega),wrap_i64 (by omega) (by omega)]
   exact⟨by congr 1;omega,rfl⟩
 · have: ¬ (65 <=c.toNat/\c.toNat <=70):=by simp at h;omega
   have e:xw c=16:=by unfold xw;rw[if_neg h1,if_neg h2,if_neg this]
   rw[h16,e,if_neg (by decide)]
   exact⟨rfl,rfl⟩
theorem sF (s:List UInt8)(hs:s.length <=100000000)(w:World):Cf kK #[vS s] w (Ret λv w'=>v=adT (e8V s)/\bW w w'):=by
 apply BH
 intro k2 w2 hk2 hw2
 have hB2:=(hw2▸ai w _:bW w w2)
 have h2:ao w2 k2 am (adC ad0):=ao.new hk2 hw2
 intro k5 w4 hk5 hw4
 have hb4:=(hw4▸ai w2 _:bW w2 w4)
 have hB4:=aa hB2 hb4 hB2.size
 have h54:ao w4 k5 am (adC ad0):=ao.new hk5 hw4
 obtain⟨w5,hs5,h55,hg5⟩:=cj.store0 (cs:=adC ad0) rfl (eY _) h54 rfl
 refine⟨w5,hs5,?_⟩
 have hk5w:w.heap.size <=k5:=by have:=hB2.size;omega
 have hlt2:=h2.lt
 have h25:=(h2.below hb4).grown hg5 (bF (by omega))
 have hB5:=Below.put hB4 hg5 hk5w
 refine aw (ii s 58 hs w5) ?_
 rintro _ w3 ⟨a,n,c,rfl,ho,hf,hb3⟩
 have hB3:=aa hB5 hb3 hB5.size
 have h23:=h25.below hb3
 have h53:=h55.below hb3
 have hn:=ho.len
 have hlens:∀x∈bK 58 [] s,x.length <=s.length:=λx hx=>by simpa using fI 58 s [] x hx
 have none_end:∀{wx:World},e8 s=false->ao wx k2 am (adC ad0)->bW w wx->_:=fun{wx} hv h2x hBx=>cj.fin (K:=λvr wy=>(.tuple #[vr,.bool false]:Value)=adT (e8V s)/\bW w wy) (cs:=adC ad0) rfl (eY _) h2x rfl hBx (by omega) λwy hb=>⟨by unfold e8V;rw[hv];rfl,hb⟩
 refine⟨_,_,_,rfl,ab.of (λh4=>?_) (λh4=>?_)⟩
 · refine none_end ?_ h23 hB3
   rw[bne_iff_ne]at h4
   unfold e8
   rw[decide_eq_false (by omega),Bool.false_and]
 have hl8:(bK 58 [] s).length=8:=by simp at h4;omega
 have hlt5:=h55.lt
 have hog:∀g,eJ a=some g->g≠k5:=λg hg e=>by have:=hf g hg;omega
 have he8:e8 s=(bK 58 [] s).all dZ:=by unfold e8;rw[decide_eq_true hl8,Bool.true_and]
 have he8V:e8 s=true->e8V s=some (mw ((bK 58 [] s).map oq)):=λh=>if_pos h
 obtain⟨L,hL⟩:∃L,L=bK 58 [] s:=⟨_,rfl⟩
 rw[<- hL]at ho hl8 hlens hn he8 he8V
 have hbad:∀{x},x∈L->dZ x=false->e8 s=false:=fun{x} hx hg=>by
   rw[he8,Bool.eq_false_iff]
   intro hc
   rw[List.all_eq_true.1 hc x hx]at hg;cases hg
 have hG:(L.map oq).length=8:=by simp[hl8]
 refine⟨λm i w'=>∃k:Nat,k <=8/\i=(k:Int)/\m=8-k/\(∀j (hj:j<k) (h:j<L.length),dZ L[j]=true)/\ao w' k5 am (adC (LL (L.map oq) k))/\ao w' k2 am (adC ad0)/\Ow tS ah w' NoB a n c L/\bW w w',
   ⟨_,0,by omega,rfl,rfl,λj hj=>by omega,h53,h23,ho,hB3⟩,?_⟩
 intro m i
 refine aJ.of ?_ _
 rintro w6 ⟨k,hk,rfl,rfl,hok,h56,h26,ho6,hB6⟩
 refine ab.of (λh=>?_) (λh=>?_) <;> simp only[dTx,dFx]at h
 · have hk8:k<8:=by omega
   have hkL:k<L.length:=by omega
   have hld:=ho6.all.text (P:=prog) av hkL
   have hlk:=hlens L[k] (List.getElem_mem hkL)
   have hin:(0 <=(k:Int)/\(k:Int)<((n:Nat):Int))/\Option.isSome a=true:=⟨⟨by omega,by omega⟩,ho6.all.isSome (by omega)⟩
   have hmem:L[k]∈L:=List.getElem_mem hkL
   refine si (w:=w6) (1 <=L[k].length/\L[k].length <=4) ?_ (λhl4=>?_)
   · refine⟨λb w'=>w'=w6/\b=(!(decide (1 <=L[k].length)&&decide (L[k].length <=4))),⟨hin,_,hld,ab.of (λh1=>⟨rfl,?_⟩) (λh1=>⟨hin,_,hld,rfl,?_⟩)⟩,?_⟩
     · have: ¬ 1 <=L[k].length:=by simp at h1;omega
       simp[this]
     · have:1 <=L[k].length:=by simp at h1;omega
       rw[decide_eq_true this,Bool.true_and,Bool.eq_iff_iff];simp;omega
     · intro b
       refine aJ.of ?_ _
       rintro wj ⟨hwj,hb⟩
       rw[hwj,hb];clear hwj hb
       refine ab.of (λh1=>none_end (hbad hmem ?_) h26 hB6) (λh1=>⟨rfl,by simpa using h1⟩)
       unfold dZ
       have h1':(decide (1 <=L[k].length)&&decide (L[k].length <=4))=false:=by simpa only[Bool.not_eq_true']using h1
       rw[h1',Bool.false_and]
   · refine⟨λm v i w'=>w'=w6/\∃j:Nat,j <=L[k].length/\i=(j:Int)/\m=L[k].length-j/\v=((oq (L[k].take j):Nat):Int)/\∀q (hq:q<j) (h:q<L[k].length),mx (L[k][q])=true,
       ⟨_,rfl,0,by omega,rfl,rfl,rfl,λq hq=>by omega⟩,?_⟩
     intro m v i
     refine aJ.of ?_ _
     rintro wj ⟨hwj,j,hj,rfl,rfl,rfl,hx⟩
     rw[hwj];clear hwj
     refine⟨hin,_,hld,?_⟩
     have hgl:=AG hx (by omega)
     refine ab.of (λh5=>?_) (λh5=>?_) <;> simp only[dTx,dFx]at h5
     · have hjl:j<L[k].length:=by omega
       refine⟨hin,_,hld,⟨by omega,h5⟩,?_⟩
       rw[byte_at hjl]
       refine aw (C8 (L[k][j]) w6) ?_
       rintro _ w7 ⟨rfl,hw7⟩
       rw[hw7]
       refine⟨_,rfl,?_⟩
       by_cases hh:mx (L[k][j])=true
       · rw[if_pos hh]
         have h16:xw (L[k][j])<16:=by simpa[mx]using hh
         refine ab.no (by simp) ⟨L[k].length-(j+1),by omega,rfl,j+1,by omega,by rw[wrap_i64 (by omega) (by omega)];omega,rfl,?_,λq hq hql=>?_⟩
         · rw[wrap_i64 (n:=_*_) (by omega) (by omega),wrap_i64 (by omega) (by omega),KB _ hjl];omega
         · by_cases e:q=j
           · subst e;exact hh
           · exact hx q (by omega) hql
       · rw[if_neg hh]
         refine ab.yes (by decide) (none_end (hbad hmem ?_) h26 hB6)
         unfold dZ
         have:(L[k]).all mx=false:=by
           rw[Bool.eq_false_iff]
           intro hc
           exact hh (List.all_eq_true.1 hc _ (List.getElem_mem hjl))
         rw[this,Bool.and_false]
     · have:j=L[k].length:=by omega
       subst this
       rw[List.take_length]at hgl ⊢
       have hg:dZ L[k]=true:=by
         unfold dZ
         rw[decide_eq_true hl4.1,decide_eq_true hl4.2,Bool.true_and,Bool.true_and]
         exact List.all_eq_true.2 λc hc=>by
           obtain⟨q,hq,rfl⟩:=List.mem_iff_getElem.1 hc
           exact hx q hq hq
       have hGk:(L.map oq)[k]'(by omega)=oq L[k]:=by simp
       refine⟨by decide,?_⟩
       rintro _ rfl
       have e1:i64.wrap (2*(k:Int))=((2*k:Nat):Int):=by rw[wrap_i64 (by omega) (by omega)];omega
       have e2:i64.wrap (((2*k:Nat):Int)+1)=((2*k+1:Nat):Int):=by rw[wrap_i64 (by omega) (by omega)];omega
       have e3:IntKind.u8.wrap (i64.wrap (Int.tdiv ((oq L[k]:Nat):Int) 256))=(((UInt8.ofNat (oq L[k]/256)).toNat:Nat):Int):=by
         rw[dD (by omega),wrap_i64 (by omega) (by omega),wrap_u8 (by omega) (by omega),Im (by omega)];omega
       have e4:IntKind.u8.wrap (Int.tmod ((oq L[k]:Nat):Int) 256)=(((UInt8.ofNat (oq L[k]%256)).toNat:Nat):Int):=by
         rw[gp (by omega),wrap_u8 (by omega) (by omega),Im (by omega)];omega
       rw[e1,e2,gR,gR,e3]
       simp only[Nat.zero_add]
       have hlen:=zJ hG hk
       obtain⟨w8,hs8,h58,hg8⟩:=h56.put (P:=prog) gn (i:=2*k) (v:=.int .u8 (((UInt8.ofNat (oq L[k]/256)).toNat:Nat):Int)) (by rw[cZ,hlen];omega) rfl rfl
       rw[tV]at h58
       refine⟨⟨⟨by omega,by omega⟩,trivial⟩,w8,hs8,by decide,?_⟩
       rintro _ rfl
       rw[e4]
       obtain⟨w9,hs9,h59,hg9⟩:=h58.put (P:=prog) gn (i:=2*k+1) (v:=.int .u8 (((UInt8.ofNat (oq L[k]%256)).toNat:Nat):Int)) (by rw[cZ,List.length_set,hlen];omega) rfl rfl
       rw[tV,<- hGk,KA hG hk8]at h59
       refine⟨⟨⟨by omega,by omega⟩,trivial⟩,w9,hs9,8-(k+1),by omega,k+1,by omega,by rw[wrap_i64 (by omega) (by omega)];omega,rfl,?_,h59,(h26.grown hg8 (bF (by omega))).grown hg9 (bF (by omega)),(ho6.put hog hg8).put hog hg9,Below.put (Below.put hB6 hg8 hk5w) hg9 hk5w⟩
       intro q hq hql
       by_cases e:q=k
       · subst e;exact hg
       · exact hok q (by omega) hql
 · have:k=8:=by omega
   subst this
   have hv:e8 s=true:=by
     rw[he8]
     exact List.all_eq_true.2 λx hx=>by
       obtain⟨j,hj,rfl⟩:=List.mem_iff_getElem.1 hx
       exact hok j (by omega) hj
   have hlen:(adC (LL (L.map oq) 8)).length=16:=by rw[cZ,zJ hG (by omega)]
   refine⟨_,cj.load0 h56 hlen,?_⟩
   exact cj.fin (K:=λvr wy=>(.tuple #[vr,.bool true]:Value)=adT (e8V s)/\bW w wy) hlen (eY _) h26 rfl hB6 (by omega) λwy hb=>⟨by rw[he8V hv,<- RU hG];rfl,hb⟩
theorem Qm (s:List UInt8):U4 (e8V s):=λa h=>by
 unfold e8V at h
 split at h
 · rename_i h8
   unfold e8 at h8
   rw[Bool.and_eq_true,dTx]at h8
   rw[<- Option.some.inj h,qH,List.length_map,h8.1]
 · cases h
theorem JJ (s:List UInt8)(hs:s.length <=99999000)(w:World):Cf xm #[vS s] w (Ret λv w'=>v=adT (v6A s)/\bW w w'):=by
 apply H1
 intro k2 w2 hk2 hw2
 have hB2:=(hw2▸ai w _:bW w w2)
 have h2:ao w2 k2 am (adC ad0):=ao.new hk2 hw2
 refine aw (sF s (by omega) w2) ?_
 rintro _ w3 ⟨rfl,hb3⟩
 have hB3:=aa hB2 hb3 hB2.size
 have h23:=h2.below hb3
 refine⟨_,_,by rw[D0],?_⟩
 refine cj.new (zs:=adC ad0) (cs:=adC ((e8V s).getD ad0)) rfl (xV (Qm s)) (eY _) w3 λk4 w4 hk4 h44 hb4=>?_
 have hB4:=aa hB3 hb4 hB3.size
 have h24:=h23.below hb4
 have good:∀{x:List UInt8} {wx:World},v6A s=some x->ao wx k2 am (adC ad0)->bW w wx->_:=fun{x wx} hv h2x hBx=>cj.fin (K:=λvr wy=>(.tuple #[vr,.bool true]:Value)=adT (v6A s)/\bW w wy) (cs:=adC x) (by rw[cZ];exact Pv s _ hv) (eY _) h2x rfl hBx (by omega) λwy hb=>⟨by rw[hv];rfl,hb⟩
 refine ab.of (λh=>?_) (λh=>?_)
 · have h8:e8 s=true:=by
     unfold e8V at h
     split at h
     · assumption
     · cases h
   refine⟨_,cj.load0 h44 (xV (Qm s)),?_⟩
   have he:e8V s=some (mw ((bK 58 [] s).map oq)):=if_pos h8
   rw[he]
   exact good (x:=mw ((bK 58 [] s).map oq)) (by unfold v6A;rw[VI h8];rfl) h24 hB4
 have h8:e8 s=false:=by
   unfold e8V at h
   split at h
   · cases h
   · rename_i hne;simpa using hne
 refine⟨λm i w'=>∃k:Nat,k <=s.length/\i=(k:Int)/\m=s.length-k/\
     (∀j,j<k->at2 s j->(∀i,i<j-> ¬ at2 s i)-> ¬ (((dJ (s.take j)).all dZ=true/\(dJ (s.drop (j+2))).all dZ=true)/\(dJ (s.take j)).length+(dJ (s.drop (j+2))).length<8))/\
     ao w' k2 am (adC ad0)/\bW w w',⟨_,0,by omega,rfl,rfl,λj hj=>by omega,h24,hB4⟩,?_⟩
 intro m i
 refine aJ.of ?_ _
 rintro w5 ⟨k,hk,rfl,rfl,hno,h25,hB5⟩
 have e2:i64.wrap ((k:Int)+2)=((k+2:Nat):Int):=by rw[wrap_i64 (by omega) (by omega)];omega
 have e1:i64.wrap ((k:Int)+1)=((k+1:Nat):Int):=by rw[wrap_i64 (by omega) (by omega)];omega
 rw[e2,e1]
 refine ab.of (λh=>?_) (λh=>?_) <;> simp only[dTx,dFx]at h
 · have hk2':k+2 <=s.length:=by omega
   have hk0:k<s.length:=by omega
   have hk1:k+1<s.length:=by omega
   have hstep:∀{wx:World},(at2 s k->(∀i,i<k-> ¬ at2 s i)-> ¬ (((dJ (s.take k)).all dZ=true/\(dJ (s.drop (k+2))).all dZ=true)/\(dJ (s.take k)).length+(dJ (s.drop (k+2))).length<8))->
       ao wx k2 am (adC ad0)->bW w wx->∃m':Nat,m'<s.length-k/\∃k':Nat,k' <=s.length/\((k+1:Nat):Int)=(k':Int)/\m'=s.length-k'/\
     (∀j,j<k'->at2 s j->(∀i,i<j-> ¬ at2 s i)-> ¬ (((dJ (s.take j)).all dZ=true/\(dJ (s.drop (j+2))).all dZ=true)/\(dJ (s.take j)).length+(dJ (s.drop (j+2))).length<8))/\
     ao wx k2 am (adC ad0)/\bW w wx:=fun{wx} hc h2x hBx=>⟨s.length-(k+1),by omega,k+1,by omega,rfl,rfl,λj hj=>by
       by_cases e:j=k
       · subst e;exact hc
       · exact hno j (by omega),h2x,hBx⟩
   have u0:=my s[k] 58
   have u1:=my s[k+1] 58
   rw[show(((58:UInt8).toNat:Nat):Int)=58 from rfl]at u0 u1
   refine si (w:=w5) (at2 s k) ⟨⟨by omega,by omega⟩,?_⟩ (λhat=>?_)
   · rw[byte_at hk0,bne,u0]
     refine ab.of (λhx=>hstep (λhat=>?_) h25 hB5) (λhx=>⟨⟨by omega,by omega⟩,?_⟩)
     · have:=hat.1
       rw[List.getElem?_eq_getElem hk0]at this
       rw[Option.some.inj this]at hx;simp at hx
     · rw[byte_at hk1,bne,u1]
       refine ab.of (λhy=>hstep (λhat=>?_) h25 hB5) (λhy=>⟨rfl,?_⟩)
       · have:=hat.2
         rw[List.getElem?_eq_getElem hk1]at this
         rw[Option.some.inj this]at hy;simp at hy
       · exact⟨by rw[List.getElem?_eq_getElem hk0];simp at hx;rw[hx],by rw[List.getElem?_eq_getElem hk1];simp at hy;rw[hy]⟩
   · refine⟨⟨by omega,by omega⟩,?_⟩
     intro s40 e40
     refine⟨⟨by omega,by omega⟩,?_⟩
     intro s44 e44
     simp only[Int.toNat_natCast]at e40 e44
     have l40:s40.length <=s.length:=by rw[e40,List.length_take];omega
     have l44:s44.length <=s.length:=by rw[e44,List.length_drop];omega
     have l4:s40.length+s44.length+2=s.length:=by rw[e40,e44,List.length_take,List.length_drop];omega
     refine UT (B:=λJ=>ab _ (_/\∀s48,s48=(s40++[58])->J s48 w5) (J s40 w5)) (yb s40) (ab.of (λhx=>⟨fits (by simp;omega),?_⟩) (λhx=>⟨rfl,?_⟩)) ?_
     · rintro _ rfl
       exact⟨rfl,by unfold yb;rw[if_neg (by simpa using hx)]⟩
     · unfold yb;rw[if_pos (by simpa using hx)];simpa using hx
     refine UT (B:=λJ=>ab _ (_/\∀s48,s48=([58]++s44)->J s48 w5) (J s44 w5)) (IK s44) (ab.of (λhx=>⟨fits (by simp;omega),?_⟩) (λhx=>⟨rfl,?_⟩)) ?_
     · rintro _ rfl
       exact⟨rfl,by unfold IK;rw[if_neg (by simpa using hx)];rfl⟩
     · unfold IK;rw[if_pos (by simpa using hx)];simpa using hx
     have lf:(yb s40).length <=s40.length+1:=by unfold yb;split <;> simp
     have lb:(IK s44).length <=s44.length+1:=by unfold IK;split <;> simp
     refine⟨λm z i w'=>∃q:Nat,q <=8/\i=(q:Int)/\m=8-q/\z=zsK q/\(∀j,j<q->e8 (Lf s40 s44 j)=false)/\ao w' k2 am (adC ad0)/\bW w w',⟨_,0,by omega,rfl,rfl,rfl,λj hj=>by omega,h25,hB5⟩,?_⟩
     intro m z i
     refine aJ.of ?_ _
     rintro w6 ⟨q,hq,rfl,rfl,rfl,hq8,h26,hB6⟩
     have hzl:=Se q
     refine ab.of (λh5=>?_) (λh5=>?_) <;> simp only[dTx,dFx]at h5
     · refine⟨fits (by omega),?_⟩
       intro s60 e60
       have l60:s60.length=(yb s40).length+(zsK q).length:=by rw[e60,List.length_append]
       refine⟨fits (by omega),?_⟩
       intro s62 e62
       have f62:s62=Lf s40 s44 q:=by rw[e62,e60];rfl
       have l62:s62.length <=100000000:=by rw[e62,List.length_append];omega
       refine aw (sF s62 l62 w6) ?_
       rintro _ w7 ⟨rfl,hb7⟩
       have hB7:=aa hB6 hb7 hB6.size
       rw[f62]
       refine⟨_,_,by rw[D0],?_⟩
       refine cj.new (zs:=adC ad0) (cs:=adC ((e8V (Lf s40 s44 q)).getD ad0)) rfl (xV (Qm _)) (eY _) w7 λk11 w8 hk11 h118 hb8=>?_
       have hB8:=aa hB7 hb8 hB7.size
       have h28:=(h26.below hb7).below hb8
       by_cases ht:e8 (Lf s40 s44 q)=true
       · have he:e8V (Lf s40 s44 q)=some (mw ((bK 58 [] (Lf s40 s44 q)).map oq)):=if_pos ht
         have hl:=xV (Qm (Lf s40 s44 q))
         rw[he]at h118 hl ⊢
         refine ab.yes rfl ⟨_,cj.load0 h118 hl,?_⟩
         refine good (x:=mw ((bK 58 [] (Lf s40 s44 q)).map oq)) ?_ h28 hB8
         have ht2:=(Ni s40 s44 q).1 ht
         rw[T1 ht]
         have hfirst:∀j,j<k-> ¬ at2 s j:=λj hj hc=>by
           have:=late hc hj hat
           rw[<- e40,ht2.1.1]at this;cases this
         unfold v6A
         rw[UZ hat hfirst,<- e40,<- e44,if_pos ⟨ht2.1,by omega⟩];rfl
       · have he:e8V (Lf s40 s44 q)=none:=if_neg ht
         rw[he]at h118 ⊢
         refine ab.no rfl ⟨fits (by simp;omega),?_⟩
         rintro _ rfl
         refine⟨8-(q+1),by omega,q+1,by omega,by rw[wrap_i64 (by omega) (by omega)];omega,rfl,rfl,λj hj=>?_,h28,hB8⟩
         by_cases e:j=q
         · subst e;simpa using ht
         · exact hq8 j (by omega)
     · have:q=8:=by omega
       subst this
       refine hstep (λ_ hfirst hc=>?_) h26 hB6
       rw[<- e40,<- e44]at hc
       have:=(Ni s40 s44 (7-(dJ s40).length-(dJ s44).length)).2 ⟨hc.1,by omega⟩
       rw[hq8 _ (by omega)]at this;cases this
 · have hv:v6A s=none:=by
     unfold v6A
     rcases vf s with⟨h1,h2⟩|⟨p,h1,h2,h3,h4⟩
     · rw[VJ h8 h2];rfl
     · rw[UZ h2 h3,if_neg (hno p (by omega) h2 h3)];rfl
   exact cj.fin (K:=λvr wy=>(.tuple #[vr,.bool false]:Value)=adT (v6A s)/\bW w wy) (cs:=adC ad0) rfl (eY _) h25 rfl hB5 (by omega) λwy hb=>⟨by rw[hv];rfl,hb⟩
theorem Ur {a:List UInt8}(h:a.length=16):a.drop 12=[a[12]'(by omega),a[13]'(by omega),a[14]'(by omega),a[15]'(by omega)]:=by
 rw[List.drop_eq_getElem_cons (by omega),List.drop_eq_getElem_cons (by omega),List.drop_eq_getElem_cons (by omega),List.drop_eq_getElem_cons (by omega),List.drop_eq_nil_of_le (by omega)]
theorem JX {a:List UInt8}(h:a.length=16):re a=mA (a[12]'(by omega)).toNat++([46]:List UInt8)++mA (a[13]'(by omega)).toNat++([46]:List UInt8)++mA (a[14]'(by omega)).toNat++([46]:List UInt8)++mA (a[15]'(by omega)).toNat:=by
 unfold re
 rw[Ur h]
 simp[Lib.join_cons,Lib.joinTail]
theorem fT {w w8:World}{k8:Nat}{d:Nat}(hd:d<10){x:Int}(hx:x=(d:Int))(hk:k8=w.heap.size)(hw:w8=w.alloc (.cells #[.int .u8 (IntKind.u8.wrap (i64.wrap ((48:Int)+x)))] aQ)):
   ∀u,bW w8 u->(convert aG ah (.slice (some ⟨k8,0,none⟩) 1 1)).run prog u=.ok (vS [UInt8.ofNat (48+d)]) u:=by
 intro u hu
 have e:IntKind.u8.wrap (i64.wrap ((48:Int)+x))=(((UInt8.ofNat (48+d)).toNat:Nat):Int):=by
   rw[hx,wrap_i64 (by omega) (by omega),wrap_u8 (by omega) (by omega),Im (by omega)];omega
 rw[e]at hw
 have ho:Ow tU8 aQ w8 NoB (some ⟨k8,0,none⟩) 1 1 [UInt8.ofNat (48+d)]:=Ow.newF ni hk hw (gh.one (pK rfl)) (show 1 <=maxLen by decide)
 exact me bw av bS (ho.below hu).all
theorem iq:∀(n:Nat) (h:n <=9223372036854775807) (w:World),Cf cI #[vI (n:Int)] w (Ret λv w'=>v=vS (mA n)/\bW w w')
 | n,hn,w=>by
   apply xM
   refine ab.of (λh=>?_) (λh=>?_) <;> simp only[dTx,dFx]at h
   · intro k8 w8 hk8 hw8
     refine⟨_,fT (d:=n) (by omega) rfl hk8 hw8 w8 (Below.refl _ _),?_⟩
     rw[mB (by omega)]
     exact⟨rfl,hw8▸ai _ _⟩
   · have hlt:n/10<n:=by omega
     refine⟨by decide,?_⟩
     rintro _ rfl
     refine⟨by decide,?_⟩
     rintro _ rfl
     have e1:i64.wrap (Int.tdiv (n:Int) 10)=((n/10:Nat):Int):=by rw[dD (by omega),wrap_i64 (by omega) (by omega)];omega
     have e2:Int.tmod (n:Int) 10=((n%10:Nat):Int):=by rw[gp (by omega)];omega
     rw[e1,e2,nB (by omega)]
     have hd:bW w (World.drew w):=kO rfl rfl rfl (Nat.le_refl _) (λ_ _=>rfl)
     have hl:=gi (n:=n/10) (by omega)
     refine⟨?_,?_⟩
     · refine aw (iq (n/10) (by omega) (World.drew w)) ?_
       rintro _ w1 ⟨rfl,hb1⟩
       refine⟨_,rfl,?_⟩
       intro k8 w8 hk8 hw8
       refine⟨_,fT (d:=n%10) (by omega) rfl hk8 hw8 w8 (Below.refl _ _),fits (by simp;omega),?_⟩
       rintro _ rfl
       have hB1:=aa hd hb1 hd.size
       exact⟨rfl,aa hB1 (hw8▸ai _ _) hB1.size⟩
     · intro k8 w8 hk8 hw8
       have hb8:Below (World.drew w).heap.size (World.drew w) w8:=hw8▸ai _ _
       have hB8:=aa hd hb8 hd.size
       refine⟨?_,_,fT (d:=n%10) (by omega) rfl hk8 hw8 w8 (Below.refl _ _),?_⟩
       · refine aw (iq (n/10) (by omega) w8) ?_
         rintro _ w1 ⟨rfl,hb1⟩
         refine⟨_,rfl,_,fT (d:=n%10) (by omega) rfl hk8 hw8 w1 hb1,fits (by simp;omega),?_⟩
         rintro _ rfl
         exact⟨rfl,aa hB8 hb1 hB8.size⟩
       · refine aw (iq (n/10) (by omega) w8) ?_
         rintro _ w1 ⟨rfl,hb1⟩
         refine⟨_,rfl,fits (by simp;omega),?_⟩
         rintro _ rfl
         exact⟨rfl,aa hB8 hb1 hB8.size⟩
 termination_by n=>n
theorem C6 (a:List UInt8)(ha:a.length=16)(w:World):Cf oO #[adV a] w (Ret λv w'=>v=vS (re a)/\bW w w'):=by
 apply BE
 intro k1 w1 hk1 hw1
 have hB1:=(hw1▸ai w _:bW w w1)
 have h1:ao w1 k1 am (adC a):=ao.new hk1 hw1
 have ld:∀(i:Nat) (hi:i<a.length) (u:World),bW w1 u->(Instr.loadAt aQ (.pointer (aq (some ⟨k1,0,none⟩) (i:Int) 1))).run prog u=.ok (.int .u8 ((a[i].toNat:Nat):Int)) u:=λi hi u hu=>by
   rw[gR,Nat.zero_add]
   exact(h1.below hu).load1 bS rfl (zZ hi)
 have dc:∀(c:UInt8) (u:World),bW w1 u->Cf cI #[vI (i64.wrap ((c.toNat:Nat):Int))] u λe w'=>e=.returned (vS (mA c.toNat))/\Below w1.heap.size u w':=λc u hu=>by
   have:=nS c
   rw[wrap_i64 (by omega) (by omega)]
   exact cw (iq c.toNat (by omega) u) hu
 have l12:=gi (n:=a[12].toNat) (by have:=nS a[12];omega)
 have l13:=gi (n:=a[13].toNat) (by have:=nS a[13];omega)
 have l14:=gi (n:=a[14].toNat) (by have:=nS a[14];omega)
 have l15:=gi (n:=a[15].toNat) (by have:=nS a[15];omega)
 refine⟨⟨⟨by decide,by decide⟩,rfl⟩,_,ld 12 (by omega),_,dc _,fits (by simp;omega),?_⟩
 rintro _ rfl
 refine⟨⟨⟨by decide,by decide⟩,rfl⟩,_,ld 13 (by omega),_,dc _,fits (by simp;omega),?_⟩
 rintro _ rfl
 refine⟨fits (by simp;omega),?_⟩
 rintro _ rfl
 refine⟨⟨⟨by decide,by decide⟩,rfl⟩,_,ld 14 (by omega),_,dc _,fits (by simp;omega),?_⟩
 rintro _ rfl
 refine⟨fits (by simp;omega),?_⟩
 rintro _ rfl
 refine⟨⟨⟨by decide,by decide⟩,rfl⟩,_,ld 15 (by omega),_,dc _,fits (by simp;omega),?_⟩
 rintro _ rfl
 intro wq hwq
 rw[JX ha]
 exact⟨by simp only[List.append_assoc],aa hB1 hwq hB1.size⟩
theorem Hq:∀d:Nat,d<16->(([48,49,50,51,52,53,54,55,56,57,97,98,99,100,101,102]:List UInt8).take (d+1)).drop d=[Ji d]:=by decide
theorem yk:∀(n:Nat) (h:n<65536) (w:World),Cf oR #[vI (n:Int)] w (Ret λv w'=>v=vS (xv n)/\bW w w')
 | n,hn,w=>by
   apply Gb
   refine ab.of (λh=>?_) (λh=>?_) <;> simp only[dTx,dFx]at h
   · have e:i64.wrap ((n:Int)+1)=((n+1:Nat):Int):=by rw[wrap_i64 (by omega) (by omega)];omega
     try dsimp only
     rw[e]
     refine⟨⟨⟨by omega,by simp;omega⟩,by omega,by omega⟩,?_⟩
     rintro _ rfl
     simp only[Int.toNat_natCast]
     rw[Hq n (by omega),vp (by omega)]
     exact⟨rfl,Below.refl _ _⟩
   · have hlt:n/16<n:=by omega
     have e1:i64.wrap (Int.tdiv (n:Int) 16)=((n/16:Nat):Int):=by rw[dD (by omega),wrap_i64 (by omega) (by omega)];omega
     have e2:Int.tmod (n:Int) 16=((n%16:Nat):Int):=by rw[gp (by omega)];omega
     refine⟨by decide,?_⟩
     rintro _ rfl
     rw[e1,e2]
     have hl:=zK (n:=n/16) (by omega)
     refine⟨_,λu hu=>cw (yk (n/16) (by omega) u) hu,by decide,?_⟩
     rintro _ rfl
     refine⟨by decide,?_⟩
     rintro _ rfl
     have e:i64.wrap (((n%16:Nat):Int)+1)=((n%16+1:Nat):Int):=by rw[wrap_i64 (by omega) (by omega)];omega
     try dsimp only
     rw[e]
     refine⟨⟨⟨by omega,by simp;omega⟩,by omega,by omega⟩,?_⟩
     rintro _ rfl
     simp only[Int.toNat_natCast]
     rw[Hq (n%16) (by omega)]
     refine⟨fits (by simp;omega),?_⟩
     rintro _ rfl
     intro wq hwq
     rw[lK (n:=n) (by omega)]
     exact⟨rfl,hwq⟩
 termination_by n=>n
theorem GU (zs:List Bool)(p l:Nat):PE zs p (l+1)=(PE zs p l&&zs.getD (p+l) false):=by
 unfold PE;rw[List.range_succ,List.all_append];simp
theorem T7 (a:List UInt8){k:Nat}(h:k<8):(zsA a).getD k false=(xg a k==0):=by
 unfold zsA
 rw[List.getD_eq_getElem?_getD,List.getElem?_map,List.getElem?_eq_getElem (by rw[yc];exact h),Kz];rfl
theorem Hu (sep:List UInt8)(r:List (List UInt8))(y:List UInt8):Lib.joinTail sep (r++[y])=Lib.joinTail sep r++(sep++y):=by simp[Lib.joinTail]
theorem RD (l:List Nat)(x:Nat):wrL (l++[x])=if l=[]then xv x else wrL l++[58]++xv x:=by
 unfold wrL
 cases l with
 | nil=>simp[Lib.join_one]
 | cons y r=>
   rw[if_neg (by simp),List.map_append,List.map_cons,List.cons_append,List.map_cons,List.map_nil,Lib.join_cons,Lib.join_cons,Hu]
   simp
theorem sE (a:List UInt8)(ha:a.length=16)(k:Nat)(hk:k<8)(w:World):Cf kJ #[adV a,vI (k:Int)] w (Ret λv w'=>v=vI ((xg a k:Nat):Int)/\bW w w'):=by
 apply BD
 intro k1 w1 hk1 hw1
 have hB1:=(hw1▸ai w _:bW w w1)
 have h1:ao w1 k1 am (adC a):=ao.new hk1 hw1
 have e1:i64.wrap (2*(k:Int))=((2*k:Nat):Int):=by rw[wrap_i64 (by omega) (by omega)];omega
 have e2:i64.wrap (((2*k:Nat):Int)+1)=((2*k+1:Nat):Int):=by rw[wrap_i64 (by omega) (by omega)];omega
 rw[e1,e2,gR,gR,Nat.zero_add,Nat.zero_add]
 refine⟨⟨⟨by omega,by omega⟩,rfl⟩,_,λu hu=>(h1.below hu).load1 bS rfl (zZ (a:=a) (i:=2*k) (by omega)),⟨⟨by omega,by omega⟩,rfl⟩,_,λu hu=>(h1.below hu).load1 bS rfl (zZ (a:=a) (i:=2*k+1) (by omega)),λwq hwq=>⟨?_,aa hB1 hwq hB1.size⟩⟩
 have u1:=nS (a[2*k]'(by omega))
 have u2:=nS (a[2*k+1]'(by omega))
 have hval:(a[2*k]'(by omega)).toNat*256+(a[2*k+1]'(by omega)).toNat=xg a k:=by
   unfold xg
   rw[List.getD_eq_getElem?_getD,List.getD_eq_getElem?_getD,List.getElem?_eq_getElem (by omega),List.getElem?_eq_getElem (by omega)];rfl
 rw[<- hval,wrap_i64 (n:=(((a[2*k]'(by omega)).toNat:Nat):Int)) (by omega) (by omega),wrap_i64 (n:=(((a[2*k+1]'(by omega)).toNat:Nat):Int)) (by omega) (by omega),wrap_i64 (n:=_*_) (by omega) (by omega),wrap_i64 (by omega) (by omega)]
 congr 1
theorem pk (a:List UInt8)(ha:a.length=16)(p q:Nat)(hpq:p <=q)(hq:q <=8)(w:World):Cf gB #[adV a,vI (p:Int),vI (q:Int)] w
   (Ret λv w'=>v=vS (wrL (((gL a).drop p).take (q-p)))/\bW w w'):=by
 apply Dz
 intro k1 w1 hk1 hw1
 have hB1:=(hw1▸ai w _:bW w w1)
 have h1:ao w1 k1 am (adC a):=ao.new hk1 hw1
 have hgl:=yc a
 have hbx:∀j,∀x∈((gL a).drop p).take j,x<65536:=λj x hx=>Fo a x (List.mem_of_mem_drop (List.mem_of_mem_take hx))
 refine⟨λm s i w'=>∃j:Nat,j <=q-p/\i=((p+j:Nat):Int)/\m=q-p-j/\s=wrL (((gL a).drop p).take j)/\bW w1 w',⟨_,0,by omega,rfl,rfl,rfl,Below.refl _ _⟩,?_⟩
 intro m s i
 refine aJ.of ?_ _
 rintro w2 ⟨j,hj,rfl,rfl,rfl,hB2⟩
 have hl:=pB (hbx j)
 rw[List.length_take,List.length_drop]at hl
 refine ab.of (λh=>?_) (λh=>?_) <;> simp only[dTx,dFx]at h
 · have hlt:p+j<q:=by omega
   refine UT (B:=λJ=>ab _ (_/\∀s19,s19=(_++[58])->J s19 w2) (J _ w2)) (if j=0 then[]else wrL (((gL a).drop p).take j)++[58]) (ab.of (λhx=>⟨fits (by simp;omega),?_⟩) (λhx=>⟨rfl,?_⟩)) ?_
   · rintro _ rfl
     simp only[gt_iff_lt,dTx]at hx
     exact⟨rfl,by rw[if_neg (by omega)]⟩
   · simp only[gt_iff_lt,dFx]at hx
     have:j=0:=by omega
     subst this
     rw[if_pos rfl];rfl
   · refine⟨_,cj.load0 (h1.below hB2) (by rw[cZ,ha]),?_⟩
     refine aw (sE a ha (p+j) (by omega) w2) ?_
     rintro _ w3 ⟨rfl,hb3⟩
     have hB3:=aa hB2 hb3 hB2.size
     refine⟨_,rfl,?_⟩
     refine aw (yk (xg a (p+j)) (Jh _ _) w3) ?_
     rintro _ w4 ⟨rfl,hb4⟩
     have hB4:=aa hB3 hb4 hB3.size
     have hl4:=zK (Jh a (p+j))
     refine⟨_,rfl,fits (by split <;> simp <;> omega),?_⟩
     rintro _ rfl
     refine⟨q-p-(j+1),by omega,j+1,by omega,by rw[wrap_i64 (by omega) (by omega)];omega,rfl,?_,hB4⟩
     have hjd:j<((gL a).drop p).length:=by rw[List.length_drop];omega
     rw[List.take_succ_eq_append_getElem hjd,RD,List.getElem_drop,Kz]
     by_cases hj0:j=0
     · subst hj0;rfl
     · rw[if_neg hj0,if_neg]
       intro e
       have:=congrArg List.length e
       rw[List.length_take]at this;simp at this;omega
 · have:j=q-p:=by omega
   subst this
   exact⟨rfl,aa hB1 hB2 hB1.size⟩
theorem C7 (a:List UInt8)(ha:a.length=16)(w:World):Cf oP #[adV a] w (Ret λv w'=>v=vS (mK a)/\bW w w'):=by
 apply BF
 intro k1 w1 hk1 hw1
 have hB1:=(hw1▸ai w _:bW w w1)
 have h1:ao w1 k1 am (adC a):=ao.new hk1 hw1
 have ha16:(adC a).length=16:=by rw[cZ,ha]
 have hgl:=yc a
 obtain⟨z1,z2,z3⟩:=EN (PD a)
 have ht:mK a=if(dj (zsA a)).2<2 then wrL (gL a)else wrL ((gL a).take (dj (zsA a)).1)++[58,58]++wrL ((gL a).drop ((dj (zsA a)).1+(dj (zsA a)).2)):=rfl
 refine⟨λm i w'=>∃L:Nat,1 <=L/\L <=8/\i=(L:Int)/\m=L/\(∀L' A,L<L'->A+L' <=8->PE (zsA a) A L'=false)/\bW w1 w',⟨_,8,by omega,by omega,rfl,rfl,λL' A h1 h2=>by omega,Below.refl _ _⟩,?_⟩
 intro m i
 refine aJ.of ?_ _
 rintro w2 ⟨L,hL1,hL8,rfl,hm,hlong,hB2⟩
 obtain rfl:L=m:=hm.symm
 refine ab.of (λh=>?_) (λh=>?_) <;> simp only[ge_iff_le,dTx,dFx]at h
 · have hL2:2 <=L:=by omega
   refine⟨λm i w'=>∃A:Nat,A+L <=9/\i=(A:Int)/\m=9-A/\(∀A',A'<A->PE (zsA a) A' L=false)/\bW w1 w',⟨_,0,by omega,rfl,rfl,λA' h=>by omega,hB2⟩,?_⟩
   intro m i
   refine aJ.of ?_ _
   rintro w3 ⟨A,hA,rfl,rfl,hearly,hB3⟩
   have eAL:i64.wrap ((A:Int)+(L:Int))=((A+L:Nat):Int):=by rw[wrap_i64 (by omega) (by omega)];omega
   try dsimp only
   rw[eAL]
   refine ab.of (λh2=>?_) (λh2=>?_) <;> simp only[dTx,dFx]at h2
   · have hAL:A+L <=8:=by omega
     refine⟨λm b i w'=>∃j:Nat,j <=L/\i=((A+j:Nat):Int)/\m=L-j/\b=PE (zsA a) A j/\bW w1 w',⟨_,0,by omega,rfl,rfl,rfl,hB3⟩,?_⟩
     intro m b i
     refine aJ.of ?_ _
     rintro w4 ⟨j,hj,rfl,rfl,rfl,hB4⟩
     have ew:i64.wrap (((A+j:Nat):Int)+1)=((A+(j+1):Nat):Int):=by rw[wrap_i64 (by omega) (by omega)];omega
     try dsimp only
     rw[ew]
     refine ab.of (λh3=>?_) (λh3=>?_) <;> simp only[dTx,dFx]at h3
     · have hjL:j<L:=by omega
       refine ab.of (λh4=>?_) (λh4=>?_)
       · refine⟨_,cj.load0 (h1.below hB4) ha16,?_⟩
         refine aw (sE a ha (A+j) (by omega) w4) ?_
         rintro _ w5 ⟨rfl,hb5⟩
         refine⟨_,rfl,L-(j+1),by omega,j+1,by omega,rfl,rfl,?_,aa hB4 hb5 hB4.size⟩
         rw[GU,h4,Bool.true_and,T7 a (by omega),Bool.eq_iff_iff]
         simp
       · exact⟨L-(j+1),by omega,j+1,by omega,rfl,rfl,by rw[GU,h4,Bool.false_and],hB4⟩
     · have:j=L:=by omega
       subst this
       refine ab.of (λh4=>?_) (λh4=>?_)
       · have hu:=z3 j A hL2 hAL h4
         have hAz:j=(dj (zsA a)).2/\A=(dj (zsA a)).1:=by
           rcases hu with hu|⟨hu1,hu2⟩
           · exfalso
             have:=z2 (by omega)
             rw[hlong _ _ hu z1]at this;cases this
           · refine⟨hu1,?_⟩
             rcases Nat.lt_or_ge (dj (zsA a)).1 A with hc|hc
             · exfalso
               have:=z2 (by omega)
               rw[<- hu1,hearly _ hc]at this;cases this
             · omega
         have l1:=pB (l:=(gL a).take A) λx hx=>Fo a x (List.mem_of_mem_take hx)
         have l2:=pB (l:=(gL a).drop (A+j)) λx hx=>Fo a x (List.mem_of_mem_drop hx)
         rw[List.length_take]at l1
         rw[List.length_drop]at l2
         have hp1:∀u,bW w4 u->Cf gB #[adV a,vI 0,vI (A:Int)] u λe w'=>e=.returned (vS (wrL ((gL a).take A)))/\Below w4.heap.size u w':=λu hu=>by
           have:=pk a ha 0 A (by omega) (by omega) u
           rw[List.drop_zero,Nat.sub_zero]at this
           exact cw this hu
         have hp2:∀u,bW w4 u->Cf gB #[adV a,vI ((A+j:Nat):Int),vI 8] u λe w'=>e=.returned (vS (wrL ((gL a).drop (A+j))))/\Below w4.heap.size u w':=λu hu=>by
           have:=pk a ha (A+j) 8 (by omega) (by omega) u
           rw[List.take_of_length_le (by rw[List.length_drop];omega)]at this
           exact cw this hu
         refine⟨_,λu hu=>cj.load0 ((h1.below hB4).below hu) ha16,_,hp1,fits (by simp;omega),?_⟩
         rintro _ rfl
         refine⟨_,λu hu=>cj.load0 ((h1.below hB4).below hu) ha16,_,hp2,fits (by simp;omega),?_⟩
         rintro _ rfl
         intro wq hwq
         have hq:=aa hB4 hwq hB4.size
         refine⟨?_,aa hB1 hq hB1.size⟩
         rw[ht,if_neg (by omega),<- hAz.1,<- hAz.2]
       · refine⟨9-(A+1),by omega,A+1,by omega,by rw[wrap_i64 (by omega) (by omega)];omega,rfl,λA' hA'=>?_,hB4⟩
         by_cases e:A'=A
         · subst e;exact h4
         · exact hearly A' (by omega)
   · refine⟨L-1,by omega,L-1,by omega,by omega,by rw[wrap_i64 (by omega) (by omega)];omega,rfl,λL' A' hl ha'=>?_,hB3⟩
     by_cases e:L'=L
     · subst e;exact hearly A' (by omega)
     · exact hlong L' A' (by omega) ha'
 · refine⟨_,cj.load0 (h1.below hB2) ha16,?_⟩
   have:=pk a ha 0 8 (by omega) (by omega) w2
   rw[List.drop_zero,List.take_of_length_le (by omega)]at this
   refine aw this ?_
   rintro _ w5 ⟨rfl,hb5⟩
   have hq:=aa hB2 hb5 hB2.size
   refine⟨_,rfl,?_,aa hB1 hq hB1.size⟩
   rw[ht,if_pos]
   refine Decidable.byContradiction λhc=>?_
   have:=z2 (by omega)
   rw[hlong _ _ (by omega) z1]at this;cases this
theorem C9 (s:List UInt8)(hs:s.length <=9223372036854775800)(w:World):Cf oS #[vS s] w (Ret λv w'=>v=.bool (fP s)/\w'=w):=by
 apply BK
 refine⟨λm i w'=>∃k:Nat,k <=s.length/\i=(k:Int)/\m=s.length-k/\(s.take k).all lO=true/\w'=w,⟨_,0,by omega,rfl,rfl,rfl,rfl⟩,?_⟩
 intro m i
 refine aJ.of ?_ _
 rintro w' ⟨k,hk,rfl,rfl,hno,hw'⟩
 rw[hw'];clear hw'
 refine ab.of (λh=>?_) (λh=>?_) <;> simp only[dTx,dFx]at h
 · have hlt:k<s.length:=by omega
   rw[byte_at hlt]
   have e45:=my s[k] 45
   have e95:=my s[k] 95
   rw[show(((45:UInt8).toNat:Nat):Int)=45 from rfl]at e45
   rw[show(((95:UInt8).toNat:Nat):Int)=95 from rfl]at e95
   simp only[bne,e45,e95]
   have good:lO s[k]=true->∃m':Nat,m'<s.length-k/\∃k2:Nat,k2 <=s.length/\i64.wrap ((k:Int)+1)=(k2:Int)/\m'=s.length-k2/\(s.take k2).all lO=true/\True:=λhc=>
     ⟨s.length-(k+1),by omega,k+1,by omega,by rw[wrap_i64 (by omega) (by omega)];omega,rfl,by rw[List.take_succ_eq_append_getElem hlt,List.all_append,hno];simp[hc],trivial⟩
   have bad:lO s[k]=false->(.bool false:Value)=.bool (fP s)/\True:=λhc=>⟨by
     have:s.all lO=false:=by
       rw[Bool.eq_false_iff]
       intro hx
       rw[List.all_eq_true.1 hx _ (List.getElem_mem hlt)]at hc;cases hc
     unfold fP;rw[this,Bool.and_false],trivial⟩
   refine⟨⟨by omega,h⟩,?_⟩
   generalize s[k]=c at*
   have tail: ¬ (97 <=c.toNat/\c.toNat <=122)-> ¬ (48 <=c.toNat/\c.toNat <=57)->ab (!(c==45)) (ab (!(c==95)) ((.bool false:Value)=.bool (fP s)/\True) (∃m':Nat,m'<s.length-k/\∃k2:Nat,k2 <=s.length/\i64.wrap ((k:Int)+1)=(k2:Int)/\m'=s.length-k2/\(s.take k2).all lO=true/\True)) (∃m':Nat,m'<s.length-k/\∃k2:Nat,k2 <=s.length/\i64.wrap ((k:Int)+1)=(k2:Int)/\m'=s.length-k2/\(s.take k2).all lO=true/\True):=λn1 n2=>by
     have d1:(decide (97 <=c.toNat)&&decide (c.toNat <=122))=false:=by rw[Bool.eq_false_iff];intro hc;simp at hc;exact n1 hc
     have d2:(decide (48 <=c.toNat)&&decide (c.toNat <=57))=false:=by rw[Bool.eq_false_iff];intro hc;simp at hc;exact n2 hc
     have hc:lO c=(c==45 || c==95):=by unfold lO;rw[d1,d2];simp
     rw[hc]at good bad
     refine ab.of (λh4=>ab.of (λh5=>bad ?_) (λh5=>good ?_)) (λh4=>good ?_)
     · rw[Bool.not_eq_true']at h4 h5;rw[h4,h5];rfl
     · rw[Bool.not_eq_false']at h5;rw[h5];simp
     · rw[Bool.not_eq_false']at h4;rw[h4];simp
   refine ab.of (λh2=>?_) (λh2=>?_) <;> simp only[dTx,dFx]at h2
   · refine ab.of (λh3=>tail (by omega) ?_) (λh3=>?_) <;> simp only[gt_iff_lt,dTx,dFx]at h3
     · omega
     · refine ab.of (λh4=>tail (by omega) ?_) (λh4=>good ?_) <;> simp only[gt_iff_lt,dTx,dFx]at h4
       · omega
       · unfold lO;rw[decide_eq_true (p:=48 <=c.toNat) (by omega),decide_eq_true (p:=c.toNat <=57) (by omega)];simp
   · refine ab.of (λh3=>?_) (λh3=>good ?_) <;> simp only[gt_iff_lt,dTx,dFx]at h3
     · refine ab.no (by simp;omega) (ab.yes (by simp;omega) (tail (by omega) (by omega)))
     · unfold lO;rw[decide_eq_true (p:=97 <=c.toNat) (by omega),decide_eq_true (p:=c.toNat <=122) (by omega)];simp
 · have:k=s.length:=by omega
   subst this
   rw[List.take_length]at hno
   unfold fP
   rw[hno,Bool.and_true]
   refine ab.of (λh2=>⟨?_,rfl⟩) (λh2=>⟨?_,rfl⟩) <;> simp only[ge_iff_le,dTx,dFx]at h2
   · rw[decide_eq_true (p:=1 <=s.length) (by omega),Bool.true_and];congr 1;rw[Bool.eq_iff_iff];simp;omega
   · rw[decide_eq_false (p:=1 <=s.length) (by omega),Bool.false_and]
theorem nq (s:List UInt8)(hs:s.length <=90000000)(w:World):Cf ja #[vS s] w (Ret (rQ s w)):=by
 apply BI
 intro k2 w2 hk2 hw2
 have hB2:=(hw2▸ai w _:bW w w2)
 have h2:ao w2 k2 ae gJ.cells:=ao.new hk2 hw2
 have hk2w:w.heap.size <=k2:=by omega
 have fin:∀{wx:World} (o:Option Hst),(∀x,o=some x->x.ok)->bt s=o->ao wx k2 ae gJ.cells->bW w wx->
     ∃wy,(Instr.storeAt ae (.pointer (some ⟨k2,0,none⟩)) (o.getD gJ).v).run prog wx=.ok () wy/\∃vr:Value,(bg ae (.pointer (some ⟨k2,0,none⟩))).run prog wy=.ok vr wy/\rQ s w (.tuple #[vr,vI (if o.isSome then 0 else 31)]) wy:=fun{wx} o ho hv h2x hBx=>
   aP.fin (K:=λvr wy=>rQ s w (.tuple #[vr,vI (if o.isSome then 0 else 31)]) wy) (cs:=(o.getD gJ).cells) (Hst.len (lN ho)) (Hst.one _) h2x rfl hBx hk2w λwy hb=>⟨by rw[hv,io];rfl,hb⟩
 have bad:=fun{wx:World} (hv:bt s=none) (h2x:ao wx k2 ae gJ.cells) (hBx:bW w wx)=>fin none (λx hx=>by cases hx) hv h2x hBx
 refine si (w:=w2) (¬ s.head?=some 91) ?_ (λh91=>?_)
 · refine⟨λb w'=>w'=w2/\b=decide (s.head?=some 91),ab.of (λh=>⟨⟨by decide,by simpa using h⟩,rfl,?_⟩) (λh=>⟨rfl,?_⟩),λb=>aJ.of ?_ _⟩
   · have hl:0<s.length:=by simpa using h
     have hb:=byte_at (s:=s) (k:=0) hl
     rw[show((0:Nat):Int)=0 from rfl]at hb
     have hu:=my s[0] 91
     rw[show(((91:UInt8).toNat:Nat):Int)=91 from rfl]at hu
     rw[hb,hu,List.head?_eq_getElem?,List.getElem?_eq_getElem hl,Bool.eq_iff_iff]
     simp
   · have hl:s=[]:=by
       simp only[gt_iff_lt,dFx]at h
       exact List.length_eq_zero_iff.1 (by omega)
     subst hl;rfl
   · rintro wj ⟨hwj,hb⟩
     rw[hwj,hb];clear hwj hb
     refine ab.of (λh=>?_) (λh=>⟨rfl,of_decide_eq_false h⟩)
     have h91:s.head?=some 91:=of_decide_eq_true h
     have hne:s≠[]:=by rintro rfl;cases h91
     have hl:0<s.length:=List.length_pos_iff.2 hne
     have hv:bt s=if s.getLast?=some 93 then(v6A ((s.drop 1).take (s.length-2))).map λa=>⟨3,[],a⟩ else none:=by unfold bt;rw[if_pos h91]
     have ei:i64.wrap (((s.length:Nat):Int)-1)=((s.length-1:Nat):Int):=by rw[wrap_i64 (by omega) (by omega)];omega
     try dsimp only
     rw[ei,byte_at (show s.length-1<s.length by omega)]
     have hgl:s.getLast?=some (s[s.length-1]'(by omega)):=by rw[List.getLast?_eq_getElem?,List.getElem?_eq_getElem (by omega)]
     have hu:=my (s[s.length-1]'(by omega)) 93
     rw[show(((93:UInt8).toNat:Nat):Int)=93 from rfl]at hu
     refine⟨⟨by omega,by omega⟩,?_⟩
     simp only[bne,hu]
     refine ab.of (λhc=>bad ?_ h2 hB2) (λhc=>?_)
     · rw[hv,if_neg]
       rw[hgl]
       intro e
       rw[Option.some.inj e]at hc;simp at hc
     · have hlast:s.getLast?=some 93:=by rw[hgl];simpa using hc
       have hl2:2 <=s.length:=by
         refine Decidable.byContradiction λhc2=>?_
         have e1:s.length=1:=by omega
         obtain⟨x,rfl⟩:=List.length_eq_one_iff.1 e1
         rw[Option.some.inj (show some x=some 91 from h91)]at hlast
         cases hlast
       rw[if_pos hlast]at hv
       simp only[Int.toNat_natCast]
       refine⟨⟨⟨by omega,by omega⟩,by decide,by omega⟩,?_⟩
       intro s32 e32
       have e33:s32=(s.drop 1).take (s.length-2):=by
         rw[e32,show(Int.toNat 1)=1 from rfl,List.drop_take,show s.length-1-1=s.length-2 by omega]
       rw[<- e33]at hv
       have l32:s32.length <=s.length:=by rw[e33];simp;omega
       refine aw (JJ s32 (by omega) w2) ?_
       rintro _ w4 ⟨rfl,hb4⟩
       have hB4:=aa hB2 hb4 hB2.size
       refine⟨_,_,by rw[D0],?_⟩
       have hal:=xV (Pv s32)
       refine cj.new (zs:=adC ad0) (cs:=adC ((v6A s32).getD ad0)) rfl hal (eY _) w4 λk8 w8 hk8 h8 hb8=>?_
       have hB8:=aa hB4 hb8 hB4.size
       have h28:=(h2.below hb4).below hb8
       cases ho:v6A s32 with
       | none=>
         exact ab.yes rfl (bad (by rw[hv,ho];rfl) h28 hB8)
       | some x=>
         rw[ho]at h8 hal
         refine ab.no rfl ⟨_,cj.load0 h8 hal,_,xh 3 (by rw[<- cZ];exact hal) w8,?_⟩
         exact fin (some ⟨3,[],x⟩) (λy hy=>by cases hy;show x.length=16;rw[<- cZ];exact hal) (by rw[hv,ho];rfl) h28 hB8
 · have hv:bt s=if dE (CU (bK 46 [] (co s)))=true then(v4V s).map λa=>⟨2,[],a⟩ else if s.length <=253/\(bK 46 [] (co s)).all fP=true then some ⟨1,co s,ad0⟩ else none:=by unfold bt;rw[if_neg h91]
   refine aw (np s (by omega) w2) ?_
   rintro _ w3 ⟨rfl,hb3⟩
   have hB3:=aa hB2 hb3 hB2.size
   refine⟨_,rfl,?_⟩
   have ll:(co s).length=s.length:=by simp[co]
   refine aw (ii (co s) 46 (by omega) w3) ?_
   rintro _ w4 ⟨a,n,c,rfl,ho,hf,hb4⟩
   have hB4:=aa hB3 hb4 hB3.size
   have h24:=(h2.below hb3).below hb4
   have hn:=ho.len
   subst hn
   have hlens:∀x∈bK 46 [] (co s),x.length <=s.length:=λx hx=>by have:=fI 46 (co s) [] x hx;simp[ll]at this;omega
   have hcn:=dK 46 (co s) []
   have hnz:0<(bK 46 [] (co s)).length:=List.length_pos_iff.2 (gQ 46 (co s) [])
   refine⟨_,_,_,rfl,?_⟩
   generalize bK 46 [] (co s)=L at*
   have ei:i64.wrap (((L.length:Nat):Int)-1)=((L.length-1:Nat):Int):=by rw[wrap_i64 (by omega) (by omega)];omega
   try dsimp only
   rw[ei]
   refine⟨⟨⟨by omega,by omega⟩,ho.all.isSome hnz⟩,_,ho.all.text av (by omega),?_⟩
   rw[<- vq hnz]
   have hll:(CU L).length <=s.length:=by rw[vq hnz];exact hlens _ (List.getElem_mem _)
   refine aw (qP (CU L) (by omega) w4) ?_
   rintro _ w5 ⟨rfl,hw5⟩
   rw[hw5];clear hw5
   refine⟨_,rfl,ab.of (λhd=>?_) (λhd=>?_)⟩
   · rw[if_pos hd]at hv
     refine aw (JH s (by omega) w4) ?_
     rintro _ w6 ⟨rfl,hb6⟩
     have hB6:=aa hB4 hb6 hB4.size
     refine⟨_,_,by rw[D0],?_⟩
     have hal:=xV (TZ s)
     refine cj.new (zs:=adC ad0) (cs:=adC ((v4V s).getD ad0)) rfl hal (eY _) w6 λk8 w8 hk8 h8 hb8=>?_
     have hB8:=aa hB6 hb8 hB6.size
     have h28:=(h24.below hb6).below hb8
     cases ho:v4V s with
     | none=>
       rw[ho]at hv
       exact ab.yes rfl (bad hv h28 hB8)
     | some x=>
       rw[ho]at hv h8 hal
       refine ab.no rfl ⟨_,cj.load0 h8 hal,_,xh 2 (by rw[<- cZ];exact hal) w8,?_⟩
       exact fin (some ⟨2,[],x⟩) (λy hy=>by cases hy;show x.length=16;rw[<- cZ];exact hal) hv h28 hB8
   · rw[if_neg (by rw[hd];decide)]at hv
     have hbad: ¬ (s.length <=253/\L.all fP=true)->bt s=none:=λh=>by rw[hv,if_neg h]
     refine⟨λm i w'=>∃k:Nat,k <=L.length/\i=(k:Int)/\m=L.length-k/\(L.take k).all fP=true/\w'=w4,⟨_,0,by omega,rfl,rfl,rfl,rfl⟩,?_⟩
     intro m i
     refine aJ.of ?_ _
     rintro w5 ⟨k,hk,rfl,rfl,hno,hw5⟩
     rw[hw5];clear hw5
     refine ab.of (λh=>?_) (λh=>?_) <;> simp only[dTx,dFx]at h
     · have hlt:k<L.length:=by omega
       refine⟨⟨⟨by omega,h⟩,ho.all.isSome (by omega)⟩,_,ho.all.text av hlt,?_⟩
       refine aw (C9 L[k] (by have:=hlens _ (List.getElem_mem hlt);omega) w4) ?_
       rintro _ w6 ⟨rfl,hw6⟩
       rw[hw6];clear hw6
       refine⟨_,rfl,ab.of (λh3=>bad (hbad λhc=>?_) h24 hB4) (λh3=>?_)⟩
       · rw[List.all_eq_true.1 hc.2 _ (List.getElem_mem hlt)]at h3;cases h3
       · refine⟨L.length-(k+1),by omega,k+1,by omega,by rw[wrap_i64 (by omega) (by omega)];omega,rfl,?_,rfl⟩
         rw[List.take_succ_eq_append_getElem hlt,List.all_append,hno]
         simpa using h3
     · have:k=L.length:=by omega
       subst this
       rw[List.take_length]at hno
       refine ab.of (λh3=>bad (hbad λhc=>?_) h24 hB4) (λh3=>?_) <;> simp only[gt_iff_lt,dTx,dFx]at h3
       · have:=hc.1;omega
       · exact fin (some ⟨1,co s,ad0⟩) (λx hx=>by cases hx;rfl) (by rw[hv,if_pos ⟨by omega,hno⟩]) h24 hB4
theorem kW {h:Hst}(o:h.ok)(w:World):Cf iL #[h.v] w (Ret λv w'=>v=vS (cD h)/\bW w w'):=by
 apply DA
 intro k1 w1 hk1 hw1
 have hB1:=(hw1▸ai w _:bW w w1)
 have h1:ao w1 k1 ae h.cells:=ao.new hk1 hw1
 refine⟨rfl,_,h1.load1 bG rfl rfl,?_⟩
 unfold cD
 refine ab.of (λc1=>?_) (λc1=>?_) <;> simp only[beq_iff_eq,beq_eq_false_iff_ne,ne_eq]at c1
 · rw[if_pos c1]
   exact⟨rfl,_,h1.load1 av rfl rfl,rfl,hB1⟩
 rw[if_neg c1]
 refine⟨rfl,_,h1.load1 bG rfl rfl,?_⟩
 refine ab.of (λc2=>?_) (λc2=>?_) <;> simp only[beq_iff_eq,beq_eq_false_iff_ne,ne_eq]at c2
 · rw[if_pos c2]
   refine⟨rfl,_,KH o h1,?_⟩
   refine aw (C6 h.ad o w1) ?_
   rintro _ w2 ⟨rfl,hb2⟩
   exact⟨_,rfl,rfl,aa hB1 hb2 hB1.size⟩
 rw[if_neg c2]
 refine⟨rfl,_,h1.load1 bG rfl rfl,?_⟩
 refine ab.of (λc3=>?_) (λc3=>?_) <;> simp only[beq_iff_eq,beq_eq_false_iff_ne,ne_eq]at c3
 · rw[if_pos c3]
   refine⟨rfl,_,KH o h1,?_⟩
   refine aw (C7 h.ad o w1) ?_
   rintro _ w2 ⟨rfl,hb2⟩
   have h6:=Cc h.ad
   refine⟨_,rfl,fits (by simp;omega),?_⟩
   rintro _ rfl
   refine⟨fits (by simp;omega),?_⟩
   rintro _ rfl
   exact⟨rfl,aa hB1 hb2 hB1.size⟩
 · rw[if_neg c3]
   exact⟨rfl,hB1⟩
theorem sG {h:Hst}(o:h.ok)(hn:h.name.length <=80000000)(w:World):Cf kL #[h.v] w (Ret λv w'=>v=.bool (cC h)/\bW w w'):=by
 apply BJ
 have hxl:=jR o
 intro k1 w1 hk1 hw1
 have hB1:=(hw1▸ai w _:bW w w1)
 have h1:ao w1 k1 ae h.cells:=ao.new hk1 hw1
 refine⟨_,aP.load0 h1 (Hst.len o),?_⟩
 refine aw (kW o w1) ?_
 rintro _ w2 ⟨rfl,hb2⟩
 have hB2:=aa hB1 hb2 hB1.size
 refine⟨_,rfl,?_⟩
 refine aw (nq (cD h) (by omega) w2) ?_
 rintro _ w3 ⟨rfl,hb3⟩
 have hB3:=aa hB2 hb3 hB2.size
 refine⟨_,_,by rw[io],?_⟩
 have hok:((bt (cD h)).getD gJ).ok:=lN λx hx=>fM hx
 refine aP.new (zs:=gJ.cells) (cs:=((bt (cD h)).getD gJ).cells) rfl (Hst.len hok) (Hst.one _) w3 λk4 w4 hk4 h4 hb4=>?_
 have hB4:=aa hB3 hb4 hB3.size
 have h14:=((h1.below hb2).below hb3).below hb4
 unfold cC
 cases hv:bt (cD h)with
 | none=>exact ab.no rfl ⟨rfl,hB4⟩
 | some g=>
   rw[hv]at h4 hok
   exact ab.yes rfl ⟨_,aP.load0 h4 (Hst.len hok),_,aP.load0 h14 (Hst.len o),_,Hr hok o w4,rfl,hB4⟩
theorem BL (a:lU){w K}(h:nA w (.cells eh ay) λb c=>nA c (.cells eh ay) λd e=>∃f,Sv ay (vA d 0) (.agg #[.bool false,vI 0,vS [],.int .u8 0,.int .u8 0,.int .u8 0,.int .u8 0,.int .u8 0,.int .u8 0,.int .u8 0,.int .u8 0,.int .u8 0,.int .u8 0,.int .u8 0,.int .u8 0,.int .u8 0,.int .u8 0,.int .u8 0,.int .u8 0,vI 80,vS []]) e f/\∃g:FP [.one .str],(∃i:FP [.one .bool],(ab (decide (((List.length a:Nat):Int) >=(7:Int))) (bd (7:Int) (((List.length a):Nat):Int)/\∀j,j=(List.take (Int.toNat 7) a)->uS i7 #[vS j] f λk l=>i (k==[104,116,116,112,58,47,47]) l) (i false f))/\∀j,aJ 8 (∀k,i j k->ab j (bd (7:Int) (((List.length a):Nat):Int)/\∀l,l=(List.drop (Int.toNat 7) a)->g l k) (∃l:FP [.one .bool],(ab (decide (((List.length a:Nat):Int) >=(8:Int))) (bd (8:Int) (((List.length a):Nat):Int)/\∀m,m=(List.take (Int.toNat 8) a)->uS i7 #[vS m] k λn o=>l (n==[104,116,116,112,115,58,47,47]) o) (l false k))/\∀m,aJ 8 (∀n,l m n->ab m (bd (8:Int) (((List.length a):Nat):Int)/\∀o,o=(List.drop (Int.toNat 8) a)->true/\∃p,Sv bV (vA d 0) (.bool true) n p/\true/\∃q,Sv bh (vA d 19) (vI 443) p q/\g o q) (∃o,Sv ay (vA b 0) (.agg eh) n o/\∃p,Rv ay (vA b 0) o p/\K (.tuple #[p,vI 41]) o)))))/\∀i,aJ 26 (∀j,g i j->uI fB #[vS i,vS [47,63,35]] j λk l=>bd k (((List.length i):Nat):Int)/\∀m,m=(List.take (Int.toNat k) i)->uI fB #[vS m,vS [58]] l λn o=>∃p:FP [.one (.int .i64)],(∃q:FP [.one .bool],(ab (decide (((List.length m:Nat):Int)>(0:Int))) (bx (0:Int) ((List.length m:Nat):Int)/\q ((bf m (0:Int))==(91:Int)) o) (q false o))/\∀r,aJ 7 (∀s,q r s->ab r (uI fB #[vS m,vS [93]] s λt u=>∃v,(Builtin.min_ #[bh,bh] bh #[vI (i64.wrap (t+(1:Int))),vI ((List.length m:Nat):Int)]).run prog u=.ok (vI v) u/\p v u) (p n s)))/\∀q,aJ 14 (∀r,p q r->bd q (((List.length m):Nat):Int)/\∀s,s=(List.take (Int.toNat q) m)->Cf ja #[vS s] r λt u=>∃v x,t=rT #[v,vI x]/\nA u (.cells bj ae) λy z=>∃A,Sv ae (vA y 0) v z A/\bd q (((List.length m):Nat):Int)/\∀B,B=(List.drop (Int.toNat q) m)->∃C:FP [],(∃D:FP [.one .bool],(ab (x !=(0:Int)) (D true A) (ab (decide (((List.length B:Nat):Int)>(0:Int))) (bx (0:Int) ((List.length B:Nat):Int)/\D ((bf B (0:Int)) !=(58:Int)) A) (D false A)))/\∀E,aJ 11 (∀F,D E F->ab E (∃G,Sv ay (vA b 0) (.agg eh) F G/\∃H,Rv ay (vA b 0) G H/\K (.tuple #[H,vI 31]) G) (C F)))/\aJ 14 (∀D,C D->∃E,Ld ae (vA y 0) D E/\true/\∃F,Sv ae (vA d 1) E D F/\∃G:FP [],(ab (decide (((List.length B:Nat):Int)>(0:Int))) (bd (1:Int) (((List.length B):Nat):Int)/\∀H,H=(List.drop (Int.toNat 1) B)->Cf ia #[vS H] F λI J=>∃L M,I=rT #[vI L,.bool M]/\∃N:FP [.one .bool],(ab (!M) (N true J) (ab (decide (L<(1:Int))) (N true J) (N (decide (L>(65535:Int))) J)))/\∀O,aJ 9 (∀P,N O P->ab O (∃Q,Sv ay (vA b 0) (.agg eh) P Q/\∃R,Rv ay (vA b 0) Q R/\K (.tuple #[R,vI 42]) Q) (true/\∃Q,Sv bh (vA d 19) (vI L) P Q/\G Q))) (G F))/\aJ 25 (∀H,G H->bd k (((List.length i):Nat):Int)/\∀I,I=(List.drop (Int.toNat k) i)->true/\∃J,Sv ah (vA d 20) (vS I) H J/\true/\true/\(∃L,Ld ah (vA d 20) (World.drew J) (vS L)/\∃M,Ld ah (vA d 20) (World.drew J) (vS M)/\uI fB #[vS M,vS [63,35]] (World.drew J) λN O=>bd N (((List.length L):Nat):Int)/\∀P,P=(List.take (Int.toNat N) L)->true/\∃Q,Sv ah (vA d 20) (vS P) O Q/\∃R:FP [],(true/\∃S,Ld ah (vA d 20) Q (vS S)/\ab (S==[]) (true/\∃T,Sv ah (vA d 20) (vS [47]) Q T/\R T) (R Q))/\aJ 4 (∀S,R S->true/\∃T,Ld ah (vA d 20) S (vS T)/\uB gC #[vS T] S λU V=>ab (!U) (∃X,Sv ay (vA b 0) (.agg eh) V X/\∃Y,Rv ay (vA b 0) X Y/\K (.tuple #[Y,vI 43]) X) (∃X,Ld ay (vA d 0) V X/\∃Y,Sv ay (vA b 0) X V Y/\∃Z,Rv ay (vA b 0) Y Z/\K (.tuple #[Z,vI 0]) Y)))/\∃L,Ld ah (vA d 20) (World.drew J) (vS L)/\(∃M,Ld ah (vA d 20) (World.drew J) (vS M)/\uI fB #[vS L,vS [63,35]] (World.drew J) λN O=>bd N (((List.length M):Nat):Int)/\∀P,P=(List.take (Int.toNat N) M)->true/\∃Q,Sv ah (vA d 20) (vS P) O Q/\∃R:FP [],(true/\∃S,Ld ah (vA d 20) Q (vS S)/\ab (S==[]) (true/\∃T,Sv ah (vA d 20) (vS [47]) Q T/\R T) (R Q))/\aJ 4 (∀S,R S->true/\∃T,Ld ah (vA d 20) S (vS T)/\uB gC #[vS T] S λU V=>ab (!U) (∃X,Sv ay (vA b 0) (.agg eh) V X/\∃Y,Rv ay (vA b 0) X Y/\K (.tuple #[Y,vI 43]) X) (∃X,Ld ay (vA d 0) V X/\∃Y,Sv ay (vA b 0) X V Y/\∃Z,Rv ay (vA b 0) Y Z/\K (.tuple #[Z,vI 0]) Y)))/\uI fB #[vS L,vS [63,35]] (World.drew J) λM N=>∃O,Ld ah (vA d 20) N (vS O)/\bd M (((List.length O):Nat):Int)/\∀P,P=(List.take (Int.toNat M) O)->true/\∃Q,Sv ah (vA d 20) (vS P) N Q/\∃R:FP [],(true/\∃S,Ld ah (vA d 20) Q (vS S)/\ab (S==[]) (true/\∃T,Sv ah (vA d 20) (vS [47]) Q T/\R T) (R Q))/\aJ 4 (∀S,R S->true/\∃T,Ld ah (vA d 20) S (vS T)/\uB gC #[vS T] S λU V=>ab (!U) (∃X,Sv ay (vA b 0) (.agg eh) V X/\∃Y,Rv ay (vA b 0) X Y/\K (.tuple #[Y,vI 43]) X) (∃X,Ld ay (vA d 0) V X/\∃Y,Sv ay (vA b 0) X V Y/\∃Z,Rv ay (vA b 0) Y Z/\K (.tuple #[Z,vI 0]) Y))))))):Cf oT #[vS a] w (Ret K):=ru func50 [(6,[(5,.one .str)]),(7,[(23,.one .bool)]),(11,[(34,.one .bool)]),(28,[(8,.one (.int .i64))]),(29,[(54,.one .bool)]),(38,[]),(39,[(82,.one .bool)]),(48,[]),(55,[(104,.one .bool)]),(68,[]),(68,[]),(68,[])] h
theorem DD (a b:lU){w K}(h:∃c:Nat->FP [.one (.int .i64)],(∃d,c d (0:Int) w)/\∀d e,aJ 22 (∀f,c d e f->ab (decide (e<((List.length a:Nat):Int))) (∃g:Nat->FP [.one (.int .i64)],(∃i,g i (0:Int) f)/\∀i j,aJ 15 (∀k,g i j k->ab (decide (j<((List.length b:Nat):Int))) (bx e ((List.length a:Nat):Int)/\bx j ((List.length b:Nat):Int)/\∀l,bW k l->ab ((bf a e)==(bf b j)) (K (vI e) l) (∃m:Nat,m<i/\g m (i64.wrap (j+(1:Int))) l)) (∃l:Nat,l<d/\c l (i64.wrap (e+(1:Int))) k))) (K (vI ((List.length a:Nat):Int)) f))):Cf fB #[vS a,vS b] w (Ret K):=ru func102 [(6,[(5,.one (.int .i64))]),(18,[(6,.one (.int .i64))])] h
theorem DB (a:lU){w K}(h:∃b:Nat->FP [.one (.int .i64)],(∃c,b c (0:Int) w)/\∀c d,aJ 29 (∀e,b c d e->ab (decide (d<((List.length a:Nat):Int))) (bx d ((List.length a:Nat):Int)/\ab (decide ((bf a d)<(33:Int))) (K (.bool false) e) (bx d ((List.length a:Nat):Int)/\ab (decide ((bf a d)>(126:Int))) (K (.bool false) e) (bx d ((List.length a:Nat):Int)/\ab ((bf a d)==(63:Int)) (K (.bool false) e) (bx d ((List.length a:Nat):Int)/\ab ((bf a d)==(35:Int)) (K (.bool false) e) (∃f:Nat,f<c/\b f (i64.wrap (d+(1:Int))) e))))) (ab (decide (((List.length a:Nat):Int) >=(1:Int))) (ab (decide (((List.length a:Nat):Int) <=(2048:Int))) (bx (0:Int) ((List.length a:Nat):Int)/\K (.bool ((bf a (0:Int))==(47:Int))) e) (K (.bool false) e)) (K (.bool false) e)))):Cf gC #[vS a] w (Ret K):=ru func103 [(6,[(3,.one (.int .i64))])] h
theorem BM (a:Value){w K}(h:nA w (.cells (Value.cells a) ay) λb c=>true/\∃d,Ld ae (vA b 1) c d/\uB kL #[d] c λe f=>ab e (true/\∃g,Ld bh (vA b 19) f (vI g)/\ab (decide (g >=(1:Int))) (true/\∃i,Ld bh (vA b 19) f (vI i)/\ab (decide (i <=(65535:Int))) (true/\∃j,Ld ah (vA b 20) f (vS j)/\uB gC #[vS j] f λk l=>K (.bool k) l) (K (.bool false) f)) (K (.bool false) f)) (K (.bool false) f)):Cf kN #[a] w (Ret K):=ru func104 [] h
theorem Rt (u:Url)(b:Bool):u.cells.set 0 (.bool b)=({ u with sec:=b } :Url).cells:=rfl
theorem Is {u:Url}(o:u.ok)(n:Int):u.cells.set 19 (vI n)=({ u with port:=n } :Url).cells:=by
 unfold Url.cells
 rw[List.set_cons_succ,List.set_append_right _ _ (by rw[Hst.len o];exact Nat.le_refl _),Hst.len o];rfl
theorem Co {u:Url}(o:u.ok)(p:List UInt8):u.cells.set 20 (vS p)=({ u with path:=p } :Url).cells:=by
 unfold Url.cells
 rw[List.set_cons_succ,List.set_append_right _ _ (by rw[Hst.len o];decide),Hst.len o];rfl
theorem Ru {u:Url}(o:u.ok)(h:Hst):u.cells.take 1++h.cells++u.cells.drop (1+18)=({ u with host:=h } :Url).cells:=by
 unfold Url.cells
 rw[show 1+18=18+1 from rfl,List.drop_succ_cons,List.drop_append_of_le_length (by rw[Hst.len o];exact Nat.le_refl _),List.drop_of_length_le (by rw[Hst.len o];exact Nat.le_refl _)];rfl
theorem OE (p:List UInt8):df p <=p.length:=by
 unfold df
 split
 · omega
 · exact jH _ _
theorem pm (s:List UInt8)(hs:s.length <=9223372036854775800)(w:World):Cf gC #[vS s] w (Ret λv w'=>v=.bool (gV s)/\w'=w):=by
 apply DB
 refine⟨λm i w'=>∃k:Nat,k <=s.length/\i=(k:Int)/\m=s.length-k/\(s.take k).all qe=true/\w'=w,⟨_,0,by omega,rfl,rfl,rfl,rfl⟩,?_⟩
 intro m i
 refine aJ.of ?_ _
 rintro w' ⟨k,hk,rfl,rfl,hno,hw'⟩
 rw[hw'];clear hw'
 refine ab.of (λh=>?_) (λh=>?_) <;> simp only[dTx,dFx]at h
 · have hlt:k<s.length:=by omega
   rw[byte_at hlt]
   have hin:(0 <=(k:Int)/\(k:Int)<((s.length:Nat):Int)):=⟨by omega,h⟩
   refine⟨hin,Ew _ _ hin (λhc=>?_) (λhc=>⟨by rw[KW hlt hc],rfl⟩)⟩
   exact⟨s.length-(k+1),by omega,k+1,by omega,by rw[wrap_i64 (by omega) (by omega)];omega,rfl,by rw[List.take_succ_eq_append_getElem hlt,List.all_append,hno];simp[hc],rfl⟩
 · have:k=s.length:=by omega
   subst this
   rw[List.take_length]at hno
   unfold gV
   rw[hno,Bool.and_true]
   refine ab.of (λh2=>?_) (λh2=>⟨?_,rfl⟩) <;> simp only[ge_iff_le,dTx,dFx]at h2
   · refine ab.of (λh3=>?_) (λh3=>⟨?_,rfl⟩) <;> simp only[dTx,dFx]at h3
     · have hl:0<s.length:=by omega
       have hb:=byte_at (s:=s) (k:=0) hl
       rw[show((0:Nat):Int)=0 from rfl]at hb
       have hu:=my s[0] 47
       rw[show(((47:UInt8).toNat:Nat):Int)=47 from rfl]at hu
       refine⟨⟨by decide,by omega⟩,?_,rfl⟩
       rw[hb,hu,decide_eq_true (p:=s.length <=2048) (by omega),Bool.and_true,List.head?_eq_getElem?,List.getElem?_eq_getElem hl]
       congr 1
       rw[Bool.eq_iff_iff];simp
     · rw[decide_eq_false (p:=s.length <=2048) (by omega),Bool.and_false]
   · have:s=[]:=List.length_eq_zero_iff.1 (by omega)
     subst this;rfl
theorem kX (s p:List UInt8)(hs:s.length <=9223372036854775800)(hp:p.length <=9223372036854775800)(w:World):Cf fB #[vS s,vS p] w (Ret λv w'=>v=vI ((cz p s:Nat):Int)/\bW w w'):=by
 apply DD
 refine⟨λm i w'=>∃k:Nat,k <=s.length/\i=(k:Int)/\m=s.length-k/\k <=cz p s/\bW w w',⟨_,0,by omega,rfl,rfl,Nat.zero_le _,Below.refl _ _⟩,?_⟩
 intro m i
 refine aJ.of ?_ _
 rintro w1 ⟨k,hk,rfl,hm,hno,hb1⟩
 refine ab.of (λh=>?_) (λh=>?_) <;> simp only[dTx,dFx]at h
 · have hlt:k<s.length:=by omega
   have ht:=yn (λc=> !p.contains c) s k hlt hno
   refine⟨λm i w'=>∃j:Nat,j <=p.length/\i=(j:Int)/\m=p.length-j/\(p.take j).contains s[k]=false/\bW w w',⟨_,0,by omega,rfl,rfl,rfl,hb1⟩,?_⟩
   intro m2 i2
   refine aJ.of ?_ _
   rintro w2 ⟨j,hj,rfl,hm2,hj2,hb2⟩
   refine ab.of (λh2=>?_) (λh2=>?_) <;> simp only[dTx,dFx]at h2
   · have hlj:j<p.length:=by omega
     rw[byte_at hlt,byte_at hlj,my]
     refine⟨⟨by omega,h⟩,⟨by omega,h2⟩,λwq hq=>?_⟩
     have hB:=aa hb2 hq hb2.size
     refine ab.of (λh3=>⟨?_,hB⟩) (λh3=>?_)
     · have hc:p.contains s[k]=true:=by rw[List.contains_iff_mem,eq_of_beq h3];exact List.getElem_mem hlj
       have: ¬ k<(s.takeWhile λc=> !p.contains c).length:=λhk=>by have:=ht.2 hk;rw[hc]at this;cases this
       have e:cz p s=k:=by unfold cz at hno ⊢;omega
       rw[e]
     · refine⟨p.length-(j+1),by omega,j+1,by omega,by rw[wrap_i64 (by omega) (by omega)];omega,rfl,?_,hB⟩
       rw[List.take_succ_eq_append_getElem hlj]
       simp only[List.contains_eq_mem,dFx,List.mem_append,List.mem_singleton]at hj2 ⊢
       rintro(hx|hx)
       · exact hj2 hx
       · rw[hx]at h3;simp at h3
   · have:j=p.length:=by omega
     subst this
     rw[List.take_length]at hj2
     have:k<cz p s:=ht.1 (by rw[hj2];rfl)
     exact⟨s.length-(k+1),by omega,k+1,by omega,by rw[wrap_i64 (by omega) (by omega)];omega,rfl,by omega,hb2⟩
 · have:=jH p s
   have e:cz p s=s.length:=by omega
   exact⟨by rw[e],hb1⟩
theorem sH {u:Url}(o:u.ok)(hn:u.host.name.length <=80000000)(hp:u.path.length <=9223372036854775800)(w:World):Cf kN #[u.v] w (Ret λv w'=>v=.bool (fm u)/\bW w w'):=by
 apply BM
 intro k1 w1 hk1 hw1
 have hB1:=(hw1▸ai w _:bW w w1)
 have h1:ao w1 k1 ay u.cells:=ao.new hk1 hw1
 refine⟨rfl,_,aP.load h1 (i:=1) (us:=u.host.cells) (Hst.len o) (λj hj=>sd o hj),?_⟩
 refine aw (sG o hn w1) ?_
 rintro _ w2 ⟨rfl,hb2⟩
 have hB2:=aa hB1 hb2 hB1.size
 have h2:=h1.below hb2
 refine⟨_,rfl,?_⟩
 unfold fm
 refine ab.of (λc1=>?_) (λc1=>⟨by rw[c1];rfl,hB2⟩)
 refine⟨rfl,_,h2.load1 bG rfl (lj o),ab.of (λc2=>?_) (λc2=>⟨by rw[c1,c2];rfl,hB2⟩)⟩
 refine⟨rfl,_,h2.load1 bG rfl (lj o),ab.of (λc3=>?_) (λc3=>⟨by rw[c1,c2,c3];rfl,hB2⟩)⟩
 refine⟨rfl,_,h2.load1 av rfl (li o),?_⟩
 refine aw (pm _ hp w2) ?_
 rintro _ w3 ⟨rfl,hw3⟩
 rw[hw3]
 exact⟨_,rfl,by rw[c1,c2,c3];rfl,hB2⟩
structure StU (w0:World)(t:TypeId)(k2 k4:Nat)(u:Url)(w:World):Prop where
 h4:ao w k4 t u.cells
 h2:ao w k2 t eX.cells
 hb:bW w0 w
 hne:k2≠k4
 hk4:w0.heap.size <=k4
 hk2:w0.heap.size <=k2
 ho:u.ok
theorem StU.below {w0:World}{t:TypeId}{k2 k4:Nat}{u:Url}{w w':World}(S:StU w0 t k2 k4 u w)(hb:bW w w'):StU w0 t k2 k4 u w':=
 ⟨S.h4.below hb,S.h2.below hb,aa S.hb hb S.hb.size,S.hne,S.hk4,S.hk2,S.ho⟩
theorem StU.put {P:Program}{x:TypeId}{bytes:Nat}{z:Value}(tf:TF P x 1 bytes z){w0:World}{t:TypeId}{k2 k4:Nat}{u u':Url}{w:World}(S:StU w0 t k2 k4 u w)
   {i:Nat} {v:Value} (hi:i<21) (h1:v.oneCell'=true) (hc:v.cells= #[v]) (e:u.cells.set i v=u'.cells) (o:u'.ok):
   ∃wx,(Instr.storeAt x (.pointer (some ⟨k4,i,none⟩)) v).run P w=.ok () wx/\StU w0 t k2 k4 u' wx:=by
 obtain⟨wx,hs,ha,hg⟩:=S.h4.put tf (i:=i) (v:=v) (by rw[Url.len S.ho];exact hi) h1 hc
 exact⟨wx,hs,e▸ha,S.h2.grown hg (bF S.hne),Below.put S.hb hg S.hk4,S.hne,S.hk4,S.hk2,o⟩
theorem StU.putH {P:Program}{x:TypeId}(wh:Whl P x 18){w0:World}{t:TypeId}{k2 k4:Nat}{u:Url}{w:World}(S:StU w0 t k2 k4 u w){h:Hst}(o:h.ok):
   ∃wx,(Instr.storeAt x (.pointer (some ⟨k4,1,none⟩)) h.v).run P w=.ok () wx/\StU w0 t k2 k4 { u with host:=h } wx:=by
 obtain⟨wx,hs,ha,hg⟩:=wh.store (Hst.len o) (Hst.one h) S.h4 (i:=1) (by rw[Url.len S.ho];decide)
 rw[Ru S.ho]at ha
 exact⟨wx,hs,ha,S.h2.grown hg (bF S.hne),Below.put S.hb hg S.hk4,S.hne,S.hk4,S.hk2,o⟩
theorem Da (s:List UInt8)(hs:s.length <=90000000)(w:World):Cf oT #[vS s] w (Ret (qk s w)):=by
 apply BL
 intro k2 w2 hk2 hw2
 have hB2:=(hw2▸ai w _:bW w w2)
 have h2:ao w2 k2 ay eX.cells:=ao.new hk2 hw2
 refine gP.new (zs:=eX.cells) (cs:=({ eX with port:=80 } :Url).cells) rfl rfl (Url.one _) w2 λk4 w4 hk4 h4 hb4=>?_
 have hlt:=h2.lt
 have S0:StU w ay k2 k4 { eX with port:=80 } w4:=⟨h4,h2.below hb4,aa hB2 hb4 hB2.size,by omega,by have:=hB2.size;omega,by omega,rfl⟩
 clear hB2 h2 h4 hb4 hlt hk2 hw2 hk4
 have bad:∀{wx:World} {u:Url} {e:Int},StU w ay k2 k4 u wx->iR s=(eX,e)->
     ∃wy,(Instr.storeAt ay (.pointer (some ⟨k2,0,none⟩)) (.agg eh)).run prog wx=.ok () wy/\∃vr:Value,(bg ay (.pointer (some ⟨k2,0,none⟩))).run prog wy=.ok vr wy/\qk s w (.tuple #[vr,vI e]) wy:=fun{wx u e} S he=>
   gP.fin (K:=λvr wy=>qk s w (.tuple #[vr,vI e]) wy) (cs:=eX.cells) rfl (Url.one _) S.h2 rfl S.hb S.hk2 λwy hb=>⟨by rw[he];rfl,hb⟩
 have bp:∀b:Bool,(Value.bool b).cells= #[Value.bool b]:=λ_=>rfl
 refine⟨λr w'=>∃b,Lg s=some (r,b)/\StU w ay k2 k4 { eX with sec:=b,port:=if b then 443 else 80 } w',?_,?_⟩
 · refine uX (λb w'=>b=decide (co (s.take 7)=[104,116,116,112,58,47,47])/\StU w ay k2 k4 { eX with port:=80 } w') ?_ ?_
   · refine ab.of (λh=>⟨⟨by decide,by simpa using h⟩,?_⟩) (λh=>⟨?_,S0⟩)
     · rintro _ rfl
       refine aw (np _ (by simp;omega) w4) ?_
       rintro _ w5 ⟨rfl,hb5⟩
       refine⟨_,rfl,?_,S0.below hb5⟩
       rw[Bool.eq_iff_iff,beq_iff_eq,dTx];rfl
     · rw[eq_comm,dFx]
       intro hc
       have:=Uc hc
       simp at this h;omega
   · rintro b w5 ⟨rfl,S5⟩
     refine ab.of (λh=>?_) (λh=>?_)
     · rw[dTx]at h
       have hl:=Uc h
       refine⟨⟨by decide,by simp at hl;omega⟩,?_⟩
       rintro _ rfl
       exact⟨false,by unfold Lg;rw[if_pos h];rfl,S5⟩
     · have h7: ¬ co (s.take 7)=[104,116,116,112,58,47,47]:=of_decide_eq_false h
       clear h
       refine uX (λb w'=>b=decide (co (s.take 8)=[104,116,116,112,115,58,47,47])/\StU w ay k2 k4 { eX with port:=80 } w') ?_ ?_
       · refine ab.of (λh=>⟨⟨by decide,by simpa using h⟩,?_⟩) (λh=>⟨?_,S5⟩)
         · rintro _ rfl
           refine aw (np _ (by simp;omega) w5) ?_
           rintro _ w6 ⟨rfl,hb6⟩
           refine⟨_,rfl,?_,S5.below hb6⟩
           rw[Bool.eq_iff_iff,beq_iff_eq,dTx];rfl
         · rw[eq_comm,dFx]
           intro hc
           have:=Uc hc
           simp at this h;omega
       · rintro b w6 ⟨rfl,S6⟩
         refine ab.of (λh=>?_) (λh=>?_)
         · rw[dTx]at h
           have hl:=Uc h
           refine⟨⟨by decide,by simp at hl;omega⟩,?_⟩
           rintro _ rfl
           obtain⟨w7,hs7,S7⟩:=S6.put (P:=prog) nu (i:=0) (v:=.bool true) (by decide) rfl rfl (Rt _ true) rfl
           refine⟨rfl,w7,hs7,rfl,?_⟩
           obtain⟨w8,hs8,S8⟩:=S7.put (P:=prog) ik (i:=19) (v:=vI 443) (by decide) rfl rfl (Is S7.ho 443) rfl
           exact⟨w8,hs8,true,by unfold Lg;rw[if_neg h7,if_pos h];rfl,S8⟩
         · exact bad S6 (by unfold iR Lg;rw[if_neg h7,if_neg (of_decide_eq_false h)])
 · intro r
   refine aJ.of ?_ _
   rintro w5 ⟨sec,hH,S5⟩
   have hrl:r.length <=s.length:=by
     unfold Lg at hH
     split at hH
     · cases hH;simp
     split at hH
     · cases hH;simp
     · cases hH
   have hV:iR s=Lh r sec:=by unfold iR;rw[hH]
   rw[hV]at bad
   have fin:∀{wx:World} {u:Url},StU w ay k2 k4 u wx->Lh r sec=(u,0)->∃v:Value,(Instr.loadAt ay (.pointer (some ⟨k4,0,none⟩))).run prog wx=.ok v wx/\
     ∃wy,(Instr.storeAt ay (.pointer (some ⟨k2,0,none⟩)) v).run prog wx=.ok () wy/\∃vr:Value,(bg ay (.pointer (some ⟨k2,0,none⟩))).run prog wy=.ok vr wy/\qk s w (.tuple #[vr,vI 0]) wy:=fun{wx u} S he=>
     ⟨u.v,gP.load0 S.h4 (Url.len S.ho),gP.fin (K:=λvr wy=>qk s w (.tuple #[vr,vI 0]) wy) (cs:=u.cells) (Url.len S.ho) (Url.one _) S.h2 rfl S.hb S.hk2 λwy hb=>⟨by rw[hV,he];rfl,hb⟩⟩
   clear hH S0
   refine aw (kX r [47,63,35] (by omega) (by decide) w5) ?_
   rintro _ w6 ⟨rfl,hb6⟩
   have S6:=S5.below hb6
   have hat:=jH [47,63,35] r
   refine⟨_,rfl,⟨by omega,by omega⟩,?_⟩
   rw[Int.toNat_natCast]
   have hR:Lh r sec=match nI (r.take (cz [47,63,35] r))with
     | none=>(eX,31)
     | some h=>match uC sec ((r.take (cz [47,63,35] r)).drop (df (r.take (cz [47,63,35] r))))with
       | none=>(eX,42)
       | some n=>if gV (kV (r.drop (cz [47,63,35] r)))=true then(⟨sec,h,n,kV (r.drop (cz [47,63,35] r))⟩,0)else(eX,43):=rfl
   have hpl:(r.take (cz [47,63,35] r)).length <=s.length:=by simp;omega
   intro p hp
   rw[<- hp]at hR hpl
   clear hp
   refine aw (kX p [58] (by omega) (by decide) w6) ?_
   rintro _ w7 ⟨rfl,hb7⟩
   have S7:=S6.below hb7
   refine⟨_,rfl,?_⟩
   refine⟨λn w'=>n=((df p:Nat):Int)/\StU w ay k2 k4 { eX with sec:=sec,port:=if sec then 443 else 80 } w',?_,?_⟩
   · refine iU (w:=w7) (decide (p.head?=some 91)) ?_ ?_
     · refine ab.of (λh=>⟨⟨by decide,by simpa using h⟩,rfl,?_⟩) (λh=>⟨rfl,?_⟩)
       · have hl:0<p.length:=by simpa using h
         have hb:=byte_at (s:=p) (k:=0) hl
         rw[show((0:Nat):Int)=0 from rfl]at hb
         have hu:=my p[0] 91
         rw[show(((91:UInt8).toNat:Nat):Int)=91 from rfl]at hu
         rw[hb,hu,List.head?_eq_getElem?,List.getElem?_eq_getElem hl,Bool.eq_iff_iff];simp
       · have:p=[]:=by
           simp only[gt_iff_lt,dFx]at h
           exact List.length_eq_zero_iff.1 (by omega)
         subst this;rfl
     · refine ab.of (λh=>?_) (λh=>⟨?_,S7⟩)
       · refine aw (kX p [93] (by omega) (by decide) w7) ?_
         rintro _ w8 ⟨rfl,hb8⟩
         have hf:=jH [93] p
         refine⟨_,rfl,_,run_min_int2 _ _ _ _ _ _ _,?_,S7.below hb8⟩
         unfold df
         rw[if_pos (of_decide_eq_true h),wrap_i64 (by omega) (by omega)]
         omega
       · unfold df;rw[if_neg (of_decide_eq_false h)]
   · intro n
     refine aJ.of ?_ _
     rintro w8 ⟨rfl,S8⟩
     have hpe:=OE p
     refine⟨⟨by omega,by omega⟩,?_⟩
     rw[Int.toNat_natCast]
     have hW:nI p=if p.drop (df p)≠[]/\(p.drop (df p)).head?≠some 58 then none else bt (p.take (df p)):=rfl
     have hcl:(p.take (df p)).length <=s.length:=by simp;omega
     intro c hc
     rw[<- hc]at hW hcl
     clear hc
     refine aw (nq c (by omega) w8) ?_
     rintro _ w9 ⟨rfl,hb9⟩
     have S9:=S8.below hb9
     have hok:=lN λx hx=>fM (s:=c) hx
     rw[io]
     refine⟨_,_,rfl,?_⟩
     refine aP.new (zs:=gJ.cells) (cs:=((bt c).getD gJ).cells) rfl (Hst.len hok) (Hst.one _) w9 λk9 w10 hk9 h9 hb10=>?_
     have S10:=S9.below hb10
     refine⟨⟨by omega,by omega⟩,?_⟩
     have hbl:(p.drop (df p)).length <=s.length:=by simp;omega
     intro q hq
     rw[<- hq]at hR hW hbl
     clear hq
     refine gE (λw'=>w'=w10/\∃h,bt c=some h/\nI p=some h) ?_ ?_
     · refine iU (w:=w10) (decide (nI p=none)) ?_ ?_
       · have hc:∀(c1:bt c=none),nI p=none:=λc1=>by rw[hW,c1];split <;> rfl
         refine ab.of (λh=>⟨rfl,?_⟩) (λh=>ab.of (λh2=>⟨⟨by decide,by simpa using h2⟩,rfl,?_⟩) (λh2=>⟨rfl,?_⟩))
         · have:bt c=none:=by
             cases hv:bt c with
             | none=>rfl
             | some x=>rw[hv]at h;cases h
           rw[decide_eq_true (hc this)]
         all_goals
           have hv:bt c≠none:=λhv=>by rw[hv]at h;cases h
         · have hl:0<q.length:=by simpa using h2
           have hb:=byte_at (s:=q) (k:=0) hl
           rw[show((0:Nat):Int)=0 from rfl]at hb
           have hu:=my q[0] 58
           rw[show(((58:UInt8).toNat:Nat):Int)=58 from rfl]at hu
           have hne:q≠[]:=List.length_pos_iff.1 hl
           have hh:q.head?=some q[0]:=by rw[List.head?_eq_getElem?,List.getElem?_eq_getElem hl]
           have e:((bf q 0) !=(58:Int))= !(q[0]==58):=by rw[hb];show(!_)=_;rw[hu]
           rw[e,hW,hh]
           by_cases c:q[0]=58
           · rw[if_neg (by rintro⟨-,hx⟩;exact hx (by rw[c])),decide_eq_false hv,c];rfl
           · rw[if_pos ⟨hne,λhx=>c (Option.some.inj hx)⟩,beq_eq_false_iff_ne.2 c];rfl
         · have:q=[]:=by
             simp only[gt_iff_lt,dFx]at h2
             exact List.length_eq_zero_iff.1 (by omega)
           rw[hW,if_neg (λhx=>hx.1 this),decide_eq_false hv]
       · refine ab.of (λh=>?_) (λh=>⟨rfl,?_⟩)
         · exact bad S10 (by rw[hR,of_decide_eq_true h])
         · have hn:=of_decide_eq_false h
           cases hw:nI p with
           | none=>exact absurd hw hn
           | some x=>
             refine⟨x,?_,rfl⟩
             rw[hW]at hw
             split at hw
             · cases hw
             · exact hw
     · rintro w11 ⟨rfl,h,hv,hw⟩
       rw[hw]at hR
       rw[hv]at h9 hok
       simp only[Option.getD_some]at h9 hok
       refine⟨_,aP.load0 h9 (Hst.len hok),rfl,?_⟩
       obtain⟨w12,hs12,S12⟩:=S10.putH (P:=prog) aP hok
       refine⟨w12,hs12,?_⟩
       refine gE (λw'=>∃n,uC sec q=some n/\StU w ay k2 k4 ⟨sec,h,n,[]⟩ w') ?_ ?_
       · refine ab.of (λc1=>?_) (λc1=>?_)
         · have hl:0<q.length:=by simpa using c1
           refine⟨⟨by decide,by omega⟩,?_⟩
           intro d hd
           rw[show Int.toNat 1=1 from rfl]at hd
           have hdl:d.length <=q.length:=by rw[hd];simp
           have hP:uC sec q=if nK d/\1 <=ez d/\ez d <=65535 then some (ez d)else none:=by unfold uC;rw[if_neg (List.length_pos_iff.1 hl),<- hd]
           refine aw (lT d (by omega) w12) ?_
           rintro _ w13 ⟨rfl,hw13⟩
           rw[hw13];clear hw13
           by_cases c2:nK d
           · rw[if_pos c2]
             refine⟨_,_,rfl,?_⟩
             refine iU (w:=w12) (decide (¬ (1 <=ez d/\ez d <=65535))) ?_ ?_
             · refine ab.no rfl (ab.of (λc3=>⟨rfl,?_⟩) (λc3=>⟨rfl,?_⟩))
               · rw[eq_comm,dTx];simp at c3;omega
               · rw[Bool.eq_iff_iff,dTx,dTx];simp at c3;omega
             · refine ab.of (λc3=>?_) (λc3=>⟨rfl,?_⟩)
               · rw[dTx]at c3
                 exact bad S12 (by rw[hR,hP,if_neg (λhx=>c3 hx.2)])
               · have c4:1 <=ez d/\ez d <=65535:=Decidable.not_not.1 (of_decide_eq_false c3)
                 obtain⟨w14,hs14,S14⟩:=S12.put (P:=prog) ik (i:=19) (v:=vI (ez d)) (by decide) rfl rfl (Is S12.ho _) S12.ho
                 exact⟨w14,hs14,ez d,by rw[hP,if_pos ⟨c2,c4⟩],S14⟩
           · rw[if_neg c2]
             refine⟨_,_,rfl,?_⟩
             refine iU (w:=w12) true (ab.yes rfl ⟨rfl,rfl⟩) (ab.yes rfl ?_)
             exact bad S12 (by rw[hR,hP,if_neg (λhx=>c2 hx.1)])
         · have:q=[]:=by
             simp only[gt_iff_lt,dFx]at c1
             exact List.length_eq_zero_iff.1 (by omega)
           exact⟨_,by unfold uC;rw[if_pos this],S12⟩
       · rintro w13 ⟨n,hn,S13⟩
         rw[hn]at hR
         refine⟨⟨by omega,by omega⟩,?_⟩
         have hxl:(r.drop (cz [47,63,35] r)).length <=s.length:=by simp;omega
         intro x hx
         rw[<- hx]at hR hxl
         clear hx
         refine⟨rfl,?_⟩
         obtain⟨w14,hs14,S14⟩:=S13.put (P:=prog) dI (i:=20) (v:=vS x) (by decide) rfl rfl (Co S13.ho _) S13.ho
         refine⟨w14,hs14,rfl,rfl,?_⟩
         have S15:StU w ay k2 k4 ⟨sec,h,n,x⟩ (World.drew w14):=S14.below (eC w14)
         have ld:=S15.h4.load1 (P:=prog) av rfl (li S15.ho)
         have hfl:=jH [63,35] x
         have hW2:kV x=if x.take (cz [63,35] x)=[]then[47]else x.take (cz [63,35] x):=rfl
         refine⟨⟨_,ld,_,ld,?_⟩,_,ld,⟨_,ld,?_⟩,?_⟩
         all_goals
           refine aw (kX x [63,35] (by omega) (by decide) _) ?_
           rintro _ w16 ⟨rfl,hb16⟩
           have S16:=S15.below hb16
           refine⟨_,rfl,?_⟩
           try refine⟨_,S16.h4.load1 (P:=prog) av rfl (li S16.ho),?_⟩
           refine⟨⟨by omega,by show((cz [63,35] x:Nat):Int) <=((x.length:Nat):Int);omega⟩,?_⟩
           rw[Int.toNat_natCast]
           rintro _ rfl
           have hyl:(x.take (cz [63,35] x)).length <=s.length:=by simp;omega
           obtain⟨w17,hs17,S17⟩:=S16.put (P:=prog) dI (i:=20) (v:=vS (x.take (cz [63,35] x))) (by decide) rfl rfl (Co S16.ho _) S16.ho
           refine⟨rfl,w17,hs17,?_⟩
           refine gE (λw'=>StU w ay k2 k4 ⟨sec,h,n,kV x⟩ w') ?_ ?_
           · refine⟨rfl,_,S17.h4.load1 (P:=prog) av rfl (li S17.ho),ab.of (λc=>⟨rfl,?_⟩) (λc=>?_)⟩
             · obtain⟨w18,hs18,S18⟩:=S17.put (P:=prog) dI (i:=20) (v:=vS [47]) (by decide) rfl rfl (Co S17.ho _) S17.ho
               have e:kV x=[47]:=by rw[hW2,if_pos (eq_of_beq c)]
               rw[e]
               exact⟨w18,hs18,S18⟩
             · have e:kV x=x.take (cz [63,35] x):=by rw[hW2,if_neg (beq_eq_false_iff_ne.1 c)]
               rw[e];exact S17
           · intro w18 S18
             have hpw:(kV x).length <=s.length+1:=by
               rw[hW2]
               split
               · simp
               · omega
             refine⟨rfl,_,S18.h4.load1 (P:=prog) av rfl (li S18.ho),?_⟩
             refine aw (pm _ (by show(kV x).length <=_;omega) w18) ?_
             rintro _ w19 ⟨rfl,hw19⟩
             rw[hw19];clear hw19
             refine⟨_,rfl,ab.of (λc=>?_) (λc=>?_)⟩
             · exact bad S18 (by rw[hR];exact if_neg (by rw[Bool.not_eq_true']at c;rw[show gV (kV x)=false from c];decide))
             · exact fin S18 (by rw[hR];exact if_pos (by rw[Bool.not_eq_false']at c;exact c))
section
variable (qj:Url->List UInt8)
theorem QX (s:List UInt8):fk (kZ qj) s=fk bT s:=by rw[show kZ qj=bT from funext (zS qj)]
end
theorem Bz (a:lU){w K}(h:nA w (.cells #[] ah) λb c=>uL fK #[vS a,.int .u8 10] c λd e f g=>∃i:Nat->FP [.one .slice,.one (.int .i64)],(∃j,i j (vA b 0) 0 0 (0:Int) g)/\∀j k l m n,aJ 36 (∀o,i j k l m n o->ab (decide (n<((e:Nat):Int))) ((bx n ((e:Nat):Int)/\Option.isSome d=true)/\∃p,Ld ah (aq d n 1) o (vS p)/\∃q:FP [],(ab (n==(i64.wrap (((e:Nat):Int)-(1:Int)))) (ab (p==[]) (K (.slice k l m) o) (q o)) (q o))/\aJ 9 (∀r,q r->∃s:FP [.one .str],(∃t:FP [.one .bool],(ab (decide (((List.length p:Nat):Int)>(0:Int))) (bx (i64.wrap (((List.length p:Nat):Int)-(1:Int))) ((List.length p:Nat):Int)/\t ((bf p (i64.wrap (((List.length p:Nat):Int)-(1:Int))))==(13:Int)) r) (t false r))/\∀u,aJ 10 (∀v,t u v->ab u (bd (i64.wrap (((List.length p:Nat):Int)-(1:Int))) (((List.length p):Nat):Int)/\∀x,x=(List.take (Int.toNat (i64.wrap (((List.length p:Nat):Int)-(1:Int)))) p)->s x v) (s p v)))/\∀t,aJ 16 (∀u,s t u->nA u (.cells #[vS t] ah) λv x=>∃y z A B,(Builtin.append_ #[aH,aH] aH #[.slice k l m,.slice (vA v 0) 1 1]).run prog x=.ok (.slice z A B) y/\∃C:Nat,C<j/\i C z A B (i64.wrap (n+(1:Int))) y))) (K (.slice k l m) o))):Cf oN #[vS a] w (Ret K):=ru func21 [(10,[(3,.one .slice),(12,.one (.int .i64))]),(21,[]),(27,[(6,.one .str)]),(28,[(36,.one .bool)])] h
theorem BC (a:Int){w K}(h:ab (decide (a<(10:Int))) (K (.int .u8 (IntKind.u8.wrap (i64.wrap ((48:Int)+a)))) w) (K (.int .u8 (IntKind.u8.wrap (i64.wrap ((55:Int)+a)))) w)):Cf kI #[vI a] w (Ret K):=ru func86 [] h
theorem Dy (a:lU){w K}(h:nA w (.cells #[] aQ) λb c=>∃d:Nat->FP [.one .slice,.one (.int .i64)],(∃e,d e (vA b 0) 0 0 (0:Int) c)/\∀e f g i j,aJ 43 (∀k,d e f g i j k->ab (decide (j<((List.length a:Nat):Int))) (∃l:FP [.one .bool],(bx j ((List.length a:Nat):Int)/\ab (decide ((bf a j) >=(33:Int))) (bx j ((List.length a:Nat):Int)/\ab (decide ((bf a j) <=(126:Int))) (bx j ((List.length a:Nat):Int)/\l ((bf a j) !=(37:Int)) k) (l false k)) (l false k))/\∀m,aJ 15 (∀n,l m n->ab m (bx j ((List.length a:Nat):Int)/\nA n (.cells #[.int .u8 (bf a j)] aQ) λo p=>∃q r s t,(Builtin.append_ #[aG,aG] aG #[.slice f g i,.slice (vA o 0) 1 1]).run prog p=.ok (.slice r s t) q/\∃u:Nat,u<e/\d u r s t (i64.wrap (j+(1:Int))) q) (bx j ((List.length a:Nat):Int)/\((16:Int)≠0)/\∀o,o=(i64.wrap (Int.tdiv (i64.wrap (bf a j)) (16:Int)))->∃p,(∀q,bW n q->Cf kI #[vI o] q λr s=>r=.returned (.int .u8 p)/\bW q s)/\bx j ((List.length a:Nat):Int)/\((16:Int)≠0)/\∀q,q=(Int.tmod (i64.wrap (bf a j)) (16:Int))->∃r,(∀s,bW n s->Cf kI #[vI q] s λt u=>t=.returned (.int .u8 r)/\bW s u)/\∀s,n.heap.size <=s->∀t,bW n t->t.heap[s]? =some (.cells #[.int .u8 37,.int .u8 p,.int .u8 r] aQ)->∃u v x y,(Builtin.append_ #[aG,aG] aG #[.slice f g i,.slice (vA s 0) 3 3]).run prog t=.ok (.slice v x y) u/\∃z:Nat,z<e/\d z v x y (i64.wrap (j+(1:Int))) u))) (ab (((g:Nat):Int)==(0:Int)) (K (vS [37]) k) (∃l,(convert aG ah (.slice f g i)).run prog k=.ok (vS l) k/\K (vS l) k)))):Cf mE #[vS a] w (Ret K):=ru func34 [(8,[(3,.one .slice),(4,.one (.int .i64))]),(17,[(27,.one .bool)]),(3000021,[(0,.one .bool),(1,.one .bool),(2,.one .bool),(7,.one .bool),(8,.one .bool),(3,.one .bool),(4,.one .bool),(5,.one .bool),(6,.one .bool),(9,.one .bool),(10,.one .bool),(11,.one .bool),(12,.one .bool),(13,.one .bool)])] h
theorem zq (a:lU){w K}(h:ab (a==[37]) (K (.tuple #[vS [],.bool true]) w) (nA w (.cells #[] aQ) λb c=>∃d:Nat->FP [.one .slice,.one (.int .i64)],(∃e,d e (vA b 0) 0 0 (0:Int) c)/\∀e f g i j,aJ 51 (∀k,d e f g i j k->ab (decide (j<((List.length a:Nat):Int))) (∃l:Nat->FP [.one .slice,.one (.int .i64),.one .bool,.one (.int .i64)],(∃m,l m f g i j false (0:Int) k)/\∀m n o p q r s,aJ 41 (∀t,l m n o p q r s t->∃u:FP [],(ab (decide (s<(256:Int))) (ab (!r) (u t) (ab (!r) (K (.tuple #[vS [],.bool false]) t) (∃v:Nat,v<e/\d v n o p q t))) (ab (!r) (K (.tuple #[vS [],.bool false]) t) (∃v:Nat,v<e/\d v n o p q t)))/\aJ 6 (∀v,u v->nA v (.cells #[.int .u8 (IntKind.u8.wrap s)] aQ) λx y=>∃z,(convert aG ah (.slice (vA x 0) 1 1)).run prog y=.ok (vS z) y/\uS mE #[vS z] y λA B=>∃C:FP [.one .bool],(ab (decide (((List.length A:Nat):Int) <=(i64.wrap (((List.length a:Nat):Int)-q)))) ((bd (i64.wrap (q+((List.length A:Nat):Int))) (((List.length a):Nat):Int)/\0 <=q/\q <=((Int.toNat (i64.wrap (q+((List.length A:Nat):Int))):Nat):Int))/\∀D,D=(List.drop (Int.toNat q) (List.take (Int.toNat (i64.wrap (q+((List.length A:Nat):Int)))) a))->C (D==A) B) (C false B))/\∀D,aJ 17 (∀E,C D E->ab D (nA E (.cells #[.int .u8 (IntKind.u8.wrap s)] aQ) λF G=>∃H I J L,(Builtin.append_ #[aG,aG] aG #[.slice n o p,.slice (vA F 0) 1 1]).run prog G=.ok (.slice I J L) H/\∃M:Nat,M<m/\l M I J L (i64.wrap (q+((List.length A:Nat):Int))) true (i64.wrap (s+(1:Int))) H) (∃F:Nat,F<m/\l F n o p q r (i64.wrap (s+(1:Int))) E))))) (∃l,(convert aG ah (.slice f g i)).run prog k=.ok (vS l) k/\K (.tuple #[vS l,.bool (decide (((g:Nat):Int)>(0:Int)))]) k)))):Cf ng #[vS a] w (Ret K):=ru func51 [(16,[(4,.one .slice),(5,.one (.int .i64))]),(30,[(4,.one .slice),(5,.one (.int .i64)),(6,.one .bool),(7,.one (.int .i64))]),(31,[]),(41,[(46,.one .bool)])] h
theorem xO (a:Int){w K}(h:ab (decide (a<(10:Int))) (nA w (.cells #[.int .u8 (IntKind.u8.wrap (i64.wrap ((48:Int)+a)))] aQ) λb c=>∃d,(convert aG ah (.slice (vA b 0) 1 1)).run prog c=.ok (vS d) c/\K (vS d) c) (((10:Int)≠0)/\∀b,b=(i64.wrap (Int.tdiv a (10:Int)))->((10:Int)≠0)/\∀c,c=(Int.tmod a (10:Int))->(uS fe #[vI b] (World.drew w) λd e=>nA e (.cells #[.int .u8 (IntKind.u8.wrap (i64.wrap ((48:Int)+c)))] aQ) λf g=>∃i,(convert aG ah (.slice (vA f 0) 1 1)).run prog g=.ok (vS i) g/\(((List.length d+List.length i:Nat):Int) <=i64.max)/\∀j,j=(d++i)->K (vS j) g)/\∀d e,d=(World.drew w).heap.size->e=(World.drew w).alloc (.cells #[.int .u8 (IntKind.u8.wrap (i64.wrap ((48:Int)+c)))] aQ)->(uS fe #[vI b] e λf g=>∃i,(convert aG ah (.slice (vA d 0) 1 1)).run prog g=.ok (vS i) g/\(((List.length f+List.length i:Nat):Int) <=i64.max)/\∀j,j=(f++i)->K (vS j) g)/\∃f,(convert aG ah (.slice (vA d 0) 1 1)).run prog e=.ok (vS f) e/\uS fe #[vI b] e λg i=>(((List.length g+List.length f:Nat):Int) <=i64.max)/\∀j,j=(g++f)->K (vS j) i)):Cf fe #[vI a] w (Ret K):=ru func35 [] h
theorem ir:∀(n:Nat) (h:n <=9223372036854775807) (w:World),Cf fe #[vI (n:Int)] w (Ret λv w'=>v=vS (mA n)/\bW w w')
 | n,hn,w=>by
   apply xO
   refine ab.of (λh=>?_) (λh=>?_) <;> simp only[dTx,dFx]at h
   · intro k8 w8 hk8 hw8
     refine⟨_,fT (d:=n) (by omega) rfl hk8 hw8 w8 (Below.refl _ _),?_⟩
     rw[mB (by omega)]
     exact⟨rfl,hw8▸ai _ _⟩
   · have hlt:n/10<n:=by omega
     refine⟨by decide,?_⟩
     rintro _ rfl
     refine⟨by decide,?_⟩
     rintro _ rfl
     have e1:i64.wrap (Int.tdiv (n:Int) 10)=((n/10:Nat):Int):=by rw[dD (by omega),wrap_i64 (by omega) (by omega)];omega
     have e2:Int.tmod (n:Int) 10=((n%10:Nat):Int):=by rw[gp (by omega)];omega
     rw[e1,e2,nB (by omega)]
     have hd:bW w (World.drew w):=kO rfl rfl rfl (Nat.le_refl _) (λ_ _=>rfl)
     have hl:=gi (n:=n/10) (by omega)
     refine⟨?_,?_⟩
     · refine aw (ir (n/10) (by omega) (World.drew w)) ?_
       rintro _ w1 ⟨rfl,hb1⟩
       refine⟨_,rfl,?_⟩
       intro k8 w8 hk8 hw8
       refine⟨_,fT (d:=n%10) (by omega) rfl hk8 hw8 w8 (Below.refl _ _),fits (by simp;omega),?_⟩
       rintro _ rfl
       have hB1:=aa hd hb1 hd.size
       exact⟨rfl,aa hB1 (hw8▸ai _ _) hB1.size⟩
     · intro k8 w8 hk8 hw8
       have hb8:Below (World.drew w).heap.size (World.drew w) w8:=hw8▸ai _ _
       have hB8:=aa hd hb8 hd.size
       refine⟨?_,_,fT (d:=n%10) (by omega) rfl hk8 hw8 w8 (Below.refl _ _),?_⟩
       · refine aw (ir (n/10) (by omega) w8) ?_
         rintro _ w1 ⟨rfl,hb1⟩
         refine⟨_,rfl,_,fT (d:=n%10) (by omega) rfl hk8 hw8 w1 hb1,fits (by simp;omega),?_⟩
         rintro _ rfl
         exact⟨rfl,aa hB8 hb1 hB8.size⟩
       · refine aw (ir (n/10) (by omega) w8) ?_
         rintro _ w1 ⟨rfl,hb1⟩
         refine⟨_,rfl,fits (by simp;omega),?_⟩
         rintro _ rfl
         exact⟨rfl,aa hB8 hb1 hB8.size⟩
 termination_by n=>n
theorem Ax:∀n:Nat,n<16->(n<10->IntKind.u8.wrap (i64.wrap ((48:Int)+(n:Int)))=(((yS n).toNat:Nat):Int))/\(¬ n<10->IntKind.u8.wrap (i64.wrap ((55:Int)+(n:Int)))=(((yS n).toNat:Nat):Int)):=by decide+kernel
theorem sD (n:Nat)(hn:n<16)(w:World):Cf kI #[vI (n:Int)] w (Ret λv w'=>v=.int .u8 (((yS n).toNat:Nat):Int)/\w'=w):=by
 apply BC
 refine ab.of (λh=>?_) (λh=>?_) <;> simp only[dTx,dFx]at h
 · rw[(Ax n hn).1 (by omega)];exact⟨rfl,rfl⟩
 · rw[(Ax n hn).2 (by omega)];exact⟨rfl,rfl⟩
theorem vJ (s:List UInt8)(hs:s.length <=1000000000000)(w:World):
   Cf mE #[vS s] w (Ret λv w'=>v=vS (j8 s)/\bW w w'):=by
 apply Dy
 intro k5 w5 hk5 hw5
 have hB5:bW w w5:=hw5▸ai w _
 have ho5:Ow tU8 aQ w5 NoB (some ⟨k5,0,none⟩) 0 0 []:=Ow.newF ni hk5 hw5 (l:=[]) (gh.nil _ _ _) (by decide)
 refine⟨λm a3 l3 c3 i w'=>∃k:Nat,k <=s.length/\i=(k:Int)/\m=s.length-k/\Ow tU8 aQ w' NoB a3 l3 c3 (cF (s.take k))/\bU w.heap.size a3/\bW w w',
   ⟨_,0,by omega,rfl,rfl,ho5,jc hk5,hB5⟩,?_⟩
 intro m a3 l3 c3 i
 refine aJ.of ?_ _
 rintro w3 ⟨k,hk,rfl,rfl,ho3,hf3,hB3⟩
 have hwl:=(mr (s.take k)).2
 have hwl2:=(mr (s.take k)).1
 rw[List.length_take]at hwl hwl2
 refine ab.of (λh=>?_) (λh=>?_) <;> simp only[dTx,dFx]at h
 · have hlt:k<s.length:=by omega
   have hw1:cF (s.take (k+1))=cF (s.take k)++eU s[k]:=by rw[List.take_succ_eq_append_getElem hlt,oa]
   have hu:=nS s[k]
   rw[lm (i:=(k:Int)) (by simpa using hlt)]
   simp only[Int.toNat_natCast]
   refine iU (w:=w3) (Ex s[k]) ?_ ?_
   · unfold Ex
     refine⟨⟨by omega,h⟩,?_⟩
     refine ab.of (λh2=>?_) (λh2=>?_) <;> simp only[ge_iff_le,dTx,dFx]at h2
     · refine⟨⟨by omega,h⟩,?_⟩
       refine ab.of (λh3=>?_) (λh3=>?_) <;> simp only[dTx,dFx]at h3
       · refine⟨⟨by omega,h⟩,rfl,?_⟩
         rw[Bool.eq_iff_iff,bne_iff_ne,dTx]
         constructor
         · intro h4;exact⟨by omega,by omega,λe=>h4 (by rw[e];rfl)⟩
         · rintro⟨_,_,h4⟩ e;exact h4 (Cj (by simpa using e))
       · exact⟨rfl,(decide_eq_false (by omega)).symm⟩
     · exact⟨rfl,(decide_eq_false (by omega)).symm⟩
   · refine ab.of (λh2=>?_) (λh2=>?_)
     · refine⟨⟨by omega,h⟩,?_⟩
       intro k4 w4 hk4 hw4
       obtain⟨w6,a5,n5,c5,hr5,ho6,hf5,hb5⟩:=C4 (ty:=aG) (w0:=w) (cm:=1) (vs:=[_]) ni bw gn (by decide) ho3 hf3 hB3 hk4 hw4 (pK rfl) (by omega)
       refine⟨w6,a5,n5,c5,hr5,s.length-(k+1),by omega,k+1,by omega,by rw[wrap_i64 (by omega) (by omega)];omega,rfl,?_,hf5,hb5⟩
       rw[hw1,Iw h2];exact ho6
     · have q1:s[k].toNat/16<16:=by omega
       have q2:s[k].toNat%16<16:=Nat.mod_lt _ (by decide)
       refine⟨⟨by omega,h⟩,by decide,?_⟩
       rintro _ rfl
       have e1:i64.wrap (Int.tdiv (i64.wrap ((s[k].toNat:Nat):Int)) (16:Int))=((s[k].toNat/16:Nat):Int):=by
         rw[wrap_i64 (n:=((s[k].toNat:Nat):Int)) (by omega) (by omega),dD (by omega),wrap_i64 (by omega) (by omega)];omega
       have e2:Int.tmod (i64.wrap ((s[k].toNat:Nat):Int)) (16:Int)=((s[k].toNat%16:Nat):Int):=by
         rw[wrap_i64 (n:=((s[k].toNat:Nat):Int)) (by omega) (by omega),gp (by omega)];omega
       rw[e1]
       refine⟨_,λu hu=>aw (sD _ q1 u) (by rintro _ w' ⟨rfl,rfl⟩;exact⟨rfl,Below.refl _ _⟩),⟨by omega,h⟩,by decide,?_⟩
       rintro _ rfl
       rw[e2]
       refine⟨_,λu hu=>aw (sD _ q2 u) (by rintro _ w' ⟨rfl,rfl⟩;exact⟨rfl,Below.refl _ _⟩),?_⟩
       intro k4 hk4 w4 hw4 hc4
       have hsrc:Src tU8 w4 NoB (some ⟨k4,0,none⟩) 3 [37,yS (s[k].toNat/16),yS (s[k].toNat%16)]:=Src.here (l:=[.int .u8 (((37:UInt8).toNat:Nat):Int),.int .u8 (((yS (s[k].toNat/16)).toNat:Nat):Int),.int .u8 (((yS (s[k].toNat%16)).toNat:Nat):Int)]) hc4 La
       obtain⟨w6,a5,n5,c5,hr5,ho6,hgr,hfr⟩:=eZ (ty:=aG) bw gn (by decide) (ho3.below hw4) (λ_ _ h=>h) (cm:=3) hsrc (by simp;omega)
       have hB4:=aa hB3 hw4 hB3.size
       refine⟨w6,a5,n5,c5,hr5,s.length-(k+1),by omega,k+1,by omega,by rw[wrap_i64 (by omega) (by omega)];omega,rfl,?_,hf3.app hB4.size hfr,hB4.grown hgr hB4.size hf3⟩
       rw[hw1,Li h2];exact ho6
 · have:k=s.length:=by omega
   subst this
   rw[List.take_length]at ho3 hwl hwl2
   have hll:=ho3.len
   refine ab.of (λh2=>?_) (λh2=>?_)
   · have h2:((l3:Nat):Int)=0:=eq_of_beq h2
     have:s=[]:=List.length_eq_zero_iff.1 (by omega)
     rw[this];exact⟨rfl,hB3⟩
   · have h2: ¬ ((l3:Nat):Int)=0:=by simpa using h2
     refine⟨_,me bw av bS ho3.all,?_,hB3⟩
     rw[j8,if_neg]
     rintro rfl
     exact h2 (by rw[hll];rfl)
theorem Rm {s:List UInt8}(h:∀n,n<256->(eU (UInt8.ofNat n)).isPrefixOf s=false):unB s=none:=by
 unfold unB
 rw[List.find?_eq_none.2 (λn hn=>by rw[h n (List.mem_range.1 hn)];simp)];rfl
theorem PA (c:UInt8):j8 [c]=eU c:=by unfold j8;rw[if_neg (by simp),cF,cF,List.append_nil]
theorem JE {s out rest x:List UInt8}(h:s=cF out++rest):((s.take ((cF out).length+x.length)).drop (cF out).length==x)=x.isPrefixOf rest:=by
 rw[List.drop_take,h,List.drop_left,Nat.add_sub_cancel_left,Bool.eq_iff_iff,beq_iff_eq,List.isPrefixOf_iff_prefix,List.prefix_iff_eq_take]
 exact⟨Eq.symm,Eq.symm⟩
theorem A7 (s:List UInt8)(hs:s.length <=10000000)(w:World):
   Cf ng #[vS s] w (Ret λv w'=>v=unT s/\bW w w'):=by
 apply zq
 refine ab.of (λh=>?_) (λh=>?_)
 · obtain rfl:s=[37]:=eq_of_beq h
   refine⟨?_,Below.refl _ _⟩
   unfold unT;rw[UW];rfl
 have h37:s≠[37]:=by rintro rfl;cases h
 intro k11 w11 hk11 hw11
 have hB11:bW w w11:=hw11▸ai w _
 have ho11:Ow tU8 aQ w11 NoB (some ⟨k11,0,none⟩) 0 0 []:=Ow.newF ni hk11 hw11 (l:=[]) (gh.nil _ _ _) (by decide)
 refine⟨λm a l c i w'=>∃out rest:List UInt8,s=cF out++rest/\i=(((cF out).length:Nat):Int)/\m=s.length-(cF out).length/\Ow tU8 aQ w' NoB a l c out/\bU w.heap.size a/\bW w w',
   ⟨_,[],s,rfl,rfl,rfl,ho11,jc hk11,hB11⟩,?_⟩
 intro m a l c i
 refine aJ.of ?_ _
 rintro w1 ⟨out,rest,hsr,rfl,rfl,ho,hf,hB⟩
 have hlen:s.length=(cF out).length+rest.length:=by rw[hsr,List.length_append]
 have hol:=(mr out).1
 refine ab.of (λh=>?_) (λh=>?_) <;> simp only[dTx,dFx]at h
 · have hr:rest≠[]:=by rintro rfl;simp at hlen;omega
   have hdrop:s.drop (cF out).length=rest:=by rw[hsr,List.drop_left]
   have bad:∀{u:World},unB rest=none->bW w u->(.tuple #[vS [],.bool false]:Value)=unT s/\bW w u:=λe hb=>⟨by unfold unT;rw[Ro hsr hr h37 e];rfl,hb⟩
   refine⟨λm1 a1 l1 c1 i1 b j w'=>∃k:Nat,k <=256/\j=(k:Int)/\m1=256-k/\bU w.heap.size a1/\bW w w'/\
     ((b=false/\i1=(((cF out).length:Nat):Int)/\Ow tU8 aQ w' NoB a1 l1 c1 out/\∀d,d<k->(eU (UInt8.ofNat d)).isPrefixOf rest=false)\/
      (b=true/\∃(x:UInt8) (r:List UInt8),rest=eU x++r/\i1=(((cF (out++[x])).length:Nat):Int)/\Ow tU8 aQ w' NoB a1 l1 c1 (out++[x]))),
     ⟨_,0,by omega,rfl,rfl,hf,hB,.inl ⟨rfl,rfl,ho,λd hd=>by omega⟩⟩,?_⟩
   intro m1 a1 l1 c1 i1 b j
   refine aJ.of ?_ _
   rintro w2 ⟨k,hk,rfl,rfl,hf2,hB2,hd⟩
   have next:b=true->∃m':Nat,m'<s.length-(cF out).length/\∃out' rest':List UInt8,s=cF out'++rest'/\i1=(((cF out').length:Nat):Int)/\m'=s.length-(cF out').length/\Ow tU8 aQ w2 NoB a1 l1 c1 out'/\bU w.heap.size a1/\bW w w2:=by
     intro hb
     rcases hd with⟨e,_⟩|⟨_,x,r,hx,hi,ho2⟩
     · rw[e]at hb;cases hb
     · have hs2:s=cF (out++[x])++r:=by rw[hsr,hx,oa,List.append_assoc]
       have h1:=(xc x).1
       have h2:(cF (out++[x])).length=(cF out).length+(eU x).length:=by rw[oa,List.length_append]
       have h3:s.length=(cF (out++[x])).length+r.length:=by rw[hs2,List.length_append]
       exact⟨_,by omega,out++[x],r,hs2,hi,rfl,ho2,hf2,hB2⟩
   refine⟨λw'=>w'=w2/\k<256/\b=false,?_,aJ.of ?_ _⟩
   · refine ab.of (λh2=>?_) (λh2=>?_) <;> simp only[dTx,dFx]at h2
     · refine ab.of (λh3=>?_) (λh3=>?_)
       · exact⟨rfl,by omega,by simpa using h3⟩
       · refine ab.no h3 (next (by simpa using h3))
     · refine ab.of (λh3=>?_) (λh3=>?_)
       · have h3:b=false:=by simpa using h3
         rcases hd with⟨_,_,_,hall⟩|⟨e,_⟩
         · exact bad (Rm λn hn=>hall n (by omega)) hB2
         · rw[e]at h3;cases h3
       · exact next (by simpa using h3)
   · rintro w3 ⟨rfl,hk2,rfl⟩
     obtain⟨_,rfl,ho2,hall⟩:=hd.resolve_right (λe=>by cases e.1)
     have hu8:IntKind.u8.wrap ((k:Nat):Int)=(((UInt8.ofNat k).toNat:Nat):Int):=by
       rw[wrap_u8 (by omega) (by omega),UInt8.toNat_ofNat',Nat.mod_eq_of_lt (by omega)]
     rw[hu8]
     intro k4 w4 hk4 hw4
     have hb4:bW w3 w4:=hw4▸ai w3 _
     have hone:Ow tU8 aQ w4 NoB (some ⟨k4,0,none⟩) 1 1 [UInt8.ofNat k]:=Ow.newF ni hk4 hw4 (gh.one (pK rfl)) (show 1 <=maxLen by decide)
     have hB4:=aa hB2 hb4 hB2.size
     refine⟨_,me bw av bS hone.all,?_⟩
     refine aw (vJ [UInt8.ofNat k] (by simp) w4) ?_
     rintro _ w5 ⟨rfl,hb5⟩
     have hB5:=aa hB4 hb5 hB4.size
     rw[PA]
     refine⟨_,rfl,?_⟩
     generalize hx:UInt8.ofNat k=x at*
     have hl3:=xc x
     have e1:i64.wrap (((s.length:Nat):Int)-(((cF out).length:Nat):Int))=((rest.length:Nat):Int):=by rw[wrap_i64 (by omega) (by omega)];omega
     have e2:i64.wrap ((((cF out).length:Nat):Int)+(((eU x).length:Nat):Int))=(((cF out).length+(eU x).length:Nat):Int):=by rw[wrap_i64 (by omega) (by omega)];omega
     refine iU (w:=w5) ((eU x).isPrefixOf rest) ?_ ?_
     · rw[e1]
       refine ab.of (λh4=>?_) (λh4=>?_) <;> simp only[dTx,dFx]at h4
       · rw[e2]
         refine⟨⟨⟨by omega,by omega⟩,by omega,by simp only[Int.toNat_natCast];omega⟩,?_⟩
         rintro _ rfl
         simp only[Int.toNat_natCast]
         exact⟨trivial,JE hsr⟩
       · refine⟨rfl,?_⟩
         cases hp:(eU x).isPrefixOf rest with
         | false=>rfl
         | true=>have:=(List.isPrefixOf_iff_prefix.1 hp).length_le;omega
     · refine ab.of (λh4=>?_) (λh4=>?_)
       · obtain⟨r,hr4⟩:=List.isPrefixOf_iff_prefix.1 h4
         rw[e2]
         intro k6 w6 hk6 hw6
         obtain⟨w7,a7,n7,c7,hr7,ho7,hf7,hb7⟩:=C4 (ty:=aG) (w0:=w) (cm:=1) (vs:=[_]) ni bw gn (by decide) ((ho2.below hb4).below hb5) hf2 hB5 hk6 hw6 (pK rfl) (by omega)
         refine⟨w7,a7,n7,c7,hr7,256-(k+1),by omega,k+1,by omega,by rw[wrap_i64 (by omega) (by omega)];omega,rfl,hf7,hb7,.inr ⟨rfl,x,r,hr4.symm,?_,ho7⟩⟩
         rw[oa,List.length_append]
       · refine⟨256-(k+1),by omega,k+1,by omega,by rw[wrap_i64 (by omega) (by omega)];omega,rfl,hf2,hB5,.inl ⟨rfl,rfl,(ho2.below hb4).below hb5,λd hd4=>?_⟩⟩
         by_cases hdk:d=k
         · rw[hdk,hx];exact h4
         · exact hall d (by omega)
 · have hr:rest=[]:=List.length_eq_zero_iff.1 (by omega)
   subst hr
   rw[List.append_nil]at hsr
   refine⟨_,me bw av bS ho.all,?_,hB⟩
   unfold unT
   rw[TU hsr]
   have hll:=ho.len
   by_cases he:out=[]
   · rw[if_pos he];subst he
     rw[hll];rfl
   · rw[if_neg he]
     have:0<out.length:=List.length_pos_iff.2 he
     rw[decide_eq_true (by omega)];rfl
theorem DC (a:Value){w K}(h:nA w (.cells (Value.cells a) ay) λb c=>∃d,Ld ay (vA b 0) c d/\uB kN #[d] c λe f=>ab (!e) (K (vS []) f) (∃g:FP [.one .str],(true/\∃i,Ld bV (vA b 0) f (.bool i)/\ab i ((((List.length [104,116,116,112]+List.length [115]:Nat):Int) <=i64.max)/\∀j,j=([104,116,116,112]++[115])->g j f) (g [104,116,116,112] f))/\∀i,aJ 4 (∀j,g i j->true/\∃k,Ld ae (vA b 1) j k/\uS iL #[k] j λl m=>(((List.length [58,47,47]+List.length l:Nat):Int) <=i64.max)/\∀n,n=([58,47,47]++l)->(((List.length i+List.length n:Nat):Int) <=i64.max)/\∀o,o=(i++n)->∃p:FP [.one .str],(∃q:FP [.one .bool],(true/\∃r,Ld bV (vA b 0) m (.bool r)/\ab r (true/\∃s,Ld bh (vA b 19) m (vI s)/\ab (s !=(443:Int)) (q true m) (true/\∃t,Ld bV (vA b 0) m (.bool t)/\ab (!t) (true/\∃u,Ld bh (vA b 19) m (vI u)/\q (u !=(80:Int)) m) (q false m))) (true/\∃s,Ld bV (vA b 0) m (.bool s)/\ab (!s) (true/\∃t,Ld bh (vA b 19) m (vI t)/\q (t !=(80:Int)) m) (q false m)))/\∀r,aJ 16 (∀s,q r s->ab r (true/\∃t,Ld bh (vA b 19) s (vI t)/\uS lE #[vI t] s λu v=>(((List.length [58]+List.length u:Nat):Int) <=i64.max)/\∀x,x=([58]++u)->(((List.length o+List.length x:Nat):Int) <=i64.max)/\∀y,y=(o++x)->p y v) (p o s)))/\∀q,aJ 23 (∀r,p q r->true/\∃s,Ld ah (vA b 20) r (vS s)/\(((List.length q+List.length s:Nat):Int) <=i64.max)/\∀t,t=(q++s)->K (vS t) r)))):Cf mF #[a] w (Ret K):=ru func52 [(12,[(3,.one .str)]),(20,[(3,.one .str)]),(21,[(33,.one .bool)])] h
theorem BO (a:Value){w K}(h:nA w (.cells (Value.cells a) ak) λb c=>true/\∃d,Ld bh (vA b 0) c (vI d)/\ab (d==(1:Int)) (true/\∃e,Ld ay (vA b 1) c e/\uB kN #[e] c λf g=>ab f (∃i,Ld ak (vA b 0) g i/\true/\∃j,Ld ay (vA b 1) g j/\true/\∃k,Ld ah (vA b 22) g (vS k)/\∃l,(Instr.build ak #[(0,vI 1),(1,j),(2,vS k)]).run prog g=.ok l g/\∃m,(do eqGuard .eql ak (.tmp 12) (.tmp 17) i l;binOp .eql ak i l:Sem Value).run prog g=.ok (.bool m) g/\K (.bool m) g) (K (.bool false) g)) (ab (d==(2:Int)) (true/\∃e,Ld aN (vA b 23) c e/\nA c (.cells kz aN) λf g=>∃i,Sv aN (vA f 0) e g i/\true/\∃j,Ld ae (vA f 1) i j/\uB kL #[j] i λk l=>ab k (true/\∃m,Ld ah (vA f 19) l (vS m)/\uB gC #[vS m] l λn o=>ab n (true/\∃p,Ld bh (vA f 20) o (vI p)/\ab (p==(0:Int)) (∃q,Ld ak (vA b 0) o q/\∃r,Ld aN (vA f 0) o r/\∃s,(Instr.build ak #[(0,vI 2),(3,r)]).run prog o=.ok s o/\∃t,(do eqGuard .eql ak (.tmp 48) (.tmp 50) q s;binOp .eql ak q s:Sem Value).run prog o=.ok (.bool t) o/\K (.bool t) o) (true/\∃q,Ld bh (vA f 20) o (vI q)/\ab (q==(1:Int)) (∃r,Ld ak (vA b 0) o r/\∃s,Ld aN (vA f 0) o s/\∃t,(Instr.build ak #[(0,vI 2),(3,s)]).run prog o=.ok t o/\∃u,(do eqGuard .eql ak (.tmp 48) (.tmp 50) r t;binOp .eql ak r t:Sem Value).run prog o=.ok (.bool u) o/\K (.bool u) o) (true/\∃r,Ld bh (vA f 20) o (vI r)/\ab (r==(2:Int)) (∃s,Ld ak (vA b 0) o s/\∃t,Ld aN (vA f 0) o t/\∃u,(Instr.build ak #[(0,vI 2),(3,t)]).run prog o=.ok u o/\∃v,(do eqGuard .eql ak (.tmp 48) (.tmp 50) s u;binOp .eql ak s u:Sem Value).run prog o=.ok (.bool v) o/\K (.bool v) o) (K (.bool false) o)))) (K (.bool false) o)) (K (.bool false) l)) (ab (d==(3:Int)) (true/\∃e,Ld bu (vA b 44) c (vI e)/\ab (decide (e >=(0:Int))) (true/\∃f,Ld bu (vA b 44) c (vI f)/\ab (decide (f <=(1099511627776:Int))) (∃g,Ld ak (vA b 0) c g/\true/\∃i,Ld bu (vA b 44) c (vI i)/\∃j,(do eqGuard .eql ak (.tmp 64) (.tmp 67) g (.agg #[vI 3,.bool false,vI 0,vS [],.int .u8 0,.int .u8 0,.int .u8 0,.int .u8 0,.int .u8 0,.int .u8 0,.int .u8 0,.int .u8 0,.int .u8 0,.int .u8 0,.int .u8 0,.int .u8 0,.int .u8 0,.int .u8 0,.int .u8 0,.int .u8 0,vI 0,vS [],vS [],.bool false,vI 0,vS [],.int .u8 0,.int .u8 0,.int .u8 0,.int .u8 0,.int .u8 0,.int .u8 0,.int .u8 0,.int .u8 0,.int .u8 0,.int .u8 0,.int .u8 0,.int .u8 0,.int .u8 0,.int .u8 0,.int .u8 0,.int .u8 0,vS [],vI 0,vI i]);binOp .eql ak g (.agg #[vI 3,.bool false,vI 0,vS [],.int .u8 0,.int .u8 0,.int .u8 0,.int .u8 0,.int .u8 0,.int .u8 0,.int .u8 0,.int .u8 0,.int .u8 0,.int .u8 0,.int .u8 0,.int .u8 0,.int .u8 0,.int .u8 0,.int .u8 0,.int .u8 0,vI 0,vS [],vS [],.bool false,vI 0,vS [],.int .u8 0,.int .u8 0,.int .u8 0,.int .u8 0,.int .u8 0,.int .u8 0,.int .u8 0,.int .u8 0,.int .u8 0,.int .u8 0,.int .u8 0,.int .u8 0,.int .u8 0,.int .u8 0,.int .u8 0,.int .u8 0,vS [],vI 0,vI i]):Sem Value).run prog c=.ok (.bool j) c/\K (.bool j) c) (K (.bool false) c)) (K (.bool false) c)) (ab (d==(4:Int)) (∃e,Ld ak (vA b 0) c e/\∃f,(do eqGuard .eql ak (.tmp 72) (.tmp 73) e (.agg #[vI 4,.bool false,vI 0,vS [],.int .u8 0,.int .u8 0,.int .u8 0,.int .u8 0,.int .u8 0,.int .u8 0,.int .u8 0,.int .u8 0,.int .u8 0,.int .u8 0,.int .u8 0,.int .u8 0,.int .u8 0,.int .u8 0,.int .u8 0,.int .u8 0,vI 0,vS [],vS [],.bool false,vI 0,vS [],.int .u8 0,.int .u8 0,.int .u8 0,.int .u8 0,.int .u8 0,.int .u8 0,.int .u8 0,.int .u8 0,.int .u8 0,.int .u8 0,.int .u8 0,.int .u8 0,.int .u8 0,.int .u8 0,.int .u8 0,.int .u8 0,vS [],vI 0,vI 0]);binOp .eql ak e (.agg #[vI 4,.bool false,vI 0,vS [],.int .u8 0,.int .u8 0,.int .u8 0,.int .u8 0,.int .u8 0,.int .u8 0,.int .u8 0,.int .u8 0,.int .u8 0,.int .u8 0,.int .u8 0,.int .u8 0,.int .u8 0,.int .u8 0,.int .u8 0,.int .u8 0,vI 0,vS [],vS [],.bool false,vI 0,vS [],.int .u8 0,.int .u8 0,.int .u8 0,.int .u8 0,.int .u8 0,.int .u8 0,.int .u8 0,.int .u8 0,.int .u8 0,.int .u8 0,.int .u8 0,.int .u8 0,.int .u8 0,.int .u8 0,.int .u8 0,.int .u8 0,vS [],vI 0,vI 0]):Sem Value).run prog c=.ok (.bool f) c/\K (.bool f) c) (K (.bool false) c))))):Cf oV #[a] w (Ret K):=ru func56 [] h
theorem DE (a:Value){w K}(h:nA w (.cells (Value.cells a) ak) λb c=>true/\∃d,Ld bh (vA b 0) c (vI d)/\ab (d==(1:Int)) (true/\∃e,(∀f,bW c f->Ld ay (vA b 1) f e)/\∃f,(∀g,bW c g->Cf mF #[e] g λi j=>i=.returned (vS f)/\Below c.heap.size g j)/\(((List.length [115,101,116,32]+List.length f:Nat):Int) <=i64.max)/\∀g,g=([115,101,116,32]++f)->(((List.length g+List.length [32]:Nat):Int) <=i64.max)/\∀i,i=(g++[32])->true/\∃j,(∀k,bW c k->Ld ah (vA b 22) k (vS j))/\∃k,(∀l,bW c l->Cf mE #[vS j] l λm n=>m=.returned (vS k)/\Below c.heap.size l n)/\(((List.length i+List.length k:Nat):Int) <=i64.max)/\∀l,l=(i++k)->∀m,bW c m->K (vS l) m) (ab (d==(2:Int)) (∃e:FP [.one .str],(true/\true/\∃f,Ld bV (vA b 23) c (.bool f)/\ab f ((((List.length [103,101,116,32,104,116,116,112]+List.length [115]:Nat):Int) <=i64.max)/\∀g,g=([103,101,116,32,104,116,116,112]++[115])->e g c) (e [103,101,116,32,104,116,116,112] c))/\∀f,aJ 5 (∀g,e f g->(((List.length f+List.length [32]:Nat):Int) <=i64.max)/\∀i,i=(f++[32])->true/\true/\true/\true/\true/\true/\∃j,(∀k,bW g k->Ld ae (vA b 24) k j)/\∃k,(∀l,bW g l->Cf iL #[j] l λm n=>m=.returned (vS k)/\bW l n)/\(((List.length i+List.length k:Nat):Int) <=i64.max)/\∀l,l=(i++k)->(((List.length l+List.length [32]:Nat):Int) <=i64.max)/\∀m,m=(l++[32])->∃n,(∀o,bW g o->Ld ah (vA b 42) o (vS n))/\(((List.length m+List.length n:Nat):Int) <=i64.max)/\∀o,o=(m++n)->(((List.length o+List.length [32]:Nat):Int) <=i64.max)/\∀p,p=(o++[32])->∃q,(∀r,bW g r->Ld bh (vA b 43) r (vI q))/\∀r,g.heap.size <=r->(∀s,bW g s->s.heap[r]? =some (.cells #[vS [115,97,109,101],vS [116,111,112],vS [115,117,98]] ah)->bx q ((3:Nat):Int)/\true)/\∃s,(∀t,bW g t->t.heap[r]? =some (.cells #[vS [115,97,109,101],vS [116,111,112],vS [115,117,98]] ah)->Ld ah (aq (vA r 0) q 1) t (vS s))/\(∀t,bW g t->t.heap[r]? =some (.cells #[vS [115,97,109,101],vS [116,111,112],vS [115,117,98]] ah)->(((List.length p+List.length s:Nat):Int) <=i64.max))/\∀t,t=(p++s)->∀u,bW g u->u.heap[r]? =some (.cells #[vS [115,97,109,101],vS [116,111,112],vS [115,117,98]] ah)->K (vS t) u)) (ab (d==(3:Int)) (true/\∃e,Ld bu (vA b 44) c (vI e)/\uS fe #[vI e] c λf g=>(((List.length [116,105,99,107,32]+List.length f:Nat):Int) <=i64.max)/\∀i,i=([116,105,99,107,32]++f)->K (vS i) g) (K (vS [99,108,101,97,114]) c)))):Cf qB #[a] w (Ret K):=ru func57 [(17,[(3,.one .str)]),(3000024,[(0,.one .bool),(1,.one .bool),(2,.one .bool),(3,.one .bool),(8,.one .bool),(9,.one .bool),(14,.one .bool),(15,.one .bool),(4,.one .bool),(5,.one .bool),(6,.one .bool),(7,.one .bool),(10,.one .bool),(11,.one .bool),(12,.one .bool),(16,.one .bool),(13,.one .bool),(17,.one .bool),(18,.one .bool),(19,.one .bool),(20,.one .bool)])] h
theorem DG (a:lU){w K}(h:nA w (.cells dt ak) λb c=>uL fK #[vS a,.int .u8 32] c λd e f g=>nA g (.cells dt ak) λi j=>∃k,Sv ak (vA i 0) (.agg dt) j k/\∃l:FP [.one .str],(∃m:FP [.one .bool],(ab (((e:Nat):Int)==(3:Int)) ((bx (0:Int) ((e:Nat):Int)/\Option.isSome d=true)/\∃n,Ld ah (aq d (0:Int) 1) k (vS n)/\m (n==[115,101,116]) k) (m false k))/\∀n,aJ 8 (∀o,m n o->ab n ((bx (1:Int) ((e:Nat):Int)/\Option.isSome d=true)/\∃p,Ld ah (aq d (1:Int) 1) o (vS p)/\Cf oT #[vS p] o λq r=>∃s t,q=rT #[s,vI t]/\nA r (.cells eh ay) λu v=>∃x,Sv ay (vA u 0) s v x/\(bx (2:Int) ((e:Nat):Int)/\Option.isSome d=true)/\∃y,Ld ah (aq d (2:Int) 1) x (vS y)/\Cf ng #[vS y] x λz A=>∃B C,z=rT #[vS B,.bool C]/\∃D:FP [],(∃E:FP [.one .bool],(ab (t !=(0:Int)) (E true A) (E (!C) A))/\∀F,aJ 5 (∀G,E F G->ab F (∃H,Ld ak (vA i 0) G H/\∃I,Sv ak (vA b 0) H G I/\∃J,Rv ak (vA b 0) I J/\K (.tuple #[J,.bool false]) I) (D G)))/\aJ 8 (∀E,D E->∃F,Ld ay (vA u 0) E F/\∃G,(Instr.build ak #[(0,vI 1),(1,F),(2,vS B)]).run prog E=.ok G E/\∃H,Sv ak (vA i 0) G E H/\∃I,(∀J,bW H J->Ld ay (vA u 0) J I)/\∃J,(∀L,bW H L->Cf mF #[I] L λM N=>M=.returned (vS J)/\Below H.heap.size L N)/\(((List.length [115,101,116,32]+List.length J:Nat):Int) <=i64.max)/\∀L,L=([115,101,116,32]++J)->(((List.length L+List.length [32]:Nat):Int) <=i64.max)/\∀M,M=(L++[32])->(bx (2:Int) ((e:Nat):Int)/\Option.isSome d=true)/\∃N,(∀O,bW H O->Ld ah (aq d (2:Int) 1) O (vS N))/\(((List.length M+List.length N:Nat):Int) <=i64.max)/\∀O,O=(M++N)->∀P,bW H P->l O P)) (∃p:FP [.one .bool],(ab (((e:Nat):Int)==(5:Int)) ((bx (0:Int) ((e:Nat):Int)/\Option.isSome d=true)/\∃q,Ld ah (aq d (0:Int) 1) o (vS q)/\p (q==[103,101,116]) o) (p false o))/\∀q,aJ 8 (∀r,p q r->ab q ((bx (2:Int) ((e:Nat):Int)/\Option.isSome d=true)/\∃s,Ld ah (aq d (2:Int) 1) r (vS s)/\Cf ja #[vS s] r λt u=>∃v x,t=rT #[v,vI x]/\nA u (.cells bj ae) λy z=>∃A,Sv ae (vA y 0) v z A/\ab (x !=(0:Int)) (∃B,Ld ak (vA i 0) A B/\∃C,Sv ak (vA b 0) B A C/\∃D,Rv ak (vA b 0) C D/\K (.tuple #[D,.bool false]) C) ((bx (1:Int) ((e:Nat):Int)/\Option.isSome d=true)/\(bx (3:Int) ((e:Nat):Int)/\Option.isSome d=true)/\∃B,(∀C,bW A C->Ld ah (aq d (1:Int) 1) C (vS B))/\∃C,(∀D,bW A D->Ld ae (vA y 0) D C)/\∃D,(∀E,bW A E->Ld ah (aq d (3:Int) 1) E (vS D))/\∃E,(∀F,bW A F->(Instr.build aN #[(0,.bool (B==[104,116,116,112,115])),(1,C),(2,vS D)]).run prog F=.ok E F)/\∃F,(∀G,bW A G->(Instr.build ak #[(0,vI 2),(3,E)]).run prog G=.ok F G)/\∀G,bW A G->∃H,Sv ak (vA i 0) F G H/\∃I:FP [],((bx (4:Int) ((e:Nat):Int)/\Option.isSome d=true)/\∃J,Ld ah (aq d (4:Int) 1) H (vS J)/\ab (J==[116,111,112]) (true/\true/\∃L,Sv bh (vA i 43) (vI 1) H L/\I L) (I H))/\aJ 6 (∀J,I J->∃L:FP [],((bx (4:Int) ((e:Nat):Int)/\Option.isSome d=true)/\∃M,Ld ah (aq d (4:Int) 1) J (vS M)/\ab (M==[115,117,98]) (true/\true/\∃N,Sv bh (vA i 43) (vI 2) J N/\L N) (L J))/\aJ 6 (∀M,L M->(bx (1:Int) ((e:Nat):Int)/\Option.isSome d=true)/\∃N,(∀O,bW M O->Ld ah (aq d (1:Int) 1) O (vS N))/\(((List.length [103,101,116,32]+List.length N:Nat):Int) <=i64.max)/\∀O,O=([103,101,116,32]++N)->(((List.length O+List.length [32]:Nat):Int) <=i64.max)/\∀P,P=(O++[32])->∃Q,(∀R,bW M R->Ld ae (vA y 0) R Q)/\∃R,(∀S,bW M S->Cf iL #[Q] S λT U=>T=.returned (vS R)/\Below M.heap.size S U)/\(((List.length P+List.length R:Nat):Int) <=i64.max)/\∀S,S=(P++R)->(((List.length S+List.length [32]:Nat):Int) <=i64.max)/\∀T,T=(S++[32])->(bx (3:Int) ((e:Nat):Int)/\Option.isSome d=true)/\∃U,(∀V,bW M V->Ld ah (aq d (3:Int) 1) V (vS U))/\(((List.length T+List.length U:Nat):Int) <=i64.max)/\∀V,V=(T++U)->(((List.length V+List.length [32]:Nat):Int) <=i64.max)/\∀X,X=(V++[32])->(bx (4:Int) ((e:Nat):Int)/\Option.isSome d=true)/\∃Y,(∀Z,bW M Z->Ld ah (aq d (4:Int) 1) Z (vS Y))/\(((List.length X+List.length Y:Nat):Int) <=i64.max)/\∀Z,Z=(X++Y)->∀ac,bW M ac->l Z ac)))) (∃s:FP [.one .bool],(ab (((e:Nat):Int)==(2:Int)) ((bx (0:Int) ((e:Nat):Int)/\Option.isSome d=true)/\∃t,Ld ah (aq d (0:Int) 1) r (vS t)/\s (t==[116,105,99,107]) r) (s false r))/\∀t,aJ 8 (∀u,s t u->ab t ((bx (1:Int) ((e:Nat):Int)/\Option.isSome d=true)/\∃v,Ld ah (aq d (1:Int) 1) u (vS v)/\Cf ia #[vS v] u λx y=>∃z A,x=rT #[vI z,.bool A]/\ab (!A) (∃B,Ld ak (vA i 0) y B/\∃C,Sv ak (vA b 0) B y C/\∃D,Rv ak (vA b 0) C D/\K (.tuple #[D,.bool false]) C) (∃B,Sv ak (vA i 0) (.agg #[vI 3,.bool false,vI 0,vS [],.int .u8 0,.int .u8 0,.int .u8 0,.int .u8 0,.int .u8 0,.int .u8 0,.int .u8 0,.int .u8 0,.int .u8 0,.int .u8 0,.int .u8 0,.int .u8 0,.int .u8 0,.int .u8 0,.int .u8 0,.int .u8 0,vI 0,vS [],vS [],.bool false,vI 0,vS [],.int .u8 0,.int .u8 0,.int .u8 0,.int .u8 0,.int .u8 0,.int .u8 0,.int .u8 0,.int .u8 0,.int .u8 0,.int .u8 0,.int .u8 0,.int .u8 0,.int .u8 0,.int .u8 0,.int .u8 0,.int .u8 0,vS [],vI 0,vI z]) y B/\l a B)) (∃v,Sv ak (vA i 0) (.agg #[vI 4,.bool false,vI 0,vS [],.int .u8 0,.int .u8 0,.int .u8 0,.int .u8 0,.int .u8 0,.int .u8 0,.int .u8 0,.int .u8 0,.int .u8 0,.int .u8 0,.int .u8 0,.int .u8 0,.int .u8 0,.int .u8 0,.int .u8 0,.int .u8 0,vI 0,vS [],vS [],.bool false,vI 0,vS [],.int .u8 0,.int .u8 0,.int .u8 0,.int .u8 0,.int .u8 0,.int .u8 0,.int .u8 0,.int .u8 0,.int .u8 0,.int .u8 0,.int .u8 0,.int .u8 0,.int .u8 0,.int .u8 0,.int .u8 0,.int .u8 0,vS [],vI 0,vI 0]) u v/\l a v)))))))/\∀m,aJ 131 (∀n,l m n->∃o,(∀p,bW n p->Ld ak (vA i 0) p o)/\∃p,(∀q,bW n q->Ld ak (vA i 0) q p)/\∃q,(∀r,bW n r->Cf oV #[p] r λs t=>s=.returned (.bool q)/\bW r t)/\ab q (∃r,(∀s,bW n s->Ld ak (vA i 0) s r)/\∃s,(∀t,bW n t->Cf qB #[r] t λu v=>u=.returned (vS s)/\bW t v)/\∀t,bW n t->∃u,Sv ak (vA b 0) o t u/\∃v,Rv ak (vA b 0) u v/\K (.tuple #[v,.bool (s==m)]) u) (∀r,bW n r->∃s,Sv ak (vA b 0) o r s/\∃t,Rv ak (vA b 0) s t/\K (.tuple #[t,.bool false]) s))):Cf mH #[vS a] w (Ret K):=ru func22 [(8,[(6,.one .str)]),(9,[(27,.one .bool)]),(16,[]),(17,[(47,.one .bool)]),(27,[(68,.one .bool)]),(3000041,[(0,.one .bool),(1,.one .bool),(5,.one .bool),(6,.one .bool),(2,.one .bool),(3,.one .bool),(4,.one .bool),(7,.one .bool),(8,.one .bool),(9,.one .bool)]),(42,[]),(48,[]),(55,[(127,.one .bool)]),(3000071,[(0,.one .bool),(1,.one .bool),(2,.one .bool),(3,.one .bool),(6,.one .bool),(4,.one .bool),(5,.one .bool),(7,.one .bool),(8,.one .bool)])] h
theorem BN (a:lU){w K}(h:nA w (.cells #[vI 0,vI 0,vI 0] aF) λb c=>ab (decide (((List.length a:Nat):Int)>(20000:Int))) (∃d,Sv aF (vA b 0) (.agg #[vI 54,vI 1,vI 1]) c d/\∃e f g,Rv aF (vA b 0) d (.agg #[vI e,vI f,vI g])/\K (.tuple #[.slice none 0 0,.agg #[vI e,vI f,vI g]]) d) (nA c (.cells #[] ak) λd e=>uL oN #[vS a] e λf g i j=>∃k:Nat->FP [.one .slice,.one (.int .i64)],(∃l,k l (vA d 0) 0 0 (0:Int) j)/\∀l m n o p,aJ 29 (∀q,k l m n o p q->ab (decide (p<((g:Nat):Int))) ((bx p ((g:Nat):Int)/\Option.isSome f=true)/\∃r,Ld ah (aq f p 1) q (vS r)/\ab (decide (p >=(200:Int))) (∃s,Sv aF (vA b 0) (.agg #[vI 53,vI (i64.wrap (p+(1:Int))),vI 1]) q s/\∃t u v,Rv aF (vA b 0) s (.agg #[vI t,vI u,vI v])/\K (.tuple #[.slice none 0 0,.agg #[vI t,vI u,vI v]]) s) (Cf mH #[vS r] q λs t=>∃u v,s=rT #[u,.bool v]/\nA t (.cells dt ak) λx y=>∃z,Sv ak (vA x 0) u y z/\ab (!v) (∃A,Sv aF (vA b 0) (.agg #[vI 131,vI (i64.wrap (p+(1:Int))),vI 1]) z A/\∃B C D,Rv aF (vA b 0) A (.agg #[vI B,vI C,vI D])/\K (.tuple #[.slice none 0 0,.agg #[vI B,vI C,vI D]]) A) (∃A,Ld ak (vA x 0) z A/\∃B C D E,(Instr.buildSlice cE 1 #[(0,A)]).run prog z=.ok (.slice C D E) B/\∃F G H I,(Builtin.append_ #[cE,cE] cE #[.slice m n o,.slice C D E]).run prog B=.ok (.slice G H I) F/\∃J:Nat,J<l/\k J G H I (i64.wrap (p+(1:Int))) F))) (∃r,Sv aF (vA b 0) (.agg #[vI 0,vI 0,vI 0]) q r/\∃s t u,Rv aF (vA b 0) r (.agg #[vI s,vI t,vI u])/\K (.tuple #[.slice m n o,.agg #[vI s,vI t,vI u]]) r)))):Cf oU #[vS a] w (Ret K):=ru func10 [(16,[(4,.one .slice),(17,.one (.int .i64))])] h
theorem Q6 {o:OpR}(c1:o.kind≠1)(c2:o.kind≠2)(c3:o.kind≠3)(c4:o.kind≠4):cP o=false:=by
 rw[OO c1 c2 c3];unfold KU
 rw[show(o.kind==eP.kind)=false from beq_eq_false_iff_ne.2 c4];rfl
theorem MR {o:OpR}(k:o.fit)(w:World):(Instr.build ak #[(0,vI 1),(1,o.url.v),(2,vS o.text)]).run prog w=.ok (⟨1,o.url,o.text,j6,0⟩:OpR).v w:=by
 obtain⟨a1,⟨b1,⟨c1,c2,c3⟩,b2,b3⟩,a2,⟨d1,⟨e1,e2,e3⟩,d2,d3⟩,a3⟩:=o
 obtain⟨h1,h2⟩:=k
 obtain⟨x0,x1,x2,x3,x4,x5,x6,x7,x8,x9,x10,x11,x12,x13,x14,x15,rfl⟩:=fi c3 h1
 kernel_rfl
theorem Dc {o:OpR}(k:o.ok)(w:World):Cf oV #[o.v] w (Ret λv w'=>v=.bool (cP o)/\bW w w'):=by
 apply BO
 intro k1 w1 hk1 hw1
 have hB1:=(hw1▸ai w _:bW w w1)
 have h1:ao w1 k1 ak o.cells:=ao.new hk1 hw1
 have hun:=k.un
 have hup:=k.up
 have hrn:=k.rn
 have hrp:=k.rp
 refine⟨rfl,_,h1.load1 bG rfl (i:=0) rfl,ab.of (λc1=>?_) (λc1=>?_)⟩
 · have c1:o.kind=1:=by simpa using c1
   rw[R1 k c1]
   refine⟨rfl,_,gP.load h1 (i:=1) (us:=o.url.cells) (Url.len k.uo) (λj hj=>En k hj),?_⟩
   refine aw (sH k.uo (by omega) (by omega) w1) ?_
   rintro _ w2 ⟨rfl,hb2⟩
   have hB2:=aa hB1 hb2 hB1.size
   have h2:=h1.below hb2
   refine⟨_,rfl,ab.of (λc2=>?_) (λc2=>⟨by rw[c2];rfl,hB2⟩)⟩
   exact⟨_,ec.load0 h2 (OpR.len k),rfl,_,gP.load h2 (i:=1) (us:=o.url.cells) (Url.len k.uo) (λj hj=>En k hj),rfl,_,h2.load1 av rfl (FQ k),_,MR k.fit _,_,JB (d:=⟨1,o.url,o.text,j6,0⟩) k.fit ⟨k.uo,rfl⟩ w2,by rw[c2];rfl,hB2⟩
 have c1:o.kind≠1:=by simpa using c1
 refine ab.of (λc2=>?_) (λc2=>?_)
 · have c2:o.kind=2:=by simpa using c2
   rw[R2 c2]
   refine⟨rfl,_,gH.load h1 (i:=23) (us:=o.req.cells) (Req.len k.ro) (λj hj=>pJ k hj),?_⟩
   refine gH.new (zs:=j6.cells) (cs:=o.req.cells) rfl (Req.len k.ro) (Req.one _) w1 λk3 w3 hk3 h3 hb3=>?_
   have hB3:=aa hB1 hb3 hB1.size
   have h13:=h1.below hb3
   refine⟨rfl,_,aP.load h3 (i:=1) (us:=o.req.host.cells) (Hst.len k.ro) (λj hj=>vM k.ro hj),?_⟩
   refine aw (sG k.ro (by omega) w3) ?_
   rintro _ w4 ⟨rfl,hb4⟩
   have hB4:=aa hB3 hb4 hB3.size
   have h14:=h13.below hb4
   have h34:=h3.below hb4
   refine⟨_,rfl,ab.of (λc3=>?_) (λc3=>⟨by rw[c3];rfl,hB4⟩)⟩
   refine⟨rfl,_,h34.load1 av rfl (jj k.ro 0),?_⟩
   refine aw (pm o.req.path (by omega) w4) ?_
   rintro _ w5 ⟨rfl,hw5⟩
   rw[hw5];clear hw5
   have fin:(0 <=o.req.cross/\o.req.cross <=2)->∀c3:cC o.req.host=true,∀c4:gV o.req.path=true,∃v48:Value,(Instr.loadAt ak (.pointer (some ⟨k1,0,none⟩))).run prog w4=.ok v48 w4/\∃v49:Value,(Instr.loadAt aN (.pointer (some ⟨k3,0,none⟩))).run prog w4=.ok v49 w4/\
       ∃v50:Value,(Instr.build ak #[(0,vI 2),(3,v49)]).run prog w4=.ok v50 w4/\∃b51:Bool,((do eqGuard .eql ak (.tmp 48) (.tmp 50) v48 v50;binOp .eql ak v48 v50:Sem Value)).run prog w4=.ok (.bool b51) w4/\
       (Value.bool b51=.bool ((cC o.req.host&&(gV o.req.path&&(decide (0 <=o.req.cross)&&decide (o.req.cross <=2))))&&KU o ⟨2,eX,[],o.req,0⟩)/\bW w w4):=λh c3 c4=>
     ⟨_,ec.load0 h14 (OpR.len k),_,gH.load0 h34 (Req.len k.ro),_,GY k.ro _,_,JB (d:=⟨2,eX,[],o.req,0⟩) k.fit ⟨rfl,k.ro⟩ w4,by rw[c3,c4,decide_eq_true h.1,decide_eq_true h.2];rfl,hB4⟩
   refine⟨_,rfl,ab.of (λc4=>?_) (λc4=>⟨by rw[c3,c4];rfl,hB4⟩)⟩
   refine⟨rfl,_,h34.load1 bG rfl (jj k.ro 1),ab.of (λc5=>fin (by simp at c5;omega) c3 c4) (λc5=>?_)⟩
   refine⟨rfl,_,h34.load1 bG rfl (jj k.ro 1),ab.of (λc6=>fin (by simp at c6;omega) c3 c4) (λc6=>?_)⟩
   refine⟨rfl,_,h34.load1 bG rfl (jj k.ro 1),ab.of (λc7=>fin (by simp at c7;omega) c3 c4) (λc7=>⟨?_,hB4⟩)⟩
   have:(decide (0 <=o.req.cross)&&decide (o.req.cross <=2))=false:=by
     simp at c5 c6 c7
     rw[Bool.eq_false_iff];intro hx
     rw[Bool.and_eq_true,dTx,dTx]at hx
     omega
   rw[this,Bool.and_false,Bool.and_false];rfl
 have c2:o.kind≠2:=by simpa using c2
 refine ab.of (λc3=>?_) (λc3=>?_)
 · have c3:o.kind=3:=by simpa using c3
   rw[R3 c3]
   refine⟨rfl,_,h1.load1 bP rfl (PI k),ab.of (λc4=>?_) (λc4=>⟨by rw[show decide (0 <=o.n)=false from c4];rfl,hB1⟩)⟩
   refine⟨rfl,_,h1.load1 bP rfl (PI k),ab.of (λc5=>?_) (λc5=>⟨by rw[show decide (0 <=o.n)=true from c4,c5];rfl,hB1⟩)⟩
   exact⟨_,ec.load0 h1 (OpR.len k),rfl,_,h1.load1 bP rfl (PI k),_,JB (d:=⟨3,eX,[],j6,o.n⟩) k.fit ⟨rfl,rfl⟩ w1,by rw[show decide (0 <=o.n)=true from c4,c5];rfl,hB1⟩
 have c3:o.kind≠3:=by simpa using c3
 refine ab.of (λc4=>?_) (λc4=>⟨by rw[Q6 c1 c2 c3 (by simpa using c4)],hB1⟩)
 exact⟨_,ec.load0 h1 (OpR.len k),_,JB (d:=eP) k.fit ⟨rfl,rfl⟩ w1,by rw[OO c1 c2 c3],hB1⟩
theorem qV (a:lU){w K}(h:uB fJ #[] w λb c=>ab (!b) (K (.bool false) c) (∃d:FP [],(ab (decide (((List.length a:Nat):Int)>(3000:Int))) (ab (decide (((List.length a:Nat):Int) <=(20000:Int))) (K (.bool true) c) (ab (decide (((List.length a:Nat):Int)>(30000:Int))) (K (.bool true) c) (d c))) (ab (decide (((List.length a:Nat):Int)>(30000:Int))) (K (.bool true) c) (d c)))/\aJ 14 (∀e,d e->Cf fW #[vS a] e λf g=>∃i j k l m n,f=rT #[.slice i j k,.agg #[vI l,vI m,vI n]]/\nA g (.cells #[vI 0,vI 0,vI 0] aF) λo p=>∃q,Sv aF (vA o 0) (.agg #[vI l,vI m,vI n]) p q/\Cf oU #[vS a] q λr s=>∃t u v x y z,r=rT #[.slice t u v,.agg #[vI x,vI y,vI z]]/\nA s (.cells #[vI 0,vI 0,vI 0] aF) λA B=>∃C,Sv aF (vA A 0) (.agg #[vI x,vI y,vI z]) B C/\uB mG #[.slice i j k,.slice t u v] C λD E=>ab D (∃F G H,Ld aF (vA o 0) E (.agg #[vI F,vI G,vI H])/\∃I J L,Ld aF (vA A 0) E (.agg #[vI I,vI J,vI L])/\∃M,(do eqGuard .eql aF (.tmp 36) (.tmp 37) (.agg #[vI F,vI G,vI H]) (.agg #[vI I,vI J,vI L]);binOp .eql aF (.agg #[vI F,vI G,vI H]) (.agg #[vI I,vI J,vI L]):Sem Value).run prog E=.ok (.bool M) E/\K (.bool M) E) (K (.bool false) E)))):Cf iA #[vS a] w (Ret K):=ru func3 [(10,[])] h
theorem SL {x:List UInt8}(h:0<x.length):(bf x ((x.length-1:Nat):Int)==13)=decide (x.getLast?=some 13):=by
 rw[lm (i:=((x.length-1:Nat):Int)) (by simp;omega)]
 simp only[Int.toNat_natCast]
 rw[Bool.eq_iff_iff,beq_iff_eq,dTx,List.getLast?_eq_getElem?,List.getElem?_eq_getElem (by omega)]
 constructor
 · intro e;rw[show x[x.length-1]'(by omega)=13 from Cj (by simpa using e)]
 · intro e;rw[Option.some.inj e];rfl
theorem C5 (s:List UInt8)(hs:s.length <=10000000)(w:World):
   Cf oN #[vS s] w (Ret λv w'=>∃a n cp,v=.slice a n cp/\Ow tS ah w' NoB a n cp (ka s)/\bU w.heap.size a/\bW w w'):=by
 apply Bz
 intro k7 w7 hk7 hw7
 have hB7:bW w w7:=hw7▸ai w _
 have ho7:Ow tS ah w7 NoB (some ⟨k7,0,none⟩) 0 0 []:=Ow.newF (dN _) hk7 hw7 (l:=[]) (gh.nil _ _ _) (by decide)
 refine aw (ii s 10 (by omega) w7) ?_
 rintro _ w9 ⟨a9,l9,c9,rfl,ho9,hf9,hb9⟩
 have hl9:=ho9.len
 subst hl9
 have hB9:=aa hB7 hb9 hB7.size
 refine⟨_,_,_,rfl,?_⟩
 have hne:=gQ 10 s []
 have hcnt:=dK 10 s []
 have hpl:=fI 10 s []
 have hlin:ka s=((if(bK 10 [] s).getLast?=some []then(bK 10 [] s).dropLast else bK 10 [] s)).map mT:=rfl
 revert ho9 hne hcnt hpl hlin
 generalize bK 10 [] s=L
 intro ho9 hne hcnt hpl hlin
 have hpos:0<L.length:=List.length_pos_iff.2 hne
 have hlin1:∀_:L[L.length-1]'(by omega)=[],ka s=(L.take (L.length-1)).map mT:=λhx=>by rw[hlin,if_pos (rY hpos hx),List.dropLast_eq_take]
 have hlin2:∀_:L[L.length-1]'(by omega)≠[],ka s=L.map mT:=λhx=>by
   rw[hlin,if_neg]
   rw[rY hpos rfl]
   exact λe=>hx (Option.some.inj e)
 refine⟨λm a l c i w'=>∃k:Nat,k <=L.length/\i=(k:Int)/\m=L.length-k/\Ow tS ah w' NoB a l c ((L.take k).map mT)/\bU w.heap.size a/\bW w w'/\Ow tS ah w' NoB a9 L.length c9 L/\(∀g,eJ a=some g->eJ a9≠some g)/\(∀g,eJ a9=some g->g<w'.heap.size)/\(k=L.length->L[L.length-1]'(by omega)≠[]),
   ⟨_,0,by omega,rfl,rfl,ho7.below hb9,jc hk7,hB9,ho9,λg hg e=>?_,λg hg=>ho9.lt g hg,λe=>by omega⟩,?_⟩
 · have h1:=hf9 g e
   have h2:k7=g:=by simpa[eJ]using hg
   have h3:w7.heap.size=w.heap.size+1:=by rw[hw7];simp
   omega
 intro m a l c i
 refine aJ.of ?_ _
 rintro w1 ⟨k,hk,rfl,rfl,ho,hf,hB,hsrc,hdis,hlts,hend⟩
 have e1:i64.wrap (((L.length:Nat):Int)-(1:Int))=((L.length-1:Nat):Int):=by rw[wrap_i64 (by omega) (by omega)];omega
 refine ab.of (λh=>?_) (λh=>?_) <;> simp only[dTx,dFx]at h
 · have hlt:k<L.length:=by omega
   obtain⟨v,hv,hrep⟩:=hsrc.all.load1 (i:=(k:Int)) av rfl rfl (by simpa using hlt)
   obtain⟨rfl,_⟩:=lZ hrep
   simp only[Int.toNat_natCast]at hv
   have hpk:=hpl L[k] (List.getElem_mem hlt)
   simp only[List.length_nil,Nat.zero_add]at hpk
   refine⟨⟨⟨by omega,h⟩,hsrc.all.isSome hlt⟩,L[k],hv,?_⟩
   refine gE (λw'=>w'=w1/\ ¬ (k=L.length-1/\L[k]=[])) ?_ ?_
   · rw[e1]
     refine ab.of (λh2=>?_) (λh2=>?_)
     · have h2:k=L.length-1:=by have:=eq_of_beq h2;omega
       refine ab.of (λh3=>?_) (λh3=>?_)
       · have h3:L[k]=[]:=eq_of_beq h3
         subst h2
         exact⟨a,l,c,rfl,by rw[hlin1 h3];exact ho,hf,hB⟩
       · exact⟨rfl,λe=>by rw[e.2]at h3;cases h3⟩
     · exact⟨rfl,λe=>by rw[e.1]at h2;simp at h2⟩
   · rintro w2 ⟨rfl,hnot⟩
     have e2:0<L[k].length->i64.wrap (((L[k].length:Nat):Int)-(1:Int))=((L[k].length-1:Nat):Int):=λ_=>by rw[wrap_i64 (by omega) (by omega)];omega
     refine⟨λx w'=>w'=w2/\x=mT L[k],?_,λs6=>aJ.of ?_ _⟩
     · refine iU (w:=w2) (decide (L[k].getLast?=some 13)) ?_ ?_
       · refine ab.of (λh3=>?_) (λh3=>?_) <;> simp only[gt_iff_lt,dTx,dFx]at h3
         · rw[e2 (by omega)]
           exact⟨⟨by omega,by omega⟩,rfl,SL (by omega)⟩
         · have:L[k]=[]:=List.length_eq_zero_iff.1 (by omega)
           exact⟨rfl,by rw[this];rfl⟩
       · refine ab.of (λh3=>?_) (λh3=>?_)
         · have h3:L[k].getLast?=some 13:=of_decide_eq_true h3
           have hp:0<L[k].length:=by
             cases hx:L[k]with
             | nil=>rw[hx]at h3;cases h3
             | cons x r=>simp
           rw[e2 hp]
           refine⟨⟨by omega,by omega⟩,?_⟩
           rintro _ rfl
           refine⟨rfl,?_⟩
           unfold mT
           rw[if_pos h3,List.dropLast_eq_take];rfl
         · have h3: ¬ L[k].getLast?=some 13:=of_decide_eq_false h3
           exact⟨rfl,by unfold mT;rw[if_neg h3]⟩
     · rintro w3 ⟨rfl,rfl⟩
       intro k4 w4 hk4 hw4
       have hb4:bW w3 w4:=hw4▸ai w3 _
       obtain⟨w5,a5,n5,c5,hr5,ho5,hgr,hfr⟩:=eZ (ty:=aH) dW dI (by decide) (ho.below hb4) (λ_ _ h=>h) (cm:=1) (Src.new1F (T:=tS) (dN _) hk4 hw4 (eN trivial)) (by simp;omega)
       have hB4:=aa hB hb4 hB.size
       have hs4:w4.heap.size=w3.heap.size+1:=by rw[hw4];simp
       refine⟨w5,a5,n5,c5,hr5,L.length-(k+1),by omega,k+1,by omega,by rw[wrap_i64 (by omega) (by omega)];omega,rfl,?_,hf.app hB4.size hfr,hB4.grown hgr hB4.size hf,(hsrc.below hb4).keep (dX hgr λb hb e=>?_),λg hg e=>?_,λg hg=>?_,λe e0=>?_⟩
       · rw[List.take_succ_eq_append_getElem hlt,List.map_append];exact ho5
       · rcases hb with hb|hb
         · exact hb
         · exact hdis b e.symm hb.symm
       · rcases hfr g hg with q|q
         · exact hdis g q e
         · have:=hlts g e;omega
       · have:=hlts g hg;have:=hgr.size;omega
       · have ek:k=L.length-1:=by omega
         subst ek
         exact hnot ⟨rfl,e0⟩
 · have:k=L.length:=by omega
   subst this
   rw[List.take_length]at ho
   exact⟨a,l,c,rfl,by rw[hlin2 (hend rfl)];exact ho,hf,hB⟩
theorem xN (a:Int){w K}(h:∃b:Nat->FP [.one (.int .i64),.one .str],(∃c,b c a [] w)/\∀c d e,aJ 12 (∀f,b c d e f->ab (decide (d>(9:Int))) (((10:Int)≠0)/\∀g,g=(Int.tmod d (10:Int))->nA f (.cells #[.int .u8 (IntKind.u8.wrap (i64.wrap ((48:Int)+g)))] aQ) λi j=>∃k,(convert aG ah (.slice (vA i 0) 1 1)).run prog j=.ok (vS k) j/\(((List.length k+List.length e:Nat):Int) <=i64.max)/\∀l,l=(k++e)->((10:Int)≠0)/\∀m,m=(i64.wrap (Int.tdiv d (10:Int)))->∃n:Nat,n<c/\b n m l j) (nA f (.cells #[.int .u8 (IntKind.u8.wrap (i64.wrap ((48:Int)+d)))] aQ) λg i=>∃j,(convert aG ah (.slice (vA g 0) 1 1)).run prog i=.ok (vS j) i/\(((List.length j+List.length e:Nat):Int) <=i64.max)/\∀k,k=(j++e)->K (vS k) i))):Cf lE #[vI a] w (Ret K):=ru func105 [(6,[(0,.one (.int .i64)),(3,.one .str)])] h
theorem yY (n:Nat)(hn:n <=9223372036854775807)(w:World):Cf lE #[vI (n:Int)] w (Ret λv w'=>v=vS (mA n)/\bW w w'):=by
 apply xN
 refine⟨λm i s w'=>∃q:Nat,i=(q:Int)/\m=q/\q <=9223372036854775807/\mA q++s=mA n/\bW w w',⟨_,n,rfl,rfl,hn,List.append_nil _,Below.refl _ _⟩,?_⟩
 intro m i s
 refine aJ.of ?_ _
 rintro w1 ⟨q,rfl,rfl,hq,hs,hB1⟩
 have hl:=gi hn
 have hsl:s.length <=21:=by have:=congrArg List.length hs;rw[List.length_append]at this;omega
 refine ab.of (λh=>?_) (λh=>?_) <;> simp only[gt_iff_lt,dTx,dFx]at h
 · refine⟨by decide,?_⟩
   rintro _ rfl
   have e2:Int.tmod (m:Int) 10=((m%10:Nat):Int):=by rw[gp (by omega)];omega
   have e1:i64.wrap (Int.tdiv (m:Int) 10)=((m/10:Nat):Int):=by rw[dD (by omega),wrap_i64 (by omega) (by omega)];omega
   rw[e2,e1]
   intro k8 w8 hk8 hw8
   refine⟨_,fT (d:=m%10) (by omega) rfl hk8 hw8 w8 (Below.refl _ _),fits (by simp;omega),?_⟩
   rintro _ rfl
   refine⟨by decide,?_⟩
   rintro _ rfl
   refine⟨m/10,by omega,m/10,rfl,rfl,by omega,?_,aa hB1 (hw8▸ai _ _) hB1.size⟩
   rw[<- hs,nB (n:=m) (by omega)];simp
 · intro k8 w8 hk8 hw8
   refine⟨_,fT (d:=m) (by omega) rfl hk8 hw8 w8 (Below.refl _ _),fits (by simp;omega),?_⟩
   rintro _ rfl
   refine⟨?_,aa hB1 (hw8▸ai _ _) hB1.size⟩
   rw[<- hs,mB (by omega)]
theorem vK {u:Url}(o:u.ok)(hn:u.host.name.length <=80000000)(hp:u.path.length <=100000000)(w:World):Cf mF #[u.v] w (Ret λv w'=>v=vS (gr u)/\bW w w'):=by
 apply DC
 intro k1 w1 hk1 hw1
 have hB1:=(hw1▸ai w _:bW w w1)
 have h1:ao w1 k1 ay u.cells:=ao.new hk1 hw1
 refine⟨_,gP.load0 h1 (Url.len o),?_⟩
 refine aw (sH o hn (by omega) w1) ?_
 rintro _ w2 ⟨rfl,hb2⟩
 have hB2:=aa hB1 hb2 hB1.size
 have h2:=h1.below hb2
 refine⟨_,rfl,ab.of (λc=>?_) (λc=>?_)⟩
 · have c:fm u=false:=by simpa using c
   refine⟨?_,hB2⟩
   unfold gr;rw[c];rfl
 have c:fm u=true:=by simpa using c
 have hu:gr u=eT u:=if_pos c
 have hport:1 <=u.port/\u.port <=65535:=by
   unfold fm at c
   simp only[Bool.and_eq_true,dTx]at c
   exact⟨c.2.1,c.2.2.1⟩
 have hhl:(cD u.host).length <=80000100:=Nat.le_trans (jR o) (by omega)
 have hd:=gi (n:=u.port.toNat) (by omega)
 have hpn:(u.port.toNat:Int)=u.port:=by omega
 refine⟨λx w'=>w'=w2/\x=if u.sec then[104,116,116,112,115]else[104,116,116,112],?_,λx=>aJ.of ?_ _⟩
 · refine⟨rfl,_,h2.load1 ci rfl (i:=0) rfl,ab.of (λc2=>?_) (λc2=>?_)⟩
   · refine⟨fits (by decide),?_⟩
     rintro _ rfl
     exact⟨rfl,by rw[if_pos c2];rfl⟩
   · exact⟨rfl,by rw[c2];rfl⟩
 · rintro _ ⟨rfl,rfl⟩
   have hsl:(if u.sec then([104,116,116,112,115]:List UInt8)else[104,116,116,112]).length <=5:=by cases u.sec <;> decide
   refine⟨rfl,_,aP.load h2 (i:=1) (us:=u.host.cells) (Hst.len o) (λj hj=>sd o hj),?_⟩
   refine aw (kW o _) ?_
   rintro _ w3 ⟨rfl,hb3⟩
   have hB3:=aa hB2 hb3 hB2.size
   have h3:=h2.below hb3
   refine⟨_,rfl,fits (by simp only[List.length_cons,List.length_nil];omega),?_⟩
   rintro _ rfl
   refine⟨fits (by simp only[List.length_append,List.length_cons,List.length_nil];omega),?_⟩
   rintro _ rfl
   refine⟨λx w'=>bW w3 w'/\x=(if u.sec then([104,116,116,112,115]:List UInt8)else[104,116,116,112])++([58,47,47]++cD u.host)++fZ u.sec u.port,?_,λx=>aJ.of ?_ _⟩
   · refine iU (w:=w3) (decide (¬ u.port=(if u.sec then 443 else 80))) ?_ ?_
     · refine⟨rfl,_,h3.load1 ci rfl (i:=0) rfl,ab.of (λc2=>?_) (λc2=>?_)⟩
       · rw[c2]
         refine⟨rfl,_,h3.load1 bG rfl (lj o),ab.of (λc3=>?_) (λc3=>?_)⟩
         · exact⟨rfl,(decide_eq_true (by simpa using c3)).symm⟩
         · refine⟨rfl,_,h3.load1 ci rfl (i:=0) rfl,?_⟩
           rw[c2]
           exact ab.no rfl ⟨rfl,(decide_eq_false (by simpa using c3)).symm⟩
       · rw[c2]
         refine⟨rfl,_,h3.load1 ci rfl (i:=0) rfl,?_⟩
         rw[c2]
         refine ab.yes rfl ⟨rfl,_,h3.load1 bG rfl (lj o),rfl,?_⟩
         rw[Bool.eq_iff_iff,bne_iff_ne,dTx];rfl
     · refine ab.of (λc2=>?_) (λc2=>?_)
       · have c2: ¬ u.port=(if u.sec then 443 else 80):=of_decide_eq_true c2
         refine⟨rfl,_,h3.load1 bG rfl (lj o),?_⟩
         rw[<- hpn]
         refine aw (yY u.port.toNat (by omega) w3) ?_
         rintro _ w4 ⟨rfl,hb4⟩
         refine⟨_,rfl,fits (by simp only[List.length_cons,List.length_nil];omega),?_⟩
         rintro _ rfl
         refine⟨fits (by simp only[List.length_append,List.length_cons,List.length_nil];omega),?_⟩
         rintro _ rfl
         refine⟨hb4,?_⟩
         unfold fZ;rw[hpn,if_neg c2];rfl
       · have c2:u.port=(if u.sec then 443 else 80):=Decidable.not_not.1 (of_decide_eq_false c2)
         refine⟨Below.refl _ _,?_⟩
         unfold fZ;rw[if_pos c2,List.append_nil]
   · rintro w4 ⟨hb4,rfl⟩
     have hpl:(fZ u.sec u.port).length <=22:=by
       by_cases c2:u.port=(if u.sec then 443 else 80)
       · unfold fZ;rw[if_pos c2];simp
       · unfold fZ;rw[if_neg c2,List.length_cons];omega
     refine⟨rfl,_,(h3.below hb4).load1 av rfl (li o),fits (by simp only[List.length_append,List.length_cons,List.length_nil];omega),?_⟩
     rintro _ rfl
     refine⟨?_,aa hB3 hb4 hB3.size⟩
     rw[hu];unfold eT;cases u.sec <;> simp
def Sk (s:List UInt8)(w:World)(v:Value)(w':World):Prop:=(∃o:OpR,v=.tuple #[o.v,.bool (kZ gr s).isSome]/\o.fit/\∀p,kZ gr s=some p->o=p)/\bW w w'
theorem Db (hstep:∀(s:List UInt8),s.length <=900000->∀w:World,Cf mH #[vS s] w (Ret (Sk s w)))(s:List UInt8)(w:World):Cf oU #[vS s] w (Ret (Vh s w)):=by
 apply BN
 intro k3 w3 hk3 hw3
 have hB3:bW w w3:=hw3▸ai w _
 have h3:ao w3 k3 aF (Ky (0,0,0)):=ao.new hk3 hw3
 have hk3w:w.heap.size <=k3:=by omega
 have hk3l:=h3.lt
 have fin:=fun{w':World} {a:Option Addr} {n c:Nat} {out:List OpR} (hb:bW w3 w') (ho:Ow tOp ak w' NoB a n c out) (hf:bU w3.heap.size a) (x y z:Int) e=>Nx (s:=s) (h3.below hb) rfl hB3 hk3w hk3l hb ho hf x y z e
 refine ab.of (λc1=>?_) (λc1=>?_) <;> simp only[gt_iff_lt,dTx,dFx]at c1
 · exact fin (Below.refl _ _) (Ow.nil _ _ _ _) (bU.none _) 54 1 1 (by unfold fk;rw[if_pos (by omega)])
 intro k13 w13 hk13 hw13
 have hB13:bW w3 w13:=hw13▸ai w3 _
 have o13:Ow tOp ak w13 NoB (some ⟨k13,0,none⟩) 0 0 []:=Ow.newF Jd hk13 hw13 (l:=[]) (gh.nil _ _ _) (by decide)
 have f13:bU w3.heap.size (some ⟨k13,0,none⟩):=jc hk13
 refine aw (C5 s (by omega) w13) ?_
 rintro _ w4 ⟨b,nb,cb,rfl,ob,fb,hb134⟩
 have hb4:=aa hB13 hb134 hB13.size
 have hL:=AV s
 have hP:fk bT s=gK (kZ gr) 0 (ka s) []:=by rw[<- QX gr];unfold fk;rw[if_neg (by omega)]
 generalize ka s=L at*
 have hsl:=ob.all
 have hnb:nb=L.length:=ob.len
 have hlts4:∀g,eJ b=some g->g<w4.heap.size:=λg hg=>ob.lt g hg
 have hdis4:∀g,eJ (some (⟨k13,0,none⟩:Addr))=some g->eJ b≠some g:=λg hg e=>by
   have h1:=fb g e
   have h2:k13=g:=by simpa[eJ]using hg
   have h3:w13.heap.size=w3.heap.size+1:=by rw[hw13];simp
   omega
 subst hnb
 refine⟨_,_,_,rfl,λm a n c i w'=>∃(j:Nat) (out:List OpR),j <=L.length/\i=(j:Int)/\m=L.length-j/\out.length=j/\j <=200/\Ow tOp ak w' NoB a n c out/\bU w3.heap.size a/\bW w3 w'/\Ow tS ah w' NoB b L.length cb L/\(∀g,eJ a=some g->eJ b≠some g)/\(∀g,eJ b=some g->g<w'.heap.size)/\fk bT s=gK (kZ gr) j (L.drop j) out,⟨_,0,[],Nat.zero_le _,rfl,rfl,rfl,by decide,o13.below hb134,f13,hb4,ob,hdis4,hlts4,hP⟩,λm a n c i=>aJ.of ?_ _⟩
 rintro w5 ⟨j,out,hj,rfl,rfl,hol,hj2,oo,fo,hb5,hsrc,hdis,hlts,hQ⟩
 refine ab.of (λc2=>?_) (λc2=>?_) <;> simp only[dTx,dFx]at c2
 · have hjl:j<L.length:=by omega
   rw[List.drop_eq_getElem_cons hjl]at hQ
   refine⟨⟨⟨by omega,c2⟩,hsrc.all.isSome hjl⟩,L[j],Sl.str hsrc.all (by rw[Int.toNat_natCast];exact List.getElem?_eq_getElem hjl),?_⟩
   have ew:i64.wrap ((j:Int)+1)=(j:Int)+1:=wrap_i64 (by omega) (by omega)
   try dsimp only
   rw[ew]
   refine ab.of (λc3=>?_) (λc3=>?_)
   · have c3:j=200:=by simp at c3;omega
     exact fin hb5 (Ow.nil _ _ _ _) (bU.none _) 53 _ 1 (by rw[hQ,lR _ _ _ _ c3])
   · have c3:j≠200:=by simp at c3;omega
     have hxl:L[j].length <=900000:=by have:=hL _ (List.getElem_mem hjl);omega
     refine aw (hstep L[j] hxl w5) ?_
     rintro _ w6 ⟨⟨o,rfl,of,hop⟩,hb6⟩
     have hb56:=aa hb5 hb6 hb5.size
     refine⟨_,_,rfl,ec.new (zs:=uy.cells) (cs:=o.cells) cG (OpR.len' of) (OpR.one _) w6 λk7 w7 hk7 h7 hb7=>?_⟩
     have hb57:=aa hb56 hb7 hb56.size
     refine ab.of (λc4=>?_) (λc4=>?_)
     · have c4:kZ gr L[j]=none:=by cases h:kZ gr L[j]with
         | none=>rfl
         | some p=>rw[h]at c4;cases c4
       exact fin hb57 (Ow.nil _ _ _ _) (bU.none _) 131 _ 1 (by rw[hQ,nN _ _ c3 c4])
     · obtain⟨p,hp⟩:∃p,kZ gr L[j]=some p:=by cases h:kZ gr L[j]with
         | none=>rw[h]at c4;cases c4
         | some p=>exact⟨p,rfl⟩
       have e:=hop p hp
       subst e
       refine⟨_,ec.load0 h7 (OpR.len' of),?_⟩
       have ow:OpW o:=OP of (qN (s:=L[j]) (by rw[<- zS gr,hp]))
       have hb67:bW w5 w7:=aa hb6 hb7 hb6.size
       refine⟨_,_,_,_,RY ow w7,?_⟩
       have hb8:bW w7 (w7.alloc (.cells o.cells.toArray ak)):=ai w7 _
       have hb58:bW w5 (w7.alloc (.cells o.cells.toArray ak)):=aa hb67 hb8 hb67.size
       have hs8:(w7.alloc (.cells o.cells.toArray ak)).heap.size=w7.heap.size+1:=by simp
       obtain⟨w9,a9,n9,c9,r9,o9,hgr,hfr⟩:=eZ (ty:=cE) rh Cd (by decide) (oo.below hb58) (λ_ _ h=>h) (cm:=1) (Src.new1F (T:=tOp) Jd rfl rfl ⟨rfl,ow⟩) (by simp;omega)
       have hB8:=aa hb5 hb58 hb5.size
       have z58:=hb58.size
       refine⟨w9,a9,n9,c9,r9,L.length-(j+1),by omega,j+1,out++[o],by omega,rfl,rfl,by simp;omega,by omega,o9,fo.app hB8.size hfr,hB8.grown hgr hB8.size fo,(hsrc.below hb58).keep (dX hgr λb' hb' e=>?_),λg hg e=>?_,λg hg=>?_,by rw[hQ,lS _ _ c3 hp]⟩
       · rcases hb' with hb'|hb'
         · exact hb'
         · exact hdis b' e.symm hb'.symm
       · rcases hfr g hg with q|q
         · exact hdis g q e
         · have:=hlts g e;omega
       · have:=hlts g hg;have:=hgr.size;omega
 · have:j=L.length:=by omega
   subst this
   rw[List.drop_length,nO]at hQ
   exact fin hb5 oo fo 0 0 0 hQ
section
variable (X:Url->List UInt8)
theorem Ml {s:List UInt8}(h1: ¬ ((bK 32 [] s).length=3/\(bK 32 [] s)[0]? =some xX))(h2: ¬ ((bK 32 [] s).length=5/\(bK 32 [] s)[0]? =some sA))(h3: ¬ ((bK 32 [] s).length=2/\(bK 32 [] s)[0]? =some mv)):kZ X s=fh X eP s:=by
 unfold kZ
 revert h1 h2 h3
 generalize bK 32 [] s=w
 intro h1 h2 h3
 split
 · rename_i k a
   rw[if_neg];rintro rfl;exact h3 ⟨rfl,rfl⟩
 · rename_i k a b
   rw[if_neg];rintro rfl;exact h1 ⟨rfl,rfl⟩
 · rename_i k a b c d
   rw[if_neg];rintro rfl;exact h2 ⟨rfl,rfl⟩
 · rfl
theorem Wc {α:Type}{l:List α}{x:α}(h:l.length=2/\l[0]? =some x):∃a,l=[x,a]:=by
 match l,h with
 | [y,a],h=>exact⟨a,by have:=Option.some.inj h.2;subst this;rfl⟩
theorem Wd {α:Type}{l:List α}{x:α}(h:l.length=3/\l[0]? =some x):∃a b,l=[x,a,b]:=by
 match l,h with
 | [y,a,b],h=>exact⟨a,b,by have:=Option.some.inj h.2;subst this;rfl⟩
theorem We {α:Type}{l:List α}{x:α}(h:l.length=5/\l[0]? =some x):∃a b c d,l=[x,a,b,c,d]:=by
 match l,h with
 | [y,a,b,c,d],h=>exact⟨a,b,c,d,by have:=Option.some.inj h.2;subst this;rfl⟩
end
theorem G7 {a:Bool}{h:Hst}(k:h.ok)(c:List UInt8)(n m:Int):(⟨2,eX,[],⟨a,h,c,n⟩,0⟩:OpR).cells.set 43 (vI m)=(⟨2,eX,[],⟨a,h,c,m⟩,0⟩:OpR).cells:=by
 obtain⟨kd,nm,ad⟩:=h
 obtain⟨x0,x1,x2,x3,x4,x5,x6,x7,x8,x9,x10,x11,x12,x13,x14,x15,rfl⟩:=fi ad k
 rfl
def Sf:Prop:=∀{o:OpR},o.ok->cP o=true->∀w:World,Cf qB #[o.v] w (Ret λv w'=>v=vS (fQ gr o)/\bW w w')
theorem Lw (b:Bool){h:Hst}(o:h.ok)(p:List UInt8)(w:World):(Instr.build aN #[(0,.bool b),(1,h.v),(2,vS p)]).run prog w=.ok (Req.v ⟨b,h,p,0⟩) w:=by
 obtain⟨k,n,a⟩:=h
 obtain⟨x0,x1,x2,x3,x4,x5,x6,x7,x8,x9,x10,x11,x12,x13,x14,x15,rfl⟩:=fi a o
 kernel_rfl
theorem FY (hline:Sf)(s:List UInt8)(hs:s.length <=900000)(w:World):Cf mH #[vS s] w (Ret (Sk s w)):=by
 apply DG
 intro k2 w2 hk2 hw2
 have hB2:bW w w2:=hw2▸ai w _
 have h2:ao w2 k2 ak uy.cells:=ao.new hk2 hw2
 have hk2w:w.heap.size <=k2:=by omega
 refine aw (ii s 32 (by omega) w2) ?_
 rintro _ w3 ⟨b,nb,cb,rfl,ob,fb,hb3⟩
 have hB3:=aa hB2 hb3 hB2.size
 have z3:=hB3.size
 have hx:∀x∈bK 32 [] s,x.length <=900000:=λx h=>by have:=fI 32 s [] x h;simp at this;omega
 have hsl:=ob.all
 have hnb:nb=(bK 32 [] s).length:=ob.len
 subst hnb
 have q1:=λa b h=>K6 gr (s:=s) (a:=a) (b:=b) h
 have q2:=λa b c d h=>K5 gr (s:=s) (a:=a) (b:=b) (c:=c) (d:=d) h
 have q3:=λa h=>Ib gr (s:=s) (a:=a) h
 have q4:=Ml gr (s:=s)
 have hne:=gQ 32 s []
 generalize bK 32 [] s=L at*
 have hL0:0<L.length:=List.length_pos_iff.2 hne
 have at0:∀{u:World},bW w3 u->(Instr.loadAt ah (.pointer (aq b 0 1))).run prog u=.ok (.string (mkS L[0])) u:=λhu=>Sl.str (i:=0) (hsl.below hu) (List.getElem?_eq_getElem hL0)
 have e0:L[0]? =some L[0]:=List.getElem?_eq_getElem hL0
 have fin:∀(o:OpR),o.fit->∀{u:World},ao u k2 ak uy.cells->bW w u->∀(f:Bool),f=(kZ gr s).isSome->(∀p,kZ gr s=some p->o=p)->
     ∃wx:World,(Instr.storeAt ak (.pointer (some ⟨k2,0,none⟩)) o.v).run prog u=.ok () wx/\∃vr:Value,(bg ak (.pointer (some ⟨k2,0,none⟩))).run prog wx=.ok vr wx/\Sk s w (.tuple #[vr,.bool f]) wx:=by
   intro o f u h2 hB g hg hp
   exact ec.fin (OpR.len' f) (OpR.one _) h2 cG hB hk2w λwx hb=>⟨⟨o,by rw[hg];rfl,f,hp⟩,hb⟩
 have z0:uy.fit:=⟨rfl,rfl⟩
 refine⟨_,_,_,rfl,ec.new (zs:=uy.cells) (cs:=uy.cells) cG cG (OpR.one _) w3 λk5 w5 hk5 h5 hb5=>?_⟩
 have hB5:=aa hB3 hb5 hB3.size
 have h25:=(h2.below hb3).below hb5
 have hk5k:k2≠k5:=by have:=(h2.below hb3).lt;omega
 have keepL:∀{u v:World},Ow tS ah u NoB b L.length cb L->u.grownBy v (some k5)->Ow tS ah v NoB b L.length cb L:=λho hg=>ho.keep (dX hg λb' hb' e=>by
   rcases hb' with h|h
   · exact h
   · have h1:=ob.lt _ h.symm
     have h2:=Option.some.inj e
     omega)
 refine⟨λs6 wj=>∃o:OpR,ao wj k5 ak o.cells/\ao wj k2 ak uy.cells/\o.ok/\o=vC o/\bW w wj/\kZ gr s=fh gr o s6,?_,?_⟩
 · refine iU (w:=w5) (decide (L.length=3/\L[0]? =some xX)) ?_ ?_
   · refine ab.of (λc1=>?_) (λc1=>?_)
     · have c1:L.length=3:=by have:=eq_of_beq c1;omega
       refine⟨⟨⟨by decide,by omega⟩,hsl.isSome (i:=0) hL0⟩,L[0],at0 hb5,rfl,?_⟩
       rw[Bool.eq_iff_iff,dTx,beq_iff_eq,e0]
       exact⟨λh=>⟨c1,by rw[h];rfl⟩,λh=>Option.some.inj h.2⟩
     · refine⟨rfl,?_⟩
       symm;rw[dFx];rintro⟨h,_⟩;rw[h]at c1;cases c1
   refine ab.of (λc1=>?_) (λc1=>?_)
   ·
     obtain⟨x,y,rfl⟩:=Wd (of_decide_eq_true c1)
     have hx1:=hx x (by simp)
     have hy1:=hx y (by simp)
     have q1:=q1 _ _ rfl
     refine⟨⟨⟨by decide,by simp only[List.length_cons,List.length_nil];omega⟩,hsl.isSome (i:=1) (by simp)⟩,x,Sl.str (i:=1) (hsl.below hb5) rfl,?_⟩
     refine aw (Da x (by omega) w5) ?_
     rintro _ w6 ⟨rfl,hb6⟩
     have hB6:=aa hB5 hb6 hB5.size
     refine⟨_,_,rfl,?_⟩
     have uo:(iR x).1.ok:=GA x
     refine gP.new (zs:=eX.cells) (cs:=(iR x).1.cells) rfl (Url.len uo) (Url.one _) w6 λk7 w7 hk7 h7 hb7=>?_
     have hB7:=aa hB6 hb7 hB6.size
     have hb37:bW w3 w7:=aa (aa hb5 hb6 hb5.size) hb7 (aa hb5 hb6 hb5.size).size
     refine⟨⟨⟨by decide,by simp only[List.length_cons,List.length_nil];omega⟩,hsl.isSome (i:=2) (by simp)⟩,y,Sl.str (i:=2) (hsl.below hb37) rfl,?_⟩
     refine aw (A7 y (by omega) w7) ?_
     rintro _ w8 ⟨rfl,hb8⟩
     have hB8:=aa hB7 hb8 hB7.size
     have h58:=((h5.below hb6).below hb7).below hb8
     have h28:=((h25.below hb6).below hb7).below hb8
     have h78:=h7.below hb8
     refine⟨_,_,rfl,?_⟩
     refine gE (λw'=>w'=w8/\(iR x).2=0/\(unP y).isSome=true) ?_ ?_
     · refine iU (w:=w8) (!((iR x).2==0) || !(unP y).isSome) ?_ ?_
       · refine ab.of (λc2=>?_) (λc2=>?_)
         · refine⟨rfl,?_⟩
           have c2:(iR x).2≠0:=by simpa using c2
           rw[beq_eq_false_iff_ne.2 c2];rfl
         · refine⟨rfl,?_⟩
           have c2:(iR x).2=0:=by simpa using c2
           rw[c2];rfl
       refine ab.of (λc2=>?_) (λc2=>?_)
       · refine⟨_,ec.load0 h58 cG,fin uy z0 h28 hB8 _ ?_ ?_⟩
         all_goals
           have e:kZ gr s=none:=by
             rw[q1]
             by_cases c3:(iR x).2=0
             · rw[if_pos c3]
               rw[c3]at c2
               have:unP y=none:=by cases h:unP y with
                 | none=>rfl
                 | some t=>rw[h]at c2;cases c2
               rw[this];rfl
             · rw[if_neg c3]
           rw[e]
         · rfl
         · intro p h;cases h
       · have c3:(iR x).2=0:=by
           cases h:((iR x).2==0)with
           | true=>exact eq_of_beq h
           | false=>rw[h]at c2;cases c2
         refine⟨rfl,c3,?_⟩
         rw[c3]at c2
         cases h:(unP y).isSome with
         | true=>rfl
         | false=>rw[h]at c2;cases c2
     · rintro w9 ⟨rfl,c3,c4⟩
       obtain⟨t,ht⟩:=Option.isSome_iff_exists.1 c4
       rw[ht]
       show ∃_,_
       have ok9:(⟨1,(iR x).1,t,j6,0⟩:OpR).ok:=by
         have this:(⟨1,(iR x).1,(unP y).getD [],j6,0⟩:OpR).ok:=FV xX [x,y] (λz hz=>hx z (List.mem_cons_of_mem _ hz))
         rw[ht]at this;exact this
       obtain⟨wx,hst,h5x,hg⟩:=ec.store0 (P:=prog) (cs:=(⟨1,(iR x).1,t,j6,0⟩:OpR).cells) (OpR.len ok9) (OpR.one _) h58 cG
       have hBx:=Below.put hB8 hg (by omega)
       have h2x:ao wx k2 ak uy.cells:=h28.grown hg (bF hk5k)
       have h7x:ao wx k7 ay (iR x).1.cells:=h78.grown hg (bF (by have:=h5.lt;have:=hb6.size;omega))
       have hslx:=(keepL (ob.below (aa hb37 hb8 hb37.size)) hg).all
       have hun:(iR x).1.host.name.length <=1000000:=ok9.un
       have hup:(iR x).1.path.length <=1000000:=ok9.up
       have hty:=Cn uo ok9.un ok9.up
       refine⟨_,gP.load0 h78 (Url.len uo),_,GZ uo t _,wx,hst,_,λu hu=>gP.load0 (h7x.below hu) (Url.len uo),_,λu hu=>cw (vK uo (by omega) (by omega) u) hu,fits (by simp only[List.length_cons,List.length_nil];omega),?_⟩
       rintro _ rfl
       refine⟨fits (by simp only[List.length_append,List.length_cons,List.length_nil];omega),?_⟩
       rintro _ rfl
       refine⟨⟨⟨by decide,by simp only[List.length_cons,List.length_nil];omega⟩,hslx.isSome (i:=2) (by simp)⟩,y,λu hu=>Sl.str (i:=2) (hslx.below hu) rfl,fits (by simp only[List.length_append,List.length_cons,List.length_nil];omega),?_⟩
       rintro _ rfl
       intro wq hwq
       refine⟨_,h5x.below hwq,h2x.below hwq,ok9,rfl,aa hBx hwq hBx.size,?_⟩
       rw[q1,if_pos c3,ht]
       show fh gr _ _=fh gr _ _
       congr 1
       simp[xX]
   refine iU (w:=w5) (decide (L.length=5/\L[0]? =some sA)) ?_ ?_
   · refine ab.of (λc2=>?_) (λc2=>?_)
     · have c2:L.length=5:=by have:=eq_of_beq c2;omega
       refine⟨⟨⟨by decide,by omega⟩,hsl.isSome (i:=0) hL0⟩,L[0],at0 hb5,rfl,?_⟩
       rw[Bool.eq_iff_iff,dTx,beq_iff_eq,e0]
       exact⟨λh=>⟨c2,by rw[h];rfl⟩,λh=>Option.some.inj h.2⟩
     · refine⟨rfl,?_⟩
       symm;rw[dFx];rintro⟨h,_⟩;rw[h]at c2;cases c2
   refine ab.of (λc2=>?_) (λc2=>?_)
   ·
     obtain⟨x,y,p,d,rfl⟩:=We (of_decide_eq_true c2)
     have hy1:=hx y (by simp)
     have hp1:=hx p (by simp)
     have hx1:=hx x (by simp)
     have hd1:=hx d (by simp)
     have q2:=q2 _ _ _ _ rfl
     refine⟨⟨⟨by decide,by simp only[List.length_cons,List.length_nil];omega⟩,hsl.isSome (i:=2) (by simp)⟩,y,Sl.str (i:=2) (hsl.below hb5) rfl,?_⟩
     refine aw (nq y (by omega) w5) ?_
     rintro _ w6 ⟨rfl,hb6⟩
     have hB6:=aa hB5 hb6 hB5.size
     have h56:=h5.below hb6
     have h26:=h25.below hb6
     have hsl6:=(hsl.below hb5).below hb6
     cases hh:bt y with
     | none=>
       refine⟨_,_,rfl,?_⟩
       refine aP.new (zs:=gJ.cells) (cs:=gJ.cells) rfl rfl (Hst.one _) w6 λk7 w7 hk7 h7 hb7=>?_
       refine ab.yes rfl ⟨_,ec.load0 (h56.below hb7) cG,fin uy z0 (h26.below hb7) (aa hB6 hb7 hB6.size) _ ?_ ?_⟩
       · rw[q2,hh];rfl
       · rw[q2,hh];intro p h;cases h
     | some h=>
       have ho:h.ok:=fM hh
       refine⟨_,_,rfl,?_⟩
       refine aP.new (zs:=gJ.cells) (cs:=h.cells) rfl (Hst.len ho) (Hst.one _) w6 λk7 w7 hk7 h7 hb7=>?_
       have hB7:=aa hB6 hb7 hB6.size
       have hsl7:=hsl6.below hb7
       have h57:=h56.below hb7
       have h27:=h26.below hb7
       have hhl:=AL hh
       refine ab.no rfl ⟨⟨⟨by decide,by simp only[List.length_cons,List.length_nil];omega⟩,hsl.isSome (i:=1) (by simp)⟩,⟨⟨by decide,by simp only[List.length_cons,List.length_nil];omega⟩,hsl.isSome (i:=3) (by simp)⟩,x,λu hu=>Sl.str (i:=1) (hsl7.below hu) rfl,_,λu hu=>aP.load0 (h7.below hu) (Hst.len ho),p,λu hu=>Sl.str (i:=3) (hsl7.below hu) rfl,_,λu hu=>Lw _ ho p u,_,λu hu=>Ai (r:=⟨_,h,p,0⟩) ho u,λwq hwq=>?_⟩
       have ok9:∀n:Int,(⟨2,eX,[],⟨x==gv,h,p,n⟩,0⟩:OpR).ok:=λn=>⟨rfl,ho,Nat.zero_le _,Nat.zero_le _,by show p.length <=_;omega,by show h.name.length <=_;omega,Nat.zero_le _⟩
       have cl:∀n:Int,(⟨2,eX,[],⟨x==gv,h,p,n⟩,0⟩:OpR).cells.length=45:=λn=>OpR.len (ok9 n)
       obtain⟨wx,hst,h5x,hg⟩:=ec.store0 (P:=prog) (cs:=(⟨2,eX,[],⟨x==gv,h,p,0⟩,0⟩:OpR).cells) (cl 0) (OpR.one _) (h57.below hwq) cG
       have hBq:=aa hB7 hwq hB7.size
       have k5l:=h5.lt
       have k7l:=h7.lt
       have keepG:∀{u v:World},ao u k2 ak uy.cells/\ao u k7 ae h.cells/\Ow tS ah u NoB b 5 cb [sA,x,y,p,d]/\bW w u->u.grownBy v (some k5)->ao v k2 ak uy.cells/\ao v k7 ae h.cells/\Ow tS ah v NoB b 5 cb [sA,x,y,p,d]/\bW w v:=λ⟨g1,g2,g3,g4⟩ hg=>
         ⟨g1.grown hg (bF hk5k),g2.grown hg (bF (by have:=hb6.size;omega)),keepL g3 hg,Below.put g4 hg (by omega)⟩
       have G:=keepG ⟨h27.below hwq,h7.below hwq,(((ob.below hb5).below hb6).below hb7).below hwq,hBq⟩ hg
       refine⟨wx,hst,?_⟩
       refine gE (λw'=>ao w' k5 ak (⟨2,eX,[],⟨x==gv,h,p,if d=GJ then 1 else 0⟩,0⟩:OpR).cells/\ao w' k2 ak uy.cells/\ao w' k7 ae h.cells/\Ow tS ah w' NoB b 5 cb [sA,x,y,p,d]/\bW w w') ?_ ?_
       · refine⟨⟨⟨by decide,by simp only[List.length_cons,List.length_nil];omega⟩,hsl.isSome (i:=4) (by simp)⟩,d,Sl.str (i:=4) G.2.2.1.all rfl,ab.of (λc3=>?_) (λc3=>?_)⟩
         · have c3:d=GJ:=eq_of_beq c3
           obtain⟨wy,hst,h5y,hg⟩:=ao.put (P:=prog) ik h5x (i:=43) (v:=vI 1) (by rw[cl];decide) rfl rfl
           rw[G7 ho]at h5y
           exact⟨rfl,rfl,wy,hst,by rw[if_pos c3];exact h5y,keepG G hg⟩
         · have c3:d≠GJ:=λe=>by subst e;cases c3
           rw[if_neg c3]
           exact⟨h5x,G⟩
       rintro w8 ⟨h58,G8⟩
       refine gE (λw'=>ao w' k5 ak (⟨2,eX,[],⟨x==gv,h,p,if d=GW then 2 else if d=GJ then 1 else 0⟩,0⟩:OpR).cells/\ao w' k2 ak uy.cells/\ao w' k7 ae h.cells/\Ow tS ah w' NoB b 5 cb [sA,x,y,p,d]/\bW w w') ?_ ?_
       · refine⟨⟨⟨by decide,by simp only[List.length_cons,List.length_nil];omega⟩,hsl.isSome (i:=4) (by simp)⟩,d,Sl.str (i:=4) G8.2.2.1.all rfl,ab.of (λc3=>?_) (λc3=>?_)⟩
         · have c3:d=GW:=eq_of_beq c3
           obtain⟨wy,hst,h5y,hg⟩:=ao.put (P:=prog) ik h58 (i:=43) (v:=vI 2) (by rw[cl];decide) rfl rfl
           rw[G7 ho]at h5y
           exact⟨rfl,rfl,wy,hst,by rw[if_pos c3];exact h5y,keepG G8 hg⟩
         · have c3:d≠GW:=λe=>by subst e;cases c3
           rw[if_neg c3]
           exact⟨h58,G8⟩
       rintro w9 ⟨h59,g1,g2,g3,g4⟩
       have htx:=jR ho
       refine⟨⟨⟨by decide,by simp only[List.length_cons,List.length_nil];omega⟩,hsl.isSome (i:=1) (by simp)⟩,x,λu hu=>Sl.str (i:=1) (g3.all.below hu) rfl,fits (by simp only[List.length_cons,List.length_nil];omega),?_⟩
       rintro _ rfl
       refine⟨fits (by simp only[List.length_append,List.length_cons,List.length_nil];omega),?_⟩
       rintro _ rfl
       refine⟨_,λu hu=>aP.load0 (g2.below hu) (Hst.len ho),_,λu hu=>cw (kW ho u) hu,fits (by simp only[List.length_append,List.length_cons,List.length_nil];omega),?_⟩
       rintro _ rfl
       refine⟨fits (by simp only[List.length_append,List.length_cons,List.length_nil];omega),?_⟩
       rintro _ rfl
       refine⟨⟨⟨by decide,by simp only[List.length_cons,List.length_nil];omega⟩,hsl.isSome (i:=3) (by simp)⟩,p,λu hu=>Sl.str (i:=3) (g3.all.below hu) rfl,fits (by simp only[List.length_append,List.length_cons,List.length_nil];omega),?_⟩
       rintro _ rfl
       refine⟨fits (by simp only[List.length_append,List.length_cons,List.length_nil];omega),?_⟩
       rintro _ rfl
       refine⟨⟨⟨by decide,by simp only[List.length_cons,List.length_nil];omega⟩,hsl.isSome (i:=4) (by simp)⟩,d,λu hu=>Sl.str (i:=4) (g3.all.below hu) rfl,fits (by simp only[List.length_append,List.length_cons,List.length_nil];omega),?_⟩
       rintro _ rfl
       intro wz hwz
       refine⟨_,h59.below hwz,g1.below hwz,ok9 _,rfl,aa g4 hwz g4.size,?_⟩
       rw[q2,hh]
       show fh gr _ _=fh gr _ _
       congr 1
       simp[sA]
   refine iU (w:=w5) (decide (L.length=2/\L[0]? =some mv)) ?_ ?_
   · refine ab.of (λc3=>?_) (λc3=>?_)
     · have c3:L.length=2:=by have:=eq_of_beq c3;omega
       refine⟨⟨⟨by decide,by omega⟩,hsl.isSome (i:=0) hL0⟩,L[0],at0 hb5,rfl,?_⟩
       rw[Bool.eq_iff_iff,dTx,beq_iff_eq,e0]
       exact⟨λh=>⟨c3,by rw[h];rfl⟩,λh=>Option.some.inj h.2⟩
     · refine⟨rfl,?_⟩
       symm;rw[dFx];rintro⟨h,_⟩;rw[h]at c3;cases c3
   refine ab.of (λc3=>?_) (λc3=>?_)
   ·
     obtain⟨x,rfl⟩:=Wc (of_decide_eq_true c3)
     have hx1:=hx x (by simp)
     have q3:=q3 _ rfl
     refine⟨⟨⟨by decide,by simp only[List.length_cons,List.length_nil];omega⟩,hsl.isSome (i:=1) (by simp)⟩,x,Sl.str (i:=1) (hsl.below hb5) rfl,?_⟩
     refine aw (lT x (by omega) w5) ?_
     rintro _ w6 ⟨rfl,rfl⟩
     by_cases hn:nK x
     · rw[if_pos hn]at*
       obtain⟨wx,hst,h5x,hg⟩:=ec.store0 (P:=prog) (cs:=(⟨3,eX,[],j6,ez x⟩:OpR).cells) (Ch _) (OpR.one _) h5 cG
       refine⟨_,_,rfl,ab.no rfl ⟨wx,hst,⟨3,eX,[],j6,ez x⟩,h5x,h25.grown hg (bF hk5k),⟨rfl,rfl,Nat.zero_le _,Nat.zero_le _,Nat.zero_le _,Nat.zero_le _,Nat.zero_le _⟩,rfl,Below.put hB5 hg (by omega),q3⟩⟩
     · rw[if_neg hn]at*
       refine⟨_,_,rfl,ab.yes rfl ⟨_,ec.load0 h5 cG,fin uy z0 h25 hB5 _ (by rw[q3];rfl) (by rw[q3];intro p h;cases h)⟩⟩
   ·
     obtain⟨wx,hst,h5x,hg⟩:=ec.store0 (P:=prog) (cs:=eP.cells) D7 (OpR.one _) h5 cG
     exact⟨wx,hst,eP,h5x,h25.grown hg (bF hk5k),⟨rfl,rfl,Nat.zero_le _,Nat.zero_le _,Nat.zero_le _,Nat.zero_le _,Nat.zero_le _⟩,rfl,Below.put hB5 hg (by omega),q4 (of_decide_eq_false c1) (of_decide_eq_false c2) (of_decide_eq_false c3)⟩
 · intro s6
   refine aJ.of ?_ _
   rintro w6 ⟨o,h56,h26,k,hno,hB6,hkeep⟩
   have hr:=A9 k.fit hno
   refine⟨_,λu hu=>ec.load0 (h56.below hu) (OpR.len k),_,λu hu=>ec.load0 (h56.below hu) (OpR.len k),cP o,λu hu=>cw (Dc k u) (Below.refl _ _),ab.of (λc1=>?_) (λc1=>?_)⟩
   · refine⟨_,λu hu=>ec.load0 (h56.below hu) (OpR.len k),_,λu hu=>cw (hline k c1 u) (Below.refl _ _),λwq hwq=>?_⟩
     refine fin o k.fit (h26.below hwq) (aa hB6 hwq hB6.size) _ ?_ ?_
     · rw[hkeep];unfold fh;rw[<- hr,c1,Bool.true_and]
       cases(fQ gr o==s6) <;> rfl
     · rw[hkeep];unfold fh;intro p h
       split at h
       · exact Option.some.inj h
       · cases h
   · intro wq hwq
     refine fin o k.fit (h26.below hwq) (aa hB6 hwq hB6.size) _ ?_ ?_
     · rw[hkeep];unfold fh;rw[<- hr,c1];rfl
     · rw[hkeep];unfold fh;rw[<- hr,c1];intro p h;cases h
theorem Qp (x:Int×Int×Int){p q:Operand}(w:World):((do eqGuard .eql aF p q (Je x) (Je x);binOp .eql aF (Je x) (Je x):Sem Value)).run prog w=.ok (.bool true) w:=by
 have h:=Nw x x (p:=p) (q:=q) w
 simpa using h
theorem sj (hline:Sf){w:World}(he:Env w)(s:List UInt8):Cf iA #[vS s] w (Ret (U3 w)):=by
 apply qV
 refine aw (sI w he) ?_
 rintro _ w1 ⟨rfl,hb1⟩
 refine⟨_,rfl,ab.no rfl ?_⟩
 refine gE (λw'=>w'=w1) ?_ ?_
 · refine ab.of (λ_=>ab.of (λ_=>⟨rfl,hb1⟩) λ_=>ab.of (λ_=>⟨rfl,hb1⟩) λ_=>rfl) (λ_=>ab.of (λ_=>⟨rfl,hb1⟩) λ_=>rfl)
 rintro _ rfl
 refine aw (jl s _ (he.step hb1)) ?_
 rintro _ w2 ⟨a,n,c,rfl,o2,f2,hb2⟩
 have B2:=aa hb1 hb2 hb1.size
 refine⟨_,_,_,_,_,_,rfl,?_⟩
 refine iu.new (zs:=Ky (0,0,0)) (cs:=Ky (fk bT s).2) rfl rfl (xr _) w2 λk4 w4 hk4 h4 hb4=>?_
 have B4:=aa B2 hb4 B2.size
 refine aw (Db (FY hline) s w4) ?_
 rintro _ w5 ⟨a',n',c',rfl,o5,f5,hb5⟩
 have B5:=aa B4 hb5 B4.size
 refine⟨_,_,_,_,_,_,rfl,?_⟩
 refine iu.new (zs:=Ky (0,0,0)) (cs:=Ky (fk bT s).2) rfl rfl (xr _) w5 λk6 w6 hk6 h6 hb6=>?_
 have B6:=aa B5 hb6 B5.size
 have hlen:(fk bT s).1.length <=1000000:=by
   have:=Eu bT s
   omega
 have o26:=((o2.below hb4).below hb5).below hb6
 refine aw (vL o26.all (o5.below hb6).all hlen) ?_
 rintro _ w7 ⟨b,rfl,hb,hb7⟩
 have hbt:b=true:=hb.2 rfl
 subst hbt
 have B7:=aa B6 hb7 B6.size
 have h47:=((h4.below hb5).below hb6).below hb7
 refine⟨_,rfl,ab.yes rfl ⟨_,_,_,iu.load0 h47 rfl,_,_,_,iu.load0 (h6.below hb7) rfl,_,Qp _ w7,rfl,B7⟩⟩
theorem FX:Sf:=by
 intro o k hr w
 have h1N:=((ls k.fit).1 hr).1
 unfold cX at h1N
 apply DE
 intro k1 w1 hk1 hw1
 have hB1:bW w w1:=hw1▸ai w _
 have h1:ao w1 k1 ak o.cells:=ao.new hk1 hw1
 have hun:=k.un
 have hup:=k.up
 have htx:=k.tx
 have hrn:=k.rn
 have hrp:=k.rp
 refine⟨rfl,_,h1.load1 bG rfl (i:=0) rfl,ab.of (λc1=>?_) (λc1=>?_)⟩
 · have c1:o.kind=1:=by simpa using c1
   have hty:=Cn k.uo hun hup
   have hwl:=EM o.text
   refine⟨rfl,_,λu hu=>gP.load (h1.below hu) (i:=1) (us:=o.url.cells) (Url.len k.uo) (λj hj=>En k hj),_,λu hu=>cw (vK k.uo (by omega) (by omega) u) hu,fits (by simp only[List.length_cons,List.length_nil];omega),?_⟩
   rintro _ rfl
   refine⟨fits (by simp only[List.length_append,List.length_cons,List.length_nil];omega),?_⟩
   rintro _ rfl
   refine⟨rfl,_,λu hu=>(h1.below hu).load1 av rfl (FQ k),_,λu hu=>cw (vJ o.text (by omega) u) hu,fits (by simp only[List.length_append,List.length_cons,List.length_nil];omega),?_⟩
   rintro _ rfl
   intro wq hwq
   refine⟨?_,aa hB1 hwq hB1.size⟩
   unfold fQ;rw[if_pos c1]
   simp[xX]
 have c1:o.kind≠1:=by simpa using c1
 rw[if_neg c1]at h1N
 refine ab.of (λc2=>?_) (λc2=>?_)
 · have c2:o.kind=2:=by simpa using c2
   obtain⟨g1,g2,g3,g4⟩:=OM k hr c2
   refine⟨λx wj=>x=[103,101,116,32]++fN o.req.sec/\wj=w1,⟨rfl,rfl,_,h1.load1 ci rfl (pJ k (j:=0) (by decide)),ab.of (λc=>⟨fits (by decide),?_⟩) (λc=>⟨by rw[c];rfl,rfl⟩)⟩,λs3=>aJ.of ?_ _⟩
   · rintro _ rfl
     exact⟨by rw[c];rfl,rfl⟩
   rintro wj ⟨rfl,rfl⟩
   have hsc:(fN o.req.sec).length <=5:=by unfold fN;split <;> decide
   have hhx:=jR k.ro
   have hcr:(gY o.req.cross).length <=4:=by unfold gY;split;decide;split <;> decide
   refine⟨fits (by simp only[List.length_append,List.length_cons,List.length_nil];omega),?_⟩
   rintro _ rfl
   refine⟨rfl,rfl,rfl,rfl,rfl,rfl,_,λu hu=>aP.load (h1.below hu) (i:=24) (us:=o.req.host.cells) (Hst.len k.ro) (λj hj=>by rw[show 24+j=23+(1+j) by omega,pJ k (by omega)];exact vM k.ro hj),
     _,λu hu=>cw (kW k.ro u) (Below.refl _ _),fits (by simp only[List.length_append,List.length_cons,List.length_nil];omega),?_⟩
   rintro _ rfl
   refine⟨fits (by simp only[List.length_append,List.length_cons,List.length_nil];omega),?_⟩
   rintro _ rfl
   refine⟨_,λu hu=>(h1.below hu).load1 av rfl (by rw[show 42=23+19 from rfl,pJ k (by decide)];exact A8 k.ro),fits (by simp only[List.length_append,List.length_cons,List.length_nil];omega),?_⟩
   rintro _ rfl
   refine⟨fits (by simp only[List.length_append,List.length_cons,List.length_nil];omega),?_⟩
   rintro _ rfl
   refine⟨_,λu hu=>(h1.below hu).load1 bG rfl (by rw[show 43=23+20 from rfl,pJ k (by decide)];exact jj k.ro 1),λk37 hk37=>⟨λu hu hh=>⟨⟨g3,by omega⟩,rfl⟩,gY o.req.cross,λu hu hh=>Sl.str (Ow.heapF (dN _) hh Gx (by simp[maxLen]):Ow tS ah u NoB _ 3 3 Pf).all (K9 g3 g4),λu hu hh=>fits (by simp only[List.length_append,List.length_cons,List.length_nil];omega),?_⟩⟩
   rintro _ rfl
   intro wq hwq _
   refine⟨?_,aa hB1 hwq hB1.size⟩
   unfold fQ;rw[if_neg c1,if_pos c2]
   simp[sA]
 have c2:o.kind≠2:=by simpa using c2
 rw[if_neg c2]at h1N
 refine ab.of (λc3=>?_) (λc3=>?_)
 · have c3:o.kind=3:=by simpa using c3
   rw[if_pos c3,Bool.and_eq_true,dTx,dTx]at h1N
   have hd:=ir o.n.toNat (by omega) w1
   rw[Int.toNat_of_nonneg h1N.1]at hd
   refine⟨rfl,_,h1.load1 bP rfl (PI k),?_⟩
   refine aw hd ?_
   rintro _ w2 ⟨rfl,hb2⟩
   have hdl:=gi (n:=o.n.toNat) (by omega)
   refine⟨_,rfl,fits (by simp only[List.length_append,List.length_cons,List.length_nil];omega),?_⟩
   rintro _ rfl
   refine⟨?_,aa hB1 hb2 hB1.size⟩
   unfold fQ;rw[if_neg c1,if_neg c2,if_pos c3]
   simp[mv]
 · have c3:o.kind≠3:=by simpa using c3
   refine⟨?_,hB1⟩
   unfold fQ;rw[if_neg c1,if_neg c2,if_neg c3]
   rfl
theorem CH {w:World}(he:Env w)(s:List UInt8):Cf iA #[vS s] w (Ret (U3 w)):=sj FX he s
end Go.Pk
