/- What the laws lean on: AddrA, AddrP, AddrB, AddrC, AddrD, AddrE, AddrF, AddrG, AddrH, AddrI, Eq, HostA, HostB, HostC, Sub, HostD; what is used. Its conditions: none. -/
import Derived.Test.YtikdahhdhchlfaaGreatDoorKD
import Derived.Laws.CopyRow
import Derived.Lib.ItoaLen
import Derived.Laws.StructEq
set_option linter.unusedVariables false
set_option linter.unusedSimpArgs false
set_option linter.unusedSectionVars false
set_option maxRecDepth 100000
open Go.IntKind (i64)
open Go.Proofs.Tryz
namespace Go.Pk
open Go.RowKit (Below)
open Go.Proofs
def adC (a:List UInt8):List Value:=a.map λc=>Value.int .u8 ((c.toNat:Nat):Int)
def adV (a:List UInt8):Value:=.agg (adC a).toArray
def ad0:List UInt8:=List.replicate 16 0
theorem cZ (a:List UInt8):(adC a).length=a.length:=by simp[adC]
theorem eY (a:List UInt8):yM (adC a):=UL a
theorem tV (a:List UInt8)(i:Nat)(c:UInt8):(adC a).set i (.int .u8 ((c.toNat:Nat):Int))=adC (a.set i c):=by unfold adC;rw[List.map_set]
theorem zZ {a:List UInt8}{i:Nat}(h:i<a.length):(adC a)[i]? =some (.int .u8 ((a[i].toNat:Nat):Int)):=by unfold adC;rw[List.getElem?_map,List.getElem?_eq_getElem h];rfl
def adT:Option (List UInt8)->Value
 | some a=>.tuple #[adV a,.bool true]
 | none=>.tuple #[adV ad0,.bool false]
def CS (x:List UInt8):Prop:=nK x/\ez x <=255
instance  (x:List UInt8):Decidable (CS x):=by unfold CS;infer_instance
def ipB (x:List UInt8):UInt8:=UInt8.ofNat (ez x).toNat
def v4V (s:List UInt8):Option (List UInt8):=if(bK 46 [] s).length=4/\∀x∈bK 46 [] s,CS x then some (List.replicate 12 0++(bK 46 [] s).map ipB)else none
theorem RX {x:List UInt8}(h:CS x):IntKind.u8.wrap (ez x)=(((ipB x).toNat:Nat):Int):=by
 have hd:0 <=ez x:=by
   have:=h.1.1
   unfold dE at this
   rw[Bool.and_eq_true]at this
   exact(jt x 0 (by decide) (λc hc=>List.all_eq_true.1 this.2 c hc)).1
 have h2:=h.2
 rw[wrap_u8 hd h2]
 unfold ipB
 rw[UInt8.toNat_ofNat']
 omega
def v4S (L:List (List UInt8))(k:Nat):List UInt8:=List.replicate 12 0++(L.take k).map ipB++List.replicate (4-k) 0
theorem GC {L:List (List UInt8)}(h:L.length=4){k:Nat}(hk:k <=4):(v4S L k).length=16:=by simp[v4S];omega
theorem Pu {L:List (List UInt8)}(h:L.length=4){k:Nat}(hk:k<4):(v4S L k).set (12+k) (ipB (L[k]'(by omega)))=v4S L (k+1):=by
 unfold v4S
 have hl:(List.replicate 12 (0:UInt8)++(L.take k).map ipB).length=12+k:=by simp;omega
 rw[List.set_append_right _ _ (by omega),hl,Nat.sub_self,List.take_succ_eq_append_getElem (by omega),List.map_append]
 rw[show 4-k=(4-(k+1))+1 by omega,List.replicate_succ (n:=4-(k+1)),List.set_cons_zero]
 simp
theorem UY {L:List (List UInt8)}(h:L.length=4):v4S L 4=List.replicate 12 0++L.map ipB:=by unfold v4S;rw[List.take_of_length_le (by omega)];simp
theorem Sc {s:List UInt8}(h: ¬ ((bK 46 [] s).length=4/\∀x∈bK 46 [] s,CS x)):v4V s=none:=if_neg h
theorem cj:Whl prog am 16:=⟨⟨_,_,JY⟩,by kernel_rfl⟩
theorem Ln (s:List UInt8)(hs:s.length<4294967281)(w:World)(he:Env w):Cf AA #[vS s] w (Ret λv w'=>v=adT (v4V s)/\bW w w'):=by
 apply JM
 intro k2 w2 hk2 hw2
 have hB2:=(hw2▸ai w _:bW w w2)
 have h2:ao w2 k2 am (adC ad0):=ao.new hk2 hw2
 refine aw (dV s 46 hs w2 (he.step hB2)) ?_
 rintro _ w3 ⟨a,n,c,rfl,ho,hf,hb3⟩
 have hB3:=aa hB2 hb3 hB2.size
 have h23:=h2.below hb3
 have hn:=ho.len
 have hlens:∀x∈bK 46 [] s,x.length <=s.length:=λx hx=>by simpa using fI 46 s [] x hx
 have none_end:∀{wx:World},v4V s=none->ao wx k2 am (adC ad0)->bW w wx->_:=fun{wx} hv h2x hBx=>cj.fin (K:=λvr wy=>(.tuple #[vr,.bool false]:Value)=adT (v4V s)/\bW w wy) (cs:=adC ad0) rfl (eY _) h2x rfl hBx (by omega) λwy hb=>⟨by rw[hv];rfl,hb⟩
 refine⟨_,_,_,rfl,ab.of (λh4=>?_) (λh4=>?_)⟩
 · refine none_end (Sc λhc=>?_) h23 hB3
   rw[bne_iff_ne]at h4;omega
 have hl4:(bK 46 [] s).length=4:=by simp at h4;omega
 intro k5 w5 hk5 hw5
 have hb5:=(hw5▸ai w3 _:bW w3 w5)
 have hB5:=aa hB3 hb5 hB3.size
 have h25:=h23.below hb5
 have h55:ao w5 k5 am (adC ad0):=ao.new hk5 hw5
 have ho5:=ho.below hb5
 have hlt2:=h23.lt
 have hog:∀g,eJ a=some g->g≠k5:=λg hg e=>by have:=ho.lt g hg;omega
 have hk5w:w.heap.size <=k5:=by have:=hB3.size;omega
 obtain⟨L,hL⟩:∃L,L=bK 46 [] s:=⟨_,rfl⟩
 rw[<- hL]at ho5 hl4 hlens hn
 have hv4:v4V s=if L.length=4/\∀x∈L,CS x then some (List.replicate 12 0++L.map ipB)else none:=by rw[hL];rfl
 refine⟨λm i w'=>∃k:Nat,k <=4/\i=(k:Int)/\m=4-k/\(∀j (hj:j<k) (h:j<L.length),CS L[j])/\ao w' k5 am (adC (v4S L k))/\ao w' k2 am (adC ad0)/\Ow tS ah w' NoB a n c L/\bW w w',
   ⟨_,0,by omega,rfl,rfl,λj hj=>by omega,h55,h25,ho5,hB5⟩,?_⟩
 intro m i
 refine aJ.of ?_ _
 rintro w6 ⟨k,hk,rfl,rfl,hok,h56,h26,ho6,hB6⟩
 refine ab.of (λh=>?_) (λh=>?_) <;> simp only[dTx,dFx]at h
 · have hk4:k<4:=by omega
   have hkL:k<L.length:=by omega
   refine⟨⟨⟨by omega,h⟩,ho6.all.isSome (by omega)⟩,_,ho6.all.text av hkL,?_⟩
   have hlk:=hlens L[k] (List.getElem_mem hkL)
   refine aw (jh L[k] (by omega) w6) ?_
   rintro _ w7 ⟨rfl,hb7⟩
   have hB7:=aa hB6 hb7 hB6.size
   have hnone: ¬ CS L[k]->v4V s=none:=λhx=>by
     rw[hv4,if_neg λhc=>hx (hc.2 _ (List.getElem_mem hkL))]
   refine⟨if nK L[k]then ez L[k]else 0,if nK L[k]then true else false,by split <;> rfl,?_⟩
   refine⟨λw'=>w'=w7/\CS L[k],?_,?_⟩
   · refine iU (B:=λJ=>ab _ (J true w7) (J _ w7)) (!decide (CS L[k])) (ab.of (λh1=>⟨rfl,?_⟩) (λh1=>⟨rfl,?_⟩)) ?_
     · have: ¬ nK L[k]:=λhc=>by rw[if_pos hc]at h1;cases h1
       have h2: ¬ CS L[k]:=λhc=>this hc.1
       simp[h2]
     · have hnp:nK L[k]:=Decidable.byContradiction λhc=>by rw[if_neg hc]at h1;cases h1
       rw[if_pos hnp,Bool.eq_iff_iff]
       simp[CS,hnp]
     · refine ab.of (λh1=>none_end (hnone (by simpa using h1)) (h26.below hb7) hB7) (λh1=>⟨rfl,by simpa using h1⟩)
   · refine aJ.of ?_ _
     rintro wj ⟨hwj,hip⟩
     rw[hwj];clear hwj
     have e12:i64.wrap (12+(k:Int))=((12+k:Nat):Int):=by rw[wrap_i64 (by omega) (by omega)];omega
     try dsimp only
     rw[e12,gR,if_pos hip.1,RX hip,Nat.zero_add]
     refine⟨⟨⟨by omega,by omega⟩,rfl⟩,?_⟩
     have h57:=h56.below hb7
     obtain⟨w8,hs8,h58,hg8⟩:=h57.put (P:=prog) gn (i:=12+k) (v:=.int .u8 (((ipB L[k]).toNat:Nat):Int)) (by rw[cZ,GC hl4 (by omega)];omega) rfl rfl
     rw[tV,Pu hl4 hk4]at h58
     refine⟨w8,hs8,4-(k+1),by omega,k+1,by omega,by rw[wrap_i64 (by omega) (by omega)];omega,rfl,?_,h58,(h26.below hb7).grown hg8 (bF (by omega)),(ho6.below hb7).put hog hg8,Below.put hB7 hg8 hk5w⟩
     intro j hj hjl
     by_cases e:j=k
     · subst e;exact hip
     · exact hok j (by omega) hjl
 · have:k=4:=by omega
   subst this
   have hall:∀x∈L,CS x:=λx hx=>by
     obtain⟨j,hj,rfl⟩:=List.mem_iff_getElem.1 hx
     exact hok j (by omega) hj
   have hv:v4V s=some (v4S L 4):=by rw[hv4,if_pos ⟨hl4,hall⟩,UY hl4]
   have hlen:(adC (v4S L 4)).length=16:=by rw[cZ,GC hl4 (by omega)]
   refine⟨_,cj.load0 h56 hlen,?_⟩
   exact cj.fin (K:=λvr wy=>(.tuple #[vr,.bool true]:Value)=adT (v4V s)/\bW w wy) hlen (eY _) h26 rfl hB6 (by omega) λwy hb=>⟨by rw[hv];rfl,hb⟩
def xw (c:UInt8):Nat:=if 48 <=c.toNat/\c.toNat <=57 then c.toNat-48 else if 97 <=c.toNat/\c.toNat <=102 then c.toNat-87 else if 65 <=c.toNat/\c.toNat <=70 then c.toNat-55 else 16
def mx (c:UInt8):Bool:=decide (xw c<16)
def oq (s:List UInt8):Nat:=s.foldl (λn c=>n*16+xw c) 0
def dZ (s:List UInt8):Bool:=decide (1 <=s.length)&&decide (s.length <=4)&&s.all mx
def dJ (s:List UInt8):List (List UInt8):=if s=[]then[]else bK 58 [] s
def at2 (s:List UInt8)(i:Nat):Prop:=s[i]? =some 58/\s[i+1]? =some 58
def e8 (s:List UInt8):Bool:=decide ((bK 58 [] s).length=8)&&(bK 58 [] s).all dZ
def v6L (A B:List (List UInt8)):List Nat:=A.map oq++List.replicate (8-A.length-B.length) 0++B.map oq
def Jc (gap:Bool)(A B:List (List UInt8)):Bool:=A.all dZ&&B.all dZ&&(if gap then decide (A.length+B.length<8)else decide (A.length+B.length=8))
def v6V (s:List UInt8):Option (List Nat):=
 if Jc (Lib.cut s [58,58]).2.2 (dJ (Lib.cut s [58,58]).1) (dJ (Lib.cut s [58,58]).2.1)=true then some (v6L (dJ (Lib.cut s [58,58]).1) (dJ (Lib.cut s [58,58]).2.1))else none
theorem Vc (s:List UInt8)(i:Nat):Lib.occAt s [58,58] i=true ↔ at2 s i:=by
 unfold Lib.occAt at2
 have e0:s[i]? =(s.drop i)[0]? :=by rw[List.getElem?_drop];rfl
 have e1:s[i+1]? =(s.drop i)[1]? :=by rw[List.getElem?_drop]
 rw[e0,e1]
 generalize s.drop i=d
 match d with
 | []=>simp
 | [a]=>simp
 | a::b::r=>
   simp only[List.isPrefixOf,Bool.and_true,Bool.and_eq_true,beq_iff_eq,List.getElem?_cons_zero,List.getElem?_cons_succ,Option.some.injEq]
   exact⟨λh=>⟨h.1.symm,h.2.symm⟩,λh=>⟨h.1.symm,h.2.symm⟩⟩
theorem vf (s:List UInt8):(Lib.cut s [58,58]=(s,[],false)/\∀i,¬ at2 s i)\/∃p,Lib.cut s [58,58]=(s.take p,s.drop (p+2),true)/\at2 s p/\(∀j,j<p-> ¬ at2 s j)/\p+2 <=s.length:=by
 rcases Lib.index_spec s [58,58]with⟨h1,h2⟩|⟨p,h1,h2,h3,h4⟩
 · refine .inl ⟨?_,λi hi=>?_⟩
   · unfold Lib.cut;rw[if_neg (by omega)]
   · by_cases hl:i <=s.length
     · have:=h2 i hl
       rw[(Vc s i).2 hi]at this;cases this
     · have:=hi.1
       rw[List.getElem?_eq_none (by omega)]at this;cases this
 · refine .inr ⟨p,?_,(Vc s p).1 h3,λj hj hc=>?_,?_⟩
   · unfold Lib.cut;rw[if_pos (by omega),h1];rfl
   · have:=h4 j hj
     rw[(Vc s j).2 hc]at this;cases this
   · have:=((Vc s p).1 h3).2
     have h5:=(List.getElem?_eq_some_iff.1 this).1
     omega
theorem U0 {s:List UInt8}{g:List Nat}(h:v6V s=some g):g.length=8:=by
 unfold v6V at h
 split at h
 · rename_i hf
   rw[<- Option.some.inj h]
   unfold v6L
   unfold Jc at hf
   rw[Bool.and_eq_true]at hf
   have:(dJ (Lib.cut s [58,58]).1).length+(dJ (Lib.cut s [58,58]).2.1).length <=8:=by
     have:=hf.2
     split at this
     · have:=of_decide_eq_true this;omega
     · have:=of_decide_eq_true this;omega
   simp;omega
 · cases h
theorem vo:∀(s:List UInt8) (n:Nat),s.all mx=true->s.foldl (λn c=>n*16+xw c) n<(n+1)*16 ^ s.length
 | [],n,_=>by simp
 | c::s,n,h=>by
   rw[List.all_cons,Bool.and_eq_true]at h
   have hc:xw c<16:=by simpa[mx]using h.1
   have:=vo s (n*16+xw c) h.2
   rw[List.foldl_cons,List.length_cons,Nat.pow_succ]
   refine Nat.lt_of_lt_of_le this ?_
   rw[Nat.mul_comm (16 ^ s.length) 16,<- Nat.mul_assoc]
   exact Nat.mul_le_mul_right _ (by omega)
theorem RV {s:List UInt8}(h:dZ s=true):oq s<65536:=by
 unfold dZ at h
 simp only[Bool.and_eq_true,dTx]at h
 have:=vo s 0 h.2
 have h2:16 ^ s.length <=16 ^ 4:=Nat.pow_le_pow_right (by decide) h.1.2
 unfold oq
 have h3:(16:Nat) ^ 4=65536:=rfl
 omega
def mw (l:List Nat):List UInt8:=l.flatMap λn=>[UInt8.ofNat (n/256),UInt8.ofNat (n%256)]
theorem qH:∀l:List Nat,(mw l).length=2*l.length
 | []=>rfl
 | n::l=>by
   have:=qH l
   unfold mw at this ⊢
   rw[List.flatMap_cons,List.length_append,this];simp;omega
theorem NF (a b:List Nat):mw (a++b)=mw a++mw b:=by unfold mw;rw[List.flatMap_append]
def LL (gs:List Nat)(k:Nat):List UInt8:=mw (gs.take k)++List.replicate (16-2*k) 0
theorem zJ {gs:List Nat}(h:gs.length=8){k:Nat}(hk:k <=8):(LL gs k).length=16:=by
 unfold LL;rw[List.length_append,qH,List.length_take,List.length_replicate];omega
theorem KA {gs:List Nat}(h:gs.length=8){k:Nat}(hk:k<8):((LL gs k).set (2*k) (UInt8.ofNat ((gs[k]'(by omega))/256))).set (2*k+1) (UInt8.ofNat ((gs[k]'(by omega))%256))=LL gs (k+1):=by
 unfold LL
 have hl:(mw (gs.take k)).length=2*k:=by rw[qH,List.length_take];omega
 rw[show 16-2*k=(16-2*(k+1))+1+1 by omega,List.replicate_succ (n:=16-2*(k+1)+1),List.replicate_succ (n:=16-2*(k+1))]
 rw[List.set_append_right _ _ (by omega),hl,Nat.sub_self,List.set_cons_zero,List.set_append_right _ _ (by omega),hl,show 2*k+1-2*k=0+1 by omega,List.set_cons_succ,List.set_cons_zero,
   List.take_succ_eq_append_getElem (by omega),NF]
 simp[mw]
theorem RU {gs:List Nat}(h:gs.length=8):LL gs 8=mw gs:=by unfold LL;rw[List.take_of_length_le (by omega)];simp
theorem KB (x:List UInt8){j:Nat}(h:j<x.length):oq (x.take (j+1))=oq (x.take j)*16+xw x[j]:=by
 unfold oq;rw[List.take_succ_eq_append_getElem h,List.foldl_append];rfl
theorem AG {x:List UInt8}{j:Nat}(h:∀i (hi:i<j) (h:i<x.length),mx x[i]=true)(hj:j <=4):oq (x.take j)<65536:=by
 have ha:(x.take j).all mx=true:=List.all_eq_true.2 λc hc=>by
   obtain⟨i,hi,rfl⟩:=List.mem_iff_getElem.1 hc
   rw[List.length_take]at hi
   rw[List.getElem_take]
   exact h i (by omega) (by omega)
 have h1:=vo (x.take j) 0 ha
 have h2:16 ^ (x.take j).length <=16 ^ 4:=Nat.pow_le_pow_right (by decide) (by rw[List.length_take];omega)
 have h3:(16:Nat) ^ 4=65536:=rfl
 unfold oq;omega
theorem Im {n:Nat}(h:n<256):((UInt8.ofNat n).toNat:Int)=(n:Int):=by rw[UInt8.toNat_ofNat'];omega
def v6A (s:List UInt8):Option (List UInt8):=(v6V s).map mw
def U4 (o:Option (List UInt8)):Prop:=∀a,o=some a->a.length=16
theorem D0 (o:Option (List UInt8)):adT o=.tuple #[adV (o.getD ad0),.bool o.isSome]:=by cases o <;> rfl
theorem xV {o:Option (List UInt8)}(h:U4 o):(adC (o.getD ad0)).length=16:=by
 rw[cZ]
 cases o with
 | none=>rfl
 | some a=>exact h a rfl
theorem Pv (s:List UInt8):U4 (v6A s):=λa h=>by
 unfold v6A at h
 cases hv:v6V s with
 | none=>rw[hv]at h;cases h
 | some g=>
   rw[hv]at h
   rw[<- Option.some.inj h,qH,U0 hv]
theorem TZ (s:List UInt8):U4 (v4V s):=λa h=>by
 unfold v4V at h
 split at h
 · rename_i h4
   rw[<- Option.some.inj h];simp;omega
 · cases h
def TJ:Ty Int:=VW .u16 λ_=>True
theorem Qo:Flat TJ:=λ_ _ _ _ _ _ h=>h
def i16 (l:List Int):List Value:=l.map λn=>Value.int .u16 n
theorem Tz {w:World}{A:Bl}{n:Int} :TJ.rep w A [.int .u16 n] n:=⟨rfl,trivial⟩
theorem O0:∀n,n<256->Lib.indexByte [48,49,50,51,52,53,54,55,56,57,97,98,99,100,101,102] (xC (UInt8.ofNat n))=if xw (UInt8.ofNat n)<16 then(xw (UInt8.ofNat n):Int)else -1:=by decide+kernel
theorem O1 (c:UInt8):Lib.indexByte [48,49,50,51,52,53,54,55,56,57,97,98,99,100,101,102] (xC c)=if xw c<16 then(xw c:Int)else -1:=by
 have:=O0 c.toNat (by have:=c.toNat_lt;omega)
 rwa [UInt8.ofNat_toNat]at this
theorem Wh {a d:Nat}(ha:a<4096)(hd:d<16):IntKind.u16.wrap (((BitVec.ofInt (IntKind.bits .u16) (IntKind.u16.wrap ((a:Int)*2 ^ (min (Int.toNat (4:Int)) (IntKind.bits .u16))))) ||| (BitVec.ofInt (IntKind.bits .u16) (IntKind.u16.wrap (d:Int)))).toNat:Nat)=((a*16+d:Nat):Int):=by
 have e1:(2:Int) ^ (min (Int.toNat (4:Int)) (IntKind.bits .u16))=16:=by decide
 have w16:∀n:Nat,n<65536->IntKind.u16.wrap (n:Int)=(n:Int):=λn hn=>by
   have:IntKind.u16.wrap (n:Int)=(n:Int)%65536:=rfl
   rw[this];omega
 have e2:(a:Int)*16=((a*16:Nat):Int):=by omega
 have b16:∀n:Nat,n<65536->(BitVec.ofInt (IntKind.bits .u16) (n:Int)).toNat=n:=λn hn=>by
   show(BitVec.ofInt 16 (n:Int)).toNat=n
   rw[BitVec.toNat_ofInt]
   have:((n:Int)%((2 ^ 16:Nat):Int)).toNat=n:=by
     have h:((2 ^ 16:Nat):Int)=65536:=by decide
     rw[h];omega
   exact this
 rw[e1,e2,w16 (a*16) (by omega),w16 d (by omega),BitVec.toNat_or,b16 (a*16) (by omega),b16 d (by omega)]
 have h3:a*16 ||| d=a*16+d:=by
   have:=Nat.two_pow_add_eq_or_of_lt (i:=4) hd a
   rw[Nat.mul_comm a 16];exact this.symm
 rw[h3,w16 _ (by omega)]
def Ey (s:List UInt8):List Int:=(dJ s).map λx=>(oq x:Int)
theorem E5 (s:List UInt8)(hs:s.length <=9223372036854775800)(w:World):Cf qs #[vS s] w
   (Ret λv w'=>v=(if dZ s=true then .tuple #[.int .u16 (oq s:Int),.bool true]else .tuple #[.int .u16 0,.bool false])/\bW w w'):=by
 apply Dg
 have bad:∀{wx:World},dZ s=false->bW w wx->(.tuple #[.int .u16 0,.bool false]:Value)=(if dZ s=true then .tuple #[.int .u16 (oq s:Int),.bool true]else .tuple #[.int .u16 0,.bool false])/\bW w wx:=λhg hb=>⟨by rw[hg];rfl,hb⟩
 refine si (w:=w) (1 <=s.length/\s.length <=4) ?_ (λhl=>?_)
 · refine ab.of (λh=>bad ?_ (Below.refl _ _)) (λh=>ab.of (λh2=>bad ?_ (Below.refl _ _)) (λh2=>⟨rfl,?_⟩))
   · unfold dZ;rw[decide_eq_false (by simp only[dTx]at h;omega),Bool.false_and,Bool.false_and]
   · unfold dZ;rw[decide_eq_false (p:=s.length <=4) (by simp only[dTx]at h2;omega),Bool.and_false,Bool.false_and]
   · simp only[dFx]at h h2
     exact⟨by omega,by omega⟩
 refine aw (dU s hs w) ?_
 rintro _ w1 ⟨rfl,hb1⟩
 refine⟨_,rfl,?_⟩
 have ll:(co s).length=s.length:=by simp[co]
 obtain⟨w2,a,n,c,hr,ho,hb2,hf⟩:=ov (P:=prog) av bw bS w1 (co s) (by omega) NoB
 have hB2:=aa hb1 hb2 hb1.size
 have hnn:=ho.len
 subst hnn
 refine⟨w2,a,_,c,hr,?_⟩
 refine⟨λm v i w'=>∃j:Nat,j <=s.length/\i=(j:Int)/\m=s.length-j/\v=((oq (s.take j):Nat):Int)/\(∀q (hq:q<j) (h:q<s.length),mx s[q]=true)/\w'=w2,⟨_,0,by omega,rfl,rfl,rfl,λq hq=>by omega,rfl⟩,?_⟩
 intro m v i
 refine aJ.of ?_ _
 rintro w' ⟨j,hj,rfl,rfl,rfl,hx,hw'⟩
 rw[hw'];clear hw'
 rw[ll]
 refine ab.of (λh=>?_) (λh=>?_) <;> simp only[dTx,dFx]at h
 · have hlt:j<s.length:=by omega
   have hgl:=AG hx (by omega)
   have hlt':j<(co s).length:=by omega
   obtain⟨v,hv,hrep⟩:=ho.all.load1 (i:=(j:Int)) bS rfl rfl (by simpa using hlt')
   have:=Ck hrep
   subst this
   simp only[Int.toNat_natCast]at hv
   have elow:(co s)[j]=xC s[j]:=by simp[co]
   rw[elow]at hv
   refine⟨⟨⟨by omega,h⟩,ho.all.isSome hlt'⟩,_,hv,?_⟩
   refine(Tryz.strings_IndexByte (mkS [48,49,50,51,52,53,54,55,56,57,97,98,99,100,101,102]) _ w2).mono ?_
   rintro _ w3 ⟨rfl,hw3⟩
   rw[hw3];clear hw3
   have e5:Lib.indexByte (mkS [48,49,50,51,52,53,54,55,56,57,97,98,99,100,101,102]).data.toList (Int.toNat (((xC s[j]).toNat:Nat):Int)).toUInt8=if xw s[j]<16 then(xw s[j]:Int)else -1:=by
     rw[Int.toNat_natCast,show(xC s[j]).toNat.toUInt8=xC s[j] from UInt8.ofNat_toNat]
     exact O1 s[j]
   rw[e5]
   refine⟨_,rfl,?_⟩
   by_cases hh:xw s[j]<16
   · rw[if_pos hh]
     have hhx:mx s[j]=true:=by simpa[mx]using hh
     have h4096:oq (s.take j)<4096:=by
       have ha:(s.take j).all mx=true:=List.all_eq_true.2 λc hc=>by
         obtain⟨i,hi,rfl⟩:=List.mem_iff_getElem.1 hc
         rw[List.length_take]at hi
         rw[List.getElem_take]
         exact hx i (by omega) (by omega)
       have h1:=vo (s.take j) 0 ha
       have h2:16 ^ (s.take j).length <=16 ^ 3:=Nat.pow_le_pow_right (by decide) (by rw[List.length_take];omega)
       have h3:(16:Nat) ^ 3=4096:=rfl
       unfold oq;omega
     refine ab.no (by simp) ⟨by decide,s.length-(j+1),by omega,j+1,by omega,by rw[wrap_i64 (by omega) (by omega)];omega,rfl,?_,λq hq hql=>?_,rfl⟩
     · rw[Wh h4096 hh,KB _ hlt]
     · by_cases e:q=j
       · subst e;exact hhx
       · exact hx q (by omega) hql
   · rw[if_neg hh]
     refine ab.yes (by decide) (bad ?_ hB2)
     unfold dZ
     have:s.all mx=false:=by
       rw[Bool.eq_false_iff]
       intro hc
       have:=List.all_eq_true.1 hc _ (List.getElem_mem hlt)
       exact hh (by simpa[mx]using this)
     rw[this,Bool.and_false]
 · have:j=s.length:=by omega
   subst this
   have hg:dZ s=true:=by
     unfold dZ
     rw[decide_eq_true hl.1,decide_eq_true hl.2,Bool.true_and,Bool.true_and]
     exact List.all_eq_true.2 λc hc=>by
       obtain⟨q,hq,rfl⟩:=List.mem_iff_getElem.1 hc
       exact hx q hq hq
   rw[List.take_length,if_pos hg]
   exact⟨rfl,hB2⟩
def MG (s:List UInt8)(w:World)(v:Value)(w':World):Prop:=
 ∃(a:Option Addr) (n c:Nat),v=.tuple #[.slice a n c,.bool ((dJ s).all dZ)]/\((dJ s).all dZ=true->Ow TJ fH w' NoB a n c (Ey s)/\bU w.heap.size a/\(Ey s=[]->a=none/\n=0/\c=0))/\((dJ s).all dZ=false->n=0)/\bW w w'
theorem z8 (s:List UInt8)(hs:s.length<4294967281)(w:World)(he:Env w):Cf rX #[vS s] w (Ret (MG s w)):=by
 apply HV
 refine ab.of (λh=>?_) (λh=>?_)
 · have h0:s=[]:=by simpa using h
   subst h0
   exact⟨none,0,0,rfl,λ_=>⟨Ow.nil _ _ _ _,bU.none _,λ_=>⟨rfl,rfl,rfl⟩⟩,λ_=>rfl,Below.refl _ _⟩
 have hne:s≠[]:=by simpa using h
 have hrow:dJ s=bK 58 [] s:=by unfold dJ;rw[if_neg hne]
 have hI:Ey s=(bK 58 [] s).map λx=>(oq x:Int):=by unfold Ey;rw[hrow]
 unfold MG
 rw[hrow,hI]
 refine aw (dV s 58 hs w he) ?_
 rintro _ w3 ⟨a,n,c,rfl,ho,hf,hb3⟩
 have hn:=ho.len
 have hlens:∀x∈bK 58 [] s,x.length <=s.length:=λx hx=>by simpa using fI 58 s [] x hx
 have hcn:=dK 58 s []
 have hnz:=gQ 58 s []
 refine⟨_,_,_,rfl,?_⟩
 generalize bK 58 [] s=L at*
 refine⟨λm a4 l4 c4 i w'=>∃k:Nat,k <=L.length/\i=(k:Int)/\m=L.length-k/\(∀j (hj:j<k) (h:j<L.length),dZ L[j]=true)/\Ow TJ fH w' NoB a4 l4 c4 ((L.take k).map λx=>(oq x:Int))/\bU w3.heap.size a4/\bW w3 w',
   ⟨_,0,by omega,rfl,rfl,λj hj=>by omega,Ow.nil _ _ _ _,bU.none _,Below.refl _ _⟩,?_⟩
 intro m a4 l4 c4 i
 refine aJ.of ?_ _
 rintro w6 ⟨k,hk,rfl,rfl,hok,ho4,hf4,hB6⟩
 have ho6:=ho.below hB6
 refine ab.of (λh=>?_) (λh=>?_) <;> simp only[dTx,dFx]at h
 · have hkL:k<L.length:=by omega
   have hlk:=hlens L[k] (List.getElem_mem hkL)
   refine⟨⟨⟨by omega,h⟩,ho6.all.isSome (by omega)⟩,_,ho6.all.text av hkL,?_⟩
   refine aw (E5 L[k] (by omega) w6) ?_
   rintro _ w7 ⟨rfl,hb7⟩
   have hB7:=aa hB6 hb7 hB6.size
   by_cases hg:dZ L[k]=true
   · rw[if_pos hg]
     refine⟨_,_,rfl,ab.no rfl ?_⟩
     intro k1 w8 hk1 hw8
     have ho47:=ho4.below hb7
     obtain⟨w9,a9,n9,c9,hr,ho9,hf9,hb9⟩:=C4 (ty:=ed) (w0:=w3) (cm:=1) (vs:=[_]) Qo ri Ij (by decide) ho47 hf4 hB7 hk1 hw8 (Tz) (by simp;omega)
     refine⟨w9,a9,n9,c9,hr,L.length-(k+1),by omega,k+1,by omega,by rw[wrap_i64 (by omega) (by omega)];omega,rfl,λj hj hjl=>?_,?_,hf9,hb9⟩
     · by_cases e:j=k
       · subst e;exact hg
       · exact hok j (by omega) hjl
     · rw[List.take_succ_eq_append_getElem hkL,List.map_append];exact ho9
   · rw[if_neg hg]
     refine⟨_,_,rfl,ab.yes rfl ?_⟩
     have hall:L.all dZ=false:=by
       rw[Bool.eq_false_iff]
       intro hc
       exact hg (List.all_eq_true.1 hc _ (List.getElem_mem hkL))
     rw[hall]
     exact⟨none,0,0,rfl,(λh=>by cases h),(λ_=>rfl),aa hb3 hB7 hb3.size⟩
 · have:k=L.length:=by omega
   subst this
   have hall:L.all dZ=true:=List.all_eq_true.2 λx hx=>by
     obtain⟨j,hj,rfl⟩:=List.mem_iff_getElem.1 hx
     exact hok j (by omega) hj
   rw[List.take_length]at ho4
   rw[hall]
   refine⟨a4,l4,c4,rfl,(λ_=>⟨ho4,hf4.mono hb3.size,λh0=>?_⟩),(λh=>by cases h),aa hb3 hB6 hb3.size⟩
   exact absurd (List.map_eq_nil_iff.1 h0) hnz
theorem NT (l:List Int):yM (i16 l):=λc hc=>by
 obtain⟨x,_,rfl⟩:=List.mem_map.1 hc;rfl
theorem LK (w:World)(k:Nat):w.grownBy w (some k):=⟨rfl,rfl,rfl,Nat.le_refl _,λ_ _ _=>rfl⟩
theorem Kl {P:Program}{dT sT ty elem:TypeId}(hu:P.underlying dT=some (.slice elem))(hs:(P.info? elem).map (·.size)=some 1){w:World}{k:Nat}{T:TypeId}{vs:List Value}(h:ao w k T vs)
   {a:Option Addr} {n c:Nat} {xs:List Int} (ho:Ow TJ elem w NoB a n c xs) (hnil:xs=[]->a=none/\n=0/\c=0) {o dLen dCap:Nat} {A:Addr} (hA:xs≠[]->A=⟨k,o,none⟩) (hd:xs.length <=dLen) (hfit:o+xs.length <=vs.length):
   ∃w',(Builtin.copy_ #[dT,sT] ty #[.slice (some A) dLen dCap,.slice a n c]).run P w=.ok (vI ((xs.length:Nat):Int)) w'/\ao w' k T (vs.take o++i16 xs++vs.drop (o+xs.length))/\w.grownBy w' (some k):=by
 by_cases hx:xs=[]
 · obtain⟨rfl,rfl,rfl⟩:=hnil hx
   subst hx
   refine⟨w,run_copy_nil P w dT sT ty elem A dLen dCap hu (by rw[hs];rfl),?_,LK w k⟩
   simpa[i16]using h
 · have hn:=ho.len
   obtain⟨h1,h2,h3,h4⟩:=ho.all
   obtain⟨b,off,rfl,hb,-,l,hr,hcells⟩:=h4.resolve_left hx
   have hl:l=i16 xs:=jr (h1:=λ_=>rfl) hr
   subst hl
   rw[hA hx]
   have hln:(i16 xs).length=xs.length:=by simp[i16]
   have hsrc:∀(j:Nat) (v:Value),(i16 xs)[j]? =some v->w.cell? ((⟨b,off,none⟩:Addr).add j)=some v:=by
     intro j v hj
     have hjl:j<(i16 xs).length:=(List.getElem?_eq_some_iff.1 hj).1
     have e:(⟨b,off,none⟩:Addr).add j=⟨b,off+j,none⟩:=by unfold Addr.add;split <;> simp_all
     rw[e,hcells j hjl,hj]
   have hmin:(i16 xs).length=Nat.min n dLen:=by rw[hln,hn];exact(Nat.min_eq_left (by omega)).symm
   have hrun:=run_copy_row P w dT sT ty elem k o dLen dCap ⟨b,off,none⟩ n c vs.toArray T (i16 xs) hu hs h hmin hsrc (by rw[hln];simpa using hfit) (NT xs)
   rw[hln]at hrun
   have hh:=setRow_heap w k vs.toArray (vs.take o++i16 xs++vs.drop (o+xs.length)).toArray T (0,0) h
   exact⟨_,hrun,hh,eI w k _⟩
theorem J6 {n:Nat} :IntKind.u8.wrap (n:Int)=(((UInt8.ofNat (n%256)).toNat:Nat):Int):=by
 have e:IntKind.u8.wrap (n:Int)=(n:Int)%256:=rfl
 try dsimp only
 rw[e,Im (by omega)];omega
theorem VH {n:Nat}(h:n<65536):IntKind.u8.wrap (Int.fdiv (n:Int) (2 ^ (min (Int.toNat (8:Int)) (IntKind.bits .u16))))=(((UInt8.ofNat (n/256)).toNat:Nat):Int):=by
 have e1:(2:Int) ^ (min (Int.toNat (8:Int)) (IntKind.bits .u16))=256:=by decide
 have e2:Int.fdiv (n:Int) 256=((n/256:Nat):Int):=by rw[Int.fdiv_eq_ediv_of_nonneg _ (by decide)];omega
 rw[e1,e2,wrap_u8 (by omega) (by omega),Im (by omega)]
theorem GQ (g0 g1 g2 g3 g4 g5 g6 g7:Nat)(hb:∀g∈[g0,g1,g2,g3,g4,g5,g6,g7],g<65536)(w:World):
   Cf ub #[.agg #[.int .u16 (g0:Int),.int .u16 (g1:Int),.int .u16 (g2:Int),.int .u16 (g3:Int),.int .u16 (g4:Int),.int .u16 (g5:Int),.int .u16 (g6:Int),.int .u16 (g7:Int)]] w
     (Ret λv w'=>v=adV (mw [g0,g1,g2,g3,g4,g5,g6,g7])/\bW w w'):=by
 apply F5
 intro k1 w1 hk1 hw1
 have hB1:=(hw1▸ai w _:bW w w1)
 have h11:ao w1 k1 aS (i16 ([g0,g1,g2,g3,g4,g5,g6,g7].map λg:Nat=>(g:Int))):=ao.new hk1 hw1
 obtain⟨G,hG⟩:∃G,G=[g0,g1,g2,g3,g4,g5,g6,g7]:=⟨_,rfl⟩
 have hl8:G.length=8:=by rw[hG];rfl
 rw[<- hG]at h11 hb ⊢
 clear hG
 intro k2 w2 hk2 hw2
 have hb2:=(hw2▸ai w1 _:bW w1 w2)
 have hB2:=aa hB1 hb2 hB1.size
 have h22:ao w2 k2 am (adC ad0):=ao.new hk2 hw2
 intro k3 w3 hk3 hw3
 have hb3:=(hw3▸ai w2 _:bW w2 w3)
 have hB3:=aa hB2 hb3 hB2.size
 have h33:ao w3 k3 am (adC ad0):=ao.new hk3 hw3
 have h23:=h22.below hb3
 have h13:=(h11.below hb2).below hb3
 have l1:=h11.lt
 have l2:=h22.lt
 have hk3w:w.heap.size <=k3:=by have:=hB2.size;omega
 refine⟨λm i w'=>∃k:Nat,k <=8/\i=(k:Int)/\m=8-k/\ao w' k3 am (adC (LL G k))/\ao w' k2 am (adC ad0)/\ao w' k1 aS (i16 (G.map λg:Nat=>(g:Int)))/\bW w w',
   ⟨_,0,by omega,rfl,rfl,h33,h23,h13,hB3⟩,?_⟩
 intro m i
 refine aJ.of ?_ _
 rintro w6 ⟨k,hk,rfl,rfl,h36,h26,h16,hB6⟩
 refine ab.of (λh=>?_) (λh=>?_) <;> simp only[dTx,dFx]at h
 · have hk8:k<8:=by omega
   have hgk:=hb G[k] (List.getElem_mem (by omega))
   have e1:i64.wrap (2*(k:Int))=((2*k:Nat):Int):=by rw[wrap_i64 (by omega) (by omega)];omega
   have e2:i64.wrap (((2*k:Nat):Int)+1)=((2*k+1:Nat):Int):=by rw[wrap_i64 (by omega) (by omega)];omega
   rw[e1,e2,gR,gR,gR]
   simp only[Nat.zero_add]
   have hin:(0 <=(k:Int)/\(k:Int)<((8:Nat):Int))/\True:=⟨⟨by omega,by omega⟩,trivial⟩
   have hin1:(0 <=((2*k:Nat):Int)/\((2*k:Nat):Int)<((16:Nat):Int))/\True:=⟨⟨by omega,by omega⟩,trivial⟩
   have hin2:(0 <=((2*k+1:Nat):Int)/\((2*k+1:Nat):Int)<((16:Nat):Int))/\True:=⟨⟨by omega,by omega⟩,trivial⟩
   have hd:bW w (World.drew w6):=aa hB6 (kO rfl rfl rfl (Nat.le_refl _) (λ_ _=>rfl)) hB6.size
   have d3:ao (World.drew w6) k3 am (adC (LL G k)):=h36
   have d2:ao (World.drew w6) k2 am (adC ad0):=h26
   have d1:ao (World.drew w6) k1 aS (i16 (G.map λg:Nat=>(g:Int))):=h16
   have hget:(i16 (G.map λg:Nat=>(g:Int)))[k]? =some (.int .u16 ((G[k]'(by omega):Nat):Int)):=by
     unfold i16
     rw[List.getElem?_map,List.getElem?_map,List.getElem?_eq_getElem (by omega)];rfl
   have ld:∀{wx:World},ao wx k1 aS (i16 (G.map λg:Nat=>(g:Int)))->(Instr.loadAt fH (.pointer (some ⟨k1,k,none⟩))).run prog wx=.ok (.int .u16 ((G[k]'(by omega):Nat):Int)) wx:=λhx=>hx.load1 Cm rfl hget
   have hlen:=zJ hl8 hk
   obtain⟨w8,hs8,h58,hg8⟩:=d3.put (P:=prog) gn (i:=2*k) (v:=.int .u8 (((UInt8.ofNat (G[k]/256)).toNat:Nat):Int)) (by rw[cZ,hlen];omega) rfl rfl
   rw[tV]at h58
   have d18:=d1.grown hg8 (bF (by omega))
   obtain⟨w9,hs9,h59,hg9⟩:=h58.put (P:=prog) gn (i:=2*k+1) (v:=.int .u8 (((UInt8.ofNat (G[k]%256)).toNat:Nat):Int)) (by rw[cZ,List.length_set,hlen];omega) rfl rfl
   rw[tV,KA hl8 hk8]at h59
   have hfin:∃m':Nat,m'<8-k/\∃k':Nat,k' <=8/\i64.wrap ((k:Int)+1)=(k':Int)/\m'=8-k'/\ao w9 k3 am (adC (LL G k'))/\ao w9 k2 am (adC ad0)/\ao w9 k1 aS (i16 (G.map λg:Nat=>(g:Int)))/\bW w w9:=
     ⟨8-(k+1),by omega,k+1,by omega,by rw[wrap_i64 (by omega) (by omega)];omega,rfl,h59,(d2.grown hg8 (bF (by omega))).grown hg9 (bF (by omega)),d18.grown hg9 (bF (by omega)),Below.put (Below.put hd hg8 hk3w) hg9 hk3w⟩
   rw[<- VH hgk]at hs8
   rw[<- J6]at hs9
   refine⟨hin,hin,⟨_,ld d1,by decide,hin1,⟨_,ld d1,w8,hs8,hin2,w9,hs9,hfin⟩,w8,hs8,_,ld d18,hin2,w9,hs9,hfin⟩,_,ld d1,_,ld d1,by decide,hin1,w8,hs8,hin2,w9,hs9,hfin⟩
 · have:k=8:=by omega
   subst this
   have hlen:(adC (LL G 8)).length=16:=by rw[cZ,zJ hl8 (by omega)]
   refine⟨_,cj.load0 h36 hlen,?_⟩
   exact cj.fin (K:=λvr wy=>vr=adV (mw G)/\bW w wy) hlen (eY _) h26 rfl hB6 (by omega) λwy hb=>⟨by rw[RU hl8];rfl,hb⟩
theorem xT:Whl prog aS 8:=⟨⟨_,_,DV⟩,by kernel_rfl⟩
theorem Lo (s:List UInt8)(hs:s.length<4294967281)(w:World)(he:Env w):Cf AB #[vS s] w (Ret λv w'=>v=adT (v6A s)/\bW w w'):=by
 apply JN
 intro k2 w2 hk2 hw2
 have hB2:=(hw2▸ai w _:bW w w2)
 have h2:ao w2 k2 am (adC ad0):=ao.new hk2 hw2
 obtain⟨m,hm⟩:=(he.step hB2).max
 refine(Tryz.strings_Cut (mkS s) (mkS [58,58]) m w2 hs hm).mono ?_
 rintro _ w3 ⟨rfl,q,rfl⟩
 have hb3:bW w2 (w2.drewN q):=kO rfl rfl rfl (Nat.le_refl _) (λ_ _=>rfl)
 have hB3:=aa hB2 hb3 hB2.size
 have h23:=h2.below hb3
 have hlen:(Lib.cut s [58,58]).1.length <=s.length/\(Lib.cut s [58,58]).2.1.length <=s.length:=by
   rcases vf s with⟨h1,-⟩|⟨p,h1,-⟩ <;> rw[h1]
   · exact⟨Nat.le_refl _,Nat.zero_le _⟩
   · exact⟨by rw[List.length_take];omega,by rw[List.length_drop];omega⟩
 have hv6:v6A s=(if Jc (Lib.cut s [58,58]).2.2 (dJ (Lib.cut s [58,58]).1) (dJ (Lib.cut s [58,58]).2.1)=true then some (v6L (dJ (Lib.cut s [58,58]).1) (dJ (Lib.cut s [58,58]).2.1))else none).map mw:=rfl
 show ∃(s15_0:List UInt8) (s15_1:List UInt8) (b15_2:Bool),(Ending.returned (.tuple #[.string (mkS (Lib.cut s [58,58]).1),.string (mkS (Lib.cut s [58,58]).2.1),.bool (Lib.cut s [58,58]).2.2]):Ending)=.returned (.tuple #[vS s15_0,vS s15_1,.bool b15_2])/\_
 generalize Lib.cut s [58,58]=C at*
 obtain⟨f,b,g⟩:=C
 refine⟨f,b,g,rfl,?_⟩
 have hlf:f.length <=s.length:=hlen.1
 have hlb:b.length <=s.length:=hlen.2
 have hv:v6A s=(if Jc g (dJ f) (dJ b)=true then some (v6L (dJ f) (dJ b))else none).map mw:=hv6
 clear hv6 hlen
 refine aw (z8 f (by omega) _ (he.step hB3)) ?_
 rintro _ w4 ⟨a4,n4,c4,rfl,hok4,hno4,hb4⟩
 have hB4:=aa hB3 hb4 hB3.size
 refine⟨_,_,_,_,rfl,?_⟩
 refine aw (z8 b (by omega) w4 (he.step hB4)) ?_
 rintro _ w5 ⟨a5,n5,c5,rfl,hok5,hno5,hb5⟩
 have hB5:=aa hB4 hb5 hB4.size
 have h25:=(h23.below hb4).below hb5
 refine⟨_,_,_,_,rfl,?_⟩
 have hrl:∀t:List UInt8,(dJ t).length <=t.length+1:=λt=>by
   unfold dJ
   split
   · simp
   · exact dK 58 t []
 have hIl:∀t:List UInt8,(Ey t).length=(dJ t).length:=λt=>by simp[Ey]
 have hrf:=hrl f
 have hrb:=hrl b
 have hn4:(dJ f).all dZ=true->n4=(dJ f).length:=λh=>by rw[<- hIl];exact(hok4 h).1.len
 have hn5:(dJ b).all dZ=true->n5=(dJ b).length:=λh=>by rw[<- hIl];exact(hok5 h).1.len
 have none_end:∀{wx:World},Jc g (dJ f) (dJ b)=false->ao wx k2 am (adC ad0)->bW w wx->_:=fun{wx} hf h2x hBx=>cj.fin (K:=λvr wy=>(.tuple #[vr,.bool false]:Value)=adT (v6A s)/\bW w wy) (cs:=adC ad0) rfl (eY _) h2x rfl hBx (by omega) λwy hb=>⟨by rw[hv,hf];rfl,hb⟩
 refine si (w:=w5) (Jc g (dJ f) (dJ b)=true) ?_ (λhfit=>?_)
 · refine⟨λx w'=>w'=w5/\x= !(Jc g (dJ f) (dJ b)),?_,?_⟩
   · refine ab.of (λh1=>⟨rfl,?_⟩) (λh1=>?_)
     · have h1':(dJ f).all dZ=false:=by simpa only[Bool.not_eq_true']using h1
       unfold Jc;rw[h1',Bool.false_and,Bool.false_and];rfl
     have h1':(dJ f).all dZ=true:=by simpa only[Bool.not_eq_false']using h1
     refine ab.of (λh2=>⟨rfl,?_⟩) (λh2=>?_)
     · have h2':(dJ b).all dZ=false:=by simpa only[Bool.not_eq_true']using h2
       unfold Jc;rw[h2',Bool.and_false,Bool.false_and];rfl
     have h2':(dJ b).all dZ=true:=by simpa only[Bool.not_eq_false']using h2
     have ef:Jc g (dJ f) (dJ b)=if g then decide ((dJ f).length+(dJ b).length<8)else decide ((dJ f).length+(dJ b).length=8):=by unfold Jc;rw[h1',h2',Bool.and_self,Bool.true_and]
     rw[ef,hn4 h1',hn5 h2',wrap_i64 (by omega) (by omega)]
     cases g with
     | true=>
       refine ab.yes rfl (ab.of (λh3=>⟨rfl,?_⟩) (λh3=>ab.no rfl ⟨rfl,?_⟩)) <;> simp at h3 ⊢ <;> omega
     | false=>
       refine ab.no rfl (ab.yes rfl ⟨rfl,?_⟩)
       rw[Bool.eq_iff_iff];simp;omega
   · intro x
     refine aJ.of ?_ _
     rintro wj ⟨hwj,hx⟩
     rw[hwj,hx];clear hwj hx
     exact ab.of (λh1=>none_end (by simpa only[Bool.not_eq_true']using h1) h25 hB5) (λh1=>⟨rfl,by simpa only[Bool.not_eq_false']using h1⟩)
 · have hf2:=hfit
   unfold Jc at hf2
   rw[Bool.and_eq_true,Bool.and_eq_true]at hf2
   obtain⟨⟨ga,gb⟩,gl⟩:=hf2
   have hl8:(dJ f).length+(dJ b).length <=8:=by
     split at gl
     · have:=of_decide_eq_true gl;omega
     · have:=of_decide_eq_true gl;omega
   obtain⟨ho4,hf4,hz4⟩:=hok4 ga
   obtain⟨ho5,hf5,hz5⟩:=hok5 gb
   rw[hn5 gb]
   intro k12 w12 hk12 hw12
   have hb12:=(hw12▸ai w5 _:bW w5 w12)
   have hB12:=aa hB5 hb12 hB5.size
   have h12:ao w12 k12 aS (i16 [0,0,0,0,0,0,0,0]):=ao.new hk12 hw12
   have ho42:=(ho4.below hb5).below hb12
   have ho52:=ho5.below hb12
   have og4:∀g,eJ a4=some g->g≠k12:=λg hg e=>by have:=ho4.lt g hg;have:=hb5.size;omega
   have og5:∀g,eJ a5=some g->g≠k12:=λg hg e=>by have:=ho5.lt g hg;omega
   have hk12w:w.heap.size <=k12:=by have:=hB5.size;omega
   have l2:=h25.lt
   obtain⟨w6,hr6,h16,hg6⟩:=Kl (P:=prog) (sT:=ed) (ty:=bh) (dLen:=8) (dCap:=8) (o:=0) (A:=⟨k12,0,none⟩) ri (by kernel_rfl) h12 ho42 hz4 (λ_=>rfl) (by rw[hIl];omega) (by rw[hIl];simp[i16];omega)
   have e5:Int.toNat (i64.wrap ((8:Int)-(((dJ b).length:Nat):Int)))=8-(dJ b).length:=by rw[wrap_i64 (by omega) (by omega)];omega
   have e5':i64.wrap ((8:Int)-(((dJ b).length:Nat):Int))=((8-(dJ b).length:Nat):Int):=by rw[wrap_i64 (by omega) (by omega)];omega
   refine⟨trivial,w6,_,hr6,⟨by rw[e5'];omega,by rw[e5'];omega⟩,?_⟩
   rw[e5]
   have ho56:=ho52.put og5 hg6
   have hlen16:(List.take 0 (i16 [0,0,0,0,0,0,0,0])++i16 (Ey f)++List.drop (0+(Ey f).length) (i16 [0,0,0,0,0,0,0,0])).length=8:=by
     have:=hIl f
     simp[i16];omega
   obtain⟨w7,hr7,h17,hg7⟩:=Kl (P:=prog) (sT:=ed) (ty:=bh) (dLen:=8-(8-(dJ b).length)) (dCap:=8-(8-(dJ b).length)) (o:=8-(dJ b).length) (A:=if 8=8-(dJ b).length then⟨k12,0,none⟩ else Addr.add ⟨k12,0,none⟩ ((8-(dJ b).length)*1)) ri (by kernel_rfl) h16 ho56 hz5
     (λhne=>by
       have:(dJ b).length≠0:=λe=>hne (List.length_eq_zero_iff.1 (by rw[hIl];exact e))
       rw[if_neg (by omega)]
       unfold Addr.add;split <;> simp_all) (by rw[hIl];omega) (by rw[hIl,hlen16];omega)
   rw[hn5 gb]at hr7
   refine⟨w7,_,hr7,?_⟩
   obtain⟨G,hG⟩:∃G,G=v6L (dJ f) (dJ b):=⟨_,rfl⟩
   have hGl:G.length=8:=by rw[hG];simp[v6L];omega
   have hGb:∀x∈G,x<65536:=λx hx=>by
     rw[hG]at hx
     unfold v6L at hx
     rcases List.mem_append.1 hx with hx|hx
     · rcases List.mem_append.1 hx with hx|hx
       · obtain⟨y,hy,rfl⟩:=List.mem_map.1 hx;exact RV (List.all_eq_true.1 ga y hy)
       · rw[(List.mem_replicate.1 hx).2];decide
     · obtain⟨y,hy,rfl⟩:=List.mem_map.1 hx;exact RV (List.all_eq_true.1 gb y hy)
   have hcells:(List.take 0 (i16 [0,0,0,0,0,0,0,0])++i16 (Ey f)++List.drop (0+(Ey f).length) (i16 [0,0,0,0,0,0,0,0])).take (8-(dJ b).length)++i16 (Ey b)++(List.take 0 (i16 [0,0,0,0,0,0,0,0])++i16 (Ey f)++List.drop (0+(Ey f).length) (i16 [0,0,0,0,0,0,0,0])).drop (8-(dJ b).length+(Ey b).length)=i16 (G.map λx:Nat=>(x:Int)):=by
     have hz:i16 [0,0,0,0,0,0,0,0]=List.replicate 8 (Value.int .u16 0):=rfl
     rw[hz,List.take_zero,List.nil_append,List.drop_replicate,hIl,hIl,Nat.zero_add,hG]
     rw[show 8-(dJ b).length+(dJ b).length=8 by omega,List.drop_eq_nil_of_le (by simp[i16,Ey];omega),List.append_nil]
     rw[List.take_append,List.take_of_length_le (by simp[i16,Ey];omega),List.take_replicate]
     have e1:min (8-(dJ b).length-(i16 (Ey f)).length) (8-(dJ f).length)=8-(dJ f).length-(dJ b).length:=by
       have:(i16 (Ey f)).length=(dJ f).length:=by simp[i16,Ey]
       omega
     rw[e1]
     unfold v6L i16 Ey
     simp
     rfl
   rw[hcells]at h17
   have hB7:=Below.put (Below.put hB12 hg6 hk12w) hg7 hk12w
   have h27:=((h25.below hb12).grown hg6 (bF (by omega))).grown hg7 (bF (by omega))
   have hvG:v6A s=some (mw G):=by rw[hv,hfit,hG];rfl
   clear hG hcells hlen16
   match G,hGl,hGb,h17,hvG with
   | [g0,g1,g2,g3,g4,g5,g6,g7],_,hGb,h17,hvG=>
     refine⟨_,_,_,_,_,_,_,_,xT.load0 h17 rfl,?_⟩
     refine aw (GQ g0 g1 g2 g3 g4 g5 g6 g7 hGb w7) ?_
     rintro _ w8 ⟨rfl,hb8⟩
     have hB8:=aa hB7 hb8 hB7.size
     refine⟨_,rfl,?_⟩
     exact cj.fin (K:=λvr wy=>(.tuple #[vr,.bool true]:Value)=adT (v6A s)/\bW w wy) (by rw[cZ];exact Pv s _ hvG) (eY _) (h27.below hb8) rfl hB8 (by omega) λwy hb=>⟨by rw[hvG];rfl,hb⟩
abbrev mA (n:Nat):List UInt8:=Lib.decDigits n
theorem FE {n:Nat} :Lib.itoa (n:Int)=mA n:=by unfold Lib.itoa;rw[if_neg (by omega)];rfl
theorem gi {n:Nat}(h:n <=9223372036854775807):(mA n).length <=21:=by rw[<- FE];exact Lib.itoa_length_le n (by omega) (by omega)
theorem mB {n:Nat}(h:n<10):mA n=[UInt8.ofNat (48+n)]:=Lib.decDigits_one h
theorem nB {n:Nat}(h: ¬ n<10):mA n=mA (n/10)++[UInt8.ofNat (48+n%10)]:=by
 show Lib.decDigits n=_
 rw[Lib.decDigits,dif_neg h]
def re (a:List UInt8):List UInt8:=Lib.join ((a.drop 12).map λc=>mA c.toNat) [46]
theorem AO (xs:List (List UInt8))(c:UInt8)(M:Nat)(h:∀x∈xs,x.length <=M):(Lib.join xs [c]).length <=xs.length*(M+1):=by
 cases xs with
 | nil=>simp[Lib.join_nil]
 | cons x r=>
   rw[Lib.join_cons]
   have:∀r:List (List UInt8),(∀x∈r,x.length <=M)->(Lib.joinTail [c] r).length <=r.length*(M+1):=by
     intro r
     induction r with
     | nil=>intro _;simp[Lib.joinTail]
     | cons y r ih=>
       intro hr
       have h1:=ih λx hx=>hr x (List.mem_cons_of_mem _ hx)
       have h2:=hr y List.mem_cons_self
       have e:Lib.joinTail [c] (y::r)=[c]++y++Lib.joinTail [c] r:=by simp[Lib.joinTail]
       rw[e]
       simp only[List.length_append,List.length_cons,List.length_nil,Nat.add_mul];omega
   have h1:=this r λy hy=>h y (List.mem_cons_of_mem _ hy)
   have h2:=h x List.mem_cons_self
   simp only[List.length_append,List.length_cons,Nat.add_mul];omega
theorem xB {w:World}{A:Bl}{a:Option Addr}{n c:Nat}{xs:List (List UInt8)}(ho:Sl tS w A a n c xs)(sep:List UInt8)(hx:xs.length <=140737488355328)(hl:(Lib.join xs sep).length <=140737488355328):
   Cf cJ #[.slice a n c,vS sep] w (Ret λv w'=>v=vS (Lib.join xs sep)/\bW w w'):=by
 obtain⟨hn,hnc,hcm,h4⟩:=ho
 subst hn
 rcases h4 with h4|⟨b,off,rfl,hbl,_,cs,hcs,hcell⟩
 · subst h4
   refine(Tryz.strings_Join_none a c (mkS sep) w).mono ?_
   rintro _ _ ⟨rfl,rfl⟩
   exact⟨_,rfl,rfl,Below.refl _ _⟩
 · have he:=jr hcs
   have e:(xs.map mkS).map (λs=>s.data.toList)=xs:=by rw[List.map_map];exact List.map_id xs
   have hj:=Tryz.strings_Join b off c (xs.map mkS) (mkS sep) w (λj x hx=>by
     rw[List.getElem?_map]at hx
     cases hxj:xs[j]? with
     | none=>rw[hxj]at hx;cases hx
     | some y=>
       rw[hxj]at hx
       cases hx
       have hjl:=(List.getElem?_eq_some_iff.1 hxj).1
       rw[hcell j (by rw[he];simpa using hjl),he,List.getElem?_map,hxj];rfl) hbl (by rw[List.length_map];omega) (by rw[List.length_map];exact hnc) (by
       rw[e];exact hl)
   rw[List.length_map]at hj
   refine hj.mono ?_
   rintro _ w' ⟨rfl,hb'⟩
   rw[e]
   exact⟨_,rfl,rfl,hb'⟩
theorem Jm (n:Nat)(h:n <=9223372036854775807)(w:World)(he:Env w):Cf ic #[vI (n:Int)] w (Ret λv w'=>v=vS (mA n)/\bW w w'):=by
 refine(Tryz.strconv_Itoa n (by omega) (by omega) w he.tab).mono ?_
 rintro _ _ ⟨rfl,k,os,rfl⟩
 rw[FE]
 exact⟨_,rfl,rfl,tW w k os⟩
theorem EZ (a:List UInt8)(ha:a.length=16)(w:World)(he:Env w):Cf qp #[adV a] w (Ret λv w'=>v=vS (re a)/\bW w w'):=by
 apply De
 intro k1 w1 hk1 hw1
 have hB1:=(hw1▸ai w _:bW w w1)
 have h1:ao w1 k1 am (adC a):=ao.new hk1 hw1
 have e12:(if 16=(Int.toNat (12:Int))then(⟨k1,0,none⟩:Addr)else Addr.add ⟨k1,0,none⟩ ((Int.toNat (12:Int))*1))=⟨k1,12,none⟩:=by
   rw[if_neg (by decide)];unfold Addr.add;split <;> simp_all
 have e4:(16-(Int.toNat (12:Int)):Nat)=4:=rfl
 rw[e12,e4]
 refine⟨⟨by decide,by decide⟩,?_⟩
 refine⟨λm a3 l3 c3 i w'=>∃k:Nat,k <=4/\i=(k:Int)/\m=4-k/\Ow tS ah w' NoB a3 l3 c3 (((a.drop 12).take k).map λc=>mA c.toNat)/\bU w1.heap.size a3/\bW w1 w',
   ⟨_,0,by omega,rfl,rfl,Ow.nil _ _ _ _,bU.none _,Below.refl _ _⟩,?_⟩
 intro m a3 l3 c3 i
 refine aJ.of ?_ _
 rintro w2 ⟨k,hk,rfl,rfl,ho2,hf2,hB2⟩
 have hl4:(a.drop 12).length=4:=by rw[List.length_drop];omega
 refine ab.of (λh=>?_) (λh=>?_) <;> simp only[dTx,dFx]at h
 · have hk4:k<4:=by omega
   rw[gR]
   have hu:=nS (a[12+k]'(by omega))
   refine⟨⟨⟨by omega,h⟩,rfl⟩,_,(h1.below hB2).load1 bS rfl (zZ (i:=12+k) (by omega)),?_⟩
   rw[wrap_i64 (by omega) (by omega)]
   refine aw (Jm _ (by omega) w2 ((he.step hB1).step hB2)) ?_
   rintro _ w3 ⟨rfl,hb3⟩
   have hB3:=aa hB2 hb3 hB2.size
   refine⟨_,rfl,?_⟩
   intro k4 w4 hk4' hw4
   have hll:(((a.drop 12).take k).map λc=>mA c.toNat).length <=4:=by simp;omega
   obtain⟨w5,a5,n5,c5,hr,ho5,hf5,hb5⟩:=C4 (ty:=aH) (w0:=w1) (cm:=1) (vs:=[_]) (dN _) dW dI (by decide) (ho2.below hb3) hf2 hB3 hk4' hw4 (eN trivial) (by omega)
   refine⟨w5,a5,n5,c5,hr,4-(k+1),by omega,k+1,by omega,by rw[wrap_i64 (by omega) (by omega)];omega,rfl,?_,hf5,hb5⟩
   rw[List.take_succ_eq_append_getElem (by omega),List.map_append]
   have:(a.drop 12)[k]'(by omega)=a[12+k]'(by omega):=by rw[List.getElem_drop]
   rw[this];exact ho5
 · have:k=4:=by omega
   subst this
   rw[List.take_of_length_le (by omega)]at ho2
   have hlen:(re a).length <=4*(21+1):=by
     have:=AO ((a.drop 12).map λc=>mA c.toNat) 46 21 (λx hx=>by
       obtain⟨c,_,rfl⟩:=List.mem_map.1 hx
       have:=nS c
       exact gi (by omega))
     rw[List.length_map,hl4]at this
     exact this
   refine aw (xB ho2.all [46] (by rw[List.length_map];omega) (Nat.le_trans hlen (by decide))) ?_
   rintro _ w3 ⟨rfl,hb3⟩
   have hB3:=aa hB2 hb3 hB2.size
   exact⟨_,rfl,rfl,aa hB1 hB3 hB1.size⟩
def Ji (d:Nat):UInt8:=UInt8.ofNat (if d<10 then 48+d else 87+d)
def xv (n:Nat):List UInt8:=if n<16 then[Ji n]else xv (n/16)++[Ji (n%16)]
termination_by n
theorem vp {n:Nat}(h:n<16):xv n=[Ji n]:=by rw[xv,if_pos h]
theorem lK {n:Nat}(h: ¬ n<16):xv n=xv (n/16)++[Ji (n%16)]:=by rw[xv,if_neg h]
theorem zK {n:Nat}(h:n<65536):(xv n).length <=4:=by
 have step:∀m M:Nat,(m/16<M->(xv (m/16)).length <=3)->True:=λ_ _ _=>trivial
 have l1:∀n,n<16->(xv n).length=1:=λn h=>by rw[vp h];rfl
 have l2:∀n,n<256->(xv n).length <=2:=λn h=>by
   by_cases c:n<16
   · rw[l1 n c];omega
   · rw[lK c,List.length_append,l1 (n/16) (by omega)];simp
 have l3:∀n,n<4096->(xv n).length <=3:=λn h=>by
   by_cases c:n<16
   · rw[l1 n c];omega
   · have:=l2 (n/16) (by omega)
     rw[lK c,List.length_append];simp;omega
 by_cases c:n<16
 · rw[l1 n c];omega
 · have:=l3 (n/16) (by omega)
   rw[lK c,List.length_append];simp;omega
def Vr:List UInt8:=[48,49,50,51,52,53,54,55,56,57,97,98,99,100,101,102,103,104,105,106,107,108,109,110,111,112,113,114,115,116,117,118,119,120,121,122]
theorem Hf:∀d:Nat,d<16->bf Vr (d:Int)=(((Ji d).toNat:Nat):Int):=by decide
theorem u64_in {n:Int}(h0:0 <=n)(h1:n<18446744073709551616):IntKind.u64.wrap n=n:=by
 have e:IntKind.u64.wrap n=n%18446744073709551616:=rfl
 try dsimp only
 rw[e];omega
theorem Vl {u:Nat}(h:u<65536):IntKind.u64.wrap (((BitVec.ofInt (IntKind.bits .u64) (u:Int)) &&& (BitVec.ofInt (IntKind.bits .u64) (IntKind.u64.wrap ((IntKind.u64.wrap (16:Int))-(1:Int))))).toNat:Nat)=((u%16:Nat):Int):=by
 have e15:IntKind.u64.wrap ((IntKind.u64.wrap (16:Int))-(1:Int))=((15:Nat):Int):=by decide
 have b64:∀n:Nat,n<65536->(BitVec.ofInt (IntKind.bits .u64) (n:Int)).toNat=n:=λn hn=>by
   show(BitVec.ofInt 64 (n:Int)).toNat=n
   rw[BitVec.toNat_ofInt]
   have h:((2 ^ 64:Nat):Int)=18446744073709551616:=by decide
   rw[h];omega
 rw[e15,BitVec.toNat_and,b64 u h,b64 15 (by decide)]
 have:u &&& 15=u%16:=Nat.and_two_pow_sub_one_eq_mod u 4
 rw[this,u64_in (by omega) (by omega)]
theorem Wj {u:Nat} :Int.fdiv (u:Int) (2 ^ (min (Int.toNat (IntKind.u64.wrap (4:Int))) (IntKind.bits .u64)))=((u/16:Nat):Int):=by
 have e1:(2:Int) ^ (min (Int.toNat (IntKind.u64.wrap (4:Int))) (IntKind.bits .u64))=16:=by decide
 try dsimp only
 rw[e1,Int.fdiv_eq_ediv_of_nonneg _ (by decide)];omega
theorem RK (k o j:Nat):Addr.add ⟨k,o,none⟩ j=⟨k,o+j,none⟩:=by unfold Addr.add;split <;> simp_all
theorem ao.sl8 {w:World}{k:Nat}{T:TypeId}{p xs:List UInt8}(h:ao w k T (adC (p++xs)))(hl:xs.length <=maxLen):Sl tU8 w zW (some ⟨k,p.length,none⟩) xs.length xs.length xs:=by
 refine⟨rfl,Nat.le_refl _,hl,.inr ⟨k,p.length,rfl,h.lt,trivial,adC xs,uT (λ_ _=>trivial),λj hj=>?_⟩⟩
 rw[h.cell]
 unfold adC
 rw[List.map_append,List.getElem?_append_right (by simp)]
 simp
theorem ql (w:World)(he:Env w):Cf eL #[.int .u64 (IntKind.u64.wrap (16:Int))] w (Ret λv w'=>v=vI 4/\w'=w):=by
 have e16:IntKind.u64.wrap (16:Int)=16:=by decide
 try dsimp only
 rw[e16]
 apply lV
 refine aw (K:=λv w'=>v=vI 4/\w'=w) ?_ ?_
 · apply j7
   refine ab.no (by decide) ⟨by decide,⟨⟨by decide+kernel,by decide+kernel⟩,rfl⟩,4,?_,rfl,rfl⟩
   have hE:∀E:Int,E=15->(Instr.loadAt aQ (.pointer (aq (some ⟨5,0,none⟩) E 1))).run prog w=.ok (.int .u8 4) w:=by
     rintro _ rfl
     exact pf bS rfl he.tz
   exact hE _ (by decide+kernel)
 · rintro _ w1 ⟨rfl,hw⟩
   exact⟨_,rfl,rfl,hw⟩
theorem Fl (n:Nat)(hn:n<65536)(w:World)(he:Env w):Cf dO #[.slice none 0 0,.int .u64 (n:Int),vI 16,.bool false,.bool false] w
   (Ret λv w'=>v=.tuple #[.slice none 0 0,vS (xv n)]/\bW w w'):=by
 apply jC
 refine si (w:=w) True ?_ (λ_=>?_)
 · refine⟨λb w'=>w'=w/\b=false,ab.no (by decide) (ab.no (by decide) ⟨rfl,by decide⟩),λb=>aJ.of ?_ _⟩
   rintro wj ⟨hw,hb⟩
   rw[hw,hb]
   exact ab.no rfl ⟨rfl,trivial⟩
 intro k w1 hk hw1
 have hB1:=(hw1▸ai w _:bW w w1)
 have h1:ao w1 k ky (adC (List.replicate 65 0++[])):=ao.new hk hw1
 have hk0:w.heap.size <=k:=by omega
 refine UD (w:=w1) (n:Int) (ab.no rfl ⟨rfl,rfl⟩) ?_
 refine⟨λi w'=>∃xs:List UInt8,i=((65-xs.length:Nat):Int)/\xs=xv n/\ao w' k ky (adC (List.replicate (65-xs.length) 0++xs))/\bW w w',?_,λi=>aJ.of ?_ _⟩
 · refine aw (K:=λv w'=>v=.bool true/\w'=w1) ?_ ?_
   · apply jk
     exact⟨congrArg Value.bool (by decide+kernel),rfl⟩
   rintro _ w2 ⟨rfl,hw2⟩
   rw[hw2]
   refine⟨_,rfl,ab.yes rfl ?_⟩
   refine aw (ql w1 (he.step hB1)) ?_
   rintro _ w3 ⟨rfl,hw3⟩
   rw[hw3]
   refine⟨_,rfl,?_⟩
   refine⟨λm u i w'=>∃(q t:Nat) (xs:List UInt8),u=(q:Int)/\m=q/\t=xs.length/\i=((65-t:Nat):Int)/\xv n=xv q++xs/\q*16 ^ t <=65535/\(t=0\/0<q)/\ao w' k ky (adC (List.replicate (65-t) 0++xs))/\bW w w',
     ⟨_,n,0,[],rfl,rfl,rfl,rfl,by rw[List.append_nil],by omega,.inl rfl,h1,hB1⟩,?_⟩
   intro m u i
   refine aJ.of ?_ _
   rintro w4 ⟨q,t,xs,rfl,hm,rfl,rfl,hx,hq,ht,h4,hB4⟩
   obtain rfl:q=m:=hm.symm
   have ht3:xs.length <=3:=by
     rcases ht with h0|h0
     · omega
     · refine Decidable.byContradiction λhc=>?_
       have h16:16 ^ 4 <=16 ^ xs.length:=Nat.pow_le_pow_right (by decide) (by omega)
       have:16 ^ xs.length <=q*16 ^ xs.length:=Nat.le_mul_of_pos_left _ h0
       have e:(16:Nat) ^ 4=65536:=rfl
       omega
   have hq6:q<65536:=by
     have:q <=q*16 ^ xs.length:=Nat.le_mul_of_pos_right _ (Nat.pos_of_ne_zero (by simp))
     omega
   have e16:IntKind.u64.wrap (16:Int)=16:=by decide
   have ei:i64.wrap (((65-xs.length:Nat):Int)-1)=((65-(xs.length+1):Nat):Int):=by rw[wrap_i64 (by omega) (by omega)];omega
   have hset:∀c:UInt8,(adC (List.replicate (65-xs.length) 0++xs)).set (65-(xs.length+1)) (.int .u8 ((c.toNat:Nat):Int))=adC (List.replicate (65-(xs.length+1)) 0++(c::xs)):=λc=>by
     rw[tV,show 65-xs.length=(65-(xs.length+1))+1 by omega,List.replicate_succ' (n:=65-(xs.length+1)),List.append_assoc,List.set_append_right _ _ (by simp),List.length_replicate,Nat.sub_self];rfl
   have hput:=λc:UInt8=>h4.put (P:=prog) gn (i:=65-(xs.length+1)) (v:=.int .u8 ((c.toNat:Nat):Int)) (by rw[cZ];simp;omega) rfl rfl
   rw[ei,gR,Nat.zero_add]
   have hin:(0 <=((65-(xs.length+1):Nat):Int)/\((65-(xs.length+1):Nat):Int)<((65:Nat):Int))/\true=true:=⟨⟨by omega,by omega⟩,rfl⟩
   refine ab.of (λh=>?_) (λh=>?_)
   · rw[e16]at h
     simp only[ge_iff_le,dTx]at h
     have hq16:16 <=q:=by omega
     rw[Vl hq6,Wj,show bf [48,49,50,51,52,53,54,55,56,57,97,98,99,100,101,102,103,104,105,106,107,108,109,110,111,112,113,114,115,116,117,118,119,120,121,122] ((q%16:Nat):Int)=_ from Hf (q%16) (by omega)]
     obtain⟨w5,hs5,h5,hg5⟩:=hput (Ji (q%16))
     rw[hset]at h5
     refine⟨⟨by omega,by simp;omega⟩,hin,w5,hs5,by decide,q/16,by omega,q/16,xs.length+1,Ji (q%16)::xs,rfl,rfl,by simp,rfl,?_,?_,.inr (by omega),h5,Below.put hB4 hg5 hk0⟩
     · rw[hx,lK (n:=q) (by omega)];simp
     · have e:q/16*16 ^ (xs.length+1)=(q/16*16)*16 ^ xs.length:=by rw[Nat.pow_succ,Nat.mul_comm (16 ^ xs.length) 16,Nat.mul_assoc]
       rw[e]
       exact Nat.le_trans (Nat.mul_le_mul_right _ (by omega)) hq
   · rw[e16]at h
     simp only[ge_iff_le,dFx]at h
     have hq16:q<16:=by omega
     rw[show bf [48,49,50,51,52,53,54,55,56,57,97,98,99,100,101,102,103,104,105,106,107,108,109,110,111,112,113,114,115,116,117,118,119,120,121,122] (q:Int)=_ from Hf q hq16]
     obtain⟨w5,hs5,h5,hg5⟩:=hput (Ji q)
     rw[hset]at h5
     refine⟨⟨by omega,by simp;omega⟩,hin,w5,hs5,Ji q::xs,rfl,?_,h5,Below.put hB4 hg5 hk0⟩
     rw[hx,vp hq16];rfl
 · rintro w5 ⟨xs,rfl,hxs,h5,hB5⟩
   have hl:=zK hn
   rw[<- hxs]at hl
   refine UD (w:=w5) ((65-xs.length:Nat):Int) (ab.no rfl ⟨rfl,rfl⟩) ?_
   refine ab.no rfl ⟨⟨by omega,by omega⟩,?_⟩
   have hpos:0<xs.length:=by
     rw[hxs]
     by_cases c:n<16
     · rw[vp c];exact Nat.one_pos
     · rw[lK c];simp
   have ea:(if 65=(Int.toNat ((65-xs.length:Nat):Int))then(⟨k,0,none⟩:Addr)else Addr.add ⟨k,0,none⟩ ((Int.toNat ((65-xs.length:Nat):Int))*1))=⟨k,(List.replicate (65-xs.length) (0:UInt8)).length,none⟩:=by
     rw[List.length_replicate,Int.toNat_natCast,if_neg (by omega),RK,Nat.zero_add,Nat.mul_one]
   have en:65-(Int.toNat ((65-xs.length:Nat):Int))=xs.length:=by rw[Int.toNat_natCast];omega
   rw[ea,en]
   refine⟨xs,me bw av bS (h5.sl8 (by unfold maxLen;omega)),?_⟩
   rw[hxs]
   exact⟨rfl,hB5⟩
theorem Fm (n:Nat)(hn:n<65536)(w:World)(he:Env w):Cf gU #[.int .u64 (n:Int),vI 16] w (Ret λv w'=>v=vS (xv n)/\bW w w'):=by
 apply qi
 refine aw (K:=λv w'=>v=vS (xv n)/\bW w w') ?_ ?_
 · apply jB
   refine ab.no (by decide) ?_
   refine aw (Fl n hn w he) ?_
   rintro _ w1 ⟨rfl,hb1⟩
   exact⟨_,_,_,_,rfl,rfl,hb1⟩
 · rintro _ w1 ⟨rfl,hb1⟩
   exact⟨_,rfl,rfl,hb1⟩
def xg (a:List UInt8)(k:Nat):Nat:=(a.getD (2*k) 0).toNat*256+(a.getD (2*k+1) 0).toNat
def gL (a:List UInt8):List Nat:=[xg a 0,xg a 1,xg a 2,xg a 3,xg a 4,xg a 5,xg a 6,xg a 7]
theorem yc (a:List UInt8):(gL a).length=8:=rfl
theorem Jh (a:List UInt8)(k:Nat):xg a k<65536:=by
 have h1:=nS (a.getD (2*k) 0);have h2:=nS (a.getD (2*k+1) 0)
 unfold xg;omega
theorem Kz (a:List UInt8):∀(k:Nat) (h:k<(gL a).length),(gL a)[k]=xg a k
 | 0,_=>rfl
 | 1,_=>rfl
 | 2,_=>rfl
 | 3,_=>rfl
 | 4,_=>rfl
 | 5,_=>rfl
 | 6,_=>rfl
 | 7,_=>rfl
 | n+8,h=>by rw[yc]at h;omega
theorem Fo (a:List UInt8):∀x∈gL a,x<65536:=λx hx=>by
 obtain⟨i,hi,rfl⟩:=List.mem_iff_getElem.1 hx
 rw[Kz];exact Jh a i
def wrL (l:List Nat):List UInt8:=Lib.join (l.map xv) [58]
theorem pB {l:List Nat}(h:∀x∈l,x<65536):(wrL l).length <=l.length*5:=by
 have:=AO (l.map xv) 58 4 (λx hx=>by
   obtain⟨c,hc,rfl⟩:=List.mem_map.1 hx
   exact zK (h c hc))
 rwa [List.length_map]at this
def zst (s:Nat×Nat×Nat)(i:Nat)(z:Bool):Nat×Nat×Nat:=
 if s.2.1<(if z=true then s.2.2+1 else 0)then(i+1-(if z=true then s.2.2+1 else 0),(if z=true then s.2.2+1 else 0),(if z=true then s.2.2+1 else 0))else(s.1,s.2.1,(if z=true then s.2.2+1 else 0))
def mu (zs:List Bool):Nat->Nat×Nat×Nat
 | 0=>(0,0,0)
 | k+1=>zst (mu zs k) k (zs.getD k false)
def dj (zs:List Bool):Nat×Nat:=((mu zs 8).1,(mu zs 8).2.1)
def PE (zs:List Bool)(p l:Nat):Bool:=(List.range l).all λj=>zs.getD (p+j) false
def zok (zs:List Bool):Bool:=
 decide ((dj zs).1+(dj zs).2 <=8)&&(decide ((dj zs).2<2) || PE zs (dj zs).1 (dj zs).2) &&
   (List.range 9).all λL=>(List.range 9).all λA=> !(decide (2 <=L)&&decide (A+L <=8)&&PE zs A L) || (decide (L<(dj zs).2) || (decide (L=(dj zs).2)&&decide ((dj zs).1 <=A)))
theorem T6:∀b0 b1 b2 b3 b4 b5 b6 b7:Bool,zok [b0,b1,b2,b3,b4,b5,b6,b7]=true:=by decide+kernel
theorem EN {zs:List Bool}(h:zs.length=8):(dj zs).1+(dj zs).2 <=8/\(2 <=(dj zs).2->PE zs (dj zs).1 (dj zs).2=true)/\
   ∀L A,2 <=L->A+L <=8->PE zs A L=true->L<(dj zs).2\/(L=(dj zs).2/\(dj zs).1 <=A):=by
 match zs,h with
 | [b0,b1,b2,b3,b4,b5,b6,b7],_=>
   have:=T6 b0 b1 b2 b3 b4 b5 b6 b7
   unfold zok at this
   rw[Bool.and_eq_true,Bool.and_eq_true]at this
   obtain⟨⟨h1,h2⟩,h3⟩:=this
   refine⟨of_decide_eq_true h1,λhl=>?_,λL A hL hA hz=>?_⟩
   · rw[Bool.or_eq_true,dTx]at h2
     exact h2.resolve_left (by omega)
   · have:=List.all_eq_true.1 (List.all_eq_true.1 h3 L (List.mem_range.2 (by omega))) A (List.mem_range.2 (by omega))
     rw[decide_eq_true hL,decide_eq_true hA,hz]at this
     simpa using this
theorem Iz (zs:List Bool):∀k,(mu zs k).2.2 <=k/\(mu zs k).2.1 <=k/\(mu zs k).1 <=k
 | 0=>⟨Nat.le_refl _,Nat.le_refl _,Nat.le_refl _⟩
 | k+1=>by
   obtain⟨h1,h2,h3⟩:=Iz zs k
   unfold mu zst
   cases zs.getD k false <;> simp only[Bool.false_eq_true,if_false,if_true] <;> split <;> simp <;> omega
def zsA (a:List UInt8):List Bool:=(gL a).map (· ==0)
theorem PD (a:List UInt8):(zsA a).length=8:=rfl
def mK (a:List UInt8):List UInt8:=
 if(dj (zsA a)).2<2 then wrL (gL a)else wrL ((gL a).take (dj (zsA a)).1)++[58,58]++wrL ((gL a).drop ((dj (zsA a)).1+(dj (zsA a)).2))
theorem VB {a d:Nat}(ha:a<256)(hd:d<256):IntKind.u16.wrap (((BitVec.ofInt (IntKind.bits .u16) (IntKind.u16.wrap ((IntKind.u16.wrap (a:Int))*2 ^ (min (Int.toNat (8:Int)) (IntKind.bits .u16))))) ||| (BitVec.ofInt (IntKind.bits .u16) (IntKind.u16.wrap (d:Int)))).toNat:Nat)=((a*256+d:Nat):Int):=by
 have e1:(2:Int) ^ (min (Int.toNat (8:Int)) (IntKind.bits .u16))=256:=by decide
 have w16:∀n:Nat,n<65536->IntKind.u16.wrap (n:Int)=(n:Int):=λn hn=>by
   have:IntKind.u16.wrap (n:Int)=(n:Int)%65536:=rfl
   rw[this];omega
 have e2:(a:Int)*256=((a*256:Nat):Int):=by omega
 have b16:∀n:Nat,n<65536->(BitVec.ofInt (IntKind.bits .u16) (n:Int)).toNat=n:=λn hn=>by
   show(BitVec.ofInt 16 (n:Int)).toNat=n
   rw[BitVec.toNat_ofInt]
   have h:((2 ^ 16:Nat):Int)=65536:=by decide
   rw[h];omega
 rw[e1,w16 a (by omega),e2,w16 (a*256) (by omega),w16 d (by omega),BitVec.toNat_or,b16 (a*256) (by omega),b16 d (by omega)]
 have h3:a*256 ||| d=a*256+d:=by
   have:=Nat.two_pow_add_eq_or_of_lt (i:=8) hd a
   rw[Nat.mul_comm a 256];exact this.symm
 rw[h3,w16 _ (by omega)]
def CQ (l:List Nat):List Value:=i16 (l.map λx:Nat=>(x:Int))
theorem Fx (l:List Nat):(CQ l).length=l.length:=by simp[CQ,i16]
theorem KI (l:List Nat):yM (CQ l):=NT _
theorem Qy (l:List Nat)(i x:Nat):(CQ l).set i (.int .u16 (x:Int))=CQ (l.set i x):=by unfold CQ i16;rw[List.map_set,List.map_set]
theorem Fw {l:List Nat}{i:Nat}(h:i<l.length):(CQ l)[i]? =some (.int .u16 ((l[i]:Nat):Int)):=by
 unfold CQ i16;rw[List.getElem?_map,List.getElem?_map,List.getElem?_eq_getElem h];rfl
theorem ao.sl16 {w:World}{k:Nat}{T:TypeId}{l:List Nat}(h:ao w k T (CQ l)){o n c:Nat}{A:Addr}(hA:0<n->A=⟨k,o,none⟩)(hn:o+n <=l.length)(hc:n <=c)(hm:c <=maxLen):Sl TJ w zW (some A) n c (((l.drop o).take n).map λx:Nat=>(x:Int)):=by
 have hl:(((l.drop o).take n).map λx:Nat=>(x:Int)).length=n:=by simp;omega
 refine⟨hl.symm,hc,hm,?_⟩
 by_cases h0:0<n
 · refine .inr ⟨k,o,by rw[hA h0],h.lt,trivial,CQ ((l.drop o).take n),uT (h1:=λ_=>rfl) (λ_ _=>trivial),λj hj=>?_⟩
   rw[Fx]at hj
   have hj2:j<n:=by rw[List.length_take]at hj;omega
   rw[h.cell,Fw (by omega),Fw hj]
   simp
 · exact .inl (List.length_eq_zero_iff.1 (by omega))
theorem CI (a:List UInt8)(ha:a.length=16)(w:World):Cf oA #[adV a] w (Ret λv w'=>v=.agg (CQ (gL a)).toArray/\bW w w'):=by
 apply Ba
 intro k1 w1 hk1 hw1
 have hB1:=(hw1▸ai w _:bW w w1)
 have h11:ao w1 k1 am (adC a):=ao.new hk1 hw1
 intro k2 w2 hk2 hw2
 have hb2:=(hw2▸ai w1 _:bW w1 w2)
 have hB2:=aa hB1 hb2 hB1.size
 have h22:ao w2 k2 aS (CQ [0,0,0,0,0,0,0,0]):=ao.new hk2 hw2
 intro k3 w3 hk3 hw3
 have hb3:=(hw3▸ai w2 _:bW w2 w3)
 have hB3:=aa hB2 hb3 hB2.size
 have h33:ao w3 k3 aS (CQ [0,0,0,0,0,0,0,0]):=ao.new hk3 hw3
 have h23:=h22.below hb3
 have h13:=(h11.below hb2).below hb3
 have l1:=h11.lt
 have l2:=h22.lt
 have hk3w:w.heap.size <=k3:=by have:=hB2.size;omega
 refine⟨λm i w'=>∃k:Nat,k <=8/\i=(k:Int)/\m=8-k/\ao w' k3 aS (CQ ((gL a).take k++List.replicate (8-k) 0))/\ao w' k2 aS (CQ [0,0,0,0,0,0,0,0])/\ao w' k1 am (adC a)/\bW w w',
   ⟨_,0,by omega,rfl,rfl,h33,h23,h13,hB3⟩,?_⟩
 intro m i
 refine aJ.of ?_ _
 rintro w6 ⟨k,hk,rfl,rfl,h36,h26,h16,hB6⟩
 refine ab.of (λh=>?_) (λh=>?_) <;> simp only[dTx,dFx]at h
 · have hk8:k<8:=by omega
   have e1:i64.wrap (2*(k:Int))=((2*k:Nat):Int):=by rw[wrap_i64 (by omega) (by omega)];omega
   have e2:i64.wrap (((2*k:Nat):Int)+1)=((2*k+1:Nat):Int):=by rw[wrap_i64 (by omega) (by omega)];omega
   rw[e1,e2,gR,gR,gR]
   simp only[Nat.zero_add]
   have hin:(0 <=(k:Int)/\(k:Int)<((8:Nat):Int))/\True:=⟨⟨by omega,by omega⟩,trivial⟩
   have hin1:(0 <=((2*k:Nat):Int)/\((2*k:Nat):Int)<((16:Nat):Int))/\True:=⟨⟨by omega,by omega⟩,trivial⟩
   have hin2:(0 <=((2*k+1:Nat):Int)/\((2*k+1:Nat):Int)<((16:Nat):Int))/\True:=⟨⟨by omega,by omega⟩,trivial⟩
   have ld:∀(i:Nat) (hi:i<a.length) (u:World),bW w6 u->(Instr.loadAt aQ (.pointer (some ⟨k1,i,none⟩))).run prog u=.ok (.int .u8 ((a[i].toNat:Nat):Int)) u:=λi hi u hu=>(h16.below hu).load1 bS rfl (zZ hi)
   refine⟨hin1,_,ld _ (by omega),by decide,hin2,_,ld _ (by omega),hin,?_⟩
   intro wq hq
   have hd:=aa hB6 hq hB6.size
   have d3:=h36.below hq
   have d2:=h26.below hq
   have d1:=h16.below hq
   have hval:(a[2*k]'(by omega)).toNat*256+(a[2*k+1]'(by omega)).toNat=xg a k:=by
     unfold xg
     rw[List.getD_eq_getElem?_getD,List.getD_eq_getElem?_getD,List.getElem?_eq_getElem (by omega),List.getElem?_eq_getElem (by omega)];rfl
   have hor:=VB (a:=(a[2*k]'(by omega)).toNat) (d:=(a[2*k+1]'(by omega)).toNat) (by have:=nS (a[2*k]'(by omega));omega) (by have:=nS (a[2*k+1]'(by omega));omega)
   rw[hval]at hor
   have hgl:=yc a
   have hlen:((gL a).take k++List.replicate (8-k) 0).length=8:=by simp[hgl];omega
   obtain⟨w8,hs8,h58,hg8⟩:=d3.put (P:=prog) Ij (i:=k) (v:=.int .u16 ((xg a k:Nat):Int)) (by rw[Fx,hlen];omega) rfl rfl
   have hset:((gL a).take k++List.replicate (8-k) 0).set k (xg a k)=(gL a).take (k+1)++List.replicate (8-(k+1)) 0:=by
     have hl:((gL a).take k).length=k:=by rw[List.length_take,hgl];omega
     rw[List.set_append_right _ _ (by omega),hl,Nat.sub_self,show 8-k=(8-(k+1))+1 by omega,List.replicate_succ (n:=8-(k+1)),List.set_cons_zero,List.take_succ_eq_append_getElem (by omega),Kz,List.append_assoc];rfl
   rw[Qy,hset]at h58
   rw[<- hor]at hs8
   have hfin:∃m':Nat,m'<8-k/\∃k':Nat,k' <=8/\i64.wrap ((k:Int)+1)=(k':Int)/\m'=8-k'/\ao w8 k3 aS (CQ ((gL a).take k'++List.replicate (8-k') 0))/\ao w8 k2 aS (CQ [0,0,0,0,0,0,0,0])/\ao w8 k1 am (adC a)/\bW w w8:=
     ⟨8-(k+1),by omega,k+1,by omega,by rw[wrap_i64 (by omega) (by omega)];omega,rfl,h58,d2.grown hg8 (bF (by omega)),d1.grown hg8 (bF (by omega)),Below.put hd hg8 hk3w⟩
   exact⟨w8,hs8,hfin⟩
 · have:k=8:=by omega
   subst this
   have e8:(gL a).take 8++List.replicate (8-8) 0=gL a:=by rw[List.take_of_length_le (by rw[yc];exact Nat.le_refl _)];simp
   rw[e8]at h36
   have hlen:(CQ (gL a)).length=8:=by rw[Fx];rfl
   obtain⟨w7,hs7,h27,hg7⟩:=xT.store0 hlen (KI _) h26 rfl
   refine⟨_,_,_,_,_,_,_,_,xT.load0 h36 hlen,w7,hs7,_,_,_,_,_,_,_,_,ao.res (xT.load0 h27 hlen),rfl,Below.put hB6 hg7 (by omega)⟩
theorem lv {w:World}{A:Bl}{a:Option Addr}{n c:Nat}{l:List Nat}(hs:Sl TJ w zW a n c (l.map λx:Nat=>(x:Int)))(hl:l.length <=8)(hb:∀x∈l,x<65536)(he:Env w):
   Cf gZ #[.slice a n c] w (Ret λv w'=>v=vS (wrL l)/\bW w w'):=by
 apply za
 have hn:=hs.len
 rw[List.length_map]at hn
 refine⟨λm a3 l3 c3 i w'=>∃k:Nat,k <=l.length/\i=(k:Int)/\m=l.length-k/\Ow tS ah w' NoB a3 l3 c3 ((l.take k).map xv)/\bU w.heap.size a3/\bW w w',
   ⟨_,0,by omega,rfl,rfl,Ow.nil _ _ _ _,bU.none _,Below.refl _ _⟩,?_⟩
 intro m a3 l3 c3 i
 refine aJ.of ?_ _
 rintro w2 ⟨k,hk,rfl,rfl,ho2,hf2,hB2⟩
 refine ab.of (λh=>?_) (λh=>?_) <;> simp only[dTx,dFx]at h
 · have hkl:k<l.length:=by omega
   have hs2:=hs.below hB2
   obtain⟨v,hv,hrep⟩:=hs2.load1 (i:=(k:Int)) Cm rfl rfl (by simp;omega)
   simp only[Int.toNat_natCast,List.getElem_map]at hv hrep
   obtain⟨hv',-⟩:=hrep
   obtain rfl:=(List.cons.inj hv').1
   have hgk:=hb l[k] (List.getElem_mem hkl)
   refine⟨⟨⟨by omega,h⟩,hs2.isSome (by simp;omega)⟩,_,hv,?_⟩
   rw[u64_in (by omega) (by omega)]
   refine aw (Fm _ hgk w2 (he.step hB2)) ?_
   rintro _ w3 ⟨rfl,hb3⟩
   have hB3:=aa hB2 hb3 hB2.size
   refine⟨_,rfl,?_⟩
   intro k4 w4 hk4' hw4
   have hll:((l.take k).map xv).length <=8:=by simp;omega
   obtain⟨w5,a5,n5,c5,hr,ho5,hf5,hb5⟩:=C4 (ty:=aH) (w0:=w) (cm:=1) (vs:=[_]) (dN _) dW dI (by decide) (ho2.below hb3) hf2 hB3 hk4' hw4 (eN trivial) (by omega)
   refine⟨w5,a5,n5,c5,hr,l.length-(k+1),by omega,k+1,by omega,by rw[wrap_i64 (by omega) (by omega)];omega,rfl,?_,hf5,hb5⟩
   rw[List.take_succ_eq_append_getElem hkl,List.map_append]
   exact ho5
 · have:k=l.length:=by omega
   subst this
   rw[List.take_length]at ho2
   have hlen:=pB hb
   refine aw (xB ho2.all [58] (by rw[List.length_map];omega) (by show(wrL l).length <=_;omega)) ?_
   rintro _ w3 ⟨rfl,hb3⟩
   exact⟨_,rfl,rfl,aa hB2 hb3 hB2.size⟩
theorem E6 (g0 g1 g2 g3 g4 g5 g6 g7:Nat)(w:World):
   Cf qt #[.agg #[.int .u16 (g0:Int),.int .u16 (g1:Int),.int .u16 (g2:Int),.int .u16 (g3:Int),.int .u16 (g4:Int),.int .u16 (g5:Int),.int .u16 (g6:Int),.int .u16 (g7:Int)]] w
     (Ret λv w'=>v=.tuple #[vI ((dj ([g0,g1,g2,g3,g4,g5,g6,g7].map (· ==0))).1:Int),vI ((dj ([g0,g1,g2,g3,g4,g5,g6,g7].map (· ==0))).2:Int)]/\bW w w'):=by
 apply Dh
 intro k1 w1 hk1 hw1
 have hB1:=(hw1▸ai w _:bW w w1)
 have h11:ao w1 k1 aS (CQ [g0,g1,g2,g3,g4,g5,g6,g7]):=ao.new hk1 hw1
 obtain⟨G,hG⟩:∃G,G=[g0,g1,g2,g3,g4,g5,g6,g7]:=⟨_,rfl⟩
 have hl8:G.length=8:=by rw[hG];rfl
 rw[<- hG]at h11 ⊢
 clear hG
 refine⟨λm p lo ru i w'=>∃k:Nat,k <=8/\i=(k:Int)/\m=8-k/\p=((mu (G.map (· ==0)) k).1:Int)/\lo=((mu (G.map (· ==0)) k).2.1:Int)/\ru=((mu (G.map (· ==0)) k).2.2:Int)/\w'=w1,⟨_,0,by omega,rfl,rfl,rfl,rfl,rfl,rfl⟩,?_⟩
 intro m p lo ru i
 refine aJ.of ?_ _
 rintro w2 ⟨k,hk,rfl,rfl,rfl,rfl,rfl,hw2⟩
 rw[hw2];clear hw2
 obtain⟨b1,b2,b3⟩:=Iz (G.map (· ==0)) k
 refine ab.of (λh=>?_) (λh=>?_) <;> simp only[dTx,dFx]at h
 · have hk8:k<G.length:=by omega
   have hzk:(G.map (· ==0)).getD k false=(G[k]==0):=by
     rw[List.getD_eq_getElem?_getD,List.getElem?_map,List.getElem?_eq_getElem hk8];rfl
   rw[gR,Nat.zero_add]
   have ew:i64.wrap ((k:Int)+1)=((k+1:Nat):Int):=by rw[wrap_i64 (by omega) (by omega)];omega
   try dsimp only
   rw[ew]
   refine UD (B:=λJ=>_/\∃n15:Int,_/\ab (n15 !=0) (J 0 w1) (J _ w1)) ((if(G[k]==0)=true then(mu (G.map (· ==0)) k).2.2+1 else 0:Nat):Int) ⟨⟨⟨by omega,by omega⟩,rfl⟩,_,h11.load1 Cm rfl (Fw hk8),ab.of (λh2=>⟨rfl,?_⟩) (λh2=>⟨rfl,?_⟩)⟩ ?_
   · rw[if_neg (by simp at h2 ⊢;omega)];rfl
   · rw[if_pos (by simp at h2 ⊢;omega),wrap_i64 (by omega) (by omega)];omega
   · have hz:mu (G.map (· ==0)) (k+1)=zst (mu (G.map (· ==0)) k) k (G[k]==0):=by rw[<- hzk];rfl
     have hru:(if(G[k]==0)=true then(mu (G.map (· ==0)) k).2.2+1 else 0) <=k+1:=by split <;> omega
     unfold zst at hz
     generalize (if(G[k]==0)=true then(mu (G.map (· ==0)) k).2.2+1 else 0)=ru at*
     refine ab.of (λh2=>?_) (λh2=>?_) <;> simp only[gt_iff_lt,dTx,dFx]at h2
     · rw[if_pos (by omega)]at hz
       refine⟨8-(k+1),by omega,k+1,by omega,rfl,rfl,?_,?_,?_,rfl⟩
       · rw[hz,wrap_i64 (by omega) (by omega)];show _=((k+1-ru:Nat):Int);omega
       · rw[hz]
       · rw[hz]
     · rw[if_neg (by omega)]at hz
       exact⟨8-(k+1),by omega,k+1,by omega,rfl,rfl,by rw[hz],by rw[hz],by rw[hz],rfl⟩
 · have:k=8:=by omega
   subst this
   exact⟨rfl,hB1⟩
theorem E0 (a:List UInt8)(ha:a.length=16)(w:World)(he:Env w):Cf qq #[adV a] w (Ret λv w'=>v=vS (mK a)/\bW w w'):=by
 apply Df
 intro k1 w1 hk1 hw1
 have hB1:=(hw1▸ai w _:bW w w1)
 have h11:ao w1 k1 am (adC a):=ao.new hk1 hw1
 refine⟨_,cj.load0 h11 (by rw[cZ,ha]),?_⟩
 refine aw (CI a ha w1) ?_
 rintro _ w2 ⟨rfl,hb2⟩
 have hB2:=aa hB1 hb2 hB1.size
 refine⟨_,_,_,_,_,_,_,_,rfl,?_⟩
 refine xT.new (zs:=CQ [0,0,0,0,0,0,0,0]) (cs:=CQ (gL a)) rfl rfl (KI _) w2 λk3 w3 hk3 h3 hb3=>?_
 have hB3:=aa hB2 hb3 hB2.size
 refine⟨_,_,_,_,_,_,_,_,xT.load0 h3 rfl,?_⟩
 refine aw (E6 (xg a 0) (xg a 1) (xg a 2) (xg a 3) (xg a 4) (xg a 5) (xg a 6) (xg a 7) w3) ?_
 rintro _ w4 ⟨rfl,hb4⟩
 have hB4:=aa hB3 hb4 hB3.size
 have h4:=h3.below hb4
 have hz:=EN (PD a)
 show ∃n10_0 n10_1:Int,(Ending.returned (.tuple #[vI ((dj (zsA a)).1:Int),vI ((dj (zsA a)).2:Int)]):Ending)=.returned (.tuple #[vI n10_0,vI n10_1])/\_
 have ht:mK a=if(dj (zsA a)).2<2 then wrL (gL a)else wrL ((gL a).take (dj (zsA a)).1)++[58,58]++wrL ((gL a).drop ((dj (zsA a)).1+(dj (zsA a)).2)):=rfl
 rw[ht];clear ht
 generalize dj (zsA a)=Z at*
 obtain⟨p,lo⟩:=Z
 have hsum:p+lo <=8:=hz.1
 refine⟨(p:Int),(lo:Int),rfl,?_⟩
 show ab _ _ _
 have hgl:=yc a
 refine ab.of (λh=>?_) (λh=>?_) <;> simp only[dTx,dFx]at h
 · rw[if_pos (show lo<2 by omega)]
   have hs:=h4.sl16 (o:=0) (n:=8) (c:=8) (A:=⟨k3,0,none⟩) (λ_=>rfl) (by rw[hgl];omega) (Nat.le_refl _) (by unfold maxLen;omega)
   have e8:((gL a).drop 0).take 8=gL a:=by rw[List.drop_zero,List.take_of_length_le (by omega)]
   rw[e8]at hs
   refine⟨trivial,?_⟩
   refine aw (lv (A:=zW) hs (by omega) (Fo a) (he.step hB4)) ?_
   rintro _ w5 ⟨rfl,hb5⟩
   exact⟨_,rfl,rfl,aa hB4 hb5 hB4.size⟩
 · rw[if_neg (show ¬ lo<2 by omega)]
   have e1:i64.wrap ((p:Int)+(lo:Int))=((p+lo:Nat):Int):=by rw[wrap_i64 (by omega) (by omega)];omega
   try dsimp only
   rw[e1]
   simp only[Int.toNat_natCast]
   have hb1:∀x∈(gL a).take p,x<65536:=λx hx=>Fo a x (List.mem_of_mem_take hx)
   have hb2':∀x∈(gL a).drop (p+lo),x<65536:=λx hx=>Fo a x (List.mem_of_mem_drop hx)
   have l1:=pB hb1
   have l2:=pB hb2'
   rw[List.length_take]at l1
   rw[List.length_drop]at l2
   refine⟨⟨by omega,by omega⟩,wrL ((gL a).take p),λu hu=>?_,fits (by simp;omega),?_⟩
   · have hs:=(h4.below hu).sl16 (o:=0) (n:=p) (c:=8) (A:=⟨k3,0,none⟩) (λ_=>rfl) (by rw[hgl];omega) (by omega) (by unfold maxLen;omega)
     rw[List.drop_zero]at hs
     exact cw (lv (A:=zW) hs (by rw[List.length_take];omega) hb1 ((he.step hB4).step hu)) hu
   rintro _ rfl
   refine⟨⟨by omega,by omega⟩,wrL ((gL a).drop (p+lo)),λu hu=>?_,fits (by simp;omega),?_⟩
   · have hs:=(h4.below hu).sl16 (o:=p+lo) (n:=8-(p+lo)) (c:=8-(p+lo)) (A:=if 8=p+lo then⟨k3,0,none⟩ else Addr.add ⟨k3,0,none⟩ ((p+lo)*1)) (λhpos=>by rw[if_neg (by omega),RK,Nat.zero_add,Nat.mul_one]) (by rw[hgl];omega) (Nat.le_refl _) (by unfold maxLen;omega)
     rw[List.take_of_length_le (by rw[List.length_drop];omega)]at hs
     exact cw (lv (A:=zW) hs (by rw[List.length_drop];omega) hb2' ((he.step hB4).step hu)) hu
   rintro _ rfl
   intro wq hwq
   exact⟨by simp only[List.append_assoc],aa hB4 hwq hB4.size⟩
def eqV (P:Program):Nat->TypeId->Value->Value->Option Bool
 | 0,_,_,_=>none
 | d+1,t,x,y=>match P.underlying t,x,y with
   | some .bool,.bool a,.bool b=>some (a==b)
   | some (.int _),.int k a,.int k' b=>if k=k' then some (a==b)else none
   | some .string,.string a,.string b=>some (toL a==toL b)
   | some (.struct fs),.agg xs,.agg ys=>if P.stoodInHeld t then none else
       fs.toList.foldr (λf r=>if f.name= "_" then r else match HM P f.type xs f.offset,HM P f.type ys f.offset with
         | some a,some b=>match eqV P d f.type a b,r with
           | some p,some q=>some (p&&q)
           | _,_=>none
         | _,_=>none) (some true)
   | some (.array n e),.agg xs,.agg ys=>match P.info? e with
     | some i=>(List.range n).foldr (λj r=>match HM P e xs (j*i.size),HM P e ys (j*i.size)with
         | some a,some b=>match eqV P d e a b,r with
           | some p,some q=>some (p&&q)
           | _,_=>none
         | _,_=>none) (some true)
     | none=>none
   | _,_,_=>none
theorem Nl {P:Program} :∀(d:Nat) (t:TypeId) (x y:Value) (b:Bool) (w:World),eqV P d t x y=some b->(Op.equalIn d t x y).run P w=.ok b w:=by
 intro d
 induction d with
 | zero=>intro t x y b w h;cases h
 | succ d ih=>
   intro t x y b w h
   unfold eqV at h
   split at h
   · rename_i hu;cases h
     exact run_equalIn_bool' w d t _ _ hu
   · rename_i k0 k a k' c hu
     split at h
     · rename_i e;subst e;cases h
       exact run_equalIn_int w d t _ _ _ _ hu
     · cases h
   · rename_i a c hu;cases h
     rw[run_equalIn_string w d t _ _ hu]
     rw[ByteArray.toList_eq,ByteArray.toList_eq];rfl
   · rename_i fs xs ys hu
     split at h
     · cases h
     · rename_i hp
       have hf:P.fieldsOf t=fs:=by unfold Program.fieldsOf;rw[hu]
       rw[run_equalIn_struct w d t xs ys (by rw[hf];exact hu) (by simpa using hp),hf]
       revert h
       generalize fs.toList=l
       induction l generalizing b with
       | nil=>intro h;cases h;rfl
       | cons f l ihl=>
         intro h
         rw[List.foldr_cons]at h
         unfold Op.eqFields
         by_cases hn:f.name= "_"
         · rw[if_pos hn]at h
           rw[if_neg (by simpa using hn)]
           exact ihl b h
         · rw[if_neg hn]at h
           rw[if_pos hn]
           split at h
           · rename_i a c ha hc
             split at h
             · rename_i p q hpq hq
               cases h
               have h1:=ih f.type a c p w hpq
               have h2:=ihl q hq
               simp only[Sem.run_bind,vG ha,vG hc,Result.andThen_ok,h1]
               cases p
               · simp
               · simpa using h2
             · cases h
           · cases h
   · rename_i n e xs ys hu
     split at h
     · rename_i i hi
       simp only[Op.equalIn,Sem.run_bind,bD hu,Result.andThen_ok,eW hi]
       rw[Std.Legacy.Range.forIn_eq_forIn_range']
       have er:List.range' 0 ([0:n]:Std.Legacy.Range).size 1=List.range n:=by
         rw[List.range_eq_range'];simp[Std.Legacy.Range.size]
       rw[er]
       clear er
       revert h
       generalize List.range n=l
       induction l generalizing b with
       | nil=>intro h;cases h;simp
       | cons j l ihl=>
         intro h
         rw[List.foldr_cons]at h
         split at h
         · rename_i a c ha hc
           split at h
           · rename_i p q hpq hq
             cases h
             have h1:=ih e a c p w hpq
             have h2:=ihl q hq
             simp only[List.forIn_cons,Sem.run_bind,vG ha,vG hc,Result.andThen_ok,h1]
             cases p
             · simp
             · simpa using h2
           · cases h
         · cases h
     · cases h
   · cases h
theorem Ez {P:Program}{t:TypeId}{x y:Operand}{xs ys:Array Value}{b:Bool}(hm:P.eqGuardType P.depth t=false)(h:eqV P 10000 t (.agg xs) (.agg ys)=some b)(w:World):
   ((do eqGuard .eql t x y (.agg xs) (.agg ys);binOp .eql t (.agg xs) (.agg ys):Sem Value)).run P w=.ok (.bool b) w:=by
 rw[Sem.run_bind,run_eqGuard_agg w .eql t x y xs ys hm,Result.andThen_ok,run_eql_struct,Nl _ _ _ _ _ w h,Result.andThen_ok]
theorem OT {P:Program}{t:TypeId}{x y:Operand}{xs ys:Array Value}{b:Bool}(hm:P.eqGuardType P.depth t=false)(h:eqV P 10000 t (.agg xs) (.agg ys)=some b)(w:World):
   ((do eqGuard .neq t x y (.agg xs) (.agg ys);binOp .neq t (.agg xs) (.agg ys):Sem Value)).run P w=.ok (.bool (!b)) w:=by
 rw[Sem.run_bind,run_eqGuard_agg w .neq t x y xs ys hm,Result.andThen_ok,run_neq_struct,Nl _ _ _ _ _ w h,Result.andThen_ok]
structure Hst where
 kind:Int
 name:List UInt8
 ad:List UInt8
def Hst.cells (h:Hst):List Value:=vI h.kind::vS h.name::adC h.ad
def Hst.v (h:Hst):Value:=.agg h.cells.toArray
def gJ:Hst:=⟨0,[],ad0⟩
def Hst.ok (h:Hst):Prop:=h.ad.length=16
theorem Hst.len {h:Hst}(o:h.ok):h.cells.length=18:=by unfold Hst.cells;rw[List.length_cons,List.length_cons,cZ,o]
theorem Hst.one (h:Hst):yM h.cells:=bI rfl (bI rfl (eY _))
def Ss:List UInt8->List UInt8->Bool
 | x::xs,y::ys=>((((x.toNat:Nat):Int))==((y.toNat:Nat):Int))&&Ss xs ys
 | _,_=>true
theorem Kg:∀(xs ys:List UInt8),xs.length=ys.length->(Ss xs ys=true ↔ xs=ys)
 | [],[],_=>by simp[Ss]
 | x::xs,[],h=>by simp at h
 | [],y::ys,h=>by simp at h
 | x::xs,y::ys,h=>by
   unfold Ss
   rw[Bool.and_eq_true,Kg xs ys (by simpa using h),beq_iff_eq]
   have e:((x.toNat:Nat):Int)=((y.toNat:Nat):Int) ↔ x=y:=⟨λh=>UInt8.toNat_inj.1 (by omega),λh=>by rw[h]⟩
   rw[e]
   simp
theorem fi {α:Type} :∀(a:List α),a.length=16->∃x0 x1 x2 x3 x4 x5 x6 x7 x8 x9 x10 x11 x12 x13 x14 x15,a=[x0,x1,x2,x3,x4,x5,x6,x7,x8,x9,x10,x11,x12,x13,x14,x15]
 | [x0,x1,x2,x3,x4,x5,x6,x7,x8,x9,x10,x11,x12,x13,x14,x15],_=>⟨x0,x1,x2,x3,x4,x5,x6,x7,x8,x9,x10,x11,x12,x13,x14,x15,rfl⟩
def jA (h g:Hst):Bool:=(h.kind==g.kind)&&((h.name==g.name)&&(Ss h.ad g.ad&&true))
theorem je {h g:Hst}(o:h.ok)(p:g.ok):jA h g=true ↔ h=g:=by
 unfold jA
 rw[Bool.and_eq_true,Bool.and_eq_true,Bool.and_true,Kg _ _ (o.trans p.symm),beq_iff_eq,beq_iff_eq]
 cases h;cases g;simp
def lO (c:UInt8):Bool:=(decide (97 <=c.toNat)&&decide (c.toNat <=122)) || (decide (48 <=c.toNat)&&decide (c.toNat <=57)) || c==45 || c==95
def fP (s:List UInt8):Bool:=decide (1 <=s.length)&&decide (s.length <=63)&&s.all lO
def CU (L:List (List UInt8)):List UInt8:=L[L.length-1]?.getD []
def bt (s:List UInt8):Option Hst:=
 if s.head?=some 91 then(if s.getLast?=some 93 then(v6A ((s.drop 1).take (s.length-2))).map λa=>⟨3,[],a⟩ else none)
 else if dE (CU (bK 46 [] (co s)))=true then(v4V s).map λa=>⟨2,[],a⟩
 else if s.length <=253/\(bK 46 [] (co s)).all fP=true then some ⟨1,co s,ad0⟩ else none
def NP:Option Hst->Value
 | some h=>.tuple #[h.v,.int .i64 0]
 | none=>.tuple #[gJ.v,.int .i64 31]
theorem fM {s:List UInt8}{h:Hst}(e:bt s=some h):h.ok:=by
 unfold bt at e
 split at e
 · split at e
   · cases hv:v6A ((s.drop 1).take (s.length-2))with
     | none=>rw[hv]at e;cases e
     | some a=>rw[hv]at e;cases e;exact Pv _ a hv
   · cases e
 split at e
 · cases hv:v4V s with
   | none=>rw[hv]at e;cases e
   | some a=>rw[hv]at e;cases e;exact TZ _ a hv
 split at e
 · cases e;rfl
 · cases e
theorem pe (c:UInt8):∀(s cur:List UInt8),Lib.join (bK c cur s) [c]=cur++s
 | [],cur=>by simp[bK,Lib.join_one]
 | x::r,cur=>by
   show Lib.join (if x=c then cur::bK c [] r else bK c (cur++[x]) r) [c]=_
   split
   · rename_i h
     subst h
     have ih:=pe x r []
     have hne:=gQ x r []
     cases hL:bK x [] r with
     | nil=>exact absurd hL hne
     | cons y l=>
       rw[hL,Lib.join_cons,List.nil_append]at ih
       rw[Lib.join_cons]
       have e:Lib.joinTail [x] (y::l)=[x]++y++Lib.joinTail [x] l:=by simp[Lib.joinTail]
       rw[e,List.append_assoc [x] y,ih];rfl
   · rw[pe c r (cur++[x])];simp
theorem zT (s:List UInt8)(c:UInt8):Lib.hasSuffix s [c]=decide (s.getLast?=some c)/\Lib.trimSuffix s [c]=if s.getLast?=some c then s.take (s.length-1)else s:=by
 have h1:Lib.hasSuffix s [c]=decide (s.getLast?=some c):=by
   unfold Lib.hasSuffix
   rw[Bool.eq_iff_iff,dTx,List.isSuffixOf_iff_suffix]
   constructor
   · rintro⟨t,rfl⟩;simp
   · intro h
     obtain⟨t,rfl⟩:=List.getLast?_eq_some_iff.1 h
     exact⟨t,rfl⟩
 refine⟨h1,?_⟩
 unfold Lib.trimSuffix
 rw[h1]
 by_cases h:s.getLast?=some c
 · rw[if_pos (decide_eq_true h),if_pos h];rfl
 · rw[if_neg (by rw[decide_eq_false h];decide),if_neg h]
theorem N3 {s:List UInt8}(h:s.head?=some 91):((s.drop 1).getLast?=some 93 ↔ s.getLast?=some 93):=by
 cases s with
 | nil=>cases h
 | cons x r=>
   obtain rfl:x=91:=Option.some.inj h
   cases r with
   | nil=>simp
   | cons y r=>simp[List.getLast?_cons_cons]
theorem vq {L:List (List UInt8)}(h:0<L.length):CU L=L[L.length-1]'(by omega):=by unfold CU;rw[List.getElem?_eq_getElem (by omega)];rfl
theorem aP:Whl prog ae 18:=⟨⟨_,_,JZ⟩,by kernel_rfl⟩
theorem Nk {h g:Hst}(o:h.ok)(p:g.ok):eqV prog 10000 ae h.v g.v=some (jA h g):=by
 obtain⟨k,n,a⟩:=h
 obtain⟨k',n',a'⟩:=g
 obtain⟨x0,x1,x2,x3,x4,x5,x6,x7,x8,x9,x10,x11,x12,x13,x14,x15,rfl⟩:=fi a o
 obtain⟨y0,y1,y2,y3,y4,y5,y6,y7,y8,y9,y10,y11,y12,y13,y14,y15,rfl⟩:=fi a' p
 kernel_rfl
theorem Ho:prog.eqGuardType prog.depth ae=false:=by kernel_rfl
theorem Hr {h g:Hst}(o:h.ok)(p:g.ok){x y:Operand}(w:World):((do eqGuard .eql ae x y h.v g.v;binOp .eql ae h.v g.v:Sem Value)).run prog w=.ok (.bool (jA h g)) w:=
 Ez Ho (Nk o p) w
theorem UC {h g:Hst}(o:h.ok)(p:g.ok){x y:Operand}(w:World):((do eqGuard .neq ae x y h.v g.v;binOp .neq ae h.v g.v:Sem Value)).run prog w=.ok (.bool (!jA h g)) w:=
 OT Ho (Nk o p) w
theorem xh (k:Int){a:List UInt8}(o:a.length=16)(w:World):(Instr.build ae #[(0,vI k),(2,adV a)]).run prog w=.ok (Hst.v ⟨k,[],a⟩) w:=by
 obtain⟨x0,x1,x2,x3,x4,x5,x6,x7,x8,x9,x10,x11,x12,x13,x14,x15,rfl⟩:=fi a o
 kernel_rfl
theorem CP (c:UInt8)(w:World):Cf oE #[.int .u8 ((c.toNat:Nat):Int)] w (Ret λv w'=>v=.bool (lO c)/\w'=w):=by
 apply Bh
 have e45:=my c 45
 have e95:=my c 95
 rw[show(((45:UInt8).toNat:Nat):Int)=45 from rfl]at e45
 rw[show(((95:UInt8).toNat:Nat):Int)=95 from rfl]at e95
 rw[e45,e95]
 unfold lO
 have lf:∀{b:Bool} {x:Bool},b=x->(.bool b:Value)=.bool x/\w=w:=λh=>⟨by rw[h],rfl⟩
 refine ab.of (λh=>?_) (λh=>?_) <;> simp only[ge_iff_le,dTx,dFx]at h
 · refine ab.of (λh2=>lf ?_) (λh2=>?_) <;> simp only[ge_iff_le,dTx,dFx]at h2
   · rw[decide_eq_true (p:=97 <=c.toNat) (by omega),decide_eq_true (p:=c.toNat <=122) (by omega)];rfl
   · rw[decide_eq_false (p:=c.toNat <=122) (by omega),Bool.and_false,Bool.false_or]
     refine ab.yes (by simp;omega) (ab.no (by simp;omega) ?_)
     rw[decide_eq_false (p:=c.toNat <=57) (by omega),Bool.and_false,Bool.false_or]
     exact ab.of (λh3=>lf (by rw[h3];rfl)) (λh3=>lf (by rw[h3,Bool.false_or]))
 · rw[decide_eq_false (p:=97 <=c.toNat) (by omega),Bool.false_and,Bool.false_or]
   refine ab.of (λh2=>?_) (λh2=>?_) <;> simp only[ge_iff_le,dTx,dFx]at h2
   · rw[decide_eq_true (p:=48 <=c.toNat) (by omega),Bool.true_and]
     refine ab.of (λh3=>lf ?_) (λh3=>?_) <;> simp only[ge_iff_le,dTx,dFx]at h3
     · rw[decide_eq_true (p:=c.toNat <=57) (by omega)];rfl
     · rw[decide_eq_false (p:=c.toNat <=57) (by omega),Bool.false_or]
       exact ab.of (λh4=>lf (by rw[h4];rfl)) (λh4=>lf (by rw[h4,Bool.false_or]))
   · rw[decide_eq_false (p:=48 <=c.toNat) (by omega),Bool.false_and,Bool.false_or]
     exact ab.of (λh4=>lf (by rw[h4];rfl)) (λh4=>lf (by rw[h4,Bool.false_or]))
theorem Fv (s:List UInt8)(hs:s.length <=9223372036854775800)(w:World):Cf qz #[vS s] w (Ret λv w'=>v=.bool (fP s)/\bW w w'):=by
 apply Dr
 refine ab.of (λh=>?_) (λh=>⟨?_,Below.refl _ _⟩)
 · have hne:s≠[]:=by simpa using h
   have h1:1 <=s.length:=List.length_pos_iff.2 hne
   refine ab.of (λh2=>?_) (λh2=>⟨?_,Below.refl _ _⟩) <;> simp only[dTx,dFx]at h2
   · obtain⟨w2,a,n,c,hr,ho,hb2,hf⟩:=ov (P:=prog) av bw bS w s (by omega) NoB
     have hnn:=ho.len
     subst hnn
     refine⟨w2,a,_,c,hr,?_⟩
     have hl:fP s=s.all lO:=by unfold fP;rw[decide_eq_true h1,decide_eq_true (by omega),Bool.true_and,Bool.true_and]
     refine aw (K:=λv w'=>v=.bool (!(s.all lO))/\w'=w2) ?_ ?_
     · apply eO
       refine aw (K:=λv w'=>∃i:Int,v=vI i/\(decide (i >=0))=(!(s.all lO))/\w'=w2) ?_ ?_
       · apply fu
         refine⟨λm i w'=>∃k:Nat,k <=s.length/\i=(k:Int)/\m=s.length-k/\(s.take k).all lO=true/\w'=w2,⟨_,0,by omega,rfl,rfl,rfl,rfl⟩,?_⟩
         intro m i
         refine aJ.of ?_ _
         rintro w' ⟨k,hk,rfl,rfl,hno,hw'⟩
         rw[hw'];clear hw'
         refine ab.of (λh=>?_) (λh=>?_) <;> simp only[dTx,dFx]at h
         · have hlt:k<s.length:=by omega
           obtain⟨v,hv,hrep⟩:=ho.all.load1 (i:=(k:Int)) bS rfl rfl (by simpa using hlt)
           have:=Ck hrep
           subst this
           simp only[Int.toNat_natCast]at hv
           refine⟨⟨⟨by omega,h⟩,ho.all.isSome hlt⟩,_,hv,?_⟩
           refine aw (K:=λv w'=>v=.bool (!lO s[k])/\w'=w2) ?_ ?_
           · apply xI
             refine aw (CP _ w2) ?_
             rintro _ w3 ⟨rfl,hw3⟩
             exact⟨_,rfl,rfl,hw3⟩
           rintro _ w3 ⟨rfl,hw3⟩
           rw[hw3]
           refine⟨_,rfl,ab.of (λh3=>?_) (λh3=>?_)⟩
           · refine⟨_,rfl,?_,rfl⟩
             have:s.all lO=false:=by
               rw[Bool.eq_false_iff]
               intro hc
               rw[List.all_eq_true.1 hc _ (List.getElem_mem hlt)]at h3;cases h3
             rw[this,decide_eq_true (by omega)];rfl
           · refine⟨s.length-(k+1),by omega,k+1,by omega,by rw[wrap_i64 (by omega) (by omega)];omega,rfl,?_,rfl⟩
             rw[List.take_succ_eq_append_getElem hlt,List.all_append,hno]
             simpa using h3
         · have:k=s.length:=by omega
           subst this
           rw[List.take_length]at hno
           exact⟨_,rfl,by rw[hno];decide,rfl⟩
       · rintro _ w3 ⟨i,rfl,hi,hw3⟩
         exact⟨_,rfl,by rw[hi],hw3⟩
     · rintro _ w3 ⟨rfl,hw3⟩
       rw[hw3]
       exact⟨_,rfl,by rw[hl,Bool.not_not],hb2⟩
   · unfold fP;rw[decide_eq_false (p:=s.length <=63) (by omega),Bool.and_false,Bool.false_and]
 · have hne:s=[]:=by simpa using h
   subst hne;rfl
theorem io (o:Option Hst):NP o=.tuple #[(o.getD gJ).v,vI (if o.isSome then 0 else 31)]:=by cases o <;> rfl
theorem lN {o:Option Hst}(h:∀x,o=some x->x.ok):(o.getD gJ).ok:=by
 cases o with
 | none=>rfl
 | some x=>exact h x rfl
theorem lM (k:Int)(a:List UInt8)(o:a.length=16)(b:Bool)(w:World):Cf hX #[vI k,adV a,.bool b] w (Ret λv w'=>v=NP (if b=true then some ⟨k,[],a⟩ else none)/\bW w w'):=by
 apply zh
 intro k4 w4 hk4 hw4
 have hB4:=(hw4▸ai w _:bW w w4)
 have h4:ao w4 k4 am (adC a):=ao.new hk4 hw4
 intro k6 w6 hk6 hw6
 have hb6:=(hw6▸ai w4 _:bW w4 w6)
 have hB6:=aa hB4 hb6 hB4.size
 have h6:ao w6 k6 ae gJ.cells:=ao.new hk6 hw6
 have hk:w.heap.size <=k6:=by have:=hB4.size;omega
 refine ab.of (λh=>?_) (λh=>?_)
 · have hb:b=false:=by simpa using h
   rw[hb]
   exact aP.fin (K:=λvr wy=>(.tuple #[vr,vI 31]:Value)=NP (if false=true then some ⟨k,[],a⟩ else none)/\bW w wy) (cs:=gJ.cells) rfl (Hst.one _) h6 rfl hB6 hk λwy hb=>⟨rfl,hb⟩
 · have hb:b=true:=by simpa using h
   rw[hb]
   refine⟨_,cj.load0 (h4.below hb6) (by rw[cZ,o]),_,xh k o w6,?_⟩
   exact aP.fin (K:=λvr wy=>(.tuple #[vr,vI 0]:Value)=NP (if true=true then some ⟨k,[],a⟩ else none)/\bW w wy) (cs:=Hst.cells ⟨k,[],a⟩) (Hst.len o) (Hst.one _) h6 rfl hB6 hk λwy hb=>⟨rfl,hb⟩
theorem N1 {w:World}{A:Bl}{a:Option Addr}{n c:Nat}{L:List (List UInt8)}(hs:Sl tS w zW a n c L)(hl:∀x∈L,x.length <=9223372036854775800)(hL:L.length <=9223372036854775800):
   Cf cR #[.slice a n c,.func (.func da) #[] #[]] w (Ret λv w'=>v=.bool (!(L.all fP))/\bW w w'):=by
 have hn:=hs.len
 apply ep
 refine aw (K:=λv w'=>∃i:Int,v=vI i/\(decide (i >=0))=(!(L.all fP))/\bW w w') ?_ ?_
 · apply eH
   refine⟨λm i w'=>∃k:Nat,k <=L.length/\i=(k:Int)/\m=L.length-k/\(L.take k).all fP=true/\bW w w',⟨_,0,by omega,rfl,rfl,rfl,Below.refl _ _⟩,?_⟩
   intro m i
   refine aJ.of ?_ _
   rintro w2 ⟨k,hk,rfl,rfl,hno,hB2⟩
   refine ab.of (λh=>?_) (λh=>?_) <;> simp only[dTx,dFx]at h
   · have hlt:k<L.length:=by omega
     have hs2:=hs.below hB2
     refine⟨⟨⟨by omega,h⟩,hs2.isSome (by omega)⟩,_,hs2.text av hlt,?_⟩
     refine aw (K:=λv w'=>v=.bool (!fP L[k])/\bW w2 w') ?_ ?_
     · apply xH
       refine aw (Fv _ (hl _ (List.getElem_mem hlt)) w2) ?_
       rintro _ w3 ⟨rfl,hb3⟩
       exact⟨_,rfl,rfl,hb3⟩
     rintro _ w3 ⟨rfl,hb3⟩
     have hB3:=aa hB2 hb3 hB2.size
     refine⟨_,rfl,ab.of (λh3=>?_) (λh3=>?_)⟩
     · refine⟨_,rfl,?_,hB3⟩
       have:L.all fP=false:=by
         rw[Bool.eq_false_iff]
         intro hc
         rw[List.all_eq_true.1 hc _ (List.getElem_mem hlt)]at h3;cases h3
       rw[this,decide_eq_true (by omega)];rfl
     · refine⟨L.length-(k+1),by omega,k+1,by omega,by rw[wrap_i64 (by omega) (by omega)];omega,rfl,?_,hB3⟩
       rw[List.take_succ_eq_append_getElem hlt,List.all_append,hno]
       simpa using h3
   · have:k=L.length:=by omega
     subst this
     rw[List.take_length]at hno
     exact⟨_,rfl,by rw[hno];decide,hB2⟩
 · rintro _ w3 ⟨i,rfl,hi,hB3⟩
   exact⟨_,rfl,by rw[hi],hB3⟩
def rQ (s:List UInt8)(w:World)(v:Value)(w':World):Prop:=v=NP (bt s)/\bW w w'
theorem jd (s:List UInt8)(hs:s.length <=2000000000)(w:World)(he:Env w):Cf gy #[vS s] w (Ret (rQ s w)):=by
 apply Do
 intro k2 w2 hk2 hw2
 have hB2:=(hw2▸ai w _:bW w w2)
 have h2:ao w2 k2 ae gJ.cells:=ao.new hk2 hw2
 have hk2w:w.heap.size <=k2:=by omega
 refine aw (Ha s 91 w2) ?_
 rintro _ w3 ⟨rfl,hw3⟩
 rw[hw3];clear hw3
 refine⟨_,_,rfl,?_⟩
 have fin:∀{wx:World} (o:Option Hst),(∀x,o=some x->x.ok)->bt s=o->ao wx k2 ae gJ.cells->bW w wx->
     ∃wy,(Instr.storeAt ae (.pointer (some ⟨k2,0,none⟩)) (o.getD gJ).v).run prog wx=.ok () wy/\∃vr:Value,(bg ae (.pointer (some ⟨k2,0,none⟩))).run prog wy=.ok vr wy/\rQ s w (.tuple #[vr,vI (if o.isSome then 0 else 31)]) wy:=fun{wx} o ho hv h2x hBx=>
   aP.fin (K:=λvr wy=>rQ s w (.tuple #[vr,vI (if o.isSome then 0 else 31)]) wy) (cs:=(o.getD gJ).cells) (Hst.len (lN ho)) (Hst.one _) h2x rfl hBx hk2w λwy hb=>⟨by rw[hv,io];rfl,hb⟩
 by_cases h91:s.head?=some 91
 · rw[if_pos h91,decide_eq_true h91]
   refine ab.yes rfl ?_
   have hv:bt s=if s.getLast?=some 93 then(v6A ((s.drop 1).take (s.length-2))).map λa=>⟨3,[],a⟩ else none:=by unfold bt;rw[if_pos h91]
   have hlt:=N3 h91
   refine(Tryz.strings_CutSuffix (mkS (s.drop 1)) (mkS [93]) w2 (by show(s.drop 1).length <=_;rw[List.length_drop];omega)).mono ?_
   rintro _ w3 ⟨rfl,hw3⟩
   rw[hw3];clear hw3
   have hsb:=zT (s.drop 1) 93
   have e1:(mkS (s.drop 1)).data.toList=s.drop 1:=rfl
   have e2:(mkS [93]).data.toList=[93]:=rfl
   rw[e1,e2,hsb.1,hsb.2]
   obtain⟨inner,hin⟩:∃inner,inner=if(s.drop 1).getLast?=some 93 then(s.drop 1).take ((s.drop 1).length-1)else s.drop 1:=⟨_,rfl⟩
   rw[<- hin]
   have hil:inner.length <=s.length:=by rw[hin];split <;> simp <;> omega
   refine⟨inner,_,rfl,?_⟩
   refine aw (Lo inner (by omega) w2 (he.step hB2)) ?_
   rintro _ w4 ⟨rfl,hb4⟩
   have hB4:=aa hB2 hb4 hB2.size
   refine⟨_,_,by rw[D0],?_⟩
   have hal:=xV (Pv inner)
   refine cj.new (zs:=adC ad0) (cs:=adC ((v6A inner).getD ad0)) rfl hal (eY _) w4 λk8 w8 hk8 h8 hb8=>?_
   have hB8:=aa hB4 hb8 hB4.size
   have h28:=(h2.below hb4).below hb8
   refine⟨_,cj.load0 h8 hal,?_⟩
   have hvo:bt s=if(v6A inner).isSome=true/\(s.drop 1).getLast?=some 93 then some ⟨3,[],(v6A inner).getD ad0⟩ else none:=by
     rw[hv]
     by_cases hc:s.getLast?=some 93
     · have hc':=hlt.2 hc
       rw[if_pos hc,if_pos hc']at*
       rw[List.length_drop,show s.length-1-1=s.length-2 by omega]at hin
       rw[<- hin]
       cases v6A inner with
       | none=>rw[if_neg (λh=>by cases h.1)];rfl
       | some x=>rw[if_pos ⟨rfl,hc'⟩];rfl
     · rw[if_neg hc,if_neg (λh=>hc (hlt.1 h.2))]
   refine ab.of (λhs1=>?_) (λhs1=>?_)
   · refine aw (lM 3 _ (by rw[<- cZ];exact hal) _ w8) ?_
     rintro _ w9 ⟨rfl,hb9⟩
     have hB9:=aa hB8 hb9 hB8.size
     refine⟨_,_,by rw[io],?_⟩
     refine fin _ (λx hx=>?_) ?_ (h28.below hb9) hB9
     · split at hx
       · cases hx;show((v6A inner).getD ad0).length=16;rw[<- cZ];exact hal
       · cases hx
     · rw[hvo,hs1]
       by_cases hc:(s.drop 1).getLast?=some 93
       · rw[if_pos ⟨rfl,hc⟩,if_pos (by simpa using hc)]
       · rw[if_neg (λh=>hc h.2),if_neg (by simpa using hc)]
   · refine aw (lM 3 _ (by rw[<- cZ];exact hal) _ w8) ?_
     rintro _ w9 ⟨rfl,hb9⟩
     have hB9:=aa hB8 hb9 hB8.size
     refine⟨_,_,by rw[io],?_⟩
     refine fin _ (λx hx=>by cases hx) ?_ (h28.below hb9) hB9
     rw[hvo,hs1,if_neg (λh=>by cases h.1)];rfl
 · rw[if_neg h91,decide_eq_false h91]
   refine ab.no rfl ?_
   have hv:bt s=if dE (CU (bK 46 [] (co s)))=true then(v4V s).map λa=>⟨2,[],a⟩ else if s.length <=253/\(bK 46 [] (co s)).all fP=true then some ⟨1,co s,ad0⟩ else none:=by unfold bt;rw[if_neg h91]
   refine aw (dU s (by omega) w2) ?_
   rintro _ w3 ⟨rfl,hb3⟩
   have hB3:=aa hB2 hb3 hB2.size
   refine⟨_,rfl,?_⟩
   have ll:(co s).length=s.length:=by simp[co]
   refine aw (dV (co s) 46 (by omega) w3 (he.step hB3)) ?_
   rintro _ w4 ⟨a,n,c,rfl,ho,hf,hb4⟩
   have hB4:=aa hB3 hb4 hB3.size
   have h24:=(h2.below hb3).below hb4
   have hn:=ho.len
   subst hn
   have hlens:∀x∈bK 46 [] (co s),x.length <=s.length:=λx hx=>by have:=fI 46 (co s) [] x hx;simp[ll]at this;omega
   have hcn:=dK 46 (co s) []
   have hnz:0<(bK 46 [] (co s)).length:=List.length_pos_iff.2 (gQ 46 (co s) [])
   have hjoin:=pe 46 (co s) []
   refine⟨_,_,_,rfl,?_⟩
   generalize bK 46 [] (co s)=L at*
   have ei:i64.wrap (((L.length:Nat):Int)-1)=((L.length-1:Nat):Int):=by rw[wrap_i64 (by omega) (by omega)];omega
   try dsimp only
   rw[ei]
   refine⟨⟨⟨by omega,by omega⟩,ho.all.isSome hnz⟩,_,ho.all.text av (by omega),?_⟩
   rw[<- vq hnz]
   have hll:(CU L).length <=s.length:=by rw[vq hnz];exact hlens _ (List.getElem_mem _)
   refine aw (lQ (CU L) (by omega) w4) ?_
   rintro _ w5 ⟨rfl,hb5⟩
   have hB5:=aa hB4 hb5 hB4.size
   have h25:=h24.below hb5
   refine⟨_,rfl,ab.of (λhd=>?_) (λhd=>?_)⟩
   · rw[if_pos hd]at hv
     refine aw (Ln s (by omega) w5 (he.step hB5)) ?_
     rintro _ w6 ⟨rfl,hb6⟩
     have hB6:=aa hB5 hb6 hB5.size
     refine⟨_,_,by rw[D0],?_⟩
     have hal:=xV (TZ s)
     refine cj.new (zs:=adC ad0) (cs:=adC ((v4V s).getD ad0)) rfl hal (eY _) w6 λk8 w8 hk8 h8 hb8=>?_
     have hB8:=aa hB6 hb8 hB6.size
     have h28:=(h25.below hb6).below hb8
     refine⟨_,cj.load0 h8 hal,?_⟩
     refine aw (lM 2 _ (by rw[<- cZ];exact hal) _ w8) ?_
     rintro _ w9 ⟨rfl,hb9⟩
     have hB9:=aa hB8 hb9 hB8.size
     refine⟨_,_,by rw[io],?_⟩
     refine fin _ (λx hx=>?_) ?_ (h28.below hb9) hB9
     · split at hx
       · cases hx;show((v4V s).getD ad0).length=16;rw[<- cZ];exact hal
       · cases hx
     · rw[hv]
       cases v4V s <;> rfl
   · rw[if_neg (by rw[hd];decide)]at hv
     have hbad: ¬ (s.length <=253/\L.all fP=true)->bt s=none:=λh=>by rw[hv,if_neg h]
     refine gE (λw'=>(s.length <=253/\L.all fP=true)/\bW w5 w') ?_ ?_
     · refine uX (λb w'=>b=(!decide (s.length <=253/\L.all fP=true))/\bW w5 w') ?_ ?_
       · refine ab.of (λh=>⟨?_,Below.refl _ _⟩) (λh=>?_) <;> simp only[gt_iff_lt,dTx,dFx]at h
         · rw[decide_eq_false (λhc=>by have:=hc.1;omega)];rfl
         · refine aw (N1 (A:=zW) (ho.below hb5).all (λx hx=>by have:=hlens x hx;omega) (by omega)) ?_
           rintro _ w6 ⟨rfl,hb6⟩
           refine⟨_,rfl,?_,hb6⟩
           have h253:s.length <=253:=by omega
           congr 1
           rw[Bool.eq_iff_iff,dTx]
           exact⟨λh=>⟨h253,h⟩,λh=>h.2⟩
       · rintro b w6 ⟨rfl,hb6⟩
         refine ab.of (λh=>?_) (λh=>⟨by rw[Bool.not_eq_false']at h;exact of_decide_eq_true h,hb6⟩)
         exact fin none (λx hx=>by cases hx) (hbad (by rw[Bool.not_eq_true']at h;exact of_decide_eq_false h)) (h25.below hb6) (aa hB5 hb6 hB5.size)
     · rintro w6 ⟨hgood,hb6⟩
       have hB6:=aa hB5 hb6 hB5.size
       refine aw (xB ((ho.below hb5).below hb6).all [46] (by omega) (by rw[hjoin];simp[ll];omega)) ?_
       rintro _ w7 ⟨rfl,hb7⟩
       have hB7:=aa hB6 hb7 hB6.size
       rw[hjoin,List.nil_append]
       refine⟨_,rfl,?_⟩
       exact fin (some ⟨1,co s,ad0⟩) (λx hx=>by cases hx;rfl) (by rw[hv,if_pos hgood]) ((h25.below hb6).below hb7) hB7
def cD (h:Hst):List UInt8:=if h.kind=1 then h.name else if h.kind=2 then re h.ad else if h.kind=3 then[91]++mK h.ad++[93]else[]
def cC (h:Hst):Bool:=match bt (cD h)with|some g=>jA g h|none=>false
def aK (h:Hst):List (List UInt8):=if h.kind=1/\cC h=true then bK 46 [] h.name else[]
theorem Pb {a:List UInt8}(h:a.length=16):(re a).length <=88:=by
 have:=AO ((a.drop 12).map λc=>mA c.toNat) 46 21 (λx hx=>by
   obtain⟨c,_,rfl⟩:=List.mem_map.1 hx
   have:=nS c
   exact gi (by omega))
 rw[List.length_map,List.length_drop,h]at this
 exact this
theorem Cc (a:List UInt8):(mK a).length <=90:=by
 have hgl:=yc a
 unfold mK
 split
 · have:=pB (Fo a);omega
 · have l1:=pB (l:=(gL a).take (dj (zsA a)).1) λx hx=>Fo a x (List.mem_of_mem_take hx)
   have l2:=pB (l:=(gL a).drop ((dj (zsA a)).1+(dj (zsA a)).2)) λx hx=>Fo a x (List.mem_of_mem_drop hx)
   rw[List.length_take]at l1
   rw[List.length_drop]at l2
   simp;omega
theorem jR {h:Hst}(o:h.ok):(cD h).length <=h.name.length+100:=by
 have h4:=Pb o
 have h6:=Cc h.ad
 unfold cD
 split
 · omega
 split
 · omega
 split
 · simp;omega
 · simp
theorem P1 {h:Hst}(j:Nat):h.cells[2+j]? =(adC h.ad)[j]? :=by rw[Nat.add_comm];rfl
theorem KH {h:Hst}(o:h.ok){w:World}{k:Nat}{T:TypeId}(ha:ao w k T h.cells):(Instr.loadAt am (.pointer (some ⟨k,2,none⟩))).run prog w=.ok (adV h.ad) w:=
 cj.load ha (i:=2) (us:=adC h.ad) (by rw[cZ,o]) λj _=>P1 j
theorem jS {h:Hst}(o:h.ok)(w:World)(he:Env w):Cf iz #[h.v] w (Ret λv w'=>v=vS (cD h)/\bW w w'):=by
 apply Ga
 intro k1 w1 hk1 hw1
 have hB1:=(hw1▸ai w _:bW w w1)
 have h1:ao w1 k1 ae h.cells:=ao.new hk1 hw1
 refine⟨rfl,_,h1.load1 bG rfl rfl,?_⟩
 unfold cD
 refine ab.of (λc1=>?_) (λc1=>?_) <;> simp only[beq_iff_eq,beq_eq_false_iff_ne,ne_eq]at c1
 · rw[if_pos c1]
   exact⟨rfl,_,h1.load1 av rfl rfl,rfl,hB1⟩
 rw[if_neg c1]
 refine ab.of (λc2=>?_) (λc2=>?_) <;> simp only[beq_iff_eq,beq_eq_false_iff_ne,ne_eq]at c2
 · rw[if_pos c2]
   refine⟨rfl,_,KH o h1,?_⟩
   refine aw (EZ h.ad o w1 (he.step hB1)) ?_
   rintro _ w2 ⟨rfl,hb2⟩
   exact⟨_,rfl,rfl,aa hB1 hb2 hB1.size⟩
 rw[if_neg c2]
 refine ab.of (λc3=>?_) (λc3=>?_) <;> simp only[beq_iff_eq,beq_eq_false_iff_ne,ne_eq]at c3
 · rw[if_pos c3]
   refine⟨rfl,_,KH o h1,?_⟩
   refine aw (E0 h.ad o w1 (he.step hB1)) ?_
   rintro _ w2 ⟨rfl,hb2⟩
   have h6:=Cc h.ad
   refine⟨_,rfl,fits (by simp;omega),?_⟩
   rintro _ rfl
   refine⟨fits (by simp;omega),?_⟩
   rintro _ rfl
   exact⟨rfl,aa hB1 hb2 hB1.size⟩
 · rw[if_neg c3]
   exact⟨rfl,hB1⟩
theorem gG {h:Hst}(o:h.ok)(hn:h.name.length <=1000000000)(w:World)(he:Env w):Cf fA #[h.v] w (Ret λv w'=>v=.bool (cC h)/\bW w w'):=by
 apply Dp
 have hxl:=jR o
 intro k1 w1 hk1 hw1
 have hB1:=(hw1▸ai w _:bW w w1)
 have h1:ao w1 k1 ae h.cells:=ao.new hk1 hw1
 refine⟨_,aP.load0 h1 (Hst.len o),?_⟩
 refine aw (jS o w1 (he.step hB1)) ?_
 rintro _ w2 ⟨rfl,hb2⟩
 have hB2:=aa hB1 hb2 hB1.size
 refine⟨_,rfl,?_⟩
 refine aw (jd (cD h) (by omega) w2 (he.step hB2)) ?_
 rintro _ w3 ⟨rfl,hb3⟩
 have hB3:=aa hB2 hb3 hB2.size
 refine⟨_,_,by rw[io],?_⟩
 have hok:((bt (cD h)).getD gJ).ok:=lN λx hx=>fM hx
 refine aP.new (zs:=gJ.cells) (cs:=((bt (cD h)).getD gJ).cells) rfl (Hst.len hok) (Hst.one _) w3 λk4 w4 hk4 h4 hb4=>?_
 have hB4:=aa hB3 hb4 hB3.size
 have h14:=((h1.below hb2).below hb3).below hb4
 unfold cC
 cases hv:bt (cD h)with
 | none=>exact ab.no rfl ⟨rfl,hB4⟩
 | some g=>
   rw[hv]at h4 hok
   exact ab.yes rfl ⟨_,aP.load0 h4 (Hst.len hok),_,aP.load0 h14 (Hst.len o),_,Hr hok o w4,rfl,hB4⟩
def ME (h:Hst)(w:World)(v:Value)(w':World):Prop:=∃(a:Option Addr) (n c:Nat),v=.slice a n c/\Ow tS ah w' NoB a n c (aK h)/\bU w.heap.size a/\bW w w'
theorem fX {h:Hst}(o:h.ok)(hn:h.name.length <=1000000000)(w:World)(he:Env w):Cf ct #[h.v] w (Ret (ME h w)):=by
 apply Bg
 intro k1 w1 hk1 hw1
 have hB1:=(hw1▸ai w _:bW w w1)
 have h1:ao w1 k1 ae h.cells:=ao.new hk1 hw1
 have none_end:∀{wx:World},¬ (h.kind=1/\cC h=true)->bW w wx->ME h w (.slice none 0 0) wx:=λhc hb=>⟨none,0,0,rfl,by unfold aK;rw[if_neg hc];exact Ow.nil _ _ _ _,bU.none _,hb⟩
 refine gE (λw'=>(h.kind=1/\cC h=true)/\bW w1 w') ⟨rfl,_,h1.load1 bG rfl rfl,?_⟩ ?_
 · refine ab.of (λc=>none_end (λhc=>?_) hB1) (λc=>?_)
   · rw[hc.1]at c;simp at c
   · have hk:h.kind=1:=by simpa using c
     refine⟨_,aP.load0 h1 (Hst.len o),?_⟩
     refine aw (gG o hn w1 (he.step hB1)) ?_
     rintro _ w2 ⟨rfl,hb2⟩
     refine⟨_,rfl,ab.of (λc2=>none_end (λhc=>?_) (aa hB1 hb2 hB1.size)) (λc2=>⟨⟨hk,by simpa using c2⟩,hb2⟩)⟩
     rw[hc.2]at c2;cases c2
 · rintro w2 ⟨hc,hb2⟩
   have hB2:=aa hB1 hb2 hB1.size
   refine⟨rfl,_,(h1.below hb2).load1 av rfl rfl,?_⟩
   refine aw (dV h.name 46 (by omega) w2 (he.step hB2)) ?_
   rintro _ w3 ⟨a,n,c,rfl,ho,hf,hb3⟩
   exact⟨_,_,_,rfl,_,_,_,rfl,by unfold aK;rw[if_pos hc];exact ho,hf.mono hB2.size,aa hB2 hb3 hB2.size⟩
theorem gh.drop {α:Type}{T:Ty α}{w:World}{A:Bl}{l:List Value}{xs:List α}(h:gh T w A l xs)(j:Nat):gh T w A (l.drop (j*T.k)) (xs.drop j):=by
 refine⟨by rw[List.length_drop,List.length_drop,h.len,Nat.sub_mul],λi hi=>?_⟩
 have hi':j+i<xs.length:=by rw[List.length_drop]at hi;omega
 have:=h.rep (j+i) hi'
 rw[List.drop_drop,List.getElem_drop]
 rw[Nat.add_mul]at this
 exact this
theorem Sl.from {α:Type}{T:Ty α}{w:World}{A:Bl}{a:Option Addr}{n c:Nat}{xs:List α}(h:Sl T w A a n c xs)(j:Nat)(hj:j <=xs.length){k:Nat}(hk:T.k=k):Sl T w A (iG a c j k) (n-j) (c-j) (xs.drop j):=by
 subst hk
 obtain⟨h1,h2,h3,h4⟩:=h
 refine⟨by rw[List.length_drop,h1],by omega,by omega,?_⟩
 rcases h4 with h4|⟨b,off,e,hb,hab,l,h5,h6⟩
 · left;rw[h4];simp
 · by_cases hc:c=j
   · left
     exact List.drop_eq_nil_of_le (by omega)
   · right
     refine⟨b,off+j*T.k,?_,hb,hab,l.drop (j*T.k),h5.drop j,λi hi=>?_⟩
     · unfold iG;rw[if_neg hc,e,Option.map_some,iT]
     · rw[List.length_drop]at hi
       rw[Nat.add_assoc,h6 _ (by omega),List.getElem?_drop]
def zx (L:List (List UInt8))(n:Nat):List UInt8:=Lib.join (L.drop (L.length-n)) [46]
def O8 (L:List (List UInt8))(n:Nat):Value:=if 1 <=n/\n <=L.length then .tuple #[(⟨1,zx L n,ad0⟩:Hst).v,.bool true]else .tuple #[gJ.v,.bool false]
def rj (h d:Hst):Bool:=if(aK d).length=0\/(aK h).length <=(aK d).length then false else jA ⟨1,zx (aK h) (aK d).length,ad0⟩ d
theorem Iu {o:Option (List UInt8)}{h:Hst}(e:(o.map λa=>(⟨3,[],a⟩:Hst))=some h):h.kind=3:=by
 cases o with
 | none=>cases e
 | some a=>cases e;rfl
theorem Me {d:Hst}(o:d.ok)(hk:d.kind=1)(hr:cC d=true):d=⟨1,d.name,ad0⟩/\co d.name=d.name/\(bK 46 [] d.name).all fP=true/\d.name.length <=253/\dE (CU (bK 46 [] d.name))=false/\bt d.name=some d:=by
 have hx:cD d=d.name:=by unfold cD;rw[if_pos hk]
 unfold cC at hr
 rw[hx]at hr
 cases hv:bt d.name with
 | none=>rw[hv]at hr;cases hr
 | some g=>
   rw[hv]at hr
   obtain rfl:=(je (fM hv) o).1 hr
   have hv':=hv
   unfold bt at hv'
   split at hv'
   · split at hv'
     · have:=Iu hv';omega
     · cases hv'
   split at hv'
   · cases h4:v4V g.name with
     | none=>rw[h4]at hv';cases hv'
     | some a=>
       rw[h4]at hv'
       have:g.kind=2:=by rw[<- Option.some.inj hv']
       omega
   rename_i hd
   split at hv'
   · rename_i hc
     have e:=Option.some.inj hv'
     have e2:co g.name=g.name:=congrArg Hst.name e
     rw[e2]at hc e hd
     exact⟨e.symm,e2,hc.2,hc.1,by simpa using hd,rfl⟩
   · cases hv'
theorem Hv (c:UInt8):∀(L:List (List UInt8)) (k:Nat),(Lib.join (L.drop k) [c]).length <=(Lib.join L [c]).length
 | L,0=>by simp
 | [],k+1=>by simp
 | x::r,k+1=>by
   rw[List.drop_succ_cons]
   refine Nat.le_trans (Hv c r k) ?_
   cases r with
   | nil=>simp[Lib.join_nil]
   | cons y l=>
     rw[Lib.join_cons,Lib.join_cons]
     unfold Lib.joinTail
     simp;omega
theorem lP (h:Hst):(aK h).length <=h.name.length+1:=by
 unfold aK
 split
 · exact dK 46 _ _
 · simp
theorem ye {h:Hst}(o:h.ok)(hn:h.name.length <=1000000000)(n:Nat)(hn2:n <=4000000000)(w:World)(he:Env w):Cf iy #[h.v,vI (n:Int)] w (Ret λv w'=>v=O8 (aK h) n/\bW w w'):=by
 apply F9
 intro k2 w2 hk2 hw2
 have hB2:=(hw2▸ai w _:bW w w2)
 have h2:ao w2 k2 ae h.cells:=ao.new hk2 hw2
 intro k4 w4 hk4 hw4
 have hb4:=(hw4▸ai w2 _:bW w2 w4)
 have hB4:=aa hB2 hb4 hB2.size
 have h4:ao w4 k4 ae gJ.cells:=ao.new hk4 hw4
 have hk:w.heap.size <=k4:=by have:=hB2.size;omega
 refine⟨_,aP.load0 (h2.below hb4) (Hst.len o),?_⟩
 refine aw (fX o hn w4 (he.step hB4)) ?_
 rintro _ w5 ⟨a,l,c,rfl,ho,hf,hb5⟩
 have hB5:=aa hB4 hb5 hB4.size
 have h45:=h4.below hb5
 have hll:=lP h
 have hjl:∀n,(zx (aK h) n).length <=140737488355328:=λn=>by
   unfold zx
   refine Nat.le_trans (Hv 46 (aK h) _) ?_
   unfold aK
   split
   · rw[pe,List.nil_append];omega
   · simp[Lib.join_nil]
 have hl:=ho.len
 subst hl
 generalize aK h=L at*
 refine⟨_,_,_,rfl,?_⟩
 unfold O8
 refine si (w:=w5) (1 <=n/\n <=L.length) ?_ (λhc=>?_)
 · refine orJ (ab.of (λh=>?_) (λh=>⟨rfl,?_⟩))
   · rw[if_neg (λhc=>by simp at h;omega)]
     exact aP.fin (K:=λvr wy=>(.tuple #[vr,.bool false]:Value)=.tuple #[gJ.v,.bool false]/\bW w wy) (cs:=gJ.cells) rfl (Hst.one _) h45 rfl hB5 hk λwy hb=>⟨rfl,hb⟩
   · simp at h;omega
 · rw[if_pos hc]
   have e:i64.wrap (((L.length:Nat):Int)-(n:Int))=((L.length-n:Nat):Int):=by rw[wrap_i64 (by omega) (by omega)];omega
   try dsimp only
   rw[e]
   simp only[Int.toNat_natCast]
   refine⟨⟨by omega,by omega⟩,?_⟩
   refine aw (xB ((ho.all).from (L.length-n) (by omega) rfl) [46] (by simp;omega) (hjl n)) ?_
   rintro _ w6 ⟨rfl,hb6⟩
   have hB6:=aa hB5 hb6 hB5.size
   refine⟨_,rfl,?_⟩
   exact aP.fin (K:=λvr wy=>(.tuple #[vr,.bool true]:Value)=.tuple #[(⟨1,zx L n,ad0⟩:Hst).v,.bool true]/\bW w wy) (cs:=(⟨1,zx L n,ad0⟩:Hst).cells) rfl (Hst.one _) (h45.below hb6) rfl hB6 hk λwy hb=>⟨rfl,hb⟩
theorem Fu {h d:Hst}(oh:h.ok)(od:d.ok)(hn:h.name.length <=1000000000)(dn:d.name.length <=1000000000)(w:World)(he:Env w):Cf jO #[h.v,d.v] w (Ret λv w'=>v=.bool (rj h d)/\bW w w'):=by
 apply Dq
 intro k2 w2 hk2 hw2
 have hB2:=(hw2▸ai w _:bW w w2)
 have h2:ao w2 k2 ae h.cells:=ao.new hk2 hw2
 intro k3 w3 hk3 hw3
 have hb3:=(hw3▸ai w2 _:bW w2 w3)
 have hB3:=aa hB2 hb3 hB2.size
 have h3:ao w3 k3 ae d.cells:=ao.new hk3 hw3
 have h23:=h2.below hb3
 have hd:bW w (World.drew w3):=aa hB3 (kO rfl rfl rfl (Nat.le_refl _) (λ_ _=>rfl)) hB3.size
 have d2:ao (World.drew w3) k2 ae h.cells:=h23
 have d3:ao (World.drew w3) k3 ae d.cells:=h3
 have ld2:=aP.load0 (P:=prog) d2 (Hst.len oh)
 have ld3:=aP.load0 (P:=prog) d3 (Hst.len od)
 have hll:=lP h
 have hld:=lP d
 have lab1:∀{Q:Nat->World->Prop},(∀wx,Below (World.drew w3).heap.size (World.drew w3) wx->Q (aK h).length wx)->
     Cf ct #[h.v] (World.drew w3) λe w'=>∃(a:Option Addr) (l c:Nat),e=.returned (.slice a l c)/\Q l w':=λhQ=>by
   refine aw (fX oh hn _ (he.step hd)) ?_
   rintro _ w4 ⟨a,l,c,rfl,ho,-,hb4⟩
   refine⟨_,_,_,rfl,?_⟩
   rw[ho.len]
   exact hQ w4 hb4
 have lab2:∀{Q:Nat->World->Prop} (wy:World),Below (World.drew w3).heap.size (World.drew w3) wy->(∀wx,Below (World.drew w3).heap.size (World.drew w3) wx->Q (aK d).length wx)->
     Cf ct #[d.v] wy λe w'=>∃(a:Option Addr) (l c:Nat),e=.returned (.slice a l c)/\Q l w':=λwy hwy hQ=>by
   refine aw (fX od dn wy (he.step (aa hd hwy hd.size))) ?_
   rintro _ w4 ⟨a,l,c,rfl,ho,-,hb4⟩
   refine⟨_,_,_,rfl,?_⟩
   rw[ho.len]
   exact hQ w4 (aa hwy hb4 hwy.size)
 have rest:∀wx,Below (World.drew w3).heap.size (World.drew w3) wx->∃J:FP [],
     (ab ((((aK d).length:Nat):Int)==(0:Int)) ((.bool false:Value)=.bool (rj h d)/\bW w wx)
       (ab (decide ((((aK d).length:Nat):Int) >=(((aK h).length:Nat):Int))) ((.bool false:Value)=.bool (rj h d)/\bW w wx) (J wx)))/\
     aJ 11 (∀(wj:World),J wj->∃(v24:Value),(Instr.loadAt ae (.pointer (some ⟨k2,0,none⟩))).run prog wj=.ok v24 wj/\
       Cf iy #[v24,vI (((aK d).length:Nat):Int)] wj λe27 w27=>∃(v27_0:Value) (b27_1:Bool),e27=.returned (.tuple #[v27_0,.bool b27_1])/\
       ∀(k7:Nat) (w7:World),k7=w27.heap.size->w7=w27.alloc (.cells bj ae)->
       ∃(wx:World),(Instr.storeAt ae (.pointer (some ⟨k7,0,none⟩)) v27_0).run prog w7=.ok () wx/\
       ∃(v30:Value),(Instr.loadAt ae (.pointer (some ⟨k7,0,none⟩))).run prog wx=.ok v30 wx/\
       ∃(v31:Value),(Instr.loadAt ae (.pointer (some ⟨k3,0,none⟩))).run prog wx=.ok v31 wx/\
       ∃(b32:Bool),((do eqGuard .eql ae (.tmp 30) (.tmp 31) v30 v31;binOp .eql ae v30 v31:Sem Value)).run prog wx=.ok (.bool b32) wx/\
       ((.bool b32:Value)=.bool (rj h d)/\bW w wx)):=λwx hbx=>by
   have hBx:=aa hd hbx hd.size
   have u:rj h d=if(aK d).length=0\/(aK h).length <=(aK d).length then false else jA ⟨1,zx (aK h) (aK d).length,ad0⟩ d:=rfl
   refine si (w:=wx) (¬ ((aK d).length=0\/(aK h).length <=(aK d).length)) ?_ (λhc=>?_)
   · refine ab.of (λc1=>⟨?_,hBx⟩) (λc1=>ab.of (λc2=>⟨?_,hBx⟩) (λc2=>⟨rfl,?_⟩))
     · rw[u,if_pos (.inl (by simp at c1;simp[c1]))]
     · rw[u,if_pos (.inr (by simp at c2;omega))]
     · simp at c1 c2
       rintro(hx|hx)
       · exact c1 (List.length_eq_zero_iff.1 hx)
       · omega
   · refine⟨_,aP.load0 (d2.below hbx) (Hst.len oh),?_⟩
     refine aw (ye oh hn (aK d).length (by omega) wx (he.step hBx)) ?_
     rintro _ w6 ⟨rfl,hb6⟩
     have hB6:=aa hBx hb6 hBx.size
     have et:O8 (aK h) (aK d).length=.tuple #[(⟨1,zx (aK h) (aK d).length,ad0⟩:Hst).v,.bool true]:=if_pos ⟨by omega,by omega⟩
     rw[et,u,if_neg hc]
     refine⟨_,_,rfl,?_⟩
     refine aP.new (zs:=gJ.cells) (cs:=(⟨1,zx (aK h) (aK d).length,ad0⟩:Hst).cells) rfl rfl (Hst.one _) w6 λk7 w7 hk7 h7 hb7=>?_
     have hB7:=aa hB6 hb7 hB6.size
     exact⟨_,aP.load0 h7 rfl,_,aP.load0 (((d3.below hbx).below hb6).below hb7) (Hst.len od),_,Hr (show(⟨1,zx (aK h) (aK d).length,ad0⟩:Hst).ok from rfl) od w7,rfl,hB7⟩
 refine⟨⟨_,ld2,?_,_,ld3,?_⟩,_,ld3,_,ld2,?_⟩
 · exact lab1 λwx hbx=>⟨_,aP.load0 (d3.below hbx) (Hst.len od),lab2 wx hbx rest⟩
 · exact lab1 λwx hbx=>lab2 wx hbx rest
 · exact lab1 λwx hbx=>lab2 wx hbx rest
end Go.Pk
