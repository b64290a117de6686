/- What the laws lean on: V20, WrdA, WrdB, WrdC, WrdE, MapH, SepO, V53, TplC, TplQ, TplD, UrlY, UrlC, V54; what is used. Its conditions: none. -/
import Derived.Test.YthbkoifpgkjadaaGreatDoorKH
import Derived.Maps.RangeRun
set_option linter.unusedVariables false
set_option linter.unusedSimpArgs false
set_option linter.unusedSectionVars false
set_option maxRecDepth 100000
open Go.IntKind (i64)
open Go.Proofs.Tryz
open List (length)
open Option (isSome)
namespace Go.Pk
open Go.RowKit (Below)
open Go.Proofs
theorem CL (a:lU){w K}(h:uL du #[vS a,.int .u8 10] w λb c d e=>∃f:FP [.one .slice],((bx (i64.wrap (((c:Nat):Int)-(1:Int))) ((c:Nat):Int)/\Option.isSome b=true)/\∃g,Ld ak (am b (i64.wrap (((c:Nat):Int)-(1:Int))) 1) e (vS g)/\ae (g==[]) (bd (i64.wrap (((c:Nat):Int)-(1:Int))) ((d:Nat):Int)/\f b (Int.toNat (i64.wrap (((c:Nat):Int)-(1:Int)))) d e) (f b c d e))/\∀g i j,aN 12 (∀k,f g i j k->∃l:Nat->FP [.one (.int .i64)],(∃m,l m (0:Int) k)/\∀m n,aN 12 (∀o,l m n o->ae (decide (n<((i:Nat):Int))) ((bx n ((i:Nat):Int)/\Option.isSome g=true)/\∃p,Ld ak (am g n 1) o (vS p)/\uS lY #[vS p,vS [13]] o λq r=>(bx n ((i:Nat):Int)/\Option.isSome g=true)/\∃s,Sv ak (am g n 1) (vS q) r s/\∃t:Nat,t<m/\l t (i64.wrap (n+(1:Int))) s) (uL hX #[.slice g i j] o λp q r s=>K (.slice p q r) s)))):Cf jL #[vS a] w (Ret K):=ru func73 [(4,[(3,.one .slice)]),(14,[(21,.one (.int .i64))])] h
theorem CO (a:lU){w K}(h:uL du #[vS a,.int .u8 32] w λb c d e=>uB dG #[.slice b c d,vS []] e λf g=>ae f (K (.tuple #[.slice none 0 0,.bool false]) g) (K (.tuple #[.slice b c d,.bool true]) g)):Cf mv #[vS a] w (Ret K):=ru func147 [] h
theorem D8 (a:lU){w K}(h:ae (a==[]) (K (vS [37]) w) (∃b c d e,(convert ak aY (vS a)).run prog w=.ok (.slice c d e) b/\∃f:Nat->FP [.one .slice,.one (.int .i64)],(∃g,f g none 0 0 (0:Int) b)/\∀g i j k l,aN 28 (∀m,f g i j k l m->ae (decide (l<((d:Nat):Int))) ((bx l ((d:Nat):Int)/\Option.isSome c=true)/\∃n,Ld bX (am c l 1) m (.int .u8 n)/\∃o:FP [.one .bool],(ae (decide (n>(32:Int))) (ae (decide (n<(127:Int))) (o (n !=(37:Int)) m) (o false m)) (o false m))/\∀p,aN 9 (∀q,o p q->ae p (nA q (.cells #[.int .u8 n] bX) λr s=>∃t u v x,(Builtin.append_ #[aY,aY] aY #[.slice i j k,.slice (vA r 0) 1 1]).run prog s=.ok (.slice u v x) t/\∃y:Nat,y<g/\f y u v x (i64.wrap (l+(1:Int))) t) ((0 <=(4:Int))/\bx (Int.fdiv n (2 ^ (min (Int.toNat 4) (IntKind.bits .u8)))) ((List.length [48,49,50,51,52,53,54,55,56,57,65,66,67,68,69,70]:Nat):Int)/\bx (IntKind.u8.wrap (((BitVec.ofInt (IntKind.bits .u8) n) &&& (BitVec.ofInt (IntKind.bits .u8) (15:Int))).toNat:Nat)) ((List.length [48,49,50,51,52,53,54,55,56,57,65,66,67,68,69,70]:Nat):Int)/\∀r,q.heap.size <=r->∀s,bW q s->s.heap[r]? =some (.cells #[.int .u8 37,.int .u8 (eF [48,49,50,51,52,53,54,55,56,57,65,66,67,68,69,70] (Int.fdiv n (2 ^ (min (Int.toNat 4) (IntKind.bits .u8))))),.int .u8 (eF [48,49,50,51,52,53,54,55,56,57,65,66,67,68,69,70] (IntKind.u8.wrap (((BitVec.ofInt (IntKind.bits .u8) n) &&& (BitVec.ofInt (IntKind.bits .u8) (15:Int))).toNat:Nat)))] bX)->∃t u v x,(Builtin.append_ #[aY,aY] aY #[.slice i j k,.slice (vA r 0) 3 3]).run prog s=.ok (.slice u v x) t/\∃y:Nat,y<g/\f y u v x (i64.wrap (l+(1:Int))) t))) (∃n,(convert aY ak (.slice i j k)).run prog m=.ok (vS n) m/\K (vS n) m)))):Cf sk #[vS a] w (Ret K):=ru func342 [(16,[(3,.one .slice),(11,.one (.int .i64))]),(27,[(24,.one .bool)]),(3000031,[(0,.one .bool),(1,.one .bool),(2,.one .bool),(4,.one .bool),(5,.one .bool),(3,.one .bool),(6,.one .bool),(7,.one .bool)])] h
theorem D9 (a:Int){w K}(h:uI dH #[vS [48,49,50,51,52,53,54,55,56,57,65,66,67,68,69,70],.int .u8 a] w λb c=>K (.int .u8 (IntKind.u8.wrap b)) c):Cf nW #[.int .u8 a] w (Ret K):=ru func341 [] h
theorem Ap (a:lU){w K}(h:uS lY #[vS a,vS [37]] w λb c=>∃d:Nat->FP [.one .slice,.one .str],(∃e,d e none 0 0 b c)/\∀e f g i j,aN 29 (∀k,d e f g i j k->ae (!(j==[])) (bx (0:Int) ((List.length j:Nat):Int)/\∃l:FP [.one (.int .u8),.one (.int .i64)],(ae ((eF j (0:Int))==(37:Int)) (ae (decide (((List.length j:Nat):Int)<(3:Int))) (K (.tuple #[vS [],.bool false]) k) (bx (1:Int) ((List.length j:Nat):Int)/\∃m,(∀n,bW k n->Cf nW #[.int .u8 (eF j (1:Int))] n λo p=>o=.returned (.int .u8 m)/\Below k.heap.size n p)/\(0 <=(4:Int))/\bx (2:Int) ((List.length j:Nat):Int)/\∃n,(∀o,bW k o->Cf nW #[.int .u8 (eF j (2:Int))] o λp q=>p=.returned (.int .u8 n)/\Below k.heap.size o q)/\∀o,bW k o->l (IntKind.u8.wrap (((BitVec.ofInt (IntKind.bits .u8) (IntKind.u8.wrap (m*2 ^ (min (Int.toNat 4) (IntKind.bits .u8))))) ||| (BitVec.ofInt (IntKind.bits .u8) (IntKind.u8.wrap (((BitVec.ofInt (IntKind.bits .u8) n) &&& (BitVec.ofInt (IntKind.bits .u8) (15:Int))).toNat:Nat)))).toNat:Nat)) (3:Int) o)) (l (eF j (0:Int)) (1:Int) k))/\∀m n,aN 16 (∀o,l m n o->nA o (.cells #[.int .u8 m] bX) λp q=>∃r s t u,(Builtin.append_ #[aY,aY] aY #[.slice f g i,.slice (vA p 0) 1 1]).run prog q=.ok (.slice s t u) r/\bd n (((List.length j):Nat):Int)/\∀v,v=(List.drop (Int.toNat n) j)->∃x:Nat,x<e/\d x s t u v r)) (∃l,(convert aY ak (.slice f g i)).run prog k=.ok (vS l) k/\uS sk #[vS l] k λm n=>ae (!(m==a)) (K (.tuple #[vS [],.bool false]) n) (∃o,(convert aY ak (.slice f g i)).run prog n=.ok (vS o) n/\K (.tuple #[vS o,.bool true]) n)))):Cf oS #[vS a] w (Ret K):=ru func310 [(8,[(4,.one .slice),(5,.one .str)]),(18,[(6,.one (.int .u8)),(7,.one (.int .i64))])] h
theorem Src.here {α:Type}{T:Ty α}{w:World}{A:Bl}{t:TypeId}{b:Nat}{l:List Value}{xs:List α}(h:w.heap[b]? =some (.cells l.toArray t))(hr:kg T w A l xs):Src T w A (some ⟨b,0,none⟩) xs.length xs:=
 ⟨rfl,.inr ⟨b,0,rfl,l,hr,λj hj=>by rw[hO h,Nat.zero_add];simp⟩⟩
def K9 (c:UInt8):Bool:=decide (33 <=c.toNat/\c.toNat <=126/\c≠37)
theorem PC {c:UInt8}(h:K9 c=true):yV c=[c]:=if_pos (of_decide_eq_true h)
theorem RP {c:UInt8}(h:K9 c=false):yV c=[37,GT (c.toNat/16),GT (c.toNat%16)]:=if_neg (of_decide_eq_false h)
theorem ME (c:UInt8):
   Int.fdiv ((c.toNat:Nat):Int) (2 ^ (min (Int.toNat (4:Int)) (IntKind.bits .u8)))=((c.toNat/16:Nat):Int)/\
   IntKind.u8.wrap (((BitVec.ofInt (IntKind.bits .u8) ((c.toNat:Nat):Int)) &&& (BitVec.ofInt (IntKind.bits .u8) (15:Int))).toNat:Nat)=((c.toNat%16:Nat):Int)/\
   eF [48,49,50,51,52,53,54,55,56,57,65,66,67,68,69,70] ((c.toNat/16:Nat):Int)=(((GT (c.toNat/16)).toNat:Nat):Int)/\
   eF [48,49,50,51,52,53,54,55,56,57,65,66,67,68,69,70] ((c.toNat%16:Nat):Int)=(((GT (c.toNat%16)).toNat:Nat):Int):=
 Nl (p:=λc=>Int.fdiv ((c.toNat:Nat):Int) (2 ^ (min (Int.toNat (4:Int)) (IntKind.bits .u8)))=((c.toNat/16:Nat):Int)/\
   IntKind.u8.wrap (((BitVec.ofInt (IntKind.bits .u8) ((c.toNat:Nat):Int)) &&& (BitVec.ofInt (IntKind.bits .u8) (15:Int))).toNat:Nat)=((c.toNat%16:Nat):Int)/\
   eF [48,49,50,51,52,53,54,55,56,57,65,66,67,68,69,70] ((c.toNat/16:Nat):Int)=(((GT (c.toNat/16)).toNat:Nat):Int)/\
   eF [48,49,50,51,52,53,54,55,56,57,65,66,67,68,69,70] ((c.toNat%16:Nat):Int)=(((GT (c.toNat%16)).toNat:Nat):Int)) (by decide+kernel) c
theorem RC {w:World}{A:Bl}{a b c:UInt8} :kg tU8 w A [.int .u8 ((a.toNat:Nat):Int),.int .u8 ((b.toNat:Nat):Int),.int .u8 ((c.toNat:Nat):Int)] [a,b,c]:=
 ((kg.one (zl rfl)).append (kg.one (zl rfl))).append (kg.one (zl rfl))
theorem F5 (s:List UInt8)(hs:s.length <=1000000000000)(w:World):
   Cf sk #[vS s] w (Ret λv w'=>v=vS (IV s)/\bW w w'):=by
 apply D8
 refine ae.of (λh=>?_) (λh=>?_)
 · obtain rfl:s=[]:=eq_of_beq h
   exact⟨rfl,Below.refl _ _⟩
 have hne:s≠[]:=by rintro rfl;cases h
 obtain⟨w2,a,n,c,hr,ho,hb2,hf⟩:=mq aF cg cH w s (by omega) NoB
 have hnn:=ho.len
 subst hnn
 refine⟨w2,a,_,c,hr,?_⟩
 refine⟨λm a3 l3 c3 i w'=>∃k:Nat,k <=s.length/\i=(k:Int)/\m=s.length-k/\Ow tU8 bX w' NoB a3 l3 c3 (lH (s.take k))/\bg w2.heap.size a3/\bW w2 w',
   ⟨_,0,by omega,rfl,rfl,Ow.nil _ _ _ _,bg.none _,Below.refl _ _⟩,?_⟩
 intro m a3 l3 c3 i
 refine aN.of ?_ _
 rintro w3 ⟨k,hk,rfl,rfl,ho3,hf3,hB3⟩
 have hwl:=(Dj (s.take k)).2
 rw[List.length_take]at hwl
 refine ae.of (λh=>?_) (λh=>?_) <;> simp only[dTx,dFx]at h
 · have hlt:k<s.length:=by omega
   have hw1:lH (s.take (k+1))=lH (s.take k)++yV s[k]:=by rw[List.take_succ_eq_append_getElem hlt,MD]
   obtain⟨v,hv,hrep⟩:=(ho.below hB3).all.load1 (i:=(k:Int)) cH rfl rfl (by simpa using hlt)
   have:=xg hrep
   subst this
   simp only[Int.toNat_natCast]at hv
   have hu:=Em s[k]
   refine⟨⟨⟨by omega,h⟩,ho.all.isSome hlt⟩,_,hv,?_⟩
   refine nK (w:=w3) (K9 s[k]) ?_ ?_
   · unfold K9
     refine ae.of (λh2=>?_) (λh2=>?_) <;> simp only[gt_iff_lt,dTx,dFx]at h2
     · refine ae.of (λh3=>?_) (λh3=>?_) <;> simp only[dTx,dFx]at h3
       · refine⟨rfl,?_⟩
         rw[Bool.eq_iff_iff,bne_iff_ne,dTx]
         constructor
         · intro h4;exact⟨by omega,by omega,λe=>h4 (by rw[e];rfl)⟩
         · rintro⟨_,_,h4⟩ e;exact h4 (IE (by simpa using e))
       · exact⟨rfl,(decide_eq_false (by omega)).symm⟩
     · exact⟨rfl,(decide_eq_false (by omega)).symm⟩
   · refine ae.of (λh2=>?_) (λh2=>?_)
     · intro k4 w4 hk4 hw4
       obtain⟨w5,a5,n5,c5,hr5,ho5,hf5,hb5⟩:=Cz (ty:=aY) (w0:=w2) (cm:=1) (vs:=[_]) FG cg mD (by decide) ho3 hf3 hB3 hk4 hw4 (zl rfl) (by omega)
       refine⟨w5,a5,n5,c5,hr5,s.length-(k+1),by omega,k+1,by omega,by rw[wrap_i64 (by omega) (by omega)];omega,rfl,?_,hf5,hb5⟩
       rw[hw1,PC h2];exact ho5
     · obtain⟨f1,f2,f3,f4⟩:=ME s[k]
       rw[f1,f2]
       have q1:s[k].toNat/16<16:=by omega
       have q2:s[k].toNat%16<16:=Nat.mod_lt _ (by decide)
       refine⟨by decide,⟨by omega,by simp only[List.length_cons,List.length_nil];omega⟩,⟨by omega,by simp only[List.length_cons,List.length_nil];omega⟩,?_⟩
       rw[f3,f4]
       intro k4 hk4 w4 hw4 hc4
       have hsrc:Src tU8 w4 NoB (some ⟨k4,0,none⟩) 3 [37,GT (s[k].toNat/16),GT (s[k].toNat%16)]:=Src.here (l:=[.int .u8 (((37:UInt8).toNat:Nat):Int),.int .u8 (((GT (s[k].toNat/16)).toNat:Nat):Int),.int .u8 (((GT (s[k].toNat%16)).toNat:Nat):Int)]) hc4 RC
       obtain⟨w5,a5,n5,c5,hr5,ho5,hgr,hfr⟩:=dF (ty:=aY) cg mD (by decide) (ho3.below hw4) (λ_ _ h=>h) (cm:=3) hsrc (by simp;omega)
       have hB4:=ab hB3 hw4 hB3.size
       refine⟨w5,a5,n5,c5,hr5,s.length-(k+1),by omega,k+1,by omega,by rw[wrap_i64 (by omega) (by omega)];omega,rfl,?_,hf3.app hB4.size hfr,hB4.grown hgr hB4.size hf3⟩
       rw[hw1,RP h2];exact ho5
 · have:k=s.length:=by omega
   subst this
   rw[List.take_length]at ho3 hwl
   refine⟨_,vL cg aF cH ho3.all,?_,ab hb2 hB3 hb2.size⟩
   rw[IV,if_neg hne]
def unT (s:List UInt8):Value:=.tuple #[vS ((unP s).getD []),.bool (unP s).isSome]
theorem LX (c:UInt8):IntKind.u8.wrap (Lib.indexByte [48,49,50,51,52,53,54,55,56,57,65,66,67,68,69,70] c)=((BT c:Nat):Int):=
 Nl (p:=λc=>IntKind.u8.wrap (Lib.indexByte [48,49,50,51,52,53,54,55,56,57,65,66,67,68,69,70] c)=((BT c:Nat):Int)) (by decide+kernel) c
theorem N5 (c:UInt8):BT c<16\/BT c=255:=by
 unfold BT
 split
 · left;omega
 · split
   · left;omega
   · right;rfl
theorem L5 (a b:Nat)(ha:a<16\/a=255)(hb:b<16\/b=255):
   IntKind.u8.wrap (((BitVec.ofInt (IntKind.bits .u8) (IntKind.u8.wrap (((a:Nat):Int)*2 ^ (min (Int.toNat (4:Int)) (IntKind.bits .u8))))) ||| (BitVec.ofInt (IntKind.bits .u8) (IntKind.u8.wrap (((BitVec.ofInt (IntKind.bits .u8) ((b:Nat):Int)) &&& (BitVec.ofInt (IntKind.bits .u8) (15:Int))).toNat:Nat)))).toNat:Nat)=(((Om a b).toNat:Nat):Int):=by
 have key:∀a,a<17->∀b,b<17->IntKind.u8.wrap (((BitVec.ofInt (IntKind.bits .u8) (IntKind.u8.wrap ((((if a=16 then 255 else a:Nat)):Int)*2 ^ (min (Int.toNat (4:Int)) (IntKind.bits .u8))))) ||| (BitVec.ofInt (IntKind.bits .u8) (IntKind.u8.wrap (((BitVec.ofInt (IntKind.bits .u8) (((if b=16 then 255 else b:Nat)):Int)) &&& (BitVec.ofInt (IntKind.bits .u8) (15:Int))).toNat:Nat)))).toNat:Nat)=(((Om (if a=16 then 255 else a) (if b=16 then 255 else b)).toNat:Nat):Int):=by decide+kernel
 have h1:∃a',a'<17/\(if a'=16 then 255 else a')=a:=by
   rcases ha with h|h
   · exact⟨a,by omega,if_neg (by omega)⟩
   · exact⟨16,by decide,by rw[if_pos rfl,h]⟩
 have h2:∃b',b'<17/\(if b'=16 then 255 else b')=b:=by
   rcases hb with h|h
   · exact⟨b,by omega,if_neg (by omega)⟩
   · exact⟨16,by decide,by rw[if_pos rfl,h]⟩
 obtain⟨a',ha',rfl⟩:=h1
 obtain⟨b',hb',rfl⟩:=h2
 exact key a' ha' b' hb'
theorem wO (c:UInt8)(w:World):Cf nW #[.int .u8 ((c.toNat:Nat):Int)] w (Ret λv w'=>v=.int .u8 ((BT c:Nat):Int)/\w'=w):=by
 apply D9
 refine(Tryz.strings_IndexByte (mkS [48,49,50,51,52,53,54,55,56,57,65,66,67,68,69,70]) _ w).mono ?_
 rintro e w' ⟨rfl,rfl⟩
 refine⟨_,rfl,?_,rfl⟩
 rw[show((c.toNat:Nat):Int).toNat.toUInt8=c by simp]
 show Value.int .u8 (IntKind.u8.wrap (Lib.indexByte [48,49,50,51,52,53,54,55,56,57,65,66,67,68,69,70] c))=_
 rw[LX]
theorem Qm (s:List UInt8):Lib.trimSuffix s [37]=zR s:=by
 rw[(AX s 37).2]
 unfold zR
 split
 · rw[List.dropLast_eq_take]
 · rfl
theorem Ct (s:List UInt8)(hs:s.length <=10000000)(w:World):
   Cf oS #[vS s] w (Ret λv w'=>v=unT s/\bW w w'):=by
 apply Ap
 refine(Tryz.strings_TrimSuffix (mkS s) (mkS [37]) w (by show s.length <=_;omega)).mono ?_
 rintro e w1 ⟨rfl,rfl⟩
 refine⟨zR s,by rw[<- Qm];rfl,?_⟩
 have hcl:(zR s).length <=s.length:=by unfold zR;split <;> simp
 have bad:∀{u:World},unD (zR s)=none->bW w1 u->(.tuple #[vS [],.bool false]:Value)=unT s/\bW w1 u:=λe hb=>⟨by unfold unT unP;rw[e];rfl,hb⟩
 refine⟨λm a l c r w'=>∃out:List UInt8,unD (zR s)=(unD r).map (λt=>out++t)/\out.length+r.length <=(zR s).length/\m=r.length/\Ow tU8 bX w' NoB a l c out/\bg w1.heap.size a/\bW w1 w',
   ⟨_,[],by simp,by simp,rfl,Ow.nil _ _ _ _,bg.none _,Below.refl _ _⟩,?_⟩
 intro m a l c r
 refine aN.of ?_ _
 rintro w2 ⟨out,hD,hl,rfl,ho,hf,hB⟩
 refine ae.of (λh=>?_) (λh=>?_)
 · match r,h with
   | x::r,_=>
     have hx:eF (x::r) 0=((x.toNat:Nat):Int):=rfl
     simp only[List.length_cons]at hl
     refine⟨⟨by decide,by simp only[List.length_cons];omega⟩,?_⟩
     refine⟨λn u w'=>∃(y:UInt8) (q:List UInt8),n=((y.toNat:Nat):Int)/\u=((((x::r).length-q.length:Nat)):Int)/\q=(x::r).drop ((x::r).length-q.length)/\q.length<(x::r).length/\unD (x::r)=(unD q).map (λt=>y::t)/\bW w2 w',?_,?_⟩
     · rw[hx]
       refine ae.of (λh2=>?_) (λh2=>?_)
       · obtain rfl:x=37:=IE (by simpa using h2)
         refine ae.of (λh3=>?_) (λh3=>?_) <;> simp only[dTx,dFx]at h3
         · refine bad ?_ hB
           rw[hD,unD.eq_def]
           match r,h3 with
           | [],_=>rfl
           | [a],_=>rfl
           | a::b::r,h3=>simp only[List.length_cons]at h3;omega
         · match r,h3,hl with
           | [],h3,_=>simp at h3
           | [a],h3,_=>simp at h3
           | y::z::q,_,hl=>
             have hy:eF (37::y::z::q) 1=((y.toNat:Nat):Int):=rfl
             have hz:eF (37::y::z::q) 2=((z.toNat:Nat):Int):=rfl
             rw[hy,hz]
             refine⟨⟨by decide,by simp only[List.length_cons];omega⟩,_,λu hu=>aB (wO y u) (by rintro _ w' ⟨rfl,rfl⟩;exact⟨rfl,Below.refl _ _⟩),by decide,⟨by decide,by simp only[List.length_cons];omega⟩,_,λu hu=>aB (wO z u) (by rintro _ w' ⟨rfl,rfl⟩;exact⟨rfl,Below.refl _ _⟩),?_⟩
             intro wq hwq
             refine⟨Om (BT y) (BT z),q,L5 _ _ (N5 y) (N5 z),by simp only[List.length_cons];omega,by simp only[List.length_cons];rw[show q.length+1+1+1-q.length=3 by omega];rfl,by simp only[List.length_cons];omega,?_,hwq⟩
             rw[unD.eq_def];rfl
       · have hne:x≠37:=λe=>by subst e;cases h2
         refine⟨x,r,rfl,by simp only[List.length_cons];omega,by simp only[List.length_cons];rw[show r.length+1-r.length=1 by omega];rfl,by simp,?_,Below.refl _ _⟩
         rw[unD.eq_def]
         show(if x=37 then _ else _)=_
         rw[if_neg hne]
     · intro n u
       refine aN.of ?_ _
       rintro w3 ⟨y,q,rfl,rfl,hq,hql,hqD,hb3⟩
       have hB3:=ab hB hb3 hB.size
       intro k4 w4 hk4 hw4
       obtain⟨w5,a5,n5,c5,hr5,ho5,hf5,hb5⟩:=Cz (ty:=aY) (w0:=w1) (cm:=1) (vs:=[_]) FG cg mD (by decide) (ho.below hb3) hf hB3 hk4 hw4 (zl rfl) (by omega)
       refine⟨w5,a5,n5,c5,hr5,⟨by omega,by omega⟩,?_⟩
       rintro _ rfl
       rw[Int.toNat_natCast,<- hq]
       refine⟨q.length,hql,out++[y],?_,?_,rfl,ho5,hf5,hb5⟩
       · rw[hD,hqD,Option.map_map]
         congr 1
         funext t
         simp
       · simp only[List.length_append,List.length_cons,List.length_nil]at hql ⊢;omega
 · obtain rfl:r=[]:=by simpa using h
   have hD:unD (zR s)=some out:=by rw[hD,unD];simp
   have hol:out.length <=10000000:=by simp at hl;omega
   refine⟨_,vL cg aF cH ho.all,?_⟩
   refine aB (F5 out (by omega) w2) ?_
   rintro _ w3 ⟨rfl,hb3⟩
   have hB3:=ab hB hb3 hB.size
   refine⟨_,rfl,?_⟩
   refine ae.of (λh2=>?_) (λh2=>?_)
   · have h2:(IV out==s)=false:=by simpa using h2
     refine⟨?_,hB3⟩
     unfold unT unP
     rw[hD,Option.filter_some,h2];rfl
   · have h2:(IV out==s)=true:=by simpa using h2
     refine⟨_,vL cg aF cH (ho.below hb3).all,?_,hB3⟩
     unfold unT unP
     rw[hD,Option.filter_some,h2];rfl
theorem Oz {x y:List UInt8}(h:mkS x=mkS y):x=y:=by
 have:=congrArg (λb:ByteArray=>b.data.toList) h
 simpa[mkS]using this
theorem Js {w:World}{A:Bl}{a:Option Addr}{n c:Nat}{xs:List (List UInt8)}(ho:Sl tS w A a n c xs)(hne:xs≠[]):
   ∃b off,a=some ⟨b,off,none⟩/\∀j,j<(xs.map mkS).length->w.cell? ⟨b,off+j,none⟩=some (.string ((xs.map mkS).getD j ByteArray.empty)):=by
 obtain⟨hn,hnc,hcm,h4⟩:=ho
 rcases h4 with h4|⟨b,off,rfl,hbl,_,cs,hcs,hcell⟩
 · exact absurd h4 hne
 · have he:=fx hcs
   refine⟨b,off,rfl,λj hj=>?_⟩
   rw[List.length_map]at hj
   rw[hcell j (by rw[he];simpa using hj),he,List.getElem?_map,List.getElem?_eq_getElem hj,List.getD_eq_getElem?_getD,List.getElem?_map,List.getElem?_eq_getElem hj];rfl
theorem OM {t:TypeId}{w:World}{B n:Nat}{v:Value}{xs:List (List UInt8)}(h:w.ownsRow B t 1 v n (xs.map λx=>vS x))(hn:n=xs.length):
   ∃a c,v=.slice a n c/\Ow tS t w NoB a n c xs/\bg B a:=by
 rcases h.2 with⟨rfl,h0⟩|⟨g,cap,cur,rfl,hb,hg,hle,hm,hs,ht⟩
 · have:xs=[]:=List.eq_nil_of_length_eq_zero (by omega)
   subst this
   exact⟨none,0,by rw[h0],by rw[h0];exact Ow.nil _ _ _ _,bg.none _⟩
 · refine⟨_,cap,rfl,⟨hn,hle,hm,.inr ⟨g,cur,(0,0),rfl,hg,λi _=>by simp,by show cur.size=cap*1;simpa using hs,?_⟩⟩,λx hx=>by simp[dV]at hx;omega⟩
   show kg _ _ _ (cur.toList.take (n*1)) xs
   rw[ht];exact mj λ_ _=>trivial
theorem kg.takeJ {α:Type}{T:Ty α}{w:World}{A:Bl}{l:List Value}{xs:List α}(h:kg T w A l xs){j:Nat}(hj:j <=xs.length):kg T w A (l.take (j*T.k)) (xs.take j):=by
 have hle:j*T.k <=xs.length*T.k:=Nat.mul_le_mul_right _ hj
 refine⟨by rw[List.length_take,List.length_take,h.len,Nat.min_eq_left hle,Nat.min_eq_left hj],λi hi=>?_⟩
 rw[List.length_take,Nat.min_eq_left hj]at hi
 have:=h.rep i (by omega)
 have h2:(i+1)*T.k <=j*T.k:=Nat.mul_le_mul_right _ hi
 rw[Nat.succ_mul]at h2
 rw[List.getElem_take,List.drop_take,List.take_take,Nat.min_eq_left (by omega)]
 exact this
theorem Ow.takeJ {α:Type}{T:Ty α}{t:TypeId}{w:World}{A:Bl}{a:Option Addr}{n c:Nat}{xs:List α}(h:Ow T t w A a n c xs){j:Nat}(hj:j <=xs.length):Ow T t w A a j c (xs.take j):=by
 obtain⟨hn,hnc,hcm,h4⟩:=h
 refine⟨by rw[List.length_take,Nat.min_eq_left hj],by omega,hcm,?_⟩
 rcases h4 with⟨e1,e2,e3⟩|⟨g,cur,fr,e,hg,hf,hs,hr⟩
 · exact .inl ⟨e1,e2,by rw[e3];simp⟩
 · refine .inr ⟨g,cur,fr,e,hg,hf,hs,?_⟩
   have:=hr.takeJ hj
   rwa [List.take_take,Nat.min_eq_left (by rw[hn];exact Nat.mul_le_mul_right _ hj)]at this
theorem BB {w:World}{A:Bl}{a:Option Addr}{n c:Nat}{xs:List (List UInt8)}(ho:Sl tS w A a n c xs)(x:List UInt8)(hx:xs.length <=9223372036854775807):
   Cf dG #[.slice a n c,vS x] w (Ret λv w'=>v=.bool (decide (x∈xs))/\w'=w):=by
 have hn:=ho.1
 subst hn
 by_cases hne:xs=[]
 · subst hne
   refine(Tryz.slices_Contains_string_empty a c (mkS x) w).mono ?_
   rintro _ _ ⟨rfl,rfl⟩
   exact⟨_,rfl,by simp,rfl⟩
 · obtain⟨b,off,rfl,hc⟩:=Js ho hne
   refine(Tryz.slices_Contains_string b off xs.length c (xs.map mkS) (mkS x) w (by simp) hx hc).mono ?_
   rintro _ _ ⟨rfl,rfl⟩
   refine⟨_,rfl,?_,rfl⟩
   congr 1
   rw[Bool.eq_iff_iff,Lib.containsS_iff,dTx,List.take_of_length_le (by simp),List.mem_map]
   exact⟨λ⟨y,hy,e⟩=>Oz e▸hy,λh=>⟨x,h,rfl⟩⟩
theorem ux (s:List UInt8)(hs:s.length <=10000000)(w:World)(he:Env w):
   Cf mv #[vS s] w (Ret λv w'=>(if([]:List UInt8)∈dz 32 [] s then v=.tuple #[.slice none 0 0,.bool false]else ∃a n c,v=.tuple #[.slice a n c,.bool true]/\Ow tS ak w' NoB a n c (dz 32 [] s)/\bg w.heap.size a)/\bW w w'):=by
 apply CO
 refine aB (dQ s 32 (by omega) w he) ?_
 rintro _ w1 ⟨a,n,c,rfl,ho,hf,hb⟩
 refine⟨_,_,_,rfl,?_⟩
 refine aB (BB ho.all [] (by have:=dZ 32 s [];omega)) ?_
 rintro _ w2 ⟨rfl,rfl⟩
 refine⟨_,rfl,ae.of (λh=>?_) (λh=>?_)⟩
 · refine⟨?_,hb⟩
   rw[if_pos (of_decide_eq_true h)]
 · refine⟨?_,hb⟩
   rw[if_neg (of_decide_eq_false h)];exact⟨_,_,_,rfl,ho,hf⟩
theorem Qj {w:World}{a:Option Addr}{n c:Nat}{xs:List (List UInt8)}(ho:Ow tS ak w NoB a n c xs)(hx:xs.length <=100000000):
   Cf hX #[.slice a n c] w (Ret λv w'=>∃a' n' c',v=.slice a' n' c'/\Ow tS ak w' NoB a' n' c' xs/\bg w.heap.size a'/\bW w w'):=by
 have hn:=ho.len
 subst hn
 by_cases hne:xs=[]
 · subst hne
   cases a with
   | none=>
     refine(Tryz.slices_Clone_string_nil 0 c w).mono ?_
     rintro _ _ ⟨rfl,rfl⟩
     exact⟨_,rfl,_,_,_,rfl,Ow.nil _ _ _ _,bg.none _,Below.refl _ _⟩
   | some a=>
     refine(Tryz.slices_Clone_string_zero a c w).mono ?_
     rintro _ w' ⟨v',rfl,hr,_,hb⟩
     obtain⟨a',c',rfl,ho',hf'⟩:=OM (xs:=[]) hr rfl
     exact⟨_,rfl,_,_,_,rfl,ho',hf',hb⟩
 · obtain⟨b,off,rfl,hc⟩:=Js ho.all hne
   refine(Tryz.slices_Clone_string b off xs.length c (xs.map mkS) w (by simp) (by omega) hc).mono ?_
   rintro _ w' ⟨v',rfl,hr,_,hb⟩
   rw[List.take_of_length_le (by simp),List.map_map]at hr
   obtain⟨a',c',rfl,ho',hf'⟩:=OM (xs:=xs) hr rfl
   exact⟨_,rfl,_,_,_,rfl,ho',hf',hb⟩
theorem Mu {L:List (List UInt8)}{f:List UInt8->List UInt8}{k:Nat}(h:k<L.length):((L.take k).map f++L.drop k).set k (f L[k])=(L.take (k+1)).map f++L.drop (k+1):=by
 rw[List.set_append_right _ _ (by simp;omega),List.length_map,List.length_take,Nat.min_eq_left (by omega),Nat.sub_self,List.drop_eq_getElem_cons h,List.set_cons_zero,List.take_succ_eq_append_getElem h,List.map_append,List.append_assoc];rfl
theorem pe (s:List UInt8)(hs:s.length <=10000000)(w:World)(he:Env w):
   Cf jL #[vS s] w (Ret λv w'=>∃a n cp,v=.slice a n cp/\Ow tS ak w' NoB a n cp (nk s)/\bg w.heap.size a/\bW w w'):=by
 apply CL
 refine aB (dQ s 10 (by omega) w he) ?_
 rintro _ w1 ⟨a,n,c,rfl,ho,hf,hb⟩
 have hn:=ho.len
 subst hn
 refine⟨_,_,_,rfl,?_⟩
 have hne:=oF 10 s []
 have hcnt:=dZ 10 s []
 have hpl:=jE 10 s []
 have hlin:nk s=((if(dz 10 [] s).getLast?=some []then(dz 10 [] s).dropLast else dz 10 [] s)).map zS:=rfl
 revert ho hne hcnt hpl hlin
 generalize dz 10 [] s=L
 intro ho hne hcnt hpl hlin
 have hpos:0<L.length:=List.length_pos_iff.2 hne
 have hcap:=ho.2.1
 have e1:i64.wrap (((L.length:Nat):Int)-(1:Int))=((L.length-1:Nat):Int):=by rw[wrap_i64 (by omega) (by omega)];omega
 refine⟨λa3 l3 c3 w'=>w'=w1/\∃M:List (List UInt8),nk s=M.map zS/\(∀x∈M,x.length <=s.length)/\M.length <=s.length+1/\a3=a/\Ow tS ak w1 NoB a3 l3 c3 M,?_,?_⟩
 · obtain⟨v,hv,hrep⟩:=ho.all.load1 (i:=((L.length-1:Nat):Int)) aF rfl rfl (by simp;omega)
   obtain⟨rfl,_⟩:=CU hrep
   simp only[Int.toNat_natCast]at hv
   rw[e1]
   refine⟨⟨⟨by omega,by omega⟩,ho.all.isSome (i:=0) hpos⟩,_,hv,?_⟩
   have hmem:∀x∈L,x.length <=s.length:=λx hx=>by have:=hpl x hx;simpa using this
   refine ae.of (λh=>?_) (λh=>?_)
   · have h:L[L.length-1]'(by omega)=[]:=eq_of_beq h
     refine⟨⟨by omega,by omega⟩,rfl,L.dropLast,?_,λx hx=>hmem x (List.dropLast_subset _ hx),by rw[List.length_dropLast];omega,rfl,?_⟩
     · rw[hlin,if_pos (EB hpos h)]
     · rw[List.dropLast_eq_take,Int.toNat_natCast];exact ho.takeJ (by omega)
   · refine⟨rfl,L,?_,hmem,hcnt,rfl,ho⟩
     rw[hlin,if_neg]
     rw[EB hpos rfl]
     intro e
     rw[Option.some.inj e]at h;cases h
 · intro a3 l3 c3
   refine aN.of ?_ _
   rintro w2 ⟨rfl,M,hM,hMl,hMn,rfl,hoM⟩
   have hl3:=hoM.len
   subst hl3
   refine⟨λm i w'=>∃k:Nat,k <=M.length/\i=(k:Int)/\m=M.length-k/\Ow tS ak w' NoB a3 M.length c3 ((M.take k).map zS++M.drop k)/\bW w w',
     ⟨_,0,by omega,rfl,rfl,hoM,hb⟩,?_⟩
   intro m i
   refine aN.of ?_ _
   rintro w3 ⟨k,hk,rfl,rfl,ho3,hB3⟩
   have hlen3:((M.take k).map zS++M.drop k).length=M.length:=by simp;omega
   refine ae.of (λh=>?_) (λh=>?_) <;> simp only[dTx,dFx]at h
   · have hlt:k<M.length:=by omega
     have hget:((M.take k).map zS++M.drop k)[k]'(by omega)=M[k]:=by
       rw[List.getElem_append_right (by simp;omega)]
       simp[Nat.min_eq_left (Nat.le_of_lt hlt)]
     obtain⟨v,hv,hrep⟩:=ho3.all.load1 (i:=(k:Int)) aF rfl rfl (by rw[Int.toNat_natCast,hlen3];exact hlt)
     obtain⟨rfl,_⟩:=CU hrep
     simp only[Int.toNat_natCast]at hv
     rw[hget]at hv
     have hmk:=hMl M[k] (List.getElem_mem hlt)
     refine⟨⟨⟨by omega,h⟩,ho3.all.isSome (i:=k) (by omega)⟩,_,hv,?_⟩
     refine(Tryz.strings_TrimSuffix (mkS M[k]) (mkS [13]) w3 (by show(M[k]).length <=_;omega)).mono ?_
     rintro _ w4 ⟨rfl,rfl⟩
     refine⟨zS M[k],?_,⟨⟨by omega,h⟩,ho3.all.isSome (i:=k) (by omega)⟩,?_⟩
     · show Ending.returned (vS (Lib.trimSuffix M[k] [13]))=_
       rw[(AX M[k] 13).2,zS]
       split
       · rw[List.dropLast_eq_take]
       · rfl
     · obtain⟨w5,hs5,ho5,hg5⟩:=ho3.store (P:=prog) eG (λ_ _ h=>h) (i:=(k:Int)) (by rw[Int.toNat_natCast,hlen3];exact hlt) (k:=1) rfl (v:=vS (zS M[k])) (x:=zS M[k]) (qO trivial)
       refine⟨w5,hs5,M.length-(k+1),by omega,k+1,by omega,by rw[wrap_i64 (by omega) (by omega)];omega,rfl,?_,hB3.grown hg5 hB3.size hf⟩
       rw[Int.toNat_natCast,Mu hlt]at ho5
       exact ho5
   · have:k=M.length:=by omega
     subst this
     rw[List.take_length,List.drop_length,List.append_nil,<- hM]at ho3
     have hll:=ho3.len
     refine aB (Qj ho3 (by omega)) ?_
     rintro _ w4 ⟨a',n',c',rfl,ho4,hf4,hb4⟩
     exact⟨_,_,_,rfl,_,_,_,rfl,ho4,hf4.mono hB3.size,ab hB3 hb4 hB3.size⟩
open Go.ChangeMaps (setBlock)
section
variable {α β:Type} [DecidableEq α]
def zP (ek:α->Value)(ev:β->Value)(w:World)(r:Nat)(kvs:List (α×β)):Prop:=
 ∃es clock,w.heap[r]? =some (.map es clock)/\KVg ek ev es.toList kvs/\(es.toList.map (·.born)).Nodup/\∀e∈es.toList,e.born<clock
variable {ek:α->Value} {ev:β->Value}
theorem zP.g {w:World}{r:Nat}{kvs:List (α×β)}(h:zP ek ev w r kvs):xR ek ev w r kvs:=by
 obtain⟨es,c,hh,hk,_⟩:=h
 exact⟨es,c,hh,hk⟩
theorem zP.lt {w:World}{r:Nat}{kvs:List (α×β)}(h:zP ek ev w r kvs):r<w.heap.size:=h.g.lt
theorem zP.keep {w w':World}{r:Nat}{kvs:List (α×β)}(h:zP ek ev w r kvs)(hb:w'.heap[r]? =w.heap[r]?):zP ek ev w' r kvs:=by
 obtain⟨es,c,hh,hk⟩:=h
 exact⟨es,c,hb.trans hh,hk⟩
theorem zP.below {w w':World}{r:Nat}{kvs:List (α×β)}(h:zP ek ev w r kvs)(hb:bW w w'):zP ek ev w' r kvs:=h.keep (hb.block r h.lt)
theorem zP.grown {w w':World}{r:Nat}{kvs:List (α×β)}(h:zP ek ev w r kvs){k:Nat}(hg:w.grownBy w' (some k))(hne:r≠k):zP ek ev w' r kvs:=h.keep (hg.block r h.lt λe=>hne (Option.some.inj e))
theorem zP.new {w w':World}{r:Nat}(hr:r=w.heap.size)(hw:w'=w.alloc (.map #[] 0)):zP ek ev w' r []:=by
 subst hr hw
 exact⟨#[],0,heap_alloc_new w _,rfl,List.nodup_nil,λe he=>by cases he⟩
theorem TA {es:List MapEntry}{kvs:List (α×β)}(h:KVg ek ev es kvs):es.length=kvs.length:=by
 have:=congrArg List.length h
 simpa using this
theorem yJ {P:Program}{w:World}{r:Nat}{es:Array MapEntry}{c:Nat}(h:w.heap[r]? =some (.map es c))(o:Obj):(setObj r o).run P w=.ok () { w with heap:=w.heap.setIfInBounds r o } :=by
 simp only[setObj,Sem.run,h]
theorem BR {w:World}{r:Nat}(o:Obj):w.grownBy { w with heap:=w.heap.setIfInBounds r o } (some r):=
 ⟨rfl,rfl,rfl,by simp,λj hj hne=>by
   have:r≠j:=λe=>hne (by rw[e])
   simp[Array.getElem?_setIfInBounds_ne this]⟩
def upG (k:α)(v:β)(kvs:List (α×β)):List (α×β):=match ma k kvs 0 with
 | some (i,_)=>kvs.set i (k,v)
 | none=>kvs++[(k,v)]
theorem Cl (k:α):∀(l:List (α×β)) (i j:Nat) (v:β),ma k l i=some (j,v)->i <=j/\l[j-i]? =some (k,v)
 | [],i,j,v,h=>by cases h
 | (k',v')::l,i,j,v,h=>by
   unfold ma at h
   split at h
   · rename_i e
     subst e
     cases h
     exact⟨Nat.le_refl _,by rw[Nat.sub_self];rfl⟩
   · obtain⟨h1,h2⟩:=Cl k l (i+1) j v h
     refine⟨by omega,?_⟩
     rw[show j-i=(j-(i+1))+1 by omega,List.getElem?_cons_succ]
     exact h2
theorem EG {es:List MapEntry}{kvs:List (α×β)}(h:KVg ek ev es kvs){i:Nat}{k:α}{v v':β}(hi:kvs[i]? =some (k,v'))(f:MapEntry->MapEntry)(hf:∀e,e.key=ek k->(f e).key=ek k/\(f e).val=ev v):KVg ek ev (es.modify i f) (kvs.set i (k,v)):=by
 unfold KVg at h ⊢
 apply List.ext_getElem?
 intro j
 have hj:=congrArg (λl=>l[j]?) h
 simp only[List.getElem?_map]at hj ⊢
 rw[List.getElem?_modify,List.getElem?_set]
 by_cases e:i=j
 · subst e
   rw[if_pos rfl]
   rw[hi]at hj
   cases he:es[i]? with
   | none=>rw[he]at hj;cases hj
   | some x=>
     rw[he]at hj
     have hx:x.key=ek k:=congrArg Prod.fst (Option.some.inj hj)
     obtain⟨f1,f2⟩:=hf x hx
     have hlt:i<kvs.length:=(List.getElem?_eq_some_iff.1 hi).1
     rw[if_pos hlt]
     simp[f1,f2]
 · rw[if_neg e]
   cases he:es[j]? with
   | none=>rw[he]at hj;simpa using hj
   | some x=>rw[he]at hj;simpa[e]using hj
theorem mK (es:List MapEntry)(i:Nat)(f:MapEntry->MapEntry)(hf:∀e,(f e).born=e.born):(es.modify i f).map (·.born)=es.map (·.born):=by
 apply List.ext_getElem?
 intro j
 rw[List.getElem?_map,List.getElem?_map,List.getElem?_modify]
 cases es[j]? with
 | none=>rfl
 | some x=>by_cases e:i=j <;> simp[e,hf]
theorem Nf {es es':List MapEntry}{c:Nat}(h:∀e∈es,e.born<c)(he:es'.map (·.born)=es.map (·.born)):∀e∈es',e.born<c:=λe hm=>by
 have:e.born∈es.map (·.born):=by rw[<- he];exact List.mem_map.2 ⟨e,hm,rfl⟩
 obtain⟨x,hx,hxe⟩:=List.mem_map.1 this
 rw[<- hxe];exact h x hx
theorem stays {P:Program}{v:Value}(h:Instr.sameBits 10000 v v=true)(w:World):(Instr.keyThatStays v v).run P w=.ok v w:=by
 unfold Instr.keyThatStays
 rw[if_pos h];rfl
end
theorem sQ {α:Type}{l:List α}{t i:Nat}{v y:α}(h:(l.set t v)[i]? =some y):i=t/\y=v\/i≠t/\l[i]? =some y:=by
 by_cases e:i=t
 · subst e
   left
   have hl:i<l.length:=by have:=(List.getElem?_eq_some_iff.1 h).1;simpa using this
   rw[List.getElem?_set_self hl]at h
   exact⟨rfl,(Option.some.inj h).symm⟩
 · rw[List.getElem?_set_ne (λe2=>e e2.symm)]at h
   exact .inr ⟨e,h⟩
theorem fU {a:Option Addr}{b:Nat} :b∈(dV a).toList ↔ dV a=some b:=by simp
structure Pt where
 fp:List Nat
 P:World->Prop
 st:∀{w w':World},P w->vV (λb=>b∈fp) w w'->P w'
 lt:∀{w:World},P w->∀b∈fp,b<w.heap.size
def ptA (k:Nat)(t:TypeId)(vs:List Value):Pt where
 fp:=[k]
 P:=λw=>ai w k t vs
 st:=λh hk=>h.block (hk.block k h.lt List.mem_cons_self)
 lt:=λh b hb=>by rw[List.mem_singleton]at hb;subst hb;exact h.lt
def ptO {α:Type}(T:Ty α)(t:TypeId)(a:Option Addr)(n c:Nat)(xs:List α):Pt where
 fp:=(dV a).toList
 P:=λw=>Ow T t w NoB a n c xs
 st:=λh hk=>h.keep (hk.mono λb hb=>by
   rcases hb with hb|hb
   · exact hb.elim
   · exact fU.2 hb.symm)
 lt:=λh b hb=>h.lt b (fU.1 hb)
structure St (ps:List Pt)(w:World):Prop where
 hold:∀p∈ps,p.P w
 ap:∀(i j:Nat) (p q:Pt),ps[i]? =some p->ps[j]? =some q->i≠j->∀b∈p.fp,b ∉ q.fp
theorem St.at {ps:List Pt}{w:World}(h:St ps w)(i:Nat){p:Pt}(hi:ps[i]? =some p):p.P w:=h.hold p (List.mem_of_getElem? hi)
theorem St.nil (w:World):St [] w:=⟨λp hp=>(by cases hp),λi j p q hp=>by simp at hp⟩
theorem St.upd {ps:List Pt}{w w':World}(h:St ps w)(i:Nat){p p':Pt}(hi:ps[i]? =some p)(hc:Chg p.fp w w')(hp:p'.P w')(hf:∀b∈p'.fp,b∈p.fp\/w.heap.size <=b):St (ps.set i p') w':=by
 have old:∀(j:Nat) (q:Pt),ps[j]? =some q->j≠i->q.P w'/\∀b∈p'.fp,b ∉ q.fp:=λj q hq hne=>by
   have hq0:=h.at j hq
   refine⟨q.st hq0 (hc.keep.mono λb hb hb2=>h.ap j i q p hq hi hne b hb hb2),λb hb hb2=>?_⟩
   rcases hf b hb with h1|h1
   · exact h.ap j i q p hq hi hne b hb2 h1
   · have:=q.lt hq0 b hb2;omega
 refine⟨λq hq=>?_,λj k q r hq hr hne b hb hb2=>?_⟩
 · obtain⟨j,hj⟩:=List.mem_iff_getElem?.1 hq
   rcases sQ hj with⟨_,rfl⟩|⟨hne,hj⟩
   · exact hp
   · exact(old j q hj hne).1
 · rcases sQ hq with⟨e1,rfl⟩|⟨hn1,hq1⟩ <;> rcases sQ hr with⟨e2,rfl⟩|⟨hn2,hr1⟩
   · omega
   · exact(old k r hr1 hn2).2 b hb hb2
   · exact(old j q hq1 hn1).2 b hb2 hb
   · exact h.ap j k q r hq1 hr1 hne b hb hb2
theorem St.keep {ps:List Pt}{w w':World}(h:St ps w)(hk:vV (λb=>∃p∈ps,b∈p.fp) w w'):St ps w':=
 ⟨λp hp=>p.st (h.hold p hp) (hk.mono λb hb=>⟨p,hp,hb⟩),h.ap⟩
theorem St.below {ps:List Pt}{w w':World}(h:St ps w)(hb:bW w w'):St ps w':=h.keep (xU hb _)
theorem St.add {ps:List Pt}{w w':World}(h:St ps w)(hb:bW w w'){p:Pt}(hp:p.P w')(hf:∀b∈p.fp,w.heap.size <=b):St (p::ps) w':=by
 refine⟨λq hq=>?_,λi j q r hq hr hne b hb1 hb2=>?_⟩
 · rcases List.mem_cons.1 hq with rfl|hq
   · exact hp
   · exact(h.below hb).hold q hq
 · cases i with
   | zero=>
     cases j with
     | zero=>exact hne rfl
     | succ j=>
       simp only[List.getElem?_cons_zero,List.getElem?_cons_succ,Option.some.injEq]at hq hr
       subst hq
       have:=r.lt (h.at j hr) b hb2
       have:=hf b hb1
       omega
   | succ i=>
     cases j with
     | zero=>
       simp only[List.getElem?_cons_zero,List.getElem?_cons_succ,Option.some.injEq]at hq hr
       subst hr
       have:=q.lt (h.at i hq) b hb1
       have:=hf b hb2
       omega
     | succ j=>
       simp only[List.getElem?_cons_succ]at hq hr
       exact h.ap i j q r hq hr (by omega) b hb1 hb2
theorem St.sub {ps qs:List Pt}{w:World}(h:St ps w)(f:Nat->Nat)(hf:∀i q,qs[i]? =some q->ps[f i]? =some q)(hi:∀i j,i<qs.length->j<qs.length->f i=f j->i=j):St qs w:=by
 refine⟨λq hq=>?_,λi j p q hp hq hne=>?_⟩
 · obtain⟨i,hi⟩:=List.mem_iff_getElem?.1 hq
   exact h.at (f i) (hf i q hi)
 · have l1:=(List.getElem?_eq_some_iff.1 hp).1
   have l2:=(List.getElem?_eq_some_iff.1 hq).1
   exact h.ap (f i) (f j) p q (hf i p hp) (hf j q hq) λe=>hne (hi i j l1 l2 e)
theorem St.tail {p:Pt}{ps:List Pt}{w:World}(h:St (p::ps) w):St ps w:=h.sub (· +1) (λi q hq=>by rw[List.getElem?_cons_succ];exact hq) λi j _ _ e=>by omega
theorem St.low {ps:List Pt}{B:Nat}(hB:∀p∈ps,∀b∈p.fp,B <=b){i:Nat}{p:Pt}(hi:ps[i]? =some p):∀b∈p.fp,B <=b:=hB p (List.mem_of_getElem? hi)
structure Sp (w0:World)(ps:List Pt)(w:World):Prop where
 st:St ps w
 low:∀p∈ps,∀b∈p.fp,w0.heap.size <=b
 bw:bW w0 w
theorem Sp.at {w0 w:World}{ps:List Pt}(h:Sp w0 ps w)(i:Nat){p:Pt}(hi:ps[i]? =some p):p.P w:=h.st.at i hi
theorem Sp.below {w0 w w':World}{ps:List Pt}(h:Sp w0 ps w)(hb:bW w w'):Sp w0 ps w':=⟨h.st.below hb,h.low,ab h.bw hb h.bw.size⟩
theorem Sp.upd {w0 w w':World}{ps:List Pt}(h:Sp w0 ps w)(i:Nat){p p':Pt}(hi:ps[i]? =some p)(hc:Chg p.fp w w')(hp:p'.P w')(hf:∀b∈p'.fp,b∈p.fp\/w.heap.size <=b):Sp w0 (ps.set i p') w':=by
 have hl:=h.low p (List.mem_of_getElem? hi)
 refine⟨h.st.upd i hi hc hp hf,λq hq b hb=>?_,h.bw.trans (hc.below h.bw.size hl)⟩
 obtain⟨j,hj⟩:=List.mem_iff_getElem?.1 hq
 rcases sQ hj with⟨_,rfl⟩|⟨_,hj⟩
 · rcases hf b hb with e|e
   · exact hl b e
   · have:=h.bw.size;omega
 · exact h.low q (List.mem_of_getElem? hj) b hb
theorem Sp.add {w0 w w':World}{ps:List Pt}(h:Sp w0 ps w)(hb:bW w w'){p:Pt}(hp:p.P w')(hf:∀b∈p.fp,w.heap.size <=b):Sp w0 (p::ps) w':=
 ⟨h.st.add hb hp hf,λq hq b hb2=>by
   have:=h.bw.size
   rcases List.mem_cons.1 hq with rfl|hq
   · have:=hf b hb2;omega
   · exact h.low q hq b hb2,ab h.bw hb h.bw.size⟩
theorem Sp.nil (w:World):Sp w [] w:=⟨St.nil w,λp hp=>(by cases hp),Below.refl _ _⟩
theorem Sp.sub {w0 w:World}{ps qs:List Pt}(h:Sp w0 ps w)(f:Nat->Nat)(hf:∀i q,qs[i]? =some q->ps[f i]? =some q)(hi:∀i j,i<qs.length->j<qs.length->f i=f j->i=j):Sp w0 qs w:=
 ⟨h.st.sub f hf hi,λq hq b hb=>by
   obtain⟨i,hi⟩:=List.mem_iff_getElem?.1 hq
   exact h.low q (List.mem_of_getElem? (hf i q hi)) b hb,h.bw⟩
theorem Sp.tail {w0 w:World}{p:Pt}{ps:List Pt}(h:Sp w0 (p::ps) w):Sp w0 ps w:=h.sub (· +1) (λi q hq=>by rw[List.getElem?_cons_succ];exact hq) λi j _ _ e=>by omega
theorem Sp.put {P:Program}{u:TypeId}{bytes:Nat}{z:Value}(tf:TF P u 1 bytes z){w0 w:World}{ps:List Pt}(h:Sp w0 ps w)(j:Nat){k:Nat}{t:TypeId}{vs:List Value}(hj:ps[j]? =some (ptA k t vs)){i:Nat}{v:Value}(hv:v.cells= #[v])(h1:v.oneCell'=true)(hi:i<vs.length):
   ∃wx,(Instr.storeAt u (.pointer (some ⟨k,i,none⟩)) v).run P w=.ok () wx/\Sp w0 (ps.set j (ptA k t (vs.set i v))) wx/\w.grownBy wx (some k):=by
 have hA:ai w k t vs:=h.at j hj
 obtain⟨wx,q,A,g⟩:=hA.store tf (i:=i) (v:=v) (by rw[hv];rfl) (by omega) (by intro c hc;rw[hv]at hc;simp at hc;subst hc;exact h1)
 refine⟨wx,q,h.upd j hj (Chg.grown g List.mem_cons_self) ?_ λb hb=>.inl hb,g⟩
 show ai wx k t (vs.set i v)
 rw[List.set_eq_take_append_cons_drop,if_pos hi]
 rw[hv]at A
 simpa using A
theorem St.merge {p q r:Pt}{ps:List Pt}{w:World}(h:St (p::ps) w)(i:Nat)(hi:ps[i]? =some q)(hr:r.P w)(hf:∀b∈r.fp,b∈p.fp\/b∈q.fp):St (ps.set i r) w:=by
 have key:∀(j:Nat) (x:Pt),ps[j]? =some x->j≠i->∀b∈r.fp,b ∉ x.fp:=λj x hx hne b hb hb2=>by
   rcases hf b hb with h1|h1
   · exact h.ap 0 (j+1) p x rfl (by simpa using hx) (by omega) b h1 hb2
   · exact h.ap (i+1) (j+1) q x (by simpa using hi) (by simpa using hx) (by omega) b h1 hb2
 refine⟨λx hx=>?_,λj k x y hx hy hne b hb hb2=>?_⟩
 · obtain⟨j,hj⟩:=List.mem_iff_getElem?.1 hx
   rcases sQ hj with⟨_,rfl⟩|⟨_,hj⟩
   · exact hr
   · exact h.tail.at j hj
 · rcases sQ hx with⟨e1,rfl⟩|⟨hn1,hx1⟩ <;> rcases sQ hy with⟨e2,rfl⟩|⟨hn2,hy1⟩
   · omega
   · exact key k y hy1 hn2 b hb hb2
   · exact key j x hx1 hn1 b hb2 hb
   · exact h.tail.ap j k x y hx1 hy1 hne b hb hb2
theorem Sp.merge {p q r:Pt}{ps:List Pt}{w0 w:World}(h:Sp w0 (p::ps) w)(i:Nat)(hi:ps[i]? =some q)(hr:r.P w)(hf:∀b∈r.fp,b∈p.fp\/b∈q.fp):Sp w0 (ps.set i r) w:=
 ⟨h.st.merge i hi hr hf,λx hx b hb=>by
   obtain⟨j,hj⟩:=List.mem_iff_getElem?.1 hx
   rcases sQ hj with⟨_,rfl⟩|⟨_,hj⟩
   · rcases hf b hb with h1|h1
     · exact h.low p List.mem_cons_self b h1
     · exact h.low q (List.mem_cons_of_mem _ (List.mem_of_getElem? hi)) b h1
   · exact h.low x (List.mem_cons_of_mem _ (List.mem_of_getElem? hj)) b hb,h.bw⟩
theorem T8 {α:Type}{T:Ty α}(hfl:Flat T){P:Program}{st t ty:TypeId}{bytes:Nat}{z:Value}(hu:P.underlying st=some (.slice t))(tf:TF P t T.k bytes z)(hb0:0<bytes)
   {w w1:World} {a:Option Addr} {n c:Nat} {xs:List α} (ho:Ow T t w NoB a n c xs) {k1:Nat} {vs:List Value} {x:α} (hk:k1=w.heap.size)
   (hw:w1=w.alloc (.cells vs.toArray t)) (hx:T.rep w NoB vs x) {cm:Nat} (hbound:(xs.length+1)*bytes <=140737488355328):
   Chg (dV a).toList w w1/\∃(w2:World) (a':Option Addr) (n' c':Nat),(Builtin.append_ #[st,st] ty #[.slice a n c,.slice (some ⟨k1,0,none⟩) 1 cm]).run P w1=.ok (.slice a' n' c') w2/\Ow T t w2 NoB a' n' c' (xs++[x])/\Chg (dV a).toList w w2/\u6 w a a':=by
 have hB1:bW w w1:=hw▸ah w _
 have hsrc:Src T w1 NoB (some ⟨k1,0,none⟩) 1 [x]:=Src.new1F hfl hk hw hx
 obtain⟨w4,a4,n4,c4,hr,ho4,hgr,hfr⟩:=dF (ty:=ty) hu tf hb0 (ho.below hB1) (λ_ _ h=>h) (cm:=cm) hsrc (by simpa using hbound)
 have c1:Chg (dV a).toList w w1:=Chg.of hB1
 exact⟨c1,w4,a4,n4,c4,hr,ho4,c1.trans (Chg.row hgr),λg hg=>(hfr g hg).imp id λh=>Nat.le_trans hB1.size h⟩
theorem u6.fp {w:World}{a a':Option Addr}(h:u6 w a a'):∀b∈(dV a').toList,b∈(dV a).toList\/w.heap.size <=b:=λb hb=>(h b (fU.1 hb)).imp fU.2 id
def gI (a:Option Addr)(b c:Int)(d:World)(e:VP)(f:List PanicEntry->World->Prop):Prop:=(Option.isSome a=true)/\(Option.isSome a=true)/\∃g h i,Ld aw (Option.map (λj=>j.add 3) a) d (.slice g h i)/\bd c ((i:Nat):Int)/\∃j:Nat->FP [.one (.int .i64),.one (.int .i64)],(∃k,j k (1:Int) (0:Int) d)/\∀k l m,aN 10 (∀n,j k l m n->ae (decide (m<(((Int.toNat c):Nat):Int))) ((bx m (((Int.toNat c):Nat):Int)/\Option.isSome g=true)/\∃o,Ld ak (am g m 1) n (vS o)/\∃p:Nat,p<k/\j p (i64.wrap (l+(i64.wrap (((List.length o:Nat):Int)+(1:Int))))) (i64.wrap (m+(1:Int))) n) ((Option.isSome a=true)/\(Option.isSome a=true)/\∃o,Ld aP (Option.map (λp=>p.add 2) a) n (vI o)/\f [{ v:=.iface aA (.agg #[vI b,vI o,vI l]),recovered:=false }] n))
theorem pW (p0:Option Addr)(n1:Int)(n2:Int){w:World}{K:Value->World->Prop}{X:List PanicEntry->World->Prop}(h:gI p0 n1 n2 w K X):Cf aI #[.pointer p0,vI n1,vI n2] w (Jb K X):=
 qj (c:=aq Tryz.f158) (by kernel_rfl) func158 (by kernel_rfl) [(6,[(6,.one (.int .i64)),(16,.one (.int .i64))]),(5000019,[])] [.pointer p0,vI n1,vI n2] (of_decide_eq_true (by kernel_rfl)) (gI p0 n1 n2 w K X) (by kernel_rfl) h
def gK (a:Option Addr)(b:Int)(c:World)(d:VP)(e:List PanicEntry->World->Prop):Prop:=(Option.isSome a=true)/\(Option.isSome a=true)/\∃f g h,Ld aw (Option.map (λi=>i.add 3) a) c (.slice f g h)/\(bx b ((g:Nat):Int)/\Option.isSome f=true)/\∃i,Ld ak (am f b 1) c (vS i)/\Cf oS #[vS i] c λj k=>∃l m,j=rT #[vS l,.bool m]/\ae (!m) (Cf aI #[.pointer a,vI 131,vI b] k λn o=>(n=rT #[]/\d (vS l) o)\/∃p,n=.panicked p/\e p o) (d (vS l) k)
theorem pY (p0:Option Addr)(n1:Int){w:World}{K:Value->World->Prop}{X:List PanicEntry->World->Prop}(h:gK p0 n1 w K X):Cf fi #[.pointer p0,vI n1] w (Jb K X):=
 qj (c:=aq Tryz.f247) (by kernel_rfl) func247 (by kernel_rfl) [(5000008,[])] [.pointer p0,vI n1] (of_decide_eq_true (by kernel_rfl)) (gK p0 n1 w K X) (by kernel_rfl) h
theorem j9 (a:lU)(b:Option Addr)(c d:Nat)(e:Option Addr){w K}(h:nA w (.cells #[vS a,.slice b c d] aG) λf g=>true/\∃i,Ld ak (vA f 0) g (vS i)/\∃j,Ld ak e g (vS j)/\K (.bool (i==j)) g):Cf aQ #[.agg #[vS a,.slice b c d],.pointer e] w (Ret K):=ru func246 [] h
theorem cU (a:Option Addr)(b c:Nat)(d:Option Addr){w K}(h:∃e:Nat->FP [.one (.int .i64)],(∃f,e f (0:Int) w)/\∀f g,aN 12 (∀i,e f g i->ae (decide (g<((b:Nat):Int))) ((bx g ((b:Nat):Int)/\Option.isSome a=true)/\∃j k l m,Ld aG (am a g 2) i (.agg #[vS j,.slice k l m])/\uB aQ #[.agg #[vS j,.slice k l m],.pointer d] i λn o=>ae n (K (vI g) o) (∃p:Nat,p<f/\e p (i64.wrap (g+(1:Int))) o)) (K (vI (-1)) i))):Cf bi #[.slice a b c,.func (.func aQ) #[] #[.pointer d]] w (Ret K):=ru func177 [(6,[(8,.one (.int .i64))])] h
theorem cN (a:Option Addr)(b c:Nat)(d:Option Addr){w K}(h:uI bi #[.slice a b c,.func (.func aQ) #[] #[.pointer d]] w λe f=>K (.bool (decide (e >=(0:Int)))) f):Cf ct #[.slice a b c,.func (.func aQ) #[] #[.pointer d]] w (Ret K):=ru func245 [] h
theorem lQ (a:lU)(b:Option Addr){w K}(h:nA w (.cells #[vS a] ak) λc d=>∃e,Ld aj b d (.pointer e)/\(Option.isSome e=true)/\(Option.isSome e=true)/\∃f g i,Ld aC (Option.map (λj=>j.add 1) e) d (.slice f g i)/\uB ct #[.slice f g i,.func (.func aQ) #[] #[.pointer (vA c 0)]] d λj k=>K (.bool j) k):Cf bJ #[vS a,.pointer b] w (Ret K):=ru func244 [] h
theorem ka (a:Value)(b:Option Addr){w K}(h:nA w (.cells (Value.cells a) ao) λc d=>true/\∃e,Ld ak (vA c 0) d (vS e)/\∃f,Ld ak b d (vS f)/\K (.bool (e==f)) d):Cf aR #[a,.pointer b] w (Ret K):=ru func250 [] h
theorem cK (a:Option Addr)(b c:Nat)(d:Option Addr){w K}(h:∃e:Nat->FP [.one (.int .i64)],(∃f,e f (0:Int) w)/\∀f g,aN 12 (∀i,e f g i->ae (decide (g<((b:Nat):Int))) ((bx g ((b:Nat):Int)/\Option.isSome a=true)/\∃j,Ld ao (am a g 24) i j/\uB aR #[j,.pointer d] i λk l=>ae k (K (vI g) l) (∃m:Nat,m<f/\e m (i64.wrap (g+(1:Int))) l)) (K (vI (-1)) i))):Cf dq #[.slice a b c,.func (.func aR) #[] #[.pointer d]] w (Ret K):=ru func311 [(6,[(8,.one (.int .i64))])] h
theorem cz (a:Option Addr)(b c:Nat)(d:Option Addr){w K}(h:uI dq #[.slice a b c,.func (.func aR) #[] #[.pointer d]] w λe f=>K (.bool (decide (e >=(0:Int)))) f):Cf bY #[.slice a b c,.func (.func aR) #[] #[.pointer d]] w (Ret K):=ru func249 [] h
theorem lR (a:lU)(b:Option Addr){w K}(h:nA w (.cells #[vS a] ak) λc d=>∃e,Ld aj b d (.pointer e)/\(Option.isSome e=true)/\(Option.isSome e=true)/\∃f g i,Ld au (Option.map (λj=>j.add 0) e) d (.slice f g i)/\uB bY #[.slice f g i,.func (.func aR) #[] #[.pointer (vA c 0)]] d λj k=>K (.bool j) k):Cf bf #[vS a,.pointer b] w (Ret K):=ru func248 [] h
def bL (a b:Option Addr)(c:World)(d:VP)(e:List PanicEntry->World->Prop):Prop:=∃f:FP [],((Option.isSome a=true)/\(Option.isSome a=true)/\∃g h i,Ld aw (Option.map (λj=>j.add 3) a) c (.slice g h i)/\(bx (1:Int) ((h:Nat):Int)/\Option.isSome g=true)/\∃j,Ld ak (am g (1:Int) 1) c (vS j)/\uB iD #[vS j] c λk l=>ae (!k) (Cf aI #[.pointer a,vI 221,vI 1] l λm n=>(m=rT #[]/\f n)\/∃o,m=.panicked o/\e o n) (uB bJ #[vS j,.pointer b] l λm n=>ae m (Cf aI #[.pointer a,vI 52,vI 1] n λo p=>(o=rT #[]/\f p)\/∃q,o=.panicked q/\e q p) (f n)))/\aN 19 (∀g,f g->(Option.isSome a=true)/\(Option.isSome a=true)/\∃h i j,Ld aw (Option.map (λk=>k.add 3) a) g (.slice h i j)/\(bx (1:Int) ((i:Nat):Int)/\Option.isSome h=true)/\∃k,Ld ak (am h (1:Int) 1) g (vS k)/\d (vS k) g)
theorem fe (p0:Option Addr)(q0:Option Addr){w:World}{K:Value->World->Prop}{X:List PanicEntry->World->Prop}(h:bL p0 q0 w K X):Cf bS #[.pointer p0,.func (.func bJ) #[] #[.pointer q0]] w (Jb K X):=
 qj (c:=aq Tryz.f243) (by kernel_rfl) func243 (by kernel_rfl) [(2,[]),(5000009,[]),(5000013,[])] [.pointer p0,.func (.func bJ) #[] #[.pointer q0]] (of_decide_eq_true (by kernel_rfl)) (bL p0 q0 w K X) (by kernel_rfl) h
def bM (a b:Option Addr)(c:World)(d:VP)(e:List PanicEntry->World->Prop):Prop:=∃f:FP [],((Option.isSome a=true)/\(Option.isSome a=true)/\∃g h i,Ld aw (Option.map (λj=>j.add 3) a) c (.slice g h i)/\(bx (1:Int) ((h:Nat):Int)/\Option.isSome g=true)/\∃j,Ld ak (am g (1:Int) 1) c (vS j)/\uB iD #[vS j] c λk l=>ae (!k) (Cf aI #[.pointer a,vI 221,vI 1] l λm n=>(m=rT #[]/\f n)\/∃o,m=.panicked o/\e o n) (uB bf #[vS j,.pointer b] l λm n=>ae m (Cf aI #[.pointer a,vI 52,vI 1] n λo p=>(o=rT #[]/\f p)\/∃q,o=.panicked q/\e q p) (f n)))/\aN 19 (∀g,f g->(Option.isSome a=true)/\(Option.isSome a=true)/\∃h i j,Ld aw (Option.map (λk=>k.add 3) a) g (.slice h i j)/\(bx (1:Int) ((i:Nat):Int)/\Option.isSome h=true)/\∃k,Ld ak (am h (1:Int) 1) g (vS k)/\d (vS k) g)
theorem ff (p0:Option Addr)(q0:Option Addr){w:World}{K:Value->World->Prop}{X:List PanicEntry->World->Prop}(h:bM p0 q0 w K X):Cf bS #[.pointer p0,.func (.func bf) #[] #[.pointer q0]] w (Jb K X):=
 qj (c:=aq Tryz.f243) (by kernel_rfl) func243 (by kernel_rfl) [(2,[]),(5000009,[]),(5000013,[])] [.pointer p0,.func (.func bf) #[] #[.pointer q0]] (of_decide_eq_true (by kernel_rfl)) (bM p0 q0 w K X) (by kernel_rfl) h
def fD (a:Option Addr)(b:World)(c:VP)(d:List PanicEntry->World->Prop):Prop:=nA b (.cells #[.pointer a] aj) λe f=>∃g,Ld aj (vA e 0) f (.pointer g)/\Cf bS #[.pointer g,.func (.func bJ) #[] #[.pointer (vA e 0)]] f λh i=>(∃j,h=.returned (vS j)/\nA i (.cells #[vS [],.slice none 0 0] aG) λk l=>∃m,Sv aG (vA k 0) (.agg #[vS j,.slice none 0 0]) l m/\∃n:Nat->FP [.one (.int .i64)],(∃o,n o (2:Int) m)/\∀o p,aN 35 (∀q,n o p q->∃r,Ld aj (vA e 0) q (.pointer r)/\(Option.isSome r=true)/\(Option.isSome r=true)/\∃s t u,Ld aw (Option.map (λv=>v.add 3) r) q (.slice s t u)/\ae (decide (p<((t:Nat):Int))) (∃v,Ld aj (vA e 0) q (.pointer v)/\Cf fi #[.pointer v,vI p] q λw x=>(∃y,w=.returned (vS y)/\∃z:FP [],(true/\∃A B C,Ld aw (vA k 1) x (.slice A B C)/\uB dG #[.slice A B C,vS y] x λD E=>ae D (∃F,Ld aj (vA e 0) E (.pointer F)/\Cf aI #[.pointer F,vI 52,vI p] E λG H=>(G=rT #[]/\z H)\/∃I,G=.panicked I/\d I H) (true/\∃F G H,Ld aw (vA k 1) E (.slice F G H)/\ae (((G:Nat):Int)==(6:Int)) (∃I,Ld aj (vA e 0) E (.pointer I)/\Cf aI #[.pointer I,vI 53,vI p] E λJ K=>(J=rT #[]/\z K)\/∃L,J=.panicked L/\d L K) (z E)))/\aN 16 (∀A,z A->true/\∃B C D,Ld aw (vA k 1) A (.slice B C D)/\nA A (.cells #[vS y] ak) λE F=>∃G H I J,(Builtin.append_ #[aw,aw] aw #[.slice B C D,.slice (vA E 0) 1 1]).run prog F=.ok (.slice H I J) G/\true/\∃K,Sv aw (vA k 1) (.slice H I J) G K/\∃L:Nat,L<o/\n L (i64.wrap (p+(1:Int))) K))\/∃y,w=.panicked y/\d y x) (∃v:FP [],(∃w,Ld aj (vA e 0) q (.pointer w)/\(Option.isSome w=true)/\(Option.isSome w=true)/\∃x y z,Ld aC (Option.map (λA=>A.add 1) w) q (.slice x y z)/\ae (((y:Nat):Int)==(6:Int)) (∃A,Ld aj (vA e 0) q (.pointer A)/\Cf aI #[.pointer A,vI 53,vI 0] q λB C=>(B=rT #[]/\v C)\/∃D,B=.panicked D/\d D C) (v q))/\aN 8 (∀w,v w->∃x:World->Prop,x (World.drew w)/\∃y,(∀z,x z->Ld aj (vA e 0) z (.pointer y))/\∃z,(∀A,x A->Ld aj (vA e 0) A (.pointer z))/\(Option.isSome z=true)/\(Option.isSome z=true)/\∃A B C,(∀D,x D->Ld aC (Option.map (λE=>E.add 1) z) D (.slice A B C))/\∃D E F G,(∀H,x H->Ld aG (vA k 0) H (.agg #[vS D,.slice E F G]))/\∀H I,H=(World.drew w).heap.size->I=(World.drew w).alloc (.cells #[vS D,.slice E F G] aG)->x I/\∃J K L M,(Builtin.append_ #[aC,aC] aC #[.slice A B C,.slice (vA H 0) 1 1]).run prog I=.ok (.slice K L M) J/\x J/\(Option.isSome y=true)/\(Option.isSome y=true)/\∃N,Sv aC (Option.map (λO=>O.add 1) y) (.slice K L M) J N/\c (.tuple #[]) N))))\/∃j,h=.panicked j/\d j i
theorem nO (p0:Option Addr){w:World}{K:Value->World->Prop}{X:List PanicEntry->World->Prop}(h:fD p0 w K X):Cf fN #[.pointer p0] w (Jb K X):=
 qj (c:=aq Tryz.f156) (by kernel_rfl) func156 (by kernel_rfl) [(5000003,[]),(8,[(3,.one (.int .i64))]),(5000018,[]),(19,[]),(5000024,[]),(5000028,[]),(32,[]),(5000036,[]),(4000038,[])] [.pointer p0] (of_decide_eq_true (by kernel_rfl)) (fD p0 w K X) (by kernel_rfl) h
def gJ (a:Option Addr)(b:lU)(c:World)(d:VP)(e:List PanicEntry->World->Prop):Prop:=Cf mv #[vS b] c λf g=>∃h i j k,f=rT #[.slice h i j,.bool k]/\∃l:FP [.one .bool],(ae k ((bx (0:Int) ((i:Nat):Int)/\Option.isSome h=true)/\∃m,Ld ak (am h (0:Int) 1) g (vS m)/\ae (m==[99,104,111,105,99,101]) (l (decide (((i:Nat):Int)>(2:Int))) g) (l false g)) (l false g))/\∀m,aN 12 (∀n,l m n->ae m ((Option.isSome a=true)/\(Option.isSome a=true)/\∃o,Sv aw (Option.map (λp=>p.add 3) a) (.slice h i j) n o/\Cf fN #[.pointer a] o λp q=>(p=rT #[]/\d (.tuple #[]) q)\/∃r,p=.panicked r/\e r q) (∃o:FP [.one .bool],(ae k ((bx (0:Int) ((i:Nat):Int)/\Option.isSome h=true)/\∃p,Ld ak (am h (0:Int) 1) n (vS p)/\ae (p==[99,111,111,107,105,101]) (o (((i:Nat):Int)==(4:Int)) n) (o false n)) (o false n))/\∀p,aN 12 (∀q,o p q->ae p ((Option.isSome a=true)/\(Option.isSome a=true)/\∃r,Sv aw (Option.map (λs=>s.add 3) a) (.slice h i j) q r/\Cf fO #[.pointer a] r λs t=>(s=rT #[]/\d (.tuple #[]) t)\/∃u,s=.panicked u/\e u t) (Cf aI #[.pointer a,vI 131,vI 0] q λr s=>(r=rT #[]/\d (.tuple #[]) s)\/∃t,r=.panicked t/\e t s))))
theorem pX (p0:Option Addr)(s1:List UInt8){w:World}{K:Value->World->Prop}{X:List PanicEntry->World->Prop}(h:gJ p0 s1 w K X):Cf gW #[.pointer p0,vS s1] w (Jb K X):=
 qj (c:=aq Tryz.f80) (by kernel_rfl) func80 (by kernel_rfl) [(3,[(13,.one (.bool))]),(5000008,[]),(9,[(32,.one (.bool))]),(5000014,[]),(5000015,[])] [.pointer p0,vS s1] (of_decide_eq_true (by kernel_rfl)) (gJ p0 s1 w K X) (by kernel_rfl) h
def LW (L:List (List UInt8)):Prop:=L.length <=100000/\∀x∈L,x.length <=100000
theorem Nv {L:List (List UInt8)}(h:LW L):∀t,t <=L.length->AH L t <=1+t*100001
 | 0,_=>Nat.le_refl _
 | t+1,ht=>by
   rw[vZ (by omega)]
   have:=Nv h t (by omega)
   have:=h.2 _ (List.getElem_mem (show t<L.length by omega))
   omega
def nmF (s:List UInt8)(taken:Bool):Int:=if nmB s=false then 221 else if taken=true then 52 else 0
structure Rdr where
 a:Option Addr
 n:Nat
 c:Nat
 b:Option Addr
 m:Nat
 e:Nat
 ln:Int
 d:Option Addr
 p:Nat
 q:Nat
def Rdr.cells (r:Rdr):List Value:=[.slice r.a r.n r.c,.slice r.b r.m r.e,vI r.ln,.slice r.d r.p r.q]
def ptD (t:TypeId)(S:List Nat)(a:Option Addr)(n c:Nat)(cs:List Cho):Pt where
 fp:=(dV a).toList++S
 P:=λw=>Ow Ee t w (λb=>b∈S) a n c cs/\(∀b∈S,b<w.heap.size)/\∀g,dV a=some g->g ∉ S
 st:=fun{w w'} h hk=>⟨h.1.keep (hk.mono λb hb=>by
   rcases hb with hb|hb
   · exact List.mem_append.2 (.inr hb)
   · exact List.mem_append.2 (.inl (fU.2 hb.symm))),λb hb=>Nat.lt_of_lt_of_le (h.2.1 b hb) hk.size,h.2.2⟩
 lt:=fun{w} h b hb=>by
   rcases List.mem_append.1 hb with hb|hb
   · exact h.1.lt b (fU.1 hb)
   · exact h.2.1 b hb
theorem jq:Whl prog ao 24:=⟨⟨_,_,nz⟩,by kernel_rfl⟩
def PH (x:Flt):List PanicEntry:=[{ v:=.iface aA (Ez x),recovered:=false }]
theorem jv {w:World}{k:Nat}{vs:List Value}{ln:Int}{d:Option Addr}{p q:Nat}{L:List (List UInt8)}{A:Bl}(hA:ai w k aM vs)(h2:vs[2]? =some (vI ln))(h3:vs[3]? =some (.slice d p q))(hS:Sl tS w A d p q L)(hL:LW L)(code:Int)(i:Nat)(hi:i <=L.length):
   Cf aI #[.pointer (some ⟨k,0,none⟩),vI code,vI (i:Int)] w (Jb (λ_ _=>False) λch w'=>ch=PH (code,ln,(AH L i:Nat))/\w'=w):=by
 apply pW
 unfold gI
 have hp:=hS.len
 have hq:p <=q:=hS.2.1
 have hL1:=hL.1
 refine⟨rfl,rfl,d,p,q,by rw[dI];exact hA.load1 bG rfl h3,⟨by omega,by omega⟩,?_⟩
 rw[Int.toNat_natCast]
 refine⟨λm n j w'=>w'=w/\∃t:Nat,j=(t:Int)/\m=i-t/\t <=i/\n=(AH L t:Nat),⟨_,rfl,0,rfl,rfl,Nat.zero_le _,rfl⟩,λm n j=>aN.of ?_ _⟩
 rintro wl ⟨rfl,t,rfl,rfl,ht,rfl⟩
 refine ae.of (λh=>?_) (λh=>?_) <;> simp only[dTx,dFx]at h
 · have htl:t<L.length:=by omega
   have hc:=Nv hL t (by omega)
   have hx:=hL.2 _ (List.getElem_mem htl)
   refine⟨⟨⟨by omega,h⟩,hS.isSome htl⟩,L[t],hS.text aF htl,i-(t+1),by omega,rfl,t+1,by rw[wrap_i64 (by omega) (by omega)];omega,rfl,by omega,?_⟩
   rw[vZ htl,wrap_i64 (n:=((List.length L[t]:Nat):Int)+1) (by omega) (by omega),wrap_i64 (by omega) (by omega)]
   omega
 · obtain rfl:t=i:=by omega
   exact⟨rfl,rfl,ln,by rw[dI];exact hA.load1 cD rfl h2,rfl,rfl⟩
theorem EQ {w:World}{k:Nat}{vs:List Value}{ln:Int}{d:Option Addr}{p q:Nat}{L:List (List UInt8)}{A:Bl}(hA:ai w k aM vs)(h2:vs[2]? =some (vI ln))(h3:vs[3]? =some (.slice d p q))(hS:Sl tS w A d p q L)(hL:LW L)(i:Nat)(hi:i<L.length):
   Cf fi #[.pointer (some ⟨k,0,none⟩),vI (i:Int)] w (Jb (λv w'=>(∃s,unP L[i]=some s/\v=vS s)/\bW w w') λch w'=>unP L[i]=none/\ch=PH (131,ln,(AH L i:Nat))/\bW w w'):=by
 apply pY
 unfold gK
 have hp:=hS.len
 refine⟨rfl,rfl,d,p,q,by rw[dI];exact hA.load1 bG rfl h3,⟨⟨by omega,by omega⟩,hS.isSome hi⟩,L[i],hS.text aF hi,aB (Ct L[i] (by have:=hL.2 _ (List.getElem_mem hi);omega) w) ?_⟩
 rintro _ w1 ⟨rfl,b1⟩
 unfold unT
 cases hu:unP L[i]with
 | none=>
   refine⟨_,_,rfl,ae.yes rfl ((jv (hA.below b1) h2 h3 (hS.below b1) hL 131 i (by omega)).mono ?_)⟩
   rintro _ _ (⟨v,rfl,hf⟩|⟨ch,rfl,rfl,rfl⟩)
   · exact hf.elim
   · exact .inr ⟨_,rfl,rfl,rfl,b1⟩
 | some s=>exact⟨_,_,rfl,ae.no rfl ⟨⟨s,rfl,rfl⟩,b1⟩⟩
theorem Bw (c:Cho)(a:Option Addr)(l e:Nat){w:World}{k:Nat}{key:List UInt8}(hk:ai w k ak [vS key]):
   Cf aQ #[.agg #[vS c.name,.slice a l e],.pointer (some ⟨k,0,none⟩)] w (Ret λv w'=>v=.bool (c.name==key)/\bW w w'):=by
 apply j9
 intro k2 w2 hk2 hw2
 have b2:=(hw2▸ah w _:bW w w2)
 have A2:ai w2 k2 aG [vS c.name,.slice a l e]:=ai.new hk2 hw2
 exact⟨rfl,_,A2.load1 aF rfl rfl,_,(hk.below b2).load1 aF rfl rfl,rfl,b2⟩
theorem LZ {w:World}{A:Bl}{a:Option Addr}{n c:Nat}{xs:List Cho}(hs:Sl Ee w A a n c xs){k:Nat}{key:List UInt8}(hk:ai w k ak [vS key]):
   Cf ct #[.slice a n c,.func (.func aQ) #[] #[.pointer (some ⟨k,0,none⟩)]] w (Ret λv w'=>v=.bool (xs.any λc=>c.name==key)/\bW w w'):=by
 apply cN
 have hn:=hs.len
 have hle:=hs.le
 subst hn
 refine aB (K:=λv w'=>v=vI (L2 (λc=>c.name==key) xs)/\bW w w') ?_ ?_
 · apply cU
   refine⟨u0 (λc=>c.name==key) xs w,u0.start _ _ _,λm i=>aN.of ?_ _⟩
   intro wl hI
   rcases hI.go hle with⟨j,hj,rfl,B,h3,hb,hy,hn⟩|⟨h3,h4,B⟩
   · obtain⟨b,l,e,hv,_⟩:=KZ (hs.below B) hj
     refine ae.yes h3 ⟨⟨hb,hs.isSome hj⟩,_,_,_,_,hv,aB (Bw xs[j] b l e (hk.below B)) ?_⟩
     rintro _ w' ⟨rfl,b'⟩
     have B':=ab B b' B.size
     exact⟨_,rfl,ae.of (λh4=>⟨by rw[hy h4],B'⟩) (λh4=>hn h4 _ B')⟩
   · exact ae.no h3 ⟨by rw[h4],B⟩
 · rintro _ w7 ⟨rfl,b7⟩
   exact⟨_,rfl,by rw[zZa],b7⟩
theorem BD (t:Tpl){w:World}{k:Nat}{key:List UInt8}(hk:ai w k ak [vS key]):
   Cf aR #[t.v,.pointer (some ⟨k,0,none⟩)] w (Ret λv w'=>v=.bool (t.name==key)/\bW w w'):=by
 apply ka
 intro k2 w2 hk2 hw2
 have b2:=(hw2▸ah w _:bW w w2)
 have A2:ai w2 k2 ao t.cells:=ai.new hk2 hw2
 exact⟨rfl,_,A2.load1 aF rfl rfl,_,(hk.below b2).load1 aF rfl rfl,rfl,b2⟩
theorem AM {w:World}{A:Bl}{a:Option Addr}{l c:Nat}{xs:List Tpl}(h:Sl vW w A a l c xs){i:Nat}(hi:i<xs.length):
   (Instr.loadAt ao (.pointer (am a (i:Int) 24))).run prog w=.ok xs[i].v w/\xs[i].ok:=by
 obtain⟨vs,h1,rfl,ho⟩:=jq.elem (T:=vW) rfl h hi
 exact⟨h1,ho⟩
theorem L0 {w:World}{A:Bl}{a:Option Addr}{n c:Nat}{xs:List Tpl}(hs:Sl vW w A a n c xs){k:Nat}{key:List UInt8}(hk:ai w k ak [vS key]):
   Cf bY #[.slice a n c,.func (.func aR) #[] #[.pointer (some ⟨k,0,none⟩)]] w (Ret λv w'=>v=.bool (xs.any λc=>c.name==key)/\bW w w'):=by
 apply cz
 have hn:=hs.len
 have hle:=hs.le
 subst hn
 refine aB (K:=λv w'=>v=vI (L2 (λc=>c.name==key) xs)/\bW w w') ?_ ?_
 · apply cK
   refine⟨u0 (λc=>c.name==key) xs w,u0.start _ _ _,λm i=>aN.of ?_ _⟩
   intro wl hI
   rcases hI.go hle with⟨j,hj,rfl,B,h3,hb,hy,hn⟩|⟨h3,h4,B⟩
   · refine ae.yes h3 ⟨⟨hb,hs.isSome hj⟩,_,(AM (hs.below B) hj).1,aB (BD xs[j] (hk.below B)) ?_⟩
     rintro _ w' ⟨rfl,b'⟩
     have B':=ab B b' B.size
     exact⟨_,rfl,ae.of (λh4=>⟨by rw[hy h4],B'⟩) (λh4=>hn h4 _ B')⟩
   · exact ae.no h3 ⟨by rw[h4],B⟩
 · rintro _ w7 ⟨rfl,b7⟩
   exact⟨_,rfl,by rw[zZa],b7⟩
theorem Hd {w:World}{k kv:Nat}{vs:List Value}{b:Option Addr}{m e:Nat}{A:Bl}{cs:List Cho}(hk:ai w kv aj [.pointer (some ⟨k,0,none⟩)])(hA:ai w k aM vs)(h1:vs[1]? =some (.slice b m e))(hS:Sl Ee w A b m e cs)(s:List UInt8):
   Cf bJ #[vS s,.pointer (some ⟨kv,0,none⟩)] w (Ret λv w'=>v=.bool (cs.any λc=>c.name==s)/\bW w w'):=by
 apply lQ
 intro k2 w2 hk2 hw2
 have b2:=(hw2▸ah w _:bW w w2)
 have A2:ai w2 k2 ak [vS s]:=ai.new hk2 hw2
 refine⟨_,(hk.below b2).load1 aX rfl rfl,rfl,rfl,b,m,e,by rw[dI];exact(hA.below b2).load1 bQ rfl h1,aB (LZ (hS.below b2) A2) ?_⟩
 rintro _ w9 ⟨rfl,b9⟩
 exact⟨_,rfl,rfl,ab b2 b9 b2.size⟩
theorem Hj {w:World}{k kv:Nat}{vs:List Value}{a:Option Addr}{n c:Nat}{A:Bl}{ts:List Tpl}(hk:ai w kv aj [.pointer (some ⟨k,0,none⟩)])(hA:ai w k aM vs)(h1:vs[0]? =some (.slice a n c))(hS:Sl vW w A a n c ts)(s:List UInt8):
   Cf bf #[vS s,.pointer (some ⟨kv,0,none⟩)] w (Ret λv w'=>v=.bool (ts.any λc=>c.name==s)/\bW w w'):=by
 apply lR
 intro k2 w2 hk2 hw2
 have b2:=(hw2▸ah w _:bW w w2)
 have A2:ai w2 k2 ak [vS s]:=ai.new hk2 hw2
 refine⟨_,(hk.below b2).load1 aX rfl rfl,rfl,rfl,a,n,c,by rw[dI];exact(hA.below b2).load1 bT rfl h1,aB (L0 (hS.below b2) A2) ?_⟩
 rintro _ w9 ⟨rfl,b9⟩
 exact⟨_,rfl,rfl,ab b2 b9 b2.size⟩
def Wm (L:List (List UInt8))(ln:Int)(taken:Bool)(w:World):Ending->World->Prop:=Jb (λv w'=>nmF (L.getD 1 []) taken=0/\v=vS (L.getD 1 [])/\bW w w') λch w'=>nmF (L.getD 1 []) taken≠0/\ch=PH (nmF (L.getD 1 []) taken,ln,(AH L 1:Nat))/\bW w w'
theorem H4 {w:World}{k kv:Nat}{vs:List Value}{ln:Int}{b d:Option Addr}{m e p q:Nat}{A B:Bl}{cs:List Cho}{L:List (List UInt8)}(hk:ai w kv aj [.pointer (some ⟨k,0,none⟩)])(hA:ai w k aM vs)(h1:vs[1]? =some (.slice b m e))(h2:vs[2]? =some (vI ln))(h3:vs[3]? =some (.slice d p q))
   (hC:Sl Ee w B b m e cs) (hS:Sl tS w A d p q L) (hL:LW L) (hl:1<L.length):
   Cf bS #[.pointer (some ⟨k,0,none⟩),.func (.func bJ) #[] #[.pointer (some ⟨kv,0,none⟩)]] w (Wm L ln (cs.any λc=>c.name==L.getD 1 []) w):=by
 apply fe
 unfold bL
 have hp:=hS.len
 have ld:∀{W:World},bW w W->(Instr.loadAt aw (.pointer (Option.map (λx=>x.add 3) (some (⟨k,0,none⟩:Addr))))).run prog W=.ok (.slice d p q) W:=λhb=>by rw[dI];exact(hA.below hb).load1 bG rfl h3
 have tx:∀{W:World},bW w W->(Instr.loadAt ak (.pointer (am d ((1:Nat):Int) 1))).run prog W=.ok (.string (mkS L[1])) W:=λhb=>(hS.below hb).text aF hl
 have eg:L.getD 1 []=L[1]:=by simp[List.getD,List.getElem?_eq_getElem hl]
 rw[eg]
 refine⟨λW=>bW w W/\nmF L[1] (cs.any λc=>c.name==L[1])=0,⟨rfl,rfl,d,p,q,ld (Below.refl _ _),⟨⟨by decide,by omega⟩,hS.isSome hl⟩,L[1],tx (Below.refl _ _),aB (JX L[1] w) ?_⟩,aN.of ?_ _⟩
 · rintro _ w14 ⟨rfl,b14⟩
   refine⟨_,rfl,ae.of (λh=>?_) (λh=>?_)⟩
   · have h:nmB L[1]=false:=by simpa using h
     refine(jv (hA.below b14) h2 h3 (hS.below b14) hL 221 1 (by omega)).mono ?_
     rintro _ _ (⟨v,rfl,hf⟩|⟨ch,rfl,rfl,rfl⟩)
     · exact hf.elim
     · have e:nmF L[1] (cs.any λc=>c.name==L[1])=221:=by unfold nmF;rw[if_pos h]
       exact .inr ⟨_,rfl,by rw[e];decide,by rw[e],b14⟩
   have h:nmB L[1]=true:=by simpa using h
   refine aB (Hd (hk.below b14) (hA.below b14) h1 (hC.below b14) L[1]) ?_
   rintro _ w21 ⟨rfl,b21⟩
   have b21:=ab b14 b21 b14.size
   refine⟨_,rfl,ae.of (λh5=>?_) (λh5=>⟨b21,?_⟩)⟩
   · refine(jv (hA.below b21) h2 h3 (hS.below b21) hL 52 1 (by omega)).mono ?_
     rintro _ _ (⟨v,rfl,hf⟩|⟨ch,rfl,rfl,rfl⟩)
     · exact hf.elim
     · have e:nmF L[1] (cs.any λc=>c.name==L[1])=52:=by unfold nmF;rw[h,h5];rfl
       exact .inr ⟨_,rfl,by rw[e];decide,by rw[e],b21⟩
   · unfold nmF;rw[h,h5];rfl
 · rintro W ⟨bWq,e0⟩
   exact⟨rfl,rfl,d,p,q,ld bWq,⟨⟨by decide,by omega⟩,hS.isSome hl⟩,L[1],tx bWq,e0,rfl,bWq⟩
theorem H5 {w:World}{k kv:Nat}{vs:List Value}{ln:Int}{a d:Option Addr}{n c p q:Nat}{A B:Bl}{ts:List Tpl}{L:List (List UInt8)}(hk:ai w kv aj [.pointer (some ⟨k,0,none⟩)])(hA:ai w k aM vs)(h1:vs[0]? =some (.slice a n c))(h2:vs[2]? =some (vI ln))(h3:vs[3]? =some (.slice d p q))
   (hC:Sl vW w B a n c ts) (hS:Sl tS w A d p q L) (hL:LW L) (hl:1<L.length):
   Cf bS #[.pointer (some ⟨k,0,none⟩),.func (.func bf) #[] #[.pointer (some ⟨kv,0,none⟩)]] w (Wm L ln (ts.any λc=>c.name==L.getD 1 []) w):=by
 apply ff
 unfold bM
 have hp:=hS.len
 have ld:∀{W:World},bW w W->(Instr.loadAt aw (.pointer (Option.map (λx=>x.add 3) (some (⟨k,0,none⟩:Addr))))).run prog W=.ok (.slice d p q) W:=λhb=>by rw[dI];exact(hA.below hb).load1 bG rfl h3
 have tx:∀{W:World},bW w W->(Instr.loadAt ak (.pointer (am d ((1:Nat):Int) 1))).run prog W=.ok (.string (mkS L[1])) W:=λhb=>(hS.below hb).text aF hl
 have eg:L.getD 1 []=L[1]:=by simp[List.getD,List.getElem?_eq_getElem hl]
 rw[eg]
 refine⟨λW=>bW w W/\nmF L[1] (ts.any λc=>c.name==L[1])=0,⟨rfl,rfl,d,p,q,ld (Below.refl _ _),⟨⟨by decide,by omega⟩,hS.isSome hl⟩,L[1],tx (Below.refl _ _),aB (JX L[1] w) ?_⟩,aN.of ?_ _⟩
 · rintro _ w14 ⟨rfl,b14⟩
   refine⟨_,rfl,ae.of (λh=>?_) (λh=>?_)⟩
   · have h:nmB L[1]=false:=by simpa using h
     refine(jv (hA.below b14) h2 h3 (hS.below b14) hL 221 1 (by omega)).mono ?_
     rintro _ _ (⟨v,rfl,hf⟩|⟨ch,rfl,rfl,rfl⟩)
     · exact hf.elim
     · have e:nmF L[1] (ts.any λc=>c.name==L[1])=221:=by unfold nmF;rw[if_pos h]
       exact .inr ⟨_,rfl,by rw[e];decide,by rw[e],b14⟩
   have h:nmB L[1]=true:=by simpa using h
   refine aB (Hj (hk.below b14) (hA.below b14) h1 (hC.below b14) L[1]) ?_
   rintro _ w21 ⟨rfl,b21⟩
   have b21:=ab b14 b21 b14.size
   refine⟨_,rfl,ae.of (λh5=>?_) (λh5=>⟨b21,?_⟩)⟩
   · refine(jv (hA.below b21) h2 h3 (hS.below b21) hL 52 1 (by omega)).mono ?_
     rintro _ _ (⟨v,rfl,hf⟩|⟨ch,rfl,rfl,rfl⟩)
     · exact hf.elim
     · have e:nmF L[1] (ts.any λc=>c.name==L[1])=52:=by unfold nmF;rw[h,h5];rfl
       exact .inr ⟨_,rfl,by rw[e];decide,by rw[e],b21⟩
   · unfold nmF;rw[h,h5];rfl
 · rintro W ⟨bWq,e0⟩
   exact⟨rfl,rfl,d,p,q,ld bWq,⟨⟨by decide,by omega⟩,hS.isSome hl⟩,L[1],tx bWq,e0,rfl,bWq⟩
theorem Sw {x s:List UInt8}(h:unP x=some s):s.length <=x.length:=by
 have h:=(Uv x s).1 h
 subst h
 unfold IV
 split
 · rename_i h;subst h;exact Nat.zero_le _
 · exact(Dj s).1
theorem Uq (p:UInt8->Bool)(s:List UInt8):(s.takeWhile p).length <=s.length:=(List.takeWhile_sublist p).length_le
theorem EN (l:List Cho):∀(k:Nat) (s:List UInt8) (ps:List Prt),s.length <=k->MO l k s=some ps->ps.length <=2*s.length/\∀p∈ps,p.2<(l.length:Int)/\p.1.length <=s.length
 | 0,s,ps,hk,h=>by
   cases h
   exact⟨Nat.zero_le _,λp hp=>by cases hp⟩
 | k+1,s,ps,hk,h=>by
   unfold MO at h
   split at h
   · cases h
     exact⟨Nat.zero_le _,λp hp=>by cases hp⟩
   rename_i hs
   have h0:0<s.length:=List.length_pos_iff.2 hs
   split at h
   · rename_i h1
     have l1:=lu 123 s
     have l2:=lu 125 (iK 123 s)
     unfold iK at l1 l2
     simp only at h
     split at h
     · rename_i h3
       rw[Option.map_eq_some_iff]at h
       obtain⟨r,hr,rfl⟩:=h
       obtain⟨f1,f2⟩:=EN l k _ r (by omega) hr
       refine⟨by simp only[List.length_cons];omega,λp hp=>?_⟩
       rcases List.mem_cons.1 hp with rfl|hp
       · exact⟨by show(-1:Int)<_;omega,Uq _ _⟩
       rcases List.mem_cons.1 hp with rfl|hp
       · exact⟨Tt _ _,Nat.zero_le _⟩
       · obtain⟨a,b⟩:=f2 p hp
         exact⟨a,by omega⟩
     · cases h
   · cases h
     refine⟨by simp only[List.length_singleton];omega,λp hp=>?_⟩
     rw[List.mem_singleton]at hp
     subst hp
     exact⟨by show(-1:Int)<_;omega,Nat.le_refl _⟩
theorem EO {l:List Cho}{s:List UInt8}{ps:List Prt}(h:Cy l s=some ps):ps.length <=2*s.length/\∀p∈ps,p.2<(l.length:Int)/\p.1.length <=s.length:=EN l _ s ps (Nat.le_refl _) h
def MQ (cs:List Cho):Prop:=cs.length <=6/\∀c∈cs,c.vals.length <=6/\∀v∈c.vals,v.length <=100000
theorem MQ.nil:MQ []:=⟨by decide,λc h=>by cases h⟩
theorem MQ.w {cs:List Cho}(h:MQ cs):UX cs:=⟨Nat.le_trans h.1 (by decide),λc hc=>⟨Nat.le_trans (h.2 c hc).1 (by decide),λv hv=>Nat.le_trans ((h.2 c hc).2 v hv) (by decide)⟩⟩
theorem Ks:∀(i:Nat) (L vs ws:List (List UInt8)),(∀x∈L,x.length <=100000)->vs.length <=6->(∀v∈vs,v.length <=100000)->I1 i L vs=.inl ws->ws.length <=6/\∀v∈ws,v.length <=100000
 | i,[],vs,ws,hL,h1,h2,e=>by cases e;exact⟨h1,h2⟩
 | i,x::r,vs,ws,hL,h1,h2,e=>by
   unfold I1 at e
   split at e
   · cases e
   rename_i s hu
   split at e
   · cases e
   split at e
   · cases e
   rename_i h6
   refine Ks (i+1) r (vs++[s]) ws (λy hy=>hL y (List.mem_cons_of_mem _ hy)) (by rw[List.length_append,List.length_singleton];omega) (λv hv=>?_) e
   rcases List.mem_append.1 hv with hv|hv
   · exact h2 v hv
   · rw[List.mem_singleton]at hv
     subst hv
     exact Nat.le_trans (Sw hu) (hL x List.mem_cons_self)
theorem Qh {L:List (List UInt8)}{cs:List Cho}{c:Cho}(hL:LW L)(h:MQ cs)(e:Jt L cs=.inl c):MQ (cs++[c]):=by
 unfold Jt at e
 split at e
 · cases e
 split at e
 · cases e
 split at e
 · cases e
 rename_i vs hv
 split at e
 · cases e
 rename_i h6
 cases e
 have:=Ks 2 _ [] vs (λx hx=>hL.2 x (List.mem_of_mem_drop hx)) (by decide) (λv hv=>by cases hv) hv
 have hl:=h.1
 refine⟨by rw[List.length_append,List.length_singleton];omega,λd hd=>?_⟩
 rcases List.mem_append.1 hd with hd|hd
 · exact h.2 d hd
 · rw[List.mem_singleton]at hd
   subst hd;exact this
theorem Ln {L:List (List UInt8)}{ln:Int}{ts:List Tpl}{cs:List Cho}{t:Tpl}(e:GI L ln ts cs=.inl t):ts.length≠8:=by
 unfold GI at e
 intro h8
 split at e
 · cases e
 split at e
 · cases e
 split at e
 · cases e
 split at e
 · cases e
 split at e
 · cases e
 split at e
 · cases e
 split at e
 · cases e
 cases e
theorem SZ {L:List (List UInt8)}{cs:List Cho}{b:Bool}(hb:(cs.any λc=>c.name==L.getD 1 [])=b)(h:nmF (L.getD 1 []) b≠0):Jt L cs=.inr (nmF (L.getD 1 []) b,1):=by
 unfold nmF at*
 unfold Jt
 split at h
 · rename_i h1;rw[if_pos h1,if_pos h1]
 · rename_i h1
   split at h
   · rename_i h2;rw[if_neg h1,hb,if_pos h2,if_neg h1,if_pos h2]
   · exact absurd rfl h
theorem Ta {L:List (List UInt8)}{cs:List Cho}{b:Bool}(hb:(cs.any λc=>c.name==L.getD 1 [])=b)(h:nmF (L.getD 1 []) b=0):Jt L cs=match I1 2 (L.drop 2) []with
   | .inr e=>.inr e
   | .inl vs=>if cs.length=6 then .inr (53,0)else .inl ⟨L.getD 1 [],vs⟩:=by
 unfold nmF at h
 unfold Jt
 split at h
 · cases h
 rename_i h1
 split at h
 · cases h
 rename_i h2
 rw[if_neg h1,hb,if_neg h2]
 rfl
theorem Ph {L:List (List UInt8)}{ln:Int}{ts:List Tpl}{cs:List Cho}{b:Bool}(hb:(ts.any λc=>c.name==L.getD 1 [])=b)(h:nmF (L.getD 1 []) b≠0):GI L ln ts cs=.inr (nmF (L.getD 1 []) b,1):=by
 unfold nmF at*
 unfold GI
 split at h
 · rename_i h1;rw[if_pos h1,if_pos h1]
 · rename_i h1
   split at h
   · rename_i h2;rw[if_neg h1,hb,if_pos h2,if_neg h1,if_pos h2]
   · exact absurd rfl h
theorem Ut {L:List (List UInt8)}{ln:Int}{ts:List Tpl}{cs:List Cho}{b:Bool}(hb:(ts.any λc=>c.name==L.getD 1 [])=b)(h:nmF (L.getD 1 []) b=0):GI L ln ts cs=if(I9 (L.getD 2 [])).2≠0 then .inr ((I9 (L.getD 2 [])).2,2)
 else match unP (L.getD 3 [])with
   | none=>.inr (131,3)
   | some s=>match Cy cs s with
     | none=>.inr (222,3)
     | some ps=>if 24<Ge cs (sY ps)then .inr (53,3)else if 2000<H1 cs ps then .inr (54,3)else if ts.length=8 then .inr (53,0)
       else .inl ⟨L.getD 1 [],(I9 (L.getD 2 [])).1,s,ln⟩:=by
 unfold nmF at h
 unfold GI
 split at h
 · cases h
 rename_i h1
 split at h
 · cases h
 rename_i h2
 rw[if_neg h1,hb,if_neg h2]
 rfl
theorem Qf {L:List (List UInt8)}{i:Nat}(hi:i<L.length)(vs:List (List UInt8))(h:unP L[i]=none):I1 i (L.drop i) vs=.inr (131,i):=by
 rw[List.drop_eq_getElem_cons hi];unfold I1;rw[h]
theorem Nt {L:List (List UInt8)}{i:Nat}(hi:i<L.length)(vs:List (List UInt8)){s:List UInt8}(h:unP L[i]=some s):I1 i (L.drop i) vs=if s∈vs then .inr (52,i)else if vs.length=6 then .inr (53,i)else I1 (i+1) (L.drop (i+1)) (vs++[s]):=by
 rw[List.drop_eq_getElem_cons hi]
 conv=>lhs;unfold I1
 rw[h]
theorem Qg {L:List (List UInt8)}{i:Nat}(hi:L.length <=i)(vs:List (List UInt8)):I1 i (L.drop i) vs=.inl vs:=by
 rw[List.drop_eq_nil_of_le hi];unfold I1;rfl
def RdP (k:Nat)(r:Rdr)(ts:List Tpl)(cs:List Cho)(L:List (List UInt8))(S:List Nat)(ex:List Pt):List Pt:=ptA k aM r.cells::ptO vW ao r.a r.n r.c ts::ptD aG S r.b r.m r.e cs::ptO tS ak r.d r.p r.q L::ex
def Xx (w0:World)(k:Nat)(r:Rdr)(ts:List Tpl)(cs:List Cho)(L:List (List UInt8))(ex:List Pt):Ending->World->Prop:=Jb (λv w'=>v=.tuple #[]/\∃(c:Cho) (r':Rdr) (S':List Nat),Jt L cs=.inl c/\r'.ln=r.ln/\Sp w0 (RdP k r' ts (cs++[c]) L S' ex) w')
 λch w'=>∃(e:Int) (i:Nat),Jt L cs=.inr (e,i)/\ch=PH (e,r.ln,(AH L i:Nat))/\bW w0 w'
theorem Ie {w0 w:World}{k:Nat}{r:Rdr}{ts:List Tpl}{cs:List Cho}{L:List (List UInt8)}{S:List Nat}{ex:List Pt}(h:Sp w0 (RdP k r ts cs L S ex) w)(hL:LW L)(hl:2 <=L.length)(hI:MQ cs):
   Cf fN #[.pointer (some ⟨k,0,none⟩)] w (Xx w0 k r ts cs L ex):=by
 apply nO
 unfold fD
 intro k1 w1 hk1 hw1
 have b1:=(hw1▸ah w _:bW w w1)
 have A1:ai w1 k1 aj [.pointer (some ⟨k,0,none⟩)]:=ai.new hk1 hw1
 have h1:Sp w0 (ptA k1 aj [.pointer (some ⟨k,0,none⟩)]::RdP k r ts cs L S ex) w1:=h.add b1 A1 λb hb=>by rw[List.mem_singleton.1 hb];omega
 have Ak:ai w1 k aM r.cells:=h1.at 1 rfl
 have oC:Ow Ee aG w1 (λb=>b∈S) r.b r.m r.e cs:=(h1.at 3 rfl:(ptD aG S r.b r.m r.e cs).P w1).1
 have oL:Ow tS ak w1 NoB r.d r.p r.q L:=h1.at 4 rfl
 have hm:=oC.len
 have hp:=oL.len
 refine⟨_,A1.load1 aX rfl rfl,(H4 A1 Ak rfl rfl rfl oC.all oL.all hL (by omega)).mono ?_⟩
 rintro _ w7 (⟨_,rfl,e0,rfl,b7⟩|⟨ch,rfl,e0,rfl,b7⟩)
 rotate_left
 · exact .inr ⟨_,rfl,_,1,SZ rfl e0,rfl,(h1.below b7).bw⟩
 have hV:=Ta rfl e0
 clear A1 Ak oC oL e0
 generalize L.getD 1 []=nm at*
 refine .inl ⟨_,rfl,Dh.new (zs:=[vS [],.slice none 0 0]) (cs:=[vS nm,.slice none 0 0]) rfl rfl (aJ rfl (aJ rfl gX)) w7 λk2 w2 hk2 A2 b2=>?_⟩
 have h2:Sp w0 (ptA k2 aG [vS nm,.slice none 0 0]::ptA k1 aj [.pointer (some ⟨k,0,none⟩)]::RdP k r ts cs L S ex) w2:=(h1.below b7).add b2 A2 λb hb=>by rw[List.mem_singleton.1 hb];omega
 have h3:Sp w0 (ptO tS ak none 0 0 []::ptA k2 aG [vS nm,.slice none 0 0]::ptA k1 aj [.pointer (some ⟨k,0,none⟩)]::RdP k r ts cs L S ex) w2:=h2.add (Below.refl _ _) (Ow.nil _ _ _ _) λb hb=>by cases hb
 refine⟨λm n3 W=>∃(i:Nat) (a:Option Addr) (l c:Nat) (vs:List (List UInt8)),n3=(i:Int)/\m=L.length-i/\i <=L.length/\vs.length <=6/\I1 2 (L.drop 2) []=I1 i (L.drop i) vs/\Sp w0 (ptO tS ak a l c vs::ptA k2 aG [vS nm,.slice a l c]::ptA k1 aj [.pointer (some ⟨k,0,none⟩)]::RdP k r ts cs L S ex) W,
   ⟨_,2,_,_,_,[],rfl,rfl,hl,by decide,rfl,h3⟩,λm n3=>aN.of ?_ _⟩
 rintro W ⟨i,a,l,c,vs,rfl,rfl,hi,h6,hch,hs⟩
 have A1:ai W k1 aj [.pointer (some ⟨k,0,none⟩)]:=hs.at 2 rfl
 have Ak:ai W k aM r.cells:=hs.at 3 rfl
 have oL:Ow tS ak W NoB r.d r.p r.q L:=hs.at 6 rfl
 have lk1:∀{W':World},bW W W'->(Instr.loadAt aj (.pointer (some ⟨k1,0,none⟩))).run prog W'=.ok (.pointer (some ⟨k,0,none⟩)) W':=λhb=>(A1.below hb).load1 aX rfl rfl
 have fl:∀{W':World} {e:Int} {j:Nat} {G:World->Prop},bW W W'->j <=L.length->Jt L cs=.inr (e,j)->Cf aI #[.pointer (some ⟨k,0,none⟩),vI e,vI (j:Int)] W' λe28 w28=>(e28=.returned (.tuple #[])/\G w28)\/∃ch_2,e28=.panicked ch_2/\(∃(e:Int) (i:Nat),Jt L cs=.inr (e,i)/\ch_2=PH (e,r.ln,(AH L i:Nat))/\bW w0 w28):=fun{W' e j G} hb hj hE=>by
   refine(jv (Ak.below hb) rfl rfl (oL.below hb).all hL e j hj).mono ?_
   rintro _ _ (⟨v,rfl,hf⟩|⟨ch,rfl,rfl,rfl⟩)
   · exact hf.elim
   · exact .inr ⟨_,rfl,e,j,hE,rfl,(hs.below hb).bw⟩
 refine⟨_,lk1 (Below.refl _ _),rfl,rfl,r.d,r.p,r.q,by rw[dI];exact Ak.load1 bG rfl rfl,ae.of (λh4=>?_) (λh4=>?_)⟩ <;> simp only[dTx,dFx]at h4
 · have hil:i<L.length:=by omega
   refine⟨_,lk1 (Below.refl _ _),(EQ Ak rfl rfl oL.all hL i hil).mono ?_⟩
   rintro _ w20 (⟨_,rfl,⟨s,hu,rfl⟩,b20⟩|⟨ch,rfl,hu,rfl,b20⟩)
   rotate_left
   · exact .inr ⟨_,rfl,131,i,by rw[hV,hch,Qf hil vs hu],rfl,(hs.below b20).bw⟩
   have hch:=hch.trans (Nt hil vs hu)
   have hs20:=hs.below b20
   have oV:Ow tS ak w20 NoB a l c vs:=hs20.at 0 rfl
   have A2:ai w20 k2 aG [vS nm,.slice a l c]:=hs20.at 1 rfl
   refine .inl ⟨s,rfl,λW'=>W'=w20/\s ∉ vs/\vs.length≠6,⟨rfl,a,l,c,A2.load1 bG rfl rfl,aB (BB oV.all s oV.le) ?_⟩,aN.of ?_ _⟩
   · rintro _ _ ⟨rfl,rfl⟩
     refine⟨_,rfl,ae.of (λh5=>⟨_,lk1 b20,fl b20 hi ?_⟩) (λh5=>⟨rfl,a,l,c,A2.load1 bG rfl rfl,ae.of (λh7=>⟨_,lk1 b20,fl b20 hi ?_⟩) (λh7=>⟨rfl,of_decide_eq_false h5,?_⟩)⟩)⟩
     · rw[hV,hch,if_pos (of_decide_eq_true h5)]
     · have h7:l=6:=U5 (k:=6) h7
       rw[hV,hch,if_neg (of_decide_eq_false h5),if_pos (by rw[<- oV.len];exact h7)]
     · have h7:l≠6:=SO (k:=6) h7
       rw[<- oV.len];exact h7
   · rintro _ ⟨rfl,hn,hne6⟩
     rw[if_neg hn,if_neg hne6]at hch
     refine⟨rfl,a,l,c,A2.load1 bG rfl rfl,λk40 w40 hk40 hw40=>?_⟩
     obtain⟨_,w41,a41,l41,c41,r41,o41,c41',n41⟩:=T8 (ty:=aw) (jS _) bG eG (by decide) oV hk40 hw40 (x:=s) (vs:=[vS s]) (qO trivial) (cm:=1) (by omega)
     have hs41:=hs20.upd 0 rfl c41' (p':=ptO tS ak a41 l41 c41 (vs++[s])) o41 n41.fp
     obtain⟨wx,qx,hx,_⟩:=hs41.put nZ 1 rfl (i:=1) (v:=.slice a41 l41 c41) rfl rfl (by show 1<2;decide)
     refine⟨w41,a41,l41,c41,r41,rfl,wx,qx,L.length-(i+1),by omega,i+1,a41,l41,c41,vs++[s],?_,rfl,by omega,by rw[List.length_append,List.length_singleton];omega,hch,hx⟩
     have:=hL.1
     rw[wrap_i64 (by omega) (by omega)];omega
 · obtain rfl:i=L.length:=by omega
   rw[Qg (Nat.le_refl _)]at hch
   rw[hch]at hV
   have oC:Ow Ee aG W (λb=>b∈S) r.b r.m r.e cs:=(hs.at 5 rfl:(ptD aG S r.b r.m r.e cs).P W).1
   refine⟨λW'=>W'=W/\cs.length≠6,⟨_,lk1 (Below.refl _ _),rfl,rfl,r.b,r.m,r.e,by rw[dI];exact Ak.load1 bQ rfl rfl,ae.of (λh7=>⟨_,lk1 (Below.refl _ _),fl (Below.refl _ _) (Nat.zero_le _) ?_⟩) (λh7=>⟨rfl,?_⟩)⟩,aN.of ?_ _⟩
   · have h7:r.m=6:=U5 (k:=6) h7
     rw[hV]
     show ite _ _ _=_
     rw[if_pos (by omega)]
   · have h7:r.m≠6:=SO (k:=6) h7
     omega
   rintro W9 ⟨rfl,hne6⟩
   have hV:Jt L cs=.inl ⟨nm,vs⟩:=by
     rw[hV]
     show ite _ _ _=_
     rw[if_neg hne6]
   have hd:=cF W9
   generalize World.drew W9=wd at*
   have hsd:=hs.below hd
   obtain⟨oCd,hlt,hnS⟩:=(hsd.at 5 rfl:(ptD aG S r.b r.m r.e cs).P wd)
   have oVd:Ow tS ak wd NoB a l c vs:=hsd.at 0 rfl
   have apC:∀g,dV r.b=some g->g ∉ (dV a).toList:=λg hg hg2=>hsd.st.ap 0 5 _ _ rfl rfl (by decide) g hg2 (List.mem_append.2 (.inl (fU.2 hg)))
   generalize hS':S++(dV a).toList=S' at*
   have m1:∀b∈S,b∈S':=λb hb=>hS'▸List.mem_append.2 (.inl hb)
   have m2:∀g,dV a=some g->g∈S':=λg hg=>hS'▸List.mem_append.2 (.inr (fU.2 hg))
   have hlt':∀b∈S',b<wd.heap.size:=λb hb=>by
     rw[<- hS']at hb
     rcases List.mem_append.1 hb with hb|hb
     · exact hlt b hb
     · exact oVd.lt b (fU.1 hb)
   have hnS':∀g,dV r.b=some g->g ∉ S':=λg hg hb=>by
     rw[<- hS']at hb
     rcases List.mem_append.1 hb with hb|hb
     · exact hnS g hg hb
     · exact apC g hg hb
   have oC':Ow Ee aG wd (λb=>b∈S') r.b r.m r.e cs:=oCd.mono λb _ hb=>m1 b hb
   have hmg:=hsd.merge 4 rfl (r:=ptD aG S' r.b r.m r.e cs) ⟨oC',hlt',hnS'⟩ λb hb=>by
     rcases List.mem_append.1 hb with hb|hb
     · exact .inr (List.mem_append.2 (.inl hb))
     · rw[<- hS']at hb
       rcases List.mem_append.1 hb with hb|hb
       · exact .inr (List.mem_append.2 (.inr hb))
       · exact .inl hb
   have hrep:Ee.rep wd (λb=>b∈S') [vS nm,.slice a l c] ⟨nm,vs⟩:=⟨a,l,c,rfl,oVd.sl (λ_ _ h=>h.elim) m2⟩
   have A2d:ai wd k2 aG [vS nm,.slice a l c]:=hmg.at 0 rfl
   have A1d:ai wd k1 aj [.pointer (some ⟨k,0,none⟩)]:=hmg.at 1 rfl
   have Akd:ai wd k aM r.cells:=hmg.at 2 rfl
   refine⟨λu=>ai u k1 aj [.pointer (some ⟨k,0,none⟩)]/\ai u k aM r.cells/\ai u k2 aG [vS nm,.slice a l c],⟨A1d,Akd,A2d⟩,
     _,λu hu=>hu.1.load1 aX rfl rfl,_,λu hu=>hu.1.load1 aX rfl rfl,rfl,rfl,r.b,r.m,r.e,λu hu=>by rw[dI];exact hu.2.1.load1 bQ rfl rfl,
     nm,a,l,c,λu hu=>Dh.load0 hu.2.2 rfl,λk57 w57 hk57 hw57=>?_⟩
   have b57:=(hw57▸ah wd _:bW wd w57)
   have hsrc:Src Ee w57 (λb=>b∈S') (some ⟨k57,0,none⟩) 1 [⟨nm,vs⟩]:=Src.new1 hk57 hw57 hrep hlt'
   obtain⟨w58,a58,l58,c58,r58,o58,g58,n58⟩:=dF (ty:=aC) bQ wZ (by decide) (oC'.below b57) hnS' (cm:=1) hsrc (by have:=hI.1;simp only[List.length_singleton];omega)
   have ch58:Chg ((dV r.b).toList++S') wd w58:=((Chg.of b57).trans (Chg.row g58)).mono λb hb=>List.mem_append.2 (.inl hb)
   have s57:=b57.size
   have h58:=hmg.upd 4 rfl ch58 (p':=ptD aG S' a58 l58 c58 (cs++[⟨nm,vs⟩])) ⟨o58,λb hb=>Nat.lt_of_lt_of_le (hlt' b hb) ch58.size,λg hg hb=>by
       rcases n58 g hg with e|e
       · exact hnS' g e hb
       · have:=hlt' g hb;omega⟩ λb hb=>by
     rcases List.mem_append.1 hb with hb|hb
     · rcases n58 b (fU.1 hb)with e|e
       · exact .inl (List.mem_append.2 (.inl (fU.2 e)))
       · exact .inr (by omega)
     · exact .inl (List.mem_append.2 (.inr hb))
   refine⟨⟨A1d.below b57,Akd.below b57,A2d.below b57⟩,w58,a58,l58,c58,r58,⟨h58.at 1 rfl,h58.at 2 rfl,h58.at 0 rfl⟩,rfl,rfl,?_⟩
   obtain⟨wx,qx,hx,_⟩:=h58.put lV 2 rfl (i:=1) (v:=.slice a58 l58 c58) rfl rfl (by show 1<4;decide)
   refine⟨wx,by rw[dI];exact qx,rfl,⟨nm,vs⟩,{ r with b:=a58,m:=l58,e:=c58 },S',hV,rfl,hx.tail.tail⟩
theorem IM (b:Bool)(w:World):Cf vn #[.bool b] w (Ret λv w'=>v=.tuple #[vS (if b then[104,116,116,112,115,58,47,47]else[104,116,116,112,58,47,47]),vI (if b then 443 else 80)]/\w'=w):=by
 apply GA
 cases b
 · exact⟨rfl,rfl⟩
 · exact⟨rfl,rfl⟩
theorem mz (p:List UInt8):∀s:List UInt8,Lib.indexAny s p=if ft p s=s.length then -1 else((ft p s:Nat):Int)
 | []=>rfl
 | b::l=>by
   have ih:=mz p l
   have hle:=wv p l
   have e:ft p (b::l)=if p.contains b then 0 else ft p l+1:=by
     unfold ft;rw[List.takeWhile_cons];cases p.contains b <;> rfl
   have e2:Lib.indexAny (b::l) p=if p.contains b then(0:Int)else if Lib.indexAny l p== -1 then -1 else Lib.indexAny l p+1:=rfl
   by_cases hb:p.contains b=true
   · rw[if_pos hb]at e e2
     rw[e2,e,List.length_cons,if_neg (by omega)];rfl
   · rw[if_neg hb]at e e2
     rw[e2,e,ih,List.length_cons]
     by_cases h:ft p l=l.length
     · simp only[h,if_true];rfl
     · have h2: ¬ ft p l+1=l.length+1:=by omega
       have h3:(((ft p l:Nat):Int)== -1)=false:=by rw[beq_eq_false_iff_ne];omega
       simp only[if_neg h,if_neg h2,h3]
       simp
theorem FK (s:List UInt8)(c:UInt8):Lib.hasPrefix s [c]=decide (s.head?=some c):=by
 cases s with
 | nil=>rfl
 | cons d r=>
   show(c==d&&true)=_
   rw[Bool.and_true,List.head?_cons]
   by_cases h:c=d
   · rw[h,beq_self_eq_true,decide_eq_true rfl]
   · rw[beq_eq_false_iff_ne.2 h,decide_eq_false (λe=>h (Option.some.inj e).symm)]
def gj (s:List UInt8)(sec:Bool):Hst×Int×Int:=match zV s with
 | none=>(nJ,0,31)
 | some h=>match J2 sec (s.drop (ia s))with
   | none=>(nJ,0,42)
   | some n=>(h,n,0)
theorem OQ (s:List UInt8)(sec:Bool):(gj s sec).1.ok:=by
 unfold gj
 split
 · rfl
 · rename_i h hh
   split
   · rfl
   · exact KN hh
theorem MA (r:List UInt8)(sec:Bool):Sx r sec=if(gj (r.take (ft [47,63,35] r)) sec).2.2≠0 then(AZ,(gj (r.take (ft [47,63,35] r)) sec).2.2)
   else if ug (F7 (r.drop (ft [47,63,35] r)))=true then(⟨sec,(gj (r.take (ft [47,63,35] r)) sec).1,(gj (r.take (ft [47,63,35] r)) sec).2.1,F7 (r.drop (ft [47,63,35] r))⟩,0)else(AZ,43):=by
 unfold Sx gj
 generalize zV (r.take (ft [47,63,35] r))=o
 cases o with
 | none=>rfl
 | some h=>
   show(match J2 sec ((r.take (ft [47,63,35] r)).drop (ia (r.take (ft [47,63,35] r))))with|none=>_|some n=>_)=_
   generalize J2 sec ((r.take (ft [47,63,35] r)).drop (ia (r.take (ft [47,63,35] r))))=q
   cases q <;> rfl
theorem Nk (b:Bool){h:Hst}(o:h.ok)(n:Int)(p:List UInt8)(w:World):(Instr.build bt #[(0,.bool b),(1,h.v),(2,vI n),(3,vS p)]).run prog w=.ok (⟨b,h,n,p⟩:Url).v w:=by
 obtain⟨kd,nm,a⟩:=h
 obtain⟨x0,x1,x2,x3,x4,x5,x6,x7,x8,x9,x10,x11,x12,x13,x14,x15,rfl⟩:=pN a o
 kernel_rfl
theorem zf (s:List UInt8)(c:UInt8)(w:World):Cf dH #[vS s,.int .u8 (c.toNat:Nat)] w (Ret λv w'=>v=vI (if ft [c] s=s.length then -1 else((ft [c] s:Nat):Int))/\w'=w):=by
 refine(Tryz.strings_IndexByte (mkS s) (c.toNat:Nat) w).mono ?_
 rintro _ _ ⟨rfl,rfl⟩
 refine⟨_,rfl,?_,rfl⟩
 rw[<- mz,Lib.indexAny_one]
 simp only[Int.toNat_natCast]
 rw[show c.toNat.toUInt8=c by simp];rfl
theorem zp (s p:List UInt8)(hs:s.length <=9223372036854775800)(hp:p.length <=9223372036854775800)(w:World):Cf qJ #[vS s,vS p] w (Ret λv w'=>(∃(x:List UInt8) (b:Bool),v=.tuple #[vS x,.bool b]/\(b=decide (eH (s.take p.length)=eH p))/\(b=true->x=s.drop p.length))/\bW w w'):=by
 apply Gx
 refine j8 (λw'=>eH (s.take p.length)=eH p/\bW w w') ?_ ?_
 · refine ae.of (λh=>⟨⟨s,false,rfl,?_,λe=>by cases e⟩,Below.refl _ _⟩) (λh=>?_) <;> simp only[dTx,dFx]at h
   · rw[eq_comm,dFx]
     intro e
     have:=Xr e
     simp[eH]at this;omega
   · refine⟨⟨by omega,by omega⟩,?_⟩
     rw[Int.toNat_natCast]
     rintro _ rfl
     refine aB (qM _ p (by simp;omega) hp w) ?_
     rintro _ w1 ⟨rfl,hb1⟩
     refine⟨_,rfl,ae.of (λc=>⟨⟨s,false,rfl,?_,λe=>by cases e⟩,hb1⟩) (λc=>⟨?_,hb1⟩)⟩
     · rw[eq_comm,dFx]
       simpa using c
     · simpa using c
 · rintro w1 ⟨h,hb1⟩
   have hl:=Xr h
   simp[eH]at hl
   refine⟨⟨by omega,by omega⟩,?_⟩
   rw[Int.toNat_natCast]
   rintro _ rfl
   exact⟨⟨_,true,rfl,(decide_eq_true h).symm,λ_=>rfl⟩,hb1⟩
theorem IK (s:List UInt8)(hs:s.length <=9223372036854775000)(w:World):Cf vk #[vS s] w (Ret λv w'=>v=.tuple #[vS (s.take (ia s)),vS (s.drop (ia s))]/\bW w w'):=by
 apply Gy
 refine aB (Ib s [91] w) ?_
 rintro _ w1 ⟨rfl,hw1⟩
 rw[hw1];clear hw1
 refine⟨_,rfl,?_⟩
 rw[FK]
 refine ae.of (λh=>?_) (λh=>?_) <;> simp only[dTx,dFx]at h
 · have hE:ia s=min (ft [93] s+1) s.length:=by unfold ia;rw[if_pos h]
   have hf:=wv [93] s
   refine aB (zf s 93 w) ?_
   rintro _ w2 ⟨rfl,hw2⟩
   rw[hw2];clear hw2
   refine⟨_,rfl,?_⟩
   by_cases c:ft [93] s=s.length
   · rw[if_pos c]
     refine ae.no rfl ⟨?_,Below.refl _ _⟩
     rw[show ia s=s.length by omega,List.take_length,List.drop_length]
   · rw[if_neg c]
     have e:i64.wrap (((ft [93] s:Nat):Int)+1)=((ia s:Nat):Int):=by rw[wrap_i64 (by omega) (by omega)];omega
     try dsimp only
     rw[e,Int.toNat_natCast]
     refine ae.yes (decide_eq_true (by omega)) ⟨⟨by omega,by omega⟩,?_⟩
     rintro _ rfl
     refine⟨⟨by omega,by omega⟩,?_⟩
     rintro _ rfl w3 hb3
     exact⟨rfl,hb3⟩
 · have hE:ia s=ft [58] s:=by unfold ia;rw[if_neg h]
   have hf:=wv [58] s
   refine aB (zf s 58 w) ?_
   rintro _ w2 ⟨rfl,hw2⟩
   rw[hw2];clear hw2
   refine⟨_,rfl,?_⟩
   rw[<- hE]
   by_cases c:ia s=s.length
   · rw[if_pos c]
     refine ae.no rfl ⟨?_,Below.refl _ _⟩
     rw[c,List.take_length,List.drop_length]
   · try dsimp only
     rw[if_neg c,Int.toNat_natCast]
     refine ae.yes (decide_eq_true (by omega)) ⟨⟨by omega,by omega⟩,?_⟩
     rintro _ rfl
     refine⟨⟨by omega,by omega⟩,?_⟩
     rintro _ rfl w3 hb3
     exact⟨rfl,hb3⟩
theorem IL (s:List UInt8)(sec:Bool)(hs:s.length <=2000000000)(w:World)(he:Env w):Cf vm #[vS s,vI (if sec then 443 else 80)] w (Ret λv w'=>v=.tuple #[(gj s sec).1.v,vI (gj s sec).2.1,vI (gj s sec).2.2]/\bW w w'):=by
 apply Gz
 intro k4 w4 hk4 hw4
 have hB4:=(hw4▸ah w _:bW w w4)
 have h4:ai w4 k4 af nJ.cells:=ai.new hk4 hw4
 refine aB (IK s (by omega) w4) ?_
 rintro _ w5 ⟨rfl,hb5⟩
 have hB5:=ab hB4 hb5 hB4.size
 refine⟨_,_,rfl,?_⟩
 have hW:zV s=if s.drop (ia s)≠[]/\(s.drop (ia s)).head?≠some 58 then none else di (s.take (ia s)):=rfl
 have hV:gj s sec=match zV s with
   | none=>(nJ,0,31)
   | some h=>match J2 sec (s.drop (ia s))with
     | none=>(nJ,0,42)
     | some n=>(h,n,0):=rfl
 have hcl:(s.take (ia s)).length <=s.length:=by simp;omega
 have hql:(s.drop (ia s)).length <=s.length:=by simp
 generalize s.take (ia s)=c at*
 generalize s.drop (ia s)=q at*
 refine aB (jU c (by omega) w5 (he.step hB5)) ?_
 rintro _ w6 ⟨rfl,hb6⟩
 have hB6:=ab hB5 hb6 hB5.size
 have hok:=B1 λx hx=>jT (s:=c) hx
 rw[my]
 refine⟨_,_,rfl,?_⟩
 refine bc.new (zs:=nJ.cells) (cs:=((di c).getD nJ).cells) rfl (Hst.len hok) (Hst.one _) w6 λk9 w9 hk9 h9 hb9=>?_
 have hB9:=ab hB6 hb9 hB6.size
 have h49:=((h4.below hb5).below hb6).below hb9
 have hk4w:w.heap.size <=k4:=by omega
 have bad:∀{e:Int} {wx:World},bW w9 wx->gj s sec=(nJ,0,e)->∃wy,(Instr.storeAt af (.pointer (some ⟨k4,0,none⟩)) (.agg cq)).run prog wx=.ok () wy/\
     ∃vr:Value,(aV af (.pointer (some ⟨k4,0,none⟩))).run prog wy=.ok vr wy/\(Value.tuple #[vr,vI 0,vI e]=.tuple #[(gj s sec).1.v,vI (gj s sec).2.1,vI (gj s sec).2.2]/\bW w wy):=fun{e wx} hb he=>
   bc.fin (K:=λvr wy=>Value.tuple #[vr,vI 0,vI e]=.tuple #[(gj s sec).1.v,vI (gj s sec).2.1,vI (gj s sec).2.2]/\bW w wy) (cs:=nJ.cells) rfl (Hst.one _) (h49.below hb) rfl (ab hB9 hb hB9.size) hk4w λwy hy=>⟨by rw[he];rfl,hy⟩
 have qK:∀{h:Hst} {n:Int} {wx:World},di c=some h->bW w9 wx->gj s sec=(h,n,0)->∃v,(Instr.loadAt af (.pointer (some ⟨k9,0,none⟩))).run prog wx=.ok v wx/\∃wy,(Instr.storeAt af (.pointer (some ⟨k4,0,none⟩)) v).run prog wx=.ok () wy/\
     ∃vr:Value,(aV af (.pointer (some ⟨k4,0,none⟩))).run prog wy=.ok vr wy/\(Value.tuple #[vr,vI n,vI 0]=.tuple #[(gj s sec).1.v,vI (gj s sec).2.1,vI (gj s sec).2.2]/\bW w wy):=fun{h n wx} hh hb he=>by
   rw[hh]at h9 hok
   exact⟨_,bc.load0 (h9.below hb) (Hst.len hok),bc.fin (K:=λvr wy=>Value.tuple #[vr,vI n,vI 0]=.tuple #[(gj s sec).1.v,vI (gj s sec).2.1,vI (gj s sec).2.2]/\bW w wy) (cs:=h.cells) (Hst.len hok) (Hst.one _) (h49.below hb) rfl (ab hB9 hb hB9.size) hk4w λwy hy=>⟨by rw[he];rfl,hy⟩⟩
 refine j8 (λw'=>w'=w9/\∃h,di c=some h/\zV s=some h) ?_ ?_
 · refine nK (w:=w9) (decide (zV s=none)) ?_ ?_
   · have hc:∀(c1:di c=none),zV s=none:=λc1=>by rw[hW,c1];split <;> rfl
     refine ae.of (λh=>⟨rfl,?_⟩) (λh=>ae.of (λh2=>⟨⟨by decide,?_⟩,rfl,?_⟩) (λh2=>⟨rfl,?_⟩))
     · have:di c=none:=by
         cases hv:di c with
         | none=>rfl
         | some x=>rw[hv]at h;cases h
       rw[decide_eq_true (hc this)]
     all_goals
       have hv:di c≠none:=λhv=>by rw[hv]at h;cases h
     · have:q≠[]:=by simpa using h2
       have:=List.length_pos_iff.2 this
       omega
     · have hne:q≠[]:=by simpa using h2
       have hl:=List.length_pos_iff.2 hne
       have hb:=byte_at (s:=q) (k:=0) hl
       rw[show((0:Nat):Int)=0 from rfl]at hb
       have hu:=GK q[0] 58
       rw[show(((58:UInt8).toNat:Nat):Int)=58 from rfl]at hu
       have hh:q.head?=some q[0]:=by rw[List.head?_eq_getElem?,List.getElem?_eq_getElem hl]
       have e:((eF q 0) !=(58:Int))= !(q[0]==58):=by rw[hb];show(!_)=_;rw[hu]
       rw[e,hW,hh]
       by_cases c:q[0]=58
       · rw[if_neg (by rintro⟨-,hx⟩;exact hx (by rw[c])),decide_eq_false hv,c];rfl
       · rw[if_pos ⟨hne,λhx=>c (Option.some.inj hx)⟩,beq_eq_false_iff_ne.2 c];rfl
     · have:q=[]:=by simpa using h2
       rw[hW,if_neg (λhx=>hx.1 this),decide_eq_false hv]
   · refine ae.of (λh=>?_) (λh=>⟨rfl,?_⟩)
     · exact bad (Below.refl _ _) (by rw[hV,of_decide_eq_true h])
     · have hn:=of_decide_eq_false h
       cases hw:zV s with
       | none=>exact absurd hw hn
       | some x=>
         refine⟨x,?_,rfl⟩
         rw[hW]at hw
         split at hw
         · cases hw
         · exact hw
 · rintro w10 ⟨rfl,h,hv,hw⟩
   rw[hw]at hV
   refine ae.of (λc1=>?_) (λc1=>?_)
   · have c1:q=[]:=by simpa using c1
     exact qK hv (Below.refl _ _) (by rw[hV,c1];rfl)
   · have c1:q≠[]:=by simpa using c1
     have hl:=List.length_pos_iff.2 c1
     refine⟨⟨by decide,by omega⟩,?_⟩
     intro d hd
     rw[show Int.toNat 1=1 from rfl]at hd
     have hdl:d.length <=q.length:=by rw[hd];simp
     have hP:J2 sec q=if JY d/\1 <=lI d/\lI d <=65535 then some (lI d)else none:=by unfold J2;rw[if_neg c1,<- hd]
     refine aB (ns d (by omega) w10) ?_
     rintro _ w11 ⟨rfl,hb11⟩
     by_cases c2:JY d
     · rw[if_pos c2]
       refine⟨_,_,rfl,?_⟩
       refine wu (w:=w11) (1 <=lI d/\lI d <=65535) ?_ ?_
       · refine nK (w:=w11) (decide (¬ (1 <=lI d/\lI d <=65535))) ?_ ?_
         · refine ae.no rfl (ae.of (λc3=>⟨rfl,?_⟩) (λc3=>⟨rfl,?_⟩))
           · rw[eq_comm,dTx];simp at c3;omega
           · rw[Bool.eq_iff_iff,dTx,dTx];simp at c3;omega
         · refine ae.of (λc3=>?_) (λc3=>⟨rfl,Decidable.not_not.1 (of_decide_eq_false c3)⟩)
           rw[dTx]at c3
           exact bad hb11 (by rw[hV,hP,if_neg (λhx=>c3 hx.2)])
       · intro c4
         exact qK hv hb11 (by rw[hV,hP,if_pos ⟨c2,c4⟩])
     · rw[if_neg c2]
       refine⟨_,_,rfl,?_⟩
       refine wu (w:=w11) False ?_ (λh=>h.elim)
       refine nK (w:=w11) true (ae.yes rfl ⟨rfl,rfl⟩) (ae.yes rfl ?_)
       exact bad hb11 (by rw[hV,hP,if_neg (λhx=>c2 hx.1)])
theorem II (s:List UInt8)(hs:s.length <=1000000000)(w:World)(he:Env w):Cf vi #[vS s] w (Ret (Jf s w)):=by
 apply Gv
 intro k2 w2 hk2 hw2
 have hB2:=(hw2▸ah w _:bW w w2)
 have h2:ai w2 k2 bt AZ.cells:=ai.new hk2 hw2
 have hk2w:w.heap.size <=k2:=by omega
 have fin:∀{u:Url} {e:Int} {wx:World},u.ok->bW w2 wx->I9 s=(u,e)->∃wy,(Instr.storeAt bt (.pointer (some ⟨k2,0,none⟩)) u.v).run prog wx=.ok () wy/\
     ∃vr:Value,(aV bt (.pointer (some ⟨k2,0,none⟩))).run prog wy=.ok vr wy/\Jf s w (.tuple #[vr,vI e]) wy:=fun{u e wx} o hb he=>
   zL.fin (K:=λvr wy=>Jf s w (.tuple #[vr,vI e]) wy) (cs:=u.cells) (Url.len o) (Url.one _) (h2.below hb) rfl (ab hB2 hb hB2.size) hk2w λwy hy=>⟨by rw[he];rfl,hy⟩
 refine aB (zp s [104,116,116,112,115,58,47,47] (by omega) (by decide) w2) ?_
 rintro _ w3 ⟨⟨x,sec,rfl,hsec,hx⟩,hb3⟩
 rw[show([104,116,116,112,115,58,47,47]:List UInt8).length=8 from rfl,show eH [104,116,116,112,115,58,47,47]=[104,116,116,112,115,58,47,47] from rfl]at hsec
 refine⟨_,_,rfl,?_⟩
 refine⟨λr w'=>UW s=some (r,sec)/\bW w2 w',?_,λr=>aN.of ?_ _⟩
 · refine ae.of (λc=>?_) (λc=>?_)
   · have c:sec=false:=by simpa using c
     rw[c]at hsec
     have h8: ¬ eH (s.take 8)=[104,116,116,112,115,58,47,47]:=of_decide_eq_false hsec.symm
     refine aB (zp s [104,116,116,112,58,47,47] (by omega) (by decide) w3) ?_
     rintro _ w4 ⟨⟨y,b,rfl,hb,hy⟩,hb4⟩
     rw[show([104,116,116,112,58,47,47]:List UInt8).length=7 from rfl,show eH [104,116,116,112,58,47,47]=[104,116,116,112,58,47,47] from rfl]at hb
     have hb24:=ab hb3 hb4 hb3.size
     refine⟨_,_,rfl,ae.of (λc2=>?_) (λc2=>⟨?_,hb24⟩)⟩
     · have c2:b=false:=by simpa using c2
       rw[c2]at hb
       exact fin (u:=AZ) rfl hb24 (by unfold I9 UW;rw[if_neg (of_decide_eq_false hb.symm),if_neg h8])
     · have c2:b=true:=by simpa using c2
       have e:=hy c2
       rw[c2]at hb
       unfold UW
       rw[if_pos (of_decide_eq_true hb.symm),e,c];rfl
   · have c:sec=true:=by simpa using c
     have e:=hx c
     rw[c]at hsec
     have h8:=of_decide_eq_true hsec.symm
     refine⟨?_,hb3⟩
     unfold UW
     rw[if_neg,if_pos h8,e,c];rfl
     intro h7
     have:eH (s.take 7)=(eH (s.take 8)).take 7:=by simp[eH,List.map_take,List.take_take]
     rw[this,h8]at h7
     revert h7;decide
 · rintro w4 ⟨hH,hb4⟩
   have hrl:r.length <=s.length:=by
     unfold UW at hH
     split at hH
     · cases hH;simp
     split at hH
     · cases hH;simp
     · cases hH
   have hV:I9 s=Sx r sec:=by unfold I9;rw[hH]
   rw[MA]at hV
   have hat:=wv [47,63,35] r
   refine aB (vu [47,63,35] (by decide) (by decide) (by decide) r (by omega) w4) ?_
   rintro _ w5 ⟨rfl,hb5⟩
   have hb25:=ab hb4 hb5 hb4.size
   rw[mz]
   refine⟨_,rfl,Wb (w:=w5) ((ft [47,63,35] r:Nat):Int) ?_ ?_⟩
   · by_cases c:ft [47,63,35] r=r.length
     · rw[if_pos c]
       exact ae.yes rfl ⟨rfl,by rw[c]⟩
     · rw[if_neg c]
       exact ae.no (decide_eq_false (by omega)) ⟨rfl,rfl⟩
   refine aB (IM sec w5) ?_
   rintro _ w5' ⟨rfl,hw5⟩
   rw[hw5];clear hw5 w5'
   refine⟨_,_,rfl,⟨by omega,by omega⟩,?_⟩
   rw[Int.toNat_natCast]
   rintro _ rfl
   have hp:(r.take (ft [47,63,35] r)).length <=s.length:=by simp;omega
   have hd:(r.drop (ft [47,63,35] r)).length <=s.length:=by simp;omega
   refine aB (IL _ sec (by omega) w5 ((he.step hB2).step hb25)) ?_
   rintro _ w6 ⟨rfl,hb6⟩
   have hb26:=ab hb25 hb6 hb25.size
   refine⟨_,_,_,rfl,?_⟩
   have po:=OQ (r.take (ft [47,63,35] r)) sec
   revert hV po
   generalize gj (r.take (ft [47,63,35] r)) sec=p
   intro hV po
   refine bc.new (zs:=nJ.cells) (cs:=p.1.cells) rfl (Hst.len po) (Hst.one _) w6 λk10 w10 hk10 h10 hb10=>?_
   have hb2A:=ab hb26 hb10 hb26.size
   refine ae.of (λc=>?_) (λc=>?_)
   · have c:p.2.2≠0:=by simpa using c
     rw[if_pos c]at hV
     exact fin (u:=AZ) rfl hb2A hV
   have c:p.2.2=0:=by simpa using c
   rw[if_neg (by rw[c];decide)]at hV
   refine⟨⟨by omega,by omega⟩,?_⟩
   generalize r.drop (ft [47,63,35] r)=x at*
   intro y hy
   rw[hy];clear hy y
   have hfl:=wv [63,35] x
   refine⟨λt w'=>t=x.take (ft [63,35] x)/\bW w10 w',?_,λt=>aN.of ?_ _⟩
   · refine aB (vu [63,35] (by decide) (by decide) (by decide) x (by omega) w10) ?_
     rintro _ w11 ⟨rfl,hb11⟩
     rw[mz]
     refine⟨_,rfl,?_⟩
     by_cases c:ft [63,35] x=x.length
     · rw[if_pos c,c,List.take_length]
       exact ae.no rfl ⟨rfl,hb11⟩
     · try dsimp only
       rw[if_neg c,Int.toNat_natCast]
       refine ae.yes (decide_eq_true (by omega)) ⟨⟨by omega,by omega⟩,?_⟩
       rintro _ rfl
       exact⟨rfl,hb11⟩
   · rintro w11 ⟨rfl,hb11⟩
     have hb2B:=ab hb2A hb11 hb2A.size
     have h1B:=h10.below hb11
     refine⟨λt w'=>w'=w11/\t=F7 x,?_,λt=>aN.of ?_ _⟩
     · unfold F7
       refine ae.of (λc=>⟨rfl,?_⟩) (λc=>⟨rfl,?_⟩)
       · rw[if_pos (by simpa using c)]
       · rw[if_neg (by simpa using c)]
     · rintro _ ⟨rfl,rfl⟩
       refine aB (qX (F7 x) _) ?_
       rintro _ w12 ⟨rfl,hb12⟩
       have hb2C:=ab hb2B hb12 hb2B.size
       refine⟨_,rfl,ae.of (λc3=>?_) (λc3=>?_)⟩
       · have c3:ug (F7 x)=false:=by simpa using c3
         rw[if_neg (by rw[c3];decide)]at hV
         exact fin (u:=AZ) rfl hb2C hV
       · have c3:ug (F7 x)=true:=by simpa using c3
         rw[if_pos c3]at hV
         exact⟨_,bc.load0 (h1B.below hb12) (Hst.len po),_,Nk _ po _ _ _,fin (show Url.ok ⟨_,_,_,_⟩ from po) hb2C hV⟩
def fE (a:Option Addr)(b:World)(c:VP)(d:List PanicEntry->World->Prop):Prop:=nA b (.cells #[.pointer a] aj) λe f=>∃g:FP [.one .ptr],(∃h:World->Prop,h (World.drew f)/\∃i,(∀j,h j->Ld aj (vA e 0) j (.pointer i))/\(Option.isSome i=true)/\(Option.isSome i=true)/\∃j,(∀k,h k->Ld aP (Option.map (λl=>l.add 2) i) k (vI j))/\∃k,(∀l,h l->Ld aj (vA e 0) l (.pointer k))/\(Cf bS #[.pointer k,.func (.func bf) #[] #[.pointer (vA e 0)]] (World.drew f) λl m=>(∃n,l=.returned (vS n)/\h m/\nA m (.cells kV ao) λo p=>h p/\∃q,Sv ao (vA o 0) (.agg #[vS n,.bool false,vI 0,vS [],.int .u8 0,.int .u8 0,.int .u8 0,.int .u8 0,.int .u8 0,.int .u8 0,.int .u8 0,.int .u8 0,.int .u8 0,.int .u8 0,.int .u8 0,.int .u8 0,.int .u8 0,.int .u8 0,.int .u8 0,.int .u8 0,vI 0,vS [],vS [],vI j]) p q/\g (vA o 0) q)\/∃n,l=.panicked n/\∀_:Fr,d n m)/\∀l m,l=(World.drew f).heap.size->m=(World.drew f).alloc (.cells kV ao)->h m/\Cf bS #[.pointer k,.func (.func bf) #[] #[.pointer (vA e 0)]] m λn o=>(∃p,n=.returned (vS p)/\h o/\∃q,Sv ao (vA l 0) (.agg #[vS p,.bool false,vI 0,vS [],.int .u8 0,.int .u8 0,.int .u8 0,.int .u8 0,.int .u8 0,.int .u8 0,.int .u8 0,.int .u8 0,.int .u8 0,.int .u8 0,.int .u8 0,.int .u8 0,.int .u8 0,.int .u8 0,.int .u8 0,.int .u8 0,vI 0,vS [],vS [],vI j]) o q/\g (vA l 0) q)\/∃p,n=.panicked p/\∀_:Fr,d p o)/\∀h,aN 8 (∀i,g h i->∃j,Ld aj (vA e 0) i (.pointer j)/\(Option.isSome j=true)/\(Option.isSome j=true)/\∃k l m,Ld aw (Option.map (λn=>n.add 3) j) i (.slice k l m)/\(bx (2:Int) ((l:Nat):Int)/\Option.isSome k=true)/\∃n,Ld ak (am k (2:Int) 1) i (vS n)/\Cf vi #[vS n] i λo p=>∃q r,o=rT #[q,vI r]/\nA p (.cells rQ bt) λs t=>∃u,Sv bt (vA s 0) q t u/\∃v:FP [],(ae (r !=(0:Int)) (∃w,Ld aj (vA e 0) u (.pointer w)/\Cf aI #[.pointer w,vI r,vI 2] u λx y=>(x=rT #[]/\v y)\/∃z,x=.panicked z/\d z y) (v u))/\aN 5 (∀w,v w->∃x:World->Prop,x (World.drew w)/\∃y,(∀z,x z->Ld bt (vA s 0) z y)/\∃z,(∀A,x A->Ld aj (vA e 0) A (.pointer z))/\(Option.isSome h=true)/\Cf fi #[.pointer z,vI 3] (World.drew w) λA B=>(∃C,A=.returned (vS C)/\x B/\∃D,Sv bt (Option.map (λE=>E.add 1) h) y B D/\x D/\(Option.isSome h=true)/\∃E,Sv ak (Option.map (λF=>F.add 22) h) (vS C) D E/\(Option.isSome h=true)/\∃F,(∀G,bW E G->Ld ak (Option.map (λH=>H.add 22) h) G (vS F))/\∃G,(∀H,bW E H->Ld aj (vA e 0) H (.pointer G))/\(Option.isSome G=true)/\(Option.isSome G=true)/\∃H I J,(∀K,bW E K->Ld aC (Option.map (λL=>L.add 1) G) K (.slice H I J))/\∀K,bW E K->Cf ji #[vS F,.slice H I J] K λL M=>∃N O P Q,L=rT #[.slice N O P,.bool Q]/\∃R:FP [],(ae (!Q) (∃S,Ld aj (vA e 0) M (.pointer S)/\Cf aI #[.pointer S,vI 222,vI 3] M λT U=>(T=rT #[]/\R U)\/∃V,T=.panicked V/\d V U) (∃S,(∀T,bW M T->Ld aj (vA e 0) T (.pointer S))/\(Option.isSome S=true)/\(Option.isSome S=true)/\∃T U V,(∀X,bW M X->Ld aC (Option.map (λY=>Y.add 1) S) X (.slice T U V))/\∃X:FP [.one .slice],(∀Y Z aa ac ad,X Y Z aa ac->bW ac ad->X Y Z aa ad)/\(∀Y,bW M Y->uL jQ #[.slice N O P] Y λZ aa ac ad=>X Z aa ac ad/\bW Y ad)/\∀Y Z aa,∃ac,(∀ad,bW M ad->X Y Z aa ad->Cf iE #[.slice Y Z aa,.slice T U V] ad λag al=>ag=.returned (vI ac)/\bW ad al)/\∀ad,bW M ad->X Y Z aa ad->ae (decide (ac>(24:Int))) (∃ag,Ld aj (vA e 0) ad (.pointer ag)/\Cf aI #[.pointer ag,vI 53,vI 3] ad λal an=>(al=rT #[]/\R an)\/∃ba,al=.panicked ba/\d ba an) (∃ag,Ld aj (vA e 0) ad (.pointer ag)/\(Option.isSome ag=true)/\(Option.isSome ag=true)/\∃al an ba,Ld aC (Option.map (λbb=>bb.add 1) ag) ad (.slice al an ba)/\uI iI #[.slice N O P,.slice al an ba] ad λbb bd=>ae (decide (bb>(2000:Int))) (∃bj,Ld aj (vA e 0) bd (.pointer bj)/\Cf aI #[.pointer bj,vI 54,vI 3] bd λbk bl=>(bk=rT #[]/\R bl)\/∃bo,bk=.panicked bo/\d bo bl) (∃bj,Ld aj (vA e 0) bd (.pointer bj)/\(Option.isSome bj=true)/\(Option.isSome bj=true)/\∃bk bl bo,Ld au (Option.map (λbq=>bq.add 0) bj) bd (.slice bk bl bo)/\ae (((bl:Nat):Int)==(8:Int)) (∃bq,Ld aj (vA e 0) bd (.pointer bq)/\Cf aI #[.pointer bq,vI 53,vI 0] bd λbs bu=>(bs=rT #[]/\R bu)\/∃bw,bs=.panicked bw/\d bw bu) (R bd)))))/\aN 35 (∀S,R S->∃T:World->Prop,T (World.drew S)/\∃U,(∀V,T V->Ld aj (vA e 0) V (.pointer U))/\∃V,(∀X,T X->Ld aj (vA e 0) X (.pointer V))/\(Option.isSome V=true)/\(Option.isSome V=true)/\∃X Y Z,(∀aa,T aa->Ld au (Option.map (λac=>ac.add 0) V) aa (.slice X Y Z))/\∃aa,(∀ac,T ac->Ld ao h ac aa)/\∃ac ad ag al,(Instr.buildSlice au 1 #[(0,aa)]).run prog (World.drew S)=.ok (.slice ad ag al) ac/\T ac/\∃an ba bb bd,(Builtin.append_ #[au,au] au #[.slice X Y Z,.slice ad ag al]).run prog ac=.ok (.slice ba bb bd) an/\T an/\(Option.isSome U=true)/\(Option.isSome U=true)/\∃bj,Sv au (Option.map (λbk=>bk.add 0) U) (.slice ba bb bd) an bj/\c (.tuple #[]) bj))\/∃C,A=.panicked C/\∀_:Fr,d C B))
theorem nP (p0:Option Addr){w:World}{K:Value->World->Prop}{X:List PanicEntry->World->Prop}(h:fE p0 w K X):Cf fO #[.pointer p0] w (Jb K X):=
 qj (c:=aq Tryz.f157) (by kernel_rfl) func157 (by kernel_rfl) [(2,[(2,.one (.ptr))]),(6000003,[]),(6,[]),(5000010,[]),(6000013,[]),(1000015,[]),(3000015,[(0,.one (.bool)),(1,.one (.bool)),(2,.one (.bool)),(3,.one (.bool)),(4,.one (.bool)),(5,.one (.bool))]),(16,[]),(5000021,[]),(1000023,[]),(3000023,[(0,.one (.bool)),(2,.one (.bool)),(3,.one (.bool)),(4,.one (.bool)),(5,.one (.bool)),(1,.one (.slice)),(6,.one (.bool)),(7,.one (.bool)),(8,.one (.bool))]),(5000025,[]),(5000029,[]),(5000033,[]),(4000035,[])] [.pointer p0] (of_decide_eq_true (by kernel_rfl)) (fE p0 w K X) (by kernel_rfl) h
end Go.Pk
