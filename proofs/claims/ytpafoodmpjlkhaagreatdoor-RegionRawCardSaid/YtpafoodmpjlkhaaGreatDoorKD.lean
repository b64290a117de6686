/- What the laws lean on: HostC, Sub, HostD, UrlA, MatA, V31, V32, V33, Elem, PrT, DfaP, DaM, Chg; what is used. Its conditions: none. -/
import Derived.Test.YtpafoodmpjlkhaaGreatDoorKC
import Derived.Lib.LastIndexByte
set_option linter.unusedVariables false
set_option linter.unusedSimpArgs false
set_option linter.unusedSectionVars false
set_option maxRecDepth 100000
open Go.IntKind (i64)
open Go.Proofs.Tryz
open List (length)
open Option (isSome)
namespace Go.Pk
open Go.RowKit (Below)
open Go.Proofs
def gT (h:Hst):List UInt8:=if h.kind=1 then h.name else if h.kind=2 then xC h.ad else if h.kind=3 then[91]++As h.ad++[93]else[]
def cD (h:Hst):Bool:=match eX (gT h)with|some g=>Dz g h|none=>false
def bX (h:Hst):List (List UInt8):=if h.kind=1/\cD h=true then fV 46 [] h.name else[]
theorem Gb {a:List UInt8}(h:a.length=16):(xC a).length <=88:=by
 have:=uw ((a.drop 12).map λc=>Ee c.toNat) 46 21 (λx hx=>by
   obtain⟨c,_,rfl⟩:=List.mem_map.1 hx
   have:=za c
   exact Ct (by omega))
 rw[List.length_map,List.length_drop,h]at this
 exact this
theorem Au (a:List UInt8):(As a).length <=90:=by
 have hgl:=zG a
 unfold As
 split
 · have:=se (Dr a);omega
 · have l1:=se (l:=(gL a).take (cX (zsA a)).1) λx hx=>Dr a x (List.mem_of_mem_take hx)
   have l2:=se (l:=(gL a).drop ((cX (zsA a)).1+(cX (zsA a)).2)) λx hx=>Dr a x (List.mem_of_mem_drop hx)
   rw[List.length_take]at l1
   rw[List.length_drop]at l2
   simp;omega
theorem zN {h:Hst}(o:h.ok):(gT h).length <=h.name.length+100:=by
 have h4:=Gb o
 have h6:=Au h.ad
 unfold gT
 split
 · omega
 split
 · omega
 split
 · simp;omega
 · simp
theorem GU {h:Hst}(j:Nat):h.cells[2+j]? =(adC h.ad)[j]? :=by rw[Nat.add_comm];rfl
theorem HZ {h:Hst}(o:h.ok){w:World}{k:Nat}{T:TypeId}(ha:ai w k T h.cells):(Instr.loadAt av (.pointer (some ⟨k,2,none⟩))).run prog w=.ok (adV h.ad) w:=
 ic.load ha (i:=2) (us:=adC h.ad) (by rw[fA,o]) λj _=>GU j
theorem nq {h:Hst}(o:h.ok)(w:World)(he:Env w):Cf lX #[h.v] w (Ret λv w'=>v=vS (gT h)/\bW w w'):=by
 apply yN
 intro k1 w1 hk1 hw1
 have hB1:=(hw1▸af w _:bW w w1)
 have h1:ai w1 k1 am h.cells:=ai.new hk1 hw1
 refine⟨rfl,_,h1.load1 aC rfl rfl,?_⟩
 unfold gT
 refine ah.of (λc1=>?_) (λc1=>?_) <;> simp only[beq_iff_eq,beq_eq_false_iff_ne,ne_eq]at c1
 · rw[if_pos c1]
   exact⟨rfl,_,h1.load1 bC rfl rfl,rfl,hB1⟩
 rw[if_neg c1]
 refine ah.of (λc2=>?_) (λc2=>?_) <;> simp only[beq_iff_eq,beq_eq_false_iff_ne,ne_eq]at c2
 · rw[if_pos c2]
   refine⟨rfl,_,HZ o h1,?_⟩
   refine aw (xR h.ad o w1 (he.step hB1)) ?_
   rintro _ w2 ⟨rfl,hb2⟩
   exact⟨_,rfl,rfl,ab hB1 hb2 hB1.size⟩
 rw[if_neg c2]
 refine ah.of (λc3=>?_) (λc3=>?_) <;> simp only[beq_iff_eq,beq_eq_false_iff_ne,ne_eq]at c3
 · rw[if_pos c3]
   refine⟨rfl,_,HZ o h1,?_⟩
   refine aw (xS h.ad o w1 (he.step hB1)) ?_
   rintro _ w2 ⟨rfl,hb2⟩
   have h6:=Au h.ad
   refine⟨_,rfl,Kr (by simp;omega),?_⟩
   rintro _ rfl
   refine⟨Kr (by simp;omega),?_⟩
   rintro _ rfl
   exact⟨rfl,ab hB1 hb2 hB1.size⟩
 · rw[if_neg c3]
   exact⟨rfl,hB1⟩
theorem qq {h:Hst}(o:h.ok)(hn:h.name.length <=1000000000)(w:World)(he:Env w):Cf mZ #[h.v] w (Ret λv w'=>v=.bool (cD h)/\bW w w'):=by
 apply wC
 have hxl:=zN o
 intro k1 w1 hk1 hw1
 have hB1:=(hw1▸af w _:bW w w1)
 have h1:ai w1 k1 am h.cells:=ai.new hk1 hw1
 refine⟨_,bF.load0 h1 (Hst.len o),?_⟩
 refine aw (nq o w1 (he.step hB1)) ?_
 rintro _ w2 ⟨rfl,hb2⟩
 have hB2:=ab hB1 hb2 hB1.size
 refine⟨_,rfl,?_⟩
 refine aw (jz (gT h) (by omega) w2 (he.step hB2)) ?_
 rintro _ w3 ⟨rfl,hb3⟩
 have hB3:=ab hB2 hb3 hB2.size
 refine⟨_,_,by rw[qp],?_⟩
 have hok:((eX (gT h)).getD iN).ok:=Fh λx hx=>fM hx
 refine bF.new (zs:=iN.cells) (cs:=((eX (gT h)).getD iN).cells) rfl (Hst.len hok) (Hst.one _) w3 λk4 w4 hk4 h4 hb4=>?_
 have hB4:=ab hB3 hb4 hB3.size
 have h14:=((h1.below hb2).below hb3).below hb4
 unfold cD
 cases hv:eX (gT h)with
 | none=>exact ah.no rfl ⟨rfl,hB4⟩
 | some g=>
   rw[hv]at h4 hok
   exact ah.yes rfl ⟨_,bF.load0 h4 (Hst.len hok),_,bF.load0 h14 (Hst.len o),_,J5 hok o w4,rfl,hB4⟩
def Ek (h:Hst)(w:World)(v:Value)(w':World):Prop:=∃(a:Option Addr) (n c:Nat),v=.slice a n c/\Ow tS aI w' NoB a n c (bX h)/\br w.heap.size a/\bW w w'
theorem oL {h:Hst}(o:h.ok)(hn:h.name.length <=1000000000)(w:World)(he:Env w):Cf lW #[h.v] w (Ret (Ek h w)):=by
 apply uW
 intro k1 w1 hk1 hw1
 have hB1:=(hw1▸af w _:bW w w1)
 have h1:ai w1 k1 am h.cells:=ai.new hk1 hw1
 have none_end:∀{wx:World},¬ (h.kind=1/\cD h=true)->bW w wx->Ek h w (.slice none 0 0) wx:=λhc hb=>⟨none,0,0,rfl,by unfold bX;rw[if_neg hc];exact Ow.nil _ _ _ _,br.none _,hb⟩
 refine mJ (λw'=>(h.kind=1/\cD h=true)/\bW w1 w') ⟨rfl,_,h1.load1 aC rfl rfl,?_⟩ ?_
 · refine ah.of (λc=>none_end (λhc=>?_) hB1) (λc=>?_)
   · rw[hc.1]at c;simp at c
   · have hk:h.kind=1:=by simpa using c
     refine⟨_,bF.load0 h1 (Hst.len o),?_⟩
     refine aw (qq o hn w1 (he.step hB1)) ?_
     rintro _ w2 ⟨rfl,hb2⟩
     refine⟨_,rfl,ah.of (λc2=>none_end (λhc=>?_) (ab hB1 hb2 hB1.size)) (λc2=>⟨⟨hk,by simpa using c2⟩,hb2⟩)⟩
     rw[hc.2]at c2;cases c2
 · rintro w2 ⟨hc,hb2⟩
   have hB2:=ab hB1 hb2 hB1.size
   refine⟨rfl,_,(h1.below hb2).load1 bC rfl rfl,?_⟩
   refine aw (iP h.name 46 (by omega) w2 (he.step hB2)) ?_
   rintro _ w3 ⟨a,n,c,rfl,ho,hf,hb3⟩
   exact⟨_,_,_,rfl,_,_,_,rfl,by unfold bX;rw[if_pos hc];exact ho,hf.mono hB2.size,ab hB2 hb3 hB2.size⟩
theorem gr.drop {α:Type}{T:Ty α}{w:World}{A:Bl}{l:List Value}{xs:List α}(h:gr T w A l xs)(j:Nat):gr T w A (l.drop (j*T.k)) (xs.drop j):=by
 refine⟨by rw[List.length_drop,List.length_drop,h.len,Nat.sub_mul],λi hi=>?_⟩
 have hi':j+i<xs.length:=by rw[List.length_drop]at hi;omega
 have:=h.rep (j+i) hi'
 rw[List.drop_drop,List.getElem_drop]
 rw[Nat.add_mul]at this
 exact this
theorem Sl.from {α:Type}{T:Ty α}{w:World}{A:Bl}{a:Option Addr}{n c:Nat}{xs:List α}(h:Sl T w A a n c xs)(j:Nat)(hj:j <=xs.length){k:Nat}(hk:T.k=k):Sl T w A (kU a c j k) (n-j) (c-j) (xs.drop j):=by
 subst hk
 obtain⟨h1,h2,h3,h4⟩:=h
 refine⟨by rw[List.length_drop,h1],by omega,by omega,?_⟩
 rcases h4 with h4|⟨b,off,e,hb,hab,l,h5,h6⟩
 · left;rw[h4];simp
 · by_cases hc:c=j
   · left
     exact List.drop_eq_nil_of_le (by omega)
   · right
     refine⟨b,off+j*T.k,?_,hb,hab,l.drop (j*T.k),h5.drop j,λi hi=>?_⟩
     · unfold kU;rw[if_neg hc,e,Option.map_some,dy]
     · rw[List.length_drop]at hi
       rw[Nat.add_assoc,h6 _ (by omega),List.getElem?_drop]
theorem Gj {o:Option (List UInt8)}{h:Hst}(e:(o.map λa=>(⟨3,[],a⟩:Hst))=some h):h.kind=3:=by
 cases o with
 | none=>cases e
 | some a=>cases e;rfl
theorem rG {d:Hst}(o:d.ok)(hk:d.kind=1)(hr:cD d=true):d=⟨1,d.name,ad0⟩/\lg d.name=d.name/\(fV 46 [] d.name).all bD=true/\d.name.length <=253/\fj (sL (fV 46 [] d.name))=false/\eX d.name=some d:=by
 have hx:gT d=d.name:=by unfold gT;rw[if_pos hk]
 unfold cD at hr
 rw[hx]at hr
 cases hv:eX d.name with
 | none=>rw[hv]at hr;cases hr
 | some g=>
   rw[hv]at hr
   obtain rfl:=(lv (fM hv) o).1 hr
   have hv':=hv
   unfold eX at hv'
   split at hv'
   · split at hv'
     · have:=Gj hv';omega
     · cases hv'
   split at hv'
   · cases h4:v4V g.name with
     | none=>rw[h4]at hv';cases hv'
     | some a=>
       rw[h4]at hv'
       have:g.kind=2:=by rw[<- Option.some.inj hv']
       omega
   rename_i hd
   split at hv'
   · rename_i hc
     have e:=Option.some.inj hv'
     have e2:lg g.name=g.name:=congrArg Hst.name e
     rw[e2]at hc e hd
     exact⟨e.symm,e2,hc.2,hc.1,by simpa using hd,rfl⟩
   · cases hv'
theorem Br {d:Hst}(o:d.ok)(h:(bX d).length≠0):(d.kind=1/\cD d=true)/\bX d=fV 46 [] d.name:=by
 unfold bX at h ⊢
 split at h
 · rename_i hc;exact⟨hc,by rw[if_pos hc]⟩
 · exact absurd rfl h
def Ji (c:UInt8):Bool:= !(decide (((c.toNat:Nat):Int)<33) || (decide (((c.toNat:Nat):Int)>126) || (c==63 || c==35)))
def we (s:List UInt8):Bool:=decide (s.head?=some 47)&&(decide (s.length <=2048)&&s.all Ji)
def DN (p o:List UInt8):Bool:=(p==o) || (decide (o.length<p.length)&&((p.take o.length==o)&&(decide (p[o.length]? =some 47) || decide (o.getLast?=some 47))))
structure Cky where
 name:List UInt8
 value:List UInt8
 host:Hst
 only:Bool
 path:List UInt8
 sec:Bool
 http:Bool
 same:Int
 exp:Int
 born:Int
 used:Int
 seq:Int
def Cky.tail (c:Cky):List Value:=[.bool c.only,vS c.path,.bool c.sec,.bool c.http,vI c.same,vI c.exp,vI c.born,vI c.used,vI c.seq]
def Cky.cells (c:Cky):List Value:=vS c.name::vS c.value::(c.host.cells++c.tail)
def Cky.v (c:Cky):Value:=.agg c.cells.toArray
def Cky.ok (c:Cky):Prop:=c.host.ok
theorem Cky.len {c:Cky}(o:c.ok):c.cells.length=29:=by unfold Cky.cells;rw[List.length_cons,List.length_cons,List.length_append,Hst.len o];rfl
theorem Cky.one (c:Cky):vP c.cells:=aN rfl (aN rfl (uF (Hst.one _) (aN rfl (aN rfl (aN rfl (aN rfl (aN rfl (aN rfl (aN rfl (aN rfl (aN rfl gA)))))))))))
theorem GW {c:Cky}(o:c.ok){j:Nat}(h:j<18):c.cells[2+j]? =c.host.cells[j]? :=by
 unfold Cky.cells
 rw[show 2+j=j+1+1 by omega,List.getElem?_cons_succ,List.getElem?_cons_succ,List.getElem?_append_left (by rw[Hst.len o];exact h)]
theorem nV {c:Cky}(o:c.ok)(j:Nat):c.cells[20+j]? =c.tail[j]? :=by
 unfold Cky.cells
 rw[show 20+j=(18+j)+1+1 by omega,List.getElem?_cons_succ,List.getElem?_cons_succ,List.getElem?_append_right (by rw[Hst.len o];omega),Hst.len o]
 congr 1;omega
structure Req where
 sec:Bool
 host:Hst
 path:List UInt8
 cross:Int
def Req.tail (r:Req):List Value:=[vS r.path,vI r.cross]
def Req.cells (r:Req):List Value:=.bool r.sec::(r.host.cells++r.tail)
def Req.v (r:Req):Value:=.agg r.cells.toArray
def Req.ok (r:Req):Prop:=r.host.ok
theorem Req.len {r:Req}(o:r.ok):r.cells.length=21:=by unfold Req.cells;rw[List.length_cons,List.length_append,Hst.len o];rfl
theorem Req.one (r:Req):vP r.cells:=aN rfl (uF (Hst.one _) (aN rfl (aN rfl gA)))
theorem jG:Whl prog aM 21:=⟨⟨_,_,wL⟩,by kernel_rfl⟩
theorem sR (a:Int)(b:Option Addr){w K}(h:ah (decide (a<(0:Int))) (K (.bool true) w) (∃c,Ld aq b w (vI c)/\K (.bool (decide (a >=c))) w)):Cf cb #[vI a,.pointer b] w (Ret K):=ru func155 [] h
theorem fm (a:Option Addr)(b c:Nat)(d:Option Addr){w K}(h:∃e:Nat->FP [.one (.int .i64)],(∃f,e f (0:Int) w)/\∀f g,aL 12 (∀i,e f g i->ah (decide (g<((b:Nat):Int))) ((bx g ((b:Nat):Int)/\Option.isSome a=true)/\∃j,Ld aq (ak a g 1) i (vI j)/\uB cb #[vI j,.pointer d] i λk l=>ah k (K (vI g) l) (∃m:Nat,m<f/\e m (i64.wrap (g+(1:Int))) l)) (K (vI (-1)) i))):Cf aP #[.slice a b c,.func (.func cb) #[] #[.pointer d]] w (Ret K):=ru func202 [(6,[(8,.one (.int .i64))])] h
theorem ed (a:Option Addr)(b c:Nat)(d:Option Addr){w K}(h:uI aP #[.slice a b c,.func (.func cb) #[] #[.pointer d]] w λe f=>K (.bool (decide (e >=(0:Int)))) f):Cf aJ #[.slice a b c,.func (.func cb) #[] #[.pointer d]] w (Ret K):=ru func152 [] h
theorem yL (a b:Int)(c:Option Addr)(d e:Nat)(f:Option Addr)(g i:Nat){w K}(h:nA w (.cells #[vI a,vI b,.slice c d e,.slice f g i] ae) λj k=>true/\∃l m n,Ld aH (vA j 3) k (.slice l m n)/\nA k (.cells #[vI 0] aq) λo p=>∃q,Sv aq (vA o 0) (vI ((m:Nat):Int)) p q/\∃r:FP [],(true/\∃s,Ld aq (vA j 0) q (vI s)/\ah (decide (s<(1:Int))) (K (.bool false) q) (true/\∃t,Ld aq (vA j 0) q (vI t)/\ah (decide (t>(512:Int))) (K (.bool false) q) (∃u,Ld aq (vA o 0) q (vI u)/\ah (decide (u<(1:Int))) (K (.bool false) q) (∃v,Ld aq (vA o 0) q (vI v)/\ah (decide (v>(65536:Int))) (K (.bool false) q) (true/\∃x y z,Ld aj (vA j 2) q (.slice x y z)/\∃A,Ld aq (vA o 0) q (vI A)/\true/\∃B,Ld aq (vA j 0) q (vI B)/\ah (((y:Nat):Int) !=(i64.wrap (A*B))) (K (.bool false) q) (true/\∃C,Ld aq (vA j 1) q (vI C)/\ah (decide (C<(0:Int))) (K (.bool false) q) (true/\∃D,Ld aq (vA j 1) q (vI D)/\∃E,Ld aq (vA o 0) q (vI E)/\ah (decide (D >=E)) (K (.bool false) q) (r q))))))))/\aL 38 (∀s,r s->true/\∃t u v,Ld aj (vA j 2) s (.slice t u v)/\uB aJ #[.slice t u v,.func (.func cb) #[] #[.pointer (vA o 0)]] s λx y=>K (.bool (!x)) y)):Cf iv #[.agg #[vI a,vI b,.slice c d e,.slice f g i]] w (Ret K):=ru func102 [(4,[])] h
theorem pL (a b:Int){w K}(h:(0 <=(32:Int))/\(0 <=(32:Int))/\(0 <=(32:Int))/\(0 <=(32:Int))/\(0 <=(32:Int))/\K (.tuple #[.int .u64 (IntKind.u64.wrap ((IntKind.u64.wrap ((IntKind.u64.wrap ((Int.fdiv a (2 ^ (min (Int.toNat 32) (IntKind.bits .u64))))*(Int.fdiv b (2 ^ (min (Int.toNat 32) (IntKind.bits .u64))))))+(Int.fdiv (IntKind.u64.wrap ((IntKind.u64.wrap ((Int.fdiv a (2 ^ (min (Int.toNat 32) (IntKind.bits .u64))))*(IntKind.u64.wrap (((BitVec.ofInt (IntKind.bits .u64) b) &&& (BitVec.ofInt (IntKind.bits .u64) (4294967295:Int))).toNat:Nat))))+(Int.fdiv (IntKind.u64.wrap ((IntKind.u64.wrap (((BitVec.ofInt (IntKind.bits .u64) a) &&& (BitVec.ofInt (IntKind.bits .u64) (4294967295:Int))).toNat:Nat))*(IntKind.u64.wrap (((BitVec.ofInt (IntKind.bits .u64) b) &&& (BitVec.ofInt (IntKind.bits .u64) (4294967295:Int))).toNat:Nat)))) (2 ^ (min (Int.toNat 32) (IntKind.bits .u64)))))) (2 ^ (min (Int.toNat 32) (IntKind.bits .u64))))))+(Int.fdiv (IntKind.u64.wrap ((IntKind.u64.wrap (((BitVec.ofInt (IntKind.bits .u64) (IntKind.u64.wrap ((IntKind.u64.wrap ((Int.fdiv a (2 ^ (min (Int.toNat 32) (IntKind.bits .u64))))*(IntKind.u64.wrap (((BitVec.ofInt (IntKind.bits .u64) b) &&& (BitVec.ofInt (IntKind.bits .u64) (4294967295:Int))).toNat:Nat))))+(Int.fdiv (IntKind.u64.wrap ((IntKind.u64.wrap (((BitVec.ofInt (IntKind.bits .u64) a) &&& (BitVec.ofInt (IntKind.bits .u64) (4294967295:Int))).toNat:Nat))*(IntKind.u64.wrap (((BitVec.ofInt (IntKind.bits .u64) b) &&& (BitVec.ofInt (IntKind.bits .u64) (4294967295:Int))).toNat:Nat)))) (2 ^ (min (Int.toNat 32) (IntKind.bits .u64))))))) &&& (BitVec.ofInt (IntKind.bits .u64) (4294967295:Int))).toNat:Nat))+(IntKind.u64.wrap ((IntKind.u64.wrap (((BitVec.ofInt (IntKind.bits .u64) a) &&& (BitVec.ofInt (IntKind.bits .u64) (4294967295:Int))).toNat:Nat))*(Int.fdiv b (2 ^ (min (Int.toNat 32) (IntKind.bits .u64)))))))) (2 ^ (min (Int.toNat 32) (IntKind.bits .u64)))))),.int .u64 (IntKind.u64.wrap (a*b))]) w):Cf ls #[.int .u64 a,.int .u64 b] w (Ret K):=ru func204 [] h
theorem rP (a b:Int){w K}(h:Cf ls #[.int .u64 a,.int .u64 b] w λc d=>∃e f,c=rT #[.int .u64 e,.int .u64 f]/\K (.tuple #[.int .u64 e,.int .u64 f]) d):Cf jQ #[.int .u64 a,.int .u64 b] w (Ret K):=ru func154 [] h
theorem kR (a:Option Addr)(b c:Nat)(d:Int){w K}(h:∃e:FP [],(ah (decide (d<(0:Int))) (False) (e w))/\aL 3 (∀f,e f->Cf jQ #[.int .u64 (IntKind.u64.wrap ((b:Nat):Int)),.int .u64 (IntKind.u64.wrap d)] f λg i=>∃j k,g=rT #[.int .u64 j,.int .u64 k]/\∃l:FP [],(∃m:FP [.one .bool],(ah (decide (j>(0:Int))) (m true i) (m (decide (k>(9223372036854775807:Int))) i))/\∀n,aL 5 (∀o,m n o->ah n (False) (l o)))/\aL 7 (∀m,l m->∃n o p q,(Instr.makeSlice aj (vI (i64.wrap k)) (vI (i64.wrap k))).run prog m=.ok (.slice o p q) n/\∃r s,(Builtin.copy_ #[aj,aj] aq #[.slice o p q,.slice a b c]).run prog n=.ok (vI s) r/\∃t:Nat->FP [.one (.int .i64)],(∃u,t u s r)/\∀u v,aL 13 (∀x,t u v x->ah (decide (v<((p:Nat):Int))) (bd v ((p:Nat):Int)/\bd v ((q:Nat):Int)/\∃y z,(Builtin.copy_ #[aj,aj] aq #[.slice (kU o q (Int.toNat v) 1) (p-(Int.toNat v)) (q-(Int.toNat v)),.slice o (Int.toNat v) q]).run prog (World.drew x)=.ok (vI z) y/\∃A:Nat,A<u/\t A (i64.wrap (v+z)) y) (K (.slice o p q) x))))):Cf bm #[.slice a b c,vI d] w (Ret K):=ru func101 [(2,[]),(10,[]),(11,[(26,.one .bool)]),(22,[(8,.one (.int .i64))])] h
theorem pH (a:Option Addr)(b:Bool)(c:Int){w K}(h:(Option.isSome a=true)/\(Option.isSome a=true)/\(isSome (Option.map (λd=>d.add 0) a))/\∃d e f,Ld aH (Option.map (λg=>g.add 3) (Option.map (λg=>g.add 0) a)) w (.slice d e f)/\nA w (.cells #[.bool b] bv) λg i=>∃j k l m,(Builtin.append_ #[aH,aH] aH #[.slice d e f,.slice (vA g 0) 1 1]).run prog i=.ok (.slice k l m) j/\(Option.isSome a=true)/\(Option.isSome a=true)/\(isSome (Option.map (λn=>n.add 0) a))/\∃n,Sv aH (Option.map (λo=>o.add 3) (Option.map (λo=>o.add 0) a)) (.slice k l m) j n/\(Option.isSome a=true)/\(Option.isSome a=true)/\(isSome (Option.map (λo=>o.add 0) a))/\(Option.isSome a=true)/\(Option.isSome a=true)/\(isSome (Option.map (λo=>o.add 0) a))/\∃o p q,(∀r,bW n r->Ld aj (Option.map (λs=>s.add 2) (Option.map (λs=>s.add 0) a)) r (.slice o p q))/\∃r,(∀s,bW n s->Ld aq (Option.map (λt=>t.add 0) (Option.map (λt=>t.add 0) a)) s (vI r))/\∀s,n.heap.size <=s->∃t:FP [.one .slice],(∀u v x y z,t u v x y->bW y z->t u v x z)/\(∀u,bW n u->u.heap[s]? =some (.cells #[vI c] aq)->uL bm #[.slice (vA s 0) 1 1,vI r] u λv x y z=>t v x y z/\bW u z)/\∀u v x,∀y,bW n y->t u v x y->y.heap[s]? =some (.cells #[vI c] aq)->∃z A B C,(Builtin.append_ #[aj,aj] aj #[.slice o p q,.slice u v x]).run prog y=.ok (.slice A B C) z/\(Option.isSome a=true)/\(Option.isSome a=true)/\(isSome (Option.map (λD=>D.add 0) a))/\∃D,Sv aj (Option.map (λE=>E.add 2) (Option.map (λE=>E.add 0) a)) (.slice A B C) z D/\(Option.isSome a=true)/\(Option.isSome a=true)/\(isSome (Option.map (λE=>E.add 0) a))/\∃E F G,Ld aH (Option.map (λH=>H.add 3) (Option.map (λH=>H.add 0) a)) D (.slice E F G)/\K (vI (i64.wrap (((F:Nat):Int)-(1:Int)))) D):Cf cw #[.pointer a,.bool b,vI c] w (Ret K):=ru func132 [(3000005,[(0,.one .bool),(1,.one .bool),(2,.one .bool),(3,.one .bool),(4,.one .bool),(6,.one .bool),(8,.one .bool),(9,.one .bool),(10,.one .bool),(11,.one .bool),(5,.one .bool),(12,.one .bool),(7,.one .bool),(13,.one .slice)])] h
theorem sS (a:Int)(b:Option Addr){w K}(h:ah (decide (a<(0:Int))) (K (.bool true) w) (∃c,Ld aq b w (vI c)/\K (.bool (decide (a >=c))) w)):Cf cd #[vI a,.pointer b] w (Ret K):=ru func153 [] h
theorem fq (a:Option Addr)(b c:Nat)(d:Option Addr){w K}(h:∃e:Nat->FP [.one (.int .i64)],(∃f,e f (0:Int) w)/\∀f g,aL 12 (∀i,e f g i->ah (decide (g<((b:Nat):Int))) ((bx g ((b:Nat):Int)/\Option.isSome a=true)/\∃j,Ld aq (ak a g 1) i (vI j)/\uB cd #[vI j,.pointer d] i λk l=>ah k (K (vI g) l) (∃m:Nat,m<f/\e m (i64.wrap (g+(1:Int))) l)) (K (vI (-1)) i))):Cf aP #[.slice a b c,.func (.func cd) #[] #[.pointer d]] w (Ret K):=ru func202 [(6,[(8,.one (.int .i64))])] h
theorem ee (a:Option Addr)(b c:Nat)(d:Option Addr){w K}(h:uI aP #[.slice a b c,.func (.func cd) #[] #[.pointer d]] w λe f=>K (.bool (decide (e >=(0:Int)))) f):Cf aJ #[.slice a b c,.func (.func cd) #[] #[.pointer d]] w (Ret K):=ru func152 [] h
theorem yM (a:Int)(b:Option Addr)(c d:Nat)(e:Bool){w K}(h:nA w (.cells #[vI a] aq) λf g=>nA g (.cells #[vI 0,vI 0,.slice none 0 0,.slice none 0 0] ae) λi j=>∃k:FP [],(∃l:FP [.one .bool],(∃m,Ld aq (vA f 0) j (vI m)/\ah (decide (m<(1:Int))) (l true j) (∃n,Ld aq (vA f 0) j (vI n)/\ah (decide (n>(512:Int))) (l true j) (uB aJ #[.slice b c d,.func (.func cd) #[] #[.pointer (vA f 0)]] j λo p=>l o p)))/\∀m,aL 10 (∀n,l m n->ah m (∃o,Sv ae (vA i 0) (.agg #[vI 0,vI 0,.slice none 0 0,.slice none 0 0]) n o/\∃p q r s t u v x,Rv ae (vA i 0) o (.agg #[vI p,vI q,.slice r s t,.slice u v x])/\K (.tuple #[.agg #[vI p,vI q,.slice r s t,.slice u v x],vI 151]) o) (k n)))/\aL 13 (∀l,k l->ah (decide (((c:Nat):Int)>(65534:Int))) (∃m,Sv ae (vA i 0) (.agg #[vI 0,vI 0,.slice none 0 0,.slice none 0 0]) l m/\∃n o p q r s t u,Rv ae (vA i 0) m (.agg #[vI n,vI o,.slice p q r,.slice s t u])/\K (.tuple #[.agg #[vI n,vI o,.slice p q r,.slice s t u],vI 152]) m) (∃m,Ld aq (vA f 0) l (vI m)/\nA l (.cells #[vI m,vI 1,.slice none 0 0,.slice none 0 0] iq) λn o=>uI cw #[.pointer (vA n 0),.bool false,vI 0] o λp q=>∃r:Nat->FP [.one (.int .i64)],(∃s,r s (0:Int) q)/\∀s t,aL 21 (∀u,r s t u->ah (decide (t<((c:Nat):Int))) ((bx t ((c:Nat):Int)/\Option.isSome b=true)/\∃v,Ld aq (ak b t 1) u (vI v)/\uI cw #[.pointer (vA n 0),.bool false,vI 0] u λx y=>true/\true/\true/\∃z A B,(∀C,bW y C->Ld aj (vA n 2) C (.slice z A B))/\∃C,(∀D,bW y D->Ld aq (vA f 0) D (vI C))/\(bx (i64.wrap ((i64.wrap (x*C))+v)) ((A:Nat):Int)/\Option.isSome z=true)/\∀D,bW y D->∃E,Sv aq (ak z (i64.wrap ((i64.wrap (x*C))+v)) 1) (vI (i64.wrap (x+(1:Int)))) D E/\∃F:Nat,F<s/\r F (i64.wrap (t+(1:Int))) E) (true/\true/\true/\∃v x y,Ld aH (vA n 3) u (.slice v x y)/\∃z:FP [.one (.int .i64)],(ah e (z ((x:Nat):Int) u) (z (0:Int) u))/\∀A,aL 2 (∀B,z A B->uI cw #[.pointer (vA n 0),.bool true,vI A] B λC D=>true/\true/\∃E F G H I J L M,Ld ae (vA n 0) D (.agg #[vI E,vI F,.slice G H I,.slice J L M])/\∃N,Sv ae (vA i 0) (.agg #[vI E,vI F,.slice G H I,.slice J L M]) D N/\∃O P Q R S T U V,Rv ae (vA i 0) N (.agg #[vI O,vI P,.slice Q R S,.slice T U V])/\K (.tuple #[.agg #[vI O,vI P,.slice Q R S,.slice T U V],vI 0]) N)))))):Cf lT #[vI a,.slice b c d,.bool e] w (Ret K):=ru func98 [(2,[]),(3,[(24,.one .bool)]),(26,[(38,.one (.int .i64))]),(3000039,[(0,.one .bool),(1,.one .bool),(2,.one .bool),(3,.one .bool),(5,.one .bool),(8,.one .bool),(10,.one .bool),(11,.one .bool),(4,.one .bool),(6,.one .bool),(7,.one .bool),(9,.one .bool),(12,.one .bool)]),(45,[(13,.one (.int .i64))])] h
theorem Ai (a:Int){w K}(h:nA w (.cells #[vI 0,vI 0,.slice none 0 0,.slice none 0 0] ae) λb c=>∃d:FP [],(∃e:FP [.one .bool],(ah (decide (a<(1:Int))) (e true c) (e (decide (a>(512:Int))) c))/\∀f,aL 5 (∀g,e f g->ah f (∃i,Sv ae (vA b 0) (.agg #[vI 0,vI 0,.slice none 0 0,.slice none 0 0]) g i/\∃j k l m n o p q,Rv ae (vA b 0) i (.agg #[vI j,vI k,.slice l m n,.slice o p q])/\K (.tuple #[.agg #[vI j,vI k,.slice l m n,.slice o p q],vI 151]) i) (d g)))/\aL 8 (∀e,d e->nA e (.cells #[vI a,vI 0,.slice none 0 0,.slice none 0 0] iq) λf g=>uI cw #[.pointer (vA f 0),.bool false,vI 0] g λi j=>true/\true/\∃k l m n o p q r,Ld ae (vA f 0) j (.agg #[vI k,vI l,.slice m n o,.slice p q r])/\∃s,Sv ae (vA b 0) (.agg #[vI k,vI l,.slice m n o,.slice p q r]) j s/\∃t u v x y z A B,Rv ae (vA b 0) s (.agg #[vI t,vI u,.slice v x y,.slice z A B])/\K (.tuple #[.agg #[vI t,vI u,.slice v x y,.slice z A B],vI 0]) s)):Cf lj #[vI a] w (Ret K):=ru func99 [(2,[]),(3,[(10,.one .bool)])] h
theorem Ak (a:Int)(b:Option Addr)(c d:Nat){w K}(h:nA w (.cells #[vI 0,vI 0,.slice none 0 0,.slice none 0 0] ae) λe f=>Cf lT #[vI a,.slice b c d,.bool false] f λg i=>∃j k l m n o p q r,g=rT #[.agg #[vI j,vI k,.slice l m n,.slice o p q],vI r]/\∃s,Sv ae (vA e 0) (.agg #[vI j,vI k,.slice l m n,.slice o p q]) i s/\∃t u v x y z A B,Rv ae (vA e 0) s (.agg #[vI t,vI u,.slice v x y,.slice z A B])/\K (.tuple #[.agg #[vI t,vI u,.slice v x y,.slice z A B],vI r]) s):Cf nZ #[vI a,.slice b c d] w (Ret K):=ru func49 [] h
theorem wv (a:Int)(b:Option Addr)(c d:Nat){w K}(h:nA w (.cells #[vI 0,vI 0,.slice none 0 0,.slice none 0 0] ae) λe f=>Cf lT #[vI a,.slice b c d,.bool true] f λg i=>∃j k l m n o p q r,g=rT #[.agg #[vI j,vI k,.slice l m n,.slice o p q],vI r]/\∃s,Sv ae (vA e 0) (.agg #[vI j,vI k,.slice l m n,.slice o p q]) i s/\∃t u v x y z A B,Rv ae (vA e 0) s (.agg #[vI t,vI u,.slice v x y,.slice z A B])/\K (.tuple #[.agg #[vI t,vI u,.slice v x y,.slice z A B],vI r]) s):Cf ku #[vI a,.slice b c d] w (Ret K):=ru func100 [] h
theorem uT (a b:Bool){w K}(h:ah a (K (.bool b) w) (K (.bool false) w)):Cf eS #[.bool a,.bool b] w (Ret K):=ru func74 [] h
theorem j3 (a b:Int)(c:Option Addr)(d e:Nat)(f:Option Addr)(g i:Nat)(j k:Int)(l:Option Addr)(m n:Nat)(o:Option Addr)(p q:Nat){w K}(h:nA w (.cells #[vI a,vI b,.slice c d e,.slice f g i] ae) λr s=>nA s (.cells #[vI j,vI k,.slice l m n,.slice o p q] ae) λt u=>nA u (.cells #[vI 0,vI 0,.slice none 0 0,.slice none 0 0] ae) λv x=>∃y:FP [],(∃z:FP [.one .bool],(∃A B C D E F G H,Ld ae (vA r 0) x (.agg #[vI A,vI B,.slice C D E,.slice F G H])/\uB iv #[.agg #[vI A,vI B,.slice C D E,.slice F G H]] x λI J=>ah (!I) (z true J) (∃L M N O P Q R S,Ld ae (vA t 0) J (.agg #[vI L,vI M,.slice N O P,.slice Q R S])/\uB iv #[.agg #[vI L,vI M,.slice N O P,.slice Q R S]] J λT U=>ah (!T) (z true U) (true/\∃V,Ld aq (vA r 0) U (vI V)/\true/\∃X,Ld aq (vA t 0) U (vI X)/\z (V !=X) U)))/\∀A,aL 14 (∀B,z A B->ah A (∃C,Sv ae (vA v 0) (.agg #[vI 0,vI 0,.slice none 0 0,.slice none 0 0]) B C/\∃D E F G H I J L,Rv ae (vA v 0) C (.agg #[vI D,vI E,.slice F G H,.slice I J L])/\K (.tuple #[.agg #[vI D,vI E,.slice F G H,.slice I J L],vI 151]) C) (y B)))/\aL 17 (∀z,y z->true/\∃A,Ld aq (vA r 0) z (vI A)/\nA z (.cells #[vI A,vI 0,.slice none 0 0,.slice none 0 0] iq) λB C=>true/\∃D,Ld aq (vA r 1) C (vI D)/\true/\∃E,Ld aq (vA t 1) C (vI E)/\nA C (.cells #[vI 0,vI 0] aK) λF G=>∃H,Sv aK (vA F 0) (.agg #[vI D,vI E]) G H/\nA H (.map #[] 0) λI J=>∃L M,Ld aK (vA F 0) J (.agg #[vI L,vI M])/\∃N,(Instr.mapUpdate dw (.map (some I)) (.agg #[vI L,vI M]) (vI 0)).run prog J=.ok () N/\∃O P,Ld aK (vA F 0) N (.agg #[vI O,vI P])/\nA N (.cells #[vI O,vI P] aK) λQ R=>∃S:Nat->FP [.one .slice],(∃T,S T (vA Q 0) 1 1 R)/\∀T U V X,aL 104 (∀Y,S T U V X Y->true/\true/\true/\∃Z aa ac,Ld aH (vA B 3) Y (.slice Z aa ac)/\ah (decide (((aa:Nat):Int)<((V:Nat):Int))) (true/\true/\true/\∃ad ag al,Ld aH (vA B 3) Y (.slice ad ag al)/\(bx ((ag:Nat):Int) ((V:Nat):Int)/\Option.isSome U=true)/\∃an ba,Ld aK (ak U ((ag:Nat):Int) 2) Y (.agg #[vI an,vI ba])/\nA Y (.cells #[vI 0,vI 0] aK) λbb bc=>∃bd,Sv aK (vA bb 0) (.agg #[vI an,vI ba]) bc bd/\∃bj:FP [.one (.int .i64)],(true/\true/\true/\true/\∃bk bl bn,(∀bq,bW bd bq->Ld aH (vA r 3) bq (.slice bk bl bn))/\∃bq,(∀bu,bW bd bu->Ld aq (vA bb 0) bu (vI bq))/\(bx bq ((bl:Nat):Int)/\Option.isSome bk=true)/\∃bu,(∀bw,bW bd bw->Ld bv (ak bk bq 1) bw (.bool bu))/\∃bw bz ca,(∀cc,bW bd cc->Ld aH (vA t 3) cc (.slice bw bz ca))/\∃cc,(∀ch,bW bd ch->Ld aq (vA bb 1) ch (vI cc))/\(bx cc ((bz:Nat):Int)/\Option.isSome bw=true)/\∃ch,(∀cl,bW bd cl->Ld bv (ak bw cc 1) cl (.bool ch))/\∀cl,bW bd cl->uB eS #[.bool bu,.bool ch] cl λcm cn=>uI cw #[.pointer (vA B 0),.bool cm,vI 0] cn λcp cs=>bj cp cs)/\∀bk,aL 16 (∀bl,bj bk bl->true/\∃bn,Ld aq (vA r 0) bl (vI bn)/\∃bq:Nat->FP [.one .slice,.one (.int .i64)],(∃bu,bq bu U V X (0:Int) bl)/\∀bu bw bz ca cc,aL 60 (∀ch,bq bu bw bz ca cc ch->ah (decide (cc<bn)) (true/\true/\true/\true/\true/\true/\∃cl cm cn,(∀cp,bW ch cp->Ld aj (vA r 2) cp (.slice cl cm cn))/\∃cp,(∀cs,bW ch cs->Ld aq (vA bb 0) cs (vI cp))/\∃cs,(∀cx,bW ch cx->Ld aq (vA r 0) cx (vI cs))/\(bx (i64.wrap ((i64.wrap (cp*cs))+cc)) ((cm:Nat):Int)/\Option.isSome cl=true)/\∃cx,(∀da,bW ch da->Ld aq (ak cl (i64.wrap ((i64.wrap (cp*cs))+cc)) 1) da (vI cx))/\∃da db dc,(∀dd,bW ch dd->Ld aj (vA t 2) dd (.slice da db dc))/\∃dd,(∀dg,bW ch dg->Ld aq (vA bb 1) dg (vI dd))/\∃dg,(∀ds,bW ch ds->Ld aq (vA t 0) ds (vI dg))/\(bx (i64.wrap ((i64.wrap (dd*dg))+cc)) ((db:Nat):Int)/\Option.isSome da=true)/\∃ds,(∀ea,bW ch ea->Ld aq (ak da (i64.wrap ((i64.wrap (dd*dg))+cc)) 1) ea (vI ds))/\∀ea,ch.heap.size <=ea->∀eb,bW ch eb->eb.heap[ea]? =some (.cells #[vI 0,vI 0] aK)->∃ec,Sv aK (vA ea 0) (.agg #[vI cx,vI ds]) eb ec/\∃ef eg,Ld aK (vA ea 0) ec (.agg #[vI ef,vI eg])/\∃eh ei,(Instr.lookup dw (.map (some I)) (.agg #[vI ef,vI eg]) true).run prog ec=.ok (.tuple #[vI eh,.bool ei]) ec/\∃ej:FP [.one .slice,.one (.int .i64)],(ah (!ei) (∃ek el,Ld aK (vA ea 0) ec (.agg #[vI ek,vI el])/\∃em,(Instr.mapUpdate dw (.map (some I)) (.agg #[vI ek,vI el]) (vI ((bz:Nat):Int))).run prog ec=.ok () em/\∃en eo,Ld aK (vA ea 0) em (.agg #[vI en,vI eo])/\nA em (.cells #[vI en,vI eo] aK) λep er=>∃es et ev ew,(Builtin.append_ #[gM,gM] gM #[.slice bw bz ca,.slice (vA ep 0) 1 1]).run prog er=.ok (.slice et ev ew) es/\ej et ev ew ((bz:Nat):Int) es) (ej bw bz ca eh ec))/\∀ek el em en,aL 11 (∀eo,ej ek el em en eo->true/\true/\true/\true/\∃ep er es,(∀et,bW eo et->Ld aj (vA B 2) et (.slice ep er es))/\∃et,(∀ev,bW eo ev->Ld aq (vA r 0) ev (vI et))/\(bx (i64.wrap ((i64.wrap (bk*et))+cc)) ((er:Nat):Int)/\Option.isSome ep=true)/\∀ev,bW eo ev->∃ew,Sv aq (ak ep (i64.wrap ((i64.wrap (bk*et))+cc)) 1) (vI en) ev ew/\∃ex:Nat,ex<bu/\bq ex ek el em (i64.wrap (cc+(1:Int))) ew)) (ah (decide (((bz:Nat):Int)>(65536:Int))) (∃cl,Sv ae (vA v 0) (.agg #[vI 0,vI 0,.slice none 0 0,.slice none 0 0]) ch cl/\∃cm cn cp cs cx da db dc,Rv ae (vA v 0) cl (.agg #[vI cm,vI cn,.slice cp cs cx,.slice da db dc])/\K (.tuple #[.agg #[vI cm,vI cn,.slice cp cs cx,.slice da db dc],vI 152]) cl) (∃cl:Nat,cl<T/\S cl bw bz ca ch))))) (true/\true/\∃ad ag al an ba bb bc bd,Ld ae (vA B 0) Y (.agg #[vI ad,vI ag,.slice al an ba,.slice bb bc bd])/\∃bj,Sv ae (vA v 0) (.agg #[vI ad,vI ag,.slice al an ba,.slice bb bc bd]) Y bj/\∃bk bl bn bq bu bw bz ca,Rv ae (vA v 0) bj (.agg #[vI bk,vI bl,.slice bn bq bu,.slice bw bz ca])/\K (.tuple #[.agg #[vI bk,vI bl,.slice bn bq bu,.slice bw bz ca],vI 0]) bj)))):Cf lV #[.agg #[vI a,vI b,.slice c d e,.slice f g i],.agg #[vI j,vI k,.slice l m n,.slice o p q],.func (.func eS) #[] #[]] w (Ret K):=ru func73 [(2,[]),(3,[(32,.one .bool)]),(20,[(11,.one .slice)]),(30,[(13,.one (.int .i64))]),(1000031,[]),(3000031,[(0,.one .bool),(1,.one .bool),(2,.one .bool),(4,.one .bool),(8,.one .bool),(10,.one .bool),(3,.one .bool),(5,.one .bool),(6,.one .bool),(7,.one .bool),(9,.one .bool),(11,.one .bool),(12,.one .bool),(13,.one .bool)]),(36,[(11,.one .slice),(85,.one (.int .i64))]),(3000048,[(0,.one .bool),(2,.one .bool),(4,.one .bool),(7,.one .bool),(11,.one .bool),(13,.one .bool),(15,.one .bool),(18,.one .bool),(1,.one .bool),(3,.one .bool),(5,.one .bool),(6,.one .bool),(8,.one .bool),(9,.one .bool),(10,.one .bool),(12,.one .bool),(14,.one .bool),(16,.one .bool),(17,.one .bool),(19,.one .bool),(20,.one .bool),(21,.one .bool),(22,.one .bool),(23,.one .bool)]),(51,[(11,.one .slice),(16,.one (.int .i64))]),(3000061,[(0,.one .bool),(1,.one .bool),(2,.one .bool),(3,.one .bool),(5,.one .bool),(6,.one .bool),(9,.one .bool),(11,.one .bool),(4,.one .bool),(7,.one .bool),(8,.one .bool),(10,.one .bool),(12,.one .bool)])] h
theorem Ah (a b:Int)(c:Option Addr)(d e:Nat)(f:Option Addr)(g i:Nat)(j k:Int)(l:Option Addr)(m n:Nat)(o:Option Addr)(p q:Nat){w K}(h:nA w (.cells #[vI a,vI b,.slice c d e,.slice f g i] ae) λr s=>nA s (.cells #[vI j,vI k,.slice l m n,.slice o p q] ae) λt u=>nA u (.cells #[vI 0,vI 0,.slice none 0 0,.slice none 0 0] ae) λv x=>∃y z A B C D E F,Ld ae (vA r 0) x (.agg #[vI y,vI z,.slice A B C,.slice D E F])/\∃G H I J L M N O,Ld ae (vA t 0) x (.agg #[vI G,vI H,.slice I J L,.slice M N O])/\Cf lV #[.agg #[vI y,vI z,.slice A B C,.slice D E F],.agg #[vI G,vI H,.slice I J L,.slice M N O],.func (.func eS) #[] #[]] x λP Q=>∃R S T U V X Y Z aa,P=rT #[.agg #[vI R,vI S,.slice T U V,.slice X Y Z],vI aa]/\∃ac,Sv ae (vA v 0) (.agg #[vI R,vI S,.slice T U V,.slice X Y Z]) Q ac/\∃ad ag al an ba bb bc bd,Rv ae (vA v 0) ac (.agg #[vI ad,vI ag,.slice al an ba,.slice bb bc bd])/\K (.tuple #[.agg #[vI ad,vI ag,.slice al an ba,.slice bb bc bd],vI aa]) ac):Cf cv #[.agg #[vI a,vI b,.slice c d e,.slice f g i],.agg #[vI j,vI k,.slice l m n,.slice o p q]] w (Ret K):=ru func31 [] h
theorem lC (a:Option Addr)(b c:Nat)(d:Int){w K}(h:∃e:Nat->FP [.one (.int .i64)],(∃f,e f (0:Int) w)/\∀f g,aL 12 (∀i,e f g i->ah (decide (g<((b:Nat):Int))) ((bx g ((b:Nat):Int)/\Option.isSome a=true)/\∃j,Ld aq (ak a g 1) i (vI j)/\ah (d==j) (K (vI g) i) (∃k:Nat,k<f/\e k (i64.wrap (g+(1:Int))) i)) (K (vI (-1)) i))):Cf im #[.slice a b c,vI d] w (Ret K):=ru func151 [(6,[(8,.one (.int .i64))])] h
theorem j7 (a:Option Addr)(b c:Nat)(d:Int){w K}(h:uI im #[.slice a b c,vI d] w λe f=>K (.bool (decide (e >=(0:Int)))) f):Cf dO #[.slice a b c,vI d] w (Ret K):=ru func97 [] h
theorem fP (a:Option Addr)(b c:Nat)(d:Bool){w K}(h:∃e:Nat->FP [.one (.int .i64)],(∃f,e f (0:Int) w)/\∀f g,aL 12 (∀i,e f g i->ah (decide (g<((b:Nat):Int))) ((bx g ((b:Nat):Int)/\Option.isSome a=true)/\∃j,Ld bv (ak a g 1) i (.bool j)/\ah (d==j) (K (vI g) i) (∃k:Nat,k<f/\e k (i64.wrap (g+(1:Int))) i)) (K (vI (-1)) i))):Cf bG #[.slice a b c,.bool d] w (Ret K):=ru func90 [(6,[(8,.one (.int .i64))])] h
theorem rU (a:Int){w K}(h:ah (decide (a<(1:Int))) (K (.bool true) w) (K (.bool (decide (a>(1048576:Int)))) w)):Cf bN #[vI a] w (Ret K):=ru func156 [] h
theorem ff (a:Option Addr)(b c:Nat){w K}(h:∃d:Nat->FP [.one (.int .i64)],(∃e,d e (0:Int) w)/\∀e f,aL 12 (∀g,d e f g->ah (decide (f<((b:Nat):Int))) ((bx f ((b:Nat):Int)/\Option.isSome a=true)/\∃i,Ld aq (ak a f 1) g (vI i)/\uB bN #[vI i] g λj k=>ah j (K (vI f) k) (∃l:Nat,l<e/\d l (i64.wrap (f+(1:Int))) k)) (K (vI (-1)) g))):Cf aP #[.slice a b c,.func (.func bN) #[] #[]] w (Ret K):=ru func202 [(6,[(8,.one (.int .i64))])] h
theorem d8 (a:Option Addr)(b c:Nat){w K}(h:uI aP #[.slice a b c,.func (.func bN) #[] #[]] w λd e=>K (.bool (decide (d >=(0:Int)))) e):Cf aJ #[.slice a b c,.func (.func bN) #[] #[]] w (Ret K):=ru func152 [] h
theorem wH (a:Option Addr)(b c:Nat){w K}(h:uB aJ #[.slice a b c,.func (.func bN) #[] #[]] w λd e=>K (.bool (!d)) e):Cf m8 #[.slice a b c] w (Ret K):=ru func103 [] h
theorem j5 (a:Option Addr)(b c:Nat){w K}(h:K (vI ((b:Nat):Int)) w):Cf iz #[.slice a b c] w (Ret K):=ru func278 [] h
theorem oz (a:Option Addr)(b c:Nat)(d e:Int){w K}(h:(bx d ((b:Nat):Int)/\Option.isSome a=true)/\(isSome (ak a d 2))/\∃f,(∀g,bW w g->Ld aq (Option.map (λi=>i.add 0) (ak a d 2)) g (vI f))/\(bx e ((b:Nat):Int)/\Option.isSome a=true)/\(isSome (ak a e 2))/\∃g,(∀i,bW w i->Ld aq (Option.map (λj=>j.add 0) (ak a e 2)) i (vI g))/\∀i,bW w i->K (.bool (decide (f<g))) i):Cf dD #[.slice a b c,vI d,vI e] w (Ret K):=ru func279 [] h
theorem oB (a:Option Addr)(b c:Nat)(d e:Int){w K}(h:(bx e ((b:Nat):Int)/\Option.isSome a=true)/\(bx d ((b:Nat):Int)/\Option.isSome a=true)/\∃f g,(∀i,bW w i->Ld aE (ak a e 2) i (.agg #[vI f,vI g]))/\∃i j,(∀k,bW w k->Ld aE (ak a d 2) k (.agg #[vI i,vI j]))/\(bx d ((b:Nat):Int)/\Option.isSome a=true)/\∀k,bW w k->∃l,Sv aE (ak a d 2) (.agg #[vI f,vI g]) k l/\(bx e ((b:Nat):Int)/\Option.isSome a=true)/\∃m,Sv aE (ak a e 2) (.agg #[vI i,vI j]) l m/\K (.tuple #[]) m):Cf dE #[.slice a b c,vI d,vI e] w (Ret K):=ru func280 [(3000000,[(0,.one .bool),(1,.one .bool),(2,.one .bool),(3,.one .bool),(4,.one .bool),(5,.one .bool),(6,.one .bool),(8,.one .bool),(9,.one .bool),(10,.one .bool),(7,.one .bool),(11,.one .bool),(12,.one .bool)])] h
theorem oA (a:Option Addr)(b:Value){w K}(h:(Option.isSome a=true)/\∃c d e,(∀f,bW w f->Ld aG a f (.slice c d e))/\∃f g,(∀i,bW w i->(Instr.typeAssert b po aE false).run prog i=.ok (.agg #[vI f,vI g]) i)/\∀i,w.heap.size <=i->∀j,bW w j->j.heap[i]? =some (.cells #[vI f,vI g] aE)->∃k l m n,(Builtin.append_ #[aG,aG] aG #[.slice c d e,.slice (vA i 0) 1 1]).run prog j=.ok (.slice l m n) k/\(Option.isSome a=true)/\∃o,Sv aG a (.slice l m n) k o/\K (.tuple #[]) o):Cf gQ #[.pointer a,b] w (Ret K):=ru func282 [(3000000,[(0,.one .bool),(1,.one .bool),(2,.one .bool),(4,.one .bool),(3,.one .bool),(5,.one .bool),(6,.one .bool)])] h
theorem pM (a:Option Addr){w K}(h:(Option.isSome a=true)/\(Option.isSome a=true)/\∃b c d,(∀e,bW w e->Ld aG a e (.slice b c d))/\∃e f g,(∀i,bW w i->Ld aG a i (.slice e f g))/\(bx (i64.wrap (((f:Nat):Int)-(1:Int))) ((c:Nat):Int)/\Option.isSome b=true)/\∃i j,(∀k,bW w k->Ld aE (ak b (i64.wrap (((f:Nat):Int)-(1:Int))) 2) k (.agg #[vI i,vI j]))/\∀k,w.heap.size <=k->∀l,bW w l->l.heap[k]? =some (.cells #[vI 0,vI 0] aE)->∃m,Sv aE (vA k 0) (.agg #[vI i,vI j]) l m/\(Option.isSome a=true)/\(Option.isSome a=true)/\∃n o p,(∀q,bW m q->Ld aG a q (.slice n o p))/\∃q r s,(∀t,bW m t->Ld aG a t (.slice q r s))/\bd (i64.wrap (((r:Nat):Int)-(1:Int))) ((p:Nat):Int)/\(Option.isSome a=true)/\∀t,bW m t->∃u,Sv aG a (.slice n (Int.toNat (i64.wrap (((r:Nat):Int)-(1:Int)))) p) t u/\∃v x,Ld aE (vA k 0) u (.agg #[vI v,vI x])/\K (.iface aE (.agg #[vI v,vI x])) u):Cf iA #[.pointer a] w (Ret K):=ru func281 [(3000003,[(0,.one .bool),(1,.one .bool),(3,.one .bool),(4,.one .bool),(2,.one .bool),(5,.one .bool),(6,.one .bool),(7,.one .bool),(8,.one .bool),(9,.one .bool),(10,.one .bool)]),(3000005,[(0,.one .bool),(1,.one .bool),(2,.one .bool),(4,.one .bool),(5,.one .bool),(3,.one .bool),(6,.one .bool),(7,.one .bool),(8,.one .bool),(9,.one .bool),(10,.one .bool)])] h
theorem gB (a:Addr)(b:Int){w K}(h:∃c:Nat->FP [.one (.int .i64)],(∃d,c d b w)/\∀d e,aL 19 (∀f,c d e f->((2:Int)≠0)/\∀g,g=(i64.wrap (Int.tdiv (i64.wrap (e-(1:Int))) (2:Int)))->∃i:FP [],(ah (g==e) (K (.tuple #[]) f) (∃j k l,Ld aG (some a) f (.slice j k l)/\uB dD #[.slice j k l,vI e,vI g] f λm n=>ah (!m) (K (.tuple #[]) n) (i n)))/\aL 10 (∀j,i j->∃k l m,Ld aG (some a) j (.slice k l m)/\uU dE #[.slice k l m,vI g,vI e] j λn=>∃o:Nat,o<d/\c o g n))):Cf gw #[.iface aU (.pointer (some a)),vI b] w (Ret K):=ru func205 [(1,[(1,.one (.int .i64))]),(5,[])] h
theorem fZ (a:Addr)(b c:Int){w K}(h:∃d:Nat->FP [.one (.int .i64)],(∃e,d e b w)/\∀e f,aL 36 (∀g,d e f g->∃i:FP [],(ah (decide ((i64.wrap ((i64.wrap ((2:Int)*f))+(1:Int))) >=c)) (K (.bool (decide (f>b))) g) (ah (decide ((i64.wrap ((i64.wrap ((2:Int)*f))+(1:Int)))<(0:Int))) (K (.bool (decide (f>b))) g) (i g)))/\aL 7 (∀j,i j->∃k:FP [.one (.int .i64)],(ah (decide ((i64.wrap ((i64.wrap ((i64.wrap ((2:Int)*f))+(1:Int)))+(1:Int)))<c)) (∃l m n,Ld aG (some a) j (.slice l m n)/\uB dD #[.slice l m n,vI (i64.wrap ((i64.wrap ((i64.wrap ((2:Int)*f))+(1:Int)))+(1:Int))),vI (i64.wrap ((i64.wrap ((2:Int)*f))+(1:Int)))] j λo p=>ah o (k (i64.wrap ((i64.wrap ((i64.wrap ((2:Int)*f))+(1:Int)))+(1:Int))) p) (k (i64.wrap ((i64.wrap ((2:Int)*f))+(1:Int))) p)) (k (i64.wrap ((i64.wrap ((2:Int)*f))+(1:Int))) j))/\∀l,aL 13 (∀m,k l m->∃n o p,Ld aG (some a) m (.slice n o p)/\uB dD #[.slice n o p,vI l,vI f] m λq r=>ah (!q) (K (.bool (decide (f>b))) r) (∃s t u,Ld aG (some a) r (.slice s t u)/\uU dE #[.slice s t u,vI f,vI l] r λv=>∃x:Nat,x<e/\d x l v))))):Cf fB #[.iface aU (.pointer (some a)),vI b,vI c] w (Ret K):=ru func206 [(6,[(7,.one (.int .i64))]),(10,[]),(18,[(9,.one (.int .i64))])] h
theorem fY (a:Addr)(b:Value){w K}(h:uU gQ #[.pointer (some a),b] w λc=>∃d e f,Ld aG (some a) c (.slice d e f)/\uI iz #[.slice d e f] c λg i=>uU gw #[.iface aU (.pointer (some a)),vI (i64.wrap (g-(1:Int)))] i λj=>K (.tuple #[]) j):Cf dC #[.iface aU (.pointer (some a)),b] w (Ret K):=ru func157 [] h
theorem gq (a:Addr){w K}(h:∃b c d,Ld aG (some a) w (.slice b c d)/\uI iz #[.slice b c d] w λe f=>∃g i j,Ld aG (some a) f (.slice g i j)/\uU dE #[.slice g i j,vI 0,vI (i64.wrap (e-(1:Int)))] f λk=>uB fB #[.iface aU (.pointer (some a)),vI 0,vI (i64.wrap (e-(1:Int)))] k λl m=>uV iA #[.pointer (some a)] m λn o=>K n o):Cf fW #[.iface aU (.pointer (some a))] w (Ret K):=ru func159 [] h
theorem wG (a b:Int)(c:Option Addr)(d e:Nat)(f:Option Addr)(g i:Nat){w K}(h:nA w (.cells #[vI a,vI b,.slice c d e,.slice f g i] ae) λj k=>true/\∃l m n,Ld aH (vA j 3) k (.slice l m n)/\∃o p q r,(Instr.makeSlice ir (vI ((m:Nat):Int)) (vI ((m:Nat):Int))).run prog k=.ok (.slice p q r) o/\true/\∃s t u,Ld aj (vA j 2) o (.slice s t u)/\∃v:Nat->FP [.one (.int .i64)],(∃x,v x (0:Int) o)/\∀x y,aL 25 (∀z,v x y z->ah (decide (y<((t:Nat):Int))) ((bx y ((t:Nat):Int)/\Option.isSome s=true)/\∃A,Ld aq (ak s y 1) z (vI A)/\(bx A ((q:Nat):Int)/\Option.isSome p=true)/\true/\true/\∃B C D,(∀E,bW z E->Ld bA (ak p A 1) E (.slice B C D))/\∃E,(∀F,bW z F->Ld aq (vA j 0) F (vI E))/\(E≠0)/\∀F,F=(i64.wrap (Int.tdiv y E))->∃G,(∀H,bW z H->Ld aq (vA j 0) H (vI G))/\(G≠0)/\∀H,H=(Int.tmod y G)->∀I,z.heap.size <=I->∀J,bW z J->J.heap[I]? =some (.cells #[vI F,vI H] dJ)->∃L M N O,(Builtin.append_ #[bA,bA] bA #[.slice B C D,.slice (vA I 0) 1 1]).run prog J=.ok (.slice M N O) L/\(bx A ((q:Nat):Int)/\Option.isSome p=true)/\∃P,Sv bA (ak p A 1) (.slice M N O) L P/\∃Q:Nat,Q<x/\v Q (i64.wrap (y+(1:Int))) P) (K (.slice p q r) z))):Cf m7 #[.agg #[vI a,vI b,.slice c d e,.slice f g i]] w (Ret K):=ru func158 [(8,[(13,.one (.int .i64))]),(3000019,[(0,.one .bool),(1,.one .bool),(2,.one .bool),(3,.one .bool),(4,.one .bool),(6,.one .bool),(7,.one .bool),(10,.one .bool),(11,.one .bool),(5,.one .bool),(8,.one .bool),(9,.one .bool),(12,.one .bool),(13,.one .bool),(14,.one .bool),(15,.one .bool)])] h
theorem wJ (a b:Int)(c:Option Addr)(d e:Nat)(f:Option Addr)(g i:Nat)(j:Option Addr)(k l:Nat){w K}(h:nA w (.cells #[vI a,vI b,.slice c d e,.slice f g i] ae) λm n=>nA n (.cells #[vI 9223372036854775807] aq) λo p=>true/\∃q r s,Ld aH (vA m 3) p (.slice q r s)/\uL bm #[.slice (vA o 0) 1 1,vI ((r:Nat):Int)] p λt u v x=>nA x (.cells #[.slice none 0 0] aG) λy z=>true/\∃A B C,Ld aH (vA m 3) z (.slice A B C)/\∃D:Nat->FP [.one (.int .i64)],(∃E,D E (0:Int) z)/\∀E F,aL 16 (∀G,D E F G->ah (decide (F<((B:Nat):Int))) ((bx F ((B:Nat):Int)/\Option.isSome A=true)/\∃H,Ld bv (ak A F 1) G (.bool H)/\ah H ((bx F ((u:Nat):Int)/\Option.isSome t=true)/\∃I,Sv aq (ak t F 1) (vI 0) G I/\uU dC #[.iface aU (.pointer (vA y 0)),.iface aE (.agg #[vI 0,vI F])] I λJ=>∃L:Nat,L<E/\D L (i64.wrap (F+(1:Int))) J) (∃I:Nat,I<E/\D I (i64.wrap (F+(1:Int))) G)) (∃H I J L M N O P,Ld ae (vA m 0) G (.agg #[vI H,vI I,.slice J L M,.slice N O P])/\uL m7 #[.agg #[vI H,vI I,.slice J L M,.slice N O P]] G λQ R S T=>∃U:Nat->FP [],(∃V,U V T)/\∀V,aL 55 (∀X,U V X->∃Y Z aa,Ld aG (vA y 0) X (.slice Y Z aa)/\ah (decide (((Z:Nat):Int)>(0:Int))) (uV fW #[.iface aU (.pointer (vA y 0))] X λac ad=>∃ag al,(Instr.typeAssert ac po aE false).run prog ad=.ok (.agg #[vI ag,vI al]) ad/\nA ad (.cells #[vI 0,vI 0] aE) λan ba=>∃bb,Sv aE (vA an 0) (.agg #[vI ag,vI al]) ba bb/\true/\∃bc,(∀bd,bW bb bd->Ld aq (vA an 0) bd (vI bc))/\true/\∃bd,(∀bj,bW bb bj->Ld aq (vA an 1) bj (vI bd))/\(bx bd ((u:Nat):Int)/\Option.isSome t=true)/\∃bj,(∀bk,bW bb bk->Ld aq (ak t bd 1) bk (vI bj))/\∀bk,bW bb bk->ah (decide (bc>bj)) (∃bl:Nat,bl<V/\U bl bk) (true/\∃bl,Ld aq (vA an 1) bk (vI bl)/\(bx bl ((R:Nat):Int)/\Option.isSome Q=true)/\∃bn bq bu,Ld bA (ak Q bl 1) bk (.slice bn bq bu)/\∃bw:Nat->FP [.one (.int .i64)],(∃bz,bw bz (0:Int) bk)/\∀bz ca,aL 33 (∀cc,bw bz ca cc->ah (decide (ca<((bq:Nat):Int))) ((bx ca ((bq:Nat):Int)/\Option.isSome bn=true)/\∃ch cl,Ld dJ (ak bn ca 2) cc (.agg #[vI ch,vI cl])/\nA cc (.cells #[vI 0,vI 0] dJ) λcm cn=>∃cp,Sv dJ (vA cm 0) (.agg #[vI ch,vI cl]) cn cp/\true/\∃cs,(∀cx,bW cp cx->Ld aq (vA an 0) cx (vI cs))/\true/\∃cx,(∀da,bW cp da->Ld aq (vA cm 1) da (vI cx))/\(bx cx ((k:Nat):Int)/\Option.isSome j=true)/\∃da,(∀db,bW cp db->Ld aq (ak j cx 1) db (vI da))/\∀db,bW cp db->true/\∃dc,Ld aq (vA cm 0) db (vI dc)/\(bx dc ((u:Nat):Int)/\Option.isSome t=true)/\∃dd,Ld aq (ak t dc 1) db (vI dd)/\ah (decide ((i64.wrap (cs+da))<dd)) (true/\∃dg,Ld aq (vA cm 0) db (vI dg)/\(bx dg ((u:Nat):Int)/\Option.isSome t=true)/\∃ds,Sv aq (ak t dg 1) (vI (i64.wrap (cs+da))) db ds/\true/\∃ea,Ld aq (vA cm 0) ds (vI ea)/\uU dC #[.iface aU (.pointer (vA y 0)),.iface aE (.agg #[vI (i64.wrap (cs+da)),vI ea])] ds λeb=>∃ec:Nat,ec<bz/\bw ec (i64.wrap (ca+(1:Int))) eb) (∃dg:Nat,dg<bz/\bw dg (i64.wrap (ca+(1:Int))) db)) (∃ch:Nat,ch<V/\U ch cc)))) (K (.slice t u v) X))))):Cf m9 #[.agg #[vI a,vI b,.slice c d e,.slice f g i],.slice j k l] w (Ret K):=ru func104 [(10,[(22,.one (.int .i64))]),(33,[]),(52,[(59,.one (.int .i64))])] h
theorem vg (a b:Int)(c:Option Addr)(d e:Nat)(f:Option Addr)(g i:Nat)(j:Option Addr)(k l:Nat)(m:Int){w K}(h:nA w (.cells #[vI a,vI b,.slice c d e,.slice f g i] ae) λn o=>∃p:FP [],(∃q r s t u v x y,Ld ae (vA n 0) o (.agg #[vI q,vI r,.slice s t u,.slice v x y])/\uB iv #[.agg #[vI q,vI r,.slice s t u,.slice v x y]] o λz A=>ah (!z) (K (.tuple #[.slice none 0 0,.bool false,vI 151]) A) (true/\∃B,Ld aq (vA n 0) A (vI B)/\ah (((k:Nat):Int) !=B) (K (.tuple #[.slice none 0 0,.bool false,vI 151]) A) (uB m8 #[.slice j k l] A λC D=>ah (!C) (K (.tuple #[.slice none 0 0,.bool false,vI 151]) D) (p D))))/\aL 18 (∀q,p q->∃r s t u v x y z,Ld ae (vA n 0) q (.agg #[vI r,vI s,.slice t u v,.slice x y z])/\uL m9 #[.agg #[vI r,vI s,.slice t u v,.slice x y z],.slice j k l] q λA B C D=>∃E:FP [],(true/\∃F,Ld aq (vA n 1) D (vI F)/\(bx F ((B:Nat):Int)/\Option.isSome A=true)/\∃G,Ld aq (ak A F 1) D (vI G)/\ah (decide (G>m)) (K (.tuple #[.slice none 0 0,.bool false,vI 0]) D) (true/\∃H,Ld aq (vA n 1) D (vI H)/\(bx H ((B:Nat):Int)/\Option.isSome A=true)/\∃I,Ld aq (ak A H 1) D (vI I)/\ah (I==(9223372036854775807:Int)) (K (.tuple #[.slice none 0 0,.bool false,vI 0]) D) (E D)))/\aL 18 (∀F,E F->true/\∃G,Ld aq (vA n 1) F (vI G)/\∃H:Nat->FP [.one .slice,.one (.int .i64)],(∃I,H I none 0 0 G F)/\∀I J L M N,aL 49 (∀O,H I J L M N O->(bx N ((B:Nat):Int)/\Option.isSome A=true)/\∃P,Ld aq (ak A N 1) O (vI P)/\ah (decide (P>(0:Int))) (true/\∃Q,Ld aq (vA n 0) O (vI Q)/\∃R:Nat->FP [.one .slice,.one (.int .i64),.one (.int .i64)],(∃S,R S J L M N (0:Int) O)/\∀S T U V X Y,aL 41 (∀Z,R S T U V X Y Z->ah (decide (Y<Q)) (true/\∃aa ac ad,Ld aj (vA n 2) Z (.slice aa ac ad)/\true/\∃ag,Ld aq (vA n 0) Z (vI ag)/\(bx (i64.wrap ((i64.wrap (X*ag))+Y)) ((ac:Nat):Int)/\Option.isSome aa=true)/\∃al,Ld aq (ak aa (i64.wrap ((i64.wrap (X*ag))+Y)) 1) Z (vI al)/\∃an:FP [.one .bool],((bx al ((B:Nat):Int)/\Option.isSome A=true)/\∃ba,(∀bb,bW Z bb->Ld aq (ak A al 1) bb (vI ba))/\ah (decide (ba<(9223372036854775807:Int))) ((bx al ((B:Nat):Int)/\Option.isSome A=true)/\∃bb,(∀bc,bW Z bc->Ld aq (ak A al 1) bc (vI bb))/\(bx Y ((k:Nat):Int)/\Option.isSome j=true)/\∃bc,(∀bd,bW Z bd->Ld aq (ak j Y 1) bd (vI bc))/\(bx X ((B:Nat):Int)/\Option.isSome A=true)/\∃bd,(∀bj,bW Z bj->Ld aq (ak A X 1) bj (vI bd))/\∀bj,bW Z bj->an ((i64.wrap (bb+bc))==bd) bj) (∀bb,bW Z bb->an false bb))/\∀ba,aL 20 (∀bb,an ba bb->ah ba (nA bb (.cells #[vI Y] aq) λbc bd=>∃bj bk bl bn,(Builtin.append_ #[aj,aj] aj #[.slice T U V,.slice (vA bc 0) 1 1]).run prog bd=.ok (.slice bk bl bn) bj/\∃bq:Nat,bq<I/\H bq bk bl bn al bj) (∃bc:Nat,bc<S/\R bc T U V X (i64.wrap (Y+(1:Int))) bb))) (∃aa:Nat,aa<I/\H aa T U V X Z))) (K (.tuple #[.slice J L M,.bool true,vI 0]) O))))):Cf eU #[.agg #[vI a,vI b,.slice c d e,.slice f g i],.slice j k l,vI m] w (Ret K):=ru func53 [(2,[]),(12,[]),(26,[(10,.one .slice),(11,.one (.int .i64))]),(37,[(10,.one .slice),(11,.one (.int .i64)),(56,.one (.int .i64))]),(50,[(89,.one .bool)])] h
theorem vc (a b:Int)(c:Option Addr)(d e:Nat)(f:Option Addr)(g i:Nat){w K}(h:nA w (.cells #[vI a,vI b,.slice c d e,.slice f g i] ae) λj k=>true/\∃l m n,Ld aH (vA j 3) k (.slice l m n)/\∃o:FP [],(true/\∃p,Ld aq (vA j 0) k (vI p)/\ah (decide (p<(1:Int))) (K (.bool false) k) (true/\∃q,Ld aq (vA j 0) k (vI q)/\ah (decide (q>(512:Int))) (K (.bool false) k) (ah (decide (((m:Nat):Int)<(1:Int))) (K (.bool false) k) (ah (decide (((m:Nat):Int)>(65536:Int))) (K (.bool false) k) (true/\∃r s t,Ld aj (vA j 2) k (.slice r s t)/\true/\∃u,Ld aq (vA j 0) k (vI u)/\ah (((s:Nat):Int) !=(i64.wrap (((m:Nat):Int)*u))) (K (.bool false) k) (o k))))))/\aL 27 (∀p,o p->true/\∃q r s,Ld aj (vA j 2) p (.slice q r s)/\∃t:Nat->FP [.one (.int .i64)],(∃u,t u (0:Int) p)/\∀u v,aL 13 (∀x,t u v x->ah (decide (v<((r:Nat):Int))) ((bx v ((r:Nat):Int)/\Option.isSome q=true)/\∃y,Ld aq (ak q v 1) x (vI y)/\ah (decide (y<(0:Int))) (K (.bool false) x) (ah (decide (y >=((m:Nat):Int))) (K (.bool false) x) (∃z:Nat,z<u/\t z (i64.wrap (v+(1:Int))) x))) (true/\∃y,Ld aq (vA j 1) x (vI y)/\ah (decide (y >=(0:Int))) (true/\∃z,Ld aq (vA j 1) x (vI z)/\K (.bool (decide (z<((m:Nat):Int)))) x) (K (.bool false) x))))):Cf fK #[.agg #[vI a,vI b,.slice c d e,.slice f g i]] w (Ret K):=ru func23 [(4,[]),(16,[(38,.one (.int .i64))])] h
theorem rN (a:Option Addr)(b:Value){w K}(h:nA w (.cells (Value.cells b) am) λc d=>∃e,Ld am (vA c 0) d e/\uL oJ #[.pointer a,e] d λf g i j=>ah (((g:Nat):Int)==(0:Int)) (K (.tuple #[.slice none 0 0,vI 181]) j) (uI aO #[.pointer a] j λk l=>uB dO #[.slice f g i,vI (i64.wrap (k-(1:Int)))] l λm n=>ah m (K (.tuple #[.slice none 0 0,vI 181]) n) (K (.tuple #[.slice f g i,vI 0]) n))):Cf gO #[.pointer a,b] w (Ret K):=ru func48 [] h
theorem uY (a:Option Addr)(b:Value){w K}(h:nA w (.cells (Value.cells b) am) λc d=>nA d (.cells #[vI 0,vI 0,.slice none 0 0,.slice none 0 0] ae) λe f=>∃g,Ld am (vA c 0) f g/\Cf gO #[.pointer a,g] f λi j=>∃k l m n,i=rT #[.slice k l m,vI n]/\ah (n !=(0:Int)) (∃o,Sv ae (vA e 0) (.agg #[vI 0,vI 0,.slice none 0 0,.slice none 0 0]) j o/\∃p q r s t u v x,Rv ae (vA e 0) o (.agg #[vI p,vI q,.slice r s t,.slice u v x])/\K (.tuple #[.agg #[vI p,vI q,.slice r s t,.slice u v x],vI n]) o) (uI aO #[.pointer a] j λo p=>Cf nZ #[vI o,.slice k l m] p λq r=>∃s t u v x y z A B,q=rT #[.agg #[vI s,vI t,.slice u v x,.slice y z A],vI B]/\∃C,Sv ae (vA e 0) (.agg #[vI s,vI t,.slice u v x,.slice y z A]) r C/\∃D E F G H I J L,Rv ae (vA e 0) C (.agg #[vI D,vI E,.slice F G H,.slice I J L])/\K (.tuple #[.agg #[vI D,vI E,.slice F G H,.slice I J L],vI B]) C)):Cf fI #[.pointer a,b] w (Ret K):=ru func12 [] h
theorem qF (a:Option Addr)(b:Value){w K}(h:nA w (.cells (Value.cells b) am) λc d=>nA d (.cells #[vI 0,vI 0,.slice none 0 0,.slice none 0 0] ae) λe f=>∃g,Ld am (vA c 0) f g/\Cf jP #[.pointer a,g,.bool true] f λi j=>∃k l m n o p q r s,i=rT #[.agg #[vI k,vI l,.slice m n o,.slice p q r],vI s]/\∃t,Sv ae (vA e 0) (.agg #[vI k,vI l,.slice m n o,.slice p q r]) j t/\∃u v x y z A B C,Rv ae (vA e 0) t (.agg #[vI u,vI v,.slice x y z,.slice A B C])/\K (.tuple #[.agg #[vI u,vI v,.slice x y z,.slice A B C],vI s]) t):Cf dv #[.pointer a,b] w (Ret K):=ru func14 [] h
theorem pJ (a:lU){w K}(h:Cf iY #[vS a] w λb c=>∃d e,b=rT #[d,vI e]/\nA c (.cells cu am) λf g=>∃i,Sv am (vA f 0) d g i/\ah (e==(0:Int)) (true/\∃j,Ld aq (vA f 0) i (vI j)/\ah (j !=(1:Int)) (∃k,Ld am (vA f 0) i k/\uS lX #[k] i λl m=>K (.bool (l==a)) m) (K (.bool false) i)) (K (.bool false) i)):Cf ix #[vS a] w (Ret K):=ru func54 [] h
theorem rO (a:lU){w K}(h:(((List.length a+List.length [46,120]:Nat):Int) <=i64.max)/\∀b,b=(a++[46,120])->Cf iY #[vS b] w λc d=>∃e f,c=rT #[e,vI f]/\nA d (.cells cu am) λg i=>∃j,Sv am (vA g 0) e i j/\ah (f==(0:Int)) (true/\∃k,Ld aI (vA g 1) j (vS k)/\(((List.length a+List.length [46,120]:Nat):Int) <=i64.max)/\∀l,l=(a++[46,120])->ah (k==l) (∃m,Ld am (vA g 0) j m/\uL lW #[m] j λn o p q=>K (.bool (((o:Nat):Int)==(2:Int))) q) (K (.bool false) j)) (K (.bool false) j)):Cf gP #[vS a] w (Ret K):=ru func55 [] h
theorem rK (a:Option Addr){w K}(h:nA w (.cells #[vI 0,vI 0,.slice none 0 0,.slice none 0 0] ae) λb c=>uI aO #[.pointer a] c λd e=>ah (decide (d>(512:Int))) (∃f,Sv ae (vA b 0) (.agg #[vI 0,vI 0,.slice none 0 0,.slice none 0 0]) e f/\∃g i j k l m n o,Rv ae (vA b 0) f (.agg #[vI g,vI i,.slice j k l,.slice m n o])/\K (.tuple #[.agg #[vI g,vI i,.slice j k l,.slice m n o],vI 151]) f) (∃f g i j,(Instr.makeSlice aj (vI (i64.wrap ((4:Int)*d))) (vI (i64.wrap ((4:Int)*d)))).run prog e=.ok (.slice g i j) f/\nA f (.cells #[.bool false,.bool false,.bool true,.bool true] bv) λk l=>nA l (.cells #[vI 0,vI 0,.slice none 0 0,.slice none 0 0] ae) λm n=>∃o,Sv ae (vA m 0) (.agg #[vI d,vI 1,.slice g i j,.slice (vA k 0) 4 4]) n o/\∃p:Nat->FP [.one (.int .i64)],(∃q,p q (0:Int) o)/\∀q r,aL 38 (∀s,p q r s->ah (decide (r<d)) (uS dn #[.pointer a,vI r] s λt u=>uB ix #[vS t] u λv x=>ah v (true/\∃y z A,Ld aj (vA m 2) x (.slice y z A)/\(bx (i64.wrap ((i64.wrap ((1:Int)*d))+r)) ((z:Nat):Int)/\Option.isSome y=true)/\∃B,Sv aq (ak y (i64.wrap ((i64.wrap ((1:Int)*d))+r)) 1) (vI 3) x B/\∃C:Nat,C<q/\p C (i64.wrap (r+(1:Int))) B) (uB gP #[vS t] x λy z=>ah y (true/\∃A B C,Ld aj (vA m 2) z (.slice A B C)/\(bx (i64.wrap ((i64.wrap ((2:Int)*d))+r)) ((B:Nat):Int)/\Option.isSome A=true)/\∃D,Sv aq (ak A (i64.wrap ((i64.wrap ((2:Int)*d))+r)) 1) (vI 2) z D/\uB gk #[vS t] D λE F=>ah (!E) (true/\∃G H I,Ld aj (vA m 2) F (.slice G H I)/\(bx (i64.wrap ((i64.wrap ((1:Int)*d))+r)) ((H:Nat):Int)/\Option.isSome G=true)/\∃J,Sv aq (ak G (i64.wrap ((i64.wrap ((1:Int)*d))+r)) 1) (vI 2) F J/\∃L:Nat,L<q/\p L (i64.wrap (r+(1:Int))) J) (∃G:Nat,G<q/\p G (i64.wrap (r+(1:Int))) F)) (∃A:Nat,A<q/\p A (i64.wrap (r+(1:Int))) z))) (∃t u v x y z A B,Ld ae (vA m 0) s (.agg #[vI t,vI u,.slice v x y,.slice z A B])/\∃C,Sv ae (vA b 0) (.agg #[vI t,vI u,.slice v x y,.slice z A B]) s C/\∃D E F G H I J L,Rv ae (vA b 0) C (.agg #[vI D,vI E,.slice F G H,.slice I J L])/\K (.tuple #[.agg #[vI D,vI E,.slice F G H,.slice I J L],vI 0]) C)))):Cf jN #[.pointer a] w (Ret K):=ru func16 [(18,[(20,.one (.int .i64))])] h
theorem rL (a:Option Addr)(b c:Int)(d:Option Addr)(e f:Nat)(g:Option Addr)(i j:Nat){w K}(h:nA w (.cells #[vI b,vI c,.slice d e f,.slice g i j] ae) λk l=>nA l (.cells cu am) λm n=>Cf jN #[.pointer a] n λo p=>∃q r s t u v x y z,o=rT #[.agg #[vI q,vI r,.slice s t u,.slice v x y],vI z]/\nA p (.cells #[vI 0,vI 0,.slice none 0 0,.slice none 0 0] ae) λA B=>∃C,Sv ae (vA A 0) (.agg #[vI q,vI r,.slice s t u,.slice v x y]) B C/\ah (z !=(0:Int)) (∃D,Sv am (vA m 0) (.agg cu) C D/\∃E,Rv am (vA m 0) D E/\K (.tuple #[E,.bool false,vI z]) D) (∃D E F G H I J L,Ld ae (vA k 0) C (.agg #[vI D,vI E,.slice F G H,.slice I J L])/\∃M N O P Q R S T,Ld ae (vA A 0) C (.agg #[vI M,vI N,.slice O P Q,.slice R S T])/\Cf cv #[.agg #[vI D,vI E,.slice F G H,.slice I J L],.agg #[vI M,vI N,.slice O P Q,.slice R S T]] C λU V=>∃X Y Z aa ac ad ag al an,U=rT #[.agg #[vI X,vI Y,.slice Z aa ac,.slice ad ag al],vI an]/\nA V (.cells #[vI 0,vI 0,.slice none 0 0,.slice none 0 0] ae) λba bb=>∃bc,Sv ae (vA ba 0) (.agg #[vI X,vI Y,.slice Z aa ac,.slice ad ag al]) bb bc/\ah (an !=(0:Int)) (∃bd,Sv am (vA m 0) (.agg cu) bc bd/\∃bj,Rv am (vA m 0) bd bj/\K (.tuple #[bj,.bool false,vI an]) bd) (uI aO #[.pointer a] bc λbd bj=>∃bk:Nat->FP [.one .slice,.one (.int .i64)],(∃bl,bk bl none 0 0 (0:Int) bj)/\∀bl bn bq bu bw,aL 12 (∀bx,bk bl bn bq bu bw bx->ah (decide (bw<bd)) (uS dn #[.pointer a,vI bw] bx λbz ca=>nA ca (.cells #[vI (i64.wrap (((List.length bz:Nat):Int)+(1:Int)))] aq) λcc ch=>∃cl cm cn cp,(Builtin.append_ #[aj,aj] aj #[.slice bn bq bu,.slice (vA cc 0) 1 1]).run prog ch=.ok (.slice cm cn cp) cl/\∃cs:Nat,cs<bl/\bk cs cm cn cp (i64.wrap (bw+(1:Int))) cl) (∃bz ca cc ch cl cm cn cp,Ld ae (vA ba 0) bx (.agg #[vI bz,vI ca,.slice cc ch cl,.slice cm cn cp])/\Cf eU #[.agg #[vI bz,vI ca,.slice cc ch cl,.slice cm cn cp],.slice bn bq bu,vI 254] bx λcs cx=>∃da db dc dd dg,cs=rT #[.slice da db dc,.bool dd,vI dg]/\∃ds:FP [],(∃ea:FP [.one .bool],(ah (!dd) (ea true cx) (ea (dg !=(0:Int)) cx))/\∀eb,aL 5 (∀ec,ea eb ec->ah eb (∃ef,Sv am (vA m 0) (.agg cu) ec ef/\∃eg,Rv am (vA m 0) ef eg/\K (.tuple #[eg,.bool false,vI dg]) ef) (ds ec)))/\aL 10 (∀ea,ds ea->Cf oI #[.pointer a,.slice da db dc] ea λeb ec=>∃ef eg,eb=rT #[ef,.bool eg]/\nA ec (.cells cu am) λeh ei=>∃ej,Sv am (vA eh 0) ef ei ej/\∃ek,Ld am (vA eh 0) ej ek/\∃el,Sv am (vA m 0) ek ej el/\∃em,Rv am (vA m 0) el em/\K (.tuple #[em,.bool eg,vI 0]) el)))))):Cf jO #[.pointer a,.agg #[vI b,vI c,.slice d e f,.slice g i j]] w (Ret K):=ru func15 [(28,[(10,.one .slice),(36,.one (.int .i64))]),(43,[]),(44,[(60,.one .bool)])] h
theorem pI (a:lU){w K}(h:uB gP #[vS a] w λb c=>K (.bool (!b)) c):Cf bK #[vS a] w (Ret K):=ru func64 [] h
theorem dp (a:Option Addr)(b c:Nat){w K}(h:∃d:Nat->FP [.one (.int .i64)],(∃e,d e (0:Int) w)/\∀e f,aL 12 (∀g,d e f g->ah (decide (f<((b:Nat):Int))) ((bx f ((b:Nat):Int)/\Option.isSome a=true)/\∃i,Ld aI (ak a f 1) g (vS i)/\uB bK #[vS i] g λj k=>ah j (K (vI f) k) (∃l:Nat,l<e/\d l (i64.wrap (f+(1:Int))) k)) (K (vI (-1)) g))):Cf bI #[.slice a b c,.func (.func bK) #[] #[]] w (Ret K):=ru func115 [(6,[(8,.one (.int .i64))])] h
theorem cT (a:Option Addr)(b c:Nat){w K}(h:uI bI #[.slice a b c,.func (.func bK) #[] #[]] w λd e=>K (.bool (decide (d >=(0:Int)))) e):Cf bf #[.slice a b c,.func (.func bK) #[] #[]] w (Ret K):=ru func63 [] h
theorem Whl.elem {α:Type}{T:Ty α}{P:Program}{t:TypeId}{n:Nat}(hw:Whl P t n)(hk:T.k=n){w:World}{A:Bl}{a:Option Addr}{l c:Nat}{xs:List α}(h:Sl T w A a l c xs){i:Nat}(hi:i<xs.length):
   ∃vs,(Instr.loadAt t (.pointer (ak a (i:Int) n))).run P w=.ok (.agg vs.toArray) w/\T.rep w A vs xs[i]:=by
 obtain⟨bytes,z,tf⟩:=hw.tf
 obtain⟨ti,hti,hsz,_,_⟩:=tf.info
 have hag:=hw.ag
 cases hu:P.underlying t with
 | none=>rw[hu]at hag;cases hag
 | some d=>
   rw[hu]at hag
   simp only[Option.map_some,Option.some.injEq]at hag
   have:=h.loadA hu hag hti hk hsz (i:=(i:Int)) (by simpa using hi)
   simpa using this
abbrev Pi:=Int×Int
def prC (p:Pi):List Value:=[vI p.1,vI p.2]
def prV (p:Pi):Value:=.agg #[vI p.1,vI p.2]
def tP:Ty Pi where
 k:=2
 pos:=by decide
 rep:=λ_ _ vs p=>vs=prC p
 len:=λh=>by rw[h];rfl
 one:=fun{_ _ _ x} h v hv=>by rw[h]at hv;exact(aN rfl (aN rfl gA):vP (prC x)) v hv
 keep:=λh _=>h
 mono:=λh _=>h
theorem yf:AM tP:=λ_ _ _ _ _ _ h=>h
theorem Sl.pair {P:Program}{t:TypeId}(hw:Whl P t 2){w:World}{A:Bl}{a:Option Addr}{l c:Nat}{xs:List Pi}(h:Sl tP w A a l c xs){i:Nat}(hi:i<xs.length):
   (Instr.loadAt t (.pointer (ak a (i:Int) 2))).run P w=.ok (prV xs[i]) w:=by
 obtain⟨vs,h1,h2⟩:=hw.elem rfl h hi
 have h2:vs=prC xs[i]:=h2
 rw[h2]at h1;exact h1
theorem Sl.pair0 {P:Program}{t:TypeId}(hu:P.underlying t=some (.int .i64)){w:World}{A:Bl}{a:Option Addr}{l c:Nat}{xs:List Pi}(h:Sl tP w A a l c xs){i:Nat}(hi:i<xs.length):
   (Instr.loadAt t (.pointer (Option.map (λx=>x.add 0) (ak a (i:Int) 2)))).run P w=.ok (vI xs[i].1) w/\(Instr.loadAt t (.pointer (Option.map (λx=>x.add 1) (ak a (i:Int) 2)))).run P w=.ok (vI xs[i].2) w:=by
 rcases h.2.2.2 with h4|⟨b,off,e,hb,hab,h4⟩
 · subst h4;cases hi
 · obtain⟨vs,h5,h6⟩:=h4.elem hi
   have h5:vs=prC xs[i]:=h5
   subst h5
   rw[e,yb]
   simp only[Option.map_some,dy,Int.toNat_natCast]
   constructor
   · show(do loadVar t (<- Instr.sureAddr (.pointer (some _)))).run P w=_
     rw[Sem.run_bind,fE]
     exact dh hu rfl (h6 0 (by decide))
   · show(do loadVar t (<- Instr.sureAddr (.pointer (some _)))).run P w=_
     rw[Sem.run_bind,fE]
     exact dh hu rfl (h6 1 (by decide))
theorem Sl.some_of {α:Type}{T:Ty α}{w:World}{A:Bl}{a:Option Addr}{n c:Nat}{xs:List α}(h:Sl T w A a n c xs){i:Nat}(hi:i<xs.length)(k:Nat):(ak a (i:Int) k).isSome=true:=by
 have:=h.isSome hi
 cases a with
 | none=>cases this
 | some x=>rfl
theorem Sl.num {P:Program}{t:TypeId}(hu:P.underlying t=some (.int .i64)){w:World}{A:Bl}{a:Option Addr}{l c:Nat}{xs:List Int}(h:Sl bY w A a l c xs){i:Nat}(hi:i<xs.length):
   (Instr.loadAt t (.pointer (ak a (i:Int) 1))).run P w=.ok (vI xs[i]) w:=by
 obtain⟨v,h1,h2⟩:=h.load1 hu rfl rfl (i:=(i:Int)) (by simpa using hi)
 rw[h1,Fk h2]
 simp
theorem Sl.tru {P:Program}{t:TypeId}(hu:P.underlying t=some .bool){w:World}{A:Bl}{a:Option Addr}{l c:Nat}{xs:List Bool}(h:Sl ij w A a l c xs){i:Nat}(hi:i<xs.length):
   (Instr.loadAt t (.pointer (ak a (i:Int) 1))).run P w=.ok (.bool xs[i]) w:=by
 obtain⟨v,h1,h2⟩:=h.load1 hu rfl rfl (i:=(i:Int)) (by simpa using hi)
 rw[h1,xW h2]
 simp
theorem vp {α:Type}{xs:List α}{i j:Nat}(hi:i<xs.length)(hj:j<xs.length):((xs.set i xs[j]).set j xs[i]).Perm xs:=List.set_set_perm hi hj
structure DA where
 k:Int
 st:Int
 nx:List Int
 ac:List Bool
structure DA.Ok (d:DA):Prop where
 k1:1 <=d.k
 k2:d.k <=512
 n1:1 <=d.ac.length
 n2:d.ac.length <=65536
 len:(d.nx.length:Int)=(d.ac.length:Int)*d.k
 s0:0 <=d.st
 s1:d.st<(d.ac.length:Int)
 nx0:∀x∈d.nx,0 <=x/\x<(d.ac.length:Int)
abbrev DA.n (d:DA):Nat:=d.ac.length
abbrev DA.K (d:DA):Nat:=d.k.toNat
abbrev DA.s (d:DA):Nat:=d.st.toNat
def DA.to (d:DA)(s x:Nat):Nat:=(d.nx.getD (s*d.K+x) 0).toNat
def DA.run (d:DA):Nat->List Nat->Nat
 | s,[]=>s
 | s,x::w=>d.run (d.to s x) w
def DA.acc (d:DA)(s:Nat):Bool:=d.ac.getD s false
def DA.Lang (d:DA)(s:Nat)(w:List Nat):Prop:=(∀x∈w,x<d.K)/\d.acc (d.run s w)=true
theorem DA.Ok.kk {d:DA}(h:d.Ok):(d.K:Int)=d.k:=by have:=h.k1;show((d.k.toNat:Nat):Int)=d.k;omega
theorem DA.Ok.lenN {d:DA}(h:d.Ok):d.nx.length=d.n*d.K:=by
 have h1:=h.len
 rw[<- h.kk,<- Int.natCast_mul]at h1
 exact Int.ofNat.inj h1
theorem qt {s x n K:Nat}(hs:s<n)(hx:x<K):s*K+x<n*K:=by
 have:(s+1)*K <=n*K:=Nat.mul_le_mul_right _ hs
 rw[Nat.succ_mul]at this
 omega
theorem DA.Ok.at {d:DA}(h:d.Ok){s x:Nat}(hs:s<d.n)(hx:x<d.K):∃v,d.nx[s*d.K+x]? =some v/\0 <=v/\v<(d.n:Int)/\d.to s x=v.toNat:=by
 have hi:s*d.K+x<d.nx.length:=by rw[h.lenN];exact qt hs hx
 refine⟨d.nx[s*d.K+x],List.getElem?_eq_getElem hi,(h.nx0 _ (List.getElem_mem hi)).1,(h.nx0 _ (List.getElem_mem hi)).2,?_⟩
 unfold DA.to
 rw[List.getD_eq_getElem?_getD,List.getElem?_eq_getElem hi];rfl
theorem DA.Ok.to_lt {d:DA}(h:d.Ok){s x:Nat}(hs:s<d.n)(hx:x<d.K):d.to s x<d.n:=by
 obtain⟨v,_,h1,h2,e⟩:=h.at hs hx
 rw[e];omega
theorem DA.Ok.s_lt {d:DA}(h:d.Ok):d.s<d.n:=by have:=h.s0;have:=h.s1;show d.st.toNat<d.ac.length;omega
theorem DA.Ok.run_lt {d:DA}(h:d.Ok):∀{w:List Nat} {s:Nat},s<d.n->(∀x∈w,x<d.K)->d.run s w<d.n
 | [],s,hs,_=>hs
 | x::w,s,hs,hw=>by
   show d.run (d.to s x) w<d.n
   exact h.run_lt (h.to_lt hs (hw x List.mem_cons_self)) λy hy=>hw y (List.mem_cons_of_mem _ hy)
theorem DA.Lang.cons {d:DA}{s x:Nat}{w:List Nat} :d.Lang s (x::w) ↔ x<d.K/\d.Lang (d.to s x) w:=by
 unfold DA.Lang
 simp only[List.mem_cons,forall_eq_or_imp,DA.run]
 exact and_assoc
theorem DA.Lang.nil {d:DA}{s:Nat} :d.Lang s [] ↔ d.acc s=true:=by simp[DA.Lang,DA.run]
theorem om (d:DA):∀(u v:List Nat) (s:Nat),d.run s (u++v)=d.run (d.run s u) v
 | [],_,_=>rfl
 | x::u,v,s=>om d u v (d.to s x)
def cAt (cs:List Int)(x:Nat):Int:=cs.getD x 0
def dM (cs:List Int):List Nat->Int
 | []=>0
 | x::w=>cAt cs x+dM cs w
abbrev INF:Int:=9223372036854775807
theorem sq:INF=9223372036854775807:=rfl
def oAt (out:List Int)(s:Nat):Int:=out.getD s 0
def pk (cs:List Int):Prop:=∀c∈cs,1 <=c/\c <=1048576
theorem pk.at {cs:List Int}(h:pk cs){x:Nat}(hx:x<cs.length):1 <=cAt cs x/\cAt cs x <=1048576:=by
 unfold cAt
 rw[List.getD_eq_getElem?_getD,List.getElem?_eq_getElem hx]
 exact h _ (List.getElem_mem hx)
theorem cY {out:List Int}{s:Nat}(h:s<out.length)(v:Int):oAt (out.set s v) s=v:=by simp[oAt,List.getD_eq_getElem?_getD,h]
theorem cz {out:List Int}{s t:Nat}(h:s≠t)(v:Int):oAt (out.set s v) t=oAt out t:=by simp[oAt,List.getD_eq_getElem?_getD,List.getElem?_set_ne h]
structure oE (d:DA)(cs out:List Int):Prop where
 len:out.length=d.n
 lo:∀s,s<d.n->0 <=oAt out s/\oAt out s <=INF
 acc0:∀s,s<d.n->d.acc s=true->oAt out s=0
 sound:∀s,s<d.n->oAt out s≠INF->∃w,d.Lang s w/\dM cs w=oAt out s
 step:∀s x,s<d.n->x<d.K->oAt out (d.to s x)≠INF->oAt out s≠INF/\oAt out s <=oAt out (d.to s x)+cAt cs x
 most:∀s,s<d.n->oAt out s≠INF->oAt out s <=68719476736
theorem oE.le {d:DA}{cs out:List Int}(h:oE d cs out)(hd:d.Ok):∀{w:List Nat} {s:Nat},s<d.n->d.Lang s w->oAt out s≠INF/\oAt out s <=dM cs w
 | [],s,hs,hw=>by
   rw[h.acc0 s hs (DA.Lang.nil.1 hw)]
   exact⟨by decide,by simp[dM]⟩
 | x::w,s,hs,hw=>by
   obtain⟨hx,hw'⟩:=DA.Lang.cons.1 hw
   obtain⟨h1,h2⟩:=h.le hd (hd.to_lt hs hx) hw'
   obtain⟨h3,h4⟩:=h.step s x hs hx h1
   exact⟨h3,by simp only[dM];omega⟩
def vk:List Nat->List Nat->Prop
 | a::u,b::v=>a<b\/a=b/\vk u v
 | _,_=>False
def yG (d:DA)(cs out:List Int)(s x:Nat):Prop:=oAt out (d.to s x)<INF/\oAt out (d.to s x)+cAt cs x=oAt out s
inductive Gr (d:DA)(cs out:List Int):Nat->List Nat->Nat->Prop
 | nil (s:Nat):Gr d cs out s [] s
 | cons {s x t:Nat} {w:List Nat} :x<d.K->0<oAt out s->yG d cs out s x->(∀y,y<x-> ¬ yG d cs out s y)->Gr d cs out (d.to s x) w t->Gr d cs out s (x::w) t
theorem Gr.snoc {d:DA}{cs out:List Int}{s t x:Nat}{w:List Nat}(h:Gr d cs out s w t)(hx:x<d.K)(h0:0<oAt out t)(hk:yG d cs out t x)(hl:∀y,y<x-> ¬ yG d cs out t y):Gr d cs out s (w++[x]) (d.to t x):=by
 induction h with
 | nil s=>exact .cons hx h0 hk hl (.nil _)
 | cons a b c e _ ih=>exact .cons a b c e (ih h0 hk hl)
theorem Gr.lt {d:DA}{cs out:List Int}(hd:d.Ok){s t:Nat}{w:List Nat}(h:Gr d cs out s w t)(hs:s<d.n):t<d.n:=by
 induction h with
 | nil s=>exact hs
 | cons a b c e _ ih=>exact ih (hd.to_lt hs a)
theorem oE.next {d:DA}{cs out:List Int}(h:oE d cs out)(hd:d.Ok)(hc:pk cs)(hk:cs.length=d.K){s:Nat}(hs:s<d.n)(h0:oAt out s≠INF)(h1:0<oAt out s):∃x,x<d.K/\yG d cs out s x:=by
 obtain⟨w,hw,e⟩:=h.sound s hs h0
 cases w with
 | nil=>rw[<- e]at h1;simp[dM]at h1
 | cons x w=>
   obtain⟨hx,hw'⟩:=DA.Lang.cons.1 hw
   have ht:=hd.to_lt hs hx
   obtain⟨h2,h3⟩:=h.le hd ht hw'
   obtain⟨h4,h5⟩:=h.step s x hs hx h2
   simp only[dM]at e
   have:=(h.lo _ ht).2
   exact⟨x,hx,by omega,by omega⟩
theorem Gr.law {d:DA}{cs out:List Int}(h:oE d cs out)(hd:d.Ok)(hc:pk cs)(hk:cs.length=d.K){s t:Nat}{w:List Nat}(hg:Gr d cs out s w t)(hs:s<d.n)(h0:oAt out s≠INF)(ht:oAt out t=0):
   d.Lang s w/\dM cs w=oAt out s/\∀v,d.Lang s v->dM cs w<dM cs v\/dM cs v=dM cs w/\(v=w\/vk w v):=by
 induction hg with
 | nil s=>
   obtain⟨w,hw,e⟩:=h.sound s hs h0
   have hw0:w=[]:=by
     cases w with
     | nil=>rfl
     | cons x w=>
       obtain⟨hx,hw'⟩:=DA.Lang.cons.1 hw
       have h2:=(h.le hd (hd.to_lt hs hx) hw').2
       have h3:=(h.lo _ (hd.to_lt hs hx)).1
       have h4:=(hc.at (x:=x) (by omega)).1
       simp only[dM]at e
       omega
   subst hw0
   refine⟨hw,by simp[dM,ht],λv hv=>?_⟩
   cases v with
   | nil=>exact .inr ⟨rfl,.inl rfl⟩
   | cons x v=>
     obtain⟨hx,hv'⟩:=DA.Lang.cons.1 hv
     have h2:=(h.le hd (hd.to_lt hs hx) hv').2
     have h3:=(h.lo _ (hd.to_lt hs hx)).1
     have h4:=(hc.at (x:=x) (by omega)).1
     left
     simp only[dM]
     omega
 | @cons s x t w hx hp hok hl hg ih=>
   have hs':=hd.to_lt hs hx
   obtain⟨i1,i2,i3⟩:=ih hs' (by have:=hok.1;omega) ht
   refine⟨DA.Lang.cons.2 ⟨hx,i1⟩,by simp only[dM];rw[i2];have:=hok.2;omega,λv hv=>?_⟩
   have e0:dM cs (x::w)=oAt out s:=by simp only[dM];rw[i2];have:=hok.2;omega
   rw[e0]
   cases v with
   | nil=>
     have:=(h.acc0 s hs (DA.Lang.nil.1 hv))
     omega
   | cons y v=>
     obtain⟨hy,hv'⟩:=DA.Lang.cons.1 hv
     obtain⟨h2,h3⟩:=h.le hd (hd.to_lt hs hy) hv'
     obtain⟨h4,h5⟩:=h.step s y hs hy h2
     have e1:dM cs (y::v)=cAt cs y+dM cs v:=rfl
     by_cases hlt:oAt out s<dM cs (y::v)
     · exact .inl hlt
     · right
       have hlo:=(h.lo _ (hd.to_lt hs hy)).2
       have hoky:yG d cs out s y:=⟨by omega,by omega⟩
       refine⟨by omega,?_⟩
       rcases Nat.lt_trichotomy x y with hxy|hxy|hxy
       · exact .inr (.inl hxy)
       · subst hxy
         rcases i3 v hv' with h6|⟨h6,h7⟩
         · omega
         · rcases h7 with h7|h7
           · exact .inl (by rw[h7])
           · exact .inr (.inr ⟨rfl,h7⟩)
       · exact absurd hoky (hl y hxy)
theorem qK:∀{u v:List Nat},vk u v-> ¬ vk v u
 | [],_,h,_=>h
 | _::_,[],h,_=>h
 | a::u,b::v,h,k=>by
   rcases h with h|⟨h,h'⟩ <;> rcases k with k|⟨k,k'⟩ <;> first|omega|exact qK h' k'
def oG (cs:List Int)(L:List Nat->Prop)(w:List Nat):Prop:=L w/\∀v,L v->dM cs w<dM cs v\/dM cs v=dM cs w/\(v=w\/vk w v)
theorem oG.one {cs:List Int}{L:List Nat->Prop}{w v:List Nat}(h:oG cs L w)(k:oG cs L v):w=v:=by
 rcases h.2 v k.1 with h1|⟨h1,h1'|h1'⟩ <;> rcases k.2 w h.1 with h2|⟨h2,h2'|h2'⟩
 all_goals first
   | exact h1'.symm
   | exact h2'
   | (exfalso;omega)
   | exact absurd h2' (qK h1')
theorem oG.congr {cs:List Int}{L L':List Nat->Prop}{w:List Nat}(h:oG cs L w)(e:∀v,L v ↔ L' v):oG cs L' w:=⟨(e _).1 h.1,λv hv=>h.2 v ((e _).2 hv)⟩
def Il (d:DA)(cs out:List Int)(s:Nat):Prop:=∀f x,f<d.n->x<d.K->d.to f x=s->oAt out f <=oAt out s+cAt cs x
def Bnd (d:DA)(C:Int)(out:List Int)(s:Nat):Prop:=∃p:List Nat,(s::p).Nodup/\(∀t∈p,t<d.n/\oAt out t<oAt out s)/\oAt out s <=(p.length:Int)*C
structure GF (cs:List Int)(C:Int):Prop where
 lo:1 <=C
 hi:C <=1048576
 all:∀x,x<cs.length->cAt cs x <=C
structure Gt (d:DA)(cs:List Int)(C:Int)(out:List Int):Prop where
 len:out.length=d.n
 lo:∀s,s<d.n->0 <=oAt out s/\oAt out s <=INF
 acc0:∀s,s<d.n->d.acc s=true->oAt out s=0
 sound:∀s,s<d.n->oAt out s≠INF->∃w,d.Lang s w/\dM cs w=oAt out s
 bnd:∀s,s<d.n->oAt out s≠INF->Bnd d C out s
abbrev Hp:=List (Int×Nat)
def HIn (d:DA)(out:List Int)(H:Hp):Prop:=∀p∈H,p.2<d.n/\oAt out p.2 <=p.1/\p.1 <=68719476736
def Gv (d:DA)(cs out:List Int)(H:Hp)(s:Nat):Prop:=oAt out s≠INF->(oAt out s,s)∈H\/Il d cs out s
theorem kC:∀{n:Nat} {l:List Nat},l.Nodup->(∀x∈l,x<n)->l.length <=n:=by
 intro n
 induction n with
 | zero=>
   intro l _ h
   cases l with
   | nil=>exact Nat.le_refl _
   | cons x l=>exact absurd (h x List.mem_cons_self) (Nat.not_lt_zero _)
 | succ n ih=>
   intro l hn h
   have h1:(l.filter λx=>decide (x≠n)).length <=n:=by
     refine ih (hn.filter _) λx hx=>?_
     obtain⟨hx,hne⟩:=List.mem_filter.1 hx
     have:=h x hx
     have:x≠n:=by simpa using hne
     omega
   have h2:l.length <=(l.filter λx=>decide (x≠n)).length+1:=by
     clear ih h h1
     induction l with
     | nil=>exact Nat.zero_le _
     | cons x l ih2=>
       obtain⟨hx,hl⟩:=List.nodup_cons.1 hn
       rw[List.filter_cons]
       by_cases e:x=n
       · subst e
         have:(l.filter λy=>decide (y≠x))=l:=List.filter_eq_self.2 λy hy=>by
           have:y≠x:=λe=>hx (e▸hy)
           simpa using this
         rw[if_neg (by simp),this]
         exact Nat.le_refl _
       · have:=ih2 hl
         simp only[ne_eq,e,not_false_eq_true,decide_true,if_true,List.length_cons]
         simp only[ne_eq]at this
         omega
   omega
theorem Bnd.leC {d:DA}{C:Int}(hC:0 <=C){out:List Int}{s:Nat}(hs:s<d.n)(h:Bnd d C out s):oAt out s <=((d.n-1:Nat):Int)*C:=by
 obtain⟨p,hn,hp,hb⟩:=h
 have h1:(s::p).length <=d.n:=kC hn λx hx=>by
   rcases List.mem_cons.1 hx with rfl|hx
   · exact hs
   · exact(hp x hx).1
 simp only[List.length_cons]at h1
 exact Int.le_trans hb (Int.mul_le_mul_of_nonneg_right (by omega) hC)
theorem Bnd.le {d:DA}(hd:d.Ok){C:Int}(hC:0 <=C)(hC2:C <=1048576){out:List Int}{s:Nat}(hs:s<d.n)(h:Bnd d C out s):oAt out s <=68719476736-1048576:=by
 have h1:=h.leC hC hs
 have h2:d.n <=65536:=hd.n2
 have h3:((d.n-1:Nat):Int)*C <=65535*1048576:=Int.mul_le_mul (by omega) hC2 hC (by omega)
 omega
theorem Gt.first {d:DA}{cs:List Int}{C:Int}{out:List Int}(hl:out.length=d.n)(h:∀s,s<d.n->oAt out s=if d.acc s=true then 0 else INF):Gt d cs C out where
 len:=hl
 lo:=λs hs=>by rw[h s hs];split <;> decide
 acc0:=λs hs ha=>by rw[h s hs,if_pos ha]
 sound:=λs hs hi=>by
   rw[h s hs]at hi ⊢
   by_cases ha:d.acc s=true
   · exact⟨[],DA.Lang.nil.2 ha,by rw[if_pos ha];rfl⟩
   · rw[if_neg ha]at hi;exact absurd rfl hi
 bnd:=λs hs hi=>by
   rw[h s hs]at hi
   by_cases ha:d.acc s=true
   · refine⟨[],by simp,by simp,?_⟩
     rw[h s hs,if_pos ha];simp
   · rw[if_neg ha]at hi;exact absurd rfl hi
theorem Gt.down {d:DA}{cs:List Int}{C:Int}{out:List Int}(hd:d.Ok)(hc:pk cs)(hC:GF cs C)(hk:cs.length=d.K)(h:Gt d cs C out){f x s:Nat}(hf:f<d.n)(hx:x<d.K)(e:d.to f x=s)(hi:oAt out s≠INF){v:Int}(hv:v=oAt out s+cAt cs x)(hlt:v<oAt out f):
   Gt d cs C (out.set f v):=by
 have hs:s<d.n:=e▸hd.to_lt hf hx
 have hfl:f<out.length:=by rw[h.len];exact hf
 have hcx:=hc.at (x:=x) (by omega)
 have hne:f≠s:=λe=>by subst e;omega
 have hb:=h.bnd s hs hi
 have hbl:=hb.le hd (by have:=hC.lo;omega) hC.hi hs
 have hxC:=hC.all x (by omega)
 have hlos:=(h.lo s hs).1
 have hI:=sq
 have hmono:∀t,oAt (out.set f v) t <=oAt out t:=λt=>by
   by_cases et:f=t
   · subst et;rw[cY hfl];omega
   · rw[cz et];exact Int.le_refl _
 refine⟨by simp[h.len],λt ht=>?_,λt ht ha=>?_,λt ht hti=>?_,λt ht hti=>?_⟩
 · by_cases et:f=t
   · subst et;rw[cY hfl];omega
   · rw[cz et];exact h.lo t ht
 · by_cases et:f=t
   · subst et;have:=h.acc0 f ht ha;omega
   · rw[cz et];exact h.acc0 t ht ha
 · by_cases et:f=t
   · subst et
     rw[cY hfl]
     obtain⟨w,hw,ew⟩:=h.sound s hs hi
     refine⟨x::w,DA.Lang.cons.2 ⟨hx,by rw[e];exact hw⟩,?_⟩
     simp only[dM];omega
   · rw[cz et]at hti ⊢;exact h.sound t ht hti
 · by_cases et:f=t
   · subst et
     obtain⟨p,hn,hp,hbb⟩:=hb
     refine⟨s::p,?_,λt ht=>?_,?_⟩
     · refine List.nodup_cons.2 ⟨λhm=>?_,hn⟩
       rcases List.mem_cons.1 hm with hm|hm
       · exact hne hm
       · have:=(hp f hm).2;omega
     · rw[cY hfl]
       rcases List.mem_cons.1 ht with rfl|ht
       · exact⟨hs,by rw[cz hne];omega⟩
       · have h1:=hp t ht
         exact⟨h1.1,by have:=hmono t;omega⟩
     · rw[cY hfl]
       simp only[List.length_cons]
       have e2:(((p.length+1:Nat):Int))*C=(p.length:Int)*C+C:=by rw[Int.natCast_add,Int.add_mul];simp
       omega
   · rw[cz et]at hti
     obtain⟨p,hn,hp,hbb⟩:=h.bnd t ht hti
     refine⟨p,hn,λu hu=>⟨(hp u hu).1,?_⟩,?_⟩
     · rw[cz et]
       have:=hmono u
       have:=(hp u hu).2
       omega
     · rw[cz et];exact hbb
theorem Gt.done {d:DA}{cs:List Int}{C:Int}{out:List Int}(hd:d.Ok)(hc:pk cs)(hC:GF cs C)(hk:cs.length=d.K)(h:Gt d cs C out)(hr:∀s,s<d.n->Gv d cs out [] s):oE d cs out where
 len:=h.len
 lo:=h.lo
 acc0:=h.acc0
 sound:=h.sound
 step:=λs x hs hx hi=>by
   have ht:=hd.to_lt hs hx
   have hcx:=hc.at (x:=x) (by omega)
   rcases hr _ ht hi with h1|h1
   · cases h1
   · have h2:=h1 s x hs hx rfl
     have h3:=(h.bnd _ ht hi).le hd (by have:=hC.lo;omega) hC.hi ht
     have hI:=sq
     exact⟨by omega,h2⟩
 most:=λs hs hi=>by have:=(h.bnd s hs hi).le hd (by have:=hC.lo;omega) hC.hi hs;omega
theorem Gv.down {d:DA}{cs out:List Int}{H:Hp}{f t:Nat}{v:Int}(hl:f<out.length)(hlt:v<oAt out f)(hft:f≠t)(h:Gv d cs out H t):Gv d cs (out.set f v) H t:=by
 intro hi
 rw[cz hft]at hi ⊢
 rcases h hi with h1|h1
 · exact .inl h1
 · refine .inr λg x hg hx e=>?_
   have h2:=h1 g x hg hx e
   rw[cz hft]
   by_cases eg:f=g
   · subst eg;rw[cY hl];omega
   · rw[cz eg];exact h2
theorem Gv.sub {d:DA}{cs out:List Int}{H H':Hp}{t:Nat}(hs:∀p∈H,p∈H')(h:Gv d cs out H t):Gv d cs out H' t:=λhi=>(h hi).imp (hs _) id
theorem HIn.down {d:DA}{out:List Int}{H:Hp}{f:Nat}{v:Int}(hl:f<out.length)(hf:f<d.n)(hlt:v<oAt out f)(hv:v <=68719476736)(h:HIn d out H):HIn d (out.set f v) ((v,f)::H):=by
 intro p hp
 rcases List.mem_cons.1 hp with rfl|hp
 · exact⟨hf,by rw[cY hl];exact Int.le_refl _,hv⟩
 · obtain⟨h1,h2,h3⟩:=h p hp
   refine⟨h1,?_,h3⟩
   by_cases e:f=p.2
   · rw[e]at hlt hl;rw[e,cY hl];omega
   · rw[cz e];exact h2
def BP (M:Nat)(out:List Int):Nat:=(out.map λo=>min o.toNat (M+1)).sum
theorem CV {M:Nat}{v:Int} :∀{out:List Int} {f:Nat},f<out.length->v.toNat <=M->v.toNat<(oAt out f).toNat->BP M (out.set f v)<BP M out
 | [],_,h,_,_=>absurd h (Nat.not_lt_zero _)
 | o::out,0,_,hM,h=>by
   simp only[List.set_cons_zero,BP,List.map_cons,List.sum_cons]
   have:oAt (o::out) 0=o:=rfl
   rw[this]at h
   omega
 | o::out,f+1,hl,hM,h=>by
   simp only[List.set_cons_succ,BP,List.map_cons,List.sum_cons]
   have:=CV (M:=M) (v:=v) (out:=out) (f:=f) (by simpa using hl) hM h
   unfold BP at this
   omega
theorem F7 (M:Nat):∀out:List Int,BP M out <=out.length*(M+1)
 | []=>Nat.zero_le _
 | o::out=>by
   have:=F7 M out
   unfold BP at this ⊢
   simp only[List.map_cons,List.sum_cons,List.length_cons,Nat.succ_mul]
   omega
structure DaS (w:World)(a:Option Addr)(n c:Nat)(b:Option Addr)(m e:Nat)(d:DA):Prop where
 nx:Sl bY w jD a n c d.nx
 ac:Sl ij w jD b m e d.ac
theorem DaS.below {w w':World}{a b:Option Addr}{n c m e:Nat}{d:DA}(h:DaS w a n c b m e d)(hb:bW w w'):DaS w' a n c b m e d:=⟨h.nx.below hb,h.ac.below hb⟩
def daV (a:Option Addr)(n c:Nat)(b:Option Addr)(m e:Nat)(d:DA):Value:=.agg #[vI d.k,vI d.st,.slice a n c,.slice b m e]
def okD (d:DA):Bool:=decide (1 <=d.k)&&decide (d.k <=512)&&decide (1 <=d.ac.length)&&decide (d.ac.length <=65536)&&decide ((d.nx.length:Int)=(d.ac.length:Int)*d.k)&&decide (0 <=d.st)&&decide (d.st<(d.ac.length:Int)) &&
 d.nx.all λx=>decide (0 <=x)&&decide (x<(d.ac.length:Int))
theorem eY {d:DA} :okD d=true ↔ d.Ok:=by
 unfold okD
 simp only[Bool.and_eq_true,dTx,List.all_eq_true]
 constructor
 · rintro⟨⟨⟨⟨⟨⟨⟨h1,h2⟩,h3⟩,h4⟩,h5⟩,h6⟩,h7⟩,h8⟩
   exact⟨h1,h2,h3,h4,h5,h6,h7,h8⟩
 · rintro⟨h1,h2,h3,h4,h5,h6,h7,h8⟩
   exact⟨⟨⟨⟨⟨⟨⟨h1,h2⟩,h3⟩,h4⟩,h5⟩,h6⟩,h7⟩,h8⟩
structure Chg (S:List Nat)(w w':World):Prop where
 os:w'.os=w.os
 tape:w'.tape=w.tape
 output:w'.output=w.output
 size:w.heap.size <=w'.heap.size
 block:∀k,k<w.heap.size->k ∉ S->w'.heap[k]? =w.heap[k]?
theorem Chg.refl (S:List Nat)(w:World):Chg S w w:=⟨rfl,rfl,rfl,Nat.le_refl _,λ_ _ _=>rfl⟩
theorem Chg.trans {S:List Nat}{a b c:World}(h:Chg S a b)(k:Chg S b c):Chg S a c:=
 ⟨k.os.trans h.os,k.tape.trans h.tape,k.output.trans h.output,Nat.le_trans h.size k.size,λi hi hs=>(k.block i (Nat.lt_of_lt_of_le hi h.size) hs).trans (h.block i hi hs)⟩
theorem Chg.of {S:List Nat}{w w':World}(h:bW w w'):Chg S w w':=⟨h.os,h.tape,h.output,h.size,λk hk _=>h.block k hk⟩
theorem Chg.grown {S:List Nat}{w w':World}{r:Nat}(h:w.grownBy w' (some r))(hr:r∈S):Chg S w w':=
 ⟨h.os,h.tape,h.output,h.size,λk hk hs=>h.block k hk λe=>hs (by cases e;exact hr)⟩
theorem Chg.mono {S S':List Nat}{w w':World}(h:Chg S w w')(hs:∀k∈S,k∈S'):Chg S' w w':=⟨h.os,h.tape,h.output,h.size,λk hk hn=>h.block k hk λhm=>hn (hs k hm)⟩
theorem Chg.below {S:List Nat}{B:Nat}{w w':World}(h:Chg S w w')(hB:B <=w.heap.size)(hs:∀k∈S,B <=k):Below B w w':=
 ⟨h.os,h.tape,h.output,h.size,λk hk=>h.block k (by omega) λhm=>by have:=hs k hm;omega⟩
theorem Chg.none {w w':World}(h:Chg [] w w'):bW w w':=h.below (Nat.le_refl _) λk hk=>by cases hk
theorem Chg.keep {S:List Nat}{w w':World}(h:Chg S w w'):oF (λb=>b ∉ S) w w':=⟨h.size,λb hb ha=>h.block b hb ha⟩
theorem Chg.arr {S:List Nat}{w w':World}(h:Chg S w w'){k:Nat}{t:TypeId}{vs:List Value}(ha:ai w k t vs)(hk:k ∉ S):ai w' k t vs:=ha.block (h.block k ha.lt hk)
theorem Chg.step {S:List Nat}{a b c:World}(h:Chg S a b)(k:bW b c):Chg S a c:=h.trans (Chg.of k)
theorem Chg.put {S:List Nat}{a b c:World}{r:Nat}(h:Chg S a b)(k:b.grownBy c (some r))(hr:a.heap.size <=r):Chg S a c:=
   ⟨k.os.trans h.os,k.tape.trans h.tape,k.output.trans h.output,Nat.le_trans h.size k.size,λi hi hs=>(k.block i (Nat.lt_of_lt_of_le hi h.size) (λe=>by cases e;omega)).trans (h.block i hi hs)⟩
end Go.Pk
