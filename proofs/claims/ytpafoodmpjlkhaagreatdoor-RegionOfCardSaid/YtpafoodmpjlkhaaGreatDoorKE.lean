/- What the laws lean on: AddrH, AddrI, Eq, HostA, HostB, HostC, Sub, HostD, V4, UrlA, MatA; what is used. Its conditions: none. -/
import Derived.Test.YtpafoodmpjlkhaaGreatDoorKD
import Derived.Laws.StructEq
import Derived.Lib.LastIndexByte
set_option linter.unusedVariables false
set_option linter.unusedSimpArgs false
set_option linter.unusedSectionVars false
set_option maxRecDepth 100000
open Go.IntKind (i64)
open Go.Proofs.Tryz
open List (length)
open Option (isSome)
namespace Go.Pk
open Go.RowKit (Below)
open Go.Proofs
def sp (a:List UInt8)(k:Nat):Nat:=(a.getD (2*k) 0).toNat*256+(a.getD (2*k+1) 0).toNat
def gL (a:List UInt8):List Nat:=[sp a 0,sp a 1,sp a 2,sp a 3,sp a 4,sp a 5,sp a 6,sp a 7]
theorem tG (a:List UInt8):(gL a).length=8:=rfl
theorem Dg (a:List UInt8)(k:Nat):sp a k<65536:=by
 have h1:=mD (a.getD (2*k) 0);have h2:=mD (a.getD (2*k+1) 0)
 unfold sp;omega
theorem Ed (a:List UInt8):∀(k:Nat) (h:k<(gL a).length),(gL a)[k]=sp a k
 | 0,_=>rfl
 | 1,_=>rfl
 | 2,_=>rfl
 | 3,_=>rfl
 | 4,_=>rfl
 | 5,_=>rfl
 | 6,_=>rfl
 | 7,_=>rfl
 | n+8,h=>by rw[tG]at h;omega
theorem Ab (a:List UInt8):∀x∈gL a,x<65536:=λx hx=>by
 obtain⟨i,hi,rfl⟩:=List.mem_iff_getElem.1 hx
 rw[Ed];exact Dg a i
def wrL (l:List Nat):List UInt8:=Lib.join (l.map uM) [58]
theorem mF {l:List Nat}(h:∀x∈l,x<65536):(wrL l).length <=l.length*5:=by
 have:=vU (l.map uM) 58 4 (λx hx=>by
   obtain⟨c,hc,rfl⟩:=List.mem_map.1 hx
   exact uO (h c hc))
 rwa [List.length_map]at this
def zst (s:Nat×Nat×Nat)(i:Nat)(z:Bool):Nat×Nat×Nat:=
 if s.2.1<(if z=true then s.2.2+1 else 0)then(i+1-(if z=true then s.2.2+1 else 0),(if z=true then s.2.2+1 else 0),(if z=true then s.2.2+1 else 0))else(s.1,s.2.1,(if z=true then s.2.2+1 else 0))
def kr (zs:List Bool):Nat->Nat×Nat×Nat
 | 0=>(0,0,0)
 | k+1=>zst (kr zs k) k (zs.getD k false)
def ci (zs:List Bool):Nat×Nat:=((kr zs 8).1,(kr zs 8).2.1)
def HW (zs:List Bool)(p l:Nat):Bool:=(List.range l).all λj=>zs.getD (p+j) false
def zok (zs:List Bool):Bool:=
 decide ((ci zs).1+(ci zs).2 <=8)&&(decide ((ci zs).2<2) || HW zs (ci zs).1 (ci zs).2) &&
   (List.range 9).all λL=>(List.range 9).all λA=> !(decide (2 <=L)&&decide (A+L <=8)&&HW zs A L) || (decide (L<(ci zs).2) || (decide (L=(ci zs).2)&&decide ((ci zs).1 <=A)))
theorem KD:∀b0 b1 b2 b3 b4 b5 b6 b7:Bool,zok [b0,b1,b2,b3,b4,b5,b6,b7]=true:=by decide+kernel
theorem zE {zs:List Bool}(h:zs.length=8):(ci zs).1+(ci zs).2 <=8/\(2 <=(ci zs).2->HW zs (ci zs).1 (ci zs).2=true)/\
   ∀L A,2 <=L->A+L <=8->HW zs A L=true->L<(ci zs).2\/(L=(ci zs).2/\(ci zs).1 <=A):=by
 match zs,h with
 | [b0,b1,b2,b3,b4,b5,b6,b7],_=>
   have:=KD b0 b1 b2 b3 b4 b5 b6 b7
   unfold zok at this
   rw[Bool.and_eq_true,Bool.and_eq_true]at this
   obtain⟨⟨h1,h2⟩,h3⟩:=this
   refine⟨of_decide_eq_true h1,λhl=>?_,λL A hL hA hz=>?_⟩
   · rw[Bool.or_eq_true,dTx]at h2
     exact h2.resolve_left (by omega)
   · have:=List.all_eq_true.1 (List.all_eq_true.1 h3 L (List.mem_range.2 (by omega))) A (List.mem_range.2 (by omega))
     rw[decide_eq_true hL,decide_eq_true hA,hz]at this
     simpa using this
theorem CN (zs:List Bool):∀k,(kr zs k).2.2 <=k/\(kr zs k).2.1 <=k/\(kr zs k).1 <=k
 | 0=>⟨Nat.le_refl _,Nat.le_refl _,Nat.le_refl _⟩
 | k+1=>by
   obtain⟨h1,h2,h3⟩:=CN zs k
   unfold kr zst
   cases zs.getD k false <;> simp only[Bool.false_eq_true,if_false,if_true] <;> split <;> simp <;> omega
def zsA (a:List UInt8):List Bool:=(gL a).map (· ==0)
theorem HS (a:List UInt8):(zsA a).length=8:=rfl
def xm (a:List UInt8):List UInt8:=
 if(ci (zsA a)).2<2 then wrL (gL a)else wrL ((gL a).take (ci (zsA a)).1)++[58,58]++wrL ((gL a).drop ((ci (zsA a)).1+(ci (zsA a)).2))
theorem L2 {a d:Nat}(ha:a<256)(hd:d<256):IntKind.u16.wrap (((BitVec.ofInt (IntKind.bits .u16) (IntKind.u16.wrap ((IntKind.u16.wrap (a:Int))*2 ^ (min (Int.toNat (8:Int)) (IntKind.bits .u16))))) ||| (BitVec.ofInt (IntKind.bits .u16) (IntKind.u16.wrap (d:Int)))).toNat:Nat)=((a*256+d:Nat):Int):=by
 have e1:(2:Int) ^ (min (Int.toNat (8:Int)) (IntKind.bits .u16))=256:=by decide
 have w16:∀n:Nat,n<65536->IntKind.u16.wrap (n:Int)=(n:Int):=λn hn=>by
   have:IntKind.u16.wrap (n:Int)=(n:Int)%65536:=rfl
   rw[this];omega
 have e2:(a:Int)*256=((a*256:Nat):Int):=by omega
 have b16:∀n:Nat,n<65536->(BitVec.ofInt (IntKind.bits .u16) (n:Int)).toNat=n:=λn hn=>by
   show(BitVec.ofInt 16 (n:Int)).toNat=n
   rw[BitVec.toNat_ofInt]
   have h:((2 ^ 16:Nat):Int)=65536:=by decide
   rw[h];omega
 rw[e1,w16 a (by omega),e2,w16 (a*256) (by omega),w16 d (by omega),BitVec.toNat_or,b16 (a*256) (by omega),b16 d (by omega)]
 have h3:a*256 ||| d=a*256+d:=by
   have:=Nat.two_pow_add_eq_or_of_lt (i:=8) hd a
   rw[Nat.mul_comm a 256];exact this.symm
 rw[h3,w16 _ (by omega)]
def xW (l:List Nat):List Value:=i16 (l.map λx:Nat=>(x:Int))
theorem Ai (l:List Nat):(xW l).length=l.length:=by simp[xW,i16]
theorem Ej (l:List Nat):yT (xW l):=GS _
theorem IE (l:List Nat)(i x:Nat):(xW l).set i (.int .u16 (x:Int))=xW (l.set i x):=by unfold xW i16;rw[List.map_set,List.map_set]
theorem Ah {l:List Nat}{i:Nat}(h:i<l.length):(xW l)[i]? =some (.int .u16 ((l[i]:Nat):Int)):=by
 unfold xW i16;rw[List.getElem?_map,List.getElem?_map,List.getElem?_eq_getElem h];rfl
theorem ak.sl16 {w:World}{k:Nat}{T:TypeId}{l:List Nat}(h:ak w k T (xW l)){o n c:Nat}{A:Addr}(hA:0<n->A=⟨k,o,none⟩)(hn:o+n <=l.length)(hc:n <=c)(hm:c <=maxLen):Sl Kx w iv (some A) n c (((l.drop o).take n).map λx:Nat=>(x:Int)):=by
 have hl:(((l.drop o).take n).map λx:Nat=>(x:Int)).length=n:=by simp;omega
 refine⟨hl.symm,hc,hm,?_⟩
 by_cases h0:0<n
 · refine .inr ⟨k,o,by rw[hA h0],h.lt,trivial,xW ((l.drop o).take n),gu (h1:=λ_=>rfl) (λ_ _=>trivial),λj hj=>?_⟩
   rw[Ai]at hj
   have hj2:j<n:=by rw[List.length_take]at hj;omega
   rw[h.cell,Ah (by omega),Ah hj]
   simp
 · exact .inl (List.length_eq_zero_iff.1 (by omega))
theorem xP (a:List UInt8)(ha:a.length=16)(w:World):Cf lS #[adV a] w (Ret λv w'=>v=.agg (xW (gL a)).toArray/\bW w w'):=by
 apply wu
 intro k1 w1 hk1 hw1
 have hB1:=(hw1▸af w _:bW w w1)
 have h11:ak w1 k1 aj (adC a):=ak.new hk1 hw1
 intro k2 w2 hk2 hw2
 have hb2:=(hw2▸af w1 _:bW w1 w2)
 have hB2:=ab hB1 hb2 hB1.size
 have h22:ak w2 k2 aG (xW [0,0,0,0,0,0,0,0]):=ak.new hk2 hw2
 intro k3 w3 hk3 hw3
 have hb3:=(hw3▸af w2 _:bW w2 w3)
 have hB3:=ab hB2 hb3 hB2.size
 have h33:ak w3 k3 aG (xW [0,0,0,0,0,0,0,0]):=ak.new hk3 hw3
 have h23:=h22.below hb3
 have h13:=(h11.below hb2).below hb3
 have l1:=h11.lt
 have l2:=h22.lt
 have hk3w:w.heap.size <=k3:=by have:=hB2.size;omega
 refine⟨λm i w'=>∃k:Nat,k <=8/\i=(k:Int)/\m=8-k/\ak w' k3 aG (xW ((gL a).take k++List.replicate (8-k) 0))/\ak w' k2 aG (xW [0,0,0,0,0,0,0,0])/\ak w' k1 aj (adC a)/\bW w w',
   ⟨_,0,by omega,rfl,rfl,h33,h23,h13,hB3⟩,?_⟩
 intro m i
 refine aE.of ?_ _
 rintro w6 ⟨k,hk,rfl,rfl,h36,h26,h16,hB6⟩
 refine ae.of (λh=>?_) (λh=>?_) <;> simp only[dTx,dFx]at h
 · have hk8:k<8:=by omega
   have e1:i64.wrap (2*(k:Int))=((2*k:Nat):Int):=by rw[wrap_i64 (by omega) (by omega)];omega
   have e2:i64.wrap (((2*k:Nat):Int)+1)=((2*k+1:Nat):Int):=by rw[wrap_i64 (by omega) (by omega)];omega
   rw[e1,e2,fB,fB,fB]
   simp only[Nat.zero_add]
   have hin:(0 <=(k:Int)/\(k:Int)<((8:Nat):Int))/\True:=⟨⟨by omega,by omega⟩,trivial⟩
   have hin1:(0 <=((2*k:Nat):Int)/\((2*k:Nat):Int)<((16:Nat):Int))/\True:=⟨⟨by omega,by omega⟩,trivial⟩
   have hin2:(0 <=((2*k+1:Nat):Int)/\((2*k+1:Nat):Int)<((16:Nat):Int))/\True:=⟨⟨by omega,by omega⟩,trivial⟩
   have ld:∀(i:Nat) (hi:i<a.length) (u:World),bW w6 u->(Instr.loadAt aF (.pointer (some ⟨k1,i,none⟩))).run prog u=.ok (.int .u8 ((a[i].toNat:Nat):Int)) u:=λi hi u hu=>(h16.below hu).load1 bA rfl (u5 hi)
   refine⟨hin1,_,ld _ (by omega),by decide,hin2,_,ld _ (by omega),hin,?_⟩
   intro wq hq
   have hd:=ab hB6 hq hB6.size
   have d3:=h36.below hq
   have d2:=h26.below hq
   have d1:=h16.below hq
   have hval:(a[2*k]'(by omega)).toNat*256+(a[2*k+1]'(by omega)).toNat=sp a k:=by
     unfold sp
     rw[List.getD_eq_getElem?_getD,List.getD_eq_getElem?_getD,List.getElem?_eq_getElem (by omega),List.getElem?_eq_getElem (by omega)];rfl
   have hor:=L2 (a:=(a[2*k]'(by omega)).toNat) (d:=(a[2*k+1]'(by omega)).toNat) (by have:=mD (a[2*k]'(by omega));omega) (by have:=mD (a[2*k+1]'(by omega));omega)
   rw[hval]at hor
   have hgl:=tG a
   have hlen:((gL a).take k++List.replicate (8-k) 0).length=8:=by simp[hgl];omega
   obtain⟨w8,hs8,h58,hg8⟩:=d3.put (P:=prog) CH (i:=k) (v:=.int .u16 ((sp a k:Nat):Int)) (by rw[Ai,hlen];omega) rfl rfl
   have hset:((gL a).take k++List.replicate (8-k) 0).set k (sp a k)=(gL a).take (k+1)++List.replicate (8-(k+1)) 0:=by
     have hl:((gL a).take k).length=k:=by rw[List.length_take,hgl];omega
     rw[List.set_append_right _ _ (by omega),hl,Nat.sub_self,show 8-k=(8-(k+1))+1 by omega,List.replicate_succ (n:=8-(k+1)),List.set_cons_zero,List.take_succ_eq_append_getElem (by omega),Ed,List.append_assoc];rfl
   rw[IE,hset]at h58
   rw[<- hor]at hs8
   have hfin:∃m':Nat,m'<8-k/\∃k':Nat,k' <=8/\i64.wrap ((k:Int)+1)=(k':Int)/\m'=8-k'/\ak w8 k3 aG (xW ((gL a).take k'++List.replicate (8-k') 0))/\ak w8 k2 aG (xW [0,0,0,0,0,0,0,0])/\ak w8 k1 aj (adC a)/\bW w w8:=
     ⟨8-(k+1),by omega,k+1,by omega,by rw[wrap_i64 (by omega) (by omega)];omega,rfl,h58,d2.grown hg8 (gM (by omega)),d1.grown hg8 (gM (by omega)),Below.put hd hg8 hk3w⟩
   exact⟨w8,hs8,hfin⟩
 · have:k=8:=by omega
   subst this
   have e8:(gL a).take 8++List.replicate (8-8) 0=gL a:=by rw[List.take_of_length_le (by rw[tG];exact Nat.le_refl _)];simp
   rw[e8]at h36
   have hlen:(xW (gL a)).length=8:=by rw[Ai];rfl
   obtain⟨w7,hs7,h27,hg7⟩:=tt.store0 hlen (Ej _) h26 rfl
   refine⟨_,_,_,_,_,_,_,_,tt.load0 h36 hlen,w7,hs7,_,_,_,_,_,_,_,_,ak.res (tt.load0 h27 hlen),rfl,Below.put hB6 hg7 (by omega)⟩
theorem jK {w:World}{A:Bl}{a:Option Addr}{n c:Nat}{l:List Nat}(hs:Sl Kx w iv a n c (l.map λx:Nat=>(x:Int)))(hl:l.length <=8)(hb:∀x∈l,x<65536)(he:Env w):
   Cf gh #[.slice a n c] w (Ret λv w'=>v=vS (wrL l)/\bW w w'):=by
 apply um
 have hn:=hs.len
 rw[List.length_map]at hn
 refine⟨λm a3 l3 c3 i w'=>∃k:Nat,k <=l.length/\i=(k:Int)/\m=l.length-k/\Ow tS aq w' NoB a3 l3 c3 ((l.take k).map uM)/\bp w.heap.size a3/\bW w w',
   ⟨_,0,by omega,rfl,rfl,Ow.nil _ _ _ _,bp.none _,Below.refl _ _⟩,?_⟩
 intro m a3 l3 c3 i
 refine aE.of ?_ _
 rintro w2 ⟨k,hk,rfl,rfl,ho2,hf2,hB2⟩
 refine ae.of (λh=>?_) (λh=>?_) <;> simp only[dTx,dFx]at h
 · have hkl:k<l.length:=by omega
   have hs2:=hs.below hB2
   obtain⟨v,hv,hrep⟩:=hs2.load1 (i:=(k:Int)) xw rfl rfl (by simp;omega)
   simp only[Int.toNat_natCast,List.getElem_map]at hv hrep
   obtain⟨hv',-⟩:=hrep
   obtain rfl:=(List.cons.inj hv').1
   have hgk:=hb l[k] (List.getElem_mem hkl)
   refine⟨⟨⟨by omega,h⟩,hs2.isSome (by simp;omega)⟩,_,hv,?_⟩
   rw[u64_in (by omega) (by omega)]
   refine av (z8 _ hgk w2 (he.step hB2)) ?_
   rintro _ w3 ⟨rfl,hb3⟩
   have hB3:=ab hB2 hb3 hB2.size
   refine⟨_,rfl,?_⟩
   intro k4 w4 hk4' hw4
   have hll:((l.take k).map uM).length <=8:=by simp;omega
   obtain⟨w5,a5,n5,c5,hr,ho5,hf5,hb5⟩:=Du (ty:=au) (w0:=w) (cm:=1) (vs:=[_]) (gZ _) bF lH (by decide) (ho2.below hb3) hf2 hB3 hk4' hw4 (sO trivial) (by omega)
   refine⟨w5,a5,n5,c5,hr,l.length-(k+1),by omega,k+1,by omega,by rw[wrap_i64 (by omega) (by omega)];omega,rfl,?_,hf5,hb5⟩
   rw[List.take_succ_eq_append_getElem hkl,List.map_append]
   exact ho5
 · have:k=l.length:=by omega
   subst this
   rw[List.take_length]at ho2
   have hlen:=mF hb
   refine av (Ao ho2.all [58] (by rw[List.length_map];omega) (by show(wrL l).length <=_;omega)) ?_
   rintro _ w3 ⟨rfl,hb3⟩
   exact⟨_,rfl,rfl,ab hB2 hb3 hB2.size⟩
theorem zR (g0 g1 g2 g3 g4 g5 g6 g7:Nat)(w:World):
   Cf nr #[.agg #[.int .u16 (g0:Int),.int .u16 (g1:Int),.int .u16 (g2:Int),.int .u16 (g3:Int),.int .u16 (g4:Int),.int .u16 (g5:Int),.int .u16 (g6:Int),.int .u16 (g7:Int)]] w
     (Ret λv w'=>v=.tuple #[vI ((ci ([g0,g1,g2,g3,g4,g5,g6,g7].map (· ==0))).1:Int),vI ((ci ([g0,g1,g2,g3,g4,g5,g6,g7].map (· ==0))).2:Int)]/\bW w w'):=by
 apply yu
 intro k1 w1 hk1 hw1
 have hB1:=(hw1▸af w _:bW w w1)
 have h11:ak w1 k1 aG (xW [g0,g1,g2,g3,g4,g5,g6,g7]):=ak.new hk1 hw1
 obtain⟨G,hG⟩:∃G,G=[g0,g1,g2,g3,g4,g5,g6,g7]:=⟨_,rfl⟩
 have hl8:G.length=8:=by rw[hG];rfl
 rw[<- hG]at h11 ⊢
 clear hG
 refine⟨λm p lo ru i w'=>∃k:Nat,k <=8/\i=(k:Int)/\m=8-k/\p=((kr (G.map (· ==0)) k).1:Int)/\lo=((kr (G.map (· ==0)) k).2.1:Int)/\ru=((kr (G.map (· ==0)) k).2.2:Int)/\w'=w1,⟨_,0,by omega,rfl,rfl,rfl,rfl,rfl,rfl⟩,?_⟩
 intro m p lo ru i
 refine aE.of ?_ _
 rintro w2 ⟨k,hk,rfl,rfl,rfl,rfl,rfl,hw2⟩
 rw[hw2];clear hw2
 obtain⟨b1,b2,b3⟩:=CN (G.map (· ==0)) k
 refine ae.of (λh=>?_) (λh=>?_) <;> simp only[dTx,dFx]at h
 · have hk8:k<G.length:=by omega
   have hzk:(G.map (· ==0)).getD k false=(G[k]==0):=by
     rw[List.getD_eq_getElem?_getD,List.getElem?_map,List.getElem?_eq_getElem hk8];rfl
   rw[fB,Nat.zero_add]
   have ew:i64.wrap ((k:Int)+1)=((k+1:Nat):Int):=by rw[wrap_i64 (by omega) (by omega)];omega
   try dsimp only
   rw[ew]
   refine Lw (B:=λJ=>_/\∃n15:Int,_/\ae (n15 !=0) (J 0 w1) (J _ w1)) ((if(G[k]==0)=true then(kr (G.map (· ==0)) k).2.2+1 else 0:Nat):Int) ⟨⟨⟨by omega,by omega⟩,rfl⟩,_,h11.load1 xw rfl (Ah hk8),ae.of (λh2=>⟨rfl,?_⟩) (λh2=>⟨rfl,?_⟩)⟩ ?_
   · rw[if_neg (by simp at h2 ⊢;omega)];rfl
   · rw[if_pos (by simp at h2 ⊢;omega),wrap_i64 (by omega) (by omega)];omega
   · have hz:kr (G.map (· ==0)) (k+1)=zst (kr (G.map (· ==0)) k) k (G[k]==0):=by rw[<- hzk];rfl
     have hru:(if(G[k]==0)=true then(kr (G.map (· ==0)) k).2.2+1 else 0) <=k+1:=by split <;> omega
     unfold zst at hz
     generalize (if(G[k]==0)=true then(kr (G.map (· ==0)) k).2.2+1 else 0)=ru at*
     refine ae.of (λh2=>?_) (λh2=>?_) <;> simp only[gt_iff_lt,dTx,dFx]at h2
     · rw[if_pos (by omega)]at hz
       refine⟨8-(k+1),by omega,k+1,by omega,rfl,rfl,?_,?_,?_,rfl⟩
       · rw[hz,wrap_i64 (by omega) (by omega)];show _=((k+1-ru:Nat):Int);omega
       · rw[hz]
       · rw[hz]
     · rw[if_neg (by omega)]at hz
       exact⟨8-(k+1),by omega,k+1,by omega,rfl,rfl,by rw[hz],by rw[hz],by rw[hz],rfl⟩
 · have:k=8:=by omega
   subst this
   exact⟨rfl,hB1⟩
theorem Bz (zs:List Bool)(p l:Nat):HW zs p (l+1)=(HW zs p l&&zs.getD (p+l) false):=by
 unfold HW;rw[List.range_succ,List.all_append];simp
theorem KE (a:List UInt8){k:Nat}(h:k<8):(zsA a).getD k false=(sp a k==0):=by
 unfold zsA
 rw[List.getD_eq_getElem?_getD,List.getElem?_map,List.getElem?_eq_getElem (by rw[tG];exact h),Ed];rfl
theorem Cd (sep:List UInt8)(r:List (List UInt8))(y:List UInt8):Lib.joinTail sep (r++[y])=Lib.joinTail sep r++(sep++y):=by simp[Lib.joinTail]
theorem I5 (l:List Nat)(x:Nat):wrL (l++[x])=if l=[]then uM x else wrL l++[58]++uM x:=by
 unfold wrL
 cases l with
 | nil=>simp[Lib.join_one]
 | cons y r=>
   rw[if_neg (by simp),List.map_append,List.map_cons,List.cons_append,List.map_cons,List.map_nil,Lib.join_cons,Lib.join_cons,Cd]
   simp
theorem zP (a:List UInt8)(ha:a.length=16)(w:World)(he:Env w):Cf np #[adV a] w (Ret λv w'=>v=vS (xm a)/\bW w w'):=by
 apply yr
 intro k1 w1 hk1 hw1
 have hB1:=(hw1▸af w _:bW w w1)
 have h11:ak w1 k1 aj (adC a):=ak.new hk1 hw1
 refine⟨_,bv.load0 h11 (by rw[bX,ha]),?_⟩
 refine av (xP a ha w1) ?_
 rintro _ w2 ⟨rfl,hb2⟩
 have hB2:=ab hB1 hb2 hB1.size
 refine⟨_,_,_,_,_,_,_,_,rfl,?_⟩
 refine tt.new (zs:=xW [0,0,0,0,0,0,0,0]) (cs:=xW (gL a)) rfl rfl (Ej _) w2 λk3 w3 hk3 h3 hb3=>?_
 have hB3:=ab hB2 hb3 hB2.size
 refine⟨_,_,_,_,_,_,_,_,tt.load0 h3 rfl,?_⟩
 refine av (zR (sp a 0) (sp a 1) (sp a 2) (sp a 3) (sp a 4) (sp a 5) (sp a 6) (sp a 7) w3) ?_
 rintro _ w4 ⟨rfl,hb4⟩
 have hB4:=ab hB3 hb4 hB3.size
 have h4:=h3.below hb4
 have hz:=zE (HS a)
 show ∃n10_0 n10_1:Int,(Ending.returned (.tuple #[vI ((ci (zsA a)).1:Int),vI ((ci (zsA a)).2:Int)]):Ending)=.returned (.tuple #[vI n10_0,vI n10_1])/\_
 have ht:xm a=if(ci (zsA a)).2<2 then wrL (gL a)else wrL ((gL a).take (ci (zsA a)).1)++[58,58]++wrL ((gL a).drop ((ci (zsA a)).1+(ci (zsA a)).2)):=rfl
 rw[ht];clear ht
 generalize ci (zsA a)=Z at*
 obtain⟨p,lo⟩:=Z
 have hsum:p+lo <=8:=hz.1
 refine⟨(p:Int),(lo:Int),rfl,?_⟩
 show ae _ _ _
 have hgl:=tG a
 refine ae.of (λh=>?_) (λh=>?_) <;> simp only[dTx,dFx]at h
 · rw[if_pos (show lo<2 by omega)]
   have hs:=h4.sl16 (o:=0) (n:=8) (c:=8) (A:=⟨k3,0,none⟩) (λ_=>rfl) (by rw[hgl];omega) (Nat.le_refl _) (by unfold maxLen;omega)
   have e8:((gL a).drop 0).take 8=gL a:=by rw[List.drop_zero,List.take_of_length_le (by omega)]
   rw[e8]at hs
   refine⟨trivial,?_⟩
   refine av (jK (A:=iv) hs (by omega) (Ab a) (he.step hB4)) ?_
   rintro _ w5 ⟨rfl,hb5⟩
   exact⟨_,rfl,rfl,ab hB4 hb5 hB4.size⟩
 · rw[if_neg (show ¬ lo<2 by omega)]
   have e1:i64.wrap ((p:Int)+(lo:Int))=((p+lo:Nat):Int):=by rw[wrap_i64 (by omega) (by omega)];omega
   try dsimp only
   rw[e1]
   simp only[Int.toNat_natCast]
   have hb1:∀x∈(gL a).take p,x<65536:=λx hx=>Ab a x (List.mem_of_mem_take hx)
   have hb2':∀x∈(gL a).drop (p+lo),x<65536:=λx hx=>Ab a x (List.mem_of_mem_drop hx)
   have l1:=mF hb1
   have l2:=mF hb2'
   rw[List.length_take]at l1
   rw[List.length_drop]at l2
   refine⟨⟨by omega,by omega⟩,wrL ((gL a).take p),λu hu=>?_,fits (by simp;omega),?_⟩
   · have hs:=(h4.below hu).sl16 (o:=0) (n:=p) (c:=8) (A:=⟨k3,0,none⟩) (λ_=>rfl) (by rw[hgl];omega) (by omega) (by unfold maxLen;omega)
     rw[List.drop_zero]at hs
     exact j3 (jK (A:=iv) hs (by rw[List.length_take];omega) hb1 ((he.step hB4).step hu)) hu
   rintro _ rfl
   refine⟨⟨by omega,by omega⟩,wrL ((gL a).drop (p+lo)),λu hu=>?_,fits (by simp;omega),?_⟩
   · have hs:=(h4.below hu).sl16 (o:=p+lo) (n:=8-(p+lo)) (c:=8-(p+lo)) (A:=if 8=p+lo then⟨k3,0,none⟩ else Addr.add ⟨k3,0,none⟩ ((p+lo)*1)) (λhpos=>by rw[if_neg (by omega),Jc,Nat.zero_add,Nat.mul_one]) (by rw[hgl];omega) (Nat.le_refl _) (by unfold maxLen;omega)
     rw[List.take_of_length_le (by rw[List.length_drop];omega)]at hs
     exact j3 (jK (A:=iv) hs (by rw[List.length_drop];omega) hb2' ((he.step hB4).step hu)) hu
   rintro _ rfl
   intro wq hwq
   exact⟨by simp only[List.append_assoc],ab hB4 hwq hB4.size⟩
theorem px (a:List UInt8)(ha:a.length=16)(k:Nat)(hk:k<8)(w:World):Cf jv #[adV a,vI (k:Int)] w (Ret λv w'=>v=vI ((sp a k:Nat):Int)/\bW w w'):=by
 apply wK
 intro k1 w1 hk1 hw1
 have hB1:=(hw1▸af w _:bW w w1)
 have h1:ak w1 k1 aj (adC a):=ak.new hk1 hw1
 have e1:i64.wrap (2*(k:Int))=((2*k:Nat):Int):=by rw[wrap_i64 (by omega) (by omega)];omega
 have e2:i64.wrap (((2*k:Nat):Int)+1)=((2*k+1:Nat):Int):=by rw[wrap_i64 (by omega) (by omega)];omega
 rw[e1,e2,fB,fB,Nat.zero_add,Nat.zero_add]
 refine⟨⟨⟨by omega,by omega⟩,rfl⟩,_,λu hu=>(h1.below hu).load1 bA rfl (u5 (a:=a) (i:=2*k) (by omega)),⟨⟨by omega,by omega⟩,rfl⟩,_,λu hu=>(h1.below hu).load1 bA rfl (u5 (a:=a) (i:=2*k+1) (by omega)),λwq hwq=>⟨?_,ab hB1 hwq hB1.size⟩⟩
 have u1:=mD (a[2*k]'(by omega))
 have u2:=mD (a[2*k+1]'(by omega))
 have hval:(a[2*k]'(by omega)).toNat*256+(a[2*k+1]'(by omega)).toNat=sp a k:=by
   unfold sp
   rw[List.getD_eq_getElem?_getD,List.getD_eq_getElem?_getD,List.getElem?_eq_getElem (by omega),List.getElem?_eq_getElem (by omega)];rfl
 rw[<- hval,wrap_i64 (n:=(((a[2*k]'(by omega)).toNat:Nat):Int)) (by omega) (by omega),wrap_i64 (n:=(((a[2*k+1]'(by omega)).toNat:Nat):Int)) (by omega) (by omega),wrap_i64 (n:=_*_) (by omega) (by omega),wrap_i64 (by omega) (by omega)]
 congr 1
theorem mw (a:List UInt8)(ha:a.length=16)(p q:Nat)(hpq:p <=q)(hq:q <=8)(w:World):Cf fE #[adV a,vI (p:Int),vI (q:Int)] w
   (Ret λv w'=>v=vS (wrL (((gL a).drop p).take (q-p)))/\bW w w'):=by
 apply yB
 intro k1 w1 hk1 hw1
 have hB1:=(hw1▸af w _:bW w w1)
 have h1:ak w1 k1 aj (adC a):=ak.new hk1 hw1
 have hgl:=tG a
 have hbx:∀j,∀x∈((gL a).drop p).take j,x<65536:=λj x hx=>Ab a x (List.mem_of_mem_drop (List.mem_of_mem_take hx))
 refine⟨λm s i w'=>∃j:Nat,j <=q-p/\i=((p+j:Nat):Int)/\m=q-p-j/\s=wrL (((gL a).drop p).take j)/\bW w1 w',⟨_,0,by omega,rfl,rfl,rfl,Below.refl _ _⟩,?_⟩
 intro m s i
 refine aE.of ?_ _
 rintro w2 ⟨j,hj,rfl,rfl,rfl,hB2⟩
 have hl:=mF (hbx j)
 rw[List.length_take,List.length_drop]at hl
 refine ae.of (λh=>?_) (λh=>?_) <;> simp only[dTx,dFx]at h
 · have hlt:p+j<q:=by omega
   refine L5 (B:=λJ=>ae _ (_/\∀s19,s19=(_++[58])->J s19 w2) (J _ w2)) (if j=0 then[]else wrL (((gL a).drop p).take j)++[58]) (ae.of (λhx=>⟨fits (by simp;omega),?_⟩) (λhx=>⟨rfl,?_⟩)) ?_
   · rintro _ rfl
     simp only[gt_iff_lt,dTx]at hx
     exact⟨rfl,by rw[if_neg (by omega)]⟩
   · simp only[gt_iff_lt,dFx]at hx
     have:j=0:=by omega
     subst this
     rw[if_pos rfl];rfl
   · refine⟨_,bv.load0 (h1.below hB2) (by rw[bX,ha]),?_⟩
     refine av (px a ha (p+j) (by omega) w2) ?_
     rintro _ w3 ⟨rfl,hb3⟩
     have hB3:=ab hB2 hb3 hB2.size
     refine⟨_,rfl,?_⟩
     refine av (tN (sp a (p+j)) (Dg _ _) w3) ?_
     rintro _ w4 ⟨rfl,hb4⟩
     have hB4:=ab hB3 hb4 hB3.size
     have hl4:=uO (Dg a (p+j))
     refine⟨_,rfl,fits (by split <;> simp <;> omega),?_⟩
     rintro _ rfl
     refine⟨q-p-(j+1),by omega,j+1,by omega,by rw[wrap_i64 (by omega) (by omega)];omega,rfl,?_,hB4⟩
     have hjd:j<((gL a).drop p).length:=by rw[List.length_drop];omega
     rw[List.take_succ_eq_append_getElem hjd,I5,List.getElem_drop,Ed]
     by_cases hj0:j=0
     · subst hj0;rfl
     · rw[if_neg hj0,if_neg]
       intro e
       have:=congrArg List.length e
       rw[List.length_take]at this;simp at this;omega
 · have:j=q-p:=by omega
   subst this
   exact⟨rfl,ab hB1 hB2 hB1.size⟩
theorem ye (a:List UInt8)(ha:a.length=16)(w:World):Cf mf #[adV a] w (Ret λv w'=>v=vS (xm a)/\bW w w'):=by
 apply wM
 intro k1 w1 hk1 hw1
 have hB1:=(hw1▸af w _:bW w w1)
 have h1:ak w1 k1 aj (adC a):=ak.new hk1 hw1
 have ha16:(adC a).length=16:=by rw[bX,ha]
 have hgl:=tG a
 obtain⟨z1,z2,z3⟩:=zE (HS a)
 have ht:xm a=if(ci (zsA a)).2<2 then wrL (gL a)else wrL ((gL a).take (ci (zsA a)).1)++[58,58]++wrL ((gL a).drop ((ci (zsA a)).1+(ci (zsA a)).2)):=rfl
 refine⟨λm i w'=>∃L:Nat,1 <=L/\L <=8/\i=(L:Int)/\m=L/\(∀L' A,L<L'->A+L' <=8->HW (zsA a) A L'=false)/\bW w1 w',⟨_,8,by omega,by omega,rfl,rfl,λL' A h1 h2=>by omega,Below.refl _ _⟩,?_⟩
 intro m i
 refine aE.of ?_ _
 rintro w2 ⟨L,hL1,hL8,rfl,hm,hlong,hB2⟩
 obtain rfl:L=m:=hm.symm
 refine ae.of (λh=>?_) (λh=>?_) <;> simp only[ge_iff_le,dTx,dFx]at h
 · have hL2:2 <=L:=by omega
   refine⟨λm i w'=>∃A:Nat,A+L <=9/\i=(A:Int)/\m=9-A/\(∀A',A'<A->HW (zsA a) A' L=false)/\bW w1 w',⟨_,0,by omega,rfl,rfl,λA' h=>by omega,hB2⟩,?_⟩
   intro m i
   refine aE.of ?_ _
   rintro w3 ⟨A,hA,rfl,rfl,hearly,hB3⟩
   have eAL:i64.wrap ((A:Int)+(L:Int))=((A+L:Nat):Int):=by rw[wrap_i64 (by omega) (by omega)];omega
   try dsimp only
   rw[eAL]
   refine ae.of (λh2=>?_) (λh2=>?_) <;> simp only[dTx,dFx]at h2
   · have hAL:A+L <=8:=by omega
     refine⟨λm b i w'=>∃j:Nat,j <=L/\i=((A+j:Nat):Int)/\m=L-j/\b=HW (zsA a) A j/\bW w1 w',⟨_,0,by omega,rfl,rfl,rfl,hB3⟩,?_⟩
     intro m b i
     refine aE.of ?_ _
     rintro w4 ⟨j,hj,rfl,rfl,rfl,hB4⟩
     have ew:i64.wrap (((A+j:Nat):Int)+1)=((A+(j+1):Nat):Int):=by rw[wrap_i64 (by omega) (by omega)];omega
     try dsimp only
     rw[ew]
     refine ae.of (λh3=>?_) (λh3=>?_) <;> simp only[dTx,dFx]at h3
     · have hjL:j<L:=by omega
       refine ae.of (λh4=>?_) (λh4=>?_)
       · refine⟨_,bv.load0 (h1.below hB4) ha16,?_⟩
         refine av (px a ha (A+j) (by omega) w4) ?_
         rintro _ w5 ⟨rfl,hb5⟩
         refine⟨_,rfl,L-(j+1),by omega,j+1,by omega,rfl,rfl,?_,ab hB4 hb5 hB4.size⟩
         rw[Bz,h4,Bool.true_and,KE a (by omega),Bool.eq_iff_iff]
         simp
       · exact⟨L-(j+1),by omega,j+1,by omega,rfl,rfl,by rw[Bz,h4,Bool.false_and],hB4⟩
     · have:j=L:=by omega
       subst this
       refine ae.of (λh4=>?_) (λh4=>?_)
       · have hu:=z3 j A hL2 hAL h4
         have hAz:j=(ci (zsA a)).2/\A=(ci (zsA a)).1:=by
           rcases hu with hu|⟨hu1,hu2⟩
           · exfalso
             have:=z2 (by omega)
             rw[hlong _ _ hu z1]at this;cases this
           · refine⟨hu1,?_⟩
             rcases Nat.lt_or_ge (ci (zsA a)).1 A with hc|hc
             · exfalso
               have:=z2 (by omega)
               rw[<- hu1,hearly _ hc]at this;cases this
             · omega
         have l1:=mF (l:=(gL a).take A) λx hx=>Ab a x (List.mem_of_mem_take hx)
         have l2:=mF (l:=(gL a).drop (A+j)) λx hx=>Ab a x (List.mem_of_mem_drop hx)
         rw[List.length_take]at l1
         rw[List.length_drop]at l2
         have hp1:∀u,bW w4 u->Cf fE #[adV a,vI 0,vI (A:Int)] u λe w'=>e=.returned (vS (wrL ((gL a).take A)))/\Below w4.heap.size u w':=λu hu=>by
           have:=mw a ha 0 A (by omega) (by omega) u
           rw[List.drop_zero,Nat.sub_zero]at this
           exact j3 this hu
         have hp2:∀u,bW w4 u->Cf fE #[adV a,vI ((A+j:Nat):Int),vI 8] u λe w'=>e=.returned (vS (wrL ((gL a).drop (A+j))))/\Below w4.heap.size u w':=λu hu=>by
           have:=mw a ha (A+j) 8 (by omega) (by omega) u
           rw[List.take_of_length_le (by rw[List.length_drop];omega)]at this
           exact j3 this hu
         refine⟨_,λu hu=>bv.load0 ((h1.below hB4).below hu) ha16,_,hp1,fits (by simp;omega),?_⟩
         rintro _ rfl
         refine⟨_,λu hu=>bv.load0 ((h1.below hB4).below hu) ha16,_,hp2,fits (by simp;omega),?_⟩
         rintro _ rfl
         intro wq hwq
         have hq:=ab hB4 hwq hB4.size
         refine⟨?_,ab hB1 hq hB1.size⟩
         rw[ht,if_neg (by omega),<- hAz.1,<- hAz.2]
       · refine⟨9-(A+1),by omega,A+1,by omega,by rw[wrap_i64 (by omega) (by omega)];omega,rfl,λA' hA'=>?_,hB4⟩
         by_cases e:A'=A
         · subst e;exact h4
         · exact hearly A' (by omega)
   · refine⟨L-1,by omega,L-1,by omega,by omega,by rw[wrap_i64 (by omega) (by omega)];omega,rfl,λL' A' hl ha'=>?_,hB3⟩
     by_cases e:L'=L
     · subst e;exact hearly A' (by omega)
     · exact hlong L' A' (by omega) ha'
 · refine⟨_,bv.load0 (h1.below hB2) ha16,?_⟩
   have:=mw a ha 0 8 (by omega) (by omega) w2
   rw[List.drop_zero,List.take_of_length_le (by omega)]at this
   refine av this ?_
   rintro _ w5 ⟨rfl,hb5⟩
   have hq:=ab hB2 hb5 hB2.size
   refine⟨_,rfl,?_,ab hB1 hq hB1.size⟩
   rw[ht,if_pos]
   refine Decidable.byContradiction λhc=>?_
   have:=z2 (by omega)
   rw[hlong _ _ (by omega) z1]at this;cases this
def eqV (P:Program):Nat->TypeId->Value->Value->Option Bool
 | 0,_,_,_=>none
 | d+1,t,x,y=>match P.underlying t,x,y with
   | some .bool,.bool a,.bool b=>some (a==b)
   | some (.int _),.int k a,.int k' b=>if k=k' then some (a==b)else none
   | some .string,.string a,.string b=>some (toL a==toL b)
   | some (.struct fs),.agg xs,.agg ys=>if P.stoodInHeld t then none else
       fs.toList.foldr (λf r=>if f.name= "_" then r else match Cl P f.type xs f.offset,Cl P f.type ys f.offset with
         | some a,some b=>match eqV P d f.type a b,r with
           | some p,some q=>some (p&&q)
           | _,_=>none
         | _,_=>none) (some true)
   | some (.array n e),.agg xs,.agg ys=>match P.info? e with
     | some i=>(List.range n).foldr (λj r=>match Cl P e xs (j*i.size),Cl P e ys (j*i.size)with
         | some a,some b=>match eqV P d e a b,r with
           | some p,some q=>some (p&&q)
           | _,_=>none
         | _,_=>none) (some true)
     | none=>none
   | _,_,_=>none
theorem Gs {P:Program} :∀(d:Nat) (t:TypeId) (x y:Value) (b:Bool) (w:World),eqV P d t x y=some b->(Op.equalIn d t x y).run P w=.ok b w:=by
 intro d
 induction d with
 | zero=>intro t x y b w h;cases h
 | succ d ih=>
   intro t x y b w h
   unfold eqV at h
   split at h
   · rename_i hu;cases h
     exact run_equalIn_bool' w d t _ _ hu
   · rename_i k0 k a k' c hu
     split at h
     · rename_i e;subst e;cases h
       exact run_equalIn_int w d t _ _ _ _ hu
     · cases h
   · rename_i a c hu;cases h
     rw[run_equalIn_string w d t _ _ hu]
     rw[ByteArray.toList_eq,ByteArray.toList_eq];rfl
   · rename_i fs xs ys hu
     split at h
     · cases h
     · rename_i hp
       have hf:P.fieldsOf t=fs:=by unfold Program.fieldsOf;rw[hu]
       rw[run_equalIn_struct w d t xs ys (by rw[hf];exact hu) (by simpa using hp),hf]
       revert h
       generalize fs.toList=l
       induction l generalizing b with
       | nil=>intro h;cases h;rfl
       | cons f l ihl=>
         intro h
         rw[List.foldr_cons]at h
         unfold Op.eqFields
         by_cases hn:f.name= "_"
         · rw[if_pos hn]at h
           rw[if_neg (by simpa using hn)]
           exact ihl b h
         · rw[if_neg hn]at h
           rw[if_pos hn]
           split at h
           · rename_i a c ha hc
             split at h
             · rename_i p q hpq hq
               cases h
               have h1:=ih f.type a c p w hpq
               have h2:=ihl q hq
               simp only[Sem.run_bind,rq ha,rq hc,Result.andThen_ok,h1]
               cases p
               · simp
               · simpa using h2
             · cases h
           · cases h
   · rename_i n e xs ys hu
     split at h
     · rename_i i hi
       simp only[Op.equalIn,Sem.run_bind,bh hu,Result.andThen_ok,dM hi]
       rw[Std.Legacy.Range.forIn_eq_forIn_range']
       have er:List.range' 0 ([0:n]:Std.Legacy.Range).size 1=List.range n:=by
         rw[List.range_eq_range'];simp[Std.Legacy.Range.size]
       rw[er]
       clear er
       revert h
       generalize List.range n=l
       induction l generalizing b with
       | nil=>intro h;cases h;simp
       | cons j l ihl=>
         intro h
         rw[List.foldr_cons]at h
         split at h
         · rename_i a c ha hc
           split at h
           · rename_i p q hpq hq
             cases h
             have h1:=ih e a c p w hpq
             have h2:=ihl q hq
             simp only[List.forIn_cons,Sem.run_bind,rq ha,rq hc,Result.andThen_ok,h1]
             cases p
             · simp
             · simpa using h2
           · cases h
         · cases h
     · cases h
   · cases h
theorem Cu {P:Program}{t:TypeId}{x y:Operand}{xs ys:Array Value}{b:Bool}(hm:P.eqGuardType P.depth t=false)(h:eqV P 10000 t (.agg xs) (.agg ys)=some b)(w:World):
   ((do eqGuard .eql t x y (.agg xs) (.agg ys);binOp .eql t (.agg xs) (.agg ys):Sem Value)).run P w=.ok (.bool b) w:=by
 rw[Sem.run_bind,run_eqGuard_agg w .eql t x y xs ys hm,Result.andThen_ok,run_eql_struct,Gs _ _ _ _ _ w h,Result.andThen_ok]
theorem Lk {P:Program}{t:TypeId}{x y:Operand}{xs ys:Array Value}{b:Bool}(hm:P.eqGuardType P.depth t=false)(h:eqV P 10000 t (.agg xs) (.agg ys)=some b)(w:World):
   ((do eqGuard .neq t x y (.agg xs) (.agg ys);binOp .neq t (.agg xs) (.agg ys):Sem Value)).run P w=.ok (.bool (!b)) w:=by
 rw[Sem.run_bind,run_eqGuard_agg w .neq t x y xs ys hm,Result.andThen_ok,run_neq_struct,Gs _ _ _ _ _ w h,Result.andThen_ok]
structure Hst where
 kind:Int
 name:List UInt8
 ad:List UInt8
def Hst.cells (h:Hst):List Value:=vI h.kind::vS h.name::adC h.ad
def Hst.v (h:Hst):Value:=.agg h.cells.toArray
def gK:Hst:=⟨0,[],ad0⟩
def Hst.ok (h:Hst):Prop:=h.ad.length=16
theorem Hst.len {h:Hst}(o:h.ok):h.cells.length=18:=by unfold Hst.cells;rw[List.length_cons,List.length_cons,bX,o]
theorem Hst.one (h:Hst):yT h.cells:=aN rfl (aN rfl (dO _))
def KP:List UInt8->List UInt8->Bool
 | x::xs,y::ys=>((((x.toNat:Nat):Int))==((y.toNat:Nat):Int))&&KP xs ys
 | _,_=>true
theorem DT:∀(xs ys:List UInt8),xs.length=ys.length->(KP xs ys=true ↔ xs=ys)
 | [],[],_=>by simp[KP]
 | x::xs,[],h=>by simp at h
 | [],y::ys,h=>by simp at h
 | x::xs,y::ys,h=>by
   unfold KP
   rw[Bool.and_eq_true,DT xs ys (by simpa using h),beq_iff_eq]
   have e:((x.toNat:Nat):Int)=((y.toNat:Nat):Int) ↔ x=y:=⟨λh=>UInt8.toNat_inj.1 (by omega),λh=>by rw[h]⟩
   rw[e]
   simp
theorem zf {α:Type} :∀(a:List α),a.length=16->∃x0 x1 x2 x3 x4 x5 x6 x7 x8 x9 x10 x11 x12 x13 x14 x15,a=[x0,x1,x2,x3,x4,x5,x6,x7,x8,x9,x10,x11,x12,x13,x14,x15]
 | [x0,x1,x2,x3,x4,x5,x6,x7,x8,x9,x10,x11,x12,x13,x14,x15],_=>⟨x0,x1,x2,x3,x4,x5,x6,x7,x8,x9,x10,x11,x12,x13,x14,x15,rfl⟩
def lx (h g:Hst):Bool:=(h.kind==g.kind)&&((h.name==g.name)&&(KP h.ad g.ad&&true))
theorem cC {h g:Hst}(o:h.ok)(p:g.ok):lx h g=true ↔ h=g:=by
 unfold lx
 rw[Bool.and_eq_true,Bool.and_eq_true,Bool.and_true,DT _ _ (o.trans p.symm),beq_iff_eq,beq_iff_eq]
 cases h;cases g;simp
def iq (c:UInt8):Bool:=(decide (97 <=c.toNat)&&decide (c.toNat <=122)) || (decide (48 <=c.toNat)&&decide (c.toNat <=57)) || c==45 || c==95
def aW (s:List UInt8):Bool:=decide (1 <=s.length)&&decide (s.length <=63)&&s.all iq
def qy (L:List (List UInt8)):List UInt8:=L[L.length-1]?.getD []
def cL (s:List UInt8):Option Hst:=
 if s.head?=some 91 then(if s.getLast?=some 93 then(v6A ((s.drop 1).take (s.length-2))).map λa=>⟨3,[],a⟩ else none)
 else if cG (qy (bL 46 [] (gS s)))=true then(v4V s).map λa=>⟨2,[],a⟩
 else if s.length <=253/\(bL 46 [] (gS s)).all aW=true then some ⟨1,gS s,ad0⟩ else none
def GN:Option Hst->Value
 | some h=>.tuple #[h.v,.int .i64 0]
 | none=>.tuple #[gK.v,.int .i64 31]
theorem fm {s:List UInt8}{h:Hst}(e:cL s=some h):h.ok:=by
 unfold cL at e
 split at e
 · split at e
   · cases hv:v6A ((s.drop 1).take (s.length-2))with
     | none=>rw[hv]at e;cases e
     | some a=>rw[hv]at e;cases e;exact HL _ a hv
   · cases e
 split at e
 · cases hv:v4V s with
   | none=>rw[hv]at e;cases e
   | some a=>rw[hv]at e;cases e;exact KB _ a hv
 split at e
 · cases e;rfl
 · cases e
theorem fP (c:UInt8):∀(s cur:List UInt8),Lib.join (bL c cur s) [c]=cur++s
 | [],cur=>by simp[bL,Lib.join_one]
 | x::r,cur=>by
   show Lib.join (if x=c then cur::bL c [] r else bL c (cur++[x]) r) [c]=_
   split
   · rename_i h
     subst h
     have ih:=fP x r []
     have hne:=jL x r []
     cases hL:bL x [] r with
     | nil=>exact absurd hL hne
     | cons y l=>
       rw[hL,Lib.join_cons,List.nil_append]at ih
       rw[Lib.join_cons]
       have e:Lib.joinTail [x] (y::l)=[x]++y++Lib.joinTail [x] l:=by simp[Lib.joinTail]
       rw[e,List.append_assoc [x] y,ih];rfl
   · rw[fP c r (cur++[x])];simp
theorem EH (s:List UInt8)(c:UInt8):Lib.hasSuffix s [c]=decide (s.getLast?=some c)/\Lib.trimSuffix s [c]=if s.getLast?=some c then s.take (s.length-1)else s:=by
 have h1:Lib.hasSuffix s [c]=decide (s.getLast?=some c):=by
   unfold Lib.hasSuffix
   rw[Bool.eq_iff_iff,dTx,List.isSuffixOf_iff_suffix]
   constructor
   · rintro⟨t,rfl⟩;simp
   · intro h
     obtain⟨t,rfl⟩:=List.getLast?_eq_some_iff.1 h
     exact⟨t,rfl⟩
 refine⟨h1,?_⟩
 unfold Lib.trimSuffix
 rw[h1]
 by_cases h:s.getLast?=some c
 · rw[if_pos (decide_eq_true h),if_pos h];rfl
 · rw[if_neg (by rw[decide_eq_false h];decide),if_neg h]
theorem G1 {s:List UInt8}(h:s.head?=some 91):((s.drop 1).getLast?=some 93 ↔ s.getLast?=some 93):=by
 cases s with
 | nil=>cases h
 | cons x r=>
   obtain rfl:x=91:=Option.some.inj h
   cases r with
   | nil=>simp
   | cons y r=>simp[List.getLast?_cons_cons]
theorem ri {L:List (List UInt8)}(h:0<L.length):qy L=L[L.length-1]'(by omega):=by unfold qy;rw[List.getElem?_eq_getElem (by omega)];rfl
theorem aL:Whl prog ah 18:=⟨⟨_,_,DH⟩,by kernel_rfl⟩
theorem Gq {h g:Hst}(o:h.ok)(p:g.ok):eqV prog 10000 ah h.v g.v=some (lx h g):=by
 obtain⟨k,n,a⟩:=h
 obtain⟨k',n',a'⟩:=g
 obtain⟨x0,x1,x2,x3,x4,x5,x6,x7,x8,x9,x10,x11,x12,x13,x14,x15,rfl⟩:=zf a o
 obtain⟨y0,y1,y2,y3,y4,y5,y6,y7,y8,y9,y10,y11,y12,y13,y14,y15,rfl⟩:=zf a' p
 kernel_rfl
theorem BT:prog.eqGuardType prog.depth ah=false:=by kernel_rfl
theorem GO {h g:Hst}(o:h.ok)(p:g.ok){x y:Operand}(w:World):((do eqGuard .eql ah x y h.v g.v;binOp .eql ah h.v g.v:Sem Value)).run prog w=.ok (.bool (lx h g)) w:=
 Cu BT (Gq o p) w
theorem K9 {h g:Hst}(o:h.ok)(p:g.ok){x y:Operand}(w:World):((do eqGuard .neq ah x y h.v g.v;binOp .neq ah h.v g.v:Sem Value)).run prog w=.ok (.bool (!lx h g)) w:=
 Lk BT (Gq o p) w
theorem sy (k:Int){a:List UInt8}(o:a.length=16)(w:World):(Instr.build ah #[(0,vI k),(2,adV a)]).run prog w=.ok (Hst.v ⟨k,[],a⟩) w:=by
 obtain⟨x0,x1,x2,x3,x4,x5,x6,x7,x8,x9,x10,x11,x12,x13,x14,x15,rfl⟩:=zf a o
 kernel_rfl
theorem xU (c:UInt8)(w:World):Cf lY #[.int .u8 ((c.toNat:Nat):Int)] w (Ret λv w'=>v=.bool (iq c)/\w'=w):=by
 apply wA
 have e45:=pj c 45
 have e95:=pj c 95
 rw[show(((45:UInt8).toNat:Nat):Int)=45 from rfl]at e45
 rw[show(((95:UInt8).toNat:Nat):Int)=95 from rfl]at e95
 rw[e45,e95]
 unfold iq
 have lf:∀{b:Bool} {x:Bool},b=x->(.bool b:Value)=.bool x/\w=w:=λh=>⟨by rw[h],rfl⟩
 refine ae.of (λh=>?_) (λh=>?_) <;> simp only[ge_iff_le,dTx,dFx]at h
 · refine ae.of (λh2=>lf ?_) (λh2=>?_) <;> simp only[ge_iff_le,dTx,dFx]at h2
   · rw[decide_eq_true (p:=97 <=c.toNat) (by omega),decide_eq_true (p:=c.toNat <=122) (by omega)];rfl
   · rw[decide_eq_false (p:=c.toNat <=122) (by omega),Bool.and_false,Bool.false_or]
     refine ae.yes (by simp;omega) (ae.no (by simp;omega) ?_)
     rw[decide_eq_false (p:=c.toNat <=57) (by omega),Bool.and_false,Bool.false_or]
     exact ae.of (λh3=>lf (by rw[h3];rfl)) (λh3=>lf (by rw[h3,Bool.false_or]))
 · rw[decide_eq_false (p:=97 <=c.toNat) (by omega),Bool.false_and,Bool.false_or]
   refine ae.of (λh2=>?_) (λh2=>?_) <;> simp only[ge_iff_le,dTx,dFx]at h2
   · rw[decide_eq_true (p:=48 <=c.toNat) (by omega),Bool.true_and]
     refine ae.of (λh3=>lf ?_) (λh3=>?_) <;> simp only[ge_iff_le,dTx,dFx]at h3
     · rw[decide_eq_true (p:=c.toNat <=57) (by omega)];rfl
     · rw[decide_eq_false (p:=c.toNat <=57) (by omega),Bool.false_or]
       exact ae.of (λh4=>lf (by rw[h4];rfl)) (λh4=>lf (by rw[h4,Bool.false_or]))
   · rw[decide_eq_false (p:=48 <=c.toNat) (by omega),Bool.false_and,Bool.false_or]
     exact ae.of (λh4=>lf (by rw[h4];rfl)) (λh4=>lf (by rw[h4,Bool.false_or]))
theorem Af (s:List UInt8)(hs:s.length <=9223372036854775800)(w:World):Cf ns #[vS s] w (Ret λv w'=>v=.bool (aW s)/\bW w w'):=by
 apply yy
 refine ae.of (λh=>?_) (λh=>⟨?_,Below.refl _ _⟩)
 · have hne:s≠[]:=by simpa using h
   have h1:1 <=s.length:=List.length_pos_iff.2 hne
   refine ae.of (λh2=>?_) (λh2=>⟨?_,Below.refl _ _⟩) <;> simp only[dTx,dFx]at h2
   · obtain⟨w2,a,n,c,hr,ho,hb2,hf⟩:=oP (P:=prog) aB bG bA w s (by omega) NoB
     have hnn:=ho.len
     subst hnn
     refine⟨w2,a,_,c,hr,?_⟩
     have hl:aW s=s.all iq:=by unfold aW;rw[decide_eq_true h1,decide_eq_true (by omega),Bool.true_and,Bool.true_and]
     refine av (K:=λv w'=>v=.bool (!(s.all iq))/\w'=w2) ?_ ?_
     · apply dH
       refine av (K:=λv w'=>∃i:Int,v=vI i/\(decide (i >=0))=(!(s.all iq))/\w'=w2) ?_ ?_
       · apply dZ
         refine⟨λm i w'=>∃k:Nat,k <=s.length/\i=(k:Int)/\m=s.length-k/\(s.take k).all iq=true/\w'=w2,⟨_,0,by omega,rfl,rfl,rfl,rfl⟩,?_⟩
         intro m i
         refine aE.of ?_ _
         rintro w' ⟨k,hk,rfl,rfl,hno,hw'⟩
         rw[hw'];clear hw'
         refine ae.of (λh=>?_) (λh=>?_) <;> simp only[dTx,dFx]at h
         · have hlt:k<s.length:=by omega
           obtain⟨v,hv,hrep⟩:=ho.all.load1 (i:=(k:Int)) bA rfl rfl (by simpa using hlt)
           have:=tT hrep
           subst this
           simp only[Int.toNat_natCast]at hv
           refine⟨⟨⟨by omega,h⟩,ho.all.isSome hlt⟩,_,hv,?_⟩
           refine av (K:=λv w'=>v=.bool (!iq s[k])/\w'=w2) ?_ ?_
           · apply sR
             refine av (xU _ w2) ?_
             rintro _ w3 ⟨rfl,hw3⟩
             exact⟨_,rfl,rfl,hw3⟩
           rintro _ w3 ⟨rfl,hw3⟩
           rw[hw3]
           refine⟨_,rfl,ae.of (λh3=>?_) (λh3=>?_)⟩
           · refine⟨_,rfl,?_,rfl⟩
             have:s.all iq=false:=by
               rw[Bool.eq_false_iff]
               intro hc
               rw[List.all_eq_true.1 hc _ (List.getElem_mem hlt)]at h3;cases h3
             rw[this,decide_eq_true (by omega)];rfl
           · refine⟨s.length-(k+1),by omega,k+1,by omega,by rw[wrap_i64 (by omega) (by omega)];omega,rfl,?_,rfl⟩
             rw[List.take_succ_eq_append_getElem hlt,List.all_append,hno]
             simpa using h3
         · have:k=s.length:=by omega
           subst this
           rw[List.take_length]at hno
           exact⟨_,rfl,by rw[hno];decide,rfl⟩
       · rintro _ w3 ⟨i,rfl,hi,hw3⟩
         exact⟨_,rfl,by rw[hi],hw3⟩
     · rintro _ w3 ⟨rfl,hw3⟩
       rw[hw3]
       exact⟨_,rfl,by rw[hl,Bool.not_not],hb2⟩
   · unfold aW;rw[decide_eq_false (p:=s.length <=63) (by omega),Bool.and_false,Bool.false_and]
 · have hne:s=[]:=by simpa using h
   subst hne;rfl
theorem yi (s:List UInt8)(hs:s.length <=9223372036854775800)(w:World):Cf ml #[vS s] w (Ret λv w'=>v=.bool (aW s)/\w'=w):=by
 apply wS
 refine⟨λm i w'=>∃k:Nat,k <=s.length/\i=(k:Int)/\m=s.length-k/\(s.take k).all iq=true/\w'=w,⟨_,0,by omega,rfl,rfl,rfl,rfl⟩,?_⟩
 intro m i
 refine aE.of ?_ _
 rintro w' ⟨k,hk,rfl,rfl,hno,hw'⟩
 rw[hw'];clear hw'
 refine ae.of (λh=>?_) (λh=>?_) <;> simp only[dTx,dFx]at h
 · have hlt:k<s.length:=by omega
   rw[byte_at hlt]
   have e45:=pj s[k] 45
   have e95:=pj s[k] 95
   rw[show(((45:UInt8).toNat:Nat):Int)=45 from rfl]at e45
   rw[show(((95:UInt8).toNat:Nat):Int)=95 from rfl]at e95
   simp only[bne,e45,e95]
   have jf:iq s[k]=true->∃m':Nat,m'<s.length-k/\∃k2:Nat,k2 <=s.length/\i64.wrap ((k:Int)+1)=(k2:Int)/\m'=s.length-k2/\(s.take k2).all iq=true/\True:=λhc=>
     ⟨s.length-(k+1),by omega,k+1,by omega,by rw[wrap_i64 (by omega) (by omega)];omega,rfl,by rw[List.take_succ_eq_append_getElem hlt,List.all_append,hno];simp[hc],trivial⟩
   have bad:iq s[k]=false->(.bool false:Value)=.bool (aW s)/\True:=λhc=>⟨by
     have:s.all iq=false:=by
       rw[Bool.eq_false_iff]
       intro hx
       rw[List.all_eq_true.1 hx _ (List.getElem_mem hlt)]at hc;cases hc
     unfold aW;rw[this,Bool.and_false],trivial⟩
   refine⟨⟨by omega,h⟩,?_⟩
   generalize s[k]=c at*
   have tail: ¬ (97 <=c.toNat/\c.toNat <=122)-> ¬ (48 <=c.toNat/\c.toNat <=57)->ae (!(c==45)) (ae (!(c==95)) ((.bool false:Value)=.bool (aW s)/\True) (∃m':Nat,m'<s.length-k/\∃k2:Nat,k2 <=s.length/\i64.wrap ((k:Int)+1)=(k2:Int)/\m'=s.length-k2/\(s.take k2).all iq=true/\True)) (∃m':Nat,m'<s.length-k/\∃k2:Nat,k2 <=s.length/\i64.wrap ((k:Int)+1)=(k2:Int)/\m'=s.length-k2/\(s.take k2).all iq=true/\True):=λn1 n2=>by
     have d1:(decide (97 <=c.toNat)&&decide (c.toNat <=122))=false:=by rw[Bool.eq_false_iff];intro hc;simp at hc;exact n1 hc
     have d2:(decide (48 <=c.toNat)&&decide (c.toNat <=57))=false:=by rw[Bool.eq_false_iff];intro hc;simp at hc;exact n2 hc
     have hc:iq c=(c==45 || c==95):=by unfold iq;rw[d1,d2];simp
     rw[hc]at jf bad
     refine ae.of (λh4=>ae.of (λh5=>bad ?_) (λh5=>jf ?_)) (λh4=>jf ?_)
     · rw[Bool.not_eq_true']at h4 h5;rw[h4,h5];rfl
     · rw[Bool.not_eq_false']at h5;rw[h5];simp
     · rw[Bool.not_eq_false']at h4;rw[h4];simp
   refine ae.of (λh2=>?_) (λh2=>?_) <;> simp only[dTx,dFx]at h2
   · refine ae.of (λh3=>tail (by omega) ?_) (λh3=>?_) <;> simp only[gt_iff_lt,dTx,dFx]at h3
     · omega
     · refine ae.of (λh4=>tail (by omega) ?_) (λh4=>jf ?_) <;> simp only[gt_iff_lt,dTx,dFx]at h4
       · omega
       · unfold iq;rw[decide_eq_true (p:=48 <=c.toNat) (by omega),decide_eq_true (p:=c.toNat <=57) (by omega)];simp
   · refine ae.of (λh3=>?_) (λh3=>jf ?_) <;> simp only[gt_iff_lt,dTx,dFx]at h3
     · refine ae.no (by simp;omega) (ae.yes (by simp;omega) (tail (by omega) (by omega)))
     · unfold iq;rw[decide_eq_true (p:=97 <=c.toNat) (by omega),decide_eq_true (p:=c.toNat <=122) (by omega)];simp
 · have:k=s.length:=by omega
   subst this
   rw[List.take_length]at hno
   unfold aW
   rw[hno,Bool.and_true]
   refine ae.of (λh2=>⟨?_,rfl⟩) (λh2=>⟨?_,rfl⟩) <;> simp only[ge_iff_le,dTx,dFx]at h2
   · rw[decide_eq_true (p:=1 <=s.length) (by omega),Bool.true_and];congr 1;rw[Bool.eq_iff_iff];simp;omega
   · rw[decide_eq_false (p:=1 <=s.length) (by omega),Bool.false_and]
theorem ms (o:Option Hst):GN o=.tuple #[(o.getD gK).v,vI (if o.isSome then 0 else 31)]:=by cases o <;> rfl
theorem Ag {o:Option Hst}(h:∀x,o=some x->x.ok):(o.getD gK).ok:=by
 cases o with
 | none=>rfl
 | some x=>exact h x rfl
theorem jZ (k:Int)(a:List UInt8)(o:a.length=16)(b:Bool)(w:World):Cf gi #[vI k,adV a,.bool b] w (Ret λv w'=>v=GN (if b=true then some ⟨k,[],a⟩ else none)/\bW w w'):=by
 apply uq
 intro k4 w4 hk4 hw4
 have hB4:=(hw4▸af w _:bW w w4)
 have h4:ak w4 k4 aj (adC a):=ak.new hk4 hw4
 intro k6 w6 hk6 hw6
 have hb6:=(hw6▸af w4 _:bW w4 w6)
 have hB6:=ab hB4 hb6 hB4.size
 have h6:ak w6 k6 ah gK.cells:=ak.new hk6 hw6
 have hk:w.heap.size <=k6:=by have:=hB4.size;omega
 refine ae.of (λh=>?_) (λh=>?_)
 · have hb:b=false:=by simpa using h
   rw[hb]
   exact aL.fin (K:=λvr wy=>(.tuple #[vr,vI 31]:Value)=GN (if false=true then some ⟨k,[],a⟩ else none)/\bW w wy) (cs:=gK.cells) rfl (Hst.one _) h6 rfl hB6 hk λwy hb=>⟨rfl,hb⟩
 · have hb:b=true:=by simpa using h
   rw[hb]
   refine⟨_,bv.load0 (h4.below hb6) (by rw[bX,o]),_,sy k o w6,?_⟩
   exact aL.fin (K:=λvr wy=>(.tuple #[vr,vI 0]:Value)=GN (if true=true then some ⟨k,[],a⟩ else none)/\bW w wy) (cs:=Hst.cells ⟨k,[],a⟩) (Hst.len o) (Hst.one _) h6 rfl hB6 hk λwy hb=>⟨rfl,hb⟩
theorem G0 {w:World}{A:Bl}{a:Option Addr}{n c:Nat}{L:List (List UInt8)}(hs:Sl tS w iv a n c L)(hl:∀x∈L,x.length <=9223372036854775800)(hL:L.length <=9223372036854775800):
   Cf aU #[.slice a n c,.func (.func bY) #[] #[]] w (Ret λv w'=>v=.bool (!(L.all aW))/\bW w w'):=by
 have hn:=hs.len
 apply cW
 refine av (K:=λv w'=>∃i:Int,v=vI i/\(decide (i >=0))=(!(L.all aW))/\bW w w') ?_ ?_
 · apply dw
   refine⟨λm i w'=>∃k:Nat,k <=L.length/\i=(k:Int)/\m=L.length-k/\(L.take k).all aW=true/\bW w w',⟨_,0,by omega,rfl,rfl,rfl,Below.refl _ _⟩,?_⟩
   intro m i
   refine aE.of ?_ _
   rintro w2 ⟨k,hk,rfl,rfl,hno,hB2⟩
   refine ae.of (λh=>?_) (λh=>?_) <;> simp only[dTx,dFx]at h
   · have hlt:k<L.length:=by omega
     have hs2:=hs.below hB2
     refine⟨⟨⟨by omega,h⟩,hs2.isSome (by omega)⟩,_,hs2.text aB hlt,?_⟩
     refine av (K:=λv w'=>v=.bool (!aW L[k])/\bW w2 w') ?_ ?_
     · apply sQ
       refine av (Af _ (hl _ (List.getElem_mem hlt)) w2) ?_
       rintro _ w3 ⟨rfl,hb3⟩
       exact⟨_,rfl,rfl,hb3⟩
     rintro _ w3 ⟨rfl,hb3⟩
     have hB3:=ab hB2 hb3 hB2.size
     refine⟨_,rfl,ae.of (λh3=>?_) (λh3=>?_)⟩
     · refine⟨_,rfl,?_,hB3⟩
       have:L.all aW=false:=by
         rw[Bool.eq_false_iff]
         intro hc
         rw[List.all_eq_true.1 hc _ (List.getElem_mem hlt)]at h3;cases h3
       rw[this,decide_eq_true (by omega)];rfl
     · refine⟨L.length-(k+1),by omega,k+1,by omega,by rw[wrap_i64 (by omega) (by omega)];omega,rfl,?_,hB3⟩
       rw[List.take_succ_eq_append_getElem hlt,List.all_append,hno]
       simpa using h3
   · have:k=L.length:=by omega
     subst this
     rw[List.take_length]at hno
     exact⟨_,rfl,by rw[hno];decide,hB2⟩
 · rintro _ w3 ⟨i,rfl,hi,hB3⟩
   exact⟨_,rfl,by rw[hi],hB3⟩
def oO (s:List UInt8)(w:World)(v:Value)(w':World):Prop:=v=GN (cL s)/\bW w w'
theorem jB (s:List UInt8)(hs:s.length <=2000000000)(w:World)(he:Env w):Cf iZ #[vS s] w (Ret (oO s w)):=by
 apply yw
 intro k2 w2 hk2 hw2
 have hB2:=(hw2▸af w _:bW w w2)
 have h2:ak w2 k2 ah gK.cells:=ak.new hk2 hw2
 have hk2w:w.heap.size <=k2:=by omega
 refine av (Gj s 91 w2) ?_
 rintro _ w3 ⟨rfl,hw3⟩
 rw[hw3];clear hw3
 refine⟨_,_,rfl,?_⟩
 have fin:∀{wx:World} (o:Option Hst),(∀x,o=some x->x.ok)->cL s=o->ak wx k2 ah gK.cells->bW w wx->
     ∃wy,(Instr.storeAt ah (.pointer (some ⟨k2,0,none⟩)) (o.getD gK).v).run prog wx=.ok () wy/\∃vr:Value,(aZ ah (.pointer (some ⟨k2,0,none⟩))).run prog wy=.ok vr wy/\oO s w (.tuple #[vr,vI (if o.isSome then 0 else 31)]) wy:=fun{wx} o ho hv h2x hBx=>
   aL.fin (K:=λvr wy=>oO s w (.tuple #[vr,vI (if o.isSome then 0 else 31)]) wy) (cs:=(o.getD gK).cells) (Hst.len (Ag ho)) (Hst.one _) h2x rfl hBx hk2w λwy hb=>⟨by rw[hv,ms];rfl,hb⟩
 by_cases h91:s.head?=some 91
 · rw[if_pos h91,decide_eq_true h91]
   refine ae.yes rfl ?_
   have hv:cL s=if s.getLast?=some 93 then(v6A ((s.drop 1).take (s.length-2))).map λa=>⟨3,[],a⟩ else none:=by unfold cL;rw[if_pos h91]
   have hlt:=G1 h91
   refine(Tryz.strings_CutSuffix (mkS (s.drop 1)) (mkS [93]) w2 (by show(s.drop 1).length <=_;rw[List.length_drop];omega)).mono ?_
   rintro _ w3 ⟨rfl,hw3⟩
   rw[hw3];clear hw3
   have hsb:=EH (s.drop 1) 93
   have e1:(mkS (s.drop 1)).data.toList=s.drop 1:=rfl
   have e2:(mkS [93]).data.toList=[93]:=rfl
   rw[e1,e2,hsb.1,hsb.2]
   obtain⟨inner,hin⟩:∃inner,inner=if(s.drop 1).getLast?=some 93 then(s.drop 1).take ((s.drop 1).length-1)else s.drop 1:=⟨_,rfl⟩
   rw[<- hin]
   have hil:inner.length <=s.length:=by rw[hin];split <;> simp <;> omega
   refine⟨inner,_,rfl,?_⟩
   refine av (ES inner (by omega) w2 (he.step hB2)) ?_
   rintro _ w4 ⟨rfl,hb4⟩
   have hB4:=ab hB2 hb4 hB2.size
   refine⟨_,_,by rw[yU],?_⟩
   have hal:=tA (HL inner)
   refine bv.new (zs:=adC ad0) (cs:=adC ((v6A inner).getD ad0)) rfl hal (dO _) w4 λk8 w8 hk8 h8 hb8=>?_
   have hB8:=ab hB4 hb8 hB4.size
   have h28:=(h2.below hb4).below hb8
   refine⟨_,bv.load0 h8 hal,?_⟩
   have hvo:cL s=if(v6A inner).isSome=true/\(s.drop 1).getLast?=some 93 then some ⟨3,[],(v6A inner).getD ad0⟩ else none:=by
     rw[hv]
     by_cases hc:s.getLast?=some 93
     · have hc':=hlt.2 hc
       rw[if_pos hc,if_pos hc']at*
       rw[List.length_drop,show s.length-1-1=s.length-2 by omega]at hin
       rw[<- hin]
       cases v6A inner with
       | none=>rw[if_neg (λh=>by cases h.1)];rfl
       | some x=>rw[if_pos ⟨rfl,hc'⟩];rfl
     · rw[if_neg hc,if_neg (λh=>hc (hlt.1 h.2))]
   refine ae.of (λhs1=>?_) (λhs1=>?_)
   · refine av (jZ 3 _ (by rw[<- bX];exact hal) _ w8) ?_
     rintro _ w9 ⟨rfl,hb9⟩
     have hB9:=ab hB8 hb9 hB8.size
     refine⟨_,_,by rw[ms],?_⟩
     refine fin _ (λx hx=>?_) ?_ (h28.below hb9) hB9
     · split at hx
       · cases hx;show((v6A inner).getD ad0).length=16;rw[<- bX];exact hal
       · cases hx
     · rw[hvo,hs1]
       by_cases hc:(s.drop 1).getLast?=some 93
       · rw[if_pos ⟨rfl,hc⟩,if_pos (by simpa using hc)]
       · rw[if_neg (λh=>hc h.2),if_neg (by simpa using hc)]
   · refine av (jZ 3 _ (by rw[<- bX];exact hal) _ w8) ?_
     rintro _ w9 ⟨rfl,hb9⟩
     have hB9:=ab hB8 hb9 hB8.size
     refine⟨_,_,by rw[ms],?_⟩
     refine fin _ (λx hx=>by cases hx) ?_ (h28.below hb9) hB9
     rw[hvo,hs1,if_neg (λh=>by cases h.1)];rfl
 · rw[if_neg h91,decide_eq_false h91]
   refine ae.no rfl ?_
   have hv:cL s=if cG (qy (bL 46 [] (gS s)))=true then(v4V s).map λa=>⟨2,[],a⟩ else if s.length <=253/\(bL 46 [] (gS s)).all aW=true then some ⟨1,gS s,ad0⟩ else none:=by unfold cL;rw[if_neg h91]
   refine av (pt s (by omega) w2) ?_
   rintro _ w3 ⟨rfl,hb3⟩
   have hB3:=ab hB2 hb3 hB2.size
   refine⟨_,rfl,?_⟩
   have ll:(gS s).length=s.length:=by simp[gS]
   refine av (iV (gS s) 46 (by omega) w3 (he.step hB3)) ?_
   rintro _ w4 ⟨a,n,c,rfl,ho,hf,hb4⟩
   have hB4:=ab hB3 hb4 hB3.size
   have h24:=(h2.below hb3).below hb4
   have hn:=ho.len
   subst hn
   have hlens:∀x∈bL 46 [] (gS s),x.length <=s.length:=λx hx=>by have:=js 46 (gS s) [] x hx;simp[ll]at this;omega
   have hcn:=gG 46 (gS s) []
   have hnz:0<(bL 46 [] (gS s)).length:=List.length_pos_iff.2 (jL 46 (gS s) [])
   have hjoin:=fP 46 (gS s) []
   refine⟨_,_,_,rfl,?_⟩
   generalize bL 46 [] (gS s)=L at*
   have ei:i64.wrap (((L.length:Nat):Int)-1)=((L.length-1:Nat):Int):=by rw[wrap_i64 (by omega) (by omega)];omega
   try dsimp only
   rw[ei]
   refine⟨⟨⟨by omega,by omega⟩,ho.all.isSome hnz⟩,_,ho.all.text aB (by omega),?_⟩
   rw[<- ri hnz]
   have hll:(qy L).length <=s.length:=by rw[ri hnz];exact hlens _ (List.getElem_mem _)
   refine av (j1 (qy L) (by omega) w4) ?_
   rintro _ w5 ⟨rfl,hb5⟩
   have hB5:=ab hB4 hb5 hB4.size
   have h25:=h24.below hb5
   refine⟨_,rfl,ae.of (λhd=>?_) (λhd=>?_)⟩
   · rw[if_pos hd]at hv
     refine av (ER s (by omega) w5 (he.step hB5)) ?_
     rintro _ w6 ⟨rfl,hb6⟩
     have hB6:=ab hB5 hb6 hB5.size
     refine⟨_,_,by rw[yU],?_⟩
     have hal:=tA (KB s)
     refine bv.new (zs:=adC ad0) (cs:=adC ((v4V s).getD ad0)) rfl hal (dO _) w6 λk8 w8 hk8 h8 hb8=>?_
     have hB8:=ab hB6 hb8 hB6.size
     have h28:=(h25.below hb6).below hb8
     refine⟨_,bv.load0 h8 hal,?_⟩
     refine av (jZ 2 _ (by rw[<- bX];exact hal) _ w8) ?_
     rintro _ w9 ⟨rfl,hb9⟩
     have hB9:=ab hB8 hb9 hB8.size
     refine⟨_,_,by rw[ms],?_⟩
     refine fin _ (λx hx=>?_) ?_ (h28.below hb9) hB9
     · split at hx
       · cases hx;show((v4V s).getD ad0).length=16;rw[<- bX];exact hal
       · cases hx
     · rw[hv]
       cases v4V s <;> rfl
   · rw[if_neg (by rw[hd];decide)]at hv
     have hbad: ¬ (s.length <=253/\L.all aW=true)->cL s=none:=λh=>by rw[hv,if_neg h]
     refine iA (λw'=>(s.length <=253/\L.all aW=true)/\bW w5 w') ?_ ?_
     · refine KU (λb w'=>b=(!decide (s.length <=253/\L.all aW=true))/\bW w5 w') ?_ ?_
       · refine ae.of (λh=>⟨?_,Below.refl _ _⟩) (λh=>?_) <;> simp only[gt_iff_lt,dTx,dFx]at h
         · rw[decide_eq_false (λhc=>by have:=hc.1;omega)];rfl
         · refine av (G0 (A:=iv) (ho.below hb5).all (λx hx=>by have:=hlens x hx;omega) (by omega)) ?_
           rintro _ w6 ⟨rfl,hb6⟩
           refine⟨_,rfl,?_,hb6⟩
           have h253:s.length <=253:=by omega
           congr 1
           rw[Bool.eq_iff_iff,dTx]
           exact⟨λh=>⟨h253,h⟩,λh=>h.2⟩
       · rintro b w6 ⟨rfl,hb6⟩
         refine ae.of (λh=>?_) (λh=>⟨by rw[Bool.not_eq_false']at h;exact of_decide_eq_true h,hb6⟩)
         exact fin none (λx hx=>by cases hx) (hbad (by rw[Bool.not_eq_true']at h;exact of_decide_eq_false h)) (h25.below hb6) (ab hB5 hb6 hB5.size)
     · rintro w6 ⟨hgood,hb6⟩
       have hB6:=ab hB5 hb6 hB5.size
       refine av (Ao ((ho.below hb5).below hb6).all [46] (by omega) (by rw[hjoin];simp[ll];omega)) ?_
       rintro _ w7 ⟨rfl,hb7⟩
       have hB7:=ab hB6 hb7 hB6.size
       rw[hjoin,List.nil_append]
       refine⟨_,rfl,?_⟩
       exact fin (some ⟨1,gS s,ad0⟩) (λx hx=>by cases hx;rfl) (by rw[hv,if_pos hgood]) ((h25.below hb6).below hb7) hB7
def dG (h:Hst):List UInt8:=if h.kind=1 then h.name else if h.kind=2 then xk h.ad else if h.kind=3 then[91]++xm h.ad++[93]else[]
def aV (h:Hst):Bool:=match cL (dG h)with|some g=>lx g h|none=>false
def az (h:Hst):List (List UInt8):=if h.kind=1/\aV h=true then bL 46 [] h.name else[]
theorem HD {a:List UInt8}(h:a.length=16):(xk a).length <=88:=by
 have:=vU ((a.drop 12).map λc=>BN c.toNat) 46 21 (λx hx=>by
   obtain⟨c,_,rfl⟩:=List.mem_map.1 hx
   have:=mD c
   exact lQ (by omega))
 rw[List.length_map,List.length_drop,h]at this
 exact this
theorem xp (a:List UInt8):(xm a).length <=90:=by
 have hgl:=tG a
 unfold xm
 split
 · have:=mF (Ab a);omega
 · have l1:=mF (l:=(gL a).take (ci (zsA a)).1) λx hx=>Ab a x (List.mem_of_mem_take hx)
   have l2:=mF (l:=(gL a).drop ((ci (zsA a)).1+(ci (zsA a)).2)) λx hx=>Ab a x (List.mem_of_mem_drop hx)
   rw[List.length_take]at l1
   rw[List.length_drop]at l2
   simp;omega
theorem rc {h:Hst}(o:h.ok):(dG h).length <=h.name.length+100:=by
 have h4:=HD o
 have h6:=xp h.ad
 unfold dG
 split
 · omega
 split
 · omega
 split
 · simp;omega
 · simp
theorem Io {h:Hst}(j:Nat):h.cells[2+j]? =(adC h.ad)[j]? :=by rw[Nat.add_comm];rfl
theorem Ei {h:Hst}(o:h.ok){w:World}{k:Nat}{T:TypeId}(ha:ak w k T h.cells):(Instr.loadAt aj (.pointer (some ⟨k,2,none⟩))).run prog w=.ok (adV h.ad) w:=
 bv.load ha (i:=2) (us:=adC h.ad) (by rw[bX,o]) λj _=>Io j
theorem yg (s:List UInt8)(hs:s.length <=90000000)(w:World):Cf mi #[vS s] w (Ret (oO s w)):=by
 apply wP
 intro k2 w2 hk2 hw2
 have hB2:=(hw2▸af w _:bW w w2)
 have h2:ak w2 k2 ah gK.cells:=ak.new hk2 hw2
 have hk2w:w.heap.size <=k2:=by omega
 have fin:∀{wx:World} (o:Option Hst),(∀x,o=some x->x.ok)->cL s=o->ak wx k2 ah gK.cells->bW w wx->
     ∃wy,(Instr.storeAt ah (.pointer (some ⟨k2,0,none⟩)) (o.getD gK).v).run prog wx=.ok () wy/\∃vr:Value,(aZ ah (.pointer (some ⟨k2,0,none⟩))).run prog wy=.ok vr wy/\oO s w (.tuple #[vr,vI (if o.isSome then 0 else 31)]) wy:=fun{wx} o ho hv h2x hBx=>
   aL.fin (K:=λvr wy=>oO s w (.tuple #[vr,vI (if o.isSome then 0 else 31)]) wy) (cs:=(o.getD gK).cells) (Hst.len (Ag ho)) (Hst.one _) h2x rfl hBx hk2w λwy hb=>⟨by rw[hv,ms];rfl,hb⟩
 have bad:=fun{wx:World} (hv:cL s=none) (h2x:ak wx k2 ah gK.cells) (hBx:bW w wx)=>fin none (λx hx=>by cases hx) hv h2x hBx
 refine xT (w:=w2) (¬ s.head?=some 91) ?_ (λh91=>?_)
 · refine⟨λb w'=>w'=w2/\b=decide (s.head?=some 91),ae.of (λh=>⟨⟨by decide,by simpa using h⟩,rfl,?_⟩) (λh=>⟨rfl,?_⟩),λb=>aE.of ?_ _⟩
   · have hl:0<s.length:=by simpa using h
     have hb:=byte_at (s:=s) (k:=0) hl
     rw[show((0:Nat):Int)=0 from rfl]at hb
     have hu:=pj s[0] 91
     rw[show(((91:UInt8).toNat:Nat):Int)=91 from rfl]at hu
     rw[hb,hu,List.head?_eq_getElem?,List.getElem?_eq_getElem hl,Bool.eq_iff_iff]
     simp
   · have hl:s=[]:=by
       simp only[gt_iff_lt,dFx]at h
       exact List.length_eq_zero_iff.1 (by omega)
     subst hl;rfl
   · rintro wj ⟨hwj,hb⟩
     rw[hwj,hb];clear hwj hb
     refine ae.of (λh=>?_) (λh=>⟨rfl,of_decide_eq_false h⟩)
     have h91:s.head?=some 91:=of_decide_eq_true h
     have hne:s≠[]:=by rintro rfl;cases h91
     have hl:0<s.length:=List.length_pos_iff.2 hne
     have hv:cL s=if s.getLast?=some 93 then(v6A ((s.drop 1).take (s.length-2))).map λa=>⟨3,[],a⟩ else none:=by unfold cL;rw[if_pos h91]
     have ei:i64.wrap (((s.length:Nat):Int)-1)=((s.length-1:Nat):Int):=by rw[wrap_i64 (by omega) (by omega)];omega
     try dsimp only
     rw[ei,byte_at (show s.length-1<s.length by omega)]
     have hgl:s.getLast?=some (s[s.length-1]'(by omega)):=by rw[List.getLast?_eq_getElem?,List.getElem?_eq_getElem (by omega)]
     have hu:=pj (s[s.length-1]'(by omega)) 93
     rw[show(((93:UInt8).toNat:Nat):Int)=93 from rfl]at hu
     refine⟨⟨by omega,by omega⟩,?_⟩
     simp only[bne,hu]
     refine ae.of (λhc=>bad ?_ h2 hB2) (λhc=>?_)
     · rw[hv,if_neg]
       rw[hgl]
       intro e
       rw[Option.some.inj e]at hc;simp at hc
     · have hlast:s.getLast?=some 93:=by rw[hgl];simpa using hc
       have hl2:2 <=s.length:=by
         refine Decidable.byContradiction λhc2=>?_
         have e1:s.length=1:=by omega
         obtain⟨x,rfl⟩:=List.length_eq_one_iff.1 e1
         rw[Option.some.inj (show some x=some 91 from h91)]at hlast
         cases hlast
       rw[if_pos hlast]at hv
       simp only[Int.toNat_natCast]
       refine⟨⟨⟨by omega,by omega⟩,by decide,by omega⟩,?_⟩
       intro s32 e32
       have e33:s32=(s.drop 1).take (s.length-2):=by
         rw[e32,show(Int.toNat 1)=1 from rfl,List.drop_take,show s.length-1-1=s.length-2 by omega]
       rw[<- e33]at hv
       have l32:s32.length <=s.length:=by rw[e33];simp;omega
       refine av (Dw s32 (by omega) w2) ?_
       rintro _ w4 ⟨rfl,hb4⟩
       have hB4:=ab hB2 hb4 hB2.size
       refine⟨_,_,by rw[yU],?_⟩
       have hal:=tA (HL s32)
       refine bv.new (zs:=adC ad0) (cs:=adC ((v6A s32).getD ad0)) rfl hal (dO _) w4 λk8 w8 hk8 h8 hb8=>?_
       have hB8:=ab hB4 hb8 hB4.size
       have h28:=(h2.below hb4).below hb8
       cases ho:v6A s32 with
       | none=>
         exact ae.yes rfl (bad (by rw[hv,ho];rfl) h28 hB8)
       | some x=>
         rw[ho]at h8 hal
         refine ae.no rfl ⟨_,bv.load0 h8 hal,_,sy 3 (by rw[<- bX];exact hal) w8,?_⟩
         exact fin (some ⟨3,[],x⟩) (λy hy=>by cases hy;show x.length=16;rw[<- bX];exact hal) (by rw[hv,ho];rfl) h28 hB8
 · have hv:cL s=if cG (qy (bL 46 [] (gS s)))=true then(v4V s).map λa=>⟨2,[],a⟩ else if s.length <=253/\(bL 46 [] (gS s)).all aW=true then some ⟨1,gS s,ad0⟩ else none:=by unfold cL;rw[if_neg h91]
   refine av (yb s (by omega) w2) ?_
   rintro _ w3 ⟨rfl,hb3⟩
   have hB3:=ab hB2 hb3 hB2.size
   refine⟨_,rfl,?_⟩
   have ll:(gS s).length=s.length:=by simp[gS]
   refine av (iW (gS s) 46 (by omega) w3) ?_
   rintro _ w4 ⟨a,n,c,rfl,ho,hf,hb4⟩
   have hB4:=ab hB3 hb4 hB3.size
   have h24:=(h2.below hb3).below hb4
   have hn:=ho.len
   subst hn
   have hlens:∀x∈bL 46 [] (gS s),x.length <=s.length:=λx hx=>by have:=js 46 (gS s) [] x hx;simp[ll]at this;omega
   have hcn:=gG 46 (gS s) []
   have hnz:0<(bL 46 [] (gS s)).length:=List.length_pos_iff.2 (jL 46 (gS s) [])
   refine⟨_,_,_,rfl,?_⟩
   generalize bL 46 [] (gS s)=L at*
   have ei:i64.wrap (((L.length:Nat):Int)-1)=((L.length-1:Nat):Int):=by rw[wrap_i64 (by omega) (by omega)];omega
   try dsimp only
   rw[ei]
   refine⟨⟨⟨by omega,by omega⟩,ho.all.isSome hnz⟩,_,ho.all.text aB (by omega),?_⟩
   rw[<- ri hnz]
   have hll:(qy L).length <=s.length:=by rw[ri hnz];exact hlens _ (List.getElem_mem _)
   refine av (nV (qy L) (by omega) w4) ?_
   rintro _ w5 ⟨rfl,hw5⟩
   rw[hw5];clear hw5
   refine⟨_,rfl,ae.of (λhd=>?_) (λhd=>?_)⟩
   · rw[if_pos hd]at hv
     refine av (Dv s (by omega) w4) ?_
     rintro _ w6 ⟨rfl,hb6⟩
     have hB6:=ab hB4 hb6 hB4.size
     refine⟨_,_,by rw[yU],?_⟩
     have hal:=tA (KB s)
     refine bv.new (zs:=adC ad0) (cs:=adC ((v4V s).getD ad0)) rfl hal (dO _) w6 λk8 w8 hk8 h8 hb8=>?_
     have hB8:=ab hB6 hb8 hB6.size
     have h28:=(h24.below hb6).below hb8
     cases ho:v4V s with
     | none=>
       rw[ho]at hv
       exact ae.yes rfl (bad hv h28 hB8)
     | some x=>
       rw[ho]at hv h8 hal
       refine ae.no rfl ⟨_,bv.load0 h8 hal,_,sy 2 (by rw[<- bX];exact hal) w8,?_⟩
       exact fin (some ⟨2,[],x⟩) (λy hy=>by cases hy;show x.length=16;rw[<- bX];exact hal) hv h28 hB8
   · rw[if_neg (by rw[hd];decide)]at hv
     have hbad: ¬ (s.length <=253/\L.all aW=true)->cL s=none:=λh=>by rw[hv,if_neg h]
     refine⟨λm i w'=>∃k:Nat,k <=L.length/\i=(k:Int)/\m=L.length-k/\(L.take k).all aW=true/\w'=w4,⟨_,0,by omega,rfl,rfl,rfl,rfl⟩,?_⟩
     intro m i
     refine aE.of ?_ _
     rintro w5 ⟨k,hk,rfl,rfl,hno,hw5⟩
     rw[hw5];clear hw5
     refine ae.of (λh=>?_) (λh=>?_) <;> simp only[dTx,dFx]at h
     · have hlt:k<L.length:=by omega
       refine⟨⟨⟨by omega,h⟩,ho.all.isSome (by omega)⟩,_,ho.all.text aB hlt,?_⟩
       refine av (yi L[k] (by have:=hlens _ (List.getElem_mem hlt);omega) w4) ?_
       rintro _ w6 ⟨rfl,hw6⟩
       rw[hw6];clear hw6
       refine⟨_,rfl,ae.of (λh3=>bad (hbad λhc=>?_) h24 hB4) (λh3=>?_)⟩
       · rw[List.all_eq_true.1 hc.2 _ (List.getElem_mem hlt)]at h3;cases h3
       · refine⟨L.length-(k+1),by omega,k+1,by omega,by rw[wrap_i64 (by omega) (by omega)];omega,rfl,?_,rfl⟩
         rw[List.take_succ_eq_append_getElem hlt,List.all_append,hno]
         simpa using h3
     · have:k=L.length:=by omega
       subst this
       rw[List.take_length]at hno
       refine ae.of (λh3=>bad (hbad λhc=>?_) h24 hB4) (λh3=>?_) <;> simp only[gt_iff_lt,dTx,dFx]at h3
       · have:=hc.1;omega
       · exact fin (some ⟨1,gS s,ad0⟩) (λx hx=>by cases hx;rfl) (by rw[hv,if_pos ⟨by omega,hno⟩]) h24 hB4
theorem nK {h:Hst}(o:h.ok)(w:World)(he:Env w):Cf lX #[h.v] w (Ret λv w'=>v=vS (dG h)/\bW w w'):=by
 apply AU
 intro k1 w1 hk1 hw1
 have hB1:=(hw1▸af w _:bW w w1)
 have h1:ak w1 k1 ah h.cells:=ak.new hk1 hw1
 refine⟨rfl,_,h1.load1 aI rfl rfl,?_⟩
 unfold dG
 refine ae.of (λc1=>?_) (λc1=>?_) <;> simp only[beq_iff_eq,beq_eq_false_iff_ne,ne_eq]at c1
 · rw[if_pos c1]
   exact⟨rfl,_,h1.load1 aB rfl rfl,rfl,hB1⟩
 rw[if_neg c1]
 refine ae.of (λc2=>?_) (λc2=>?_) <;> simp only[beq_iff_eq,beq_eq_false_iff_ne,ne_eq]at c2
 · rw[if_pos c2]
   refine⟨rfl,_,Ei o h1,?_⟩
   refine av (zO h.ad o w1 (he.step hB1)) ?_
   rintro _ w2 ⟨rfl,hb2⟩
   exact⟨_,rfl,rfl,ab hB1 hb2 hB1.size⟩
 rw[if_neg c2]
 refine ae.of (λc3=>?_) (λc3=>?_) <;> simp only[beq_iff_eq,beq_eq_false_iff_ne,ne_eq]at c3
 · rw[if_pos c3]
   refine⟨rfl,_,Ei o h1,?_⟩
   refine av (zP h.ad o w1 (he.step hB1)) ?_
   rintro _ w2 ⟨rfl,hb2⟩
   have h6:=xp h.ad
   refine⟨_,rfl,fits (by simp;omega),?_⟩
   rintro _ rfl
   refine⟨fits (by simp;omega),?_⟩
   rintro _ rfl
   exact⟨rfl,ab hB1 hb2 hB1.size⟩
 · rw[if_neg c3]
   exact⟨rfl,hB1⟩
theorem rr {h:Hst}(o:h.ok)(w:World):Cf kD #[h.v] w (Ret λv w'=>v=vS (dG h)/\bW w w'):=by
 apply yC
 intro k1 w1 hk1 hw1
 have hB1:=(hw1▸af w _:bW w w1)
 have h1:ak w1 k1 ah h.cells:=ak.new hk1 hw1
 refine⟨rfl,_,h1.load1 aI rfl rfl,?_⟩
 unfold dG
 refine ae.of (λc1=>?_) (λc1=>?_) <;> simp only[beq_iff_eq,beq_eq_false_iff_ne,ne_eq]at c1
 · rw[if_pos c1]
   exact⟨rfl,_,h1.load1 aB rfl rfl,rfl,hB1⟩
 rw[if_neg c1]
 refine⟨rfl,_,h1.load1 aI rfl rfl,?_⟩
 refine ae.of (λc2=>?_) (λc2=>?_) <;> simp only[beq_iff_eq,beq_eq_false_iff_ne,ne_eq]at c2
 · rw[if_pos c2]
   refine⟨rfl,_,Ei o h1,?_⟩
   refine av (yd h.ad o w1) ?_
   rintro _ w2 ⟨rfl,hb2⟩
   exact⟨_,rfl,rfl,ab hB1 hb2 hB1.size⟩
 rw[if_neg c2]
 refine⟨rfl,_,h1.load1 aI rfl rfl,?_⟩
 refine ae.of (λc3=>?_) (λc3=>?_) <;> simp only[beq_iff_eq,beq_eq_false_iff_ne,ne_eq]at c3
 · rw[if_pos c3]
   refine⟨rfl,_,Ei o h1,?_⟩
   refine av (ye h.ad o w1) ?_
   rintro _ w2 ⟨rfl,hb2⟩
   have h6:=xp h.ad
   refine⟨_,rfl,fits (by simp;omega),?_⟩
   rintro _ rfl
   refine⟨fits (by simp;omega),?_⟩
   rintro _ rfl
   exact⟨rfl,ab hB1 hb2 hB1.size⟩
 · rw[if_neg c3]
   exact⟨rfl,hB1⟩
theorem mu {h:Hst}(o:h.ok)(hn:h.name.length <=1000000000)(w:World)(he:Env w):Cf kA #[h.v] w (Ret λv w'=>v=.bool (aV h)/\bW w w'):=by
 apply yx
 have hxl:=rc o
 intro k1 w1 hk1 hw1
 have hB1:=(hw1▸af w _:bW w w1)
 have h1:ak w1 k1 ah h.cells:=ak.new hk1 hw1
 refine⟨_,aL.load0 h1 (Hst.len o),?_⟩
 refine av (nK o w1 (he.step hB1)) ?_
 rintro _ w2 ⟨rfl,hb2⟩
 have hB2:=ab hB1 hb2 hB1.size
 refine⟨_,rfl,?_⟩
 refine av (jB (dG h) (by omega) w2 (he.step hB2)) ?_
 rintro _ w3 ⟨rfl,hb3⟩
 have hB3:=ab hB2 hb3 hB2.size
 refine⟨_,_,by rw[ms],?_⟩
 have hok:((cL (dG h)).getD gK).ok:=Ag λx hx=>fm hx
 refine aL.new (zs:=gK.cells) (cs:=((cL (dG h)).getD gK).cells) rfl (Hst.len hok) (Hst.one _) w3 λk4 w4 hk4 h4 hb4=>?_
 have hB4:=ab hB3 hb4 hB3.size
 have h14:=((h1.below hb2).below hb3).below hb4
 unfold aV
 cases hv:cL (dG h)with
 | none=>exact ae.no rfl ⟨rfl,hB4⟩
 | some g=>
   rw[hv]at h4 hok
   exact ae.yes rfl ⟨_,aL.load0 h4 (Hst.len hok),_,aL.load0 h14 (Hst.len o),_,GO hok o w4,rfl,hB4⟩
theorem gq {h:Hst}(o:h.ok)(hn:h.name.length <=80000000)(w:World):Cf eQ #[h.v] w (Ret λv w'=>v=.bool (aV h)/\bW w w'):=by
 apply wQ
 have hxl:=rc o
 intro k1 w1 hk1 hw1
 have hB1:=(hw1▸af w _:bW w w1)
 have h1:ak w1 k1 ah h.cells:=ak.new hk1 hw1
 refine⟨_,aL.load0 h1 (Hst.len o),?_⟩
 refine av (rr o w1) ?_
 rintro _ w2 ⟨rfl,hb2⟩
 have hB2:=ab hB1 hb2 hB1.size
 refine⟨_,rfl,?_⟩
 refine av (yg (dG h) (by omega) w2) ?_
 rintro _ w3 ⟨rfl,hb3⟩
 have hB3:=ab hB2 hb3 hB2.size
 refine⟨_,_,by rw[ms],?_⟩
 have hok:((cL (dG h)).getD gK).ok:=Ag λx hx=>fm hx
 refine aL.new (zs:=gK.cells) (cs:=((cL (dG h)).getD gK).cells) rfl (Hst.len hok) (Hst.one _) w3 λk4 w4 hk4 h4 hb4=>?_
 have hB4:=ab hB3 hb4 hB3.size
 have h14:=((h1.below hb2).below hb3).below hb4
 unfold aV
 cases hv:cL (dG h)with
 | none=>exact ae.no rfl ⟨rfl,hB4⟩
 | some g=>
   rw[hv]at h4 hok
   exact ae.yes rfl ⟨_,aL.load0 h4 (Hst.len hok),_,aL.load0 h14 (Hst.len o),_,GO hok o w4,rfl,hB4⟩
def zH (h:Hst)(w:World)(v:Value)(w':World):Prop:=∃(a:Option Addr) (n c:Nat),v=.slice a n c/\Ow tS aq w' NoB a n c (az h)/\bp w.heap.size a/\bW w w'
theorem pq {h:Hst}(o:h.ok)(hn:h.name.length <=1000000000)(w:World)(he:Env w):Cf lW #[h.v] w (Ret (zH h w)):=by
 apply ww
 intro k1 w1 hk1 hw1
 have hB1:=(hw1▸af w _:bW w w1)
 have h1:ak w1 k1 ah h.cells:=ak.new hk1 hw1
 have none_end:∀{wx:World},¬ (h.kind=1/\aV h=true)->bW w wx->zH h w (.slice none 0 0) wx:=λhc hb=>⟨none,0,0,rfl,by unfold az;rw[if_neg hc];exact Ow.nil _ _ _ _,bp.none _,hb⟩
 refine iA (λw'=>(h.kind=1/\aV h=true)/\bW w1 w') ⟨rfl,_,h1.load1 aI rfl rfl,?_⟩ ?_
 · refine ae.of (λc=>none_end (λhc=>?_) hB1) (λc=>?_)
   · rw[hc.1]at c;simp at c
   · have hk:h.kind=1:=by simpa using c
     refine⟨_,aL.load0 h1 (Hst.len o),?_⟩
     refine av (mu o hn w1 (he.step hB1)) ?_
     rintro _ w2 ⟨rfl,hb2⟩
     refine⟨_,rfl,ae.of (λc2=>none_end (λhc=>?_) (ab hB1 hb2 hB1.size)) (λc2=>⟨⟨hk,by simpa using c2⟩,hb2⟩)⟩
     rw[hc.2]at c2;cases c2
 · rintro w2 ⟨hc,hb2⟩
   have hB2:=ab hB1 hb2 hB1.size
   refine⟨rfl,_,(h1.below hb2).load1 aB rfl rfl,?_⟩
   refine av (iV h.name 46 (by omega) w2 (he.step hB2)) ?_
   rintro _ w3 ⟨a,n,c,rfl,ho,hf,hb3⟩
   exact⟨_,_,_,rfl,_,_,_,rfl,by unfold az;rw[if_pos hc];exact ho,hf.mono hB2.size,ab hB2 hb3 hB2.size⟩
theorem j4 {h:Hst}(o:h.ok)(hn:h.name.length <=80000000)(w:World):Cf gm #[h.v] w (Ret (zH h w)):=by
 apply uw
 intro k1 w1 hk1 hw1
 have hB1:=(hw1▸af w _:bW w w1)
 have h1:ak w1 k1 ah h.cells:=ak.new hk1 hw1
 have none_end:∀{wx:World},¬ (h.kind=1/\aV h=true)->bW w wx->zH h w (.slice none 0 0) wx:=λhc hb=>⟨none,0,0,rfl,by unfold az;rw[if_neg hc];exact Ow.nil _ _ _ _,bp.none _,hb⟩
 refine iA (λw'=>(h.kind=1/\aV h=true)/\bW w1 w') ⟨rfl,_,h1.load1 aI rfl rfl,?_⟩ ?_
 · refine ae.of (λc=>none_end (λhc=>?_) hB1) (λc=>?_)
   · rw[hc.1]at c;simp at c
   · have hk:h.kind=1:=by simpa using c
     refine⟨_,aL.load0 h1 (Hst.len o),?_⟩
     refine av (gq o hn w1) ?_
     rintro _ w2 ⟨rfl,hb2⟩
     refine⟨_,rfl,ae.of (λc2=>none_end (λhc=>?_) (ab hB1 hb2 hB1.size)) (λc2=>⟨⟨hk,by simpa using c2⟩,hb2⟩)⟩
     rw[hc.2]at c2;cases c2
 · rintro w2 ⟨hc,hb2⟩
   have hB2:=ab hB1 hb2 hB1.size
   refine⟨rfl,_,(h1.below hb2).load1 aB rfl rfl,?_⟩
   refine av (iW h.name 46 (by omega) w2) ?_
   rintro _ w3 ⟨a,n,c,rfl,ho,hf,hb3⟩
   exact⟨_,_,_,rfl,_,_,_,rfl,by unfold az;rw[if_pos hc];exact ho,hf.mono hB2.size,ab hB2 hb3 hB2.size⟩
theorem gy.drop {α:Type}{T:Ty α}{w:World}{A:Bl}{l:List Value}{xs:List α}(h:gy T w A l xs)(j:Nat):gy T w A (l.drop (j*T.k)) (xs.drop j):=by
 refine⟨by rw[List.length_drop,List.length_drop,h.len,Nat.sub_mul],λi hi=>?_⟩
 have hi':j+i<xs.length:=by rw[List.length_drop]at hi;omega
 have:=h.rep (j+i) hi'
 rw[List.drop_drop,List.getElem_drop]
 rw[Nat.add_mul]at this
 exact this
theorem Sl.from {α:Type}{T:Ty α}{w:World}{A:Bl}{a:Option Addr}{n c:Nat}{xs:List α}(h:Sl T w A a n c xs)(j:Nat)(hj:j <=xs.length){k:Nat}(hk:T.k=k):Sl T w A (xh a c j k) (n-j) (c-j) (xs.drop j):=by
 subst hk
 obtain⟨h1,h2,h3,h4⟩:=h
 refine⟨by rw[List.length_drop,h1],by omega,by omega,?_⟩
 rcases h4 with h4|⟨b,off,e,hb,hab,l,h5,h6⟩
 · left;rw[h4];simp
 · by_cases hc:c=j
   · left
     exact List.drop_eq_nil_of_le (by omega)
   · right
     refine⟨b,off+j*T.k,?_,hb,hab,l.drop (j*T.k),h5.drop j,λi hi=>?_⟩
     · unfold xh;rw[if_neg hc,e,Option.map_some,dq]
     · rw[List.length_drop]at hi
       rw[Nat.add_assoc,h6 _ (by omega),List.getElem?_drop]
def Lo (L:List (List UInt8))(n:Nat):List UInt8:=Lib.join (L.drop (L.length-n)) [46]
def ov (h d:Hst):Bool:=if(az d).length=0\/(az h).length <=(az d).length then false else lx ⟨1,Lo (az h) (az d).length,ad0⟩ d
def EL (h d:Hst):Bool:=if(az h).length=0\/(az d).length=0 then false else decide (d.name.length+1<h.name.length)&&(h.name.drop (h.name.length-(d.name.length+1))==46::d.name)
theorem HM {o:Option (List UInt8)}{h:Hst}(e:(o.map λa=>(⟨3,[],a⟩:Hst))=some h):h.kind=3:=by
 cases o with
 | none=>cases e
 | some a=>cases e;rfl
theorem gN {d:Hst}(o:d.ok)(hk:d.kind=1)(hr:aV d=true):d=⟨1,d.name,ad0⟩/\gS d.name=d.name/\(bL 46 [] d.name).all aW=true/\d.name.length <=253/\cG (qy (bL 46 [] d.name))=false/\cL d.name=some d:=by
 have hx:dG d=d.name:=by unfold dG;rw[if_pos hk]
 unfold aV at hr
 rw[hx]at hr
 cases hv:cL d.name with
 | none=>rw[hv]at hr;cases hr
 | some g=>
   rw[hv]at hr
   obtain rfl:=(cC (fm hv) o).1 hr
   have hv':=hv
   unfold cL at hv'
   split at hv'
   · split at hv'
     · have:=HM hv';omega
     · cases hv'
   split at hv'
   · cases h4:v4V g.name with
     | none=>rw[h4]at hv';cases hv'
     | some a=>
       rw[h4]at hv'
       have:g.kind=2:=by rw[<- Option.some.inj hv']
       omega
   rename_i hd
   split at hv'
   · rename_i hc
     have e:=Option.some.inj hv'
     have e2:gS g.name=g.name:=congrArg Hst.name e
     rw[e2]at hc e hd
     exact⟨e.symm,e2,hc.2,hc.1,by simpa using hd,rfl⟩
   · cases hv'
theorem gB {d:Hst}(o:d.ok)(h:(az d).length≠0):(d.kind=1/\aV d=true)/\az d=bL 46 [] d.name:=by
 unfold az at h ⊢
 split at h
 · rename_i hc;exact⟨hc,by rw[if_pos hc]⟩
 · exact absurd rfl h
theorem El (c:UInt8)(A B:List (List UInt8))(hA:A≠[])(hB:B≠[]):Lib.join (A++B) [c]=Lib.join A [c]++c::Lib.join B [c]:=by
 cases A with
 | nil=>exact absurd rfl hA
 | cons x A=>
   cases B with
   | nil=>exact absurd rfl hB
   | cons y B=>
     rw[List.cons_append,Lib.join_cons,Lib.join_cons,Lib.join_cons]
     unfold Lib.joinTail
     simp
theorem zB {h d:Hst}(oh:h.ok)(od:d.ok):ov h d=EL h d:=by
 unfold ov EL
 by_cases hd0:(az d).length=0
 · rw[if_pos (.inl hd0),if_pos (.inr hd0)]
 by_cases hh0:(az h).length=0
 · rw[if_pos (.inr (by omega)),if_pos (.inl hh0)]
 rw[if_neg (show ¬ ((az h).length=0\/(az d).length=0) from λh=>h.elim hh0 hd0)]
 obtain⟨⟨dk,dr⟩,dl⟩:=gB od hd0
 obtain⟨⟨hk,hr⟩,hl⟩:=gB oh hh0
 obtain⟨d1,-,d3,-,-,-⟩:=gN od dk dr
 obtain⟨h1,-,h3,-,-,-⟩:=gN oh hk hr
 have hjh:=fP 46 h.name []
 have hjd:=fP 46 d.name []
 rw[List.nil_append]at hjh hjd
 rw[dl,hl]
 have hne:=jL 46 h.name []
 have hpos:0<(bL 46 [] h.name).length:=List.length_pos_iff.2 hne
 have dpos:0<(bL 46 [] d.name).length:=List.length_pos_iff.2 (jL 46 d.name [])
 have eqn:∀x:List UInt8,lx ⟨1,x,ad0⟩ d=(x==d.name):=λx=>by
   rw[Bool.eq_iff_iff,cC (show(⟨1,x,ad0⟩:Hst).ok from rfl) od,beq_iff_eq]
   constructor
   · intro e;exact congrArg Hst.name e
   · intro e;rw[d1];simp[e]
 rw[eqn,Bool.eq_iff_iff]
 by_cases hlt:(bL 46 [] h.name).length <=(bL 46 [] d.name).length
 · rw[if_pos (show(bL 46 [] d.name).length=0\/(bL 46 [] h.name).length <=(bL 46 [] d.name).length from .inr hlt)]
   refine⟨(λh=>by cases h),λhx=>?_⟩
   rw[Bool.and_eq_true,dTx,beq_iff_eq]at hx
   exfalso
   have hs:h.name=h.name.take (h.name.length-(d.name.length+1))++46::d.name:=by rw[<- hx.2,List.take_append_drop]
   have hc:=congrArg (λs=>(bL 46 [] s).length) hs
   simp only[cU,List.length_append]at hc
   have:0<(bL 46 [] (h.name.take (h.name.length-(d.name.length+1)))).length:=List.length_pos_iff.2 (jL 46 _ [])
   omega
 · rw[if_neg (show ¬ ((bL 46 [] d.name).length=0\/(bL 46 [] h.name).length <=(bL 46 [] d.name).length) from λh=>h.elim (λh=>by omega) hlt),beq_iff_eq,Bool.and_eq_true,dTx,beq_iff_eq]
   unfold Lo
   constructor
   · intro hj
     have hA:(bL 46 [] h.name).take ((bL 46 [] h.name).length-(bL 46 [] d.name).length)≠[]:=by
       intro e
       have:=congrArg List.length e
       rw[List.length_take,List.length_nil]at this;omega
     have hB:(bL 46 [] h.name).drop ((bL 46 [] h.name).length-(bL 46 [] d.name).length)≠[]:=by
       intro e
       have:=congrArg List.length e
       rw[List.length_drop,List.length_nil]at this;omega
     have ha:=El 46 _ _ hA hB
     rw[List.take_append_drop,hjh,hj]at ha
     have hp:Lib.join ((bL 46 [] h.name).take ((bL 46 [] h.name).length-(bL 46 [] d.name).length)) [46]≠[]:=by
       cases hc:(bL 46 [] h.name).take ((bL 46 [] h.name).length-(bL 46 [] d.name).length)with
       | nil=>exact absurd hc hA
       | cons x A=>
         rw[Lib.join_cons]
         intro e
         have hx:x∈bL 46 [] h.name:=List.mem_of_mem_take (by rw[hc];exact List.mem_cons_self)
         have:=List.all_eq_true.1 h3 x hx
         rw[(List.append_eq_nil_iff.1 e).1]at this
         cases this
     generalize Lib.join ((bL 46 [] h.name).take ((bL 46 [] h.name).length-(bL 46 [] d.name).length)) [46]=p at*
     have hpl:0<p.length:=List.length_pos_iff.2 hp
     have hlen:=congrArg List.length ha
     rw[List.length_append,List.length_cons]at hlen
     refine⟨by omega,?_⟩
     rw[show h.name.length-(d.name.length+1)=p.length by omega,ha]
     simp
   · rintro⟨hl',hdr⟩
     have hs:h.name=h.name.take (h.name.length-(d.name.length+1))++46::d.name:=by rw[<- hdr,List.take_append_drop]
     have hc:bL 46 [] h.name=bL 46 [] (h.name.take (h.name.length-(d.name.length+1)))++bL 46 [] d.name:=by
       conv=>lhs;rw[hs]
       exact cU 46 _ _ _
     rw[hc,List.length_append,Nat.add_sub_cancel,List.drop_left]
     exact hjd
theorem yh {h d:Hst}(oh:h.ok)(od:d.ok)(hn:h.name.length <=80000000)(dn:d.name.length <=80000000)(w:World):Cf mj #[h.v,d.v] w (Ret λv w'=>v=.bool (ov h d)/\bW w w'):=by
 rw[zB oh od]
 apply wR
 intro k2 w2 hk2 hw2
 have hB2:=(hw2▸af w _:bW w w2)
 have h2:ak w2 k2 ah h.cells:=ak.new hk2 hw2
 intro k3 w3 hk3 hw3
 have hb3:=(hw3▸af w2 _:bW w2 w3)
 have hB3:=ab hB2 hb3 hB2.size
 have h3:ak w3 k3 ah d.cells:=ak.new hk3 hw3
 have h23:=h2.below hb3
 have u:EL h d=if(az h).length=0\/(az d).length=0 then false else decide (d.name.length+1<h.name.length)&&(h.name.drop (h.name.length-(d.name.length+1))==46::d.name):=rfl
 refine iA (λw'=> ¬ ((az h).length=0\/(az d).length=0)/\bW w3 w') ?_ ?_
 · refine⟨_,aL.load0 h23 (Hst.len oh),?_⟩
   refine av (j4 oh hn w3) ?_
   rintro _ w4 ⟨a,l,c,rfl,ho,-,hb4⟩
   have hB4:=ab hB3 hb4 hB3.size
   refine⟨_,_,_,rfl,?_⟩
   rw[ho.len]
   refine ae.of (λc1=>⟨?_,hB4⟩) (λc1=>?_)
   · rw[u,if_pos (.inl (by simp at c1;simp[c1]))]
   refine⟨_,aL.load0 (h3.below hb4) (Hst.len od),?_⟩
   refine av (j4 od dn w4) ?_
   rintro _ w5 ⟨a5,l5,c5,rfl,ho5,-,hb5⟩
   have hB5:=ab hB4 hb5 hB4.size
   refine⟨_,_,_,rfl,?_⟩
   rw[ho5.len]
   refine ae.of (λc2=>⟨?_,hB5⟩) (λc2=>⟨?_,ab hb4 hb5 hb4.size⟩)
   · rw[u,if_pos (.inr (by simp at c2;simp[c2]))]
   · simp at c1 c2
     rintro(hx|hx)
     · exact c1 (List.length_eq_zero_iff.1 hx)
     · exact c2 (List.length_eq_zero_iff.1 hx)
 · rintro w4 ⟨hc,hb4⟩
   have hB4:=ab hB3 hb4 hB3.size
   have l2:=(h23.below hb4).load1 (P:=prog) (i:=1) (v:=vS h.name) aB rfl rfl
   refine⟨rfl,_,(h3.below hb4).load1 aB rfl rfl,fits (by simp;omega),?_⟩
   rintro _ rfl
   refine⟨rfl,_,l2,?_⟩
   rw[u,if_neg hc]
   refine ae.of (λc1=>?_) (λc1=>⟨?_,hB4⟩)
   · have hl:d.name.length+1<h.name.length:=by simp at c1;omega
     have e:i64.wrap (((h.name.length:Nat):Int)-((([46]++d.name).length:Nat):Int))=((h.name.length-(d.name.length+1):Nat):Int):=by
       rw[wrap_i64 (by simp;omega) (by simp;omega)];simp;omega
     refine⟨rfl,_,l2,rfl,_,l2,?_⟩
     rw[e]
     simp only[Int.toNat_natCast]
     refine⟨⟨by omega,by omega⟩,?_⟩
     rintro _ rfl
     rw[decide_eq_true hl,Bool.true_and]
     exact⟨rfl,hB4⟩
   · have: ¬ d.name.length+1<h.name.length:=by simp at c1;omega
     rw[decide_eq_false this,Bool.false_and]
theorem ux (a b:Value){w K}(h:nA w (.cells (Value.cells a) ah) λc d=>nA d (.cells (Value.cells b) ah) λe f=>∃g:FP [],(∃i,Ld ah (vA c 0) f i/\uB eQ #[i] f λj k=>ae (!j) (K (.bool false) k) (∃l,Ld ah (vA e 0) k l/\uB eQ #[l] k λm n=>ae (!m) (K (.bool false) n) (g n)))/\aE 9 (∀i,g i->∃j,Ld ah (vA c 0) i j/\∃k,Ld ah (vA e 0) i k/\∃l,(do eqGuard .eql ah (.tmp 13) (.tmp 14) j k;binOp .eql ah j k:Sem Value).run prog i=.ok (.bool l) i/\ae l (K (.bool true) i) (∃m,Ld ah (vA c 0) i m/\∃n,Ld ah (vA e 0) i n/\uB mj #[m,n] i λo p=>K (.bool o) p))):Cf gn #[a,b] w (Ret K):=ru func27 [(2,[])] h
theorem wT (a b:Value)(c:Int){w K}(h:nA w (.cells (Value.cells a) bt) λd e=>nA e (.cells (Value.cells b) ax) λf g=>∃i:FP [],(true/\∃j,Ld bR (vA d 20) g (.bool j)/\ae j (true/\∃k,Ld ah (vA d 2) g k/\true/\∃l,Ld ah (vA f 1) g l/\∃m,(do eqGuard .neq ah (.tmp 11) (.tmp 13) k l;binOp .neq ah k l:Sem Value).run prog g=.ok (.bool m) g/\ae m (K (.bool false) g) (true/\∃n,Ld ah (vA f 1) g n/\true/\∃o,Ld ah (vA d 2) g o/\uB gn #[n,o] g λp q=>ae (!p) (K (.bool false) q) (i q))) (true/\∃k,Ld ah (vA f 1) g k/\true/\∃l,Ld ah (vA d 2) g l/\uB gn #[k,l] g λm n=>ae (!m) (K (.bool false) n) (i n)))/\aE 18 (∀j,i j->∃k:FP [],(true/\∃l,Ld aq (vA f 19) j (vS l)/\true/\∃m,Ld aq (vA d 21) j (vS m)/\uB nv #[vS l,vS m] j λn o=>ae (!n) (K (.bool false) o) (true/\∃p,Ld bR (vA d 22) o (.bool p)/\ae p (true/\∃q,Ld bR (vA f 0) o (.bool q)/\ae (!q) (K (.bool false) o) (true/\∃r,Ld lO (vA d 25) o (vI r)/\ae (decide (c >=r)) (K (.bool false) o) (k o))) (true/\∃q,Ld lO (vA d 25) o (vI q)/\ae (decide (c >=q)) (K (.bool false) o) (k o))))/\aE 22 (∀l,k l->true/\∃m,Ld ay (vA f 20) l (vI m)/\ae (m==(1:Int)) (true/\∃n,Ld ay (vA d 24) l (vI n)/\K (.bool (n !=(3:Int))) l) (true/\∃n,Ld ay (vA f 20) l (vI n)/\ae (n==(2:Int)) (true/\∃o,Ld ay (vA d 24) l (vI o)/\K (.bool (o==(1:Int))) l) (true/\∃o,Ld ay (vA f 20) l (vI o)/\K (.bool (o==(0:Int))) l))))):Cf mn #[a,b,vI c] w (Ret K):=ru func84 [(2,[]),(10,[])] h
theorem Cy (a:lU){w K}(h:∃b:FP [],(ae (a==[]) (K (.bool false) w) (ae (decide (((List.length a:Nat):Int)>(2048:Int))) (K (.bool false) w) (bx (0:Int) ((List.length a:Nat):Int)/\ae ((aX a (0:Int)) !=(47:Int)) (K (.bool false) w) (b w))))/\aE 13 (∀c,b c->∃d e f g,(convert aq aM (vS a)).run prog c=.ok (.slice e f g) d/\∃i:Nat->FP [.one (.int .i64)],(∃j,i j (0:Int) d)/\∀j k,aE 20 (∀l,i j k l->ae (decide (k<((f:Nat):Int))) ((bx k ((f:Nat):Int)/\Option.isSome e=true)/\∃m,Ld aF (am e k 1) l (.int .u8 m)/\ae (decide (m<(33:Int))) (K (.bool false) l) (ae (decide (m>(126:Int))) (K (.bool false) l) (ae (m==(63:Int)) (K (.bool false) l) (ae (m==(35:Int)) (K (.bool false) l) (∃n:Nat,n<j/\i n (i64.wrap (k+(1:Int))) l))))) (K (.bool true) l)))):Cf sC #[vS a] w (Ret K):=ru func137 [(2,[]),(14,[(20,.one (.int .i64))])] h
theorem yD (a:lU){w K}(h:∃b:Nat->FP [.one (.int .i64)],(∃c,b c (0:Int) w)/\∀c d,aE 29 (∀e,b c d e->ae (decide (d<((List.length a:Nat):Int))) (bx d ((List.length a:Nat):Int)/\ae (decide ((aX a d)<(33:Int))) (K (.bool false) e) (bx d ((List.length a:Nat):Int)/\ae (decide ((aX a d)>(126:Int))) (K (.bool false) e) (bx d ((List.length a:Nat):Int)/\ae ((aX a d)==(63:Int)) (K (.bool false) e) (bx d ((List.length a:Nat):Int)/\ae ((aX a d)==(35:Int)) (K (.bool false) e) (∃f:Nat,f<c/\b f (i64.wrap (d+(1:Int))) e))))) (ae (decide (((List.length a:Nat):Int) >=(1:Int))) (ae (decide (((List.length a:Nat):Int) <=(2048:Int))) (bx (0:Int) ((List.length a:Nat):Int)/\K (.bool ((aX a (0:Int))==(47:Int))) e) (K (.bool false) e)) (K (.bool false) e)))):Cf nu #[vS a] w (Ret K):=ru func140 [(6,[(3,.one (.int .i64))])] h
theorem yE (a b:lU){w K}(h:ae (a==b) (K (.bool true) w) (∃c:FP [],(ae (decide (((List.length a:Nat):Int) <=((List.length b:Nat):Int))) (K (.bool false) w) (bd ((List.length b:Nat):Int) (((List.length a):Nat):Int)/\∀d,d=(List.take (Int.toNat ((List.length b:Nat):Int)) a)->ae (!(d==b)) (K (.bool false) w) (c w)))/\aE 14 (∀d,c d->bx ((List.length b:Nat):Int) ((List.length a:Nat):Int)/\ae ((aX a ((List.length b:Nat):Int))==(47:Int)) (K (.bool true) d) (ae (decide (((List.length b:Nat):Int)>(0:Int))) (bx (i64.wrap (((List.length b:Nat):Int)-(1:Int))) ((List.length b:Nat):Int)/\K (.bool ((aX b (i64.wrap (((List.length b:Nat):Int)-(1:Int))))==(47:Int))) d) (K (.bool false) d))))):Cf nv #[vS a,vS b] w (Ret K):=ru func141 [(10,[])] h
def nU (c:UInt8):Bool:= !(decide (((c.toNat:Nat):Int)<33) || (decide (((c.toNat:Nat):Int)>126) || (c==63 || c==35)))
def kV (s:List UInt8):Bool:=decide (s.head?=some 47)&&(decide (s.length <=2048)&&s.all nU)
theorem Ez {s:List UInt8}{k:Nat}(hlt:k<s.length)(h:nU s[k]=false):kV s=false:=by
 have:s.all nU=false:=by
   rw[Bool.eq_false_iff];intro hx;rw[List.all_eq_true.1 hx _ (List.getElem_mem hlt)]at h;cases h
 unfold kV;rw[this,Bool.and_false,Bool.and_false]
theorem zn (c:UInt8)(H:Prop)(hH:H){Y N:Prop}(hy:nU c=true->Y)(hn:nU c=false->N):
   ae (decide (((c.toNat:Nat):Int)<33)) N (H/\ae (decide (((c.toNat:Nat):Int)>126)) N (H/\ae (((c.toNat:Nat):Int)==(63:Int)) N (H/\ae (((c.toNat:Nat):Int)==(35:Int)) N Y))):=by
 have e63:=pj c 63
 have e35:=pj c 35
 rw[show(((63:UInt8).toNat:Nat):Int)=63 from rfl]at e63
 rw[show(((35:UInt8).toNat:Nat):Int)=35 from rfl]at e35
 rw[e63,e35]
 refine ae.of (λh=>hn ?_) (λh=>⟨hH,ae.of (λh2=>hn ?_) (λh2=>⟨hH,ae.of (λh3=>hn ?_) (λh3=>⟨hH,ae.of (λh4=>hn ?_) (λh4=>hy ?_)⟩)⟩)⟩)
 · unfold nU;rw[h];rfl
 · unfold nU;rw[h,h2];rfl
 · unfold nU;rw[h,h2,h3];rfl
 · unfold nU;rw[h,h2,h3,h4];rfl
 · unfold nU;rw[h,h2,h3,h4];rfl
theorem Ds (c:UInt8){Y N:Prop}(hy:nU c=true->Y)(hn:nU c=false->N):
   ae (decide (((c.toNat:Nat):Int)<33)) N (ae (decide (((c.toNat:Nat):Int)>126)) N (ae (((c.toNat:Nat):Int)==(63:Int)) N (ae (((c.toNat:Nat):Int)==(35:Int)) N Y))):=by
 have:=zn c True trivial hy hn
 simpa only[true_and]using this
theorem DN (s:List UInt8)(w:World):Cf sC #[vS s] w (Ret λv w'=>v=.bool (kV s)/\bW w w'):=by
 apply Cy
 refine xT (w:=w) (s.head?=some 47/\s.length <=2048) ?_ ?_
 · refine ae.of (λh=>⟨?_,Below.refl _ _⟩) (λh=>?_)
   · have:s=[]:=by simpa using h
     subst this;rfl
   have hne:s≠[]:=by simpa using h
   have hl:0<s.length:=List.length_pos_iff.2 hne
   have hh:s.head?=some s[0]:=by rw[List.head?_eq_getElem?,List.getElem?_eq_getElem hl]
   refine ae.of (λh=>⟨?_,Below.refl _ _⟩) (λh2=>⟨⟨by decide,by omega⟩,?_⟩)
   · unfold kV;rw[decide_eq_false (p:=s.length <=2048) (by simp at h;omega),Bool.false_and,Bool.and_false]
   have hb:=byte_at (s:=s) (k:=0) hl
   rw[show((0:Nat):Int)=0 from rfl]at hb
   have hu:=pj s[0] 47
   rw[show(((47:UInt8).toNat:Nat):Int)=47 from rfl]at hu
   simp only[bne,hb,hu]
   refine ae.of (λh3=>⟨?_,Below.refl _ _⟩) (λh3=>⟨trivial,?_,by simp at h2;omega⟩)
   · unfold kV;rw[hh,decide_eq_false (p:=some s[0]=some 47) (by simpa using h3),Bool.false_and]
   · rw[hh];simpa using h3
 · rintro⟨hh,hl⟩
   have hp:kV s=s.all nU:=by unfold kV;rw[decide_eq_true hh,decide_eq_true hl,Bool.true_and,Bool.true_and]
   obtain⟨w2,a,n,c,hr,ho,hb2,hf⟩:=oP (P:=prog) aB bG bA w s (by omega) NoB
   have hnn:=ho.len
   subst hnn
   refine⟨w2,a,_,c,hr,?_⟩
   refine⟨λm i w'=>∃k:Nat,k <=s.length/\i=(k:Int)/\m=s.length-k/\(s.take k).all nU=true/\w'=w2,⟨_,0,by omega,rfl,rfl,rfl,rfl⟩,?_⟩
   intro m i
   refine aE.of ?_ _
   rintro w' ⟨k,hk,rfl,rfl,hno,hw'⟩
   rw[hw'];clear hw'
   refine ae.of (λh=>?_) (λh=>?_) <;> simp only[dTx,dFx]at h
   · have hlt:k<s.length:=by omega
     obtain⟨v,hv,hrep⟩:=ho.all.load1 (i:=(k:Int)) bA rfl rfl (by simpa using hlt)
     have:=tT hrep
     subst this
     simp only[Int.toNat_natCast]at hv
     refine⟨⟨⟨by omega,h⟩,ho.all.isSome hlt⟩,_,hv,Ds _ (λhc=>?_) (λhc=>⟨by rw[Ez hlt hc],hb2⟩)⟩
     exact⟨s.length-(k+1),by omega,k+1,by omega,by rw[wrap_i64 (by omega) (by omega)];omega,rfl,by rw[List.take_succ_eq_append_getElem hlt,List.all_append,hno];simp[hc],rfl⟩
   · have:k=s.length:=by omega
     subst this
     rw[List.take_length]at hno
     exact⟨by rw[hp,hno],hb2⟩
theorem AG (s:List UInt8)(hs:s.length <=9223372036854775800)(w:World):Cf nu #[vS s] w (Ret λv w'=>v=.bool (kV s)/\w'=w):=by
 apply yD
 refine⟨λm i w'=>∃k:Nat,k <=s.length/\i=(k:Int)/\m=s.length-k/\(s.take k).all nU=true/\w'=w,⟨_,0,by omega,rfl,rfl,rfl,rfl⟩,?_⟩
 intro m i
 refine aE.of ?_ _
 rintro w' ⟨k,hk,rfl,rfl,hno,hw'⟩
 rw[hw'];clear hw'
 refine ae.of (λh=>?_) (λh=>?_) <;> simp only[dTx,dFx]at h
 · have hlt:k<s.length:=by omega
   rw[byte_at hlt]
   have hin:(0 <=(k:Int)/\(k:Int)<((s.length:Nat):Int)):=⟨by omega,h⟩
   refine⟨hin,zn _ _ hin (λhc=>?_) (λhc=>⟨by rw[Ez hlt hc],rfl⟩)⟩
   exact⟨s.length-(k+1),by omega,k+1,by omega,by rw[wrap_i64 (by omega) (by omega)];omega,rfl,by rw[List.take_succ_eq_append_getElem hlt,List.all_append,hno];simp[hc],rfl⟩
 · have:k=s.length:=by omega
   subst this
   rw[List.take_length]at hno
   unfold kV
   rw[hno,Bool.and_true]
   refine ae.of (λh2=>?_) (λh2=>⟨?_,rfl⟩) <;> simp only[ge_iff_le,dTx,dFx]at h2
   · refine ae.of (λh3=>?_) (λh3=>⟨?_,rfl⟩) <;> simp only[dTx,dFx]at h3
     · have hl:0<s.length:=by omega
       have hb:=byte_at (s:=s) (k:=0) hl
       rw[show((0:Nat):Int)=0 from rfl]at hb
       have hu:=pj s[0] 47
       rw[show(((47:UInt8).toNat:Nat):Int)=47 from rfl]at hu
       refine⟨⟨by decide,by omega⟩,?_,rfl⟩
       rw[hb,hu,decide_eq_true (p:=s.length <=2048) (by omega),Bool.and_true,List.head?_eq_getElem?,List.getElem?_eq_getElem hl]
       congr 1
       rw[Bool.eq_iff_iff];simp
     · rw[decide_eq_false (p:=s.length <=2048) (by omega),Bool.and_false]
   · have:s=[]:=List.length_eq_zero_iff.1 (by omega)
     subst this;rfl
def E3 (h d:Hst):Bool:=aV h&&(aV d&&(lx h d || ov h d))
def sL (p o:List UInt8):Bool:=(p==o) || (decide (o.length<p.length)&&((p.take o.length==o)&&(decide (p[o.length]? =some 47) || decide (o.getLast?=some 47))))
structure Cky where
 name:List UInt8
 value:List UInt8
 host:Hst
 only:Bool
 path:List UInt8
 sec:Bool
 http:Bool
 same:Int
 exp:Int
 born:Int
 used:Int
 seq:Int
def Cky.tail (c:Cky):List Value:=[.bool c.only,vS c.path,.bool c.sec,.bool c.http,vI c.same,vI c.exp,vI c.born,vI c.used,vI c.seq]
def Cky.cells (c:Cky):List Value:=vS c.name::vS c.value::(c.host.cells++c.tail)
def Cky.v (c:Cky):Value:=.agg c.cells.toArray
def Cky.ok (c:Cky):Prop:=c.host.ok
theorem Cky.len {c:Cky}(o:c.ok):c.cells.length=29:=by unfold Cky.cells;rw[List.length_cons,List.length_cons,List.length_append,Hst.len o];rfl
theorem Cky.one (c:Cky):yT c.cells:=aN rfl (aN rfl (AC (Hst.one _) (aN rfl (aN rfl (aN rfl (aN rfl (aN rfl (aN rfl (aN rfl (aN rfl (aN rfl hQ)))))))))))
theorem qQ {c:Cky}(o:c.ok){j:Nat}(h:j<18):c.cells[2+j]? =c.host.cells[j]? :=by
 unfold Cky.cells
 rw[show 2+j=j+1+1 by omega,List.getElem?_cons_succ,List.getElem?_cons_succ,List.getElem?_append_left (by rw[Hst.len o];exact h)]
theorem cY {c:Cky}(o:c.ok)(j:Nat):c.cells[20+j]? =c.tail[j]? :=by
 unfold Cky.cells
 rw[show 20+j=(18+j)+1+1 by omega,List.getElem?_cons_succ,List.getElem?_cons_succ,List.getElem?_append_right (by rw[Hst.len o];omega),Hst.len o]
 congr 1;omega
structure Req where
 sec:Bool
 host:Hst
 path:List UInt8
 cross:Int
def Req.tail (r:Req):List Value:=[vS r.path,vI r.cross]
def Req.cells (r:Req):List Value:=.bool r.sec::(r.host.cells++r.tail)
def Req.v (r:Req):Value:=.agg r.cells.toArray
def Req.ok (r:Req):Prop:=r.host.ok
theorem Req.len {r:Req}(o:r.ok):r.cells.length=21:=by unfold Req.cells;rw[List.length_cons,List.length_append,Hst.len o];rfl
theorem Req.one (r:Req):yT r.cells:=aN rfl (AC (Hst.one _) (aN rfl (aN rfl hQ)))
theorem rA {r:Req}(o:r.ok){j:Nat}(h:j<18):r.cells[1+j]? =r.host.cells[j]? :=by
 unfold Req.cells
 rw[Nat.add_comm,List.getElem?_cons_succ,List.getElem?_append_left (by rw[Hst.len o];exact h)]
theorem hU {r:Req}(o:r.ok)(j:Nat):r.cells[19+j]? =r.tail[j]? :=by
 unfold Req.cells
 rw[show 19+j=(18+j)+1 by omega,List.getElem?_cons_succ,List.getElem?_append_right (by rw[Hst.len o];omega),Hst.len o]
 congr 1;omega
def yY (same cross:Int):Bool:=if cross=1 then same !=3 else if cross=2 then same==1 else cross==0
def AZ (c:Cky)(r:Req)(now:Int):Bool:=
 !(c.only && !lx c.host r.host)&&(E3 r.host c.host&&(sL r.path c.path&&(!(c.sec && !r.sec)&&(!(decide (now >=c.exp))&&yY c.same r.cross))))
theorem wo {h d:Hst}(oh:h.ok)(od:d.ok)(hn:h.name.length <=80000000)(dn:d.name.length <=80000000)(w:World):Cf gn #[h.v,d.v] w (Ret λv w'=>v=.bool (E3 h d)/\bW w w'):=by
 apply ux
 intro k2 w2 hk2 hw2
 have hB2:=(hw2▸af w _:bW w w2)
 have h2:ak w2 k2 ah h.cells:=ak.new hk2 hw2
 intro k3 w3 hk3 hw3
 have hb3:=(hw3▸af w2 _:bW w2 w3)
 have hB3:=ab hB2 hb3 hB2.size
 have h3:ak w3 k3 ah d.cells:=ak.new hk3 hw3
 have h23:=h2.below hb3
 unfold E3
 refine iA (λw'=>aV h=true/\aV d=true/\bW w3 w') ?_ ?_
 · refine⟨_,aL.load0 h23 (Hst.len oh),?_⟩
   refine av (gq oh hn w3) ?_
   rintro _ w4 ⟨rfl,hb4⟩
   have hB4:=ab hB3 hb4 hB3.size
   refine⟨_,rfl,ae.of (λc=>⟨?_,hB4⟩) (λc=>?_)⟩
   · rw[Bool.not_eq_true']at c;rw[c];rfl
   rw[Bool.not_eq_false']at c
   refine⟨_,aL.load0 (h3.below hb4) (Hst.len od),?_⟩
   refine av (gq od dn w4) ?_
   rintro _ w5 ⟨rfl,hb5⟩
   refine⟨_,rfl,ae.of (λc2=>⟨?_,ab hB4 hb5 hB4.size⟩) (λc2=>⟨c,?_,ab hb4 hb5 hb4.size⟩)⟩
   · rw[Bool.not_eq_true']at c2;rw[c,c2];rfl
   · rwa [Bool.not_eq_false']at c2
 · rintro w4 ⟨r1,r2,hb4⟩
   have hB4:=ab hB3 hb4 hB3.size
   rw[r1,r2,Bool.true_and,Bool.true_and]
   refine⟨_,aL.load0 (h23.below hb4) (Hst.len oh),_,aL.load0 (h3.below hb4) (Hst.len od),_,GO oh od w4,?_⟩
   refine ae.of (λc1=>⟨by rw[c1];rfl,hB4⟩) (λc1=>?_)
   refine⟨_,aL.load0 (h23.below hb4) (Hst.len oh),_,aL.load0 (h3.below hb4) (Hst.len od),?_⟩
   refine av (yh oh od hn dn w4) ?_
   rintro _ w5 ⟨rfl,hb5⟩
   exact⟨_,rfl,by rw[c1];rfl,ab hB4 hb5 hB4.size⟩
theorem AH (p o:List UInt8)(hp:p.length <=9223372036854775800)(ho:o.length <=9223372036854775800)(w:World):Cf nv #[vS p,vS o] w (Ret λv w'=>v=.bool (sL p o)/\w'=w):=by
 apply yE
 unfold sL
 refine ae.of (λc=>⟨by rw[c];rfl,rfl⟩) (λc=>?_)
 rw[c,Bool.false_or]
 refine xT (w:=w) (o.length<p.length/\p.take o.length=o) ?_ ?_
 · refine ae.of (λh=>⟨?_,rfl⟩) (λh=>⟨⟨by omega,?_⟩,?_⟩) <;> simp only[dTx,dFx]at h
   · rw[decide_eq_false (p:=o.length<p.length) (by omega),Bool.false_and]
   · omega
   · rintro _ rfl
     rw[Int.toNat_natCast]
     refine ae.of (λh2=>⟨?_,rfl⟩) (λh2=>⟨rfl,by omega,?_⟩)
     · rw[Bool.not_eq_true']at h2;rw[h2,Bool.false_and,Bool.and_false]
     · rw[Bool.not_eq_false']at h2;exact eq_of_beq h2
 · rintro⟨h1,h2⟩
   rw[decide_eq_true h1,h2,beq_self_eq_true,Bool.true_and,Bool.true_and]
   have hu:=pj p[o.length] 47
   rw[show(((47:UInt8).toNat:Nat):Int)=47 from rfl]at hu
   rw[byte_at h1,hu,List.getElem?_eq_getElem h1]
   refine⟨⟨by omega,by omega⟩,ae.of (λc1=>⟨?_,rfl⟩) (λc1=>?_)⟩
   · rw[eq_of_beq c1];rfl
   · rw[decide_eq_false (p:=some p[o.length]=some 47) (λhx=>by rw[Option.some.inj hx]at c1;simp at c1),Bool.false_or]
     refine ae.of (λc2=>?_) (λc2=>⟨?_,rfl⟩) <;> simp only[gt_iff_lt,dTx,dFx]at c2
     · have hl:o.length-1<o.length:=by omega
       have ei:i64.wrap (((o.length:Nat):Int)-1)=((o.length-1:Nat):Int):=by rw[wrap_i64 (by omega) (by omega)];omega
       have hu:=pj o[o.length-1] 47
       rw[show(((47:UInt8).toNat:Nat):Int)=47 from rfl]at hu
       rw[ei,byte_at hl,hu,List.getLast?_eq_getElem?,List.getElem?_eq_getElem hl]
       refine⟨⟨by omega,by omega⟩,?_,rfl⟩
       congr 1
       rw[Bool.eq_iff_iff];simp
     · have:o=[]:=List.length_eq_zero_iff.1 (by omega)
       subst this;rfl
theorem xJ:Whl prog bt 29:=⟨⟨_,_,Bf⟩,by kernel_rfl⟩
theorem dW:Whl prog ax 21:=⟨⟨_,_,yN⟩,by kernel_rfl⟩
theorem yj {c:Cky}{r:Req}(oc:c.ok)(or:r.ok)(cn:c.host.name.length <=80000000)(rn:r.host.name.length <=80000000)(cp:c.path.length <=9223372036854775800)(rp:r.path.length <=9223372036854775800)(now:Int)(w:World):
   Cf mn #[c.v,r.v,vI now] w (Ret λv w'=>v=.bool (AZ c r now)/\bW w w'):=by
 apply wT
 intro k3 w3 hk3 hw3
 have hB3:=(hw3▸af w _:bW w w3)
 have h3:ak w3 k3 bt c.cells:=ak.new hk3 hw3
 intro k4 w4 hk4 hw4
 have hb4:=(hw4▸af w3 _:bW w3 w4)
 have hB4:=ab hB3 hb4 hB3.size
 have h4:ak w4 k4 ax r.cells:=ak.new hk4 hw4
 have h34:=h3.below hb4
 have lch:∀{wx},bW w4 wx->(Instr.loadAt ah (.pointer (some ⟨k3,2,none⟩))).run prog wx=.ok c.host.v wx:=λhb=>aL.load (h34.below hb) (i:=2) (us:=c.host.cells) (Hst.len oc) (λj hj=>qQ oc hj)
 have lrh:∀{wx},bW w4 wx->(Instr.loadAt ah (.pointer (some ⟨k4,1,none⟩))).run prog wx=.ok r.host.v wx:=λhb=>aL.load (h4.below hb) (i:=1) (us:=r.host.cells) (Hst.len or) (λj hj=>rA or hj)
 have b0:=Below.refl w4.heap.size w4
 have dom:∀{wx:World} {J:FP []},bW w4 wx->(c.only && !lx c.host r.host)=false->(∀wy,bW w4 wy->E3 r.host c.host=true->J wy)->
     Cf gn #[r.host.v,c.host.v] wx λe21 w21=>∃(b21:Bool),e21=.returned (.bool b21)/\ae (!b21) ((.bool false:Value)=.bool (AZ c r now)/\bW w w21) (J w21):=fun{wx J} hbx h0 hJ=>by
   refine av (wo or oc rn cn wx) ?_
   rintro _ w5 ⟨rfl,hb5⟩
   have hb:=ab hbx hb5 hbx.size
   refine⟨_,rfl,ae.of (λh=>⟨?_,ab hB4 hb hB4.size⟩) (λh=>hJ w5 hb ?_)⟩
   · rw[Bool.not_eq_true']at h;unfold AZ;rw[h,Bool.false_and,Bool.and_false]
   · rwa [Bool.not_eq_false']at h
 refine iA (λw'=>(c.only && !lx c.host r.host)=false/\E3 r.host c.host=true/\bW w4 w') ?_ ?_
 · refine⟨rfl,_,h34.load1 di rfl (cY oc 0),ae.of (λh=>?_) (λh=>?_)⟩
   · refine⟨rfl,_,lch b0,rfl,_,lrh b0,_,K9 oc or w4,ae.of (λh2=>⟨?_,hB4⟩) (λh2=>?_)⟩
     · unfold AZ;rw[h,h2];rfl
     · exact⟨rfl,_,lrh b0,rfl,_,lch b0,dom b0 (by rw[h,h2];rfl) λwy hb hd=>⟨by rw[h,h2];rfl,hd,hb⟩⟩
   · exact⟨rfl,_,lrh b0,rfl,_,lch b0,dom b0 (by rw[h];rfl) λwy hb hd=>⟨by rw[h];rfl,hd,hb⟩⟩
 · rintro w5 ⟨e1,e2,hb5⟩
   have hB5:=ab hB4 hb5 hB4.size
   have h35:=h34.below hb5
   have h45:=h4.below hb5
   have hs:AZ c r now=(sL r.path c.path&&(!(c.sec && !r.sec)&&(!(decide (now >=c.exp))&&yY c.same r.cross))):=by unfold AZ;rw[e1,e2];rfl
   refine iA (λw'=>AZ c r now=yY c.same r.cross/\w'=w5) ?_ ?_
   · refine⟨rfl,_,h45.load1 aB rfl (hU or 0),rfl,_,h35.load1 aB rfl (cY oc 1),?_⟩
     refine av (AH r.path c.path rp cp w5) ?_
     rintro _ w6 ⟨rfl,hw6⟩
     rw[hw6];clear hw6
     refine⟨_,rfl,ae.of (λh=>⟨?_,hB5⟩) (λh=>?_)⟩
     · rw[Bool.not_eq_true']at h;rw[hs,h];rfl
     rw[Bool.not_eq_false']at h
     rw[hs,h,Bool.true_and]
     refine⟨rfl,_,h35.load1 di rfl (cY oc 2),ae.of (λh2=>?_) (λh2=>?_)⟩
     · refine⟨rfl,_,h45.load1 di rfl (i:=0) rfl,ae.of (λh3=>⟨?_,hB5⟩) (λh3=>?_)⟩
       · rw[h2,h3];rfl
       · rw[h2,h3]
         refine⟨rfl,_,h35.load1 kH rfl (cY oc 5),ae.of (λh4=>⟨?_,hB5⟩) (λh4=>⟨?_,rfl⟩)⟩
         · rw[h4];rfl
         · rw[h4];rfl
     · rw[h2]
       refine⟨rfl,_,h35.load1 kH rfl (cY oc 5),ae.of (λh4=>⟨?_,hB5⟩) (λh4=>⟨?_,rfl⟩)⟩
       · rw[h4];rfl
       · rw[h4];rfl
   · rintro w6 ⟨hc,hw6⟩
     rw[hw6,hc]
     unfold yY
     have lc:=h45.load1 (P:=prog) aI rfl (hU or 1)
     have ls:=h35.load1 (P:=prog) aI rfl (cY oc 4)
     refine⟨rfl,_,lc,ae.of (λh=>?_) (λh=>?_)⟩
     · rw[if_pos (eq_of_beq h)]
       exact⟨rfl,_,ls,rfl,hB5⟩
     rw[if_neg (beq_eq_false_iff_ne.1 h)]
     refine⟨rfl,_,lc,ae.of (λh=>?_) (λh=>?_)⟩
     · rw[if_pos (eq_of_beq h)]
       exact⟨rfl,_,ls,rfl,hB5⟩
     rw[if_neg (beq_eq_false_iff_ne.1 h)]
     exact⟨rfl,_,lc,rfl,hB5⟩
end Go.Pk
