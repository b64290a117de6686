/- What the laws lean on: Hep, DaA, Make, Rep, DfaQ, DfaR, DaB, DaC, V30, SymA, SymB, SymC, Sort, Iter, M, ShelfSort, SymD; what is used. Its conditions: none. -/
import Derived.Test.YtpafoodmpjlkhaaGreatDoorKD
import Derived.Deep.OwnRows
import Derived.Sort.Grow
import Derived.Sort.EncStr
import Derived.RangeFuncBox
import Derived.RangeFuncLeaves
import Derived.Shelf.Abstract
import Derived.WalkKit
import Derived.OwnWalkIn
import Derived.TacticsInMore
import Derived.LoopNIn
import Derived.LoopIn
import Derived.Maps.AppendAt
import Derived.Shelf.SortM.Plain
import Derived.Shelf.SortM.SortNone
set_option linter.unusedVariables false
set_option linter.unusedSimpArgs false
set_option linter.unusedSectionVars false
set_option maxRecDepth 100000
open Go.IntKind (i64)
open Go.Proofs.Tryz
open List (length)
open Option (isSome)
namespace Go.Pk
open Go.RowKit (Below)
open Go.Proofs
theorem ai.put1 {P:Program}{u:TypeId}{bytes:Nat}{z:Value}(tf:TF P u 1 bytes z){w:World}{k:Nat}{t:TypeId}{x v:Value}(h:ai w k t [x])(h1:v.oneCell'=true)(hc:v.cells= #[v]):
   ∃w',(Instr.storeAt u (.pointer (some ⟨k,0,none⟩)) v).run P w=.ok () w'/\ai w' k t [v]/\w.grownBy w' (some k):=by
 obtain⟨w',hs,ha,hg⟩:=h.store tf (i:=0) (v:=v) (by rw[hc];rfl) (by simp) (by rw[hc];intro c hcc;simp at hcc;subst hcc;exact h1)
 refine⟨w',hs,?_,hg⟩
 rw[hc]at ha
 exact ha
theorem Chg.trans2 {S S':List Nat}{a b c:World}(h:Chg S a b)(k:Chg S' b c)(hs:∀x∈S',x<a.heap.size->x∈S):Chg S a c:=
 ⟨k.os.trans h.os,k.tape.trans h.tape,k.output.trans h.output,Nat.le_trans h.size k.size,λi hi hn=>(k.block i (Nat.lt_of_lt_of_le hi h.size) (λhm=>hn (hs i hm hi))).trans (h.block i hi hn)⟩
theorem Chg.row {w w':World}{a:Option Addr}(h:w.grownBy w' (bi a)):Chg (bi a).toList w w':=
 ⟨h.os,h.tape,h.output,h.size,λk hk hn=>h.block k hk λe=>hn (by rw[<- e];simp)⟩
theorem Src.at1 {α:Type}{T:Ty α}(hf:AM T){w:World}{A:Bl}{vs:List Value}{x:α}{t:TypeId}{b:Nat}(hw:w.heap[b]? =some (.cells vs.toArray t (0,0)))(h:T.rep w A vs x):Src T w A (some ⟨b,0,none⟩) 1 [x]:=by
 refine⟨rfl,.inr ⟨_,0,rfl,vs,gr.one h,λj hj=>?_⟩⟩
 rw[eQ hw,Nat.zero_add]
 simp
theorem gr.takeN {α:Type}{T:Ty α}{w:World}{A:Bl}{l:List Value}{xs:List α}(h:gr T w A l xs){j:Nat}(hj:j <=xs.length):gr T w A (l.take (j*T.k)) (xs.take j):=by
 have hle:j*T.k <=xs.length*T.k:=Nat.mul_le_mul_right _ hj
 refine⟨by rw[List.length_take,List.length_take,h.len,Nat.min_eq_left hle,Nat.min_eq_left hj],λi hi=>?_⟩
 rw[List.length_take,Nat.min_eq_left hj]at hi
 have:=h.rep i (by omega)
 have h2:(i+1)*T.k <=j*T.k:=Nat.mul_le_mul_right _ hi
 rw[Nat.succ_mul]at h2
 rw[List.getElem_take,List.drop_take,List.take_take,Nat.min_eq_left (by omega)]
 exact this
theorem Ow.takeN {α:Type}{T:Ty α}{t:TypeId}{w:World}{A:Bl}{a:Option Addr}{n c:Nat}{xs:List α}(h:Ow T t w A a n c xs){j:Nat}(hj:j <=xs.length):Ow T t w A a j c (xs.take j):=by
 obtain⟨hn,hnc,hcm,h4⟩:=h
 refine⟨by rw[List.length_take,Nat.min_eq_left hj],by omega,hcm,?_⟩
 rcases h4 with⟨e1,e2,e3⟩|⟨g,cur,fr,e,hg,hf,hs,hr⟩
 · exact .inl ⟨e1,e2,by rw[e3];simp⟩
 · refine .inr ⟨g,cur,fr,e,hg,hf,hs,?_⟩
   have:=hr.takeN hj
   rwa [List.take_take,Nat.min_eq_left (by rw[hn];exact Nat.mul_le_mul_right _ hj)]at this
structure wP (ts te:TypeId)(w:World)(vb:Nat)(a:Option Addr)(n c:Nat)(xs:List Pi):Prop where
 var:ai w vb ts [.slice a n c]
 row:Ow tP te w NoB a n c xs
 ne:∀g,bi a=some g->g≠vb
theorem wP.below {ts te:TypeId}{w w':World}{vb:Nat}{a:Option Addr}{n c:Nat}{xs:List Pi}(h:wP ts te w vb a n c xs)(hb:bW w w'):wP ts te w' vb a n c xs:=⟨h.var.below hb,h.row.below hb,h.ne⟩
abbrev Hq:=wP aG aE
theorem r9:Whl prog aE 2:=⟨⟨_,_,jC⟩,by kernel_rfl⟩
theorem mn {w:World}{A:Bl}{a:Option Addr}{n c:Nat}{xs:List Pi}(h:Sl tP w A a n c xs){i j:Nat}(hi:i<xs.length)(hj:j<xs.length):
   Cf dD #[.slice a n c,vI (i:Int),vI (j:Int)] w (Ret λv w'=>∃b,v=.bool b/\bW w w'):=by
 apply oz
 have hn:=h.len
 subst hn
 exact⟨⟨⟨by omega,by omega⟩,h.isSome hi⟩,h.some_of hi 2,_,λu hu=>((h.below hu).pair0 aC hi).1,⟨⟨by omega,by omega⟩,h.isSome hj⟩,h.some_of hj 2,_,λu hu=>((h.below hu).pair0 aC hj).1,λwq hq=>⟨_,rfl,hq⟩⟩
theorem mo {w:World}{a:Option Addr}{n c:Nat}{xs:List Pi}(h:Ow tP aE w NoB a n c xs){i j:Nat}(hi:i<xs.length)(hj:j<xs.length):
   Cf dE #[.slice a n c,vI (i:Int),vI (j:Int)] w (Ret λv w'=>v=.tuple #[]/\Ow tP aE w' NoB a n c ((xs.set i xs[j]).set j xs[i])/\Chg (bi a).toList w w'):=by
 apply oB
 have hn:=h.len
 subst hn
 have h2:=h.all
 refine⟨⟨⟨by omega,by omega⟩,h2.isSome hj⟩,⟨⟨by omega,by omega⟩,h2.isSome hi⟩,xs[j].1,xs[j].2,λu hu=>(h2.below hu).pair r9 hj,xs[i].1,xs[i].2,λu hu=>(h2.below hu).pair r9 hi,⟨⟨by omega,by omega⟩,h2.isSome hi⟩,λwq hq=>?_⟩
 obtain⟨w1,s1,o1,g1⟩:=(h.below hq).store jC (λ_ _ h=>h) (i:=(i:Int)) (by simpa using hi) (k:=2) rfl (v:=prV xs[j]) (x:=xs[j]) rfl
 rw[Int.toNat_natCast]at o1
 refine⟨w1,s1,⟨⟨by omega,by omega⟩,h2.isSome hj⟩,?_⟩
 obtain⟨w2,s2,o2,g2⟩:=o1.store jC (λ_ _ h=>h) (i:=(j:Int)) (by simpa using hj) (k:=2) rfl (v:=prV xs[i]) (x:=xs[i]) rfl
 rw[Int.toNat_natCast]at o2
 exact⟨w2,s2,rfl,o2,((Chg.of hq).trans (Chg.row g1)).trans (Chg.row g2)⟩
theorem Dv {w:World}{vb:Nat}{a:Option Addr}{n c:Nat}{xs:List Pi}(h:Hq w vb a n c xs){j:Nat}(hj:j<xs.length):
   Cf gw #[.iface aU (.pointer (some ⟨vb,0,none⟩)),vI (j:Int)] w (Ret λv w'=>v=.tuple #[]/\∃xs',xs'.Perm xs/\Hq w' vb a n c xs'/\Chg (bi a).toList w w'):=by
 apply gB
 refine⟨λm i wl=>∃(k:Nat) (ys:List Pi),i=(k:Int)/\m=k/\k<ys.length/\ys.Perm xs/\Hq wl vb a n c ys/\Chg (bi a).toList w wl,⟨_,j,xs,rfl,rfl,hj,List.Perm.refl _,h,Chg.refl _ _⟩,?_⟩
 intro m i
 refine aL.of ?_ _
 rintro wl ⟨k,ys,rfl,hmk,hk,hp,H,hc⟩
 have hle:=H.row.le
 refine⟨by decide,λq7 hq=>?_⟩
 have hq':q7=(((k-1)/2:Nat):Int):=by
   rw[hq]
   by_cases h0:k=0
   · subst h0;rfl
   · rw[ar (n:=(k:Int)-1) (by omega) (by omega),show((k:Int)-1)=((k-1:Nat):Int) by omega,show Int.tdiv ((k-1:Nat):Int) 2=(((k-1)/2:Nat):Int) from rfl]
     exact ar (by omega) (by omega)
 subst hq'
 clear hq
 refine mJ (λw'=>0<k/\Hq w' vb a n c ys/\Chg (bi a).toList w w') ?_ ?_
 · refine ah.of (λ_=>⟨rfl,ys,hp,H,hc⟩) (λh0=>?_)
   have hk0:0<k:=by
     rcases Nat.eq_zero_or_pos k with e|e
     · subst e;simp at h0
     · exact e
   refine⟨a,n,c,H.var.load1 bp rfl rfl,?_⟩
   refine aw (mn H.row.all hk (show(k-1)/2<ys.length by omega)) ?_
   rintro _ w15 ⟨b,rfl,hb⟩
   refine⟨b,rfl,ah.of (λ_=>⟨rfl,ys,hp,H.below hb,hc.step hb⟩) (λ_=>⟨hk0,H.below hb,hc.step hb⟩)⟩
 · rintro wj ⟨hk0,H,hc⟩
   refine⟨a,n,c,H.var.load1 bp rfl rfl,?_⟩
   have hd:(k-1)/2<ys.length:=by omega
   refine aw (mo H.row hd hk) ?_
   rintro _ w21 ⟨rfl,o,hc2⟩
   refine⟨rfl,(k-1)/2,by omega,(k-1)/2,_,rfl,rfl,?_,(vp hd hk).trans hp,⟨hc2.arr H.var λhm=>?_,o,H.ne⟩,hc.trans hc2⟩
   · simp;omega
   · exact H.ne vb (by simpa using hm) rfl
theorem zL {w:World}{vb:Nat}{a:Option Addr}{n c:Nat}{xs:List Pi}(h:Hq w vb a n c xs)(hl:xs.length <=1000000000000){N:Nat}(hN:N <=xs.length):
   Cf fB #[.iface aU (.pointer (some ⟨vb,0,none⟩)),vI 0,vI (N:Int)] w (Ret λv w'=>∃b,v=.bool b/\∃xs':List Pi,xs'.Perm xs/\(∀k,N <=k->xs'[k]? =xs[k]?)/\Hq w' vb a n c xs'/\Chg (bi a).toList w w'):=by
 apply fZ
 refine⟨λm i wl=>∃(k:Nat) (ys:List Pi),i=(k:Int)/\m=ys.length-k/\k <=ys.length/\ys.Perm xs/\(∀k,N <=k->ys[k]? =xs[k]?)/\Hq wl vb a n c ys/\Chg (bi a).toList w wl,⟨_,0,xs,rfl,rfl,Nat.zero_le _,List.Perm.refl _,λ_ _=>rfl,h,Chg.refl _ _⟩,?_⟩
 intro m i
 refine aL.of ?_ _
 rintro wl ⟨k,ys,rfl,rfl,hk,hp,hsame,H,hc⟩
 have hlen:=hp.length_eq
 have e1:i64.wrap ((i64.wrap ((2:Int)*(k:Int)))+(1:Int))=((2*k+1:Nat):Int):=by
   rw[ar (n:=(2:Int)*(k:Int)) (by omega) (by omega),ar (by omega) (by omega)];omega
 have e2:i64.wrap (((2*k+1:Nat):Int)+(1:Int))=((2*k+2:Nat):Int):=by
   rw[ar (by omega) (by omega)];omega
 simp only[e1,e2]
 refine mJ (λw'=>2*k+1<N/\w'=wl) ?_ ?_
 · refine ah.of (λ_=>⟨_,rfl,ys,hp,hsame,H,hc⟩) (λh0=>?_)
   simp only[ge_iff_le,dFx]at h0
   refine ah.of (λh1=>?_) (λ_=>⟨by omega,rfl⟩)
   simp only[dTx]at h1
   omega
 rintro wj ⟨hlt,rfl⟩
 refine⟨λi w'=>∃jj:Nat,i=(jj:Int)/\k<jj/\jj<N/\Hq w' vb a n c ys/\Chg (bi a).toList w w',?_,λn9=>aL.of ?_ _⟩
 · refine ah.of (λh0=>?_) (λ_=>⟨2*k+1,rfl,by omega,hlt,H,hc⟩)
   simp only[dTx]at h0
   refine⟨a,n,c,H.var.load1 bp rfl rfl,?_⟩
   refine aw (mn H.row.all (show 2*k+2<ys.length by omega) (show 2*k+1<ys.length by omega)) ?_
   rintro _ w32 ⟨b,rfl,hb⟩
   exact⟨b,rfl,ah.of (λ_=>⟨2*k+2,rfl,by omega,by omega,H.below hb,hc.step hb⟩) (λ_=>⟨2*k+1,rfl,by omega,hlt,H.below hb,hc.step hb⟩)⟩
 · rintro w9 ⟨jj,rfl,hkj,hjN,H,hc⟩
   refine⟨a,n,c,H.var.load1 bp rfl rfl,?_⟩
   refine aw (mn H.row.all (show jj<ys.length by omega) (show k<ys.length by omega)) ?_
   rintro _ w38 ⟨b,rfl,hb⟩
   refine⟨b,rfl,ah.of (λ_=>⟨_,rfl,ys,hp,hsame,H.below hb,hc.step hb⟩) (λ_=>?_)⟩
   have H2:=H.below hb
   refine⟨a,n,c,H2.var.load1 bp rfl rfl,?_⟩
   have hk1:k<ys.length:=by omega
   have hj1:jj<ys.length:=by omega
   refine aw (mo H2.row hk1 hj1) ?_
   rintro _ w43 ⟨rfl,o,hc2⟩
   refine⟨rfl,ys.length-jj,by omega,jj,_,rfl,by simp,by simp;omega,(vp hk1 hj1).trans hp,λi hi=>?_,⟨hc2.arr H2.var λhm=>?_,o,H.ne⟩,(hc.step hb).trans hc2⟩
   · rw[List.getElem?_set_ne (by omega),List.getElem?_set_ne (by omega)]
     exact hsame i hi
   · exact H.ne vb (by simpa using hm) rfl
theorem tJ (p:Pi)(u:World):(Instr.typeAssert (.iface aE (prV p)) po aE false).run prog u=.ok (.agg #[vI p.1,vI p.2]) u:=by kernel_rfl
theorem yX {w:World}{vb:Nat}{a:Option Addr}{n c:Nat}{xs:List Pi}(h:Hq w vb a n c xs)(hl:xs.length <=1000000000000)(p:Pi):
   Cf gQ #[.pointer (some ⟨vb,0,none⟩),.iface aE (prV p)] w (Ret λv w'=>v=.tuple #[]/\∃a' n' c',Hq w' vb a' n' c' (xs++[p])/\Chg (vb::(bi a).toList) w w'/\∀g,bi a'=some g->bi a=some g\/w.heap.size <=g):=by
 apply oA
 refine⟨rfl,a,n,c,λu hu=>(h.below hu).var.load1 bp rfl rfl,p.1,p.2,λu _=>tJ p u,λk10 hk wq hq hcell=>?_⟩
 have H:=h.below hq
 have hsrc:Src tP wq NoB (some ⟨k10,0,none⟩) 1 [p]:=Src.at1 yf (vs:=prC p) hcell rfl
 obtain⟨w4,a4,n4,c4,hr,o4,g4,f4⟩:=cr (ty:=aG) bp jC (by decide) H.row (λ_ _ h=>h) (cm:=1) hsrc (by simp;omega)
 have hsz:=hq.size
 have hvlt:=h.var.lt
 have v4:ai w4 vb aG [.slice a n c]:=H.var.grown g4 λe=>H.ne vb e.symm rfl
 obtain⟨w5,hs5,v5,g5⟩:=v4.put1 (P:=prog) oT (v:=.slice a4 n4 c4) rfl rfl
 have hne4:∀g,bi a4=some g->g≠vb:=λg hg e=>by
   rcases f4 g hg with h1|h1
   · exact h.ne g h1 e
   · omega
 refine⟨w4,a4,n4,c4,hr,rfl,w5,hs5,rfl,a4,n4,c4,⟨v5,o4.put (λg hg e=>hne4 g hg e) g5,hne4⟩,?_,λg hg=>?_⟩
 · have c1:Chg (vb::(bi a).toList) w wq:=Chg.of hq
   have c2:Chg (vb::(bi a).toList) wq w4:=(Chg.row g4).mono λk hk=>List.mem_cons_of_mem _ hk
   exact(c1.trans c2).trans (Chg.grown g5 List.mem_cons_self)
 · rcases f4 g hg with h1|h1
   · exact .inl h1
   · exact .inr (by omega)
theorem sn {w:World}{vb:Nat}{a:Option Addr}{n c:Nat}{xs:List Pi}(h:Hq w vb a n c xs)(hl:xs.length <=1000000000000)(p:Pi):
   Cf dC #[.iface aU (.pointer (some ⟨vb,0,none⟩)),.iface aE (prV p)] w
     (Ret λv w'=>v=.tuple #[]/\∃a' n' c' xs',xs'.Perm (p::xs)/\Hq w' vb a' n' c' xs'/\Chg (vb::(bi a).toList) w w'/\∀g,bi a'=some g->bi a=some g\/w.heap.size <=g):=by
 apply fY
 refine aw (yX h hl p) ?_
 rintro _ w6 ⟨rfl,a1,n1,c1,H1,hc1,f1⟩
 refine⟨rfl,a1,n1,c1,H1.var.load1 bp rfl rfl,?_⟩
 have hn1:=H1.row.len
 refine aw (K:=λv w'=>v=vI ((n1:Nat):Int)/\w'=w6) (j5 _ _ _ ⟨rfl,rfl⟩) ?_
 rintro _ w9 ⟨rfl,rfl⟩
 refine⟨_,rfl,?_⟩
 have e1:i64.wrap (((n1:Nat):Int)-1)=((xs.length:Nat):Int):=by
   rw[hn1,List.length_append,List.length_singleton,ar (by omega) (by omega)];omega
 try dsimp only
 rw[e1]
 refine aw (Dv H1 (by simp)) ?_
 rintro _ w11 ⟨rfl,ys,hp,H2,hc2⟩
 refine⟨rfl,rfl,a1,n1,c1,ys,hp.trans (List.perm_append_singleton p xs),H2,?_,f1⟩
 refine hc1.trans2 hc2 λk hk hlt=>?_
 rcases f1 k (by simpa using hk)with h1|h1
 · exact List.mem_cons_of_mem _ (by rw[h1];simp)
 · omega
theorem Ao {w:World}{vb:Nat}{a:Option Addr}{n c:Nat}{xs:List Pi}(h:Hq w vb a n c xs){p:Pi}{ys:List Pi}(hx:xs=ys++[p]):
   Cf iA #[.pointer (some ⟨vb,0,none⟩)] w (Ret λv w'=>v=.iface aE (prV p)/\Hq w' vb a (n-1) c ys/\Chg [vb] w w'):=by
 apply pM
 have hn:=h.row.len
 have hle:=h.row.le
 subst hx
 rw[List.length_append,List.length_singleton]at hn hle
 have e1:i64.wrap (((n:Nat):Int)-1)=((ys.length:Nat):Int):=by rw[ar (by omega) (by omega)];omega
 have hlt:ys.length<(ys++[p]).length:=by simp
 have hget:(ys++[p])[ys.length]=p:=by simp
 have hvlt:=h.var.lt
 refine⟨rfl,rfl,a,n,c,λu hu=>(h.below hu).var.load1 bp rfl rfl,a,n,c,λu hu=>(h.below hu).var.load1 bp rfl rfl,?_⟩
 try dsimp only
 rw[e1]
 refine⟨⟨⟨by omega,by omega⟩,h.row.all.isSome hlt⟩,p.1,p.2,λu hu=>?_,λk3 hk3 wq hq hcell=>?_⟩
 · have:=((h.below hu).row.all).pair r9 hlt
   rw[hget]at this;exact this
 have H:=h.below hq
 have a3:ai wq k3 aE [vI 0,vI 0]:=hcell
 obtain⟨wx,hs,b3,g3⟩:=r9.store0 (P:=prog) (cs:=prC p) rfl (aN rfl (aN rfl gA)) a3 rfl
 have H3:Hq wx vb a n c (ys++[p]):=⟨H.var.grown g3 (j0 (by omega)),H.row.put (λg hg e=>by have:=h.row.lt g hg;omega) g3,H.ne⟩
 refine⟨wx,hs,rfl,rfl,a,n,c,λu hu=>(H3.below hu).var.load1 bp rfl rfl,a,n,c,λu hu=>(H3.below hu).var.load1 bp rfl rfl,?_⟩
 try dsimp only
 rw[e1]
 refine⟨⟨by omega,?_⟩,rfl,λwq1 hq1=>?_⟩
 · have:=H3.row.2.1;omega
 have H4:=H3.below hq1
 obtain⟨w5,hs5,v5,g5⟩:=H4.var.put1 (P:=prog) oT (v:=.slice a ys.length c) rfl rfl
 rw[Int.toNat_natCast]
 have b5:ai w5 k3 aE (prC p):=(b3.below hq1).grown g5 (j0 (by omega))
 refine⟨w5,hs5,p.1,p.2,r9.load0 (cs:=prC p) b5 rfl,rfl,⟨?_,?_,h.ne⟩,?_⟩
 · rw[show n-1=ys.length by omega];exact v5
 · have o5:=H4.row.put (λg hg e=>h.ne g hg e) g5
   have o6:=o5.takeN (j:=ys.length) (by simp)
   rw[List.take_left]at o6
   rw[show n-1=ys.length by omega]
   exact o6
 · exact((Chg.of hq).put g3 hk3).trans2 ((Chg.of hq1:Chg [vb] wx wq1).trans (Chg.grown g5 (List.mem_singleton.2 rfl))) λk hk _=>hk
theorem Bm {w:World}{vb:Nat}{a:Option Addr}{n c:Nat}{xs:List Pi}(h:Hq w vb a n c xs)(hl:xs.length <=1000000000000)(hx:0<xs.length):
   Cf fW #[.iface aU (.pointer (some ⟨vb,0,none⟩))] w
     (Ret λv w'=>∃(p:Pi) (ys:List Pi),v=.iface aE (prV p)/\xs.Perm (p::ys)/\Hq w' vb a (n-1) c ys/\Chg (vb::(bi a).toList) w w'):=by
 apply gq
 have hn:=h.row.len
 refine⟨a,n,c,h.var.load1 bp rfl rfl,?_⟩
 refine aw (K:=λv w'=>v=vI ((n:Nat):Int)/\w'=w) (j5 _ _ _ ⟨rfl,rfl⟩) ?_
 rintro _ w5 ⟨rfl,rfl⟩
 refine⟨_,rfl,a,n,c,h.var.load1 bp rfl rfl,?_⟩
 have e1:i64.wrap (((n:Nat):Int)-1)=((xs.length-1:Nat):Int):=by rw[hn,ar (by omega) (by omega)];omega
 try dsimp only
 rw[e1]
 have hlast:xs.length-1<xs.length:=by omega
 refine aw (mo h.row (i:=0) hx hlast) ?_
 rintro _ w9 ⟨rfl,o9,hc9⟩
 have hp9:=vp (xs:=xs) hx hlast
 have hvne:vb ∉ (bi a).toList:=λhm=>h.ne vb (by simpa using hm) rfl
 have H9:Hq w9 vb a n c ((xs.set 0 xs[xs.length-1]).set (xs.length-1) xs[0]):=⟨hc9.arr h.var hvne,o9,h.ne⟩
 refine⟨rfl,?_⟩
 refine aw (zL H9 (by simpa using hl) (N:=xs.length-1) (by simp)) ?_
 rintro _ w12 ⟨b,rfl,zs,hp,hsame,H12,hc12⟩
 refine⟨b,rfl,?_⟩
 have hzl:zs.length=xs.length:=by have:=hp.length_eq;simpa using this
 have hz:zs[xs.length-1]? =some xs[0]:=by
   rw[hsame _ (Nat.le_refl _),List.getElem?_set_self (by simp;omega)]
 have hzs:zs=zs.take (xs.length-1)++[xs[0]]:=by
   have h1:=List.take_succ_eq_append_getElem (l:=zs) (i:=xs.length-1) (by omega)
   have h2:zs[xs.length-1]'(by omega)=xs[0]:=by
     rw[List.getElem?_eq_getElem (by omega)]at hz
     exact Option.some.inj hz
   rw[h2,List.take_of_length_le (by omega)]at h1
   exact h1
 refine aw (Ao H12 hzs) ?_
 rintro _ w14 ⟨rfl,H14,hc14⟩
 refine⟨_,rfl,xs[0],zs.take (xs.length-1),rfl,?_,H14,?_⟩
 · have h3:=(hp.trans hp9).symm
   rw[hzs]at h3
   exact h3.trans (List.perm_append_singleton _ _)
 · have c1:Chg (vb::(bi a).toList) w9 w12:=hc12.mono λk hk=>List.mem_cons_of_mem _ hk
   have c0:Chg (vb::(bi a).toList) _ w9:=hc9.mono λk hk=>List.mem_cons_of_mem _ hk
   exact(c0.trans c1).trans (hc14.mono λk hk=>by rw[List.mem_singleton]at hk;rw[hk];exact List.mem_cons_self)
theorem bh:Whl prog ae 4:=⟨⟨_,_,DZ⟩,by kernel_rfl⟩
def inR (N x:Int):Bool:=decide (0 <=x)&&decide (x<N)
def inC (x:Int):Bool:=decide (1 <=x)&&decide (x <=1048576)
theorem A8 {w:World}{k:Nat}{N:Int}(hk:ai w k aq [vI N]):(Instr.loadAt aq (.pointer (some ⟨k,0,none⟩))).run prog w=.ok (vI N) w:=hk.load1 aC rfl rfl
theorem tY (x:Int){w:World}{k:Nat}{N:Int}(hk:ai w k aq [vI N]):Cf cb #[vI x,.pointer (some ⟨k,0,none⟩)] w (Ret λv w'=>v=.bool (!inR N x)/\w'=w):=by
 apply sR
 refine ah.of (λh=>⟨?_,rfl⟩) (λh=>⟨N,A8 hk,?_,rfl⟩) <;> simp only[dTx,dFx]at h
 · congr 1;unfold inR;rw[decide_eq_false (by omega)];rfl
 · congr 1;unfold inR
   have h0:(0:Int) <=x:=by omega
   by_cases h2:x<N
   · have h3: ¬ N <=x:=by omega
     simp[h0,h2,h3]
   · have h3:N <=x:=by omega
     simp[h0,h2,h3]
theorem pY {w:World}{A:Bl}{a:Option Addr}{n c:Nat}{xs:List Int}(hs:Sl bY w A a n c xs){k:Nat}{N:Int}(hk:ai w k aq [vI N]):
   Cf aJ #[.slice a n c,.func (.func cb) #[] #[.pointer (some ⟨k,0,none⟩)]] w (Ret λv w'=>v=.bool (!xs.all (inR N))/\w'=w):=by
 have hn:=hs.len
 subst hn
 have hle:=hs.le
 apply ed
 refine aw (K:=λv w'=>∃i:Int,v=vI i/\(decide (i >=0))=(!xs.all (inR N))/\w'=w) ?_ ?_
 · apply fm
   refine⟨λm i w'=>∃j:Nat,j <=xs.length/\i=(j:Int)/\m=xs.length-j/\(xs.take j).all (inR N)=true/\w'=w,⟨_,0,by omega,rfl,rfl,rfl,rfl⟩,?_⟩
   intro m i
   refine aL.of ?_ _
   rintro w' ⟨j,hj,rfl,rfl,hno,hw'⟩
   rw[hw'];clear hw'
   refine ah.of (λh=>?_) (λh=>?_) <;> simp only[dTx,dFx]at h
   · have hlt:j<xs.length:=by omega
     refine⟨⟨⟨by omega,h⟩,hs.isSome hlt⟩,_,hs.num aC hlt,?_⟩
     refine aw (tY xs[j] hk) ?_
     rintro _ w3 ⟨rfl,hw3⟩
     rw[hw3]
     refine⟨_,rfl,ah.of (λh3=>?_) (λh3=>?_)⟩
     · refine⟨_,rfl,?_,rfl⟩
       have:xs.all (inR N)=false:=by
         rw[Bool.eq_false_iff]
         intro hc
         rw[List.all_eq_true.1 hc _ (List.getElem_mem hlt)]at h3;cases h3
       rw[this,decide_eq_true (by omega)];rfl
     · refine⟨xs.length-(j+1),by omega,j+1,by omega,by rw[ar (by omega) (by omega)];omega,rfl,?_,rfl⟩
       rw[List.take_succ_eq_append_getElem hlt,List.all_append,hno]
       simpa using h3
   · have:j=xs.length:=by omega
     subst this
     rw[List.take_length]at hno
     exact⟨_,rfl,by rw[hno];decide,rfl⟩
 · rintro _ w3 ⟨i,rfl,hi,hw3⟩
   exact⟨_,rfl,by rw[hi],hw3⟩
theorem t6 (x:Int){w:World}{k:Nat}{N:Int}(hk:ai w k aq [vI N]):Cf cd #[vI x,.pointer (some ⟨k,0,none⟩)] w (Ret λv w'=>v=.bool (!inR N x)/\w'=w):=by
 apply sS
 refine ah.of (λh=>⟨?_,rfl⟩) (λh=>⟨N,A8 hk,?_,rfl⟩) <;> simp only[dTx,dFx]at h
 · congr 1;unfold inR;rw[decide_eq_false (by omega)];rfl
 · congr 1;unfold inR
   have h0:(0:Int) <=x:=by omega
   by_cases h2:x<N
   · have h3: ¬ N <=x:=by omega
     simp[h0,h2,h3]
   · have h3:N <=x:=by omega
     simp[h0,h2,h3]
theorem pZ {w:World}{A:Bl}{a:Option Addr}{n c:Nat}{xs:List Int}(hs:Sl bY w A a n c xs){k:Nat}{N:Int}(hk:ai w k aq [vI N]):
   Cf aJ #[.slice a n c,.func (.func cd) #[] #[.pointer (some ⟨k,0,none⟩)]] w (Ret λv w'=>v=.bool (!xs.all (inR N))/\w'=w):=by
 have hn:=hs.len
 subst hn
 have hle:=hs.le
 apply ee
 refine aw (K:=λv w'=>∃i:Int,v=vI i/\(decide (i >=0))=(!xs.all (inR N))/\w'=w) ?_ ?_
 · apply fq
   refine⟨λm i w'=>∃j:Nat,j <=xs.length/\i=(j:Int)/\m=xs.length-j/\(xs.take j).all (inR N)=true/\w'=w,⟨_,0,by omega,rfl,rfl,rfl,rfl⟩,?_⟩
   intro m i
   refine aL.of ?_ _
   rintro w' ⟨j,hj,rfl,rfl,hno,hw'⟩
   rw[hw'];clear hw'
   refine ah.of (λh=>?_) (λh=>?_) <;> simp only[dTx,dFx]at h
   · have hlt:j<xs.length:=by omega
     refine⟨⟨⟨by omega,h⟩,hs.isSome hlt⟩,_,hs.num aC hlt,?_⟩
     refine aw (t6 xs[j] hk) ?_
     rintro _ w3 ⟨rfl,hw3⟩
     rw[hw3]
     refine⟨_,rfl,ah.of (λh3=>?_) (λh3=>?_)⟩
     · refine⟨_,rfl,?_,rfl⟩
       have:xs.all (inR N)=false:=by
         rw[Bool.eq_false_iff]
         intro hc
         rw[List.all_eq_true.1 hc _ (List.getElem_mem hlt)]at h3;cases h3
       rw[this,decide_eq_true (by omega)];rfl
     · refine⟨xs.length-(j+1),by omega,j+1,by omega,by rw[ar (by omega) (by omega)];omega,rfl,?_,rfl⟩
       rw[List.take_succ_eq_append_getElem hlt,List.all_append,hno]
       simpa using h3
   · have:j=xs.length:=by omega
     subst this
     rw[List.take_length]at hno
     exact⟨_,rfl,by rw[hno];decide,rfl⟩
 · rintro _ w3 ⟨i,rfl,hi,hw3⟩
   exact⟨_,rfl,by rw[hi],hw3⟩
theorem th (x:Int){w:World} :Cf bN #[vI x] w (Ret λv w'=>v=.bool (!inC x)/\w'=w):=by
 apply rU
 refine ah.of (λh=>⟨?_,rfl⟩) (λh=>⟨?_,rfl⟩) <;> simp only[dTx,dFx]at h
 · congr 1;unfold inC;rw[decide_eq_false (by omega)];rfl
 · congr 1;unfold inC
   have h0:(1:Int) <=x:=by omega
   by_cases h2:x <=1048576
   · have h3: ¬ 1048576<x:=by omega
     simp[h0,h2,h3]
   · have h3:1048576<x:=by omega
     simp[h0,h2,h3]
theorem pu {w:World}{A:Bl}{a:Option Addr}{n c:Nat}{xs:List Int}(hs:Sl bY w A a n c xs):
   Cf aJ #[.slice a n c,.func (.func bN) #[] #[]] w (Ret λv w'=>v=.bool (!xs.all (inC))/\w'=w):=by
 have hn:=hs.len
 subst hn
 have hle:=hs.le
 apply d8
 refine aw (K:=λv w'=>∃i:Int,v=vI i/\(decide (i >=0))=(!xs.all (inC))/\w'=w) ?_ ?_
 · apply ff
   refine⟨λm i w'=>∃j:Nat,j <=xs.length/\i=(j:Int)/\m=xs.length-j/\(xs.take j).all (inC)=true/\w'=w,⟨_,0,by omega,rfl,rfl,rfl,rfl⟩,?_⟩
   intro m i
   refine aL.of ?_ _
   rintro w' ⟨j,hj,rfl,rfl,hno,hw'⟩
   rw[hw'];clear hw'
   refine ah.of (λh=>?_) (λh=>?_) <;> simp only[dTx,dFx]at h
   · have hlt:j<xs.length:=by omega
     refine⟨⟨⟨by omega,h⟩,hs.isSome hlt⟩,_,hs.num aC hlt,?_⟩
     refine aw (th xs[j]) ?_
     rintro _ w3 ⟨rfl,hw3⟩
     rw[hw3]
     refine⟨_,rfl,ah.of (λh3=>?_) (λh3=>?_)⟩
     · refine⟨_,rfl,?_,rfl⟩
       have:xs.all (inC)=false:=by
         rw[Bool.eq_false_iff]
         intro hc
         rw[List.all_eq_true.1 hc _ (List.getElem_mem hlt)]at h3;cases h3
       rw[this,decide_eq_true (by omega)];rfl
     · refine⟨xs.length-(j+1),by omega,j+1,by omega,by rw[ar (by omega) (by omega)];omega,rfl,?_,rfl⟩
       rw[List.take_succ_eq_append_getElem hlt,List.all_append,hno]
       simpa using h3
   · have:j=xs.length:=by omega
     subst this
     rw[List.take_length]at hno
     exact⟨_,rfl,by rw[hno];decide,rfl⟩
 · rintro _ w3 ⟨i,rfl,hi,hw3⟩
   exact⟨_,rfl,by rw[hi],hw3⟩
theorem yV {w:World}{A:Bl}{a:Option Addr}{n c:Nat}{xs:List Int}(hs:Sl bY w A a n c xs):Cf m8 #[.slice a n c] w (Ret λv w'=>v=.bool (xs.all inC)/\w'=w):=by
 apply wH
 refine aw (pu hs) ?_
 rintro _ w3 ⟨rfl,hw3⟩
 exact⟨_,rfl,by rw[Bool.not_not],hw3⟩
theorem ug {xs:List Int} :xs.all inC=true ↔ pk xs:=by
 rw[List.all_eq_true]
 unfold pk inC
 simp only[Bool.and_eq_true,dTx]
theorem ks {w:World}{a b:Option Addr}{n c m e:Nat}{d:DA}(h:DaS w a n c b m e d):
   Cf iv #[daV a n c b m e d] w (Ret λv w'=>v=.bool (okD d)/\bW w w'):=by
 apply yL
 intro k1 w1 hk1 hw1
 have hb1:=(hw1▸af w _:bW w w1)
 have A1:ai w1 k1 ae [vI d.k,vI d.st,.slice a n c,.slice b m e]:=ai.new hk1 hw1
 refine⟨rfl,b,m,e,A1.load1 aS rfl rfl,?_⟩
 intro k3 w3 hk3 hw3
 have hb3:=(hw3▸af w1 _:bW w1 w3)
 obtain⟨wx,hs,A3,g3⟩:=(ai.new hk3 hw3:ai w3 k3 aq [vI 0]).put1 (P:=prog) dk (v:=vI ((m:Nat):Int)) rfl rfl
 have k31:k1<k3:=by have:=A1.lt;omega
 have hbx:bW w1 wx:=hb3.grown g3 hb3.size λx ex=>by cases ex;omega
 have B1:=A1.below hbx
 have hB:bW w wx:=ab hb1 hbx hb1.size
 have hx:=h.below hB
 clear A1 hb1 hw1 hb3 hw3 hbx g3
 have hm:=hx.ac.len
 have hn:=hx.nx.len
 have hml:=hx.ac.le
 have l0:(Instr.loadAt aq (.pointer (some ⟨k1,0,none⟩))).run prog wx=.ok (vI d.k) wx:=B1.load1 aC rfl rfl
 have l1:(Instr.loadAt aq (.pointer (some ⟨k1,1,none⟩))).run prog wx=.ok (vI d.st) wx:=B1.load1 aC rfl rfl
 have l2:(Instr.loadAt aj (.pointer (some ⟨k1,2,none⟩))).run prog wx=.ok (.slice a n c) wx:=B1.load1 aA rfl rfl
 have l3:=A8 A3
 have no:∀{P:Prop},¬ d.Ok->Value.bool false=Value.bool (okD d):=fun{P} hno=>by
   cases ho:okD d with
   | false=>rfl
   | true=>exact absurd (eY.1 ho) hno
 refine⟨wx,hs,mJ (λw'=>w'=wx/\1 <=d.k/\d.k <=512/\1 <=m/\m <=65536/\(n:Int)=(m:Int)*d.k/\0 <=d.st/\d.st<(m:Int)) ?_ ?_⟩
 · refine⟨rfl,_,l0,ah.of (λh1=>⟨no (P:=True) λo=>?_,hB⟩) (λh1=>?_)⟩ <;> simp only[dTx,dFx]at h1
   · have:=o.k1;omega
   refine⟨rfl,_,l0,ah.of (λh2=>⟨no (P:=True) λo=>?_,hB⟩) (λh2=>?_)⟩ <;> simp only[dTx,dFx]at h2
   · have:=o.k2;omega
   refine⟨_,l3,ah.of (λh3=>⟨no (P:=True) λo=>?_,hB⟩) (λh3=>?_)⟩ <;> simp only[dTx,dFx]at h3
   · have:=o.n1;omega
   refine⟨_,l3,ah.of (λh4=>⟨no (P:=True) λo=>?_,hB⟩) (λh4=>?_)⟩ <;> simp only[dTx,dFx]at h4
   · have:=o.n2;omega
   have hmul:0 <=(m:Int)*d.k/\(m:Int)*d.k <=65536*512:=by
     refine⟨Int.mul_nonneg (by omega) (by omega),?_⟩
     exact Int.mul_le_mul (by omega) (by omega) (by omega) (by omega)
   have ew:i64.wrap (((m:Nat):Int)*d.k)=(m:Int)*d.k:=ar (by omega) (by omega)
   refine⟨rfl,a,n,c,l2,_,l3,rfl,_,l0,?_⟩
   rw[ew]
   refine ah.of (λh5=>⟨no (P:=True) λo=>?_,hB⟩) (λh5=>?_)
   · have h5:((n:Nat):Int)≠(m:Int)*d.k:=by simpa using h5
     have:=o.len
     rw[<- hn,<- hm]at this
     exact h5 this
   have h5:((n:Nat):Int)=(m:Int)*d.k:=by simpa using h5
   refine⟨rfl,_,l1,ah.of (λh6=>⟨no (P:=True) λo=>?_,hB⟩) (λh6=>?_)⟩ <;> simp only[dTx,dFx]at h6
   · have:=o.s0;omega
   refine⟨rfl,_,l1,_,l3,ah.of (λh7=>⟨no (P:=True) λo=>?_,hB⟩) (λh7=>?_)⟩ <;> simp only[ge_iff_le,dTx,dFx]at h7
   · have:=o.s1;omega
   exact⟨rfl,by omega,by omega,by omega,by omega,h5,by omega,by omega⟩
 · rintro wj ⟨rfl,h1,h2,h3,h4,h5,h6,h7⟩
   refine⟨rfl,a,n,c,l2,?_⟩
   refine aw (pY hx.nx A3) ?_
   rintro _ w47 ⟨rfl,rfl⟩
   refine⟨_,rfl,?_,hB⟩
   rw[Bool.not_not]
   congr 1
   unfold okD
   rw[<- hm,<- hn,decide_eq_true h1,decide_eq_true h2,decide_eq_true h3,decide_eq_true h4,decide_eq_true h5,decide_eq_true h6,decide_eq_true h7]
   rfl
theorem yA (z:Value)(n:Nat):madeCells #[z] n=(List.replicate n z).toArray:=by
 unfold madeCells
 apply Array.ext
 · simp
 · intro i h1 h2
   simp at h1 ⊢
   rw[Nat.mod_one];rfl
theorem qz {α:Type}{e:α->Value}{h1:∀x,(e x).oneCell'=true}{p:α->Prop}{P:Program}{s t:TypeId}{bytes:Nat}{z:Value}(hs:P.underlying s=some (.slice t))(tf:TF P t 1 bytes z){x0:α}(hz:e x0=z)(hz1:z.cells= #[z])(hp:p x0)
   (kl kc:IntKind) (n:Nat) (hb:bytes*n <=281474976710656) (hn:n <=9223372036854775807) (w:World) (A:Bl):
   ∃(w':World) (a:Option Addr),(Instr.makeSlice s (.int kl (n:Int)) (.int kc (n:Int))).run P w=.ok (.slice a n n) w'/\Ow (Ty.enc e h1 p) t w' A a n n (List.replicate n x0)/\bW w w'/\br w.heap.size a:=by
 obtain⟨i,hi,hsz,hbt,hzz⟩:=tf.info
 subst hbt
 have hr:=run_make_row (P:=P) s t i z hs hi hzz hsz hz1 kl kc n hb hn w
 refine⟨_,_,hr,?_,af w _,uj rfl⟩
 have:=Ow.newF (A:=A) (t:=t) (l:=List.replicate n z) (xs:=List.replicate n x0) (T:=Ty.enc e h1 p) (w:=w) (w':=w.alloc (.cells (List.replicate n z).toArray t)) (b:=w.heap.size) (λ_ _ _ _ _ _ h=>h) rfl rfl (by
   have:=gK (e:=e) (h1:=h1) (p:=p) (w:=w) (A:=A) (xs:=List.replicate n x0) (λx hx=>by rw[(List.mem_replicate.1 hx).2];exact hp)
   rw[List.map_replicate,hz]at this
   exact this) (by simp;exact hn)
 rw[List.length_replicate]at this
 rw[yA]
 exact this
theorem Ow.ofArr {w:World}{A:Bl}{g:Nat}{t:TypeId}{xs:List Int}(h:ai w g t (xs.map λx=>vI x))(hl:xs.length <=maxLen):Ow bY t w A (some ⟨g,0,none⟩) xs.length xs.length xs:=by
 refine⟨rfl,Nat.le_refl _,hl,.inr ⟨g,_,(0,0),rfl,h,λi hi h2=>by omega,by simp[bY,KA,Ty.enc],?_⟩⟩
 have e:(bY.k)=1:=rfl
 rw[e,Nat.mul_one]
 have e2:(xs.map λx=>vI x).toArray.toList.take xs.length=xs.map λx=>vI x:=List.take_of_length_le (by simp)
 rw[e2]
 exact(gK (e:=λn=>vI n) (h1:=λ_=>rfl) (p:=λ_=>True) (λx _=>trivial):gr bY w A (xs.map λx=>vI x) xs)
theorem DJ (k:Nat)(hk:k <=1000000)(w:World):Cf jQ #[.int .u64 1,.int .u64 (k:Int)] w (Ret λv w'=>v=.tuple #[.int .u64 0,.int .u64 (k:Int)]/\w'=w):=by
 apply rP
 refine aw (K:=λv w'=>v=.tuple #[.int .u64 0,.int .u64 (k:Int)]/\w'=w) ?_ ?_
 · apply pL
   have c1:Int.fdiv (1:Int) (2 ^ (min (Int.toNat (32:Int)) (IntKind.bits .u64)))=0:=by decide
   have c2:Int.fdiv (k:Int) (2 ^ (min (Int.toNat (32:Int)) (IntKind.bits .u64)))=0:=by
     show Int.fdiv (k:Int) 4294967296=0
     rw[Int.fdiv_eq_ediv_of_nonneg _ (by omega)]
     omega
   have c0:Int.fdiv (0:Int) (2 ^ (min (Int.toNat (32:Int)) (IntKind.bits .u64)))=0:=by decide
   have w0:IntKind.u64.wrap (0:Int)=0:=by decide
   have wk:IntKind.u64.wrap (k:Int)=(k:Int):=IntWalk.u64_in _ ⟨by omega,by omega⟩
   have m1:(((BitVec.ofInt (IntKind.bits .u64) (1:Int)) &&& (BitVec.ofInt (IntKind.bits .u64) (4294967295:Int))).toNat:Nat)=1:=by decide
   have m0:(((BitVec.ofInt (IntKind.bits .u64) (0:Int)) &&& (BitVec.ofInt (IntKind.bits .u64) (4294967295:Int))).toNat:Nat)=0:=by decide
   have mk:(((BitVec.ofInt (IntKind.bits .u64) (k:Int)) &&& (BitVec.ofInt (IntKind.bits .u64) (4294967295:Int))).toNat:Nat)=k:=by
     show(((BitVec.ofInt 64 (k:Int)) &&& (BitVec.ofInt 64 (4294967295:Int))).toNat:Nat)=k
     have e1:BitVec.ofInt 64 (k:Int)=BitVec.ofNat 64 k:=by simp
     have e2:BitVec.ofInt 64 (4294967295:Int)=BitVec.ofNat 64 4294967295:=by decide
     rw[e1,e2,BitVec.toNat_and,BitVec.toNat_ofNat,BitVec.toNat_ofNat,Nat.mod_eq_of_lt (show k<2 ^ 64 by omega),show(4294967295%2 ^ 64:Nat)=2 ^ 32-1 by decide,Nat.and_two_pow_sub_one_eq_mod]
     omega
   have w1:IntKind.u64.wrap ((1:Nat):Int)=1:=by decide
   have z0:IntKind.u64.wrap ((0:Nat):Int)=0:=by decide
   refine⟨by decide,by decide,by decide,by decide,by decide,?_,rfl⟩
   rw[c1,c2,m1,mk,w1,wk]
   simp only[Int.zero_mul,Int.mul_zero,Int.one_mul,Int.zero_add,Int.add_zero,w0,wk,c0,c2,m0,z0]
 · rintro _ w3 ⟨rfl,hw3⟩
   exact⟨_,_,rfl,rfl,hw3⟩
def mK (v:Int)(i k:Nat):List Int:=List.replicate i v++List.replicate (k-i) 0
theorem E2 {v:Int}{i k:Nat}(h:i <=k):(mK v i k).length=k:=by simp[mK];omega
theorem nh (v:Int)(i k:Nat):((mK v i k).map λx=>vI x)=List.replicate i (vI v)++List.replicate (k-i) (vI 0):=by simp[mK]
theorem lA {w:World}{A:Bl}{a0:Option Addr}{c0:Nat}{v:Int}(hs:Sl bY w A a0 1 c0 [v]){k:Nat}(h1:1 <=k)(hk:k <=1000000):
   Cf bm #[.slice a0 1 c0,vI (k:Int)] w (Ret λr w'=>∃a':Option Addr,r=.slice a' k k/\Ow bY aq w' NoB a' k k (List.replicate k v)/\br w.heap.size a'/\bW w w'):=by
 apply kR
 refine mJ (λw'=>w'=w) ?_ ?_
 · refine ah.of (λh=>?_) (λ_=>rfl)
   simp only[dTx]at h
   omega
 intro wj ej
 rw[ej];clear ej wj
 have wk:IntKind.u64.wrap (k:Int)=(k:Int):=IntWalk.u64_in _ ⟨by omega,by omega⟩
 rw[show IntKind.u64.wrap (((1:Nat):Int))=(1:Int) by decide,wk]
 refine aw (DJ k hk w) ?_
 rintro _ w18 ⟨rfl,e18⟩
 rw[e18];clear e18 w18
 refine⟨_,_,rfl,mJ (λw'=>w'=w) ⟨λb w'=>b=false/\w'=w,?_,λb=>aL.of ?_ _⟩ ?_⟩
 · refine ah.of (λh=>?_) (λ_=>⟨?_,rfl⟩)
   · simp only[dTx]at h;omega
   · rw[decide_eq_false (by omega)]
 · rintro wj ⟨hb0,hw0⟩
   exact ah.no hb0 hw0
 intro wj ej
 rw[ej];clear ej wj
 try dsimp only
 rw[show i64.wrap (k:Int)=(k:Int) from ar (by omega) (by omega)]
 obtain⟨ti,hti,hsz,hbt,hzz⟩:=dk.info
 have hr:=run_make_row (P:=prog) aj aq ti (vI 0) aA hti hzz hsz rfl .i64 .i64 k (by rw[hbt];omega) (by omega) w
 rw[yA]at hr
 obtain⟨w30,hw30⟩:∃w30,w30=w.alloc (.cells (List.replicate k (vI 0)).toArray aq):=⟨_,rfl⟩
 obtain⟨g,hg⟩:∃g,g=w.heap.size:=⟨_,rfl⟩
 rw[<- hw30,<- hg]at hr
 have A30:ai w30 g aq (List.replicate k (vI 0)):=ai.new hg hw30
 have hb30:bW w w30:=hw30▸af w _
 refine⟨w30,some ⟨g,0,none⟩,k,k,hr,?_⟩
 have step:∀(W:World) (i j:Nat) (sa:Addr) (sl sc dc:Nat),ai W g aq ((mK v i k).map λx=>vI x)->i <=k->j=Nat.min sl (k-i)->(∀t,t<j->W.cell? (sa.add t)=some (vI v))->
     ∃W',(Builtin.copy_ #[aj,aj] aq #[.slice (some ⟨g,i,none⟩) (k-i) dc,.slice (some sa) sl sc]).run prog W=.ok (vI ((j:Nat):Int)) W'/\ai W' g aq ((mK v (i+j) k).map λx=>vI x)/\W.grownBy W' (some g):=by
   intro W i j sa sl sc dc hA hi hj hc
   have hjk:i+j <=k:=by
     have:Nat.min sl (k-i) <=k-i:=Nat.min_le_right _ _
     omega
   have hlen:=congrArg List.length (nh v i k)
   have hrun:=run_copy_row (P:=prog) W aj aj aq aq g i (k-i) dc sa sl sc ((mK v i k).map λx=>vI x).toArray aq (List.replicate j (vI v)) aA (by rw[hti];simp[hsz]) hA (by rw[List.length_replicate];exact hj)
     (λt u hu=>by
       have ht:t<j:=by have:=(List.getElem?_eq_some_iff.1 hu).1;simpa using this
       rw[List.getElem?_replicate,if_pos ht]at hu
       rw[<- Option.some.inj hu];exact hc t ht)
     (by simp[E2 hi];try omega) (λu hu=>by rw[(List.mem_replicate.1 hu).2];rfl)
   refine⟨_,by rw[hrun,List.length_replicate];rfl,?_,ey W g _⟩
   have hh:=setRow_heap W g ((mK v i k).map λx=>vI x).toArray ((((mK v i k).map λx=>vI x).toArray.toList.take i++List.replicate j (vI v)++((mK v i k).map λx=>vI x).toArray.toList.drop (i+(List.replicate j (vI v)).length)).toArray) aq (0,0) hA
   have e:(((mK v i k).map λx=>vI x).toArray.toList.take i++List.replicate j (vI v)++((mK v i k).map λx=>vI x).toArray.toList.drop (i+(List.replicate j (vI v)).length))=(mK v (i+j) k).map λx=>vI x:=by
     simp only[List.length_replicate]
     rw[nh,nh,List.take_left' (by simp),List.drop_append,List.drop_of_length_le (by simp <;> omega),List.nil_append,List.length_replicate,List.drop_replicate,List.replicate_append_replicate]
     congr 2
     try omega
   rw[List.length_replicate]at hh e
   unfold ai
   rw[<- e]
   exact hh
 obtain⟨b,off,rfl,hbl,_,l,hl,hcell⟩:=hs.2.2.2.resolve_left (by simp)
 have hl':l=[vI v]:=dH (h1:=λ_=>rfl) hl
 subst hl'
 have s0:=hcell 0 (by simp)
 have A30':ai w30 g aq ((mK v 0 k).map λx=>vI x):=by rw[nh];simpa using A30
 obtain⟨w33,r33,A33,g33⟩:=step w30 0 1 ⟨b,off,none⟩ 1 c0 k A30' (Nat.zero_le _) (by show 1=Nat.min 1 (k-0);exact(Nat.min_eq_left (by omega)).symm) (λt ht=>by
   have:t=0:=by omega
   subst this
   rw[tH,iW (hb30.block b hbl)]
   simpa using s0)
 rw[Nat.sub_zero]at r33
 refine⟨w33,_,r33,?_⟩
 have hg0:w.heap.size <=g:=by omega
 have hb33:bW w w33:=Below.put hb30 g33 hg0
 refine⟨λm n w'=>∃i:Nat,n=(i:Int)/\1 <=i/\i <=k/\m=k-i/\ai w' g aq ((mK v i k).map λx=>vI x)/\bW w w',⟨_,1,rfl,Nat.le_refl _,h1,rfl,A33,hb33⟩,?_⟩
 intro m n
 refine aL.of ?_ _
 rintro wl ⟨i,rfl,hi1,hik,rfl,Al,hbl'⟩
 refine ah.of (λh=>?_) (λh=>?_) <;> simp only[dTx,dFx]at h
 · refine⟨⟨by omega,by omega⟩,⟨by omega,by omega⟩,?_⟩
   have Ad:ai (World.drew wl) g aq ((mK v i k).map λx=>vI x):=Al.below (aQ wl)
   obtain⟨w45,r45,A45,g45⟩:=step (World.drew wl) i (Nat.min i (k-i)) ⟨g,0,none⟩ i k (k-i) Ad hik rfl (λt ht=>by
     have hti':t<i:=Nat.lt_of_lt_of_le ht (Nat.min_le_left _ _)
     rw[dy,Nat.zero_add,Ad.cell,nh,List.getElem?_append_left (by simpa using hti'),List.getElem?_replicate,if_pos hti'])
   have es:kU (some ⟨g,0,none⟩) k i 1=some ⟨g,i,none⟩:=by
     unfold kU
     rw[if_neg (by omega)]
     show some (Addr.add ⟨g,0,none⟩ (i*1))=_
     rw[dy,Nat.mul_one,Nat.zero_add]
   rw[Int.toNat_natCast,es]
   have hmin:1 <=Nat.min i (k-i):=by
     show 1 <=min i (k-i)
     omega
   have hmin2:Nat.min i (k-i) <=k-i:=Nat.min_le_right _ _
   refine⟨w45,_,r45,k-(i+Nat.min i (k-i)),by omega,i+Nat.min i (k-i),?_,by omega,by omega,rfl,A45,Below.put (hbl'.trans ((aQ wl).mono hbl'.size)) g45 hg0⟩
   rw[ar (by omega) (by omega)];omega
 · have:i=k:=by omega
   subst this
   have e:(mK v i i)=List.replicate i v:=by simp[mK]
   rw[e]at Al
   have ho:=Ow.ofArr (A:=NoB) Al (by rw[List.length_replicate];show i <=9223372036854775807;omega)
   rw[List.length_replicate]at ho
   exact⟨_,rfl,ho,λx hx=>by simp[bi]at hx;omega,hbl'⟩
abbrev Pr:=Nat×Nat
def toP (a b:DA)(p:Pr)(x:Nat):Pr:=(a.to p.1 x,b.to p.2 x)
def Gy (a b:DA)(p:Pr)(w:List Nat):Pr:=(a.run p.1 w,b.run p.2 w)
structure fN (a b:DA)(f:Bool->Bool->Bool)(d:DA)(ps:List Pr):Prop where
 k:d.k=a.k
 st:d.st=0
 first:ps[0]? =some (a.s,b.s)
 nd:ps.Nodup
 inn:∀p∈ps,p.1<a.n/\p.2<b.n
 reach:∀p∈ps,∃w:List Nat,(∀x∈w,x<a.K)/\Gy a b (a.s,b.s) w=p
 ac:d.ac=ps.map λp=>f (a.acc p.1) (b.acc p.2)
 len:d.nx.length=ps.length*a.K
 nx:∀i x p,ps[i]? =some p->x<a.K->∃j:Nat,d.nx[i*a.K+x]? =some (j:Int)/\ps[j]? =some (toP a b p x)
theorem nj {α:Type}{l:List α}{i:Nat}{d v:α}(h:l[i]? =some v):l.getD i d=v:=by rw[List.getD_eq_getElem?_getD,h];rfl
theorem bP {α:Type}{l:List α}{i:Nat}{v:α}(h:l[i]? =some v):i<l.length:=(List.getElem?_eq_some_iff.1 h).1
theorem fN.kk {a b:DA}{f:Bool->Bool->Bool}{d:DA}{ps:List Pr}(h:fN a b f d ps):d.K=a.K:=by unfold DA.K;rw[h.k]
theorem fN.n {a b:DA}{f:Bool->Bool->Bool}{d:DA}{ps:List Pr}(h:fN a b f d ps):d.ac.length=ps.length:=by rw[h.ac,List.length_map]
theorem fN.ok {a b:DA}{f:Bool->Bool->Bool}{d:DA}{ps:List Pr}(h:fN a b f d ps)(ha:a.Ok)(hl:ps.length <=65536):d.Ok where
 k1:=by rw[h.k];exact ha.k1
 k2:=by rw[h.k];exact ha.k2
 n1:=by have:=bP h.first;have:=h.n;omega
 n2:=by have:=h.n;omega
 len:=by
   have h1:=h.len
   have h2:=h.n
   have h3:d.ac.length=ps.length:=h2
   rw[h1,h3,h.k,<- ha.kk,Int.natCast_mul]
 s0:=by rw[h.st];exact Int.le_refl _
 s1:=by have:=bP h.first;have:=h.n;rw[h.st];omega
 nx0:=λv hv=>by
   obtain⟨i,hi,e⟩:=List.mem_iff_getElem.1 hv
   have hK:0<a.K:=by have:=ha.k1;show 0<a.k.toNat;omega
   have hi':=hi
   rw[h.len]at hi'
   have hr:i/a.K<ps.length:=Nat.div_lt_of_lt_mul (by rw[Nat.mul_comm];exact hi')
   obtain⟨j,e1,e2⟩:=h.nx (i/a.K) (i%a.K) _ (List.getElem?_eq_getElem hr) (Nat.mod_lt _ hK)
   rw[show i/a.K*a.K+i%a.K=i from by rw[Nat.mul_comm];exact Nat.div_add_mod i a.K,List.getElem?_eq_getElem hi,e]at e1
   have hj:=bP e2
   have h2:d.ac.length=ps.length:=h.n
   have e3:v=(j:Int):=Option.some.inj e1
   omega
theorem fN.to {a b:DA}{f:Bool->Bool->Bool}{d:DA}{ps:List Pr}(h:fN a b f d ps){i x:Nat}{p:Pr}(hi:ps[i]? =some p)(hx:x<a.K):ps[d.to i x]? =some (toP a b p x):=by
 obtain⟨j,e1,e2⟩:=h.nx i x p hi hx
 unfold DA.to
 rw[h.kk,nj e1]
 exact e2
theorem fN.run {a b:DA}{f:Bool->Bool->Bool}{d:DA}{ps:List Pr}(h:fN a b f d ps):∀{w:List Nat} {i:Nat} {p:Pr},ps[i]? =some p->(∀x∈w,x<a.K)->ps[d.run i w]? =some (Gy a b p w)
 | [],i,p,hi,_=>hi
 | x::w,i,p,hi,hw=>by
   show ps[d.run (d.to i x) w]? =some (Gy a b (toP a b p x) w)
   exact h.run (h.to hi (hw x List.mem_cons_self)) λy hy=>hw y (List.mem_cons_of_mem _ hy)
theorem fN.acc {a b:DA}{f:Bool->Bool->Bool}{d:DA}{ps:List Pr}(h:fN a b f d ps){i:Nat}{p:Pr}(hi:ps[i]? =some p):d.acc i=f (a.acc p.1) (b.acc p.2):=by
 unfold DA.acc
 rw[h.ac]
 exact nj (by rw[List.getElem?_map,hi];rfl)
theorem fN.lang {a b:DA}{f:Bool->Bool->Bool}{d:DA}{ps:List Pr}(h:fN a b f d ps)(w:List Nat):
   d.Lang d.s w ↔ (∀x∈w,x<a.K)/\f (a.acc (a.run a.s w)) (b.acc (b.run b.s w))=true:=by
 unfold DA.Lang
 rw[h.kk]
 have hs:d.s=0:=by unfold DA.s;rw[h.st];rfl
 constructor
 · rintro⟨h1,h2⟩
   rw[hs,h.acc (h.run h.first h1)]at h2
   exact⟨h1,h2⟩
 · rintro⟨h1,h2⟩
   refine⟨h1,?_⟩
   rw[hs,h.acc (h.run h.first h1)]
   exact h2
theorem FA {n m:Nat} :∀{ps:List Pr},ps.Nodup->(∀p∈ps,p.1<n/\p.2<m)->ps.length <=n*m:=by
 intro ps hn hp
 have h1:(ps.map λp=>p.1*m+p.2).Nodup:=by
   rw[List.Nodup,List.pairwise_map]
   refine List.Pairwise.imp_of_mem (fun{p q} hpm hqm hne e=>hne ?_) hn
   have h2:=(hp p hpm).2
   have h3:=(hp q hqm).2
   have e1:(p.1*m+p.2)/m=p.1:=by rw[Nat.mul_comm,Nat.mul_add_div (by omega),Nat.div_eq_of_lt h2,Nat.add_zero]
   have e2:(q.1*m+q.2)/m=q.1:=by rw[Nat.mul_comm,Nat.mul_add_div (by omega),Nat.div_eq_of_lt h3,Nat.add_zero]
   have e3:p.1=q.1:=by rw[<- e1,<- e2,e]
   rw[e3]at e
   exact Prod.ext e3 (by omega)
 have h2:=kC (n:=n*m) h1 λx hx=>by
   obtain⟨p,hpm,rfl⟩:=List.mem_map.1 hx
   exact qt (hp p hpm).1 (hp p hpm).2
 simpa using h2
structure ze (a b:DA)(f:Bool->Bool->Bool)(ps:List Pr)(ac:List Bool)(nx:List Int)(i x:Nat):Prop where
 first:ps[0]? =some (a.s,b.s)
 nd:ps.Nodup
 inn:∀p∈ps,p.1<a.n/\p.2<b.n
 reach:∀p∈ps,∃w:List Nat,(∀x∈w,x<a.K)/\Gy a b (a.s,b.s) w=p
 le:ac.length <=ps.length
 acs:ac=(ps.take ac.length).map λp=>f (a.acc p.1) (b.acc p.2)
 len:nx.length=ac.length*a.K
 ways:∀j y p,(j<i/\y<a.K\/j=i/\y<x)->ps[j]? =some p->∃t:Nat,nx[j*a.K+y]? =some (t:Int)/\ps[t]? =some (toP a b p y)
theorem ze.start {a b:DA}{f:Bool->Bool->Bool}(ha:a.Ok)(hb:b.Ok):ze a b f [(a.s,b.s)] [] [] 0 0 where
 first:=rfl
 nd:=by simp
 inn:=λp hp=>by
   rw[List.mem_singleton]at hp;subst hp;exact⟨ha.s_lt,hb.s_lt⟩
 reach:=λp hp=>by
   rw[List.mem_singleton]at hp;subst hp;exact⟨[],by simp,rfl⟩
 le:=by simp
 acs:=rfl
 len:=by simp
 ways:=λj y p h=>by omega
theorem FW (a b:DA)(p:Pr)(w:List Nat)(x:Nat):Gy a b p (w++[x])=toP a b (Gy a b p w) x:=by
 unfold Gy toP
 rw[om,om]
 rfl
theorem ze.state {a b:DA}{f:Bool->Bool->Bool}{ps:List Pr}{ac:List Bool}{nx:List Int}{i:Nat}(h:ze a b f ps ac nx i 0)(hi:ac.length=i){p:Pr}(hp:ps[i]? =some p):
   ze a b f ps (ac++[f (a.acc p.1) (b.acc p.2)]) (nx++List.replicate a.K 0) i 0 where
 first:=h.first
 nd:=h.nd
 inn:=h.inn
 reach:=h.reach
 le:=by have:=bP hp;simp;omega
 acs:=by
   have hl:=bP hp
   rw[List.length_append,List.length_singleton,hi,List.take_succ_eq_append_getElem hl,List.map_append]
   have h1:=h.acs
   rw[hi]at h1
   rw[<- h1,(List.getElem?_eq_some_iff.1 hp).2]
   rfl
 len:=by rw[List.length_append,List.length_replicate,List.length_append,List.length_singleton,Nat.succ_mul,h.len]
 ways:=λj y q hj hq=>by
   obtain⟨t,e1,e2⟩:=h.ways j y q hj hq
   exact⟨t,by rw[List.getElem?_append_left (bP e1)];exact e1,e2⟩
theorem ze.put {a b:DA}{f:Bool->Bool->Bool}(ha:a.Ok)(hb:b.Ok)(hk:a.k=b.k){ps:List Pr}{ac:List Bool}{nx:List Int}{i x:Nat}(h:ze a b f ps ac nx i x)(hi:ac.length=i+1)(hx:x<a.K){p:Pr}(hp:ps[i]? =some p)
   {ps':List Pr} {t:Nat} (hps:ps'=ps\/ps'=ps++[toP a b p x]/\toP a b p x ∉ ps) (ht:ps'[t]? =some (toP a b p x)):
   ze a b f ps' ac (nx.set (i*a.K+x) (t:Int)) i (x+1):=by
 have hpm:p∈ps:=List.mem_of_getElem? hp
 have hin:=h.inn p hpm
 have hkK:b.K=a.K:=by unfold DA.K;rw[hk]
 have hq:(toP a b p x).1<a.n/\(toP a b p x).2<b.n:=⟨ha.to_lt hin.1 hx,hb.to_lt hin.2 (by rw[hkK];exact hx)⟩
 have hr:∃w:List Nat,(∀x∈w,x<a.K)/\Gy a b (a.s,b.s) w=toP a b p x:=by
   obtain⟨w,hw,e⟩:=h.reach p hpm
   refine⟨w++[x],λy hy=>?_,by rw[FW,e]⟩
   rcases List.mem_append.1 hy with hy|hy
   · exact hw y hy
   · rw[List.mem_singleton]at hy;subst hy;exact hx
 have hold:∀{j:Nat} {q:Pr},ps[j]? =some q->ps'[j]? =some q:=fun{j q} hj=>by
   rcases hps with rfl|⟨rfl,_⟩
   · exact hj
   · rw[List.getElem?_append_left (bP hj)];exact hj
 have hlen:i*a.K+x<nx.length:=by rw[h.len,hi];exact qt (Nat.lt_succ_self i) hx
 have hmem:∀q∈ps',q∈ps\/q=toP a b p x:=λq hq=>by
   rcases hps with rfl|⟨rfl,_⟩
   · exact .inl hq
   · rcases List.mem_append.1 hq with hq|hq
     · exact .inl hq
     · exact .inr (List.mem_singleton.1 hq)
 refine⟨hold h.first,?_,λq hq'=>?_,λq hq'=>?_,?_,?_,by rw[List.length_set];exact h.len,λj y q hj hq'=>?_⟩
 · rcases hps with rfl|⟨rfl,hno⟩
   · exact h.nd
   · refine List.nodup_append.2 ⟨h.nd,by simp,λu hu v hv e=>?_⟩
     rw[List.mem_singleton]at hv
     subst hv
     exact hno (e▸hu)
 · rcases hmem q hq' with h1|rfl
   · exact h.inn q h1
   · exact hq
 · rcases hmem q hq' with h1|rfl
   · exact h.reach q h1
   · exact hr
 · rcases hps with rfl|⟨rfl,_⟩
   · exact h.le
   · have:=h.le;simp;omega
 · have h1:=h.acs
   rcases hps with rfl|⟨rfl,_⟩
   · exact h1
   · rw[List.take_append_of_le_length h.le];exact h1
 · have hjl:j <=i:=by omega
   have hil:i<ps.length:=bP hp
   have hq0:ps[j]? =some q:=by
     rcases hps with rfl|⟨rfl,_⟩
     · exact hq'
     · rw[List.getElem?_append_left (by omega)]at hq';exact hq'
   by_cases e:j=i/\y=x
   · obtain⟨rfl,rfl⟩:=e
     refine⟨t,by rw[List.getElem?_set_self hlen],?_⟩
     rw[hp]at hq0
     rw[<- Option.some.inj hq0]
     exact ht
   · have hy:y<a.K:=by omega
     obtain⟨t',e1,e2⟩:=h.ways j y q (by omega) hq0
     refine⟨t',?_,hold e2⟩
     rw[List.getElem?_set_ne]
     · exact e1
     · intro e3
       have hK:0<a.K:=by omega
       have h4:(i*a.K+x)/a.K=i:=by rw[Nat.mul_comm,Nat.mul_add_div hK,Nat.div_eq_of_lt hx,Nat.add_zero]
       have h5:(j*a.K+y)/a.K=j:=by rw[Nat.mul_comm,Nat.mul_add_div hK,Nat.div_eq_of_lt hy,Nat.add_zero]
       have h6:i=j:=by rw[<- h4,<- h5,e3]
       subst h6
       exact e ⟨rfl,by omega⟩
theorem ze.row {a b:DA}{f:Bool->Bool->Bool}{ps:List Pr}{ac:List Bool}{nx:List Int}{i:Nat}(h:ze a b f ps ac nx i a.K):ze a b f ps ac nx (i+1) 0:=
 { h with ways:=λj y p hj hp=>h.ways j y p (by omega) hp }
theorem ze.done {a b:DA}{f:Bool->Bool->Bool}{ps:List Pr}{ac:List Bool}{nx:List Int}{i:Nat}(h:ze a b f ps ac nx i 0)(hi:ac.length=i)(hl:ps.length <=ac.length):fN a b f ⟨a.k,0,nx,ac⟩ ps where
 k:=rfl
 st:=rfl
 first:=h.first
 nd:=h.nd
 inn:=h.inn
 reach:=h.reach
 ac:=by
   have h1:=h.acs
   rw[List.take_of_length_le hl]at h1
   exact h1
 len:=by
   have:=h.le
   show nx.length=_
   rw[h.len,show ac.length=ps.length by omega]
 nx:=λj x p hj hx=>h.ways j x p (.inl ⟨by have:=bP hj;omega,hx⟩) hj
def GV (m:Nat)(w v:List Nat):Prop:=if m=0 then v=w else if m=1 then w <+:v else w <+:v/\w.length<v.length
structure tF (d:DA)(w:List Nat)(m:Nat):Prop where
 ok:d.Ok
 st:d.s=1
 mm:m <=2
 n:d.n=w.length+2+m/2
 acc:∀s,s<d.n->d.acc s=decide (s=w.length+1+m/2)
 sink:∀x,x<d.K->d.to 0 x=0
 mid:∀(i x:Nat) (hi:i<w.length),x<d.K->d.to (i+1) x=if x=w[i]then i+2 else 0
 last:∀x,x<d.K->d.to (w.length+1) x=if m=0 then 0 else w.length+m
 more:m=2->∀x,x<d.K->d.to (w.length+2) x=w.length+2
theorem tF.run0 {d:DA}{w:List Nat}{m:Nat}(h:tF d w m):∀{v:List Nat},(∀x∈v,x<d.K)->d.run 0 v=0
 | [],_=>rfl
 | x::v,hv=>by
   show d.run (d.to 0 x) v=0
   rw[h.sink x (hv x List.mem_cons_self)]
   exact h.run0 λy hy=>hv y (List.mem_cons_of_mem _ hy)
theorem tF.runM {d:DA}{w:List Nat}{m s:Nat}(h:tF d w m)(hs:∀x,x<d.K->d.to s x=s):∀{v:List Nat},(∀x∈v,x<d.K)->d.run s v=s
 | [],_=>rfl
 | x::v,hv=>by
   show d.run (d.to s x) v=s
   rw[hs x (hv x List.mem_cons_self)]
   exact h.runM hs λy hy=>hv y (List.mem_cons_of_mem _ hy)
theorem tF.acc_at {d:DA}{w:List Nat}{m s:Nat}(h:tF d w m)(hs:s<w.length+2+m/2):d.acc s=true ↔ s=w.length+1+m/2:=by
 rw[h.acc s (by rw[h.n];exact hs)];simp
theorem G1 {w:List Nat}{i:Nat}(h:i<w.length):w.drop i=w[i]::w.drop (i+1):=List.drop_eq_getElem_cons h
theorem tF.from {d:DA}{w:List Nat}{m:Nat}(h:tF d w m):∀{v:List Nat} {i:Nat},i <=w.length->(∀x∈v,x<d.K)->(d.acc (d.run (i+1) v)=true ↔ GV m (w.drop i) v)
 | [],i,hi,_=>by
   have hm:=h.mm
   show d.acc (i+1)=true ↔ _
   rw[h.acc_at (by omega)]
   unfold GV
   by_cases h0:m=0
   · subst h0
     simp only[if_true]
     constructor
     · intro e;rw[List.drop_eq_nil_of_le (by omega)]
     · intro e
       have:=congrArg List.length e
       simp only[List.length_nil,List.length_drop]at this
       omega
   · rw[if_neg h0]
     by_cases h1:m=1
     · subst h1
       simp only[if_true,List.prefix_nil,List.drop_eq_nil_iff]
       omega
     · rw[if_neg h1]
       simp only[List.length_nil]
       omega
 | x::v,i,hi,hv=>by
   have hm:=h.mm
   have hx:=hv x List.mem_cons_self
   have hv':∀y∈v,y<d.K:=λy hy=>hv y (List.mem_cons_of_mem _ hy)
   show d.acc (d.run (d.to (i+1) x) v)=true ↔ _
   rcases Nat.lt_or_ge i w.length with hlt|hge
   · rw[h.mid i x hlt hx,G1 hlt]
     by_cases e:x=w[i]
     · rw[if_pos e,h.from (i:=i+1) hlt hv']
       unfold GV
       subst e
       simp only[List.cons.injEq,true_and,List.cons_prefix_cons,List.length_cons,Nat.add_lt_add_iff_right]
     · rw[if_neg e,h.run0 hv',h.acc_at (by omega)]
       have hne: ¬ (x::v=w[i]::w.drop (i+1)):=λh0=>e (List.cons.inj h0).1
       have hnp: ¬ (w[i]::w.drop (i+1) <+:x::v):=λh0=>e (List.cons_prefix_cons.1 h0).1.symm
       constructor
       · intro h0;omega
       · intro h0
         unfold GV at h0
         split at h0
         · exact(hne h0).elim
         · split at h0
           · exact(hnp h0).elim
           · exact(hnp h0.1).elim
   · have hi':i=w.length:=by omega
     subst hi'
     rw[List.drop_length,h.last x hx]
     unfold GV
     by_cases h0:m=0
     · subst h0
       rw[if_pos rfl,h.run0 hv',h.acc_at (by omega)]
       simp
     · rw[if_neg h0,if_neg h0]
       by_cases h1:m=1
       · subst h1
         rw[h.runM (λy hy=>by rw[h.last y hy];simp) hv',h.acc_at (by omega)]
         simp
       · have h2:m=2:=by omega
         subst h2
         rw[h.runM (h.more rfl) hv',h.acc_at (by omega)]
         simp
theorem tF.lang {d:DA}{w:List Nat}{m:Nat}(h:tF d w m)(v:List Nat):d.Lang d.s v ↔ (∀x∈v,x<d.K)/\GV m w v:=by
 unfold DA.Lang
 rw[h.st]
 refine and_congr_right λhv=>?_
 have:=h.from (i:=0) (Nat.zero_le _) hv
 simpa using this
def nv (k:Nat)(t:Int):List Int:=List.replicate k t
def eZ (k:Nat):List Nat->Nat->List Int
 | [],_=>[]
 | x::w,s=>(nv k 0).set x ((s+1:Nat):Int)++eZ k w (s+1)
theorem tQ (k:Nat):∀(u:List Nat) (x s:Nat),eZ k (u++[x]) s=eZ k u s++(nv k 0).set x ((s+u.length+1:Nat):Int)
 | [],x,s=>by simp[eZ]
 | y::u,x,s=>by
   simp only[List.cons_append,eZ]
   rw[tQ k u x (s+1),List.append_assoc]
   simp only[List.length_cons]
   rw[show s+1+u.length+1=s+(u.length+1)+1 by omega]
theorem lh (k:Nat):∀(u:List Nat) (s:Nat),(eZ k u s).length=u.length*k
 | [],s=>by simp[eZ]
 | y::u,s=>by
   simp only[eZ,List.length_append,List.length_set,nv,List.length_replicate,List.length_cons,Nat.succ_mul,lh k u (s+1)]
   omega
theorem Kg {nx A R B:List Int}{s k x:Nat}(e:nx=A++(R++B))(hA:A.length=s*k)(hR:R.length=k)(hx:x<k):nx.getD (s*k+x) 0=R.getD x 0:=by
 subst e
 rw[List.getD_eq_getElem?_getD,List.getD_eq_getElem?_getD,List.getElem?_append_right (by omega),hA,show s*k+x-s*k=x by omega,List.getElem?_append_left (by omega)]
theorem wS (k:Nat):∀(u:List Nat) (s i:Nat) (hi:i<u.length),eZ k u s=eZ k (u.take i) s++((nv k 0).set u[i] ((s+i+1:Nat):Int)++eZ k (u.drop (i+1)) (s+i+1))
 | [],_,_,h=>absurd h (Nat.not_lt_zero _)
 | y::u,s,0,_=>by simp[eZ]
 | y::u,s,i+1,h=>by
   have hi:i<u.length:=by simpa using h
   have e:=wS k u (s+1) i hi
   simp only[List.take_succ_cons,List.drop_succ_cons,List.getElem_cons_succ,eZ]
   rw[e,List.append_assoc]
   rw[show s+1+i+1=s+(i+1)+1 by omega]
theorem zH {k x:Nat}(t:Int)(hx:x<k):(nv k t).getD x 0=t:=by simp[nv,List.getD_eq_getElem?_getD,hx]
theorem zI {k x y:Nat}(v:Int)(hx:x<k)(hy:y<k):((nv k 0).set y v).getD x 0=if x=y then v else 0:=by
 rw[List.getD_eq_getElem?_getD]
 by_cases e:x=y
 · subst e
   rw[List.getElem?_set_self (by simpa[nv]using hx),if_pos rfl];rfl
 · rw[List.getElem?_set_ne (λe2=>e e2.symm),if_neg e]
   simp[nv,hx]
def Ed (k:Nat)(w:List Nat)(t:Int):List Int:=nv k 0++(eZ k w 1++nv k t)
def Ec (w:List Nat):List Bool:=List.replicate (w.length+1) false++[true]
def chD (k:Nat)(w:List Nat)(t:Int):DA:=⟨(k:Int),1,Ed k w t,Ec w⟩
theorem lP (w:List Nat):(Ec w).length=w.length+2:=by simp[Ec]
theorem Cm (k:Nat)(w:List Nat)(t:Int):(Ed k w t).length=(w.length+2)*k:=by
 simp only[Ed,List.length_append,nv,List.length_replicate,lh]
 rw[show w.length+2=w.length+1+1 by omega,Nat.succ_mul,Nat.succ_mul]
 omega
theorem xg (k:Nat):∀(u:List Nat) (s:Nat) (v:Int),v∈eZ k u s->v=0\/((s:Int)<v/\v <=((s+u.length:Nat):Int))
 | [],s,v,h=>by simp[eZ]at h
 | y::u,s,v,h=>by
   simp only[eZ,List.mem_append]at h
   rcases h with h|h
   · rcases List.mem_or_eq_of_mem_set h with h|h
     · simp[nv,List.mem_replicate]at h;exact .inl h.2
     · simp only[List.length_cons];omega
   · rcases xg k u (s+1) v h with h|h
     · exact .inl h
     · simp only[List.length_cons];omega
theorem JI {w:List Nat}{s:Nat}(hs:s<w.length+2):(Ec w).getD s false=decide (s=w.length+1):=by
 unfold Ec
 rw[List.getD_eq_getElem?_getD]
 by_cases e:s=w.length+1
 · subst e
   rw[List.getElem?_append_right (by simp)]
   simp
 · rw[List.getElem?_append_left (by simp;omega),List.getElem?_replicate,if_pos (by omega)]
   simp[e]
theorem Fq {k:Nat}(hk1:1 <=k)(hk2:k <=512){w:List Nat}(hw:∀x∈w,x<k)(hl:w.length <=65534)(m:Nat)(hm:m<2):tF (chD k w (if m=0 then 0 else((w.length+1:Nat):Int))) w m:=by
 have hK:(chD k w (if m=0 then 0 else((w.length+1:Nat):Int))).K=k:=by simp[DA.K,chD]
 have hto:∀{s x:Nat} {A R B:List Int},Ed k w (if m=0 then 0 else((w.length+1:Nat):Int))=A++(R++B)->A.length=s*k->R.length=k->x<k->(chD k w (if m=0 then 0 else((w.length+1:Nat):Int))).to s x=(R.getD x 0).toNat:=λe hA hR hx=>by
   unfold DA.to
   rw[hK]
   exact congrArg Int.toNat (Kg e hA hR hx)
 have hn:(chD k w (if m=0 then 0 else((w.length+1:Nat):Int))).n=w.length+2:=lP w
 have hm2:m/2=0:=by omega
 refine⟨⟨?_,?_,?_,?_,?_,?_,?_,?_⟩,rfl,by omega,by rw[hn,hm2],λs hs=>?_,λx hx=>?_,λi x hi hx=>?_,λx hx=>?_,λe=>by omega⟩
 · show(1:Int) <=(k:Int);omega
 · show(k:Int) <=512;omega
 · rw[show(chD k w (if m=0 then 0 else((w.length+1:Nat):Int))).ac=Ec w from rfl,lP];omega
 · rw[show(chD k w (if m=0 then 0 else((w.length+1:Nat):Int))).ac=Ec w from rfl,lP];omega
 · show((Ed k w _).length:Int)=((Ec w).length:Int)*(k:Int)
   rw[Cm,lP,Int.natCast_mul]
 · show(0:Int) <=1;omega
 · show(1:Int)<((Ec w).length:Int);rw[lP];omega
 · intro v hv
   show 0 <=v/\v<((Ec w).length:Int)
   rw[lP]
   have hv':v∈Ed k w (if m=0 then 0 else((w.length+1:Nat):Int)):=hv
   unfold Ed at hv'
   rcases List.mem_append.1 hv' with h|h
   · simp[nv,List.mem_replicate]at h;omega
   · rcases List.mem_append.1 h with h|h
     · rcases xg k w 1 v h with h|h <;> omega
     · have:=(List.mem_replicate.1 h).2
       split at this <;> omega
 · show(Ec w).getD s false=_
   rw[hn]at hs
   rw[JI hs,hm2]
   try simp
 · rw[hK]at hx
   rw[hto (A:=[]) (s:=0) (x:=x) (by unfold Ed;rfl) (by simp) (by simp[nv]) hx,zH _ hx]
   try rfl
 · rw[hK]at hx
   have e:=wS k w 1 i hi
   rw[hto (A:=nv k 0++eZ k (w.take i) 1) (s:=i+1) (x:=x) (R:=(nv k 0).set w[i] ((1+i+1:Nat):Int)) (by unfold Ed;rw[e];simp only[List.append_assoc];rfl)
     (by rw[List.length_append,lh,List.length_take,Nat.min_eq_left (by omega),nv,List.length_replicate,Nat.succ_mul];omega) (by simp[nv]) hx,zI _ hx (hw _ (List.getElem_mem hi))]
   split
   · show(((1+i+1:Nat):Int)).toNat=i+2
     omega
   · rfl
 · rw[hK]at hx
   rw[hto (A:=nv k 0++eZ k w 1) (s:=w.length+1) (x:=x) (B:=[]) (by unfold Ed;simp only[List.append_assoc,List.append_nil];rfl)
     (by rw[List.length_append,lh,nv,List.length_replicate,Nat.succ_mul];omega) (by simp[nv]) hx,zH _ hx]
   split
   · rfl
   · have:m=1:=by omega
     subst this;rfl
def fR (k at_:Nat)(v:Int)(nx:List Int):Nat->List Int
 | 0=>nx
 | j+1=>(fR k at_ v nx j).set (at_*k+j) v
theorem rY (k a:Nat)(v:Int)(nx:List Int):∀j,(fR k a v nx j).length=nx.length
 | 0=>rfl
 | j+1=>by simp[fR,rY k a v nx j]
theorem tF.to_up {d:DA}{w:List Nat}{m:Nat}(h:tF d w m){s x:Nat}(hs:s<d.n)(hx:x<d.K):d.to s x=0\/s <=d.to s x:=by
 have hm:=h.mm
 have hn:=h.n
 rcases Nat.eq_zero_or_pos s with rfl|h0
 · exact .inl (h.sink x hx)
 · obtain⟨i,rfl⟩:∃i,s=i+1:=⟨s-1,by omega⟩
   rcases Nat.lt_trichotomy i w.length with hi|hi|hi
   · rw[h.mid i x hi hx]
     split
     · right;omega
     · exact .inl rfl
   · subst hi
     rw[h.last x hx]
     split
     · exact .inl rfl
     · right;omega
   · have h2:m=2:=by omega
     have h3:i=w.length+1:=by omega
     subst h3
     right
     rw[show w.length+1+1=w.length+2 by omega,h.more h2 x hx]
     exact Nat.le_refl _
theorem tF.run_up {d:DA}{w:List Nat}{m:Nat}(h:tF d w m):∀{v:List Nat} {s:Nat},s<d.n->(∀x∈v,x<d.K)->d.run s v=0\/s <=d.run s v
 | [],s,_,_=>.inr (Nat.le_refl _)
 | x::v,s,hs,hv=>by
   have hx:=hv x List.mem_cons_self
   have hv':∀y∈v,y<d.K:=λy hy=>hv y (List.mem_cons_of_mem _ hy)
   show d.run (d.to s x) v=0\/s <=d.run (d.to s x) v
   rcases h.to_up hs hx with e|e
   · rw[e];exact .inl (h.run0 hv')
   · rcases h.run_up (h.ok.to_lt hs hx) hv' with e2|e2
     · exact .inl e2
     · exact .inr (Nat.le_trans e e2)
theorem tF.run_at {d:DA}{w:List Nat}{m:Nat}(h:tF d w m){i:Nat}(hi:i<w.length):∀{v:List Nat} {j:Nat},j <=i->(∀x∈v,x<d.K)->(d.run (j+1) v=i+1 ↔ v=(w.take i).drop j)
 | [],j,hj,_=>by
   show j+1=i+1 ↔ _
   constructor
   · intro e
     have:j=i:=by omega
     subst this
     rw[List.drop_eq_nil_of_le (by rw[List.length_take];omega)]
   · intro e
     have:=congrArg List.length e
     rw[List.length_nil,List.length_drop,List.length_take]at this
     omega
 | x::v,j,hj,hv=>by
   have hx:=hv x List.mem_cons_self
   have hv':∀y∈v,y<d.K:=λy hy=>hv y (List.mem_cons_of_mem _ hy)
   have hn:=h.n
   show d.run (d.to (j+1) x) v=i+1 ↔ _
   rw[h.mid j x (by omega) hx]
   rcases Nat.lt_or_ge j i with hlt|hge
   · have e:(w.take i).drop j=w[j]'(by omega)::(w.take i).drop (j+1):=by
       rw[List.drop_eq_getElem_cons (by rw[List.length_take];omega),List.getElem_take]
     rw[e]
     by_cases ex:x=w[j]'(by omega)
     · rw[if_pos ex,h.run_at hi (j:=j+1) hlt hv',ex]
       simp
     · rw[if_neg ex,h.run0 hv']
       simp[ex]
   · have:j=i:=by omega
     subst this
     rw[List.drop_eq_nil_of_le (by rw[List.length_take];omega)]
     simp only[reduceCtorEq,iff_false]
     split
     · rcases h.run_up (s:=j+2) (v:=v) (by omega) hv' with e|e <;> omega
     · rw[h.run0 hv'];omega
theorem Hk {d:DA}{a:Nat}(ha:a<d.n)(v:List Nat):(⟨d.k,d.st,d.nx,d.ac.set a true⟩:DA).Lang d.s v ↔ (∀x∈v,x<d.K)/\(d.acc (d.run d.s v)=true\/d.run d.s v=a):=by
 have hr:∀(v:List Nat) (s:Nat),(⟨d.k,d.st,d.nx,d.ac.set a true⟩:DA).run s v=d.run s v:=by
   intro v
   induction v with
   | nil=>intro s;rfl
   | cons x v ih=>intro s;exact ih _
 unfold DA.Lang
 refine and_congr_right λ_=>?_
 rw[hr]
 unfold DA.acc
 rw[List.getD_eq_getElem?_getD,List.getElem?_set]
 by_cases e:a=d.run d.s v
 · rw[if_pos e,if_pos ha]
   exact⟨λ_=>.inr e.symm,λ_=>rfl⟩
 · rw[if_neg e,List.getD_eq_getElem?_getD]
   exact⟨λh=>.inl h,λh=>h.elim id λe2=>absurd e2.symm e⟩
theorem Ka {d:DA}(h:d.Ok)(a:Nat):(⟨d.k,d.st,d.nx,d.ac.set a true⟩:DA).Ok:=by
 have e:(d.ac.set a true).length=d.ac.length:=by simp
 refine⟨h.k1,h.k2,?_,?_,?_,h.s0,?_,?_⟩ <;> simp only[e]
 · exact h.n1
 · exact h.n2
 · exact h.len
 · exact h.s1
 · exact h.nx0
def noD (k:Nat):DA:=⟨(k:Int),0,List.replicate k 0,[false]⟩
theorem FE {k:Nat}(h1:1 <=k)(h2:k <=512):(noD k).Ok:=by
 refine⟨?_,?_,?_,?_,?_,?_,?_,λv hv=>?_⟩
 · show(1:Int) <=(k:Int);omega
 · show(k:Int) <=512;omega
 · show 1 <=1;omega
 · show 1 <=65536;omega
 · show((List.replicate k (0:Int)).length:Int)=((1:Nat):Int)*(k:Int);rw[List.length_replicate];omega
 · show(0:Int) <=0;omega
 · show(0:Int)<((1:Nat):Int);omega
 · have:=(List.mem_replicate.1 (show v∈List.replicate k (0:Int) from hv)).2
   subst this
   show(0:Int) <=0/\(0:Int)<((1:Nat):Int)
   omega
theorem yF {k:Nat}(v:List Nat)(s:Nat): ¬ (noD k).Lang s v:=by
 rintro⟨_,h⟩
 unfold DA.acc noD at h
 generalize ((⟨(k:Int),0,List.replicate k 0,[false]⟩:DA).run s v)=t at h
 cases t <;> simp at h
structure Em (tm ti tb:TypeId)(w:World)(km:Nat)(a:Option Addr)(n c:Nat)(b:Option Addr)(m e:Nat)(d:DA):Prop where
 var:ai w km tm [vI d.k,vI d.st,.slice a n c,.slice b m e]
 nx:Ow bY ti w NoB a n c d.nx
 ac:Ow ij tb w NoB b m e d.ac
 na:∀g,bi a=some g->g≠km
 nb:∀g,bi b=some g->g≠km
 ne:∀g,bi a=some g->bi b≠some g
theorem Em.below {tm ti tb:TypeId}{w w':World}{km:Nat}{a b:Option Addr}{n c m e:Nat}{d:DA}(h:Em tm ti tb w km a n c b m e d)(hb:bW w w'):Em tm ti tb w' km a n c b m e d:=⟨h.var.below hb,h.nx.below hb,h.ac.below hb,h.na,h.nb,h.ne⟩
def jk (km:Nat)(a b:Option Addr):List Nat:=km::((bi a).toList++(bi b).toList)
theorem cy {km x:Nat}{a b:Option Addr} :x∈jk km a b ↔ x=km\/bi a=some x\/bi b=some x:=by simp[jk]
def jI (w:World)(a a':Option Addr):Prop:=∀g,bi a'=some g->bi a=some g\/w.heap.size <=g
theorem Ow.other {α:Type}{T:Ty α}{t:TypeId}{w w':World}{a b:Option Addr}{n c:Nat}{xs:List α}(h:Ow T t w NoB a n c xs)(hg:w.grownBy w' (bi b))(hne:∀g,bi a=some g->bi b≠some g):Ow T t w' NoB a n c xs:=
 h.keep (iC hg λk hk e=>by
   rcases hk with hk|hk
   · exact hk
   · exact hne k hk.symm e.symm)
abbrev Mk:=Em iq aq bv
theorem Hs (k:Nat):(Option.map (λx=>x.add 0) (some (⟨k,0,none⟩:Addr)))=some ⟨k,0,none⟩:=by simp[Addr.add]
theorem Jh (k o:Nat):(Option.map (λx=>x.add o) (some (⟨k,0,none⟩:Addr)))=some ⟨k,o,none⟩:=by
 simp only[Option.map_some,dy,Nat.zero_add]
theorem tB {w:World}{km:Nat}{a b:Option Addr}{n c m e:Nat}{d:DA}(h:Mk w km a n c b m e d)(hk1:1 <=d.k)(hk2:d.k <=512)(hm:d.ac.length <=200000)(hnx:d.nx.length <=200000*512)(acc:Bool)(t:Int):
   Cf cw #[.pointer (some ⟨km,0,none⟩),.bool acc,vI t] w
     (Ret λv w'=>v=vI ((d.ac.length:Nat):Int)/\∃a' n' c' b' m' e',Mk w' km a' n' c' b' m' e' ⟨d.k,d.st,d.nx++List.replicate d.K t,d.ac++[acc]⟩/\Chg (jk km a b) w w'/\jI w a a'/\jI w b b'):=by
 apply pH
 have hlt:=h.var.lt
 have hml:=h.ac.len
 have hnl:=h.nx.len
 simp only[Hs,Jh]
 refine⟨rfl,rfl,rfl,b,m,e,h.var.load1 aS rfl rfl,?_⟩
 intro k14 w14 hk14 hw14
 have hb14:=(hw14▸af w _:bW w w14)
 have H14:=h.below hb14
 have hsrc:Src ij w14 NoB (some ⟨k14,0,none⟩) 1 [acc]:=Src.new1F qh hk14 hw14 od
 obtain⟨w15,b1,m1,e1,r15,o15,g15,f15⟩:=cr (ty:=aH) aS kW (by decide) H14.ac (λ_ _ h=>h) (cm:=1) hsrc (by simp;omega)
 have hs14:=hb14.size
 have v15:=H14.var.grown g15 λex=>h.nb km ex.symm rfl
 have x15:=H14.nx.other g15 h.ne
 have hne1:∀g,bi b1=some g->g≠km:=λg hg ex=>by
   rcases f15 g hg with h1|h1
   · exact h.nb g h1 ex
   · omega
 obtain⟨wx,sx,vx,gx⟩:=v15.store r5 (i:=3) (v:=.slice b1 m1 e1) rfl (by simp) (by intro c hc;simp[Value.cells]at hc;subst hc;rfl)
 have vx:ai wx km iq [vI d.k,vI d.st,.slice a n c,.slice b1 m1 e1]:=vx
 have xx:=x15.put (λg hg ex=>h.na g hg ex) gx
 have ox:=o15.put (λg hg ex=>hne1 g hg ex) gx
 have cx:Chg (jk km a b) w wx:=by
   have c1:Chg (jk km a b) w w14:=Chg.of hb14
   have c2:Chg (jk km a b) w14 w15:=(Chg.row g15).mono λk hk=>cy.2 (.inr (.inr (by simpa using hk)))
   exact(c1.trans c2).trans (Chg.grown gx (cy.2 (.inl rfl)))
 have hsx:=cx.size
 have hne15:∀g,bi a=some g->bi b1≠some g:=λg hg ex=>by
   rcases f15 g ex with h1|h1
   · exact h.ne g hg h1
   · have:=h.nx.lt g hg;omega
 refine⟨w15,b1,m1,e1,r15,rfl,rfl,rfl,wx,sx,rfl,rfl,rfl,rfl,rfl,rfl,a,n,c,λu hu=>(vx.below hu).load1 aA rfl rfl,d.k,λu hu=>(vx.below hu).load1 aC rfl rfl,λk26 hk26=>?_⟩
 have hKk:(d.K:Int)=d.k:=by show((d.k.toNat:Nat):Int)=d.k;omega
 have hK1:1 <=d.K/\d.K <=512:=by show 1 <=d.k.toNat/\d.k.toNat <=512;omega
 refine⟨λaa ll cc W=>∃a':Option Addr,aa=a'/\ll=d.K/\cc=d.K/\Sl bY W (λg=>wx.heap.size <=g) aa ll cc (List.replicate d.K t),?_,?_,?_⟩
 · rintro aa ll cc x y ⟨a',rfl,rfl,rfl,hs⟩ hb
   exact⟨_,rfl,rfl,rfl,hs.below hb⟩
 · intro u32 hu hcell
   have hsl:Sl bY u32 jD (some ⟨k26,0,none⟩) 1 1 [t]:=by
     refine⟨rfl,Nat.le_refl _,by decide,.inr ⟨k26,0,rfl,(Array.getElem?_eq_some_iff.1 hcell).1,trivial,[vI t],gr.one cS,λj hj=>?_⟩⟩
     rw[eQ hcell,Nat.zero_add];simp
   rw[<- hKk]
   refine(lA hsl hK1.1 (by omega)).mono ?_
   rintro _ w32 ⟨_,rfl,a',rfl,ho,hf,hb⟩
   refine⟨a',d.K,d.K,rfl,⟨a',rfl,rfl,rfl,ho.sl (λb _ hb=>hb.elim) λg hg=>?_⟩,hb⟩
   have:=hf g hg
   have:=hu.size
   omega
 rintro aa ll cc wq hq ⟨a',rfl,rfl,rfl,hs⟩ hcell
 have vq:=vx.below hq
 have xq:=xx.below hq
 have oq:=ox.below hq
 obtain⟨w33,a3,n3,c3,r33,o33,g33,f33⟩:=cr (ty:=aj) aA dk (by decide) xq (λ_ _ h=>h) (cm:=d.K) (hs.flat dF) (by simp;omega)
 have v33:=vq.grown g33 λex=>h.na km ex.symm rfl
 have hqs:=hq.size
 have hne3:∀g,bi a3=some g->g≠km:=λg hg ex=>by
   rcases f33 g hg with h1|h1
   · exact h.na g h1 ex
   · omega
 have o33b:=oq.other g33 λg hg ex=>hne15 g ex hg
 obtain⟨w5,s5,v5,g5⟩:=v33.store fF (i:=2) (v:=.slice a3 n3 c3) rfl (by simp) (by intro c hc;simp[Value.cells]at hc;subst hc;rfl)
 have v5:ai w5 km iq [vI d.k,vI d.st,.slice a3 n3 c3,.slice b1 m1 e1]:=v5
 refine⟨w33,a3,n3,c3,r33,rfl,rfl,rfl,w5,s5,rfl,rfl,rfl,b1,m1,e1,v5.load1 aS rfl rfl,?_,a3,n3,c3,b1,m1,e1,⟨v5,o33.put (λg hg ex=>hne3 g hg ex) g5,o33b.put (λg hg ex=>hne1 g hg ex) g5,hne3,hne1,λg hg ex=>?_⟩,?_,λg hg=>?_,λg hg=>?_⟩
 · have:=o15.len
   rw[this,List.length_append,List.length_singleton,ar (by omega) (by omega)]
   congr 1;omega
 · rcases f33 g hg with h1|h1
   · exact hne15 g h1 ex
   · have:=ox.lt g ex;omega
 · have c2:Chg (jk km a b) wx wq:=Chg.of hq
   have c3':Chg (jk km a b) wq w33:=(Chg.row g33).mono λk hk=>cy.2 (.inr (.inl (by simpa using hk)))
   exact((cx.trans c2).trans c3').trans (Chg.grown g5 (cy.2 (.inl rfl)))
 · rcases f33 g hg with h1|h1
   · exact .inl h1
   · exact .inr (by omega)
 · rcases f15 g hg with h1|h1
   · exact .inl h1
   · exact .inr (by omega)
structure ri (B:Nat)(w:World)(a:Option Addr)(n c:Nat)(b:Option Addr)(m e:Nat)(d:DA):Prop where
 nx:Ow bY aq w NoB a n c d.nx
 ac:Ow ij bv w NoB b m e d.ac
 ne:∀g,bi a=some g->bi b≠some g
 fa:br B a
 fb:br B b
theorem ri.das {B:Nat}{w:World}{a b:Option Addr}{n c m e:Nat}{d:DA}(h:ri B w a n c b m e d):DaS w a n c b m e d:=⟨h.nx.all,h.ac.all⟩
theorem ri.below {B:Nat}{w w':World}{a b:Option Addr}{n c m e:Nat}{d:DA}(h:ri B w a n c b m e d)(hb:bW w w'):ri B w' a n c b m e d:=⟨h.nx.below hb,h.ac.below hb,h.ne,h.fa,h.fb⟩
theorem ri.mono {B B':Nat}{w:World}{a b:Option Addr}{n c m e:Nat}{d:DA}(h:ri B w a n c b m e d)(hB:B' <=B):ri B' w a n c b m e d:=⟨h.nx,h.ac,h.ne,h.fa.mono hB,h.fb.mono hB⟩
def pj (w:World)(d:DA)(v:Value)(w':World):Prop:=∃(a:Option Addr) (n c:Nat) (b:Option Addr) (m e:Nat),v=.tuple #[daV a n c b m e d,vI 0]/\ri w.heap.size w' a n c b m e d/\bW w w'
theorem jI.fresh {B:Nat}{w:World}{a a':Option Addr}(h:jI w a a')(hf:br B a)(hB:B <=w.heap.size):br B a':=λg hg=>by
 rcases h g hg with h1|h1
 · exact hf g h1
 · omega
def chS (k:Nat)(wn:List Nat)(i:Nat):DA:=⟨(k:Int),1,nv k 0++eZ k (wn.take i) 1,List.replicate (i+1) false⟩
theorem IM (k:Nat)(wn:List Nat){i:Nat}(hi:i <=wn.length):(chS k wn i).nx.length=(i+1)*k:=by
 show(nv k 0++eZ k (wn.take i) 1).length=_
 rw[List.length_append,lh,List.length_take,Nat.min_eq_left hi,nv,List.length_replicate,Nat.succ_mul];omega
theorem Cn {w:World}{A:Bl}{a:Option Addr}{n c:Nat}{k:Nat}{wn:List Nat}(hs:Sl bY w A a n c (wn.map fun(x:Nat)=>(x:Int)))(hk1:1 <=k)(hk2:k <=512)(hw:∀x∈wn,x<k)(hl:wn.length <=65534)(F6:Bool):
   Cf lT #[vI (k:Int),.slice a n c,.bool F6] w (Ret (pj w (chD k wn (if F6=true then((wn.length+1:Nat):Int)else 0)))):=by
 apply yM
 have hn:=hs.len
 rw[List.length_map]at hn
 subst hn
 intro k3 w3 hk3 hw3 k6 w6 hk6 hw6
 have A3':ai w3 k3 aq [vI (k:Int)]:=ai.new hk3 hw3
 have hb3:=(hw3▸af w _:bW w w3)
 have hb6:=(hw6▸af w3 _:bW w3 w6)
 have A3:=A3'.below hb6
 have A6:ai w6 k6 ae [vI 0,vI 0,.slice none 0 0,.slice none 0 0]:=ai.new hk6 hw6
 have hB:=ab hb3 hb6 hb3.size
 have hk36:k3<k6:=by have:=A3'.lt;omega
 have hk0:w.heap.size <=k3:=by omega
 have hs6:=hs.below hB
 clear A3' hb3 hw3 hb6 hw6
 have hall:((wn.map fun(x:Nat)=>(x:Int)).all (inR (k:Int)))=true:=by
   rw[List.all_eq_true]
   intro y hy
   obtain⟨x,hx,rfl⟩:=List.mem_map.1 hy
   have:=hw x hx
   unfold inR
   rw[decide_eq_true (by omega),decide_eq_true (by omega)];rfl
 refine mJ (λw'=>w'=w6) ⟨λb w'=>b=false/\w'=w6,?_,λb=>aL.of ?_ _⟩ ?_
 · refine⟨_,A8 A3,ah.no (decide_eq_false (by omega)) ⟨_,A8 A3,ah.no (decide_eq_false (by omega)) ?_⟩⟩
   refine aw (pZ hs6 A3) ?_
   rintro _ w23 ⟨rfl,e23⟩
   exact⟨_,rfl,by rw[hall];rfl,e23⟩
 · rintro wj ⟨e1,e2⟩
   exact ah.no e1 e2
 intro wj ej
 rw[ej];clear ej wj
 refine ah.no (decide_eq_false (by omega)) ⟨_,A8 A3,?_⟩
 intro k33 w33 hk33 hw33
 have hb33:=(hw33▸af w6 _:bW w6 w33)
 have hlt6:=A6.lt
 have M0:Mk w33 k33 none 0 0 none 0 0 ⟨(k:Int),1,[],[]⟩:=⟨ai.new hk33 hw33,Ow.nil _ _ _ _,Ow.nil _ _ _ _,(λg hg=>by cases hg),(λg hg=>by cases hg),λg hg=>by cases hg⟩
 have hK:(⟨(k:Int),1,[],[]⟩:DA).K=k:=by show((k:Int)).toNat=k;omega
 refine aw (tB M0 (by show(1:Int) <=(k:Int);omega) (by show(k:Int) <=512;omega) (by simp) (by simp) false 0) ?_
 rintro _ w35 ⟨rfl,a1,n1,c1,b1,m1,e1,M1,g1,f1,f2⟩
 refine⟨_,rfl,?_⟩
 have hs33:w33.heap.size=k33+1:=by rw[hk33,hw33];simp
 have none35:∀x∈jk k33 none none,x=k33:=λx hx=>by
   rcases cy.1 hx with h|h|h
   · exact h
   · cases h
   · cases h
 have A3b:=g1.arr (A3.below hb33) (λhm=>by have:=none35 _ hm;omega)
 have A6b:=g1.arr (A6.below hb33) (λhm=>by have:=none35 _ hm;omega)
 have hB33:=ab hB hb33 hB.size
 have hB35:bW w w35:=hB33.trans (g1.below hB33.size λx hx=>by have:=none35 _ hx;omega)
 have st0:(⟨(k:Int),1,[]++List.replicate (⟨(k:Int),1,[],[]⟩:DA).K 0,[]++[false]⟩:DA)=chS k wn 0:=by rw[hK];simp[chS,nv,eZ]
 rw[st0]at M1
 refine⟨λm i wl=>∃(j:Nat) (a:Option Addr) (n c:Nat) (b:Option Addr) (m' e:Nat),i=(j:Int)/\j <=wn.length/\m=wn.length-j/\Mk wl k33 a n c b m' e (chS k wn j)/\ai wl k3 aq [vI (k:Int)]/\ai wl k6 ae [vI 0,vI 0,.slice none 0 0,.slice none 0 0]/\br (k33+1) a/\br (k33+1) b/\bW w wl,
   ⟨_,0,a1,n1,c1,b1,m1,e1,rfl,Nat.zero_le _,rfl,M1,A3b,A6b,jI.fresh f1 (br.none _) (by omega),jI.fresh f2 (br.none _) (by omega),hB35⟩,?_⟩
 clear M1 A3b A6b hB35 f1 f2 g1 M0
 intro m i
 refine aL.of ?_ _
 rintro wl ⟨j,a1,n1,c1,b1,m1,e1,rfl,hj,rfl,M,A3l,A6l,fa,fb,hBl⟩
 have hsl:=hs.below hBl
 have hKj:(chS k wn j).K=k:=by show((k:Int)).toNat=k;omega
 have hacl:(chS k wn j).ac.length=j+1:=by simp[chS]
 have hnxl:=IM k wn hj
 have hjk:(j+1)*k <=65535*512:=Nat.mul_le_mul (by omega) hk2
 have stl:=fun(acc:Bool) (t:Int)=>tB M (by show(1:Int) <=(k:Int);omega) (by show(k:Int) <=512;omega) (by omega) (by omega) acc t
 have hMlt:=M.var.lt
 have blk:∀x∈jk k33 a1 b1,k33 <=x:=λx hx=>by
   rcases cy.1 hx with h|h|h
   · omega
   · have:=fa x h;omega
   · have:=fb x h;omega
 refine ah.of (λh=>?_) (λh=>?_) <;> simp only[dTx,dFx]at h
 · have hlt:j<wn.length:=by omega
   have hlt':j<(wn.map fun(x:Nat)=>(x:Int)).length:=by simpa using hlt
   refine⟨⟨⟨by omega,h⟩,hsl.isSome hlt'⟩,_,hsl.num aC hlt',?_⟩
   rw[List.getElem_map]
   refine aw (stl false 0) ?_
   rintro _ w43 ⟨rfl,a2,n2,c2,b2,m2,e2,M2,g2,f1,f2⟩
   rw[hacl]
   have A3b:=g2.arr A3l (λhm=>by have:=blk _ hm;omega)
   have A6b:=g2.arr A6l (λhm=>by have:=blk _ hm;omega)
   have hxk:wn[j]<k:=hw _ (List.getElem_mem hlt)
   have e1':i64.wrap (((j+1:Nat):Int)*(k:Int))=(((j+1)*k:Nat):Int):=by
     rw[show((j+1:Nat):Int)*(k:Int)=(((j+1)*k:Nat):Int) from(Int.natCast_mul _ _).symm]
     exact ar (by omega) (by omega)
   have e2':i64.wrap ((((j+1)*k:Nat):Int)+((wn[j]:Nat):Int))=(((j+1)*k+wn[j]:Nat):Int):=by
     rw[ar (by omega) (by omega)];omega
   have e3':i64.wrap (((j+1:Nat):Int)+1)=((1+j+1:Nat):Int):=by
     rw[ar (by omega) (by omega)];omega
   have hn2:=M2.nx.len
   have hl2:((chS k wn j).nx++List.replicate (chS k wn j).K 0).length=(j+1)*k+k:=by rw[List.length_append,hnxl,List.length_replicate,hKj]
   have hn2':n2=(j+1)*k+k:=hn2.trans hl2
   have hidx:(j+1)*k+wn[j]<((chS k wn j).nx++List.replicate (chS k wn j).K 0).length:=by omega
   refine⟨_,rfl,rfl,rfl,rfl,a2,n2,c2,λu hu=>(M2.var.below hu).load1 aA rfl rfl,(k:Int),λu hu=>A8 (A3b.below hu),?_⟩
   rw[e1',e2',e3']
   refine⟨⟨⟨by omega,by omega⟩,M2.nx.all.isSome hidx⟩,λwq hq=>?_⟩
   have M2q:=M2.below hq
   obtain⟨wx,sx,ox,gx⟩:=M2q.nx.store dk (λ_ _ h=>h) (i:=(((j+1)*k+wn[j]:Nat):Int)) (by rw[Int.toNat_natCast];exact hidx) (k:=1) rfl (v:=vI ((1+j+1:Nat):Int)) (x:=((1+j+1:Nat):Int)) cS
   rw[Int.toNat_natCast]at ox
   have enx:((chS k wn j).nx++List.replicate (chS k wn j).K 0).set ((j+1)*k+wn[j]) ((1+j+1:Nat):Int)=(chS k wn (j+1)).nx:=by
     rw[List.set_append_right _ _ (by omega),hnxl,show(j+1)*k+wn[j]-(j+1)*k=wn[j] by omega,hKj]
     show(nv k 0++eZ k (wn.take j) 1)++_=nv k 0++eZ k (wn.take (j+1)) 1
     rw[List.take_succ_eq_append_getElem hlt,tQ,List.append_assoc,List.length_take,Nat.min_eq_left (by omega)]
     rfl
   have hgx:Chg (jk k33 a2 b2) w43 wx:=(Chg.of hq).trans ((Chg.row gx).mono λx hx=>cy.2 (.inr (.inl (by simpa using hx))))
   have fa2:=jI.fresh f1 fa (by omega)
   have fb2:=jI.fresh f2 fb (by omega)
   have blk2:∀x∈jk k33 a2 b2,k33 <=x:=λx hx=>by
     rcases cy.1 hx with h|h|h
     · omega
     · have:=fa2 x h;omega
     · have:=fb2 x h;omega
   have hB43:bW w w43:=hBl.trans (g2.below hBl.size λx hx=>by have:=blk x hx;omega)
   refine⟨wx,sx,wn.length-(j+1),by omega,j+1,a2,n2,c2,b2,m2,e2,by rw[ar (by omega) (by omega)];omega,hlt,rfl,⟨?_,?_,?_,M2.na,M2.nb,M2.ne⟩,hgx.arr A3b (λhm=>by have:=blk2 _ hm;omega),hgx.arr A6b (λhm=>by have:=blk2 _ hm;omega),fa2,fb2,hB43.trans (hgx.below hB43.size λx hx=>by have:=blk2 x hx;omega)⟩
   · exact M2q.var.grown gx λex=>M2.na k33 ex.symm rfl
   · rw[<- enx];exact ox
   · have:=M2q.ac.other gx λg hg ex=>M2.ne g ex hg
     have eac:(chS k wn j).ac++[false]=(chS k wn (j+1)).ac:=by
       show List.replicate (j+1) false++[false]=List.replicate (j+1+1) false
       rw[<- List.replicate_succ']
     rw[<- eac];exact this
 · have:j=wn.length:=by omega
   subst this
   refine⟨rfl,rfl,rfl,b1,m1,e1,M.var.load1 aS rfl rfl,?_⟩
   have hm1:=M.ac.len
   refine⟨λi w'=>i=(if F6=true then((wn.length+1:Nat):Int)else 0)/\w'=wl,?_,λt=>aL.of ?_ _⟩
   · refine ah.of (λhst=>⟨?_,rfl⟩) (λhst=>⟨?_,rfl⟩)
     · rw[if_pos hst,hm1,hacl]
     · rw[if_neg (by rw[hst];simp)]
   rintro wj ⟨rfl,rfl⟩
   refine aw (stl true _) ?_
   rintro _ w68 ⟨rfl,a2,n2,c2,b2,m2,e2,M2,g2,f1,f2⟩
   have A6b:=g2.arr A6l (λhm=>by have:=blk _ hm;omega)
   have fa2:=jI.fresh f1 fa (by omega)
   have fb2:=jI.fresh f2 fb (by omega)
   have hB68:bW w w68:=hBl.trans (g2.below hBl.size λx hx=>by have:=blk x hx;omega)
   have ld:=bh.load0 (cs:=[vI (k:Int),vI 1,.slice a2 n2 c2,.slice b2 m2 e2]) M2.var rfl
   obtain⟨wx,sx,v6,g6⟩:=bh.store0 (P:=prog) (cs:=[vI (k:Int),vI 1,.slice a2 n2 c2,.slice b2 m2 e2]) rfl (aN rfl (aN rfl (aN rfl (aN rfl gA)))) A6b rfl
   have ld6:=ai.res (bh.load0 (cs:=[vI (k:Int),vI 1,.slice a2 n2 c2,.slice b2 m2 e2]) v6 rfl)
   refine⟨_,rfl,rfl,rfl,_,_,a2,n2,c2,b2,m2,e2,ld,wx,sx,_,_,a2,n2,c2,b2,m2,e2,ld6,a2,n2,c2,b2,m2,e2,rfl,⟨?_,?_,M2.ne,fa2.mono (by omega),fb2.mono (by omega)⟩,Below.put hB68 g6 (by omega)⟩
   · have:=M2.nx.put (λg hg ex=>by have:=fa2 g hg;omega) g6
     have enx:∀t:Int,(chS k wn wn.length).nx++List.replicate (chS k wn wn.length).K t=Ed k wn t:=λt=>by
       rw[hKj]
       show(nv k 0++eZ k (wn.take wn.length) 1)++_=_
       rw[List.take_length,List.append_assoc];rfl
     simp only[enx]at this
     exact this
   · exact M2.ac.put (λg hg ex=>by have:=fb2 g hg;omega) g6
def daL (a:Option Addr)(n c:Nat)(b:Option Addr)(m e:Nat)(d:DA):List Value:=[vI d.k,vI d.st,.slice a n c,.slice b m e]
theorem dt (a:Option Addr)(n c:Nat)(b:Option Addr)(m e:Nat)(d:DA):vP (daL a n c b m e d):=aN rfl (aN rfl (aN rfl (aN rfl gA)))
theorem cR {w:World}{k:Nat}{vs:List Value}(h:ai w k ae vs)(hv:vs.length=4)(a:Option Addr)(n c:Nat)(b:Option Addr)(m e:Nat)(d:DA):
   ∃wx,(Instr.storeAt ae (.pointer (some ⟨k,0,none⟩)) (daV a n c b m e d)).run prog w=.ok () wx/\(bE ae (.pointer (some ⟨k,0,none⟩))).run prog wx=.ok (daV a n c b m e d) wx/\w.grownBy wx (some k):=by
 obtain⟨wx,sx,v6,g6⟩:=bh.store0 (P:=prog) (cs:=daL a n c b m e d) rfl (dt _ _ _ _ _ _ _) h hv
 exact⟨wx,sx,ai.res (bh.load0 (cs:=daL a n c b m e d) v6 rfl),g6⟩
theorem ri.put {B:Nat}{w w':World}{a b:Option Addr}{n c m e k:Nat}{d:DA}(h:ri B w a n c b m e d)(hg:w.grownBy w' (some k))(hk:k<B):ri B w' a n c b m e d:=
 ⟨h.nx.put (λg hg' ex=>by have:=h.fa g hg';omega) hg,h.ac.put (λg hg' ex=>by have:=h.fb g hg';omega) hg,h.ne,h.fa,h.fb⟩
theorem tZ {w:World}{A:Bl}{a:Option Addr}{n c:Nat}{k:Nat}{wn:List Nat}(hs:Sl bY w A a n c (wn.map fun(x:Nat)=>(x:Int)))(hk1:1 <=k)(hk2:k <=512)(hw:∀x∈wn,x<k)(hl:wn.length <=65534):
   Cf nZ #[vI (k:Int),.slice a n c] w (Ret (pj w (chD k wn 0))):=by
 apply Ak
 intro k4 w4 hk4 hw4
 have hb4:=(hw4▸af w _:bW w w4)
 have A4:ai w4 k4 ae [vI 0,vI 0,.slice none 0 0,.slice none 0 0]:=ai.new hk4 hw4
 refine aw (Cn (hs.below hb4) hk1 hk2 hw hl false) ?_
 rintro _ w8 ⟨a1,n1,c1,b1,m1,e1,rfl,O,hb8⟩
 have hlt:=A4.lt
 obtain⟨wx,s1,s2,g1⟩:=cR (A4.below hb8) rfl a1 n1 c1 b1 m1 e1 (chD k wn 0)
 have hB:=ab hb4 hb8 hb4.size
 exact⟨_,_,a1,n1,c1,b1,m1,e1,_,rfl,wx,s1,_,_,a1,n1,c1,b1,m1,e1,s2,a1,n1,c1,b1,m1,e1,rfl,(O.put g1 hlt).mono hb4.size,Below.put hB g1 (by omega)⟩
theorem qd {w:World}{A:Bl}{a:Option Addr}{n c:Nat}{k:Nat}{wn:List Nat}(hs:Sl bY w A a n c (wn.map fun(x:Nat)=>(x:Int)))(hk1:1 <=k)(hk2:k <=512)(hw:∀x∈wn,x<k)(hl:wn.length <=65534):
   Cf ku #[vI (k:Int),.slice a n c] w (Ret (pj w (chD k wn ((wn.length+1:Nat):Int)))):=by
 apply wv
 intro k4 w4 hk4 hw4
 have hb4:=(hw4▸af w _:bW w w4)
 have A4:ai w4 k4 ae [vI 0,vI 0,.slice none 0 0,.slice none 0 0]:=ai.new hk4 hw4
 refine aw (Cn (hs.below hb4) hk1 hk2 hw hl true) ?_
 rintro _ w8 ⟨a1,n1,c1,b1,m1,e1,rfl,O,hb8⟩
 have hlt:=A4.lt
 obtain⟨wx,s1,s2,g1⟩:=cR (A4.below hb8) rfl a1 n1 c1 b1 m1 e1 (chD k wn ((wn.length+1:Nat):Int))
 have hB:=ab hb4 hb8 hb4.size
 exact⟨_,_,a1,n1,c1,b1,m1,e1,_,rfl,wx,s1,_,_,a1,n1,c1,b1,m1,e1,s2,a1,n1,c1,b1,m1,e1,rfl,(O.put g1 hlt).mono hb4.size,Below.put hB g1 (by omega)⟩
theorem pz {w:World}{k:Nat}(hk1:1 <=k)(hk2:k <=512):Cf lj #[vI (k:Int)] w (Ret (pj w (noD k))):=by
 apply Ai
 intro k2 w2 hk2' hw2
 have hb2:=(hw2▸af w _:bW w w2)
 have A2:ai w2 k2 ae [vI 0,vI 0,.slice none 0 0,.slice none 0 0]:=ai.new hk2' hw2
 refine mJ (λw'=>w'=w2) ⟨λb w'=>b=false/\w'=w2,?_,λb=>aL.of ?_ _⟩ ?_
 · exact ah.no (decide_eq_false (by omega)) ⟨decide_eq_false (by omega),rfl⟩
 · rintro wj ⟨e1,e2⟩
   exact ah.no e1 e2
 intro wj ej
 rw[ej];clear ej wj
 intro k15 w15 hk15 hw15
 have hb15:=(hw15▸af w2 _:bW w2 w15)
 have hlt:=A2.lt
 have M0:Mk w15 k15 none 0 0 none 0 0 ⟨(k:Int),0,[],[]⟩:=⟨ai.new hk15 hw15,Ow.nil _ _ _ _,Ow.nil _ _ _ _,(λg hg=>by cases hg),(λg hg=>by cases hg),λg hg=>by cases hg⟩
 have hK:(⟨(k:Int),0,[],[]⟩:DA).K=k:=by show((k:Int)).toNat=k;omega
 have hs15:w15.heap.size=k15+1:=by rw[hk15,hw15];simp
 refine aw (tB M0 (by show(1:Int) <=(k:Int);omega) (by show(k:Int) <=512;omega) (by simp) (by simp) false 0) ?_
 rintro _ w17 ⟨rfl,a1,n1,c1,b1,m1,e1,M1,g1,f1,f2⟩
 have st0:(⟨(k:Int),0,[]++List.replicate (⟨(k:Int),0,[],[]⟩:DA).K 0,[]++[false]⟩:DA)=noD k:=by rw[hK];simp[noD]
 rw[st0]at M1
 have none15:∀x∈jk k15 none none,x=k15:=λx hx=>by
   rcases cy.1 hx with h|h|h
   · exact h
   · cases h
   · cases h
 have A2b:=g1.arr (A2.below hb15) (λhm=>by have:=none15 _ hm;omega)
 have hB15:=ab hb2 hb15 hb2.size
 have hB17:bW w w17:=hB15.trans (g1.below hB15.size λx hx=>by have:=none15 _ hx;omega)
 have fa:=jI.fresh f1 (br.none (k15+1)) (by omega)
 have fb:=jI.fresh f2 (br.none (k15+1)) (by omega)
 have ld:=bh.load0 (cs:=daL a1 n1 c1 b1 m1 e1 (noD k)) M1.var rfl
 obtain⟨wx,s1,s2,g2⟩:=cR A2b rfl a1 n1 c1 b1 m1 e1 (noD k)
 have O:ri (k15+1) w17 a1 n1 c1 b1 m1 e1 (noD k):=⟨M1.nx,M1.ac,M1.ne,fa,fb⟩
 exact⟨_,rfl,rfl,rfl,_,_,a1,n1,c1,b1,m1,e1,ld,wx,s1,_,_,a1,n1,c1,b1,m1,e1,s2,a1,n1,c1,b1,m1,e1,rfl,(O.put g2 (by omega)).mono (by omega),Below.put hB17 g2 (by omega)⟩
theorem wK (a:Option Addr)(b c:Nat){w K}(h:uV cP #[.slice a b c] w λd e=>uL fk #[d] e λf g i j=>uL eu #[.slice f g i] j λk l m n=>nA n (.map #[] 0) λo p=>nA p (.cells #[.slice k l m,.map (some o)] dZ) λq r=>true/\true/\∃s t u,Ld az (vA q 0) r (.slice s t u)/\∃v:Nat->FP [.one (.int .i64)],(∃x,v x (0:Int) r)/\∀x y,aL 13 (∀z,v x y z->ah (decide (y<((t:Nat):Int))) ((bx y ((t:Nat):Int)/\Option.isSome s=true)/\∃A,Ld aI (ak s y 1) z (vS A)/\true/\true/\∃B,Ld bt (vA q 1) z (.map B)/\∃C,(Instr.mapUpdate bt (.map B) (vS A) (vI y)).run prog z=.ok () C/\∃D:Nat,D<x/\v D (i64.wrap (y+(1:Int))) C) (K (.pointer (vA q 0)) z))):Cf nf #[.slice a b c] w (Ret K):=ru func11 [(8,[(18,.one (.int .i64))])] h
theorem kT (a:Option Addr){w K}(h:∃b:Nat->FP [.one (.int .i64)],(∃c,b c (1:Int) w)/\∀c d,aL 19 (∀e,b c d e->(Option.isSome a=true)/\(Option.isSome a=true)/\∃f,(∀g,bW e g->Ld bt (Option.map (λi=>i.add 1) a) g (.map f))/\∃g,(∀i,bW e i->Cf jy #[vI d] i λj k=>j=.returned (vS g)/\Below e.heap.size i k)/\∃i j,(∀k,bW e k->(Instr.lookup bt (.map f) (vS g) true).run prog k=.ok (.tuple #[vI i,.bool j]) k)/\∀k,bW e k->ah (!j) (uS jy #[vI d] k λl m=>K (vS l) m) (∃l:Nat,l<c/\b l (i64.wrap (d+(1:Int))) k))):Cf eW #[.pointer a] w (Ret K):=ru func30 [(5,[(3,.one (.int .i64))])] h
theorem mj (a:Option Addr){w K}(h:(Option.isSome a=true)/\(Option.isSome a=true)/\∃b c d,Ld az (Option.map (λe=>e.add 0) a) w (.slice b c d)/\K (vI (i64.wrap (((c:Nat):Int)+(1:Int)))) w):Cf aO #[.pointer a] w (Ret K):=ru func50 [] h
theorem lE (a:Option Addr)(b:Int){w K}(h:∃c:FP [],(∃d:FP [.one .bool],(ah (decide (b<(0:Int))) (d true w) ((Option.isSome a=true)/\(Option.isSome a=true)/\∃e f g,Ld az (Option.map (λi=>i.add 0) a) w (.slice e f g)/\d (decide (b>((f:Nat):Int))) w))/\∀e,aL 11 (∀f,d e f->ah e (K (vS []) f) ((Option.isSome a=true)/\(Option.isSome a=true)/\∃g i j,Ld az (Option.map (λk=>k.add 0) a) f (.slice g i j)/\ah (b==((i:Nat):Int)) (uS eW #[.pointer a] f λk l=>K (vS k) l) (c f))))/\aL 23 (∀d,c d->(Option.isSome a=true)/\(Option.isSome a=true)/\∃e f g,Ld az (Option.map (λi=>i.add 0) a) d (.slice e f g)/\(bx b ((f:Nat):Int)/\Option.isSome e=true)/\∃i,Ld aI (ak e b 1) d (vS i)/\K (vS i) d)):Cf dn #[.pointer a,vI b] w (Ret K):=ru func52 [(2,[]),(4,[(5,.one .bool)])] h
theorem mN (a:Option Addr)(b:lU){w K}(h:(Option.isSome a=true)/\(Option.isSome a=true)/\∃c,Ld bt (Option.map (λd=>d.add 1) a) w (.map c)/\∃d e,(Instr.lookup bt (.map c) (vS b) true).run prog w=.ok (.tuple #[vI d,.bool e]) w/\ah e (K (vI d) w) ((Option.isSome a=true)/\(Option.isSome a=true)/\∃f g i,Ld az (Option.map (λj=>j.add 0) a) w (.slice f g i)/\K (vI ((g:Nat):Int)) w)):Cf ji #[.pointer a,vS b] w (Ret K):=ru func71 [] h
theorem vh (a:Int){w K}(h:∃b:Nat->FP [.one (.int .i64),.one .slice],(∃c,b c a none 0 0 w)/\∀c d e f g,aL 12 (∀i,b c d e f g i->ah (decide (d>(0:Int))) (((38:Int)≠0)/\∀j,j=(Int.tmod (i64.wrap (d-(1:Int))) (38:Int))->bx j ((List.length [97,98,99,100,101,102,103,104,105,106,107,108,109,110,111,112,113,114,115,116,117,118,119,120,121,122,48,49,50,51,52,53,54,55,56,57,45,95]:Nat):Int)/\nA i (.cells #[.int .u8 (jh [97,98,99,100,101,102,103,104,105,106,107,108,109,110,111,112,113,114,115,116,117,118,119,120,121,122,48,49,50,51,52,53,54,55,56,57,45,95] j)] aW) λk l=>∃m n o p,(Builtin.append_ #[aZ,aZ] aZ #[.slice e f g,.slice (vA k 0) 1 1]).run prog l=.ok (.slice n o p) m/\((38:Int)≠0)/\∀q,q=(i64.wrap (Int.tdiv (i64.wrap (d-(1:Int))) (38:Int)))->∃r:Nat,r<c/\b r q n o p m) (uU du #[.slice e f g] i λj=>∃k,(convert aZ aI (.slice e f g)).run prog j=.ok (vS k) j/\K (vS k) j))):Cf jy #[vI a] w (Ret K):=ru func72 [(6,[(0,.one (.int .i64)),(3,.one .slice)])] h
theorem td (a:lU){w K}(h:uS iM #[] w λb c=>∃d e f g,(convert aI aZ (vS a)).run prog c=.ok (.slice e f g) d/\∃i:Nat->FP [.one .slice,.one (.int .i64)],(∃j,i j none 0 0 (0:Int) d)/\∀j k l m n,aL 17 (∀o,i j k l m n o->ah (decide (n<((f:Nat):Int))) ((bx n ((f:Nat):Int)/\Option.isSome e=true)/\∃p,Ld aW (ak e n 1) o (.int .u8 p)/\uI jV #[vS b,.int .u8 p] o λq r=>ah (decide (q<(0:Int))) (K (.tuple #[.slice none 0 0,.bool false]) r) (nA r (.cells #[vI q] aq) λs t=>∃u v x y,(Builtin.append_ #[aj,aj] aj #[.slice k l m,.slice (vA s 0) 1 1]).run prog t=.ok (.slice v x y) u/\∃z:Nat,z<j/\i z v x y (i64.wrap (n+(1:Int))) u)) (K (.tuple #[.slice k l m,.bool true]) o))):Cf iL #[vS a] w (Ret K):=ru func81 [(10,[(5,.one .slice),(13,.one (.int .i64))])] h
theorem tg {w K}(h:∃a:Nat->FP [.one .slice,.one (.int .u8)],(∃b,a b none 0 0 (33:Int) w)/\∀b c d e f,aL 14 (∀g,a b c d e f g->ah (decide (f <=(126:Int))) (∃i:FP [.one .bool],(ah (f !=(63:Int)) (i (f !=(35:Int)) g) (i false g))/\∀j,aL 5 (∀k,i j k->ah j (nA k (.cells #[.int .u8 f] aW) λl m=>∃n o p q,(Builtin.append_ #[aZ,aZ] aZ #[.slice c d e,.slice (vA l 0) 1 1]).run prog m=.ok (.slice o p q) n/\∃r:Nat,r<b/\a r o p q (IntKind.u8.wrap (f+(1:Int))) n) (∃l:Nat,l<b/\a l c d e (IntKind.u8.wrap (f+(1:Int))) k))) (∃i,(convert aZ aI (.slice c d e)).run prog g=.ok (vS i) g/\K (vS i) g))):Cf iM #[] w (Ret K):=ru func138 [(8,[(1,.one .slice),(2,.one (.int .u8))]),(17,[(12,.one .bool)])] h
theorem oC (a:Option Addr)(b c:Nat){w K}(h:uS iM #[] w λd e=>∃f:Nat->FP [.one .slice,.one (.int .i64)],(∃g,f g none 0 0 (0:Int) e)/\∀g i j k l,aL 21 (∀m,f g i j k l m->ah (decide (l<((b:Nat):Int))) ((bx l ((b:Nat):Int)/\Option.isSome a=true)/\∃n,Ld aq (ak a l 1) m (vI n)/\∃o:FP [],(ah (decide (n<(0:Int))) (K (.tuple #[vS [],.bool false]) m) (ah (decide (n >=((List.length d:Nat):Int))) (K (.tuple #[vS [],.bool false]) m) (o m)))/\aL 10 (∀p,o p->bx n ((List.length d:Nat):Int)/\nA p (.cells #[.int .u8 (jh d n)] aW) λq r=>∃s t u v,(Builtin.append_ #[aZ,aZ] aZ #[.slice i j k,.slice (vA q 0) 1 1]).run prog r=.ok (.slice t u v) s/\∃x:Nat,x<g/\f x t u v (i64.wrap (l+(1:Int))) s)) (∃n,(convert aZ aI (.slice i j k)).run prog m=.ok (vS n) m/\K (.tuple #[vS n,.bool true]) m))):Cf gR #[.slice a b c] w (Ret K):=ru func144 [(10,[(5,.one .slice),(11,.one (.int .i64))]),(21,[])] h
theorem lD (a:Value){w K}(h:uL eV #[a] w λb c d e=>uU fD #[.slice b c d] e λf=>K (.slice b c d) f):Cf fk #[a] w (Ret K):=ru func46 [] h
theorem kQ (a:Value){w K}(h:uL dV #[.slice none 0 0,a] w λb c d e=>K (.slice b c d) e):Cf eV #[a] w (Ret K):=ru func94 [] h
theorem iG (a:Option Addr)(b c:Nat){w K}(h:nA w (.cells #[.slice a b c] az) λd e=>K (.func (.func bs) #[] #[.pointer (vA d 0)]) e):Cf cP #[.slice a b c] w (Ret K):=ru func47 [] h
theorem jB (a:Option Addr)(b c:Nat){w K}(h:∃d:Nat->FP [.one (.int .i64),.one (.int .i64)],(∃e,d e (0:Int) (i64.wrap (((b:Nat):Int)-(1:Int))) w)/\∀e f g,aL 21 (∀i,d e f g i->ah (decide (f<g)) ((bx g ((b:Nat):Int)/\Option.isSome a=true)/\(bx f ((b:Nat):Int)/\Option.isSome a=true)/\(∃j,Ld aW (ak a g 1) (World.drew i) (.int .u8 j)/\∃k,Ld aW (ak a f 1) (World.drew i) (.int .u8 k)/\(bx f ((b:Nat):Int)/\Option.isSome a=true)/\∃l,Sv aW (ak a f 1) (.int .u8 j) (World.drew i) l/\(bx g ((b:Nat):Int)/\Option.isSome a=true)/\∃m,Sv aW (ak a g 1) (.int .u8 k) l m/\∃n:Nat,n<e/\d n (i64.wrap (f+(1:Int))) (i64.wrap (g-(1:Int))) m)/\∃j,Ld aW (ak a f 1) (World.drew i) (.int .u8 j)/\∃k,Ld aW (ak a g 1) (World.drew i) (.int .u8 k)/\(bx f ((b:Nat):Int)/\Option.isSome a=true)/\∃l,Sv aW (ak a f 1) (.int .u8 k) (World.drew i) l/\(bx g ((b:Nat):Int)/\Option.isSome a=true)/\∃m,Sv aW (ak a g 1) (.int .u8 j) l m/\∃n:Nat,n<e/\d n (i64.wrap (f+(1:Int))) (i64.wrap (g-(1:Int))) m) (K (.tuple #[]) i))):Cf du #[.slice a b c] w (Ret K):=ru func131 [(3,[(2,.one (.int .i64)),(3,.one (.int .i64))])] h
def cnt (k:Int):Int:=if k <=35 then k-33 else if k <=63 then k-34 else k-35
def Jo (c:Int):Int:=if c<33\/c>126\/c=35\/c=63 then -1 else cnt c
def oO:Nat->List UInt8
 | 0=>[]
 | n+1=>if n+33=63\/n+33=35 then oO n else oO n++[UInt8.ofNat (n+33)]
def pq:List UInt8:=oO 94
theorem Aa:∀n,(oO n).length <=n
 | 0=>by simp[oO]
 | n+1=>by
   have:=Aa n
   unfold oO;split <;> simp <;> omega
theorem nF (w:World):Cf iM #[] w (Ret λv w'=>v=vS pq/\bW w w'):=by
 apply tg
 refine⟨λm a l c k w'=>∃n:Nat,n <=94/\k=(n:Int)+33/\m=94-n/\Ow tU8 aW w' NoB a l c (oO n)/\br w.heap.size a/\bW w w',
   ⟨_,0,by omega,by simp,rfl,Ow.nil _ _ _ _,br.none _,Below.refl _ _⟩,?_⟩
 intro m a l c k
 refine aL.of ?_ _
 rintro w' ⟨n,hn,rfl,rfl,ho,hf,hb⟩
 refine ah.of (λh=>?_) (λh=>?_) <;> simp at h
 · have e1:IntKind.u8.wrap ((n:Int)+33+1)=((n+1:Nat):Int)+33:=by rw[sf (by omega) (by omega)];omega
   try dsimp only
   rw[e1]
   refine⟨λb w''=>w''=w'/\b=decide (¬ (n+33=63\/n+33=35)),?_,?_⟩
   · refine ah.of (λh4=>?_) (λh4=>?_) <;> simp at h4
     · refine⟨rfl,?_⟩
       rw[Bool.eq_iff_iff];simp;omega
     · refine⟨rfl,?_⟩
       rw[Bool.eq_iff_iff];simp;omega
   · intro b
     refine aL.of ?_ _
     rintro w2 ⟨rfl,rfl⟩
     refine ah.of (λh4=>?_) (λh4=>?_) <;> simp at h4
     · intro k1 w3 hk1 hw3
       have ho3:Ow tU8 aW w3 NoB a l c (oO n):=ho.below (hw3▸af _ _)
       have hsrc:Src tU8 w3 NoB (some ⟨k1,0,none⟩) 1 [UInt8.ofNat (n+33)]:=
         Src.new1F yg hk1 hw3 (uQ (by rw[pP (by omega)];omega))
       obtain⟨w4,a',n',c',hr,ho4,hg,hfr⟩:=cr (ty:=aZ) cj iT (by decide) ho3 (λ_ _ h=>h) (cm:=1) hsrc (by have:=Aa n;simp;omega)
       refine⟨w4,a',n',c',hr,_,?_,n+1,by omega,rfl,rfl,?_,?_,?_⟩
       · omega
       · unfold oO;rw[if_neg (by omega)];exact ho4
       · subst hw3;exact hf.app (by have:=hb.size;simp;omega) hfr
       · subst hw3
         exact(ab hb (af _ _) hb.size).grown hg (by have:=hb.size;simp;omega) hf
     · refine⟨_,?_,n+1,by omega,rfl,rfl,?_,hf,hb⟩
       · omega
       · unfold oO;rw[if_pos (by omega)];exact ho
 · have:n=94:=by omega
   subst this
   exact⟨_,rZ cj bC cI ho.all,rfl,hb⟩
def sym (c:UInt8):Int:=Jo (c.toNat:Nat)
def kZ (s:List UInt8):Bool:=s.all λc=>decide (0 <=sym c)
def Aq (s:List UInt8):List Int:=if kZ s then s.map sym else[]
theorem I5:∀n,n<256->Lib.indexByte pq (UInt8.ofNat n)=Jo n:=by decide+kernel
theorem I6 (c:UInt8):Lib.indexByte pq c=sym c:=by
 have:=I5 c.toNat (by have:=c.toNat_lt;omega)
 rwa [UInt8.ofNat_toNat]at this
theorem Kj (c:UInt8): -1 <=sym c/\sym c <=91:=by
 have:=za c
 unfold sym Jo cnt
 split <;> (try split) <;> (try split) <;> omega
theorem ou {α:Type}{l:List α}{k:Nat}(h:k<l.length):l.take (k+1)=l.take k++[l[k]]:=by
 rw[List.take_succ_eq_append_getElem h]
theorem G8 {s:List UInt8}{k:Nat}(hk:k<s.length)(h:sym s[k]<0):kZ s=false:=by
 rw[Bool.eq_false_iff]
 intro hg
 unfold kZ at hg
 rw[List.all_eq_true]at hg
 have:=hg s[k] (List.getElem_mem hk)
 simp at this;omega
theorem E5 {s:List UInt8}{k:Nat}(hk:k<s.length)(hg:kZ (s.take k)=true)(h: ¬ sym s[k]<0):kZ (s.take (k+1))=true:=by
 unfold kZ at*
 rw[ou hk,List.all_append,hg]
 simp;omega
def tD (s:List UInt8)(w:World)(v:Value)(w':World):Prop:=
 ∃a n c,v=.tuple #[.slice a n c,.bool (kZ s)]/\Ow bY aq w' NoB a n c (Aq s)/\br w.heap.size a/\bW w w'
theorem EF {s:List UInt8}{w w':World}(hg:kZ s=false)(hb:bW w w'):tD s w (.tuple #[.slice none 0 0,.bool false]) w':=by
 refine⟨none,0,0,by rw[hg],?_,br.none _,hb⟩
 rw[Aq,hg];exact Ow.nil _ _ _ _
theorem Df {s:List UInt8}{w w':World}{a:Option Addr}{n c:Nat}(hg:kZ s=true)(ho:Ow bY aq w' NoB a n c (s.map sym))(hf:br w.heap.size a)(hb:bW w w'):tD s w (.tuple #[.slice a n c,.bool true]) w':=by
 refine⟨a,n,c,by rw[hg],?_,hf,hb⟩
 rw[Aq,hg];exact ho
theorem nE (s:List UInt8)(hs:s.length <=1000000)(w:World):Cf iL #[vS s] w (Ret (tD s w)):=by
 apply td
 refine aw (nF w) ?_
 rintro _ w1 ⟨rfl,hb1⟩
 refine⟨_,rfl,?_⟩
 obtain⟨w2,a2,n2,c2,hr,ho2,hb2,hf2⟩:=pX bC cj cI w1 s (by omega) NoB
 have hn2:=ho2.len
 subst hn2
 have hB2:bW w w2:=ab hb1 hb2 hb1.size
 refine⟨w2,a2,_,c2,hr,?_⟩
 refine⟨λm a l c k w'=>∃n:Nat,n <=s.length/\k=(n:Int)/\m=s.length-n/\kZ (s.take n)=true/\Ow bY aq w' NoB a l c ((s.take n).map sym)/\br w2.heap.size a/\bW w2 w',
   ⟨_,0,by omega,rfl,rfl,rfl,Ow.nil _ _ _ _,br.none _,Below.refl _ _⟩,?_⟩
 intro m a l c k
 refine aL.of ?_ _
 rintro w' ⟨n,hn,rfl,rfl,hg,ho,hf,hb⟩
 refine ah.of (λh=>?_) (λh=>?_) <;> simp at h
 · have hsl:=(ho2.below hb).all
   refine⟨⟨⟨by omega,by omega⟩,hsl.isSome h⟩,?_⟩
   obtain⟨v,hv,hrep⟩:=hsl.load1 (i:=(n:Int)) cI rfl rfl (by simpa using h)
   have:=vB hrep
   subst this
   simp only[Int.toNat_natCast]at hv
   refine⟨_,hv,?_⟩
   refine(Tryz.strings_IndexByte (mkS pq) _ _).mono ?_
   rintro _ _ ⟨rfl,rfl⟩
   have e:Lib.indexByte (mkS pq).data.toList (Int.toNat ((s[n].toNat:Nat):Int)).toUInt8=sym s[n]:=by
     rw[<- I6]
     congr 1
     simp[Nat.toUInt8]
   rw[e]
   refine⟨_,rfl,?_⟩
   refine ah.of (λh4=>?_) (λh4=>?_) <;> simp at h4
   · exact EF (G8 h h4) (ab hB2 hb hB2.size)
   · intro k1 w3 hk1 hw3
     have ho3:Ow bY aq w3 NoB a l c ((s.take n).map sym):=ho.below (hw3▸af _ _)
     have hsrc:Src bY w3 NoB (some ⟨k1,0,none⟩) 1 [sym s[n]]:=Src.new1F dF hk1 hw3 cS
     obtain⟨w4,a',n',c',hr,ho4,hgr,hfr⟩:=cr (ty:=aj) aA dk (by decide) ho3 (λ_ _ h=>h) (cm:=1) hsrc (by simp;omega)
     have e1:i64.wrap ((n:Int)+1)=((n+1:Nat):Int):=by rw[ar (by omega) (by omega)];omega
     try dsimp only
     rw[e1]
     refine⟨w4,a',n',c',hr,_,?_,n+1,by omega,rfl,rfl,E5 h hg (by omega),?_,?_,?_⟩
     · omega
     · rw[ou h,List.map_append];exact ho4
     · subst hw3;exact hf.app (by have:=hb.size;simp;omega) hfr
     · subst hw3;exact(ab hb (af _ _) hb.size).grown hgr (by have:=hb.size;simp;omega) hf
 · have:n=s.length:=by omega
   subst this
   rw[List.take_length]at hg ho
   exact Df hg ho (hf.mono hB2.size) (ab hB2 hb hB2.size)
def wd (i:Int):Bool:=decide (0 <=i)&&decide (i<92)
def chr (i:Int):UInt8:=pq[i.toNat]?.getD 0
def okL (l:List Int):Bool:=l.all wd
def Av (l:List Int):List UInt8:=if okL l then l.map chr else[]
theorem AU:pq.length=92:=by decide+kernel
theorem FG {l:List Int}{k:Nat}(hk:k<l.length)(h: ¬ (0 <=l[k]/\l[k]<92)):okL l=false:=by
 rw[Bool.eq_false_iff]
 intro hg
 unfold okL at hg
 rw[List.all_eq_true]at hg
 have:=hg l[k] (List.getElem_mem hk)
 simp[wd]at this;omega
theorem Hr {l:List Int}{k:Nat}(hk:k<l.length)(hg:okL (l.take k)=true)(h0:0 <=l[k])(h1:l[k]<92):okL (l.take (k+1))=true:=by
 unfold okL at*
 rw[ou hk,List.all_append,hg]
 simp[wd,h0,h1]
def xH (l:List Int)(w:World)(v:Value)(w':World):Prop:=v=.tuple #[vS (Av l),.bool (okL l)]/\bW w w'
theorem CA {l:List Int}{w w':World}(hg:okL l=false)(hb:bW w w'):xH l w (.tuple #[vS [],.bool false]) w':=by
 refine⟨?_,hb⟩
 simp[Av,hg]
theorem E4 {l:List Int}{w w':World}(hg:okL l=true)(hb:bW w w'):xH l w (.tuple #[vS (l.map chr),.bool true]) w':=by
 refine⟨?_,hb⟩
 simp[Av,hg]
theorem pO {l:List Int}(hl:l.length <=1000000){w:World}{A:Bl}{a:Option Addr}{n c:Nat}(hs:Sl bY w A a n c l):Cf gR #[.slice a n c] w (Ret (xH l w)):=by
 have hn:=hs.len
 subst hn
 apply oC
 refine aw (nF w) ?_
 rintro _ w1 ⟨rfl,hb1⟩
 refine⟨_,rfl,?_⟩
 refine⟨λm a l1 c k w'=>∃n:Nat,n <=l.length/\k=(n:Int)/\m=l.length-n/\okL (l.take n)=true/\Ow tU8 aW w' NoB a l1 c ((l.take n).map chr)/\br w1.heap.size a/\bW w1 w',
   ⟨_,0,by omega,rfl,rfl,rfl,Ow.nil _ _ _ _,br.none _,Below.refl _ _⟩,?_⟩
 intro m a1 l1 c1 k
 refine aL.of ?_ _
 rintro w' ⟨n,hn,rfl,rfl,hg,ho,hf,hb⟩
 have hB:bW w w':=ab hb1 hb hb1.size
 refine ah.of (λh=>?_) (λh=>?_) <;> simp at h
 · have hsl:=hs.below hB
   refine⟨⟨⟨by omega,by omega⟩,hsl.isSome h⟩,?_⟩
   obtain⟨v,hv,hrep⟩:=hsl.load1 (i:=(n:Int)) aC rfl rfl (by simpa using h)
   have:=Fk hrep
   subst this
   simp only[Int.toNat_natCast]at hv
   refine⟨_,hv,?_⟩
   rw[AU]
   refine⟨λw''=>w''=w'/\0 <=l[n]/\l[n]<92,?_,?_⟩
   · refine ah.of (λh4=>?_) (λh4=>ah.of (λh5=>?_) (λh5=>?_)) <;> simp at h4
     · exact CA (FG h (by omega)) hB
     · simp at h5;exact CA (FG h (by omega)) hB
     · simp at h5;exact⟨rfl,h4,h5⟩
   · refine aL.of ?_ _
     rintro w2 ⟨rfl,h4,h5⟩
     refine⟨⟨h4,by omega⟩,?_⟩
     intro k1 w3 hk1 hw3
     have ho3:Ow tU8 aW w3 NoB a1 l1 c1 ((l.take n).map chr):=ho.below (hw3▸af _ _)
     have hsrc:Src tU8 w3 NoB (some ⟨k1,0,none⟩) 1 [chr l[n]]:=Src.new1F yg hk1 hw3 (uQ rfl)
     obtain⟨w4,a',n',c',hr,ho4,hgr,hfr⟩:=cr (ty:=aZ) cj iT (by decide) ho3 (λ_ _ h=>h) (cm:=1) hsrc (by simp;omega)
     have e1:i64.wrap ((n:Int)+1)=((n+1:Nat):Int):=by rw[ar (by omega) (by omega)];omega
     try dsimp only
     rw[e1]
     refine⟨w4,a',n',c',hr,_,?_,n+1,by omega,rfl,rfl,Hr h hg h4 h5,?_,?_,?_⟩
     · omega
     · rw[ou h,List.map_append];exact ho4
     · subst hw3;exact hf.app (by have:=hb.size;simp;omega) hfr
     · subst hw3;exact(ab hb (af _ _) hb.size).grown hgr (by have:=hb.size;simp;omega) hf
 · have:n=l.length:=by omega
   subst this
   rw[List.take_length]at hg ho
   exact⟨_,rZ cj bC cI ho.all,E4 hg hB⟩
def one (n:Int):List UInt8:=if wd n then[chr n]else[]
open Go.Sort (Holds putRow grow putCells mapBlock)
theorem Ow.trunc {α:Type}{T:Ty α}{t:TypeId}{w:World}{A:Bl}{a:Option Addr}{n c:Nat}{xs:List α}(h:Ow T t w A a n c xs){ys zs:List α}(e:xs=ys++zs):Ow T t w A a ys.length c ys:=by
 obtain⟨h1,h2,h3,h4⟩:=h
 subst e h1
 refine⟨rfl,by simp at h2;omega,h3,?_⟩
 rcases h4 with⟨e1,e2,e3⟩|⟨g,cur,fr,e,hh,hf,hs,h4⟩
 · exact .inl ⟨e1,e2,(List.append_eq_nil_iff.1 e3).1⟩
 · refine .inr ⟨g,cur,fr,e,hh,hf,hs,?_⟩
   have hl:=h4.len
   have e1:cur.toList.take (ys.length*T.k)=(cur.toList.take ((ys++zs).length*T.k)).take (ys.length*T.k):=by
     rw[List.take_take];congr 1
     rw[List.length_append,Nat.add_mul];omega
   refine⟨?_,λi hi=>?_⟩
   · rw[e1,List.length_take,hl,List.length_append,Nat.add_mul];omega
   · have h5:=h4.rep i (by simp;omega)
     rw[List.getElem_append_left hi]at h5
     have hb:i*T.k+T.k <=ys.length*T.k:=by
       have:=Nat.mul_le_mul_right T.k (show i+1 <=ys.length from hi)
       rwa [Nat.add_mul,Nat.one_mul]at this
     rw[e1,List.drop_take,List.take_take]
     rw[show min T.k (ys.length*T.k-i*T.k)=T.k by omega]
     exact h5
theorem Ow.holds {α:Type}[Inhabited α]{e:α->Value}{h1:∀x,(e x).oneCell'=true}{p:α->Prop}{t:TypeId}{w:World}{A:Bl}{g n c:Nat}{xs:List α}
   (h:Ow (Ty.enc e h1 p) t w A (some ⟨g,0,none⟩) n c xs):Holds e w g 0 xs.toArray/\g<w.heap.size:=by
 obtain⟨h1',h2,h3,h4⟩:=h
 rcases h4 with⟨e1,_⟩|⟨g',cur,fr,e',hh,hf,hs,h4⟩
 · cases e1
 · cases e'
   refine⟨λj hj=>?_,(Array.getElem?_eq_some_iff.1 hh).1⟩
   have hj':j<xs.length:=by simpa using hj
   have hjc:j<cur.size:=by rw[hs];simp[Ty.enc];omega
   have h5:=dH h4
   refine⟨?_,?_⟩
   · rw[eQ hh,Nat.zero_add]
     have h6:(cur.toList.take (n*(Ty.enc e h1 p).k))[j]? =some (e xs[j]):=by rw[h5];simp[hj']
     rw[List.getElem?_take]at h6
     split at h6
     · simp at h6 ⊢;rw[h6];simp[hj']
     · cases h6
   · rw[Nat.zero_add];exact wV hh (hf j hjc)
theorem Ow.putR {α:Type}[Inhabited α]{e:α->Value}{h1:∀x,(e x).oneCell'=true}{p:α->Prop}{t:TypeId}{w:World}{A:Bl}{g n c:Nat}{xs ys:List α}
   (h:Ow (Ty.enc e h1 p) t w A (some ⟨g,0,none⟩) n c xs) (hl:ys.length=xs.length) (hp:∀y∈ys,p y) (q:Nat) (os:Array Obj):
   Ow (Ty.enc e h1 p) t (grow (putRow e (Go.Sort.ahead w q) g 0 ys.toArray) os) A (some ⟨g,0,none⟩) n c ys/\w.grownBy (grow (putRow e (Go.Sort.ahead w q) g 0 ys.toArray) os) (some g):=by
 obtain⟨h1',h2,h3,h4⟩:=h
 rcases h4 with⟨e1,_⟩|⟨g',cur,fr,e',hh,hf,hs,h4⟩
 · cases e1
 · cases e'
   have hlt:=(Array.getElem?_eq_some_iff.1 hh).1
   have hsz:(putRow e (Go.Sort.ahead w q) g 0 ys.toArray).heap.size=w.heap.size:=by simp[Go.Sort.ahead]
   have hh':(grow (putRow e (Go.Sort.ahead w q) g 0 ys.toArray) os).heap[g]? =some (.cells (putCells e 0 ys.toArray cur) t fr):=by
     rw[Sort.heap_grow_old _ _ (by rw[hsz];exact hlt)]
     show((Go.Sort.ahead w q).heap.modify g _)[g]? =_
     rw[Array.getElem?_modify,if_pos rfl]
     show(w.heap[g]?).map _=_
     rw[hh];rfl
   refine⟨⟨by rw[hl];exact h1',h2,h3,.inr ⟨g,_,fr,rfl,hh',?_,?_,?_⟩⟩,?_⟩
   · intro i hi;exact hf i (by simpa[putCells]using hi)
   · simpa[putCells]using hs
   · have:(putCells e 0 ys.toArray cur).toList.take (n*(Ty.enc e h1 p).k)=ys.map e:=by
       have hn:n*(Ty.enc e h1 p).k=ys.length:=by rw[hl,h1'];simp[Ty.enc]
       have hcs:ys.length <=cur.size:=by rw[hs,hl];simp[Ty.enc];omega
       rw[hn]
       apply List.ext_getElem?
       intro i
       rw[List.getElem?_take]
       by_cases hi:i<ys.length
       · rw[if_pos hi]
         have:i<cur.size:=by omega
         simp[putCells,hi,this]
       · rw[if_neg hi];simp[hi]
     rw[this]
     exact gK hp
   · refine⟨rfl,rfl,rfl,by simp[grow,hsz],λk hk hne=>?_⟩
     rw[Sort.heap_grow_old _ _ (by rw[hsz];exact hk)]
     show((Go.Sort.ahead w q).heap.modify g _)[k]? =_
     rw[Array.getElem?_modify,if_neg (λe=>hne (by rw[e]))]
     rfl
theorem Ow.put0 {α:Type}[Inhabited α]{e:α->Value}{h1:∀x,(e x).oneCell'=true}{p:α->Prop}{t:TypeId}{w:World}{A:Bl}{g n c:Nat}{xs ys:List α}
   (h:Ow (Ty.enc e h1 p) t w A (some ⟨g,0,none⟩) n c xs) (hl:ys.length=xs.length) (hp:∀y∈ys,p y) (q:Nat):
   Ow (Ty.enc e h1 p) t (putRow e (Go.Sort.ahead w q) g 0 ys.toArray) A (some ⟨g,0,none⟩) n c ys/\w.grownBy (putRow e (Go.Sort.ahead w q) g 0 ys.toArray) (some g):=by
 have:=h.putR hl hp q #[]
 rwa [Sort.grow_empty]at this
theorem DL {α:Type}{e:α->Value}{h1:∀x,(e x).oneCell'=true}{p:α->Prop}{t:TypeId}{w:World}{B n:Nat}{v:Value}{xs:List α}(A:Bl)(h:w.ownsRow B t 1 v n (xs.map e))(hn:n=xs.length)(hp:∀x∈xs,p x):
   ∃a c,v=.slice a n c/\Ow (Ty.enc e h1 p) t w A a n c xs/\br B a:=by
 rcases h.2 with⟨rfl,h0⟩|⟨g,cap,cur,rfl,hb,hg,hle,hm,hs,ht⟩
 · have:xs=[]:=List.eq_nil_of_length_eq_zero (by omega)
   subst this
   exact⟨none,0,by rw[h0],by rw[h0];exact Ow.nil _ _ _ _,br.none _⟩
 · refine⟨_,cap,rfl,⟨hn,hle,hm,.inr ⟨g,cur,(0,0),rfl,hg,λi _=>by simp,by simpa[Ty.enc]using hs,?_⟩⟩,λx hx=>by simp[bi]at hx;omega⟩
   show gr _ _ _ (cur.toList.take (n*1)) xs
   rw[ht];exact gK hp
section
open Go.RowKit Go.Shelf Go.Pk
attribute [local go_sem] Oper.semAt_some
def upto {α:Type}(f:Nat->α)(k:Nat):List α:=(List.range k).map f
theorem AC {α:Type}(f:Nat->α)(k:Nat):upto f (k+1)=upto f k++[f k]:=by simp[upto,List.range_succ]
theorem Cd {α:Type}(f:Nat->α)(k:Nat):(upto f k).length=k:=by simp[upto]
theorem HE (zs:List (List UInt8)):upto (λj=>zs[j]?.getD []) zs.length=zs:=by
 apply List.ext_getElem
 · simp[upto]
 · intro i h1 h2
   simp[upto,h2]
theorem Gh (zs:List (List UInt8)){k:Nat}(hk:k <=zs.length):upto (λj=>zs[j]?.getD []) k=zs.take k:=by
 apply List.ext_getElem
 · simp[upto,hk]
 · intro i h1 h2
   have:i<zs.length:=by simp[upto]at h1;omega
   simp[upto,this]
set_option maxRecDepth 100000 in
set_option maxHeartbeats 2000000 in
theorem D6 (F:Fence)(n:Nat)(h7:F.fn 96)(hro:F.round=none)(hn:1 <=n)(l Bs n₀ b off len cap:Nat)(zs:List (List UInt8))(hreach:len*16 <=140737488351232)(hb:b<n₀)(J Jx:List (List UInt8)->World->Prop)
   (hY:∀pre x W,J pre W->pre.length<len->YieldAt F (n-1) prog l #[vS x] W λe W'=>
     (e=.returned (.bool true)/\J (pre++[x]) W'/\Below n₀ W W')\/(e=.returned (.bool false)/\Jx (pre++[x]) W'))
   (W:World) (hBs:W.cell? ⟨Bs,0,none⟩=some (.slice (some ⟨b,off,none⟩) len cap)) (hc:∀j,j<len->W.cell? ⟨b,off+j,none⟩=some (vS (zs[j]?.getD []))) (h0:J [] W):
   CallsIn F n prog 96 #[.func (.yield l) #[] #[],.pointer (some ⟨Bs,0,none⟩)] W λe W'=>(∃v,e=.returned v)/\
     ((∃ys,ys=upto (λj=>zs[j]?.getD []) len/\J ys W')\/(∃pre,(∃k,k <=len/\pre=upto (λj=>zs[j]?.getD []) k)/\Jx pre W')):=by
 refine callsIn_of_wp func96 rfl h7 ?_ hro
 simp only[Tryz.ntmps96,List.size_toArray,List.length_cons,List.length_nil,Nat.reduceAdd,Nat.reduceSub,Array.replicate_succ,Array.replicate_zero,List.push_toArray,List.append_toArray,List.nil_append,List.cons_append]
 gi_wp2
 gi_loopw [7] (λi wr=>∃k:Nat,k <=len/\i=vI k/\J (upto (λj=>zs[j]?.getD []) k) wr/\Below n₀ W wr)
   (λi _=>len-(RowKit.intOf i).toNat)
 case atStart=>exact⟨0,Nat.zero_le _,rfl,h0,Below.refl _ _⟩
 case round=>
   obtain⟨k,hk,rfl,hJs,hnx⟩:=hrel
   have hcx:k<len->wr.cell? ⟨b,off+k,none⟩=some (vS (zs[k]?.getD [])):=λh=>(hnx.cell (p:=⟨b,off+k,none⟩) hb).trans (hc k h)
   by_cases hlt:k<len
   · obtain⟨fn,tmps,assign,body,hy,hR⟩:=hY _ (zs[k]?.getD []) wr hJs (by rw[Cd];exact hlt)
     have hcx':=hcx hlt
     gi_wp2
     refine hR.mono ?_
     rintro e W3 (⟨rfl,hJ3,hk3⟩|⟨rfl,hJx3⟩)
     · gi_wp2
       go_roundw
       case rel=>exact⟨k+1,by omega,by simp,by rw[AC];exact hJ3,hnx.trans hk3⟩
       case measure=>simp[RowKit.intOf];omega
     · gi_wp2
       refine bodyPost_ret (results_none rfl _ _ _) rfl ?_
       exact⟨⟨_,rfl⟩,.inr ⟨_,⟨k+1,by omega,(AC _ _).symm⟩,hJx3⟩⟩
   · obtain rfl:k=len:=by omega
     gi_wp2
     go_end0
     exact⟨⟨_,rfl⟩,.inl ⟨_,rfl,hJs⟩⟩
def xM (n₀:Nat)(W:World)(sv:Value)(zs:List (List UInt8)):Prop:=
 (zs=[]/\∃a c,sv=.slice a 0 c)\/∃b off cap,sv=.slice (some ⟨b,off,none⟩) zs.length cap/\b<n₀/\∀j,j<zs.length->W.cell? ⟨b,off+j,none⟩=some (vS (zs[j]?.getD []))
theorem xM.below {n₀:Nat}{A B:World}(h:Below n₀ A B){sv:Value}{zs:List (List UInt8)} :xM n₀ A sv zs->xM n₀ B sv zs
 | .inl e=>.inl e
 | .inr ⟨b,off,cap,e,hb,hc⟩=>.inr ⟨b,off,cap,e,hb,λj hj=>(h.cell (p:=⟨b,off+j,none⟩) hb).trans (hc j hj)⟩
set_option maxRecDepth 100000 in
set_option maxHeartbeats 1000000 in
theorem wO (F:Fence)(n:Nat)(h7:F.fn 96)(hro:F.round=none)(l Bs:Nat)(J:List (List UInt8)->World->Prop)(a:Option Addr)(c:Nat)(W:World)(hBs:W.cell? ⟨Bs,0,none⟩=some (.slice a 0 c))(h0:J [] W):
   CallsIn F n prog 96 #[.func (.yield l) #[] #[],.pointer (some ⟨Bs,0,none⟩)] W λe W'=>(∃v,e=.returned v)/\J [] W':=by
 refine callsIn_of_wp func96 rfl h7 ?_ hro
 simp only[Tryz.ntmps96,List.size_toArray,List.length_cons,List.length_nil,Nat.reduceAdd,Nat.reduceSub,Array.replicate_succ,Array.replicate_zero,List.push_toArray,List.append_toArray,List.nil_append,List.cons_append]
 gi_wp2
 gi_loopw [7] (λi wr=>i=vI 0/\J [] wr) (λ_ _=>0)
 case atStart=>exact⟨rfl,h0⟩
 case round=>
   obtain⟨rfl,hJs⟩:=hrel
   gi_wp2
   go_end0
   exact⟨⟨_,rfl⟩,hJs⟩
theorem AF (F:Fence)(n:Nat)(h7:F.fn 96)(hro:F.round=none)(hn:1 <=n)(Bs n₀:Nat)(sv:Value)(zs:List (List UInt8))(hreach:zs.length*16 <=140737488351232)(w:World)(hBs:Bs<w.heap.size)(hn₀:n₀ <=w.heap.size)
   (hc:w.cell? ⟨Bs,0,none⟩=some sv) (hI:xM n₀ w sv zs):
   SeqStopsK F n prog 96 #[.pointer (some ⟨Bs,0,none⟩)] (λx:List UInt8=> #[vS x]) (Below n₀) (λys=>ys=zs) (λpre=>pre <+:zs) zs.length w:=λl J Jx W hW _ _ hY h0=>by
 have hc':=(hW.cell (p:=⟨Bs,0,none⟩) hBs).trans hc
 rcases hI.below (hW.mono hn₀)with⟨rfl,a,c,rfl⟩|⟨b,off,cap,rfl,hb,hcs⟩
 · exact(wO F n h7 hro l Bs J a c W hc' h0).mono λe W' ⟨he,hj⟩=>⟨he,.inl ⟨_,rfl,hj⟩⟩
 · refine(D6 F n h7 hro hn l Bs n₀ b off zs.length cap zs hreach hb J Jx hY W hc' hcs h0).mono ?_
   rintro e W' ⟨he,⟨ys,rfl,hj⟩|⟨pre,⟨k,hk,rfl⟩,hj⟩⟩
   · exact⟨he,.inl ⟨_,HE zs,hj⟩⟩
   · exact⟨he,.inr ⟨_,by rw[Gh zs hk];exact List.take_prefix _ _,hj⟩⟩
theorem Bp:(prog.info? 9).map (λi=>(i.zero,i.size,i.bytes))=some (some (vS []),1,16):=by kernel_rfl
set_option maxRecDepth 100000 in
set_option maxHeartbeats 2000000 in
theorem zm (F:Fence)(n:Nat)(h3:F.fn 148)(h7:F.fn 96)(hro:F.round=none)(hn:3 <=n)(Bs:Nat)(sv:Value)(zs:List (List UInt8))(hlen:zs.length <=maxLen)(hbytes:zs.length*16 <=140737488351232)(w:World)(hBs:Bs<w.heap.size)
   (hc:w.cell? ⟨Bs,0,none⟩=some sv) (hI:xM w.heap.size w sv zs):
   CallsIn F n prog 148 #[.slice none 0 0,.func (.func 96) #[] #[.pointer (some ⟨Bs,0,none⟩)]] w λe W'=>∃v,e=.returned v/\W'.ownsRow w.heap.size 9 1 v zs.length (zs.map λx=>vS x)/\bW w W':=by
 have h1:1 <=n:=by omega
 obtain⟨i0,hi,hz0,hz1,hz2⟩:=info_parts Bp
 refine callsIn_of_wp_marks func148 rfl h3 ?_ hro
 simp only[Tryz.ntmps148,List.size_toArray,List.length_cons,List.length_nil,Nat.reduceAdd,Nat.reduceSub,Array.replicate_succ,Array.replicate_zero,List.push_toArray,List.append_toArray,List.nil_append,List.cons_append]
 gi_wp2
 have bO:=Boxed.new w 38 (.slice none 0 0)
 have hB0:bW w (w.alloc (.cells #[.slice none 0 0] 38)):=(Below.refl _ w).alloc (Nat.le_refl _) _
 refine wpIn_rangeFunc_ownG hro h1 (gf:=96) (lb:= #[.pointer (some ⟨Bs,0,none⟩)]) rfl h7 (enters_of func96 (by kernel_rfl) rfl)
   (AF F (n-1) h7 hro (by omega) Bs w.heap.size sv zs hbytes _ (by simp;omega) (by simp) ((hB0.cell (p:=⟨Bs,0,none⟩) hBs).trans hc) (hI.below hB0)) belowK_t (belowK_b (by simp)) (Below.refl _ _) (λ_=>rfl)
   (fun(pre:List (List UInt8)) W=>(∃v,Boxed W w.heap.size 38 v/\W.ownsRow w.heap.size 9 1 v pre.length (pre.map (λx=>vS x))/\(v=v))/\bW w W)
   (λ_ _ _=>False)
   (OwnFrom.and (Own.from (holdsRow_own w.heap.size w.heap.size 38 9 1 (λpre:List (List UInt8)=>pre.length) (λpre:List (List UInt8)=>pre.map (λx=>vS x)) (λpre v=>v=v)) _) (ownFrom_below (Nat.le_refl _) (by simp)))
   (λ_ _ _ _ _ hs _ _=>hs)
   ⟨⟨_,bO,World.ownsRow_nil _ _ _ _,rfl⟩,hB0⟩
   (λx=> { tmps:= #[.slice none 0 0,.func (.func 96) #[] #[.pointer (some ⟨Bs,0,none⟩)],.pointer (some ⟨w.heap.size,0,none⟩),undef,.slice none 0 0,vS x,.func (.func 96) #[] #[.pointer (some ⟨Bs,0,none⟩)],vS x,undef,undef,undef,undef,undef],defers:=[] }) ?assign ?body ?done ?stop
 case assign=>
   intro l x W K hK
   gi_wp2
   exact hK
 case body=>
   rintro l pre x W ⟨⟨v,hv,hrow,-⟩,hB⟩ hlt
   have hc:=hv.cell
   gi_wp2_with (gi_at_builtin;refine wpListIn_append_own _ rfl _ _ 38 rfl w.heap.size 9 i0 (vS []) 1 16 Tryz.underlying38 hi hz0 hz1 hz2 rfl (by decide) _ _ _ rfl (hrow.alloc _) ⟨W.heap.size,0,none⟩ 1 1 [vS x] rfl rfl (cell_one_new _ _ _) (by simp[Value.oneCell']) (by omega) (by omega) (by have:=hB.size;simp;omega) ?_;intro v' w1 hown' hgrow _;obtain⟨g',cap',rfl⟩:=ownsRow_succ hown';obtain⟨hv1,hv2,hr2,hk2,hb2⟩:=hv.appended (by decide) hrow hB.size (Nat.le_refl _) hown' hgrow;have hc1:=hv1.cell;have hf1:=hv1.frozen)
   exact⟨hk2.from _,hb2,⟨_,hv2,by simpa using hr2⟩,hB.trans hb2⟩
 case done=>
   rintro D ys W hD rfl ⟨⟨v,hv,hrow,-⟩,hB⟩ hK
   have hc:=hv.cell
   gi_wp2
   refine⟨by simp,.inl ⟨_,_,rfl,run_takeDeferred hK,?_⟩⟩
   exact⟨_,Go.results_tmp rfl _ _ _,v,rfl,ownsRow_putObj hrow _ hK rfl,hB.trans (belowK_b (w:=w) (Nat.le_refl _) W D _ _ (by simp at hD;omega) hK rfl rfl)⟩
 case stop=>
   rintro D c pre W _ _ h _
   exact h.elim
end
def KV (es:List MapEntry)(kvs:List (List UInt8×Int)):Prop:=es.map (λe=>(e.key,e.val))=kvs.map λp=>(vS p.1,vI p.2)
def mQ (w:World)(r:Nat)(kvs:List (List UInt8×Int)):Prop:=∃es clock,w.heap[r]? =some (.map es clock)/\KV es.toList kvs
def mg (k:List UInt8):List (List UInt8×Int)->Option Int
 | []=>none
 | (k',v)::l=>if k=k' then some v else mg k l
def zU (k:List UInt8):List (List UInt8×Int)->Nat->Option (Nat×Int)
 | [],_=>none
 | (k',v)::l,i=>if k=k' then some (i,v)else zU k l (i+1)
theorem rB (k:List UInt8):∀(l:List (List UInt8×Int)) (i:Nat),(zU k l i).map (·.2)=mg k l
 | [],_=>rfl
 | (k',v)::l,i=>by
   unfold zU mg
   split
   · rfl
   · exact rB k l (i+1)
theorem Jc (a b:List UInt8):(mkS a==mkS b)=(a==b):=by
 show((mkS a).data==(mkS b).data)=_
 simp[mkS]
theorem Jd {a b:List UInt8} :(mkS a==mkS b)=decide (a=b):=by
 rw[Jc,Bool.eq_iff_iff];simp
theorem uf (k:List UInt8):∀(es:List MapEntry) (kvs:List (List UInt8×Int)) (i:Nat),KV es kvs->
   Instr.findNow .string (vS k) es i=some ((zU k kvs i).map λp=>(p.1,vI p.2))
 | [],kvs,i,h=>by
   have:kvs=[]:=by
     unfold KV at h;simp at h;exact h
   subst this;rfl
 | e::es,[],i,h=>by unfold KV at h;simp at h
 | e::es,(k',v)::kvs,i,h=>by
   unfold KV at h
   simp only[List.map_cons,List.cons.injEq,Prod.mk.injEq]at h
   obtain⟨⟨hk,hv⟩,ht⟩:=h
   unfold Instr.findNow zU
   rw[hk]
   simp only[Instr.sameNow,Jd]
   by_cases e1:k=k'
   · simp[e1,hv]
   · simp only[e1,decide_false,if_false]
     exact uf k es kvs (i+1) ht
theorem ud {P:Program}{kt:TypeId}(hk:P.underlying kt=some .string){k:List UInt8}{es:List MapEntry}{kvs:List (List UInt8×Int)}(h:KV es kvs)(w:World):
   (Instr.findKey kt (vS k) es).run P w=.ok ((zU k kvs 0).map λp=>(p.1,vI p.2)) w:=by
 unfold Instr.findKey
 rw[Sem.run_bind,aY hk,Result.andThen_ok,uf k es kvs 0 h]
 rfl
theorem sk {P:Program}{kt:TypeId}(hk:P.underlying kt=some .string)(b:Bool)(s:ByteArray)(w:World):(Instr.checkKey b 10000 kt (.string s)).run P w=.ok () w:=by
 show(Instr.checkKey b (9999+1) kt (.string s)).run P w=_
 unfold Instr.checkKey
 rw[Sem.run_bind,aY hk,Result.andThen_ok]
 rfl
theorem xu {P:Program}{w:World}{r:Nat}{es:Array MapEntry}{c:Nat}(h:w.heap[r]? =some (.map es c)):(getObj r).run P w=.ok (.map es c) w:=by
 simp only[getObj,Sem.run,h]
theorem zW {P:Program}{mt kt et:TypeId}{z:Value}(hm:P.underlying mt=some (.map kt et))(hk:P.underlying kt=some .string)(he:TF P et 1 8 (vI 0)){w:World}{r:Nat}{kvs:List (List UInt8×Int)}(h:mQ w r kvs)(k:List UInt8):
   (Instr.lookup mt (.map (some r)) (vS k) true).run P w=.ok (.tuple #[vI ((mg k kvs).getD 0),.bool (mg k kvs).isSome]) w:=by
 obtain⟨es,c,hh,hkv⟩:=h
 obtain⟨i,hi,_,_,hz⟩:=he.info
 unfold Instr.lookup
 simp only[Sem.run_bind,aY hm,Result.andThen_ok,xu hh,Sem.run_pure,sk hk,ud hk hkv]
 rw[<- rB k kvs 0]
 cases zU k kvs 0 with
 | none=>simp[zeroValue,iS hi,hz]
 | some p=>simp
theorem mQ.below {w w':World}{r:Nat}{kvs:List (List UInt8×Int)}(h:mQ w r kvs)(hb:bW w w'):mQ w' r kvs:=by
 obtain⟨es,c,hh,hkv⟩:=h
 exact⟨es,c,(hb.block r (Array.getElem?_eq_some_iff.1 hh).1).trans hh,hkv⟩
theorem mQ.keep {w w':World}{r:Nat}{kvs:List (List UInt8×Int)}(h:mQ w r kvs)(hb:w'.heap[r]? =w.heap[r]?):mQ w' r kvs:=by
 obtain⟨es,c,hh,hkv⟩:=h
 exact⟨es,c,hb.trans hh,hkv⟩
theorem mQ.new {w w':World}{r:Nat}(hr:r=w.heap.size)(hw:w'=w.alloc (.map #[] 0)):mQ w' r []:=by
 subst hr hw
 exact⟨#[],0,heap_alloc_new w _,rfl⟩
theorem yB {P:Program}{mt kt et:TypeId}(hm:P.underlying mt=some (.map kt et))(hk:P.underlying kt=some .string){w:World}{r:Nat}{kvs:List (List UInt8×Int)}(h:mQ w r kvs){k:List UInt8}(hno:mg k kvs=none)(v:Int):
   ∃w',(Instr.mapUpdate mt (.map (some r)) (vS k) (vI v)).run P w=.ok () w'/\mQ w' r (kvs++[(k,v)])/\w.grownBy w' (some r):=by
 obtain⟨es,c,hh,hkv⟩:=h
 have hlt:r<w.heap.size:=(Array.getElem?_eq_some_iff.1 hh).1
 have hnone:zU k kvs 0=none:=by
   have:=rB k kvs 0
   rw[hno]at this
   simpa using this
 refine⟨{ w with heap:=w.heap.setIfInBounds r (.map (es.push { key:=vS k,val:=vI v,born:=c }) (c+1)) },?_,⟨es.push { key:=vS k,val:=vI v,born:=c },c+1,by simp[hlt],?_⟩,⟨rfl,rfl,rfl,by simp,λj hj hne=>?_⟩⟩
 · unfold Instr.mapUpdate
   simp only[Sem.run_bind,aY hm,Result.andThen_ok,xu hh,sk hk,ud hk hkv,hnone,Option.map_none]
   simp only[setObj,Sem.run,hh]
 · unfold KV at hkv ⊢
   simp only[Array.toList_push,List.map_append,List.map_cons,List.map_nil,hkv]
 · have:r≠j:=λe=>hne (by rw[e])
   simp[Array.getElem?_setIfInBounds_ne this]
end Go.Pk
namespace Go.Proofs
open Go.Pk (Cf vS vI bW)
open Go.Shelf
def Tryz.sortS_ren:Go.Shelf.Ren:=⟨fun|6=>95|8=>150|9=>149|19=>200|20=>201|21=>191|22=>192|23=>193|24=>194|25=>195|26=>196|27=>197|28=>198|29=>199|36=>224|31=>225|32=>226|37=>227|38=>228|39=>229|41=>242|n=>n,fun|27=>38|29=>9|3=>3|32=>191|26=>38|0=>0|44=>244|46=>246|4=>4|36=>238|35=>237|41=>122|5=>5|9=>9|53=>278|57=>282|63=>291|64=>231|n=>n,fun|n=>n⟩
theorem Tryz.sortS:Go.Proofs.SlLaysM.n6 prog Tryz.sortS_ren:= {
 mixed:=by kernel_rfl
 f6:=⟨Tryz.f95.name,by decide,func95.trans (congrArg some (by kernel_rfl))⟩
 f8:=func150.trans (congrArg some (by kernel_rfl))
 f9:=⟨Tryz.f149.name,by decide,func149.trans (congrArg some (by kernel_rfl))⟩
 f19:=func200.trans (congrArg some (by kernel_rfl))
 f20:=func201.trans (congrArg some (by kernel_rfl))
 f21:=⟨Tryz.f191.name,by decide,func191.trans (congrArg some (by kernel_rfl))⟩
 f22:=⟨Tryz.f192.name,by decide,func192.trans (congrArg some (by kernel_rfl))⟩
 f23:=⟨Tryz.f193.name,by decide,func193.trans (congrArg some (by kernel_rfl))⟩
 f24:=⟨Tryz.f194.name,by decide,func194.trans (congrArg some (by kernel_rfl))⟩
 f25:=⟨Tryz.f195.name,by decide,func195.trans (congrArg some (by kernel_rfl))⟩
 f26:=⟨Tryz.f196.name,by decide,func196.trans (congrArg some (by kernel_rfl))⟩
 f27:=⟨Tryz.f197.name,by decide,func197.trans (congrArg some (by kernel_rfl))⟩
 f28:=⟨Tryz.f198.name,by decide,func198.trans (congrArg some (by kernel_rfl))⟩
 f29:=⟨Tryz.f199.name,by decide,func199.trans (congrArg some (by kernel_rfl))⟩
 f31:=func225.trans (congrArg some (by kernel_rfl))
 f32:=func226.trans (congrArg some (by kernel_rfl))
 f36:=⟨Tryz.f224.name,by decide,func224.trans (congrArg some (by kernel_rfl))⟩
 f37:=⟨Tryz.f227.name,by decide,func227.trans (congrArg some (by kernel_rfl))⟩
 f38:=⟨Tryz.f228.name,by decide,func228.trans (congrArg some (by kernel_rfl))⟩
 f39:=⟨Tryz.f229.name,by decide,func229.trans (congrArg some (by kernel_rfl))⟩
 f41:=⟨Tryz.f242.name,by decide,func242.trans (congrArg some (by kernel_rfl))⟩
 t0:=Tryz.underlying0
 a0:=Tryz.isAgg0
 z0:=Tryz.sizeOf0
 v0:=Tryz.zeroValue0
 t3:=Tryz.underlying3
 a3:=Tryz.isAgg3
 z3:=Tryz.sizeOf3
 v3:=Tryz.zeroValue3
 t4:=Tryz.underlying4
 a4:=Tryz.isAgg4
 z4:=Tryz.sizeOf4
 v4:=Tryz.zeroValue4
 t5:=Tryz.underlying5
 a5:=Tryz.isAgg5
 z5:=Tryz.sizeOf5
 v5:=Tryz.zeroValue5
 t9:=Tryz.underlying9
 a9:=Tryz.isAgg9
 z9:=Tryz.sizeOf9
 v9:=Tryz.zeroValue9
 t26:=Tryz.underlying38
 a26:=Tryz.isAgg38
 z26:=Tryz.sizeOf38
 v26:=Tryz.zeroValue38
 t27:=Tryz.underlying38
 a27:=Tryz.isAgg38
 z27:=Tryz.sizeOf38
 v27:=Tryz.zeroValue38
 t29:=Tryz.underlying9
 a29:=Tryz.isAgg9
 z29:=Tryz.sizeOf9
 v29:=Tryz.zeroValue9
 t32:=Tryz.underlying191
 a32:=Tryz.isAgg191
 z32:=Tryz.sizeOf191
 v32:=Tryz.zeroValue191
 t35:=Tryz.underlying237
 a35:=Tryz.isAgg237
 z35:=Tryz.sizeOf237
 v35:=Tryz.zeroValue237
 t36:=Tryz.underlying238
 a36:=Tryz.isAgg238
 z36:=Tryz.sizeOf238
 v36:=Tryz.zeroValue238
 t41:=Tryz.underlying122
 a41:=Tryz.isAgg122
 z41:=Tryz.sizeOf122
 v41:=Tryz.zeroValue122
 t44:=Tryz.underlying244
 a44:=Tryz.isAgg244
 z44:=Tryz.sizeOf244
 v44:=Tryz.zeroValue244
 t46:=Tryz.underlying246
 a46:=Tryz.isAgg246
 z46:=Tryz.sizeOf246
 v46:=Tryz.zeroValue246
 t53:=Tryz.underlying278
 a53:=Tryz.isAgg278
 z53:=Tryz.sizeOf278
 v53:=Tryz.zeroValue278
 t57:=Tryz.underlying282
 a57:=Tryz.isAgg282
 z57:=Tryz.sizeOf282
 v57:=Tryz.zeroValue282
 t63:=Tryz.underlying291
 a63:=Tryz.isAgg291
 z63:=Tryz.sizeOf291
 v63:=Tryz.zeroValue291
 t64:=Tryz.underlying231
 a64:=Tryz.isAgg231
 z64:=Tryz.sizeOf231
 v64:=Tryz.zeroValue231 }
end Go.Proofs
namespace Go.Pk
open Go.RowKit (Below)
open Go.Proofs
open Go.Sort (Holds putRow grow putCells mapBlock)
theorem Sl.texts {w:World}{a:Option Addr}{n c:Nat}{zs:List (List UInt8)}(h:Sl tS w jD a n c zs):xM w.heap.size w (.slice a n c) zs:=by
 obtain⟨rfl,h2,h3,h4⟩:=h
 rcases h4 with rfl|⟨b,off,rfl,hb,_,l,hl,hc⟩
 · exact .inl ⟨rfl,a,c,rfl⟩
 · refine .inr ⟨b,off,c,rfl,hb,λj hj=>?_⟩
   have he:=dH hl
   rw[hc j (by rw[he];simpa using hj),he]
   simp[hj]
theorem zn (Bs:Nat)(sv:Value)(zs:List (List UInt8))(hl:zs.length <=1000000)(w:World)(hBs:Bs<w.heap.size)(hc:w.cell? ⟨Bs,0,none⟩=some sv)(hI:xM w.heap.size w sv zs):
   Cf dV #[.slice none 0 0,.func (.func bs) #[] #[.pointer (some ⟨Bs,0,none⟩)]] w
     (Ret λv w'=>∃a n c,v=.slice a n c/\Ow tS aI w' NoB a n c zs/\br w.heap.size a/\bW w w'):=by
 refine(callsIn_wide (n:=3)).1 ?_
 have:=zm Fence.wide 3 trivial trivial rfl (by omega) Bs sv zs (by unfold maxLen;omega) (by omega) w hBs hc hI
 refine this.mono ?_
 rintro e W' ⟨v,rfl,hrow,hb⟩
 obtain⟨a,c,rfl,ho,hf⟩:=DL (e:=λs=>vS s) (h1:=λ_=>rfl) (p:=λ_=>True) NoB hrow rfl (λ_ _=>trivial)
 exact⟨_,rfl,a,_,c,rfl,ho,hf,hb⟩
theorem Dh (Bs:Nat)(sv:Value)(zs:List (List UInt8))(hl:zs.length <=1000000)(w:World)(hBs:Bs<w.heap.size)(hc:w.cell? ⟨Bs,0,none⟩=some sv)(hI:xM w.heap.size w sv zs):
   Cf eV #[.func (.func bs) #[] #[.pointer (some ⟨Bs,0,none⟩)]] w
     (Ret λv w'=>∃a n c,v=.slice a n c/\Ow tS aI w' NoB a n c zs/\br w.heap.size a/\bW w w'):=by
 apply kQ
 refine aw (zn Bs sv zs hl w hBs hc hI) ?_
 rintro _ w1 ⟨a,n,c,rfl,ho,hf,hb⟩
 exact⟨a,n,c,rfl,a,n,c,rfl,ho,hf,hb⟩
abbrev srt (zs:List (List UInt8)):List (List UInt8):=zs.mergeSort λx y=>decide (x <=y)
theorem Jm (a:Option Addr)(n c:Nat)(zs:List (List UInt8))(hl:zs.length <=1000000)(w:World)(ho:Ow tS aI w NoB a n c zs):
   Cf fD #[.slice a n c] w (Ret λv w'=>v=.tuple #[]/\Ow tS aI w' NoB a n c (srt zs)/\w.grownBy w' (bi a)):=by
 have hn:=ho.len
 subst hn
 rcases ho.2.2.2 with⟨rfl,rfl,rfl⟩|⟨g,cur,fr,rfl,_⟩
 · refine(Tryz.slices_Sort_string_none none 0 w).mono ?_
   rintro _ _ ⟨rfl,rfl⟩
   exact⟨_,rfl,rfl,by simpa[srt]using ho,⟨rfl,rfl,rfl,Nat.le_refl _,λ_ _ _=>rfl⟩⟩
 · have hh:=ho.holds
   refine(Tryz.slices_Sort_string g 0 c zs w hh.1 hh.2 (by omega)).mono ?_
   rintro _ _ ⟨rfl,q,os,rfl⟩
   have:=ho.putR (ys:=srt zs) (by simp) (λ_ _=>trivial) q os
   exact⟨_,rfl,rfl,this.1,this.2⟩
theorem F4 (Bs:Nat)(sv:Value)(zs:List (List UInt8))(hl:zs.length <=1000000)(w:World)(hBs:Bs<w.heap.size)(hc:w.cell? ⟨Bs,0,none⟩=some sv)(hI:xM w.heap.size w sv zs):
   Cf fk #[.func (.func bs) #[] #[.pointer (some ⟨Bs,0,none⟩)]] w
     (Ret λv w'=>∃a n c,v=.slice a n c/\Ow tS aI w' NoB a n c (srt zs)/\br w.heap.size a/\bW w w'):=by
 apply lD
 refine aw (Dh Bs sv zs hl w hBs hc hI) ?_
 rintro _ w1 ⟨a,n,c,rfl,ho,hf,hb⟩
 refine⟨a,n,c,rfl,?_⟩
 refine aw (Jm a n c zs hl w1 ho) ?_
 rintro _ w2 ⟨rfl,ho2,hg⟩
 exact⟨rfl,a,n,c,rfl,ho2,hf,hb.grown hg hb.size hf⟩
theorem Gk (a:Option Addr)(n c:Nat)(w:World):Cf cP #[.slice a n c] w
   (Ret λv w'=>v=.func (.func bs) #[] #[.pointer (some ⟨w.heap.size,0,none⟩)]/\w'=w.alloc (.cells #[.slice a n c] az)):=by
 apply iG
 rintro _ _ rfl rfl
 exact⟨rfl,rfl⟩
theorem Dj (a:Option Addr)(n c:Nat)(zs:List (List UInt8))(hl:zs.length <=1000000)(w:World)(ho:Ow tS aI w NoB a n c zs):
   Cf eu #[.slice a n c] w (Ret λv w'=>∃n',v=.slice a n' c/\Ow tS aI w' NoB a n' c (Lib.compact zs)/\w.grownBy w' (bi a)):=by
 have hn:=ho.len
 subst hn
 rcases ho.2.2.2 with⟨rfl,rfl,rfl⟩|⟨g,cur,fr,rfl,_⟩
 · refine(Tryz.slices_Compact_string_empty none 0 w).mono ?_
   rintro _ _ ⟨rfl,rfl⟩
   exact⟨_,rfl,_,rfl,ho,⟨rfl,rfl,rfl,Nat.le_refl _,λ_ _ _=>rfl⟩⟩
 · have hh:=ho.holds
   refine(Tryz.slices_Compact_string g 0 c zs w hh.1 (by omega) ho.2.1).mono ?_
   rintro _ _ ⟨rfl,q,rfl⟩
   have hle:=Lib.compact_length_le zs
   have:=ho.put0 (ys:=Lib.compact zs++List.replicate (zs.length-(Lib.compact zs).length) []) (by simp;omega) (λ_ _=>trivial) q
   exact⟨_,rfl,_,rfl,this.1.trunc rfl,this.2⟩
end Go.Pk
