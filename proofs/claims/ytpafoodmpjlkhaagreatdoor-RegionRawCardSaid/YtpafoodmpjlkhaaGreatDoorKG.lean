/- What the laws lean on: Bwd, ColX, V35, DfaH, HwP, HosA, HwQ, HwT, HsL, HosD, V37, HosE, RegB, RegC, HosB; what is used. Its conditions: none. -/
import Derived.Test.YtpafoodmpjlkhaaGreatDoorKF
set_option linter.unusedVariables false
set_option linter.unusedSimpArgs false
set_option linter.unusedSectionVars false
set_option maxRecDepth 100000
open Go.IntKind (i64)
open Go.Proofs.Tryz
open List (length)
open Option (isSome)
namespace Go.Pk
open Go.RowKit (Below)
open Go.Proofs
def AW {α:Type}(f:Nat->α)(k:Nat):List α:=(List.range k).map f
theorem qV {α:Type}(f:Nat->α)(k:Nat):AW f (k+1)=AW f k++[f k]:=by simp[AW,List.range_succ]
theorem vX {α:Type}(f:Nat->α)(k:Nat):(AW f k).length=k:=by simp[AW]
def bkF {α:Type}(d:α)(len:Nat)(zs:List α)(k:Nat):Int×α:=((len:Int)-1-(k:Int),zs[len-1-k]?.getD d)
theorem EN {α:Type}(d:α)(zs:List α):(AW (bkF d zs.length zs) zs.length).map Prod.snd=zs.reverse:=by
 apply List.ext_getElem
 · simp[AW]
 · intro i h1 h2
   have hi:i<zs.length:=by simpa[AW]using h1
   have:zs.length-1-i<zs.length:=by omega
   simp[AW,bkF,List.getElem_reverse,this]
theorem EO {α:Type}(d:α)(zs:List α){k:Nat}(hk:k <=zs.length){p:Int×α}(hp:p∈AW (bkF d zs.length zs) k):p.2∈zs:=by
 unfold AW at hp
 obtain⟨i,hi,rfl⟩:=List.mem_map.1 hp
 rw[List.mem_range]at hi
 have:zs.length-1-i<zs.length:=by omega
 show zs[zs.length-1-i]?.getD d∈zs
 rw[List.getElem?_eq_getElem this]
 exact List.getElem_mem this
section
open Go.RowKit Go.Shelf Go.Pk
attribute [local go_sem] Oper.semAt_some
set_option maxRecDepth 100000 in
set_option maxHeartbeats 2000000 in
theorem IZ (F:Fence)(n:Nat)(h7:F.fn 130)(hro:F.round=none)(hn:1 <=n)(l Bs b off len cap:Nat)(zs:List (List UInt8))(hreach:len <=140737488351232)(A:Bl)(hAb:A b)(hAB:A Bs)(J Jx:List (Int×(List UInt8))->World->Prop)
   (hY:∀pre x W,J pre W->pre.length<len->YieldAt F (n-1) prog l #[vI x.1,vS x.2] W λe W'=>
     (e=.returned (.bool true)/\J (pre++[x]) W'/\oN A W W')\/(e=.returned (.bool false)/\Jx (pre++[x]) W'))
   (W:World) (hBs:W.cell? ⟨Bs,0,none⟩=some (.slice (some ⟨b,off,none⟩) len cap)) (hBn:Bs<W.heap.size) (hbn:b<W.heap.size) (hc:∀j,j<len->W.cell? ⟨b,off+j,none⟩=some (vS (zs[j]?.getD []))) (h0:J [] W):
   CallsIn F n prog 130 #[.func (.yield l) #[] #[],.pointer (some ⟨Bs,0,none⟩)] W λe W'=>(∃v,e=.returned v)/\
     ((∃ys,ys=AW (bkF [] len zs) len/\J ys W')\/(∃pre,(∃k,k <=len/\pre=AW (bkF [] len zs) k)/\Jx pre W')):=by
 refine callsIn_of_wp func130 rfl h7 ?_ hro
 simp only[Tryz.ntmps130,List.size_toArray,List.length_cons,List.length_nil,Nat.reduceAdd,Nat.reduceSub,Array.replicate_succ,Array.replicate_zero,List.push_toArray,List.append_toArray,List.nil_append,List.cons_append]
 gi_wp2
 gi_loopw [3] (λi wr=>∃k:Nat,k <=len/\i=vI ((len:Int)-1-(k:Int))/\J (AW (bkF [] len zs) k) wr/\oN A W wr)
   (λi _=>(RowKit.intOf i+1).toNat)
 case atStart=>exact⟨0,Nat.zero_le _,by simp,h0,oN.refl _ _⟩
 case round=>
   obtain⟨k,hk,rfl,hJs,hnx⟩:=hrel
   by_cases hlt:k<len
   · have hcx:wr.cell? ⟨b,off+(len-1-k),none⟩=some (vS (zs[len-1-k]?.getD [])):=(jd (hnx.block b hbn hAb) _).trans (hc _ (by omega))
     have hBs':wr.cell? ⟨Bs,0,none⟩=some (.slice (some ⟨b,off,none⟩) len cap):=(jd (hnx.block Bs hBn hAB) _).trans hBs
     have hi:(len:Int)-1-(k:Int)=((len-1-k:Nat):Int):=by omega
     obtain⟨fn,tmps,assign,body,hy,hR⟩:=hY _ (bkF [] len zs k) wr hJs (by rw[vX];exact hlt)
     dsimp only[bkF]at hy
     rw[hi]at hy ⊢
     gi_wp2
     refine hR.mono ?_
     rintro e W3 (⟨rfl,hJ3,hk3⟩|⟨rfl,hJx3⟩)
     · gi_wp2
       go_roundw
       case rel=>exact⟨k+1,by omega,by simp <;> omega,by rw[qV];exact hJ3,hnx.trans hk3⟩
       case measure=>simp[RowKit.intOf] <;> omega
     · gi_wp2
       refine bodyPost_ret (results_none rfl _ _ _) rfl ?_
       exact⟨⟨_,rfl⟩,.inr ⟨_,⟨k+1,by omega,(qV _ _).symm⟩,hJx3⟩⟩
   · obtain rfl:k=len:=by omega
     gi_wp2
     go_end0
     exact⟨⟨_,rfl⟩,.inl ⟨_,rfl,hJs⟩⟩
set_option maxRecDepth 100000 in
set_option maxHeartbeats 1000000 in
theorem Bp (F:Fence)(n:Nat)(h7:F.fn 130)(hro:F.round=none)(l Bs:Nat)(J:List (Int×(List UInt8))->World->Prop)(a:Option Addr)(c:Nat)(W:World)(hBs:W.cell? ⟨Bs,0,none⟩=some (.slice a 0 c))(h0:J [] W):
   CallsIn F n prog 130 #[.func (.yield l) #[] #[],.pointer (some ⟨Bs,0,none⟩)] W λe W'=>(∃v,e=.returned v)/\J [] W':=by
 refine callsIn_of_wp func130 rfl h7 ?_ hro
 simp only[Tryz.ntmps130,List.size_toArray,List.length_cons,List.length_nil,Nat.reduceAdd,Nat.reduceSub,Array.replicate_succ,Array.replicate_zero,List.push_toArray,List.append_toArray,List.nil_append,List.cons_append]
 gi_wp2
 gi_loopw [3] (λi wr=>i=vI (-1)/\J [] wr) (λ_ _=>0)
 case atStart=>exact⟨rfl,h0⟩
 case round=>
   obtain⟨rfl,hJs⟩:=hrel
   gi_wp2
   go_end0
   exact⟨⟨_,rfl⟩,hJs⟩
theorem Dp (F:Fence)(n:Nat)(h7:F.fn 130)(hro:F.round=none)(hn:1 <=n)(Bs:Nat){a:Option Addr}{len cap:Nat}(zs:List (List UInt8))(hreach:zs.length <=140737488351232){w:World}{t:TypeId}(hBs:ai w Bs t [.slice a len cap])(hs:Sl tS w jN a len cap zs):
   SeqStopsK F n prog 130 #[.pointer (some ⟨Bs,0,none⟩)] (λx:Int×List UInt8=> #[vI x.1,vS x.2]) (oN (λb=>b=Bs\/∃o,a=some ⟨b,o,none⟩)) (λys=>ys.map Prod.snd=zs.reverse) (λpre=>∀p∈pre,p.2∈zs) zs.length w:=λl J Jx W hW _ _ hY h0=>by
 have hBW:=hBs.below hW
 have hlt:=hBW.lt
 have hsW:=hs.below hW
 obtain⟨rfl,h2,h3,h4⟩:=hsW
 rcases h4 with rfl|⟨b,off,rfl,hb,_,cl,hl,hc⟩
 · exact(Bp F n h7 hro l Bs J a cap W (hBW.cell 0) h0).mono λe W' ⟨he,hj⟩=>⟨he,.inl ⟨_,rfl,hj⟩⟩
 · refine(IZ F n h7 hro hn l Bs b off zs.length cap zs hreach _ (.inr ⟨off,rfl⟩) (.inl rfl) J Jx hY W (hBW.cell 0) hlt hb (λj hj=>?_) h0).mono ?_
   · have he:=dG hl
     rw[hc j (by rw[he];simpa using hj),he]
     simp[hj]
   · rintro e W' ⟨he,⟨ys,rfl,hj⟩|⟨pre,⟨k,hk,rfl⟩,hj⟩⟩
     · exact⟨he,.inl ⟨_,EN _ _,hj⟩⟩
     · exact⟨he,.inr ⟨_,λp hp=>EO _ _ hk hp,hj⟩⟩
set_option maxRecDepth 100000 in
set_option maxHeartbeats 2000000 in
theorem IX (F:Fence)(n:Nat)(h7:F.fn 114)(hro:F.round=none)(hn:1 <=n)(l Bs b off len cap:Nat)(zs:List Int)(hreach:len <=140737488351232)(A:Bl)(hAb:A b)(hAB:A Bs)(J Jx:List (Int×Int)->World->Prop)
   (hY:∀pre x W,J pre W->pre.length<len->YieldAt F (n-1) prog l #[vI x.1,vI x.2] W λe W'=>
     (e=.returned (.bool true)/\J (pre++[x]) W'/\oN A W W')\/(e=.returned (.bool false)/\Jx (pre++[x]) W'))
   (W:World) (hBs:W.cell? ⟨Bs,0,none⟩=some (.slice (some ⟨b,off,none⟩) len cap)) (hBn:Bs<W.heap.size) (hbn:b<W.heap.size) (hc:∀j,j<len->W.cell? ⟨b,off+j,none⟩=some (vI (zs[j]?.getD 0))) (h0:J [] W):
   CallsIn F n prog 114 #[.func (.yield l) #[] #[],.pointer (some ⟨Bs,0,none⟩)] W λe W'=>(∃v,e=.returned v)/\
     ((∃ys,ys=AW (bkF 0 len zs) len/\J ys W')\/(∃pre,(∃k,k <=len/\pre=AW (bkF 0 len zs) k)/\Jx pre W')):=by
 refine callsIn_of_wp func114 rfl h7 ?_ hro
 simp only[Tryz.ntmps114,List.size_toArray,List.length_cons,List.length_nil,Nat.reduceAdd,Nat.reduceSub,Array.replicate_succ,Array.replicate_zero,List.push_toArray,List.append_toArray,List.nil_append,List.cons_append]
 gi_wp2
 gi_loopw [3] (λi wr=>∃k:Nat,k <=len/\i=vI ((len:Int)-1-(k:Int))/\J (AW (bkF 0 len zs) k) wr/\oN A W wr)
   (λi _=>(RowKit.intOf i+1).toNat)
 case atStart=>exact⟨0,Nat.zero_le _,by simp,h0,oN.refl _ _⟩
 case round=>
   obtain⟨k,hk,rfl,hJs,hnx⟩:=hrel
   by_cases hlt:k<len
   · have hcx:wr.cell? ⟨b,off+(len-1-k),none⟩=some (vI (zs[len-1-k]?.getD 0)):=(jd (hnx.block b hbn hAb) _).trans (hc _ (by omega))
     have hBs':wr.cell? ⟨Bs,0,none⟩=some (.slice (some ⟨b,off,none⟩) len cap):=(jd (hnx.block Bs hBn hAB) _).trans hBs
     have hi:(len:Int)-1-(k:Int)=((len-1-k:Nat):Int):=by omega
     obtain⟨fn,tmps,assign,body,hy,hR⟩:=hY _ (bkF 0 len zs k) wr hJs (by rw[vX];exact hlt)
     dsimp only[bkF]at hy
     rw[hi]at hy ⊢
     gi_wp2
     refine hR.mono ?_
     rintro e W3 (⟨rfl,hJ3,hk3⟩|⟨rfl,hJx3⟩)
     · gi_wp2
       go_roundw
       case rel=>exact⟨k+1,by omega,by simp <;> omega,by rw[qV];exact hJ3,hnx.trans hk3⟩
       case measure=>simp[RowKit.intOf] <;> omega
     · gi_wp2
       refine bodyPost_ret (results_none rfl _ _ _) rfl ?_
       exact⟨⟨_,rfl⟩,.inr ⟨_,⟨k+1,by omega,(qV _ _).symm⟩,hJx3⟩⟩
   · obtain rfl:k=len:=by omega
     gi_wp2
     go_end0
     exact⟨⟨_,rfl⟩,.inl ⟨_,rfl,hJs⟩⟩
set_option maxRecDepth 100000 in
set_option maxHeartbeats 1000000 in
theorem Bo (F:Fence)(n:Nat)(h7:F.fn 114)(hro:F.round=none)(l Bs:Nat)(J:List (Int×Int)->World->Prop)(a:Option Addr)(c:Nat)(W:World)(hBs:W.cell? ⟨Bs,0,none⟩=some (.slice a 0 c))(h0:J [] W):
   CallsIn F n prog 114 #[.func (.yield l) #[] #[],.pointer (some ⟨Bs,0,none⟩)] W λe W'=>(∃v,e=.returned v)/\J [] W':=by
 refine callsIn_of_wp func114 rfl h7 ?_ hro
 simp only[Tryz.ntmps114,List.size_toArray,List.length_cons,List.length_nil,Nat.reduceAdd,Nat.reduceSub,Array.replicate_succ,Array.replicate_zero,List.push_toArray,List.append_toArray,List.nil_append,List.cons_append]
 gi_wp2
 gi_loopw [3] (λi wr=>i=vI (-1)/\J [] wr) (λ_ _=>0)
 case atStart=>exact⟨rfl,h0⟩
 case round=>
   obtain⟨rfl,hJs⟩:=hrel
   gi_wp2
   go_end0
   exact⟨⟨_,rfl⟩,hJs⟩
theorem Do (F:Fence)(n:Nat)(h7:F.fn 114)(hro:F.round=none)(hn:1 <=n)(Bs:Nat){a:Option Addr}{len cap:Nat}(zs:List Int)(hreach:zs.length <=140737488351232){w:World}{t:TypeId}(hBs:ai w Bs t [.slice a len cap])(hs:Sl bX w jN a len cap zs):
   SeqStopsK F n prog 114 #[.pointer (some ⟨Bs,0,none⟩)] (λx:Int×Int=> #[vI x.1,vI x.2]) (oN (λb=>b=Bs\/∃o,a=some ⟨b,o,none⟩)) (λys=>ys.map Prod.snd=zs.reverse) (λpre=>∀p∈pre,p.2∈zs) zs.length w:=λl J Jx W hW _ _ hY h0=>by
 have hBW:=hBs.below hW
 have hlt:=hBW.lt
 have hsW:=hs.below hW
 obtain⟨rfl,h2,h3,h4⟩:=hsW
 rcases h4 with rfl|⟨b,off,rfl,hb,_,cl,hl,hc⟩
 · exact(Bo F n h7 hro l Bs J a cap W (hBW.cell 0) h0).mono λe W' ⟨he,hj⟩=>⟨he,.inl ⟨_,rfl,hj⟩⟩
 · refine(IX F n h7 hro hn l Bs b off zs.length cap zs hreach _ (.inr ⟨off,rfl⟩) (.inl rfl) J Jx hY W (hBW.cell 0) hlt hb (λj hj=>?_) h0).mono ?_
   · have he:=dG (e:=λn=>vI n) (h1:=λ_=>rfl) (p:=λ_=>True) hl
     rw[hc j (by rw[he];simpa using hj),he]
     simp[hj]
   · rintro e W' ⟨he,⟨ys,rfl,hj⟩|⟨pre,⟨k,hk,rfl⟩,hj⟩⟩
     · exact⟨he,.inl ⟨_,EN _ _,hj⟩⟩
     · exact⟨he,.inr ⟨_,λp hp=>EO _ _ hk hp,hj⟩⟩
end
def El {α:Type}(T:Ty α)(ta tv:TypeId)(kv B:Nat)(w0:World)(xs:List α)(W:World):Prop:=
 ∃(a:Option Addr) (n c:Nat),ai W kv tv [.slice a n c]/\Ow T ta W NoB a n c xs/\(∀g,bh a=some g->B <=g)/\Below kv w0 W
theorem CD {α β:Type}{T:Ty α}{ta tv:TypeId}{kv B:Nat}{w0:World}{f:β->List α}(hkv:kv<B):OwnFrom B (λpre W=>El T ta tv kv B w0 (f pre) W):=by
 rintro pre W W' row ⟨a,n,c,hB,ho,hf,hb⟩ hg hr
 have hr':ya W row:=λr e=>(hr r e).2
 refine⟨a,n,c,hB.turned hg hr',ho.turned hg hr',hf,sC hb (Nat.le_of_lt hB.lt) hg λr e=>?_⟩
 have:=(hr r e).1
 omega
theorem El.drew {α:Type}{T:Ty α}{ta tv:TypeId}{kv B:Nat}{w0 W:World}{xs:List α}(h:El T ta tv kv B w0 xs W):El T ta tv kv B w0 xs W.drew:=by
 obtain⟨a,n,c,h1,h2,h3,h4⟩:=h
 exact⟨a,n,c,h1.below (aP W),h2.below (aP W),h3,h4.trans ((aP W).mono (Nat.le_of_lt h1.lt))⟩
theorem zM {α:Type}{T:Ty α}(hfl:Flat T){P:Program}{ta tv:TypeId}{bytes bytesv:Nat}{z zv:Value}(hu:P.underlying tv=some (.slice ta))(tf:TF P ta T.k bytes z)(hb0:0<bytes)(tfv:TF P tv 1 bytesv zv)
   {kv B:Nat} {w0 W W1:World} {xs:List α} {a:Option Addr} {n c:Nat} (hB:ai W kv tv [.slice a n c]) (ho:Ow T ta W NoB a n c xs) (hf:∀g,bh a=some g->B <=g) (hb:Below kv w0 W) (hkv:kv<B) (hBW:B <=W.heap.size)
   {k1:Nat} {vs:List Value} {x:α} (hk:k1=W.heap.size) (hw:W1=W.alloc (.cells vs.toArray ta)) (hx:T.rep W NoB vs x) (hbound:(xs.length+1)*bytes <=140737488355328):
   ∃(W2:World) (a':Option Addr) (n' c':Nat),(Builtin.append_ #[tv,tv] tv #[.slice a n c,.slice (some ⟨k1,0,none⟩) 1 1]).run P W1=.ok (.slice a' n' c') W2/\
     ∃W3:World,(Instr.storeAt tv (.pointer (some ⟨kv,0,none⟩)) (.slice a' n' c')).run P W2=.ok () W3/\El T ta tv kv B w0 (xs++[x]) W3/\KeepsFrom B W W3/\∀b,b<B->b≠kv->W3.heap[b]? =W.heap[b]? :=by
 have hB1:bW W W1:=hw▸af W _
 have ho3:=ho.below hB1
 have hsrc:Src T W1 NoB (some ⟨k1,0,none⟩) 1 [x]:=Src.new1F hfl hk hw hx
 obtain⟨W2,a4,n4,c4,hr,ho4,hgr,hfr⟩:=cq (ty:=tv) hu tf hb0 ho3 (λ_ _ h=>h) (cm:=1) hsrc (by simpa using hbound)
 have hkv2:some kv≠bh a:=λe=>by have:=hf kv e.symm;omega
 have hA2:ai W2 kv tv [.slice a n c]:=(hB.below hB1).grown hgr hkv2
 obtain⟨W3,hst,hA3,hg3⟩:=hA2.store tfv (i:=0) (v:=.slice a4 n4 c4) rfl (by simp) (by intro c hcc;simp[Value.cells]at hcc;subst hcc;rfl)
 have hf4:∀g,bh a4=some g->B <=g:=λg hg=>by
   rcases hfr g hg with h|h
   · exact hf g h
   · exact Nat.le_trans hBW (Nat.le_trans hB1.size h)
 have hs3:W.heap.size <=W3.heap.size:=Nat.le_trans hB1.size (Nat.le_trans hgr.size hg3.size)
 have same:∀b,b<W.heap.size->b≠kv->some b≠bh a->W3.heap[b]? =W.heap[b]? :=λb hb1 hb2 hb3=>by
   have l1:=Nat.lt_of_lt_of_le hb1 hB1.size
   rw[hg3.block b (Nat.lt_of_lt_of_le l1 hgr.size) (λe=>hb2 (by cases e;rfl)),hgr.block b l1 hb3,hB1.block b hb1]
 refine⟨W2,a4,n4,c4,hr,W3,hst,⟨a4,n4,c4,hA3,ho4.put (λg hg e=>by have:=hf4 g hg;omega) hg3,hf4,?_⟩,⟨hs3,λk o hk1 hk2 hk3=>?_⟩,λb hb1 hb2=>?_⟩
 · refine⟨?_,?_,?_,Nat.le_trans hb.size hs3,λb hb1=>?_⟩
   · rw[hg3.os,hgr.os,hB1.os,hb.os]
   · rw[hg3.tape,hgr.tape,hB1.tape,hb.tape]
   · rw[hg3.output,hgr.output,hB1.output,hb.output]
   · rw[same b (Nat.lt_trans hb1 hB.lt) (by omega) (λe=>by have:=hf b e.symm;omega),hb.block b hb1]
 · refine(same k (Array.getElem?_eq_some_iff.1 hk2).1 (by omega) (λe=>?_)).trans hk2
   obtain⟨o2,h2,c2⟩:=ho.cells e.symm
   rw[hk2]at h2;cases h2;rw[hk3]at c2;cases c2
 · exact same b (by omega) hb2 λe=>by have:=hf b e.symm;omega
theorem uT {A:Bl}{W:World}{l:Nat}{o':Obj}(h:∀b,A b->b≠l):oN A W (W.putObj l o'):=⟨by simp[World.putObj],λb hb ha=>(grownBy_putObj' W l o').block b hb λe=>h b ha (by cases e;rfl)⟩
theorem ij (a:Option Addr)(b c:Nat){w K}(h:nA w (.cells #[.slice a b c] ay) λd e=>K (.func (.func gT) #[] #[.pointer (vA d 0)]) e):Cf iK #[.slice a b c] w (Ret K):=ru func70 [] h
theorem kp (a:Option Addr)(b c:Nat){w K}(h:nA w (.cells #[.slice a b c] aj) λd e=>K (.func (.func jH) #[] #[.pointer (vA d 0)]) e):Cf kY #[.slice a b c] w (Ret K):=ru func62 [] h
def GK (ad lb dg:Nat->Bool)(s x:Nat):Nat:=
 if s=1 then(if ad x=true then 3 else if lb x=true/\dg x=false then 2 else 0)else if s=2 then(if ad x=false/\lb x=true then 2 else 0)else 0
def hNx (ad lb dg:Nat->Bool)(k j:Nat):List Int:=(List.range (4*k)).map λi=>if i%k<j then((GK ad lb dg (i/k) (i%k):Nat):Int)else 0
theorem rJ (ad lb dg:Nat->Bool)(k j:Nat):(hNx ad lb dg k j).length=4*k:=by simp[hNx]
theorem rI {ad lb dg:Nat->Bool}{k j i:Nat}(hi:i<4*k):(hNx ad lb dg k j)[i]? =some (if i%k<j then((GK ad lb dg (i/k) (i%k):Nat):Int)else 0):=by
 unfold hNx;rw[List.getElem?_map,List.getElem?_range hi];rfl
theorem Hu (ad lb dg:Nat->Bool)(k:Nat):hNx ad lb dg k 0=List.replicate (4*k) 0:=by
 refine List.ext_getElem? λi=>?_
 rcases Nat.lt_or_ge i (4*k)with h|h
 · rw[rI h,if_neg (Nat.not_lt_zero _),List.getElem?_replicate,if_pos h]
 · rw[List.getElem?_eq_none (by rw[rJ];exact h),List.getElem?_eq_none (by rw[List.length_replicate];exact h)]
theorem CH {s k x:Nat}(hx:x<k):(s*k+x)/k=s/\(s*k+x)%k=x:=by
 have hk:0<k:=by omega
 refine⟨by rw[Nat.mul_comm,Nat.mul_add_div hk,Nat.div_eq_of_lt hx,Nat.add_zero],?_⟩
 rw[Nat.mul_comm,Nat.mul_add_mod];exact Nat.mod_eq_of_lt hx
theorem Ht {ad lb dg:Nat->Bool}{k j:Nat}(hj:j<k){l:List Int}(hl:l.length=4*k)
   (h:∀i,i<4*k->l[i]? =some (if i%k=j then((GK ad lb dg (i/k) j:Nat):Int)else(hNx ad lb dg k j).getD i 0)):l=hNx ad lb dg k (j+1):=by
 refine List.ext_getElem? λi=>?_
 rcases Nat.lt_or_ge i (4*k)with hi|hi
 · rw[h i hi,rI hi]
   by_cases e:i%k=j
   · rw[if_pos e,if_pos (by omega),e]
   · rw[if_neg e,List.getD_eq_getElem?_getD,rI hi]
     by_cases e2:i%k<j
     · rw[if_pos e2,if_pos (by omega)];rfl
     · rw[if_neg e2,if_neg (by omega)];rfl
 · rw[List.getElem?_eq_none (by omega),List.getElem?_eq_none (by rw[rJ];exact hi)]
theorem yE {ad lb dg:Nat->Bool}{k j:Nat}(hj:j<k){l:List Int}(h1:l=(if ad j=true then(hNx ad lb dg k j).set (1*k+j) 3 else if lb j=true then(if dg j=false then((hNx ad lb dg k j).set (2*k+j) 2).set (1*k+j) 2 else(hNx ad lb dg k j).set (2*k+j) 2)else hNx ad lb dg k j)):
   l=hNx ad lb dg k (j+1):=by
 have b1:1*k+j<4*k:=by omega
 have b2:2*k+j<4*k:=by omega
 refine Ht hj (by rw[h1];repeat' (first|split|simp[rJ])) λi hi=>?_
 have hd:=Nat.div_add_mod i k
 have hdiv:i/k<4:=Nat.div_lt_of_lt_mul (by rw[Nat.mul_comm];omega)
 have old:(hNx ad lb dg k j)[i]? =some ((hNx ad lb dg k j).getD i 0):=by rw[List.getD_eq_getElem?_getD,rI hi];rfl
 by_cases e:i%k=j
 ·
   have hz:(hNx ad lb dg k j).getD i 0=0:=by rw[List.getD_eq_getElem?_getD,rI hi,if_neg (by omega)];rfl
   rw[if_pos e]
   rw[hz]at old
   have hs:i/k=0\/i/k=1\/i/k=2\/i/k=3:=by
     clear hd
     revert hdiv
     generalize i/k=q
     intro hq
     omega
   have ei:i=i/k*k+j:=by rw[Nat.mul_comm];omega
   have l1:(hNx ad lb dg k j).length=4*k:=rJ ad lb dg k j
   have og:(hNx ad lb dg k j)[i]'(by rw[l1];exact hi)=0:=by
     rw[List.getElem?_eq_getElem (by rw[l1];exact hi)]at old
     exact Option.some.inj old
   rcases hs with hs|hs|hs|hs <;> rw[hs]at ei ⊢ <;> rw[h1] <;> unfold GK
   · have n1: ¬ k+j=i:=by omega
     have n2: ¬ 2*k+j=i:=by omega
     cases ha:ad j <;> cases hb:lb j <;> cases hg:dg j <;> simp[List.getElem?_set,n1,n2,old]
   · have n2: ¬ 2*k+j=i:=by omega
     have n1:k+j=i:=by omega
     cases ha:ad j <;> cases hb:lb j <;> cases hg:dg j <;> simp[List.getElem?_set,n1,n2,old,og,l1,hi]
   · have n1: ¬ k+j=i:=by omega
     have n2:2*k+j=i:=by omega
     cases ha:ad j <;> cases hb:lb j <;> cases hg:dg j <;> simp[List.getElem?_set,n1,n2,old,og,l1,hi]
   · have n1: ¬ k+j=i:=by omega
     have n2: ¬ 2*k+j=i:=by omega
     cases ha:ad j <;> cases hb:lb j <;> cases hg:dg j <;> simp[List.getElem?_set,n1,n2,old]
 · rw[if_neg e,h1]
   have n1: ¬ k+j=i:=λe2=>e (by rw[<- e2,<- Nat.one_mul k,Nat.one_mul k];exact(by have:=(CH (s:=1) hj).2;rwa [Nat.one_mul]at this))
   have n2: ¬ 2*k+j=i:=λe2=>e (by rw[<- e2];exact(CH hj).2)
   generalize (hNx ad lb dg k j).getD i 0=v at old ⊢
   cases ha:ad j <;> cases hb:lb j <;> cases hg:dg j <;> simp[List.getElem?_set,n1,n2,old]
def hD (ad lb dg:Nat->Bool)(k:Nat):DA:=⟨(k:Int),1,hNx ad lb dg k k,[false,false,true,true]⟩
def hsW (ad lb dg:Nat->Bool):List Nat->Prop
 | []=>False
 | x::r=>ad x=true/\r=[]\/ad x=false/\lb x=true/\dg x=false/\∀y∈r,ad y=false/\lb y=true
theorem Jg (ad lb dg:Nat->Bool)(s x:Nat):GK ad lb dg s x<4:=by unfold GK;repeat' (first|split|omega)
theorem K5 {ad lb dg:Nat->Bool}{k:Nat}(h1:1 <=k)(h2:k <=512):(hD ad lb dg k).Ok:=by
 refine⟨?_,?_,?_,?_,?_,?_,?_,λv hv=>?_⟩
 · show(1:Int) <=(k:Int);omega
 · show(k:Int) <=512;omega
 · show 1 <=4;omega
 · show 4 <=65536;omega
 · show((hNx ad lb dg k k).length:Int)=((4:Nat):Int)*(k:Int);rw[rJ,Int.natCast_mul]
 · show(0:Int) <=1;omega
 · show(1:Int)<((4:Nat):Int);omega
 · obtain⟨i,_,rfl⟩:=List.mem_map.1 (show v∈hNx ad lb dg k k from hv)
   show 0 <=_/\_<((4:Nat):Int)
   have:=Jg ad lb dg (i/k) (i%k)
   split <;> omega
theorem Hs {ad lb dg:Nat->Bool}{k s x:Nat}(hs:s<4)(hx:x<k):(hD ad lb dg k).to s x=GK ad lb dg s x:=by
 unfold DA.to
 have hK:(hD ad lb dg k).K=k:=by simp[DA.K,hD]
 rw[hK]
 show((hNx ad lb dg k k).getD (s*k+x) 0).toNat=_
 have hi:s*k+x<4*k:=qF hs hx
 rw[List.getD_eq_getElem?_getD,rI hi,(CH hx).1,(CH hx).2,if_pos hx]
 rfl
theorem yD {ad lb dg:Nat->Bool}{k:Nat} :∀{v:List Nat},(∀x∈v,x<k)->(hD ad lb dg k).run 0 v=0
 | [],_=>rfl
 | x::v,hv=>by
   show(hD ad lb dg k).run ((hD ad lb dg k).to 0 x) v=0
   rw[Hs (by omega) (hv x List.mem_cons_self)]
   exact yD λy hy=>hv y (List.mem_cons_of_mem _ hy)
theorem Fp {ad lb dg:Nat->Bool}{k:Nat} :∀{v:List Nat},(∀x∈v,x<k)->((hD ad lb dg k).acc ((hD ad lb dg k).run 2 v)=true ↔ ∀y∈v,ad y=false/\lb y=true)
 | [],_=>by simp[DA.run,DA.acc,hD]
 | x::v,hv=>by
   have hv':∀y∈v,y<k:=λy hy=>hv y (List.mem_cons_of_mem _ hy)
   show(hD ad lb dg k).acc ((hD ad lb dg k).run ((hD ad lb dg k).to 2 x) v)=true ↔ _
   rw[Hs (by omega) (hv x List.mem_cons_self)]
   unfold GK
   rw[if_neg (by omega),if_pos rfl]
   by_cases h:ad x=false/\lb x=true
   · rw[if_pos h,Fp hv']
     simp[h]
   · rw[if_neg h,yD hv']
     simp only[List.mem_cons,forall_eq_or_imp,h,false_and,iff_false]
     simp[DA.acc,hD]
theorem Jf {ad lb dg:Nat->Bool}{k:Nat}(v:List Nat):(hD ad lb dg k).Lang 1 v ↔ (∀x∈v,x<k)/\hsW ad lb dg v:=by
 have hK:(hD ad lb dg k).K=k:=by simp[DA.K,hD]
 unfold DA.Lang
 rw[hK]
 refine and_congr_right λhv=>?_
 cases v with
 | nil=>simp[hsW,DA.run,DA.acc,hD]
 | cons x v=>
   have hv':∀y∈v,y<k:=λy hy=>hv y (List.mem_cons_of_mem _ hy)
   show(hD ad lb dg k).acc ((hD ad lb dg k).run ((hD ad lb dg k).to 1 x) v)=true ↔ _
   rw[Hs (by omega) (hv x List.mem_cons_self)]
   unfold GK hsW
   rw[if_pos rfl]
   by_cases ha:ad x=true
   · rw[if_pos ha]
     simp only[ha,true_and,Bool.true_eq_false,false_and,or_false]
     cases v with
     | nil=>simp[DA.run,DA.acc,hD]
     | cons y v=>
       have hv2:∀z∈v,z<k:=λz hz=>hv' z (List.mem_cons_of_mem _ hz)
       show(hD ad lb dg k).acc ((hD ad lb dg k).run ((hD ad lb dg k).to 3 y) v)=true ↔ _
       rw[Hs (by omega) (hv' y List.mem_cons_self)]
       unfold GK
       rw[if_neg (by omega),if_neg (by omega),yD hv2]
       simp[DA.acc,hD]
   · have ha':ad x=false:=by simpa using ha
     rw[if_neg ha]
     simp only[ha',Bool.false_eq_true,false_and,false_or,true_and]
     by_cases hb:lb x=true/\dg x=false
     · rw[if_pos hb,Fp hv']
       simp[hb]
     · rw[if_neg hb,yD hv']
       simp only[DA.acc,hD]
       constructor
       · intro h;simp at h
       · intro h;exact absurd ⟨h.1,h.2.1⟩ hb
theorem Ik (ts:List Txt)(s:Txt):0 <=ofT ts s/\ofT ts s <=(ts.length:Int):=by
 unfold ofT
 have:=List.countP_le_length (p:=λx=>decide (x<s)) (l:=ts)
 split <;> omega
theorem pO {h:Hst}(o:h.ok)(r:cC h=true):fg (hZ h)=some h:=by
 unfold cC at r
 cases hh:fg (hZ h)with
 | none=>rw[hh]at r;cases r
 | some g=>rw[hh]at r;rw[(lE (fS hh) o).1 r]
theorem DM {s:List UInt8}{h:Hst}(e:fg s=some h):h.kind=1\/h.kind=2\/h.kind=3:=by
 unfold fg at e
 split at e
 · split at e
   · rw[Option.map_eq_some_iff]at e
     obtain⟨a,_,rfl⟩:=e
     exact .inr (.inr rfl)
   · cases e
 split at e
 · rw[Option.map_eq_some_iff]at e
   obtain⟨a,_,rfl⟩:=e
   exact .inr (.inl rfl)
 split at e
 · rw[<- Option.some.inj e];exact .inl rfl
 · cases e
def gq (h:Hst):List Txt:=if cC h=true then(if h.kind=1 then(bU h).reverse else[hZ h])else[]
def hwV (ts:List Txt)(h:Hst):List Int:=(gq h).map (ofT ts)
theorem mo {h:Hst}(o:h.ok)(hk:h.kind=1)(hr:cC h=true):bU h=gg 46 [] h.name/\bU h≠[]:=by
 have e:bU h=gg 46 [] h.name:=by unfold bU;rw[if_pos ⟨hk,hr⟩]
 exact⟨e,by rw[e];exact uk 46 h.name []⟩
theorem HS {h:Hst}(o:h.ok):gq h≠[] ↔ cC h=true:=by
 unfold gq
 by_cases hr:cC h=true
 · rw[if_pos hr]
   simp only[hr,iff_true]
   by_cases hk:h.kind=1
   · rw[if_pos hk]
     intro e
     exact(mo o hk hr).2 (List.reverse_eq_nil_iff.1 e)
   · rw[if_neg hk];simp
 · rw[if_neg hr];simp[hr]
theorem rM {h:Hst}(o:h.ok):∀x∈bU h,bC x=true:=by
 intro x hx
 unfold bU at hx
 split at hx
 · rename_i hc
   exact List.all_eq_true.1 (rU o hc.1 hc.2).2.2.1 x hx
 · cases hx
theorem ww {h:Hst}(o:h.ok)(hr:cC h=true)(hk:h.kind≠1):bC (hZ h)=false:=by
 have hk':=DM (pO o hr)
 have key:∃c∈hZ h,nC c=false:=by
   rcases hk' with hk'|hk'|hk'
   · exact absurd hk' hk
   · refine⟨46,?_,by decide⟩
     unfold hZ
     rw[if_neg hk,if_pos hk',Cl o]
     simp
   · refine⟨91,?_,by decide⟩
     unfold hZ
     rw[if_neg hk,if_neg (by omega),if_pos hk']
     simp
 obtain⟨c,hc,hl⟩:=key
 cases hb:bC (hZ h)with
 | false=>rfl
 | true=>
   unfold bC at hb
   rw[Bool.and_eq_true]at hb
   have:=List.all_eq_true.1 hb.2 c hc
   rw[hl]at this;cases this
def jc (s:Txt):Bool:=match fg s with|some h=> !decide (h.kind=1)&&(hZ h==s)|none=>false
def cT (t:List Txt):Option Hst:=
 if t.length=1/\t.all jc=true then fg (t.headD [])
 else if t.all bC=true then(match fg (Lib.join t.reverse [46])with|some h=>if h.kind=1 then some h else none|none=>none)
 else none
def kZ (t:List Txt):Prop:=match t with
 | []=>False
 | x::r=>jc x=true/\r=[]\/bC x=true/\fz x=false/\∀y∈r,bC y=true
theorem rB {s:Txt}(h:jc s=true):bC s=false:=by
 unfold jc at h
 cases hv:fg s with
 | none=>rw[hv]at h;cases h
 | some g=>
   rw[hv]at h
   rw[Bool.and_eq_true,beq_iff_eq]at h
   have hk:g.kind≠1:=by simpa using h.1
   have hr:cC g=true:=by
     unfold cC
     rw[h.2,hv]
     exact(lE (fS hv) (fS hv)).2 rfl
   rw[<- h.2]
   exact ww (fS hv) hr hk
theorem BI {h:Hst}(o:h.ok)(r:cC h=true):cT (gq h)=some h/\kZ (gq h):=by
 have hb:=pO o r
 unfold gq
 rw[if_pos r]
 by_cases hk:h.kind=1
 · rw[if_pos hk]
   obtain⟨el,hne⟩:=mo o hk r
   obtain⟨e1,e2,e3,e4,e5,e6⟩:=rU o hk r
   have hall:∀x∈bU h,bC x=true:=rM o
   have hlast:∃A x,bU h=A++[x]/\fz x=false:=by
     obtain⟨A,x,hA⟩:∃A x,bU h=A++[x]:=⟨_,_,(List.dropLast_concat_getLast hne).symm⟩
     refine⟨A,x,hA,?_⟩
     rw[<- el,hA]at e5
     unfold tg at e5
     simpa using e5
   obtain⟨A,x,hA,hx⟩:=hlast
   have hxl:bC x=true:=hall x (by rw[hA];simp)
   refine⟨?_,?_⟩
   · unfold cT
     have hna: ¬ ((bU h).reverse.length=1/\(bU h).reverse.all jc=true):=by
       rintro⟨_,h2⟩
       have:=List.all_eq_true.1 h2 x (by rw[hA];simp)
       have:=rB this
       rw[hxl]at this;cases this
     rw[if_neg hna,if_pos (List.all_eq_true.2 λy hy=>hall y (by simpa using hy)),List.reverse_reverse]
     have hj:=mn 46 h.name []
     rw[List.nil_append,<- el]at hj
     rw[hj,e6]
     simp only
     rw[if_pos hk]
   · rw[hA,List.reverse_append]
     exact .inr ⟨hxl,hx,λy hy=>hall y (by rw[hA];simp;exact .inl (by simpa using hy))⟩
 · rw[if_neg hk]
   have ha:jc (hZ h)=true:=by
     unfold jc
     rw[hb]
     simp[hk]
   refine⟨?_,.inl ⟨ha,rfl⟩⟩
   unfold cT
   rw[if_pos ⟨rfl,by simp[ha]⟩]
   exact hb
theorem BP:∀n,n<256->nC (UInt8.ofNat n)=true->CZ (UInt8.ofNat n)=UInt8.ofNat n/\UInt8.ofNat n≠46/\UInt8.ofNat n≠91:=by decide+kernel
theorem BO {c:UInt8}(h:nC c=true):CZ c=c/\c≠46/\c≠91:=by
 have e:UInt8.ofNat c.toNat=c:=by simp
 have:=BP c.toNat c.toNat_lt
 rw[e]at this
 exact this h
theorem tM (x y:Txt)(r:List Txt):Lib.join (x::y::r) [46]=x++46::Lib.join (y::r) [46]:=by
 rw[Lib.join_cons,Lib.join_cons]
 simp[Lib.joinTail]
theorem xr:∀(r:List Txt) (x:Txt),(∀c∈x,c≠46)->(∀y∈r,∀c∈y,c≠46)->gg 46 [] (Lib.join (x::r) [46])=x::r
 | [],x,hx,_=>by rw[Lib.join_one,uj 46 x [] hx];rfl
 | y::r,x,hx,hr=>by
   rw[tM x y r,yu 46 x [] _ hx,xr r y (hr y List.mem_cons_self) λz hz=>hr z (List.mem_cons_of_mem _ hz)]
   rfl
theorem Fx (s:Txt):(⟨1,s,ad0⟩:Hst).ok:=by unfold Hst.ok;rfl
theorem gI {x:Txt}(h:bC x=true):1 <=x.length/\x.length <=63/\∀c∈x,nC c=true:=by
 unfold bC at h
 rw[Bool.and_eq_true,Bool.and_eq_true,dTx,dTx]at h
 exact⟨h.1.1,h.1.2,λc hc=>List.all_eq_true.1 h.2 c hc⟩
theorem nz {L:List Txt}(hne:L≠[])(hl:∀x∈L,bC x=true)(hd:fz (tg L)=false)(hs:(Lib.join L [46]).length <=253):
   fg (Lib.join L [46])=some ⟨1,Lib.join L [46],ad0⟩/\cC ⟨1,Lib.join L [46],ad0⟩=true/\bU ⟨1,Lib.join L [46],ad0⟩=L:=by
 obtain⟨x,r,rfl⟩:∃x r,L=x::r:=by cases L with|nil=>exact absurd rfl hne|cons x r=>exact⟨x,r,rfl⟩
 have hf:=λy hy=>gI (hl y hy)
 have hcut:gg 46 [] (Lib.join (x::r) [46])=x::r:=xr r x (λc hc=>(BO ((hf x List.mem_cons_self).2.2 c hc)).2.1)
   (λy hy c hc=>(BO ((hf y (List.mem_cons_of_mem _ hy)).2.2 c hc)).2.1)
 have hch:∀c∈Lib.join (x::r) [46],c=46\/nC c=true:=by
   intro c hc
   by_cases e:c=46
   · exact .inl e
   · right
     have hj:=mn 46 (Lib.join (x::r) [46]) []
     obtain⟨y,hy,hcy⟩:∃y∈x::r,c∈y:=by
       clear hj hcut hs hd hf hl hne
       induction r generalizing x with
       | nil=>exact⟨x,List.mem_cons_self,by rwa [Lib.join_one]at hc⟩
       | cons y r ih=>
         rw[tM]at hc
         rcases List.mem_append.1 hc with h|h
         · exact⟨x,List.mem_cons_self,h⟩
         · rcases List.mem_cons.1 h with h|h
           · exact absurd h e
           · obtain⟨z,hz,hcz⟩:=ih y h
             exact⟨z,List.mem_cons_of_mem _ hz,hcz⟩
     exact(hf y hy).2.2 c hcy
 have hlow:lw (Lib.join (x::r) [46])=Lib.join (x::r) [46]:=by
   unfold lw
   conv=>rhs;rw[<- List.map_id (Lib.join (x::r) [46])]
   refine List.map_congr_left λc hc=>?_
   rcases hch c hc with rfl|h
   · rfl
   · exact(BO h).1
 have h91:(Lib.join (x::r) [46]).head?≠some 91:=by
   intro e
   have hm:(91:UInt8)∈Lib.join (x::r) [46]:=List.mem_of_mem_head? e
   rcases hch 91 hm with h|h
   · revert h;decide
   · revert h;decide
 have hv:fg (Lib.join (x::r) [46])=some ⟨1,Lib.join (x::r) [46],ad0⟩:=by
   unfold fg
   rw[if_neg h91,hlow,hcut,if_neg (by rw[hd];simp),if_pos ⟨hs,List.all_eq_true.2 hl⟩]
 have hr:cC ⟨1,Lib.join (x::r) [46],ad0⟩=true:=by
   unfold cC
   rw[show hZ ⟨1,Lib.join (x::r) [46],ad0⟩=Lib.join (x::r) [46] from if_pos rfl,hv]
   exact(lE (Fx _) (Fx _)).2 rfl
 refine⟨hv,hr,?_⟩
 unfold bU
 rw[if_pos ⟨rfl,hr⟩]
 exact hcut
theorem Fu {t:List Txt}(h:kZ t)(hs:t.length=1\/(Lib.join t.reverse [46]).length <=253):∃g,cT t=some g/\g.ok/\cC g=true/\gq g=t:=by
 cases t with
 | nil=>exact h.elim
 | cons x r=>
   by_cases ha:jc x=true/\r=[]
   · obtain⟨ha,rfl⟩:=ha
     have ho:cT [x]=fg x:=by unfold cT;rw[if_pos ⟨rfl,by simp[ha]⟩];rfl
     unfold jc at ha
     cases hv:fg x with
     | none=>rw[hv]at ha;cases ha
     | some g=>
       rw[hv]at ha
       rw[Bool.and_eq_true,beq_iff_eq]at ha
       have hk:g.kind≠1:=by simpa using ha.1
       have hr:cC g=true:=by
         unfold cC
         rw[ha.2,hv]
         exact(lE (fS hv) (fS hv)).2 rfl
       refine⟨g,ho.trans hv,fS hv,hr,?_⟩
       unfold gq
       rw[if_pos hr,if_neg hk,ha.2]
   · rcases h with h|⟨h1,h2,h3⟩
     · exact absurd h ha
     · have hall:∀y∈(x::r).reverse,bC y=true:=λy hy=>by
         rcases List.mem_cons.1 (List.mem_reverse.1 hy)with rfl|hy
         · exact h1
         · exact h3 y hy
       have hlast:tg (x::r).reverse=x:=by unfold tg;simp
       have hs':(Lib.join (x::r).reverse [46]).length <=253:=by
         rcases hs with hs|hs
         · have:r=[]:=List.eq_nil_of_length_eq_zero (by simpa using hs)
           subst this
           have:=(gI h1).2.1
           rw[List.reverse_singleton,Lib.join_one]
           omega
         · exact hs
       obtain⟨e1,e2,e3⟩:=nz (L:=(x::r).reverse) (by simp) hall (by rw[hlast];exact h2) hs'
       refine⟨_,?_,Fx _,e2,?_⟩
       · unfold cT
         rw[if_neg,if_pos (List.all_eq_true.2 λy hy=>hall y (List.mem_reverse.2 hy)),e1]
         · simp
         · rintro⟨_,h5⟩
           have:=rB (List.all_eq_true.1 h5 x List.mem_cons_self)
           rw[h1]at this;cases this
       · unfold gq
         rw[if_pos e2,if_pos rfl,e3,List.reverse_reverse]
section
open Go.Pk Go.RowKit Go.Shelf
attribute [local go_sem] Oper.semAt_some
theorem I1 (a:Option Addr)(n c:Nat)(w:World):Cf 70 #[.slice a n c] w λe w'=>e=.returned (.func (.func 130) #[] #[.pointer (some ⟨w.heap.size,0,none⟩)])/\w'=w.alloc (.cells #[.slice a n c] ay):=by
 refine(ij a n c (K:=λv w'=>v=(.func (.func 130) #[] #[.pointer (some ⟨w.heap.size,0,none⟩)])/\w'=w.alloc (.cells #[.slice a n c] ay)) ?_).mono ?_
 · intro k1 w1 hk1 hw1
   subst hk1 hw1
   exact⟨rfl,rfl⟩
 · rintro e w' ⟨v,rfl,rfl,rfl⟩
   exact⟨rfl,rfl⟩
theorem FM (s:List UInt8)(w:World):(Instr.buildSlice ay 1 #[(0,vS s)]).run prog w=.ok (.slice (some ⟨w.heap.size,0,none⟩) 1 1) (w.alloc (.cells #[vS s] aH)):=by kernel_rfl
theorem Ju {w:World}{k:Nat}{t:TypeId}{s:List UInt8}(h:ai w k t [vS s]):Sl tS w jN (some ⟨k,0,none⟩) 1 1 [s]:=
 ⟨rfl,Nat.le_refl _,by decide,.inr ⟨k,0,rfl,h.lt,trivial,[vS s],gB.one (Cb trivial),λj hj=>by rw[Nat.zero_add];exact h.cell j⟩⟩
theorem yt:∀(s cur:List UInt8),(gg 46 cur s).length <=s.length+1
 | [],cur=>by simp[gg]
 | x::s,cur=>by
   unfold gg
   split
   · rw[List.length_cons,List.length_cons];exact Nat.succ_le_succ (yt s _)
   · rw[List.length_cons];exact Nat.le_succ_of_le (yt s _)
theorem DT {h:Hst}(o:h.ok)(hn:h.name.length <=1000000):(bU h).length <=1000001:=by
 unfold bU
 split
 · have:=yt h.name [];omega
 · simp
def Kr:List (List Nat):=[[0,1,2,3,4,5,6],[0,2,1,3,4,5,6],[1,0,2,3,4,5,6],[1,2,0,3,4,5,6],[1,2,3,0,4,5,6],[1,2,3,4,0,5,6],[2,0,1,3,4,5,6],[2,1,0,3,4,5,6],[2,1,3,0,4,5,6],[2,1,3,4,0,5,6]]
theorem Ow.inside {α:Type}{T:Ty α}{t:TypeId}{w:World}{A:Bl}{a:Option Addr}{n c:Nat}{xs:List α}(h:Ow T t w A a n c xs):∀b o,a=some ⟨b,o,none⟩->b<w.heap.size:=by
 intro b o e
 rcases h.2.2.2 with⟨e1,_⟩|⟨g,cur,fr,e1,hh,_⟩
 · rw[e1]at e;cases e
 · rw[e1]at e;cases e
   exact(Array.getElem?_eq_some_iff.1 hh).1
set_option maxRecDepth 100000 in
set_option maxHeartbeats 4000000 in
theorem uM {h:Hst}(o:h.ok)(hn:h.name.length <=1000000){w:World}(he:Env w){p:Option Addr}{ts:List Txt}(hA:fN w p ts):
   CallsIn Fence.wide 6 prog 29 #[.pointer p,h.v] w λe w'=>∃(a:Option Addr) (n c:Nat),e=.returned (.slice a n c)/\Ow bX aq w' NoB a n c (hwV ts h)/\bp w.heap.size a/\bW w w':=by
 have hF:∀g:FuncId,Fence.wide.fn g:=λ_=>trivial
 obtain⟨w1,hw1⟩:∃w1,w1=w.alloc (.cells (Value.cells (.pointer p)) aW):=⟨_,rfl⟩
 obtain⟨w2,hw2⟩:∃w2,w2=w1.alloc (.cells (Value.cells h.v) am):=⟨_,rfl⟩
 obtain⟨k1,hk1⟩:∃k1,k1=w.heap.size:=⟨_,rfl⟩
 obtain⟨k2,hk2⟩:∃k2,k2=w1.heap.size:=⟨_,rfl⟩
 have b1:bW w w1:=hw1▸af w _
 have b2:bW w1 w2:=hw2▸af w1 _
 have A1:ai w1 k1 aW [.pointer p]:=ai.new hk1 hw1
 have A2:ai w2 k2 am h.cells:=ai.new hk2 hw2
 have B2:=ab b1 b2 b1.size
 refine callsIn_of_wp_marks func29 rfl trivial ?_ rfl
 simp only[Tryz.ntmps29,List.size_toArray,List.length_cons,List.length_nil,Nat.reduceAdd,Nat.reduceSub,Array.replicate_succ,Array.replicate_zero,List.push_toArray,List.append_toArray,List.nil_append,List.cons_append]
 have eR:=enters_of func67 (by kernel_rfl) rfl
 have eL:=enters_of func68 (by kernel_rfl) rfl
 have eT:=enters_of func69 (by kernel_rfl) rfl
 have eB:=enters_of func70 (by kernel_rfl) rfl
 have eO:=enters_of func71 (by kernel_rfl) rfl
 refine qB ?_
 apply wpIn_region_lit
 refine K3 rfl rfl (u:=.pointer p) rfl hk1 hw1 ?_
 refine K3 rfl rfl (u:=h.v) rfl hk2 hw2 ?_
 refine cP rfl (.inr rfl) (u:=.slice none 0 0) rfl ?_
 refine qd ?_
 simp only[Act.put,List.setIfInBounds_toArray,List.set_cons_succ,List.set_cons_zero]
 refine qB ?_
 refine qB ?_
 apply wpIn_region_lit
 refine cF rfl rfl rfl (bE.load0 A2 (Hst.len o)) ?_
 refine sE rfl rfl (u:=h.v) rfl (by decide) hF eR ((callsIn_wide.2 (qD o (by omega) w2 (he.step B2))).mono ?_)
 rintro _ w3 ⟨_,rfl,rfl,b3⟩
 refine⟨_,rfl,?_⟩
 have B3:=ab B2 b3 B2.size
 refine uF rfl (λc hc=>by cases hc) rfl (v:=.bool (!cC h)) (w':=w3) (by kernel_rfl) ?_
 refine qd ?_
 simp only[Act.put,List.setIfInBounds_toArray,List.set_cons_succ,List.set_cons_zero]
 have early:cC h=false->hwV ts h=[]:=λhr=>by unfold hwV gq;rw[if_neg (by rw[hr];simp)];rfl
 cases hr:cC h with
 | false=>
   refine wpIn_cond_true rfl ?_
   refine qB ?_
   apply wpIn_region_lit
   refine cP rfl (.inr rfl) (u:=.slice none 0 0) rfl ?_
   refine qd ?_
   refine wpIn_ret ?_
   simp only[Act.put,List.setIfInBounds_toArray,List.set_cons_succ,List.set_cons_zero]
   refine⟨_,Go.results_tmp rfl _ _ _,none,0,0,rfl,?_,bp.none _,B3⟩
   rw[early hr];exact Ow.nil _ _ _ _
 | true=>
 refine wpIn_cond_false rfl ?_
 refine wpIn_skip ?_
 refine qB ?_
 apply wpIn_region_lit
 refine cF rfl rfl rfl (bE.load0 (A2.below b3) (Hst.len o)) ?_
 refine sE rfl rfl (u:=h.v) rfl (by decide) hF eL ((callsIn_wide.2 (oT o (by omega) w3 (he.step B3))).mono ?_)
 rintro _ w4 ⟨_,rfl,la,ln,lc,rfl,ol,fl,b4⟩
 refine⟨_,rfl,?_⟩
 have B4:=ab B3 b4 B3.size
 have A24:=(A2.below b3).below b4
 refine cP rfl (.inr rfl) (u:=.slice la ln lc) rfl ?_
 refine qd ?_
 simp only[Act.put,List.setIfInBounds_toArray,List.set_cons_succ,List.set_cons_zero]
 refine Jd (λa' W=>∃(x4 x6 x7 x8 x9 x10 x11 x12 x13 x14 x15 x16 x17 x18 x19 x20 x21 x22 x23 x24 x25 x26 x27 x28 x29 x30:Value) (a:Option Addr) (n c:Nat) (T:List Txt),a'= { tmps:= #[.pointer p,h.v,.pointer (some ⟨k1,0,none⟩),.pointer (some ⟨k2,0,none⟩),x4,.slice a n c,x6,x7,x8,x9,x10,x11,x12,x13,x14,x15,x16,x17,x18,x19,x20,x21,x22,x23,x24,x25,x26,x27,x28,x29,x30],defers:=[] } /\Sl tS W jN a n c T/\(∀b o,a=some ⟨b,o,none⟩->b<W.heap.size)/\T.reverse.map (ofT ts)=hwV ts h/\T.length <=1000001/\bW w W/\bW w2 W) ?_ ?_
 · refine qB ?_
   apply wpIn_region_lit
   refine uF rfl (λc hc=>by cases hc) rfl (v:=.pointer (some ⟨k2,0,none⟩)) (w':=w4) (by kernel_rfl) ?_
   refine cF rfl rfl rfl (A24.load1 aB rfl rfl) ?_
   refine uF rfl (λc hc=>by cases hc) rfl (v:=.bool (h.kind !=1)) (w':=w4) (by kernel_rfl) ?_
   refine qd ?_
   simp only[Act.put,List.setIfInBounds_toArray,List.set_cons_succ,List.set_cons_zero]
   by_cases hk:h.kind=1
   · refine wpIn_cond_false (by show Value.bool (h.kind !=1)=_;rw[hk];rfl) ?_
     refine wpIn_skip ?_
     have ew:gq h=(bU h).reverse:=by unfold gq;rw[if_pos hr,if_pos hk]
     exact⟨_,_,_,_,_,_,_,_,_,_,_,_,_,_,_,_,_,_,_,_,_,_,_,_,_,_,la,ln,lc,bU h,rfl,ol.all,Ow.inside ol,by unfold hwV;rw[ew],DT o hn,B4,ab b3 b4 b3.size⟩
   · refine wpIn_cond_true (by show Value.bool (h.kind !=1)=_;congr 1;simp[hk]) ?_
     apply wpIn_region_lit
     refine cF rfl rfl rfl (bE.load0 A24 (Hst.len o)) ?_
     refine sE rfl rfl (u:=h.v) rfl (by decide) hF eT ((callsIn_wide.2 (nB o w4 (he.step B4))).mono ?_)
     rintro _ w5 ⟨_,rfl,rfl,b5⟩
     refine⟨_,rfl,?_⟩
     have B5:=ab B4 b5 B4.size
     refine dO rfl rfl (u:=vS (hZ h)) rfl (FM _ w5) ?_
     refine cP rfl (.inr rfl) (u:=.slice (some ⟨w5.heap.size,0,none⟩) 1 1) rfl ?_
     apply Kg
     simp only[Act.put,List.setIfInBounds_toArray,List.set_cons_succ,List.set_cons_zero]
     have b6:bW w5 (w5.alloc (.cells #[vS (hZ h)] aH)):=af w5 _
     have ew:gq h=[hZ h]:=by unfold gq;rw[if_pos hr,if_neg hk]
     exact⟨_,_,_,_,_,_,_,_,_,_,_,_,_,_,_,_,_,_,_,_,_,_,_,_,_,_,_,1,1,[hZ h],rfl,Ju (ai.new rfl rfl),(λb o e=>by cases e;simp),by unfold hwV;rw[ew];rfl,by simp,ab B5 b6 B5.size,ab (ab b3 b4 b3.size) (ab b5 b6 b5.size) (Nat.le_trans b3.size b4.size)⟩
 · rintro a' W ⟨x4,x6,x7,x8,x9,x10,x11,x12,x13,x14,x15,x16,x17,x18,x19,x20,x21,x22,x23,x24,x25,x26,x27,x28,x29,x30,a,n,c,T,rfl,hT,hTa,hTw,hTl,BW,B2W⟩
   obtain⟨w6,hw6⟩:∃w6,w6=W.alloc (.cells #[.slice none 0 0] aj):=⟨_,rfl⟩
   obtain⟨k6,hk6⟩:∃k6,k6=W.heap.size:=⟨_,rfl⟩
   obtain⟨w7,hw7⟩:∃w7,w7=w6.alloc (.cells #[.slice a n c] ay):=⟨_,rfl⟩
   obtain⟨k7,hk7⟩:∃k7,k7=w6.heap.size:=⟨_,rfl⟩
   have b6:bW W w6:=hw6▸af W _
   have b7:bW w6 w7:=hw7▸af w6 _
   have A6:ai w6 k6 aj [.slice none 0 0]:=ai.new hk6 hw6
   have A7:ai w7 k7 ay [.slice a n c]:=ai.new hk7 hw7
   have B7:=ab BW (ab b6 b7 b6.size) BW.size
   have B27:=ab B2W (ab b6 b7 b6.size) B2W.size
   refine qB ?_
   apply wpIn_region_lit
   refine xu rfl rfl (v:=.pointer (some ⟨k6,0,none⟩)) (w':=w6) (by rw[hk6,hw6];rfl) ?_
   refine qd ?_
   simp only[Act.put,List.setIfInBounds_toArray,List.set_cons_succ,List.set_cons_zero]
   refine qB ?_
   refine qB ?_
   apply wpIn_region_lit
   refine cP rfl (.inl rfl) (u:=.slice a n c) rfl ?_
   refine sE rfl rfl (u:=.slice a n c) rfl (by decide) hF eB ((callsIn_wide.2 (I1 a n c w6)).mono ?_)
   rintro _ w7' ⟨rfl,hw7'⟩
   rw[<- hw7]at hw7'
   rw[hw7']
   clear hw7' w7'
   rw[<- hk7]
   refine⟨_,rfl,?_⟩
   refine qd ?_
   simp only[Act.put,List.setIfInBounds_toArray,List.set_cons_succ,List.set_cons_zero]
   apply wpIn_block
   have hTs:=(hT.below b6).below b7
   have k67:k6<k7:=by have:=A6.lt;omega
   have k7l:=A7.lt
   have AW0:ai w7 k6 aj [.slice none 0 0]:=A6.below b7
   have hAp:fN w7 p ts:=hA.below B7
   have A17:ai w7 k1 aW [.pointer p]:=((A1.below b2)).below B27
   obtain⟨w7s,hw7s⟩:∃n,n=w7.heap.size:=⟨_,rfl⟩
   have hTa7:∀b o,a=some ⟨b,o,none⟩->b<k6:=λb o e=>by rw[hk6];exact hTa b o e
   have k6lt:k6<w7.heap.size:=by omega
   have I0:El bX aq aj k6 w7.heap.size w7 (([]:List (Int×Txt)).map λx=>ofT ts x.2) w7:=⟨none,0,0,AW0,Ow.nil _ _ _ _,(λg hg=>by cases hg),Below.refl _ _⟩
   refine wpIn_rangeFunc_ownG rfl (by decide) (gf:=130) (lb:= #[.pointer (some ⟨k7,0,none⟩)]) rfl trivial (enters_of func130 (by kernel_rfl) rfl)
     (Dp Fence.wide 5 trivial rfl (by decide) k7 T (by omega) A7 hTs) (λh1 h2=>h1.trans h2) (λV l o o' hl _ _ _=>uT λb hb e=> ?hKb) (Below.refl _ _) (λ_=>rfl)
     (λpre V=>El bX aq aj k6 w7.heap.size w7 (pre.map λx=>ofT ts x.2) V/\pre.length <=1000001) (λ_ _ _=>False) (OwnFrom.and (CD k6lt) (ownFrom_pure _ _)) (λ_ _ _ _ _ hs _ _=>hs) ⟨I0,by simp⟩
     (λx=> { tmps:= #[.pointer p,h.v,.pointer (some ⟨k1,0,none⟩),.pointer (some ⟨k2,0,none⟩),x4,.slice a n c,.pointer (some ⟨k6,0,none⟩),x7,vS x.2,x9,x10,x11,x12,x13,x14,x15,x16,x17,x18,x19,.slice a n c,.func (.func 130) #[] #[.pointer (some ⟨k7,0,none⟩)],vI x.1,vS x.2,x24,x25,x26,x27,x28,x29,x30],defers:=[] }) ?assign ?body ?done ?stop
   case hKb=>
     rcases hb with rfl|⟨o2,e2⟩
     · omega
     · have:=hTa7 b o2 e2;omega
   case assign=>
     intro l x V K hK
     apply wpIn_region_lit
     simp only[List.zip_toArray,List.foldl_toArray',List.foldl_toArray,List.zip_cons_cons,List.zip_nil_left,List.zip_nil_right,List.foldl_cons,List.foldl_nil,List.setIfInBounds_toArray,List.set_cons_succ,List.set_cons_zero]
     refine cP rfl (.inr rfl) (u:=vS x.2) rfl ?_
     exact Kg hK
   case body=>
     rintro l pre x V ⟨hC,hlen0⟩ hlen
     obtain⟨a1,n1,c1,C1,C2,C3,C4⟩:=hC.drew
     have hwk:w.heap.size <=k6:=by rw[hk6];exact BW.size
     have hAV:fN V.drew p ts:=hA.below (B7.trans (C4.mono hwk))
     have hk1k:k1<k6:=by have:=A1.lt;have:=b2.size;have:=B2W.size;omega
     have A1V:ai V.drew k1 aW [.pointer p]:=A17.block (C4.block k1 hk1k)
     obtain⟨V1,hV1⟩:∃V1,V1=V.drew.alloc (.cells #[vI (ofT ts x.2)] aq):=⟨_,rfl⟩
     obtain⟨kx,hkx⟩:∃kx,kx=V.drew.heap.size:=⟨_,rfl⟩
     have bV:Below V.drew.heap.size V.drew V1:=hV1▸af _ _
     obtain⟨V2,a2,n2,c2,q2,V3,q3,C',kf,oth⟩:=zM dE az dj (by decide) fL C1 C2 C3 C4 k6lt C4.size hkx hV1 (show bX.rep V.drew NoB [vI (ofT ts x.2)] (ofT ts x.2) from⟨rfl,trivial⟩) (by rw[List.length_map];omega)
     have l6:(Instr.loadAt aj (.pointer (some ⟨k6,0,none⟩))).run prog V.drew=.ok (.slice a1 n1 c1) V.drew:=C1.load1 az rfl rfl
     have l6':(Instr.loadAt aj (.pointer (some ⟨k6,0,none⟩))).run prog V1=.ok (.slice a1 n1 c1) V1:=(C1.below bV).load1 az rfl rfl
     have l1:(Instr.loadAt aW (.pointer (some ⟨k1,0,none⟩))).run prog V.drew=.ok (.pointer p) V.drew:=A1V.load1 gp rfl rfl
     have qb:(Instr.buildSlice aj 1 #[(0,vI (ofT ts x.2))]).run prog V.drew=.ok (.slice (some ⟨kx,0,none⟩) 1 1) V1:=by rw[hV1,hkx];kernel_rfl
     have qc:CallsIn Fence.wide (6-1-1-1) prog 71 #[.pointer p,vS x.2] V.drew λe w'=>e=.returned (vI (ofT ts x.2))/\w'=V.drew:=
       (callsIn_wide.2 (AH p ts x.2 V.drew hAV)).mono λe w' ⟨v,he,hv,hw⟩=>⟨by rw[he,hv],hw⟩
     have gfin:∀{aa:Act},(Exit.inBlock 1 (ownPostG w7.heap.size (oN λb=>b=k7\/∃o,a=some ⟨b,o,none⟩) (λpre V=>El bX aq aj k6 w7.heap.size w7 (pre.map λx=>ofT ts x.2) V/\pre.length <=1000001) (λ_ _ _=>False) (pre++[x]) V)) .normal aa V3:=by
       intro aa
       refine⟨⟨kf.size,kf.same⟩,⟨kf.size,λb hb hab=>?_⟩,?_,by simp;omega⟩
       · rcases hab with rfl|⟨o2,e2⟩
         · exact oth b k7l (by omega)
         · have:=hTa7 b o2 e2
           exact oth b (by omega) (by omega)
       · rw[List.map_append];exact C'
     apply wpIn_block
     refine Fj rfl Kr (by kernel_rfl) ?_
     intro ord hord
     simp only[Kr,List.mem_cons,List.not_mem_nil,or_false]at hord
     rcases hord with rfl|rfl|rfl|rfl|rfl|rfl|rfl|rfl|rfl|rfl
     all_goals simp only[List.filterMap_cons,List.filterMap_nil,List.getElem?_toArray,List.getElem?_cons_zero,List.getElem?_cons_succ]
     · refine cF (by kernel_rfl) rfl (by kernel_rfl) l6 ?_
       refine cF (by kernel_rfl) rfl (by kernel_rfl) l1 ?_
       refine cP (by kernel_rfl) (.inl rfl) (u:=vS x.2) (by kernel_rfl) ?_
       refine fU (by kernel_rfl) rfl (u:=.pointer p) (v:=vS x.2) (by kernel_rfl) (by kernel_rfl) (by decide) (λ_=>trivial) eO (qc.mono ?_)
       rintro _ _ ⟨rfl,rfl⟩
       refine⟨_,rfl,?_⟩
       refine dO (by kernel_rfl) rfl (by kernel_rfl) qb ?_
       refine eu (by kernel_rfl) rfl (by kernel_rfl) (by kernel_rfl) q2 ?_
       exact cA (by kernel_rfl) rfl (by kernel_rfl) (by kernel_rfl) q3 (wpListIn_nil gfin)
     · refine cF (by kernel_rfl) rfl (by kernel_rfl) l6 ?_
       refine cP (by kernel_rfl) (.inl rfl) (u:=vS x.2) (by kernel_rfl) ?_
       refine cF (by kernel_rfl) rfl (by kernel_rfl) l1 ?_
       refine fU (by kernel_rfl) rfl (u:=.pointer p) (v:=vS x.2) (by kernel_rfl) (by kernel_rfl) (by decide) (λ_=>trivial) eO (qc.mono ?_)
       rintro _ _ ⟨rfl,rfl⟩
       refine⟨_,rfl,?_⟩
       refine dO (by kernel_rfl) rfl (by kernel_rfl) qb ?_
       refine eu (by kernel_rfl) rfl (by kernel_rfl) (by kernel_rfl) q2 ?_
       exact cA (by kernel_rfl) rfl (by kernel_rfl) (by kernel_rfl) q3 (wpListIn_nil gfin)
     · refine cF (by kernel_rfl) rfl (by kernel_rfl) l1 ?_
       refine cF (by kernel_rfl) rfl (by kernel_rfl) l6 ?_
       refine cP (by kernel_rfl) (.inl rfl) (u:=vS x.2) (by kernel_rfl) ?_
       refine fU (by kernel_rfl) rfl (u:=.pointer p) (v:=vS x.2) (by kernel_rfl) (by kernel_rfl) (by decide) (λ_=>trivial) eO (qc.mono ?_)
       rintro _ _ ⟨rfl,rfl⟩
       refine⟨_,rfl,?_⟩
       refine dO (by kernel_rfl) rfl (by kernel_rfl) qb ?_
       refine eu (by kernel_rfl) rfl (by kernel_rfl) (by kernel_rfl) q2 ?_
       exact cA (by kernel_rfl) rfl (by kernel_rfl) (by kernel_rfl) q3 (wpListIn_nil gfin)
     · refine cF (by kernel_rfl) rfl (by kernel_rfl) l1 ?_
       refine cP (by kernel_rfl) (.inl rfl) (u:=vS x.2) (by kernel_rfl) ?_
       refine cF (by kernel_rfl) rfl (by kernel_rfl) l6 ?_
       refine fU (by kernel_rfl) rfl (u:=.pointer p) (v:=vS x.2) (by kernel_rfl) (by kernel_rfl) (by decide) (λ_=>trivial) eO (qc.mono ?_)
       rintro _ _ ⟨rfl,rfl⟩
       refine⟨_,rfl,?_⟩
       refine dO (by kernel_rfl) rfl (by kernel_rfl) qb ?_
       refine eu (by kernel_rfl) rfl (by kernel_rfl) (by kernel_rfl) q2 ?_
       exact cA (by kernel_rfl) rfl (by kernel_rfl) (by kernel_rfl) q3 (wpListIn_nil gfin)
     · refine cF (by kernel_rfl) rfl (by kernel_rfl) l1 ?_
       refine cP (by kernel_rfl) (.inl rfl) (u:=vS x.2) (by kernel_rfl) ?_
       refine fU (by kernel_rfl) rfl (u:=.pointer p) (v:=vS x.2) (by kernel_rfl) (by kernel_rfl) (by decide) (λ_=>trivial) eO (qc.mono ?_)
       rintro _ _ ⟨rfl,rfl⟩
       refine⟨_,rfl,?_⟩
       refine cF (by kernel_rfl) rfl (by kernel_rfl) l6 ?_
       refine dO (by kernel_rfl) rfl (by kernel_rfl) qb ?_
       refine eu (by kernel_rfl) rfl (by kernel_rfl) (by kernel_rfl) q2 ?_
       exact cA (by kernel_rfl) rfl (by kernel_rfl) (by kernel_rfl) q3 (wpListIn_nil gfin)
     · refine cF (by kernel_rfl) rfl (by kernel_rfl) l1 ?_
       refine cP (by kernel_rfl) (.inl rfl) (u:=vS x.2) (by kernel_rfl) ?_
       refine fU (by kernel_rfl) rfl (u:=.pointer p) (v:=vS x.2) (by kernel_rfl) (by kernel_rfl) (by decide) (λ_=>trivial) eO (qc.mono ?_)
       rintro _ _ ⟨rfl,rfl⟩
       refine⟨_,rfl,?_⟩
       refine dO (by kernel_rfl) rfl (by kernel_rfl) qb ?_
       refine cF (by kernel_rfl) rfl (by kernel_rfl) l6' ?_
       refine eu (by kernel_rfl) rfl (by kernel_rfl) (by kernel_rfl) q2 ?_
       exact cA (by kernel_rfl) rfl (by kernel_rfl) (by kernel_rfl) q3 (wpListIn_nil gfin)
     · refine cP (by kernel_rfl) (.inl rfl) (u:=vS x.2) (by kernel_rfl) ?_
       refine cF (by kernel_rfl) rfl (by kernel_rfl) l6 ?_
       refine cF (by kernel_rfl) rfl (by kernel_rfl) l1 ?_
       refine fU (by kernel_rfl) rfl (u:=.pointer p) (v:=vS x.2) (by kernel_rfl) (by kernel_rfl) (by decide) (λ_=>trivial) eO (qc.mono ?_)
       rintro _ _ ⟨rfl,rfl⟩
       refine⟨_,rfl,?_⟩
       refine dO (by kernel_rfl) rfl (by kernel_rfl) qb ?_
       refine eu (by kernel_rfl) rfl (by kernel_rfl) (by kernel_rfl) q2 ?_
       exact cA (by kernel_rfl) rfl (by kernel_rfl) (by kernel_rfl) q3 (wpListIn_nil gfin)
     · refine cP (by kernel_rfl) (.inl rfl) (u:=vS x.2) (by kernel_rfl) ?_
       refine cF (by kernel_rfl) rfl (by kernel_rfl) l1 ?_
       refine cF (by kernel_rfl) rfl (by kernel_rfl) l6 ?_
       refine fU (by kernel_rfl) rfl (u:=.pointer p) (v:=vS x.2) (by kernel_rfl) (by kernel_rfl) (by decide) (λ_=>trivial) eO (qc.mono ?_)
       rintro _ _ ⟨rfl,rfl⟩
       refine⟨_,rfl,?_⟩
       refine dO (by kernel_rfl) rfl (by kernel_rfl) qb ?_
       refine eu (by kernel_rfl) rfl (by kernel_rfl) (by kernel_rfl) q2 ?_
       exact cA (by kernel_rfl) rfl (by kernel_rfl) (by kernel_rfl) q3 (wpListIn_nil gfin)
     · refine cP (by kernel_rfl) (.inl rfl) (u:=vS x.2) (by kernel_rfl) ?_
       refine cF (by kernel_rfl) rfl (by kernel_rfl) l1 ?_
       refine fU (by kernel_rfl) rfl (u:=.pointer p) (v:=vS x.2) (by kernel_rfl) (by kernel_rfl) (by decide) (λ_=>trivial) eO (qc.mono ?_)
       rintro _ _ ⟨rfl,rfl⟩
       refine⟨_,rfl,?_⟩
       refine cF (by kernel_rfl) rfl (by kernel_rfl) l6 ?_
       refine dO (by kernel_rfl) rfl (by kernel_rfl) qb ?_
       refine eu (by kernel_rfl) rfl (by kernel_rfl) (by kernel_rfl) q2 ?_
       exact cA (by kernel_rfl) rfl (by kernel_rfl) (by kernel_rfl) q3 (wpListIn_nil gfin)
     · refine cP (by kernel_rfl) (.inl rfl) (u:=vS x.2) (by kernel_rfl) ?_
       refine cF (by kernel_rfl) rfl (by kernel_rfl) l1 ?_
       refine fU (by kernel_rfl) rfl (u:=.pointer p) (v:=vS x.2) (by kernel_rfl) (by kernel_rfl) (by decide) (λ_=>trivial) eO (qc.mono ?_)
       rintro _ _ ⟨rfl,rfl⟩
       refine⟨_,rfl,?_⟩
       refine dO (by kernel_rfl) rfl (by kernel_rfl) qb ?_
       refine cF (by kernel_rfl) rfl (by kernel_rfl) l6' ?_
       refine eu (by kernel_rfl) rfl (by kernel_rfl) (by kernel_rfl) q2 ?_
       exact cA (by kernel_rfl) rfl (by kernel_rfl) (by kernel_rfl) q3 (wpListIn_nil gfin)
   case done=>
     rintro D xs V hD hxs ⟨⟨a3,n3,c3,D1,D2,D3,D4⟩,_⟩ hK
     have l6:(Instr.loadAt aj (.pointer (some ⟨k6,0,none⟩))).run prog V=.ok (.slice a3 n3 c3) V:=D1.load1 az rfl rfl
     refine qB ?_
     apply wpIn_region_lit
     refine cF (by kernel_rfl) rfl (by kernel_rfl) l6 ?_
     refine cP (by kernel_rfl) (.inr rfl) (u:=.slice a3 n3 c3) (by kernel_rfl) ?_
     refine qd ?_
     refine wpIn_ret ?_
     simp only[Act.put,List.setIfInBounds_toArray,List.set_cons_succ,List.set_cons_zero]
     have gD:=grownBy_putObj' V D (.deferred none)
     have nD:ya V (some D):=λr e=>by cases e;exact⟨_,hK,rfl⟩
     have hwk:w.heap.size <=k6:=by rw[hk6];exact BW.size
     have BV:bW w V:=B7.trans (D4.mono hwk)
     have ew:xs.map (λx=>ofT ts x.2)=hwV ts h:=by
       rw[<- hTw,<- show xs.map Prod.snd=T.reverse from hxs,List.map_map];rfl
     rw[ew]at D2
     refine⟨by simp,.inl ⟨_,_,rfl,run_takeDeferred hK,?_⟩⟩
     exact⟨_,Go.results_tmp rfl _ _ _,a3,n3,c3,rfl,D2.turned gD nD,(λg hg=>Nat.le_trans B7.size (D3 g hg)),sC BV BV.size gD (λr e=>by cases e;have:=B7.size;omega)⟩
   case stop=>
     rintro D c pre W _ _ h _
     exact h.elim
def GY (ts:List Txt)(h:Hst)(w:World)(v:Value)(w':World):Prop:=∃(a:Option Addr) (n c:Nat),v=.slice a n c/\Ow bX aq w' NoB a n c (hwV ts h)/\bp w.heap.size a/\bW w w'
theorem uO {h:Hst}(o:h.ok)(hn:h.name.length <=1000000){w:World}(he:Env w){p:Option Addr}{ts:List Txt}(hA:fN w p ts):Cf oR #[.pointer p,h.v] w (Ret (GY ts h w)):=
 (callsIn_wide.1 (uM o hn he hA)).mono λe w' ⟨a,n,c,he,h1,h2,h3⟩=>⟨_,he,a,n,c,rfl,h1,h2,h3⟩
end
noncomputable def tx (ts:List Txt)(x:Nat):Txt:=mR ts (x:Int)
theorem JG {ts:List Txt}{x:Nat}(h:x<ts.length):tx ts x=ts[x]:=by
 unfold tx mR
 rw[if_neg (by omega),if_pos (by omega)]
 simp[h]
theorem Cq (ts:List Txt):tx ts ts.length=uA ts:=by
 unfold tx mR
 rw[if_pos rfl]
def lT (ts:List Txt)(h:Hst):List Nat:=(gq h).map λs=>(ofT ts s).toNat
theorem Ji (ts:List Txt)(h:Hst):hwV ts h=(lT ts h).map fun(x:Nat)=>(x:Int):=by
 unfold hwV lT
 rw[List.map_map]
 refine List.map_congr_left λs _=>?_
 have:=(Ik ts s).1
 show _=(((ofT ts s).toNat:Nat):Int)
 omega
theorem tQ (ts:List Txt)(h:Hst):∀x∈lT ts h,x<ts.length+1:=by
 intro x hx
 obtain⟨s,_,rfl⟩:=List.mem_map.1 hx
 have:=Ik ts s
 omega
noncomputable def hAd (ts:List Txt)(x:Nat):Bool:=jc (tx ts x)
noncomputable def hLb (ts:List Txt)(x:Nat):Bool:=bC (tx ts x)
noncomputable def hDg (ts:List Txt)(x:Nat):Bool:=fz (tx ts x)
theorem Jh (ts:List Txt)(v:List Nat):hsW (hAd ts) (hLb ts) (hDg ts) v ↔ kZ (v.map (tx ts)):=by
 cases v with
 | nil=>rfl
 | cons x r=>
   unfold hsW kZ
   simp only[List.map_cons,List.map_eq_nil_iff]
   refine or_congr Iff.rfl ?_
   unfold hAd hLb hDg
   constructor
   · rintro⟨_,h1,h2,h3⟩
     refine⟨h1,h2,λy hy=>?_⟩
     obtain⟨z,hz,rfl⟩:=List.mem_map.1 hy
     exact(h3 z hz).2
   · rintro⟨h1,h2,h3⟩
     have no:∀{s:Txt},bC s=true->jc s=false:=fun{s} h=>by
       cases ha:jc s with
       | false=>rfl
       | true=>rw[rB ha]at h;cases h
     exact⟨no h1,h1,h2,λy hy=>⟨no (h3 _ (List.mem_map.2 ⟨y,hy,rfl⟩)),h3 _ (List.mem_map.2 ⟨y,hy,rfl⟩)⟩⟩
def jD:List Txt->Nat
 | []=>0
 | x::r=>x.length+1+jD r
theorem zP:∀a b:List Txt,jD (a++b)=jD a+jD b
 | [],b=>by simp[jD]
 | x::a,b=>by simp only[List.cons_append,jD];rw[zP a b];omega
theorem zR:∀a:List Txt,jD a.reverse=jD a
 | []=>rfl
 | x::a=>by rw[List.reverse_cons,zP,zR a];simp only[jD];omega
theorem rE:∀(r:List Txt) (x:Txt),(Lib.join (x::r) [46]).length+1=jD (x::r)
 | [],x=>by rw[Lib.join_one];simp[jD]
 | y::r,x=>by
   have:=rE r y
   rw[tM,List.length_append,List.length_cons]
   show x.length+((Lib.join (y::r) [46]).length+1)+1=x.length+1+jD (y::r)
   omega
theorem uh {t:List Txt}(h:t≠[]):(Lib.join t.reverse [46]).length+1=jD t:=by
 rw[<- zR t]
 cases hr:t.reverse with
 | nil=>exact absurd (List.reverse_eq_nil_iff.1 hr) h
 | cons x r=>exact rE r x
noncomputable def gO (ts:List Txt):List Int:=(List.range (ts.length+1)).map λx=>(((tx ts x).length:Nat):Int)+1
theorem lD (ts:List Txt):(gO ts).length=ts.length+1:=by simp[gO]
theorem uG {ts:List Txt}{x:Nat}(h:x<ts.length+1):cAt (gO ts) x=(((tx ts x).length:Nat):Int)+1:=by
 unfold cAt gO
 rw[List.getD_eq_getElem?_getD,List.getElem?_map,List.getElem?_range h];rfl
theorem uH {ts:List Txt} :∀{v:List Nat},(∀x∈v,x<ts.length+1)->dK (gO ts) v=(jD (v.map (tx ts)):Int)
 | [],_=>rfl
 | x::v,h=>by
   have e:=uH (v:=v) λy hy=>h y (List.mem_cons_of_mem _ hy)
   simp only[dK,List.map_cons,jD]
   rw[uG (h x List.mem_cons_self),e]
   omega
theorem DU:∀i,i<38->nC (letter i)=true:=by decide
theorem Hc (n:Nat):∀c∈Er n,nC c=true:=by
 induction n using Nat.strongRecOn with
 | ind n ih=>
   intro c hc
   by_cases h:n=0
   · subst h;rw[qq]at hc;cases hc
   · rw[qp h]at hc
     rcases List.mem_cons.1 hc with rfl|hc
     · exact DU _ (Nat.mod_lt _ (by omega))
     · exact ih ((n-1)/38) (by omega) c hc
theorem BQ {n:Nat}(h:1 <=n):1 <=(iv n).length/\∀c∈iv n,nC c=true:=by
 refine⟨?_,λc hc=>Hc n c (by unfold iv at hc;exact List.mem_reverse.1 hc)⟩
 unfold iv
 rw[qp (by omega),List.length_reverse,List.length_cons]
 omega
theorem I6 (n:Nat):(Er n).length <=n:=by
 induction n using Nat.strongRecOn with
 | ind n ih=>
   by_cases h:n=0
   · subst h;rw[qq];exact Nat.le_refl _
   · rw[qp h,List.length_cons]
     have:=ih ((n-1)/38) (by omega)
     omega
theorem pN {ts:List Txt}(hl:ts.length <=60):bC (uA ts)=true:=by
 have h1:=(rG ts).1
 have h2:=DE ts
 obtain⟨h3,h4⟩:=BQ h1
 have h5:(iv (uz ts)).length <=uz ts:=by unfold iv;rw[List.length_reverse];exact I6 _
 unfold bC uA
 rw[Bool.and_eq_true,Bool.and_eq_true,dTx,dTx]
 exact⟨⟨h3,by omega⟩,List.all_eq_true.2 h4⟩
theorem E2 {h:Hst}(o:h.ok)(hk:h.kind=1)(hr:cC h=true):jD (gq h)=h.name.length+1:=by
 obtain⟨el,hne⟩:=mo o hk hr
 have e:gq h=(bU h).reverse:=by unfold gq;rw[if_pos hr,if_pos hk]
 rw[e]
 have h1:=uh (t:=(bU h).reverse) (by simpa using hne)
 rw[List.reverse_reverse,el]at h1
 have hj:=mn 46 h.name []
 rw[List.nil_append]at hj
 rw[hj]at h1
 rw[el];omega
theorem EZ {h:Hst}(o:h.ok)(hk:h.kind≠1)(hr:cC h=true):jD (gq h)=(hZ h).length+1:=by
 have e:gq h=[hZ h]:=by unfold gq;rw[if_pos hr,if_neg hk]
 rw[e];simp[jD]
theorem E1 {h:Hst}(o:h.ok)(hr:cC h=true):jD (gq h) <=254:=by
 by_cases hk:h.kind=1
 · rw[E2 o hk hr]
   have:=(rU o hk hr).2.2.2.1
   omega
 · rw[EZ o hk hr]
   have:=Aa o
   have hv:=pO o hr
   have hn:h.name=[]:=by
     unfold fg at hv
     split at hv
     · split at hv
       · rw[Option.map_eq_some_iff]at hv
         obtain⟨a,_,e⟩:=hv
         rw[<- e]
       · cases hv
     split at hv
     · rw[Option.map_eq_some_iff]at hv
       obtain⟨a,_,e⟩:=hv
       rw[<- e]
     split at hv
     · exact absurd (by rw[<- Option.some.inj hv]) hk
     · cases hv
   rw[hn]at this
   simp only[List.length_nil]at this
   omega
theorem DC {ts:List Txt}{v:List Nat}(hv:∀x∈v,x<ts.length+1)(h:kZ (v.map (tx ts)))(hc:dK (gO ts) v <=254):
   ∃g,cT (v.map (tx ts))=some g/\g.ok/\cC g=true/\gq g=v.map (tx ts):=by
 refine Fu h (.inr ?_)
 rw[uH hv]at hc
 have hne:v.map (tx ts)≠[]:=λe=>by rw[e]at h;exact h
 have:=uh hne
 omega
def xj (ts:List Txt)(L:List Nat->Prop)(r:Option Hst):Prop:=
 match r with
 | some h=>∃v,oO (gO ts) (λv=>L v/\kZ (v.map (tx ts))) v/\dK (gO ts) v <=254/\cT (v.map (tx ts))=some h
 | none=>∀v,L v->kZ (v.map (tx ts))->254<dK (gO ts) v
theorem xj.congr {ts:List Txt}{L L':List Nat->Prop}{r:Option Hst}(h:xj ts L r)(e:∀v,L v ↔ L' v):xj ts L' r:=by
 cases r with
 | some g=>
   obtain⟨v,h1,h2,h3⟩:=h
   exact⟨v,h1.congr λu=>by rw[e u],h2,h3⟩
 | none=>exact λv hv=>h v ((e v).2 hv)
theorem BG {ts:List Txt}(hl:ts.length <=60)(hx:∀t∈ts,t.length <=1000):pz (gO ts):=by
 intro c hc
 obtain⟨x,hx',rfl⟩:=List.mem_map.1 hc
 rw[List.mem_range]at hx'
 rcases Nat.lt_or_ge x ts.length with h|h
 · rw[JG h]
   have:=hx _ (List.getElem_mem h)
   omega
 · have:x=ts.length:=by omega
   subst this
   rw[Cq]
   have:=(gI (pN hl)).2.1
   omega
theorem count_le:∀{t:List Txt},(∀x∈t,1 <=x.length)->2*t.length <=jD t
 | [],_=>Nat.le_refl _
 | x::t,h=>by
   have h1:=h x List.mem_cons_self
   have h2:=count_le λy hy=>h y (List.mem_cons_of_mem _ hy)
   simp only[List.length_cons,jD];omega
theorem Ei {h:Hst}(o:h.ok)(hr:cC h=true):(gq h).length <=127:=by
 by_cases hk:h.kind=1
 · have h1:=count_le (t:=gq h) λx hx=>by
     have e:gq h=(bU h).reverse:=by unfold gq;rw[if_pos hr,if_pos hk]
     rw[e]at hx
     exact(gI (rM o x (by simpa using hx))).1
   have:=E1 o hr
   omega
 · have e:gq h=[hZ h]:=by unfold gq;rw[if_pos hr,if_neg hk]
   rw[e];simp
theorem zO {w:World}{A:Bl}{a:Option Addr}{n c:Nat}{xs:List Int}(hs:Sl bX w A a n c xs)(y:Int):Cf dN #[.slice a n c,vI y] w (Ret λv w'=>v=.bool (decide (y∈xs))/\w'=w):=by
 have hn:=hs.len
 subst hn
 have hle:=hs.le
 apply kq
 refine av (K:=λv w'=>∃i:Int,v=vI i/\(decide (i >=0))=(decide (y∈xs))/\w'=w) ?_ ?_
 · apply lK
   refine⟨λm i w'=>∃j:Nat,j <=xs.length/\i=(j:Int)/\m=xs.length-j/\y ∉ xs.take j/\w'=w,⟨_,0,by omega,rfl,rfl,by simp,rfl⟩,?_⟩
   intro m i
   refine aK.of ?_ _
   rintro w' ⟨j,hj,rfl,rfl,hno,hw'⟩
   rw[hw'];clear hw'
   refine ah.of (λh=>?_) (λh=>?_) <;> simp only[dTx,dFx]at h
   · have hlt:j<xs.length:=by omega
     refine⟨⟨⟨by omega,h⟩,hs.isSome hlt⟩,_,hs.num aB hlt,?_⟩
     refine ah.of (λh3=>?_) (λh3=>?_)
     · have:y=xs[j]:=by simpa using h3
       refine⟨_,rfl,?_,rfl⟩
       rw[decide_eq_true (by omega),decide_eq_true (by rw[this];exact List.getElem_mem hlt)]
     · have hne:y≠xs[j]:=by simpa using h3
       refine⟨xs.length-(j+1),by omega,j+1,by omega,by rw[wrap_i64 (by omega) (by omega)];omega,rfl,?_,rfl⟩
       rw[List.take_succ_eq_append_getElem hlt,List.mem_append]
       rintro(h1|h1)
       · exact hno h1
       · exact hne (by simpa using h1)
   · have:j=xs.length:=by omega
     subst this
     rw[List.take_length]at hno
     exact⟨_,rfl,by rw[decide_eq_false hno];decide,rfl⟩
 · rintro _ w3 ⟨i,rfl,hi,hw3⟩
   exact⟨_,rfl,by rw[hi],hw3⟩
theorem DP {w:World}{A:Bl}{a:Option Addr}{n c:Nat}{L:Nat}(hs:Sl ix w A a n c (List.replicate L false++[true])):Cf bF #[.slice a n c,.bool true] w (Ret λv w'=>v=vI ((L:Nat):Int)/\w'=w):=by
 have hn:=hs.len
 subst hn
 have hle:=hs.le
 have hlen:(List.replicate L false++[true]).length=L+1:=by simp
 apply fV
 refine⟨λm i w'=>∃j:Nat,j <=L/\i=(j:Int)/\m=L-j/\w'=w,⟨_,0,by omega,rfl,rfl,rfl⟩,?_⟩
 intro m i
 refine aK.of ?_ _
 rintro w' ⟨j,hj,rfl,rfl,hw'⟩
 rw[hw'];clear hw'
 have hlt:j<(List.replicate L false++[true]).length:=by omega
 obtain⟨v,hv,hrep⟩:=hs.load1 (P:=prog) (i:=(j:Int)) dk rfl rfl (by simpa using hlt)
 have hb:=yp hrep
 subst hb
 simp only[Int.toNat_natCast]at hv
 refine ah.yes (decide_eq_true (by omega)) ⟨⟨⟨by omega,by omega⟩,hs.isSome hlt⟩,_,hv,?_⟩
 rcases Nat.lt_or_ge j L with h|h
 · have e:(List.replicate L false++[true])[j]=false:=by rw[List.getElem_append_left (by simpa using h)];simp
   rw[e]
   exact ah.no rfl ⟨L-(j+1),by omega,j+1,by omega,by rw[wrap_i64 (by omega) (by omega)];omega,rfl,rfl⟩
 · have:j=L:=by omega
   subst this
   have e:(List.replicate j false++[true])[j]=true:=by rw[List.getElem_append_right (by simp)];simp
   rw[e]
   exact ah.yes rfl ⟨rfl,rfl⟩
def kB (ts:List Txt)(h:Hst):Bool:= !decide (hwV ts h=[]) && !decide (((ts.length:Nat):Int)∈hwV ts h)
theorem BM {ts:List Txt}{h:Hst}(o:h.ok)(hk:kB ts h=true):cC h=true:=by
 refine(HS o).1 λe=>?_
 unfold kB at hk
 rw[Bool.and_eq_true]at hk
 have:=hk.1
 unfold hwV at this
 rw[e]at this
 simp at this
def KP (ts:List Txt)(h:Hst)(w:World)(v:Value)(w':World):Prop:=bW w w'/\
 if kB ts h=true then ∃(a:Option Addr) (n c:Nat),v=.tuple #[.slice a n c,vI 0]/\Ow bX aq w' NoB a n c (hwV ts h)/\bp w.heap.size a else v=.tuple #[.slice none 0 0,vI 181]
theorem mw {h:Hst}(o:h.ok)(hn:h.name.length <=1000000){w:World}(he:Env w){p:Option Addr}{ts:List Txt}(hA:fN w p ts)(htl:ts.length <=100000):Cf gX #[.pointer p,h.v] w (Ret (KP ts h w)):=by
 apply r6
 intro k3 w3 hk3 hw3
 have hb3:=(hw3▸af w _:bW w w3)
 have A3:ai w3 k3 am h.cells:=ai.new hk3 hw3
 refine⟨_,bE.load0 A3 (Hst.len o),?_⟩
 refine av (uO o hn (he.step hb3) (hA.below hb3)) ?_
 rintro _ w9 ⟨a,n,c,rfl,ho,hf,hb9⟩
 have hB:=ab hb3 hb9 hb3.size
 refine⟨_,_,_,rfl,ah.of (λh1=>⟨hB,?_⟩) (λh1=>?_)⟩
 · have h1:((n:Nat):Int)=0:=by simpa using h1
   have e:hwV ts h=[]:=List.length_eq_zero_iff.1 (by have:=ho.len;omega)
   rw[if_neg (by unfold kB;rw[e];simp)]
 · have h1:((n:Nat):Int)≠0:=by simpa using h1
   have e:hwV ts h≠[]:=λe=>h1 (by rw[ho.len,e];rfl)
   refine av (cg p ts (by omega) w9 (hA.below hB)) ?_
   rintro _ w16 ⟨rfl,rfl⟩
   refine⟨_,rfl,?_⟩
   try dsimp only
   rw[show i64.wrap ((ts.length:Int)+1-1)=((ts.length:Nat):Int) from by rw[wrap_i64 (by omega) (by omega)];omega]
   refine av (zO ho.all _) ?_
   rintro _ w18 ⟨rfl,rfl⟩
   refine⟨_,rfl,ah.of (λh2=>⟨hB,?_⟩) (λh2=>⟨hB,?_⟩)⟩
   · rw[if_neg (by unfold kB;rw[h2];simp)]
   · rw[if_pos (by unfold kB;rw[h2];simp[e])]
     exact⟨a,n,c,rfl,ho,hf.mono hb3.size⟩
def eW (ok:Bool)(d:DA)(w:World)(v:Value)(w':World):Prop:=if ok=true then py w d v w' else v=.tuple #[daV none 0 0 none 0 0 ⟨0,0,[],[]⟩,vI 181]/\bW w w'
theorem eW.no {d:DA}{w w':World}(h:bW w w'):eW false d w (.tuple #[daV none 0 0 none 0 0 ⟨0,0,[],[]⟩,vI 181]) w':=⟨rfl,h⟩
theorem eW.yes {d:DA}{w w':World}{v:Value}(h:py w d v w'):eW true d w v w':=h
theorem A8 (ts:List Txt){h:Hst}(o:h.ok)(hk:kB ts h=true):(lT ts h).length <=127:=by
 unfold lT
 rw[List.length_map]
 exact Ei o (BM o hk)
theorem wG {h:Hst}(o:h.ok)(hn:h.name.length <=1000000){w:World}(he:Env w){p:Option Addr}{ts:List Txt}(hA:fN w p ts)(htl:ts.length <=511):
   Cf fO #[.pointer p,h.v] w (Ret (eW (kB ts h) (chD (ts.length+1) (lT ts h) 0) w)):=by
 apply vp
 intro k3 w3 hk3 hw3 k4 w4 hk4 hw4
 have hb3:=(hw3▸af w _:bW w w3)
 have hb4:=(hw4▸af w3 _:bW w3 w4)
 have A3:ai w3 k3 am h.cells:=ai.new hk3 hw3
 have A4:ai w4 k4 ae [vI 0,vI 0,.slice none 0 0,.slice none 0 0]:=ai.new hk4 hw4
 have hB4:=ab hb3 hb4 hb3.size
 refine⟨_,bE.load0 (A3.below hb4) (Hst.len o),?_⟩
 refine av (mw o hn (he.step hB4) (hA.below hB4) (by omega)) ?_
 rintro v w11 ⟨hb11,hv⟩
 have hB:=ab hB4 hb11 hB4.size
 have hlt:=A4.lt
 have ho4:w.heap.size <=k4:=by have:=hb3.size;omega
 cases hk:kB ts h with
 | false=>
   rw[if_neg (by rw[hk];simp)]at hv
   subst hv
   obtain⟨wx,s1,s2,g1⟩:=cQ (A4.below hb11) rfl none 0 0 none 0 0 ⟨0,0,[],[]⟩
   exact⟨none,0,0,181,rfl,ah.yes rfl ⟨wx,s1,_,_,none,0,0,none,0,0,s2,eW.no (Below.put hB g1 ho4)⟩⟩
 | true=>
   rw[if_pos hk]at hv
   obtain⟨a,n,c,rfl,ho,hf⟩:=hv
   refine⟨a,n,c,0,rfl,ah.no rfl ?_⟩
   refine av (cg p ts (by omega) w11 (hA.below hB)) ?_
   rintro _ w19 ⟨rfl,rfl⟩
   refine⟨_,rfl,?_⟩
   have hs:Sl bX w19 jN a n c ((lT ts h).map fun(x:Nat)=>(x:Int)):=by rw[<- Ji];exact ho.all
   have e1:((ts.length:Int)+1)=((ts.length+1:Nat):Int):=by omega
   rw[e1]
   refine av (um hs (k:=ts.length+1) (by omega) (by omega) (tQ ts h) (by have:=A8 ts o hk;omega)) ?_
   rintro _ w21 ⟨a1,n1,c1,b1,m1,e1',rfl,O,hb21⟩
   obtain⟨wx,s1,s2,g1⟩:=cQ ((A4.below hb11).below hb21) rfl a1 n1 c1 b1 m1 e1' (chD (ts.length+1) (lT ts h) 0)
   have hB21:=ab hB hb21 hB.size
   have hs19:=hb11.size
   exact⟨_,_,a1,n1,c1,b1,m1,e1',_,rfl,wx,s1,_,_,a1,n1,c1,b1,m1,e1',s2,eW.yes ⟨a1,n1,c1,b1,m1,e1',rfl,(O.put g1 (by omega)).mono hB.size,Below.put hB21 g1 ho4⟩⟩
theorem r5 (a:Option Addr)(b:Value)(c:Bool){w K}(h:nA w (.cells (Value.cells b) am) λd e=>nA e (.cells #[vI 0,vI 0,.slice none 0 0,.slice none 0 0] ae) λf g=>∃i,Ld am (vA d 0) g i/\Cf gX #[.pointer a,i] g λj k=>∃l m n o,j=rT #[.slice l m n,vI o]/\ah (o !=(0:Int)) (∃p,Sv ae (vA f 0) (.agg #[vI 0,vI 0,.slice none 0 0,.slice none 0 0]) k p/\∃q r s t u v x y,Rv ae (vA f 0) p (.agg #[vI q,vI r,.slice s t u,.slice v x y])/\K (.tuple #[.agg #[vI q,vI r,.slice s t u,.slice v x y],vI o]) p) (∃p:FP [],(∃q:FP [.one .bool],(true/\∃r,Ld aq (vA d 0) k (vI r)/\ah (r !=(1:Int)) (q c k) (q false k))/\∀r,aK 5 (∀s,q r s->ah r (uI aN #[.pointer a] s λt u=>Cf oy #[vI t,.slice l m n] u λv x=>∃y z A B C D E F G,v=rT #[.agg #[vI y,vI z,.slice A B C,.slice D E F],vI G]/\∃H,Sv ae (vA f 0) (.agg #[vI y,vI z,.slice A B C,.slice D E F]) x H/\∃I J L M N O P Q,Rv ae (vA f 0) H (.agg #[vI I,vI J,.slice L M N,.slice O P Q])/\K (.tuple #[.agg #[vI I,vI J,.slice L M N,.slice O P Q],vI G]) H) (p s)))/\aK 13 (∀q,p q->true/\∃r,Ld aq (vA d 0) q (vI r)/\ah (r !=(1:Int)) (uI aN #[.pointer a] q λs t=>Cf ly #[vI s] t λu v=>∃x y z A B C D E F,u=rT #[.agg #[vI x,vI y,.slice z A B,.slice C D E],vI F]/\∃G,Sv ae (vA f 0) (.agg #[vI x,vI y,.slice z A B,.slice C D E]) v G/\∃H I J L M N O P,Rv ae (vA f 0) G (.agg #[vI H,vI I,.slice J L M,.slice N O P])/\K (.tuple #[.agg #[vI H,vI I,.slice J L M,.slice N O P],vI F]) G) (uI aN #[.pointer a] q λs t=>Cf kH #[vI s,.slice l m n] t λu v=>∃x y z A B C D E F,u=rT #[.agg #[vI x,vI y,.slice z A B,.slice C D E],vI F]/\nA v (.cells #[vI 0,vI 0,.slice none 0 0,.slice none 0 0] ae) λG H=>∃I,Sv ae (vA G 0) (.agg #[vI x,vI y,.slice z A B,.slice C D E]) H I/\∃J:FP [],(∃L:FP [.one .bool],(ah (F !=(0:Int)) (L true I) (L c I))/\∀M,aK 4 (∀N,L M N->ah M (∃O P Q R S T U V,Ld ae (vA G 0) N (.agg #[vI O,vI P,.slice Q R S,.slice T U V])/\∃X,Sv ae (vA f 0) (.agg #[vI O,vI P,.slice Q R S,.slice T U V]) N X/\∃Y Z aa ac ad ag al an,Rv ae (vA f 0) X (.agg #[vI Y,vI Z,.slice aa ac ad,.slice ag al an])/\K (.tuple #[.agg #[vI Y,vI Z,.slice aa ac ad,.slice ag al an],vI F]) X) (J N)))/\aK 8 (∀L,J L->true/\∃M N O,Ld aG (vA G 3) L (.slice M N O)/\true/\∃P Q R,Ld aG (vA G 3) L (.slice P Q R)/\uI bF #[.slice P Q R,.bool true] L λS T=>∃U:FP [],(true/\∃V X Y,(∀Z,bW T Z->Ld aj (vA G 2) Z (.slice V X Y))/\∃Z,(∀aa,bW T aa->Cf aN #[.pointer a] aa λac ad=>ac=.returned (vI Z)/\bW aa ad)/\∀aa,T.heap.size <=aa->∃ac:FP [.one .slice],(∀ad ag al an ba,ac ad ag al an->bW an ba->ac ad ag al ba)/\(∀ad,bW T ad->ad.heap[aa]? =some (.cells #[vI ((N:Nat):Int)] aq)->uL bi #[.slice (vA aa 0) 1 1,vI Z] ad λag al an ba=>ac ag al an ba/\bW ad ba)/\∀ad ag al,∀an,bW T an->ac ad ag al an->an.heap[aa]? =some (.cells #[vI ((N:Nat):Int)] aq)->∃ba bb bc bd,(Builtin.append_ #[aj,aj] aj #[.slice V X Y,.slice ad ag al]).run prog an=.ok (.slice bb bc bd) ba/\true/\∃bj,Sv aj (vA G 2) (.slice bb bc bd) ba bj/\U bj)/\aK 9 (∀V,U V->uI aN #[.pointer a] V λX Y=>∃Z:Nat->FP [.one (.int .i64)],(∃aa,Z aa (0:Int) Y)/\∀aa ac,aK 14 (∀ad,Z aa ac ad->ah (decide (ac<X)) (true/\∃ag al an,(∀ba,bW ad ba->Ld aj (vA G 2) ba (.slice ag al an))/\∃ba,(∀bb,bW ad bb->Cf aN #[.pointer a] bb λbc bd=>bc=.returned (vI ba)/\bW bb bd)/\(bx (i64.wrap ((i64.wrap (S*ba))+ac)) ((al:Nat):Int)/\Option.isSome ag=true)/\∀bb,bW ad bb->∃bc,Sv aq (ak ag (i64.wrap ((i64.wrap (S*ba))+ac)) 1) (vI ((N:Nat):Int)) bb bc/\∃bd:Nat,bd<aa/\Z bd (i64.wrap (ac+(1:Int))) bc) (true/\∃ag al an,Ld aG (vA G 3) ad (.slice ag al an)/\(bx S ((al:Nat):Int)/\Option.isSome ag=true)/\∃ba,Sv bt (ak ag S 1) (.bool false) ad ba/\true/\∃bb bc bd,Ld aG (vA G 3) ba (.slice bb bc bd)/\nA ba (.cells #[.bool true] bt) λbj bk=>∃bl bn bq bu,(Builtin.append_ #[aG,aG] aG #[.slice bb bc bd,.slice (vA bj 0) 1 1]).run prog bk=.ok (.slice bn bq bu) bl/\true/\∃bw,Sv aG (vA G 3) (.slice bn bq bu) bl bw/\∃bz ca cc ch cl cm cn cp,Ld ae (vA G 0) bw (.agg #[vI bz,vI ca,.slice cc ch cl,.slice cm cn cp])/\∃cs,Sv ae (vA f 0) (.agg #[vI bz,vI ca,.slice cc ch cl,.slice cm cn cp]) bw cs/\∃cx da db dc dd dg ds ea,Rv ae (vA f 0) cs (.agg #[vI cx,vI da,.slice db dc dd,.slice dg ds ea])/\K (.tuple #[.agg #[vI cx,vI da,.slice db dc dd,.slice dg ds ea],vI 0]) cs)))))))):Cf jZ #[.pointer a,b,.bool c] w (Ret K):=ru func51 [(12,[]),(13,[(29,.one .bool)]),(30,[]),(31,[(55,.one .bool)]),(42,[]),(3000043,[(0,.one .bool),(2,.one .bool),(4,.one .bool),(1,.one .bool),(5,.one .bool),(3,.one .bool),(6,.one .slice)]),(48,[(75,.one (.int .i64))]),(3000059,[(0,.one .bool),(2,.one .bool),(3,.one .bool),(6,.one .bool),(8,.one .bool),(1,.one .bool),(4,.one .bool),(5,.one .bool),(7,.one .bool),(9,.one .bool)])] h
def upD (k:Nat)(w:List Nat):DA:=⟨(k:Int),1,setRow k (w.length+1) ((w.length+2:Nat):Int) (Eo k w ((w.length+1:Nat):Int)++nG k ((w.length+2:Nat):Int)) k,(En w).set (w.length+1) false++[true]⟩
def Dm (ts:List Txt)(h:Hst)(itself:Bool):DA:=
 if h.kind≠1 then(if itself=true then chD (ts.length+1) (lT ts h) 0 else noD (ts.length+1))
 else if itself=true then chD (ts.length+1) (lT ts h) (((lT ts h).length+1:Nat):Int)else upD (ts.length+1) (lT ts h)
abbrev Mb:=Ey ae aq bt
structure UpS (wB:World)(k10 lo:Nat)(d:DA)(a:Option Addr)(n c:Nat)(b:Option Addr)(m e:Nat)(W:World):Prop where
 mb:Mb W k10 a n c b m e d
 bel:bW wB W
 fa:∀g,bh a=some g->wB.heap.size <=g
 fb:∀g,bh b=some g->wB.heap.size <=g
 le:lo <=W.heap.size
set_option maxHeartbeats 1000000 in
theorem td {h:Hst}(o:h.ok)(hn:h.name.length <=1000000){w:World}(he:Env w){p:Option Addr}{ts:List Txt}(hA:fN w p ts)(htl:ts.length <=511)(itself:Bool):
   Cf jZ #[.pointer p,h.v,.bool itself] w (Ret (eW (kB ts h) (Dm ts h itself) w)):=by
 apply r5
 intro k4 w4 hk4 hw4 k6 w6 hk6 hw6
 have hb4:=(hw4▸af w _:bW w w4)
 have hb6:=(hw6▸af w4 _:bW w4 w6)
 have A4:ai w4 k4 am h.cells:=ai.new hk4 hw4
 have A6:ai w6 k6 ae [vI 0,vI 0,.slice none 0 0,.slice none 0 0]:=ai.new hk6 hw6
 have hB6:=ab hb4 hb6 hb4.size
 refine⟨_,bE.load0 (A4.below hb6) (Hst.len o),?_⟩
 refine av (mw o hn (he.step hB6) (hA.below hB6) (by omega)) ?_
 rintro v w17 ⟨hb17,hv⟩
 have hB:=ab hB6 hb17 hB6.size
 have hlt:=A6.lt
 have ho6:w.heap.size <=k6:=by have:=hb4.size;omega
 have hs17:=hb17.size
 cases hk:kB ts h with
 | false=>
   rw[if_neg (by rw[hk];simp)]at hv
   subst hv
   obtain⟨wx,s1,s2,g1⟩:=cQ (A6.below hb17) rfl none 0 0 none 0 0 ⟨0,0,[],[]⟩
   exact⟨none,0,0,181,rfl,ah.yes rfl ⟨wx,s1,_,_,none,0,0,none,0,0,s2,eW.no (Below.put hB g1 ho6)⟩⟩
 | true=>
   rw[if_pos hk]at hv
   obtain⟨a,n,c,rfl,ho,hf⟩:=hv
   have hwl:=A8 ts o hk
   have hlen:((ts.length:Int)+1)=((ts.length+1:Nat):Int):=by omega
   have hs17':Sl bX w17 jN a n c ((lT ts h).map fun(x:Nat)=>(x:Int)):=by rw[<- Ji];exact ho.all
   have A4b:=(A4.below hb6).below hb17
   have A6b:=A6.below hb17
   refine⟨a,n,c,0,rfl,ah.no rfl ?_⟩
   have fin:∀{d:DA} {v:Value} {w21:World},d=Dm ts h itself->py w17 d v w21->∃(a1:Option Addr) (n1 c1:Nat) (b1:Option Addr) (m1 e1:Nat),v=.tuple #[daV a1 n1 c1 b1 m1 e1 d,vI 0]/\∃wx,(Instr.storeAt ae (.pointer (some ⟨k6,0,none⟩)) (daV a1 n1 c1 b1 m1 e1 d)).run prog w21=.ok () wx/\
       (bD ae (.pointer (some ⟨k6,0,none⟩))).run prog wx=.ok (daV a1 n1 c1 b1 m1 e1 d) wx/\eW true (Dm ts h itself) w (.tuple #[daV a1 n1 c1 b1 m1 e1 d,vI 0]) wx:=by
     rintro d v w21 rfl ⟨a1,n1,c1,b1,m1,e1,rfl,O,hb21⟩
     obtain⟨wx,s1,s2,g1⟩:=cQ (A6b.below hb21) rfl a1 n1 c1 b1 m1 e1 (Dm ts h itself)
     exact⟨a1,n1,c1,b1,m1,e1,rfl,wx,s1,s2,eW.yes ⟨a1,n1,c1,b1,m1,e1,rfl,(O.put g1 (by omega)).mono hB.size,Below.put (ab hB hb21 hB.size) g1 ho6⟩⟩
   refine⟨λw'=>w'=w17/\ ¬ (h.kind≠1/\itself=true),⟨λb w'=>w'=w17/\b=(decide (h.kind≠1)&&itself),⟨rfl,h.kind,A4b.load1 aB rfl rfl,?_⟩,λb=>aK.of ?_ _⟩,aK.of ?_ _⟩
   · refine ah.of (λh1=>⟨rfl,?_⟩) (λh1=>⟨rfl,?_⟩)
     · have:h.kind≠1:=by simpa using h1
       simp[this]
     · have:h.kind=1:=by simpa using h1
       simp[this]
   · rintro wj ⟨rfl,rfl⟩
     refine ah.of (λh1=>?_) (λh1=>⟨rfl,λhc=>?_⟩)
     · rw[Bool.and_eq_true,dTx]at h1
       refine av (cg p ts (by omega) wj (hA.below hB)) ?_
       rintro _ w31 ⟨rfl,hw31⟩
       rw[hw31];clear hw31 w31
       refine⟨_,rfl,?_⟩
       rw[hlen]
       refine av (um hs17' (k:=ts.length+1) (by omega) (by omega) (tQ ts h) (by omega)) ?_
       intro v w33 hD
       obtain⟨a1,n1,c1,b1,m1,e1,rfl,wx,s1,s2,hP⟩:=fin (by unfold Dm;rw[if_pos h1.1,if_pos h1.2]) hD
       exact⟨_,_,a1,n1,c1,b1,m1,e1,_,rfl,wx,s1,_,_,a1,n1,c1,b1,m1,e1,s2,hP⟩
     · rw[hc.2,decide_eq_true hc.1]at h1;cases h1
   rintro wj ⟨hwj,hno⟩
   obtain rfl:w17=wj:=hwj.symm
   clear hwj
   refine⟨rfl,h.kind,A4b.load1 aB rfl rfl,ah.of (λh1=>?_) (λh1=>?_)⟩
   · have hk1:h.kind≠1:=by simpa using h1
     have hi: ¬ itself=true:=λhc=>hno ⟨hk1,hc⟩
     refine av (cg p ts (by omega) w17 (hA.below hB)) ?_
     rintro _ w40 ⟨rfl,hw40⟩
     rw[hw40];clear hw40 w40
     refine⟨_,rfl,?_⟩
     rw[hlen]
     refine av (pJ (k:=ts.length+1) (by omega) (by omega)) ?_
     intro v w41 hD
     obtain⟨a1,n1,c1,b1,m1,e1,rfl,wx,s1,s2,hP⟩:=fin (by unfold Dm;rw[if_pos hk1,if_neg hi]) hD
     exact⟨_,_,a1,n1,c1,b1,m1,e1,_,rfl,wx,s1,_,_,a1,n1,c1,b1,m1,e1,s2,hP⟩
   have hk1:h.kind=1:=by simpa using h1
   refine av (cg p ts (by omega) w17 (hA.below hB)) ?_
   rintro _ w46 ⟨rfl,hw46⟩
   rw[hw46];clear hw46 w46
   refine⟨_,rfl,?_⟩
   rw[hlen]
   refine av (qo hs17' (k:=ts.length+1) (by omega) (by omega) (tQ ts h) (by omega)) ?_
   rintro _ w48 ⟨a1,n1,c1,b1,m1,e1,rfl,O,hb48⟩
   obtain⟨wn,hwn⟩:∃wn,wn=lT ts h:=⟨_,rfl⟩
   obtain⟨k,hkk⟩:∃k,k=ts.length+1:=⟨_,rfl⟩
   obtain⟨D,hD⟩:∃D,D=chD k wn ((wn.length+1:Nat):Int):=⟨_,rfl⟩
   rw[<- hwn,<- hkk,<- hD]at O
   rw[<- hwn,<- hkk,<- hD]
   rw[<- hwn]at hwl
   have hB48:=ab hB hb48 hB.size
   refine⟨_,_,a1,n1,c1,b1,m1,e1,_,rfl,?_⟩
   intro k10 w10 hk10 hw10
   have hb10:=(hw10▸af w48 _:bW w48 w10)
   have A10:ai w10 k10 ae [vI 0,vI 0,.slice none 0 0,.slice none 0 0]:=ai.new hk10 hw10
   obtain⟨wx,s3,v3,g3⟩:=bg.store0 (P:=prog) (cs:=daL a1 n1 c1 b1 m1 e1 D) rfl (dr _ _ _ _ _ _ _) A10 rfl
   have hbx:bW w48 wx:=Below.put hb10 g3 (by omega)
   have M0:Mb wx k10 a1 n1 c1 b1 m1 e1 D:=⟨v3,O.nx.below hbx,O.ac.below hbx,λg hg e=>by have:=O.nx.lt g hg;omega,λg hg e=>by have:=O.ac.lt g hg;omega,O.ne⟩
   have hBx:=ab hB48 hbx hB48.size
   have hs48:=hb48.size
   have hs10:=hb10.size
   have hsx:=hbx.size
   refine⟨wx,s3,?_⟩
   refine⟨λw'=>w'=wx/\itself=false,⟨λb w'=>w'=wx/\b=itself,ah.no rfl ⟨rfl,rfl⟩,λb=>aK.of ?_ _⟩,aK.of ?_ _⟩
   · rintro wj2 ⟨rfl,rfl⟩
     refine ah.of (λh2=>?_) (λh2=>⟨rfl,h2⟩)
     refine⟨_,_,a1,n1,c1,b1,m1,e1,bg.load0 (cs:=daL a1 n1 c1 b1 m1 e1 D) M0.var rfl,?_⟩
     have A6x:=(A6b.below hb48).below hbx
     obtain⟨w4x,s4,s5,g4⟩:=cQ A6x rfl a1 n1 c1 b1 m1 e1 D
     have eD:D=Dm ts h b:=by unfold Dm;rw[if_neg (λhc=>hc hk1),if_pos h2,hD,<- hwn,<- hkk]
     refine⟨w4x,s4,_,_,a1,n1,c1,b1,m1,e1,s5,?_⟩
     rw[<- eD]
     exact eW.yes ⟨a1,n1,c1,b1,m1,e1,rfl,((O.below hbx).put g4 (by omega)).mono hB.size,Below.put hBx g4 ho6⟩
   rintro wj2 ⟨hwj,hi⟩
   obtain rfl:wx=wj2:=hwj.symm
   clear hwj
   have hm1:=O.ac.len
   have hn1:=O.nx.len
   have hacl:D.ac.length=wn.length+2:=by rw[hD];exact lX wn
   have hnxl:D.nx.length=(wn.length+2)*k:=by rw[hD];exact CA _ _ _
   have hkle:1 <=k/\k <=512:=by omega
   refine⟨rfl,b1,m1,e1,M0.var.load1 aR rfl rfl,rfl,b1,m1,e1,M0.var.load1 aR rfl rfl,?_⟩
   have hac:D.ac=List.replicate (wn.length+1) false++[true]:=by rw[hD];rfl
   have hsac:Sl ix wx jN b1 m1 e1 (List.replicate (wn.length+1) false++[true]):=by rw[<- hac];exact M0.ac.all
   refine av (DP hsac) ?_
   rintro _ w63 ⟨rfl,hw63⟩
   rw[hw63];clear hw63 w63
   refine⟨_,rfl,?_⟩
   have hAx:=hA.below hBx
   have hm1':((m1:Nat):Int)=((wn.length+2:Nat):Int):=by omega
   rw[hm1']
   refine⟨λW=>∃a' n' c',UpS w17 k10 wx.heap.size ⟨D.k,D.st,D.nx++nG k ((wn.length+2:Nat):Int),D.ac⟩ a' n' c' b1 m1 e1 W,⟨rfl,a1,n1,c1,λu hu=>(M0.var.below hu).load1 az rfl rfl,((ts.length:Int)+1),λu hu=>?_,λk67 hk67=>?_⟩,aK.of ?_ _⟩
   · refine(cg p ts (by omega) u (hAx.below hu)).mono ?_
     rintro e w' ⟨v,rfl,rfl,rfl⟩
     exact⟨rfl,Below.refl _ _⟩
   · refine⟨λaa ll cc W=>ll=k/\cc=k/\Sl bX W (λg=>wx.heap.size <=g) aa ll cc (nG k ((wn.length+2:Nat):Int)),?_,?_,?_⟩
     · rintro aa ll cc x y ⟨rfl,rfl,hs⟩ hb
       exact⟨rfl,rfl,hs.below hb⟩
     · intro u70 hu hcell
       have hsl:Sl bX u70 jN (some ⟨k67,0,none⟩) 1 1 [((wn.length+2:Nat):Int)]:=by
         refine⟨rfl,Nat.le_refl _,by decide,.inr ⟨k67,0,rfl,(Array.getElem?_eq_some_iff.1 hcell).1,trivial,[vI ((wn.length+2:Nat):Int)],gB.one cR,λj hj=>?_⟩⟩
         rw[eY hcell,Nat.zero_add];simp
       rw[hlen,<- hkk]
       refine(lI hsl hkle.1 (by omega)).mono ?_
       rintro _ w70 ⟨_,rfl,a',rfl,ho',hf',hb'⟩
       refine⟨a',k,k,rfl,⟨rfl,rfl,ho'.sl (λb _ hb=>hb.elim) λg hg=>?_⟩,hb'⟩
       have:=hf' g hg
       have:=hu.size
       omega
     rintro aa ll cc wq hq ⟨hll,hcc,hs⟩ hcell
     rw[hll,hcc]at hs
     rw[hll,hcc]
     have Mq:=M0.below hq
     obtain⟨w71,a3,n3,c3,r71,o71,g71,f71⟩:=cq (ty:=aj) az dj (by decide) Mq.nx (λ_ _ h=>h) (cm:=k) (hs.flat dE) (by rw[hnxl];simp[nG];have:(wn.length+2)*k <=129*512:=Nat.mul_le_mul (by omega) (by omega);omega)
     have v71:=Mq.var.grown g71 λex=>M0.na k10 ex.symm rfl
     have hqs:=hq.size
     have kl:=M0.var.lt
     have hne3:∀g,bh a3=some g->g≠k10:=λg hg ex=>by
       rcases f71 g hg with h1|h1
       · exact M0.na g h1 ex
       · omega
     have o71b:=Mq.ac.other g71 λg hg ex=>M0.ne g ex hg
     obtain⟨w5,s5,v5,g5⟩:=v71.store fL (i:=2) (v:=.slice a3 n3 c3) rfl (by simp) (by intro c hc;simp[Value.cells]at hc;subst hc;rfl)
     have v5:ai w5 k10 ae [vI D.k,vI D.st,.slice a3 n3 c3,.slice b1 m1 e1]:=v5
     have old3:∀g,bh a3=some g->w17.heap.size <=g:=λg hg=>by
       rcases f71 g hg with h1|h1
       · exact O.fa g h1
       · omega
     have hb17x:bW w17 wx:=ab hb48 hbx hb48.size
     have hb17q:bW w17 wq:=ab hb17x hq hb17x.size
     have hb5:bW w17 w5:=(hb17q.grown g71 hb17q.size λg hg=>O.fa g hg).grown g5 (Nat.le_trans hb17q.size g71.size) λx ex=>by cases ex;omega
     refine⟨w71,a3,n3,c3,r71,rfl,w5,s5,a3,n3,c3,⟨v5,o71.put (λg hg ex=>hne3 g hg ex) g5,o71b.put (λg hg ex=>M0.nb g hg ex) g5,hne3,M0.nb,λg hg ex=>?_⟩,hb5,old3,O.fb,Nat.le_trans hqs (Nat.le_trans g71.size g5.size)⟩
     rcases f71 g hg with h1|h1
     · exact M0.ne g h1 ex
     · have:=M0.ac.lt g ex;omega
   rintro w74 ⟨a2,n2,c2,U0⟩
   have hBU:∀{W:World} {d:DA} {a2:Option Addr} {n2 c2:Nat} {b2:Option Addr} {m2 e2:Nat},UpS w17 k10 wx.heap.size d a2 n2 c2 b2 m2 e2 W->bW w W:=λU=>ab hB U.bel hB.size
   refine av (cg p ts (by omega) w74 (hA.below (hBU U0))) ?_
   rintro _ w74' ⟨rfl,hw74⟩
   rw[hw74];clear hw74 w74'
   refine⟨_,rfl,?_⟩
   have hk10x:k10<wx.heap.size:=M0.var.lt
   obtain⟨nx0,hnx0⟩:∃nx0,nx0=D.nx++nG k ((wn.length+2:Nat):Int):=⟨_,rfl⟩
   rw[<- hnx0]at U0
   have hnx0l:nx0.length=(wn.length+3)*k:=by rw[hnx0,List.length_append,hnxl,nG,List.length_replicate,<- Nat.succ_mul]
   have hmul:(wn.length+3)*k=(wn.length+1)*k+k+k:=by rw[show wn.length+3=(wn.length+1)+1+1 from rfl,Nat.succ_mul,Nat.succ_mul]
   have hmul2:(wn.length+1)*k <=128*512:=Nat.mul_le_mul (by omega) (by omega)
   rw[hlen,<- hkk]
   refine⟨λm i W=>∃(j:Nat) (a2:Option Addr) (n2 c2:Nat),j <=k/\i=(j:Int)/\m=k-j/\UpS w17 k10 wx.heap.size ⟨D.k,D.st,setRow k (wn.length+1) ((wn.length+2:Nat):Int) nx0 j,D.ac⟩ a2 n2 c2 b1 m1 e1 W,⟨_,0,a2,n2,c2,by omega,rfl,rfl,U0⟩,?_⟩
   intro m i
   refine aK.of ?_ _
   rintro wl ⟨j,a4,n4,c4,hj,rfl,rfl,U⟩
   have hn4:=U.mb.nx.len
   have hn4':n4=(wn.length+3)*k:=by rw[hn4];show(setRow _ _ _ _ _).length=_;rw[sq];exact hnx0l
   refine ah.of (λh3=>?_) (λh3=>?_) <;> simp only[dTx,dFx]at h3
   · have hjk:j<k:=by omega
     have hw1:i64.wrap (((wn.length+1:Nat):Int)*((k:Nat):Int))=(((wn.length+1)*k:Nat):Int):=by
       rw[<- Int.natCast_mul];exact wrap_i64 (by omega) (by omega)
     have hw2:i64.wrap (i64.wrap (((wn.length+1:Nat):Int)*((k:Nat):Int))+(j:Int))=(((wn.length+1)*k+j:Nat):Int):=by
       rw[hw1,wrap_i64 (by omega) (by omega)];omega
     have hidx:(wn.length+1)*k+j<(setRow k (wn.length+1) ((wn.length+2:Nat):Int) nx0 j).length:=by rw[sq,hnx0l];omega
     refine⟨rfl,a4,n4,c4,λu hu=>(U.mb.var.below hu).load1 az rfl rfl,((k:Nat):Int),λu hu=>?_,?_⟩
     · have h1:=cg p ts (by omega) u ((hA.below (hBU U)).below hu)
       rw[hlen,<- hkk]at h1
       refine h1.mono ?_
       rintro e w' ⟨v,rfl,rfl,rfl⟩
       exact⟨rfl,Below.refl _ _⟩
     rw[hw2]
     refine⟨⟨⟨by omega,by omega⟩,U.mb.nx.all.isSome hidx⟩,λwq hq=>?_⟩
     have Mq:=U.mb.below hq
     obtain⟨w6x,s6,o6,g6⟩:=Mq.nx.store (P:=prog) dj (i:=(((wn.length+1)*k+j:Nat):Int)) (k:=1) (λ_ _ h=>h) (by rw[Int.toNat_natCast];exact hidx) rfl (v:=vI ((wn.length+2:Nat):Int)) (x:=((wn.length+2:Nat):Int)) cR
     rw[Int.toNat_natCast]at o6
     refine⟨w6x,s6,k-(j+1),by omega,j+1,a4,n4,c4,by omega,by rw[wrap_i64 (by omega) (by omega)];omega,rfl,⟨⟨Mq.var.grown g6 (λex=>U.mb.na k10 ex.symm rfl),o6,Mq.ac.other g6 (λg hg ex=>U.mb.ne g ex hg),U.mb.na,U.mb.nb,U.mb.ne⟩,?_,U.fa,U.fb,?_⟩⟩
     · have h1:=ab U.bel hq U.bel.size
       exact h1.grown g6 h1.size λg hg=>U.fa g hg
     · exact Nat.le_trans U.le (Nat.le_trans hq.size g6.size)
   have hjk:j=k:=by omega
   subst hjk
   have kl:=U.mb.var.lt
   have hidx:(((wn.length+1:Nat):Int)).toNat<D.ac.length:=by rw[Int.toNat_natCast];omega
   refine⟨rfl,b1,m1,e1,U.mb.var.load1 aR rfl rfl,⟨⟨by omega,by omega⟩,U.mb.ac.all.isSome (i:=wn.length+1) (by show wn.length+1<D.ac.length;omega)⟩,?_⟩
   obtain⟨w7,s7,o7,g7⟩:=U.mb.ac.store (P:=prog) lr (i:=((wn.length+1:Nat):Int)) (k:=1) (λ_ _ h=>h) hidx rfl (v:=.bool false) (x:=false) oz
   rw[Int.toNat_natCast]at o7
   have v7:=U.mb.var.grown g7 (λex=>U.mb.nb k10 ex.symm rfl)
   have x7:=U.mb.nx.other g7 U.mb.ne
   have B7:bW w17 w7:=U.bel.grown g7 U.bel.size λg hg=>U.fb g hg
   have s7':wl.heap.size <=w7.heap.size:=g7.size
   have hac1:(D.ac.set (wn.length+1) false).length=wn.length+2:=by rw[List.length_set];exact hacl
   refine⟨w7,s7,rfl,b1,m1,e1,v7.load1 aR rfl rfl,?_⟩
   intro k95 w95 hk95 hw95
   have hb95:=(hw95▸af w7 _:bW w7 w95)
   have hsrc:Src ix w95 NoB (some ⟨k95,0,none⟩) 1 [true]:=Src.new1F qu hk95 hw95 oz
   obtain⟨w96,b3,m3,e3,r96,o96,g96,f96⟩:=cq (ty:=aG) aR lr (by decide) (o7.below hb95) (λ_ _ h=>h) (cm:=1) hsrc (by rw[hac1];simp;omega)
   have v96:=(v7.below hb95).grown g96 λex=>U.mb.nb k10 ex.symm rfl
   have x96:=(x7.below hb95).other g96 U.mb.ne
   have s95:=hb95.size
   have hne3:∀g,bh b3=some g->g≠k10:=λg hg ex=>by
     rcases f96 g hg with h1|h1
     · exact U.mb.nb g h1 ex
     · omega
   have fb3:∀g,bh b3=some g->w17.heap.size <=g:=λg hg=>by
     rcases f96 g hg with h1|h1
     · exact U.fb g h1
     · have:=B7.size;omega
   obtain⟨w8,s8,v8,g8⟩:=v96.store su (i:=3) (v:=.slice b3 m3 e3) rfl (by simp) (by intro c hc;simp[Value.cells]at hc;subst hc;rfl)
   have v8:ai w8 k10 ae (daL a4 n4 c4 b3 m3 e3 (upD j wn)):=by
     have e1:D.k=(j:Int):=by rw[hD];rfl
     have e2:D.st=1:=by rw[hD];rfl
     rw[e1,e2]at v8
     exact v8
   have B96:bW w17 w96:=(ab B7 hb95 B7.size).grown g96 (ab B7 hb95 B7.size).size λg hg=>U.fb g hg
   have B8:bW w17 w8:=B96.grown g8 B96.size λx ex=>by cases ex;omega
   have x8:=x96.put (λg hg ex=>U.mb.na g hg ex) g8
   have o8:=o96.put (λg hg ex=>hne3 g hg ex) g8
   have eup:(⟨D.k,D.st,setRow j (wn.length+1) ((wn.length+2:Nat):Int) nx0 j,D.ac.set (wn.length+1) false++[true]⟩:DA)=upD j wn:=by
     unfold upD
     rw[hnx0,hD];rfl
   have e8n:(upD j wn).nx=setRow j (wn.length+1) ((wn.length+2:Nat):Int) nx0 j:=by rw[<- eup]
   have e8a:(upD j wn).ac=D.ac.set (wn.length+1) false++[true]:=by rw[<- eup]
   obtain⟨w9,s9,s9',g9⟩:=cQ (A6b.below B8) rfl a4 n4 c4 b3 m3 e3 (upD j wn)
   have eD:upD j wn=Dm ts h itself:=by unfold Dm;rw[if_neg (λhc=>hc hk1),if_neg (by rw[hi];simp),<- hwn,<- hkk]
   refine⟨w96,b3,m3,e3,r96,rfl,w8,s8,_,_,a4,n4,c4,b3,m3,e3,bg.load0 (cs:=daL a4 n4 c4 b3 m3 e3 (upD j wn)) v8 rfl,w9,s9,_,_,a4,n4,c4,b3,m3,e3,s9',?_⟩
   rw[<- eD]
   have OO:rA w17.heap.size w8 a4 n4 c4 b3 m3 e3 (upD j wn):=⟨by rw[e8n];exact x8,by rw[e8a];exact o8,λg hg ex=>by
     rcases f96 g ex with h1|h1
     · exact U.mb.ne g hg h1
     · have:=x7.lt g hg;omega,U.fa,fb3⟩
   exact eW.yes ⟨a4,n4,c4,b3,m3,e3,rfl,(OO.put g9 (by omega)).mono hB.size,Below.put (ab hB B8 hB.size) g9 ho6⟩
theorem rL {h:Hst}(o:h.ok)(hn:h.name.length <=1000000){w:World}(he:Env w){p:Option Addr}{ts:List Txt}(hA:fN w p ts)(htl:ts.length <=511):
   Cf du #[.pointer p,h.v] w (Ret (eW (kB ts h) (Dm ts h true) w)):=by
 apply qO
 intro k3 w3 hk3 hw3 k4 w4 hk4 hw4
 have hb3:=(hw3▸af w _:bW w w3)
 have hb4:=(hw4▸af w3 _:bW w3 w4)
 have A3:ai w3 k3 am h.cells:=ai.new hk3 hw3
 have A4:ai w4 k4 ae [vI 0,vI 0,.slice none 0 0,.slice none 0 0]:=ai.new hk4 hw4
 have hB4:=ab hb3 hb4 hb3.size
 have hlt:=A4.lt
 have ho4:w.heap.size <=k4:=by have:=hb3.size;omega
 refine⟨_,bE.load0 (A3.below hb4) (Hst.len o),?_⟩
 refine av (td o hn (he.step hB4) (hA.below hB4) htl true) ?_
 intro v w8 hS
 cases hk:kB ts h with
 | false=>
   rw[hk]at hS
   obtain⟨rfl,hb8⟩:=hS
   obtain⟨wx,s1,s2,g1⟩:=cQ (A4.below hb8) rfl none 0 0 none 0 0 ⟨0,0,[],[]⟩
   exact⟨_,_,none,0,0,none,0,0,_,rfl,wx,s1,_,_,none,0,0,none,0,0,s2,eW.no (Below.put (ab hB4 hb8 hB4.size) g1 ho4)⟩
 | true=>
   rw[hk]at hS
   obtain⟨a1,n1,c1,b1,m1,e1,rfl,O,hb8⟩:=hS
   obtain⟨wx,s1,s2,g1⟩:=cQ (A4.below hb8) rfl a1 n1 c1 b1 m1 e1 (Dm ts h true)
   exact⟨_,_,a1,n1,c1,b1,m1,e1,_,rfl,wx,s1,_,_,a1,n1,c1,b1,m1,e1,s2,eW.yes ⟨a1,n1,c1,b1,m1,e1,rfl,(O.put g1 hlt).mono hB4.size,Below.put (ab hB4 hb8 hB4.size) g1 ho4⟩⟩
theorem HM {ok:Bool}{d:DA}{w:World}{v:Value}{w':World}(h:eW ok d w v w'):∃(err:Int) (D:DA) (a:Option Addr) (n c:Nat) (b:Option Addr) (m e:Nat),v=.tuple #[daV a n c b m e D,vI err]/\rA w.heap.size w' a n c b m e D/\bW w w'/\(ok=true/\err=0/\D=d\/ok=false/\err=181):=by
 unfold eW at h
 cases ok with
 | true=>
   rw[if_pos rfl]at h
   obtain⟨a,n,c,b,m,e,rfl,O,hb⟩:=h
   exact⟨0,d,a,n,c,b,m,e,rfl,O,hb,.inl ⟨rfl,rfl,rfl⟩⟩
 | false=>
   rw[if_neg (by decide)]at h
   obtain⟨rfl,hb⟩:=h
   exact⟨181,⟨0,0,[],[]⟩,none,0,0,none,0,0,rfl,⟨Ow.nil _ _ _ _,Ow.nil _ _ _ _,(λg hg=>by cases hg),bp.none _,bp.none _⟩,hb,.inr ⟨rfl,rfl⟩⟩
def Lh (ts:List Txt)(h:Hst)(only:Bool):DA:=if only=true then chD (ts.length+1) (lT ts h) 0 else Dm ts h true
def ofR (ts:List Txt)(c:Cky)(now:Int):Rgn:=
 ⟨Lh ts c.host c.only,cJ c.path,decide (now<c.exp) && !c.sec,decide (now<c.exp),decide (now<c.exp),decide (now<c.exp)&&(c.same !=3),decide (now<c.exp)&&(c.same==1)⟩
def JU (ok:Bool)(r:Rgn)(er:Int)(w:World)(v:Value)(w':World):Prop:=bW w w'/\
 if ok=true then ∃x y,v=.tuple #[r.v x y,vI 0]/\RgO w.heap.size w' r x y else v=.tuple #[rg0.v rp0 rp0,vI er]
theorem GB:Whl prog gE 2:=⟨⟨_,_,AO⟩,by kernel_rfl⟩
theorem GC:Whl prog gF 3:=⟨⟨_,_,AQ⟩,by kernel_rfl⟩
set_option maxHeartbeats 1000000 in
theorem Aw {c:Cky}(o:c.ok)(hn:c.host.name.length <=1000000)(hp:c.path.length <=60000){w:World}(he:Env w){p:Option Addr}{ts:List Txt}(hA:fN w p ts)(htl:ts.length <=511)(now:Int):
   Cf pL #[.pointer p,c.v,vI now] w (Ret (JU (kB ts c.host) (ofR ts c now) 181 w)):=by
 apply zg
 intro k4 w4 hk4 hw4 k6 w6 hk6 hw6
 have b4:=(hw4▸af w _:bW w w4)
 have b6:=(hw6▸af w4 _:bW w4 w6)
 have A4:ai w4 k4 kF c.cells:=ai.new hk4 hw4
 have A6:ai w6 k6 ao (rg0.cells rp0 rp0):=ai.new hk6 hw6
 have B6:=ab b4 b6 b4.size
 have A46:=A4.below b6
 have s4:=b4.size
 have s6:=B6.size
 have l6:=A6.lt
 refine⟨λv8 W=>W=w6/\v8=.func (.func (if c.only=true then fO else du)) #[] #[],⟨rfl,_,A46.load1 dk rfl (i:=20) (ou o 0),ah.of (λh=>⟨rfl,by rw[if_pos h]⟩) (λh=>⟨rfl,by rw[if_neg (by rw[h];decide)]⟩)⟩,λv8=>aK.of ?_ _⟩
 rintro wj ⟨rfl,rfl⟩
 refine⟨rfl,_,bE.load A46 (i:=2) (us:=c.host.cells) (Hst.len o) (λj hj=>G9 o hj),?_⟩
 have hset:Cf (if c.only=true then fO else du) #[.pointer p,c.host.v] wj (Ret (eW (kB ts c.host) (Lh ts c.host c.only) wj)):=by
   unfold Lh
   by_cases h:c.only=true
   · rw[if_pos h,if_pos h];exact wG o hn (he.step B6) (hA.below B6) htl
   · rw[if_neg h,if_neg h];exact rL o hn (he.step B6) (hA.below B6) htl
 have hcal:iT prog (if c.only=true then fO else du)=true:=by
   by_cases h:c.only=true
   · rw[if_pos h];kernel_rfl
   · rw[if_neg h];kernel_rfl
 refine zx.of hcal (av hset ?_)
 intro v w21 hv
 obtain⟨err,D,a,n,cc,b,m,e,rfl,O,b21,hcase⟩:=HM hv
 refine⟨_,_,a,n,cc,b,m,e,err,rfl,?_⟩
 intro k9 w9 hk9 hw9
 have B21:=ab B6 b21 B6.size
 have b9:=(hw9▸af w21 _:bW w21 w9)
 have A9:ai w9 k9 ae [vI 0,vI 0,.slice none 0 0,.slice none 0 0]:=ai.new hk9 hw9
 obtain⟨wx,q1,v1,g1⟩:=bg.store0 (P:=prog) (cs:=daL a n cc b m e D) rfl (dr _ _ _ _ _ _ _) A9 rfl
 have bx:bW w21 wx:=Below.put b9 g1 (by omega)
 have Bx:=ab B21 bx B21.size
 have b6x:=ab b21 bx b21.size
 have A4x:=A46.below b6x
 refine⟨wx,q1,rfl,_,A4x.load1 bA rfl (i:=21) (ou o 1),?_⟩
 refine av (GQ c.path hp wx) ?_
 rintro _ w27 ⟨a1,n1,c1,b1,m1,e1,rfl,O1,b27⟩
 refine⟨_,_,a1,n1,c1,b1,m1,e1,_,rfl,?_⟩
 intro k11 w11 hk11 hw11
 have B27:=ab Bx b27 Bx.size
 have b11:=(hw11▸af w27 _:bW w27 w11)
 have A11:ai w11 k11 ae [vI 0,vI 0,.slice none 0 0,.slice none 0 0]:=ai.new hk11 hw11
 obtain⟨wy,q2,v2,g2⟩:=bg.store0 (P:=prog) (cs:=daL a1 n1 c1 b1 m1 e1 (cJ c.path)) rfl (dr _ _ _ _ _ _ _) A11 rfl
 have by_:bW w27 wy:=Below.put b11 g2 (by omega)
 have bxy:=ab b27 by_ b27.size
 have By:=ab Bx bxy Bx.size
 refine⟨wy,q2,_,_,a,n,cc,b,m,e,bg.load0 (cs:=daL a n cc b m e D) (v1.below bxy) rfl,_,_,a1,n1,c1,b1,m1,e1,bg.load0 (cs:=daL a1 n1 c1 b1 m1 e1 (cJ c.path)) v2 rfl,?_⟩
 intro k13 w13 hk13 hw13
 have b13:=(hw13▸af wy _:bW wy w13)
 have A13:ai w13 k13 ao (rg0.cells rp0 rp0):=ai.new hk13 hw13
 have SH:DaS wy a n cc b m e D:=(O.das.below bx).below bxy
 have SP:DaS wy a1 n1 c1 b1 m1 e1 (cJ c.path):=O1.das.below by_
 obtain⟨wz,q3,v3,g3⟩:=bm.store0 (P:=prog) (cs:=(⟨D,cJ c.path,false,false,false,false,false⟩:Rgn).cells ⟨a,n,cc,b,m,e⟩ ⟨a1,n1,c1,b1,m1,e1⟩) rfl (Rgn.one _ _ _) A13 rfl
 have bz:bW wy wz:=Below.put b13 g3 (by omega)
 have byz:=ab b6x bxy b6x.size
 have A4z:=(A46.below byz).below bz
 refine⟨wz,q3,λW=>bW wy W/\ai W k13 ao ((⟨D,cJ c.path,decide (now<c.exp) && !c.sec,decide (now<c.exp),decide (now<c.exp),decide (now<c.exp)&&(c.same !=3),decide (now<c.exp)&&(c.same==1)⟩:Rgn).cells ⟨a,n,cc,b,m,e⟩ ⟨a1,n1,c1,b1,m1,e1⟩),⟨rfl,_,A4z.load1 HQ rfl (i:=25) (ou o 5),ah.of (λh=>?_) (λh=>?_)⟩,aK.of ?_ _⟩
 · obtain⟨wa,r1,u1,h1⟩:=GB.store (P:=prog) (cs:=[.bool (!c.sec),.bool true]) rfl (aM rfl (aM rfl gJ)) v3 (i:=8) (show 8+2 <=13 by decide)
   have ba:=Below.put bz h1 (by omega)
   have ne4:k4≠k13:=by have:=A46.lt;have:=byz.size;omega
   have A4a:=A4z.grown h1 (ke ne4)
   obtain⟨wb,r2,u2,h2⟩:=GC.store (P:=prog) (cs:=[.bool true,.bool (c.same !=3),.bool (c.same==1)]) rfl (aM rfl (aM rfl (aM rfl gJ))) u1 (i:=10) (show 10+3 <=13 by decide)
   refine⟨rfl,_,A4z.load1 dk rfl (i:=22) (ou o 2),rfl,wa,r1,rfl,_,A4a.load1 aB rfl (i:=24) (ou o 4),rfl,_,A4a.load1 aB rfl (i:=24) (ou o 4),rfl,wb,r2,Below.put ba h2 (by omega),?_⟩
   rw[h]
   exact u2
 · refine⟨bz,?_⟩
   rw[h]
   exact v3
 rintro wj2 ⟨bj,Aj⟩
 have Bj:=ab By bj By.size
 refine⟨_,bm.load0 Aj rfl,?_⟩
 have herr:i64.wrap err=err:=by rcases hcase with⟨_,h,_⟩|⟨_,h⟩ <;> rw[h] <;> rfl
 refine av (HN _ _ _ err 0 herr rfl wj2) ?_
 rintro _ w53 ⟨b53,rfl⟩
 have B53:=ab Bj b53 Bj.size
 have A6z:=(A6.below (ab byz bj byz.size)).below b53
 rcases hcase with⟨hk,rfl,rfl⟩|⟨hk,rfl⟩
 · rw[if_pos (by rfl)]
   obtain⟨wq,r3,u3,h3⟩:=bm.store0 (P:=prog) (cs:=(ofR ts c now).cells ⟨a,n,cc,b,m,e⟩ ⟨a1,n1,c1,b1,m1,e1⟩) rfl (Rgn.one _ _ _) A6z rfl
   refine⟨_,_,rfl,wq,r3,_,ai.res (bm.load0 u3 rfl),Below.put B53 h3 (by omega),?_⟩
   rw[if_pos hk]
   have bq:bW w53 w53:=Below.refl _ _
   have k6a:∀g,bh a=some g->g≠k6:=λg hg=>by have:=O.fa g hg;omega
   refine⟨⟨a,n,cc,b,m,e⟩,⟨a1,n1,c1,b1,m1,e1⟩,rfl,?_,?_⟩
   · exact((((O.below bx).below bxy).below bj).below b53 |>.put h3 l6).mono B6.size
   · exact(((O1.below by_).below bj).below b53 |>.put h3 (by have:=b6x.size;omega)).mono Bx.size
 · rw[if_neg (by decide)]
   obtain⟨wq,r3,u3,h3⟩:=bm.store0 (P:=prog) (cs:=rg0.cells rp0 rp0) rfl (Rgn.one _ _ _) A6z rfl
   refine⟨_,_,rfl,wq,r3,_,ai.res (bm.load0 u3 rfl),Below.put B53 h3 (by omega),?_⟩
   rw[if_neg (by rw[hk];decide)];rfl
theorem kM {W:World}{k:Nat}{r:Rgn}{x y:Rgp}(h:ai W k ao (r.cells x y)):(Instr.loadAt ae (.pointer (some ⟨k,0,none⟩))).run prog W=.ok (daV x.a x.n x.c x.b x.m x.e r.h) W:=
 bg.load h (i:=0) (us:=daL x.a x.n x.c x.b x.m x.e r.h) rfl λj hj=>by
   match j,hj with
   | 0,_=>rfl
   | 1,_=>rfl
   | 2,_=>rfl
   | 3,_=>rfl
   | j+4,hj=>omega
theorem kN {W:World}{k:Nat}{r:Rgn}{x y:Rgp}(h:ai W k ao (r.cells x y)):(Instr.loadAt ae (.pointer (some ⟨k,4,none⟩))).run prog W=.ok (daV y.a y.n y.c y.b y.m y.e r.p) W:=
 bg.load h (i:=4) (us:=daL y.a y.n y.c y.b y.m y.e r.p) rfl λj hj=>by
   match j,hj with
   | 0,_=>rfl
   | 1,_=>rfl
   | 2,_=>rfl
   | 3,_=>rfl
   | j+4,hj=>omega
def CW (s:Txt):Bool:=match fg (s++[46,120])with|some h=>(h.name==s++[46,120])&&((bU h).length==2)|none=>false
theorem FH (s:Txt):CW s=bC s:=by
 have hx:bC [120]=true:=by decide
 have hdx:fz [120]=false:=by decide
 cases hl:bC s with
 | true=>
   have e:Lib.join [s,[120]] [46]=s++[46,120]:=by rw[tM,Lib.join_one]
   have hs:=(gI hl).2.1
   obtain⟨h1,h2,h3⟩:=nz (L:=[s,[120]]) (by simp) (by intro x hx';simp at hx';rcases hx' with rfl|rfl <;> assumption) hdx (by rw[e];simp;omega)
   unfold CW
   rw[e]at h1 h3
   rw[h1]
   simp[h3]
 | false=>
   unfold CW
   cases hv:fg (s++[46,120])with
   | none=>rfl
   | some h=>
     simp only
     rw[Bool.eq_false_iff]
     intro hc
     rw[Bool.and_eq_true,beq_iff_eq,beq_iff_eq]at hc
     obtain⟨c1,c2⟩:=hc
     have o:=fS hv
     have e:=(BN o (d:=h) (by omega)).2
     have hm:s∈bU h:=by
       rw[c1,pH]at e
       rw[e,List.length_append]at c2
       rw[e]
       have e2:gg 46 [] [120]=[[120]]:=by decide
       rw[e2]at c2 ⊢
       have c3:(gg 46 [] s).length=1:=by simpa using c2
       obtain⟨x,ex⟩:=List.length_eq_one_iff.1 c3
       have hj:=mn 46 s []
       rw[ex,Lib.join_one,List.nil_append]at hj
       rw[ex,hj];simp
     have:=rM o s hm
     rw[hl]at this;cases this
theorem kJ (s:Txt)(hs:s.length <=1000000)(w:World)(he:Env w):Cf iG #[vS s] w (Ret λv w'=>v=.bool (jc s)/\bW w w'):=by
 apply pS
 refine av (jJ s (by omega) w he) ?_
 rintro _ w7 ⟨rfl,hb7⟩
 unfold jc
 cases hv:fg s with
 | none=>
   refine⟨_,_,rfl,λk3 w3 hk3 hw3=>?_⟩
   have hb3:=(hw3▸af w7 _:bW w7 w3)
   have A3:ai w3 k3 am iY.cells:=ai.new hk3 hw3
   obtain⟨wx,hs4,A4,g4⟩:=bE.store0 (P:=prog) (cs:=iY.cells) rfl (Hst.one _) A3 rfl
   refine⟨wx,hs4,ah.no rfl ⟨rfl,ab hb7 (Below.put hb3 g4 (by omega)) hb7.size⟩⟩
 | some h=>
   have o:=fS hv
   refine⟨_,_,rfl,λk3 w3 hk3 hw3=>?_⟩
   have hb3:=(hw3▸af w7 _:bW w7 w3)
   have A3:ai w3 k3 am iY.cells:=ai.new hk3 hw3
   obtain⟨wx,hs4,A4,g4⟩:=bE.store0 (P:=prog) (cs:=h.cells) (Hst.len o) (Hst.one _) A3 rfl
   have hB:=ab hb7 (Below.put hb3 g4 (by omega)) hb7.size
   refine⟨wx,hs4,ah.yes rfl ⟨rfl,h.kind,A4.load1 aB rfl rfl,?_⟩⟩
   refine ah.of (λh1=>?_) (λh1=>⟨?_,hB⟩)
   · refine⟨_,bE.load0 A4 (Hst.len o),?_⟩
     refine av (nB o wx (he.step hB)) ?_
     rintro _ w9 ⟨rfl,hb9⟩
     refine⟨_,rfl,?_,ab hB hb9 hB.size⟩
     have:h.kind≠1:=by simpa using h1
     simp[this]
   · have:h.kind=1:=by simpa using h1
     simp[this]
theorem mx (s:Txt)(hs:s.length <=1000000)(w:World)(he:Env w):Cf gY #[vS s] w (Ret λv w'=>v=.bool (bC s)/\bW w w'):=by
 apply r9
 have hl:((s.length+[46,120].length:Nat):Int) <=i64.max:=by show((s.length+2:Nat):Int) <=9223372036854775807;omega
 refine⟨hl,?_⟩
 rintro _ rfl
 rw[<- FH]
 unfold CW
 refine av (jJ (s++[46,120]) (by simp;omega) w he) ?_
 rintro _ w7 ⟨rfl,hb7⟩
 cases hv:fg (s++[46,120])with
 | none=>
   refine⟨_,_,rfl,λk3 w3 hk3 hw3=>?_⟩
   have hb3:=(hw3▸af w7 _:bW w7 w3)
   have A3:ai w3 k3 am iY.cells:=ai.new hk3 hw3
   obtain⟨wx,hs4,A4,g4⟩:=bE.store0 (P:=prog) (cs:=iY.cells) rfl (Hst.one _) A3 rfl
   refine⟨wx,hs4,ah.no rfl ⟨rfl,ab hb7 (Below.put hb3 g4 (by omega)) hb7.size⟩⟩
 | some h=>
   have o:=fS hv
   refine⟨_,_,rfl,λk3 w3 hk3 hw3=>?_⟩
   have hb3:=(hw3▸af w7 _:bW w7 w3)
   have A3:ai w3 k3 am iY.cells:=ai.new hk3 hw3
   obtain⟨wx,hs4,A4,g4⟩:=bE.store0 (P:=prog) (cs:=h.cells) (Hst.len o) (Hst.one _) A3 rfl
   have hB:=ab hb7 (Below.put hb3 g4 (by omega)) hb7.size
   refine⟨wx,hs4,ah.yes rfl ⟨rfl,h.name,A4.load1 bA rfl rfl,hl,?_⟩⟩
   rintro _ rfl
   refine ah.of (λh1=>?_) (λh1=>⟨?_,hB⟩)
   · refine⟨_,bE.load0 A4 (Hst.len o),?_⟩
     have hn:h.name=s++[46,120]:=by simpa using h1
     refine av (oT o (by rw[hn];simp;omega) wx (he.step hB)) ?_
     rintro _ w9 ⟨a,n,c,rfl,ho,_,hb9⟩
     refine⟨_,_,_,rfl,?_,ab hB hb9 hB.size⟩
     rw[ho.len]
     simp only[h1,Bool.true_and]
     congr 1
     rw[Bool.eq_iff_iff,beq_iff_eq,beq_iff_eq]
     omega
   · simp[h1]
theorem qE (s:Txt)(hs:s.length <=1000000)(w:World)(he:Env w):Cf bJ #[vS s] w (Ret λv w'=>v=.bool (!bC s)/\bW w w'):=by
 apply pR
 refine av (mx s hs w he) ?_
 rintro _ w4 ⟨rfl,hb⟩
 exact⟨_,rfl,rfl,hb⟩
theorem yr {w:World}(he:Env w){A:Bl}{a:Option Addr}{n c:Nat}{xs:List Txt}(hs:Sl tS w A a n c xs)(hx:∀x∈xs,x.length <=1000000):
   Cf be #[.slice a n c,.func (.func bJ) #[] #[]] w (Ret λv w'=>v=.bool (!xs.all bC)/\bW w w'):=by
 have hn:=hs.len
 subst hn
 have hle:=hs.le
 apply cS
 refine av (K:=λv w'=>∃i:Int,v=vI i/\(decide (i >=0))=(!xs.all bC)/\bW w w') ?_ ?_
 · apply dn
   refine⟨λm i w'=>∃j:Nat,j <=xs.length/\i=(j:Int)/\m=xs.length-j/\(xs.take j).all bC=true/\bW w w',⟨_,0,by omega,rfl,rfl,rfl,Below.refl _ _⟩,?_⟩
   intro m i
   refine aK.of ?_ _
   rintro w' ⟨j,hj,rfl,rfl,hno,hB⟩
   refine ah.of (λh=>?_) (λh=>?_) <;> simp only[dTx,dFx]at h
   · have hlt:j<xs.length:=by omega
     have hs':=hs.below hB
     obtain⟨v,hv,hrep⟩:=hs'.load1 (P:=prog) (i:=(j:Int)) bA rfl rfl (by simpa using hlt)
     obtain⟨rfl,_⟩:=vL hrep
     simp only[Int.toNat_natCast]at hv
     refine⟨⟨⟨by omega,h⟩,hs'.isSome hlt⟩,_,hv,?_⟩
     refine av (qE xs[j] (hx _ (List.getElem_mem hlt)) w' (he.step hB)) ?_
     rintro _ w3 ⟨rfl,hb3⟩
     have hB3:=ab hB hb3 hB.size
     refine⟨_,rfl,ah.of (λh3=>?_) (λh3=>?_)⟩
     · refine⟨_,rfl,?_,hB3⟩
       have:xs.all bC=false:=by
         rw[Bool.eq_false_iff]
         intro hc
         rw[List.all_eq_true.1 hc _ (List.getElem_mem hlt)]at h3;cases h3
       rw[this,decide_eq_true (by omega)];rfl
     · refine⟨xs.length-(j+1),by omega,j+1,by omega,by rw[wrap_i64 (by omega) (by omega)];omega,rfl,?_,hB3⟩
       rw[List.take_succ_eq_append_getElem hlt,List.all_append,hno]
       simpa using h3
   · have:j=xs.length:=by omega
     subst this
     rw[List.take_length]at hno
     exact⟨_,rfl,by rw[hno];decide,hB⟩
 · rintro _ w3 ⟨i,rfl,hi,hw3⟩
   exact⟨_,rfl,by rw[hi],hw3⟩
end Go.Pk
