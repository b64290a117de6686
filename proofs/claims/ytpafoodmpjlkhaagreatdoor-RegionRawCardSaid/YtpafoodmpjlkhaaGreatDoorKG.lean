/- What the laws lean on: Bwd, ColX, V35, DfaH, HwP, HosA, HwQ, HwT, HsL, HosD, V37, HosE, RegB, RegC, HosB; what is used. Its conditions: none. -/
import Derived.Test.YtpafoodmpjlkhaaGreatDoorKF
set_option linter.unusedVariables false
set_option linter.unusedSimpArgs false
set_option linter.unusedSectionVars false
set_option maxRecDepth 100000
open Go.IntKind (i64)
open Go.Proofs.Tryz
open List (length)
open Option (isSome)
namespace Go.Pk
open Go.RowKit (Below)
open Go.Proofs
def AB {α:Type}(f:Nat->α)(k:Nat):List α:=(List.range k).map f
theorem qM {α:Type}(f:Nat->α)(k:Nat):AB f (k+1)=AB f k++[f k]:=by simp[AB,List.range_succ]
theorem vE {α:Type}(f:Nat->α)(k:Nat):(AB f k).length=k:=by simp[AB]
def bkF {α:Type}(d:α)(len:Nat)(zs:List α)(k:Nat):Int×α:=((len:Int)-1-(k:Int),zs[len-1-k]?.getD d)
theorem EC {α:Type}(d:α)(zs:List α):(AB (bkF d zs.length zs) zs.length).map Prod.snd=zs.reverse:=by
 apply List.ext_getElem
 · simp[AB]
 · intro i h1 h2
   have hi:i<zs.length:=by simpa[AB]using h1
   have:zs.length-1-i<zs.length:=by omega
   simp[AB,bkF,List.getElem_reverse,this]
theorem ED {α:Type}(d:α)(zs:List α){k:Nat}(hk:k <=zs.length){p:Int×α}(hp:p∈AB (bkF d zs.length zs) k):p.2∈zs:=by
 unfold AB at hp
 obtain⟨i,hi,rfl⟩:=List.mem_map.1 hp
 rw[List.mem_range]at hi
 have:zs.length-1-i<zs.length:=by omega
 show zs[zs.length-1-i]?.getD d∈zs
 rw[List.getElem?_eq_getElem this]
 exact List.getElem_mem this
section
open Go.RowKit Go.Shelf Go.Pk
attribute [local go_sem] Oper.semAt_some
set_option maxRecDepth 100000 in
set_option maxHeartbeats 2000000 in
theorem II (F:Fence)(n:Nat)(h7:F.fn 130)(hro:F.round=none)(hn:1 <=n)(l Bs b off len cap:Nat)(zs:List (List UInt8))(hreach:len <=140737488351232)(A:Bl)(hAb:A b)(hAB:A Bs)(J Jx:List (Int×(List UInt8))->World->Prop)
   (hY:∀pre x W,J pre W->pre.length<len->YieldAt F (n-1) prog l #[vI x.1,vS x.2] W λe W'=>
     (e=.returned (.bool true)/\J (pre++[x]) W'/\oF A W W')\/(e=.returned (.bool false)/\Jx (pre++[x]) W'))
   (W:World) (hBs:W.cell? ⟨Bs,0,none⟩=some (.slice (some ⟨b,off,none⟩) len cap)) (hBn:Bs<W.heap.size) (hbn:b<W.heap.size) (hc:∀j,j<len->W.cell? ⟨b,off+j,none⟩=some (vS (zs[j]?.getD []))) (h0:J [] W):
   CallsIn F n prog 130 #[.func (.yield l) #[] #[],.pointer (some ⟨Bs,0,none⟩)] W λe W'=>(∃v,e=.returned v)/\
     ((∃ys,ys=AB (bkF [] len zs) len/\J ys W')\/(∃pre,(∃k,k <=len/\pre=AB (bkF [] len zs) k)/\Jx pre W')):=by
 refine callsIn_of_wp func130 rfl h7 ?_ hro
 simp only[Tryz.ntmps130,List.size_toArray,List.length_cons,List.length_nil,Nat.reduceAdd,Nat.reduceSub,Array.replicate_succ,Array.replicate_zero,List.push_toArray,List.append_toArray,List.nil_append,List.cons_append]
 gi_wp2
 gi_loopw [3] (λi wr=>∃k:Nat,k <=len/\i=vI ((len:Int)-1-(k:Int))/\J (AB (bkF [] len zs) k) wr/\oF A W wr)
   (λi _=>(RowKit.intOf i+1).toNat)
 case atStart=>exact⟨0,Nat.zero_le _,by simp,h0,oF.refl _ _⟩
 case round=>
   obtain⟨k,hk,rfl,hJs,hnx⟩:=hrel
   by_cases hlt:k<len
   · have hcx:wr.cell? ⟨b,off+(len-1-k),none⟩=some (vS (zs[len-1-k]?.getD [])):=(iW (hnx.block b hbn hAb) _).trans (hc _ (by omega))
     have hBs':wr.cell? ⟨Bs,0,none⟩=some (.slice (some ⟨b,off,none⟩) len cap):=(iW (hnx.block Bs hBn hAB) _).trans hBs
     have hi:(len:Int)-1-(k:Int)=((len-1-k:Nat):Int):=by omega
     obtain⟨fn,tmps,assign,body,hy,hR⟩:=hY _ (bkF [] len zs k) wr hJs (by rw[vE];exact hlt)
     dsimp only[bkF]at hy
     rw[hi]at hy ⊢
     gi_wp2
     refine hR.mono ?_
     rintro e W3 (⟨rfl,hJ3,hk3⟩|⟨rfl,hJx3⟩)
     · gi_wp2
       go_roundw
       case rel=>exact⟨k+1,by omega,by simp <;> omega,by rw[qM];exact hJ3,hnx.trans hk3⟩
       case measure=>simp[RowKit.intOf] <;> omega
     · gi_wp2
       refine bodyPost_ret (results_none rfl _ _ _) rfl ?_
       exact⟨⟨_,rfl⟩,.inr ⟨_,⟨k+1,by omega,(qM _ _).symm⟩,hJx3⟩⟩
   · obtain rfl:k=len:=by omega
     gi_wp2
     go_end0
     exact⟨⟨_,rfl⟩,.inl ⟨_,rfl,hJs⟩⟩
set_option maxRecDepth 100000 in
set_option maxHeartbeats 1000000 in
theorem AX (F:Fence)(n:Nat)(h7:F.fn 130)(hro:F.round=none)(l Bs:Nat)(J:List (Int×(List UInt8))->World->Prop)(a:Option Addr)(c:Nat)(W:World)(hBs:W.cell? ⟨Bs,0,none⟩=some (.slice a 0 c))(h0:J [] W):
   CallsIn F n prog 130 #[.func (.yield l) #[] #[],.pointer (some ⟨Bs,0,none⟩)] W λe W'=>(∃v,e=.returned v)/\J [] W':=by
 refine callsIn_of_wp func130 rfl h7 ?_ hro
 simp only[Tryz.ntmps130,List.size_toArray,List.length_cons,List.length_nil,Nat.reduceAdd,Nat.reduceSub,Array.replicate_succ,Array.replicate_zero,List.push_toArray,List.append_toArray,List.nil_append,List.cons_append]
 gi_wp2
 gi_loopw [3] (λi wr=>i=vI (-1)/\J [] wr) (λ_ _=>0)
 case atStart=>exact⟨rfl,h0⟩
 case round=>
   obtain⟨rfl,hJs⟩:=hrel
   gi_wp2
   go_end0
   exact⟨⟨_,rfl⟩,hJs⟩
theorem Dd (F:Fence)(n:Nat)(h7:F.fn 130)(hro:F.round=none)(hn:1 <=n)(Bs:Nat){a:Option Addr}{len cap:Nat}(zs:List (List UInt8))(hreach:zs.length <=140737488351232){w:World}{t:TypeId}(hBs:ai w Bs t [.slice a len cap])(hs:Sl tS w jD a len cap zs):
   SeqStopsK F n prog 130 #[.pointer (some ⟨Bs,0,none⟩)] (λx:Int×List UInt8=> #[vI x.1,vS x.2]) (oF (λb=>b=Bs\/∃o,a=some ⟨b,o,none⟩)) (λys=>ys.map Prod.snd=zs.reverse) (λpre=>∀p∈pre,p.2∈zs) zs.length w:=λl J Jx W hW _ _ hY h0=>by
 have hBW:=hBs.below hW
 have hlt:=hBW.lt
 have hsW:=hs.below hW
 obtain⟨rfl,h2,h3,h4⟩:=hsW
 rcases h4 with rfl|⟨b,off,rfl,hb,_,cl,hl,hc⟩
 · exact(AX F n h7 hro l Bs J a cap W (hBW.cell 0) h0).mono λe W' ⟨he,hj⟩=>⟨he,.inl ⟨_,rfl,hj⟩⟩
 · refine(II F n h7 hro hn l Bs b off zs.length cap zs hreach _ (.inr ⟨off,rfl⟩) (.inl rfl) J Jx hY W (hBW.cell 0) hlt hb (λj hj=>?_) h0).mono ?_
   · have he:=dH hl
     rw[hc j (by rw[he];simpa using hj),he]
     simp[hj]
   · rintro e W' ⟨he,⟨ys,rfl,hj⟩|⟨pre,⟨k,hk,rfl⟩,hj⟩⟩
     · exact⟨he,.inl ⟨_,EC _ _,hj⟩⟩
     · exact⟨he,.inr ⟨_,λp hp=>ED _ _ hk hp,hj⟩⟩
set_option maxRecDepth 100000 in
set_option maxHeartbeats 2000000 in
theorem IG (F:Fence)(n:Nat)(h7:F.fn 114)(hro:F.round=none)(hn:1 <=n)(l Bs b off len cap:Nat)(zs:List Int)(hreach:len <=140737488351232)(A:Bl)(hAb:A b)(hAB:A Bs)(J Jx:List (Int×Int)->World->Prop)
   (hY:∀pre x W,J pre W->pre.length<len->YieldAt F (n-1) prog l #[vI x.1,vI x.2] W λe W'=>
     (e=.returned (.bool true)/\J (pre++[x]) W'/\oF A W W')\/(e=.returned (.bool false)/\Jx (pre++[x]) W'))
   (W:World) (hBs:W.cell? ⟨Bs,0,none⟩=some (.slice (some ⟨b,off,none⟩) len cap)) (hBn:Bs<W.heap.size) (hbn:b<W.heap.size) (hc:∀j,j<len->W.cell? ⟨b,off+j,none⟩=some (vI (zs[j]?.getD 0))) (h0:J [] W):
   CallsIn F n prog 114 #[.func (.yield l) #[] #[],.pointer (some ⟨Bs,0,none⟩)] W λe W'=>(∃v,e=.returned v)/\
     ((∃ys,ys=AB (bkF 0 len zs) len/\J ys W')\/(∃pre,(∃k,k <=len/\pre=AB (bkF 0 len zs) k)/\Jx pre W')):=by
 refine callsIn_of_wp func114 rfl h7 ?_ hro
 simp only[Tryz.ntmps114,List.size_toArray,List.length_cons,List.length_nil,Nat.reduceAdd,Nat.reduceSub,Array.replicate_succ,Array.replicate_zero,List.push_toArray,List.append_toArray,List.nil_append,List.cons_append]
 gi_wp2
 gi_loopw [3] (λi wr=>∃k:Nat,k <=len/\i=vI ((len:Int)-1-(k:Int))/\J (AB (bkF 0 len zs) k) wr/\oF A W wr)
   (λi _=>(RowKit.intOf i+1).toNat)
 case atStart=>exact⟨0,Nat.zero_le _,by simp,h0,oF.refl _ _⟩
 case round=>
   obtain⟨k,hk,rfl,hJs,hnx⟩:=hrel
   by_cases hlt:k<len
   · have hcx:wr.cell? ⟨b,off+(len-1-k),none⟩=some (vI (zs[len-1-k]?.getD 0)):=(iW (hnx.block b hbn hAb) _).trans (hc _ (by omega))
     have hBs':wr.cell? ⟨Bs,0,none⟩=some (.slice (some ⟨b,off,none⟩) len cap):=(iW (hnx.block Bs hBn hAB) _).trans hBs
     have hi:(len:Int)-1-(k:Int)=((len-1-k:Nat):Int):=by omega
     obtain⟨fn,tmps,assign,body,hy,hR⟩:=hY _ (bkF 0 len zs k) wr hJs (by rw[vE];exact hlt)
     dsimp only[bkF]at hy
     rw[hi]at hy ⊢
     gi_wp2
     refine hR.mono ?_
     rintro e W3 (⟨rfl,hJ3,hk3⟩|⟨rfl,hJx3⟩)
     · gi_wp2
       go_roundw
       case rel=>exact⟨k+1,by omega,by simp <;> omega,by rw[qM];exact hJ3,hnx.trans hk3⟩
       case measure=>simp[RowKit.intOf] <;> omega
     · gi_wp2
       refine bodyPost_ret (results_none rfl _ _ _) rfl ?_
       exact⟨⟨_,rfl⟩,.inr ⟨_,⟨k+1,by omega,(qM _ _).symm⟩,hJx3⟩⟩
   · obtain rfl:k=len:=by omega
     gi_wp2
     go_end0
     exact⟨⟨_,rfl⟩,.inl ⟨_,rfl,hJs⟩⟩
set_option maxRecDepth 100000 in
set_option maxHeartbeats 1000000 in
theorem AW (F:Fence)(n:Nat)(h7:F.fn 114)(hro:F.round=none)(l Bs:Nat)(J:List (Int×Int)->World->Prop)(a:Option Addr)(c:Nat)(W:World)(hBs:W.cell? ⟨Bs,0,none⟩=some (.slice a 0 c))(h0:J [] W):
   CallsIn F n prog 114 #[.func (.yield l) #[] #[],.pointer (some ⟨Bs,0,none⟩)] W λe W'=>(∃v,e=.returned v)/\J [] W':=by
 refine callsIn_of_wp func114 rfl h7 ?_ hro
 simp only[Tryz.ntmps114,List.size_toArray,List.length_cons,List.length_nil,Nat.reduceAdd,Nat.reduceSub,Array.replicate_succ,Array.replicate_zero,List.push_toArray,List.append_toArray,List.nil_append,List.cons_append]
 gi_wp2
 gi_loopw [3] (λi wr=>i=vI (-1)/\J [] wr) (λ_ _=>0)
 case atStart=>exact⟨rfl,h0⟩
 case round=>
   obtain⟨rfl,hJs⟩:=hrel
   gi_wp2
   go_end0
   exact⟨⟨_,rfl⟩,hJs⟩
theorem Dc (F:Fence)(n:Nat)(h7:F.fn 114)(hro:F.round=none)(hn:1 <=n)(Bs:Nat){a:Option Addr}{len cap:Nat}(zs:List Int)(hreach:zs.length <=140737488351232){w:World}{t:TypeId}(hBs:ai w Bs t [.slice a len cap])(hs:Sl bY w jD a len cap zs):
   SeqStopsK F n prog 114 #[.pointer (some ⟨Bs,0,none⟩)] (λx:Int×Int=> #[vI x.1,vI x.2]) (oF (λb=>b=Bs\/∃o,a=some ⟨b,o,none⟩)) (λys=>ys.map Prod.snd=zs.reverse) (λpre=>∀p∈pre,p.2∈zs) zs.length w:=λl J Jx W hW _ _ hY h0=>by
 have hBW:=hBs.below hW
 have hlt:=hBW.lt
 have hsW:=hs.below hW
 obtain⟨rfl,h2,h3,h4⟩:=hsW
 rcases h4 with rfl|⟨b,off,rfl,hb,_,cl,hl,hc⟩
 · exact(AW F n h7 hro l Bs J a cap W (hBW.cell 0) h0).mono λe W' ⟨he,hj⟩=>⟨he,.inl ⟨_,rfl,hj⟩⟩
 · refine(IG F n h7 hro hn l Bs b off zs.length cap zs hreach _ (.inr ⟨off,rfl⟩) (.inl rfl) J Jx hY W (hBW.cell 0) hlt hb (λj hj=>?_) h0).mono ?_
   · have he:=dH (e:=λn=>vI n) (h1:=λ_=>rfl) (p:=λ_=>True) hl
     rw[hc j (by rw[he];simpa using hj),he]
     simp[hj]
   · rintro e W' ⟨he,⟨ys,rfl,hj⟩|⟨pre,⟨k,hk,rfl⟩,hj⟩⟩
     · exact⟨he,.inl ⟨_,EC _ _,hj⟩⟩
     · exact⟨he,.inr ⟨_,λp hp=>ED _ _ hk hp,hj⟩⟩
end
def Ea {α:Type}(T:Ty α)(ta tv:TypeId)(kv B:Nat)(w0:World)(xs:List α)(W:World):Prop:=
 ∃(a:Option Addr) (n c:Nat),ai W kv tv [.slice a n c]/\Ow T ta W NoB a n c xs/\(∀g,bi a=some g->B <=g)/\Below kv w0 W
theorem Cp {α β:Type}{T:Ty α}{ta tv:TypeId}{kv B:Nat}{w0:World}{f:β->List α}(hkv:kv<B):OwnFrom B (λpre W=>Ea T ta tv kv B w0 (f pre) W):=by
 rintro pre W W' row ⟨a,n,c,hB,ho,hf,hb⟩ hg hr
 have hr':xK W row:=λr e=>(hr r e).2
 refine⟨a,n,c,hB.turned hg hr',ho.turned hg hr',hf,si hb (Nat.le_of_lt hB.lt) hg λr e=>?_⟩
 have:=(hr r e).1
 omega
theorem Ea.drew {α:Type}{T:Ty α}{ta tv:TypeId}{kv B:Nat}{w0 W:World}{xs:List α}(h:Ea T ta tv kv B w0 xs W):Ea T ta tv kv B w0 xs W.drew:=by
 obtain⟨a,n,c,h1,h2,h3,h4⟩:=h
 exact⟨a,n,c,h1.below (aQ W),h2.below (aQ W),h3,h4.trans ((aQ W).mono (Nat.le_of_lt h1.lt))⟩
theorem zw {α:Type}{T:Ty α}(hfl:AM T){P:Program}{ta tv:TypeId}{bytes bytesv:Nat}{z zv:Value}(hu:P.underlying tv=some (.slice ta))(tf:TF P ta T.k bytes z)(hb0:0<bytes)(tfv:TF P tv 1 bytesv zv)
   {kv B:Nat} {w0 W W1:World} {xs:List α} {a:Option Addr} {n c:Nat} (hB:ai W kv tv [.slice a n c]) (ho:Ow T ta W NoB a n c xs) (hf:∀g,bi a=some g->B <=g) (hb:Below kv w0 W) (hkv:kv<B) (hBW:B <=W.heap.size)
   {k1:Nat} {vs:List Value} {x:α} (hk:k1=W.heap.size) (hw:W1=W.alloc (.cells vs.toArray ta)) (hx:T.rep W NoB vs x) (hbound:(xs.length+1)*bytes <=140737488355328):
   ∃(W2:World) (a':Option Addr) (n' c':Nat),(Builtin.append_ #[tv,tv] tv #[.slice a n c,.slice (some ⟨k1,0,none⟩) 1 1]).run P W1=.ok (.slice a' n' c') W2/\
     ∃W3:World,(Instr.storeAt tv (.pointer (some ⟨kv,0,none⟩)) (.slice a' n' c')).run P W2=.ok () W3/\Ea T ta tv kv B w0 (xs++[x]) W3/\KeepsFrom B W W3/\∀b,b<B->b≠kv->W3.heap[b]? =W.heap[b]? :=by
 have hB1:bW W W1:=hw▸af W _
 have ho3:=ho.below hB1
 have hsrc:Src T W1 NoB (some ⟨k1,0,none⟩) 1 [x]:=Src.new1F hfl hk hw hx
 obtain⟨W2,a4,n4,c4,hr,ho4,hgr,hfr⟩:=cr (ty:=tv) hu tf hb0 ho3 (λ_ _ h=>h) (cm:=1) hsrc (by simpa using hbound)
 have hkv2:some kv≠bi a:=λe=>by have:=hf kv e.symm;omega
 have hA2:ai W2 kv tv [.slice a n c]:=(hB.below hB1).grown hgr hkv2
 obtain⟨W3,hst,hA3,hg3⟩:=hA2.store tfv (i:=0) (v:=.slice a4 n4 c4) rfl (by simp) (by intro c hcc;simp[Value.cells]at hcc;subst hcc;rfl)
 have hf4:∀g,bi a4=some g->B <=g:=λg hg=>by
   rcases hfr g hg with h|h
   · exact hf g h
   · exact Nat.le_trans hBW (Nat.le_trans hB1.size h)
 have hs3:W.heap.size <=W3.heap.size:=Nat.le_trans hB1.size (Nat.le_trans hgr.size hg3.size)
 have same:∀b,b<W.heap.size->b≠kv->some b≠bi a->W3.heap[b]? =W.heap[b]? :=λb hb1 hb2 hb3=>by
   have l1:=Nat.lt_of_lt_of_le hb1 hB1.size
   rw[hg3.block b (Nat.lt_of_lt_of_le l1 hgr.size) (λe=>hb2 (by cases e;rfl)),hgr.block b l1 hb3,hB1.block b hb1]
 refine⟨W2,a4,n4,c4,hr,W3,hst,⟨a4,n4,c4,hA3,ho4.put (λg hg e=>by have:=hf4 g hg;omega) hg3,hf4,?_⟩,⟨hs3,λk o hk1 hk2 hk3=>?_⟩,λb hb1 hb2=>?_⟩
 · refine⟨?_,?_,?_,Nat.le_trans hb.size hs3,λb hb1=>?_⟩
   · rw[hg3.os,hgr.os,hB1.os,hb.os]
   · rw[hg3.tape,hgr.tape,hB1.tape,hb.tape]
   · rw[hg3.output,hgr.output,hB1.output,hb.output]
   · rw[same b (Nat.lt_trans hb1 hB.lt) (by omega) (λe=>by have:=hf b e.symm;omega),hb.block b hb1]
 · refine(same k (Array.getElem?_eq_some_iff.1 hk2).1 (by omega) (λe=>?_)).trans hk2
   obtain⟨o2,h2,c2⟩:=ho.cells e.symm
   rw[hk2]at h2;cases h2;rw[hk3]at c2;cases c2
 · exact same b (by omega) hb2 λe=>by have:=hf b e.symm;omega
theorem ux {A:Bl}{W:World}{l:Nat}{o':Obj}(h:∀b,A b->b≠l):oF A W (W.putObj l o'):=⟨by simp[World.putObj],λb hb ha=>(grownBy_putObj' W l o').block b hb λe=>h b ha (by cases e;rfl)⟩
theorem gX (a:Option Addr)(b c:Nat){w K}(h:nA w (.cells #[.slice a b c] az) λd e=>K (.func (.func gJ) #[] #[.pointer (vA d 0)]) e):Cf iB #[.slice a b c] w (Ret K):=ru func70 [] h
theorem j6 (a:Option Addr)(b c:Nat){w K}(h:nA w (.cells #[.slice a b c] aj) λd e=>K (.func (.func jx) #[] #[.pointer (vA d 0)]) e):Cf kO #[.slice a b c] w (Ret K):=ru func62 [] h
def Gx (ad lb dg:Nat->Bool)(s x:Nat):Nat:=
 if s=1 then(if ad x=true then 3 else if lb x=true/\dg x=false then 2 else 0)else if s=2 then(if ad x=false/\lb x=true then 2 else 0)else 0
def hNx (ad lb dg:Nat->Bool)(k j:Nat):List Int:=(List.range (4*k)).map λi=>if i%k<j then((Gx ad lb dg (i/k) (i%k):Nat):Int)else 0
theorem rv (ad lb dg:Nat->Bool)(k j:Nat):(hNx ad lb dg k j).length=4*k:=by simp[hNx]
theorem rt {ad lb dg:Nat->Bool}{k j i:Nat}(hi:i<4*k):(hNx ad lb dg k j)[i]? =some (if i%k<j then((Gx ad lb dg (i/k) (i%k):Nat):Int)else 0):=by
 unfold hNx;rw[List.getElem?_map,List.getElem?_range hi];rfl
theorem He (ad lb dg:Nat->Bool)(k:Nat):hNx ad lb dg k 0=List.replicate (4*k) 0:=by
 refine List.ext_getElem? λi=>?_
 rcases Nat.lt_or_ge i (4*k)with h|h
 · rw[rt h,if_neg (Nat.not_lt_zero _),List.getElem?_replicate,if_pos h]
 · rw[List.getElem?_eq_none (by rw[rv];exact h),List.getElem?_eq_none (by rw[List.length_replicate];exact h)]
theorem Cu {s k x:Nat}(hx:x<k):(s*k+x)/k=s/\(s*k+x)%k=x:=by
 have hk:0<k:=by omega
 refine⟨by rw[Nat.mul_comm,Nat.mul_add_div hk,Nat.div_eq_of_lt hx,Nat.add_zero],?_⟩
 rw[Nat.mul_comm,Nat.mul_add_mod];exact Nat.mod_eq_of_lt hx
theorem Hc {ad lb dg:Nat->Bool}{k j:Nat}(hj:j<k){l:List Int}(hl:l.length=4*k)
   (h:∀i,i<4*k->l[i]? =some (if i%k=j then((Gx ad lb dg (i/k) j:Nat):Int)else(hNx ad lb dg k j).getD i 0)):l=hNx ad lb dg k (j+1):=by
 refine List.ext_getElem? λi=>?_
 rcases Nat.lt_or_ge i (4*k)with hi|hi
 · rw[h i hi,rt hi]
   by_cases e:i%k=j
   · rw[if_pos e,if_pos (by omega),e]
   · rw[if_neg e,List.getD_eq_getElem?_getD,rt hi]
     by_cases e2:i%k<j
     · rw[if_pos e2,if_pos (by omega)];rfl
     · rw[if_neg e2,if_neg (by omega)];rfl
 · rw[List.getElem?_eq_none (by omega),List.getElem?_eq_none (by rw[rv];exact hi)]
theorem yl {ad lb dg:Nat->Bool}{k j:Nat}(hj:j<k){l:List Int}(h1:l=(if ad j=true then(hNx ad lb dg k j).set (1*k+j) 3 else if lb j=true then(if dg j=false then((hNx ad lb dg k j).set (2*k+j) 2).set (1*k+j) 2 else(hNx ad lb dg k j).set (2*k+j) 2)else hNx ad lb dg k j)):
   l=hNx ad lb dg k (j+1):=by
 have b1:1*k+j<4*k:=by omega
 have b2:2*k+j<4*k:=by omega
 refine Hc hj (by rw[h1];repeat' (first|split|simp[rv])) λi hi=>?_
 have hd:=Nat.div_add_mod i k
 have hdiv:i/k<4:=Nat.div_lt_of_lt_mul (by rw[Nat.mul_comm];omega)
 have old:(hNx ad lb dg k j)[i]? =some ((hNx ad lb dg k j).getD i 0):=by rw[List.getD_eq_getElem?_getD,rt hi];rfl
 by_cases e:i%k=j
 ·
   have hz:(hNx ad lb dg k j).getD i 0=0:=by rw[List.getD_eq_getElem?_getD,rt hi,if_neg (by omega)];rfl
   rw[if_pos e]
   rw[hz]at old
   have hs:i/k=0\/i/k=1\/i/k=2\/i/k=3:=by
     clear hd
     revert hdiv
     generalize i/k=q
     intro hq
     omega
   have ei:i=i/k*k+j:=by rw[Nat.mul_comm];omega
   have l1:(hNx ad lb dg k j).length=4*k:=rv ad lb dg k j
   have og:(hNx ad lb dg k j)[i]'(by rw[l1];exact hi)=0:=by
     rw[List.getElem?_eq_getElem (by rw[l1];exact hi)]at old
     exact Option.some.inj old
   rcases hs with hs|hs|hs|hs <;> rw[hs]at ei ⊢ <;> rw[h1] <;> unfold Gx
   · have n1: ¬ k+j=i:=by omega
     have n2: ¬ 2*k+j=i:=by omega
     cases ha:ad j <;> cases hb:lb j <;> cases hg:dg j <;> simp[List.getElem?_set,n1,n2,old]
   · have n2: ¬ 2*k+j=i:=by omega
     have n1:k+j=i:=by omega
     cases ha:ad j <;> cases hb:lb j <;> cases hg:dg j <;> simp[List.getElem?_set,n1,n2,old,og,l1,hi]
   · have n1: ¬ k+j=i:=by omega
     have n2:2*k+j=i:=by omega
     cases ha:ad j <;> cases hb:lb j <;> cases hg:dg j <;> simp[List.getElem?_set,n1,n2,old,og,l1,hi]
   · have n1: ¬ k+j=i:=by omega
     have n2: ¬ 2*k+j=i:=by omega
     cases ha:ad j <;> cases hb:lb j <;> cases hg:dg j <;> simp[List.getElem?_set,n1,n2,old]
 · rw[if_neg e,h1]
   have n1: ¬ k+j=i:=λe2=>e (by rw[<- e2,<- Nat.one_mul k,Nat.one_mul k];exact(by have:=(Cu (s:=1) hj).2;rwa [Nat.one_mul]at this))
   have n2: ¬ 2*k+j=i:=λe2=>e (by rw[<- e2];exact(Cu hj).2)
   generalize (hNx ad lb dg k j).getD i 0=v at old ⊢
   cases ha:ad j <;> cases hb:lb j <;> cases hg:dg j <;> simp[List.getElem?_set,n1,n2,old]
def hD (ad lb dg:Nat->Bool)(k:Nat):DA:=⟨(k:Int),1,hNx ad lb dg k k,[false,false,true,true]⟩
def hsW (ad lb dg:Nat->Bool):List Nat->Prop
 | []=>False
 | x::r=>ad x=true/\r=[]\/ad x=false/\lb x=true/\dg x=false/\∀y∈r,ad y=false/\lb y=true
theorem I2 (ad lb dg:Nat->Bool)(s x:Nat):Gx ad lb dg s x<4:=by unfold Gx;repeat' (first|split|omega)
theorem KR {ad lb dg:Nat->Bool}{k:Nat}(h1:1 <=k)(h2:k <=512):(hD ad lb dg k).Ok:=by
 refine⟨?_,?_,?_,?_,?_,?_,?_,λv hv=>?_⟩
 · show(1:Int) <=(k:Int);omega
 · show(k:Int) <=512;omega
 · show 1 <=4;omega
 · show 4 <=65536;omega
 · show((hNx ad lb dg k k).length:Int)=((4:Nat):Int)*(k:Int);rw[rv,Int.natCast_mul]
 · show(0:Int) <=1;omega
 · show(1:Int)<((4:Nat):Int);omega
 · obtain⟨i,_,rfl⟩:=List.mem_map.1 (show v∈hNx ad lb dg k k from hv)
   show 0 <=_/\_<((4:Nat):Int)
   have:=I2 ad lb dg (i/k) (i%k)
   split <;> omega
theorem Hb {ad lb dg:Nat->Bool}{k s x:Nat}(hs:s<4)(hx:x<k):(hD ad lb dg k).to s x=Gx ad lb dg s x:=by
 unfold DA.to
 have hK:(hD ad lb dg k).K=k:=by simp[DA.K,hD]
 rw[hK]
 show((hNx ad lb dg k k).getD (s*k+x) 0).toNat=_
 have hi:s*k+x<4*k:=qt hs hx
 rw[List.getD_eq_getElem?_getD,rt hi,(Cu hx).1,(Cu hx).2,if_pos hx]
 rfl
theorem yk {ad lb dg:Nat->Bool}{k:Nat} :∀{v:List Nat},(∀x∈v,x<k)->(hD ad lb dg k).run 0 v=0
 | [],_=>rfl
 | x::v,hv=>by
   show(hD ad lb dg k).run ((hD ad lb dg k).to 0 x) v=0
   rw[Hb (by omega) (hv x List.mem_cons_self)]
   exact yk λy hy=>hv y (List.mem_cons_of_mem _ hy)
theorem Fc {ad lb dg:Nat->Bool}{k:Nat} :∀{v:List Nat},(∀x∈v,x<k)->((hD ad lb dg k).acc ((hD ad lb dg k).run 2 v)=true ↔ ∀y∈v,ad y=false/\lb y=true)
 | [],_=>by simp[DA.run,DA.acc,hD]
 | x::v,hv=>by
   have hv':∀y∈v,y<k:=λy hy=>hv y (List.mem_cons_of_mem _ hy)
   show(hD ad lb dg k).acc ((hD ad lb dg k).run ((hD ad lb dg k).to 2 x) v)=true ↔ _
   rw[Hb (by omega) (hv x List.mem_cons_self)]
   unfold Gx
   rw[if_neg (by omega),if_pos rfl]
   by_cases h:ad x=false/\lb x=true
   · rw[if_pos h,Fc hv']
     simp[h]
   · rw[if_neg h,yk hv']
     simp only[List.mem_cons,forall_eq_or_imp,h,false_and,iff_false]
     simp[DA.acc,hD]
theorem I1 {ad lb dg:Nat->Bool}{k:Nat}(v:List Nat):(hD ad lb dg k).Lang 1 v ↔ (∀x∈v,x<k)/\hsW ad lb dg v:=by
 have hK:(hD ad lb dg k).K=k:=by simp[DA.K,hD]
 unfold DA.Lang
 rw[hK]
 refine and_congr_right λhv=>?_
 cases v with
 | nil=>simp[hsW,DA.run,DA.acc,hD]
 | cons x v=>
   have hv':∀y∈v,y<k:=λy hy=>hv y (List.mem_cons_of_mem _ hy)
   show(hD ad lb dg k).acc ((hD ad lb dg k).run ((hD ad lb dg k).to 1 x) v)=true ↔ _
   rw[Hb (by omega) (hv x List.mem_cons_self)]
   unfold Gx hsW
   rw[if_pos rfl]
   by_cases ha:ad x=true
   · rw[if_pos ha]
     simp only[ha,true_and,Bool.true_eq_false,false_and,or_false]
     cases v with
     | nil=>simp[DA.run,DA.acc,hD]
     | cons y v=>
       have hv2:∀z∈v,z<k:=λz hz=>hv' z (List.mem_cons_of_mem _ hz)
       show(hD ad lb dg k).acc ((hD ad lb dg k).run ((hD ad lb dg k).to 3 y) v)=true ↔ _
       rw[Hb (by omega) (hv' y List.mem_cons_self)]
       unfold Gx
       rw[if_neg (by omega),if_neg (by omega),yk hv2]
       simp[DA.acc,hD]
   · have ha':ad x=false:=by simpa using ha
     rw[if_neg ha]
     simp only[ha',Bool.false_eq_true,false_and,false_or,true_and]
     by_cases hb:lb x=true/\dg x=false
     · rw[if_pos hb,Fc hv']
       simp[hb]
     · rw[if_neg hb,yk hv']
       simp only[DA.acc,hD]
       constructor
       · intro h;simp at h
       · intro h;exact absurd ⟨h.1,h.2.1⟩ hb
theorem H5 (ts:List Txt)(s:Txt):0 <=ofT ts s/\ofT ts s <=(ts.length:Int):=by
 unfold ofT
 have:=List.countP_le_length (p:=λx=>decide (x<s)) (l:=ts)
 split <;> omega
theorem pF {h:Hst}(o:h.ok)(r:cD h=true):eX (gT h)=some h:=by
 unfold cD at r
 cases hh:eX (gT h)with
 | none=>rw[hh]at r;cases r
 | some g=>rw[hh]at r;rw[(lv (fM hh) o).1 r]
theorem Dy {s:List UInt8}{h:Hst}(e:eX s=some h):h.kind=1\/h.kind=2\/h.kind=3:=by
 unfold eX at e
 split at e
 · split at e
   · rw[Option.map_eq_some_iff]at e
     obtain⟨a,_,rfl⟩:=e
     exact .inr (.inr rfl)
   · cases e
 split at e
 · rw[Option.map_eq_some_iff]at e
   obtain⟨a,_,rfl⟩:=e
   exact .inr (.inl rfl)
 split at e
 · rw[<- Option.some.inj e];exact .inl rfl
 · cases e
def ge (h:Hst):List Txt:=if cD h=true then(if h.kind=1 then(bX h).reverse else[gT h])else[]
def hwV (ts:List Txt)(h:Hst):List Int:=(ge h).map (ofT ts)
theorem mf {h:Hst}(o:h.ok)(hk:h.kind=1)(hr:cD h=true):bX h=fV 46 [] h.name/\bX h≠[]:=by
 have e:bX h=fV 46 [] h.name:=by unfold bX;rw[if_pos ⟨hk,hr⟩]
 exact⟨e,by rw[e];exact tX 46 h.name []⟩
theorem HF {h:Hst}(o:h.ok):ge h≠[] ↔ cD h=true:=by
 unfold ge
 by_cases hr:cD h=true
 · rw[if_pos hr]
   simp only[hr,iff_true]
   by_cases hk:h.kind=1
   · rw[if_pos hk]
     intro e
     exact(mf o hk hr).2 (List.reverse_eq_nil_iff.1 e)
   · rw[if_neg hk];simp
 · rw[if_neg hr];simp[hr]
theorem rz {h:Hst}(o:h.ok):∀x∈bX h,bD x=true:=by
 intro x hx
 unfold bX at hx
 split at hx
 · rename_i hc
   exact List.all_eq_true.1 (rG o hc.1 hc.2).2.2.1 x hx
 · cases hx
theorem vR {h:Hst}(o:h.ok)(hr:cD h=true)(hk:h.kind≠1):bD (gT h)=false:=by
 have hk':=Dy (pF o hr)
 have key:∃c∈gT h,nr c=false:=by
   rcases hk' with hk'|hk'|hk'
   · exact absurd hk' hk
   · refine⟨46,?_,by decide⟩
     unfold gT
     rw[if_neg hk,if_pos hk',BT o]
     simp
   · refine⟨91,?_,by decide⟩
     unfold gT
     rw[if_neg hk,if_neg (by omega),if_pos hk']
     simp
 obtain⟨c,hc,hl⟩:=key
 cases hb:bD (gT h)with
 | false=>rfl
 | true=>
   unfold bD at hb
   rw[Bool.and_eq_true]at hb
   have:=List.all_eq_true.1 hb.2 c hc
   rw[hl]at this;cases this
def iV (s:Txt):Bool:=match eX s with|some h=> !decide (h.kind=1)&&(gT h==s)|none=>false
def cU (t:List Txt):Option Hst:=
 if t.length=1/\t.all iV=true then eX (t.headD [])
 else if t.all bD=true then(match eX (Lib.join t.reverse [46])with|some h=>if h.kind=1 then some h else none|none=>none)
 else none
def kP (t:List Txt):Prop:=match t with
 | []=>False
 | x::r=>iV x=true/\r=[]\/bD x=true/\fj x=false/\∀y∈r,bD y=true
theorem rj {s:Txt}(h:iV s=true):bD s=false:=by
 unfold iV at h
 cases hv:eX s with
 | none=>rw[hv]at h;cases h
 | some g=>
   rw[hv]at h
   rw[Bool.and_eq_true,beq_iff_eq]at h
   have hk:g.kind≠1:=by simpa using h.1
   have hr:cD g=true:=by
     unfold cD
     rw[h.2,hv]
     exact(lv (fM hv) (fM hv)).2 rfl
   rw[<- h.2]
   exact vR (fM hv) hr hk
theorem Bn {h:Hst}(o:h.ok)(r:cD h=true):cU (ge h)=some h/\kP (ge h):=by
 have hb:=pF o r
 unfold ge
 rw[if_pos r]
 by_cases hk:h.kind=1
 · rw[if_pos hk]
   obtain⟨el,hne⟩:=mf o hk r
   obtain⟨e1,e2,e3,e4,e5,e6⟩:=rG o hk r
   have hall:∀x∈bX h,bD x=true:=rz o
   have hlast:∃A x,bX h=A++[x]/\fj x=false:=by
     obtain⟨A,x,hA⟩:∃A x,bX h=A++[x]:=⟨_,_,(List.dropLast_concat_getLast hne).symm⟩
     refine⟨A,x,hA,?_⟩
     rw[<- el,hA]at e5
     unfold sL at e5
     simpa using e5
   obtain⟨A,x,hA,hx⟩:=hlast
   have hxl:bD x=true:=hall x (by rw[hA];simp)
   refine⟨?_,?_⟩
   · unfold cU
     have hna: ¬ ((bX h).reverse.length=1/\(bX h).reverse.all iV=true):=by
       rintro⟨_,h2⟩
       have:=List.all_eq_true.1 h2 x (by rw[hA];simp)
       have:=rj this
       rw[hxl]at this;cases this
     rw[if_neg hna,if_pos (List.all_eq_true.2 λy hy=>hall y (by simpa using hy)),List.reverse_reverse]
     have hj:=me 46 h.name []
     rw[List.nil_append,<- el]at hj
     rw[hj,e6]
     simp only
     rw[if_pos hk]
   · rw[hA,List.reverse_append]
     exact .inr ⟨hxl,hx,λy hy=>hall y (by rw[hA];simp;exact .inl (by simpa using hy))⟩
 · rw[if_neg hk]
   have ha:iV (gT h)=true:=by
     unfold iV
     rw[hb]
     simp[hk]
   refine⟨?_,.inl ⟨ha,rfl⟩⟩
   unfold cU
   rw[if_pos ⟨rfl,by simp[ha]⟩]
   exact hb
theorem Bv:∀n,n<256->nr (UInt8.ofNat n)=true->CL (UInt8.ofNat n)=UInt8.ofNat n/\UInt8.ofNat n≠46/\UInt8.ofNat n≠91:=by decide+kernel
theorem Bt {c:UInt8}(h:nr c=true):CL c=c/\c≠46/\c≠91:=by
 have e:UInt8.ofNat c.toNat=c:=by simp
 have:=Bv c.toNat c.toNat_lt
 rw[e]at this
 exact this h
theorem tw (x y:Txt)(r:List Txt):Lib.join (x::y::r) [46]=x++46::Lib.join (y::r) [46]:=by
 rw[Lib.join_cons,Lib.join_cons]
 simp[Lib.joinTail]
theorem wT:∀(r:List Txt) (x:Txt),(∀c∈x,c≠46)->(∀y∈r,∀c∈y,c≠46)->fV 46 [] (Lib.join (x::r) [46])=x::r
 | [],x,hx,_=>by rw[Lib.join_one,tW 46 x [] hx];rfl
 | y::r,x,hx,hr=>by
   rw[tw x y r,ya 46 x [] _ hx,wT r y (hr y List.mem_cons_self) λz hz=>hr z (List.mem_cons_of_mem _ hz)]
   rfl
theorem Fi (s:Txt):(⟨1,s,ad0⟩:Hst).ok:=by unfold Hst.ok;rfl
theorem gz {x:Txt}(h:bD x=true):1 <=x.length/\x.length <=63/\∀c∈x,nr c=true:=by
 unfold bD at h
 rw[Bool.and_eq_true,Bool.and_eq_true,dTx,dTx]at h
 exact⟨h.1.1,h.1.2,λc hc=>List.all_eq_true.1 h.2 c hc⟩
theorem np {L:List Txt}(hne:L≠[])(hl:∀x∈L,bD x=true)(hd:fj (sL L)=false)(hs:(Lib.join L [46]).length <=253):
   eX (Lib.join L [46])=some ⟨1,Lib.join L [46],ad0⟩/\cD ⟨1,Lib.join L [46],ad0⟩=true/\bX ⟨1,Lib.join L [46],ad0⟩=L:=by
 obtain⟨x,r,rfl⟩:∃x r,L=x::r:=by cases L with|nil=>exact absurd rfl hne|cons x r=>exact⟨x,r,rfl⟩
 have hf:=λy hy=>gz (hl y hy)
 have hcut:fV 46 [] (Lib.join (x::r) [46])=x::r:=wT r x (λc hc=>(Bt ((hf x List.mem_cons_self).2.2 c hc)).2.1)
   (λy hy c hc=>(Bt ((hf y (List.mem_cons_of_mem _ hy)).2.2 c hc)).2.1)
 have hch:∀c∈Lib.join (x::r) [46],c=46\/nr c=true:=by
   intro c hc
   by_cases e:c=46
   · exact .inl e
   · right
     have hj:=me 46 (Lib.join (x::r) [46]) []
     obtain⟨y,hy,hcy⟩:∃y∈x::r,c∈y:=by
       clear hj hcut hs hd hf hl hne
       induction r generalizing x with
       | nil=>exact⟨x,List.mem_cons_self,by rwa [Lib.join_one]at hc⟩
       | cons y r ih=>
         rw[tw]at hc
         rcases List.mem_append.1 hc with h|h
         · exact⟨x,List.mem_cons_self,h⟩
         · rcases List.mem_cons.1 h with h|h
           · exact absurd h e
           · obtain⟨z,hz,hcz⟩:=ih y h
             exact⟨z,List.mem_cons_of_mem _ hz,hcz⟩
     exact(hf y hy).2.2 c hcy
 have hlow:lg (Lib.join (x::r) [46])=Lib.join (x::r) [46]:=by
   unfold lg
   conv=>rhs;rw[<- List.map_id (Lib.join (x::r) [46])]
   refine List.map_congr_left λc hc=>?_
   rcases hch c hc with rfl|h
   · rfl
   · exact(Bt h).1
 have h91:(Lib.join (x::r) [46]).head?≠some 91:=by
   intro e
   have hm:(91:UInt8)∈Lib.join (x::r) [46]:=List.mem_of_mem_head? e
   rcases hch 91 hm with h|h
   · revert h;decide
   · revert h;decide
 have hv:eX (Lib.join (x::r) [46])=some ⟨1,Lib.join (x::r) [46],ad0⟩:=by
   unfold eX
   rw[if_neg h91,hlow,hcut,if_neg (by rw[hd];simp),if_pos ⟨hs,List.all_eq_true.2 hl⟩]
 have hr:cD ⟨1,Lib.join (x::r) [46],ad0⟩=true:=by
   unfold cD
   rw[show gT ⟨1,Lib.join (x::r) [46],ad0⟩=Lib.join (x::r) [46] from if_pos rfl,hv]
   exact(lv (Fi _) (Fi _)).2 rfl
 refine⟨hv,hr,?_⟩
 unfold bX
 rw[if_pos ⟨rfl,hr⟩]
 exact hcut
theorem Ff {t:List Txt}(h:kP t)(hs:t.length=1\/(Lib.join t.reverse [46]).length <=253):∃g,cU t=some g/\g.ok/\cD g=true/\ge g=t:=by
 cases t with
 | nil=>exact h.elim
 | cons x r=>
   by_cases ha:iV x=true/\r=[]
   · obtain⟨ha,rfl⟩:=ha
     have ho:cU [x]=eX x:=by unfold cU;rw[if_pos ⟨rfl,by simp[ha]⟩];rfl
     unfold iV at ha
     cases hv:eX x with
     | none=>rw[hv]at ha;cases ha
     | some g=>
       rw[hv]at ha
       rw[Bool.and_eq_true,beq_iff_eq]at ha
       have hk:g.kind≠1:=by simpa using ha.1
       have hr:cD g=true:=by
         unfold cD
         rw[ha.2,hv]
         exact(lv (fM hv) (fM hv)).2 rfl
       refine⟨g,ho.trans hv,fM hv,hr,?_⟩
       unfold ge
       rw[if_pos hr,if_neg hk,ha.2]
   · rcases h with h|⟨h1,h2,h3⟩
     · exact absurd h ha
     · have hall:∀y∈(x::r).reverse,bD y=true:=λy hy=>by
         rcases List.mem_cons.1 (List.mem_reverse.1 hy)with rfl|hy
         · exact h1
         · exact h3 y hy
       have hlast:sL (x::r).reverse=x:=by unfold sL;simp
       have hs':(Lib.join (x::r).reverse [46]).length <=253:=by
         rcases hs with hs|hs
         · have:r=[]:=List.eq_nil_of_length_eq_zero (by simpa using hs)
           subst this
           have:=(gz h1).2.1
           rw[List.reverse_singleton,Lib.join_one]
           omega
         · exact hs
       obtain⟨e1,e2,e3⟩:=np (L:=(x::r).reverse) (by simp) hall (by rw[hlast];exact h2) hs'
       refine⟨_,?_,Fi _,e2,?_⟩
       · unfold cU
         rw[if_neg,if_pos (List.all_eq_true.2 λy hy=>hall y (List.mem_reverse.2 hy)),e1]
         · simp
         · rintro⟨_,h5⟩
           have:=rj (List.all_eq_true.1 h5 x List.mem_cons_self)
           rw[h1]at this;cases this
       · unfold ge
         rw[if_pos e2,if_pos rfl,e3,List.reverse_reverse]
section
open Go.Pk Go.RowKit Go.Shelf
attribute [local go_sem] Oper.semAt_some
theorem IJ (a:Option Addr)(n c:Nat)(w:World):Cf 70 #[.slice a n c] w λe w'=>e=.returned (.func (.func 130) #[] #[.pointer (some ⟨w.heap.size,0,none⟩)])/\w'=w.alloc (.cells #[.slice a n c] az):=by
 refine(gX a n c (K:=λv w'=>v=(.func (.func 130) #[] #[.pointer (some ⟨w.heap.size,0,none⟩)])/\w'=w.alloc (.cells #[.slice a n c] az)) ?_).mono ?_
 · intro k1 w1 hk1 hw1
   subst hk1 hw1
   exact⟨rfl,rfl⟩
 · rintro e w' ⟨v,rfl,rfl,rfl⟩
   exact⟨rfl,rfl⟩
theorem Fy (s:List UInt8)(w:World):(Instr.buildSlice az 1 #[(0,vS s)]).run prog w=.ok (.slice (some ⟨w.heap.size,0,none⟩) 1 1) (w.alloc (.cells #[vS s] aI)):=by kernel_rfl
theorem Jg {w:World}{k:Nat}{t:TypeId}{s:List UInt8}(h:ai w k t [vS s]):Sl tS w jD (some ⟨k,0,none⟩) 1 1 [s]:=
 ⟨rfl,Nat.le_refl _,by decide,.inr ⟨k,0,rfl,h.lt,trivial,[vS s],gr.one (BG trivial),λj hj=>by rw[Nat.zero_add];exact h.cell j⟩⟩
theorem xZ:∀(s cur:List UInt8),(fV 46 cur s).length <=s.length+1
 | [],cur=>by simp[fV]
 | x::s,cur=>by
   unfold fV
   split
   · rw[List.length_cons,List.length_cons];exact Nat.succ_le_succ (xZ s _)
   · rw[List.length_cons];exact Nat.le_succ_of_le (xZ s _)
theorem DH {h:Hst}(o:h.ok)(hn:h.name.length <=1000000):(bX h).length <=1000001:=by
 unfold bX
 split
 · have:=xZ h.name [];omega
 · simp
def Kd:List (List Nat):=[[0,1,2,3,4,5,6],[0,2,1,3,4,5,6],[1,0,2,3,4,5,6],[1,2,0,3,4,5,6],[1,2,3,0,4,5,6],[1,2,3,4,0,5,6],[2,0,1,3,4,5,6],[2,1,0,3,4,5,6],[2,1,3,0,4,5,6],[2,1,3,4,0,5,6]]
theorem Ow.inside {α:Type}{T:Ty α}{t:TypeId}{w:World}{A:Bl}{a:Option Addr}{n c:Nat}{xs:List α}(h:Ow T t w A a n c xs):∀b o,a=some ⟨b,o,none⟩->b<w.heap.size:=by
 intro b o e
 rcases h.2.2.2 with⟨e1,_⟩|⟨g,cur,fr,e1,hh,_⟩
 · rw[e1]at e;cases e
 · rw[e1]at e;cases e
   exact(Array.getElem?_eq_some_iff.1 hh).1
set_option maxRecDepth 100000 in
set_option maxHeartbeats 4000000 in
theorem ut {h:Hst}(o:h.ok)(hn:h.name.length <=1000000){w:World}(he:Env w){p:Option Addr}{ts:List Txt}(hA:fH w p ts):
   CallsIn Fence.wide 6 prog 29 #[.pointer p,h.v] w λe w'=>∃(a:Option Addr) (n c:Nat),e=.returned (.slice a n c)/\Ow bY aq w' NoB a n c (hwV ts h)/\br w.heap.size a/\bW w w':=by
 have hF:∀g:FuncId,Fence.wide.fn g:=λ_=>trivial
 obtain⟨w1,hw1⟩:∃w1,w1=w.alloc (.cells (Value.cells (.pointer p)) aX):=⟨_,rfl⟩
 obtain⟨w2,hw2⟩:∃w2,w2=w1.alloc (.cells (Value.cells h.v) am):=⟨_,rfl⟩
 obtain⟨k1,hk1⟩:∃k1,k1=w.heap.size:=⟨_,rfl⟩
 obtain⟨k2,hk2⟩:∃k2,k2=w1.heap.size:=⟨_,rfl⟩
 have b1:bW w w1:=hw1▸af w _
 have b2:bW w1 w2:=hw2▸af w1 _
 have A1:ai w1 k1 aX [.pointer p]:=ai.new hk1 hw1
 have A2:ai w2 k2 am h.cells:=ai.new hk2 hw2
 have B2:=ab b1 b2 b1.size
 refine callsIn_of_wp_marks func29 rfl trivial ?_ rfl
 simp only[Tryz.ntmps29,List.size_toArray,List.length_cons,List.length_nil,Nat.reduceAdd,Nat.reduceSub,Array.replicate_succ,Array.replicate_zero,List.push_toArray,List.append_toArray,List.nil_append,List.cons_append]
 have eR:=enters_of func67 (by kernel_rfl) rfl
 have eL:=enters_of func68 (by kernel_rfl) rfl
 have eT:=enters_of func69 (by kernel_rfl) rfl
 have eB:=enters_of func70 (by kernel_rfl) rfl
 have eO:=enters_of func71 (by kernel_rfl) rfl
 refine qo ?_
 apply wpIn_region_lit
 refine KP rfl rfl (u:=.pointer p) rfl hk1 hw1 ?_
 refine KP rfl rfl (u:=h.v) rfl hk2 hw2 ?_
 refine cQ rfl (.inr rfl) (u:=.slice none 0 0) rfl ?_
 refine pT ?_
 simp only[Act.put,List.setIfInBounds_toArray,List.set_cons_succ,List.set_cons_zero]
 refine qo ?_
 refine qo ?_
 apply wpIn_region_lit
 refine cG rfl rfl rfl (bF.load0 A2 (Hst.len o)) ?_
 refine sm rfl rfl (u:=h.v) rfl (by decide) hF eR ((callsIn_wide.2 (qq o (by omega) w2 (he.step B2))).mono ?_)
 rintro _ w3 ⟨_,rfl,rfl,b3⟩
 refine⟨_,rfl,?_⟩
 have B3:=ab B2 b3 B2.size
 refine um rfl (λc hc=>by cases hc) rfl (v:=.bool (!cD h)) (w':=w3) (by kernel_rfl) ?_
 refine pT ?_
 simp only[Act.put,List.setIfInBounds_toArray,List.set_cons_succ,List.set_cons_zero]
 have early:cD h=false->hwV ts h=[]:=λhr=>by unfold hwV ge;rw[if_neg (by rw[hr];simp)];rfl
 cases hr:cD h with
 | false=>
   refine wpIn_cond_true rfl ?_
   refine qo ?_
   apply wpIn_region_lit
   refine cQ rfl (.inr rfl) (u:=.slice none 0 0) rfl ?_
   refine pT ?_
   refine wpIn_ret ?_
   simp only[Act.put,List.setIfInBounds_toArray,List.set_cons_succ,List.set_cons_zero]
   refine⟨_,Go.results_tmp rfl _ _ _,none,0,0,rfl,?_,br.none _,B3⟩
   rw[early hr];exact Ow.nil _ _ _ _
 | true=>
 refine wpIn_cond_false rfl ?_
 refine wpIn_skip ?_
 refine qo ?_
 apply wpIn_region_lit
 refine cG rfl rfl rfl (bF.load0 (A2.below b3) (Hst.len o)) ?_
 refine sm rfl rfl (u:=h.v) rfl (by decide) hF eL ((callsIn_wide.2 (oL o (by omega) w3 (he.step B3))).mono ?_)
 rintro _ w4 ⟨_,rfl,la,ln,lc,rfl,ol,fl,b4⟩
 refine⟨_,rfl,?_⟩
 have B4:=ab B3 b4 B3.size
 have A24:=(A2.below b3).below b4
 refine cQ rfl (.inr rfl) (u:=.slice la ln lc) rfl ?_
 refine pT ?_
 simp only[Act.put,List.setIfInBounds_toArray,List.set_cons_succ,List.set_cons_zero]
 refine IY (λa' W=>∃(x4 x6 x7 x8 x9 x10 x11 x12 x13 x14 x15 x16 x17 x18 x19 x20 x21 x22 x23 x24 x25 x26 x27 x28 x29 x30:Value) (a:Option Addr) (n c:Nat) (T:List Txt),a'= { tmps:= #[.pointer p,h.v,.pointer (some ⟨k1,0,none⟩),.pointer (some ⟨k2,0,none⟩),x4,.slice a n c,x6,x7,x8,x9,x10,x11,x12,x13,x14,x15,x16,x17,x18,x19,x20,x21,x22,x23,x24,x25,x26,x27,x28,x29,x30],defers:=[] } /\Sl tS W jD a n c T/\(∀b o,a=some ⟨b,o,none⟩->b<W.heap.size)/\T.reverse.map (ofT ts)=hwV ts h/\T.length <=1000001/\bW w W/\bW w2 W) ?_ ?_
 · refine qo ?_
   apply wpIn_region_lit
   refine um rfl (λc hc=>by cases hc) rfl (v:=.pointer (some ⟨k2,0,none⟩)) (w':=w4) (by kernel_rfl) ?_
   refine cG rfl rfl rfl (A24.load1 aC rfl rfl) ?_
   refine um rfl (λc hc=>by cases hc) rfl (v:=.bool (h.kind !=1)) (w':=w4) (by kernel_rfl) ?_
   refine pT ?_
   simp only[Act.put,List.setIfInBounds_toArray,List.set_cons_succ,List.set_cons_zero]
   by_cases hk:h.kind=1
   · refine wpIn_cond_false (by show Value.bool (h.kind !=1)=_;rw[hk];rfl) ?_
     refine wpIn_skip ?_
     have ew:ge h=(bX h).reverse:=by unfold ge;rw[if_pos hr,if_pos hk]
     exact⟨_,_,_,_,_,_,_,_,_,_,_,_,_,_,_,_,_,_,_,_,_,_,_,_,_,_,la,ln,lc,bX h,rfl,ol.all,Ow.inside ol,by unfold hwV;rw[ew],DH o hn,B4,ab b3 b4 b3.size⟩
   · refine wpIn_cond_true (by show Value.bool (h.kind !=1)=_;congr 1;simp[hk]) ?_
     apply wpIn_region_lit
     refine cG rfl rfl rfl (bF.load0 A24 (Hst.len o)) ?_
     refine sm rfl rfl (u:=h.v) rfl (by decide) hF eT ((callsIn_wide.2 (nq o w4 (he.step B4))).mono ?_)
     rintro _ w5 ⟨_,rfl,rfl,b5⟩
     refine⟨_,rfl,?_⟩
     have B5:=ab B4 b5 B4.size
     refine dP rfl rfl (u:=vS (gT h)) rfl (Fy _ w5) ?_
     refine cQ rfl (.inr rfl) (u:=.slice (some ⟨w5.heap.size,0,none⟩) 1 1) rfl ?_
     apply J2
     simp only[Act.put,List.setIfInBounds_toArray,List.set_cons_succ,List.set_cons_zero]
     have b6:bW w5 (w5.alloc (.cells #[vS (gT h)] aI)):=af w5 _
     have ew:ge h=[gT h]:=by unfold ge;rw[if_pos hr,if_neg hk]
     exact⟨_,_,_,_,_,_,_,_,_,_,_,_,_,_,_,_,_,_,_,_,_,_,_,_,_,_,_,1,1,[gT h],rfl,Jg (ai.new rfl rfl),(λb o e=>by cases e;simp),by unfold hwV;rw[ew];rfl,by simp,ab B5 b6 B5.size,ab (ab b3 b4 b3.size) (ab b5 b6 b5.size) (Nat.le_trans b3.size b4.size)⟩
 · rintro a' W ⟨x4,x6,x7,x8,x9,x10,x11,x12,x13,x14,x15,x16,x17,x18,x19,x20,x21,x22,x23,x24,x25,x26,x27,x28,x29,x30,a,n,c,T,rfl,hT,hTa,hTw,hTl,BW,B2W⟩
   obtain⟨w6,hw6⟩:∃w6,w6=W.alloc (.cells #[.slice none 0 0] aj):=⟨_,rfl⟩
   obtain⟨k6,hk6⟩:∃k6,k6=W.heap.size:=⟨_,rfl⟩
   obtain⟨w7,hw7⟩:∃w7,w7=w6.alloc (.cells #[.slice a n c] az):=⟨_,rfl⟩
   obtain⟨k7,hk7⟩:∃k7,k7=w6.heap.size:=⟨_,rfl⟩
   have b6:bW W w6:=hw6▸af W _
   have b7:bW w6 w7:=hw7▸af w6 _
   have A6:ai w6 k6 aj [.slice none 0 0]:=ai.new hk6 hw6
   have A7:ai w7 k7 az [.slice a n c]:=ai.new hk7 hw7
   have B7:=ab BW (ab b6 b7 b6.size) BW.size
   have B27:=ab B2W (ab b6 b7 b6.size) B2W.size
   refine qo ?_
   apply wpIn_region_lit
   refine wW rfl rfl (v:=.pointer (some ⟨k6,0,none⟩)) (w':=w6) (by rw[hk6,hw6];rfl) ?_
   refine pT ?_
   simp only[Act.put,List.setIfInBounds_toArray,List.set_cons_succ,List.set_cons_zero]
   refine qo ?_
   refine qo ?_
   apply wpIn_region_lit
   refine cQ rfl (.inl rfl) (u:=.slice a n c) rfl ?_
   refine sm rfl rfl (u:=.slice a n c) rfl (by decide) hF eB ((callsIn_wide.2 (IJ a n c w6)).mono ?_)
   rintro _ w7' ⟨rfl,hw7'⟩
   rw[<- hw7]at hw7'
   rw[hw7']
   clear hw7' w7'
   rw[<- hk7]
   refine⟨_,rfl,?_⟩
   refine pT ?_
   simp only[Act.put,List.setIfInBounds_toArray,List.set_cons_succ,List.set_cons_zero]
   apply wpIn_block
   have hTs:=(hT.below b6).below b7
   have k67:k6<k7:=by have:=A6.lt;omega
   have k7l:=A7.lt
   have AW0:ai w7 k6 aj [.slice none 0 0]:=A6.below b7
   have hAp:fH w7 p ts:=hA.below B7
   have A17:ai w7 k1 aX [.pointer p]:=((A1.below b2)).below B27
   obtain⟨w7s,hw7s⟩:∃n,n=w7.heap.size:=⟨_,rfl⟩
   have hTa7:∀b o,a=some ⟨b,o,none⟩->b<k6:=λb o e=>by rw[hk6];exact hTa b o e
   have k6lt:k6<w7.heap.size:=by omega
   have I0:Ea bY aq aj k6 w7.heap.size w7 (([]:List (Int×Txt)).map λx=>ofT ts x.2) w7:=⟨none,0,0,AW0,Ow.nil _ _ _ _,(λg hg=>by cases hg),Below.refl _ _⟩
   refine wpIn_rangeFunc_ownG rfl (by decide) (gf:=130) (lb:= #[.pointer (some ⟨k7,0,none⟩)]) rfl trivial (enters_of func130 (by kernel_rfl) rfl)
     (Dd Fence.wide 5 trivial rfl (by decide) k7 T (by omega) A7 hTs) (λh1 h2=>h1.trans h2) (λV l o o' hl _ _ _=>ux λb hb e=> ?hKb) (Below.refl _ _) (λ_=>rfl)
     (λpre V=>Ea bY aq aj k6 w7.heap.size w7 (pre.map λx=>ofT ts x.2) V/\pre.length <=1000001) (λ_ _ _=>False) (OwnFrom.and (Cp k6lt) (ownFrom_pure _ _)) (λ_ _ _ _ _ hs _ _=>hs) ⟨I0,by simp⟩
     (λx=> { tmps:= #[.pointer p,h.v,.pointer (some ⟨k1,0,none⟩),.pointer (some ⟨k2,0,none⟩),x4,.slice a n c,.pointer (some ⟨k6,0,none⟩),x7,vS x.2,x9,x10,x11,x12,x13,x14,x15,x16,x17,x18,x19,.slice a n c,.func (.func 130) #[] #[.pointer (some ⟨k7,0,none⟩)],vI x.1,vS x.2,x24,x25,x26,x27,x28,x29,x30],defers:=[] }) ?assign ?body ?done ?stop
   case hKb=>
     rcases hb with rfl|⟨o2,e2⟩
     · omega
     · have:=hTa7 b o2 e2;omega
   case assign=>
     intro l x V K hK
     apply wpIn_region_lit
     simp only[List.zip_toArray,List.foldl_toArray',List.foldl_toArray,List.zip_cons_cons,List.zip_nil_left,List.zip_nil_right,List.foldl_cons,List.foldl_nil,List.setIfInBounds_toArray,List.set_cons_succ,List.set_cons_zero]
     refine cQ rfl (.inr rfl) (u:=vS x.2) rfl ?_
     exact J2 hK
   case body=>
     rintro l pre x V ⟨hC,hlen0⟩ hlen
     obtain⟨a1,n1,c1,C1,C2,C3,C4⟩:=hC.drew
     have hwk:w.heap.size <=k6:=by rw[hk6];exact BW.size
     have hAV:fH V.drew p ts:=hA.below (B7.trans (C4.mono hwk))
     have hk1k:k1<k6:=by have:=A1.lt;have:=b2.size;have:=B2W.size;omega
     have A1V:ai V.drew k1 aX [.pointer p]:=A17.block (C4.block k1 hk1k)
     obtain⟨V1,hV1⟩:∃V1,V1=V.drew.alloc (.cells #[vI (ofT ts x.2)] aq):=⟨_,rfl⟩
     obtain⟨kx,hkx⟩:∃kx,kx=V.drew.heap.size:=⟨_,rfl⟩
     have bV:Below V.drew.heap.size V.drew V1:=hV1▸af _ _
     obtain⟨V2,a2,n2,c2,q2,V3,q3,C',kf,oth⟩:=zw dF aA dk (by decide) fF C1 C2 C3 C4 k6lt C4.size hkx hV1 (show bY.rep V.drew NoB [vI (ofT ts x.2)] (ofT ts x.2) from⟨rfl,trivial⟩) (by rw[List.length_map];omega)
     have l6:(Instr.loadAt aj (.pointer (some ⟨k6,0,none⟩))).run prog V.drew=.ok (.slice a1 n1 c1) V.drew:=C1.load1 aA rfl rfl
     have l6':(Instr.loadAt aj (.pointer (some ⟨k6,0,none⟩))).run prog V1=.ok (.slice a1 n1 c1) V1:=(C1.below bV).load1 aA rfl rfl
     have l1:(Instr.loadAt aX (.pointer (some ⟨k1,0,none⟩))).run prog V.drew=.ok (.pointer p) V.drew:=A1V.load1 gc rfl rfl
     have qb:(Instr.buildSlice aj 1 #[(0,vI (ofT ts x.2))]).run prog V.drew=.ok (.slice (some ⟨kx,0,none⟩) 1 1) V1:=by rw[hV1,hkx];kernel_rfl
     have qc:CallsIn Fence.wide (6-1-1-1) prog 71 #[.pointer p,vS x.2] V.drew λe w'=>e=.returned (vI (ofT ts x.2))/\w'=V.drew:=
       (callsIn_wide.2 (Ap p ts x.2 V.drew hAV)).mono λe w' ⟨v,he,hv,hw⟩=>⟨by rw[he,hv],hw⟩
     have gfin:∀{aa:Act},(Exit.inBlock 1 (ownPostG w7.heap.size (oF λb=>b=k7\/∃o,a=some ⟨b,o,none⟩) (λpre V=>Ea bY aq aj k6 w7.heap.size w7 (pre.map λx=>ofT ts x.2) V/\pre.length <=1000001) (λ_ _ _=>False) (pre++[x]) V)) .normal aa V3:=by
       intro aa
       refine⟨⟨kf.size,kf.same⟩,⟨kf.size,λb hb hab=>?_⟩,?_,by simp;omega⟩
       · rcases hab with rfl|⟨o2,e2⟩
         · exact oth b k7l (by omega)
         · have:=hTa7 b o2 e2
           exact oth b (by omega) (by omega)
       · rw[List.map_append];exact C'
     apply wpIn_block
     refine E6 rfl Kd (by kernel_rfl) ?_
     intro ord hord
     simp only[Kd,List.mem_cons,List.not_mem_nil,or_false]at hord
     rcases hord with rfl|rfl|rfl|rfl|rfl|rfl|rfl|rfl|rfl|rfl
     all_goals simp only[List.filterMap_cons,List.filterMap_nil,List.getElem?_toArray,List.getElem?_cons_zero,List.getElem?_cons_succ]
     · refine cG (by kernel_rfl) rfl (by kernel_rfl) l6 ?_
       refine cG (by kernel_rfl) rfl (by kernel_rfl) l1 ?_
       refine cQ (by kernel_rfl) (.inl rfl) (u:=vS x.2) (by kernel_rfl) ?_
       refine fO (by kernel_rfl) rfl (u:=.pointer p) (v:=vS x.2) (by kernel_rfl) (by kernel_rfl) (by decide) (λ_=>trivial) eO (qc.mono ?_)
       rintro _ _ ⟨rfl,rfl⟩
       refine⟨_,rfl,?_⟩
       refine dP (by kernel_rfl) rfl (by kernel_rfl) qb ?_
       refine d7 (by kernel_rfl) rfl (by kernel_rfl) (by kernel_rfl) q2 ?_
       exact cC (by kernel_rfl) rfl (by kernel_rfl) (by kernel_rfl) q3 (wpListIn_nil gfin)
     · refine cG (by kernel_rfl) rfl (by kernel_rfl) l6 ?_
       refine cQ (by kernel_rfl) (.inl rfl) (u:=vS x.2) (by kernel_rfl) ?_
       refine cG (by kernel_rfl) rfl (by kernel_rfl) l1 ?_
       refine fO (by kernel_rfl) rfl (u:=.pointer p) (v:=vS x.2) (by kernel_rfl) (by kernel_rfl) (by decide) (λ_=>trivial) eO (qc.mono ?_)
       rintro _ _ ⟨rfl,rfl⟩
       refine⟨_,rfl,?_⟩
       refine dP (by kernel_rfl) rfl (by kernel_rfl) qb ?_
       refine d7 (by kernel_rfl) rfl (by kernel_rfl) (by kernel_rfl) q2 ?_
       exact cC (by kernel_rfl) rfl (by kernel_rfl) (by kernel_rfl) q3 (wpListIn_nil gfin)
     · refine cG (by kernel_rfl) rfl (by kernel_rfl) l1 ?_
       refine cG (by kernel_rfl) rfl (by kernel_rfl) l6 ?_
       refine cQ (by kernel_rfl) (.inl rfl) (u:=vS x.2) (by kernel_rfl) ?_
       refine fO (by kernel_rfl) rfl (u:=.pointer p) (v:=vS x.2) (by kernel_rfl) (by kernel_rfl) (by decide) (λ_=>trivial) eO (qc.mono ?_)
       rintro _ _ ⟨rfl,rfl⟩
       refine⟨_,rfl,?_⟩
       refine dP (by kernel_rfl) rfl (by kernel_rfl) qb ?_
       refine d7 (by kernel_rfl) rfl (by kernel_rfl) (by kernel_rfl) q2 ?_
       exact cC (by kernel_rfl) rfl (by kernel_rfl) (by kernel_rfl) q3 (wpListIn_nil gfin)
     · refine cG (by kernel_rfl) rfl (by kernel_rfl) l1 ?_
       refine cQ (by kernel_rfl) (.inl rfl) (u:=vS x.2) (by kernel_rfl) ?_
       refine cG (by kernel_rfl) rfl (by kernel_rfl) l6 ?_
       refine fO (by kernel_rfl) rfl (u:=.pointer p) (v:=vS x.2) (by kernel_rfl) (by kernel_rfl) (by decide) (λ_=>trivial) eO (qc.mono ?_)
       rintro _ _ ⟨rfl,rfl⟩
       refine⟨_,rfl,?_⟩
       refine dP (by kernel_rfl) rfl (by kernel_rfl) qb ?_
       refine d7 (by kernel_rfl) rfl (by kernel_rfl) (by kernel_rfl) q2 ?_
       exact cC (by kernel_rfl) rfl (by kernel_rfl) (by kernel_rfl) q3 (wpListIn_nil gfin)
     · refine cG (by kernel_rfl) rfl (by kernel_rfl) l1 ?_
       refine cQ (by kernel_rfl) (.inl rfl) (u:=vS x.2) (by kernel_rfl) ?_
       refine fO (by kernel_rfl) rfl (u:=.pointer p) (v:=vS x.2) (by kernel_rfl) (by kernel_rfl) (by decide) (λ_=>trivial) eO (qc.mono ?_)
       rintro _ _ ⟨rfl,rfl⟩
       refine⟨_,rfl,?_⟩
       refine cG (by kernel_rfl) rfl (by kernel_rfl) l6 ?_
       refine dP (by kernel_rfl) rfl (by kernel_rfl) qb ?_
       refine d7 (by kernel_rfl) rfl (by kernel_rfl) (by kernel_rfl) q2 ?_
       exact cC (by kernel_rfl) rfl (by kernel_rfl) (by kernel_rfl) q3 (wpListIn_nil gfin)
     · refine cG (by kernel_rfl) rfl (by kernel_rfl) l1 ?_
       refine cQ (by kernel_rfl) (.inl rfl) (u:=vS x.2) (by kernel_rfl) ?_
       refine fO (by kernel_rfl) rfl (u:=.pointer p) (v:=vS x.2) (by kernel_rfl) (by kernel_rfl) (by decide) (λ_=>trivial) eO (qc.mono ?_)
       rintro _ _ ⟨rfl,rfl⟩
       refine⟨_,rfl,?_⟩
       refine dP (by kernel_rfl) rfl (by kernel_rfl) qb ?_
       refine cG (by kernel_rfl) rfl (by kernel_rfl) l6' ?_
       refine d7 (by kernel_rfl) rfl (by kernel_rfl) (by kernel_rfl) q2 ?_
       exact cC (by kernel_rfl) rfl (by kernel_rfl) (by kernel_rfl) q3 (wpListIn_nil gfin)
     · refine cQ (by kernel_rfl) (.inl rfl) (u:=vS x.2) (by kernel_rfl) ?_
       refine cG (by kernel_rfl) rfl (by kernel_rfl) l6 ?_
       refine cG (by kernel_rfl) rfl (by kernel_rfl) l1 ?_
       refine fO (by kernel_rfl) rfl (u:=.pointer p) (v:=vS x.2) (by kernel_rfl) (by kernel_rfl) (by decide) (λ_=>trivial) eO (qc.mono ?_)
       rintro _ _ ⟨rfl,rfl⟩
       refine⟨_,rfl,?_⟩
       refine dP (by kernel_rfl) rfl (by kernel_rfl) qb ?_
       refine d7 (by kernel_rfl) rfl (by kernel_rfl) (by kernel_rfl) q2 ?_
       exact cC (by kernel_rfl) rfl (by kernel_rfl) (by kernel_rfl) q3 (wpListIn_nil gfin)
     · refine cQ (by kernel_rfl) (.inl rfl) (u:=vS x.2) (by kernel_rfl) ?_
       refine cG (by kernel_rfl) rfl (by kernel_rfl) l1 ?_
       refine cG (by kernel_rfl) rfl (by kernel_rfl) l6 ?_
       refine fO (by kernel_rfl) rfl (u:=.pointer p) (v:=vS x.2) (by kernel_rfl) (by kernel_rfl) (by decide) (λ_=>trivial) eO (qc.mono ?_)
       rintro _ _ ⟨rfl,rfl⟩
       refine⟨_,rfl,?_⟩
       refine dP (by kernel_rfl) rfl (by kernel_rfl) qb ?_
       refine d7 (by kernel_rfl) rfl (by kernel_rfl) (by kernel_rfl) q2 ?_
       exact cC (by kernel_rfl) rfl (by kernel_rfl) (by kernel_rfl) q3 (wpListIn_nil gfin)
     · refine cQ (by kernel_rfl) (.inl rfl) (u:=vS x.2) (by kernel_rfl) ?_
       refine cG (by kernel_rfl) rfl (by kernel_rfl) l1 ?_
       refine fO (by kernel_rfl) rfl (u:=.pointer p) (v:=vS x.2) (by kernel_rfl) (by kernel_rfl) (by decide) (λ_=>trivial) eO (qc.mono ?_)
       rintro _ _ ⟨rfl,rfl⟩
       refine⟨_,rfl,?_⟩
       refine cG (by kernel_rfl) rfl (by kernel_rfl) l6 ?_
       refine dP (by kernel_rfl) rfl (by kernel_rfl) qb ?_
       refine d7 (by kernel_rfl) rfl (by kernel_rfl) (by kernel_rfl) q2 ?_
       exact cC (by kernel_rfl) rfl (by kernel_rfl) (by kernel_rfl) q3 (wpListIn_nil gfin)
     · refine cQ (by kernel_rfl) (.inl rfl) (u:=vS x.2) (by kernel_rfl) ?_
       refine cG (by kernel_rfl) rfl (by kernel_rfl) l1 ?_
       refine fO (by kernel_rfl) rfl (u:=.pointer p) (v:=vS x.2) (by kernel_rfl) (by kernel_rfl) (by decide) (λ_=>trivial) eO (qc.mono ?_)
       rintro _ _ ⟨rfl,rfl⟩
       refine⟨_,rfl,?_⟩
       refine dP (by kernel_rfl) rfl (by kernel_rfl) qb ?_
       refine cG (by kernel_rfl) rfl (by kernel_rfl) l6' ?_
       refine d7 (by kernel_rfl) rfl (by kernel_rfl) (by kernel_rfl) q2 ?_
       exact cC (by kernel_rfl) rfl (by kernel_rfl) (by kernel_rfl) q3 (wpListIn_nil gfin)
   case done=>
     rintro D xs V hD hxs ⟨⟨a3,n3,c3,D1,D2,D3,D4⟩,_⟩ hK
     have l6:(Instr.loadAt aj (.pointer (some ⟨k6,0,none⟩))).run prog V=.ok (.slice a3 n3 c3) V:=D1.load1 aA rfl rfl
     refine qo ?_
     apply wpIn_region_lit
     refine cG (by kernel_rfl) rfl (by kernel_rfl) l6 ?_
     refine cQ (by kernel_rfl) (.inr rfl) (u:=.slice a3 n3 c3) (by kernel_rfl) ?_
     refine pT ?_
     refine wpIn_ret ?_
     simp only[Act.put,List.setIfInBounds_toArray,List.set_cons_succ,List.set_cons_zero]
     have gD:=grownBy_putObj' V D (.deferred none)
     have nD:xK V (some D):=λr e=>by cases e;exact⟨_,hK,rfl⟩
     have hwk:w.heap.size <=k6:=by rw[hk6];exact BW.size
     have BV:bW w V:=B7.trans (D4.mono hwk)
     have ew:xs.map (λx=>ofT ts x.2)=hwV ts h:=by
       rw[<- hTw,<- show xs.map Prod.snd=T.reverse from hxs,List.map_map];rfl
     rw[ew]at D2
     refine⟨by simp,.inl ⟨_,_,rfl,run_takeDeferred hK,?_⟩⟩
     exact⟨_,Go.results_tmp rfl _ _ _,a3,n3,c3,rfl,D2.turned gD nD,(λg hg=>Nat.le_trans B7.size (D3 g hg)),si BV BV.size gD (λr e=>by cases e;have:=B7.size;omega)⟩
   case stop=>
     rintro D c pre W _ _ h _
     exact h.elim
def GM (ts:List Txt)(h:Hst)(w:World)(v:Value)(w':World):Prop:=∃(a:Option Addr) (n c:Nat),v=.slice a n c/\Ow bY aq w' NoB a n c (hwV ts h)/\br w.heap.size a/\bW w w'
theorem uu {h:Hst}(o:h.ok)(hn:h.name.length <=1000000){w:World}(he:Env w){p:Option Addr}{ts:List Txt}(hA:fH w p ts):Cf oJ #[.pointer p,h.v] w (Ret (GM ts h w)):=
 (callsIn_wide.1 (ut o hn he hA)).mono λe w' ⟨a,n,c,he,h1,h2,h3⟩=>⟨_,he,a,n,c,rfl,h1,h2,h3⟩
end
noncomputable def tx (ts:List Txt)(x:Nat):Txt:=mO ts (x:Int)
theorem Jr {ts:List Txt}{x:Nat}(h:x<ts.length):tx ts x=ts[x]:=by
 unfold tx mO
 rw[if_neg (by omega),if_pos (by omega)]
 simp[h]
theorem Cb (ts:List Txt):tx ts ts.length=ui ts:=by
 unfold tx mO
 rw[if_pos rfl]
def lL (ts:List Txt)(h:Hst):List Nat:=(ge h).map λs=>(ofT ts s).toNat
theorem I4 (ts:List Txt)(h:Hst):hwV ts h=(lL ts h).map fun(x:Nat)=>(x:Int):=by
 unfold hwV lL
 rw[List.map_map]
 refine List.map_congr_left λs _=>?_
 have:=(H5 ts s).1
 show _=(((ofT ts s).toNat:Nat):Int)
 omega
theorem tC (ts:List Txt)(h:Hst):∀x∈lL ts h,x<ts.length+1:=by
 intro x hx
 obtain⟨s,_,rfl⟩:=List.mem_map.1 hx
 have:=H5 ts s
 omega
noncomputable def hAd (ts:List Txt)(x:Nat):Bool:=iV (tx ts x)
noncomputable def hLb (ts:List Txt)(x:Nat):Bool:=bD (tx ts x)
noncomputable def hDg (ts:List Txt)(x:Nat):Bool:=fj (tx ts x)
theorem I3 (ts:List Txt)(v:List Nat):hsW (hAd ts) (hLb ts) (hDg ts) v ↔ kP (v.map (tx ts)):=by
 cases v with
 | nil=>rfl
 | cons x r=>
   unfold hsW kP
   simp only[List.map_cons,List.map_eq_nil_iff]
   refine or_congr Iff.rfl ?_
   unfold hAd hLb hDg
   constructor
   · rintro⟨_,h1,h2,h3⟩
     refine⟨h1,h2,λy hy=>?_⟩
     obtain⟨z,hz,rfl⟩:=List.mem_map.1 hy
     exact(h3 z hz).2
   · rintro⟨h1,h2,h3⟩
     have no:∀{s:Txt},bD s=true->iV s=false:=fun{s} h=>by
       cases ha:iV s with
       | false=>rfl
       | true=>rw[rj ha]at h;cases h
     exact⟨no h1,h1,h2,λy hy=>⟨no (h3 _ (List.mem_map.2 ⟨y,hy,rfl⟩)),h3 _ (List.mem_map.2 ⟨y,hy,rfl⟩)⟩⟩
def jt:List Txt->Nat
 | []=>0
 | x::r=>x.length+1+jt r
theorem zz:∀a b:List Txt,jt (a++b)=jt a+jt b
 | [],b=>by simp[jt]
 | x::a,b=>by simp only[List.cons_append,jt];rw[zz a b];omega
theorem zB:∀a:List Txt,jt a.reverse=jt a
 | []=>rfl
 | x::a=>by rw[List.reverse_cons,zz,zB a];simp only[jt];omega
theorem rn:∀(r:List Txt) (x:Txt),(Lib.join (x::r) [46]).length+1=jt (x::r)
 | [],x=>by rw[Lib.join_one];simp[jt]
 | y::r,x=>by
   have:=rn r y
   rw[tw,List.length_append,List.length_cons]
   show x.length+((Lib.join (y::r) [46]).length+1)+1=x.length+1+jt (y::r)
   omega
theorem tU {t:List Txt}(h:t≠[]):(Lib.join t.reverse [46]).length+1=jt t:=by
 rw[<- zB t]
 cases hr:t.reverse with
 | nil=>exact absurd (List.reverse_eq_nil_iff.1 hr) h
 | cons x r=>exact rn r x
noncomputable def gF (ts:List Txt):List Int:=(List.range (ts.length+1)).map λx=>(((tx ts x).length:Nat):Int)+1
theorem lu (ts:List Txt):(gF ts).length=ts.length+1:=by simp[gF]
theorem un {ts:List Txt}{x:Nat}(h:x<ts.length+1):cAt (gF ts) x=(((tx ts x).length:Nat):Int)+1:=by
 unfold cAt gF
 rw[List.getD_eq_getElem?_getD,List.getElem?_map,List.getElem?_range h];rfl
theorem uo {ts:List Txt} :∀{v:List Nat},(∀x∈v,x<ts.length+1)->dM (gF ts) v=(jt (v.map (tx ts)):Int)
 | [],_=>rfl
 | x::v,h=>by
   have e:=uo (v:=v) λy hy=>h y (List.mem_cons_of_mem _ hy)
   simp only[dM,List.map_cons,jt]
   rw[un (h x List.mem_cons_self),e]
   omega
theorem DI:∀i,i<38->nr (qw i)=true:=by decide
theorem GZ (n:Nat):∀c∈Ef n,nr c=true:=by
 induction n using Nat.strongRecOn with
 | ind n ih=>
   intro c hc
   by_cases h:n=0
   · subst h;rw[qf]at hc;cases hc
   · rw[qe h]at hc
     rcases List.mem_cons.1 hc with rfl|hc
     · exact DI _ (Nat.mod_lt _ (by omega))
     · exact ih ((n-1)/38) (by omega) c hc
theorem Bz {n:Nat}(h:1 <=n):1 <=(ii n).length/\∀c∈ii n,nr c=true:=by
 refine⟨?_,λc hc=>GZ n c (by unfold ii at hc;exact List.mem_reverse.1 hc)⟩
 unfold ii
 rw[qe (by omega),List.length_reverse,List.length_cons]
 omega
theorem IP (n:Nat):(Ef n).length <=n:=by
 induction n using Nat.strongRecOn with
 | ind n ih=>
   by_cases h:n=0
   · subst h;rw[qf];exact Nat.le_refl _
   · rw[qe h,List.length_cons]
     have:=ih ((n-1)/38) (by omega)
     omega
theorem pE {ts:List Txt}(hl:ts.length <=60):bD (ui ts)=true:=by
 have h1:=(rq ts).1
 have h2:=Dq ts
 obtain⟨h3,h4⟩:=Bz h1
 have h5:(ii (uh ts)).length <=uh ts:=by unfold ii;rw[List.length_reverse];exact IP _
 unfold bD ui
 rw[Bool.and_eq_true,Bool.and_eq_true,dTx,dTx]
 exact⟨⟨h3,by omega⟩,List.all_eq_true.2 h4⟩
theorem EQ {h:Hst}(o:h.ok)(hk:h.kind=1)(hr:cD h=true):jt (ge h)=h.name.length+1:=by
 obtain⟨el,hne⟩:=mf o hk hr
 have e:ge h=(bX h).reverse:=by unfold ge;rw[if_pos hr,if_pos hk]
 rw[e]
 have h1:=tU (t:=(bX h).reverse) (by simpa using hne)
 rw[List.reverse_reverse,el]at h1
 have hj:=me 46 h.name []
 rw[List.nil_append]at hj
 rw[hj]at h1
 rw[el];omega
theorem EO {h:Hst}(o:h.ok)(hk:h.kind≠1)(hr:cD h=true):jt (ge h)=(gT h).length+1:=by
 have e:ge h=[gT h]:=by unfold ge;rw[if_pos hr,if_neg hk]
 rw[e];simp[jt]
theorem EP {h:Hst}(o:h.ok)(hr:cD h=true):jt (ge h) <=254:=by
 by_cases hk:h.kind=1
 · rw[EQ o hk hr]
   have:=(rG o hk hr).2.2.2.1
   omega
 · rw[EO o hk hr]
   have:=zN o
   have hv:=pF o hr
   have hn:h.name=[]:=by
     unfold eX at hv
     split at hv
     · split at hv
       · rw[Option.map_eq_some_iff]at hv
         obtain⟨a,_,e⟩:=hv
         rw[<- e]
       · cases hv
     split at hv
     · rw[Option.map_eq_some_iff]at hv
       obtain⟨a,_,e⟩:=hv
       rw[<- e]
     split at hv
     · exact absurd (by rw[<- Option.some.inj hv]) hk
     · cases hv
   rw[hn]at this
   simp only[List.length_nil]at this
   omega
theorem Dp {ts:List Txt}{v:List Nat}(hv:∀x∈v,x<ts.length+1)(h:kP (v.map (tx ts)))(hc:dM (gF ts) v <=254):
   ∃g,cU (v.map (tx ts))=some g/\g.ok/\cD g=true/\ge g=v.map (tx ts):=by
 refine Ff h (.inr ?_)
 rw[uo hv]at hc
 have hne:v.map (tx ts)≠[]:=λe=>by rw[e]at h;exact h
 have:=tU hne
 omega
def wQ (ts:List Txt)(L:List Nat->Prop)(r:Option Hst):Prop:=
 match r with
 | some h=>∃v,oG (gF ts) (λv=>L v/\kP (v.map (tx ts))) v/\dM (gF ts) v <=254/\cU (v.map (tx ts))=some h
 | none=>∀v,L v->kP (v.map (tx ts))->254<dM (gF ts) v
theorem wQ.congr {ts:List Txt}{L L':List Nat->Prop}{r:Option Hst}(h:wQ ts L r)(e:∀v,L v ↔ L' v):wQ ts L' r:=by
 cases r with
 | some g=>
   obtain⟨v,h1,h2,h3⟩:=h
   exact⟨v,h1.congr λu=>by rw[e u],h2,h3⟩
 | none=>exact λv hv=>h v ((e v).2 hv)
theorem Bk {ts:List Txt}(hl:ts.length <=60)(hx:∀t∈ts,t.length <=1000):pk (gF ts):=by
 intro c hc
 obtain⟨x,hx',rfl⟩:=List.mem_map.1 hc
 rw[List.mem_range]at hx'
 rcases Nat.lt_or_ge x ts.length with h|h
 · rw[Jr h]
   have:=hx _ (List.getElem_mem h)
   omega
 · have:x=ts.length:=by omega
   subst this
   rw[Cb]
   have:=(gz (pE hl)).2.1
   omega
theorem Cs:∀{t:List Txt},(∀x∈t,1 <=x.length)->2*t.length <=jt t
 | [],_=>Nat.le_refl _
 | x::t,h=>by
   have h1:=h x List.mem_cons_self
   have h2:=Cs λy hy=>h y (List.mem_cons_of_mem _ hy)
   simp only[List.length_cons,jt];omega
theorem D7 {h:Hst}(o:h.ok)(hr:cD h=true):(ge h).length <=127:=by
 by_cases hk:h.kind=1
 · have h1:=Cs (t:=ge h) λx hx=>by
     have e:ge h=(bX h).reverse:=by unfold ge;rw[if_pos hr,if_pos hk]
     rw[e]at hx
     exact(gz (rz o x (by simpa using hx))).1
   have:=EP o hr
   omega
 · have e:ge h=[gT h]:=by unfold ge;rw[if_pos hr,if_neg hk]
   rw[e];simp
theorem zy {w:World}{A:Bl}{a:Option Addr}{n c:Nat}{xs:List Int}(hs:Sl bY w A a n c xs)(y:Int):Cf dO #[.slice a n c,vI y] w (Ret λv w'=>v=.bool (decide (y∈xs))/\w'=w):=by
 have hn:=hs.len
 subst hn
 have hle:=hs.le
 apply j7
 refine aw (K:=λv w'=>∃i:Int,v=vI i/\(decide (i >=0))=(decide (y∈xs))/\w'=w) ?_ ?_
 · apply lC
   refine⟨λm i w'=>∃j:Nat,j <=xs.length/\i=(j:Int)/\m=xs.length-j/\y ∉ xs.take j/\w'=w,⟨_,0,by omega,rfl,rfl,by simp,rfl⟩,?_⟩
   intro m i
   refine aL.of ?_ _
   rintro w' ⟨j,hj,rfl,rfl,hno,hw'⟩
   rw[hw'];clear hw'
   refine ah.of (λh=>?_) (λh=>?_) <;> simp only[dTx,dFx]at h
   · have hlt:j<xs.length:=by omega
     refine⟨⟨⟨by omega,h⟩,hs.isSome hlt⟩,_,hs.num aC hlt,?_⟩
     refine ah.of (λh3=>?_) (λh3=>?_)
     · have:y=xs[j]:=by simpa using h3
       refine⟨_,rfl,?_,rfl⟩
       rw[decide_eq_true (by omega),decide_eq_true (by rw[this];exact List.getElem_mem hlt)]
     · have hne:y≠xs[j]:=by simpa using h3
       refine⟨xs.length-(j+1),by omega,j+1,by omega,by rw[ar (by omega) (by omega)];omega,rfl,?_,rfl⟩
       rw[List.take_succ_eq_append_getElem hlt,List.mem_append]
       rintro(h1|h1)
       · exact hno h1
       · exact hne (by simpa using h1)
   · have:j=xs.length:=by omega
     subst this
     rw[List.take_length]at hno
     exact⟨_,rfl,by rw[decide_eq_false hno];decide,rfl⟩
 · rintro _ w3 ⟨i,rfl,hi,hw3⟩
   exact⟨_,rfl,by rw[hi],hw3⟩
theorem DC {w:World}{A:Bl}{a:Option Addr}{n c:Nat}{L:Nat}(hs:Sl ij w A a n c (List.replicate L false++[true])):Cf bG #[.slice a n c,.bool true] w (Ret λv w'=>v=vI ((L:Nat):Int)/\w'=w):=by
 have hn:=hs.len
 subst hn
 have hle:=hs.le
 have hlen:(List.replicate L false++[true]).length=L+1:=by simp
 apply fP
 refine⟨λm i w'=>∃j:Nat,j <=L/\i=(j:Int)/\m=L-j/\w'=w,⟨_,0,by omega,rfl,rfl,rfl⟩,?_⟩
 intro m i
 refine aL.of ?_ _
 rintro w' ⟨j,hj,rfl,rfl,hw'⟩
 rw[hw'];clear hw'
 have hlt:j<(List.replicate L false++[true]).length:=by omega
 obtain⟨v,hv,hrep⟩:=hs.load1 (P:=prog) (i:=(j:Int)) dl rfl rfl (by simpa using hlt)
 have hb:=xW hrep
 subst hb
 simp only[Int.toNat_natCast]at hv
 refine ah.yes (decide_eq_true (by omega)) ⟨⟨⟨by omega,by omega⟩,hs.isSome hlt⟩,_,hv,?_⟩
 rcases Nat.lt_or_ge j L with h|h
 · have e:(List.replicate L false++[true])[j]=false:=by rw[List.getElem_append_left (by simpa using h)];simp
   rw[e]
   exact ah.no rfl ⟨L-(j+1),by omega,j+1,by omega,by rw[ar (by omega) (by omega)];omega,rfl,rfl⟩
 · have:j=L:=by omega
   subst this
   have e:(List.replicate j false++[true])[j]=true:=by rw[List.getElem_append_right (by simp)];simp
   rw[e]
   exact ah.yes rfl ⟨rfl,rfl⟩
def kB (ts:List Txt)(h:Hst):Bool:= !decide (hwV ts h=[]) && !decide (((ts.length:Nat):Int)∈hwV ts h)
theorem Bq {ts:List Txt}{h:Hst}(o:h.ok)(hk:kB ts h=true):cD h=true:=by
 refine(HF o).1 λe=>?_
 unfold kB at hk
 rw[Bool.and_eq_true]at hk
 have:=hk.1
 unfold hwV at this
 rw[e]at this
 simp at this
def KC (ts:List Txt)(h:Hst)(w:World)(v:Value)(w':World):Prop:=bW w w'/\
 if kB ts h=true then ∃(a:Option Addr) (n c:Nat),v=.tuple #[.slice a n c,vI 0]/\Ow bY aq w' NoB a n c (hwV ts h)/\br w.heap.size a else v=.tuple #[.slice none 0 0,vI 181]
theorem mp {h:Hst}(o:h.ok)(hn:h.name.length <=1000000){w:World}(he:Env w){p:Option Addr}{ts:List Txt}(hA:fH w p ts)(htl:ts.length <=100000):Cf gO #[.pointer p,h.v] w (Ret (KC ts h w)):=by
 apply rN
 intro k3 w3 hk3 hw3
 have hb3:=(hw3▸af w _:bW w w3)
 have A3:ai w3 k3 am h.cells:=ai.new hk3 hw3
 refine⟨_,bF.load0 A3 (Hst.len o),?_⟩
 refine aw (uu o hn (he.step hb3) (hA.below hb3)) ?_
 rintro _ w9 ⟨a,n,c,rfl,ho,hf,hb9⟩
 have hB:=ab hb3 hb9 hb3.size
 refine⟨_,_,_,rfl,ah.of (λh1=>⟨hB,?_⟩) (λh1=>?_)⟩
 · have h1:((n:Nat):Int)=0:=by simpa using h1
   have e:hwV ts h=[]:=List.length_eq_zero_iff.1 (by have:=ho.len;omega)
   rw[if_neg (by unfold kB;rw[e];simp)]
 · have h1:((n:Nat):Int)≠0:=by simpa using h1
   have e:hwV ts h≠[]:=λe=>h1 (by rw[ho.len,e];rfl)
   refine aw (ci p ts (by omega) w9 (hA.below hB)) ?_
   rintro _ w16 ⟨rfl,rfl⟩
   refine⟨_,rfl,?_⟩
   try dsimp only
   rw[show i64.wrap ((ts.length:Int)+1-1)=((ts.length:Nat):Int) from by rw[ar (by omega) (by omega)];omega]
   refine aw (zy ho.all _) ?_
   rintro _ w18 ⟨rfl,rfl⟩
   refine⟨_,rfl,ah.of (λh2=>⟨hB,?_⟩) (λh2=>⟨hB,?_⟩)⟩
   · rw[if_neg (by unfold kB;rw[h2];simp)]
   · rw[if_pos (by unfold kB;rw[h2];simp[e])]
     exact⟨a,n,c,rfl,ho,hf.mono hb3.size⟩
def eI (ok:Bool)(d:DA)(w:World)(v:Value)(w':World):Prop:=if ok=true then pj w d v w' else v=.tuple #[daV none 0 0 none 0 0 ⟨0,0,[],[]⟩,vI 181]/\bW w w'
theorem eI.no {d:DA}{w w':World}(h:bW w w'):eI false d w (.tuple #[daV none 0 0 none 0 0 ⟨0,0,[],[]⟩,vI 181]) w':=⟨rfl,h⟩
theorem eI.yes {d:DA}{w w':World}{v:Value}(h:pj w d v w'):eI true d w v w':=h
theorem AG (ts:List Txt){h:Hst}(o:h.ok)(hk:kB ts h=true):(lL ts h).length <=127:=by
 unfold lL
 rw[List.length_map]
 exact D7 o (Bq o hk)
theorem vY {h:Hst}(o:h.ok)(hn:h.name.length <=1000000){w:World}(he:Env w){p:Option Addr}{ts:List Txt}(hA:fH w p ts)(htl:ts.length <=511):
   Cf fI #[.pointer p,h.v] w (Ret (eI (kB ts h) (chD (ts.length+1) (lL ts h) 0) w)):=by
 apply uY
 intro k3 w3 hk3 hw3 k4 w4 hk4 hw4
 have hb3:=(hw3▸af w _:bW w w3)
 have hb4:=(hw4▸af w3 _:bW w3 w4)
 have A3:ai w3 k3 am h.cells:=ai.new hk3 hw3
 have A4:ai w4 k4 ae [vI 0,vI 0,.slice none 0 0,.slice none 0 0]:=ai.new hk4 hw4
 have hB4:=ab hb3 hb4 hb3.size
 refine⟨_,bF.load0 (A3.below hb4) (Hst.len o),?_⟩
 refine aw (mp o hn (he.step hB4) (hA.below hB4) (by omega)) ?_
 rintro v w11 ⟨hb11,hv⟩
 have hB:=ab hB4 hb11 hB4.size
 have hlt:=A4.lt
 have ho4:w.heap.size <=k4:=by have:=hb3.size;omega
 cases hk:kB ts h with
 | false=>
   rw[if_neg (by rw[hk];simp)]at hv
   subst hv
   obtain⟨wx,s1,s2,g1⟩:=cR (A4.below hb11) rfl none 0 0 none 0 0 ⟨0,0,[],[]⟩
   exact⟨none,0,0,181,rfl,ah.yes rfl ⟨wx,s1,_,_,none,0,0,none,0,0,s2,eI.no (Below.put hB g1 ho4)⟩⟩
 | true=>
   rw[if_pos hk]at hv
   obtain⟨a,n,c,rfl,ho,hf⟩:=hv
   refine⟨a,n,c,0,rfl,ah.no rfl ?_⟩
   refine aw (ci p ts (by omega) w11 (hA.below hB)) ?_
   rintro _ w19 ⟨rfl,rfl⟩
   refine⟨_,rfl,?_⟩
   have hs:Sl bY w19 jD a n c ((lL ts h).map fun(x:Nat)=>(x:Int)):=by rw[<- I4];exact ho.all
   have e1:((ts.length:Int)+1)=((ts.length+1:Nat):Int):=by omega
   rw[e1]
   refine aw (tZ hs (k:=ts.length+1) (by omega) (by omega) (tC ts h) (by have:=AG ts o hk;omega)) ?_
   rintro _ w21 ⟨a1,n1,c1,b1,m1,e1',rfl,O,hb21⟩
   obtain⟨wx,s1,s2,g1⟩:=cR ((A4.below hb11).below hb21) rfl a1 n1 c1 b1 m1 e1' (chD (ts.length+1) (lL ts h) 0)
   have hB21:=ab hB hb21 hB.size
   have hs19:=hb11.size
   exact⟨_,_,a1,n1,c1,b1,m1,e1',_,rfl,wx,s1,_,_,a1,n1,c1,b1,m1,e1',s2,eI.yes ⟨a1,n1,c1,b1,m1,e1',rfl,(O.put g1 (by omega)).mono hB.size,Below.put hB21 g1 ho4⟩⟩
theorem rM (a:Option Addr)(b:Value)(c:Bool){w K}(h:nA w (.cells (Value.cells b) am) λd e=>nA e (.cells #[vI 0,vI 0,.slice none 0 0,.slice none 0 0] ae) λf g=>∃i,Ld am (vA d 0) g i/\Cf gO #[.pointer a,i] g λj k=>∃l m n o,j=rT #[.slice l m n,vI o]/\ah (o !=(0:Int)) (∃p,Sv ae (vA f 0) (.agg #[vI 0,vI 0,.slice none 0 0,.slice none 0 0]) k p/\∃q r s t u v x y,Rv ae (vA f 0) p (.agg #[vI q,vI r,.slice s t u,.slice v x y])/\K (.tuple #[.agg #[vI q,vI r,.slice s t u,.slice v x y],vI o]) p) (∃p:FP [],(∃q:FP [.one .bool],(true/\∃r,Ld aq (vA d 0) k (vI r)/\ah (r !=(1:Int)) (q c k) (q false k))/\∀r,aL 5 (∀s,q r s->ah r (uI aO #[.pointer a] s λt u=>Cf nZ #[vI t,.slice l m n] u λv x=>∃y z A B C D E F G,v=rT #[.agg #[vI y,vI z,.slice A B C,.slice D E F],vI G]/\∃H,Sv ae (vA f 0) (.agg #[vI y,vI z,.slice A B C,.slice D E F]) x H/\∃I J L M N O P Q,Rv ae (vA f 0) H (.agg #[vI I,vI J,.slice L M N,.slice O P Q])/\K (.tuple #[.agg #[vI I,vI J,.slice L M N,.slice O P Q],vI G]) H) (p s)))/\aL 13 (∀q,p q->true/\∃r,Ld aq (vA d 0) q (vI r)/\ah (r !=(1:Int)) (uI aO #[.pointer a] q λs t=>Cf lj #[vI s] t λu v=>∃x y z A B C D E F,u=rT #[.agg #[vI x,vI y,.slice z A B,.slice C D E],vI F]/\∃G,Sv ae (vA f 0) (.agg #[vI x,vI y,.slice z A B,.slice C D E]) v G/\∃H I J L M N O P,Rv ae (vA f 0) G (.agg #[vI H,vI I,.slice J L M,.slice N O P])/\K (.tuple #[.agg #[vI H,vI I,.slice J L M,.slice N O P],vI F]) G) (uI aO #[.pointer a] q λs t=>Cf ku #[vI s,.slice l m n] t λu v=>∃x y z A B C D E F,u=rT #[.agg #[vI x,vI y,.slice z A B,.slice C D E],vI F]/\nA v (.cells #[vI 0,vI 0,.slice none 0 0,.slice none 0 0] ae) λG H=>∃I,Sv ae (vA G 0) (.agg #[vI x,vI y,.slice z A B,.slice C D E]) H I/\∃J:FP [],(∃L:FP [.one .bool],(ah (F !=(0:Int)) (L true I) (L c I))/\∀M,aL 4 (∀N,L M N->ah M (∃O P Q R S T U V,Ld ae (vA G 0) N (.agg #[vI O,vI P,.slice Q R S,.slice T U V])/\∃X,Sv ae (vA f 0) (.agg #[vI O,vI P,.slice Q R S,.slice T U V]) N X/\∃Y Z aa ac ad ag al an,Rv ae (vA f 0) X (.agg #[vI Y,vI Z,.slice aa ac ad,.slice ag al an])/\K (.tuple #[.agg #[vI Y,vI Z,.slice aa ac ad,.slice ag al an],vI F]) X) (J N)))/\aL 8 (∀L,J L->true/\∃M N O,Ld aH (vA G 3) L (.slice M N O)/\true/\∃P Q R,Ld aH (vA G 3) L (.slice P Q R)/\uI bG #[.slice P Q R,.bool true] L λS T=>∃U:FP [],(true/\∃V X Y,(∀Z,bW T Z->Ld aj (vA G 2) Z (.slice V X Y))/\∃Z,(∀aa,bW T aa->Cf aO #[.pointer a] aa λac ad=>ac=.returned (vI Z)/\bW aa ad)/\∀aa,T.heap.size <=aa->∃ac:FP [.one .slice],(∀ad ag al an ba,ac ad ag al an->bW an ba->ac ad ag al ba)/\(∀ad,bW T ad->ad.heap[aa]? =some (.cells #[vI ((N:Nat):Int)] aq)->uL bm #[.slice (vA aa 0) 1 1,vI Z] ad λag al an ba=>ac ag al an ba/\bW ad ba)/\∀ad ag al,∀an,bW T an->ac ad ag al an->an.heap[aa]? =some (.cells #[vI ((N:Nat):Int)] aq)->∃ba bb bc bd,(Builtin.append_ #[aj,aj] aj #[.slice V X Y,.slice ad ag al]).run prog an=.ok (.slice bb bc bd) ba/\true/\∃bj,Sv aj (vA G 2) (.slice bb bc bd) ba bj/\U bj)/\aL 9 (∀V,U V->uI aO #[.pointer a] V λX Y=>∃Z:Nat->FP [.one (.int .i64)],(∃aa,Z aa (0:Int) Y)/\∀aa ac,aL 14 (∀ad,Z aa ac ad->ah (decide (ac<X)) (true/\∃ag al an,(∀ba,bW ad ba->Ld aj (vA G 2) ba (.slice ag al an))/\∃ba,(∀bb,bW ad bb->Cf aO #[.pointer a] bb λbc bd=>bc=.returned (vI ba)/\bW bb bd)/\(bx (i64.wrap ((i64.wrap (S*ba))+ac)) ((al:Nat):Int)/\Option.isSome ag=true)/\∀bb,bW ad bb->∃bc,Sv aq (ak ag (i64.wrap ((i64.wrap (S*ba))+ac)) 1) (vI ((N:Nat):Int)) bb bc/\∃bd:Nat,bd<aa/\Z bd (i64.wrap (ac+(1:Int))) bc) (true/\∃ag al an,Ld aH (vA G 3) ad (.slice ag al an)/\(bx S ((al:Nat):Int)/\Option.isSome ag=true)/\∃ba,Sv bv (ak ag S 1) (.bool false) ad ba/\true/\∃bb bc bd,Ld aH (vA G 3) ba (.slice bb bc bd)/\nA ba (.cells #[.bool true] bv) λbj bk=>∃bl bn bq bu,(Builtin.append_ #[aH,aH] aH #[.slice bb bc bd,.slice (vA bj 0) 1 1]).run prog bk=.ok (.slice bn bq bu) bl/\true/\∃bw,Sv aH (vA G 3) (.slice bn bq bu) bl bw/\∃bz ca cc ch cl cm cn cp,Ld ae (vA G 0) bw (.agg #[vI bz,vI ca,.slice cc ch cl,.slice cm cn cp])/\∃cs,Sv ae (vA f 0) (.agg #[vI bz,vI ca,.slice cc ch cl,.slice cm cn cp]) bw cs/\∃cx da db dc dd dg ds ea,Rv ae (vA f 0) cs (.agg #[vI cx,vI da,.slice db dc dd,.slice dg ds ea])/\K (.tuple #[.agg #[vI cx,vI da,.slice db dc dd,.slice dg ds ea],vI 0]) cs)))))))):Cf jP #[.pointer a,b,.bool c] w (Ret K):=ru func51 [(12,[]),(13,[(29,.one .bool)]),(30,[]),(31,[(55,.one .bool)]),(42,[]),(3000043,[(0,.one .bool),(2,.one .bool),(4,.one .bool),(1,.one .bool),(5,.one .bool),(3,.one .bool),(6,.one .slice)]),(48,[(75,.one (.int .i64))]),(3000059,[(0,.one .bool),(2,.one .bool),(3,.one .bool),(6,.one .bool),(8,.one .bool),(1,.one .bool),(4,.one .bool),(5,.one .bool),(7,.one .bool),(9,.one .bool)])] h
def upD (k:Nat)(w:List Nat):DA:=⟨(k:Int),1,fR k (w.length+1) ((w.length+2:Nat):Int) (Ed k w ((w.length+1:Nat):Int)++nv k ((w.length+2:Nat):Int)) k,(Ec w).set (w.length+1) false++[true]⟩
def Da (ts:List Txt)(h:Hst)(itself:Bool):DA:=
 if h.kind≠1 then(if itself=true then chD (ts.length+1) (lL ts h) 0 else noD (ts.length+1))
 else if itself=true then chD (ts.length+1) (lL ts h) (((lL ts h).length+1:Nat):Int)else upD (ts.length+1) (lL ts h)
abbrev Mb:=Em ae aq bv
structure UpS (wB:World)(k10 lo:Nat)(d:DA)(a:Option Addr)(n c:Nat)(b:Option Addr)(m e:Nat)(W:World):Prop where
 mb:Mb W k10 a n c b m e d
 bel:bW wB W
 fa:∀g,bi a=some g->wB.heap.size <=g
 fb:∀g,bi b=some g->wB.heap.size <=g
 le:lo <=W.heap.size
set_option maxHeartbeats 1000000 in
theorem sK {h:Hst}(o:h.ok)(hn:h.name.length <=1000000){w:World}(he:Env w){p:Option Addr}{ts:List Txt}(hA:fH w p ts)(htl:ts.length <=511)(itself:Bool):
   Cf jP #[.pointer p,h.v,.bool itself] w (Ret (eI (kB ts h) (Da ts h itself) w)):=by
 apply rM
 intro k4 w4 hk4 hw4 k6 w6 hk6 hw6
 have hb4:=(hw4▸af w _:bW w w4)
 have hb6:=(hw6▸af w4 _:bW w4 w6)
 have A4:ai w4 k4 am h.cells:=ai.new hk4 hw4
 have A6:ai w6 k6 ae [vI 0,vI 0,.slice none 0 0,.slice none 0 0]:=ai.new hk6 hw6
 have hB6:=ab hb4 hb6 hb4.size
 refine⟨_,bF.load0 (A4.below hb6) (Hst.len o),?_⟩
 refine aw (mp o hn (he.step hB6) (hA.below hB6) (by omega)) ?_
 rintro v w17 ⟨hb17,hv⟩
 have hB:=ab hB6 hb17 hB6.size
 have hlt:=A6.lt
 have ho6:w.heap.size <=k6:=by have:=hb4.size;omega
 have hs17:=hb17.size
 cases hk:kB ts h with
 | false=>
   rw[if_neg (by rw[hk];simp)]at hv
   subst hv
   obtain⟨wx,s1,s2,g1⟩:=cR (A6.below hb17) rfl none 0 0 none 0 0 ⟨0,0,[],[]⟩
   exact⟨none,0,0,181,rfl,ah.yes rfl ⟨wx,s1,_,_,none,0,0,none,0,0,s2,eI.no (Below.put hB g1 ho6)⟩⟩
 | true=>
   rw[if_pos hk]at hv
   obtain⟨a,n,c,rfl,ho,hf⟩:=hv
   have hwl:=AG ts o hk
   have hlen:((ts.length:Int)+1)=((ts.length+1:Nat):Int):=by omega
   have hs17':Sl bY w17 jD a n c ((lL ts h).map fun(x:Nat)=>(x:Int)):=by rw[<- I4];exact ho.all
   have A4b:=(A4.below hb6).below hb17
   have A6b:=A6.below hb17
   refine⟨a,n,c,0,rfl,ah.no rfl ?_⟩
   have fin:∀{d:DA} {v:Value} {w21:World},d=Da ts h itself->pj w17 d v w21->∃(a1:Option Addr) (n1 c1:Nat) (b1:Option Addr) (m1 e1:Nat),v=.tuple #[daV a1 n1 c1 b1 m1 e1 d,vI 0]/\∃wx,(Instr.storeAt ae (.pointer (some ⟨k6,0,none⟩)) (daV a1 n1 c1 b1 m1 e1 d)).run prog w21=.ok () wx/\
       (bE ae (.pointer (some ⟨k6,0,none⟩))).run prog wx=.ok (daV a1 n1 c1 b1 m1 e1 d) wx/\eI true (Da ts h itself) w (.tuple #[daV a1 n1 c1 b1 m1 e1 d,vI 0]) wx:=by
     rintro d v w21 rfl ⟨a1,n1,c1,b1,m1,e1,rfl,O,hb21⟩
     obtain⟨wx,s1,s2,g1⟩:=cR (A6b.below hb21) rfl a1 n1 c1 b1 m1 e1 (Da ts h itself)
     exact⟨a1,n1,c1,b1,m1,e1,rfl,wx,s1,s2,eI.yes ⟨a1,n1,c1,b1,m1,e1,rfl,(O.put g1 (by omega)).mono hB.size,Below.put (ab hB hb21 hB.size) g1 ho6⟩⟩
   refine⟨λw'=>w'=w17/\ ¬ (h.kind≠1/\itself=true),⟨λb w'=>w'=w17/\b=(decide (h.kind≠1)&&itself),⟨rfl,h.kind,A4b.load1 aC rfl rfl,?_⟩,λb=>aL.of ?_ _⟩,aL.of ?_ _⟩
   · refine ah.of (λh1=>⟨rfl,?_⟩) (λh1=>⟨rfl,?_⟩)
     · have:h.kind≠1:=by simpa using h1
       simp[this]
     · have:h.kind=1:=by simpa using h1
       simp[this]
   · rintro wj ⟨rfl,rfl⟩
     refine ah.of (λh1=>?_) (λh1=>⟨rfl,λhc=>?_⟩)
     · rw[Bool.and_eq_true,dTx]at h1
       refine aw (ci p ts (by omega) wj (hA.below hB)) ?_
       rintro _ w31 ⟨rfl,hw31⟩
       rw[hw31];clear hw31 w31
       refine⟨_,rfl,?_⟩
       rw[hlen]
       refine aw (tZ hs17' (k:=ts.length+1) (by omega) (by omega) (tC ts h) (by omega)) ?_
       intro v w33 hD
       obtain⟨a1,n1,c1,b1,m1,e1,rfl,wx,s1,s2,hP⟩:=fin (by unfold Da;rw[if_pos h1.1,if_pos h1.2]) hD
       exact⟨_,_,a1,n1,c1,b1,m1,e1,_,rfl,wx,s1,_,_,a1,n1,c1,b1,m1,e1,s2,hP⟩
     · rw[hc.2,decide_eq_true hc.1]at h1;cases h1
   rintro wj ⟨hwj,hno⟩
   obtain rfl:w17=wj:=hwj.symm
   clear hwj
   refine⟨rfl,h.kind,A4b.load1 aC rfl rfl,ah.of (λh1=>?_) (λh1=>?_)⟩
   · have hk1:h.kind≠1:=by simpa using h1
     have hi: ¬ itself=true:=λhc=>hno ⟨hk1,hc⟩
     refine aw (ci p ts (by omega) w17 (hA.below hB)) ?_
     rintro _ w40 ⟨rfl,hw40⟩
     rw[hw40];clear hw40 w40
     refine⟨_,rfl,?_⟩
     rw[hlen]
     refine aw (pz (k:=ts.length+1) (by omega) (by omega)) ?_
     intro v w41 hD
     obtain⟨a1,n1,c1,b1,m1,e1,rfl,wx,s1,s2,hP⟩:=fin (by unfold Da;rw[if_pos hk1,if_neg hi]) hD
     exact⟨_,_,a1,n1,c1,b1,m1,e1,_,rfl,wx,s1,_,_,a1,n1,c1,b1,m1,e1,s2,hP⟩
   have hk1:h.kind=1:=by simpa using h1
   refine aw (ci p ts (by omega) w17 (hA.below hB)) ?_
   rintro _ w46 ⟨rfl,hw46⟩
   rw[hw46];clear hw46 w46
   refine⟨_,rfl,?_⟩
   rw[hlen]
   refine aw (qd hs17' (k:=ts.length+1) (by omega) (by omega) (tC ts h) (by omega)) ?_
   rintro _ w48 ⟨a1,n1,c1,b1,m1,e1,rfl,O,hb48⟩
   obtain⟨wn,hwn⟩:∃wn,wn=lL ts h:=⟨_,rfl⟩
   obtain⟨k,hkk⟩:∃k,k=ts.length+1:=⟨_,rfl⟩
   obtain⟨D,hD⟩:∃D,D=chD k wn ((wn.length+1:Nat):Int):=⟨_,rfl⟩
   rw[<- hwn,<- hkk,<- hD]at O
   rw[<- hwn,<- hkk,<- hD]
   rw[<- hwn]at hwl
   have hB48:=ab hB hb48 hB.size
   refine⟨_,_,a1,n1,c1,b1,m1,e1,_,rfl,?_⟩
   intro k10 w10 hk10 hw10
   have hb10:=(hw10▸af w48 _:bW w48 w10)
   have A10:ai w10 k10 ae [vI 0,vI 0,.slice none 0 0,.slice none 0 0]:=ai.new hk10 hw10
   obtain⟨wx,s3,v3,g3⟩:=bh.store0 (P:=prog) (cs:=daL a1 n1 c1 b1 m1 e1 D) rfl (dt _ _ _ _ _ _ _) A10 rfl
   have hbx:bW w48 wx:=Below.put hb10 g3 (by omega)
   have M0:Mb wx k10 a1 n1 c1 b1 m1 e1 D:=⟨v3,O.nx.below hbx,O.ac.below hbx,λg hg e=>by have:=O.nx.lt g hg;omega,λg hg e=>by have:=O.ac.lt g hg;omega,O.ne⟩
   have hBx:=ab hB48 hbx hB48.size
   have hs48:=hb48.size
   have hs10:=hb10.size
   have hsx:=hbx.size
   refine⟨wx,s3,?_⟩
   refine⟨λw'=>w'=wx/\itself=false,⟨λb w'=>w'=wx/\b=itself,ah.no rfl ⟨rfl,rfl⟩,λb=>aL.of ?_ _⟩,aL.of ?_ _⟩
   · rintro wj2 ⟨rfl,rfl⟩
     refine ah.of (λh2=>?_) (λh2=>⟨rfl,h2⟩)
     refine⟨_,_,a1,n1,c1,b1,m1,e1,bh.load0 (cs:=daL a1 n1 c1 b1 m1 e1 D) M0.var rfl,?_⟩
     have A6x:=(A6b.below hb48).below hbx
     obtain⟨w4x,s4,s5,g4⟩:=cR A6x rfl a1 n1 c1 b1 m1 e1 D
     have eD:D=Da ts h b:=by unfold Da;rw[if_neg (λhc=>hc hk1),if_pos h2,hD,<- hwn,<- hkk]
     refine⟨w4x,s4,_,_,a1,n1,c1,b1,m1,e1,s5,?_⟩
     rw[<- eD]
     exact eI.yes ⟨a1,n1,c1,b1,m1,e1,rfl,((O.below hbx).put g4 (by omega)).mono hB.size,Below.put hBx g4 ho6⟩
   rintro wj2 ⟨hwj,hi⟩
   obtain rfl:wx=wj2:=hwj.symm
   clear hwj
   have hm1:=O.ac.len
   have hn1:=O.nx.len
   have hacl:D.ac.length=wn.length+2:=by rw[hD];exact lP wn
   have hnxl:D.nx.length=(wn.length+2)*k:=by rw[hD];exact Cm _ _ _
   have hkle:1 <=k/\k <=512:=by omega
   refine⟨rfl,b1,m1,e1,M0.var.load1 aS rfl rfl,rfl,b1,m1,e1,M0.var.load1 aS rfl rfl,?_⟩
   have hac:D.ac=List.replicate (wn.length+1) false++[true]:=by rw[hD];rfl
   have hsac:Sl ij wx jD b1 m1 e1 (List.replicate (wn.length+1) false++[true]):=by rw[<- hac];exact M0.ac.all
   refine aw (DC hsac) ?_
   rintro _ w63 ⟨rfl,hw63⟩
   rw[hw63];clear hw63 w63
   refine⟨_,rfl,?_⟩
   have hAx:=hA.below hBx
   have hm1':((m1:Nat):Int)=((wn.length+2:Nat):Int):=by omega
   rw[hm1']
   refine⟨λW=>∃a' n' c',UpS w17 k10 wx.heap.size ⟨D.k,D.st,D.nx++nv k ((wn.length+2:Nat):Int),D.ac⟩ a' n' c' b1 m1 e1 W,⟨rfl,a1,n1,c1,λu hu=>(M0.var.below hu).load1 aA rfl rfl,((ts.length:Int)+1),λu hu=>?_,λk67 hk67=>?_⟩,aL.of ?_ _⟩
   · refine(ci p ts (by omega) u (hAx.below hu)).mono ?_
     rintro e w' ⟨v,rfl,rfl,rfl⟩
     exact⟨rfl,Below.refl _ _⟩
   · refine⟨λaa ll cc W=>ll=k/\cc=k/\Sl bY W (λg=>wx.heap.size <=g) aa ll cc (nv k ((wn.length+2:Nat):Int)),?_,?_,?_⟩
     · rintro aa ll cc x y ⟨rfl,rfl,hs⟩ hb
       exact⟨rfl,rfl,hs.below hb⟩
     · intro u70 hu hcell
       have hsl:Sl bY u70 jD (some ⟨k67,0,none⟩) 1 1 [((wn.length+2:Nat):Int)]:=by
         refine⟨rfl,Nat.le_refl _,by decide,.inr ⟨k67,0,rfl,(Array.getElem?_eq_some_iff.1 hcell).1,trivial,[vI ((wn.length+2:Nat):Int)],gr.one cS,λj hj=>?_⟩⟩
         rw[eQ hcell,Nat.zero_add];simp
       rw[hlen,<- hkk]
       refine(lA hsl hkle.1 (by omega)).mono ?_
       rintro _ w70 ⟨_,rfl,a',rfl,ho',hf',hb'⟩
       refine⟨a',k,k,rfl,⟨rfl,rfl,ho'.sl (λb _ hb=>hb.elim) λg hg=>?_⟩,hb'⟩
       have:=hf' g hg
       have:=hu.size
       omega
     rintro aa ll cc wq hq ⟨hll,hcc,hs⟩ hcell
     rw[hll,hcc]at hs
     rw[hll,hcc]
     have Mq:=M0.below hq
     obtain⟨w71,a3,n3,c3,r71,o71,g71,f71⟩:=cr (ty:=aj) aA dk (by decide) Mq.nx (λ_ _ h=>h) (cm:=k) (hs.flat dF) (by rw[hnxl];simp[nv];have:(wn.length+2)*k <=129*512:=Nat.mul_le_mul (by omega) (by omega);omega)
     have v71:=Mq.var.grown g71 λex=>M0.na k10 ex.symm rfl
     have hqs:=hq.size
     have kl:=M0.var.lt
     have hne3:∀g,bi a3=some g->g≠k10:=λg hg ex=>by
       rcases f71 g hg with h1|h1
       · exact M0.na g h1 ex
       · omega
     have o71b:=Mq.ac.other g71 λg hg ex=>M0.ne g ex hg
     obtain⟨w5,s5,v5,g5⟩:=v71.store fF (i:=2) (v:=.slice a3 n3 c3) rfl (by simp) (by intro c hc;simp[Value.cells]at hc;subst hc;rfl)
     have v5:ai w5 k10 ae [vI D.k,vI D.st,.slice a3 n3 c3,.slice b1 m1 e1]:=v5
     have old3:∀g,bi a3=some g->w17.heap.size <=g:=λg hg=>by
       rcases f71 g hg with h1|h1
       · exact O.fa g h1
       · omega
     have hb17x:bW w17 wx:=ab hb48 hbx hb48.size
     have hb17q:bW w17 wq:=ab hb17x hq hb17x.size
     have hb5:bW w17 w5:=(hb17q.grown g71 hb17q.size λg hg=>O.fa g hg).grown g5 (Nat.le_trans hb17q.size g71.size) λx ex=>by cases ex;omega
     refine⟨w71,a3,n3,c3,r71,rfl,w5,s5,a3,n3,c3,⟨v5,o71.put (λg hg ex=>hne3 g hg ex) g5,o71b.put (λg hg ex=>M0.nb g hg ex) g5,hne3,M0.nb,λg hg ex=>?_⟩,hb5,old3,O.fb,Nat.le_trans hqs (Nat.le_trans g71.size g5.size)⟩
     rcases f71 g hg with h1|h1
     · exact M0.ne g h1 ex
     · have:=M0.ac.lt g ex;omega
   rintro w74 ⟨a2,n2,c2,U0⟩
   have hBU:∀{W:World} {d:DA} {a2:Option Addr} {n2 c2:Nat} {b2:Option Addr} {m2 e2:Nat},UpS w17 k10 wx.heap.size d a2 n2 c2 b2 m2 e2 W->bW w W:=λU=>ab hB U.bel hB.size
   refine aw (ci p ts (by omega) w74 (hA.below (hBU U0))) ?_
   rintro _ w74' ⟨rfl,hw74⟩
   rw[hw74];clear hw74 w74'
   refine⟨_,rfl,?_⟩
   have hk10x:k10<wx.heap.size:=M0.var.lt
   obtain⟨nx0,hnx0⟩:∃nx0,nx0=D.nx++nv k ((wn.length+2:Nat):Int):=⟨_,rfl⟩
   rw[<- hnx0]at U0
   have hnx0l:nx0.length=(wn.length+3)*k:=by rw[hnx0,List.length_append,hnxl,nv,List.length_replicate,<- Nat.succ_mul]
   have hmul:(wn.length+3)*k=(wn.length+1)*k+k+k:=by rw[show wn.length+3=(wn.length+1)+1+1 from rfl,Nat.succ_mul,Nat.succ_mul]
   have hmul2:(wn.length+1)*k <=128*512:=Nat.mul_le_mul (by omega) (by omega)
   rw[hlen,<- hkk]
   refine⟨λm i W=>∃(j:Nat) (a2:Option Addr) (n2 c2:Nat),j <=k/\i=(j:Int)/\m=k-j/\UpS w17 k10 wx.heap.size ⟨D.k,D.st,fR k (wn.length+1) ((wn.length+2:Nat):Int) nx0 j,D.ac⟩ a2 n2 c2 b1 m1 e1 W,⟨_,0,a2,n2,c2,by omega,rfl,rfl,U0⟩,?_⟩
   intro m i
   refine aL.of ?_ _
   rintro wl ⟨j,a4,n4,c4,hj,rfl,rfl,U⟩
   have hn4:=U.mb.nx.len
   have hn4':n4=(wn.length+3)*k:=by rw[hn4];show(fR _ _ _ _ _).length=_;rw[rY];exact hnx0l
   refine ah.of (λh3=>?_) (λh3=>?_) <;> simp only[dTx,dFx]at h3
   · have hjk:j<k:=by omega
     have hw1:i64.wrap (((wn.length+1:Nat):Int)*((k:Nat):Int))=(((wn.length+1)*k:Nat):Int):=by
       rw[<- Int.natCast_mul];exact ar (by omega) (by omega)
     have hw2:i64.wrap (i64.wrap (((wn.length+1:Nat):Int)*((k:Nat):Int))+(j:Int))=(((wn.length+1)*k+j:Nat):Int):=by
       rw[hw1,ar (by omega) (by omega)];omega
     have hidx:(wn.length+1)*k+j<(fR k (wn.length+1) ((wn.length+2:Nat):Int) nx0 j).length:=by rw[rY,hnx0l];omega
     refine⟨rfl,a4,n4,c4,λu hu=>(U.mb.var.below hu).load1 aA rfl rfl,((k:Nat):Int),λu hu=>?_,?_⟩
     · have h1:=ci p ts (by omega) u ((hA.below (hBU U)).below hu)
       rw[hlen,<- hkk]at h1
       refine h1.mono ?_
       rintro e w' ⟨v,rfl,rfl,rfl⟩
       exact⟨rfl,Below.refl _ _⟩
     rw[hw2]
     refine⟨⟨⟨by omega,by omega⟩,U.mb.nx.all.isSome hidx⟩,λwq hq=>?_⟩
     have Mq:=U.mb.below hq
     obtain⟨w6x,s6,o6,g6⟩:=Mq.nx.store (P:=prog) dk (i:=(((wn.length+1)*k+j:Nat):Int)) (k:=1) (λ_ _ h=>h) (by rw[Int.toNat_natCast];exact hidx) rfl (v:=vI ((wn.length+2:Nat):Int)) (x:=((wn.length+2:Nat):Int)) cS
     rw[Int.toNat_natCast]at o6
     refine⟨w6x,s6,k-(j+1),by omega,j+1,a4,n4,c4,by omega,by rw[ar (by omega) (by omega)];omega,rfl,⟨⟨Mq.var.grown g6 (λex=>U.mb.na k10 ex.symm rfl),o6,Mq.ac.other g6 (λg hg ex=>U.mb.ne g ex hg),U.mb.na,U.mb.nb,U.mb.ne⟩,?_,U.fa,U.fb,?_⟩⟩
     · have h1:=ab U.bel hq U.bel.size
       exact h1.grown g6 h1.size λg hg=>U.fa g hg
     · exact Nat.le_trans U.le (Nat.le_trans hq.size g6.size)
   have hjk:j=k:=by omega
   subst hjk
   have kl:=U.mb.var.lt
   have hidx:(((wn.length+1:Nat):Int)).toNat<D.ac.length:=by rw[Int.toNat_natCast];omega
   refine⟨rfl,b1,m1,e1,U.mb.var.load1 aS rfl rfl,⟨⟨by omega,by omega⟩,U.mb.ac.all.isSome (i:=wn.length+1) (by show wn.length+1<D.ac.length;omega)⟩,?_⟩
   obtain⟨w7,s7,o7,g7⟩:=U.mb.ac.store (P:=prog) kW (i:=((wn.length+1:Nat):Int)) (k:=1) (λ_ _ h=>h) hidx rfl (v:=.bool false) (x:=false) od
   rw[Int.toNat_natCast]at o7
   have v7:=U.mb.var.grown g7 (λex=>U.mb.nb k10 ex.symm rfl)
   have x7:=U.mb.nx.other g7 U.mb.ne
   have B7:bW w17 w7:=U.bel.grown g7 U.bel.size λg hg=>U.fb g hg
   have s7':wl.heap.size <=w7.heap.size:=g7.size
   have hac1:(D.ac.set (wn.length+1) false).length=wn.length+2:=by rw[List.length_set];exact hacl
   refine⟨w7,s7,rfl,b1,m1,e1,v7.load1 aS rfl rfl,?_⟩
   intro k95 w95 hk95 hw95
   have hb95:=(hw95▸af w7 _:bW w7 w95)
   have hsrc:Src ij w95 NoB (some ⟨k95,0,none⟩) 1 [true]:=Src.new1F qh hk95 hw95 od
   obtain⟨w96,b3,m3,e3,r96,o96,g96,f96⟩:=cr (ty:=aH) aS kW (by decide) (o7.below hb95) (λ_ _ h=>h) (cm:=1) hsrc (by rw[hac1];simp;omega)
   have v96:=(v7.below hb95).grown g96 λex=>U.mb.nb k10 ex.symm rfl
   have x96:=(x7.below hb95).other g96 U.mb.ne
   have s95:=hb95.size
   have hne3:∀g,bi b3=some g->g≠k10:=λg hg ex=>by
     rcases f96 g hg with h1|h1
     · exact U.mb.nb g h1 ex
     · omega
   have fb3:∀g,bi b3=some g->w17.heap.size <=g:=λg hg=>by
     rcases f96 g hg with h1|h1
     · exact U.fb g h1
     · have:=B7.size;omega
   obtain⟨w8,s8,v8,g8⟩:=v96.store r5 (i:=3) (v:=.slice b3 m3 e3) rfl (by simp) (by intro c hc;simp[Value.cells]at hc;subst hc;rfl)
   have v8:ai w8 k10 ae (daL a4 n4 c4 b3 m3 e3 (upD j wn)):=by
     have e1:D.k=(j:Int):=by rw[hD];rfl
     have e2:D.st=1:=by rw[hD];rfl
     rw[e1,e2]at v8
     exact v8
   have B96:bW w17 w96:=(ab B7 hb95 B7.size).grown g96 (ab B7 hb95 B7.size).size λg hg=>U.fb g hg
   have B8:bW w17 w8:=B96.grown g8 B96.size λx ex=>by cases ex;omega
   have x8:=x96.put (λg hg ex=>U.mb.na g hg ex) g8
   have o8:=o96.put (λg hg ex=>hne3 g hg ex) g8
   have eup:(⟨D.k,D.st,fR j (wn.length+1) ((wn.length+2:Nat):Int) nx0 j,D.ac.set (wn.length+1) false++[true]⟩:DA)=upD j wn:=by
     unfold upD
     rw[hnx0,hD];rfl
   have e8n:(upD j wn).nx=fR j (wn.length+1) ((wn.length+2:Nat):Int) nx0 j:=by rw[<- eup]
   have e8a:(upD j wn).ac=D.ac.set (wn.length+1) false++[true]:=by rw[<- eup]
   obtain⟨w9,s9,s9',g9⟩:=cR (A6b.below B8) rfl a4 n4 c4 b3 m3 e3 (upD j wn)
   have eD:upD j wn=Da ts h itself:=by unfold Da;rw[if_neg (λhc=>hc hk1),if_neg (by rw[hi];simp),<- hwn,<- hkk]
   refine⟨w96,b3,m3,e3,r96,rfl,w8,s8,_,_,a4,n4,c4,b3,m3,e3,bh.load0 (cs:=daL a4 n4 c4 b3 m3 e3 (upD j wn)) v8 rfl,w9,s9,_,_,a4,n4,c4,b3,m3,e3,s9',?_⟩
   rw[<- eD]
   have OO:ri w17.heap.size w8 a4 n4 c4 b3 m3 e3 (upD j wn):=⟨by rw[e8n];exact x8,by rw[e8a];exact o8,λg hg ex=>by
     rcases f96 g ex with h1|h1
     · exact U.mb.ne g hg h1
     · have:=x7.lt g hg;omega,U.fa,fb3⟩
   exact eI.yes ⟨a4,n4,c4,b3,m3,e3,rfl,(OO.put g9 (by omega)).mono hB.size,Below.put (ab hB B8 hB.size) g9 ho6⟩
theorem ry {h:Hst}(o:h.ok)(hn:h.name.length <=1000000){w:World}(he:Env w){p:Option Addr}{ts:List Txt}(hA:fH w p ts)(htl:ts.length <=511):
   Cf dv #[.pointer p,h.v] w (Ret (eI (kB ts h) (Da ts h true) w)):=by
 apply qF
 intro k3 w3 hk3 hw3 k4 w4 hk4 hw4
 have hb3:=(hw3▸af w _:bW w w3)
 have hb4:=(hw4▸af w3 _:bW w3 w4)
 have A3:ai w3 k3 am h.cells:=ai.new hk3 hw3
 have A4:ai w4 k4 ae [vI 0,vI 0,.slice none 0 0,.slice none 0 0]:=ai.new hk4 hw4
 have hB4:=ab hb3 hb4 hb3.size
 have hlt:=A4.lt
 have ho4:w.heap.size <=k4:=by have:=hb3.size;omega
 refine⟨_,bF.load0 (A3.below hb4) (Hst.len o),?_⟩
 refine aw (sK o hn (he.step hB4) (hA.below hB4) htl true) ?_
 intro v w8 hS
 cases hk:kB ts h with
 | false=>
   rw[hk]at hS
   obtain⟨rfl,hb8⟩:=hS
   obtain⟨wx,s1,s2,g1⟩:=cR (A4.below hb8) rfl none 0 0 none 0 0 ⟨0,0,[],[]⟩
   exact⟨_,_,none,0,0,none,0,0,_,rfl,wx,s1,_,_,none,0,0,none,0,0,s2,eI.no (Below.put (ab hB4 hb8 hB4.size) g1 ho4)⟩
 | true=>
   rw[hk]at hS
   obtain⟨a1,n1,c1,b1,m1,e1,rfl,O,hb8⟩:=hS
   obtain⟨wx,s1,s2,g1⟩:=cR (A4.below hb8) rfl a1 n1 c1 b1 m1 e1 (Da ts h true)
   exact⟨_,_,a1,n1,c1,b1,m1,e1,_,rfl,wx,s1,_,_,a1,n1,c1,b1,m1,e1,s2,eI.yes ⟨a1,n1,c1,b1,m1,e1,rfl,(O.put g1 hlt).mono hB4.size,Below.put (ab hB4 hb8 hB4.size) g1 ho4⟩⟩
theorem Hz {ok:Bool}{d:DA}{w:World}{v:Value}{w':World}(h:eI ok d w v w'):∃(err:Int) (D:DA) (a:Option Addr) (n c:Nat) (b:Option Addr) (m e:Nat),v=.tuple #[daV a n c b m e D,vI err]/\ri w.heap.size w' a n c b m e D/\bW w w'/\(ok=true/\err=0/\D=d\/ok=false/\err=181):=by
 unfold eI at h
 cases ok with
 | true=>
   rw[if_pos rfl]at h
   obtain⟨a,n,c,b,m,e,rfl,O,hb⟩:=h
   exact⟨0,d,a,n,c,b,m,e,rfl,O,hb,.inl ⟨rfl,rfl,rfl⟩⟩
 | false=>
   rw[if_neg (by decide)]at h
   obtain⟨rfl,hb⟩:=h
   exact⟨181,⟨0,0,[],[]⟩,none,0,0,none,0,0,rfl,⟨Ow.nil _ _ _ _,Ow.nil _ _ _ _,(λg hg=>by cases hg),br.none _,br.none _⟩,hb,.inr ⟨rfl,rfl⟩⟩
def K2 (ts:List Txt)(h:Hst)(only:Bool):DA:=if only=true then chD (ts.length+1) (lL ts h) 0 else Da ts h true
def ofR (ts:List Txt)(c:Cky)(now:Int):Rgn:=
 ⟨K2 ts c.host c.only,cK c.path,decide (now<c.exp) && !c.sec,decide (now<c.exp),decide (now<c.exp),decide (now<c.exp)&&(c.same !=3),decide (now<c.exp)&&(c.same==1)⟩
def JG (ok:Bool)(r:Rgn)(er:Int)(w:World)(v:Value)(w':World):Prop:=bW w w'/\
 if ok=true then ∃x y,v=.tuple #[r.v x y,vI 0]/\RgO w.heap.size w' r x y else v=.tuple #[rg0.v rp0 rp0,vI er]
theorem Gm:Whl prog gu 2:=⟨⟨_,_,Aw⟩,by kernel_rfl⟩
theorem Gn:Whl prog gv 3:=⟨⟨_,_,Ax⟩,by kernel_rfl⟩
set_option maxHeartbeats 1000000 in
theorem Ac {c:Cky}(o:c.ok)(hn:c.host.name.length <=1000000)(hp:c.path.length <=60000){w:World}(he:Env w){p:Option Addr}{ts:List Txt}(hA:fH w p ts)(htl:ts.length <=511)(now:Int):
   Cf pC #[.pointer p,c.v,vI now] w (Ret (JG (kB ts c.host) (ofR ts c now) 181 w)):=by
 apply yO
 intro k4 w4 hk4 hw4 k6 w6 hk6 hw6
 have b4:=(hw4▸af w _:bW w w4)
 have b6:=(hw6▸af w4 _:bW w4 w6)
 have A4:ai w4 k4 kr c.cells:=ai.new hk4 hw4
 have A6:ai w6 k6 ao (rg0.cells rp0 rp0):=ai.new hk6 hw6
 have B6:=ab b4 b6 b4.size
 have A46:=A4.below b6
 have s4:=b4.size
 have s6:=B6.size
 have l6:=A6.lt
 refine⟨λv8 W=>W=w6/\v8=.func (.func (if c.only=true then fI else dv)) #[] #[],⟨rfl,_,A46.load1 dl rfl (i:=20) (nV o 0),ah.of (λh=>⟨rfl,by rw[if_pos h]⟩) (λh=>⟨rfl,by rw[if_neg (by rw[h];decide)]⟩)⟩,λv8=>aL.of ?_ _⟩
 rintro wj ⟨rfl,rfl⟩
 refine⟨rfl,_,bF.load A46 (i:=2) (us:=c.host.cells) (Hst.len o) (λj hj=>GW o hj),?_⟩
 have hset:Cf (if c.only=true then fI else dv) #[.pointer p,c.host.v] wj (Ret (eI (kB ts c.host) (K2 ts c.host c.only) wj)):=by
   unfold K2
   by_cases h:c.only=true
   · rw[if_pos h,if_pos h];exact vY o hn (he.step B6) (hA.below B6) htl
   · rw[if_neg h,if_neg h];exact ry o hn (he.step B6) (hA.below B6) htl
 have hcal:iI prog (if c.only=true then fI else dv)=true:=by
   by_cases h:c.only=true
   · rw[if_pos h];kernel_rfl
   · rw[if_neg h];kernel_rfl
 refine zf.of hcal (aw hset ?_)
 intro v w21 hv
 obtain⟨err,D,a,n,cc,b,m,e,rfl,O,b21,hcase⟩:=Hz hv
 refine⟨_,_,a,n,cc,b,m,e,err,rfl,?_⟩
 intro k9 w9 hk9 hw9
 have B21:=ab B6 b21 B6.size
 have b9:=(hw9▸af w21 _:bW w21 w9)
 have A9:ai w9 k9 ae [vI 0,vI 0,.slice none 0 0,.slice none 0 0]:=ai.new hk9 hw9
 obtain⟨wx,q1,v1,g1⟩:=bh.store0 (P:=prog) (cs:=daL a n cc b m e D) rfl (dt _ _ _ _ _ _ _) A9 rfl
 have bx:bW w21 wx:=Below.put b9 g1 (by omega)
 have Bx:=ab B21 bx B21.size
 have b6x:=ab b21 bx b21.size
 have A4x:=A46.below b6x
 refine⟨wx,q1,rfl,_,A4x.load1 bC rfl (i:=21) (nV o 1),?_⟩
 refine aw (GE c.path hp wx) ?_
 rintro _ w27 ⟨a1,n1,c1,b1,m1,e1,rfl,O1,b27⟩
 refine⟨_,_,a1,n1,c1,b1,m1,e1,_,rfl,?_⟩
 intro k11 w11 hk11 hw11
 have B27:=ab Bx b27 Bx.size
 have b11:=(hw11▸af w27 _:bW w27 w11)
 have A11:ai w11 k11 ae [vI 0,vI 0,.slice none 0 0,.slice none 0 0]:=ai.new hk11 hw11
 obtain⟨wy,q2,v2,g2⟩:=bh.store0 (P:=prog) (cs:=daL a1 n1 c1 b1 m1 e1 (cK c.path)) rfl (dt _ _ _ _ _ _ _) A11 rfl
 have by_:bW w27 wy:=Below.put b11 g2 (by omega)
 have bxy:=ab b27 by_ b27.size
 have By:=ab Bx bxy Bx.size
 refine⟨wy,q2,_,_,a,n,cc,b,m,e,bh.load0 (cs:=daL a n cc b m e D) (v1.below bxy) rfl,_,_,a1,n1,c1,b1,m1,e1,bh.load0 (cs:=daL a1 n1 c1 b1 m1 e1 (cK c.path)) v2 rfl,?_⟩
 intro k13 w13 hk13 hw13
 have b13:=(hw13▸af wy _:bW wy w13)
 have A13:ai w13 k13 ao (rg0.cells rp0 rp0):=ai.new hk13 hw13
 have SH:DaS wy a n cc b m e D:=(O.das.below bx).below bxy
 have SP:DaS wy a1 n1 c1 b1 m1 e1 (cK c.path):=O1.das.below by_
 obtain⟨wz,q3,v3,g3⟩:=bo.store0 (P:=prog) (cs:=(⟨D,cK c.path,false,false,false,false,false⟩:Rgn).cells ⟨a,n,cc,b,m,e⟩ ⟨a1,n1,c1,b1,m1,e1⟩) rfl (Rgn.one _ _ _) A13 rfl
 have bz:bW wy wz:=Below.put b13 g3 (by omega)
 have byz:=ab b6x bxy b6x.size
 have A4z:=(A46.below byz).below bz
 refine⟨wz,q3,λW=>bW wy W/\ai W k13 ao ((⟨D,cK c.path,decide (now<c.exp) && !c.sec,decide (now<c.exp),decide (now<c.exp),decide (now<c.exp)&&(c.same !=3),decide (now<c.exp)&&(c.same==1)⟩:Rgn).cells ⟨a,n,cc,b,m,e⟩ ⟨a1,n1,c1,b1,m1,e1⟩),⟨rfl,_,A4z.load1 HD rfl (i:=25) (nV o 5),ah.of (λh=>?_) (λh=>?_)⟩,aL.of ?_ _⟩
 · obtain⟨wa,r1,u1,h1⟩:=Gm.store (P:=prog) (cs:=[.bool (!c.sec),.bool true]) rfl (aN rfl (aN rfl gA)) v3 (i:=8) (show 8+2 <=13 by decide)
   have ba:=Below.put bz h1 (by omega)
   have ne4:k4≠k13:=by have:=A46.lt;have:=byz.size;omega
   have A4a:=A4z.grown h1 (j0 ne4)
   obtain⟨wb,r2,u2,h2⟩:=Gn.store (P:=prog) (cs:=[.bool true,.bool (c.same !=3),.bool (c.same==1)]) rfl (aN rfl (aN rfl (aN rfl gA))) u1 (i:=10) (show 10+3 <=13 by decide)
   refine⟨rfl,_,A4z.load1 dl rfl (i:=22) (nV o 2),rfl,wa,r1,rfl,_,A4a.load1 aC rfl (i:=24) (nV o 4),rfl,_,A4a.load1 aC rfl (i:=24) (nV o 4),rfl,wb,r2,Below.put ba h2 (by omega),?_⟩
   rw[h]
   exact u2
 · refine⟨bz,?_⟩
   rw[h]
   exact v3
 rintro wj2 ⟨bj,Aj⟩
 have Bj:=ab By bj By.size
 refine⟨_,bo.load0 Aj rfl,?_⟩
 have herr:i64.wrap err=err:=by rcases hcase with⟨_,h,_⟩|⟨_,h⟩ <;> rw[h] <;> rfl
 refine aw (HA _ _ _ err 0 herr rfl wj2) ?_
 rintro _ w53 ⟨b53,rfl⟩
 have B53:=ab Bj b53 Bj.size
 have A6z:=(A6.below (ab byz bj byz.size)).below b53
 rcases hcase with⟨hk,rfl,rfl⟩|⟨hk,rfl⟩
 · rw[if_pos (by rfl)]
   obtain⟨wq,r3,u3,h3⟩:=bo.store0 (P:=prog) (cs:=(ofR ts c now).cells ⟨a,n,cc,b,m,e⟩ ⟨a1,n1,c1,b1,m1,e1⟩) rfl (Rgn.one _ _ _) A6z rfl
   refine⟨_,_,rfl,wq,r3,_,ai.res (bo.load0 u3 rfl),Below.put B53 h3 (by omega),?_⟩
   rw[if_pos hk]
   have bq:bW w53 w53:=Below.refl _ _
   have k6a:∀g,bi a=some g->g≠k6:=λg hg=>by have:=O.fa g hg;omega
   refine⟨⟨a,n,cc,b,m,e⟩,⟨a1,n1,c1,b1,m1,e1⟩,rfl,?_,?_⟩
   · exact((((O.below bx).below bxy).below bj).below b53 |>.put h3 l6).mono B6.size
   · exact(((O1.below by_).below bj).below b53 |>.put h3 (by have:=b6x.size;omega)).mono Bx.size
 · rw[if_neg (by decide)]
   obtain⟨wq,r3,u3,h3⟩:=bo.store0 (P:=prog) (cs:=rg0.cells rp0 rp0) rfl (Rgn.one _ _ _) A6z rfl
   refine⟨_,_,rfl,wq,r3,_,ai.res (bo.load0 u3 rfl),Below.put B53 h3 (by omega),?_⟩
   rw[if_neg (by rw[hk];decide)];rfl
theorem kD {W:World}{k:Nat}{r:Rgn}{x y:Rgp}(h:ai W k ao (r.cells x y)):(Instr.loadAt ae (.pointer (some ⟨k,0,none⟩))).run prog W=.ok (daV x.a x.n x.c x.b x.m x.e r.h) W:=
 bh.load h (i:=0) (us:=daL x.a x.n x.c x.b x.m x.e r.h) rfl λj hj=>by
   match j,hj with
   | 0,_=>rfl
   | 1,_=>rfl
   | 2,_=>rfl
   | 3,_=>rfl
   | j+4,hj=>omega
theorem kE {W:World}{k:Nat}{r:Rgn}{x y:Rgp}(h:ai W k ao (r.cells x y)):(Instr.loadAt ae (.pointer (some ⟨k,4,none⟩))).run prog W=.ok (daV y.a y.n y.c y.b y.m y.e r.p) W:=
 bh.load h (i:=4) (us:=daL y.a y.n y.c y.b y.m y.e r.p) rfl λj hj=>by
   match j,hj with
   | 0,_=>rfl
   | 1,_=>rfl
   | 2,_=>rfl
   | 3,_=>rfl
   | j+4,hj=>omega
def CI (s:Txt):Bool:=match eX (s++[46,120])with|some h=>(h.name==s++[46,120])&&((bX h).length==2)|none=>false
theorem Fu (s:Txt):CI s=bD s:=by
 have hx:bD [120]=true:=by decide
 have hdx:fj [120]=false:=by decide
 cases hl:bD s with
 | true=>
   have e:Lib.join [s,[120]] [46]=s++[46,120]:=by rw[tw,Lib.join_one]
   have hs:=(gz hl).2.1
   obtain⟨h1,h2,h3⟩:=np (L:=[s,[120]]) (by simp) (by intro x hx';simp at hx';rcases hx' with rfl|rfl <;> assumption) hdx (by rw[e];simp;omega)
   unfold CI
   rw[e]at h1 h3
   rw[h1]
   simp[h3]
 | false=>
   unfold CI
   cases hv:eX (s++[46,120])with
   | none=>rfl
   | some h=>
     simp only
     rw[Bool.eq_false_iff]
     intro hc
     rw[Bool.and_eq_true,beq_iff_eq,beq_iff_eq]at hc
     obtain⟨c1,c2⟩:=hc
     have o:=fM hv
     have e:=(Br o (d:=h) (by omega)).2
     have hm:s∈bX h:=by
       rw[c1,px]at e
       rw[e,List.length_append]at c2
       rw[e]
       have e2:fV 46 [] [120]=[[120]]:=by decide
       rw[e2]at c2 ⊢
       have c3:(fV 46 [] s).length=1:=by simpa using c2
       obtain⟨x,ex⟩:=List.length_eq_one_iff.1 c3
       have hj:=me 46 s []
       rw[ex,Lib.join_one,List.nil_append]at hj
       rw[ex,hj];simp
     have:=rz o s hm
     rw[hl]at this;cases this
theorem ky (s:Txt)(hs:s.length <=1000000)(w:World)(he:Env w):Cf ix #[vS s] w (Ret λv w'=>v=.bool (iV s)/\bW w w'):=by
 apply pJ
 refine aw (jz s (by omega) w he) ?_
 rintro _ w7 ⟨rfl,hb7⟩
 unfold iV
 cases hv:eX s with
 | none=>
   refine⟨_,_,rfl,λk3 w3 hk3 hw3=>?_⟩
   have hb3:=(hw3▸af w7 _:bW w7 w3)
   have A3:ai w3 k3 am iN.cells:=ai.new hk3 hw3
   obtain⟨wx,hs4,A4,g4⟩:=bF.store0 (P:=prog) (cs:=iN.cells) rfl (Hst.one _) A3 rfl
   refine⟨wx,hs4,ah.no rfl ⟨rfl,ab hb7 (Below.put hb3 g4 (by omega)) hb7.size⟩⟩
 | some h=>
   have o:=fM hv
   refine⟨_,_,rfl,λk3 w3 hk3 hw3=>?_⟩
   have hb3:=(hw3▸af w7 _:bW w7 w3)
   have A3:ai w3 k3 am iN.cells:=ai.new hk3 hw3
   obtain⟨wx,hs4,A4,g4⟩:=bF.store0 (P:=prog) (cs:=h.cells) (Hst.len o) (Hst.one _) A3 rfl
   have hB:=ab hb7 (Below.put hb3 g4 (by omega)) hb7.size
   refine⟨wx,hs4,ah.yes rfl ⟨rfl,h.kind,A4.load1 aC rfl rfl,?_⟩⟩
   refine ah.of (λh1=>?_) (λh1=>⟨?_,hB⟩)
   · refine⟨_,bF.load0 A4 (Hst.len o),?_⟩
     refine aw (nq o wx (he.step hB)) ?_
     rintro _ w9 ⟨rfl,hb9⟩
     refine⟨_,rfl,?_,ab hB hb9 hB.size⟩
     have:h.kind≠1:=by simpa using h1
     simp[this]
   · have:h.kind=1:=by simpa using h1
     simp[this]
theorem mq (s:Txt)(hs:s.length <=1000000)(w:World)(he:Env w):Cf gP #[vS s] w (Ret λv w'=>v=.bool (bD s)/\bW w w'):=by
 apply rO
 have hl:((s.length+[46,120].length:Nat):Int) <=i64.max:=by show((s.length+2:Nat):Int) <=9223372036854775807;omega
 refine⟨hl,?_⟩
 rintro _ rfl
 rw[<- Fu]
 unfold CI
 refine aw (jz (s++[46,120]) (by simp;omega) w he) ?_
 rintro _ w7 ⟨rfl,hb7⟩
 cases hv:eX (s++[46,120])with
 | none=>
   refine⟨_,_,rfl,λk3 w3 hk3 hw3=>?_⟩
   have hb3:=(hw3▸af w7 _:bW w7 w3)
   have A3:ai w3 k3 am iN.cells:=ai.new hk3 hw3
   obtain⟨wx,hs4,A4,g4⟩:=bF.store0 (P:=prog) (cs:=iN.cells) rfl (Hst.one _) A3 rfl
   refine⟨wx,hs4,ah.no rfl ⟨rfl,ab hb7 (Below.put hb3 g4 (by omega)) hb7.size⟩⟩
 | some h=>
   have o:=fM hv
   refine⟨_,_,rfl,λk3 w3 hk3 hw3=>?_⟩
   have hb3:=(hw3▸af w7 _:bW w7 w3)
   have A3:ai w3 k3 am iN.cells:=ai.new hk3 hw3
   obtain⟨wx,hs4,A4,g4⟩:=bF.store0 (P:=prog) (cs:=h.cells) (Hst.len o) (Hst.one _) A3 rfl
   have hB:=ab hb7 (Below.put hb3 g4 (by omega)) hb7.size
   refine⟨wx,hs4,ah.yes rfl ⟨rfl,h.name,A4.load1 bC rfl rfl,hl,?_⟩⟩
   rintro _ rfl
   refine ah.of (λh1=>?_) (λh1=>⟨?_,hB⟩)
   · refine⟨_,bF.load0 A4 (Hst.len o),?_⟩
     have hn:h.name=s++[46,120]:=by simpa using h1
     refine aw (oL o (by rw[hn];simp;omega) wx (he.step hB)) ?_
     rintro _ w9 ⟨a,n,c,rfl,ho,_,hb9⟩
     refine⟨_,_,_,rfl,?_,ab hB hb9 hB.size⟩
     rw[ho.len]
     simp only[h1,Bool.true_and]
     congr 1
     rw[Bool.eq_iff_iff,beq_iff_eq,beq_iff_eq]
     omega
   · simp[h1]
theorem qr (s:Txt)(hs:s.length <=1000000)(w:World)(he:Env w):Cf bK #[vS s] w (Ret λv w'=>v=.bool (!bD s)/\bW w w'):=by
 apply pI
 refine aw (mq s hs w he) ?_
 rintro _ w4 ⟨rfl,hb⟩
 exact⟨_,rfl,rfl,hb⟩
theorem xY {w:World}(he:Env w){A:Bl}{a:Option Addr}{n c:Nat}{xs:List Txt}(hs:Sl tS w A a n c xs)(hx:∀x∈xs,x.length <=1000000):
   Cf bf #[.slice a n c,.func (.func bK) #[] #[]] w (Ret λv w'=>v=.bool (!xs.all bD)/\bW w w'):=by
 have hn:=hs.len
 subst hn
 have hle:=hs.le
 apply cT
 refine aw (K:=λv w'=>∃i:Int,v=vI i/\(decide (i >=0))=(!xs.all bD)/\bW w w') ?_ ?_
 · apply dp
   refine⟨λm i w'=>∃j:Nat,j <=xs.length/\i=(j:Int)/\m=xs.length-j/\(xs.take j).all bD=true/\bW w w',⟨_,0,by omega,rfl,rfl,rfl,Below.refl _ _⟩,?_⟩
   intro m i
   refine aL.of ?_ _
   rintro w' ⟨j,hj,rfl,rfl,hno,hB⟩
   refine ah.of (λh=>?_) (λh=>?_) <;> simp only[dTx,dFx]at h
   · have hlt:j<xs.length:=by omega
     have hs':=hs.below hB
     obtain⟨v,hv,hrep⟩:=hs'.load1 (P:=prog) (i:=(j:Int)) bC rfl rfl (by simpa using hlt)
     obtain⟨rfl,_⟩:=vo hrep
     simp only[Int.toNat_natCast]at hv
     refine⟨⟨⟨by omega,h⟩,hs'.isSome hlt⟩,_,hv,?_⟩
     refine aw (qr xs[j] (hx _ (List.getElem_mem hlt)) w' (he.step hB)) ?_
     rintro _ w3 ⟨rfl,hb3⟩
     have hB3:=ab hB hb3 hB.size
     refine⟨_,rfl,ah.of (λh3=>?_) (λh3=>?_)⟩
     · refine⟨_,rfl,?_,hB3⟩
       have:xs.all bD=false:=by
         rw[Bool.eq_false_iff]
         intro hc
         rw[List.all_eq_true.1 hc _ (List.getElem_mem hlt)]at h3;cases h3
       rw[this,decide_eq_true (by omega)];rfl
     · refine⟨xs.length-(j+1),by omega,j+1,by omega,by rw[ar (by omega) (by omega)];omega,rfl,?_,hB3⟩
       rw[List.take_succ_eq_append_getElem hlt,List.all_append,hno]
       simpa using h3
   · have:j=xs.length:=by omega
     subst this
     rw[List.take_length]at hno
     exact⟨_,rfl,by rw[hno];decide,hB⟩
 · rintro _ w3 ⟨i,rfl,hi,hw3⟩
   exact⟨_,rfl,by rw[hi],hw3⟩
end Go.Pk
