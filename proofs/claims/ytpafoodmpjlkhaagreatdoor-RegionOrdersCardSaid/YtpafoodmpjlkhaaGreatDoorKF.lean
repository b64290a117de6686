/- What the laws lean on: Sort, Iter, M, ShelfSort, SymD, SymP, SymE, SymQ, SymF, SymG, SymK, PathQ, PthP, V38, PthA, PthB, DfaF, MapG, DaD, DaE, Fnv; what is used. Its conditions: none. -/
import Derived.Test.YtpafoodmpjlkhaaGreatDoorKE
import Derived.Sort.Grow
import Derived.Sort.EncStr
import Derived.RangeFuncBox
import Derived.RangeFuncLeaves
import Derived.Shelf.Abstract
import Derived.WalkKit
import Derived.OwnWalkIn
import Derived.TacticsInMore
import Derived.LoopNIn
import Derived.LoopIn
import Derived.Maps.AppendAt
import Derived.Shelf.SortM.Plain
import Derived.Shelf.SortM.SortNone
import Derived.Lib.SlicesCompact
import Derived.Lib.RowBridge
set_option linter.unusedVariables false
set_option linter.unusedSimpArgs false
set_option linter.unusedSectionVars false
set_option maxRecDepth 100000
open Go.IntKind (i64)
open Go.Proofs.Tryz
open List (length)
open Option (isSome)
namespace Go.Pk
open Go.RowKit (Below)
open Go.Proofs
open Go.Sort (Holds putRow grow putCells mapBlock)
theorem Ow.trunc {α:Type}{T:Ty α}{t:TypeId}{w:World}{A:Bl}{a:Option Addr}{n c:Nat}{xs:List α}(h:Ow T t w A a n c xs){ys zs:List α}(e:xs=ys++zs):Ow T t w A a ys.length c ys:=by
 obtain⟨h1,h2,h3,h4⟩:=h
 subst e h1
 refine⟨rfl,by simp at h2;omega,h3,?_⟩
 rcases h4 with⟨e1,e2,e3⟩|⟨g,cur,fr,e,hh,hf,hs,h4⟩
 · exact .inl ⟨e1,e2,(List.append_eq_nil_iff.1 e3).1⟩
 · refine .inr ⟨g,cur,fr,e,hh,hf,hs,?_⟩
   have hl:=h4.len
   have e1:cur.toList.take (ys.length*T.k)=(cur.toList.take ((ys++zs).length*T.k)).take (ys.length*T.k):=by
     rw[List.take_take];congr 1
     rw[List.length_append,Nat.add_mul];omega
   refine⟨?_,λi hi=>?_⟩
   · rw[e1,List.length_take,hl,List.length_append,Nat.add_mul];omega
   · have h5:=h4.rep i (by simp;omega)
     rw[List.getElem_append_left hi]at h5
     have hb:i*T.k+T.k <=ys.length*T.k:=by
       have:=Nat.mul_le_mul_right T.k (show i+1 <=ys.length from hi)
       rwa [Nat.add_mul,Nat.one_mul]at this
     rw[e1,List.drop_take,List.take_take]
     rw[show min T.k (ys.length*T.k-i*T.k)=T.k by omega]
     exact h5
theorem Ow.holds {α:Type}[Inhabited α]{e:α->Value}{h1:∀x,(e x).oneCell'=true}{p:α->Prop}{t:TypeId}{w:World}{A:Bl}{g n c:Nat}{xs:List α}
   (h:Ow (Ty.enc e h1 p) t w A (some ⟨g,0,none⟩) n c xs):Holds e w g 0 xs.toArray/\g<w.heap.size:=by
 obtain⟨h1',h2,h3,h4⟩:=h
 rcases h4 with⟨e1,_⟩|⟨g',cur,fr,e',hh,hf,hs,h4⟩
 · cases e1
 · cases e'
   refine⟨λj hj=>?_,(Array.getElem?_eq_some_iff.1 hh).1⟩
   have hj':j<xs.length:=by simpa using hj
   have hjc:j<cur.size:=by rw[hs];simp[Ty.enc];omega
   have h5:=gP h4
   refine⟨?_,?_⟩
   · rw[gR hh,Nat.zero_add]
     have h6:(cur.toList.take (n*(Ty.enc e h1 p).k))[j]? =some (e xs[j]):=by rw[h5];simp[hj']
     rw[List.getElem?_take]at h6
     split at h6
     · simp at h6 ⊢;rw[h6];simp[hj']
     · cases h6
   · rw[Nat.zero_add];exact Ep hh (hf j hjc)
theorem Ow.putR {α:Type}[Inhabited α]{e:α->Value}{h1:∀x,(e x).oneCell'=true}{p:α->Prop}{t:TypeId}{w:World}{A:Bl}{g n c:Nat}{xs ys:List α}
   (h:Ow (Ty.enc e h1 p) t w A (some ⟨g,0,none⟩) n c xs) (hl:ys.length=xs.length) (hp:∀y∈ys,p y) (q:Nat) (os:Array Obj):
   Ow (Ty.enc e h1 p) t (grow (putRow e (Go.Sort.ahead w q) g 0 ys.toArray) os) A (some ⟨g,0,none⟩) n c ys/\w.grownBy (grow (putRow e (Go.Sort.ahead w q) g 0 ys.toArray) os) (some g):=by
 obtain⟨h1',h2,h3,h4⟩:=h
 rcases h4 with⟨e1,_⟩|⟨g',cur,fr,e',hh,hf,hs,h4⟩
 · cases e1
 · cases e'
   have hlt:=(Array.getElem?_eq_some_iff.1 hh).1
   have hsz:(putRow e (Go.Sort.ahead w q) g 0 ys.toArray).heap.size=w.heap.size:=by simp[Go.Sort.ahead]
   have hh':(grow (putRow e (Go.Sort.ahead w q) g 0 ys.toArray) os).heap[g]? =some (.cells (putCells e 0 ys.toArray cur) t fr):=by
     rw[Sort.heap_grow_old _ _ (by rw[hsz];exact hlt)]
     show((Go.Sort.ahead w q).heap.modify g _)[g]? =_
     rw[Array.getElem?_modify,if_pos rfl]
     show(w.heap[g]?).map _=_
     rw[hh];rfl
   refine⟨⟨by rw[hl];exact h1',h2,h3,.inr ⟨g,_,fr,rfl,hh',?_,?_,?_⟩⟩,?_⟩
   · intro i hi;exact hf i (by simpa[putCells]using hi)
   · simpa[putCells]using hs
   · have:(putCells e 0 ys.toArray cur).toList.take (n*(Ty.enc e h1 p).k)=ys.map e:=by
       have hn:n*(Ty.enc e h1 p).k=ys.length:=by rw[hl,h1'];simp[Ty.enc]
       have hcs:ys.length <=cur.size:=by rw[hs,hl];simp[Ty.enc];omega
       rw[hn]
       apply List.ext_getElem?
       intro i
       rw[List.getElem?_take]
       by_cases hi:i<ys.length
       · rw[if_pos hi]
         have:i<cur.size:=by omega
         simp[putCells,hi,this]
       · rw[if_neg hi];simp[hi]
     rw[this]
     exact j1 hp
   · refine⟨rfl,rfl,rfl,by simp[grow,hsz],λk hk hne=>?_⟩
     rw[Sort.heap_grow_old _ _ (by rw[hsz];exact hk)]
     show((Go.Sort.ahead w q).heap.modify g _)[k]? =_
     rw[Array.getElem?_modify,if_neg (λe=>hne (by rw[e]))]
     rfl
theorem Ow.put0 {α:Type}[Inhabited α]{e:α->Value}{h1:∀x,(e x).oneCell'=true}{p:α->Prop}{t:TypeId}{w:World}{A:Bl}{g n c:Nat}{xs ys:List α}
   (h:Ow (Ty.enc e h1 p) t w A (some ⟨g,0,none⟩) n c xs) (hl:ys.length=xs.length) (hp:∀y∈ys,p y) (q:Nat):
   Ow (Ty.enc e h1 p) t (putRow e (Go.Sort.ahead w q) g 0 ys.toArray) A (some ⟨g,0,none⟩) n c ys/\w.grownBy (putRow e (Go.Sort.ahead w q) g 0 ys.toArray) (some g):=by
 have:=h.putR hl hp q #[]
 rwa [Sort.grow_empty]at this
theorem Ku {α:Type}{e:α->Value}{h1:∀x,(e x).oneCell'=true}{p:α->Prop}{t:TypeId}{w:World}{B n:Nat}{v:Value}{xs:List α}(A:Bl)(h:w.ownsRow B t 1 v n (xs.map e))(hn:n=xs.length)(hp:∀x∈xs,p x):
   ∃a c,v=.slice a n c/\Ow (Ty.enc e h1 p) t w A a n c xs/\bI B a:=by
 rcases h.2 with⟨rfl,h0⟩|⟨g,cap,cur,rfl,hb,hg,hle,hm,hs,ht⟩
 · have:xs=[]:=List.eq_nil_of_length_eq_zero (by omega)
   subst this
   exact⟨none,0,by rw[h0],by rw[h0];exact Ow.nil _ _ _ _,bI.none _⟩
 · refine⟨_,cap,rfl,⟨hn,hle,hm,.inr ⟨g,cur,(0,0),rfl,hg,λi _=>by simp,by simpa[Ty.enc]using hs,?_⟩⟩,λx hx=>by simp[bK]at hx;omega⟩
   show iK _ _ _ (cur.toList.take (n*1)) xs
   rw[ht];exact j1 hp
section
open Go.RowKit Go.Shelf Go.Pk
attribute [local go_sem] Oper.semAt_some
def upto {α:Type}(f:Nat->α)(k:Nat):List α:=(List.range k).map f
theorem HH {α:Type}(f:Nat->α)(k:Nat):upto f (k+1)=upto f k++[f k]:=by simp[upto,List.range_succ]
theorem IV {α:Type}(f:Nat->α)(k:Nat):(upto f k).length=k:=by simp[upto]
theorem N6 (zs:List (List UInt8)):upto (λj=>zs[j]?.getD []) zs.length=zs:=by
 apply List.ext_getElem
 · simp[upto]
 · intro i h1 h2
   simp[upto,h2]
theorem MU (zs:List (List UInt8)){k:Nat}(hk:k <=zs.length):upto (λj=>zs[j]?.getD []) k=zs.take k:=by
 apply List.ext_getElem
 · simp[upto,hk]
 · intro i h1 h2
   have:i<zs.length:=by simp[upto]at h1;omega
   simp[upto,this]
set_option maxRecDepth 100000 in
set_option maxHeartbeats 2000000 in
theorem KH (F:Fence)(n:Nat)(h7:F.fn 96)(hro:F.round=none)(hn:1 <=n)(l Bs n₀ b off len cap:Nat)(zs:List (List UInt8))(hreach:len*16 <=140737488351232)(hb:b<n₀)(J Jx:List (List UInt8)->World->Prop)
   (hY:∀pre x W,J pre W->pre.length<len->YieldAt F (n-1) prog l #[vS x] W λe W'=>
     (e=.returned (.bool true)/\J (pre++[x]) W'/\Below n₀ W W')\/(e=.returned (.bool false)/\Jx (pre++[x]) W'))
   (W:World) (hBs:W.cell? ⟨Bs,0,none⟩=some (.slice (some ⟨b,off,none⟩) len cap)) (hc:∀j,j<len->W.cell? ⟨b,off+j,none⟩=some (vS (zs[j]?.getD []))) (h0:J [] W):
   CallsIn F n prog 96 #[.func (.yield l) #[] #[],.pointer (some ⟨Bs,0,none⟩)] W λe W'=>(∃v,e=.returned v)/\
     ((∃ys,ys=upto (λj=>zs[j]?.getD []) len/\J ys W')\/(∃pre,(∃k,k <=len/\pre=upto (λj=>zs[j]?.getD []) k)/\Jx pre W')):=by
 refine callsIn_of_wp func96 rfl h7 ?_ hro
 simp only[Tryz.ntmps96,List.size_toArray,List.length_cons,List.length_nil,Nat.reduceAdd,Nat.reduceSub,Array.replicate_succ,Array.replicate_zero,List.push_toArray,List.append_toArray,List.nil_append,List.cons_append]
 gi_wp2
 gi_loopw [7] (λi wr=>∃k:Nat,k <=len/\i=vI k/\J (upto (λj=>zs[j]?.getD []) k) wr/\Below n₀ W wr)
   (λi _=>len-(RowKit.intOf i).toNat)
 case atStart=>exact⟨0,Nat.zero_le _,rfl,h0,Below.refl _ _⟩
 case round=>
   obtain⟨k,hk,rfl,hJs,hnx⟩:=hrel
   have hcx:k<len->wr.cell? ⟨b,off+k,none⟩=some (vS (zs[k]?.getD [])):=λh=>(hnx.cell (p:=⟨b,off+k,none⟩) hb).trans (hc k h)
   by_cases hlt:k<len
   · obtain⟨fn,tmps,assign,body,hy,hR⟩:=hY _ (zs[k]?.getD []) wr hJs (by rw[IV];exact hlt)
     have hcx':=hcx hlt
     gi_wp2
     refine hR.mono ?_
     rintro e W3 (⟨rfl,hJ3,hk3⟩|⟨rfl,hJx3⟩)
     · gi_wp2
       go_roundw
       case rel=>exact⟨k+1,by omega,by simp,by rw[HH];exact hJ3,hnx.trans hk3⟩
       case measure=>simp[RowKit.intOf];omega
     · gi_wp2
       refine bodyPost_ret (results_none rfl _ _ _) rfl ?_
       exact⟨⟨_,rfl⟩,.inr ⟨_,⟨k+1,by omega,(HH _ _).symm⟩,hJx3⟩⟩
   · obtain rfl:k=len:=by omega
     gi_wp2
     go_end0
     exact⟨⟨_,rfl⟩,.inl ⟨_,rfl,hJs⟩⟩
def E5 (n₀:Nat)(W:World)(sv:Value)(zs:List (List UInt8)):Prop:=
 (zs=[]/\∃a c,sv=.slice a 0 c)\/∃b off cap,sv=.slice (some ⟨b,off,none⟩) zs.length cap/\b<n₀/\∀j,j<zs.length->W.cell? ⟨b,off+j,none⟩=some (vS (zs[j]?.getD []))
theorem E5.below {n₀:Nat}{A B:World}(h:Below n₀ A B){sv:Value}{zs:List (List UInt8)} :E5 n₀ A sv zs->E5 n₀ B sv zs
 | .inl e=>.inl e
 | .inr ⟨b,off,cap,e,hb,hc⟩=>.inr ⟨b,off,cap,e,hb,λj hj=>(h.cell (p:=⟨b,off+j,none⟩) hb).trans (hc j hj)⟩
set_option maxRecDepth 100000 in
set_option maxHeartbeats 1000000 in
theorem Eh (F:Fence)(n:Nat)(h7:F.fn 96)(hro:F.round=none)(l Bs:Nat)(J:List (List UInt8)->World->Prop)(a:Option Addr)(c:Nat)(W:World)(hBs:W.cell? ⟨Bs,0,none⟩=some (.slice a 0 c))(h0:J [] W):
   CallsIn F n prog 96 #[.func (.yield l) #[] #[],.pointer (some ⟨Bs,0,none⟩)] W λe W'=>(∃v,e=.returned v)/\J [] W':=by
 refine callsIn_of_wp func96 rfl h7 ?_ hro
 simp only[Tryz.ntmps96,List.size_toArray,List.length_cons,List.length_nil,Nat.reduceAdd,Nat.reduceSub,Array.replicate_succ,Array.replicate_zero,List.push_toArray,List.append_toArray,List.nil_append,List.cons_append]
 gi_wp2
 gi_loopw [7] (λi wr=>i=vI 0/\J [] wr) (λ_ _=>0)
 case atStart=>exact⟨rfl,h0⟩
 case round=>
   obtain⟨rfl,hJs⟩:=hrel
   gi_wp2
   go_end0
   exact⟨⟨_,rfl⟩,hJs⟩
theorem HJ (F:Fence)(n:Nat)(h7:F.fn 96)(hro:F.round=none)(hn:1 <=n)(Bs n₀:Nat)(sv:Value)(zs:List (List UInt8))(hreach:zs.length*16 <=140737488351232)(w:World)(hBs:Bs<w.heap.size)(hn₀:n₀ <=w.heap.size)
   (hc:w.cell? ⟨Bs,0,none⟩=some sv) (hI:E5 n₀ w sv zs):
   SeqStopsK F n prog 96 #[.pointer (some ⟨Bs,0,none⟩)] (λx:List UInt8=> #[vS x]) (Below n₀) (λys=>ys=zs) (λpre=>pre <+:zs) zs.length w:=λl J Jx W hW _ _ hY h0=>by
 have hc':=(hW.cell (p:=⟨Bs,0,none⟩) hBs).trans hc
 rcases hI.below (hW.mono hn₀)with⟨rfl,a,c,rfl⟩|⟨b,off,cap,rfl,hb,hcs⟩
 · exact(Eh F n h7 hro l Bs J a c W hc' h0).mono λe W' ⟨he,hj⟩=>⟨he,.inl ⟨_,rfl,hj⟩⟩
 · refine(KH F n h7 hro hn l Bs n₀ b off zs.length cap zs hreach hb J Jx hY W hc' hcs h0).mono ?_
   rintro e W' ⟨he,⟨ys,rfl,hj⟩|⟨pre,⟨k,hk,rfl⟩,hj⟩⟩
   · exact⟨he,.inl ⟨_,N6 zs,hj⟩⟩
   · exact⟨he,.inr ⟨_,by rw[MU zs hk];exact List.take_prefix _ _,hj⟩⟩
theorem It:(prog.info? 9).map (λi=>(i.zero,i.size,i.bytes))=some (some (vS []),1,16):=by kernel_rfl
set_option maxRecDepth 100000 in
set_option maxHeartbeats 2000000 in
theorem GC (F:Fence)(n:Nat)(h3:F.fn 148)(h7:F.fn 96)(hro:F.round=none)(hn:3 <=n)(Bs:Nat)(sv:Value)(zs:List (List UInt8))(hlen:zs.length <=maxLen)(hbytes:zs.length*16 <=140737488351232)(w:World)(hBs:Bs<w.heap.size)
   (hc:w.cell? ⟨Bs,0,none⟩=some sv) (hI:E5 w.heap.size w sv zs):
   CallsIn F n prog 148 #[.slice none 0 0,.func (.func 96) #[] #[.pointer (some ⟨Bs,0,none⟩)]] w λe W'=>∃v,e=.returned v/\W'.ownsRow w.heap.size 9 1 v zs.length (zs.map λx=>vS x)/\bW w W':=by
 have h1:1 <=n:=by omega
 obtain⟨i0,hi,hz0,hz1,hz2⟩:=info_parts It
 refine callsIn_of_wp_marks func148 rfl h3 ?_ hro
 simp only[Tryz.ntmps148,List.size_toArray,List.length_cons,List.length_nil,Nat.reduceAdd,Nat.reduceSub,Array.replicate_succ,Array.replicate_zero,List.push_toArray,List.append_toArray,List.nil_append,List.cons_append]
 gi_wp2
 have bO:=Boxed.new w 38 (.slice none 0 0)
 have hB0:bW w (w.alloc (.cells #[.slice none 0 0] 38)):=(Below.refl _ w).alloc (Nat.le_refl _) _
 refine wpIn_rangeFunc_ownG hro h1 (gf:=96) (lb:= #[.pointer (some ⟨Bs,0,none⟩)]) rfl h7 (enters_of func96 (by kernel_rfl) rfl)
   (HJ F (n-1) h7 hro (by omega) Bs w.heap.size sv zs hbytes _ (by simp;omega) (by simp) ((hB0.cell (p:=⟨Bs,0,none⟩) hBs).trans hc) (hI.below hB0)) belowK_t (belowK_b (by simp)) (Below.refl _ _) (λ_=>rfl)
   (fun(pre:List (List UInt8)) W=>(∃v,Boxed W w.heap.size 38 v/\W.ownsRow w.heap.size 9 1 v pre.length (pre.map (λx=>vS x))/\(v=v))/\bW w W)
   (λ_ _ _=>False)
   (OwnFrom.and (Own.from (holdsRow_own w.heap.size w.heap.size 38 9 1 (λpre:List (List UInt8)=>pre.length) (λpre:List (List UInt8)=>pre.map (λx=>vS x)) (λpre v=>v=v)) _) (ownFrom_below (Nat.le_refl _) (by simp)))
   (λ_ _ _ _ _ hs _ _=>hs)
   ⟨⟨_,bO,World.ownsRow_nil _ _ _ _,rfl⟩,hB0⟩
   (λx=> { tmps:= #[.slice none 0 0,.func (.func 96) #[] #[.pointer (some ⟨Bs,0,none⟩)],.pointer (some ⟨w.heap.size,0,none⟩),undef,.slice none 0 0,vS x,.func (.func 96) #[] #[.pointer (some ⟨Bs,0,none⟩)],vS x,undef,undef,undef,undef,undef],defers:=[] }) ?assign ?body ?done ?stop
 case assign=>
   intro l x W K hK
   gi_wp2
   exact hK
 case body=>
   rintro l pre x W ⟨⟨v,hv,hrow,-⟩,hB⟩ hlt
   have hc:=hv.cell
   gi_wp2_with (gi_at_builtin;refine wpListIn_append_own _ rfl _ _ 38 rfl w.heap.size 9 i0 (vS []) 1 16 Tryz.underlying38 hi hz0 hz1 hz2 rfl (by decide) _ _ _ rfl (hrow.alloc _) ⟨W.heap.size,0,none⟩ 1 1 [vS x] rfl rfl (cell_one_new _ _ _) (by simp[Value.oneCell']) (by omega) (by omega) (by have:=hB.size;simp;omega) ?_;intro v' w1 hown' hgrow _;obtain⟨g',cap',rfl⟩:=ownsRow_succ hown';obtain⟨hv1,hv2,hr2,hk2,hb2⟩:=hv.appended (by decide) hrow hB.size (Nat.le_refl _) hown' hgrow;have hc1:=hv1.cell;have hf1:=hv1.frozen)
   exact⟨hk2.from _,hb2,⟨_,hv2,by simpa using hr2⟩,hB.trans hb2⟩
 case done=>
   rintro D ys W hD rfl ⟨⟨v,hv,hrow,-⟩,hB⟩ hK
   have hc:=hv.cell
   gi_wp2
   refine⟨by simp,.inl ⟨_,_,rfl,run_takeDeferred hK,?_⟩⟩
   exact⟨_,Go.results_tmp rfl _ _ _,v,rfl,ownsRow_putObj hrow _ hK rfl,hB.trans (belowK_b (w:=w) (Nat.le_refl _) W D _ _ (by simp at hD;omega) hK rfl rfl)⟩
 case stop=>
   rintro D c pre W _ _ h _
   exact h.elim
end
def KV (es:List MapEntry)(kvs:List (List UInt8×Int)):Prop:=es.map (λe=>(e.key,e.val))=kvs.map λp=>(vS p.1,vI p.2)
def tu (w:World)(r:Nat)(kvs:List (List UInt8×Int)):Prop:=∃es clock,w.heap[r]? =some (.map es clock)/\KV es.toList kvs
def rZ (k:List UInt8):List (List UInt8×Int)->Option Int
 | []=>none
 | (k',v)::l=>if k=k' then some v else rZ k l
def G5 (k:List UInt8):List (List UInt8×Int)->Nat->Option (Nat×Int)
 | [],_=>none
 | (k',v)::l,i=>if k=k' then some (i,v)else G5 k l (i+1)
theorem zA (k:List UInt8):∀(l:List (List UInt8×Int)) (i:Nat),(G5 k l i).map (·.2)=rZ k l
 | [],_=>rfl
 | (k',v)::l,i=>by
   unfold G5 rZ
   split
   · rfl
   · exact zA k l (i+1)
theorem PR (a b:List UInt8):(mkS a==mkS b)=(a==b):=by
 show((mkS a).data==(mkS b).data)=_
 simp[mkS]
theorem PS {a b:List UInt8} :(mkS a==mkS b)=decide (a=b):=by
 rw[PR,Bool.eq_iff_iff];simp
theorem Cq (k:List UInt8):∀(es:List MapEntry) (kvs:List (List UInt8×Int)) (i:Nat),KV es kvs->
   Instr.findNow .string (vS k) es i=some ((G5 k kvs i).map λp=>(p.1,vI p.2))
 | [],kvs,i,h=>by
   have:kvs=[]:=by
     unfold KV at h;simp at h;exact h
   subst this;rfl
 | e::es,[],i,h=>by unfold KV at h;simp at h
 | e::es,(k',v)::kvs,i,h=>by
   unfold KV at h
   simp only[List.map_cons,List.cons.injEq,Prod.mk.injEq]at h
   obtain⟨⟨hk,hv⟩,ht⟩:=h
   unfold Instr.findNow G5
   rw[hk]
   simp only[Instr.sameNow,PS]
   by_cases e1:k=k'
   · simp[e1,hv]
   · simp only[e1,decide_false,if_false]
     exact Cq k es kvs (i+1) ht
theorem Co {P:Program}{kt:TypeId}(hk:P.underlying kt=some .string){k:List UInt8}{es:List MapEntry}{kvs:List (List UInt8×Int)}(h:KV es kvs)(w:World):
   (Instr.findKey kt (vS k) es).run P w=.ok ((G5 k kvs 0).map λp=>(p.1,vI p.2)) w:=by
 unfold Instr.findKey
 rw[Sem.run_bind,bD hk,Result.andThen_ok,Cq k es kvs 0 h]
 rfl
theorem Ak {P:Program}{kt:TypeId}(hk:P.underlying kt=some .string)(b:Bool)(s:ByteArray)(w:World):(Instr.checkKey b 10000 kt (.string s)).run P w=.ok () w:=by
 show(Instr.checkKey b (9999+1) kt (.string s)).run P w=_
 unfold Instr.checkKey
 rw[Sem.run_bind,bD hk,Result.andThen_ok]
 rfl
theorem EM {P:Program}{w:World}{r:Nat}{es:Array MapEntry}{c:Nat}(h:w.heap[r]? =some (.map es c)):(getObj r).run P w=.ok (.map es c) w:=by
 simp only[getObj,Sem.run,h]
theorem G7 {P:Program}{mt kt et:TypeId}{z:Value}(hm:P.underlying mt=some (.map kt et))(hk:P.underlying kt=some .string)(he:TF P et 1 8 (vI 0)){w:World}{r:Nat}{kvs:List (List UInt8×Int)}(h:tu w r kvs)(k:List UInt8):
   (Instr.lookup mt (.map (some r)) (vS k) true).run P w=.ok (.tuple #[vI ((rZ k kvs).getD 0),.bool (rZ k kvs).isSome]) w:=by
 obtain⟨es,c,hh,hkv⟩:=h
 obtain⟨i,hi,_,_,hz⟩:=he.info
 unfold Instr.lookup
 simp only[Sem.run_bind,bD hm,Result.andThen_ok,EM hh,Sem.run_pure,Ak hk,Co hk hkv]
 rw[<- zA k kvs 0]
 cases G5 k kvs 0 with
 | none=>simp[zeroValue,mC hi,hz]
 | some p=>simp
theorem tu.below {w w':World}{r:Nat}{kvs:List (List UInt8×Int)}(h:tu w r kvs)(hb:bW w w'):tu w' r kvs:=by
 obtain⟨es,c,hh,hkv⟩:=h
 exact⟨es,c,(hb.block r (Array.getElem?_eq_some_iff.1 hh).1).trans hh,hkv⟩
theorem tu.keep {w w':World}{r:Nat}{kvs:List (List UInt8×Int)}(h:tu w r kvs)(hb:w'.heap[r]? =w.heap[r]?):tu w' r kvs:=by
 obtain⟨es,c,hh,hkv⟩:=h
 exact⟨es,c,hb.trans hh,hkv⟩
theorem tu.new {w w':World}{r:Nat}(hr:r=w.heap.size)(hw:w'=w.alloc (.map #[] 0)):tu w' r []:=by
 subst hr hw
 exact⟨#[],0,heap_alloc_new w _,rfl⟩
theorem FM {P:Program}{mt kt et:TypeId}(hm:P.underlying mt=some (.map kt et))(hk:P.underlying kt=some .string){w:World}{r:Nat}{kvs:List (List UInt8×Int)}(h:tu w r kvs){k:List UInt8}(hno:rZ k kvs=none)(v:Int):
   ∃w',(Instr.mapUpdate mt (.map (some r)) (vS k) (vI v)).run P w=.ok () w'/\tu w' r (kvs++[(k,v)])/\w.grownBy w' (some r):=by
 obtain⟨es,c,hh,hkv⟩:=h
 have hlt:r<w.heap.size:=(Array.getElem?_eq_some_iff.1 hh).1
 have hnone:G5 k kvs 0=none:=by
   have:=zA k kvs 0
   rw[hno]at this
   simpa using this
 refine⟨{ w with heap:=w.heap.setIfInBounds r (.map (es.push { key:=vS k,val:=vI v,born:=c }) (c+1)) },?_,⟨es.push { key:=vS k,val:=vI v,born:=c },c+1,by simp[hlt],?_⟩,⟨rfl,rfl,rfl,by simp,λj hj hne=>?_⟩⟩
 · unfold Instr.mapUpdate
   simp only[Sem.run_bind,bD hm,Result.andThen_ok,EM hh,Ak hk,Co hk hkv,hnone,Option.map_none]
   simp only[setObj,Sem.run,hh]
 · unfold KV at hkv ⊢
   simp only[Array.toList_push,List.map_append,List.map_cons,List.map_nil,hkv]
 · have:r≠j:=λe=>hne (by rw[e])
   simp[Array.getElem?_setIfInBounds_ne this]
end Go.Pk
namespace Go.Proofs
open Go.Pk (Cf vS vI bW)
open Go.Shelf
def Tryz.sortS_ren:Go.Shelf.Ren:=⟨fun|6=>95|8=>150|9=>149|19=>200|20=>201|21=>191|22=>192|23=>193|24=>194|25=>195|26=>196|27=>197|28=>198|29=>199|36=>224|31=>225|32=>226|37=>227|38=>228|39=>229|41=>242|n=>n,fun|27=>38|29=>9|3=>3|32=>191|26=>38|0=>0|44=>244|46=>246|4=>4|36=>238|35=>237|41=>122|5=>5|9=>9|53=>278|57=>282|63=>291|64=>231|n=>n,fun|n=>n⟩
theorem Tryz.sortS:Go.Proofs.SlLaysM.n6 prog Tryz.sortS_ren:= {
 mixed:=by kernel_rfl
 f6:=⟨Tryz.f95.name,by decide,func95.trans (congrArg some (by kernel_rfl))⟩
 f8:=func150.trans (congrArg some (by kernel_rfl))
 f9:=⟨Tryz.f149.name,by decide,func149.trans (congrArg some (by kernel_rfl))⟩
 f19:=func200.trans (congrArg some (by kernel_rfl))
 f20:=func201.trans (congrArg some (by kernel_rfl))
 f21:=⟨Tryz.f191.name,by decide,func191.trans (congrArg some (by kernel_rfl))⟩
 f22:=⟨Tryz.f192.name,by decide,func192.trans (congrArg some (by kernel_rfl))⟩
 f23:=⟨Tryz.f193.name,by decide,func193.trans (congrArg some (by kernel_rfl))⟩
 f24:=⟨Tryz.f194.name,by decide,func194.trans (congrArg some (by kernel_rfl))⟩
 f25:=⟨Tryz.f195.name,by decide,func195.trans (congrArg some (by kernel_rfl))⟩
 f26:=⟨Tryz.f196.name,by decide,func196.trans (congrArg some (by kernel_rfl))⟩
 f27:=⟨Tryz.f197.name,by decide,func197.trans (congrArg some (by kernel_rfl))⟩
 f28:=⟨Tryz.f198.name,by decide,func198.trans (congrArg some (by kernel_rfl))⟩
 f29:=⟨Tryz.f199.name,by decide,func199.trans (congrArg some (by kernel_rfl))⟩
 f31:=func225.trans (congrArg some (by kernel_rfl))
 f32:=func226.trans (congrArg some (by kernel_rfl))
 f36:=⟨Tryz.f224.name,by decide,func224.trans (congrArg some (by kernel_rfl))⟩
 f37:=⟨Tryz.f227.name,by decide,func227.trans (congrArg some (by kernel_rfl))⟩
 f38:=⟨Tryz.f228.name,by decide,func228.trans (congrArg some (by kernel_rfl))⟩
 f39:=⟨Tryz.f229.name,by decide,func229.trans (congrArg some (by kernel_rfl))⟩
 f41:=⟨Tryz.f242.name,by decide,func242.trans (congrArg some (by kernel_rfl))⟩
 t0:=Tryz.underlying0
 a0:=Tryz.isAgg0
 z0:=Tryz.sizeOf0
 v0:=Tryz.zeroValue0
 t3:=Tryz.underlying3
 a3:=Tryz.isAgg3
 z3:=Tryz.sizeOf3
 v3:=Tryz.zeroValue3
 t4:=Tryz.underlying4
 a4:=Tryz.isAgg4
 z4:=Tryz.sizeOf4
 v4:=Tryz.zeroValue4
 t5:=Tryz.underlying5
 a5:=Tryz.isAgg5
 z5:=Tryz.sizeOf5
 v5:=Tryz.zeroValue5
 t9:=Tryz.underlying9
 a9:=Tryz.isAgg9
 z9:=Tryz.sizeOf9
 v9:=Tryz.zeroValue9
 t26:=Tryz.underlying38
 a26:=Tryz.isAgg38
 z26:=Tryz.sizeOf38
 v26:=Tryz.zeroValue38
 t27:=Tryz.underlying38
 a27:=Tryz.isAgg38
 z27:=Tryz.sizeOf38
 v27:=Tryz.zeroValue38
 t29:=Tryz.underlying9
 a29:=Tryz.isAgg9
 z29:=Tryz.sizeOf9
 v29:=Tryz.zeroValue9
 t32:=Tryz.underlying191
 a32:=Tryz.isAgg191
 z32:=Tryz.sizeOf191
 v32:=Tryz.zeroValue191
 t35:=Tryz.underlying237
 a35:=Tryz.isAgg237
 z35:=Tryz.sizeOf237
 v35:=Tryz.zeroValue237
 t36:=Tryz.underlying238
 a36:=Tryz.isAgg238
 z36:=Tryz.sizeOf238
 v36:=Tryz.zeroValue238
 t41:=Tryz.underlying122
 a41:=Tryz.isAgg122
 z41:=Tryz.sizeOf122
 v41:=Tryz.zeroValue122
 t44:=Tryz.underlying244
 a44:=Tryz.isAgg244
 z44:=Tryz.sizeOf244
 v44:=Tryz.zeroValue244
 t46:=Tryz.underlying246
 a46:=Tryz.isAgg246
 z46:=Tryz.sizeOf246
 v46:=Tryz.zeroValue246
 t53:=Tryz.underlying278
 a53:=Tryz.isAgg278
 z53:=Tryz.sizeOf278
 v53:=Tryz.zeroValue278
 t57:=Tryz.underlying282
 a57:=Tryz.isAgg282
 z57:=Tryz.sizeOf282
 v57:=Tryz.zeroValue282
 t63:=Tryz.underlying291
 a63:=Tryz.isAgg291
 z63:=Tryz.sizeOf291
 v63:=Tryz.zeroValue291
 t64:=Tryz.underlying231
 a64:=Tryz.isAgg231
 z64:=Tryz.sizeOf231
 v64:=Tryz.zeroValue231 }
end Go.Proofs
namespace Go.Pk
open Go.RowKit (Below)
open Go.Proofs
open Go.Sort (Holds putRow grow putCells mapBlock)
theorem Sl.texts {w:World}{a:Option Addr}{n c:Nat}{zs:List (List UInt8)}(h:Sl tS w kj a n c zs):E5 w.heap.size w (.slice a n c) zs:=by
 obtain⟨rfl,h2,h3,h4⟩:=h
 rcases h4 with rfl|⟨b,off,rfl,hb,_,l,hl,hc⟩
 · exact .inl ⟨rfl,a,c,rfl⟩
 · refine .inr ⟨b,off,c,rfl,hb,λj hj=>?_⟩
   have he:=gP hl
   rw[hc j (by rw[he];simpa using hj),he]
   simp[hj]
theorem GD (Bs:Nat)(sv:Value)(zs:List (List UInt8))(hl:zs.length <=1000000)(w:World)(hBs:Bs<w.heap.size)(hc:w.cell? ⟨Bs,0,none⟩=some sv)(hI:E5 w.heap.size w sv zs):
   Cf fW #[.slice none 0 0,.func (.func bR) #[] #[.pointer (some ⟨Bs,0,none⟩)]] w
     (Ret λv w'=>∃a n c,v=.slice a n c/\Ow tS au w' NoB a n c zs/\bI w.heap.size a/\bW w w'):=by
 refine(callsIn_wide (n:=3)).1 ?_
 have:=GC Fence.wide 3 trivial trivial rfl (by omega) Bs sv zs (by unfold maxLen;omega) (by omega) w hBs hc hI
 refine this.mono ?_
 rintro e W' ⟨v,rfl,hrow,hb⟩
 obtain⟨a,c,rfl,ho,hf⟩:=Ku (e:=λs=>vS s) (h1:=λ_=>rfl) (p:=λ_=>True) NoB hrow rfl (λ_ _=>trivial)
 exact⟨_,rfl,a,_,c,rfl,ho,hf,hb⟩
theorem J5 (Bs:Nat)(sv:Value)(zs:List (List UInt8))(hl:zs.length <=1000000)(w:World)(hBs:Bs<w.heap.size)(hc:w.cell? ⟨Bs,0,none⟩=some sv)(hI:E5 w.heap.size w sv zs):
   Cf ii #[.func (.func bR) #[] #[.pointer (some ⟨Bs,0,none⟩)]] w
     (Ret λv w'=>∃a n c,v=.slice a n c/\Ow tS au w' NoB a n c zs/\bI w.heap.size a/\bW w w'):=by
 apply qI
 refine ax (GD Bs sv zs hl w hBs hc hI) ?_
 rintro _ w1 ⟨a,n,c,rfl,ho,hf,hb⟩
 exact⟨a,n,c,rfl,a,n,c,rfl,ho,hf,hb⟩
abbrev srt (zs:List (List UInt8)):List (List UInt8):=zs.mergeSort λx y=>decide (x <=y)
theorem P9 (a:Option Addr)(n c:Nat)(zs:List (List UInt8))(hl:zs.length <=1000000)(w:World)(ho:Ow tS au w NoB a n c zs):
   Cf iS #[.slice a n c] w (Ret λv w'=>v=.tuple #[]/\Ow tS au w' NoB a n c (srt zs)/\w.grownBy w' (bK a)):=by
 have hn:=ho.len
 subst hn
 rcases ho.2.2.2 with⟨rfl,rfl,rfl⟩|⟨g,cur,fr,rfl,_⟩
 · refine(Tryz.slices_Sort_string_none none 0 w).mono ?_
   rintro _ _ ⟨rfl,rfl⟩
   exact⟨_,rfl,rfl,by simpa[srt]using ho,⟨rfl,rfl,rfl,Nat.le_refl _,λ_ _ _=>rfl⟩⟩
 · have hh:=ho.holds
   refine(Tryz.slices_Sort_string g 0 c zs w hh.1 hh.2 (by omega)).mono ?_
   rintro _ _ ⟨rfl,q,os,rfl⟩
   have:=ho.putR (ys:=srt zs) (by simp) (λ_ _=>trivial) q os
   exact⟨_,rfl,rfl,this.1,this.2⟩
theorem MG (Bs:Nat)(sv:Value)(zs:List (List UInt8))(hl:zs.length <=1000000)(w:World)(hBs:Bs<w.heap.size)(hc:w.cell? ⟨Bs,0,none⟩=some sv)(hI:E5 w.heap.size w sv zs):
   Cf iD #[.func (.func bR) #[] #[.pointer (some ⟨Bs,0,none⟩)]] w
     (Ret λv w'=>∃a n c,v=.slice a n c/\Ow tS au w' NoB a n c (srt zs)/\bI w.heap.size a/\bW w w'):=by
 apply rv
 refine ax (J5 Bs sv zs hl w hBs hc hI) ?_
 rintro _ w1 ⟨a,n,c,rfl,ho,hf,hb⟩
 refine⟨a,n,c,rfl,?_⟩
 refine ax (P9 a n c zs hl w1 ho) ?_
 rintro _ w2 ⟨rfl,ho2,hg⟩
 exact⟨rfl,a,n,c,rfl,ho2,hf,hb.grown hg hb.size hf⟩
theorem MY (a:Option Addr)(n c:Nat)(w:World):Cf dW #[.slice a n c] w
   (Ret λv w'=>v=.func (.func bR) #[] #[.pointer (some ⟨w.heap.size,0,none⟩)]/\w'=w.alloc (.cells #[.slice a n c] az)):=by
 apply ms
 rintro _ _ rfl rfl
 exact⟨rfl,rfl⟩
theorem J7 (a:Option Addr)(n c:Nat)(zs:List (List UInt8))(hl:zs.length <=1000000)(w:World)(ho:Ow tS au w NoB a n c zs):
   Cf gH #[.slice a n c] w (Ret λv w'=>∃n',v=.slice a n' c/\Ow tS au w' NoB a n' c (Lib.compact zs)/\w.grownBy w' (bK a)):=by
 have hn:=ho.len
 subst hn
 rcases ho.2.2.2 with⟨rfl,rfl,rfl⟩|⟨g,cur,fr,rfl,_⟩
 · refine(Tryz.slices_Compact_string_empty none 0 w).mono ?_
   rintro _ _ ⟨rfl,rfl⟩
   exact⟨_,rfl,_,rfl,ho,⟨rfl,rfl,rfl,Nat.le_refl _,λ_ _ _=>rfl⟩⟩
 · have hh:=ho.holds
   refine(Tryz.slices_Compact_string g 0 c zs w hh.1 (by omega) ho.2.1).mono ?_
   rintro _ _ ⟨rfl,q,rfl⟩
   have hle:=Lib.compact_length_le zs
   have:=ho.put0 (ys:=Lib.compact zs++List.replicate (zs.length-(Lib.compact zs).length) []) (by simp;omega) (λ_ _=>trivial) q
   exact⟨_,rfl,_,rfl,this.1.trunc rfl,this.2⟩
abbrev Txt:=List UInt8
def pZ (l:List Txt):List Txt:=Lib.compact (l.mergeSort λx y=>decide (x <=y))
theorem Dp {a b:Txt}(h:a <=b)(hne:a≠b):a<b:=by
 have:=List.le_iff_lt_or_eq.1 h
 exact this.resolve_right hne
theorem Oz (l:List Txt):(l.mergeSort λx y=>decide (x <=y)).Pairwise (· <= ·):=by
 have h:=List.pairwise_mergeSort (le:=fun(x y:Txt)=>decide (x <=y)) (λa b c h1 h2=>by simp only[dTx]at*;exact List.le_trans h1 h2)
   (λa b=>by simp only[Bool.or_eq_true,dTx];exact List.le_total a b) l
 exact h.imp λh=>by simpa using h
theorem JO (d:List Txt)(hs:d.Pairwise (· <= ·)):∀m,m <=d.length->(Lib.compactUpTo d.toArray m).Pairwise (· < ·)/\(∀x,x∈Lib.compactUpTo d.toArray m ↔ x∈d.take m):=by
 intro m
 induction m with
 | zero=>intro _;simp[Lib.compactUpTo]
 | succ m ih=>
   intro hm
   obtain⟨h1,h2⟩:=ih (by omega)
   have hlt:m<d.length:=by omega
   have hd:d.toArray[m]! =d[m]:=by simp[hlt]
   rw[Lib.compactUpTo_succ,List.take_succ_eq_append_getElem hlt,hd]
   by_cases hk:Lib.keeps d.toArray m=true
   · rw[if_pos hk]
     refine⟨List.pairwise_append.2 ⟨h1,by simp,?_⟩,λx=>by rw[List.mem_append,h2,List.mem_append]⟩
     intro x hx y hy
     have hy':y=d[m]:=by simpa using hy
     subst hy'
     have hx':=(h2 x).1 hx
     obtain⟨i,hi,rfl⟩:=List.getElem_of_mem hx'
     rw[List.length_take]at hi
     rw[List.getElem_take]
     have hm0:m≠0:=by omega
     simp only[Lib.keeps,dTx]at hk
     have hne:=hk.resolve_left hm0
     have hd1:d.toArray[m-1]! =d[m-1]:=by simp[show m-1<d.length by omega]
     rw[hd,hd1]at hne
     have hle1:d[m-1] <=d[m]:=List.pairwise_iff_getElem.1 hs (m-1) m (by omega) hlt (by omega)
     have hlt1:=Dp hle1 (λe=>hne e.symm)
     by_cases hi1:i=m-1
     · subst hi1;exact hlt1
     · have hle0:d[i] <=d[m-1]:=List.pairwise_iff_getElem.1 hs i (m-1) (by omega) (by omega) (by omega)
       exact List.lt_of_le_of_lt hle0 hlt1
   · rw[if_neg hk]
     refine⟨by simpa using h1,λx=>?_⟩
     rw[List.append_nil,h2,List.mem_append]
     refine⟨.inl,λh=>h.elim id λh=>?_⟩
     have hx:x=d[m]:=by simpa using h
     subst hx
     simp only[Lib.keeps,dTx,not_or,Classical.not_not]at hk
     obtain⟨hm0,he⟩:=hk
     have hd1:d.toArray[m-1]! =d[m-1]:=by simp[show m-1<d.length by omega]
     rw[hd,hd1]at he
     rw[he]
     exact List.mem_take_iff_getElem.2 ⟨m-1,by omega,rfl⟩
theorem xy (l:List Txt):(pZ l).Pairwise (· < ·):=(JO _ (Oz l) _ (Nat.le_refl _)).1
theorem Jz {l:List Txt}{x:Txt} :x∈pZ l ↔ x∈l:=by
 have:=(JO _ (Oz l) _ (Nat.le_refl _)).2 x
 unfold pZ Lib.compact
 rw[this,List.take_length,List.mem_mergeSort]
theorem sq (l:List Txt):(pZ l).length <=l.length:=by
 have:=Lib.compact_length_le (l.mergeSort λx y=>decide (x <=y))
 rw[List.length_mergeSort]at this
 exact this
def GZ (ts:List Txt):List (Txt×Int):=ts.zipIdx.map λp=>(p.1,((p.2:Nat):Int))
theorem G1 (ts:List Txt)(x:Txt):GZ (ts++[x])=GZ ts++[(x,(ts.length:Int))]:=by
 unfold GZ
 rw[List.zipIdx_append]
 simp
theorem ug (k:Txt):∀(l m:List (Txt×Int)),rZ k (l++m)=(rZ k l).orElse λ_=>rZ k m
 | [],m=>by simp[rZ]
 | (k',v)::l,m=>by
   simp only[List.cons_append,rZ]
   split
   · rfl
   · exact ug k l m
theorem EC {k:Txt} :∀{ts:List Txt},k ∉ ts->∀(l:List (Txt×Int)),l.map (·.1)=ts->rZ k l=none
 | _,h,[],e=>rfl
 | [],h,(k',v)::l,e=>by simp at e
 | t::ts,h,(k',v)::l,e=>by
   simp only[List.map_cons,List.cons.injEq]at e
   obtain⟨rfl,e⟩:=e
   simp only[List.mem_cons,not_or]at h
   unfold rZ
   rw[if_neg h.1]
   exact EC h.2 l e
theorem LY (ts:List Txt):(GZ ts).map (·.1)=ts:=by
 unfold GZ
 rw[List.map_map]
 exact List.zipIdx_map_fst 0 ts
theorem oY {ts:List Txt}{k:Txt}(h:k ∉ ts):rZ k (GZ ts)=none:=EC h _ (LY ts)
theorem Hw {α:Type}{l:List α}{k:Nat}(h:k<l.length):l.take (k+1)=l.take k++[l[k]]:=List.take_succ_eq_append_getElem h
def gB (w:World)(p:Option Addr)(ts:List Txt):Prop:=
 ∃b a n c m cs fr,p=some ⟨b,0,none⟩/\w.heap[b]? =some (.cells cs gi fr)/\cs= #[.slice a n c,.map (some m)]/\Sl tS w kj a n c ts/\tu w m (GZ ts)/\ts.Pairwise (· < ·)
theorem gB.below {w w':World}{p:Option Addr}{ts:List Txt}(h:gB w p ts)(hb:bW w w'):gB w' p ts:=by
 obtain⟨b,a,n,c,m,cs,fr,e1,e2,e3,e4,e5,e6⟩:=h
 exact⟨b,a,n,c,m,cs,fr,e1,(hb.block b (Array.getElem?_eq_some_iff.1 e2).1).trans e2,e3,e4.below hb,e5.below hb,e6⟩
theorem sA (a:Option Addr)(n c:Nat)(l:List Txt)(hl:l.length <=1000000)(w:World)(hs:Sl tS w kj a n c l):
   Cf gI #[.slice a n c] w (Ret λv w'=>∃p,v=.pointer p/\gB w' p (pZ l)/\bW w w'):=by
 apply Ec
 refine ax (MY a n c w) ?_
 rintro _ _ ⟨rfl,rfl⟩
 refine⟨_,rfl,?_⟩
 have hB0:bW w (w.alloc (.cells #[.slice a n c] az)):=ah _ _
 have hs0:=hs.below hB0
 have hc0:(w.alloc (.cells #[.slice a n c] az)).cell? ⟨w.heap.size,0,none⟩=some (.slice a n c):=by
   rw[gR (heap_alloc_new w _)];rfl
 refine ax (MG w.heap.size (.slice a n c) l hl _ (by simp) hc0 (Sl.texts hs0)) ?_
 rintro _ w1 ⟨a1,n1,c1,rfl,ho1,hf1,hb1⟩
 have hB1:=ab hB0 hb1 hB0.size
 refine⟨a1,n1,c1,rfl,?_⟩
 refine ax (J7 a1 n1 c1 _ (by simpa[srt]using hl) w1 ho1) ?_
 rintro _ w2 ⟨n2,rfl,ho2,hg2⟩
 have hB2:bW w w2:=hB1.grown hg2 hB1.size (hf1.mono hB0.size)
 refine⟨a1,n2,c1,rfl,?_⟩
 have ho2:Ow tS au w2 NoB a1 n2 c1 (pZ l):=ho2
 intro k3 w3 hk3 hw3
 intro k4 w4 hk4 hw4
 have hB3:bW w2 w3:=hw3▸ah _ _
 have hB4:bW w3 w4:=hw4▸ah _ _
 have hs3:w3.heap.size=w2.heap.size+1:=by rw[hw3];simp
 have hs4:w4.heap.size=w3.heap.size+1:=by rw[hw4];simp
 have hBB:bW w2 w4:=ab hB3 hB4 hB3.size
 have hm3:tu w3 k3 []:=tu.new hk3 hw3
 have hm4:tu w4 k3 []:=hm3.below hB4
 have hh4:w4.heap[k4]? =some (.cells #[.slice a1 n2 c1,.map (some k3)] gi (0,0)):=by
   rw[hw4,hk4];exact heap_alloc_new w3 _
 have ho4:=ho2.below hBB
 have hn:=ho4.len
 have hlen:=sq l
 have hlt1:=ho2.lt
 refine⟨rfl,rfl,a1,n2,c1,?_,?_⟩
 · exact eZ cb rfl (by rw[gR hh4];rfl)
 refine⟨λm i w'=>∃n:Nat,n <=(pZ l).length/\i=(n:Int)/\m=(pZ l).length-n/\tu w' k3 (GZ ((pZ l).take n))/\w4.grownBy w' (some k3),
   ⟨_,0,by omega,rfl,rfl,by simpa[GZ]using hm4,⟨rfl,rfl,rfl,Nat.le_refl _,λ_ _ _=>rfl⟩⟩,?_⟩
 intro m i
 refine aC.of ?_ _
 rintro w' ⟨j,hj,rfl,rfl,hm,hg⟩
 have hk34:k4≠k3:=by omega
 have hh':w'.heap[k4]? =some (.cells #[.slice a1 n2 c1,.map (some k3)] gi (0,0)):=by
   rw[hg.block k4 (by omega) (λe=>hk34 (Option.some.inj e))];exact hh4
 have ho':Ow tS au w' NoB a1 n2 c1 (pZ l):=ho4.keep (lZ hg λb hb e=>by
   rcases hb with hb|hb
   · exact hb
   · have:=hlt1 b hb.symm
     simp at e;omega)
 refine ae.of (λh=>?_) (λh=>?_) <;> simp at h
 · have hsl:=ho'.all
   have hj':j<(pZ l).length:=by omega
   refine⟨⟨⟨by omega,by omega⟩,hsl.isSome hj'⟩,?_⟩
   obtain⟨v,hv,hrep⟩:=hsl.load1 (i:=(j:Int)) aA rfl rfl (by simpa using hj')
   obtain⟨rfl,-⟩:=xz hrep
   simp only[Int.toNat_natCast]at hv
   refine⟨_,hv,rfl,rfl,some k3,?_,?_⟩
   · exact eZ dx rfl (by rw[gR hh'];rfl)
   have hno:rZ (pZ l)[j] (GZ ((pZ l).take j))=none:=oY λhmem=>by
     obtain⟨i,hi,e⟩:=List.getElem_of_mem hmem
     rw[List.length_take]at hi
     rw[List.getElem_take]at e
     have:=List.pairwise_iff_getElem.1 (xy l) i j (by omega) hj' (by omega)
     rw[e]at this
     exact List.lt_irrefl _ this
   obtain⟨w5,hr,hm5,hg5⟩:=FM (P:=prog) dx aA hm hno (j:Int)
   refine⟨w5,hr,_,?_,j+1,by omega,?_,rfl,?_,?_⟩
   · omega
   · rw[wrap_i64 (by omega) (by omega)];omega
   · rw[Hw hj',G1,List.length_take,Nat.min_eq_left (by omega)];exact hm5
   · exact⟨hg5.os.trans hg.os,hg5.tape.trans hg.tape,hg5.output.trans hg.output,Nat.le_trans hg.size hg5.size,λk hk hne=>(hg5.block k (Nat.lt_of_lt_of_le hk hg.size) hne).trans (hg.block k hk hne)⟩
 · have:j=(pZ l).length:=by omega
   subst this
   rw[List.take_length]at hm
   refine⟨_,rfl,⟨k4,a1,n2,c1,k3,_,_,rfl,hh',rfl,ho'.all,hm,xy l⟩,?_⟩
   refine(ab hB2 hBB hB2.size).grown hg (by have:=hB2.size;omega) λk e=>?_
   cases e
   rw[hk3];exact hB2.size
theorem Ha {α:Type}[DecidableEq α]:∀{l m:List α},l.Nodup->(∀x∈l,x∈m)->l.length <=m.length
 | [],m,_,_=>Nat.zero_le _
 | x::l,m,h,hs=>by
   have hx:=hs x List.mem_cons_self
   have h':=List.nodup_cons.1 h
   have:=Ha (l:=l) (m:=m.erase x) h'.2 λy hy=>(List.mem_erase_of_ne (λe=>h'.1 (by rw[<- e];exact hy))).2 (hs y (List.mem_cons_of_mem _ hy))
   rw[List.length_erase_of_mem hx]at this
   have:=List.length_pos_of_mem hx
   simp;omega
def FI:Txt:=[97,98,99,100,101,102,103,104,105,106,107,108,109,110,111,112,113,114,115,116,117,118,119,120,121,122,48,49,50,51,52,53,54,55,56,57,45,95]
def letter (i:Nat):UInt8:=FI[i]?.getD 0
def KL (n:Nat):Txt:=if h:n=0 then[]else letter ((n-1)%38)::KL ((n-1)/38)
termination_by n
decreasing_by omega
theorem tE:KL 0=[]:=by rw[KL];rfl
theorem uZ {n:Nat}(h:n≠0):KL n=letter ((n-1)%38)::KL ((n-1)/38):=by rw[KL,dif_neg h]
def kQ (n:Nat):Txt:=(KL n).reverse
def Jv (c:UInt8):Nat:=FI.findIdx (· ==c)
def RT:Txt->Nat
 | []=>0
 | c::t=>Jv c+1+38*RT t
theorem CH:∀i,i<38->Jv (letter i)=i:=by decide
theorem HI (n:Nat):RT (KL n)=n:=by
 induction n using Nat.strongRecOn with
 | _ n ih=>
   by_cases h:n=0
   · subst h;rw[tE];rfl
   · rw[uZ h,RT,ih _ (by omega),CH _ (by omega)];omega
theorem Mc {a b:Nat}(h:kQ a=kQ b):a=b:=by
 have:=congrArg List.reverse h
 simp only[kQ,List.reverse_reverse]at this
 rw[<- HI a,this,HI]
def zd (l:List Txt)(n:Nat):Prop:=1 <=n/\kQ n ∉ l/\∀k,1 <=k->k<n->kQ k∈l
theorem Fv {l:List Txt}{n:Nat}(h:∀k,1 <=k->k<n->kQ k∈l):n <=l.length+1:=by
 have:=Ha (l:=(List.range' 1 (n-1)).map kQ) (m:=l) (by
   refine List.pairwise_map.2 ((List.nodup_range' (s:=1) (n:=n-1)).imp fun{a b} hab e=>hab (Mc e))) (by
   intro x hx
   obtain⟨k,hk,rfl⟩:=List.mem_map.1 hx
   rw[List.mem_range'_1]at hk
   exact h k (by omega) (by omega))
 simp at this;omega
theorem Jl (l:List Txt):∃n,zd l n:=by
 have key:∀m,(∀k,1 <=k->k <=m->kQ k∈l)\/∃n,zd l n:=by
   intro m
   induction m with
   | zero=>exact .inl λk h1 h2=>by omega
   | succ m ih=>
     rcases ih with ih|ih
     · by_cases h:kQ (m+1)∈l
       · refine .inl λk h1 h2=>?_
         by_cases hk:k=m+1
         · rw[hk];exact h
         · exact ih k h1 (by omega)
       · exact .inr ⟨m+1,by omega,h,λk h1 h2=>ih k h1 (by omega)⟩
     · exact .inr ih
 rcases key (l.length+1)with h|h
 · have:=Fv (n:=l.length+2) λk h1 h2=>h k h1 (by omega)
   omega
 · exact h
noncomputable def zn (l:List Txt):Nat:=Classical.choose (Jl l)
theorem qZ (l:List Txt):zd l (zn l):=Classical.choose_spec (Jl l)
theorem G2 {l m:List Txt}(hs:∀x,x∈l ↔ x∈m){a b:Nat}(h:zd l a)(k:zd m b):a=b:=by
 obtain⟨h1,h2,h3⟩:=h
 obtain⟨k1,k2,k3⟩:=k
 rcases Nat.lt_trichotomy a b with c|c|c
 · exact absurd ((hs _).2 (k3 a h1 c)) h2
 · exact c
 · exact absurd ((hs _).1 (h3 b k1 c)) k2
noncomputable def vP (l:List Txt):Txt:=kQ (zn l)
theorem Lz {l:List Txt}{n:Nat}(h:zd l n):vP l=kQ n:=by
 unfold vP;rw[G2 (λ_=>Iff.rfl) (qZ l) h]
theorem Eo (l:List Txt):zn l <=l.length+1:=Fv (qZ l).2.2
def ofT (ts:List Txt)(s:Txt):Int:=if s∈ts then((ts.countP λx=>decide (x<s):Nat):Int)else(ts.length:Int)
theorem xS:∀{ts:List Txt},ts.Pairwise (· < ·)->∀(i:Nat) (h:i<ts.length),(ts.countP λx=>decide (x<ts[i]))=i
 | t::ts,hp,i,h=>by
   have hp':=List.pairwise_cons.1 hp
   cases i with
   | zero=>
     rw[List.countP_eq_zero]
     intro x hx
     simp only[dTx,List.getElem_cons_zero]
     intro hlt
     rcases List.mem_cons.1 hx with rfl|hx
     · exact List.lt_irrefl _ hlt
     · exact List.lt_irrefl _ (List.lt_trans hlt (hp'.1 x hx))
   | succ i=>
     have hi:i<ts.length:=by simpa using h
     simp only[List.getElem_cons_succ]
     rw[List.countP_cons,xS hp'.2 i hi,if_pos]
     simp only[dTx];exact hp'.1 _ (List.getElem_mem hi)
theorem Iy {ts:List Txt}(hp:ts.Pairwise (· < ·)){i:Nat}(h:i<ts.length):ofT ts ts[i]=(i:Int):=by
 unfold ofT;rw[if_pos (List.getElem_mem h),xS hp i h]
noncomputable def tr (ts:List Txt)(i:Int):Txt:=if i=(ts.length:Int)then vP ts else if 0 <=i/\i<(ts.length:Int)then ts[i.toNat]?.getD []else[]
theorem EB {ts:List Txt}(hp:ts.Pairwise (· < ·))(s:Txt):rZ s (GZ ts)=if s∈ts then some (ofT ts s)else none:=by
 by_cases h:s∈ts
 · rw[if_pos h]
   obtain⟨i,hi,rfl⟩:=List.getElem_of_mem h
   rw[Iy hp hi]
   have e:ts=ts.take i++[ts[i]]++ts.drop (i+1):=by
     rw[<- Hw hi,List.take_append_drop]
   have hno:ts[i] ∉ ts.take i:=λhmem=>by
     obtain⟨j,hj,e⟩:=List.getElem_of_mem hmem
     rw[List.length_take]at hj
     rw[List.getElem_take]at e
     have:=List.pairwise_iff_getElem.1 hp j i (by omega) hi (by omega)
     rw[e]at this
     exact List.lt_irrefl _ this
   have e2:GZ ts=GZ (ts.take i++[ts[i]])++((ts.drop (i+1)).zipIdx (i+1)).map λp=>(p.1,((p.2:Nat):Int)):=by
     conv=>lhs;rw[e]
     unfold GZ
     rw[List.zipIdx_append,List.map_append]
     congr 2
     simp;congr 1;omega
   rw[e2,ug,G1,ug,oY hno]
   simp[rZ];omega
 · rw[if_neg h];exact oY h
theorem gB.pw {w:World}{p:Option Addr}{ts:List Txt}(h:gB w p ts):ts.Pairwise (· < ·):=by
 obtain⟨b,a,n,c,m,cs,fr,_,_,_,_,_,h⟩:=h;exact h
theorem gB.nd {w:World}{p:Option Addr}{ts:List Txt}(h:gB w p ts):ts.Nodup:=h.pw.imp fun{a b} h e=>by subst e;exact List.lt_irrefl a h
theorem gB.some {w:World}{p:Option Addr}{ts:List Txt}(h:gB w p ts):Option.isSome p=true:=by
 obtain⟨b,a,n,c,m,cs,fr,rfl,_⟩:=h;rfl
theorem gB.load0 {w:World}{p:Option Addr}{ts:List Txt}(h:gB w p ts):∃a n c,(Instr.loadAt az (.pointer (Option.map (λx=>x.add 0) p))).run prog w=.ok (.slice a n c) w/\Sl tS w kj a n c ts:=by
 obtain⟨b,a,n,c,m,cs,fr,rfl,h2,rfl,h4,_⟩:=h
 refine⟨a,n,c,?_,h4⟩
 show(Instr.loadAt az (.pointer (Option.some ((⟨b,0,none⟩:Addr).add 0)))).run prog w=_
 rw[fB]
 exact eZ cb rfl (by rw[gR h2];rfl)
theorem gB.load1 {w:World}{p:Option Addr}{ts:List Txt}(h:gB w p ts):∃m,(Instr.loadAt bU (.pointer (Option.map (λx=>x.add 1) p))).run prog w=.ok (.map (Option.some m)) w/\tu w m (GZ ts)/\p.isSome=true:=by
 obtain⟨b,a,n,c,m,cs,fr,rfl,h2,rfl,h4,h5,_⟩:=h
 refine⟨m,?_,h5,rfl⟩
 show(Instr.loadAt bU (.pointer (Option.some ((⟨b,0,none⟩:Addr).add 1)))).run prog w=_
 rw[fB]
 exact eZ dx rfl (by rw[gR h2];rfl)
theorem cY (p:Option Addr)(ts:List Txt)(hl:ts.length <=1000000)(w:World)(h:gB w p ts):
   Cf bi #[.pointer p] w (Ret λv w'=>v=vI ((ts.length:Int)+1)/\w'=w):=by
 apply sp
 obtain⟨a,n,c,hr,hs⟩:=h.load0
 have hn:=hs.len
 refine⟨h.some,h.some,a,n,c,hr,?_,rfl⟩
 rw[wrap_i64 (by omega) (by omega),hn]
theorem Hv (p:Option Addr)(ts:List Txt)(s:Txt)(w:World)(h:gB w p ts):
   Cf nz #[.pointer p,vS s] w (Ret λv w'=>v=vI (ofT ts s)/\w'=w):=by
 apply tq
 obtain⟨m,hr1,hm,hp⟩:=h.load1
 refine⟨hp,hp,Option.some m,hr1,_,_,G7 (z:=vI 0) dx aA ff hm s,?_⟩
 rw[EB h.pw]
 refine ae.of (λhc=>?_) (λhc=>?_)
 · by_cases hs:s∈ts
   · rw[if_pos hs];exact⟨rfl,rfl⟩
   · rw[if_neg hs]at hc;simp at hc
 · by_cases hs:s∈ts
   · rw[if_pos hs]at hc;simp at hc
   · obtain⟨a,n,c,hr,hsl⟩:=h.load0
     have hn:=hsl.len
     refine⟨hp,hp,a,n,c,hr,?_,rfl⟩
     rw[hn];unfold ofT;rw[if_neg hs]
def tk (xs:List UInt8)(i:Nat):List UInt8:=(List.range xs.length).map λk=>if k<i\/xs.length <=k+i then xs[xs.length-1-k]?.getD 0 else xs[k]?.getD 0
theorem mP (xs:List UInt8)(i:Nat):(tk xs i).length=xs.length:=by simp[tk]
theorem KB (xs:List UInt8):tk xs 0=xs:=by
 apply List.ext_getElem
 · simp[tk]
 · intro k h1 h2
   have: ¬ xs.length <=k:=by omega
   simp[tk,this,h2]
theorem Mv (xs:List UInt8)(i:Nat)(h:xs.length <=2*i+1):tk xs i=xs.reverse:=by
 apply List.ext_getElem
 · simp[tk]
 · intro k h1 h2
   have hk:k<xs.length:=by simpa using h2
   simp only[tk,List.getElem_map,List.getElem_range,List.getElem_reverse]
   by_cases c:k<i\/xs.length <=k+i
   · rw[if_pos c,List.getElem?_eq_getElem (by omega)];rfl
   · rw[if_neg c]
     have:xs.length-1-k=k:=by omega
     rw[List.getElem?_eq_getElem hk];simp only[this];rfl
theorem Mw (xs:List UInt8)(i k:Nat)(hk:k<(tk xs i).length)(h: ¬ (k<i\/xs.length <=k+i)):(tk xs i)[k]=xs[k]'(by rw[mP]at hk;exact hk):=by
 have hk':k<xs.length:=by rw[mP]at hk;exact hk
 simp only[tk,List.getElem_map,List.getElem_range]
 rw[if_neg h,List.getElem?_eq_getElem hk'];rfl
theorem KA (xs:List UInt8)(i:Nat)(h:2*i+1<xs.length):
   ((tk xs i).set i (xs[xs.length-1-i]'(by omega))).set (xs.length-1-i) (xs[i]'(by omega))=tk xs (i+1):=by
 apply List.ext_getElem
 · simp[tk]
 · intro k h1 h2
   have hk:k<xs.length:=by rw[mP]at h2;exact h2
   rw[List.getElem_set,List.getElem_set]
   simp only[tk,List.getElem_map,List.getElem_range]
   by_cases c1:xs.length-1-i=k
   · rw[if_pos c1,if_pos (by omega),List.getElem?_eq_getElem (by omega)]
     have:xs.length-1-k=i:=by omega
     simp only[this];rfl
   · rw[if_neg c1]
     by_cases c2:i=k
     · subst c2
       rw[if_pos rfl,if_pos (by omega),List.getElem?_eq_getElem (by omega)];rfl
     · rw[if_neg c2]
       by_cases c3:k<i\/xs.length <=k+i
       · rw[if_pos c3,if_pos (by omega)]
       · rw[if_neg c3,if_neg (by omega)]
theorem KC (a:Option Addr)(n c:Nat)(xs:List UInt8)(hl:xs.length <=1000000)(w:World)(ho:Ow tU8 aG w NoB a n c xs):
   Cf fu #[.slice a n c] w (Ret λv w'=>v=.tuple #[]/\Ow tU8 aG w' NoB a n c xs.reverse/\w.grownBy w' (bK a)):=by
 apply ot
 have hn:=ho.len
 subst hn
 refine⟨λm i j w'=>∃k:Nat,2*k <=xs.length/\i=(k:Int)/\j=(xs.length:Int)-1-k/\m=xs.length-k/\Ow tU8 aG w' NoB a xs.length c (tk xs k)/\w.grownBy w' (bK a),
   ⟨_,0,by omega,rfl,?_,rfl,by rw[KB];exact ho,⟨rfl,rfl,rfl,Nat.le_refl _,λ_ _ _=>rfl⟩⟩,?_⟩
 · rw[wrap_i64 (by omega) (by omega)];omega
 intro m i j
 refine aC.of ?_ _
 rintro w' ⟨k,hk,rfl,rfl,rfl,ho',hg⟩
 refine ae.of (λh=>?_) (λh=>?_) <;> simp at h
 · have hk2:2*k+1<xs.length:=by omega
   have hsm:=(ho'.below (bg w')).all.isSome (i:=0) (by rw[mP];omega)
   have hod:Ow tU8 aG w'.drew NoB a xs.length c (tk xs k):=ho'.below (bg w')
   have hgd:w.grownBy w'.drew (bK a):=⟨hg.os,hg.tape,hg.output,hg.size,hg.block⟩
   have hin1:(0:Int) <=(xs.length:Int)-1-k/\(xs.length:Int)-1-k<(xs.length:Int):=by omega
   have hin2:(0:Int) <=(k:Int)/\(k:Int)<(xs.length:Int):=by omega
   have et:((xs.length:Int)-1-k).toNat=xs.length-1-k:=by omega
   obtain⟨v1,hv1,hr1⟩:=hod.all.load1 (i:=(xs.length:Int)-1-k) bP rfl rfl (by rw[mP,et];omega)
   obtain⟨v2,hv2,hr2⟩:=hod.all.load1 (i:=(k:Int)) bP rfl rfl (by rw[mP];simp;omega)
   have e1:=Aw hr1
   have e2:=Aw hr2
   simp only[et]at e1
   simp only[Int.toNat_natCast]at e2
   rw[Mw _ _ _ _ (by omega)]at e1 e2
   subst e1 e2
   obtain⟨w3,hs3,ho3,hg3⟩:=hod.store (P:=prog) (bytes:=1) (z:=.int .u8 0) gh (λ_ _ h=>h) (i:=(k:Int)) (by rw[mP];simp;omega) (k:=1) rfl (v:=.int .u8 ((xs[xs.length-1-k]'(by omega)).toNat:Nat)) (ul rfl)
   obtain⟨w4,hs4,ho4,hg4⟩:=ho3.store (P:=prog) (bytes:=1) (z:=.int .u8 0) gh (λ_ _ h=>h) (i:=(xs.length:Int)-1-k) (by rw[List.length_set,mP,et];omega) (k:=1) rfl (v:=.int .u8 ((xs[k]'(by omega)).toNat:Nat)) (ul rfl)
   have hgt:w.grownBy w4 (bK a):=⟨(hg4.os.trans hg3.os).trans hgd.os,(hg4.tape.trans hg3.tape).trans hgd.tape,(hg4.output.trans hg3.output).trans hgd.output,Nat.le_trans hgd.size (Nat.le_trans hg3.size hg4.size),
     λq hq hne=>((hg4.block q (Nat.lt_of_lt_of_le hq (Nat.le_trans hgd.size hg3.size)) hne).trans (hg3.block q (Nat.lt_of_lt_of_le hq hgd.size) hne)).trans (hgd.block q hq hne)⟩
   have hend:∃m':Nat,m'<xs.length-k/\∃k':Nat,2*k' <=xs.length/\i64.wrap ((k:Int)+1)=(k':Int)/\i64.wrap ((xs.length:Int)-1-k-1)=(xs.length:Int)-1-k'/\m'=xs.length-k'/\Ow tU8 aG w4 NoB a xs.length c (tk xs k')/\w.grownBy w4 (bK a):=by
     refine⟨xs.length-(k+1),by omega,k+1,by omega,?_,?_,rfl,?_,hgt⟩
     · rw[wrap_i64 (by omega) (by omega)];omega
     · rw[wrap_i64 (by omega) (by omega)];omega
     · rw[<- KA xs k hk2]
       simp only[et,Int.toNat_natCast]at ho4
       exact ho4
   exact⟨⟨hin1,hsm⟩,⟨hin2,hsm⟩,⟨_,hv1,_,hv2,⟨hin2,hsm⟩,w3,hs3,⟨hin1,hsm⟩,w4,hs4,hend⟩,_,hv2,_,hv1,⟨hin2,hsm⟩,w3,hs3,⟨hin1,hsm⟩,w4,hs4,hend⟩
 · refine⟨rfl,?_,hg⟩
   rw[<- Mv xs k (by omega)];exact ho'
theorem L6 (r:Nat)(h:r<38):aQ [97,98,99,100,101,102,103,104,105,106,107,108,109,110,111,112,113,114,115,116,117,118,119,120,121,122,48,49,50,51,52,53,54,55,56,57,45,95] (r:Int)=(((letter r).toNat:Nat):Int):=by
 rw[ow (by simpa using h)]
 unfold letter
 rw[List.getElem?_eq_getElem (by simpa[FI]using h)]
 rfl
theorem we (n:Nat)(hn:n <=1000000)(w:World):Cf nU #[vI (n:Int)] w (Ret λv w'=>v=vS (kQ n)/\bW w w'):=by
 apply Dc
 refine⟨λm i a l c w'=>∃(k:Nat) (xs:List UInt8),k <=n/\xs.length+k <=n/\i=(k:Int)/\m=k+1/\KL n=xs++KL k/\Ow tU8 aG w' NoB a l c xs/\bI w.heap.size a/\bW w w',
   ⟨_,n,[],Nat.le_refl _,by simp,rfl,rfl,rfl,Ow.nil _ _ _ _,bI.none _,Below.refl _ _⟩,?_⟩
 intro m i a l c
 refine aC.of ?_ _
 rintro w' ⟨k,xs,hk,hx,rfl,rfl,hd,ho,hf,hb⟩
 refine ae.of (λh=>?_) (λh=>?_) <;> simp at h
 · have e1:i64.wrap ((k:Int)-1)=((k-1:Nat):Int):=by rw[wrap_i64 (by omega) (by omega)];omega
   have e2:Int.tmod ((k-1:Nat):Int) 38=(((k-1)%38:Nat):Int):=rfl
   have e3:Int.tdiv ((k-1:Nat):Int) 38=(((k-1)/38:Nat):Int):=rfl
   refine⟨by decide,λq12 hq12=>?_⟩
   rw[e1,e2]at hq12
   subst hq12
   rw[L6 _ (by omega)]
   refine⟨⟨by omega,by simp;omega⟩,?_⟩
   intro k1 w3 hk1 hw3
   have ho3:Ow tU8 aG w3 NoB a l c xs:=ho.below (hw3▸ah _ _)
   have hsrc:Src tU8 w3 NoB (some ⟨k1,0,none⟩) 1 [letter ((k-1)%38)]:=Src.new1F tT hk1 hw3 (ul rfl)
   obtain⟨w4,a',n',c',hr,ho4,hgr,hfr⟩:=dh (ty:=aP) bZ gh (by decide) ho3 (λ_ _ h=>h) (cm:=1) hsrc (by simp;omega)
   refine⟨w4,a',n',c',hr,by decide,λq8 hq8=>?_⟩
   rw[e1,e3,wrap_i64 (by omega) (by omega)]at hq8
   subst hq8
   refine⟨(k-1)/38+1,by omega,(k-1)/38,xs++[letter ((k-1)%38)],by omega,?_,rfl,rfl,?_,ho4,?_,?_⟩
   · simp;omega
   · rw[hd,uZ (by omega)];simp
   · subst hw3;exact hf.app (by have:=hb.size;simp;omega) hfr
   · subst hw3;exact(ab hb (ah _ _) hb.size).grown hgr (by have:=hb.size;simp;omega) hf
 · have:k=0:=by omega
   subst this
   rw[tE,List.append_nil]at hd
   refine ax (KC a l c xs (by omega) w' ho) ?_
   rintro _ w5 ⟨rfl,ho5,hg5⟩
   refine⟨rfl,_,qN bZ aA bP ho5.all,?_,hb.grown hg5 hb.size hf⟩
   unfold kQ;rw[hd]
theorem Dl (p:Option Addr)(ts:List Txt)(hl:ts.length <=100000)(w:World)(h:gB w p ts):
   Cf ij #[.pointer p] w (Ret λv w'=>v=vS (vP ts)/\bW w w'):=by
 apply qK
 refine⟨λm i w'=>∃k:Nat,1 <=k/\k <=ts.length+1/\i=(k:Int)/\m=ts.length+2-k/\(∀j,1 <=j->j<k->kQ j∈ts)/\bW w w',
   ⟨_,1,by omega,by omega,rfl,rfl,λj h1 h2=>by omega,Below.refl _ _⟩,?_⟩
 intro m i
 refine aC.of ?_ _
 rintro w' ⟨k,hk1,hk2,rfl,rfl,hall,hb⟩
 have h':=h.below hb
 obtain⟨r,hr,hm,hp⟩:=h'.load1
 refine⟨hp,hp,some r,?_,kQ k,?_,(rZ (kQ k) (GZ ts)).getD 0,(rZ (kQ k) (GZ ts)).isSome,?_,?_⟩
 · intro u hu
   have hb':=h'
   obtain⟨b,a,n,c,m,cs,fr,rfl,h2,rfl,h4,h5,_⟩:=h'
   have hh2:=(hu.block b (Array.getElem?_eq_some_iff.1 h2).1).trans h2
   have em:m=r:=by
     have hr0:(Instr.loadAt bU (.pointer (Option.map (fun(x:Addr)=>x.add 1) (some (⟨b,0,none⟩:Addr))))).run prog w'=.ok (.map (some m)) w':=by
       show(Instr.loadAt bU (.pointer (Option.some ((⟨b,0,none⟩:Addr).add 1)))).run prog w'=_
       rw[fB]
       exact eZ dx rfl (by rw[gR h2];rfl)
     rw[hr0]at hr
     injection hr with hr _
     injection hr with hr
     exact Option.some.inj hr
   subst em
   show(Instr.loadAt bU (.pointer (Option.some ((⟨b,0,none⟩:Addr).add 1)))).run prog u=_
   rw[fB]
   exact eZ dx rfl (by rw[gR hh2];rfl)
 · intro u hu
   refine(we k (by omega) u).mono ?_
   rintro _ w2 ⟨_,rfl,rfl,hb2⟩
   exact⟨rfl,hb2.mono hu.size⟩
 · intro u hu
   exact G7 (z:=vI 0) dx aA ff (hm.below hu) (kQ k)
 · intro wq hwq
   rw[EB h.pw]
   refine ae.of (λhc=>?_) (λhc=>?_)
   · refine ax (we k (by omega) wq) ?_
     rintro _ w3 ⟨rfl,hb3⟩
     have hno:kQ k ∉ ts:=λhmem=>by rw[if_pos hmem]at hc;simp at hc
     have hB:=ab hb hwq hb.size
     exact⟨_,rfl,by rw[Lz ⟨hk1,hno,hall⟩],ab hB hb3 hB.size⟩
   · have hyes:kQ k∈ts:=by
       by_cases hmem:kQ k∈ts
       · exact hmem
       · rw[if_neg hmem]at hc;simp at hc
     have hall':∀j,1 <=j->j<k+1->kQ j∈ts:=λj h1 h2=>by
       by_cases e:j=k
       · rw[e];exact hyes
       · exact hall j h1 (by omega)
     have hle:=Fv hall'
     refine⟨ts.length+2-(k+1),by omega,k+1,by omega,hle,?_,rfl,hall',ab hb hwq hb.size⟩
     rw[wrap_i64 (by omega) (by omega)];omega
theorem qM (p:Option Addr)(ts:List Txt)(hl:ts.length <=100000)(i:Int)(w:World)(h:gB w p ts):
   Cf fj #[.pointer p,vI i] w (Ret λv w'=>v=vS (tr ts i)/\bW w w'):=by
 apply ry
 obtain⟨a,n,c,hr,hs⟩:=h.load0
 have hn:=hs.len
 refine⟨λw'=>w'=w/\0 <=i/\i<(ts.length:Int),⟨λb w'=>w'=w/\b=decide (i<0\/i>(ts.length:Int)),?_,?_⟩,?_⟩
 · refine ae.of (λhc=>?_) (λhc=>?_) <;> simp at hc
   · exact⟨rfl,by simp[hc]⟩
   · refine⟨h.some,h.some,a,n,c,hr,rfl,?_⟩
     rw[hn];simp;omega
 · intro b
   refine aC.of ?_ _
   rintro _ ⟨rfl,rfl⟩
   refine ae.of (λhc=>?_) (λhc=>?_) <;> simp at hc
   · refine⟨?_,Below.refl _ _⟩
     unfold tr
     rw[if_neg (by omega),if_neg (by omega)]
   · refine⟨h.some,h.some,a,n,c,hr,?_⟩
     rw[hn]
     refine ae.of (λhc2=>?_) (λhc2=>?_) <;> simp at hc2
     · refine ax (Dl p ts hl _ h) ?_
       rintro _ w2 ⟨rfl,hb⟩
       refine⟨_,rfl,?_,hb⟩
       unfold tr
       rw[if_pos hc2]
     · exact⟨rfl,by omega,by omega⟩
 · refine aC.of ?_ _
   rintro _ ⟨rfl,h0,h1⟩
   have hi:i.toNat<ts.length:=by omega
   obtain⟨v,hv,hrep⟩:=hs.load1 (i:=i) aA rfl rfl hi
   obtain⟨rfl,-⟩:=xz hrep
   refine⟨h.some,h.some,a,n,c,hr,⟨⟨by omega,by omega⟩,hs.isSome hi⟩,_,hv,?_,Below.refl _ _⟩
   unfold tr
   rw[if_neg (by omega),if_pos ⟨h0,h1⟩,List.getElem?_eq_getElem hi];rfl
theorem Ib:∀n,n<256->0 <=sym (UInt8.ofNat n)->DN (sym (UInt8.ofNat n))=true/\chr (sym (UInt8.ofNat n))=UInt8.ofNat n:=by decide+kernel
theorem Li {c:UInt8}(h:0 <=sym c):DN (sym c)=true/\chr (sym c)=c:=by
 have:=Ib c.toNat (by have:=c.toNat_lt;omega)
 rw[UInt8.ofNat_toNat]at this
 exact this h
theorem IJ:∀n,n<92->sym (chr (n:Nat))=(n:Nat):=by decide+kernel
theorem MI {i:Int}(h:DN i=true):sym (chr i)=i:=by
 unfold DN at h
 simp at h
 have:=IJ i.toNat (by omega)
 rwa [show((i.toNat:Nat):Int)=i by omega]at this
theorem JB (p o:List UInt8):vz p o=(Lib.hasPrefix p o&&((p.drop o.length==[]) || (decide ((p.drop o.length).head?=some 47) || decide (o.getLast?=some 47)))):=by
 have e1:Lib.hasPrefix p o=(decide (o.length <=p.length)&&(p.take o.length==o)):=(Lib.hasPrefix_of_take p o).symm
 unfold vz
 rw[e1,List.head?_drop]
 by_cases h:p.take o.length=o
 · have hl:o.length <=p.length:=by
     have:=congrArg List.length h
     rw[List.length_take]at this;omega
   by_cases h2:o.length<p.length
   · have h3:p≠o:=λe=>by rw[e]at h2;omega
     have h4:p.drop o.length≠[]:=λe=>by have:=congrArg List.length e;rw[List.length_drop,List.length_nil]at this;omega
     rw[beq_eq_false_iff_ne.2 h3,decide_eq_true h2,h,beq_self_eq_true,decide_eq_true hl,beq_eq_false_iff_ne.2 h4]
     simp only[Bool.false_or,Bool.true_and]
   · have h5:p.length=o.length:=by omega
     have h3:p=o:=by rw[<- h,<- h5,List.take_length]
     have h4:p.drop o.length=[]:=List.drop_eq_nil_of_le (by omega)
     simp[h3]
 · have h3:p≠o:=λe=>h (by rw[e,List.take_length])
   rw[beq_eq_false_iff_ne.2 h3,beq_eq_false_iff_ne.2 h]
   simp only[Bool.false_or,Bool.false_and,Bool.and_false]
def pw (s:List UInt8):List Nat:=s.map λc=>(sym c).toNat
theorem Hj:∀n,n<256->tj (UInt8.ofNat n)=decide (0 <=sym (UInt8.ofNat n)):=by decide+kernel
theorem JC (c:UInt8):tj c=decide (0 <=sym c):=by
 have:=Hj c.toNat (by have:=c.toNat_lt;omega)
 rwa [UInt8.ofNat_toNat]at this
theorem jo {p:List UInt8}(h:jn p=true):kr p=true/\p.head?=some 47/\p.length <=2048:=by
 unfold jn at h
 simp only[Bool.and_eq_true,dTx,List.all_eq_true]at h
 refine⟨List.all_eq_true.2 λc hc=>?_,h.1,h.2.1⟩
 have:=h.2.2 c hc
 rwa [JC]at this
theorem xX {s:List UInt8}(h:kr s=true){c:UInt8}(hc:c∈s):0 <=sym c:=by
 have:=List.all_eq_true.1 h c hc
 simpa using this
theorem FY {s:List UInt8}(h:kr s=true):∀x∈pw s,x<92:=by
 intro x hx
 obtain⟨c,hc,rfl⟩:=List.mem_map.1 hx
 have:=Ra c
 have:=xX h hc
 omega
theorem Qd {c d:UInt8}(hc:0 <=sym c)(hd:0 <=sym d)(e:(sym c).toNat=(sym d).toNat):c=d:=by
 have e':sym c=sym d:=by omega
 rw[<- (Li hc).2,<- (Li hd).2,e']
theorem rj:∀{s t:List UInt8},kr s=true->kr t=true->(pw s <+:pw t ↔ s <+:t)
 | [],t,_,_=>by simp[pw]
 | c::s,[],_,_=>by simp[pw]
 | c::s,d::t,hs,ht=>by
   have h1:=xX hs (c:=c) List.mem_cons_self
   have h2:=xX ht (c:=d) List.mem_cons_self
   have hs':kr s=true:=List.all_eq_true.2 λx hx=>List.all_eq_true.1 hs x (List.mem_cons_of_mem _ hx)
   have ht':kr t=true:=List.all_eq_true.2 λx hx=>List.all_eq_true.1 ht x (List.mem_cons_of_mem _ hx)
   have ih:=rj hs' ht'
   unfold pw at ih ⊢
   simp only[List.map_cons,List.cons_prefix_cons,ih]
   exact and_congr_left λ_=>⟨λe=>Qd h1 h2 e,λe=>by rw[e]⟩
theorem RM {s t:List UInt8}(hs:kr s=true)(ht:kr t=true):pw s=pw t ↔ s=t:=by
 constructor
 · intro e
   have h1:=(rj hs ht).1 (by rw[e];exact List.prefix_refl _)
   exact h1.eq_of_length (by have:=congrArg List.length e;simpa[pw]using this)
 · intro e;rw[e]
theorem Br {s t:List UInt8}(h:kr t=true)(hp:s <+:t):kr s=true:=List.all_eq_true.2 λc hc=>List.all_eq_true.1 h c (hp.subset hc)
theorem q6 {s:List UInt8}(h:kr s=true):kr (s++[47])=true:=List.all_eq_true.2 λc hc=>by
 rcases List.mem_append.1 hc with hc|hc
 · exact List.all_eq_true.1 h c hc
 · rw[List.mem_singleton]at hc;subst hc;decide
def dE (s:List UInt8):DA:=if kr s=true then chD 92 (pw s) (((pw s).length+1:Nat):Int)else noD 92
theorem oF {s:List UInt8}(h:kr s=true)(hl:s.length <=65534):xG (dE s) (pw s) 1:=by
 unfold dE
 rw[if_pos h]
 have:=FF (k:=92) (by omega) (by omega) (w:=pw s) (FY h) (by simpa[pw]using hl) 1 (by omega)
 simpa using this
theorem BM {s p:List UInt8}(hp:kr p=true)(hl:s.length <=65534):(dE s).Lang (dE s).s (pw p) ↔ s <+:p:=by
 by_cases h:kr s=true
 · have hc:=oF h hl
   have hk:(dE s).K=92:=by unfold dE;rw[if_pos h];rfl
   rw[hc.lang,hk]
   unfold Ek
   rw[if_neg (by omega),if_pos rfl,rj h hp]
   exact⟨λh=>h.2,λh=>⟨FY hp,h⟩⟩
 · unfold dE
   rw[if_neg h]
   exact⟨λh2=>absurd h2 (Bu _ _),λh2=>absurd (Br hp h2) h⟩
def cW (o:List UInt8):DA:=
 if o=[]then dE [47]
 else if o.head?≠some 47 then noD 92
 else if o.getLast?=some 47 then dE o
 else if kr o=true then⟨92,1,(dE (o++[47])).nx,(dE (o++[47])).ac.set (o.length+1) true⟩
 else noD 92
theorem IB (p o:List UInt8):Lib.hasPrefix p o=true ↔ o <+:p:=by
 rw[<- Lib.hasPrefix_of_take,Bool.and_eq_true,dTx,beq_iff_eq,List.prefix_iff_eq_take]
 constructor
 · rintro⟨_,h⟩;exact h.symm
 · intro h;exact⟨by have:=congrArg List.length h;rw[List.length_take]at this;omega,h.symm⟩
theorem xf {p o:List UInt8}(hp:jn p=true)(hl:o.length <=60000):(cW o).Lang (cW o).s (pw p) ↔ vz p o=true:=by
 obtain⟨g,h47,_⟩:=jo hp
 obtain⟨q,rfl⟩:∃q,p=47::q:=by
   cases p with
   | nil=>simp at h47
   | cons c q=>simp at h47;exact⟨q,by rw[h47]⟩
 unfold cW
 by_cases h0:o=[]
 · subst h0
   rw[if_pos rfl,BM g (by decide)]
   simp[vz]
 rw[if_neg h0]
 by_cases h1:o.head?=some 47
 · rw[if_neg (by simpa using h1)]
   rw[JB]
   by_cases h2:o.getLast?=some 47
   · rw[if_pos h2,BM g (by omega),<- IB]
     simp[h2]
   · rw[if_neg h2]
     simp only[h2,decide_false,Bool.or_false,Bool.and_eq_true,Bool.or_eq_true,beq_iff_eq,dTx,IB]
     have key:(o <+:47::q/\(List.drop o.length (47::q)=[]\/(List.drop o.length (47::q)).head?=some 47)) ↔ (47::q=o\/o++[47] <+:47::q):=by
       constructor
       · rintro⟨⟨r,e⟩,h3⟩
         rw[<- e,List.drop_left]at h3
         rcases h3 with h3|h3
         · left;rw[<- e,h3,List.append_nil]
         · right
           obtain⟨r',rfl⟩:∃r',r=47::r':=by
             cases r with
             | nil=>simp at h3
             | cons c r'=>simp at h3;exact⟨r',by rw[h3]⟩
           exact⟨r',by rw[<- e,List.append_assoc];rfl⟩
       · rintro(h3|⟨r,e⟩)
         · rw[h3];exact⟨List.prefix_refl _,.inl (List.drop_eq_nil_of_le (Nat.le_refl _))⟩
         · rw[List.append_assoc]at e
           refine⟨⟨_,e⟩,.inr ?_⟩
           rw[<- e,List.drop_left];rfl
     rw[key]
     by_cases h3:kr o=true
     · rw[if_pos h3]
       have hc:=oF (q6 h3) (s:=o++[47]) (by simp;omega)
       have hb:dE (o++[47])=chD 92 (pw (o++[47])) (((pw (o++[47])).length+1:Nat):Int):=by unfold dE;rw[if_pos (q6 h3)]
       have hlen:(pw (o++[47])).length=o.length+1:=by simp[pw]
       have hk:(dE (o++[47])).K=92:=by rw[hb];rfl
       have hs:(dE (o++[47])).s=1:=hc.st
       have hn:=hc.n
       have hset:=NT (d:=dE (o++[47])) (a:=o.length+1) (by rw[hn,hlen];omega) (pw (47::q))
       have e92:(⟨92,1,(dE (o++[47])).nx,(dE (o++[47])).ac.set (o.length+1) true⟩:DA)=⟨(dE (o++[47])).k,(dE (o++[47])).st,(dE (o++[47])).nx,(dE (o++[47])).ac.set (o.length+1) true⟩:=by rw[hb];rfl
       have es:(⟨92,1,(dE (o++[47])).nx,(dE (o++[47])).ac.set (o.length+1) true⟩:DA).s=(dE (o++[47])).s:=by rw[hs];rfl
       rw[es,e92,hset,hs,hk]
       have hf:=hc.from (i:=0) (Nat.zero_le _) (v:=pw (47::q)) (by rw[hk];exact FY g)
       have ha:=hc.run_at (i:=o.length) (by rw[hlen];omega) (j:=0) (Nat.zero_le _) (v:=pw (47::q)) (by rw[hk];exact FY g)
       have et:(pw (o++[47])).take o.length=pw o:=by
         unfold pw
         rw[List.map_append,List.take_left' (by simp)]
       rw[Nat.zero_add]at hf ha
       rw[hf,ha,List.drop_zero,List.drop_zero,et,RM g h3]
       unfold Ek
       rw[if_neg (by omega),if_pos rfl,rj (q6 h3) g]
       constructor
       · rintro⟨_,h4|h4⟩
         · exact .inr h4
         · exact .inl h4
       · rintro(h4|h4)
         · exact⟨FY g,.inr h4⟩
         · exact⟨FY g,.inl h4⟩
     · rw[if_neg h3]
       refine⟨λh4=>absurd h4 (Bu _ _),λh4=>absurd ?_ h3⟩
       rcases h4 with h4|⟨r,e⟩
       · rw[<- h4];exact g
       · exact Br g ⟨[47]++r,by rw[<- e,List.append_assoc]⟩
 · rw[if_pos h1]
   refine⟨λh2=>absurd h2 (Bu _ _),λh2=>?_⟩
   rw[JB,Bool.and_eq_true,IB]at h2
   obtain⟨⟨r,e⟩,_⟩:=h2
   cases o with
   | nil=>exact absurd rfl h0
   | cons c o=>
     simp only[List.cons_append,List.cons.injEq]at e
     exact absurd (by rw[e.1];rfl) h1
theorem zV (a:lU){w K}(h:nA w (.cells #[vI 0,vI 0,.slice none 0 0,.slice none 0 0] af) λb c=>ae (decide (((List.length a:Nat):Int)>(60000:Int))) (∃d,Sv af (vA b 0) (.agg #[vI 0,vI 0,.slice none 0 0,.slice none 0 0]) c d/\∃e f g i j k l m,Rv af (vA b 0) d (.agg #[vI e,vI f,.slice g i j,.slice k l m])/\K (.tuple #[.agg #[vI e,vI f,.slice g i j,.slice k l m],vI 152]) d) (ae (a==[]) (Cf cV #[] c λd e=>∃f g i j k l m n,d=.returned (.agg #[vI f,vI g,.slice i j k,.slice l m n])/\∃o,Sv af (vA b 0) (.agg #[vI f,vI g,.slice i j k,.slice l m n]) e o/\∃p q r s t u v x,Rv af (vA b 0) o (.agg #[vI p,vI q,.slice r s t,.slice u v x])/\K (.tuple #[.agg #[vI p,vI q,.slice r s t,.slice u v x],vI 0]) o) (bx (0:Int) ((List.length a:Nat):Int)/\ae ((aQ a (0:Int)) !=(47:Int)) (Cf qV #[vI 92] c λd e=>∃f g i j k l m n o,d=rT #[.agg #[vI f,vI g,.slice i j k,.slice l m n],vI o]/\∃p,Sv af (vA b 0) (.agg #[vI f,vI g,.slice i j k,.slice l m n]) e p/\∃q r s t u v x y,Rv af (vA b 0) p (.agg #[vI q,vI r,.slice s t u,.slice v x y])/\K (.tuple #[.agg #[vI q,vI r,.slice s t u,.slice v x y],vI o]) p) (uB oP #[vS a,vS [47]] c λd e=>ae d (Cf fz #[vS a] e λf g=>∃i j k l m n o p q,f=rT #[.agg #[vI i,vI j,.slice k l m,.slice n o p],vI q]/\∃r,Sv af (vA b 0) (.agg #[vI i,vI j,.slice k l m,.slice n o p]) g r/\∃s t u v x y z A,Rv af (vA b 0) r (.agg #[vI s,vI t,.slice u v x,.slice y z A])/\K (.tuple #[.agg #[vI s,vI t,.slice u v x,.slice y z A],vI q]) r) ((((List.length a+List.length [47]:Nat):Int) <=i64.max)/\∀f,f=(a++[47])->Cf fz #[vS f] e λg i=>∃j k l m n o p q r,g=rT #[.agg #[vI j,vI k,.slice l m n,.slice o p q],vI r]/\nA i (.cells #[vI 0,vI 0,.slice none 0 0,.slice none 0 0] af) λs t=>∃u,Sv af (vA s 0) (.agg #[vI j,vI k,.slice l m n,.slice o p q]) t u/\∃v:FP [],(Cf iB #[vS a] u λx y=>∃z A B C,x=rT #[.slice z A B,.bool C]/\∃D:FP [.one .bool],(ae C (D (r==(0:Int)) y) (D false y))/\∀E,aC 4 (∀F,D E F->ae E (true/\∃G,Ld aw (vA s 1) F (vI G)/\∃H:Nat->FP [.one (.int .i64),.one (.int .i64)],(∃I,H I G (0:Int) F)/\∀I J L,aC 15 (∀M,H I J L M->ae (decide (L<((A:Nat):Int))) ((bx L ((A:Nat):Int)/\Option.isSome z=true)/\∃N,Ld aw (ao z L 1) M (vI N)/\true/\∃O P Q,Ld ar (vA s 2) M (.slice O P Q)/\true/\∃R,Ld aw (vA s 0) M (vI R)/\(bx (i64.wrap ((i64.wrap (J*R))+N)) ((P:Nat):Int)/\Option.isSome O=true)/\∃S,Ld aw (ao O (i64.wrap ((i64.wrap (J*R))+N)) 1) M (vI S)/\∃T:Nat,T<I/\H T S (i64.wrap (L+(1:Int))) M) (true/\∃N O P,Ld aO (vA s 3) M (.slice N O P)/\(bx J ((O:Nat):Int)/\Option.isSome N=true)/\∃Q,Sv aX (ao N J 1) (.bool true) M Q/\v Q))) (v F)))/\aC 37 (∀x,v x->∃y z A B C D E F,Ld af (vA s 0) x (.agg #[vI y,vI z,.slice A B C,.slice D E F])/\∃G,Sv af (vA b 0) (.agg #[vI y,vI z,.slice A B C,.slice D E F]) x G/\∃H I J L M N O P,Rv af (vA b 0) G (.agg #[vI H,vI I,.slice J L M,.slice N O P])/\K (.tuple #[.agg #[vI H,vI I,.slice J L M,.slice N O P],vI r]) G)))))):Cf oN #[vS a] w (Ret K):=ru func77 [(31,[]),(34,[(49,.one .bool)]),(43,[(8,.one (.int .i64)),(54,.one (.int .i64))])] h
theorem zW {w K}(h:nA w (.cells #[vI 0,vI 0,.slice none 0 0,.slice none 0 0] af) λa b=>Cf fz #[vS [47]] b λc d=>∃e f g i j k l m n,c=rT #[.agg #[vI e,vI f,.slice g i j,.slice k l m],vI n]/\nA d (.cells #[vI 0,vI 0,.slice none 0 0,.slice none 0 0] af) λo p=>∃q,Sv af (vA o 0) (.agg #[vI e,vI f,.slice g i j,.slice k l m]) p q/\∃r s t u v x y z,Ld af (vA o 0) q (.agg #[vI r,vI s,.slice t u v,.slice x y z])/\∃A,Sv af (vA a 0) (.agg #[vI r,vI s,.slice t u v,.slice x y z]) q A/\∃B C D E F G H I,Rv af (vA a 0) A (.agg #[vI B,vI C,.slice D E F,.slice G H I])/\K (.agg #[vI B,vI C,.slice D E F,.slice G H I]) A):Cf cV #[] w (Ret K):=ru func134 [] h
theorem yx (a:lU){w K}(h:nA w (.cells #[vI 0,vI 0,.slice none 0 0,.slice none 0 0] af) λb c=>Cf iB #[vS a] c λd e=>∃f g i j,d=rT #[.slice f g i,.bool j]/\ae (!j) (Cf qV #[vI 92] e λk l=>∃m n o p q r s t u,k=rT #[.agg #[vI m,vI n,.slice o p q,.slice r s t],vI u]/\∃v,Sv af (vA b 0) (.agg #[vI m,vI n,.slice o p q,.slice r s t]) l v/\∃x y z A B C D E,Rv af (vA b 0) v (.agg #[vI x,vI y,.slice z A B,.slice C D E])/\K (.tuple #[.agg #[vI x,vI y,.slice z A B,.slice C D E],vI u]) v) (Cf pU #[vI 92,.slice f g i] e λk l=>∃m n o p q r s t u,k=rT #[.agg #[vI m,vI n,.slice o p q,.slice r s t],vI u]/\∃v,Sv af (vA b 0) (.agg #[vI m,vI n,.slice o p q,.slice r s t]) l v/\∃x y z A B C D E,Rv af (vA b 0) v (.agg #[vI x,vI y,.slice z A B,.slice C D E])/\K (.tuple #[.agg #[vI x,vI y,.slice z A B,.slice C D E],vI u]) v)):Cf fz #[vS a] w (Ret K):=ru func136 [] h
theorem yw (a:lU){w K}(h:nA w (.cells #[vI 0,vI 0,.slice none 0 0,.slice none 0 0] af) λb c=>uB qY #[vS a] c λd e=>ae (!d) (∃f,Sv af (vA b 0) (.agg #[vI 0,vI 0,.slice none 0 0,.slice none 0 0]) e f/\∃g i j k l m n o,Rv af (vA b 0) f (.agg #[vI g,vI i,.slice j k l,.slice m n o])/\K (.tuple #[.agg #[vI g,vI i,.slice j k l,.slice m n o],vI 43]) f) (Cf fz #[vS a] e λf g=>∃i j k l m n o p q,f=rT #[.agg #[vI i,vI j,.slice k l m,.slice n o p],vI q]/\∃r,Sv af (vA b 0) (.agg #[vI i,vI j,.slice k l m,.slice n o p]) g r/\∃s t u v x y z A,Rv af (vA b 0) r (.agg #[vI s,vI t,.slice u v x,.slice y z A])/\K (.tuple #[.agg #[vI s,vI t,.slice u v x,.slice y z A],vI q]) r)):Cf mX #[vS a] w (Ret K):=ru func143 [] h
theorem tX {s:List UInt8}(h:kr s=true):p9 s=(pw s).map fun(x:Nat)=>(x:Int):=by
 unfold p9 pw
 rw[if_pos h,List.map_map]
 refine List.map_congr_left λc hc=>?_
 have:=xX h hc
 show sym c=(((sym c).toNat:Nat):Int)
 omega
theorem yt (s:List UInt8):(pw s).length=s.length:=by simp[pw]
theorem xO (s:List UInt8)(hs:s.length <=65534)(w:World):Cf fz #[vS s] w (Ret (vo w (dE s))):=by
 apply yx
 intro k2 w2 hk2 hw2
 have hb2:=(hw2▸ah w _:bW w w2)
 have A2:am w2 k2 af [vI 0,vI 0,.slice none 0 0,.slice none 0 0]:=am.new hk2 hw2
 have hlt:=A2.lt
 refine ax (kX s (by omega) w2) ?_
 rintro _ w8 ⟨a,n,c,rfl,ho,hf,hb8⟩
 have hB:=ab hb2 hb8 hb2.size
 refine⟨a,n,c,kr s,rfl,ae.of (λh=>?_) (λh=>?_)⟩
 · have hg:kr s=false:=by simpa using h
   refine ax (wY (k:=92) (by omega) (by omega)) ?_
   rintro _ w13 ⟨a1,n1,c1,b1,m1,e1,rfl,O,hb13⟩
   have s8:=hb8.size
   obtain⟨wx,s1,s2,g1⟩:=cX ((A2.below hb8).below hb13) rfl a1 n1 c1 b1 m1 e1 (noD 92)
   have hB13:=ab hB hb13 hB.size
   refine⟨_,_,a1,n1,c1,b1,m1,e1,_,rfl,wx,s1,_,_,a1,n1,c1,b1,m1,e1,s2,?_⟩
   have e:dE s=noD 92:=by unfold dE;rw[if_neg (by rw[hg];decide)]
   rw[e]
   exact⟨a1,n1,c1,b1,m1,e1,rfl,(O.put g1 (by omega)).mono hB.size,Below.put hB13 g1 (by omega)⟩
 · have hg:kr s=true:=by simpa using h
   rw[tX hg]at ho
   refine ax (xU (k:=92) ho.all (by omega) (by omega) (FY hg) (by rw[yt];exact hs)) ?_
   rintro _ w13 ⟨a1,n1,c1,b1,m1,e1,rfl,O,hb13⟩
   have s8:=hb8.size
   obtain⟨wx,s1,s2,g1⟩:=cX ((A2.below hb8).below hb13) rfl a1 n1 c1 b1 m1 e1 (chD 92 (pw s) (((pw s).length+1:Nat):Int))
   have hB13:=ab hB hb13 hB.size
   refine⟨_,_,a1,n1,c1,b1,m1,e1,_,rfl,wx,s1,_,_,a1,n1,c1,b1,m1,e1,s2,?_⟩
   have e:dE s=chD 92 (pw s) (((pw s).length+1:Nat):Int):=by unfold dE;rw[if_pos hg]
   rw[e]
   exact⟨a1,n1,c1,b1,m1,e1,rfl,(O.put g1 (by omega)).mono hB.size,Below.put hB13 g1 (by omega)⟩
def Qx (w:World)(d:DA)(v:Value)(w':World):Prop:=∃(a:Option Addr) (n c:Nat) (b:Option Addr) (m e:Nat),v=daV a n c b m e d/\zb w.heap.size w' a n c b m e d/\bW w w'
theorem I4 (w:World):Cf cV #[] w (Ret (Qx w (dE [47]))):=by
 apply zW
 intro k0 w0 hk0 hw0
 have hb0:=(hw0▸ah w _:bW w w0)
 have A0:am w0 k0 af [vI 0,vI 0,.slice none 0 0,.slice none 0 0]:=am.new hk0 hw0
 have hlt:=A0.lt
 refine ax (xO [47] (by decide) w0) ?_
 rintro _ w4 ⟨a,n,c,b,m,e,rfl,O,hb4⟩
 have hB4:=ab hb0 hb4 hb0.size
 refine⟨_,_,a,n,c,b,m,e,_,rfl,?_⟩
 intro k1 w1 hk1 hw1
 have hb1:=(hw1▸ah w4 _:bW w4 w1)
 have A1:am w1 k1 af [vI 0,vI 0,.slice none 0 0,.slice none 0 0]:=am.new hk1 hw1
 have s4:=hb4.size
 obtain⟨wx,q1,v1,g1⟩:=bG.store0 (P:=prog) (cs:=daL a n c b m e (dE [47])) rfl (fM _ _ _ _ _ _ _) A1 rfl
 have bx:bW w4 wx:=Below.put hb1 g1 (by omega)
 refine⟨wx,q1,_,_,a,n,c,b,m,e,bG.load0 (cs:=daL a n c b m e (dE [47])) v1 rfl,?_⟩
 obtain⟨wy,s1,s2,g2⟩:=cX ((A0.below hb4).below bx) rfl a n c b m e (dE [47])
 have hBx:=ab hB4 bx hB4.size
 exact⟨wy,s1,_,_,a,n,c,b,m,e,s2,a,n,c,b,m,e,rfl,((O.below bx).put g2 hlt).mono hb0.size,Below.put hBx g2 (by omega)⟩
theorem RQ (s p:List UInt8)(hs:s.length <=9223372036854775807)(w:World):Cf oP #[vS s,vS p] w (Ret λv w'=>v=.bool (Lib.hasSuffix s p)/\w'=w):=
 (Tryz.strings_HasSuffix (mkS s) (mkS p) w hs).mono λe w' ⟨h1,h2⟩=>⟨_,h1,rfl,h2⟩
theorem Po {s:List UInt8}{c:UInt8}{r:List UInt8}(e:s=c::r):aQ s (0:Int)=((c.toNat:Nat):Int):=by subst e;rfl
theorem xG.go {d:DA}{w:List Nat}{m:Nat}(h:xG d w m)(hw:∀x∈w,x<d.K){i:Nat}(hi:i<w.length):d.run 1 (w.take i)=i+1:=
 (h.run_at hi (j:=0) (Nat.zero_le _) (λx hx=>hw x (List.mem_of_mem_take hx))).2 rfl
set_option maxHeartbeats 1000000 in
theorem Nj (o:List UInt8)(ho:o.length <=60000)(w:World):Cf oN #[vS o] w (Ret (vo w (cW o))):=by
 apply zV
 intro k2 w2 hk2 hw2
 have hb2:=(hw2▸ah w _:bW w w2)
 have A2:am w2 k2 af [vI 0,vI 0,.slice none 0 0,.slice none 0 0]:=am.new hk2 hw2
 have hlt:=A2.lt
 have s2':=hb2.size
 have back:∀{W:World} {d:DA} {a b:Option Addr} {n c m e:Nat},zb w2.heap.size W a n c b m e d->bW w2 W->∃wx,(Instr.storeAt af (.pointer (some ⟨k2,0,none⟩)) (daV a n c b m e d)).run prog W=.ok () wx/\(aR af (.pointer (some ⟨k2,0,none⟩))).run prog wx=.ok (daV a n c b m e d) wx/\vo w d (.tuple #[daV a n c b m e d,vI 0]) wx:=by
   intro W d a b n c m e O hb
   obtain⟨wx,s1,s2,g1⟩:=cX (A2.below hb) rfl a n c b m e d
   exact⟨wx,s1,s2,a,n,c,b,m,e,rfl,(O.put g1 hlt).mono hb2.size,Below.put (ab hb2 hb hb2.size) g1 (by omega)⟩
 refine ae.no (decide_eq_false (by omega)) (ae.of (λh0=>?_) (λh0=>?_))
 · have h0:o=[]:=by simpa using h0
   have e:cW o=dE [47]:=by unfold cW;rw[if_pos h0]
   rw[e]
   refine ax (I4 w2) ?_
   rintro _ w19 ⟨a,n,c,b,m,e,rfl,O,hb⟩
   obtain⟨wx,s1,s2,h⟩:=back O hb
   exact⟨_,_,a,n,c,b,m,e,rfl,wx,s1,_,_,a,n,c,b,m,e,s2,h⟩
 have h0:o≠[]:=by simpa using h0
 obtain⟨x,r,er⟩:=List.exists_cons_of_ne_nil h0
 have hlen:0<o.length:=by rw[er];simp
 refine⟨⟨by omega,by omega⟩,?_⟩
 rw[Po er]
 refine ae.of (λh1=>?_) (λh1=>?_)
 · have h1:x≠47:=λe=>by subst e;simp at h1
   have e:cW o=noD 92:=by unfold cW;rw[if_neg h0,if_pos (by rw[er];simpa using h1)]
   rw[e]
   refine ax (wY (k:=92) (by omega) (by omega)) ?_
   rintro _ w19 ⟨a,n,c,b,m,e,rfl,O,hb⟩
   obtain⟨wx,s1,s2,h⟩:=back O hb
   exact⟨_,_,a,n,c,b,m,e,_,rfl,wx,s1,_,_,a,n,c,b,m,e,s2,h⟩
 have h1:x=47:=by
   have h2:((x.toNat:Nat):Int)=47:=by simpa using h1
   exact UInt8.toNat_inj.1 (show x.toNat=47 by omega)
 subst h1
 have hd: ¬ (o.head?≠some 47):=by rw[er];simp
 refine ax (RQ o [47] (by omega) w2) ?_
 rintro _ w29 ⟨rfl,hw29⟩
 rw[hw29];clear hw29 w29
 rw[(JL o 47).1]
 refine⟨_,rfl,ae.of (λh2=>?_) (λh2=>?_)⟩
 · have h2:o.getLast?=some 47:=by simpa using h2
   have e:cW o=dE o:=by unfold cW;rw[if_neg h0,if_neg hd,if_pos h2]
   rw[e]
   refine ax (xO o (by omega) w2) ?_
   rintro _ w19 ⟨a,n,c,b,m,e,rfl,O,hb⟩
   obtain⟨wx,s1,s2,h⟩:=back O hb
   exact⟨_,_,a,n,c,b,m,e,_,rfl,wx,s1,_,_,a,n,c,b,m,e,s2,h⟩
 have h2: ¬ o.getLast?=some 47:=by simpa using h2
 have hl1:(o++[47]).length=o.length+1:=by simp
 refine⟨by show((o.length+[(47:UInt8)].length:Nat):Int) <=9223372036854775807;simp;omega,?_⟩
 rintro _ rfl
 refine ax (xO (o++[47]) (by omega) w2) ?_
 rintro _ w37 ⟨a,n,c,b,m,e,rfl,O,hb37⟩
 refine⟨_,_,a,n,c,b,m,e,_,rfl,?_⟩
 intro k4 w4 hk4 hw4
 have hb4:=(hw4▸ah w37 _:bW w37 w4)
 have A4:am w4 k4 af [vI 0,vI 0,.slice none 0 0,.slice none 0 0]:=am.new hk4 hw4
 have hlt4:=A4.lt
 have s37:=hb37.size
 obtain⟨wx,q1,v1,g1⟩:=bG.store0 (P:=prog) (cs:=daL a n c b m e (dE (o++[47]))) rfl (fM _ _ _ _ _ _ _) A4 rfl
 have bx:bW w37 wx:=Below.put hb4 g1 (by omega)
 have Bx:=ab hb37 bx hb37.size
 refine⟨wx,q1,λW=>bW w2 W/\k4<W.heap.size/\∃d,d=cW o/\d.k=92/\zb w2.heap.size W a n c b m e d/\am W k4 af (daL a n c b m e d),?_,?_⟩
 · refine ax (kX o (by omega) wx) ?_
   rintro _ w42 ⟨a5,n5,c5,rfl,ho5,hf5,hb42⟩
   have B42:=ab Bx hb42 Bx.size
   have A42:=v1.below hb42
   have O42:=(O.below bx).below hb42
   refine⟨a5,n5,c5,kr o,rfl,λbb W=>bb=kr o/\W=w42,ae.of (λh=>⟨h.symm,rfl⟩) (λh=>⟨h.symm,rfl⟩),λbb=>aC.of ?_ _⟩
   rintro wj ⟨rfl,hwj⟩
   rw[hwj];clear hwj wj
   refine ae.of (λhg=>?_) (λhg=>?_)
   · have hg2:=q6 hg
     rw[tX hg]at ho5
     have hc:=oF hg2 (by omega)
     have eb:dE (o++[47])=chD 92 (pw (o++[47])) (((pw (o++[47])).length+1:Nat):Int):=by unfold dE;rw[if_pos hg2]
     have eK:(dE (o++[47])).K=92:=by rw[eb];rfl
     have ek:(dE (o++[47])).k=92:=by rw[eb];rfl
     have est:(dE (o++[47])).st=1:=by rw[eb];rfl
     have hw:∀x∈pw (o++[47]),x<(dE (o++[47])).K:=by rw[eK];exact FY hg2
     have epw:pw (o++[47])=pw o++pw [47]:=by unfold pw;rw[List.map_append]
     have hn5:n5=o.length:=by have:=ho5.len;rw[List.length_map,yt]at this;exact this
     refine⟨rfl,_,A42.load1 aB rfl rfl,?_⟩
     rw[est]
     refine⟨λM at_ i W=>∃j:Nat,j <=o.length/\i=(j:Int)/\M=o.length-j/\at_=((j+1:Nat):Int)/\W=w42,⟨_,0,by omega,rfl,rfl,rfl,rfl⟩,?_⟩
     intro M at_ i
     refine aC.of ?_ _
     rintro wl ⟨j,hj,rfl,rfl,rfl,hwl⟩
     rw[hwl];clear hwl wl
     refine ae.of (λh3=>?_) (λh3=>?_) <;> simp only[dTx,dFx]at h3
     · have hjl:j<o.length:=by omega
       have hj2:j<(pw o).length:=by rw[yt];exact hjl
       have hj3:j<((pw o).map fun(x:Nat)=>(x:Int)).length:=by rw[List.length_map];exact hj2
       have hj4:j<(pw (o++[47])).length:=by rw[yt,hl1];omega
       have hx92:(pw o)[j]<92:=FY hg _ (List.getElem_mem hj2)
       have e1:((pw o).map fun(x:Nat)=>(x:Int))[j]=(((pw o)[j]:Nat):Int):=by rw[List.getElem_map]
       have e2:(pw (o++[47]))[j]=(pw o)[j]:=by simp only[epw];rw[List.getElem_append_left hj2]
       have hs1:j+1<(dE (o++[47])).n:=by rw[hc.n,yt,hl1];omega
       obtain⟨v,hv,v0,v2,ev⟩:=hc.ok.at hs1 (x:=(pw o)[j]) (by rw[eK];exact hx92)
       have hto:=hc.mid j _ hj4 (by rw[eK];exact hx92)
       rw[e2,if_pos rfl]at hto
       rw[eK]at hv
       have hvl:=(List.getElem?_eq_some_iff.1 hv).1
       have hve:=(List.getElem?_eq_some_iff.1 hv).2
       have hwr:i64.wrap (i64.wrap (((j+1:Nat):Int)*92)+(((pw o)[j]:Nat):Int))=(((j+1)*92+(pw o)[j]:Nat):Int):=by
         have h6:i64.wrap (((j+1:Nat):Int)*92)=((j+1:Nat):Int)*92:=wrap_i64 (by omega) (by omega)
         try dsimp only
         rw[h6,wrap_i64 (by omega) (by omega)];omega
       have hnl:=O42.nx.len
       refine⟨⟨⟨by omega,by omega⟩,ho5.all.isSome hj3⟩,_,ho5.all.num aB hj3,rfl,a,n,c,A42.load1 aI rfl rfl,rfl,_,A42.load1 aB rfl rfl,?_⟩
       rw[e1,ek,hwr]
       refine⟨⟨⟨by omega,by omega⟩,O42.nx.all.isSome hvl⟩,_,O42.nx.all.num aB hvl,o.length-(j+1),by omega,j+1,by omega,by rw[wrap_i64 (by omega) (by omega)];omega,rfl,?_,rfl⟩
       rw[hve]
       omega
     · have hjl:j=o.length:=by omega
       subst hjl
       have hna:(dE (o++[47])).ac.length=o.length+3:=by
         have:=hc.n
         rw[yt,hl1]at this
         exact this
       have hacl:=O42.ac.len
       have hi:(((o.length+1:Nat):Int)).toNat<(dE (o++[47])).ac.length:=by rw[hna];omega
       obtain⟨w7,r7,o7,g7⟩:=Ow.store (P:=prog) qO O42.ac (λg _ h=>h) (i:=((o.length+1:Nat):Int)) hi (k:=1) rfl (v:=.bool true) (x:=true) vh
       refine⟨rfl,b,m,e,A42.load1 bf rfl rfl,⟨⟨by omega,by omega⟩,O42.ac.all.isSome hi⟩,w7,r7,?_⟩
       have hbb:∀g,bK b=some g->w2.heap.size <=g:=λg hg=>O.fb g hg
       have e7:(o.length+1:Nat)=(((o.length+1:Nat):Int)).toNat:=by omega
       have em:cW o=⟨92,1,(dE (o++[47])).nx,(dE (o++[47])).ac.set (o.length+1) true⟩:=by
         unfold cW
         rw[if_neg h0,if_neg hd,if_neg h2,if_pos hg]
       have hk4b:∀g,bK b=some g->g≠k4:=λg hg ex=>by
         have:=O.ac.lt g hg
         omega
       have hk4r:some k4≠bK b:=λex=>hk4b k4 ex.symm rfl
       refine⟨B42.grown g7 B42.size hbb,by have:=g7.size;have:=hb42.size;have:=v1.lt;omega,_,em.symm,rfl,⟨?_,by rw[e7];exact o7,O42.ne,O42.fa,O42.fb⟩,?_⟩
       · exact O42.nx.other g7 O42.ne
       · have:=A42.grown g7 hk4r
         rw[show daL a n c b m e (dE (o++[47]))=daL a n c b m e ⟨92,1,(dE (o++[47])).nx,(dE (o++[47])).ac.set (o.length+1) true⟩ from by unfold daL;rw[ek,est]]at this
         exact this
   · have em:cW o=dE (o++[47]):=by
       have:kr (o++[47])≠true:=λh=>by
         have:=Br h (List.prefix_append o [47])
         rw[hg]at this;cases this
       unfold cW dE
       rw[if_neg h0,if_neg hd,if_neg h2,if_neg (by rw[hg];decide),if_neg this]
     refine⟨B42,by have:=hb42.size;have:=v1.lt;omega,_,em.symm,?_,O42,A42⟩
     have:kr (o++[47])≠true:=λh=>by
       have:=Br h (List.prefix_append o [47])
       rw[hg]at this;cases this
     unfold dE
     rw[if_neg this];rfl
 · refine aC.of ?_ _
   rintro wj ⟨hB,hk,d,rfl,hdk,OD,AD⟩
   refine⟨_,_,a,n,c,b,m,e,bG.load0 (cs:=daL a n c b m e (cW o)) AD rfl,?_⟩
   obtain⟨wy,s1,s2,h⟩:=back OD hB
   exact⟨wy,s1,_,_,a,n,c,b,m,e,s2,h⟩
def Few (a b:DA):Prop:=∀ps:List Pr,ps.Nodup->(∀p∈ps,∃w:List Nat,(∀x∈w,x<a.K)/\Gu a b (a.s,b.s) w=p)->ps.length <=65536
theorem zm {a b:DA}(ha:a.Ok)(hb:b.Ok)(hk:a.k=b.k)(h:a.n*b.n <=65536):Few a b:=λps hn hp=>by
 have hK:b.K=a.K:=by unfold DA.K;rw[hk]
 refine Nat.le_trans (G9 hn λp hpm=>?_) h
 obtain⟨w,hw,rfl⟩:=hp p hpm
 exact⟨ha.run_lt ha.s_lt hw,hb.run_lt hb.s_lt (by rw[hK];exact hw)⟩
theorem mc {α:Type}[DecidableEq α]:∀{l m:List α},l.Nodup->(∀x∈l,x∈m)->l.length <=m.length
 | [],m,_,_=>Nat.zero_le _
 | x::l,m,hn,hs=>by
   obtain⟨hx,hl⟩:=List.nodup_cons.1 hn
   have hm:=hs x List.mem_cons_self
   have:=mc (m:=m.erase x) hl λy hy=>(List.mem_erase_of_ne (λe:y=x=>hx (by rw[<- e];exact hy))).2 (hs y (List.mem_cons_of_mem _ hy))
   rw[List.length_erase_of_mem hm]at this
   have:=List.length_pos_of_mem hm
   rw[List.length_cons];omega
theorem Few.image {a b c d:DA}(h:Few a b)(hk:c.K=a.K)(g:Pr->Pr)(hg:∀w:List Nat,(∀x∈w,x<a.K)->Gu c d (c.s,d.s) w=g (Gu a b (a.s,b.s) w))
   {ps:List Pr} (hps:∀w:List Nat,(∀x∈w,x<a.K)->Gu a b (a.s,b.s) w∈ps) (hl:ps.length <=65536):Few c d:=λqs hn hq=>by
 refine Nat.le_trans (mc (m:=ps.map g) hn λq hqm=>?_) (by rw[List.length_map];exact hl)
 obtain⟨w,hw,rfl⟩:=hq q hqm
 rw[hk]at hw
 rw[hg w hw]
 exact List.mem_map.2 ⟨_,hps w hw,rfl⟩
theorem Few.congr {a b a' b':DA}(h:Few a b)(ka:a'.k=a.k)(sa:a'.st=a.st)(na:a'.nx=a.nx)(kb:b'.k=b.k)(sb:b'.st=b.st)(nb:b'.nx=b.nx):Few a' b':=λps hn hp=>by
 have CW:∀{d d':DA},d'.k=d.k->d'.nx=d.nx->∀(w:List Nat) (s:Nat),d'.run s w=d.run s w:=by
   intro d d' hk hx w
   induction w with
   | nil=>intro s;rfl
   | cons x w ih=>
     intro s
     show d'.run (d'.to s x) w=d.run (d.to s x) w
     rw[ih]
     unfold DA.to DA.K
     rw[hk,hx]
 refine h ps hn λp hpm=>?_
 obtain⟨w,hw,e⟩:=hp p hpm
 refine⟨w,by unfold DA.K at hw ⊢;rwa [ka]at hw,?_⟩
 rw[<- e]
 unfold Gu DA.s
 rw[CW ka na,CW kb nb,sa,sb]
section
variable {α β:Type} [DecidableEq α]
def KVg (ek:α->Value)(ev:β->Value)(es:List MapEntry)(kvs:List (α×β)):Prop:=es.map (λe=>(e.key,e.val))=kvs.map λp=>(ek p.1,ev p.2)
def Ah (ek:α->Value)(ev:β->Value)(w:World)(r:Nat)(kvs:List (α×β)):Prop:=∃es clock,w.heap[r]? =some (.map es clock)/\KVg ek ev es.toList kvs
def jI (k:α):List (α×β)->Option β
 | []=>none
 | (k',v)::l=>if k=k' then some v else jI k l
def mL (k:α):List (α×β)->Nat->Option (Nat×β)
 | [],_=>none
 | (k',v)::l,i=>if k=k' then some (i,v)else mL k l (i+1)
theorem zz (k:α):∀(l:List (α×β)) (i:Nat),(mL k l i).map (·.2)=jI k l
 | [],_=>rfl
 | (k',v)::l,i=>by
   unfold mL jI
   split
   · rfl
   · exact zz k l (i+1)
structure wN (P:Program)(kt:TypeId)(ek:α->Value):Prop where
 check:∀(b:Bool) (k:α) (w:World),(Instr.checkKey b 10000 kt (ek k)).run P w=.ok () w
 find:∀{β:Type} (ev:β->Value) (k:α) (es:List MapEntry) (kvs:List (α×β)) (w:World),KVg ek ev es kvs->(Instr.findKey kt (ek k) es).run P w=.ok ((mL k kvs 0).map λp=>(p.1,ev p.2)) w
theorem wN.struct {P:Program}{kt:TypeId}{fs:Array Field}(hu:P.underlying kt=some (.struct fs)){ek:α->Value}(heq:∀a b,eqV P 10000 kt (ek a) (ek b)=some (decide (a=b)))
   (check:∀(b:Bool) (k:α) (w:World),(Instr.checkKey b 10000 kt (ek k)).run P w=.ok () w):wN P kt ek where
 check:=check
 find:=by
   intro β ev k es kvs w h
   have ask:∀(es:List MapEntry) (kvs:List (α×β)) (i:Nat),KVg ek ev es kvs->(Instr.findAsking kt (ek k) es i).run P w=.ok ((mL k kvs i).map λp=>(p.1,ev p.2)) w:=by
     intro es
     induction es with
     | nil=>
       intro kvs i h
       have:kvs=[]:=by unfold KVg at h;simp at h;exact h
       subst this;rfl
     | cons e es ih=>
       intro kvs i h
       cases kvs with
       | nil=>unfold KVg at h;simp at h
       | cons p kvs=>
         obtain⟨k',v⟩:=p
         unfold KVg at h
         simp only[List.map_cons,List.cons.injEq,Prod.mk.injEq]at h
         obtain⟨⟨hk,hv⟩,ht⟩:=h
         unfold Instr.findAsking mL
         rw[hk]
         have he:(Op.equal kt (ek k) (ek k')).run P w=.ok (decide (k=k')) w:=Jg 10000 kt _ _ _ w (heq k k')
         rw[Sem.run_bind,he,Result.andThen_ok]
         by_cases e1:k=k'
         · simp[e1,hv]
         · simp only[e1,decide_false,if_false]
           exact ih kvs (i+1) ht
   unfold Instr.findKey
   rw[Sem.run_bind,bD hu,Result.andThen_ok]
   cases es with
   | nil=>
     have:kvs=[]:=by unfold KVg at h;simp at h;exact h
     subst this;rfl
   | cons e es=>exact ask (e::es) kvs 0 h
variable {ek:α->Value} {ev:β->Value}
theorem Ah.below {w w':World}{r:Nat}{kvs:List (α×β)}(h:Ah ek ev w r kvs)(hb:bW w w'):Ah ek ev w' r kvs:=by
 obtain⟨es,c,hh,hkv⟩:=h
 exact⟨es,c,(hb.block r (Array.getElem?_eq_some_iff.1 hh).1).trans hh,hkv⟩
theorem Ah.lt {w:World}{r:Nat}{kvs:List (α×β)}(h:Ah ek ev w r kvs):r<w.heap.size:=by
 obtain⟨es,c,hh,hkv⟩:=h
 exact(Array.getElem?_eq_some_iff.1 hh).1
theorem Ah.keep {w w':World}{r:Nat}{kvs:List (α×β)}(h:Ah ek ev w r kvs)(hb:w'.heap[r]? =w.heap[r]?):Ah ek ev w' r kvs:=by
 obtain⟨es,c,hh,hkv⟩:=h
 exact⟨es,c,hb.trans hh,hkv⟩
theorem Ah.grown {w w':World}{r:Nat}{kvs:List (α×β)}(h:Ah ek ev w r kvs){k:Nat}(hg:w.grownBy w' (some k))(hne:r≠k):Ah ek ev w' r kvs:=h.keep (hg.block r h.lt λe=>hne (Option.some.inj e))
theorem Ah.new {w w':World}{r:Nat}(hr:r=w.heap.size)(hw:w'=w.alloc (.map #[] 0)):Ah ek ev w' r []:=by
 subst hr hw
 exact⟨#[],0,heap_alloc_new w _,rfl⟩
theorem zo {P:Program}{w:World}{r:Nat}{es:Array MapEntry}{c:Nat}(h:w.heap[r]? =some (.map es c)):(getObj r).run P w=.ok (.map es c) w:=by
 simp only[getObj,Sem.run,h]
theorem Ah.look2 {P:Program}{mt kt et:TypeId}{n bytes:Nat}{z:Value}(hm:P.underlying mt=some (.map kt et))(hk:wN P kt ek)(he:TF P et n bytes z){w:World}{r:Nat}{kvs:List (α×β)}(h:Ah ek ev w r kvs)(k:α):
   (Instr.lookup mt (.map (some r)) (ek k) true).run P w=.ok (.tuple #[((jI k kvs).map ev).getD z,.bool (jI k kvs).isSome]) w:=by
 obtain⟨es,c,hh,hkv⟩:=h
 obtain⟨i,hi,_,_,hz⟩:=he.info
 unfold Instr.lookup
 simp only[Sem.run_bind,bD hm,Result.andThen_ok,zo hh,Sem.run_pure,hk.check,hk.find ev k _ _ _ hkv]
 rw[<- zz k kvs 0]
 cases mL k kvs 0 with
 | none=>simp[zeroValue,mC hi,hz]
 | some p=>simp
theorem Ah.look1 {P:Program}{mt kt et:TypeId}{n bytes:Nat}{z:Value}(hm:P.underlying mt=some (.map kt et))(hk:wN P kt ek)(he:TF P et n bytes z){w:World}{r:Nat}{kvs:List (α×β)}(h:Ah ek ev w r kvs)(k:α):
   (Instr.lookup mt (.map (some r)) (ek k) false).run P w=.ok (((jI k kvs).map ev).getD z) w:=by
 obtain⟨es,c,hh,hkv⟩:=h
 obtain⟨i,hi,_,_,hz⟩:=he.info
 unfold Instr.lookup
 simp only[Sem.run_bind,bD hm,Result.andThen_ok,zo hh,Sem.run_pure,hk.check,hk.find ev k _ _ _ hkv]
 rw[<- zz k kvs 0]
 cases mL k kvs 0 with
 | none=>simp[zeroValue,mC hi,hz]
 | some p=>simp
theorem Ah.put {P:Program}{mt kt et:TypeId}(hm:P.underlying mt=some (.map kt et))(hk:wN P kt ek){w:World}{r:Nat}{kvs:List (α×β)}(h:Ah ek ev w r kvs){k:α}(hno:jI k kvs=none)(v:β):
   ∃w',(Instr.mapUpdate mt (.map (some r)) (ek k) (ev v)).run P w=.ok () w'/\Ah ek ev w' r (kvs++[(k,v)])/\w.grownBy w' (some r):=by
 obtain⟨es,c,hh,hkv⟩:=h
 have hlt:r<w.heap.size:=(Array.getElem?_eq_some_iff.1 hh).1
 have hnone:mL k kvs 0=none:=by
   have:=zz k kvs 0
   rw[hno]at this
   simpa using this
 refine⟨{ w with heap:=w.heap.setIfInBounds r (.map (es.push { key:=ek k,val:=ev v,born:=c }) (c+1)) },?_,⟨es.push { key:=ek k,val:=ev v,born:=c },c+1,by simp[hlt],?_⟩,⟨rfl,rfl,rfl,by simp,λj hj hne=>?_⟩⟩
 · unfold Instr.mapUpdate
   simp only[Sem.run_bind,bD hm,Result.andThen_ok,zo hh,hk.check,hk.find ev k _ _ _ hkv,hnone,Option.map_none]
   simp only[setObj,Sem.run,hh]
 · unfold KVg at hkv ⊢
   simp only[Array.toList_push,List.map_append,List.map_cons,List.map_nil,hkv]
 · have:r≠j:=λe=>hne (by rw[e])
   simp[Array.getElem?_setIfInBounds_ne this]
end
def ekP (p:Pr):Value:=.agg #[vI ((p.1:Nat):Int),vI ((p.2:Nat):Int)]
def evN (n:Nat):Value:=vI ((n:Nat):Int)
def Fg (p:Pr):Pi:=(((p.1:Nat):Int),((p.2:Nat):Int))
theorem Jw (q:Pr):∀(ps:List Pr) (n:Nat),(∀t,jI q (ps.zipIdx n)=some t->n <=t/\ps[t-n]? =some q)/\(jI q (ps.zipIdx n)=none->q ∉ ps)
 | [],n=>⟨λt h=>by simp[jI]at h,λ_ h=>by cases h⟩
 | p::ps,n=>by
   obtain⟨h1,h2⟩:=Jw q ps (n+1)
   rw[List.zipIdx_cons]
   unfold jI
   by_cases e:q=p
   · rw[if_pos e]
     refine⟨λt h=>?_,λh=>by cases h⟩
     obtain rfl:=Option.some.inj h
     exact⟨Nat.le_refl _,by rw[Nat.sub_self,e];rfl⟩
   · rw[if_neg e]
     refine⟨λt h=>?_,λh hm=>?_⟩
     · obtain⟨h3,h4⟩:=h1 t h
       refine⟨by omega,?_⟩
       rw[show t-n=(t-(n+1))+1 by omega,List.getElem?_cons_succ]
       exact h4
     · rcases List.mem_cons.1 hm with h3|h3
       · exact e h3
       · exact h2 h h3
theorem Oc (ps:List Pr)(q:Pr):(ps++[q]).zipIdx=ps.zipIdx++[(q,ps.length)]:=by
 rw[List.zipIdx_append];simp
theorem Ow.chg {α:Type}{T:Ty α}{t:TypeId}{w w':World}{a:Option Addr}{n c:Nat}{xs:List α}{L:List Nat}(h:Ow T t w NoB a n c xs)(hc:Chg L w w')(hne:∀g,bK a=some g->g ∉ L):Ow T t w' NoB a n c xs:=
 h.keep (hc.keep.mono λb hb=>by
   rcases hb with hb|hb
   · exact hb.elim
   · exact hne b hb.symm)
theorem uR:Whl prog be 2:=⟨⟨_,_,Dn⟩,by kernel_rfl⟩
theorem Qg:∃fs,prog.underlying be=some (.struct fs):=⟨_,rfl⟩
theorem FH:wN prog be ekP:=by
 obtain⟨fs,h⟩:=Qg
 refine wN.struct h (λa b=>?_) (λb k w=>?_)
 · obtain⟨a1,a2⟩:=a
   obtain⟨b1,b2⟩:=b
   have e:eqV prog 10000 be (ekP (a1,a2)) (ekP (b1,b2))=some ((((a1:Nat):Int)==((b1:Nat):Int))&&((((a2:Nat):Int)==((b2:Nat):Int))&&true)):=by kernel_rfl
   rw[e]
   congr 1
   rw[Bool.eq_iff_iff]
   simp only[Bool.and_eq_true,beq_iff_eq,Bool.and_true,dTx,Prod.mk.injEq]
   omega
 · obtain⟨a1,a2⟩:=k
   kernel_rfl
theorem JR (x y:Bool)(w:World):Cf gT #[.bool x,.bool y] w (Ret λv w'=>v=.bool (x&&y)/\w'=w):=by
 apply CV
 exact ae.of (λh=>⟨by rw[h];rfl,rfl⟩) (λh=>⟨by rw[h];rfl,rfl⟩)
def d0:DA:=⟨0,0,[],[]⟩
structure vp (w0:World)(da db:DA)(aa:Option Addr)(an ac:Nat)(ba:Option Addr)(bn bc:Nat)(ca:Option Addr)(cn cc:Nat)(ea:Option Addr)(en ec:Nat)(k3 k4 k6 k38 k44 B:Nat)(x:Option Addr)(xn xc:Nat)(y:Option Addr)(yn yc:Nat)(t:Option Addr)(tn tc:Nat)(ps:List Pr)(d:DA)(w:World):Prop where
 da:am w k3 af [vI da.k,vI da.st,.slice aa an ac,.slice ba bn bc]
 db:am w k4 af [vI db.k,vI db.st,.slice ca cn cc,.slice ea en ec]
 res:am w k6 af [vI 0,vI 0,.slice none 0 0,.slice none 0 0]
 mak:Mk w k38 x xn xc y yn yc d
 map:Ah ekP evN w k44 ps.zipIdx
 row:Ow tP be w NoB t tn tc (ps.map Fg)
 o1:k3<k4
 o2:k4<k6
 o3:k6<k38
 o4:k38<k44
 o5:k44<B
 o6:B <=w.heap.size
 o7:w0.heap.size <=k3
 fx:bI B x
 fy:bI B y
 ft:bI B t
 tx:∀g,bK t=some g->bK x≠some g/\bK y≠some g
 bw:bW w0 w
theorem vp.below {w0 w w':World}{da db:DA}{aa ba ca ea x y t:Option Addr}{an ac bn bc cn cc en ec k3 k4 k6 k38 k44 B xn xc yn yc tn tc:Nat}{ps:List Pr}{d:DA}
   (h:vp w0 da db aa an ac ba bn bc ca cn cc ea en ec k3 k4 k6 k38 k44 B x xn xc y yn yc t tn tc ps d w) (hb:bW w w'):vp w0 da db aa an ac ba bn bc ca cn cc ea en ec k3 k4 k6 k38 k44 B x xn xc y yn yc t tn tc ps d w':=
 { h with
   da:=h.da.below hb
   db:=h.db.below hb
   res:=h.res.below hb
   mak:=h.mak.below hb
   map:=h.map.below hb
   row:=h.row.below hb
   o6:=Nat.le_trans h.o6 hb.size
   bw:=ab h.bw hb h.bw.size }
theorem zg {d:DA}{s:Nat}(h:s<d.ac.length):d.ac[s]=d.acc s:=by
 unfold DA.acc
 rw[List.getD_eq_getElem?_getD,List.getElem?_eq_getElem h];rfl
theorem vp.made {w0 w w':World}{da db:DA}{aa ba ca ea x y t x' y':Option Addr}{an ac bn bc cn cc en ec k3 k4 k6 k38 k44 B xn xc yn yc tn tc xn' xc' yn' yc':Nat}{ps:List Pr}{d d':DA}
   (h:vp w0 da db aa an ac ba bn bc ca cn cc ea en ec k3 k4 k6 k38 k44 B x xn xc y yn yc t tn tc ps d w) (hM:Mk w' k38 x' xn' xc' y' yn' yc' d') (hc:Chg (nB k38 x y) w w') (f1:oD w x x') (f2:oD w y y'):
   vp w0 da db aa an ac ba bn bc ca cn cc ea en ec k3 k4 k6 k38 k44 B x' xn' xc' y' yn' yc' t tn tc ps d' w':=by
 have p1:=h.o1
 have p2:=h.o2
 have p3:=h.o3
 have p4:=h.o4
 have p5:=h.o5
 have p6:=h.o6
 have p7:=h.o7
 have out:∀k:Nat,k<k38\/k=k44->k ∉ nB k38 x y:=λk hk hm=>by
   rcases dv.1 hm with e|e|e
   · omega
   · have:=h.fx k e;omega
   · have:=h.fy k e;omega
 have hsz:=hc.size
 exact
   { da:=hc.arr h.da (out _ (by omega))
     db:=hc.arr h.db (out _ (by omega))
     res:=hc.arr h.res (out _ (by omega))
     mak:=hM
     map:=h.map.keep (hc.block _ h.map.lt (out _ (by omega)))
     row:=h.row.chg hc λg hg hm=>by
       rcases dv.1 hm with e|e|e
       · have:=h.ft g hg;omega
       · exact(h.tx g hg).1 e
       · exact(h.tx g hg).2 e
     o1:=p1,o2:=p2,o3:=p3,o4:=p4,o5:=p5,o6:=by omega,o7:=p7
     fx:=oD.fresh f1 h.fx p6
     fy:=oD.fresh f2 h.fy p6
     ft:=h.ft
     tx:=λg hg=>⟨λe=>by
       rcases f1 g e with e2|e2
       · exact(h.tx g hg).1 e2
       · have:=h.row.lt g hg;omega,λe=>by
       rcases f2 g e with e2|e2
       · exact(h.tx g hg).2 e2
       · have:=h.row.lt g hg;omega⟩
     bw:=h.bw.trans (hc.below h.bw.size λk hk=>by
       rcases dv.1 hk with e|e|e
       · omega
       · have:=h.fx k e;omega
       · have:=h.fy k e;omega) }
theorem vp.more {w0 w w':World}{da db:DA}{aa ba ca ea x y t t':Option Addr}{an ac bn bc cn cc en ec k3 k4 k6 k38 k44 B xn xc yn yc tn tc tn' tc':Nat}{ps ps':List Pr}{d:DA}
   (h:vp w0 da db aa an ac ba bn bc ca cn cc ea en ec k3 k4 k6 k38 k44 B x xn xc y yn yc t tn tc ps d w) (hM:Ah ekP evN w' k44 ps'.zipIdx) (hR:Ow tP be w' NoB t' tn' tc' (ps'.map Fg)) (hc:Chg (k44::(bK t).toList) w w') (f:oD w t t'):
   vp w0 da db aa an ac ba bn bc ca cn cc ea en ec k3 k4 k6 k38 k44 B x xn xc y yn yc t' tn' tc' ps' d w':=by
 have p1:=h.o1
 have p2:=h.o2
 have p3:=h.o3
 have p4:=h.o4
 have p5:=h.o5
 have p6:=h.o6
 have p7:=h.o7
 have mem:∀k:Nat,k∈k44::(bK t).toList->k=k44\/bK t=some k:=λk hk=>by
   rcases List.mem_cons.1 hk with e|e
   · exact .inl e
   · exact .inr (by simpa using e)
 have out:∀k:Nat,k<k44->k ∉ k44::(bK t).toList:=λk hk hm=>by
   rcases mem k hm with e|e
   · omega
   · have:=h.ft k e;omega
 have hsz:=hc.size
 have rowx:∀g,bK x=some g->g ∉ k44::(bK t).toList:=λg hg hm=>by
   rcases mem g hm with e|e
   · have:=h.fx g hg;omega
   · exact(h.tx g e).1 hg
 have rowy:∀g,bK y=some g->g ∉ k44::(bK t).toList:=λg hg hm=>by
   rcases mem g hm with e|e
   · have:=h.fy g hg;omega
   · exact(h.tx g e).2 hg
 exact
   { da:=hc.arr h.da (out _ (by omega))
     db:=hc.arr h.db (out _ (by omega))
     res:=hc.arr h.res (out _ (by omega))
     mak:=⟨hc.arr h.mak.var (out _ p4),h.mak.nx.chg hc rowx,h.mak.ac.chg hc rowy,h.mak.na,h.mak.nb,h.mak.ne⟩
     map:=hM
     row:=hR
     o1:=p1,o2:=p2,o3:=p3,o4:=p4,o5:=p5,o6:=by omega,o7:=p7
     fx:=h.fx
     fy:=h.fy
     ft:=oD.fresh f h.ft p6
     tx:=λg hg=>⟨λe=>by
       rcases f g hg with e2|e2
       · exact(h.tx g e2).1 e
       · have:=h.mak.nx.lt g e;omega,λe=>by
       rcases f g hg with e2|e2
       · exact(h.tx g e2).2 e
       · have:=h.mak.ac.lt g e;omega⟩
     bw:=h.bw.trans (hc.below h.bw.size λk hk=>by
       rcases mem k hk with e|e
       · omega
       · have:=h.ft k e;omega) }
def iG (da db:DA):Bool:=okD da&&(okD db&&(da.k==db.k))
def EZ (w:World)(v:Value)(w':World):Prop:=v=.tuple #[daV none 0 0 none 0 0 d0,vI 151]/\bW w w'
def rK (da db:DA)(w:World)(v:Value)(w':World):Prop:=if iG da db=true then ∃d ps,jr da db (λx y=>x&&y) d ps/\vo w d v w' else EZ w v w'
theorem rK.yes {da db:DA}{w w':World}{v:Value}(h:iG da db=true)(k:∃d ps,jr da db (λx y=>x&&y) d ps/\vo w d v w'):rK da db w v w':=by
 unfold rK
 rw[if_pos h];exact k
theorem rK.no {da db:DA}{w w':World}{v:Value}(h:iG da db=false)(k:EZ w v w'):rK da db w v w':=by
 unfold rK
 rw[if_neg (by rw[h];simp)];exact k
theorem kI {s x k N:Nat}(hs:s<N)(hx:x<k)(hN:N <=65536)(hk:k <=512):i64.wrap (i64.wrap (((s:Nat):Int)*((k:Nat):Int))+((x:Nat):Int))=((s*k+x:Nat):Int)/\s*k+x<N*k:=by
 have h1:=ud hs hx
 have h2:N*k <=65536*512:=Nat.mul_le_mul hN hk
 rw[show((s:Nat):Int)*((k:Nat):Int)=((s*k:Nat):Int) from(Int.natCast_mul _ _).symm,wrap_i64 (n:=((s*k:Nat):Int)) (by omega) (by omega),wrap_i64 (by omega) (by omega)]
 exact⟨by omega,h1⟩
theorem Kw {w:World}{aa ba ca ea:Option Addr}{an ac bn bc cn cc en ec:Nat}{da db:DA}(hA:DaS w aa an ac ba bn bc da)(hB:DaS w ca cn cc ea en ec db)(hf:da.Ok->db.Ok->da.k=db.k->Few da db):
   Cf rQ #[daV aa an ac ba bn bc da,daV ca cn cc ea en ec db,.func (.func gT) #[] #[]] w
     (Ret (rK da db w)):=by
 apply pe
 intro k3 w3 hk3 hw3 k4 w4 hk4 hw4 k6 w6 hk6 hw6
 have b3:=(hw3▸ah w _:bW w w3)
 have b4:=(hw4▸ah w3 _:bW w3 w4)
 have b6:=(hw6▸ah w4 _:bW w4 w6)
 have A3':am w3 k3 af (daL aa an ac ba bn bc da):=am.new hk3 hw3
 have A4':am w4 k4 af (daL ca cn cc ea en ec db):=am.new hk4 hw4
 have A6:am w6 k6 af [vI 0,vI 0,.slice none 0 0,.slice none 0 0]:=am.new hk6 hw6
 have l3:=A3'.lt
 have l4:=A4'.lt
 have A3:=(A3'.below b4).below b6
 have A4:=A4'.below b6
 have B6:bW w w6:=ab (ab b3 b4 b3.size) b6 (Nat.le_trans b3.size b4.size)
 have o34:k3<k4:=by omega
 have o46:k4<k6:=by omega
 have o3:w.heap.size <=k3:=by omega
 clear b3 b4 b6 hw3 hw4 hw6 A3' A4' l3 l4 hk3 hk4 hk6
 refine⟨λw'=>iG da db=true/\bW w6 w',⟨λb w'=>b= !iG da db/\bW w6 w',?_,λb=>aC.of ?_ _⟩,aC.of ?_ _⟩
 · refine⟨_,_,aa,an,ac,ba,bn,bc,bG.load0 (cs:=daL aa an ac ba bn bc da) A3 rfl,?_⟩
   refine ax (ko (hA.below B6)) ?_
   rintro _ w19 ⟨rfl,b19⟩
   refine⟨_,rfl,ae.of (λh=>?_) (λh=>?_)⟩
   · refine⟨?_,b19⟩
     unfold iG
     have:okD da=false:=by simpa using h
     rw[this];rfl
   have ha:okD da=true:=by simpa using h
   refine⟨_,_,ca,cn,cc,ea,en,ec,bG.load0 (cs:=daL ca cn cc ea en ec db) (A4.below b19) rfl,?_⟩
   refine ax (ko ((hB.below B6).below b19)) ?_
   rintro _ w23 ⟨rfl,b23⟩
   have B23:=ab b19 b23 b19.size
   refine⟨_,rfl,ae.of (λh=>?_) (λh=>?_)⟩
   · refine⟨?_,B23⟩
     unfold iG
     have:okD db=false:=by simpa using h
     rw[this,ha];rfl
   have hb:okD db=true:=by simpa using h
   refine⟨rfl,_,(A3.below B23).load1 aB rfl rfl,rfl,_,(A4.below B23).load1 aB rfl rfl,?_,B23⟩
   unfold iG
   rw[ha,hb]
   rfl
 · rintro wj ⟨rfl,bj⟩
   refine ae.of (λh=>?_) (λh=>⟨by simpa using h,bj⟩)
   obtain⟨wx,s1,s2,g1⟩:=cX (A6.below bj) rfl none 0 0 none 0 0 d0
   exact⟨wx,s1,_,_,none,0,0,none,0,0,s2,rK.no (by simpa using h) ⟨rfl,Below.put (ab B6 bj B6.size) g1 (by omega)⟩⟩
 rintro wj ⟨hok,bj⟩
 obtain⟨oa,ob,hk⟩:da.Ok/\db.Ok/\da.k=db.k:=by
   unfold iG at hok
   rw[Bool.and_eq_true,Bool.and_eq_true,beq_iff_eq]at hok
   exact⟨di.1 hok.1,di.1 hok.2.1,hok.2.2⟩
 have few:=hf oa ob hk
 have hK1:1 <=da.K/\da.K <=512:=by have:=oa.k1;have:=oa.k2;show 1 <=da.k.toNat/\da.k.toNat <=512;omega
 have hKa:=oa.kk
 have hKb:db.k=((da.K:Nat):Int):=by rw[hKa,hk]
 have hbK:db.K=da.K:=by unfold DA.K;rw[hk]
 have Bj:=ab B6 bj B6.size
 have A3j:=A3.below bj
 have A4j:=A4.below bj
 have A6j:=A6.below bj
 clear A3 A4 A6 bj B6
 refine⟨rfl,_,A3j.load1 aB rfl rfl,?_⟩
 intro k38 w38 hk38 hw38
 have b38:=(hw38▸ah wj _:bW wj w38)
 have o6:k6<k38:=by have:=A6j.lt;omega
 have M38:Mk w38 k38 none 0 0 none 0 0 ⟨da.k,0,[],[]⟩:=⟨am.new hk38 hw38,Ow.nil _ _ _ _,Ow.nil _ _ _ _,(λg hg=>by cases hg),(λg hg=>by cases hg),λg hg=>by cases hg⟩
 refine⟨rfl,_,(A3j.below b38).load1 aB rfl rfl,rfl,_,(A4j.below b38).load1 aB rfl rfl,?_⟩
 intro k9 w9 hk9 hw9
 have b9:=(hw9▸ah w38 _:bW w38 w9)
 have es:da.st=((da.s:Nat):Int):=by have:=oa.s0;show da.st=((da.st.toNat:Nat):Int);omega
 have es':db.st=((db.s:Nat):Int):=by have:=ob.s0;show db.st=((db.st.toNat:Nat):Int);omega
 obtain⟨wx1,s1,P1,g1⟩:=uR.store0 (P:=prog) (cs:=[vI da.st,vI db.st]) rfl (aW rfl (aW rfl jA)) (am.new hk9 hw9:am w9 k9 be [vI 0,vI 0]) rfl
 refine⟨wx1,s1,?_⟩
 have bx1:bW w38 wx1:=Below.put b9 g1 (by omega)
 intro k44 w44 hk44 hw44
 have b44:=(hw44▸ah wx1 _:bW wx1 w44)
 have o9:k38<k44:=by have:=M38.var.lt;have:=bx1.size;omega
 have o944:k9<k44:=by have:=P1.lt;omega
 refine⟨_,_,uR.load0 (cs:=[vI da.st,vI db.st]) (P1.below b44) rfl,?_⟩
 obtain⟨wx2,s2,Mp,g2⟩:=(Ah.new (ek:=ekP) (ev:=evN) hk44 hw44).put (P:=prog) ke FH (k:=(da.s,db.s)) rfl 0
 rw[es,es']
 refine⟨wx2,s2,?_⟩
 have P2:am wx2 k9 be [vI da.st,vI db.st]:=(P1.below b44).grown g2 (fH (by omega))
 rw[es,es']at P2
 refine⟨_,_,uR.load0 (cs:=[vI ((da.s:Nat):Int),vI ((db.s:Nat):Int)]) P2 rfl,?_⟩
 intro k48 w48 hk48 hw48
 have b48:=(hw48▸ah wx2 _:bW wx2 w48)
 have b2:bW wx1 wx2:=Below.put b44 g2 (by omega)
 have bx2:bW w38 w48:=ab (ab bx1 b2 bx1.size) b48 (Nat.le_trans bx1.size b2.size)
 have bB:bW wj w48:=ab b38 bx2 b38.size
 have lm:=Mp.lt
 have R0:Ow tP be w48 NoB (some ⟨k48,0,none⟩) 1 1 ([(da.s,db.s)].map Fg):=by
   have:=Ow.newF (A:=NoB) Fq (t:=be) (l:=prC (Fg (da.s,db.s))) (xs:=[Fg (da.s,db.s)]) hk48 hw48 (iK.one rfl) (by show 1 <=9223372036854775807;omega)
   exact this
 have S0:vp w da db aa an ac ba bn bc ca cn cc ea en ec k3 k4 k6 k38 k44 k48 none 0 0 none 0 0 (some ⟨k48,0,none⟩) 1 1 [(da.s,db.s)] ⟨da.k,0,[],[]⟩ w48:=
   { da:=A3j.below bB
     db:=A4j.below bB
     res:=A6j.below bB
     mak:=M38.below bx2
     map:=Mp.below b48
     row:=R0
     o1:=o34,o2:=o46,o3:=o6,o4:=o9,o5:=by omega
     o6:=by rw[hw48];simp;omega
     o7:=o3
     fx:=bI.none _
     fy:=bI.none _
     ft:=λg hg=>by simp[bK]at hg;omega
     tx:=λg hg=>⟨(λh=>by cases h),(λh=>by cases h)⟩
     bw:=ab Bj bB Bj.size }
 have I0:Gp da db (λx y=>x&&y) [(da.s,db.s)] [] [] 0 0:=Gp.start oa ob
 clear A3j A4j A6j M38 P1 P2 Mp R0 bB bx2 b48 b2 b44 bx1 b9 b38 Bj
 refine⟨λm ta tn tc wl=>∃(ps:List Pr) (nx:List Int) (acs:List Bool) (x:Option Addr) (xn xc:Nat) (y:Option Addr) (yn yc:Nat),m=65536-acs.length/\
   Gp da db (λx y=>x&&y) ps acs nx acs.length 0/\vp w da db aa an ac ba bn bc ca cn cc ea en ec k3 k4 k6 k38 k44 k48 x xn xc y yn yc ta tn tc ps ⟨da.k,0,nx,acs⟩ wl,
   ⟨_,[(da.s,db.s)],[],[],none,0,0,none,0,0,rfl,I0,S0⟩,?_⟩
 clear S0 I0
 intro m ta tn tc
 refine aC.of ?_ _
 rintro wl ⟨ps,nx,acs,x,xn,xc,y,yn,yc,rfl,PI,S⟩
 have hyn:=S.mak.ac.len
 have htn:=S.row.len
 rw[List.length_map]at htn
 have hps:=few ps PI.nd PI.reach
 have hacs:yn=acs.length:=hyn
 refine⟨rfl,rfl,rfl,y,yn,yc,S.mak.var.load1 bf rfl rfl,ae.of (λh=>?_) (λh=>?_)⟩ <;> simp only[dTx,dFx]at h
 · have hi:acs.length<ps.length:=by omega
   have hi':acs.length<(ps.map Fg).length:=by rw[List.length_map];exact hi
   obtain⟨p,hp⟩:∃p,ps[acs.length]? =some p:=⟨_,List.getElem?_eq_getElem hi⟩
   have hpe:ps[acs.length]=p:=(List.getElem?_eq_some_iff.1 hp).2
   have hpin:=PI.inn p (List.mem_of_getElem? hp)
   have ldp:(Instr.loadAt be (.pointer (ao ta ((yn:Nat):Int) 2))).run prog wl=.ok (.agg #[vI ((p.1:Nat):Int),vI ((p.2:Nat):Int)]) wl:=by
     have:=S.row.all.pair uR hi'
     rw[List.getElem_map,hpe,<- hacs]at this
     exact this
   refine⟨rfl,rfl,rfl,y,yn,yc,S.mak.var.load1 bf rfl rfl,⟨⟨by omega,by omega⟩,S.row.all.isSome hi'⟩,_,_,ldp,?_⟩
   intro k12 w12 hk12 hw12
   have b12:=(hw12▸ah wl _:bW wl w12)
   obtain⟨wx3,s3,P12,g3⟩:=uR.store0 (P:=prog) (cs:=[vI ((p.1:Nat):Int),vI ((p.2:Nat):Int)]) rfl (aW rfl (aW rfl jA)) (am.new hk12 hw12:am w12 k12 be [vI 0,vI 0]) rfl
   have bx3:bW wl wx3:=Below.put b12 g3 (by omega)
   have S3:=S.below bx3
   have hk12B:k48 <=k12:=by have:=S.o6;omega
   have h12t:∀g,bK ta=some g->g≠k12:=λg hg=>by have:=S.row.lt g hg;omega
   have h12x:∀g,bK x=some g->g≠k12:=λg hg=>by have:=S.mak.nx.lt g hg;omega
   have h12y:∀g,bK y=some g->g≠k12:=λg hg=>by have:=S.mak.ac.lt g hg;omega
   have h12m:k38≠k12/\k44≠k12:=by have:=S.mak.var.lt;have:=S.map.lt;omega
   refine⟨wx3,s3,⟨λs w'=>s=((acs.length:Nat):Int)/\∃(x:Option Addr) (xn xc:Nat) (y:Option Addr) (yn yc:Nat),vp w da db aa an ac ba bn bc ca cn cc ea en ec k3 k4 k6 k38 k44 k48 x xn xc y yn yc ta tn tc ps ⟨da.k,0,nx++List.replicate da.K 0,acs++[da.acc p.1&&db.acc p.2]⟩ w'/\am w' k12 be [vI ((p.1:Nat):Int),vI ((p.2:Nat):Int)]/\(∀g,bK x=some g->g≠k12)/\(∀g,bK y=some g->g≠k12),?_,λsN=>aC.of ?_ _⟩⟩
   · have dA:=fun{u:World} (hu:bW wx3 u)=>(hA.below (ab S3.bw hu S3.bw.size)).ac
     have dB:=fun{u:World} (hu:bW wx3 u)=>(hB.below (ab S3.bw hu S3.bw.size)).ac
     have la:=(dA (Below.refl _ _)).len
     have lb:=(dB (Below.refl _ _)).len
     have p1:p.1<da.ac.length:=hpin.1
     have p2:p.2<db.ac.length:=hpin.2
     refine⟨rfl,rfl,rfl,rfl,ba,bn,bc,λu hu=>(S3.da.below hu).load1 bf rfl rfl,_,λu hu=>(P12.below hu).load1 aB rfl rfl,⟨⟨by omega,by omega⟩,(dA (Below.refl _ _)).isSome p1⟩,_,λu hu=>(dA hu).tru bv p1,
       ea,en,ec,λu hu=>(S3.db.below hu).load1 bf rfl rfl,_,λu hu=>(P12.below hu).load1 aB rfl rfl,⟨⟨by omega,by omega⟩,(dB (Below.refl _ _)).isSome p2⟩,_,λu hu=>(dB hu).tru bv p2,λwq hq=>?_⟩
     rw[zg p1,zg p2]
     refine ax (JR _ _ wq) ?_
     rintro _ w81 ⟨rfl,e81⟩
     rw[e81];clear e81 w81
     refine⟨_,rfl,?_⟩
     have S4:=S3.below hq
     have hnx:=PI.len
     have hmul:acs.length*da.K <=65536*512:=Nat.mul_le_mul (by omega) hK1.2
     refine ax (BC S4.mak (by show(1:Int) <=da.k;exact oa.k1) (by show da.k <=512;exact oa.k2) (by show acs.length <=200000;omega) (by show nx.length <=_;omega) (da.acc p.1&&db.acc p.2) 0) ?_
     rintro _ w82 ⟨rfl,x',xn',xc',y',yn',yc',M',hc,f1,f2⟩
     refine⟨_,rfl,rfl,x',xn',xc',y',yn',yc',S4.made M' hc f1 f2,hc.arr (P12.below hq) λhm=>?_,λg hg=>?_,λg hg=>?_⟩
     · rcases dv.1 hm with e|e|e
       · exact h12m.1 e.symm
       · exact h12x k12 e rfl
       · exact h12y k12 e rfl
     · rcases f1 g hg with e|e
       · exact h12x g e
       · have:=P12.lt;have:=hq.size;omega
     · rcases f2 g hg with e|e
       · exact h12y g e
       · have:=P12.lt;have:=hq.size;omega
   rintro wj2 ⟨rfl,x2,xn2,xc2,y2,yn2,yc2,S2,P2,n2x,n2y⟩
   have PI2:=PI.state rfl hp
   have hal:(acs++[da.acc p.1&&db.acc p.2]).length=acs.length+1:=by simp
   generalize hacs':acs++[da.acc p.1&&db.acc p.2]=acs' at*
   refine⟨rfl,((da.K:Nat):Int),by rw[hKa];exact S2.da.load1 aB rfl rfl,?_⟩
   refine⟨λm ta tn tc xx wl=>∃(j:Nat) (ps:List Pr) (nx:List Int) (x:Option Addr) (xn xc:Nat) (y:Option Addr) (yn yc:Nat),xx=(j:Int)/\j <=da.K/\m=da.K-j/\Gp da db (λx y=>x&&y) ps acs' nx acs.length j/\ps[acs.length]? =some p/\
     vp w da db aa an ac ba bn bc ca cn cc ea en ec k3 k4 k6 k38 k44 k48 x xn xc y yn yc ta tn tc ps ⟨da.k,0,nx,acs'⟩ wl/\am wl k12 be [vI ((p.1:Nat):Int),vI ((p.2:Nat):Int)]/\(∀g,bK x=some g->g≠k12)/\(∀g,bK y=some g->g≠k12)/\(∀g,bK ta=some g->g≠k12),
     ⟨_,0,ps,_,x2,xn2,xc2,y2,yn2,yc2,rfl,Nat.zero_le _,rfl,PI2,hp,S2,P2,n2x,n2y,h12t⟩,?_⟩
   clear PI2 S2 P2 n2x n2y
   intro m1 ta1 tn1 tc1 xx
   refine aC.of ?_ _
   rintro wl1 ⟨j,ps1,nx1,x1,xn1,xc1,y1,yn1,yc1,rfl,hj,rfl,Q,hp1,S1,P1,n1x,n1y,n1t⟩
   have htn1:=S1.row.len
   rw[List.length_map]at htn1
   have hps1:=few ps1 Q.nd Q.reach
   refine ae.of (λh5=>?_) (λh5=>?_) <;> simp only[dTx,dFx]at h5
   · have hjK:j<da.K:=by omega
     have ia:=kI hpin.1 hjK oa.n2 hK1.2
     have ib:=kI hpin.2 hjK ob.n2 hK1.2
     obtain⟨va,va1,va2,va3,va4⟩:=oa.at hpin.1 hjK
     obtain⟨vb,vb1,vb2,vb3,vb4⟩:=ob.at hpin.2 (by rw[hbK];exact hjK)
     rw[hbK]at vb1
     have dA:=fun{u:World} (hu:bW wl1 u)=>(hA.below (ab S1.bw hu S1.bw.size)).nx
     have dB:=fun{u:World} (hu:bW wl1 u)=>(hB.below (ab S1.bw hu S1.bw.size)).nx
     have la:=(dA (Below.refl _ _)).len
     have lb:=(dB (Below.refl _ _)).len
     have ga:p.1*da.K+j<da.nx.length:=cF va1
     have gb:p.2*da.K+j<db.nx.length:=cF vb1
     have ea':da.nx[p.1*da.K+j]=((da.to p.1 j:Nat):Int):=by
       rw[List.getElem?_eq_getElem ga]at va1
       rw[Option.some.inj va1,va4];omega
     have eb':db.nx[p.2*da.K+j]=((db.to p.2 j:Nat):Int):=by
       rw[List.getElem?_eq_getElem gb]at vb1
       rw[Option.some.inj vb1,vb4];omega
     refine⟨rfl,rfl,rfl,rfl,rfl,rfl,aa,an,ac,λu hu=>(S1.da.below hu).load1 aI rfl rfl,((p.1:Nat):Int),λu hu=>(P1.below hu).load1 aB rfl rfl,((da.K:Nat):Int),λu hu=>by rw[hKa];exact(S1.da.below hu).load1 aB rfl rfl,?_⟩
     rw[ia.1]
     refine⟨⟨⟨by omega,by omega⟩,(dA (Below.refl _ _)).isSome ga⟩,((da.to p.1 j:Nat):Int),λu hu=>by rw[<- ea'];exact(dA hu).num aB ga,ca,cn,cc,λu hu=>(S1.db.below hu).load1 aI rfl rfl,((p.2:Nat):Int),λu hu=>(P1.below hu).load1 aB rfl rfl,((da.K:Nat):Int),λu hu=>by rw[<- hKb];exact(S1.db.below hu).load1 aB rfl rfl,?_⟩
     rw[ib.1]
     refine⟨⟨⟨by omega,by omega⟩,(dB (Below.refl _ _)).isSome gb⟩,((db.to p.2 j:Nat):Int),λu hu=>by rw[<- eb'];exact(dB hu).num aB gb,λk15 hk15 wq hq hcell=>?_⟩
     obtain⟨q,hq'⟩:∃q,q=toP da db p j:=⟨_,rfl⟩
     have q1:da.to p.1 j=q.1:=by rw[hq'];rfl
     have q2:db.to p.2 j=q.2:=by rw[hq'];rfl
     rw[q1,q2]
     have Z15:am wq k15 be [vI 0,vI 0]:=hcell
     obtain⟨wx4,s4,P15,g4⟩:=uR.store0 (P:=prog) (cs:=[vI ((q.1:Nat):Int),vI ((q.2:Nat):Int)]) rfl (aW rfl (aW rfl jA)) Z15 rfl
     have b4:bW wl1 wx4:=Below.put hq g4 hk15
     have S4:=S1.below b4
     have P4:=P1.below b4
     have lq:=uR.load0 (P:=prog) (cs:=[vI ((q.1:Nat):Int),vI ((q.2:Nat):Int)]) P15 rfl
     have look:=S4.map.look2 (P:=prog) ke FH ff q
     have lz:=Jw q ps1 0
     have t15:∀g,bK ta1=some g->g≠k15:=λg hg=>by have:=S1.row.lt g hg;omega
     have k1215:k12≠k15:=by have:=P1.lt;omega
     have fin:∀(ps':List Pr) (t:Nat) (ta2:Option Addr) (tn2 tc2:Nat) (W:World),(ps'=ps1\/ps'=ps1++[q]/\q ∉ ps1)->ps'[t]? =some q->vp w da db aa an ac ba bn bc ca cn cc ea en ec k3 k4 k6 k38 k44 k48 x1 xn1 xc1 y1 yn1 yc1 ta2 tn2 tc2 ps' ⟨da.k,0,nx1,acs'⟩ W->
         am W k12 be [vI ((p.1:Nat):Int),vI ((p.2:Nat):Int)]->(∀g,bK ta2=some g->g≠k12)->
         (∀wq_2:World,bW W wq_2->∃(wx_6:World),(Instr.storeAt aw (.pointer (ao x1 ((acs.length*da.K+j:Nat):Int) 1)) (vI ((t:Nat):Int))).run prog wq_2=.ok () wx_6/\
           ∃nx2,Gp da db (λx y=>x&&y) ps' acs' nx2 acs.length (j+1)/\ps'[acs.length]? =some p/\vp w da db aa an ac ba bn bc ca cn cc ea en ec k3 k4 k6 k38 k44 k48 x1 xn1 xc1 y1 yn1 yc1 ta2 tn2 tc2 ps' ⟨da.k,0,nx2,acs'⟩ wx_6/\am wx_6 k12 be [vI ((p.1:Nat):Int),vI ((p.2:Nat):Int)]):=by
       intro ps' t ta2 tn2 tc2 W hps' ht SW PW ntW wq2 hq2
       have S6:=SW.below hq2
       have hnl:nx1.length=(acs.length+1)*da.K:=by rw[Q.len,hal]
       have hidx:acs.length*da.K+j<nx1.length:=by rw[hnl];exact ud (Nat.lt_succ_self _) hjK
       obtain⟨wx6,s6,o6,g6⟩:=S6.mak.nx.store ff (λ_ _ h=>h) (i:=((acs.length*da.K+j:Nat):Int)) (by rw[Int.toNat_natCast];exact hidx) (k:=1) rfl (v:=vI ((t:Nat):Int)) (x:=((t:Nat):Int)) eE
       rw[Int.toNat_natCast]at o6
       have hc6:Chg (nB k38 x1 y1) wq2 wx6:=(Chg.row g6).mono λk hk=>dv.2 (.inr (.inl (by simpa using hk)))
       refine⟨wx6,s6,nx1.set (acs.length*da.K+j) ((t:Nat):Int),Q.put oa ob hk hal hjK hp1 (by rw[<- hq'];exact hps') (by rw[<- hq'];exact ht),?_,?_,hc6.arr (PW.below hq2) λhm=>?_⟩
       · rcases hps' with e|⟨e,_⟩
         · rw[e];exact hp1
         · rw[e,List.getElem?_append_left (cF hp1)];exact hp1
       · refine S6.made (x':=x1) (xn':=xn1) (xc':=xc1) (y':=y1) (yn':=yn1) (yc':=yc1) ⟨?_,o6,?_,S6.mak.na,S6.mak.nb,S6.mak.ne⟩ hc6 (λg hg=>.inl hg) (λg hg=>.inl hg)
         · exact S6.mak.var.grown g6 λex=>S6.mak.na k38 ex.symm rfl
         · exact S6.mak.ac.other g6 λg hg ex=>S6.mak.ne g ex hg
       · rcases dv.1 hm with e|e|e
         · exact h12m.1 e.symm
         · exact n1x k12 e rfl
         · exact n1y k12 e rfl
     have iw:=kI (s:=acs.length) (x:=j) (k:=da.K) (N:=65536) (by omega) hjK (Nat.le_refl _) hK1.2
     obtain⟨n0,b0,look',hyes,hno⟩:∃(n0:Int) (b0:Bool),(Instr.lookup fA (.map (some k44)) (ekP q) true).run prog wx4=.ok (.tuple #[vI n0,.bool b0]) wx4/\(b0=true->∃t:Nat,n0=(t:Int)/\ps1[t]? =some q)/\(b0=false->jI q ps1.zipIdx=none):=by
       cases hlk:jI q ps1.zipIdx with
       | none=>
         rw[hlk]at look
         exact⟨0,false,look,(λh=>by cases h),λ_=>rfl⟩
       | some t=>
         rw[hlk]at look
         have:=(lz.1 t hlk).2
         exact⟨((t:Nat):Int),true,look,(λ_=>⟨t,rfl,this⟩),λh=>by cases h⟩
     refine⟨wx4,s4,_,_,lq,n0,b0,look',⟨λa l c n w'=>∃(ps':List Pr) (t:Nat),n=((t:Nat):Int)/\(ps'=ps1\/ps'=ps1++[q]/\q ∉ ps1)/\ps'[t]? =some q/\
         vp w da db aa an ac ba bn bc ca cn cc ea en ec k3 k4 k6 k38 k44 k48 x1 xn1 xc1 y1 yn1 yc1 a l c ps' ⟨da.k,0,nx1,acs'⟩ w'/\am w' k12 be [vI ((p.1:Nat):Int),vI ((p.2:Nat):Int)]/\(∀g,bK a=some g->g≠k12),?_,λa2 l2 c2 n16=>aC.of ?_ _⟩⟩
     · refine ae.of (λhb=>?_) (λhb=>?_)
       · have hb0:b0=false:=by simpa using hb
         have hnone:=hno hb0
         have hnm:=lz.2 hnone
         obtain⟨wx5,s5,M5,g5⟩:=S4.map.put (P:=prog) ke FH hnone ps1.length
         have k4415:k44<k15:=by have:=S1.map.lt;omega
         have P15':=P15.grown g5 (fH (by omega))
         refine⟨_,_,lq,wx5,by rw[htn1];exact s5,_,_,uR.load0 (P:=prog) (cs:=[vI ((q.1:Nat):Int),vI ((q.2:Nat):Int)]) P15' rfl,?_⟩
         intro k126 w126 hk126 hw126
         have b126:=(hw126▸ah wx5 _:bW wx5 w126)
         have row5:Ow tP be wx5 NoB ta1 tn1 tc1 (ps1.map Fg):=S4.row.put (λg hg e=>by have:=S4.ft g hg;have:=S4.o5;omega) g5
         have hsrc:Src tP w126 NoB (some ⟨k126,0,none⟩) 1 [Fg q]:=Src.new1F Fq (vs:=prC (Fg q)) hk126 hw126 rfl
         obtain⟨w127,a7,n7,c7,r7,o7,g7,f7⟩:=dh (ty:=kE) Eg Dn (by decide) (row5.below b126) (λ_ _ h=>h) (cm:=1) hsrc (by rw[List.length_map,List.length_singleton];omega)
         have hc7:Chg (k44::(bK ta1).toList) wx4 w127:=((Chg.grown g5 List.mem_cons_self).trans (Chg.of b126)).trans ((Chg.row g7).mono λk hk=>List.mem_cons_of_mem _ hk)
         have sz5:wx4.heap.size <=w126.heap.size:=Nat.le_trans g5.size b126.size
         have f7':oD wx4 ta1 a7:=λg hg=>by
           rcases f7 g hg with e|e
           · exact .inl e
           · exact .inr (by omega)
         have M7:Ah ekP evN w127 k44 (ps1++[q]).zipIdx:=by
           rw[Oc]
           refine((M5.below b126).keep (g7.block _ (M5.below b126).lt λe=>?_))
           have:=S4.ft k44 e.symm
           have:=S4.o5
           omega
         refine⟨w127,a7,n7,c7,r7,ps1++[q],ps1.length,by rw[htn1],.inr ⟨rfl,hnm⟩,by simp,S4.more M7 (by rw[List.map_append];exact o7) hc7 f7',hc7.arr P4 λhm=>?_,λg hg=>?_⟩
         · rcases List.mem_cons.1 hm with e|e
           · exact h12m.2 e.symm
           · exact n1t k12 (by simpa using e) rfl
         · rcases f7' g hg with e|e
           · exact n1t g e
           · have:=P4.lt;omega
       · have hb0:b0=true:=by simpa using hb
         obtain⟨t,et,ht⟩:=hyes hb0
         exact⟨ps1,t,et,.inl rfl,ht,S4,P4,n1t⟩
     · rintro W ⟨ps',t,rfl,hps',ht,SW,PW,ntW⟩
       have hxn:=SW.mak.nx.len
       have hnl:nx1.length=(acs.length+1)*da.K:=by rw[Q.len,hal]
       have hidx:acs.length*da.K+j<nx1.length:=by rw[hnl];exact ud (Nat.lt_succ_self _) hjK
       have hxn':xn1=nx1.length:=hxn
       refine⟨rfl,rfl,rfl,rfl,x1,xn1,xc1,λu hu=>(SW.mak.var.below hu).load1 aI rfl rfl,((da.K:Nat):Int),λu hu=>by rw[hKa];exact(SW.da.below hu).load1 aB rfl rfl,?_⟩
       rw[iw.1]
       refine⟨⟨⟨by omega,by omega⟩,SW.mak.nx.all.isSome hidx⟩,λwq2 hq2=>?_⟩
       obtain⟨wx6,s6,nx2,Q2,hp2,S6,P6⟩:=fin ps' t a2 l2 c2 W hps' ht SW PW ntW wq2 hq2
       exact⟨wx6,s6,da.K-(j+1),by omega,j+1,ps',nx2,x1,xn1,xc1,y1,yn1,yc1,by rw[wrap_i64 (by omega) (by omega)];omega,hjK,rfl,Q2,hp2,S6,P6,n1x,n1y,ntW⟩
   · have hjK:j=da.K:=by omega
     subst hjK
     refine ae.no (decide_eq_false (by omega)) ⟨65536-acs'.length,by omega,ps1,nx1,acs',x1,xn1,xc1,y1,yn1,yc1,rfl,?_,S1⟩
     rw[hal]
     exact Q.row
 · have ld:=bG.load0 (cs:=daL x xn xc y yn yc ⟨da.k,0,nx,acs⟩) S.mak.var rfl
   obtain⟨wx,q1,q2,g1⟩:=cX S.res rfl x xn xc y yn yc ⟨da.k,0,nx,acs⟩
   have O:zb k48 wl x xn xc y yn yc ⟨da.k,0,nx,acs⟩:=⟨S.mak.nx,S.mak.ac,S.mak.ne,S.fx,S.fy⟩
   have p1:=S.o1
   have p2:=S.o2
   have p3:=S.o3
   have p4:=S.o4
   have p5:=S.o5
   have p7:=S.o7
   exact⟨rfl,rfl,_,_,x,xn,xc,y,yn,yc,ld,wx,q1,_,_,x,xn,xc,y,yn,yc,q2,rK.yes hok ⟨_,ps,PI.done rfl (by omega),x,xn,xc,y,yn,yc,rfl,(O.put g1 (by omega)).mono (by omega),Below.put S.bw g1 (by omega)⟩⟩
theorem wX {w:World}{aa ba ca ea:Option Addr}{an ac bn bc cn cc en ec:Nat}{da db:DA}(hA:DaS w aa an ac ba bn bc da)(hB:DaS w ca cn cc ea en ec db)(hf:da.Ok->db.Ok->da.k=db.k->Few da db):
   Cf dq #[daV aa an ac ba bn bc da,daV ca cn cc ea en ec db] w (Ret (rK da db w)):=by
 apply Hn
 intro k2 w2 hk2 hw2 k3 w3 hk3 hw3 k4 w4 hk4 hw4
 have b2:=(hw2▸ah w _:bW w w2)
 have b3:=(hw3▸ah w2 _:bW w2 w3)
 have b4:=(hw4▸ah w3 _:bW w3 w4)
 have A2:am w2 k2 af (daL aa an ac ba bn bc da):=am.new hk2 hw2
 have A3:am w3 k3 af (daL ca cn cc ea en ec db):=am.new hk3 hw3
 have A4:am w4 k4 af [vI 0,vI 0,.slice none 0 0,.slice none 0 0]:=am.new hk4 hw4
 have B4:bW w w4:=ab (ab b2 b3 b2.size) b4 (Nat.le_trans b2.size b3.size)
 have o4:w.heap.size <=k4:=by have:=b2.size;have:=b3.size;omega
 have l4:=A4.lt
 refine⟨_,_,aa,an,ac,ba,bn,bc,bG.load0 (cs:=daL aa an ac ba bn bc da) ((A2.below b3).below b4) rfl,_,_,ca,cn,cc,ea,en,ec,bG.load0 (cs:=daL ca cn cc ea en ec db) (A3.below b4) rfl,?_⟩
 refine ax (Kw (hA.below B4) (hB.below B4) hf) ?_
 intro v w8 hP
 by_cases hok:iG da db=true
 · unfold rK at hP
   rw[if_pos hok]at hP
   obtain⟨d,ps,hI,a1,n1,c1,b1,m1,e1,rfl,O,hb⟩:=hP
   obtain⟨wx,s1,s2,g1⟩:=cX (A4.below hb) rfl a1 n1 c1 b1 m1 e1 d
   exact⟨_,_,a1,n1,c1,b1,m1,e1,_,rfl,wx,s1,_,_,a1,n1,c1,b1,m1,e1,s2,rK.yes hok ⟨d,ps,hI,a1,n1,c1,b1,m1,e1,rfl,(O.put g1 l4).mono B4.size,Below.put (ab B4 hb B4.size) g1 o4⟩⟩
 · unfold rK at hP
   rw[if_neg hok]at hP
   obtain⟨rfl,hb⟩:=hP
   obtain⟨wx,s1,s2,g1⟩:=cX (A4.below hb) rfl none 0 0 none 0 0 d0
   exact⟨_,_,none,0,0,none,0,0,_,rfl,wx,s1,_,_,none,0,0,none,0,0,s2,rK.no (by simpa using hok) ⟨rfl,Below.put (ab B4 hb B4.size) g1 o4⟩⟩
def BE (P:Program)(v:Value)(args:Array Value)(w:World)(R:Ending->World->Prop):Prop:=
 match(match v with
   | .func (.func f) first captured=>if kF P f then some (f,(first.toList++(args.toList++captured.toList)).toArray)else none
   | _=>none:Option (FuncId×Array Value))with
 | some (f,l)=>Calls P f l w R
 | none=>False
theorem BE.of {P:Program}{f:FuncId}{args:Array Value}{w:World}{R:Ending->World->Prop}(hc:kF P f=true)(h:Calls P f args w R):BE P (.func (.func f) #[] #[]) args w R:=by
 unfold BE
 show(match(if kF P f then some (f,_)else none:Option (FuncId×Array Value))with|some (f,l)=>Calls P f l w R|none=>False)
 rw[if_pos hc]
 simpa using h
end Go.Pk
