/- What the laws lean on: ShelfSort, SymD, SymP, SymE, SymQ, SymF, SymG, SymH, SymK, PathQ, PthP, V38, PthA, PthB, DfaF, MapG, DaD, DaE, Fnv; what is used. Its conditions: none. -/
import Derived.Test.YtpafoodmpjlkhaaGreatDoorKG
import Derived.Shelf.SortM.Plain
import Derived.Shelf.SortM.SortNone
import Derived.Lib.SlicesCompact
import Derived.Lib.RowBridge
set_option linter.unusedVariables false
set_option linter.unusedSimpArgs false
set_option linter.unusedSectionVars false
set_option maxRecDepth 100000
open Go.IntKind (i64)
open Go.Proofs.Tryz
open List (length)
open Option (isSome)
namespace Go.Pk
open Go.RowKit (Below)
open Go.Proofs
end Go.Pk
namespace Go.Proofs
open Go.Pk (Cf vS vI bW)
open Go.Shelf
def Tryz.sortS_ren:Go.Shelf.Ren:=⟨fun|6=>95|8=>150|9=>149|19=>200|20=>201|21=>191|22=>192|23=>193|24=>194|25=>195|26=>196|27=>197|28=>198|29=>199|36=>224|31=>225|32=>226|37=>227|38=>228|39=>229|41=>242|n=>n,fun|27=>38|29=>9|3=>3|32=>191|26=>38|0=>0|44=>244|46=>246|4=>4|36=>238|35=>237|41=>122|5=>5|9=>9|53=>278|57=>282|63=>291|64=>231|n=>n,fun|n=>n⟩
theorem Tryz.sortS:Go.Proofs.SlLaysM.n6 prog Tryz.sortS_ren:= {
 mixed:=by kernel_rfl
 f6:=⟨Tryz.f95.name,by decide,func95.trans (congrArg some (by kernel_rfl))⟩
 f8:=func150.trans (congrArg some (by kernel_rfl))
 f9:=⟨Tryz.f149.name,by decide,func149.trans (congrArg some (by kernel_rfl))⟩
 f19:=func200.trans (congrArg some (by kernel_rfl))
 f20:=func201.trans (congrArg some (by kernel_rfl))
 f21:=⟨Tryz.f191.name,by decide,func191.trans (congrArg some (by kernel_rfl))⟩
 f22:=⟨Tryz.f192.name,by decide,func192.trans (congrArg some (by kernel_rfl))⟩
 f23:=⟨Tryz.f193.name,by decide,func193.trans (congrArg some (by kernel_rfl))⟩
 f24:=⟨Tryz.f194.name,by decide,func194.trans (congrArg some (by kernel_rfl))⟩
 f25:=⟨Tryz.f195.name,by decide,func195.trans (congrArg some (by kernel_rfl))⟩
 f26:=⟨Tryz.f196.name,by decide,func196.trans (congrArg some (by kernel_rfl))⟩
 f27:=⟨Tryz.f197.name,by decide,func197.trans (congrArg some (by kernel_rfl))⟩
 f28:=⟨Tryz.f198.name,by decide,func198.trans (congrArg some (by kernel_rfl))⟩
 f29:=⟨Tryz.f199.name,by decide,func199.trans (congrArg some (by kernel_rfl))⟩
 f31:=func225.trans (congrArg some (by kernel_rfl))
 f32:=func226.trans (congrArg some (by kernel_rfl))
 f36:=⟨Tryz.f224.name,by decide,func224.trans (congrArg some (by kernel_rfl))⟩
 f37:=⟨Tryz.f227.name,by decide,func227.trans (congrArg some (by kernel_rfl))⟩
 f38:=⟨Tryz.f228.name,by decide,func228.trans (congrArg some (by kernel_rfl))⟩
 f39:=⟨Tryz.f229.name,by decide,func229.trans (congrArg some (by kernel_rfl))⟩
 f41:=⟨Tryz.f242.name,by decide,func242.trans (congrArg some (by kernel_rfl))⟩
 t0:=Tryz.underlying0
 a0:=Tryz.isAgg0
 z0:=Tryz.sizeOf0
 v0:=Tryz.zeroValue0
 t3:=Tryz.underlying3
 a3:=Tryz.isAgg3
 z3:=Tryz.sizeOf3
 v3:=Tryz.zeroValue3
 t4:=Tryz.underlying4
 a4:=Tryz.isAgg4
 z4:=Tryz.sizeOf4
 v4:=Tryz.zeroValue4
 t5:=Tryz.underlying5
 a5:=Tryz.isAgg5
 z5:=Tryz.sizeOf5
 v5:=Tryz.zeroValue5
 t9:=Tryz.underlying9
 a9:=Tryz.isAgg9
 z9:=Tryz.sizeOf9
 v9:=Tryz.zeroValue9
 t26:=Tryz.underlying38
 a26:=Tryz.isAgg38
 z26:=Tryz.sizeOf38
 v26:=Tryz.zeroValue38
 t27:=Tryz.underlying38
 a27:=Tryz.isAgg38
 z27:=Tryz.sizeOf38
 v27:=Tryz.zeroValue38
 t29:=Tryz.underlying9
 a29:=Tryz.isAgg9
 z29:=Tryz.sizeOf9
 v29:=Tryz.zeroValue9
 t32:=Tryz.underlying191
 a32:=Tryz.isAgg191
 z32:=Tryz.sizeOf191
 v32:=Tryz.zeroValue191
 t35:=Tryz.underlying237
 a35:=Tryz.isAgg237
 z35:=Tryz.sizeOf237
 v35:=Tryz.zeroValue237
 t36:=Tryz.underlying238
 a36:=Tryz.isAgg238
 z36:=Tryz.sizeOf238
 v36:=Tryz.zeroValue238
 t41:=Tryz.underlying122
 a41:=Tryz.isAgg122
 z41:=Tryz.sizeOf122
 v41:=Tryz.zeroValue122
 t44:=Tryz.underlying244
 a44:=Tryz.isAgg244
 z44:=Tryz.sizeOf244
 v44:=Tryz.zeroValue244
 t46:=Tryz.underlying246
 a46:=Tryz.isAgg246
 z46:=Tryz.sizeOf246
 v46:=Tryz.zeroValue246
 t53:=Tryz.underlying278
 a53:=Tryz.isAgg278
 z53:=Tryz.sizeOf278
 v53:=Tryz.zeroValue278
 t57:=Tryz.underlying282
 a57:=Tryz.isAgg282
 z57:=Tryz.sizeOf282
 v57:=Tryz.zeroValue282
 t63:=Tryz.underlying291
 a63:=Tryz.isAgg291
 z63:=Tryz.sizeOf291
 v63:=Tryz.zeroValue291
 t64:=Tryz.underlying231
 a64:=Tryz.isAgg231
 z64:=Tryz.sizeOf231
 v64:=Tryz.zeroValue231 }
end Go.Proofs
namespace Go.Pk
open Go.RowKit (Below)
open Go.Proofs
theorem Sl.texts {w:World}{a:Option Addr}{n c:Nat}{zs:List (List UInt8)}(h:Sl tS w iv a n c zs):zL w.heap.size w (.slice a n c) zs:=by
 obtain⟨rfl,h2,h3,h4⟩:=h
 rcases h4 with rfl|⟨b,off,rfl,hb,_,l,hl,hc⟩
 · exact .inl ⟨rfl,a,c,rfl⟩
 · refine .inr ⟨b,off,c,rfl,hb,λj hj=>?_⟩
   have he:=ez hl
   rw[hc j (by rw[he];simpa using hj),he]
   simp[hj]
theorem BC (Bs:Nat)(sv:Value)(zs:List (List UInt8))(hl:zs.length <=1000000)(w:World)(hBs:Bs<w.heap.size)(hc:w.cell? ⟨Bs,0,none⟩=some sv)(hI:zL w.heap.size w sv zs):
   Cf dJ #[.slice none 0 0,.func (.func bg) #[] #[.pointer (some ⟨Bs,0,none⟩)]] w
     (Ret λv w'=>∃a n c,v=.slice a n c/\Ow tS aq w' NoB a n c zs/\bp w.heap.size a/\bW w w'):=by
 refine(callsIn_wide (n:=3)).1 ?_
 have:=BA Fence.wide 3 trivial trivial rfl (by omega) Bs sv zs (by unfold maxLen;omega) (by omega) w hBs hc hI
 refine this.mono ?_
 rintro e W' ⟨v,rfl,hrow,hb⟩
 obtain⟨a,c,rfl,ho,hf⟩:=Fu (e:=λs=>vS s) (h1:=λ_=>rfl) (p:=λ_=>True) NoB hrow rfl (λ_ _=>trivial)
 exact⟨_,rfl,a,_,c,rfl,ho,hf,hb⟩
theorem EZ (Bs:Nat)(sv:Value)(zs:List (List UInt8))(hl:zs.length <=1000000)(w:World)(hBs:Bs<w.heap.size)(hc:w.cell? ⟨Bs,0,none⟩=some sv)(hI:zL w.heap.size w sv zs):
   Cf eU #[.func (.func bg) #[] #[.pointer (some ⟨Bs,0,none⟩)]] w
     (Ret λv w'=>∃a n c,v=.slice a n c/\Ow tS aq w' NoB a n c zs/\bp w.heap.size a/\bW w w'):=by
 apply kW
 refine av (BC Bs sv zs hl w hBs hc hI) ?_
 rintro _ w1 ⟨a,n,c,rfl,ho,hf,hb⟩
 exact⟨a,n,c,rfl,a,n,c,rfl,ho,hf,hb⟩
abbrev srt (zs:List (List UInt8)):List (List UInt8):=zs.mergeSort λx y=>decide (x <=y)
theorem Kt (a:Option Addr)(n c:Nat)(zs:List (List UInt8))(hl:zs.length <=1000000)(w:World)(ho:Ow tS aq w NoB a n c zs):
   Cf fF #[.slice a n c] w (Ret λv w'=>v=.tuple #[]/\Ow tS aq w' NoB a n c (srt zs)/\w.grownBy w' (bu a)):=by
 have hn:=ho.len
 subst hn
 rcases ho.2.2.2 with⟨rfl,rfl,rfl⟩|⟨g,cur,fr,rfl,_⟩
 · refine(Tryz.slices_Sort_string_none none 0 w).mono ?_
   rintro _ _ ⟨rfl,rfl⟩
   exact⟨_,rfl,rfl,by simpa[srt]using ho,⟨rfl,rfl,rfl,Nat.le_refl _,λ_ _ _=>rfl⟩⟩
 · have hh:=ho.holds
   refine(Tryz.slices_Sort_string g 0 c zs w hh.1 hh.2 (by omega)).mono ?_
   rintro _ _ ⟨rfl,q,os,rfl⟩
   have:=ho.putR (ys:=srt zs) (by simp) (λ_ _=>trivial) q os
   exact⟨_,rfl,rfl,this.1,this.2⟩
theorem Hy (Bs:Nat)(sv:Value)(zs:List (List UInt8))(hl:zs.length <=1000000)(w:World)(hBs:Bs<w.heap.size)(hc:w.cell? ⟨Bs,0,none⟩=some sv)(hI:zL w.heap.size w sv zs):
   Cf fg #[.func (.func bg) #[] #[.pointer (some ⟨Bs,0,none⟩)]] w
     (Ret λv w'=>∃a n c,v=.slice a n c/\Ow tS aq w' NoB a n c (srt zs)/\bp w.heap.size a/\bW w w'):=by
 apply lD
 refine av (EZ Bs sv zs hl w hBs hc hI) ?_
 rintro _ w1 ⟨a,n,c,rfl,ho,hf,hb⟩
 refine⟨a,n,c,rfl,?_⟩
 refine av (Kt a n c zs hl w1 ho) ?_
 rintro _ w2 ⟨rfl,ho2,hg⟩
 exact⟨rfl,a,n,c,rfl,ho2,hf,hb.grown hg hb.size hf⟩
theorem HN (a:Option Addr)(n c:Nat)(w:World):Cf cI #[.slice a n c] w
   (Ret λv w'=>v=.func (.func bg) #[] #[.pointer (some ⟨w.heap.size,0,none⟩)]/\w'=w.alloc (.cells #[.slice a n c] au)):=by
 apply iP
 rintro _ _ rfl rfl
 exact⟨rfl,rfl⟩
theorem E1 (a:Option Addr)(n c:Nat)(zs:List (List UInt8))(hl:zs.length <=1000000)(w:World)(ho:Ow tS aq w NoB a n c zs):
   Cf ee #[.slice a n c] w (Ret λv w'=>∃n',v=.slice a n' c/\Ow tS aq w' NoB a n' c (Lib.compact zs)/\w.grownBy w' (bu a)):=by
 have hn:=ho.len
 subst hn
 rcases ho.2.2.2 with⟨rfl,rfl,rfl⟩|⟨g,cur,fr,rfl,_⟩
 · refine(Tryz.slices_Compact_string_empty none 0 w).mono ?_
   rintro _ _ ⟨rfl,rfl⟩
   exact⟨_,rfl,_,rfl,ho,⟨rfl,rfl,rfl,Nat.le_refl _,λ_ _ _=>rfl⟩⟩
 · have hh:=ho.holds
   refine(Tryz.slices_Compact_string g 0 c zs w hh.1 (by omega) ho.2.1).mono ?_
   rintro _ _ ⟨rfl,q,rfl⟩
   have hle:=Lib.compact_length_le zs
   have:=ho.put0 (ys:=Lib.compact zs++List.replicate (zs.length-(Lib.compact zs).length) []) (by simp;omega) (λ_ _=>trivial) q
   exact⟨_,rfl,_,rfl,this.1.trunc rfl,this.2⟩
abbrev Txt:=List UInt8
def mJ (l:List Txt):List Txt:=Lib.compact (l.mergeSort λx y=>decide (x <=y))
theorem xv {a b:Txt}(h:a <=b)(hne:a≠b):a<b:=by
 have:=List.le_iff_lt_or_eq.1 h
 exact this.resolve_right hne
theorem Jp (l:List Txt):(l.mergeSort λx y=>decide (x <=y)).Pairwise (· <= ·):=by
 have h:=List.pairwise_mergeSort (le:=fun(x y:Txt)=>decide (x <=y)) (λa b c h1 h2=>by simp only[dTx]at*;exact List.le_trans h1 h2)
   (λa b=>by simp only[Bool.or_eq_true,dTx];exact List.le_total a b) l
 exact h.imp λh=>by simpa using h
theorem EM (d:List Txt)(hs:d.Pairwise (· <= ·)):∀m,m <=d.length->(Lib.compactUpTo d.toArray m).Pairwise (· < ·)/\(∀x,x∈Lib.compactUpTo d.toArray m ↔ x∈d.take m):=by
 intro m
 induction m with
 | zero=>intro _;simp[Lib.compactUpTo]
 | succ m ih=>
   intro hm
   obtain⟨h1,h2⟩:=ih (by omega)
   have hlt:m<d.length:=by omega
   have hd:d.toArray[m]! =d[m]:=by simp[hlt]
   rw[Lib.compactUpTo_succ,List.take_succ_eq_append_getElem hlt,hd]
   by_cases hk:Lib.keeps d.toArray m=true
   · rw[if_pos hk]
     refine⟨List.pairwise_append.2 ⟨h1,by simp,?_⟩,λx=>by rw[List.mem_append,h2,List.mem_append]⟩
     intro x hx y hy
     have hy':y=d[m]:=by simpa using hy
     subst hy'
     have hx':=(h2 x).1 hx
     obtain⟨i,hi,rfl⟩:=List.getElem_of_mem hx'
     rw[List.length_take]at hi
     rw[List.getElem_take]
     have hm0:m≠0:=by omega
     simp only[Lib.keeps,dTx]at hk
     have hne:=hk.resolve_left hm0
     have hd1:d.toArray[m-1]! =d[m-1]:=by simp[show m-1<d.length by omega]
     rw[hd,hd1]at hne
     have hle1:d[m-1] <=d[m]:=List.pairwise_iff_getElem.1 hs (m-1) m (by omega) hlt (by omega)
     have hlt1:=xv hle1 (λe=>hne e.symm)
     by_cases hi1:i=m-1
     · subst hi1;exact hlt1
     · have hle0:d[i] <=d[m-1]:=List.pairwise_iff_getElem.1 hs i (m-1) (by omega) (by omega) (by omega)
       exact List.lt_of_le_of_lt hle0 hlt1
   · rw[if_neg hk]
     refine⟨by simpa using h1,λx=>?_⟩
     rw[List.append_nil,h2,List.mem_append]
     refine⟨.inl,λh=>h.elim id λh=>?_⟩
     have hx:x=d[m]:=by simpa using h
     subst hx
     simp only[Lib.keeps,dTx,not_or,Classical.not_not]at hk
     obtain⟨hm0,he⟩:=hk
     have hd1:d.toArray[m-1]! =d[m-1]:=by simp[show m-1<d.length by omega]
     rw[hd,hd1]at he
     rw[he]
     exact List.mem_take_iff_getElem.2 ⟨m-1,by omega,rfl⟩
theorem xb (l:List Txt):(mJ l).Pairwise (· < ·):=(EM _ (Jp l) _ (Nat.le_refl _)).1
theorem Eu {l:List Txt}{x:Txt} :x∈mJ l ↔ x∈l:=by
 have:=(EM _ (Jp l) _ (Nat.le_refl _)).2 x
 unfold mJ Lib.compact
 rw[this,List.take_length,List.mem_mergeSort]
theorem zr (l:List Txt):(mJ l).Nodup:=(xb l).imp fun{a b} h e=>by subst e;exact List.lt_irrefl a h
theorem EE (l:List Txt):(mJ l).length <=l.length:=by
 have:=Lib.compact_length_le (l.mergeSort λx y=>decide (x <=y))
 rw[List.length_mergeSort]at this
 exact this
def Ca (ts:List Txt):List (Txt×Int):=ts.zipIdx.map λp=>(p.1,((p.2:Nat):Int))
theorem Cb (ts:List Txt)(x:Txt):Ca (ts++[x])=Ca ts++[(x,(ts.length:Int))]:=by
 unfold Ca
 rw[List.zipIdx_append]
 simp
theorem nO (k:Txt):∀(l m:List (Txt×Int)),mv k (l++m)=(mv k l).orElse λ_=>mv k m
 | [],m=>by simp[mv]
 | (k',v)::l,m=>by
   simp only[List.cons_append,mv]
   split
   · rfl
   · exact nO k l m
theorem zh {k:Txt} :∀{ts:List Txt},k ∉ ts->∀(l:List (Txt×Int)),l.map (·.1)=ts->mv k l=none
 | _,h,[],e=>rfl
 | [],h,(k',v)::l,e=>by simp at e
 | t::ts,h,(k',v)::l,e=>by
   simp only[List.map_cons,List.cons.injEq]at e
   obtain⟨rfl,e⟩:=e
   simp only[List.mem_cons,not_or]at h
   unfold mv
   rw[if_neg h.1]
   exact zh h.2 l e
theorem GU (ts:List Txt):(Ca ts).map (·.1)=ts:=by
 unfold Ca
 rw[List.map_map]
 exact List.zipIdx_map_fst 0 ts
theorem j0 {ts:List Txt}{k:Txt}(h:k ∉ ts):mv k (Ca ts)=none:=zh h _ (GU ts)
theorem ii {α:Type}{l:List α}{k:Nat}(h:k<l.length):l.take (k+1)=l.take k++[l[k]]:=List.take_succ_eq_append_getElem h
def fv (w:World)(p:Option Addr)(ts:List Txt):Prop:=
 ∃b a n c m cs fr,p=some ⟨b,0,none⟩/\w.heap[b]? =some (.cells cs dN fr)/\cs= #[.slice a n c,.map (some m)]/\Sl tS w iv a n c ts/\nh w m (Ca ts)/\ts.Pairwise (· < ·)
theorem fv.below {w w':World}{p:Option Addr}{ts:List Txt}(h:fv w p ts)(hb:bW w w'):fv w' p ts:=by
 obtain⟨b,a,n,c,m,cs,fr,e1,e2,e3,e4,e5,e6⟩:=h
 exact⟨b,a,n,c,m,cs,fr,e1,(hb.block b (Array.getElem?_eq_some_iff.1 e2).1).trans e2,e3,e4.below hb,e5.below hb,e6⟩
theorem rH (a:Option Addr)(n c:Nat)(l:List Txt)(hl:l.length <=1000000)(w:World)(hs:Sl tS w iv a n c l):
   Cf kF #[.slice a n c] w (Ret λv w'=>∃p,v=.pointer p/\fv w' p (mJ l)/\bW w w'):=by
 apply yM
 refine av (HN a n c w) ?_
 rintro _ _ ⟨rfl,rfl⟩
 refine⟨_,rfl,?_⟩
 have hB0:bW w (w.alloc (.cells #[.slice a n c] au)):=af _ _
 have hs0:=hs.below hB0
 have hc0:(w.alloc (.cells #[.slice a n c] au)).cell? ⟨w.heap.size,0,none⟩=some (.slice a n c):=by
   rw[eG (heap_alloc_new w _)];rfl
 refine av (Hy w.heap.size (.slice a n c) l hl _ (by simp) hc0 (Sl.texts hs0)) ?_
 rintro _ w1 ⟨a1,n1,c1,rfl,ho1,hf1,hb1⟩
 have hB1:=ab hB0 hb1 hB0.size
 refine⟨a1,n1,c1,rfl,?_⟩
 refine av (E1 a1 n1 c1 _ (by simpa[srt]using hl) w1 ho1) ?_
 rintro _ w2 ⟨n2,rfl,ho2,hg2⟩
 have hB2:bW w w2:=hB1.grown hg2 hB1.size (hf1.mono hB0.size)
 refine⟨a1,n2,c1,rfl,?_⟩
 have ho2:Ow tS aq w2 NoB a1 n2 c1 (mJ l):=ho2
 intro k3 w3 hk3 hw3
 intro k4 w4 hk4 hw4
 have hB3:bW w2 w3:=hw3▸af _ _
 have hB4:bW w3 w4:=hw4▸af _ _
 have hs3:w3.heap.size=w2.heap.size+1:=by rw[hw3];simp
 have hs4:w4.heap.size=w3.heap.size+1:=by rw[hw4];simp
 have hBB:bW w2 w4:=ab hB3 hB4 hB3.size
 have hm3:nh w3 k3 []:=nh.new hk3 hw3
 have hm4:nh w4 k3 []:=hm3.below hB4
 have hh4:w4.heap[k4]? =some (.cells #[.slice a1 n2 c1,.map (some k3)] dN (0,0)):=by
   rw[hw4,hk4];exact heap_alloc_new w3 _
 have ho4:=ho2.below hBB
 have hn:=ho4.len
 have hlen:=EE l
 have hlt1:=ho2.lt
 refine⟨rfl,rfl,a1,n2,c1,?_,?_⟩
 · exact cV bF rfl (by rw[eG hh4];rfl)
 refine⟨λm i w'=>∃n:Nat,n <=(mJ l).length/\i=(n:Int)/\m=(mJ l).length-n/\nh w' k3 (Ca ((mJ l).take n))/\w4.grownBy w' (some k3),
   ⟨_,0,by omega,rfl,rfl,by simpa[Ca]using hm4,⟨rfl,rfl,rfl,Nat.le_refl _,λ_ _ _=>rfl⟩⟩,?_⟩
 intro m i
 refine aE.of ?_ _
 rintro w' ⟨j,hj,rfl,rfl,hm,hg⟩
 have hk34:k4≠k3:=by omega
 have hh':w'.heap[k4]? =some (.cells #[.slice a1 n2 c1,.map (some k3)] dN (0,0)):=by
   rw[hg.block k4 (by omega) (λe=>hk34 (Option.some.inj e))];exact hh4
 have ho':Ow tS aq w' NoB a1 n2 c1 (mJ l):=ho4.keep (gI hg λb hb e=>by
   rcases hb with hb|hb
   · exact hb
   · have:=hlt1 b hb.symm
     simp at e;omega)
 refine ae.of (λh=>?_) (λh=>?_) <;> simp at h
 · have hsl:=ho'.all
   have hj':j<(mJ l).length:=by omega
   refine⟨⟨⟨by omega,by omega⟩,hsl.isSome hj'⟩,?_⟩
   obtain⟨v,hv,hrep⟩:=hsl.load1 (i:=(j:Int)) aB rfl rfl (by simpa using hj')
   obtain⟨rfl,-⟩:=kh hrep
   simp only[Int.toNat_natCast]at hv
   refine⟨_,hv,rfl,rfl,some k3,?_,?_⟩
   · exact cV cu rfl (by rw[eG hh'];rfl)
   have hno:mv (mJ l)[j] (Ca ((mJ l).take j))=none:=j0 λhmem=>by
     obtain⟨i,hi,e⟩:=List.getElem_of_mem hmem
     rw[List.length_take]at hi
     rw[List.getElem_take]at e
     have:=List.pairwise_iff_getElem.1 (xb l) i j (by omega) hj' (by omega)
     rw[e]at this
     exact List.lt_irrefl _ this
   obtain⟨w5,hr,hm5,hg5⟩:=Au (P:=prog) cu aB hm hno (j:Int)
   refine⟨w5,hr,_,?_,j+1,by omega,?_,rfl,?_,?_⟩
   · omega
   · rw[wrap_i64 (by omega) (by omega)];omega
   · rw[ii hj',Cb,List.length_take,Nat.min_eq_left (by omega)];exact hm5
   · exact⟨hg5.os.trans hg.os,hg5.tape.trans hg.tape,hg5.output.trans hg.output,Nat.le_trans hg.size hg5.size,λk hk hne=>(hg5.block k (Nat.lt_of_lt_of_le hk hg.size) hne).trans (hg.block k hk hne)⟩
 · have:j=(mJ l).length:=by omega
   subst this
   rw[List.take_length]at hm
   refine⟨_,rfl,⟨k4,a1,n2,c1,k3,_,_,rfl,hh',rfl,ho'.all,hm,xb l⟩,?_⟩
   refine(ab hB2 hBB hB2.size).grown hg (by have:=hB2.size;omega) λk e=>?_
   cases e
   rw[hk3];exact hB2.size
theorem rm {α:Type}[DecidableEq α]:∀{l m:List α},l.Nodup->(∀x∈l,x∈m)->l.length <=m.length
 | [],m,_,_=>Nat.zero_le _
 | x::l,m,h,hs=>by
   have hx:=hs x List.mem_cons_self
   have h':=List.nodup_cons.1 h
   have:=rm (l:=l) (m:=m.erase x) h'.2 λy hy=>(List.mem_erase_of_ne (λe=>h'.1 (by rw[<- e];exact hy))).2 (hs y (List.mem_cons_of_mem _ hy))
   rw[List.length_erase_of_mem hx]at this
   have:=List.length_pos_of_mem hx
   simp;omega
theorem nS {α:Type}[DecidableEq α]{l m:List α}(h:l.Nodup)(k:m.Nodup)(hs:∀x,x∈l ↔ x∈m):l.length=m.length:=
 Nat.le_antisymm (rm h λx hx=>(hs x).1 hx) (rm k λx hx=>(hs x).2 hx)
theorem Gi {α:Type}[DecidableEq α]{l m:List α}(h:l.Nodup)(k:m.Nodup)(hs:∀x,x∈l ↔ x∈m)(p:α->Bool):l.countP p=m.countP p:=by
 rw[List.countP_eq_length_filter,List.countP_eq_length_filter]
 exact nS (h.filter _) (k.filter _) λx=>by simp[List.mem_filter,hs]
def Ar:Txt:=[97,98,99,100,101,102,103,104,105,106,107,108,109,110,111,112,113,114,115,116,117,118,119,120,121,122,48,49,50,51,52,53,54,55,56,57,45,95]
def letter (i:Nat):UInt8:=Ar[i]?.getD 0
def FK (n:Nat):Txt:=if h:n=0 then[]else letter ((n-1)%38)::FK ((n-1)/38)
termination_by n
decreasing_by omega
theorem qX:FK 0=[]:=by rw[FK];rfl
theorem qW {n:Nat}(h:n≠0):FK n=letter ((n-1)%38)::FK ((n-1)/38):=by rw[FK,dif_neg h]
def ir (n:Nat):Txt:=(FK n).reverse
def Ep (c:UInt8):Nat:=Ar.findIdx (· ==c)
def Ma:Txt->Nat
 | []=>0
 | c::t=>Ep c+1+38*Ma t
theorem vX:∀i,i<38->Ep (letter i)=i:=by decide
theorem CL (n:Nat):Ma (FK n)=n:=by
 induction n using Nat.strongRecOn with
 | _ n ih=>
   by_cases h:n=0
   · subst h;rw[qX];rfl
   · rw[qW h,Ma,ih _ (by omega),vX _ (by omega)];omega
theorem G6 {a b:Nat}(h:ir a=ir b):a=b:=by
 have:=congrArg List.reverse h
 simp only[ir,List.reverse_reverse]at this
 rw[<- CL a,this,CL]
def sr (l:List Txt)(n:Nat):Prop:=1 <=n/\ir n ∉ l/\∀k,1 <=k->k<n->ir k∈l
theorem Aa {l:List Txt}{n:Nat}(h:∀k,1 <=k->k<n->ir k∈l):n <=l.length+1:=by
 have:=rm (l:=(List.range' 1 (n-1)).map ir) (m:=l) (by
   refine List.pairwise_map.2 ((List.nodup_range' (s:=1) (n:=n-1)).imp fun{a b} hab e=>hab (G6 e))) (by
   intro x hx
   obtain⟨k,hk,rfl⟩:=List.mem_map.1 hx
   rw[List.mem_range'_1]at hk
   exact h k (by omega) (by omega))
 simp at this;omega
theorem Eb (l:List Txt):∃n,sr l n:=by
 have key:∀m,(∀k,1 <=k->k <=m->ir k∈l)\/∃n,sr l n:=by
   intro m
   induction m with
   | zero=>exact .inl λk h1 h2=>by omega
   | succ m ih=>
     rcases ih with ih|ih
     · by_cases h:ir (m+1)∈l
       · refine .inl λk h1 h2=>?_
         by_cases hk:k=m+1
         · rw[hk];exact h
         · exact ih k h1 (by omega)
       · exact .inr ⟨m+1,by omega,h,λk h1 h2=>ih k h1 (by omega)⟩
     · exact .inr ih
 rcases key (l.length+1)with h|h
 · have:=Aa (n:=l.length+2) λk h1 h2=>h k h1 (by omega)
   omega
 · exact h
noncomputable def vF (l:List Txt):Nat:=Classical.choose (Eb l)
theorem sE (l:List Txt):sr l (vF l):=Classical.choose_spec (Eb l)
theorem Cc {l m:List Txt}(hs:∀x,x∈l ↔ x∈m){a b:Nat}(h:sr l a)(k:sr m b):a=b:=by
 obtain⟨h1,h2,h3⟩:=h
 obtain⟨k1,k2,k3⟩:=k
 rcases Nat.lt_trichotomy a b with c|c|c
 · exact absurd ((hs _).2 (k3 a h1 c)) h2
 · exact c
 · exact absurd ((hs _).1 (h3 b k1 c)) k2
noncomputable def vG (l:List Txt):Txt:=ir (vF l)
theorem GC {l:List Txt}{n:Nat}(h:sr l n):vG l=ir n:=by
 unfold vG;rw[Cc (λ_=>Iff.rfl) (sE l) h]
theorem E9 (l:List Txt):vF l <=l.length+1:=Aa (sE l).2.2
def iy (l:List Txt):List Txt:=l.foldl (λout s=>if s∈out then out else out++[s]) []
theorem qK (l:List Txt)(s:Txt):iy (l++[s])=if s∈iy l then iy l else iy l++[s]:=by
 unfold iy;rw[List.foldl_append];rfl
theorem I2 {α:Type}{P:List α->Prop}(h0:P [])(h1:∀l x,P l->P (l++[x])):∀l,P l:=by
 have key:∀m:List α,P m.reverse:=by
   intro m
   induction m with
   | nil=>exact h0
   | cons x m ih=>rw[List.reverse_cons];exact h1 _ _ ih
 intro l
 have:=key l.reverse
 rwa [List.reverse_reverse]at this
theorem lG (l:List Txt):(iy l).Nodup/\(∀x,x∈iy l ↔ x∈l)/\(iy l).length <=l.length:=by
 refine I2 (P:=λl=>(iy l).Nodup/\(∀x,x∈iy l ↔ x∈l)/\(iy l).length <=l.length) ?_ ?_ l
 · exact⟨List.nodup_nil,λx=>Iff.rfl,Nat.le_refl _⟩
 · intro l s ih
   obtain⟨h1,h2,h3⟩:=ih
   rw[qK]
   split
   · rename_i hm
     refine⟨h1,λx=>?_,by simp;omega⟩
     rw[h2,List.mem_append]
     refine⟨.inl,λh=>h.elim id λh=>?_⟩
     have:x=s:=by simpa using h
     subst this;exact(h2 x).1 hm
   · rename_i hm
     refine⟨List.nodup_append.2 ⟨h1,by simp,λa ha b hb e=>?_⟩,λx=>by rw[List.mem_append,List.mem_append,h2],by simp;omega⟩
     have:b=s:=by simpa using hb
     subst this;subst e;exact hm ha
theorem xr (l:List Txt):∀x,x∈iy l ↔ x∈mJ l:=λx=>by rw[(lG l).2.1,Eu]
theorem FD (l:List Txt):(iy l).length=(mJ l).length:=nS (lG l).1 (zr l) (xr l)
def ofT (ts:List Txt)(s:Txt):Int:=if s∈ts then((ts.countP λx=>decide (x<s):Nat):Int)else(ts.length:Int)
theorem Lb {ts us:List Txt}(h:ts.Nodup)(k:us.Nodup)(hs:∀x,x∈ts ↔ x∈us)(s:Txt):ofT ts s=ofT us s:=by
 unfold ofT;rw[Gi h k hs,nS h k hs];simp only[hs]
theorem qT:∀{ts:List Txt},ts.Pairwise (· < ·)->∀(i:Nat) (h:i<ts.length),(ts.countP λx=>decide (x<ts[i]))=i
 | t::ts,hp,i,h=>by
   have hp':=List.pairwise_cons.1 hp
   cases i with
   | zero=>
     rw[List.countP_eq_zero]
     intro x hx
     simp only[dTx,List.getElem_cons_zero]
     intro hlt
     rcases List.mem_cons.1 hx with rfl|hx
     · exact List.lt_irrefl _ hlt
     · exact List.lt_irrefl _ (List.lt_trans hlt (hp'.1 x hx))
   | succ i=>
     have hi:i<ts.length:=by simpa using h
     simp only[List.getElem_cons_succ]
     rw[List.countP_cons,qT hp'.2 i hi,if_pos]
     simp only[dTx];exact hp'.1 _ (List.getElem_mem hi)
theorem G8 {ts:List Txt}(hp:ts.Pairwise (· < ·)){i:Nat}(h:i<ts.length):ofT ts ts[i]=(i:Int):=by
 unfold ofT;rw[if_pos (List.getElem_mem h),qT hp i h]
noncomputable def ng (ts:List Txt)(i:Int):Txt:=if i=(ts.length:Int)then vG ts else if 0 <=i/\i<(ts.length:Int)then ts[i.toNat]?.getD []else[]
theorem zg {ts:List Txt}(hp:ts.Pairwise (· < ·))(s:Txt):mv s (Ca ts)=if s∈ts then some (ofT ts s)else none:=by
 by_cases h:s∈ts
 · rw[if_pos h]
   obtain⟨i,hi,rfl⟩:=List.getElem_of_mem h
   rw[G8 hp hi]
   have e:ts=ts.take i++[ts[i]]++ts.drop (i+1):=by
     rw[<- ii hi,List.take_append_drop]
   have hno:ts[i] ∉ ts.take i:=λhmem=>by
     obtain⟨j,hj,e⟩:=List.getElem_of_mem hmem
     rw[List.length_take]at hj
     rw[List.getElem_take]at e
     have:=List.pairwise_iff_getElem.1 hp j i (by omega) hi (by omega)
     rw[e]at this
     exact List.lt_irrefl _ this
   have e2:Ca ts=Ca (ts.take i++[ts[i]])++((ts.drop (i+1)).zipIdx (i+1)).map λp=>(p.1,((p.2:Nat):Int)):=by
     conv=>lhs;rw[e]
     unfold Ca
     rw[List.zipIdx_append,List.map_append]
     congr 2
     simp;congr 1;omega
   rw[e2,nO,Cb,nO,j0 hno]
   simp[mv];omega
 · rw[if_neg h];exact j0 h
theorem fv.pw {w:World}{p:Option Addr}{ts:List Txt}(h:fv w p ts):ts.Pairwise (· < ·):=by
 obtain⟨b,a,n,c,m,cs,fr,_,_,_,_,_,h⟩:=h;exact h
theorem fv.nd {w:World}{p:Option Addr}{ts:List Txt}(h:fv w p ts):ts.Nodup:=h.pw.imp fun{a b} h e=>by subst e;exact List.lt_irrefl a h
theorem fv.some {w:World}{p:Option Addr}{ts:List Txt}(h:fv w p ts):Option.isSome p=true:=by
 obtain⟨b,a,n,c,m,cs,fr,rfl,_⟩:=h;rfl
theorem fv.load0 {w:World}{p:Option Addr}{ts:List Txt}(h:fv w p ts):∃a n c,(Instr.loadAt au (.pointer (Option.map (λx=>x.add 0) p))).run prog w=.ok (.slice a n c) w/\Sl tS w iv a n c ts:=by
 obtain⟨b,a,n,c,m,cs,fr,rfl,h2,rfl,h4,_⟩:=h
 refine⟨a,n,c,?_,h4⟩
 show(Instr.loadAt au (.pointer (Option.some ((⟨b,0,none⟩:Addr).add 0)))).run prog w=_
 rw[dq]
 exact cV bF rfl (by rw[eG h2];rfl)
theorem fv.load1 {w:World}{p:Option Addr}{ts:List Txt}(h:fv w p ts):∃m,(Instr.loadAt bi (.pointer (Option.map (λx=>x.add 1) p))).run prog w=.ok (.map (Option.some m)) w/\nh w m (Ca ts)/\p.isSome=true:=by
 obtain⟨b,a,n,c,m,cs,fr,rfl,h2,rfl,h4,h5,_⟩:=h
 refine⟨m,?_,h5,rfl⟩
 show(Instr.loadAt bi (.pointer (Option.some ((⟨b,0,none⟩:Addr).add 1)))).run prog w=_
 rw[dq]
 exact cV cu rfl (by rw[eG h2];rfl)
theorem cb (p:Option Addr)(ts:List Txt)(hl:ts.length <=1000000)(w:World)(h:fv w p ts):
   Cf aO #[.pointer p] w (Ret λv w'=>v=vI ((ts.length:Int)+1)/\w'=w):=by
 apply mz
 obtain⟨a,n,c,hr,hs⟩:=h.load0
 have hn:=hs.len
 refine⟨h.some,h.some,a,n,c,hr,?_,rfl⟩
 rw[wrap_i64 (by omega) (by omega),hn]
theorem CA (p:Option Addr)(ts:List Txt)(s:Txt)(w:World)(h:fv w p ts):
   Cf ji #[.pointer p,vS s] w (Ret λv w'=>v=vI (ofT ts s)/\w'=w):=by
 apply nf
 obtain⟨m,hr1,hm,hp⟩:=h.load1
 refine⟨hp,hp,Option.some m,hr1,_,_,Ci (z:=vI 0) cu aB ij hm s,?_⟩
 rw[zg h.pw]
 refine ae.of (λhc=>?_) (λhc=>?_)
 · by_cases hs:s∈ts
   · rw[if_pos hs];exact⟨rfl,rfl⟩
   · rw[if_neg hs]at hc;simp at hc
 · by_cases hs:s∈ts
   · rw[if_pos hs]at hc;simp at hc
   · obtain⟨a,n,c,hr,hsl⟩:=h.load0
     have hn:=hsl.len
     refine⟨hp,hp,a,n,c,hr,?_,rfl⟩
     rw[hn];unfold ofT;rw[if_neg hs]
def mZ (xs:List UInt8)(i:Nat):List UInt8:=(List.range xs.length).map λk=>if k<i\/xs.length <=k+i then xs[xs.length-1-k]?.getD 0 else xs[k]?.getD 0
theorem i7 (xs:List UInt8)(i:Nat):(mZ xs i).length=xs.length:=by simp[mZ]
theorem FB (xs:List UInt8):mZ xs 0=xs:=by
 apply List.ext_getElem
 · simp[mZ]
 · intro k h1 h2
   have: ¬ xs.length <=k:=by omega
   simp[mZ,this,h2]
theorem Hl (xs:List UInt8)(i:Nat)(h:xs.length <=2*i+1):mZ xs i=xs.reverse:=by
 apply List.ext_getElem
 · simp[mZ]
 · intro k h1 h2
   have hk:k<xs.length:=by simpa using h2
   simp only[mZ,List.getElem_map,List.getElem_range,List.getElem_reverse]
   by_cases c:k<i\/xs.length <=k+i
   · rw[if_pos c,List.getElem?_eq_getElem (by omega)];rfl
   · rw[if_neg c]
     have:xs.length-1-k=k:=by omega
     rw[List.getElem?_eq_getElem hk];simp only[this];rfl
theorem Hm (xs:List UInt8)(i k:Nat)(hk:k<(mZ xs i).length)(h: ¬ (k<i\/xs.length <=k+i)):(mZ xs i)[k]=xs[k]'(by rw[i7]at hk;exact hk):=by
 have hk':k<xs.length:=by rw[i7]at hk;exact hk
 simp only[mZ,List.getElem_map,List.getElem_range]
 rw[if_neg h,List.getElem?_eq_getElem hk'];rfl
theorem FA (xs:List UInt8)(i:Nat)(h:2*i+1<xs.length):
   ((mZ xs i).set i (xs[xs.length-1-i]'(by omega))).set (xs.length-1-i) (xs[i]'(by omega))=mZ xs (i+1):=by
 apply List.ext_getElem
 · simp[mZ]
 · intro k h1 h2
   have hk:k<xs.length:=by rw[i7]at h2;exact h2
   rw[List.getElem_set,List.getElem_set]
   simp only[mZ,List.getElem_map,List.getElem_range]
   by_cases c1:xs.length-1-i=k
   · rw[if_pos c1,if_pos (by omega),List.getElem?_eq_getElem (by omega)]
     have:xs.length-1-k=i:=by omega
     simp only[this];rfl
   · rw[if_neg c1]
     by_cases c2:i=k
     · subst c2
       rw[if_pos rfl,if_pos (by omega),List.getElem?_eq_getElem (by omega)];rfl
     · rw[if_neg c2]
       by_cases c3:k<i\/xs.length <=k+i
       · rw[if_pos c3,if_pos (by omega)]
       · rw[if_neg c3,if_neg (by omega)]
theorem FC (a:Option Addr)(n c:Nat)(xs:List UInt8)(hl:xs.length <=1000000)(w:World)(ho:Ow tU8 aF w NoB a n c xs):
   Cf dh #[.slice a n c] w (Ret λv w'=>v=.tuple #[]/\Ow tU8 aF w' NoB a n c xs.reverse/\w.grownBy w' (bu a)):=by
 apply jE
 have hn:=ho.len
 subst hn
 refine⟨λm i j w'=>∃k:Nat,2*k <=xs.length/\i=(k:Int)/\j=(xs.length:Int)-1-k/\m=xs.length-k/\Ow tU8 aF w' NoB a xs.length c (mZ xs k)/\w.grownBy w' (bu a),
   ⟨_,0,by omega,rfl,?_,rfl,by rw[FB];exact ho,⟨rfl,rfl,rfl,Nat.le_refl _,λ_ _ _=>rfl⟩⟩,?_⟩
 · rw[wrap_i64 (by omega) (by omega)];omega
 intro m i j
 refine aE.of ?_ _
 rintro w' ⟨k,hk,rfl,rfl,rfl,ho',hg⟩
 refine ae.of (λh=>?_) (λh=>?_) <;> simp at h
 · have hk2:2*k+1<xs.length:=by omega
   have hsm:=(ho'.below (dj w')).all.isSome (i:=0) (by rw[i7];omega)
   have hod:Ow tU8 aF w'.drew NoB a xs.length c (mZ xs k):=ho'.below (dj w')
   have hgd:w.grownBy w'.drew (bu a):=⟨hg.os,hg.tape,hg.output,hg.size,hg.block⟩
   have hin1:(0:Int) <=(xs.length:Int)-1-k/\(xs.length:Int)-1-k<(xs.length:Int):=by omega
   have hin2:(0:Int) <=(k:Int)/\(k:Int)<(xs.length:Int):=by omega
   have et:((xs.length:Int)-1-k).toNat=xs.length-1-k:=by omega
   obtain⟨v1,hv1,hr1⟩:=hod.all.load1 (i:=(xs.length:Int)-1-k) bA rfl rfl (by rw[i7,et];omega)
   obtain⟨v2,hv2,hr2⟩:=hod.all.load1 (i:=(k:Int)) bA rfl rfl (by rw[i7];simp;omega)
   have e1:=tT hr1
   have e2:=tT hr2
   simp only[et]at e1
   simp only[Int.toNat_natCast]at e2
   rw[Hm _ _ _ _ (by omega)]at e1 e2
   subst e1 e2
   obtain⟨w3,hs3,ho3,hg3⟩:=hod.store (P:=prog) (bytes:=1) (z:=.int .u8 0) fQ (λ_ _ h=>h) (i:=(k:Int)) (by rw[i7];simp;omega) (k:=1) rfl (v:=.int .u8 ((xs[xs.length-1-k]'(by omega)).toNat:Nat)) (rz rfl)
   obtain⟨w4,hs4,ho4,hg4⟩:=ho3.store (P:=prog) (bytes:=1) (z:=.int .u8 0) fQ (λ_ _ h=>h) (i:=(xs.length:Int)-1-k) (by rw[List.length_set,i7,et];omega) (k:=1) rfl (v:=.int .u8 ((xs[k]'(by omega)).toNat:Nat)) (rz rfl)
   have hgt:w.grownBy w4 (bu a):=⟨(hg4.os.trans hg3.os).trans hgd.os,(hg4.tape.trans hg3.tape).trans hgd.tape,(hg4.output.trans hg3.output).trans hgd.output,Nat.le_trans hgd.size (Nat.le_trans hg3.size hg4.size),
     λq hq hne=>((hg4.block q (Nat.lt_of_lt_of_le hq (Nat.le_trans hgd.size hg3.size)) hne).trans (hg3.block q (Nat.lt_of_lt_of_le hq hgd.size) hne)).trans (hgd.block q hq hne)⟩
   have hend:∃m':Nat,m'<xs.length-k/\∃k':Nat,2*k' <=xs.length/\i64.wrap ((k:Int)+1)=(k':Int)/\i64.wrap ((xs.length:Int)-1-k-1)=(xs.length:Int)-1-k'/\m'=xs.length-k'/\Ow tU8 aF w4 NoB a xs.length c (mZ xs k')/\w.grownBy w4 (bu a):=by
     refine⟨xs.length-(k+1),by omega,k+1,by omega,?_,?_,rfl,?_,hgt⟩
     · rw[wrap_i64 (by omega) (by omega)];omega
     · rw[wrap_i64 (by omega) (by omega)];omega
     · rw[<- FA xs k hk2]
       simp only[et,Int.toNat_natCast]at ho4
       exact ho4
   exact⟨⟨hin1,hsm⟩,⟨hin2,hsm⟩,⟨_,hv1,_,hv2,⟨hin2,hsm⟩,w3,hs3,⟨hin1,hsm⟩,w4,hs4,hend⟩,_,hv2,_,hv1,⟨hin2,hsm⟩,w3,hs3,⟨hin1,hsm⟩,w4,hs4,hend⟩
 · refine⟨rfl,?_,hg⟩
   rw[<- Hl xs k (by omega)];exact ho'
theorem G2 (r:Nat)(h:r<38):aX [97,98,99,100,101,102,103,104,105,106,107,108,109,110,111,112,113,114,115,116,117,118,119,120,121,122,48,49,50,51,52,53,54,55,56,57,45,95] (r:Int)=(((letter r).toNat:Nat):Int):=by
 rw[jG (by simpa using h)]
 unfold letter
 rw[List.getElem?_eq_getElem (by simpa[Ar]using h)]
 rfl
theorem pF (n:Nat)(hn:n <=1000000)(w:World):Cf jA #[vI (n:Int)] w (Ret λv w'=>v=vS (ir n)/\bW w w'):=by
 apply xa
 refine⟨λm i a l c w'=>∃(k:Nat) (xs:List UInt8),k <=n/\xs.length+k <=n/\i=(k:Int)/\m=k+1/\FK n=xs++FK k/\Ow tU8 aF w' NoB a l c xs/\bp w.heap.size a/\bW w w',
   ⟨_,n,[],Nat.le_refl _,by simp,rfl,rfl,rfl,Ow.nil _ _ _ _,bp.none _,Below.refl _ _⟩,?_⟩
 intro m i a l c
 refine aE.of ?_ _
 rintro w' ⟨k,xs,hk,hx,rfl,rfl,hd,ho,hf,hb⟩
 refine ae.of (λh=>?_) (λh=>?_) <;> simp at h
 · have e1:i64.wrap ((k:Int)-1)=((k-1:Nat):Int):=by rw[wrap_i64 (by omega) (by omega)];omega
   have e2:Int.tmod ((k-1:Nat):Int) 38=(((k-1)%38:Nat):Int):=rfl
   have e3:Int.tdiv ((k-1:Nat):Int) 38=(((k-1)/38:Nat):Int):=rfl
   refine⟨by decide,λq12 hq12=>?_⟩
   rw[e1,e2]at hq12
   subst hq12
   rw[G2 _ (by omega)]
   refine⟨⟨by omega,by simp;omega⟩,?_⟩
   intro k1 w3 hk1 hw3
   have ho3:Ow tU8 aF w3 NoB a l c xs:=ho.below (hw3▸af _ _)
   have hsrc:Src tU8 w3 NoB (some ⟨k1,0,none⟩) 1 [letter ((k-1)%38)]:=Src.new1F sD hk1 hw3 (rz rfl)
   obtain⟨w4,a',n',c',hr,ho4,hgr,hfr⟩:=co (ty:=aM) bG fQ (by decide) ho3 (λ_ _ h=>h) (cm:=1) hsrc (by simp;omega)
   refine⟨w4,a',n',c',hr,by decide,λq8 hq8=>?_⟩
   rw[e1,e3,wrap_i64 (by omega) (by omega)]at hq8
   subst hq8
   refine⟨(k-1)/38+1,by omega,(k-1)/38,xs++[letter ((k-1)%38)],by omega,?_,rfl,rfl,?_,ho4,?_,?_⟩
   · simp;omega
   · rw[hd,qW (by omega)];simp
   · subst hw3;exact hf.app (by have:=hb.size;simp;omega) hfr
   · subst hw3;exact(ab hb (af _ _) hb.size).grown hgr (by have:=hb.size;simp;omega) hf
 · have:k=0:=by omega
   subst this
   rw[qX,List.append_nil]at hd
   refine av (FC a l c xs (by omega) w' ho) ?_
   rintro _ w5 ⟨rfl,ho5,hg5⟩
   refine⟨rfl,_,oo bG aB bA ho5.all,?_,hb.grown hg5 hb.size hf⟩
   unfold ir;rw[hd]
theorem xj (p:Option Addr)(ts:List Txt)(hl:ts.length <=100000)(w:World)(h:fv w p ts):
   Cf eV #[.pointer p] w (Ret λv w'=>v=vS (vG ts)/\bW w w'):=by
 apply kY
 refine⟨λm i w'=>∃k:Nat,1 <=k/\k <=ts.length+1/\i=(k:Int)/\m=ts.length+2-k/\(∀j,1 <=j->j<k->ir j∈ts)/\bW w w',
   ⟨_,1,by omega,by omega,rfl,rfl,λj h1 h2=>by omega,Below.refl _ _⟩,?_⟩
 intro m i
 refine aE.of ?_ _
 rintro w' ⟨k,hk1,hk2,rfl,rfl,hall,hb⟩
 have h':=h.below hb
 obtain⟨r,hr,hm,hp⟩:=h'.load1
 refine⟨hp,hp,some r,?_,ir k,?_,(mv (ir k) (Ca ts)).getD 0,(mv (ir k) (Ca ts)).isSome,?_,?_⟩
 · intro u hu
   have hb':=h'
   obtain⟨b,a,n,c,m,cs,fr,rfl,h2,rfl,h4,h5,_⟩:=h'
   have hh2:=(hu.block b (Array.getElem?_eq_some_iff.1 h2).1).trans h2
   have em:m=r:=by
     have hr0:(Instr.loadAt bi (.pointer (Option.map (fun(x:Addr)=>x.add 1) (some (⟨b,0,none⟩:Addr))))).run prog w'=.ok (.map (some m)) w':=by
       show(Instr.loadAt bi (.pointer (Option.some ((⟨b,0,none⟩:Addr).add 1)))).run prog w'=_
       rw[dq]
       exact cV cu rfl (by rw[eG h2];rfl)
     rw[hr0]at hr
     injection hr with hr _
     injection hr with hr
     exact Option.some.inj hr
   subst em
   show(Instr.loadAt bi (.pointer (Option.some ((⟨b,0,none⟩:Addr).add 1)))).run prog u=_
   rw[dq]
   exact cV cu rfl (by rw[eG hh2];rfl)
 · intro u hu
   refine(pF k (by omega) u).mono ?_
   rintro _ w2 ⟨_,rfl,rfl,hb2⟩
   exact⟨rfl,hb2.mono hu.size⟩
 · intro u hu
   exact Ci (z:=vI 0) cu aB ij (hm.below hu) (ir k)
 · intro wq hwq
   rw[zg h.pw]
   refine ae.of (λhc=>?_) (λhc=>?_)
   · refine av (pF k (by omega) wq) ?_
     rintro _ w3 ⟨rfl,hb3⟩
     have hno:ir k ∉ ts:=λhmem=>by rw[if_pos hmem]at hc;simp at hc
     have hB:=ab hb hwq hb.size
     exact⟨_,rfl,by rw[GC ⟨hk1,hno,hall⟩],ab hB hb3 hB.size⟩
   · have hyes:ir k∈ts:=by
       by_cases hmem:ir k∈ts
       · exact hmem
       · rw[if_neg hmem]at hc;simp at hc
     have hall':∀j,1 <=j->j<k+1->ir j∈ts:=λj h1 h2=>by
       by_cases e:j=k
       · rw[e];exact hyes
       · exact hall j h1 (by omega)
     have hle:=Aa hall'
     refine⟨ts.length+2-(k+1),by omega,k+1,by omega,hle,?_,rfl,hall',ab hb hwq hb.size⟩
     rw[wrap_i64 (by omega) (by omega)];omega
theorem kZ (p:Option Addr)(ts:List Txt)(hl:ts.length <=100000)(i:Int)(w:World)(h:fv w p ts):
   Cf cZ #[.pointer p,vI i] w (Ret λv w'=>v=vS (ng ts i)/\bW w w'):=by
 apply lE
 obtain⟨a,n,c,hr,hs⟩:=h.load0
 have hn:=hs.len
 refine⟨λw'=>w'=w/\0 <=i/\i<(ts.length:Int),⟨λb w'=>w'=w/\b=decide (i<0\/i>(ts.length:Int)),?_,?_⟩,?_⟩
 · refine ae.of (λhc=>?_) (λhc=>?_) <;> simp at hc
   · exact⟨rfl,by simp[hc]⟩
   · refine⟨h.some,h.some,a,n,c,hr,rfl,?_⟩
     rw[hn];simp;omega
 · intro b
   refine aE.of ?_ _
   rintro _ ⟨rfl,rfl⟩
   refine ae.of (λhc=>?_) (λhc=>?_) <;> simp at hc
   · refine⟨?_,Below.refl _ _⟩
     unfold ng
     rw[if_neg (by omega),if_neg (by omega)]
   · refine⟨h.some,h.some,a,n,c,hr,?_⟩
     rw[hn]
     refine ae.of (λhc2=>?_) (λhc2=>?_) <;> simp at hc2
     · refine av (xj p ts hl _ h) ?_
       rintro _ w2 ⟨rfl,hb⟩
       refine⟨_,rfl,?_,hb⟩
       unfold ng
       rw[if_pos hc2]
     · exact⟨rfl,by omega,by omega⟩
 · refine aE.of ?_ _
   rintro _ ⟨rfl,h0,h1⟩
   have hi:i.toNat<ts.length:=by omega
   obtain⟨v,hv,hrep⟩:=hs.load1 (i:=i) aB rfl rfl hi
   obtain⟨rfl,-⟩:=kh hrep
   refine⟨h.some,h.some,a,n,c,hr,⟨⟨by omega,by omega⟩,hs.isSome hi⟩,_,hv,?_,Below.refl _ _⟩
   unfold ng
   rw[if_neg (by omega),if_pos ⟨h0,h1⟩,List.getElem?_eq_getElem hi];rfl
theorem G4:∀(p a b:Txt),p++a<p++b ↔ a<b
 | [],a,b=>Iff.rfl
 | x::p,a,b=>by
   rw[List.cons_append,List.cons_append,List.cons_lt_cons_iff,G4 p a b]
   simp
theorem Kg {s t:Txt}{n:Nat}(hs:n<s.length)(ht:n<t.length)(e:s.take n=t.take n)(hne:s[n]≠t[n]):(s<t ↔ s[n]<t[n]):=by
 have e1:s=s.take n++s[n]::s.drop (n+1):=by rw[<- List.drop_eq_getElem_cons hs,List.take_append_drop]
 have e2:t=s.take n++t[n]::t.drop (n+1):=by rw[e,<- List.drop_eq_getElem_cons ht,List.take_append_drop]
 have e3:(s<t)=(s.take n++s[n]::s.drop (n+1)<s.take n++t[n]::t.drop (n+1)):=by rw[<- e1,<- e2]
 rw[e3,G4,List.cons_lt_cons_iff]
 simp[hne]
theorem Et {s t:Txt}{n:Nat}(hs:n <=s.length)(ht:n <=t.length)(he:n=s.length\/n=t.length)(e:s.take n=t.take n):(s<t ↔ s.length<t.length):=by
 have e1:s=s.take n++s.drop n:=(List.take_append_drop n s).symm
 have e2:t=s.take n++t.drop n:=by rw[e,List.take_append_drop]
 have e3:(s<t)=(s.take n++s.drop n<s.take n++t.drop n):=by rw[<- e1,<- e2]
 rw[e3,G4]
 by_cases h1:n=s.length
 · have:s.drop n=[]:=List.drop_eq_nil_iff.2 (by omega)
   rw[this]
   cases hd:t.drop n with
   | nil=>
     have:=List.drop_eq_nil_iff.1 hd
     constructor
     · intro h;exact absurd h (List.lt_irrefl _)
     · intro h;omega
   | cons y ys=>
     have h2: ¬ t.length <=n:=λh=>by rw[List.drop_eq_nil_iff.2 h]at hd;cases hd
     constructor
     · intro _;omega
     · intro _;exact List.nil_lt_cons _ _
 · have h2:n=t.length:=he.resolve_left h1
   have:t.drop n=[]:=List.drop_eq_nil_iff.2 (by omega)
   rw[this]
   constructor
   · intro h;exact absurd h (List.not_lt_nil _)
   · intro h;omega
theorem AJ (s t:Txt)(hs:s.length <=1000000)(ht:t.length <=1000000)(w:World):
   Cf nw #[vS s,vS t] w (Ret λv w'=>v=.bool (decide (s<t))/\bW w w'):=by
 apply yF
 refine⟨λm i w'=>∃n:Nat,n <=s.length/\n <=t.length/\i=(n:Int)/\m=s.length-n/\s.take n=t.take n/\bW w w',⟨_,0,by omega,by omega,rfl,rfl,rfl,Below.refl _ _⟩,?_⟩
 intro m i
 refine aE.of ?_ _
 rintro w' ⟨n,hn1,hn2,rfl,rfl,he,hb⟩
 refine⟨λw''=>w''=w'/\n<s.length/\n<t.length,?_,?_⟩
 · refine ae.of (λh=>?_) (λh=>?_) <;> simp at h
   · refine ae.of (λh2=>?_) (λh2=>?_) <;> simp at h2
     · exact⟨rfl,h,h2⟩
     · refine⟨?_,hb⟩
       congr 1
       rw[Bool.eq_iff_iff,dTx,dTx,Et hn1 hn2 (.inr (by omega)) he];omega
   · refine⟨?_,hb⟩
     congr 1
     rw[Bool.eq_iff_iff,dTx,dTx,Et hn1 hn2 (.inl (by omega)) he];omega
 · refine aE.of ?_ _
   rintro _ ⟨rfl,h1,h2⟩
   refine⟨⟨by omega,by omega⟩,⟨by omega,by omega⟩,?_⟩
   intro wq hq
   rw[jG (by simpa using h1),jG (by simpa using h2)]
   simp only[Int.toNat_natCast]
   have hB:=ab hb hq hb.size
   refine ae.of (λh=>?_) (λh=>?_) <;> simp at h
   · refine⟨⟨by omega,by omega⟩,⟨by omega,by omega⟩,?_⟩
     intro wq2 hq2
     have hne:s[n]≠t[n]:=λe=>h (by rw[e])
     refine⟨?_,ab hB hq2 hB.size⟩
     congr 1
     rw[Bool.eq_iff_iff,dTx,dTx,Kg h1 h2 he hne]
     rw[UInt8.lt_iff_toNat_lt];omega
   · have heq:s[n]=t[n]:=UInt8.toNat_inj.1 (by omega)
     refine⟨s.length-(n+1),by omega,n+1,by omega,by omega,?_,rfl,?_,hB⟩
     · rw[wrap_i64 (by omega) (by omega)];omega
     · rw[ii h1,ii h2,he,heq]
theorem tO (a:Option Addr)(n c:Nat)(l:List Txt)(s:Txt)(w:World)(hs:Sl tS w iv a n c l):
   Cf mo #[.slice a n c,vS s] w (Ret λv w'=>v=.bool (decide (s∈l))/\w'=w):=by
 apply AW
 have hn:=hs.len
 have hle:=hs.le
 subst hn
 refine⟨λm i w'=>w'=w/\∃k:Nat,k <=l.length/\i=(k:Int)/\m=l.length-k/\s ∉ l.take k,⟨_,rfl,0,by omega,rfl,rfl,by simp⟩,?_⟩
 intro m i
 refine aE.of ?_ _
 rintro _ ⟨rfl,k,hk,rfl,rfl,hno⟩
 refine ae.of (λh=>?_) (λh=>?_) <;> simp at h
 · obtain⟨v,hv,hrep⟩:=hs.load1 (i:=(k:Int)) aB rfl rfl (by simpa using h)
   obtain⟨rfl,-⟩:=kh hrep
   simp only[Int.toNat_natCast]at hv
   refine⟨⟨⟨by omega,by omega⟩,hs.isSome h⟩,_,hv,?_⟩
   refine ae.of (λh2=>?_) (λh2=>?_) <;> simp at h2
   · refine⟨?_,rfl⟩
     rw[<- h2];simp
   · refine⟨l.length-(k+1),by omega,rfl,k+1,by omega,?_,rfl,?_⟩
     · rw[wrap_i64 (by omega) (by omega)];omega
     · rw[ii h,List.mem_append]
       rintro(h3|h3)
       · exact hno h3
       · simp at h3;exact h2 h3.symm
 · have:k=l.length:=by omega
   subst this
   rw[List.take_length]at hno
   exact⟨by simp[hno],rfl⟩
theorem pz (a:Option Addr)(n c:Nat)(l:List Txt)(hl:l.length <=1000000)(w:World)(hs:Sl tS w iv a n c l):
   Cf jx #[.slice a n c] w (Ret λv w'=>∃a' n' c',v=.slice a' n' c'/\Ow tS aq w' NoB a' n' c' (iy l)/\bp w.heap.size a'/\bW w w'):=by
 apply wU
 have hn:=hs.len
 subst hn
 intro k0 w0 hk0 hw0
 have hB0:bW w w0:=hw0▸af _ _
 have ho0:Ow tS aq w0 NoB (some ⟨k0,0,none⟩) 0 0 []:=Ow.newF (gZ _) hk0 hw0 (gy.nil _ _ _) (Nat.zero_le _)
 refine⟨λm a' n' c' i w'=>∃k:Nat,k <=l.length/\i=(k:Int)/\m=l.length-k/\Ow tS aq w' NoB a' n' c' (iy (l.take k))/\bp w.heap.size a'/\bW w w',
   ⟨_,0,by omega,rfl,rfl,ho0,lu hk0,hB0⟩,?_⟩
 intro m a' n' c' i
 refine aE.of ?_ _
 rintro w' ⟨k,hk,rfl,rfl,ho,hf,hb⟩
 refine ae.of (λh=>?_) (λh=>?_) <;> simp at h
 · have hs':=hs.below hb
   obtain⟨v,hv,hrep⟩:=hs'.load1 (i:=(k:Int)) aB rfl rfl (by simpa using h)
   obtain⟨rfl,-⟩:=kh hrep
   simp only[Int.toNat_natCast]at hv
   refine⟨⟨⟨by omega,by omega⟩,hs.isSome h⟩,_,hv,?_⟩
   refine av (tO a' n' c' _ _ w' ho.all) ?_
   rintro _ w' ⟨rfl,rfl⟩
   refine⟨_,rfl,?_⟩
   have e1:i64.wrap ((k:Int)+1)=((k+1:Nat):Int):=by rw[wrap_i64 (by omega) (by omega)];omega
   try dsimp only
   rw[e1]
   have hlen:=(lG (l.take k)).2.2
   rw[List.length_take]at hlen
   refine ae.of (λh2=>?_) (λh2=>?_) <;> simp at h2
   · intro k1 w3 hk1 hw3
     have ho3:=ho.below (hw3▸af w' (.cells #[.string (mkS l[k])] aq):bW w' w3)
     have hsrc:Src tS w3 NoB (some ⟨k1,0,none⟩) 1 [l[k]]:=Src.new1F (gZ _) hk1 hw3 (sO trivial)
     obtain⟨w4,a4,n4,c4,hr,ho4,hgr,hfr⟩:=co (ty:=au) bF lH (by decide) ho3 (λ_ _ h=>h) (cm:=1) hsrc (by simp;omega)
     refine⟨w4,a4,n4,c4,hr,l.length-(k+1),by omega,k+1,by omega,rfl,rfl,?_,?_,?_⟩
     · rw[ii h,qK,if_neg h2];exact ho4
     · subst hw3;exact hf.app (by have:=hb.size;simp;omega) hfr
     · subst hw3;exact(ab hb (af _ _) hb.size).grown hgr (by have:=hb.size;simp;omega) hf
   · refine⟨l.length-(k+1),by omega,k+1,by omega,rfl,rfl,?_,hf,hb⟩
     rw[ii h,qK,if_pos h2];exact ho
 · have:k=l.length:=by omega
   subst this
   rw[List.take_length]at ho
   exact⟨_,_,_,rfl,ho,hf,hb⟩
theorem wt (a:Option Addr)(n c:Nat)(l:List Txt)(s:Txt)(hl:l.length <=1000000)(hx:∀x∈l,x.length <=1000000)(hs1:s.length <=1000000)(w:World)(hs:Sl tS w iv a n c l):
   Cf oV #[.slice a n c,vS s] w (Ret λv w'=>v=vI (ofT (iy l) s)/\bW w w'):=by
 apply Cx
 refine av (pz a n c l hl w hs) ?_
 rintro _ w1 ⟨a1,n1,c1,rfl,ho,hf,hb⟩
 refine⟨_,_,_,rfl,?_⟩
 refine av (tO a1 n1 c1 _ s w1 ho.all) ?_
 rintro _ w1 ⟨rfl,rfl⟩
 have hn1:=ho.len
 obtain⟨hT1,hT2,hT3⟩:=lG l
 generalize iy l=t at*
 subst hn1
 refine⟨_,rfl,?_⟩
 refine ae.of (λh=>?_) (λh=>?_) <;> simp at h
 · refine⟨?_,hb⟩
   unfold ofT;rw[if_neg h]
 · refine⟨λm q i w'=>∃k:Nat,k <=t.length/\i=(k:Int)/\q=(((t.take k).countP λx=>decide (x<s):Nat):Int)/\m=t.length-k/\bW w1 w',
     ⟨_,0,by omega,rfl,rfl,rfl,Below.refl _ _⟩,?_⟩
   intro m q i
   refine aE.of ?_ _
   rintro w' ⟨k,hk,rfl,rfl,rfl,hb'⟩
   have hsl:=(ho.below hb').all
   refine ae.of (λh2=>?_) (λh2=>?_) <;> simp at h2
   · obtain⟨v,hv,hrep⟩:=hsl.load1 (i:=(k:Int)) aB rfl rfl (by simpa using h2)
     obtain⟨rfl,-⟩:=kh hrep
     simp only[Int.toNat_natCast]at hv
     refine⟨⟨⟨by omega,by omega⟩,hsl.isSome h2⟩,_,hv,?_⟩
     refine av (AJ _ s (hx _ ((hT2 _).1 (List.getElem_mem h2))) hs1 w') ?_
     rintro _ w3 ⟨rfl,hb3⟩
     refine⟨_,rfl,?_⟩
     have hc:=List.countP_le_length (p:=λx=>decide (x<s)) (l:=t.take k)
     rw[List.length_take]at hc
     have e1:i64.wrap ((k:Int)+1)=((k+1:Nat):Int):=by rw[wrap_i64 (by omega) (by omega)];omega
     try dsimp only
     rw[e1]
     refine ae.of (λh4=>?_) (λh4=>?_) <;> simp only[dTx,dFx]at h4
     · refine⟨t.length-(k+1),by omega,k+1,by omega,rfl,?_,rfl,ab hb' hb3 hb'.size⟩
       rw[wrap_i64 (by omega) (by omega),ii h2,List.countP_append]
       simp[h4]
     · refine⟨t.length-(k+1),by omega,k+1,by omega,rfl,?_,rfl,ab hb' hb3 hb'.size⟩
       rw[ii h2,List.countP_append]
       simp[h4]
   · have:k=t.length:=by omega
     subst this
     rw[List.take_length]
     refine⟨?_,ab hb hb' hb.size⟩
     unfold ofT;rw[if_pos h]
theorem C7:∀n,n<256->0 <=sym (UInt8.ofNat n)->xY (sym (UInt8.ofNat n))=true/\chr (sym (UInt8.ofNat n))=UInt8.ofNat n:=by decide+kernel
theorem Ge {c:UInt8}(h:0 <=sym c):xY (sym c)=true/\chr (sym c)=c:=by
 have:=C7 c.toNat (by have:=c.toNat_lt;omega)
 rw[UInt8.ofNat_toNat]at this
 exact this h
theorem DE:∀n,n<92->sym (chr (n:Nat))=(n:Nat):=by decide+kernel
theorem HA {i:Int}(h:xY i=true):sym (chr i)=i:=by
 unfold xY at h
 simp at h
 have:=DE i.toNat (by omega)
 rwa [show((i.toNat:Nat):Int)=i by omega]at this
theorem EA (p o:List UInt8):sL p o=(Lib.hasPrefix p o&&((p.drop o.length==[]) || (decide ((p.drop o.length).head?=some 47) || decide (o.getLast?=some 47)))):=by
 have e1:Lib.hasPrefix p o=(decide (o.length <=p.length)&&(p.take o.length==o)):=(Lib.hasPrefix_of_take p o).symm
 unfold sL
 rw[e1,List.head?_drop]
 by_cases h:p.take o.length=o
 · have hl:o.length <=p.length:=by
     have:=congrArg List.length h
     rw[List.length_take]at this;omega
   by_cases h2:o.length<p.length
   · have h3:p≠o:=λe=>by rw[e]at h2;omega
     have h4:p.drop o.length≠[]:=λe=>by have:=congrArg List.length e;rw[List.length_drop,List.length_nil]at this;omega
     rw[beq_eq_false_iff_ne.2 h3,decide_eq_true h2,h,beq_self_eq_true,decide_eq_true hl,beq_eq_false_iff_ne.2 h4]
     simp only[Bool.false_or,Bool.true_and]
   · have h5:p.length=o.length:=by omega
     have h3:p=o:=by rw[<- h,<- h5,List.take_length]
     have h4:p.drop o.length=[]:=List.drop_eq_nil_of_le (by omega)
     simp[h3]
 · have h3:p≠o:=λe=>h (by rw[e,List.take_length])
   rw[beq_eq_false_iff_ne.2 h3,beq_eq_false_iff_ne.2 h]
   simp only[Bool.false_or,Bool.false_and,Bool.and_false]
def pw (s:List UInt8):List Nat:=s.map λc=>(sym c).toNat
theorem Cn:∀n,n<256->nU (UInt8.ofNat n)=decide (0 <=sym (UInt8.ofNat n)):=by decide+kernel
theorem EB (c:UInt8):nU c=decide (0 <=sym c):=by
 have:=Cn c.toNat (by have:=c.toNat_lt;omega)
 rwa [UInt8.ofNat_toNat]at this
theorem oX {p:List UInt8}(h:kV p=true):jf p=true/\p.head?=some 47/\p.length <=2048:=by
 unfold kV at h
 simp only[Bool.and_eq_true,dTx,List.all_eq_true]at h
 refine⟨List.all_eq_true.2 λc hc=>?_,h.1,h.2.1⟩
 have:=h.2.2 c hc
 rwa [EB]at this
theorem q6 {s:List UInt8}(h:jf s=true){c:UInt8}(hc:c∈s):0 <=sym c:=by
 have:=List.all_eq_true.1 h c hc
 simpa using this
theorem AF {s:List UInt8}(h:jf s=true):∀x∈pw s,x<92:=by
 intro x hx
 obtain⟨c,hc,rfl⟩:=List.mem_map.1 hx
 have:=Ln c
 have:=q6 h hc
 omega
theorem Kw {c d:UInt8}(hc:0 <=sym c)(hd:0 <=sym d)(e:(sym c).toNat=(sym d).toNat):c=d:=by
 have e':sym c=sym d:=by omega
 rw[<- (Ge hc).2,<- (Ge hd).2,e']
theorem lA:∀{s t:List UInt8},jf s=true->jf t=true->(pw s <+:pw t ↔ s <+:t)
 | [],t,_,_=>by simp[pw]
 | c::s,[],_,_=>by simp[pw]
 | c::s,d::t,hs,ht=>by
   have h1:=q6 hs (c:=c) List.mem_cons_self
   have h2:=q6 ht (c:=d) List.mem_cons_self
   have hs':jf s=true:=List.all_eq_true.2 λx hx=>List.all_eq_true.1 hs x (List.mem_cons_of_mem _ hx)
   have ht':jf t=true:=List.all_eq_true.2 λx hx=>List.all_eq_true.1 ht x (List.mem_cons_of_mem _ hx)
   have ih:=lA hs' ht'
   unfold pw at ih ⊢
   simp only[List.map_cons,List.cons_prefix_cons,ih]
   exact and_congr_left λ_=>⟨λe=>Kw h1 h2 e,λe=>by rw[e]⟩
theorem L3 {s t:List UInt8}(hs:jf s=true)(ht:jf t=true):pw s=pw t ↔ s=t:=by
 constructor
 · intro e
   have h1:=(lA hs ht).1 (by rw[e];exact List.prefix_refl _)
   exact h1.eq_of_length (by have:=congrArg List.length e;simpa[pw]using this)
 · intro e;rw[e]
theorem uJ {s t:List UInt8}(h:jf t=true)(hp:s <+:t):jf s=true:=List.all_eq_true.2 λc hc=>List.all_eq_true.1 h c (hp.subset hc)
theorem nH {s:List UInt8}(h:jf s=true):jf (s++[47])=true:=List.all_eq_true.2 λc hc=>by
 rcases List.mem_append.1 hc with hc|hc
 · exact List.all_eq_true.1 h c hc
 · rw[List.mem_singleton]at hc;subst hc;decide
def dy (s:List UInt8):DA:=if jf s=true then chD 92 (pw s) (((pw s).length+1:Nat):Int)else noD 92
theorem nj {s:List UInt8}(h:jf s=true)(hl:s.length <=65534):ue (dy s) (pw s) 1:=by
 unfold dy
 rw[if_pos h]
 have:=An (k:=92) (by omega) (by omega) (w:=pw s) (AF h) (by simpa[pw]using hl) 1 (by omega)
 simpa using this
theorem BE {s p:List UInt8}(hp:jf p=true)(hl:s.length <=65534):(dy s).Lang (dy s).s (pw p) ↔ s <+:p:=by
 by_cases h:jf s=true
 · have hc:=nj h hl
   have hk:(dy s).K=92:=by unfold dy;rw[if_pos h];rfl
   rw[hc.lang,hk]
   unfold Bo
   rw[if_neg (by omega),if_pos rfl,lA h hp]
   exact⟨λh=>h.2,λh=>⟨AF hp,h⟩⟩
 · unfold dy
   rw[if_neg h]
   exact⟨λh2=>absurd h2 (Ax _ _),λh2=>absurd (uJ hp h2) h⟩
def cj (o:List UInt8):DA:=
 if o=[]then dy [47]
 else if o.head?≠some 47 then noD 92
 else if o.getLast?=some 47 then dy o
 else if jf o=true then⟨92,1,(dy (o++[47])).nx,(dy (o++[47])).ac.set (o.length+1) true⟩
 else noD 92
theorem Dt (p o:List UInt8):Lib.hasPrefix p o=true ↔ o <+:p:=by
 rw[<- Lib.hasPrefix_of_take,Bool.and_eq_true,dTx,beq_iff_eq,List.prefix_iff_eq_take]
 constructor
 · rintro⟨_,h⟩;exact h.symm
 · intro h;exact⟨by have:=congrArg List.length h;rw[List.length_take]at this;omega,h.symm⟩
theorem qA {p o:List UInt8}(hp:kV p=true)(hl:o.length <=60000):(cj o).Lang (cj o).s (pw p) ↔ sL p o=true:=by
 obtain⟨g,h47,_⟩:=oX hp
 obtain⟨q,rfl⟩:∃q,p=47::q:=by
   cases p with
   | nil=>simp at h47
   | cons c q=>simp at h47;exact⟨q,by rw[h47]⟩
 unfold cj
 by_cases h0:o=[]
 · subst h0
   rw[if_pos rfl,BE g (by decide)]
   simp[sL]
 rw[if_neg h0]
 by_cases h1:o.head?=some 47
 · rw[if_neg (by simpa using h1)]
   rw[EA]
   by_cases h2:o.getLast?=some 47
   · rw[if_pos h2,BE g (by omega),<- Dt]
     simp[h2]
   · rw[if_neg h2]
     simp only[h2,decide_false,Bool.or_false,Bool.and_eq_true,Bool.or_eq_true,beq_iff_eq,dTx,Dt]
     have key:(o <+:47::q/\(List.drop o.length (47::q)=[]\/(List.drop o.length (47::q)).head?=some 47)) ↔ (47::q=o\/o++[47] <+:47::q):=by
       constructor
       · rintro⟨⟨r,e⟩,h3⟩
         rw[<- e,List.drop_left]at h3
         rcases h3 with h3|h3
         · left;rw[<- e,h3,List.append_nil]
         · right
           obtain⟨r',rfl⟩:∃r',r=47::r':=by
             cases r with
             | nil=>simp at h3
             | cons c r'=>simp at h3;exact⟨r',by rw[h3]⟩
           exact⟨r',by rw[<- e,List.append_assoc];rfl⟩
       · rintro(h3|⟨r,e⟩)
         · rw[h3];exact⟨List.prefix_refl _,.inl (List.drop_eq_nil_of_le (Nat.le_refl _))⟩
         · rw[List.append_assoc]at e
           refine⟨⟨_,e⟩,.inr ?_⟩
           rw[<- e,List.drop_left];rfl
     rw[key]
     by_cases h3:jf o=true
     · rw[if_pos h3]
       have hc:=nj (nH h3) (s:=o++[47]) (by simp;omega)
       have hb:dy (o++[47])=chD 92 (pw (o++[47])) (((pw (o++[47])).length+1:Nat):Int):=by unfold dy;rw[if_pos (nH h3)]
       have hlen:(pw (o++[47])).length=o.length+1:=by simp[pw]
       have hk:(dy (o++[47])).K=92:=by rw[hb];rfl
       have hs:(dy (o++[47])).s=1:=hc.st
       have hn:=hc.n
       have hset:=IG (d:=dy (o++[47])) (a:=o.length+1) (by rw[hn,hlen];omega) (pw (47::q))
       have e92:(⟨92,1,(dy (o++[47])).nx,(dy (o++[47])).ac.set (o.length+1) true⟩:DA)=⟨(dy (o++[47])).k,(dy (o++[47])).st,(dy (o++[47])).nx,(dy (o++[47])).ac.set (o.length+1) true⟩:=by rw[hb];rfl
       have es:(⟨92,1,(dy (o++[47])).nx,(dy (o++[47])).ac.set (o.length+1) true⟩:DA).s=(dy (o++[47])).s:=by rw[hs];rfl
       rw[es,e92,hset,hs,hk]
       have hf:=hc.from (i:=0) (Nat.zero_le _) (v:=pw (47::q)) (by rw[hk];exact AF g)
       have ha:=hc.run_at (i:=o.length) (by rw[hlen];omega) (j:=0) (Nat.zero_le _) (v:=pw (47::q)) (by rw[hk];exact AF g)
       have et:(pw (o++[47])).take o.length=pw o:=by
         unfold pw
         rw[List.map_append,List.take_left' (by simp)]
       rw[Nat.zero_add]at hf ha
       rw[hf,ha,List.drop_zero,List.drop_zero,et,L3 g h3]
       unfold Bo
       rw[if_neg (by omega),if_pos rfl,lA (nH h3) g]
       constructor
       · rintro⟨_,h4|h4⟩
         · exact .inr h4
         · exact .inl h4
       · rintro(h4|h4)
         · exact⟨AF g,.inr h4⟩
         · exact⟨AF g,.inl h4⟩
     · rw[if_neg h3]
       refine⟨λh4=>absurd h4 (Ax _ _),λh4=>absurd ?_ h3⟩
       rcases h4 with h4|⟨r,e⟩
       · rw[<- h4];exact g
       · exact uJ g ⟨[47]++r,by rw[<- e,List.append_assoc]⟩
 · rw[if_pos h1]
   refine⟨λh2=>absurd h2 (Ax _ _),λh2=>?_⟩
   rw[EA,Bool.and_eq_true,Dt]at h2
   obtain⟨⟨r,e⟩,_⟩:=h2
   cases o with
   | nil=>exact absurd rfl h0
   | cons c o=>
     simp only[List.cons_append,List.cons.injEq]at e
     exact absurd (by rw[e.1];rfl) h1
theorem tg (a:lU){w K}(h:nA w (.cells #[vI 0,vI 0,.slice none 0 0,.slice none 0 0] ai) λb c=>ae (decide (((List.length a:Nat):Int)>(60000:Int))) (∃d,Sv ai (vA b 0) (.agg #[vI 0,vI 0,.slice none 0 0,.slice none 0 0]) c d/\∃e f g i j k l m,Rv ai (vA b 0) d (.agg #[vI e,vI f,.slice g i j,.slice k l m])/\K (.tuple #[.agg #[vI e,vI f,.slice g i j,.slice k l m],vI 152]) d) (ae (a==[]) (Cf bZ #[] c λd e=>∃f g i j k l m n,d=.returned (.agg #[vI f,vI g,.slice i j k,.slice l m n])/\∃o,Sv ai (vA b 0) (.agg #[vI f,vI g,.slice i j k,.slice l m n]) e o/\∃p q r s t u v x,Rv ai (vA b 0) o (.agg #[vI p,vI q,.slice r s t,.slice u v x])/\K (.tuple #[.agg #[vI p,vI q,.slice r s t,.slice u v x],vI 0]) o) (bx (0:Int) ((List.length a:Nat):Int)/\ae ((aX a (0:Int)) !=(47:Int)) (Cf lj #[vI 92] c λd e=>∃f g i j k l m n o,d=rT #[.agg #[vI f,vI g,.slice i j k,.slice l m n],vI o]/\∃p,Sv ai (vA b 0) (.agg #[vI f,vI g,.slice i j k,.slice l m n]) e p/\∃q r s t u v x y,Rv ai (vA b 0) p (.agg #[vI q,vI r,.slice s t u,.slice v x y])/\K (.tuple #[.agg #[vI q,vI r,.slice s t u,.slice v x y],vI o]) p) (uB jV #[vS a,vS [47]] c λd e=>ae d (Cf fc #[vS a] e λf g=>∃i j k l m n o p q,f=rT #[.agg #[vI i,vI j,.slice k l m,.slice n o p],vI q]/\∃r,Sv ai (vA b 0) (.agg #[vI i,vI j,.slice k l m,.slice n o p]) g r/\∃s t u v x y z A,Rv ai (vA b 0) r (.agg #[vI s,vI t,.slice u v x,.slice y z A])/\K (.tuple #[.agg #[vI s,vI t,.slice u v x,.slice y z A],vI q]) r) ((((List.length a+List.length [47]:Nat):Int) <=i64.max)/\∀f,f=(a++[47])->Cf fc #[vS f] e λg i=>∃j k l m n o p q r,g=rT #[.agg #[vI j,vI k,.slice l m n,.slice o p q],vI r]/\nA i (.cells #[vI 0,vI 0,.slice none 0 0,.slice none 0 0] ai) λs t=>∃u,Sv ai (vA s 0) (.agg #[vI j,vI k,.slice l m n,.slice o p q]) t u/\∃v:FP [],(Cf gp #[vS a] u λx y=>∃z A B C,x=rT #[.slice z A B,.bool C]/\∃D:FP [.one .bool],(ae C (D (r==(0:Int)) y) (D false y))/\∀E,aE 4 (∀F,D E F->ae E (true/\∃G,Ld ay (vA s 1) F (vI G)/\∃H:Nat->FP [.one (.int .i64),.one (.int .i64)],(∃I,H I G (0:Int) F)/\∀I J L,aE 15 (∀M,H I J L M->ae (decide (L<((A:Nat):Int))) ((bx L ((A:Nat):Int)/\Option.isSome z=true)/\∃N,Ld ay (am z L 1) M (vI N)/\true/\∃O P Q,Ld aA (vA s 2) M (.slice O P Q)/\true/\∃R,Ld ay (vA s 0) M (vI R)/\(bx (i64.wrap ((i64.wrap (J*R))+N)) ((P:Nat):Int)/\Option.isSome O=true)/\∃S,Ld ay (am O (i64.wrap ((i64.wrap (J*R))+N)) 1) M (vI S)/\∃T:Nat,T<I/\H T S (i64.wrap (L+(1:Int))) M) (true/\∃N O P,Ld aQ (vA s 3) M (.slice N O P)/\(bx J ((O:Nat):Int)/\Option.isSome N=true)/\∃Q,Sv bR (am N J 1) (.bool true) M Q/\v Q))) (v F)))/\aE 37 (∀x,v x->∃y z A B C D E F,Ld ai (vA s 0) x (.agg #[vI y,vI z,.slice A B C,.slice D E F])/\∃G,Sv ai (vA b 0) (.agg #[vI y,vI z,.slice A B C,.slice D E F]) x G/\∃H I J L M N O P,Rv ai (vA b 0) G (.agg #[vI H,vI I,.slice J L M,.slice N O P])/\K (.tuple #[.agg #[vI H,vI I,.slice J L M,.slice N O P],vI r]) G)))))):Cf jS #[vS a] w (Ret K):=ru func77 [(31,[]),(34,[(49,.one .bool)]),(43,[(8,.one (.int .i64)),(54,.one (.int .i64))])] h
theorem th {w K}(h:nA w (.cells #[vI 0,vI 0,.slice none 0 0,.slice none 0 0] ai) λa b=>Cf fc #[vS [47]] b λc d=>∃e f g i j k l m n,c=rT #[.agg #[vI e,vI f,.slice g i j,.slice k l m],vI n]/\nA d (.cells #[vI 0,vI 0,.slice none 0 0,.slice none 0 0] ai) λo p=>∃q,Sv ai (vA o 0) (.agg #[vI e,vI f,.slice g i j,.slice k l m]) p q/\∃r s t u v x y z,Ld ai (vA o 0) q (.agg #[vI r,vI s,.slice t u v,.slice x y z])/\∃A,Sv ai (vA a 0) (.agg #[vI r,vI s,.slice t u v,.slice x y z]) q A/\∃B C D E F G H I,Rv ai (vA a 0) A (.agg #[vI B,vI C,.slice D E F,.slice G H I])/\K (.agg #[vI B,vI C,.slice D E F,.slice G H I]) A):Cf bZ #[] w (Ret K):=ru func134 [] h
theorem rE (a:lU){w K}(h:nA w (.cells #[vI 0,vI 0,.slice none 0 0,.slice none 0 0] ai) λb c=>Cf gp #[vS a] c λd e=>∃f g i j,d=rT #[.slice f g i,.bool j]/\ae (!j) (Cf lj #[vI 92] e λk l=>∃m n o p q r s t u,k=rT #[.agg #[vI m,vI n,.slice o p q,.slice r s t],vI u]/\∃v,Sv ai (vA b 0) (.agg #[vI m,vI n,.slice o p q,.slice r s t]) l v/\∃x y z A B C D E,Rv ai (vA b 0) v (.agg #[vI x,vI y,.slice z A B,.slice C D E])/\K (.tuple #[.agg #[vI x,vI y,.slice z A B,.slice C D E],vI u]) v) (Cf kz #[vI 92,.slice f g i] e λk l=>∃m n o p q r s t u,k=rT #[.agg #[vI m,vI n,.slice o p q,.slice r s t],vI u]/\∃v,Sv ai (vA b 0) (.agg #[vI m,vI n,.slice o p q,.slice r s t]) l v/\∃x y z A B C D E,Rv ai (vA b 0) v (.agg #[vI x,vI y,.slice z A B,.slice C D E])/\K (.tuple #[.agg #[vI x,vI y,.slice z A B,.slice C D E],vI u]) v)):Cf fc #[vS a] w (Ret K):=ru func136 [] h
theorem vJ {s:List UInt8}(h:jf s=true):rI s=(pw s).map fun(x:Nat)=>(x:Int):=by
 unfold rI pw
 rw[if_pos h,List.map_map]
 refine List.map_congr_left λc hc=>?_
 have:=q6 h hc
 show sym c=(((sym c).toNat:Nat):Int)
 omega
theorem wi (s:List UInt8):(pw s).length=s.length:=by simp[pw]
theorem vf (s:List UInt8)(hs:s.length <=65534)(w:World):Cf fc #[vS s] w (Ret (sq w (dy s))):=by
 apply rE
 intro k2 w2 hk2 hw2
 have hb2:=(hw2▸af w _:bW w w2)
 have A2:ak w2 k2 ai [vI 0,vI 0,.slice none 0 0,.slice none 0 0]:=ak.new hk2 hw2
 have hlt:=A2.lt
 refine av (ki s (by omega) w2) ?_
 rintro _ w8 ⟨a,n,c,rfl,ho,hf,hb8⟩
 have hB:=ab hb2 hb8 hb2.size
 refine⟨a,n,c,jf s,rfl,ae.of (λh=>?_) (λh=>?_)⟩
 · have hg:jf s=false:=by simpa using h
   refine av (qs (k:=92) (by omega) (by omega)) ?_
   rintro _ w13 ⟨a1,n1,c1,b1,m1,e1,rfl,O,hb13⟩
   have s8:=hb8.size
   obtain⟨wx,s1,s2,g1⟩:=dU ((A2.below hb8).below hb13) rfl a1 n1 c1 b1 m1 e1 (noD 92)
   have hB13:=ab hB hb13 hB.size
   refine⟨_,_,a1,n1,c1,b1,m1,e1,_,rfl,wx,s1,_,_,a1,n1,c1,b1,m1,e1,s2,?_⟩
   have e:dy s=noD 92:=by unfold dy;rw[if_neg (by rw[hg];decide)]
   rw[e]
   exact⟨a1,n1,c1,b1,m1,e1,rfl,(O.put g1 (by omega)).mono hB.size,Below.put hB13 g1 (by omega)⟩
 · have hg:jf s=true:=by simpa using h
   rw[vJ hg]at ho
   refine av (qV (k:=92) ho.all (by omega) (by omega) (AF hg) (by rw[wi];exact hs)) ?_
   rintro _ w13 ⟨a1,n1,c1,b1,m1,e1,rfl,O,hb13⟩
   have s8:=hb8.size
   obtain⟨wx,s1,s2,g1⟩:=dU ((A2.below hb8).below hb13) rfl a1 n1 c1 b1 m1 e1 (chD 92 (pw s) (((pw s).length+1:Nat):Int))
   have hB13:=ab hB hb13 hB.size
   refine⟨_,_,a1,n1,c1,b1,m1,e1,_,rfl,wx,s1,_,_,a1,n1,c1,b1,m1,e1,s2,?_⟩
   have e:dy s=chD 92 (pw s) (((pw s).length+1:Nat):Int):=by unfold dy;rw[if_pos hg]
   rw[e]
   exact⟨a1,n1,c1,b1,m1,e1,rfl,(O.put g1 (by omega)).mono hB.size,Below.put hB13 g1 (by omega)⟩
def KL (w:World)(d:DA)(v:Value)(w':World):Prop:=∃(a:Option Addr) (n c:Nat) (b:Option Addr) (m e:Nat),v=daV a n c b m e d/\xN w.heap.size w' a n c b m e d/\bW w w'
theorem DQ (w:World):Cf bZ #[] w (Ret (KL w (dy [47]))):=by
 apply th
 intro k0 w0 hk0 hw0
 have hb0:=(hw0▸af w _:bW w w0)
 have A0:ak w0 k0 ai [vI 0,vI 0,.slice none 0 0,.slice none 0 0]:=ak.new hk0 hw0
 have hlt:=A0.lt
 refine av (vf [47] (by decide) w0) ?_
 rintro _ w4 ⟨a,n,c,b,m,e,rfl,O,hb4⟩
 have hB4:=ab hb0 hb4 hb0.size
 refine⟨_,_,a,n,c,b,m,e,_,rfl,?_⟩
 intro k1 w1 hk1 hw1
 have hb1:=(hw1▸af w4 _:bW w4 w1)
 have A1:ak w1 k1 ai [vI 0,vI 0,.slice none 0 0,.slice none 0 0]:=ak.new hk1 hw1
 have s4:=hb4.size
 obtain⟨wx,q1,v1,g1⟩:=cg.store0 (P:=prog) (cs:=daL a n c b m e (dy [47])) rfl (iF _ _ _ _ _ _ _) A1 rfl
 have bx:bW w4 wx:=Below.put hb1 g1 (by omega)
 refine⟨wx,q1,_,_,a,n,c,b,m,e,cg.load0 (cs:=daL a n c b m e (dy [47])) v1 rfl,?_⟩
 obtain⟨wy,s1,s2,g2⟩:=dU ((A0.below hb4).below bx) rfl a n c b m e (dy [47])
 have hBx:=ab hB4 bx hB4.size
 exact⟨wy,s1,_,_,a,n,c,b,m,e,s2,a,n,c,b,m,e,rfl,((O.below bx).put g2 hlt).mono hb0.size,Below.put hBx g2 (by omega)⟩
theorem L6 (s p:List UInt8)(hs:s.length <=9223372036854775807)(w:World):Cf jV #[vS s,vS p] w (Ret λv w'=>v=.bool (Lib.hasSuffix s p)/\w'=w):=
 (Tryz.strings_HasSuffix (mkS s) (mkS p) w hs).mono λe w' ⟨h1,h2⟩=>⟨_,h1,rfl,h2⟩
theorem JR {s:List UInt8}{c:UInt8}{r:List UInt8}(e:s=c::r):aX s (0:Int)=((c.toNat:Nat):Int):=by subst e;rfl
theorem ue.go {d:DA}{w:List Nat}{m:Nat}(h:ue d w m)(hw:∀x∈w,x<d.K){i:Nat}(hi:i<w.length):d.run 1 (w.take i)=i+1:=
 (h.run_at hi (j:=0) (Nat.zero_le _) (λx hx=>hw x (List.mem_of_mem_take hx))).2 rfl
set_option maxHeartbeats 1000000 in
theorem Ia (o:List UInt8)(ho:o.length <=60000)(w:World):Cf jS #[vS o] w (Ret (sq w (cj o))):=by
 apply tg
 intro k2 w2 hk2 hw2
 have hb2:=(hw2▸af w _:bW w w2)
 have A2:ak w2 k2 ai [vI 0,vI 0,.slice none 0 0,.slice none 0 0]:=ak.new hk2 hw2
 have hlt:=A2.lt
 have s2':=hb2.size
 have back:∀{W:World} {d:DA} {a b:Option Addr} {n c m e:Nat},xN w2.heap.size W a n c b m e d->bW w2 W->∃wx,(Instr.storeAt ai (.pointer (some ⟨k2,0,none⟩)) (daV a n c b m e d)).run prog W=.ok () wx/\(aZ ai (.pointer (some ⟨k2,0,none⟩))).run prog wx=.ok (daV a n c b m e d) wx/\sq w d (.tuple #[daV a n c b m e d,vI 0]) wx:=by
   intro W d a b n c m e O hb
   obtain⟨wx,s1,s2,g1⟩:=dU (A2.below hb) rfl a n c b m e d
   exact⟨wx,s1,s2,a,n,c,b,m,e,rfl,(O.put g1 hlt).mono hb2.size,Below.put (ab hb2 hb hb2.size) g1 (by omega)⟩
 refine ae.no (decide_eq_false (by omega)) (ae.of (λh0=>?_) (λh0=>?_))
 · have h0:o=[]:=by simpa using h0
   have e:cj o=dy [47]:=by unfold cj;rw[if_pos h0]
   rw[e]
   refine av (DQ w2) ?_
   rintro _ w19 ⟨a,n,c,b,m,e,rfl,O,hb⟩
   obtain⟨wx,s1,s2,h⟩:=back O hb
   exact⟨_,_,a,n,c,b,m,e,rfl,wx,s1,_,_,a,n,c,b,m,e,s2,h⟩
 have h0:o≠[]:=by simpa using h0
 obtain⟨x,r,er⟩:=List.exists_cons_of_ne_nil h0
 have hlen:0<o.length:=by rw[er];simp
 refine⟨⟨by omega,by omega⟩,?_⟩
 rw[JR er]
 refine ae.of (λh1=>?_) (λh1=>?_)
 · have h1:x≠47:=λe=>by subst e;simp at h1
   have e:cj o=noD 92:=by unfold cj;rw[if_neg h0,if_pos (by rw[er];simpa using h1)]
   rw[e]
   refine av (qs (k:=92) (by omega) (by omega)) ?_
   rintro _ w19 ⟨a,n,c,b,m,e,rfl,O,hb⟩
   obtain⟨wx,s1,s2,h⟩:=back O hb
   exact⟨_,_,a,n,c,b,m,e,_,rfl,wx,s1,_,_,a,n,c,b,m,e,s2,h⟩
 have h1:x=47:=by
   have h2:((x.toNat:Nat):Int)=47:=by simpa using h1
   exact UInt8.toNat_inj.1 (show x.toNat=47 by omega)
 subst h1
 have hd: ¬ (o.head?≠some 47):=by rw[er];simp
 refine av (L6 o [47] (by omega) w2) ?_
 rintro _ w29 ⟨rfl,hw29⟩
 rw[hw29];clear hw29 w29
 rw[(EH o 47).1]
 refine⟨_,rfl,ae.of (λh2=>?_) (λh2=>?_)⟩
 · have h2:o.getLast?=some 47:=by simpa using h2
   have e:cj o=dy o:=by unfold cj;rw[if_neg h0,if_neg hd,if_pos h2]
   rw[e]
   refine av (vf o (by omega) w2) ?_
   rintro _ w19 ⟨a,n,c,b,m,e,rfl,O,hb⟩
   obtain⟨wx,s1,s2,h⟩:=back O hb
   exact⟨_,_,a,n,c,b,m,e,_,rfl,wx,s1,_,_,a,n,c,b,m,e,s2,h⟩
 have h2: ¬ o.getLast?=some 47:=by simpa using h2
 have hl1:(o++[47]).length=o.length+1:=by simp
 refine⟨by show((o.length+[(47:UInt8)].length:Nat):Int) <=9223372036854775807;simp;omega,?_⟩
 rintro _ rfl
 refine av (vf (o++[47]) (by omega) w2) ?_
 rintro _ w37 ⟨a,n,c,b,m,e,rfl,O,hb37⟩
 refine⟨_,_,a,n,c,b,m,e,_,rfl,?_⟩
 intro k4 w4 hk4 hw4
 have hb4:=(hw4▸af w37 _:bW w37 w4)
 have A4:ak w4 k4 ai [vI 0,vI 0,.slice none 0 0,.slice none 0 0]:=ak.new hk4 hw4
 have hlt4:=A4.lt
 have s37:=hb37.size
 obtain⟨wx,q1,v1,g1⟩:=cg.store0 (P:=prog) (cs:=daL a n c b m e (dy (o++[47]))) rfl (iF _ _ _ _ _ _ _) A4 rfl
 have bx:bW w37 wx:=Below.put hb4 g1 (by omega)
 have Bx:=ab hb37 bx hb37.size
 refine⟨wx,q1,λW=>bW w2 W/\k4<W.heap.size/\∃d,d=cj o/\d.k=92/\xN w2.heap.size W a n c b m e d/\ak W k4 ai (daL a n c b m e d),?_,?_⟩
 · refine av (ki o (by omega) wx) ?_
   rintro _ w42 ⟨a5,n5,c5,rfl,ho5,hf5,hb42⟩
   have B42:=ab Bx hb42 Bx.size
   have A42:=v1.below hb42
   have O42:=(O.below bx).below hb42
   refine⟨a5,n5,c5,jf o,rfl,λbb W=>bb=jf o/\W=w42,ae.of (λh=>⟨h.symm,rfl⟩) (λh=>⟨h.symm,rfl⟩),λbb=>aE.of ?_ _⟩
   rintro wj ⟨rfl,hwj⟩
   rw[hwj];clear hwj wj
   refine ae.of (λhg=>?_) (λhg=>?_)
   · have hg2:=nH hg
     rw[vJ hg]at ho5
     have hc:=nj hg2 (by omega)
     have eb:dy (o++[47])=chD 92 (pw (o++[47])) (((pw (o++[47])).length+1:Nat):Int):=by unfold dy;rw[if_pos hg2]
     have eK:(dy (o++[47])).K=92:=by rw[eb];rfl
     have ek:(dy (o++[47])).k=92:=by rw[eb];rfl
     have est:(dy (o++[47])).st=1:=by rw[eb];rfl
     have hw:∀x∈pw (o++[47]),x<(dy (o++[47])).K:=by rw[eK];exact AF hg2
     have epw:pw (o++[47])=pw o++pw [47]:=by unfold pw;rw[List.map_append]
     have hn5:n5=o.length:=by have:=ho5.len;rw[List.length_map,wi]at this;exact this
     refine⟨rfl,_,A42.load1 aI rfl rfl,?_⟩
     rw[est]
     refine⟨λM at_ i W=>∃j:Nat,j <=o.length/\i=(j:Int)/\M=o.length-j/\at_=((j+1:Nat):Int)/\W=w42,⟨_,0,by omega,rfl,rfl,rfl,rfl⟩,?_⟩
     intro M at_ i
     refine aE.of ?_ _
     rintro wl ⟨j,hj,rfl,rfl,rfl,hwl⟩
     rw[hwl];clear hwl wl
     refine ae.of (λh3=>?_) (λh3=>?_) <;> simp only[dTx,dFx]at h3
     · have hjl:j<o.length:=by omega
       have hj2:j<(pw o).length:=by rw[wi];exact hjl
       have hj3:j<((pw o).map fun(x:Nat)=>(x:Int)).length:=by rw[List.length_map];exact hj2
       have hj4:j<(pw (o++[47])).length:=by rw[wi,hl1];omega
       have hx92:(pw o)[j]<92:=AF hg _ (List.getElem_mem hj2)
       have e1:((pw o).map fun(x:Nat)=>(x:Int))[j]=(((pw o)[j]:Nat):Int):=by rw[List.getElem_map]
       have e2:(pw (o++[47]))[j]=(pw o)[j]:=by simp only[epw];rw[List.getElem_append_left hj2]
       have hs1:j+1<(dy (o++[47])).n:=by rw[hc.n,wi,hl1];omega
       obtain⟨v,hv,v0,v2,ev⟩:=hc.ok.at hs1 (x:=(pw o)[j]) (by rw[eK];exact hx92)
       have hto:=hc.mid j _ hj4 (by rw[eK];exact hx92)
       rw[e2,if_pos rfl]at hto
       rw[eK]at hv
       have hvl:=(List.getElem?_eq_some_iff.1 hv).1
       have hve:=(List.getElem?_eq_some_iff.1 hv).2
       have hwr:i64.wrap (i64.wrap (((j+1:Nat):Int)*92)+(((pw o)[j]:Nat):Int))=(((j+1)*92+(pw o)[j]:Nat):Int):=by
         have h6:i64.wrap (((j+1:Nat):Int)*92)=((j+1:Nat):Int)*92:=wrap_i64 (by omega) (by omega)
         try dsimp only
         rw[h6,wrap_i64 (by omega) (by omega)];omega
       have hnl:=O42.nx.len
       refine⟨⟨⟨by omega,by omega⟩,ho5.all.isSome hj3⟩,_,ho5.all.num aI hj3,rfl,a,n,c,A42.load1 bm rfl rfl,rfl,_,A42.load1 aI rfl rfl,?_⟩
       rw[e1,ek,hwr]
       refine⟨⟨⟨by omega,by omega⟩,O42.nx.all.isSome hvl⟩,_,O42.nx.all.num aI hvl,o.length-(j+1),by omega,j+1,by omega,by rw[wrap_i64 (by omega) (by omega)];omega,rfl,?_,rfl⟩
       rw[hve]
       omega
     · have hjl:j=o.length:=by omega
       subst hjl
       have hna:(dy (o++[47])).ac.length=o.length+3:=by
         have:=hc.n
         rw[wi,hl1]at this
         exact this
       have hacl:=O42.ac.len
       have hi:(((o.length+1:Nat):Int)).toNat<(dy (o++[47])).ac.length:=by rw[hna];omega
       obtain⟨w7,r7,o7,g7⟩:=Ow.store (P:=prog) qL O42.ac (λg _ h=>h) (i:=((o.length+1:Nat):Int)) hi (k:=1) rfl (v:=.bool true) (x:=true) ry
       refine⟨rfl,b,m,e,A42.load1 bf rfl rfl,⟨⟨by omega,by omega⟩,O42.ac.all.isSome hi⟩,w7,r7,?_⟩
       have hbb:∀g,bu b=some g->w2.heap.size <=g:=λg hg=>O.fb g hg
       have e7:(o.length+1:Nat)=(((o.length+1:Nat):Int)).toNat:=by omega
       have em:cj o=⟨92,1,(dy (o++[47])).nx,(dy (o++[47])).ac.set (o.length+1) true⟩:=by
         unfold cj
         rw[if_neg h0,if_neg hd,if_neg h2,if_pos hg]
       have hk4b:∀g,bu b=some g->g≠k4:=λg hg ex=>by
         have:=O.ac.lt g hg
         omega
       have hk4r:some k4≠bu b:=λex=>hk4b k4 ex.symm rfl
       refine⟨B42.grown g7 B42.size hbb,by have:=g7.size;have:=hb42.size;have:=v1.lt;omega,_,em.symm,rfl,⟨?_,by rw[e7];exact o7,O42.ne,O42.fa,O42.fb⟩,?_⟩
       · exact O42.nx.other g7 O42.ne
       · have:=A42.grown g7 hk4r
         rw[show daL a n c b m e (dy (o++[47]))=daL a n c b m e ⟨92,1,(dy (o++[47])).nx,(dy (o++[47])).ac.set (o.length+1) true⟩ from by unfold daL;rw[ek,est]]at this
         exact this
   · have em:cj o=dy (o++[47]):=by
       have:jf (o++[47])≠true:=λh=>by
         have:=uJ h (List.prefix_append o [47])
         rw[hg]at this;cases this
       unfold cj dy
       rw[if_neg h0,if_neg hd,if_neg h2,if_neg (by rw[hg];decide),if_neg this]
     refine⟨B42,by have:=hb42.size;have:=v1.lt;omega,_,em.symm,?_,O42,A42⟩
     have:jf (o++[47])≠true:=λh=>by
       have:=uJ h (List.prefix_append o [47])
       rw[hg]at this;cases this
     unfold dy
     rw[if_neg this];rfl
 · refine aE.of ?_ _
   rintro wj ⟨hB,hk,d,rfl,hdk,OD,AD⟩
   refine⟨_,_,a,n,c,b,m,e,cg.load0 (cs:=daL a n c b m e (cj o)) AD rfl,?_⟩
   obtain⟨wy,s1,s2,h⟩:=back OD hB
   exact⟨wy,s1,_,_,a,n,c,b,m,e,s2,h⟩
def Few (a b:DA):Prop:=∀ps:List Pr,ps.Nodup->(∀p∈ps,∃w:List Nat,(∀x∈w,x<a.K)/\H0 a b (a.s,b.s) w=p)->ps.length <=65536
theorem GA {a b:DA}(ha:a.Ok)(hb:b.Ok)(hk:a.k=b.k)(h:a.n*b.n <=65536):Few a b:=λps hn hp=>by
 have hK:b.K=a.K:=by unfold DA.K;rw[hk]
 refine Nat.le_trans (G5 hn λp hpm=>?_) h
 obtain⟨w,hw,rfl⟩:=hp p hpm
 exact⟨ha.run_lt ha.s_lt hw,hb.run_lt hb.s_lt (by rw[hK];exact hw)⟩
theorem Few.congr {a b a' b':DA}(h:Few a b)(ka:a'.k=a.k)(sa:a'.st=a.st)(na:a'.nx=a.nx)(kb:b'.k=b.k)(sb:b'.st=b.st)(nb:b'.nx=b.nx):Few a' b':=λps hn hp=>by
 have Cu:∀{d d':DA},d'.k=d.k->d'.nx=d.nx->∀(w:List Nat) (s:Nat),d'.run s w=d.run s w:=by
   intro d d' hk hx w
   induction w with
   | nil=>intro s;rfl
   | cons x w ih=>
     intro s
     show d'.run (d'.to s x) w=d.run (d.to s x) w
     rw[ih]
     unfold DA.to DA.K
     rw[hk,hx]
 refine h ps hn λp hpm=>?_
 obtain⟨w,hw,e⟩:=hp p hpm
 refine⟨w,by unfold DA.K at hw ⊢;rwa [ka]at hw,?_⟩
 rw[<- e]
 unfold H0 DA.s
 rw[Cu ka na,Cu kb nb,sa,sb]
section
variable {α β:Type} [DecidableEq α]
def KVg (ek:α->Value)(ev:β->Value)(es:List MapEntry)(kvs:List (α×β)):Prop:=es.map (λe=>(e.key,e.val))=kvs.map λp=>(ek p.1,ev p.2)
def uZ (ek:α->Value)(ev:β->Value)(w:World)(r:Nat)(kvs:List (α×β)):Prop:=∃es clock,w.heap[r]? =some (.map es clock)/\KVg ek ev es.toList kvs
def uk (k:α):List (α×β)->Option β
 | []=>none
 | (k',v)::l=>if k=k' then some v else uk k l
def tM (k:α):List (α×β)->Nat->Option (Nat×β)
 | [],_=>none
 | (k',v)::l,i=>if k=k' then some (i,v)else tM k l (i+1)
theorem Do (k:α):∀(l:List (α×β)) (i:Nat),(tM k l i).map (·.2)=uk k l
 | [],_=>rfl
 | (k',v)::l,i=>by
   unfold tM uk
   split
   · rfl
   · exact Do k l (i+1)
structure EO (P:Program)(kt:TypeId)(ek:α->Value):Prop where
 check:∀(b:Bool) (k:α) (w:World),(Instr.checkKey b 10000 kt (ek k)).run P w=.ok () w
 find:∀{β:Type} (ev:β->Value) (k:α) (es:List MapEntry) (kvs:List (α×β)) (w:World),KVg ek ev es kvs->(Instr.findKey kt (ek k) es).run P w=.ok ((tM k kvs 0).map λp=>(p.1,ev p.2)) w
theorem EO.struct {P:Program}{kt:TypeId}{fs:Array Field}(hu:P.underlying kt=some (.struct fs)){ek:α->Value}(heq:∀a b,eqV P 10000 kt (ek a) (ek b)=some (decide (a=b)))
   (check:∀(b:Bool) (k:α) (w:World),(Instr.checkKey b 10000 kt (ek k)).run P w=.ok () w):EO P kt ek where
 check:=check
 find:=by
   intro β ev k es kvs w h
   have ask:∀(es:List MapEntry) (kvs:List (α×β)) (i:Nat),KVg ek ev es kvs->(Instr.findAsking kt (ek k) es i).run P w=.ok ((tM k kvs i).map λp=>(p.1,ev p.2)) w:=by
     intro es
     induction es with
     | nil=>
       intro kvs i h
       have:kvs=[]:=by unfold KVg at h;simp at h;exact h
       subst this;rfl
     | cons e es ih=>
       intro kvs i h
       cases kvs with
       | nil=>unfold KVg at h;simp at h
       | cons p kvs=>
         obtain⟨k',v⟩:=p
         unfold KVg at h
         simp only[List.map_cons,List.cons.injEq,Prod.mk.injEq]at h
         obtain⟨⟨hk,hv⟩,ht⟩:=h
         unfold Instr.findAsking tM
         rw[hk]
         have he:(Op.equal kt (ek k) (ek k')).run P w=.ok (decide (k=k')) w:=Gs 10000 kt _ _ _ w (heq k k')
         rw[Sem.run_bind,he,Result.andThen_ok]
         by_cases e1:k=k'
         · simp[e1,hv]
         · simp only[e1,decide_false,if_false]
           exact ih kvs (i+1) ht
   unfold Instr.findKey
   rw[Sem.run_bind,bh hu,Result.andThen_ok]
   cases es with
   | nil=>
     have:kvs=[]:=by unfold KVg at h;simp at h;exact h
     subst this;rfl
   | cons e es=>exact ask (e::es) kvs 0 h
variable {ek:α->Value} {ev:β->Value}
theorem uZ.below {w w':World}{r:Nat}{kvs:List (α×β)}(h:uZ ek ev w r kvs)(hb:bW w w'):uZ ek ev w' r kvs:=by
 obtain⟨es,c,hh,hkv⟩:=h
 exact⟨es,c,(hb.block r (Array.getElem?_eq_some_iff.1 hh).1).trans hh,hkv⟩
theorem uZ.lt {w:World}{r:Nat}{kvs:List (α×β)}(h:uZ ek ev w r kvs):r<w.heap.size:=by
 obtain⟨es,c,hh,hkv⟩:=h
 exact(Array.getElem?_eq_some_iff.1 hh).1
theorem uZ.keep {w w':World}{r:Nat}{kvs:List (α×β)}(h:uZ ek ev w r kvs)(hb:w'.heap[r]? =w.heap[r]?):uZ ek ev w' r kvs:=by
 obtain⟨es,c,hh,hkv⟩:=h
 exact⟨es,c,hb.trans hh,hkv⟩
theorem uZ.grown {w w':World}{r:Nat}{kvs:List (α×β)}(h:uZ ek ev w r kvs){k:Nat}(hg:w.grownBy w' (some k))(hne:r≠k):uZ ek ev w' r kvs:=h.keep (hg.block r h.lt λe=>hne (Option.some.inj e))
theorem uZ.new {w w':World}{r:Nat}(hr:r=w.heap.size)(hw:w'=w.alloc (.map #[] 0)):uZ ek ev w' r []:=by
 subst hr hw
 exact⟨#[],0,heap_alloc_new w _,rfl⟩
theorem GE {P:Program}{w:World}{r:Nat}{es:Array MapEntry}{c:Nat}(h:w.heap[r]? =some (.map es c)):(getObj r).run P w=.ok (.map es c) w:=by
 simp only[getObj,Sem.run,h]
theorem uZ.look2 {P:Program}{mt kt et:TypeId}{n bytes:Nat}{z:Value}(hm:P.underlying mt=some (.map kt et))(hk:EO P kt ek)(he:TF P et n bytes z){w:World}{r:Nat}{kvs:List (α×β)}(h:uZ ek ev w r kvs)(k:α):
   (Instr.lookup mt (.map (some r)) (ek k) true).run P w=.ok (.tuple #[((uk k kvs).map ev).getD z,.bool (uk k kvs).isSome]) w:=by
 obtain⟨es,c,hh,hkv⟩:=h
 obtain⟨i,hi,_,_,hz⟩:=he.info
 unfold Instr.lookup
 simp only[Sem.run_bind,bh hm,Result.andThen_ok,GE hh,Sem.run_pure,hk.check,hk.find ev k _ _ _ hkv]
 rw[<- Do k kvs 0]
 cases tM k kvs 0 with
 | none=>simp[zeroValue,jD hi,hz]
 | some p=>simp
theorem uZ.put {P:Program}{mt kt et:TypeId}(hm:P.underlying mt=some (.map kt et))(hk:EO P kt ek){w:World}{r:Nat}{kvs:List (α×β)}(h:uZ ek ev w r kvs){k:α}(hno:uk k kvs=none)(v:β):
   ∃w',(Instr.mapUpdate mt (.map (some r)) (ek k) (ev v)).run P w=.ok () w'/\uZ ek ev w' r (kvs++[(k,v)])/\w.grownBy w' (some r):=by
 obtain⟨es,c,hh,hkv⟩:=h
 have hlt:r<w.heap.size:=(Array.getElem?_eq_some_iff.1 hh).1
 have hnone:tM k kvs 0=none:=by
   have:=Do k kvs 0
   rw[hno]at this
   simpa using this
 refine⟨{ w with heap:=w.heap.setIfInBounds r (.map (es.push { key:=ek k,val:=ev v,born:=c }) (c+1)) },?_,⟨es.push { key:=ek k,val:=ev v,born:=c },c+1,by simp[hlt],?_⟩,⟨rfl,rfl,rfl,by simp,λj hj hne=>?_⟩⟩
 · unfold Instr.mapUpdate
   simp only[Sem.run_bind,bh hm,Result.andThen_ok,GE hh,hk.check,hk.find ev k _ _ _ hkv,hnone,Option.map_none]
   simp only[setObj,Sem.run,hh]
 · unfold KVg at hkv ⊢
   simp only[Array.toList_push,List.map_append,List.map_cons,List.map_nil,hkv]
 · have:r≠j:=λe=>hne (by rw[e])
   simp[Array.getElem?_setIfInBounds_ne this]
end
def ekP (p:Pr):Value:=.agg #[vI ((p.1:Nat):Int),vI ((p.2:Nat):Int)]
def evN (n:Nat):Value:=vI ((n:Nat):Int)
def zT (p:Pr):Pi:=(((p.1:Nat):Int),((p.2:Nat):Int))
theorem Er (q:Pr):∀(ps:List Pr) (n:Nat),(∀t,uk q (ps.zipIdx n)=some t->n <=t/\ps[t-n]? =some q)/\(uk q (ps.zipIdx n)=none->q ∉ ps)
 | [],n=>⟨λt h=>by simp[uk]at h,λ_ h=>by cases h⟩
 | p::ps,n=>by
   obtain⟨h1,h2⟩:=Er q ps (n+1)
   rw[List.zipIdx_cons]
   unfold uk
   by_cases e:q=p
   · rw[if_pos e]
     refine⟨λt h=>?_,λh=>by cases h⟩
     obtain rfl:=Option.some.inj h
     exact⟨Nat.le_refl _,by rw[Nat.sub_self,e];rfl⟩
   · rw[if_neg e]
     refine⟨λt h=>?_,λh hm=>?_⟩
     · obtain⟨h3,h4⟩:=h1 t h
       refine⟨by omega,?_⟩
       rw[show t-n=(t-(n+1))+1 by omega,List.getElem?_cons_succ]
       exact h4
     · rcases List.mem_cons.1 hm with h3|h3
       · exact e h3
       · exact h2 h h3
theorem I6 (ps:List Pr)(q:Pr):(ps++[q]).zipIdx=ps.zipIdx++[(q,ps.length)]:=by
 rw[List.zipIdx_append];simp
theorem Ow.chg {α:Type}{T:Ty α}{t:TypeId}{w w':World}{a:Option Addr}{n c:Nat}{xs:List α}{L:List Nat}(h:Ow T t w NoB a n c xs)(hc:Chg L w w')(hne:∀g,bu a=some g->g ∉ L):Ow T t w' NoB a n c xs:=
 h.keep (hc.keep.mono λb hb=>by
   rcases hb with hb|hb
   · exact hb.elim
   · exact hne b hb.symm)
theorem oN:Whl prog aK 2:=⟨⟨_,_,xt⟩,by kernel_rfl⟩
theorem KA:∃fs,prog.underlying aK=some (.struct fs):=⟨_,rfl⟩
theorem Ap:EO prog aK ekP:=by
 obtain⟨fs,h⟩:=KA
 refine EO.struct h (λa b=>?_) (λb k w=>?_)
 · obtain⟨a1,a2⟩:=a
   obtain⟨b1,b2⟩:=b
   have e:eqV prog 10000 aK (ekP (a1,a2)) (ekP (b1,b2))=some ((((a1:Nat):Int)==((b1:Nat):Int))&&((((a2:Nat):Int)==((b2:Nat):Int))&&true)):=by kernel_rfl
   rw[e]
   congr 1
   rw[Bool.eq_iff_iff]
   simp only[Bool.and_eq_true,beq_iff_eq,Bool.and_true,dTx,Prod.mk.injEq]
   omega
 · obtain⟨a1,a2⟩:=k
   kernel_rfl
theorem EN (x y:Bool)(w:World):Cf eI #[.bool x,.bool y] w (Ret λv w'=>v=.bool (x&&y)/\w'=w):=by
 apply wv
 exact ae.of (λh=>⟨by rw[h];rfl,rfl⟩) (λh=>⟨by rw[h];rfl,rfl⟩)
def d0:DA:=⟨0,0,[],[]⟩
structure pc (w0:World)(da db:DA)(aa:Option Addr)(an ac:Nat)(ba:Option Addr)(bn bc:Nat)(ca:Option Addr)(cn cc:Nat)(ea:Option Addr)(en ec:Nat)(k3 k4 k6 k38 k44 B:Nat)(x:Option Addr)(xn xc:Nat)(y:Option Addr)(yn yc:Nat)(t:Option Addr)(tn tc:Nat)(ps:List Pr)(d:DA)(w:World):Prop where
 da:ak w k3 ai [vI da.k,vI da.st,.slice aa an ac,.slice ba bn bc]
 db:ak w k4 ai [vI db.k,vI db.st,.slice ca cn cc,.slice ea en ec]
 res:ak w k6 ai [vI 0,vI 0,.slice none 0 0,.slice none 0 0]
 mak:Mk w k38 x xn xc y yn yc d
 map:uZ ekP evN w k44 ps.zipIdx
 row:Ow tP aK w NoB t tn tc (ps.map zT)
 o1:k3<k4
 o2:k4<k6
 o3:k6<k38
 o4:k38<k44
 o5:k44<B
 o6:B <=w.heap.size
 o7:w0.heap.size <=k3
 fx:bp B x
 fy:bp B y
 ft:bp B t
 tx:∀g,bu t=some g->bu x≠some g/\bu y≠some g
 bw:bW w0 w
theorem pc.below {w0 w w':World}{da db:DA}{aa ba ca ea x y t:Option Addr}{an ac bn bc cn cc en ec k3 k4 k6 k38 k44 B xn xc yn yc tn tc:Nat}{ps:List Pr}{d:DA}
   (h:pc w0 da db aa an ac ba bn bc ca cn cc ea en ec k3 k4 k6 k38 k44 B x xn xc y yn yc t tn tc ps d w) (hb:bW w w'):pc w0 da db aa an ac ba bn bc ca cn cc ea en ec k3 k4 k6 k38 k44 B x xn xc y yn yc t tn tc ps d w':=
 { h with
   da:=h.da.below hb
   db:=h.db.below hb
   res:=h.res.below hb
   mak:=h.mak.below hb
   map:=h.map.below hb
   row:=h.row.below hb
   o6:=Nat.le_trans h.o6 hb.size
   bw:=ab h.bw hb h.bw.size }
theorem CU {d:DA}{s:Nat}(h:s<d.ac.length):d.ac[s]=d.acc s:=by
 unfold DA.acc
 rw[List.getD_eq_getElem?_getD,List.getElem?_eq_getElem h];rfl
theorem pc.made {w0 w w':World}{da db:DA}{aa ba ca ea x y t x' y':Option Addr}{an ac bn bc cn cc en ec k3 k4 k6 k38 k44 B xn xc yn yc tn tc xn' xc' yn' yc':Nat}{ps:List Pr}{d d':DA}
   (h:pc w0 da db aa an ac ba bn bc ca cn cc ea en ec k3 k4 k6 k38 k44 B x xn xc y yn yc t tn tc ps d w) (hM:Mk w' k38 x' xn' xc' y' yn' yc' d') (hc:Chg (jk k38 x y) w w') (f1:lN w x x') (f2:lN w y y'):
   pc w0 da db aa an ac ba bn bc ca cn cc ea en ec k3 k4 k6 k38 k44 B x' xn' xc' y' yn' yc' t tn tc ps d' w':=by
 have p1:=h.o1
 have p2:=h.o2
 have p3:=h.o3
 have p4:=h.o4
 have p5:=h.o5
 have p6:=h.o6
 have p7:=h.o7
 have out:∀k:Nat,k<k38\/k=k44->k ∉ jk k38 x y:=λk hk hm=>by
   rcases cr.1 hm with e|e|e
   · omega
   · have:=h.fx k e;omega
   · have:=h.fy k e;omega
 have hsz:=hc.size
 exact
   { da:=hc.arr h.da (out _ (by omega))
     db:=hc.arr h.db (out _ (by omega))
     res:=hc.arr h.res (out _ (by omega))
     mak:=hM
     map:=h.map.keep (hc.block _ h.map.lt (out _ (by omega)))
     row:=h.row.chg hc λg hg hm=>by
       rcases cr.1 hm with e|e|e
       · have:=h.ft g hg;omega
       · exact(h.tx g hg).1 e
       · exact(h.tx g hg).2 e
     o1:=p1,o2:=p2,o3:=p3,o4:=p4,o5:=p5,o6:=by omega,o7:=p7
     fx:=lN.fresh f1 h.fx p6
     fy:=lN.fresh f2 h.fy p6
     ft:=h.ft
     tx:=λg hg=>⟨λe=>by
       rcases f1 g e with e2|e2
       · exact(h.tx g hg).1 e2
       · have:=h.row.lt g hg;omega,λe=>by
       rcases f2 g e with e2|e2
       · exact(h.tx g hg).2 e2
       · have:=h.row.lt g hg;omega⟩
     bw:=h.bw.trans (hc.below h.bw.size λk hk=>by
       rcases cr.1 hk with e|e|e
       · omega
       · have:=h.fx k e;omega
       · have:=h.fy k e;omega) }
theorem pc.more {w0 w w':World}{da db:DA}{aa ba ca ea x y t t':Option Addr}{an ac bn bc cn cc en ec k3 k4 k6 k38 k44 B xn xc yn yc tn tc tn' tc':Nat}{ps ps':List Pr}{d:DA}
   (h:pc w0 da db aa an ac ba bn bc ca cn cc ea en ec k3 k4 k6 k38 k44 B x xn xc y yn yc t tn tc ps d w) (hM:uZ ekP evN w' k44 ps'.zipIdx) (hR:Ow tP aK w' NoB t' tn' tc' (ps'.map zT)) (hc:Chg (k44::(bu t).toList) w w') (f:lN w t t'):
   pc w0 da db aa an ac ba bn bc ca cn cc ea en ec k3 k4 k6 k38 k44 B x xn xc y yn yc t' tn' tc' ps' d w':=by
 have p1:=h.o1
 have p2:=h.o2
 have p3:=h.o3
 have p4:=h.o4
 have p5:=h.o5
 have p6:=h.o6
 have p7:=h.o7
 have mem:∀k:Nat,k∈k44::(bu t).toList->k=k44\/bu t=some k:=λk hk=>by
   rcases List.mem_cons.1 hk with e|e
   · exact .inl e
   · exact .inr (by simpa using e)
 have out:∀k:Nat,k<k44->k ∉ k44::(bu t).toList:=λk hk hm=>by
   rcases mem k hm with e|e
   · omega
   · have:=h.ft k e;omega
 have hsz:=hc.size
 have rowx:∀g,bu x=some g->g ∉ k44::(bu t).toList:=λg hg hm=>by
   rcases mem g hm with e|e
   · have:=h.fx g hg;omega
   · exact(h.tx g e).1 hg
 have rowy:∀g,bu y=some g->g ∉ k44::(bu t).toList:=λg hg hm=>by
   rcases mem g hm with e|e
   · have:=h.fy g hg;omega
   · exact(h.tx g e).2 hg
 exact
   { da:=hc.arr h.da (out _ (by omega))
     db:=hc.arr h.db (out _ (by omega))
     res:=hc.arr h.res (out _ (by omega))
     mak:=⟨hc.arr h.mak.var (out _ p4),h.mak.nx.chg hc rowx,h.mak.ac.chg hc rowy,h.mak.na,h.mak.nb,h.mak.ne⟩
     map:=hM
     row:=hR
     o1:=p1,o2:=p2,o3:=p3,o4:=p4,o5:=p5,o6:=by omega,o7:=p7
     fx:=h.fx
     fy:=h.fy
     ft:=lN.fresh f h.ft p6
     tx:=λg hg=>⟨λe=>by
       rcases f g hg with e2|e2
       · exact(h.tx g e2).1 e
       · have:=h.mak.nx.lt g e;omega,λe=>by
       rcases f g hg with e2|e2
       · exact(h.tx g e2).2 e
       · have:=h.mak.ac.lt g e;omega⟩
     bw:=h.bw.trans (hc.below h.bw.size λk hk=>by
       rcases mem k hk with e|e
       · omega
       · have:=h.ft k e;omega) }
def kw (da db:DA):Bool:=okD da&&(okD db&&(da.k==db.k))
def FO (w:World)(v:Value)(w':World):Prop:=v=.tuple #[daV none 0 0 none 0 0 d0,vI 151]/\bW w w'
def ni (da db:DA)(w:World)(v:Value)(w':World):Prop:=if kw da db=true then ∃d ps,gF da db (λx y=>x&&y) d ps/\sq w d v w' else FO w v w'
theorem ni.yes {da db:DA}{w w':World}{v:Value}(h:kw da db=true)(k:∃d ps,gF da db (λx y=>x&&y) d ps/\sq w d v w'):ni da db w v w':=by
 unfold ni
 rw[if_pos h];exact k
theorem ni.no {da db:DA}{w w':World}{v:Value}(h:kw da db=false)(k:FO w v w'):ni da db w v w':=by
 unfold ni
 rw[if_neg (by rw[h];simp)];exact k
theorem qZ {s x k N:Nat}(hs:s<N)(hx:x<k)(hN:N <=65536)(hk:k <=512):i64.wrap (i64.wrap (((s:Nat):Int)*((k:Nat):Int))+((x:Nat):Int))=((s*k+x:Nat):Int)/\s*k+x<N*k:=by
 have h1:=nM hs hx
 have h2:N*k <=65536*512:=Nat.mul_le_mul hN hk
 rw[show((s:Nat):Int)*((k:Nat):Int)=((s*k:Nat):Int) from(Int.natCast_mul _ _).symm,wrap_i64 (n:=((s*k:Nat):Int)) (by omega) (by omega),wrap_i64 (by omega) (by omega)]
 exact⟨by omega,h1⟩
theorem Fx {w:World}{aa ba ca ea:Option Addr}{an ac bn bc cn cc en ec:Nat}{da db:DA}(hA:DaS w aa an ac ba bn bc da)(hB:DaS w ca cn cc ea en ec db)(hf:da.Ok->db.Ok->da.k=db.k->Few da db):
   Cf lV #[daV aa an ac ba bn bc da,daV ca cn cc ea en ec db,.func (.func eI) #[] #[]] w
     (Ret (ni da db w)):=by
 apply j5
 intro k3 w3 hk3 hw3 k4 w4 hk4 hw4 k6 w6 hk6 hw6
 have b3:=(hw3▸af w _:bW w w3)
 have b4:=(hw4▸af w3 _:bW w3 w4)
 have b6:=(hw6▸af w4 _:bW w4 w6)
 have A3':ak w3 k3 ai (daL aa an ac ba bn bc da):=ak.new hk3 hw3
 have A4':ak w4 k4 ai (daL ca cn cc ea en ec db):=ak.new hk4 hw4
 have A6:ak w6 k6 ai [vI 0,vI 0,.slice none 0 0,.slice none 0 0]:=ak.new hk6 hw6
 have l3:=A3'.lt
 have l4:=A4'.lt
 have A3:=(A3'.below b4).below b6
 have A4:=A4'.below b6
 have B6:bW w w6:=ab (ab b3 b4 b3.size) b6 (Nat.le_trans b3.size b4.size)
 have o34:k3<k4:=by omega
 have o46:k4<k6:=by omega
 have o3:w.heap.size <=k3:=by omega
 clear b3 b4 b6 hw3 hw4 hw6 A3' A4' l3 l4 hk3 hk4 hk6
 refine⟨λw'=>kw da db=true/\bW w6 w',⟨λb w'=>b= !kw da db/\bW w6 w',?_,λb=>aE.of ?_ _⟩,aE.of ?_ _⟩
 · refine⟨_,_,aa,an,ac,ba,bn,bc,cg.load0 (cs:=daL aa an ac ba bn bc da) A3 rfl,?_⟩
   refine av (ky (hA.below B6)) ?_
   rintro _ w19 ⟨rfl,b19⟩
   refine⟨_,rfl,ae.of (λh=>?_) (λh=>?_)⟩
   · refine⟨?_,b19⟩
     unfold kw
     have:okD da=false:=by simpa using h
     rw[this];rfl
   have ha:okD da=true:=by simpa using h
   refine⟨_,_,ca,cn,cc,ea,en,ec,cg.load0 (cs:=daL ca cn cc ea en ec db) (A4.below b19) rfl,?_⟩
   refine av (ky ((hB.below B6).below b19)) ?_
   rintro _ w23 ⟨rfl,b23⟩
   have B23:=ab b19 b23 b19.size
   refine⟨_,rfl,ae.of (λh=>?_) (λh=>?_)⟩
   · refine⟨?_,B23⟩
     unfold kw
     have:okD db=false:=by simpa using h
     rw[this,ha];rfl
   have hb:okD db=true:=by simpa using h
   refine⟨rfl,_,(A3.below B23).load1 aI rfl rfl,rfl,_,(A4.below B23).load1 aI rfl rfl,?_,B23⟩
   unfold kw
   rw[ha,hb]
   rfl
 · rintro wj ⟨rfl,bj⟩
   refine ae.of (λh=>?_) (λh=>⟨by simpa using h,bj⟩)
   obtain⟨wx,s1,s2,g1⟩:=dU (A6.below bj) rfl none 0 0 none 0 0 d0
   exact⟨wx,s1,_,_,none,0,0,none,0,0,s2,ni.no (by simpa using h) ⟨rfl,Below.put (ab B6 bj B6.size) g1 (by omega)⟩⟩
 rintro wj ⟨hok,bj⟩
 obtain⟨oa,ob,hk⟩:da.Ok/\db.Ok/\da.k=db.k:=by
   unfold kw at hok
   rw[Bool.and_eq_true,Bool.and_eq_true,beq_iff_eq]at hok
   exact⟨fG.1 hok.1,fG.1 hok.2.1,hok.2.2⟩
 have few:=hf oa ob hk
 have hK1:1 <=da.K/\da.K <=512:=by have:=oa.k1;have:=oa.k2;show 1 <=da.k.toNat/\da.k.toNat <=512;omega
 have hKa:=oa.kk
 have hKb:db.k=((da.K:Nat):Int):=by rw[hKa,hk]
 have hbK:db.K=da.K:=by unfold DA.K;rw[hk]
 have Bj:=ab B6 bj B6.size
 have A3j:=A3.below bj
 have A4j:=A4.below bj
 have A6j:=A6.below bj
 clear A3 A4 A6 bj B6
 refine⟨rfl,_,A3j.load1 aI rfl rfl,?_⟩
 intro k38 w38 hk38 hw38
 have b38:=(hw38▸af wj _:bW wj w38)
 have o6:k6<k38:=by have:=A6j.lt;omega
 have M38:Mk w38 k38 none 0 0 none 0 0 ⟨da.k,0,[],[]⟩:=⟨ak.new hk38 hw38,Ow.nil _ _ _ _,Ow.nil _ _ _ _,(λg hg=>by cases hg),(λg hg=>by cases hg),λg hg=>by cases hg⟩
 refine⟨rfl,_,(A3j.below b38).load1 aI rfl rfl,rfl,_,(A4j.below b38).load1 aI rfl rfl,?_⟩
 intro k9 w9 hk9 hw9
 have b9:=(hw9▸af w38 _:bW w38 w9)
 have es:da.st=((da.s:Nat):Int):=by have:=oa.s0;show da.st=((da.st.toNat:Nat):Int);omega
 have es':db.st=((db.s:Nat):Int):=by have:=ob.s0;show db.st=((db.st.toNat:Nat):Int);omega
 obtain⟨wx1,s1,P1,g1⟩:=oN.store0 (P:=prog) (cs:=[vI da.st,vI db.st]) rfl (aN rfl (aN rfl hQ)) (ak.new hk9 hw9:ak w9 k9 aK [vI 0,vI 0]) rfl
 refine⟨wx1,s1,?_⟩
 have bx1:bW w38 wx1:=Below.put b9 g1 (by omega)
 intro k44 w44 hk44 hw44
 have b44:=(hw44▸af wx1 _:bW wx1 w44)
 have o9:k38<k44:=by have:=M38.var.lt;have:=bx1.size;omega
 have o944:k9<k44:=by have:=P1.lt;omega
 refine⟨_,_,oN.load0 (cs:=[vI da.st,vI db.st]) (P1.below b44) rfl,?_⟩
 obtain⟨wx2,s2,Mp,g2⟩:=(uZ.new (ek:=ekP) (ev:=evN) hk44 hw44).put (P:=prog) gE Ap (k:=(da.s,db.s)) rfl 0
 rw[es,es']
 refine⟨wx2,s2,?_⟩
 have P2:ak wx2 k9 aK [vI da.st,vI db.st]:=(P1.below b44).grown g2 (gM (by omega))
 rw[es,es']at P2
 refine⟨_,_,oN.load0 (cs:=[vI ((da.s:Nat):Int),vI ((db.s:Nat):Int)]) P2 rfl,?_⟩
 intro k48 w48 hk48 hw48
 have b48:=(hw48▸af wx2 _:bW wx2 w48)
 have b2:bW wx1 wx2:=Below.put b44 g2 (by omega)
 have bx2:bW w38 w48:=ab (ab bx1 b2 bx1.size) b48 (Nat.le_trans bx1.size b2.size)
 have bB:bW wj w48:=ab b38 bx2 b38.size
 have lm:=Mp.lt
 have R0:Ow tP aK w48 NoB (some ⟨k48,0,none⟩) 1 1 ([(da.s,db.s)].map zT):=by
   have:=Ow.newF (A:=NoB) z6 (t:=aK) (l:=prC (zT (da.s,db.s))) (xs:=[zT (da.s,db.s)]) hk48 hw48 (gy.one rfl) (by show 1 <=9223372036854775807;omega)
   exact this
 have S0:pc w da db aa an ac ba bn bc ca cn cc ea en ec k3 k4 k6 k38 k44 k48 none 0 0 none 0 0 (some ⟨k48,0,none⟩) 1 1 [(da.s,db.s)] ⟨da.k,0,[],[]⟩ w48:=
   { da:=A3j.below bB
     db:=A4j.below bB
     res:=A6j.below bB
     mak:=M38.below bx2
     map:=Mp.below b48
     row:=R0
     o1:=o34,o2:=o46,o3:=o6,o4:=o9,o5:=by omega
     o6:=by rw[hw48];simp;omega
     o7:=o3
     fx:=bp.none _
     fy:=bp.none _
     ft:=λg hg=>by simp[bu]at hg;omega
     tx:=λg hg=>⟨(λh=>by cases h),(λh=>by cases h)⟩
     bw:=ab Bj bB Bj.size }
 have I0:Bn da db (λx y=>x&&y) [(da.s,db.s)] [] [] 0 0:=Bn.start oa ob
 clear A3j A4j A6j M38 P1 P2 Mp R0 bB bx2 b48 b2 b44 bx1 b9 b38 Bj
 refine⟨λm ta tn tc wl=>∃(ps:List Pr) (nx:List Int) (acs:List Bool) (x:Option Addr) (xn xc:Nat) (y:Option Addr) (yn yc:Nat),m=65536-acs.length/\
   Bn da db (λx y=>x&&y) ps acs nx acs.length 0/\pc w da db aa an ac ba bn bc ca cn cc ea en ec k3 k4 k6 k38 k44 k48 x xn xc y yn yc ta tn tc ps ⟨da.k,0,nx,acs⟩ wl,
   ⟨_,[(da.s,db.s)],[],[],none,0,0,none,0,0,rfl,I0,S0⟩,?_⟩
 clear S0 I0
 intro m ta tn tc
 refine aE.of ?_ _
 rintro wl ⟨ps,nx,acs,x,xn,xc,y,yn,yc,rfl,PI,S⟩
 have hyn:=S.mak.ac.len
 have htn:=S.row.len
 rw[List.length_map]at htn
 have hps:=few ps PI.nd PI.reach
 have hacs:yn=acs.length:=hyn
 refine⟨rfl,rfl,rfl,y,yn,yc,S.mak.var.load1 bf rfl rfl,ae.of (λh=>?_) (λh=>?_)⟩ <;> simp only[dTx,dFx]at h
 · have hi:acs.length<ps.length:=by omega
   have hi':acs.length<(ps.map zT).length:=by rw[List.length_map];exact hi
   obtain⟨p,hp⟩:∃p,ps[acs.length]? =some p:=⟨_,List.getElem?_eq_getElem hi⟩
   have hpe:ps[acs.length]=p:=(List.getElem?_eq_some_iff.1 hp).2
   have hpin:=PI.inn p (List.mem_of_getElem? hp)
   have ldp:(Instr.loadAt aK (.pointer (am ta ((yn:Nat):Int) 2))).run prog wl=.ok (.agg #[vI ((p.1:Nat):Int),vI ((p.2:Nat):Int)]) wl:=by
     have:=S.row.all.pair oN hi'
     rw[List.getElem_map,hpe,<- hacs]at this
     exact this
   refine⟨rfl,rfl,rfl,y,yn,yc,S.mak.var.load1 bf rfl rfl,⟨⟨by omega,by omega⟩,S.row.all.isSome hi'⟩,_,_,ldp,?_⟩
   intro k12 w12 hk12 hw12
   have b12:=(hw12▸af wl _:bW wl w12)
   obtain⟨wx3,s3,P12,g3⟩:=oN.store0 (P:=prog) (cs:=[vI ((p.1:Nat):Int),vI ((p.2:Nat):Int)]) rfl (aN rfl (aN rfl hQ)) (ak.new hk12 hw12:ak w12 k12 aK [vI 0,vI 0]) rfl
   have bx3:bW wl wx3:=Below.put b12 g3 (by omega)
   have S3:=S.below bx3
   have hk12B:k48 <=k12:=by have:=S.o6;omega
   have h12t:∀g,bu ta=some g->g≠k12:=λg hg=>by have:=S.row.lt g hg;omega
   have h12x:∀g,bu x=some g->g≠k12:=λg hg=>by have:=S.mak.nx.lt g hg;omega
   have h12y:∀g,bu y=some g->g≠k12:=λg hg=>by have:=S.mak.ac.lt g hg;omega
   have h12m:k38≠k12/\k44≠k12:=by have:=S.mak.var.lt;have:=S.map.lt;omega
   refine⟨wx3,s3,⟨λs w'=>s=((acs.length:Nat):Int)/\∃(x:Option Addr) (xn xc:Nat) (y:Option Addr) (yn yc:Nat),pc w da db aa an ac ba bn bc ca cn cc ea en ec k3 k4 k6 k38 k44 k48 x xn xc y yn yc ta tn tc ps ⟨da.k,0,nx++List.replicate da.K 0,acs++[da.acc p.1&&db.acc p.2]⟩ w'/\ak w' k12 aK [vI ((p.1:Nat):Int),vI ((p.2:Nat):Int)]/\(∀g,bu x=some g->g≠k12)/\(∀g,bu y=some g->g≠k12),?_,λsN=>aE.of ?_ _⟩⟩
   · have dA:=fun{u:World} (hu:bW wx3 u)=>(hA.below (ab S3.bw hu S3.bw.size)).ac
     have dB:=fun{u:World} (hu:bW wx3 u)=>(hB.below (ab S3.bw hu S3.bw.size)).ac
     have la:=(dA (Below.refl _ _)).len
     have lb:=(dB (Below.refl _ _)).len
     have p1:p.1<da.ac.length:=hpin.1
     have p2:p.2<db.ac.length:=hpin.2
     refine⟨rfl,rfl,rfl,rfl,ba,bn,bc,λu hu=>(S3.da.below hu).load1 bf rfl rfl,_,λu hu=>(P12.below hu).load1 aI rfl rfl,⟨⟨by omega,by omega⟩,(dA (Below.refl _ _)).isSome p1⟩,_,λu hu=>(dA hu).tru di p1,
       ea,en,ec,λu hu=>(S3.db.below hu).load1 bf rfl rfl,_,λu hu=>(P12.below hu).load1 aI rfl rfl,⟨⟨by omega,by omega⟩,(dB (Below.refl _ _)).isSome p2⟩,_,λu hu=>(dB hu).tru di p2,λwq hq=>?_⟩
     rw[CU p1,CU p2]
     refine av (EN _ _ wq) ?_
     rintro _ w81 ⟨rfl,e81⟩
     rw[e81];clear e81 w81
     refine⟨_,rfl,?_⟩
     have S4:=S3.below hq
     have hnx:=PI.len
     have hmul:acs.length*da.K <=65536*512:=Nat.mul_le_mul (by omega) hK1.2
     refine av (uW S4.mak (by show(1:Int) <=da.k;exact oa.k1) (by show da.k <=512;exact oa.k2) (by show acs.length <=200000;omega) (by show nx.length <=_;omega) (da.acc p.1&&db.acc p.2) 0) ?_
     rintro _ w82 ⟨rfl,x',xn',xc',y',yn',yc',M',hc,f1,f2⟩
     refine⟨_,rfl,rfl,x',xn',xc',y',yn',yc',S4.made M' hc f1 f2,hc.arr (P12.below hq) λhm=>?_,λg hg=>?_,λg hg=>?_⟩
     · rcases cr.1 hm with e|e|e
       · exact h12m.1 e.symm
       · exact h12x k12 e rfl
       · exact h12y k12 e rfl
     · rcases f1 g hg with e|e
       · exact h12x g e
       · have:=P12.lt;have:=hq.size;omega
     · rcases f2 g hg with e|e
       · exact h12y g e
       · have:=P12.lt;have:=hq.size;omega
   rintro wj2 ⟨rfl,x2,xn2,xc2,y2,yn2,yc2,S2,P2,n2x,n2y⟩
   have PI2:=PI.state rfl hp
   have hal:(acs++[da.acc p.1&&db.acc p.2]).length=acs.length+1:=by simp
   generalize hacs':acs++[da.acc p.1&&db.acc p.2]=acs' at*
   refine⟨rfl,((da.K:Nat):Int),by rw[hKa];exact S2.da.load1 aI rfl rfl,?_⟩
   refine⟨λm ta tn tc xx wl=>∃(j:Nat) (ps:List Pr) (nx:List Int) (x:Option Addr) (xn xc:Nat) (y:Option Addr) (yn yc:Nat),xx=(j:Int)/\j <=da.K/\m=da.K-j/\Bn da db (λx y=>x&&y) ps acs' nx acs.length j/\ps[acs.length]? =some p/\
     pc w da db aa an ac ba bn bc ca cn cc ea en ec k3 k4 k6 k38 k44 k48 x xn xc y yn yc ta tn tc ps ⟨da.k,0,nx,acs'⟩ wl/\ak wl k12 aK [vI ((p.1:Nat):Int),vI ((p.2:Nat):Int)]/\(∀g,bu x=some g->g≠k12)/\(∀g,bu y=some g->g≠k12)/\(∀g,bu ta=some g->g≠k12),
     ⟨_,0,ps,_,x2,xn2,xc2,y2,yn2,yc2,rfl,Nat.zero_le _,rfl,PI2,hp,S2,P2,n2x,n2y,h12t⟩,?_⟩
   clear PI2 S2 P2 n2x n2y
   intro m1 ta1 tn1 tc1 xx
   refine aE.of ?_ _
   rintro wl1 ⟨j,ps1,nx1,x1,xn1,xc1,y1,yn1,yc1,rfl,hj,rfl,Q,hp1,S1,P1,n1x,n1y,n1t⟩
   have htn1:=S1.row.len
   rw[List.length_map]at htn1
   have hps1:=few ps1 Q.nd Q.reach
   refine ae.of (λh5=>?_) (λh5=>?_) <;> simp only[dTx,dFx]at h5
   · have hjK:j<da.K:=by omega
     have ia:=qZ hpin.1 hjK oa.n2 hK1.2
     have ib:=qZ hpin.2 hjK ob.n2 hK1.2
     obtain⟨va,va1,va2,va3,va4⟩:=oa.at hpin.1 hjK
     obtain⟨vb,vb1,vb2,vb3,vb4⟩:=ob.at hpin.2 (by rw[hbK];exact hjK)
     rw[hbK]at vb1
     have dA:=fun{u:World} (hu:bW wl1 u)=>(hA.below (ab S1.bw hu S1.bw.size)).nx
     have dB:=fun{u:World} (hu:bW wl1 u)=>(hB.below (ab S1.bw hu S1.bw.size)).nx
     have la:=(dA (Below.refl _ _)).len
     have lb:=(dB (Below.refl _ _)).len
     have ga:p.1*da.K+j<da.nx.length:=jg va1
     have gb:p.2*da.K+j<db.nx.length:=jg vb1
     have ea':da.nx[p.1*da.K+j]=((da.to p.1 j:Nat):Int):=by
       rw[List.getElem?_eq_getElem ga]at va1
       rw[Option.some.inj va1,va4];omega
     have eb':db.nx[p.2*da.K+j]=((db.to p.2 j:Nat):Int):=by
       rw[List.getElem?_eq_getElem gb]at vb1
       rw[Option.some.inj vb1,vb4];omega
     refine⟨rfl,rfl,rfl,rfl,rfl,rfl,aa,an,ac,λu hu=>(S1.da.below hu).load1 bm rfl rfl,((p.1:Nat):Int),λu hu=>(P1.below hu).load1 aI rfl rfl,((da.K:Nat):Int),λu hu=>by rw[hKa];exact(S1.da.below hu).load1 aI rfl rfl,?_⟩
     rw[ia.1]
     refine⟨⟨⟨by omega,by omega⟩,(dA (Below.refl _ _)).isSome ga⟩,((da.to p.1 j:Nat):Int),λu hu=>by rw[<- ea'];exact(dA hu).num aI ga,ca,cn,cc,λu hu=>(S1.db.below hu).load1 bm rfl rfl,((p.2:Nat):Int),λu hu=>(P1.below hu).load1 aI rfl rfl,((da.K:Nat):Int),λu hu=>by rw[<- hKb];exact(S1.db.below hu).load1 aI rfl rfl,?_⟩
     rw[ib.1]
     refine⟨⟨⟨by omega,by omega⟩,(dB (Below.refl _ _)).isSome gb⟩,((db.to p.2 j:Nat):Int),λu hu=>by rw[<- eb'];exact(dB hu).num aI gb,λk15 hk15 wq hq hcell=>?_⟩
     obtain⟨q,hq'⟩:∃q,q=toP da db p j:=⟨_,rfl⟩
     have q1:da.to p.1 j=q.1:=by rw[hq'];rfl
     have q2:db.to p.2 j=q.2:=by rw[hq'];rfl
     rw[q1,q2]
     have Z15:ak wq k15 aK [vI 0,vI 0]:=hcell
     obtain⟨wx4,s4,P15,g4⟩:=oN.store0 (P:=prog) (cs:=[vI ((q.1:Nat):Int),vI ((q.2:Nat):Int)]) rfl (aN rfl (aN rfl hQ)) Z15 rfl
     have b4:bW wl1 wx4:=Below.put hq g4 hk15
     have S4:=S1.below b4
     have P4:=P1.below b4
     have lq:=oN.load0 (P:=prog) (cs:=[vI ((q.1:Nat):Int),vI ((q.2:Nat):Int)]) P15 rfl
     have look:=S4.map.look2 (P:=prog) gE Ap ij q
     have lz:=Er q ps1 0
     have t15:∀g,bu ta1=some g->g≠k15:=λg hg=>by have:=S1.row.lt g hg;omega
     have k1215:k12≠k15:=by have:=P1.lt;omega
     have fin:∀(ps':List Pr) (t:Nat) (ta2:Option Addr) (tn2 tc2:Nat) (W:World),(ps'=ps1\/ps'=ps1++[q]/\q ∉ ps1)->ps'[t]? =some q->pc w da db aa an ac ba bn bc ca cn cc ea en ec k3 k4 k6 k38 k44 k48 x1 xn1 xc1 y1 yn1 yc1 ta2 tn2 tc2 ps' ⟨da.k,0,nx1,acs'⟩ W->
         ak W k12 aK [vI ((p.1:Nat):Int),vI ((p.2:Nat):Int)]->(∀g,bu ta2=some g->g≠k12)->
         (∀wq_2:World,bW W wq_2->∃(wx_6:World),(Instr.storeAt ay (.pointer (am x1 ((acs.length*da.K+j:Nat):Int) 1)) (vI ((t:Nat):Int))).run prog wq_2=.ok () wx_6/\
           ∃nx2,Bn da db (λx y=>x&&y) ps' acs' nx2 acs.length (j+1)/\ps'[acs.length]? =some p/\pc w da db aa an ac ba bn bc ca cn cc ea en ec k3 k4 k6 k38 k44 k48 x1 xn1 xc1 y1 yn1 yc1 ta2 tn2 tc2 ps' ⟨da.k,0,nx2,acs'⟩ wx_6/\ak wx_6 k12 aK [vI ((p.1:Nat):Int),vI ((p.2:Nat):Int)]):=by
       intro ps' t ta2 tn2 tc2 W hps' ht SW PW ntW wq2 hq2
       have S6:=SW.below hq2
       have hnl:nx1.length=(acs.length+1)*da.K:=by rw[Q.len,hal]
       have hidx:acs.length*da.K+j<nx1.length:=by rw[hnl];exact nM (Nat.lt_succ_self _) hjK
       obtain⟨wx6,s6,o6,g6⟩:=S6.mak.nx.store ij (λ_ _ h=>h) (i:=((acs.length*da.K+j:Nat):Int)) (by rw[Int.toNat_natCast];exact hidx) (k:=1) rfl (v:=vI ((t:Nat):Int)) (x:=((t:Nat):Int)) eX
       rw[Int.toNat_natCast]at o6
       have hc6:Chg (jk k38 x1 y1) wq2 wx6:=(Chg.row g6).mono λk hk=>cr.2 (.inr (.inl (by simpa using hk)))
       refine⟨wx6,s6,nx1.set (acs.length*da.K+j) ((t:Nat):Int),Q.put oa ob hk hal hjK hp1 (by rw[<- hq'];exact hps') (by rw[<- hq'];exact ht),?_,?_,hc6.arr (PW.below hq2) λhm=>?_⟩
       · rcases hps' with e|⟨e,_⟩
         · rw[e];exact hp1
         · rw[e,List.getElem?_append_left (jg hp1)];exact hp1
       · refine S6.made (x':=x1) (xn':=xn1) (xc':=xc1) (y':=y1) (yn':=yn1) (yc':=yc1) ⟨?_,o6,?_,S6.mak.na,S6.mak.nb,S6.mak.ne⟩ hc6 (λg hg=>.inl hg) (λg hg=>.inl hg)
         · exact S6.mak.var.grown g6 λex=>S6.mak.na k38 ex.symm rfl
         · exact S6.mak.ac.other g6 λg hg ex=>S6.mak.ne g ex hg
       · rcases cr.1 hm with e|e|e
         · exact h12m.1 e.symm
         · exact n1x k12 e rfl
         · exact n1y k12 e rfl
     have iw:=qZ (s:=acs.length) (x:=j) (k:=da.K) (N:=65536) (by omega) hjK (Nat.le_refl _) hK1.2
     obtain⟨n0,b0,look',hyes,hno⟩:∃(n0:Int) (b0:Bool),(Instr.lookup dp (.map (some k44)) (ekP q) true).run prog wx4=.ok (.tuple #[vI n0,.bool b0]) wx4/\(b0=true->∃t:Nat,n0=(t:Int)/\ps1[t]? =some q)/\(b0=false->uk q ps1.zipIdx=none):=by
       cases hlk:uk q ps1.zipIdx with
       | none=>
         rw[hlk]at look
         exact⟨0,false,look,(λh=>by cases h),λ_=>rfl⟩
       | some t=>
         rw[hlk]at look
         have:=(lz.1 t hlk).2
         exact⟨((t:Nat):Int),true,look,(λ_=>⟨t,rfl,this⟩),λh=>by cases h⟩
     refine⟨wx4,s4,_,_,lq,n0,b0,look',⟨λa l c n w'=>∃(ps':List Pr) (t:Nat),n=((t:Nat):Int)/\(ps'=ps1\/ps'=ps1++[q]/\q ∉ ps1)/\ps'[t]? =some q/\
         pc w da db aa an ac ba bn bc ca cn cc ea en ec k3 k4 k6 k38 k44 k48 x1 xn1 xc1 y1 yn1 yc1 a l c ps' ⟨da.k,0,nx1,acs'⟩ w'/\ak w' k12 aK [vI ((p.1:Nat):Int),vI ((p.2:Nat):Int)]/\(∀g,bu a=some g->g≠k12),?_,λa2 l2 c2 n16=>aE.of ?_ _⟩⟩
     · refine ae.of (λhb=>?_) (λhb=>?_)
       · have hb0:b0=false:=by simpa using hb
         have hnone:=hno hb0
         have hnm:=lz.2 hnone
         obtain⟨wx5,s5,M5,g5⟩:=S4.map.put (P:=prog) gE Ap hnone ps1.length
         have k4415:k44<k15:=by have:=S1.map.lt;omega
         have P15':=P15.grown g5 (gM (by omega))
         refine⟨_,_,lq,wx5,by rw[htn1];exact s5,_,_,oN.load0 (P:=prog) (cs:=[vI ((q.1:Nat):Int),vI ((q.2:Nat):Int)]) P15' rfl,?_⟩
         intro k126 w126 hk126 hw126
         have b126:=(hw126▸af wx5 _:bW wx5 w126)
         have row5:Ow tP aK wx5 NoB ta1 tn1 tc1 (ps1.map zT):=S4.row.put (λg hg e=>by have:=S4.ft g hg;have:=S4.o5;omega) g5
         have hsrc:Src tP w126 NoB (some ⟨k126,0,none⟩) 1 [zT q]:=Src.new1F z6 (vs:=prC (zT q)) hk126 hw126 rfl
         obtain⟨w127,a7,n7,c7,r7,o7,g7,f7⟩:=co (ty:=gT) yP xt (by decide) (row5.below b126) (λ_ _ h=>h) (cm:=1) hsrc (by rw[List.length_map,List.length_singleton];omega)
         have hc7:Chg (k44::(bu ta1).toList) wx4 w127:=((Chg.grown g5 List.mem_cons_self).trans (Chg.of b126)).trans ((Chg.row g7).mono λk hk=>List.mem_cons_of_mem _ hk)
         have sz5:wx4.heap.size <=w126.heap.size:=Nat.le_trans g5.size b126.size
         have f7':lN wx4 ta1 a7:=λg hg=>by
           rcases f7 g hg with e|e
           · exact .inl e
           · exact .inr (by omega)
         have M7:uZ ekP evN w127 k44 (ps1++[q]).zipIdx:=by
           rw[I6]
           refine((M5.below b126).keep (g7.block _ (M5.below b126).lt λe=>?_))
           have:=S4.ft k44 e.symm
           have:=S4.o5
           omega
         refine⟨w127,a7,n7,c7,r7,ps1++[q],ps1.length,by rw[htn1],.inr ⟨rfl,hnm⟩,by simp,S4.more M7 (by rw[List.map_append];exact o7) hc7 f7',hc7.arr P4 λhm=>?_,λg hg=>?_⟩
         · rcases List.mem_cons.1 hm with e|e
           · exact h12m.2 e.symm
           · exact n1t k12 (by simpa using e) rfl
         · rcases f7' g hg with e|e
           · exact n1t g e
           · have:=P4.lt;omega
       · have hb0:b0=true:=by simpa using hb
         obtain⟨t,et,ht⟩:=hyes hb0
         exact⟨ps1,t,et,.inl rfl,ht,S4,P4,n1t⟩
     · rintro W ⟨ps',t,rfl,hps',ht,SW,PW,ntW⟩
       have hxn:=SW.mak.nx.len
       have hnl:nx1.length=(acs.length+1)*da.K:=by rw[Q.len,hal]
       have hidx:acs.length*da.K+j<nx1.length:=by rw[hnl];exact nM (Nat.lt_succ_self _) hjK
       have hxn':xn1=nx1.length:=hxn
       refine⟨rfl,rfl,rfl,rfl,x1,xn1,xc1,λu hu=>(SW.mak.var.below hu).load1 bm rfl rfl,((da.K:Nat):Int),λu hu=>by rw[hKa];exact(SW.da.below hu).load1 aI rfl rfl,?_⟩
       rw[iw.1]
       refine⟨⟨⟨by omega,by omega⟩,SW.mak.nx.all.isSome hidx⟩,λwq2 hq2=>?_⟩
       obtain⟨wx6,s6,nx2,Q2,hp2,S6,P6⟩:=fin ps' t a2 l2 c2 W hps' ht SW PW ntW wq2 hq2
       exact⟨wx6,s6,da.K-(j+1),by omega,j+1,ps',nx2,x1,xn1,xc1,y1,yn1,yc1,by rw[wrap_i64 (by omega) (by omega)];omega,hjK,rfl,Q2,hp2,S6,P6,n1x,n1y,ntW⟩
   · have hjK:j=da.K:=by omega
     subst hjK
     refine ae.no (decide_eq_false (by omega)) ⟨65536-acs'.length,by omega,ps1,nx1,acs',x1,xn1,xc1,y1,yn1,yc1,rfl,?_,S1⟩
     rw[hal]
     exact Q.row
 · have ld:=cg.load0 (cs:=daL x xn xc y yn yc ⟨da.k,0,nx,acs⟩) S.mak.var rfl
   obtain⟨wx,q1,q2,g1⟩:=dU S.res rfl x xn xc y yn yc ⟨da.k,0,nx,acs⟩
   have O:xN k48 wl x xn xc y yn yc ⟨da.k,0,nx,acs⟩:=⟨S.mak.nx,S.mak.ac,S.mak.ne,S.fx,S.fy⟩
   have p1:=S.o1
   have p2:=S.o2
   have p3:=S.o3
   have p4:=S.o4
   have p5:=S.o5
   have p7:=S.o7
   exact⟨rfl,rfl,_,_,x,xn,xc,y,yn,yc,ld,wx,q1,_,_,x,xn,xc,y,yn,yc,q2,ni.yes hok ⟨_,ps,PI.done rfl (by omega),x,xn,xc,y,yn,yc,rfl,(O.put g1 (by omega)).mono (by omega),Below.put S.bw g1 (by omega)⟩⟩
theorem vn {w:World}{aa ba ca ea:Option Addr}{an ac bn bc cn cc en ec:Nat}{da db:DA}(hA:DaS w aa an ac ba bn bc da)(hB:DaS w ca cn cc ea en ec db)(hf:da.Ok->db.Ok->da.k=db.k->Few da db):
   Cf cF #[daV aa an ac ba bn bc da,daV ca cn cc ea en ec db] w (Ret (ni da db w)):=by
 apply Cr
 intro k2 w2 hk2 hw2 k3 w3 hk3 hw3 k4 w4 hk4 hw4
 have b2:=(hw2▸af w _:bW w w2)
 have b3:=(hw3▸af w2 _:bW w2 w3)
 have b4:=(hw4▸af w3 _:bW w3 w4)
 have A2:ak w2 k2 ai (daL aa an ac ba bn bc da):=ak.new hk2 hw2
 have A3:ak w3 k3 ai (daL ca cn cc ea en ec db):=ak.new hk3 hw3
 have A4:ak w4 k4 ai [vI 0,vI 0,.slice none 0 0,.slice none 0 0]:=ak.new hk4 hw4
 have B4:bW w w4:=ab (ab b2 b3 b2.size) b4 (Nat.le_trans b2.size b3.size)
 have o4:w.heap.size <=k4:=by have:=b2.size;have:=b3.size;omega
 have l4:=A4.lt
 refine⟨_,_,aa,an,ac,ba,bn,bc,cg.load0 (cs:=daL aa an ac ba bn bc da) ((A2.below b3).below b4) rfl,_,_,ca,cn,cc,ea,en,ec,cg.load0 (cs:=daL ca cn cc ea en ec db) (A3.below b4) rfl,?_⟩
 refine av (Fx (hA.below B4) (hB.below B4) hf) ?_
 intro v w8 hP
 by_cases hok:kw da db=true
 · unfold ni at hP
   rw[if_pos hok]at hP
   obtain⟨d,ps,hI,a1,n1,c1,b1,m1,e1,rfl,O,hb⟩:=hP
   obtain⟨wx,s1,s2,g1⟩:=dU (A4.below hb) rfl a1 n1 c1 b1 m1 e1 d
   exact⟨_,_,a1,n1,c1,b1,m1,e1,_,rfl,wx,s1,_,_,a1,n1,c1,b1,m1,e1,s2,ni.yes hok ⟨d,ps,hI,a1,n1,c1,b1,m1,e1,rfl,(O.put g1 l4).mono B4.size,Below.put (ab B4 hb B4.size) g1 o4⟩⟩
 · unfold ni at hP
   rw[if_neg hok]at hP
   obtain⟨rfl,hb⟩:=hP
   obtain⟨wx,s1,s2,g1⟩:=dU (A4.below hb) rfl none 0 0 none 0 0 d0
   exact⟨_,_,none,0,0,none,0,0,_,rfl,wx,s1,_,_,none,0,0,none,0,0,s2,ni.no (by simpa using hok) ⟨rfl,Below.put (ab B4 hb B4.size) g1 o4⟩⟩
def Bq (P:Program)(v:Value)(args:Array Value)(w:World)(R:Ending->World->Prop):Prop:=
 match(match v with
   | .func (.func f) first captured=>if iQ P f then some (f,(first.toList++(args.toList++captured.toList)).toArray)else none
   | _=>none:Option (FuncId×Array Value))with
 | some (f,l)=>Calls P f l w R
 | none=>False
theorem Bq.of {P:Program}{f:FuncId}{args:Array Value}{w:World}{R:Ending->World->Prop}(hc:iQ P f=true)(h:Calls P f args w R):Bq P (.func (.func f) #[] #[]) args w R:=by
 unfold Bq
 show(match(if iQ P f then some (f,_)else none:Option (FuncId×Array Value))with|some (f,l)=>Calls P f l w R|none=>False)
 rw[if_pos hc]
 simpa using h
end Go.Pk
