/- What the laws lean on: HosC, HosF, LefP, ShoA, ShoB, ShoC, ShoD, HosG, PthL, V41; what is used. Its conditions: none. -/
import Derived.Test.YtpafoodmpjlkhaaGreatDoorKG
set_option linter.unusedVariables false
set_option linter.unusedSimpArgs false
set_option linter.unusedSectionVars false
set_option maxRecDepth 100000
open Go.IntKind (i64)
open Go.Proofs.Tryz
open List (length)
open Option (isSome)
namespace Go.Pk
open Go.RowKit (Below)
open Go.Proofs
theorem wh {P:Program}{a b:Tmp}{t u:TypeId}{ρ:Tmp->Value}{w:World}{v v2:Value}(h1:(bE t (ρ a)).run P w=.ok v w)(h2:(bE u (ρ b)).run P w=.ok v2 w):
   (JB #[.cell a t,.cell b u] ρ).run P w=.ok (.tuple #[v,v2]) w:=by
 have e1:zt ρ (.cell a t)=bE t (ρ a):=rfl
 have e2:zt ρ (.cell b u)=bE u (ρ b):=rfl
 unfold JB
 rw[Sem.run_bind,Array.mapM_eq_mapM_toList,Sem.run_map]
 simp only[List.mapM_cons,List.mapM_nil,e1,e2,Sem.run_bind,Sem.run_pure,Result.andThen_ok,h1,h2]
 rfl
section
variable {F:Fence} {n:Nat} {P:Program} {ops:Array Oper} {Q:Exit->Act->World->Prop} {a:Act} {w:World} {rest:List Oper} {o:Oper}
theorem gE (hw:Region.wanted o (yielded ops a.tmps)=false)(hF:∀g,F.fn g)(hK:wpListIn F n P ops Q rest (a.put o.dst undef) w):wpListIn F n P ops Q (o::rest) a w:=by
 simp only[wpListIn,hw]
 exact⟨λf _=>hF f,hK⟩
theorem ig (hw:Region.wanted o (yielded ops a.tmps)=true)(hd:∀c,o.op≠.defer c)(ha:o.about P w a.eval=none){b b':Bool}(hrun:(execOp a.eval o).run P w=.ok (.value (.bool b')) w)(hb:b'=b)(hK:wpListIn F n P ops Q rest (a.put o.dst (.bool b)) w):wpListIn F n P ops Q (o::rest) a w:=by
 subst hb;exact um hw hd ha hrun hK
end
theorem rm {P:Program}{tb:TypeId}{bytes:Nat}{z:Value}(tf:TF P tb 1 bytes z){w:World}{k:Nat}{t:TypeId}{x:Value}(h:ai w k t [x])(b:Bool):∃w',(Instr.storeAt tb (.pointer (some ⟨k,0,none⟩)) (.bool b)).run P w=.ok () w'/\ai w' k t [.bool b]/\w.grownBy w' (some k):=
 h.store tf (i:=0) (v:=.bool b) rfl (by simp) (by intro c hcc;simp[Value.cells]at hcc;subst hcc;rfl)
theorem zA:∀{L:List Txt},(∀x∈L,x.length <=1000)->jt L <=1001*L.length
 | [],_=>by simp[jt]
 | x::L,h=>by
   have h1:=h x List.mem_cons_self
   have h2:=zA (L:=L) λy hy=>h y (List.mem_cons_of_mem _ hy)
   simp only[jt,List.length_cons]
   omega
theorem Hj {L:List Txt}(hl:L.length <=1000)(hx:∀x∈L,x.length <=1000):(Lib.join L [46]).length <=1001000:=by
 cases L with
 | nil=>rw[Lib.join_nil];simp
 | cons x r=>
   have h1:=rn r x
   have h2:=zA hx
   rw[List.length_cons]at hl h2
   omega
section
variable {L t:List Txt} (hL:L=t.reverse)
include hL
theorem sp (hb:(decide (L.length=1)&&L.all iV)=true):cU t=eX (Lib.join L [46]):=by
 subst hL
 rw[Bool.and_eq_true,dTx,List.length_reverse,List.all_reverse]at hb
 unfold cU
 rw[if_pos hb]
 obtain⟨x,rfl⟩:=List.length_eq_one_iff.1 hb.1
 rw[List.reverse_singleton,Lib.join_one];rfl
theorem rx (hb:(decide (L.length=1)&&L.all iV)=false): ¬ (t.length=1/\t.all iV=true):=by
 subst hL
 rintro⟨h1,h2⟩
 rw[List.length_reverse,List.all_reverse,h2,decide_eq_true h1]at hb
 cases hb
theorem Fe (hb:(decide (L.length=1)&&L.all iV)=false)(ha:L.all bD=false):cU t=none:=by
 have:=rx hL hb
 subst hL
 rw[List.all_reverse]at ha
 unfold cU
 rw[if_neg this,ha];rfl
theorem zM (hb:(decide (L.length=1)&&L.all iV)=false)(ha:L.all bD=true){h:Hst}(hv:eX (Lib.join L [46])=some h):cU t=if h.kind=1 then some h else none:=by
 have:=rx hL hb
 subst hL
 rw[List.all_reverse]at ha
 unfold cU
 rw[if_neg this,if_pos ha,hv]
theorem Dx {b:Bool}(hb:b=(decide (L.length=1)&&L.all iV))(hbl:b=true\/L.all bD=true)(hv:eX (Lib.join L [46])=none):cU t=none:=by
 cases b with
 | true=>rw[sp hL hb.symm];exact hv
 | false=>
   have:=rx hL hb.symm
   have ha:=hbl.resolve_left (by simp)
   subst hL
   rw[List.all_reverse]at ha
   unfold cU
   rw[if_neg this,if_pos ha,hv]
end
noncomputable def txs (ts:List Txt)(ws:List Int):List Txt:=ws.map (mO ts)
section
open Go.Pk Go.RowKit Go.Shelf
attribute [local go_sem] Oper.semAt_some
theorem IH (a:Option Addr)(n c:Nat)(w:World):Cf 62 #[.slice a n c] w λe w'=>e=.returned (.func (.func 114) #[] #[.pointer (some ⟨w.heap.size,0,none⟩)])/\w'=w.alloc (.cells #[.slice a n c] aj):=by
 refine(j6 a n c (K:=λv w'=>v=(.func (.func 114) #[] #[.pointer (some ⟨w.heap.size,0,none⟩)])/\w'=w.alloc (.cells #[.slice a n c] aj)) ?_).mono ?_
 · intro k1 w1 hk1 hw1
   subst hk1 hw1
   exact⟨rfl,rfl⟩
 · rintro e w' ⟨v,rfl,rfl,rfl⟩
   exact⟨rfl,rfl⟩
def Ke:List (List Nat):=[[0,1,2,3,4,5,6],[0,2,1,3,4,5,6],[1,0,2,3,4,5,6],[1,2,0,3,4,5,6],[1,2,3,0,4,5,6],[1,2,3,4,0,5,6],[2,0,1,3,4,5,6],[2,1,0,3,4,5,6],[2,1,3,0,4,5,6],[2,1,3,4,0,5,6]]
set_option maxRecDepth 100000 in
set_option maxHeartbeats 8000000 in
theorem uq {ws:List Int}{w:World}(he:Env w){p:Option Addr}{ts:List Txt}(hA:fH w p ts)(htl:ts.length <=100000){a:Option Addr}{n c:Nat}(hs:Sl bY w jD a n c ws)(hin:∀b o,a=some ⟨b,o,none⟩->b<w.heap.size)
   (hw0:∀x∈ws,0 <=x/\x <=(ts.length:Int)) (hwl:ws.length <=1000) (hxl:∀x∈txs ts ws,x.length <=1000):
   CallsIn Fence.wide 6 prog 28 #[.pointer p,.slice a n c] w λe w'=>e=.returned (.tuple #[((cU (txs ts ws)).getD iN).v,.bool (cU (txs ts ws)).isSome])/\bW w w':=by
 have hF:∀g:FuncId,Fence.wide.fn g:=λ_=>trivial
 have hn:=hs.len
 subst hn
 obtain⟨w1,hw1⟩:∃w1,w1=w.alloc (.cells (Value.cells (.pointer p)) aX):=⟨_,rfl⟩
 obtain⟨w2,hw2⟩:∃w2,w2=w1.alloc (.cells cu am):=⟨_,rfl⟩
 obtain⟨w3,hw3⟩:∃w3,w3=w2.alloc (.cells #[.bool false] bv):=⟨_,rfl⟩
 obtain⟨w6,hw6⟩:∃w6,w6=w3.alloc (.cells #[.slice none 0 0] az):=⟨_,rfl⟩
 obtain⟨w7,hw7⟩:∃w7,w7=w6.alloc (.cells #[.slice a ws.length c] aj):=⟨_,rfl⟩
 obtain⟨k2,hk2⟩:∃k,k=w.heap.size:=⟨_,rfl⟩
 obtain⟨k4,hk4⟩:∃k,k=w1.heap.size:=⟨_,rfl⟩
 obtain⟨k5,hk5⟩:∃k,k=w2.heap.size:=⟨_,rfl⟩
 obtain⟨k6,hk6⟩:∃k,k=w3.heap.size:=⟨_,rfl⟩
 obtain⟨k7,hk7⟩:∃k,k=w6.heap.size:=⟨_,rfl⟩
 have b1:bW w w1:=hw1▸af w _
 have b2:bW w1 w2:=hw2▸af w1 _
 have b3:bW w2 w3:=hw3▸af w2 _
 have b6:bW w3 w6:=hw6▸af w3 _
 have b7:bW w6 w7:=hw7▸af w6 _
 have s1:w1.heap.size=w.heap.size+1:=by rw[hw1];simp
 have s2:w2.heap.size=w1.heap.size+1:=by rw[hw2];simp
 have s3:w3.heap.size=w2.heap.size+1:=by rw[hw3];simp
 have s6:w6.heap.size=w3.heap.size+1:=by rw[hw6];simp
 have s7:w7.heap.size=w6.heap.size+1:=by rw[hw7];simp
 have A2:ai w1 k2 aX [.pointer p]:=ai.new hk2 hw1
 have A4:ai w2 k4 am iN.cells:=ai.new hk4 hw2
 have A5:ai w3 k5 bv [.bool false]:=ai.new hk5 hw3
 have A6:ai w6 k6 az [.slice none 0 0]:=ai.new hk6 hw6
 have A7:ai w7 k7 aj [.slice a ws.length c]:=ai.new hk7 hw7
 have B6:bW w w6:=((b1.trans (b2.mono (by omega))).trans (b3.mono (by omega))).trans (b6.mono (by omega))
 have B7:bW w w7:=B6.trans (b7.mono (by omega))
 have A2':ai w7 k2 aX [.pointer p]:=(((A2.below b2).below b3).below b6).below b7
 have A4':ai w7 k4 am iN.cells:=((A4.below b3).below b6).below b7
 have A5':ai w7 k5 bv [.bool false]:=(A5.below b6).below b7
 have A6':ai w7 k6 az [.slice none 0 0]:=A6.below b7
 refine callsIn_of_wp_marks func28 rfl trivial ?_ rfl
 simp only[Tryz.ntmps28,List.size_toArray,List.length_cons,List.length_nil,Nat.reduceAdd,Nat.reduceSub,Array.replicate_succ,Array.replicate_zero,List.push_toArray,List.append_toArray,List.nil_append,List.cons_append]
 have eB:=enters_of func62 (by kernel_rfl) rfl
 have eN:=enters_of func50 (by kernel_rfl) rfl
 have eT:=enters_of func52 (by kernel_rfl) rfl
 have eA:=enters_of func54 (by kernel_rfl) rfl
 have eC:=enters_of func63 (by kernel_rfl) rfl
 have eJ:=enters_of func66 (by kernel_rfl) rfl
 have eP:=enters_of func65 (by kernel_rfl) rfl
 refine qo ?_
 apply wpIn_region_lit
 refine KP (by kernel_rfl) rfl (u:=.pointer p) (by kernel_rfl) hk2 hw1 ?_
 refine wW (by kernel_rfl) rfl (v:=.pointer (some ⟨k4,0,none⟩)) (w':=w2) (by rw[hk4,hw2];kernel_rfl) ?_
 refine wW (by kernel_rfl) rfl (v:=.pointer (some ⟨k5,0,none⟩)) (w':=w3) (by rw[hk5,hw3];kernel_rfl) ?_
 refine pT ?_
 refine qo ?_
 apply wpIn_region_lit
 refine wW (by kernel_rfl) rfl (v:=.pointer (some ⟨k6,0,none⟩)) (w':=w6) (by rw[hk6,hw6];kernel_rfl) ?_
 refine pT ?_
 refine qo ?_
 refine qo ?_
 apply wpIn_region_lit
 refine cQ (by kernel_rfl) (.inl rfl) (u:=.slice a ws.length c) (by kernel_rfl) ?_
 refine sm (by kernel_rfl) rfl (u:=.slice a ws.length c) (by kernel_rfl) (by decide) hF eB ((callsIn_wide.2 (IH a ws.length c w6)).mono ?_)
 rintro _ w7' ⟨rfl,hw7'⟩
 rw[<- hw7]at hw7'
 rw[hw7']
 clear hw7' w7'
 rw[<- hk7]
 refine⟨_,rfl,?_⟩
 refine pT ?_
 simp only[Act.put,List.setIfInBounds_toArray,List.set_cons_succ,List.set_cons_zero]
 apply wpIn_block
 have hws:=hs.below B7
 have I0:Ea tS aI az k6 w7.heap.size w7 (([]:List (Int×Int)).map λx=>mO ts x.2) w7:=⟨none,0,0,A6',Ow.nil _ _ _ _,(λg hg=>by cases hg),Below.refl _ _⟩
 refine wpIn_rangeFunc_ownG rfl (by decide) (gf:=114) (lb:= #[.pointer (some ⟨k7,0,none⟩)]) (by kernel_rfl) trivial (enters_of func114 (by kernel_rfl) rfl)
   (Dc Fence.wide 5 trivial rfl (by decide) k7 ws (by omega) A7 hws) (λh1 h2=>h1.trans h2) (λV l o o' hl _ _ _=>ux λb hb e=> ?hKb) (Below.refl _ _) (λ_=>rfl)
   (λpre V=>Ea tS aI az k6 w7.heap.size w7 (pre.map λx=>mO ts x.2) V/\pre.length <=1000) (fun(_:Code) (pre:List (Int×Int)) (_:World)=>∃x∈pre,¬ (0 <=x.2/\x.2 <=(ts.length:Int))) (OwnFrom.and (Cp (by omega)) (ownFrom_pure _ _)) (λ_=>ownFrom_pure _ _) ⟨I0,by simp⟩
   (λx=> { tmps:= #[.pointer p,.slice a ws.length c,.pointer (some ⟨k2,0,none⟩),undef,.pointer (some ⟨k4,0,none⟩),.pointer (some ⟨k5,0,none⟩),.pointer (some ⟨k6,0,none⟩),undef,vI x.2,undef,undef,undef,.slice a ws.length c,.func (.func 114) #[] #[.pointer (some ⟨k7,0,none⟩)],vI x.1,vI x.2,undef,undef,undef,undef,undef,undef,undef,undef,undef,undef,undef,undef,undef,undef,undef,undef,undef,undef,undef,undef,undef,undef,undef,undef,undef,undef,undef,undef,undef,undef,undef,undef,undef,undef,undef,undef,undef,undef,undef,undef,undef,undef,undef,undef,undef,undef,undef,undef,undef,undef],defers:=[] }) ?assign ?body ?done ?stop
 case hKb=>
   rcases hb with rfl|⟨o2,e2⟩
   · omega
   · have:=hin b o2 e2;omega
 case assign=>
   intro l x V K hK
   apply wpIn_region_lit
   simp only[List.zip_toArray,List.foldl_toArray',List.foldl_toArray,List.zip_cons_cons,List.zip_nil_left,List.zip_nil_right,List.foldl_cons,List.foldl_nil,List.setIfInBounds_toArray,List.set_cons_succ,List.set_cons_zero]
   refine cQ (by kernel_rfl) (.inr rfl) (u:=vI x.2) (by kernel_rfl) ?_
   exact J2 hK
 case body=>
   rintro l pre x V ⟨hC,hlen0⟩ hlen
   have hwk:w.heap.size <=k6:=by omega
   have hCd:=hC.drew
   obtain⟨a1,n1,c1,C1,C2,C3,C4⟩:=hC
   have BV:bW w V:=B7.trans (C4.mono hwk)
   have hAV:fH V p ts:=hA.below BV
   have A2V:ai V k2 aX [.pointer p]:=A2'.block (C4.block k2 (by omega))
   have A4V:ai V k4 am iN.cells:=A4'.block (C4.block k4 (by omega))
   have A5V:ai V k5 bv [.bool false]:=A5'.block (C4.block k5 (by omega))
   have l2V:(Instr.loadAt aX (.pointer (some ⟨k2,0,none⟩))).run prog V=.ok (.pointer p) V:=A2V.load1 gc rfl rfl
   have qn:CallsIn Fence.wide (6-1-1-1) prog 50 #[.pointer p] V λe w'=>e=.returned (vI ((ts.length:Int)+1))/\w'=V:=
     (callsIn_wide.2 (ci p ts (by omega) V hAV)).mono λe w' ⟨v,he,hv,hw⟩=>⟨by rw[he,hv],hw⟩
   obtain⟨V4,q4,_,g4⟩:=bF.store0 (P:=prog) (cs:=iN.cells) rfl (Hst.one _) A4V rfl
   obtain⟨V5,q5,_,g5⟩:=rm (P:=prog) kW (A5V.grown g4 (λe=>by cases e;omega)) false
   apply wpIn_block
   refine qo ?_
   refine qo ?_
   apply wpIn_region_lit
   refine cQ (by kernel_rfl) (.inl rfl) (u:=vI x.2) (by kernel_rfl) ?_
   by_cases c0:x.2<0
   · refine ig (by kernel_rfl) (λc hc=>by cases hc) (by kernel_rfl) (b':=decide (x.2<0)) (by kernel_rfl) (decide_eq_true c0) ?_
     refine cQ (by kernel_rfl) (.inl rfl) (u:=.bool true) (by kernel_rfl) ?_
     refine gE (by kernel_rfl) (λ_=>trivial) ?_
     try simp only[Act.put,List.setIfInBounds_toArray,List.set_cons_succ,List.set_cons_zero]
     refine gE (by kernel_rfl) (λ_=>trivial) ?_
     refine gE (by kernel_rfl) (λ_=>trivial) ?_
     refine gE (by kernel_rfl) (λ_=>trivial) ?_
     try simp only[Act.put,List.setIfInBounds_toArray,List.set_cons_succ,List.set_cons_zero]
     refine ig (by kernel_rfl) (λc hc=>by cases hc) (by kernel_rfl) (b':=true) (by kernel_rfl) rfl ?_
     refine pT ?_
     try simp only[Act.put,List.setIfInBounds_toArray,List.set_cons_succ,List.set_cons_zero]
     refine wpIn_cond_true (by kernel_rfl) ?_
     refine qo ?_
     apply wpIn_region_lit
     refine um (by kernel_rfl) (λc hc=>by cases hc) (by kernel_rfl) (v:=iN.v) (w':=V) (by kernel_rfl) ?_
     refine cC (by kernel_rfl) rfl (by kernel_rfl) (by kernel_rfl) q4 ?_
     refine cC (by kernel_rfl) rfl (by kernel_rfl) (by kernel_rfl) q5 ?_
     try simp only[Act.put,List.setIfInBounds_toArray,List.set_cons_succ,List.set_cons_zero]
     refine pT ?_
     try simp only[Act.put,List.setIfInBounds_toArray,List.set_cons_succ,List.set_cons_zero]
     exact wpIn_ret ⟨KeepsFrom.trans (KeepsFrom.of_grownBy g4 (λj hj=>by cases hj;omega)) (KeepsFrom.of_grownBy g5 (λj hj=>by cases hj;omega)),x,by simp,by omega⟩
   refine ig (by kernel_rfl) (λc hc=>by cases hc) (by kernel_rfl) (b':=decide (x.2<0)) (by kernel_rfl) (decide_eq_false c0) ?_
   refine cQ (by kernel_rfl) (.inl rfl) (u:=.bool false) (by kernel_rfl) ?_
   refine cQ (by kernel_rfl) (.inl rfl) (u:=vI x.2) (by kernel_rfl) ?_
   try simp only[Act.put,List.setIfInBounds_toArray,List.set_cons_succ,List.set_cons_zero]
   refine cG (by kernel_rfl) rfl (by kernel_rfl) l2V ?_
   refine sm (by kernel_rfl) rfl (u:=.pointer p) (by kernel_rfl) (by decide) (λ_=>trivial) eN (qn.mono ?_)
   rintro _ w' ⟨rfl,hw'⟩
   rw[hw']
   clear hw' w'
   refine⟨_,rfl,?_⟩
   try simp only[Act.put,List.setIfInBounds_toArray,List.set_cons_succ,List.set_cons_zero]
   by_cases c1:x.2 >=(ts.length:Int)+1
   · refine ig (by kernel_rfl) (λc hc=>by cases hc) (by kernel_rfl) (b':=decide (x.2 >=(ts.length:Int)+1)) (by kernel_rfl) (decide_eq_true c1) ?_
     refine ig (by kernel_rfl) (λc hc=>by cases hc) (by kernel_rfl) (b':=true) (by kernel_rfl) rfl ?_
     refine pT ?_
     try simp only[Act.put,List.setIfInBounds_toArray,List.set_cons_succ,List.set_cons_zero]
     refine wpIn_cond_true (by kernel_rfl) ?_
     refine qo ?_
     apply wpIn_region_lit
     refine um (by kernel_rfl) (λc hc=>by cases hc) (by kernel_rfl) (v:=iN.v) (w':=V) (by kernel_rfl) ?_
     refine cC (by kernel_rfl) rfl (by kernel_rfl) (by kernel_rfl) q4 ?_
     refine cC (by kernel_rfl) rfl (by kernel_rfl) (by kernel_rfl) q5 ?_
     try simp only[Act.put,List.setIfInBounds_toArray,List.set_cons_succ,List.set_cons_zero]
     refine pT ?_
     try simp only[Act.put,List.setIfInBounds_toArray,List.set_cons_succ,List.set_cons_zero]
     exact wpIn_ret ⟨KeepsFrom.trans (KeepsFrom.of_grownBy g4 (λj hj=>by cases hj;omega)) (KeepsFrom.of_grownBy g5 (λj hj=>by cases hj;omega)),x,by simp,by omega⟩
   refine ig (by kernel_rfl) (λc hc=>by cases hc) (by kernel_rfl) (b':=decide (x.2 >=(ts.length:Int)+1)) (by kernel_rfl) (decide_eq_false c1) ?_
   refine ig (by kernel_rfl) (λc hc=>by cases hc) (by kernel_rfl) (b':=false) (by kernel_rfl) rfl ?_
   refine pT ?_
   try simp only[Act.put,List.setIfInBounds_toArray,List.set_cons_succ,List.set_cons_zero]
   refine wpIn_cond_false (by kernel_rfl) ?_
   refine wpIn_skip ?_
   obtain⟨a1,n1,c1',C1,C2,C3,C4⟩:=hCd
   have hAV':fH V.drew p ts:=hAV.below (aQ V)
   have l2:(Instr.loadAt aX (.pointer (some ⟨k2,0,none⟩))).run prog V.drew=.ok (.pointer p) V.drew:=(A2V.below (aQ V)).load1 gc rfl rfl
   have l6:(Instr.loadAt az (.pointer (some ⟨k6,0,none⟩))).run prog V.drew=.ok (.slice a1 n1 c1') V.drew:=C1.load1 cM rfl rfl
   have qc:=callsIn_wide (n:=6-1-1-1).2 (kV p ts htl x.2 V.drew hAV')
   have fin:∀Vc,Below V.drew.heap.size V.drew Vc->(Instr.loadAt az (.pointer (some ⟨k6,0,none⟩))).run prog Vc=.ok (.slice a1 n1 c1') Vc/\∃(kx:Nat) (V1:World),
       (Instr.buildSlice az 1 #[(0,vS (mO ts x.2))]).run prog Vc=.ok (.slice (some ⟨kx,0,none⟩) 1 1) V1/\(Instr.loadAt az (.pointer (some ⟨k6,0,none⟩))).run prog V1=.ok (.slice a1 n1 c1') V1/\
       ∃(V2:World) (a2:Option Addr) (n2 c2:Nat),(Builtin.append_ #[az,az] az #[.slice a1 n1 c1',.slice (some ⟨kx,0,none⟩) 1 1]).run prog V1=.ok (.slice a2 n2 c2) V2/\
       ∃V3:World,(Instr.storeAt az (.pointer (some ⟨k6,0,none⟩)) (.slice a2 n2 c2)).run prog V2=.ok () V3/\∀{aa:Act},(Exit.inBlock 1 (ownPostG w7.heap.size (oF λb=>b=k7\/∃o,a=some ⟨b,o,none⟩) (λpre V=>Ea tS aI az k6 w7.heap.size w7 (pre.map λx=>mO ts x.2) V/\pre.length <=1000) (fun(_:Code) (pre:List (Int×Int)) (_:World)=>∃x∈pre,¬ (0 <=x.2/\x.2 <=(ts.length:Int))) (pre++[x]) V)) .normal aa V3:=by
     intro Vc hbc
     have C1c:=C1.below hbc
     have C2c:=C2.below hbc
     have C4c:Below k6 w7 Vc:=C4.trans (hbc.mono (by have:=C4.size;omega))
     obtain⟨V1,hV1⟩:∃V1,V1=Vc.alloc (.cells #[vS (mO ts x.2)] aI):=⟨_,rfl⟩
     have bV:bW Vc V1:=hV1▸af _ _
     obtain⟨V2,a2,n2,c2,q2,V3,q3,C',kf,oth⟩:=zw (qi _) cM vy (by decide) Ay C1c C2c C3 C4c (by omega) C4c.size rfl hV1 (show tS.rep Vc NoB [vS (mO ts x.2)] (mO ts x.2) from⟨rfl,trivial⟩) (by rw[List.length_map];omega)
     refine⟨C1c.load1 cM rfl rfl,_,V1,by rw[hV1];exact Fy _ Vc,(C1c.below bV).load1 cM rfl rfl,V2,a2,n2,c2,q2,V3,q3,?_⟩
     intro aa
     have sV:V.heap.size <=Vc.heap.size:=hbc.size
     refine⟨⟨Nat.le_trans sV kf.size,λk o hk h1 h2=>kf.same k o hk ((hbc.block k (Array.getElem?_eq_some_iff.1 h1).1).trans h1) h2⟩,⟨Nat.le_trans sV kf.size,λb hb hab=>?_⟩,?_,by simp;omega⟩
     · refine(?_:V3.heap[b]? =Vc.heap[b]?).trans (hbc.block b hb)
       rcases hab with rfl|⟨o2,e2⟩
       · exact oth b (by omega) (by omega)
       · have:=hin b o2 e2
         exact oth b (by omega) (by omega)
     · rw[List.map_append];exact C'
   refine E6 rfl Ke (by kernel_rfl) ?_
   intro ord hord
   simp only[Ke,List.mem_cons,List.not_mem_nil,or_false]at hord
   rcases hord with rfl|rfl|rfl|rfl|rfl|rfl|rfl|rfl|rfl|rfl
   all_goals simp only[List.filterMap_cons,List.filterMap_nil,List.getElem?_toArray,List.getElem?_cons_zero,List.getElem?_cons_succ]
   · refine cG (by kernel_rfl) rfl (by kernel_rfl) l6 ?_
     refine cG (by kernel_rfl) rfl (by kernel_rfl) l2 ?_
     refine cQ (by kernel_rfl) (.inl rfl) (u:=vI x.2) (by kernel_rfl) ?_
     refine fO (by kernel_rfl) rfl (u:=.pointer p) (v:=vI x.2) (by kernel_rfl) (by kernel_rfl) (by decide) (λ_=>trivial) eT (qc.mono ?_)
     rintro _ Vc ⟨_,rfl,rfl,hbc⟩
     obtain⟨l6c,kx,V1,qb,l6',V2,a2,n2,c2,q2,V3,q3,gfin⟩:=fin Vc hbc
     refine⟨_,rfl,?_⟩
     refine dP (by kernel_rfl) rfl (by kernel_rfl) qb ?_
     refine d7 (by kernel_rfl) rfl (by kernel_rfl) (by kernel_rfl) q2 ?_
     exact cC (by kernel_rfl) rfl (by kernel_rfl) (by kernel_rfl) q3 (wpListIn_nil gfin)
   · refine cG (by kernel_rfl) rfl (by kernel_rfl) l6 ?_
     refine cQ (by kernel_rfl) (.inl rfl) (u:=vI x.2) (by kernel_rfl) ?_
     refine cG (by kernel_rfl) rfl (by kernel_rfl) l2 ?_
     refine fO (by kernel_rfl) rfl (u:=.pointer p) (v:=vI x.2) (by kernel_rfl) (by kernel_rfl) (by decide) (λ_=>trivial) eT (qc.mono ?_)
     rintro _ Vc ⟨_,rfl,rfl,hbc⟩
     obtain⟨l6c,kx,V1,qb,l6',V2,a2,n2,c2,q2,V3,q3,gfin⟩:=fin Vc hbc
     refine⟨_,rfl,?_⟩
     refine dP (by kernel_rfl) rfl (by kernel_rfl) qb ?_
     refine d7 (by kernel_rfl) rfl (by kernel_rfl) (by kernel_rfl) q2 ?_
     exact cC (by kernel_rfl) rfl (by kernel_rfl) (by kernel_rfl) q3 (wpListIn_nil gfin)
   · refine cG (by kernel_rfl) rfl (by kernel_rfl) l2 ?_
     refine cG (by kernel_rfl) rfl (by kernel_rfl) l6 ?_
     refine cQ (by kernel_rfl) (.inl rfl) (u:=vI x.2) (by kernel_rfl) ?_
     refine fO (by kernel_rfl) rfl (u:=.pointer p) (v:=vI x.2) (by kernel_rfl) (by kernel_rfl) (by decide) (λ_=>trivial) eT (qc.mono ?_)
     rintro _ Vc ⟨_,rfl,rfl,hbc⟩
     obtain⟨l6c,kx,V1,qb,l6',V2,a2,n2,c2,q2,V3,q3,gfin⟩:=fin Vc hbc
     refine⟨_,rfl,?_⟩
     refine dP (by kernel_rfl) rfl (by kernel_rfl) qb ?_
     refine d7 (by kernel_rfl) rfl (by kernel_rfl) (by kernel_rfl) q2 ?_
     exact cC (by kernel_rfl) rfl (by kernel_rfl) (by kernel_rfl) q3 (wpListIn_nil gfin)
   · refine cG (by kernel_rfl) rfl (by kernel_rfl) l2 ?_
     refine cQ (by kernel_rfl) (.inl rfl) (u:=vI x.2) (by kernel_rfl) ?_
     refine cG (by kernel_rfl) rfl (by kernel_rfl) l6 ?_
     refine fO (by kernel_rfl) rfl (u:=.pointer p) (v:=vI x.2) (by kernel_rfl) (by kernel_rfl) (by decide) (λ_=>trivial) eT (qc.mono ?_)
     rintro _ Vc ⟨_,rfl,rfl,hbc⟩
     obtain⟨l6c,kx,V1,qb,l6',V2,a2,n2,c2,q2,V3,q3,gfin⟩:=fin Vc hbc
     refine⟨_,rfl,?_⟩
     refine dP (by kernel_rfl) rfl (by kernel_rfl) qb ?_
     refine d7 (by kernel_rfl) rfl (by kernel_rfl) (by kernel_rfl) q2 ?_
     exact cC (by kernel_rfl) rfl (by kernel_rfl) (by kernel_rfl) q3 (wpListIn_nil gfin)
   · refine cG (by kernel_rfl) rfl (by kernel_rfl) l2 ?_
     refine cQ (by kernel_rfl) (.inl rfl) (u:=vI x.2) (by kernel_rfl) ?_
     refine fO (by kernel_rfl) rfl (u:=.pointer p) (v:=vI x.2) (by kernel_rfl) (by kernel_rfl) (by decide) (λ_=>trivial) eT (qc.mono ?_)
     rintro _ Vc ⟨_,rfl,rfl,hbc⟩
     obtain⟨l6c,kx,V1,qb,l6',V2,a2,n2,c2,q2,V3,q3,gfin⟩:=fin Vc hbc
     refine⟨_,rfl,?_⟩
     refine cG (by kernel_rfl) rfl (by kernel_rfl) l6c ?_
     refine dP (by kernel_rfl) rfl (by kernel_rfl) qb ?_
     refine d7 (by kernel_rfl) rfl (by kernel_rfl) (by kernel_rfl) q2 ?_
     exact cC (by kernel_rfl) rfl (by kernel_rfl) (by kernel_rfl) q3 (wpListIn_nil gfin)
   · refine cG (by kernel_rfl) rfl (by kernel_rfl) l2 ?_
     refine cQ (by kernel_rfl) (.inl rfl) (u:=vI x.2) (by kernel_rfl) ?_
     refine fO (by kernel_rfl) rfl (u:=.pointer p) (v:=vI x.2) (by kernel_rfl) (by kernel_rfl) (by decide) (λ_=>trivial) eT (qc.mono ?_)
     rintro _ Vc ⟨_,rfl,rfl,hbc⟩
     obtain⟨l6c,kx,V1,qb,l6',V2,a2,n2,c2,q2,V3,q3,gfin⟩:=fin Vc hbc
     refine⟨_,rfl,?_⟩
     refine dP (by kernel_rfl) rfl (by kernel_rfl) qb ?_
     refine cG (by kernel_rfl) rfl (by kernel_rfl) l6' ?_
     refine d7 (by kernel_rfl) rfl (by kernel_rfl) (by kernel_rfl) q2 ?_
     exact cC (by kernel_rfl) rfl (by kernel_rfl) (by kernel_rfl) q3 (wpListIn_nil gfin)
   · refine cQ (by kernel_rfl) (.inl rfl) (u:=vI x.2) (by kernel_rfl) ?_
     refine cG (by kernel_rfl) rfl (by kernel_rfl) l6 ?_
     refine cG (by kernel_rfl) rfl (by kernel_rfl) l2 ?_
     refine fO (by kernel_rfl) rfl (u:=.pointer p) (v:=vI x.2) (by kernel_rfl) (by kernel_rfl) (by decide) (λ_=>trivial) eT (qc.mono ?_)
     rintro _ Vc ⟨_,rfl,rfl,hbc⟩
     obtain⟨l6c,kx,V1,qb,l6',V2,a2,n2,c2,q2,V3,q3,gfin⟩:=fin Vc hbc
     refine⟨_,rfl,?_⟩
     refine dP (by kernel_rfl) rfl (by kernel_rfl) qb ?_
     refine d7 (by kernel_rfl) rfl (by kernel_rfl) (by kernel_rfl) q2 ?_
     exact cC (by kernel_rfl) rfl (by kernel_rfl) (by kernel_rfl) q3 (wpListIn_nil gfin)
   · refine cQ (by kernel_rfl) (.inl rfl) (u:=vI x.2) (by kernel_rfl) ?_
     refine cG (by kernel_rfl) rfl (by kernel_rfl) l2 ?_
     refine cG (by kernel_rfl) rfl (by kernel_rfl) l6 ?_
     refine fO (by kernel_rfl) rfl (u:=.pointer p) (v:=vI x.2) (by kernel_rfl) (by kernel_rfl) (by decide) (λ_=>trivial) eT (qc.mono ?_)
     rintro _ Vc ⟨_,rfl,rfl,hbc⟩
     obtain⟨l6c,kx,V1,qb,l6',V2,a2,n2,c2,q2,V3,q3,gfin⟩:=fin Vc hbc
     refine⟨_,rfl,?_⟩
     refine dP (by kernel_rfl) rfl (by kernel_rfl) qb ?_
     refine d7 (by kernel_rfl) rfl (by kernel_rfl) (by kernel_rfl) q2 ?_
     exact cC (by kernel_rfl) rfl (by kernel_rfl) (by kernel_rfl) q3 (wpListIn_nil gfin)
   · refine cQ (by kernel_rfl) (.inl rfl) (u:=vI x.2) (by kernel_rfl) ?_
     refine cG (by kernel_rfl) rfl (by kernel_rfl) l2 ?_
     refine fO (by kernel_rfl) rfl (u:=.pointer p) (v:=vI x.2) (by kernel_rfl) (by kernel_rfl) (by decide) (λ_=>trivial) eT (qc.mono ?_)
     rintro _ Vc ⟨_,rfl,rfl,hbc⟩
     obtain⟨l6c,kx,V1,qb,l6',V2,a2,n2,c2,q2,V3,q3,gfin⟩:=fin Vc hbc
     refine⟨_,rfl,?_⟩
     refine cG (by kernel_rfl) rfl (by kernel_rfl) l6c ?_
     refine dP (by kernel_rfl) rfl (by kernel_rfl) qb ?_
     refine d7 (by kernel_rfl) rfl (by kernel_rfl) (by kernel_rfl) q2 ?_
     exact cC (by kernel_rfl) rfl (by kernel_rfl) (by kernel_rfl) q3 (wpListIn_nil gfin)
   · refine cQ (by kernel_rfl) (.inl rfl) (u:=vI x.2) (by kernel_rfl) ?_
     refine cG (by kernel_rfl) rfl (by kernel_rfl) l2 ?_
     refine fO (by kernel_rfl) rfl (u:=.pointer p) (v:=vI x.2) (by kernel_rfl) (by kernel_rfl) (by decide) (λ_=>trivial) eT (qc.mono ?_)
     rintro _ Vc ⟨_,rfl,rfl,hbc⟩
     obtain⟨l6c,kx,V1,qb,l6',V2,a2,n2,c2,q2,V3,q3,gfin⟩:=fin Vc hbc
     refine⟨_,rfl,?_⟩
     refine dP (by kernel_rfl) rfl (by kernel_rfl) qb ?_
     refine cG (by kernel_rfl) rfl (by kernel_rfl) l6' ?_
     refine d7 (by kernel_rfl) rfl (by kernel_rfl) (by kernel_rfl) q2 ?_
     exact cC (by kernel_rfl) rfl (by kernel_rfl) (by kernel_rfl) q3 (wpListIn_nil gfin)
 case done=>
   rintro D xs V hD hxs ⟨⟨a3,n3,c3,D1,D2,D3,D4⟩,_⟩ hK
   have eL:xs.map (λx=>mO ts x.2)=(txs ts ws).reverse:=by
     unfold txs
     rw[<- List.map_reverse,<- show xs.map Prod.snd=ws.reverse from hxs,List.map_map];rfl
   rw[eL]at D2
   have hwk:w.heap.size <=k6:=by omega
   have BV:bW w V:=B7.trans (D4.mono hwk)
   have A4V:ai V k4 am iN.cells:=A4'.block (D4.block k4 (by omega))
   have A5V:ai V k5 bv [.bool false]:=A5'.block (D4.block k5 (by omega))
   have DV:D<V.heap.size:=(Array.getElem?_eq_some_iff.1 hK).1
   obtain⟨L,hL⟩:∃L,L=(txs ts ws).reverse:=⟨_,rfl⟩
   rw[<- hL]at D2
   have hLl:L.length <=1000:=by rw[hL,List.length_reverse];unfold txs;rw[List.length_map];exact hwl
   have hLx:∀x∈L,x.length <=1000:=λx hx=>hxl x (by rw[hL]at hx;simpa using hx)
   have n3e:n3=L.length:=D2.len
   subst n3e
   have back:∀{tm:Array Value} {V':World} {g:Hst} {b:Bool} {w4 w5:World},tm.getD 4 undef=.pointer (some ⟨k4,0,none⟩)->tm.getD 5 undef=.pointer (some ⟨k5,0,none⟩)->g.ok->bW V V'->V'.grownBy w4 (some k4)->ai w4 k4 am g.cells->w4.grownBy w5 (some k5)->ai w5 k5 bv [.bool b]->
       (((cU (txs ts ws)).getD iN).v=g.v/\(cU (txs ts ws)).isSome=b)->
       LeavesInM Fence.wide 6 prog Tryz.f28 tm (λe w'=>e=.returned (.tuple #[((cU (txs ts ws)).getD iN).v,.bool (cU (txs ts ws)).isSome])/\bW w w') [{ target:=.collected D,args:= #[] }] .returning w5:=by
     intro tm V' g b w4 w5 t4 t5 og hbV g4 h4 g5 h5 he
     have s4:V'.heap.size <=w4.heap.size:=g4.size
     have hKD:w5.heap[D]? =some (.deferred (some [])):=by
       have h1:=hbV.size
       rw[g5.block D (by omega) (λe=>by cases e;omega),g4.block D (by omega) (λe=>by cases e;omega),hbV.block D DV];exact hK
     have gD:=grownBy_putObj' w5 D (.deferred none)
     have h4':ai (w5.putObj D (.deferred none)) k4 am g.cells:=(h4.grown g5 (λe=>by cases e;omega)).grown gD (λe=>by cases e;omega)
     have h5':ai (w5.putObj D (.deferred none)) k5 bv [.bool b]:=h5.grown gD (λe=>by cases e;omega)
     have B5:bW w w5:=by
       have e1:=ab BV hbV BV.size
       refine(e1.grown g4 e1.size λx e=>by cases e;omega).grown g5 ?_ λx e=>by cases e;omega
       exact Nat.le_trans e1.size g4.size
     refine⟨by simp,.inl ⟨_,_,rfl,run_takeDeferred hKD,?_⟩⟩
     refine⟨_,wh (v:=g.v) (v2:=.bool b) ?_ ?_,?_,B5.grown gD B5.size λx e=>by cases e;omega⟩
     · rw[t4];exact ai.res (bF.load0 h4' (Hst.len og))
     · rw[t5];exact ai.res (h5'.load1 dl rfl rfl)
     · rw[he.1,he.2]
   have none_:∀{V':World},bW V V'->cU (txs ts ws)=none->
       ∃w4 w5,(Instr.storeAt am (.pointer (some ⟨k4,0,none⟩)) iN.v).run prog V'=.ok () w4/\(Instr.storeAt bv (.pointer (some ⟨k5,0,none⟩)) (.bool false)).run prog w4=.ok () w5/\
       ∀{tm:Array Value},tm.getD 4 undef=.pointer (some ⟨k4,0,none⟩)->tm.getD 5 undef=.pointer (some ⟨k5,0,none⟩)->LeavesInM Fence.wide 6 prog Tryz.f28 tm (λe w'=>e=.returned (.tuple #[((cU (txs ts ws)).getD iN).v,.bool (cU (txs ts ws)).isSome])/\bW w w') [{ target:=.collected D,args:= #[] }] .returning w5:=by
     intro V' hbV hno
     obtain⟨w4,q4,h4,g4⟩:=bF.store0 (P:=prog) (cs:=iN.cells) rfl (Hst.one _) (A4V.below hbV) rfl
     obtain⟨w5,q5,h5,g5⟩:=rm (P:=prog) kW ((A5V.below hbV).grown g4 (λe=>by cases e;omega)) false
     exact⟨w4,w5,q4,q5,λt4 t5=>back (g:=iN) t4 t5 rfl hbV g4 h4 g5 h5 ⟨by rw[hno];rfl,by rw[hno];rfl⟩⟩
   have some_:∀{V':World} {g:Hst},bW V V'->g.ok->cU (txs ts ws)=some g->
       ∃w4 w5,(Instr.storeAt am (.pointer (some ⟨k4,0,none⟩)) g.v).run prog V'=.ok () w4/\(Instr.storeAt bv (.pointer (some ⟨k5,0,none⟩)) (.bool true)).run prog w4=.ok () w5/\
       ∀{tm:Array Value},tm.getD 4 undef=.pointer (some ⟨k4,0,none⟩)->tm.getD 5 undef=.pointer (some ⟨k5,0,none⟩)->LeavesInM Fence.wide 6 prog Tryz.f28 tm (λe w'=>e=.returned (.tuple #[((cU (txs ts ws)).getD iN).v,.bool (cU (txs ts ws)).isSome])/\bW w w') [{ target:=.collected D,args:= #[] }] .returning w5:=by
     intro V' g hbV og hsm
     obtain⟨w4,q4,h4,g4⟩:=bF.store0 (P:=prog) (cs:=g.cells) (Hst.len og) (Hst.one _) (A4V.below hbV) rfl
     obtain⟨w5,q5,h5,g5⟩:=rm (P:=prog) kW ((A5V.below hbV).grown g4 (λe=>by cases e;omega)) true
     exact⟨w4,w5,q4,q5,λt4 t5=>back (g:=g) t4 t5 og hbV g4 h4 g5 h5 ⟨by rw[hsm];rfl,by rw[hsm];rfl⟩⟩
   refine IY (λa' W=>∃(x31 x32 x33 x34 x35 x36 x37 x38 x39:Value) (b:Bool),a'= { tmps:= #[.pointer p,.slice a ws.length c,.pointer (some ⟨k2,0,none⟩),undef,.pointer (some ⟨k4,0,none⟩),.pointer (some ⟨k5,0,none⟩),.pointer (some ⟨k6,0,none⟩),undef,undef,.bool b,undef,undef,.slice a ws.length c,.func (.func 114) #[] #[.pointer (some ⟨k7,0,none⟩)],undef,undef,undef,undef,undef,undef,undef,undef,undef,undef,undef,undef,undef,undef,undef,undef,undef,x31,x32,x33,x34,x35,x36,x37,x38,x39,undef,undef,undef,undef,undef,undef,undef,undef,undef,undef,undef,undef,undef,undef,undef,undef,undef,undef,undef,undef,undef,undef,undef,undef,undef,undef],defers:=[{ target:=.collected D,args:= #[] }] } /\b=(decide (L.length=1)&&L.all iV)/\bW V W) ?_ ?_
   · apply wpIn_region_lit
     have l6:(Instr.loadAt az (.pointer (some ⟨k6,0,none⟩))).run prog V=.ok (.slice a3 L.length c3) V:=D1.load1 cM rfl rfl
     refine cG (by kernel_rfl) rfl (by kernel_rfl) l6 ?_
     refine um (by kernel_rfl) (λc hc=>by cases hc) (by kernel_rfl) (v:=vI ((L.length:Nat):Int)) (w':=V) (by kernel_rfl) ?_
     by_cases cc:L.length=1
     · obtain⟨x,hx⟩:=List.length_eq_one_iff.1 cc
       clear hL
       subst hx
       obtain⟨g,rfl⟩:∃g,a3=some ⟨g,0,none⟩:=by
         rcases D2.2.2.2 with⟨_,_,h⟩|⟨g,_,_,h,_⟩
         · cases h
         · exact⟨g,h⟩
       obtain⟨v,qv,hv⟩:=D2.all.load1 (P:=prog) (i:=0) bC rfl rfl (by simp)
       obtain⟨rfl,_⟩:=vo hv
       refine ig (by kernel_rfl) (λc hc=>by cases hc) (by kernel_rfl) (b':=true) (by kernel_rfl) rfl ?_
       try simp only[Act.put,List.setIfInBounds_toArray,List.set_cons_succ,List.set_cons_zero]
       refine cQ (by kernel_rfl) (.inl rfl) (u:=.bool true) (by kernel_rfl) ?_
       refine cG (by kernel_rfl) rfl (by kernel_rfl) l6 ?_
       refine um (by kernel_rfl) (λc hc=>by cases hc) (by kernel_rfl) (v:=.pointer (ak (some ⟨g,0,none⟩) 0 1)) (w':=V) (by kernel_rfl) ?_
       try simp only[Act.put,List.setIfInBounds_toArray,List.set_cons_succ,List.set_cons_zero]
       refine cG (by kernel_rfl) rfl (by kernel_rfl) qv ?_
       refine sm (by kernel_rfl) rfl (u:=vS x) (by kernel_rfl) (by decide) hF eA ((callsIn_wide.2 (ky x (by have:=hLx x (by simp);omega) V (he.step BV))).mono ?_)
       rintro _ Vw ⟨_,rfl,rfl,hbw⟩
       refine⟨_,rfl,?_⟩
       try simp only[Act.put,List.setIfInBounds_toArray,List.set_cons_succ,List.set_cons_zero]
       refine um (by kernel_rfl) (λc hc=>by cases hc) (by kernel_rfl) (v:=.bool (iV x)) (w':=Vw) (by kernel_rfl) ?_
       refine cQ (by kernel_rfl) (.inr rfl) (u:=.bool (iV x)) (by kernel_rfl) ?_
       apply J2
       exact⟨.slice (some ⟨g,0,none⟩) [x].length c3,vI (([x].length:Nat):Int),.bool true,.bool true,.slice (some ⟨g,0,none⟩) [x].length c3,.pointer (ak (some ⟨g,0,none⟩) 0 1),vS x,.bool (iV x),.bool (iV x),iV x,(by kernel_rfl),by simp,hbw⟩
     · refine ig (by kernel_rfl) (λc hc=>by cases hc) (by kernel_rfl) (b':=((L.length:Nat):Int)==1) (b:=false) (by kernel_rfl) (by rw[beq_eq_false_iff_ne];omega) ?_
       try simp only[Act.put,List.setIfInBounds_toArray,List.set_cons_succ,List.set_cons_zero]
       refine cQ (by kernel_rfl) (.inl rfl) (u:=.bool false) (by kernel_rfl) ?_
       refine gE (by kernel_rfl) hF ?_
       refine gE (by kernel_rfl) hF ?_
       try simp only[Act.put,List.setIfInBounds_toArray,List.set_cons_succ,List.set_cons_zero]
       refine gE (by kernel_rfl) hF ?_
       refine gE (by kernel_rfl) hF ?_
       refine ig (by kernel_rfl) (λc hc=>by cases hc) (by kernel_rfl) (b':=false) (by kernel_rfl) rfl ?_
       try simp only[Act.put,List.setIfInBounds_toArray,List.set_cons_succ,List.set_cons_zero]
       refine cQ (by kernel_rfl) (.inr rfl) (u:=.bool false) (by kernel_rfl) ?_
       apply J2
       exact⟨.slice a3 L.length c3,vI ((L.length:Nat):Int),.bool false,.bool false,undef,undef,undef,undef,.bool false,false,(by kernel_rfl),by simp[cc],Below.refl _ _⟩
   · rintro a' W ⟨x31,x32,x33,x34,x35,x36,x37,x38,x39,b,rfl,hb,BW⟩
     have B0W:bW w W:=ab BV BW BV.size
     refine IY (λa' W=>∃(x31 x32 x33 x34 x35 x36 x37 x38 x39 x40 x41 x42 x43 x44 x45:Value),a'= { tmps:= #[.pointer p,.slice a ws.length c,.pointer (some ⟨k2,0,none⟩),undef,.pointer (some ⟨k4,0,none⟩),.pointer (some ⟨k5,0,none⟩),.pointer (some ⟨k6,0,none⟩),undef,undef,.bool b,undef,undef,.slice a ws.length c,.func (.func 114) #[] #[.pointer (some ⟨k7,0,none⟩)],undef,undef,undef,undef,undef,undef,undef,undef,undef,undef,undef,undef,undef,undef,undef,undef,undef,x31,x32,x33,x34,x35,x36,x37,x38,x39,x40,x41,x42,x43,x44,x45,undef,undef,undef,undef,undef,undef,undef,undef,undef,undef,undef,undef,undef,undef,undef,undef,undef,undef,undef,undef],defers:=[{ target:=.collected D,args:= #[] }] } /\(b=true\/L.all bD=true)/\bW V W) ?_ ?_
     · have l6:(Instr.loadAt az (.pointer (some ⟨k6,0,none⟩))).run prog W=.ok (.slice a3 L.length c3) W:=(D1.below BW).load1 cM rfl rfl
       refine qo ?_
       apply wpIn_region_lit
       refine cQ (by kernel_rfl) (.inl rfl) (u:=.bool b) (by kernel_rfl) ?_
       cases b with
       | true=>
         refine ig (by kernel_rfl) (λc hc=>by cases hc) (by kernel_rfl) (b':=false) (by kernel_rfl) rfl ?_
         refine cQ (by kernel_rfl) (.inl rfl) (u:=.bool false) (by kernel_rfl) ?_
         try simp only[Act.put,List.setIfInBounds_toArray,List.set_cons_succ,List.set_cons_zero]
         refine gE (by kernel_rfl) hF ?_
         refine gE (by kernel_rfl) hF ?_
         refine ig (by kernel_rfl) (λc hc=>by cases hc) (by kernel_rfl) (b':=false) (by kernel_rfl) rfl ?_
         try simp only[Act.put,List.setIfInBounds_toArray,List.set_cons_succ,List.set_cons_zero]
         refine pT ?_
         try simp only[Act.put,List.setIfInBounds_toArray,List.set_cons_succ,List.set_cons_zero]
         refine wpIn_cond_false (by kernel_rfl) ?_
         refine wpIn_skip ?_
         exact⟨x31,x32,x33,x34,x35,x36,x37,x38,x39,.bool true,.bool false,.bool false,undef,undef,.bool false,(by kernel_rfl),by first|exact .inl rfl|simp,BW⟩
       | false=>
         refine ig (by kernel_rfl) (λc hc=>by cases hc) (by kernel_rfl) (b':=true) (by kernel_rfl) rfl ?_
         refine cQ (by kernel_rfl) (.inl rfl) (u:=.bool true) (by kernel_rfl) ?_
         refine cG (by kernel_rfl) rfl (by kernel_rfl) l6 ?_
         try simp only[Act.put,List.setIfInBounds_toArray,List.set_cons_succ,List.set_cons_zero]
         refine fO (by kernel_rfl) rfl (u:=.slice a3 L.length c3) (v:=.func (.func 64) #[] #[]) (by kernel_rfl) (by kernel_rfl) (by decide) hF eC ((callsIn_wide.2 (xY (he.step B0W) (D2.below BW).all (λx hx=>by have:=hLx x hx;omega))).mono ?_)
         rintro _ Wc ⟨_,rfl,rfl,hbc⟩
         refine⟨_,rfl,?_⟩
         have BWc:=ab BW hbc BW.size
         rcases Bool.eq_false_or_eq_true (L.all bD)with hall|hall
         rotate_left
         ·
           obtain⟨w4,w5,q4,q5,hl⟩:=none_ BWc (Fe hL hb.symm hall)
           refine ig (by kernel_rfl) (λc hc=>by cases hc) (by kernel_rfl) (b':= !L.all bD) (b:=true) (by kernel_rfl) (by simp[hall]) ?_
           refine pT ?_
           try simp only[Act.put,List.setIfInBounds_toArray,List.set_cons_succ,List.set_cons_zero]
           refine wpIn_cond_true (by kernel_rfl) ?_
           refine qo ?_
           apply wpIn_region_lit
           refine um (by kernel_rfl) (λc hc=>by cases hc) (by kernel_rfl) (v:=iN.v) (w':=Wc) (by kernel_rfl) ?_
           refine cC (by kernel_rfl) rfl (by kernel_rfl) (by kernel_rfl) q4 ?_
           refine cC (by kernel_rfl) rfl (by kernel_rfl) (by kernel_rfl) q5 ?_
           try simp only[Act.put,List.setIfInBounds_toArray,List.set_cons_succ,List.set_cons_zero]
           refine pT ?_
           try simp only[Act.put,List.setIfInBounds_toArray,List.set_cons_succ,List.set_cons_zero]
           exact wpIn_ret (hl (by kernel_rfl) (by kernel_rfl))
         ·
           refine ig (by kernel_rfl) (λc hc=>by cases hc) (by kernel_rfl) (b':= !L.all bD) (b:=false) (by kernel_rfl) (by simp[hall]) ?_
           refine pT ?_
           try simp only[Act.put,List.setIfInBounds_toArray,List.set_cons_succ,List.set_cons_zero]
           refine wpIn_cond_false (by kernel_rfl) ?_
           refine wpIn_skip ?_
           exact⟨x31,x32,x33,x34,x35,x36,x37,x38,x39,.bool false,.bool true,.bool true,.slice a3 L.length c3,.bool (!L.all bD),.bool false,(by kernel_rfl),by first|exact .inr hall|simp[hall],BWc⟩
     · rintro a' W ⟨x31,x32,x33,x34,x35,x36,x37,x38,x39,x40,x41,x42,x43,x44,x45,rfl,hbl,BW⟩
       have B0W:bW w W:=ab BV BW BV.size
       have l6:(Instr.loadAt az (.pointer (some ⟨k6,0,none⟩))).run prog W=.ok (.slice a3 L.length c3) W:=(D1.below BW).load1 cM rfl rfl
       have hJ:(Lib.join L [46]).length <=1001000:=Hj hLl hLx
       refine qo ?_
       apply wpIn_region_lit
       refine cG (by kernel_rfl) rfl (by kernel_rfl) l6 ?_
       refine fO (by kernel_rfl) rfl (u:=.slice a3 L.length c3) (v:=vS [46]) (by kernel_rfl) (by kernel_rfl) (by decide) hF eJ ((callsIn_wide.2 (yw (D2.below BW).all [46] (by omega) (by omega))).mono ?_)
       rintro _ Wj ⟨_,rfl,rfl,hbj⟩
       refine⟨_,rfl,?_⟩
       try simp only[Act.put,List.setIfInBounds_toArray,List.set_cons_succ,List.set_cons_zero]
       have BWj:=ab BW hbj BW.size
       have B0j:=ab BV BWj BV.size
       refine sm (by kernel_rfl) rfl (u:=vS (Lib.join L [46])) (by kernel_rfl) (by decide) hF eP ((callsIn_wide.2 (jz (Lib.join L [46]) (by omega) Wj (he.step B0j))).mono ?_)
       rintro _ Wp ⟨_,rfl,rfl,hbp⟩
       have BWp:=ab BWj hbp BWj.size
       obtain⟨Wq,hWq⟩:∃Wq,Wq=Wp.alloc (.cells iN.cells.toArray am):=⟨_,rfl⟩
       obtain⟨k10,hk10⟩:∃k,k=Wp.heap.size:=⟨_,rfl⟩
       have bq:bW Wp Wq:=hWq▸af Wp _
       have A10:ai Wq k10 am iN.cells:=ai.new hk10 hWq
       refine⟨_,rfl,?_⟩
       cases hv:eX (Lib.join L [46])with
       | none=>
         obtain⟨Wr,q10,A10',g10⟩:=bF.store0 (P:=prog) (cs:=iN.cells) rfl (Hst.one _) A10 rfl
         have BWr:bW V Wr:=ab BWp (Below.put bq g10 (by omega)) BWp.size
         obtain⟨w4,w5,q4,q5,hl⟩:=none_ BWr (Dx hL (b:=b) hb hbl hv)
         refine cQ (by kernel_rfl) (.inl rfl) (u:=.tuple #[iN.v,vI 31]) (by kernel_rfl) ?_
         refine um (by kernel_rfl) (λc hc=>by cases hc) (by kernel_rfl) (v:=iN.v) (w':=Wp) (by kernel_rfl) ?_
         try simp only[Act.put,List.setIfInBounds_toArray,List.set_cons_succ,List.set_cons_zero]
         refine um (by kernel_rfl) (λc hc=>by cases hc) (by kernel_rfl) (v:=vI 31) (w':=Wp) (by kernel_rfl) ?_
         refine wW (by kernel_rfl) rfl (v:=.pointer (some ⟨k10,0,none⟩)) (w':=Wq) (by rw[hk10,hWq];kernel_rfl) ?_
         refine cC (by kernel_rfl) rfl (by kernel_rfl) (by kernel_rfl) q10 ?_
         try simp only[Act.put,List.setIfInBounds_toArray,List.set_cons_succ,List.set_cons_zero]
         refine cQ (by kernel_rfl) (.inr rfl) (u:=vI 31) (by kernel_rfl) ?_
         refine pT ?_
         try simp only[Act.put,List.setIfInBounds_toArray,List.set_cons_succ,List.set_cons_zero]
         refine qo ?_
         refine qo ?_
         apply wpIn_region_lit
         refine cQ (by kernel_rfl) (.inl rfl) (u:=vI 31) (by kernel_rfl) ?_
         refine ig (by kernel_rfl) (λc hc=>by cases hc) (by kernel_rfl) (b':=true) (by kernel_rfl) rfl ?_
         refine cQ (by kernel_rfl) (.inl rfl) (u:=.bool true) (by kernel_rfl) ?_
         try simp only[Act.put,List.setIfInBounds_toArray,List.set_cons_succ,List.set_cons_zero]
         refine gE (by kernel_rfl) hF ?_
         refine gE (by kernel_rfl) hF ?_
         refine gE (by kernel_rfl) hF ?_
         try simp only[Act.put,List.setIfInBounds_toArray,List.set_cons_succ,List.set_cons_zero]
         refine gE (by kernel_rfl) hF ?_
         refine gE (by kernel_rfl) hF ?_
         refine gE (by kernel_rfl) hF ?_
         try simp only[Act.put,List.setIfInBounds_toArray,List.set_cons_succ,List.set_cons_zero]
         refine gE (by kernel_rfl) hF ?_
         refine ig (by kernel_rfl) (λc hc=>by cases hc) (by kernel_rfl) (b':=true) (by kernel_rfl) rfl ?_
         refine pT ?_
         try simp only[Act.put,List.setIfInBounds_toArray,List.set_cons_succ,List.set_cons_zero]
         refine wpIn_cond_true (by kernel_rfl) ?_
         refine qo ?_
         apply wpIn_region_lit
         refine um (by kernel_rfl) (λc hc=>by cases hc) (by kernel_rfl) (v:=iN.v) (w':=Wr) (by kernel_rfl) ?_
         refine cC (by kernel_rfl) rfl (by kernel_rfl) (by kernel_rfl) q4 ?_
         refine cC (by kernel_rfl) rfl (by kernel_rfl) (by kernel_rfl) q5 ?_
         try simp only[Act.put,List.setIfInBounds_toArray,List.set_cons_succ,List.set_cons_zero]
         refine pT ?_
         try simp only[Act.put,List.setIfInBounds_toArray,List.set_cons_succ,List.set_cons_zero]
         exact wpIn_ret (hl (by kernel_rfl) (by kernel_rfl))
       | some h=>
         have og:=fM hv
         obtain⟨Wr,q10,A10',g10⟩:=bF.store0 (P:=prog) (cs:=h.cells) (Hst.len og) (Hst.one _) A10 rfl
         have BWr:bW V Wr:=ab BWp (Below.put bq g10 (by omega)) BWp.size
         have l10:(Instr.loadAt am (.pointer (some ⟨k10,0,none⟩))).run prog Wr=.ok h.v Wr:=bF.load0 A10' (Hst.len og)
         refine cQ (by kernel_rfl) (.inl rfl) (u:=.tuple #[h.v,vI 0]) (by kernel_rfl) ?_
         refine um (by kernel_rfl) (λc hc=>by cases hc) (by kernel_rfl) (v:=h.v) (w':=Wp) (by kernel_rfl) ?_
         refine um (by kernel_rfl) (λc hc=>by cases hc) (by kernel_rfl) (v:=vI 0) (w':=Wp) (by kernel_rfl) ?_
         try simp only[Act.put,List.setIfInBounds_toArray,List.set_cons_succ,List.set_cons_zero]
         refine wW (by kernel_rfl) rfl (v:=.pointer (some ⟨k10,0,none⟩)) (w':=Wq) (by rw[hk10,hWq];kernel_rfl) ?_
         refine cC (by kernel_rfl) rfl (by kernel_rfl) (by kernel_rfl) q10 ?_
         refine cQ (by kernel_rfl) (.inr rfl) (u:=vI 0) (by kernel_rfl) ?_
         try simp only[Act.put,List.setIfInBounds_toArray,List.set_cons_succ,List.set_cons_zero]
         refine pT ?_
         try simp only[Act.put,List.setIfInBounds_toArray,List.set_cons_succ,List.set_cons_zero]
         refine qo ?_
         refine qo ?_
         apply wpIn_region_lit
         refine cQ (by kernel_rfl) (.inl rfl) (u:=vI 0) (by kernel_rfl) ?_
         refine ig (by kernel_rfl) (λc hc=>by cases hc) (by kernel_rfl) (b':=false) (by kernel_rfl) rfl ?_
         refine cQ (by kernel_rfl) (.inl rfl) (u:=.bool false) (by kernel_rfl) ?_
         try simp only[Act.put,List.setIfInBounds_toArray,List.set_cons_succ,List.set_cons_zero]
         refine cQ (by kernel_rfl) (.inl rfl) (u:=.bool b) (by kernel_rfl) ?_
         cases b with
         | true=>
           obtain⟨w4,w5,q4,q5,hl⟩:=some_ BWr og ((sp hL hb.symm).trans hv)
           refine ig (by kernel_rfl) (λc hc=>by cases hc) (by kernel_rfl) (b':=false) (by kernel_rfl) rfl ?_
           refine cQ (by kernel_rfl) (.inl rfl) (u:=.bool false) (by kernel_rfl) ?_
           try simp only[Act.put,List.setIfInBounds_toArray,List.set_cons_succ,List.set_cons_zero]
           refine gE (by kernel_rfl) hF ?_
           refine gE (by kernel_rfl) hF ?_
           refine gE (by kernel_rfl) hF ?_
           try simp only[Act.put,List.setIfInBounds_toArray,List.set_cons_succ,List.set_cons_zero]
           refine ig (by kernel_rfl) (λc hc=>by cases hc) (by kernel_rfl) (b':=false) (by kernel_rfl) rfl ?_
           refine ig (by kernel_rfl) (λc hc=>by cases hc) (by kernel_rfl) (b':=false) (by kernel_rfl) rfl ?_
           refine pT ?_
           try simp only[Act.put,List.setIfInBounds_toArray,List.set_cons_succ,List.set_cons_zero]
           refine wpIn_cond_false (by kernel_rfl) ?_
           refine wpIn_skip ?_
           refine qo ?_
           apply wpIn_region_lit
           refine cG (by kernel_rfl) rfl (by kernel_rfl) l10 ?_
           refine cC (by kernel_rfl) rfl (by kernel_rfl) (by kernel_rfl) q4 ?_
           refine cC (by kernel_rfl) rfl (by kernel_rfl) (by kernel_rfl) q5 ?_
           try simp only[Act.put,List.setIfInBounds_toArray,List.set_cons_succ,List.set_cons_zero]
           refine pT ?_
           try simp only[Act.put,List.setIfInBounds_toArray,List.set_cons_succ,List.set_cons_zero]
           exact wpIn_ret (hl (by kernel_rfl) (by kernel_rfl))
         | false=>
           have hall:L.all bD=true:=hbl.resolve_left (by simp)
           have eo:=zM hL hb.symm hall hv
           refine ig (by kernel_rfl) (λc hc=>by cases hc) (by kernel_rfl) (b':=true) (by kernel_rfl) rfl ?_
           refine cQ (by kernel_rfl) (.inl rfl) (u:=.bool true) (by kernel_rfl) ?_
           refine um (by kernel_rfl) (λc hc=>by cases hc) (by kernel_rfl) (v:=.pointer (some ⟨k10,0,none⟩)) (w':=Wr) (by kernel_rfl) ?_
           try simp only[Act.put,List.setIfInBounds_toArray,List.set_cons_succ,List.set_cons_zero]
           refine cG (by kernel_rfl) rfl (by kernel_rfl) (A10'.load1 (i:=0) aC rfl (v:=vI h.kind) rfl) ?_
           by_cases hk:h.kind=1
           · rw[if_pos hk]at eo
             obtain⟨w4,w5,q4,q5,hl⟩:=some_ BWr og eo
             refine ig (by kernel_rfl) (λc hc=>by cases hc) (by kernel_rfl) (b':=h.kind !=1) (b:=false) (by kernel_rfl) (by simp[hk]) ?_
             refine ig (by kernel_rfl) (λc hc=>by cases hc) (by kernel_rfl) (b':=false) (by kernel_rfl) rfl ?_
             try simp only[Act.put,List.setIfInBounds_toArray,List.set_cons_succ,List.set_cons_zero]
             refine ig (by kernel_rfl) (λc hc=>by cases hc) (by kernel_rfl) (b':=false) (by kernel_rfl) rfl ?_
             refine pT ?_
             try simp only[Act.put,List.setIfInBounds_toArray,List.set_cons_succ,List.set_cons_zero]
             refine wpIn_cond_false (by kernel_rfl) ?_
             refine wpIn_skip ?_
             refine qo ?_
             apply wpIn_region_lit
             refine cG (by kernel_rfl) rfl (by kernel_rfl) l10 ?_
             refine cC (by kernel_rfl) rfl (by kernel_rfl) (by kernel_rfl) q4 ?_
             refine cC (by kernel_rfl) rfl (by kernel_rfl) (by kernel_rfl) q5 ?_
             try simp only[Act.put,List.setIfInBounds_toArray,List.set_cons_succ,List.set_cons_zero]
             refine pT ?_
             try simp only[Act.put,List.setIfInBounds_toArray,List.set_cons_succ,List.set_cons_zero]
             exact wpIn_ret (hl (by kernel_rfl) (by kernel_rfl))
           · rw[if_neg hk]at eo
             obtain⟨w4,w5,q4,q5,hl⟩:=none_ BWr eo
             refine ig (by kernel_rfl) (λc hc=>by cases hc) (by kernel_rfl) (b':=h.kind !=1) (by kernel_rfl) (bne_iff_ne.2 hk) ?_
             refine ig (by kernel_rfl) (λc hc=>by cases hc) (by kernel_rfl) (b':=true) (by kernel_rfl) rfl ?_
             refine ig (by kernel_rfl) (λc hc=>by cases hc) (by kernel_rfl) (b':=true) (by kernel_rfl) rfl ?_
             try simp only[Act.put,List.setIfInBounds_toArray,List.set_cons_succ,List.set_cons_zero]
             refine pT ?_
             try simp only[Act.put,List.setIfInBounds_toArray,List.set_cons_succ,List.set_cons_zero]
             refine wpIn_cond_true (by kernel_rfl) ?_
             refine qo ?_
             apply wpIn_region_lit
             refine um (by kernel_rfl) (λc hc=>by cases hc) (by kernel_rfl) (v:=iN.v) (w':=Wr) (by kernel_rfl) ?_
             refine cC (by kernel_rfl) rfl (by kernel_rfl) (by kernel_rfl) q4 ?_
             refine cC (by kernel_rfl) rfl (by kernel_rfl) (by kernel_rfl) q5 ?_
             try simp only[Act.put,List.setIfInBounds_toArray,List.set_cons_succ,List.set_cons_zero]
             refine pT ?_
             try simp only[Act.put,List.setIfInBounds_toArray,List.set_cons_succ,List.set_cons_zero]
             exact wpIn_ret (hl (by kernel_rfl) (by kernel_rfl))
 case stop=>
   rintro D c pre W _ hp ⟨x,hx,hno⟩ _
   exact absurd (hw0 _ (hp x hx)) hno
theorem ur {ws:List Int}{w:World}(he:Env w){p:Option Addr}{ts:List Txt}(hA:fH w p ts)(htl:ts.length <=100000){a:Option Addr}{n c:Nat}(hs:Sl bY w jD a n c ws)(hin:∀b o,a=some ⟨b,o,none⟩->b<w.heap.size)
   (hw0:∀x∈ws,0 <=x/\x <=(ts.length:Int)) (hwl:ws.length <=1000) (hxl:∀x∈txs ts ws,x.length <=1000):
   Cf oI #[.pointer p,.slice a n c] w (Ret λv w'=>v=.tuple #[((cU (txs ts ws)).getD iN).v,.bool (cU (txs ts ws)).isSome]/\bW w w'):=
 (callsIn_wide.1 (uq he hA htl hs hin hw0 hwl hxl)).mono λe w' ⟨he,hb⟩=>⟨_,he,rfl,hb⟩
end
noncomputable def vT (ts:List Txt):DA:=hD (hAd ts) (hLb ts) (hDg ts) (ts.length+1)
theorem Gc {ts:List Txt}(hl:ts.length <=60)(hx:∀t∈ts,t.length <=1000){x:Nat}(h:x <=ts.length):(tx ts x).length <=1000:=by
 rcases Nat.lt_or_ge x ts.length with h1|h1
 · rw[Jr h1];exact hx _ (List.getElem_mem h1)
 · have:x=ts.length:=by omega
   subst this
   rw[Cb]
   have:=(gz (pE hl)).2.1
   omega
set_option maxHeartbeats 1000000 in
theorem sI {w:World}(he:Env w){p:Option Addr}{ts:List Txt}(hA:fH w p ts)(htl:ts.length <=60)(hx:∀t∈ts,t.length <=1000):Cf jN #[.pointer p] w (Ret (pj w (vT ts))):=by
 apply rK
 intro k2 w2 hk2 hw2
 have hb2:=(hw2▸af w _:bW w w2)
 have A2:ai w2 k2 ae [vI 0,vI 0,.slice none 0 0,.slice none 0 0]:=ai.new hk2 hw2
 refine aw (ci p ts (by omega) w2 (hA.below hb2)) ?_
 rintro _ w9 ⟨rfl,hw9⟩
 rw[hw9];clear hw9 w9
 have hlen:((ts.length:Int)+1)=((ts.length+1:Nat):Int):=by omega
 obtain⟨k,hkk⟩:∃k,k=ts.length+1:=⟨_,rfl⟩
 refine⟨_,rfl,ah.no (decide_eq_false (by omega)) ?_⟩
 rw[hlen,<- hkk]
 have e4:i64.wrap ((4:Int)*((k:Nat):Int))=((4*k:Nat):Int):=by rw[ar (by omega) (by omega)];omega
 try dsimp only
 rw[e4]
 obtain⟨w16,a16,s16,o16,b16,f16⟩:=qz (P:=prog) (s:=aj) (t:=aq) (e:=λn=>vI n) (h1:=λ_=>rfl) (p:=λ_=>True) aA dk (x0:=(0:Int)) rfl rfl trivial .i64 .i64 (4*k) (by omega) (by omega) w2 NoB
 refine⟨w16,a16,_,_,s16,?_⟩
 intro k17 w17 hk17 hw17 k5 w5 hk5 hw5
 have hb17:=(hw17▸af w16 _:bW w16 w17)
 have hb5:=(hw5▸af w17 _:bW w17 w5)
 have O17:Ow ij bv w17 NoB (some ⟨k17,0,none⟩) 4 4 [false,false,true,true]:=
   Ow.newF (l:=[Value.bool false,.bool false,.bool true,.bool true]) (T:=ij) qh hk17 hw17 (gK (e:=λb=>Value.bool b) (h1:=λ_=>rfl) (p:=λ_=>True) (xs:=[false,false,true,true]) (λ_ _=>trivial)) (by decide)
 have A5:ai w5 k5 ae [vI 0,vI 0,.slice none 0 0,.slice none 0 0]:=ai.new hk5 hw5
 obtain⟨d0',hd0⟩:∃d:DA,d=⟨(k:Int),1,List.replicate (4*k) 0,[false,false,true,true]⟩:=⟨_,rfl⟩
 obtain⟨wx,s3,v3,g3⟩:=bh.store0 (P:=prog) (cs:=daL a16 (4*k) (4*k) (some ⟨k17,0,none⟩) 4 4 d0') rfl (dt _ _ _ _ _ _ _) A5 rfl
 have s2:=hb2.size
 have s16':=b16.size
 have s17:=hb17.size
 have s5:=hb5.size
 have l2:=A2.lt
 have l17:k17<w17.heap.size:=O17.lt k17 (by simp[bi])
 have ob17:∀g,bi (some (⟨k17,0,none⟩:Addr))=some g->g=k17:=λg hg=>by simp[bi]at hg;exact hg.symm
 have hB5:bW w w5:=ab (ab (ab hb2 b16 hb2.size) hb17 (by omega)) hb5 (by omega)
 have hBx:bW w wx:=Below.put hB5 g3 (by omega)
 have bx5:bW w5 w5:=Below.refl _ _
 have n5:∀g,bi a16=some g->g≠k5:=λg hg e=>by have:=o16.lt g hg;omega
 have U0:UpS w k5 0 ⟨(k:Int),1,hNx (hAd ts) (hLb ts) (hDg ts) k 0,[false,false,true,true]⟩ a16 (4*k) (4*k) (some ⟨k17,0,none⟩) 4 4 wx:=by
   rw[He]
   rw[hd0]at v3
   refine⟨⟨v3,((o16.below hb17).below hb5).put (λg hg e=>n5 g hg e) g3,(O17.below hb5).put (λg hg e=>by have:=ob17 g hg;omega) g3,n5,λg hg e=>by have:=ob17 g hg;omega,λg hg e=>?_⟩,hBx,λg hg=>by have:=f16 g hg;omega,λg hg=>by have:=ob17 g hg;omega,Nat.zero_le _⟩
   have:=ob17 g e
   have:=o16.lt g hg
   omega
 have A2x:∀{W:World},bW w2 W->ai W k2 ae [vI 0,vI 0,.slice none 0 0,.slice none 0 0]:=λh=>A2.below h
 have hB2x:bW w2 wx:=Below.put (ab (ab b16 hb17 (by omega)) hb5 (by omega)) g3 (by omega)
 rw[hd0]at s3
 refine⟨wx,s3,λm i W=>∃j:Nat,j <=k/\i=(j:Int)/\m=k-j/\UpS w k5 0 ⟨(k:Int),1,hNx (hAd ts) (hLb ts) (hDg ts) k j,[false,false,true,true]⟩ a16 (4*k) (4*k) (some ⟨k17,0,none⟩) 4 4 W/\bW w2 W,⟨_,0,by omega,rfl,rfl,U0,hB2x⟩,?_⟩
 intro m i
 refine aL.of ?_ _
 rintro wl ⟨j,hj,rfl,rfl,U,hW2⟩
 have hnl:∀j,(hNx (hAd ts) (hLb ts) (hDg ts) k j).length=4*k:=λj=>rv _ _ _ _ _
 refine ah.of (λh3=>?_) (λh3=>?_) <;> simp only[dTx,dFx]at h3
 · have hjk:j<k:=by omega
   refine aw (kV p ts (by omega) (j:Int) wl (hA.below U.bel)) ?_
   rintro _ w25 ⟨rfl,hb25⟩
   have hst:mO ts (j:Int)=tx ts j:=rfl
   have hl1:(tx ts j).length <=1000:=Gc htl hx (by omega)
   refine⟨_,rfl,?_⟩
   rw[hst]
   have B25:=ab U.bel hb25 U.bel.size
   refine aw (ky (tx ts j) (by omega) w25 (he.step B25)) ?_
   rintro _ w28 ⟨rfl,hb28⟩
   have hb28':=ab hb25 hb28 hb25.size
   have put:∀{W:World} {nx:List Int} (c:Nat) (v:Int),c<4->nx.length=4*k->UpS w k5 0 ⟨(k:Int),1,nx,[false,false,true,true]⟩ a16 (4*k) (4*k) (some ⟨k17,0,none⟩) 4 4 W->bW w2 W->
       (Instr.loadAt aj (.pointer (some ⟨k5,2,none⟩))).run prog W=.ok (.slice a16 (4*k) (4*k)) W/\((0 <=i64.wrap (i64.wrap ((c:Int)*((k:Nat):Int))+(j:Int))/\i64.wrap (i64.wrap ((c:Int)*((k:Nat):Int))+(j:Int))<((4*k:Nat):Int))/\Option.isSome a16=true)/\
       ∃wy,(Instr.storeAt aq (.pointer (ak a16 (i64.wrap (i64.wrap ((c:Int)*((k:Nat):Int))+(j:Int))) 1)) (vI v)).run prog W=.ok () wy/\UpS w k5 0 ⟨(k:Int),1,nx.set (c*k+j) v,[false,false,true,true]⟩ a16 (4*k) (4*k) (some ⟨k17,0,none⟩) 4 4 wy/\bW w2 wy:=by
     intro W nx c v hc hn U hW
     have hck:c*k <=3*k:=Nat.mul_le_mul_right k (by omega)
     have e1:i64.wrap (i64.wrap ((c:Int)*((k:Nat):Int))+(j:Int))=((c*k+j:Nat):Int):=by
       rw[<- Int.natCast_mul,ar (n:=((c*k:Nat):Int)) (by omega) (by omega),ar (by omega) (by omega)];omega
     rw[e1]
     have hidx:c*k+j<nx.length:=by omega
     obtain⟨wy,s6,o6,g6⟩:=U.mb.nx.store (P:=prog) dk (i:=((c*k+j:Nat):Int)) (k:=1) (λ_ _ h=>h) (by rw[Int.toNat_natCast];exact hidx) rfl (v:=vI v) (x:=v) cS
     rw[Int.toNat_natCast]at o6
     refine⟨U.mb.var.load1 aA rfl rfl,⟨⟨by omega,by omega⟩,U.mb.nx.all.isSome hidx⟩,wy,s6,⟨⟨U.mb.var.grown g6 (λex=>U.mb.na k5 ex.symm rfl),o6,U.mb.ac.other g6 (λg hg ex=>U.mb.ne g ex hg),U.mb.na,U.mb.nb,U.mb.ne⟩,U.bel.grown g6 U.bel.size λg hg=>U.fa g hg,U.fa,U.fb,Nat.zero_le _⟩,hW.grown g6 hW.size λg hg=>?_⟩
     exact f16 g hg
   have up:∀{W:World} {nx:List Int} {W':World},UpS w k5 0 ⟨(k:Int),1,nx,[false,false,true,true]⟩ a16 (4*k) (4*k) (some ⟨k17,0,none⟩) 4 4 W->bW W W'->UpS w k5 0 ⟨(k:Int),1,nx,[false,false,true,true]⟩ a16 (4*k) (4*k) (some ⟨k17,0,none⟩) 4 4 W':=λU hb=>⟨U.mb.below hb,ab U.bel hb U.bel.size,U.fa,U.fb,Nat.zero_le _⟩
   have again:∀{W:World} {nx:List Int},nx=hNx (hAd ts) (hLb ts) (hDg ts) k (j+1)->UpS w k5 0 ⟨(k:Int),1,nx,[false,false,true,true]⟩ a16 (4*k) (4*k) (some ⟨k17,0,none⟩) 4 4 W->bW w2 W->
       ∃m':Nat,m'<k-j/\∃j':Nat,j' <=k/\i64.wrap ((j:Int)+1)=(j':Int)/\m'=k-j'/\UpS w k5 0 ⟨(k:Int),1,hNx (hAd ts) (hLb ts) (hDg ts) k j',[false,false,true,true]⟩ a16 (4*k) (4*k) (some ⟨k17,0,none⟩) 4 4 W/\bW w2 W:=by
     rintro W nx rfl U hW
     exact⟨k-(j+1),by omega,j+1,by omega,by rw[ar (by omega) (by omega)];omega,rfl,U,hW⟩
   have U28:=up U hb28'
   have W28:bW w2 w28:=ab hW2 hb28' hW2.size
   refine⟨_,rfl,ah.of (λc1=>?_) (λc1=>?_)⟩
   · obtain⟨q1,q2,wy,q3,U',W'⟩:=put 1 3 (by omega) (hnl j) U28 W28
     exact⟨rfl,a16,_,_,q1,q2,wy,q3,again (yl (by omega) (by rw[show hAd ts j=true from c1];simp)) U' W'⟩
   · refine aw (mq (tx ts j) (by omega) w28 (he.step U28.bel)) ?_
     rintro _ w38 ⟨rfl,hb38⟩
     have U38:=up U28 hb38
     have W38:bW w2 w38:=ab W28 hb38 W28.size
     have c1':hAd ts j=false:=c1
     refine⟨_,rfl,ah.of (λc2=>?_) (λc2=>?_)⟩
     · have c2':hLb ts j=true:=c2
       obtain⟨q1,q2,wy,q3,U',W'⟩:=put 2 2 (by omega) (hnl j) U38 W38
       refine⟨rfl,a16,_,_,q1,q2,wy,q3,?_⟩
       refine aw (j1 (tx ts j) (by omega) wy) ?_
       rintro _ w47 ⟨rfl,hb47⟩
       have U47:=up U' hb47
       have W47:bW w2 w47:=ab W' hb47 W'.size
       refine⟨_,rfl,ah.of (λc3=>?_) (λc3=>?_)⟩
       · have c3':hDg ts j=false:=by
           have:(!fj (tx ts j))=true:=c3
           show fj (tx ts j)=false
           simpa using this
         obtain⟨r1,r2,wz,r3,U'',W''⟩:=put 1 2 (by omega) (by rw[List.length_set];exact hnl j) U47 W47
         exact⟨rfl,a16,_,_,r1,r2,wz,r3,again (yl (by omega) (by rw[c1',c2',c3'];simp)) U'' W''⟩
       · have c3':hDg ts j=true:=by
           have:(!fj (tx ts j))=false:=c3
           show fj (tx ts j)=true
           simpa using this
         exact again (yl (by omega) (by rw[c1',c2',c3'];simp)) U47 W47
     · have c2':hLb ts j=false:=c2
       exact again (yl (by omega) (by rw[c1',c2'];simp)) U38 W38
 · have hjk:j=k:=by omega
   subst hjk
   have eD:(⟨(j:Int),1,hNx (hAd ts) (hLb ts) (hDg ts) j j,[false,false,true,true]⟩:DA)=vT ts:=by unfold vT hD;rw[hkk]
   rw[eD]at U
   obtain⟨w9,s9,s9',g9⟩:=cR (A2x hW2) rfl a16 (4*j) (4*j) (some ⟨k17,0,none⟩) 4 4 (vT ts)
   have OO:ri w.heap.size wl a16 (4*j) (4*j) (some ⟨k17,0,none⟩) 4 4 (vT ts):=⟨U.mb.nx,U.mb.ac,U.mb.ne,U.fa,U.fb⟩
   have f2:∀g,bi a16=some g->g≠k2:=λg hg e=>by have:=f16 g hg;omega
   have O9:ri w.heap.size w9 a16 (4*j) (4*j) (some ⟨k17,0,none⟩) 4 4 (vT ts):=⟨U.mb.nx.put (λg hg e=>f2 g hg e) g9,U.mb.ac.put (λg hg e=>by have:=ob17 g hg;omega) g9,U.mb.ne,U.fa,U.fb⟩
   exact⟨_,_,a16,_,_,some ⟨k17,0,none⟩,4,4,bh.load0 (cs:=daL a16 (4*j) (4*j) (some ⟨k17,0,none⟩) 4 4 (vT ts)) U.mb.var rfl,w9,s9,_,_,a16,_,_,some ⟨k17,0,none⟩,4,4,s9',a16,_,_,some ⟨k17,0,none⟩,4,4,rfl,O9,Below.put U.bel g9 (by omega)⟩
def fg (d:DA)(j t:Nat):List (Int×Int):=((List.range j).filter λi=>decide ((d.nx.getD i 0).toNat=t)).map λi=>(((i/d.K:Nat):Int),((i%d.K:Nat):Int))
theorem vL (d:DA)(j t:Nat):fg d (j+1) t=fg d j t++(if(d.nx.getD j 0).toNat=t then[(((j/d.K:Nat):Int),((j%d.K:Nat):Int))]else[]):=by
 unfold fg
 rw[List.range_succ,List.filter_append,List.map_append]
 congr 1
 by_cases h:(d.nx.getD j 0).toNat=t
 · rw[if_pos h,List.filter_cons,if_pos (decide_eq_true h)];rfl
 · rw[if_neg h,List.filter_cons,if_neg (by simpa only[dTx]using h)];rfl
theorem xh {d:DA}(hd:d.Ok){t:Nat}{p:Int×Int} :p∈fg d d.nx.length t ↔ ∃f x:Nat,p=((f:Int),(x:Int))/\f<d.n/\x<d.K/\d.to f x=t:=by
 have hK:0<d.K:=by have:=hd.k1;show 0<d.k.toNat;omega
 unfold fg
 rw[List.mem_map]
 constructor
 · rintro⟨i,hi,rfl⟩
   rw[List.mem_filter,List.mem_range,dTx]at hi
   obtain⟨h1,h2⟩:=hi
   rw[hd.lenN]at h1
   refine⟨i/d.K,i%d.K,rfl,Nat.div_lt_of_lt_mul (by rw[Nat.mul_comm];exact h1),Nat.mod_lt _ hK,?_⟩
   unfold DA.to
   rw[show i/d.K*d.K+i%d.K=i from by rw[Nat.mul_comm];exact Nat.div_add_mod i d.K]
   exact h2
 · rintro⟨f,x,rfl,hf,hx,e⟩
   have hi:f*d.K+x<d.n*d.K:=qt hf hx
   refine⟨f*d.K+x,?_,?_⟩
   · rw[List.mem_filter,List.mem_range,dTx,hd.lenN]
     exact⟨hi,e⟩
   · have e1:(f*d.K+x)/d.K=f:=by rw[Nat.mul_comm,Nat.mul_add_div hK,Nat.div_eq_of_lt hx,Nat.add_zero]
     have e2:(f*d.K+x)%d.K=x:=by rw[Nat.mul_comm,Nat.mul_add_mod];exact Nat.mod_eq_of_lt hx
     rw[e1,e2]
structure Rnd (d:DA)(cs:List Int)(C:Int)(out:List Int)(H:Hp):Prop where
 inv:Gt d cs C out
 hin:HIn d out H
 pend:∀s,s<d.n->Gv d cs out H s
structure Mid (d:DA)(cs:List Int)(C:Int)(out:List Int)(H:Hp)(st:Nat)(c:Int)(j:Nat):Prop where
 inv:Gt d cs C out
 hin:HIn d out H
 lt:st<d.n
 cost:oAt out st=c
 fin:c <=68719476736-1048576
 pend:∀s,s<d.n->s≠st->Gv d cs out H s
 done:∀f x:Nat,((f:Int),(x:Int))∈(fg d d.nx.length st).take j->oAt out f <=c+cAt cs x
theorem Rnd.first {d:DA}{cs:List Int}{C:Int}{out:List Int}{H:Hp}(hl:out.length=d.n)(h:∀s,s<d.n->oAt out s=if d.acc s=true then 0 else INF)(hH:∀c s,(c,s)∈H ↔ c=0/\s<d.n/\d.acc s=true):Rnd d cs C out H:=by
 refine⟨Gt.first hl h,λp hp=>?_,λs hs hi=>?_⟩
 · obtain⟨c,s⟩:=p
   obtain⟨h1,h2,h3⟩:=(hH c s).1 hp
   refine⟨h2,?_,?_⟩
   · show oAt out s <=c
     rw[h s h2,if_pos h3,h1];exact Int.le_refl _
   · show c <=_
     rw[h1];decide
 · left
   rw[h s hs]at hi ⊢
   by_cases ha:d.acc s=true
   · rw[if_pos ha];exact(hH 0 s).2 ⟨rfl,hs,ha⟩
   · rw[if_neg ha]at hi;exact absurd rfl hi
theorem HIn.perm {d:DA}{out:List Int}{H H':Hp}(h:HIn d out H)(hs:∀p∈H',p∈H):HIn d out H':=λp hp=>h p (hs p hp)
theorem Rnd.skip {d:DA}{cs:List Int}{C:Int}{out:List Int}{H H':Hp}{c:Int}{st:Nat}(h:Rnd d cs C out H)(hp:H.Perm ((c,st)::H'))(hc:oAt out st<c):Rnd d cs C out H':=by
 refine⟨h.inv,h.hin.perm λp hm=>hp.mem_iff.2 (List.mem_cons_of_mem _ hm),λs hs hi=>?_⟩
 rcases h.pend s hs hi with h1|h1
 · rcases List.mem_cons.1 (hp.mem_iff.1 h1)with h2|h2
   · obtain⟨e1,e2⟩:=Prod.mk.inj h2
     subst e2;omega
   · exact .inl h2
 · exact .inr h1
theorem Rnd.take {d:DA}(hd:d.Ok){cs:List Int}{C:Int}(hC:GF cs C){out:List Int}{H H':Hp}{c:Int}{st:Nat}(h:Rnd d cs C out H)(hp:H.Perm ((c,st)::H'))(hc: ¬ oAt out st<c):Mid d cs C out H' st c 0:=by
 have hm:(c,st)∈H:=hp.mem_iff.2 List.mem_cons_self
 obtain⟨h1,h2,h3⟩:=h.hin _ hm
 have e:oAt out st=c:=by
   have h2:oAt out st <=c:=h2
   omega
 have hI:=sq
 have hne:oAt out st≠INF:=by
   have h3:c <=68719476736:=h3
   omega
 refine⟨h.inv,h.hin.perm λp hm=>hp.mem_iff.2 (List.mem_cons_of_mem _ hm),h1,e,?_,λs hs hst hi=>?_,λf x hx=>by simp at hx⟩
 · rw[<- e];exact(h.inv.bnd st h1 hne).le hd (by have:=hC.lo;omega) hC.hi h1
 · rcases h.pend s hs hi with h4|h4
   · rcases List.mem_cons.1 (hp.mem_iff.1 h4)with h5|h5
     · exact absurd (Prod.mk.inj h5).2 hst
     · exact .inl h5
   · exact .inr h4
theorem xB {α:Type}{l:List α}{j:Nat}{x:α}(h:l[j]? =some x):l.take (j+1)=l.take j++[x]:=by
 obtain⟨h1,h2⟩:=List.getElem?_eq_some_iff.1 h
 rw[List.take_succ_eq_append_getElem h1,h2]
theorem Mid.no {d:DA}{cs:List Int}{C:Int}{out:List Int}{H:Hp}{st:Nat}{c:Int}{j f x:Nat}(h:Mid d cs C out H st c j)(hj:(fg d d.nx.length st)[j]? =some ((f:Int),(x:Int)))(hn: ¬ c+cAt cs x<oAt out f):Mid d cs C out H st c (j+1):=
 ⟨h.inv,h.hin,h.lt,h.cost,h.fin,h.pend,λg y hg=>by
   rw[xB hj]at hg
   rcases List.mem_append.1 hg with hg|hg
   · exact h.done g y hg
   · rw[List.mem_singleton]at hg
     obtain⟨e1,e2⟩:=Prod.mk.inj hg
     have e1:g=f:=by omega
     have e2:y=x:=by omega
     subst e1 e2;omega⟩
theorem Mid.yes {d:DA}(hd:d.Ok){cs:List Int}{C:Int}{out:List Int}(hc:pk cs)(hC:GF cs C)(hk:cs.length=d.K){H H':Hp}{st:Nat}{c:Int}{j f x:Nat}(h:Mid d cs C out H st c j)(hj:(fg d d.nx.length st)[j]? =some ((f:Int),(x:Int)))
   (hf:f<d.n) (hx:x<d.K) (ht:d.to f x=st) (hy:c+cAt cs x<oAt out f) (hH:∀p,p∈H' ↔ p=(c+cAt cs x,f)\/p∈H):Mid d cs C (out.set f (c+cAt cs x)) H' st c (j+1):=by
 have hcx:=hc.at (x:=x) (by omega)
 have hI:=sq
 have hfin:=h.fin
 have hst:=h.cost
 have hne:f≠st:=λe=>by subst e;omega
 have hfl:f<out.length:=by rw[h.inv.len];exact hf
 have hi:oAt out st≠INF:=by omega
 have hinv:=h.inv.down hd hc hC hk hf hx ht hi (v:=c+cAt cs x) (by omega) hy
 refine⟨hinv,(HIn.down hfl hf hy (by omega) h.hin).perm λp hp=>?_,h.lt,by rw[cz hne];exact hst,hfin,λs hs hss hsi=>?_,λg y hg=>?_⟩
 · rcases(hH p).1 hp with rfl|hp
   · exact List.mem_cons_self
   · exact List.mem_cons_of_mem _ hp
 · by_cases e:f=s
   · subst e
     left
     rw[cY hfl]
     exact(hH _).2 (.inl rfl)
   · exact(Gv.down hfl hy e ((h.pend s hs hss).sub λp hp=>(hH p).2 (.inr hp))) hsi
 · have hle:oAt (out.set f (c+cAt cs x)) g <=oAt out g:=by
     by_cases e:f=g
     · subst e;rw[cY hfl];omega
     · rw[cz e];exact Int.le_refl _
   rw[xB hj]at hg
   rcases List.mem_append.1 hg with hg|hg
   · have:=h.done g y hg;omega
   · rw[List.mem_singleton]at hg
     obtain⟨e1,e2⟩:=Prod.mk.inj hg
     have e1:g=f:=by omega
     have e2:y=x:=by omega
     subst e1 e2
     rw[cY hfl]
     exact Int.le_refl _
theorem Mid.over {d:DA}(hd:d.Ok){cs:List Int}{C:Int}{out:List Int}{H:Hp}{st:Nat}{c:Int}{j:Nat}(h:Mid d cs C out H st c j)(hj:(fg d d.nx.length st).length <=j):Rnd d cs C out H:=by
 refine⟨h.inv,h.hin,λs hs=>?_⟩
 by_cases e:s=st
 · subst e
   intro _
   right
   intro f x hf hx ht
   have:=h.done f x (by rw[List.take_of_length_le hj];exact(xh hd).2 ⟨f,x,rfl,hf,hx,ht⟩)
   rw[h.cost];exact this
 · exact h.pend s hs e
theorem Rnd.left {d:DA}(hd:d.Ok){cs:List Int}{C:Int}{out:List Int}(hc:pk cs)(hC:GF cs C)(hk:cs.length=d.K)(h:Rnd d cs C out []):oE d cs out:=h.inv.done hd hc hC hk h.pend
def Lh:Ty (List Pi) where
 k:=1
 pos:=by decide
 rep:=λw A vs xs=>∃a n c,vs=[.slice a n c]/\Sl tP w A a n c xs
 len:=λh=>by obtain⟨a,n,c,e,_⟩:=h;rw[e];rfl
 one:=fun{_ _ _ x} h v hv=>by obtain⟨a,n,c,e,_⟩:=h;rw[e]at hv;simp at hv;subst hv;rfl
 keep:=λh hk=>by obtain⟨a,n,c,e,hs⟩:=h;exact⟨a,n,c,e,hs.keep hk⟩
 mono:=λh hA=>by obtain⟨a,n,c,e,hs⟩:=h;exact⟨a,n,c,e,hs.mono hA⟩
structure Hd where
 a:Option Addr
 n:Nat
 c:Nat
 xs:List Pi
def Hd.v (h:Hd):Value:=.slice h.a h.n h.c
theorem Ki {α:Type}{l:List α}{t:Nat}(x v:α)(ht:t<l.length):l.take t++[v]++l.drop (t+1)=l.set t v:=by
 rw[List.set_eq_take_append_cons_drop,if_pos ht,List.append_assoc];rfl
theorem jg {α:Type}{l:List α}{t i:Nat}{v y:α}(h:(l.set t v)[i]? =some y):i=t/\y=v\/i≠t/\l[i]? =some y:=by
 by_cases e:i=t
 · subst e
   left
   have hl:i<l.length:=by have:=(List.getElem?_eq_some_iff.1 h).1;simpa using this
   rw[List.getElem?_set_self hl]at h
   exact⟨rfl,(Option.some.inj h).symm⟩
 · rw[List.getElem?_set_ne (λe2=>e e2.symm)]at h
   exact .inr ⟨e,h⟩
structure Ep (to_ ti:TypeId)(B:Nat)(w:World)(g:Nat)(hs:List Hd):Prop where
 row:ai w g to_ (hs.map Hd.v)
 own:∀h∈hs,Ow tP ti w NoB h.a h.n h.c h.xs
 new:∀h∈hs,br B h.a
 low:B <=g
 out:∀h∈hs,bi h.a≠some g
 apart:∀(i j:Nat) (x y:Hd),hs[i]? =some x->hs[j]? =some y->i≠j->∀b,bi x.a=some b->bi y.a≠some b
theorem Ep.below {to_ ti:TypeId}{B:Nat}{w w':World}{g:Nat}{hs:List Hd}(h:Ep to_ ti B w g hs)(hb:bW w w'):Ep to_ ti B w' g hs:=
 ⟨h.row.below hb,λx hx=>(h.own x hx).below hb,h.new,h.low,h.out,h.apart⟩
theorem Id:Whl prog dJ 2:=⟨⟨_,_,sw⟩,by kernel_rfl⟩
def HM (d:DA)(j:Nat)(hs:List Hd):Prop:=hs.length=d.n/\∀t x,hs[t]? =some x->x.xs=fg d j t
theorem yU {w:World}{a b:Option Addr}{n c m e:Nat}{d:DA}(h:DaS w a n c b m e d)(hd:d.Ok):
   Cf m7 #[daV a n c b m e d] w (Ret λv w'=>∃(a':Option Addr) (n' c':Nat),v=.slice a' n' c'/\Sl Lh w' (λg=>w.heap.size <=g) a' n' c' ((List.range d.n).map (fg d d.nx.length))/\bW w w'):=by
 apply wG
 intro k1 w1 hk1 hw1
 have b1:=(hw1▸af w _:bW w w1)
 have A1:ai w1 k1 ae ([vI d.k,vI d.st,.slice a n c,.slice b m e]):=ai.new hk1 hw1
 have hm:=h.ac.len
 have hn:=h.nx.len
 have hN:=hd.n2
 have hN1:=hd.n1
 have hlen:=hd.lenN
 have hKK:=hd.kk
 have hK2:=hd.k2
 have hK1:=hd.k1
 have hmul:d.n*d.K <=65536*512:=Nat.mul_le_mul hN (by show d.k.toNat <=512;omega)
 refine⟨rfl,b,m,e,A1.load1 aS rfl rfl,?_⟩
 obtain⟨ti,hti,hsz,hbt,hzz⟩:=nG.info
 have hr:=run_make_row (P:=prog) ir bA ti (.slice none 0 0) qL hti hzz hsz rfl .i64 .i64 m (by rw[hbt];omega) (by omega) w1
 rw[yA]at hr
 obtain⟨w9,hw9⟩:∃w9,w9=w1.alloc (.cells (List.replicate m (Value.slice none 0 0)).toArray bA):=⟨_,rfl⟩
 obtain⟨g,hg⟩:∃g,g=w1.heap.size:=⟨_,rfl⟩
 rw[<- hw9,<- hg]at hr
 have b9:bW w1 w9:=hw9▸af w1 _
 have kg:k1<g:=by have:=A1.lt;omega
 have R0:Ep bA dJ w.heap.size w9 g (List.replicate m ⟨none,0,0,[]⟩):=by
   refine⟨?_,λx hx=>?_,λx hx=>?_,by omega,λx hx=>?_,λi j x y hx hy hij bb hb=>?_⟩
   · rw[List.map_replicate];exact ai.new hg hw9
   · rw[(List.mem_replicate.1 hx).2];exact Ow.nil _ _ _ _
   · rw[(List.mem_replicate.1 hx).2];exact br.none _
   · rw[(List.mem_replicate.1 hx).2];intro h;cases h
   · have:=List.mem_of_getElem? hx
     rw[(List.mem_replicate.1 this).2]at hb;cases hb
 have W0:HM d 0 (List.replicate m ⟨none,0,0,[]⟩):=⟨by rw[List.length_replicate];exact hm,λt x hx=>by
   have:=List.mem_of_getElem? hx
   rw[(List.mem_replicate.1 this).2];rfl⟩
 refine⟨w9,some ⟨g,0,none⟩,m,m,hr,rfl,a,n,c,(A1.below b9).load1 aA rfl rfl,?_⟩
 have B9:=ab b1 b9 b1.size
 refine⟨λmm i wl=>∃(j:Nat) (hs:List Hd),i=(j:Int)/\j <=d.nx.length/\mm=d.nx.length-j/\Ep bA dJ w.heap.size wl g hs/\HM d j hs/\ai wl k1 ae ([vI d.k,vI d.st,.slice a n c,.slice b m e])/\(∀x∈hs,bi x.a≠some k1)/\bW w wl,
   ⟨_,0,_,rfl,Nat.zero_le _,rfl,R0,W0,A1.below b9,λx hx=>(by rw[(List.mem_replicate.1 hx).2];intro h;cases h),B9⟩,?_⟩
 intro mm i
 refine aL.of ?_ _
 rintro wl ⟨j,hs,rfl,hj,rfl,R,W,A,hk1,Bl⟩
 have hx:=(h.below Bl).nx
 refine ah.of (λh5=>?_) (λh5=>?_) <;> simp only[dTx,dFx]at h5
 · have hlt:j<d.nx.length:=by omega
   have hv:=hd.nx0 _ (List.getElem_mem hlt)
   obtain⟨t,ht⟩:∃t:Nat,d.nx[j]=(t:Int):=⟨d.nx[j].toNat,by omega⟩
   have htn:t<d.n:=by show t<d.ac.length;omega
   obtain⟨x,hxt⟩:∃x,hs[t]? =some x:=⟨_,List.getElem?_eq_getElem (by rw[W.1];exact htn)⟩
   have hxm:=List.mem_of_getElem? hxt
   have hmap:(hs.map Hd.v)[t]? =some x.v:=by rw[List.getElem?_map,hxt];rfl
   have htm:t<m:=by rw[hm];exact htn
   have eaddr:ak (some ⟨g,0,none⟩) ((t:Nat):Int) 1=some ⟨g,t,none⟩:=by rw[de,Nat.zero_add]
   refine⟨⟨⟨by omega,h5⟩,hx.isSome hlt⟩,_,hx.num aC hlt,?_⟩
   rw[ht,eaddr]
   have hxs:=W.2 t x hxt
   have hwl:x.xs.length <=d.nx.length:=by
     rw[hxs]
     unfold fg
     rw[List.length_map]
     have:=List.length_filter_le (λi=>decide ((d.nx.getD i 0).toNat=t)) (List.range j)
     rw[List.length_range]at this
     omega
   refine⟨⟨⟨by omega,by omega⟩,rfl⟩,rfl,rfl,x.a,x.n,x.c,λu hu=>(R.row.below hu).load1 j9 rfl hmap,d.k,λu hu=>(A.below hu).load1 aC rfl rfl,by omega,λq27 hq27=>?_⟩
   refine⟨d.k,λu hu=>(A.below hu).load1 aC rfl rfl,by omega,λq31 hq31 k33 hk33 wq hq hcell=>?_⟩
   have e27:q27=((j/d.K:Nat):Int):=by
     rw[hq27,<- hKK]
     show i64.wrap (((j/d.K:Nat):Int))=_
     have h0:j/d.K <=j:=Nat.div_le_self _ _
     revert h0
     generalize j/d.K=q
     intro h0
     exact ar (by omega) (by omega)
   have e31:q31=((j%d.K:Nat):Int):=by rw[hq31,<- hKK];rfl
   have Rq:=R.below hq
   have hsrc:Src tP wq NoB (some ⟨k33,0,none⟩) 1 [(q27,q31)]:=Src.at1 yf (vs:=prC (q27,q31)) hcell rfl
   obtain⟨w34,a34,n34,c34,r34,o34,g34,f34⟩:=cr (ty:=bA) j9 sw (by decide) (Rq.own x hxm) (λ_ _ h=>h) (cm:=1) hsrc (by simp;omega)
   have row34:=Rq.row.grown g34 λex=>Rq.out x hxm ex.symm
   obtain⟨wx,sx,rowx,gx⟩:=row34.store nG (i:=t) (v:=.slice a34 n34 c34) rfl (by rw[List.length_map,W.1];omega) (by intro c hc;simp[Value.cells]at hc;subst hc;rfl)
   refine⟨w34,a34,n34,c34,r34,⟨⟨by omega,by omega⟩,rfl⟩,wx,sx,d.nx.length-(j+1),by omega,j+1,hs.set t ⟨a34,n34,c34,x.xs++[(q27,q31)]⟩,by rw[ar (by omega) (by omega)];omega,hlt,rfl,?_,?_,?_,?_,?_⟩
   · have hxm':=R.new x hxm
     have fresh34:∀b,bi a34=some b->bi x.a=some b\/wl.heap.size <=b:=λb hb=>by
       rcases f34 b hb with e|e
       · exact .inl e
       · have:=hq.size;exact .inr (by omega)
     have glt:g<wl.heap.size:=R.row.lt
     have ne34:∀b,bi a34=some b->b≠g:=λb hb e=>by
       rcases fresh34 b hb with e2|e2
       · exact R.out x hxm (by rw[e2,e])
       · omega
     refine⟨?_,λy hy=>?_,λy hy=>?_,R.low,λy hy=>?_,λi2 j2 y z hy hz hij bb hb=>?_⟩
     · have e:(hs.set t ⟨a34,n34,c34,x.xs++[(q27,q31)]⟩).map Hd.v=(hs.map Hd.v).take t++[Value.slice a34 n34 c34]++(hs.map Hd.v).drop (t+1):=by
         rw[Ki (Value.slice a34 n34 c34) _ (by rw[List.length_map,W.1];exact htn),List.map_set];rfl
       rw[e];exact rowx
     · obtain⟨i2,hi2⟩:=List.mem_iff_getElem?.1 hy
       rcases jg hi2 with⟨_,rfl⟩|⟨hne,hi3⟩
       · exact o34.put (λb hb e=>ne34 b hb e) gx
       · have hym:=List.mem_of_getElem? hi3
         refine((Rq.own y hym).other g34 λb hb=>R.apart i2 t y x hi3 hxt hne b hb).put (λb hb e=>R.out y hym (by rw[hb,e])) gx
     · obtain⟨i2,hi2⟩:=List.mem_iff_getElem?.1 hy
       rcases jg hi2 with⟨_,rfl⟩|⟨hne,hi3⟩
       · intro b hb
         rcases fresh34 b hb with e|e
         · exact hxm' b e
         · have:=Bl.size;omega
       · exact R.new y (List.mem_of_getElem? hi3)
     · obtain⟨i2,hi2⟩:=List.mem_iff_getElem?.1 hy
       rcases jg hi2 with⟨_,rfl⟩|⟨hne,hi3⟩
       · intro hb;exact ne34 g hb rfl
       · exact R.out y (List.mem_of_getElem? hi3)
     · rcases jg hy with⟨e1,rfl⟩|⟨hne,hy3⟩ <;> rcases jg hz with⟨e2,rfl⟩|⟨hne2,hz3⟩
       · omega
       · intro hb2
         rcases fresh34 bb hb with e|e
         · exact R.apart j2 t z x hz3 hxt hne2 bb hb2 e
         · have:=(R.own z (List.mem_of_getElem? hz3)).lt bb hb2;omega
       · intro hb2
         rcases fresh34 bb hb2 with e|e
         · exact R.apart i2 t y x hy3 hxt hne bb hb e
         · have:=(R.own y (List.mem_of_getElem? hy3)).lt bb hb;omega
       · exact R.apart i2 j2 y z hy3 hz3 hij bb hb
   · refine⟨by rw[List.length_set];exact W.1,λt2 y hy=>?_⟩
     have hgj:(d.nx.getD j 0).toNat=t:=by
       rw[List.getD_eq_getElem?_getD,List.getElem?_eq_getElem hlt]
       show d.nx[j].toNat=t
       rw[ht];exact Int.toNat_natCast t
     rcases jg hy with⟨rfl,rfl⟩|⟨hne,hy3⟩
     · show x.xs++[(q27,q31)]=_
       rw[vL,if_pos hgj,hxs,e27,e31]
     · rw[vL,if_neg (λe=>hne (by rw[<- e,hgj])),List.append_nil]
       exact W.2 t2 y hy3
   · exact((A.below hq).grown g34 (λe=>hk1 x hxm e.symm)).grown gx (j0 (by omega))
   · intro y hy
     obtain⟨i2,hi2⟩:=List.mem_iff_getElem?.1 hy
     rcases jg hi2 with⟨_,rfl⟩|⟨hne,hi3⟩
     · intro hb
       rcases f34 k1 hb with e|e
       · exact hk1 x hxm e
       · have:=A.lt;have:=hq.size;omega
     · exact hk1 y (List.mem_of_getElem? hi3)
   · have B1:=ab Bl hq Bl.size
     have B2:bW w w34:=B1.trans ((Chg.row g34).below B1.size λk hk=>R.new x hxm k (by simpa using hk))
     exact Below.put B2 gx R.low
 · have:j=d.nx.length:=by omega
   subst this
   have hsl:hs.length=d.n:=W.1
   refine⟨_,m,m,rfl,⟨by rw[List.length_map,List.length_range];exact hm,Nat.le_refl _,by show m <=9223372036854775807;omega,.inr ⟨g,0,rfl,R.row.lt,R.low,hs.map Hd.v,⟨?_,λi hi=>?_⟩,λi hi=>?_⟩⟩,Bl⟩
   · rw[List.length_map,List.length_map,List.length_range]
     show hs.length=d.n*1
     omega
   · have hi':i<hs.length:=by rw[List.length_map,List.length_range]at hi;omega
     have hxi:=R.own hs[i] (List.getElem_mem hi')
     have ex:hs[i].xs=fg d d.nx.length i:=W.2 i hs[i] (List.getElem?_eq_getElem hi')
     refine⟨hs[i].a,hs[i].n,hs[i].c,?_,?_⟩
     · show((hs.map Hd.v).drop (i*1)).take 1=_
       rw[Nat.mul_one,List.drop_eq_getElem_cons (by rw[List.length_map];exact hi'),List.take_succ_cons,List.take_zero,List.getElem_map]
       rfl
     · rw[List.getElem_map,List.getElem_range,<- ex]
       exact hxi.sl (λb _ hb=>hb.elim) λb hb=>R.new hs[i] (List.getElem_mem hi') b hb
   · rw[Nat.zero_add];exact R.row.cell i
def mU (p:Int×Nat):Pi:=(p.1,((p.2:Nat):Int))
structure Gu (ta ts te ti:TypeId)(w0:World)(vals:List Value)(k2 k6 s1 s2:Nat)(oa:Option Addr)(on oc:Nat)(out:List Int)(ha:Option Addr)(hn hc:Nat)(H:Hp)(wa:Option Addr)(wn wc:Nat)(ways:List (List Pi))(w:World):Prop where
 dcp:ai w k2 ta vals
 out:Ow bY ti w NoB oa on oc out
 hp:wP ts te w k6 ha hn hc (H.map mU)
 way:Sl Lh w (λg=>s1 <=g/\g<s2) wa wn wc ways
 o1:∀g,bi oa=some g->k2<g/\g<k6
 o2:k6<s1
 o3:s1 <=s2
 o4:s2 <=w.heap.size
 o5:∀g,bi ha=some g->k6<g/\(g<s1\/s2 <=g)
 o6:w0.heap.size <=k2
 o7:k2<k6
 bw:bW w0 w
section
variable {ta ts te ti:TypeId} {w0 w w':World} {vals:List Value} {k2 k6 s1 s2:Nat} {oa ha wa:Option Addr} {on oc hn hc wn wc:Nat} {out:List Int} {H:Hp} {ways:List (List Pi)}
theorem Gu.below (h:Gu ta ts te ti w0 vals k2 k6 s1 s2 oa on oc out ha hn hc H wa wn wc ways w)(hb:bW w w'):Gu ta ts te ti w0 vals k2 k6 s1 s2 oa on oc out ha hn hc H wa wn wc ways w':=
 { h with
   dcp:=h.dcp.below hb
   out:=h.out.below hb
   hp:=h.hp.below hb
   way:=h.way.below hb
   o4:=Nat.le_trans h.o4 hb.size
   bw:=ab h.bw hb h.bw.size }
theorem Gu.bag (h:Gu ta ts te ti w0 vals k2 k6 s1 s2 oa on oc out ha hn hc H wa wn wc ways w){ha':Option Addr}{hn' hc':Nat}{H':Hp}(hp':wP ts te w' k6 ha' hn' hc' (H'.map mU))(hch:Chg (k6::(bi ha).toList) w w')
   (hf:∀g,bi ha'=some g->bi ha=some g\/w.heap.size <=g):Gu ta ts te ti w0 vals k2 k6 s1 s2 oa on oc out ha' hn' hc' H' wa wn wc ways w':=by
 have mem:∀k:Nat,k∈k6::(bi ha).toList->k=k6\/bi ha=some k:=λk hk=>by
   rcases List.mem_cons.1 hk with e|e
   · exact .inl e
   · exact .inr (by simpa using e)
 have p2:=h.o2
 have p3:=h.o3
 have p4:=h.o4
 have p6:=h.o6
 have p7:=h.o7
 have hsz:=hch.size
 exact
   { dcp:=hch.arr h.dcp λhm=>by
       rcases mem _ hm with e|e
       · omega
       · have:=h.o5 _ e;omega
     out:=h.out.keep (hch.keep.mono λb hb=>by
       rcases hb with hb|hb
       · exact hb.elim
       · have:=h.o1 b hb.symm
         intro hm
         rcases mem _ hm with e|e
         · omega
         · have:=h.o5 _ e;omega)
     hp:=hp'
     way:=h.way.keep (hch.keep.mono λb hb hm=>by
       rcases mem _ hm with e|e
       · omega
       · have:=h.o5 _ e;omega)
     o1:=h.o1,o2:=p2,o3:=p3,o4:=by omega
     o5:=λg hg=>by
       rcases hf g hg with e|e
       · exact h.o5 g e
       · omega
     o6:=p6,o7:=p7
     bw:=h.bw.trans (hch.below h.bw.size λk hk=>by
       rcases mem _ hk with e|e
       · omega
       · have:=h.o5 _ e;omega) }
theorem Gu.put (h:Gu ta ts te ti w0 vals k2 k6 s1 s2 oa on oc out ha hn hc H wa wn wc ways w){out':List Int}(ho:Ow bY ti w' NoB oa on oc out')(hg:w.grownBy w' (bi oa)):Gu ta ts te ti w0 vals k2 k6 s1 s2 oa on oc out' ha hn hc H wa wn wc ways w':=by
 have hch:=Chg.row hg
 have mem:∀k:Nat,k∈(bi oa).toList->k2<k/\k<k6:=λk hk=>h.o1 k (by simpa using hk)
 have p2:=h.o2
 have p3:=h.o3
 have p4:=h.o4
 have p6:=h.o6
 have p7:=h.o7
 have hsz:=hch.size
 exact
   { dcp:=hch.arr h.dcp λhm=>by have:=mem _ hm;omega
     out:=ho
     hp:=⟨hch.arr h.hp.var λhm=>(by have:=mem _ hm;omega),h.hp.row.keep (hch.keep.mono λb hb hm=>by
       have:=mem _ hm
       rcases hb with hb|hb
       · exact hb.elim
       · have:=h.o5 b hb.symm;omega),h.hp.ne⟩
     way:=h.way.keep (hch.keep.mono λb hb hm=>by have:=mem _ hm;omega)
     o1:=h.o1,o2:=p2,o3:=p3,o4:=by omega
     o5:=h.o5,o6:=p6,o7:=p7
     bw:=h.bw.trans (hch.below h.bw.size λk hk=>by have:=mem _ hk;omega) }
end
abbrev Lf:=Gu ae aG aE aq
theorem BA {out:List Int}{s:Nat}(h:s<out.length):out[s]=oAt out s:=by
 unfold oAt
 rw[List.getD_eq_getElem?_getD,List.getElem?_eq_getElem h];rfl
theorem EG {cs:List Int}{s:Nat}(h:s<cs.length):cs[s]=cAt cs s:=by
 unfold cAt
 rw[List.getD_eq_getElem?_getD,List.getElem?_eq_getElem h];rfl
def unC (p:Pi):Int×Nat:=(p.1,p.2.toNat)
theorem CX (p:Int×Nat):unC (mU p)=p:=by
 obtain⟨a,b⟩:=p
 unfold unC mU
 simp
theorem uJ {xs:List Pi}{H:Hp}(h:xs.Perm (H.map mU)):∃H':Hp,H'.map mU=xs/\H'.Perm H:=by
 refine⟨xs.map unC,?_,?_⟩
 · rw[List.map_map]
   conv=>rhs;rw[<- List.map_id xs]
   refine List.map_congr_left λx hx=>?_
   obtain⟨q,_,rfl⟩:=List.mem_map.1 (h.mem_iff.1 hx)
   show mU (unC (mU q))=mU q
   rw[CX]
 · have:=h.map unC
   rw[List.map_map]at this
   have e:H.map (unC ∘ mU)=H:=by
     conv=>rhs;rw[<- List.map_id H]
     exact List.map_congr_left λx _=>CX x
   rwa [e]at this
theorem Ht {p:Pi}{ys:List Pi}{H:Hp}(h:(H.map mU).Perm (p::ys)):∃(q:Int×Nat) (Y:Hp),p=mU q/\ys=Y.map mU/\H.Perm (q::Y):=by
 obtain⟨L,e,hL⟩:=uJ h.symm
 cases L with
 | nil=>simp at e
 | cons q Y=>
   simp only[List.map_cons,List.cons.injEq]at e
   exact⟨q,Y,e.1.symm,e.2.symm,hL.symm⟩
def GD (d:DA)(cs:List Int)(w:World)(v:Value)(w':World):Prop:=∃(oa:Option Addr) (on oc:Nat) (out:List Int),v=.slice oa on oc/\Ow bY aq w' NoB oa on oc out/\oE d cs out/\br w.heap.size oa/\bW w w'
theorem yW {w:World}{a b a1:Option Addr}{n c m e l1 c1:Nat}{d:DA}{cs:List Int}(h:DaS w a n c b m e d)(hd:d.Ok)(hs:Sl bY w jD a1 l1 c1 cs)(hc:pk cs){C:Int}(hC:GF cs C)(hk:cs.length=d.K){M:Nat}
   (hM:((d.n-1:Nat):Int)*C <=(M:Int)) (hM2:d.n*(M+3) <=900000000000):
   Cf m9 #[daV a n c b m e d,.slice a1 l1 c1] w (Ret (GD d cs w)):=by
 apply wJ
 have hm:=h.ac.len
 have hl1:=hs.len
 have hN2:d.n <=65536:=hd.n2
 have hN1:1 <=d.n:=hd.n1
 have hmn:m=d.n:=hm
 subst hmn
 intro k2 w2 hk2 hw2 k14 w14 hk14 hw14
 have b2:=(hw2▸af w _:bW w w2)
 have b14:=(hw14▸af w2 _:bW w2 w14)
 have A2:ai w2 k2 ae [vI d.k,vI d.st,.slice a n c,.slice b d.n e]:=ai.new hk2 hw2
 have A14:ai w14 k14 aq [vI INF]:=ai.new hk14 hw14
 refine⟨rfl,b,d.n,e,(A2.below b14).load1 aS rfl rfl,?_⟩
 have hsl:Sl bY w14 jD (some ⟨k14,0,none⟩) 1 1 [INF]:=by
   refine⟨rfl,Nat.le_refl _,by decide,.inr ⟨k14,0,rfl,A14.lt,trivial,[vI INF],gr.one cS,λj hj=>?_⟩⟩
   rw[Nat.zero_add];exact A14.cell j
 refine aw (lA hsl (k:=d.n) hN1 (by omega)) ?_
 rintro _ w18 ⟨oa,rfl,O18,f18,b18⟩
 refine⟨oa,d.n,d.n,rfl,?_⟩
 intro k6 w6 hk6 hw6
 have b6:=(hw6▸af w18 _:bW w18 w6)
 have A6:ai w6 k6 aG [.slice none 0 0]:=ai.new hk6 hw6
 have l2:=A2.lt
 have s14:=b14.size
 have B6:bW w2 w6:=ab (ab b14 b18 b14.size) b6 (Nat.le_trans b14.size b18.size)
 have S0:Lf w [vI d.k,vI d.st,.slice a n c,.slice b d.n e] k2 k6 (k6+1) (k6+1) oa d.n d.n (List.replicate d.n INF) none 0 0 [] none 0 0 [] w6:=
   { dcp:=A2.below B6
     out:=O18.below b6
     hp:=⟨A6,Ow.nil _ _ _ _,λg hg=>by cases hg⟩
     way:=Sl.nil _ _ _ _ _ (Nat.zero_le _)
     o1:=λg hg=>by have:=f18 g hg;have:=O18.lt g hg;omega
     o2:=by omega
     o3:=Nat.le_refl _
     o4:=A6.lt
     o5:=λg hg=>by cases hg
     o6:=by omega
     o7:=by have:=b18.size;omega
     bw:=ab b2 B6 b2.size }
 refine⟨rfl,b,d.n,e,S0.dcp.load1 aS rfl rfl,?_⟩
 clear A2 A14 hsl O18 A6 b6 b18 b14 B6 hw2 hw14 hw6
 refine⟨λmm n22 wl=>∃(i:Nat) (out:List Int) (ha:Option Addr) (hn hc':Nat) (H:Hp),n22=(i:Int)/\i <=d.n/\mm=d.n-i/\Lf w [vI d.k,vI d.st,.slice a n c,.slice b d.n e] k2 k6 (k6+1) (k6+1) oa d.n d.n out ha hn hc' H none 0 0 [] wl/\
   out.length=d.n/\(∀s,s<d.n->oAt out s=if s<i/\d.acc s=true then 0 else INF)/\(∀cc s,(cc,s)∈H ↔ cc=0/\s<i/\d.acc s=true)/\H.length <=i,
   ⟨_,0,_,none,0,0,[],rfl,Nat.zero_le _,rfl,S0,by simp,λs hs=>?_,λcc s=>?_,Nat.le_refl _⟩,?_⟩
 · rw[if_neg (λh=>Nat.not_lt_zero _ h.1)]
   simp[oAt,hs]
 · simp
 clear S0
 intro mm n22
 refine aL.of ?_ _
 rintro wl ⟨i,out,ha,hn,hc',H,rfl,hi,rfl,S,hol,hout,hH,hHl⟩
 have hac:=(h.below S.bw).ac
 refine ah.of (λh5=>?_) (λh5=>?_) <;> simp only[dTx,dFx]at h5
 · have hlt:i<d.n:=by omega
   have hlt':i<d.ac.length:=hlt
   refine⟨⟨⟨by omega,h5⟩,hac.isSome hlt'⟩,_,hac.tru dl hlt',?_⟩
   have eacc:d.ac[i]=d.acc i:=by
     unfold DA.acc
     rw[List.getD_eq_getElem?_getD,List.getElem?_eq_getElem hlt'];rfl
   rw[eacc]
   refine ah.of (λhb=>?_) (λhb=>?_)
   · have hio:i<out.length:=by omega
     obtain⟨wx,sx,ox,gx⟩:=S.out.store dk (λ_ _ h=>h) (i:=(i:Int)) (by rw[Int.toNat_natCast];exact hio) (k:=1) rfl (v:=vI 0) (x:=0) cS
     rw[Int.toNat_natCast]at ox
     have S2:=S.put ox gx
     refine⟨⟨⟨by omega,h5⟩,S.out.all.isSome hio⟩,wx,sx,?_⟩
     refine aw (sn S2.hp (by rw[List.length_map];omega) ((0:Int),((i:Nat):Int))) ?_
     rintro _ w35 ⟨rfl,ha2,hn2,hc2,xs',hp,H2,hch,hf⟩
     obtain⟨H',eH,hperm⟩:=uJ (H:=(0,i)::H) (show xs'.Perm (((0,i)::H).map mU) from hp)
     have S3:=S2.bag (H':=H') (by rw[eH];exact H2) hch hf
     refine⟨rfl,d.n-(i+1),by omega,i+1,_,ha2,hn2,hc2,H',by rw[ar (by omega) (by omega)];omega,hlt,rfl,S3,by rw[List.length_set];exact hol,λs hs=>?_,λcc s=>?_,?_⟩
     · by_cases e1:i=s
       · subst e1
         rw[cY hio,if_pos ⟨by omega,hb⟩]
       · rw[cz e1,hout s hs]
         by_cases e2:s<i/\d.acc s=true
         · rw[if_pos e2,if_pos ⟨by omega,e2.2⟩]
         · rw[if_neg e2,if_neg (λh=>e2 ⟨by omega,h.2⟩)]
     · rw[hperm.mem_iff,List.mem_cons,hH]
       constructor
       · rintro(e1|⟨e1,e2,e3⟩)
         · obtain⟨rfl,rfl⟩:=Prod.mk.inj e1
           exact⟨rfl,by omega,hb⟩
         · exact⟨e1,by omega,e3⟩
       · rintro⟨rfl,e2,e3⟩
         by_cases e4:s=i
         · exact .inl (by rw[e4])
         · exact .inr ⟨rfl,by omega,e3⟩
     · rw[hperm.length_eq,List.length_cons];omega
   · refine⟨d.n-(i+1),by omega,i+1,out,ha,hn,hc',H,by rw[ar (by omega) (by omega)];omega,hlt,rfl,S,hol,λs hs=>?_,λcc s=>?_,by omega⟩
     · rw[hout s hs]
       by_cases e2:s<i/\d.acc s=true
       · rw[if_pos e2,if_pos ⟨by omega,e2.2⟩]
       · rw[if_neg e2,if_neg (λh=>e2 ⟨?_,h.2⟩)]
         have:s≠i:=λe=>by rw[e,hb]at h;exact absurd h.2 (by simp)
         omega
     · rw[hH]
       refine and_congr_right λ_=>⟨λh=>⟨by omega,h.2⟩,λh=>⟨?_,h.2⟩⟩
       have:s≠i:=λe=>by rw[e,hb]at h;exact absurd h.2 (by simp)
       omega
 have hin:i=d.n:=by omega
 subst hin
 have R0:Rnd d cs C out H:=Rnd.first hol (λs hs=>by rw[hout s hs];simp only[hs,true_and]) hH
 refine⟨_,_,a,n,c,b,d.n,e,bh.load0 (cs:=[vI d.k,vI d.st,.slice a n c,.slice b d.n e]) S.dcp rfl,?_⟩
 refine aw (yU (h.below S.bw) hd) ?_
 rintro _ w38 ⟨wa,wn,wc,rfl,hway,b38⟩
 refine⟨wa,wn,wc,rfl,?_⟩
 obtain⟨s1,hs1⟩:∃s1,s1=wl.heap.size:=⟨_,rfl⟩
 obtain⟨s2,hs2⟩:∃s2,s2=w38.heap.size:=⟨_,rfl⟩
 have S1:Lf w [vI d.k,vI d.st,.slice a n c,.slice b d.n e] k2 k6 s1 s2 oa d.n d.n out ha hn hc' H wa wn wc ((List.range d.n).map (fg d d.nx.length)) w38:=
   { S.below b38 with
     way:=hway.mono λb hb hA=>⟨by omega,by omega⟩
     o2:=by have:=S.hp.var.lt;omega
     o3:=by have:=b38.size;omega
     o4:=by omega
     o5:=λg hg=>⟨(S.o5 g hg).1,.inl (by have:=S.hp.row.lt g hg;omega)⟩ }
 have hsum0:=F7 M out
 have hBd:H.length+BP M out <=d.n*(M+3):=by
   rw[hol]at hsum0
   have e1:d.n*(M+3)=d.n*(M+1)+2*d.n:=by rw[show M+3=(M+1)+2 by omega,Nat.mul_add];omega
   omega
 clear hway b38 S hs1 hs2 hout hH hHl
 refine⟨λm1 wl1=>∃(out:List Int) (ha:Option Addr) (hn hc':Nat) (H:Hp),m1=2*BP M out+H.length/\H.length+BP M out <=d.n*(M+3)/\Rnd d cs C out H/\Lf w [vI d.k,vI d.st,.slice a n c,.slice b d.n e] k2 k6 s1 s2 oa d.n d.n out ha hn hc' H wa wn wc ((List.range d.n).map (fg d d.nx.length)) wl1,
   ⟨_,out,ha,hn,hc',H,rfl,hBd,R0,S1⟩,?_⟩
 clear S1 R0 hBd hol hsum0
 clear out ha hn hc' H
 intro m1
 refine aL.of ?_ _
 rintro wl1 ⟨out,ha,hn,hc',H,rfl,hBd,R,S⟩
 have hhl:=S.hp.row.len
 rw[List.length_map]at hhl
 have hol:=R.inv.len
 refine⟨ha,hn,hc',S.hp.var.load1 bp rfl rfl,ah.of (λh6=>?_) (λh6=>?_)⟩ <;> simp only[gt_iff_lt,dTx,dFx]at h6
 · have hHl:0<(H.map mU).length:=by rw[List.length_map];omega
   refine aw (Bm S.hp (by rw[List.length_map];omega) hHl) ?_
   rintro _ w43 ⟨p,ys,rfl,hp,H43,hch⟩
   obtain⟨q,Y,rfl,rfl,hperm⟩:=Ht hp
   obtain⟨c0,st⟩:=q
   have hlen:=hperm.length_eq
   rw[List.length_cons]at hlen
   have S43:=S.bag (H':=Y) H43 hch (λg hg=>.inl hg)
   refine⟨_,rfl,c0,((st:Nat):Int),tJ (mU (c0,st)) w43,?_⟩
   intro k10 w10 hk10 hw10
   have b10:=(hw10▸af w43 _:bW w43 w10)
   obtain⟨wx1,sx1,P10,g10⟩:=r9.store0 (P:=prog) (cs:=[vI c0,vI ((st:Nat):Int)]) rfl (aN rfl (aN rfl gA)) (ai.new hk10 hw10:ai w10 k10 aE [vI 0,vI 0]) rfl
   have bx1:bW w43 wx1:=Below.put b10 g10 (by omega)
   have Sx:=S43.below bx1
   have hst:st<d.n:=(R.hin _ (hperm.mem_iff.2 List.mem_cons_self)).1
   have hsto:st<out.length:=by omega
   have k10a:∀g,bi ha=some g->g≠k10:=λg hg=>by have:=S43.hp.row.lt g hg;omega
   have k10o:∀g,bi oa=some g->g≠k10:=λg hg=>by have:=S43.out.lt g hg;omega
   have k10v:k6≠k10:=by have:=S43.hp.var.lt;omega
   refine⟨wx1,sx1,rfl,c0,λu hu=>(P10.below hu).load1 aC rfl rfl,rfl,((st:Nat):Int),λu hu=>(P10.below hu).load1 aC rfl rfl,⟨⟨by omega,by omega⟩,Sx.out.all.isSome hsto⟩,oAt out st,λu hu=>by rw[<- BA hsto];exact((Sx.below hu).out.all).num aC hsto,λwq hq=>?_⟩
   have Sq:=Sx.below hq
   have Pq:=P10.below hq
   refine ah.of (λh7=>?_) (λh7=>?_) <;> simp only[gt_iff_lt,dTx,dFx]at h7
   · exact⟨2*BP M out+Y.length,by omega,out,ha,_,hc',Y,rfl,by omega,R.skip hperm h7,Sq⟩
   have R2:=R.take hd hC hperm h7
   have hwl:((List.range d.n).map (fg d d.nx.length)).length=d.n:=by simp
   have hst2:st<((List.range d.n).map (fg d d.nx.length)).length:=by rw[hwl];exact hst
   have hwn:=Sq.way.len
   obtain⟨v57,ld57,a57,l57,c57,ev57,S57⟩:=Sq.way.load1 (P:=prog) j9 rfl rfl (i:=((st:Nat):Int)) (by rw[Int.toNat_natCast];exact hst2)
   have ev57:v57=.slice a57 l57 c57:=by simpa using ev57
   subst ev57
   have ew:((List.range d.n).map (fg d d.nx.length))[(((st:Nat):Int)).toNat]'(by rw[Int.toNat_natCast];exact hst2)=fg d d.nx.length st:=by
     simp
   rw[ew]at S57
   refine⟨rfl,((st:Nat):Int),Pq.load1 aC rfl rfl,⟨⟨by omega,by omega⟩,Sq.way.isSome hst2⟩,a57,l57,c57,ld57,?_⟩
   have hC2:d.n*(M+3) <=900000000000:=hM2
   have k10s:s2 <=k10:=by have:=S43.o4;omega
   refine⟨λm2 n59 wl2=>∃(j:Nat) (out':List Int) (ha':Option Addr) (hn' hc2:Nat) (Hh:Hp),n59=(j:Int)/\j <=(fg d d.nx.length st).length/\m2=(fg d d.nx.length st).length-j/\
       2*BP M out'+Hh.length<2*BP M out+H.length/\Hh.length+BP M out' <=d.n*(M+3)/\Mid d cs C out' Hh st c0 j/\
       Lf w [vI d.k,vI d.st,.slice a n c,.slice b d.n e] k2 k6 s1 s2 oa d.n d.n out' ha' hn' hc2 Hh wa wn wc ((List.range d.n).map (fg d d.nx.length)) wl2/\
       ai wl2 k10 aE [vI c0,vI ((st:Nat):Int)]/\(∀g,bi ha'=some g->g≠k10)/\Sl tP wl2 (λg=>s1 <=g/\g<s2) a57 l57 c57 (fg d d.nx.length st),
     ⟨_,0,out,ha,_,hc',Y,rfl,Nat.zero_le _,rfl,by omega,by omega,R2,Sq,Pq,k10a,S57⟩,?_⟩
   intro m2 n59
   refine aL.of ?_ _
   rintro wl2 ⟨j,out',ha',hn',hc2,Hh,rfl,hj,rfl,hmea,hbig,Mi,S2,P2,k10b,W57⟩
   have hwlen:=W57.len
   have hol':=Mi.inv.len
   refine ah.of (λh8=>?_) (λh8=>?_) <;> simp only[dTx,dFx]at h8
   · have hjl:j<(fg d d.nx.length st).length:=by omega
     obtain⟨f,x,efx,hf,hx,hto⟩:=(xh hd).1 (List.getElem_mem hjl)
     have hjq:(fg d d.nx.length st)[j]? =some ((f:Int),(x:Int)):=by rw[List.getElem?_eq_getElem hjl,efx]
     have hxc:x<cs.length:=by omega
     have hfo:f<out'.length:=by omega
     have hcx:=hc.at hxc
     have hfin:=Mi.fin
     have hlo0:=(Mi.inv.lo st Mi.lt).1
     rw[Mi.cost]at hlo0
     have hp:=W57.pair (P:=prog) Id hjl
     rw[efx]at hp
     refine⟨⟨⟨by omega,h8⟩,W57.isSome hjl⟩,(f:Int),(x:Int),hp,?_⟩
     intro k12 w12 hk12 hw12
     have b12:=(hw12▸af wl2 _:bW wl2 w12)
     obtain⟨wx2,sx2,P12,g12⟩:=Id.store0 (P:=prog) (cs:=[vI (f:Int),vI (x:Int)]) rfl (aN rfl (aN rfl gA)) (ai.new hk12 hw12:ai w12 k12 dJ [vI 0,vI 0]) rfl
     have bx2:bW wl2 wx2:=Below.put b12 g12 (by omega)
     have Sy:=S2.below bx2
     have Py:=P2.below bx2
     have hcst:cs[x]=cAt cs x:=EG hxc
     refine⟨wx2,sx2,rfl,c0,λu hu=>(Py.below hu).load1 aC rfl rfl,rfl,(x:Int),λu hu=>(P12.below hu).load1 aC rfl rfl,⟨⟨by omega,by omega⟩,hs.isSome hxc⟩,cAt cs x,λu hu=>by rw[<- hcst];exact(hs.below (Sy.below hu).bw).num aC hxc,λwq1 hq1=>?_⟩
     have Sz:=Sy.below hq1
     have Pz:=P12.below hq1
     have Pk:=Py.below hq1
     have Wz:=(W57.below bx2).below hq1
     have hoz:out'[f]=oAt out' f:=BA hfo
     have ew1:i64.wrap (c0+cAt cs x)=c0+cAt cs x:=ar (by omega) (by omega)
     have ewj:i64.wrap (((j:Nat):Int)+1)=((j+1:Nat):Int):=by rw[ar (by omega) (by have:=W57.le;omega)];omega
     rw[ew1,ewj]
     refine⟨rfl,(f:Int),Pz.load1 aC rfl rfl,⟨⟨by omega,by omega⟩,Sz.out.all.isSome hfo⟩,oAt out' f,by rw[<- hoz];exact Sz.out.all.num aC hfo,ah.of (λh9=>?_) (λh9=>?_)⟩ <;> simp only[dTx,dFx]at h9
     · obtain⟨wx3,sx3,ox3,gx3⟩:=Sz.out.store dk (λ_ _ h=>h) (i:=(f:Int)) (by rw[Int.toNat_natCast];exact hfo) (k:=1) rfl (v:=vI (c0+cAt cs x)) (x:=c0+cAt cs x) cS
       rw[Int.toNat_natCast]at ox3
       have S3:=Sz.put ox3 gx3
       have ne12:some k12≠bi oa:=λe=>by have:=S2.out.lt _ e.symm;omega
       have ne10:some k10≠bi oa:=λe=>k10o _ e.symm rfl
       refine⟨rfl,(f:Int),Pz.load1 aC rfl rfl,⟨⟨by omega,by omega⟩,Sz.out.all.isSome hfo⟩,wx3,sx3,rfl,(f:Int),(Pz.grown gx3 ne12).load1 aC rfl rfl,?_⟩
       refine aw (sn S3.hp (by rw[List.length_map];omega) (c0+cAt cs x,(f:Int))) ?_
       rintro _ w89 ⟨rfl,ha3,hn3,hc3,xs3,hp3,H3,hch3,hf3⟩
       obtain⟨H4,eH4,hperm4⟩:=uJ (H:=(c0+cAt cs x,f)::Hh) (show xs3.Perm (((c0+cAt cs x,f)::Hh).map mU) from hp3)
       have S4:=S3.bag (H':=H4) (by rw[eH4];exact H3) hch3 hf3
       have Mi2:=Mi.yes hd hc hC hk (H':=H4) hjq hf hx hto h9 (λp=>by rw[hperm4.mem_iff,List.mem_cons])
       have hl4:=hperm4.length_eq
       rw[List.length_cons]at hl4
       have hset:oAt (out'.set f (c0+cAt cs x)) f=c0+cAt cs x:=cY hfo _
       have hI:=sq
       have hle:=(Mi2.inv.bnd f hf (by rw[hset];omega)).leC (by have:=hC.lo;omega) hf
       rw[hset]at hle
       have hsum:=CV (M:=M) (v:=c0+cAt cs x) (out:=out') (f:=f) hfo (by omega) (by omega)
       have mem4:∀k:Nat,k∈k6::(bi ha').toList->k≠k10/\(k<s1\/s2 <=k):=λk hk=>by
         rcases List.mem_cons.1 hk with e|e
         · subst e;exact⟨k10v,.inl (by have:=S2.o2;omega)⟩
         · have e2:bi ha'=some k:=by simpa using e
           exact⟨k10b k e2,(S2.o5 k e2).2⟩
       refine⟨rfl,_,?_,j+1,_,ha3,hn3,hc3,H4,rfl,hjl,rfl,?_,?_,Mi2,S4,?_,λg hg=>?_,?_⟩
       · omega
       · omega
       · omega
       · exact hch3.arr (Pk.grown gx3 ne10) λhm=>(mem4 _ hm).1 rfl
       · rcases hf3 g hg with e|e
         · exact k10b g e
         · have:=(Pk.grown gx3 ne10).lt;omega
       · exact(Wz.keep (iC gx3 λg hg e=>(by have:=S2.o1 g e.symm;have:=S2.o2;omega))).keep (hch3.keep.mono λg hg hm=>by have:=(mem4 _ hm).2;omega)
     · exact⟨_,by omega,j+1,out',ha',hn',hc2,Hh,rfl,hjl,rfl,hmea,hbig,Mi.no hjq h9,Sz,Pk,k10b,Wz⟩
   · exact⟨2*BP M out'+Hh.length,by omega,out',ha',hn',hc2,Hh,rfl,hbig,Mi.over hd (by omega),S2⟩
 · have hHn:H=[]:=List.eq_nil_of_length_eq_zero (by omega)
   subst hHn
   refine⟨oa,d.n,d.n,out,rfl,S.out,R.left hd hc hC hk,λg hg=>?_,S.bw⟩
   have:=S.o1 g hg
   have:=S.o6
   omega
def wI (w:List Nat):List Int:=w.map fun(x:Nat)=>(x:Int)
theorem oE.none {d:DA}{cs out:List Int}(h:oE d cs out)(hd:d.Ok)(h0:oAt out d.s=INF)(v:List Nat): ¬ d.Lang d.s v:=λhv=>(h.le hd hd.s_lt hv).1 h0
def C9 (d:DA)(cs:List Int):Bool:=okD d&&(decide ((cs.length:Int)=d.k)&&cs.all inC)
def El (d:DA)(cs:List Int)(most:Int)(w:World)(v:Value)(w':World):Prop:=bW w w'/\
 (C9 d cs=false/\v=.tuple #[.slice none 0 0,.bool false,vI 151]\/
  C9 d cs=true/\((∀u,d.Lang d.s u->most<dM cs u)/\v=.tuple #[.slice none 0 0,.bool false,vI 0]\/
    ∃(u:List Nat) (a:Option Addr) (n c:Nat),v=.tuple #[.slice a n c,.bool true,vI 0]/\Ow bY aq w' NoB a n c (wI u)/\br w.heap.size a/\oG cs (d.Lang d.s) u/\dM cs u <=most))
theorem oP {w:World}{a b:Option Addr}{n c m e:Nat}{a1:Option Addr}{l1 c1:Nat}{d:DA}{cs:List Int}(h:DaS w a n c b m e d)(hs:Sl bY w jD a1 l1 c1 cs)(most:Int)(hb0:most<INF)
   (hM:d.Ok->pk cs->cs.length=d.K->∃(C:Int) (M:Nat),GF cs C/\((d.n-1:Nat):Int)*C <=(M:Int)/\d.n*(M+3) <=900000000000):
   Cf eU #[daV a n c b m e d,.slice a1 l1 c1,vI most] w (Ret (El d cs most w)):=by
 apply vg
 intro k3 w3 hk3 hw3
 have hl1:=hs.len
 have b3:=(hw3▸af w _:bW w w3)
 have A3:ai w3 k3 ae [vI d.k,vI d.st,.slice a n c,.slice b m e]:=ai.new hk3 hw3
 have ask:C9 d cs=true->d.Ok/\pk cs/\cs.length=d.K:=λhk=>by
   unfold C9 at hk
   simp only[Bool.and_eq_true,dTx]at hk
   have ho:=eY.1 hk.1
   have:=ho.kk
   exact⟨ho,ug.1 hk.2.2,by omega⟩
 refine mJ (λw'=>bW w3 w'/\C9 d cs=true) ?_ ?_
 · refine⟨_,_,a,n,c,b,m,e,bh.load0 (cs:=[vI d.k,vI d.st,.slice a n c,.slice b m e]) A3 rfl,?_⟩
   refine aw (ks (h.below b3)) ?_
   rintro _ w15 ⟨rfl,b15⟩
   have B15:=ab b3 b15 b3.size
   refine⟨_,rfl,ah.of (λh1=>⟨B15,.inl ⟨by unfold C9;rw[show okD d=false by simpa using h1];rfl,rfl⟩⟩) (λh1=>⟨rfl,d.k,(A3.below b15).load1 aC rfl rfl,?_⟩)⟩
   have h1:okD d=true:=by simpa using h1
   refine ah.of (λh2=>⟨B15,.inl ⟨?_,rfl⟩⟩) (λh2=>?_)
   · have h2:((l1:Nat):Int)≠d.k:=by simpa using h2
     unfold C9
     rw[decide_eq_false (by rw[<- hl1];exact h2),Bool.false_and,Bool.and_false]
   have h2:((l1:Nat):Int)=d.k:=by simpa using h2
   refine aw (yV (hs.below B15)) ?_
   rintro _ w26 ⟨rfl,rfl⟩
   refine⟨_,rfl,ah.of (λh3=>⟨B15,.inl ⟨by unfold C9;rw[show cs.all inC=false by simpa using h3,Bool.and_false,Bool.and_false],rfl⟩⟩) (λh3=>⟨b15,?_⟩)⟩
   unfold C9
   rw[h1,decide_eq_true (by rw[<- hl1];exact h2),show cs.all inC=true by simpa using h3];rfl
 rintro wj ⟨bj,hask⟩
 obtain⟨hd,hf,hkk⟩:=ask hask
 obtain⟨C,M,hC,hM1,hM2⟩:=hM hd hf hkk
 have Bj:=ab b3 bj b3.size
 refine⟨_,_,a,n,c,b,m,e,bh.load0 (cs:=[vI d.k,vI d.st,.slice a n c,.slice b m e]) (A3.below bj) rfl,?_⟩
 have hmn:m=d.n:=h.ac.len
 have hmn2:=hmn
 subst hmn2
 refine aw (yW (h.below Bj) hd (hs.below Bj) hf hC hkk hM1 hM2) ?_
 rintro _ w31 ⟨oa,on,oc,out,rfl,O,L,fo,b31⟩
 refine⟨oa,on,oc,rfl,?_⟩
 have hsn:=hd.s_lt
 have hss:((d.s:Nat):Int)=d.st:=by have:=hd.s0;show((d.st.toNat:Nat):Int)=d.st;omega
 have hon:=O.len
 have hol:=L.len
 have B31:=ab Bj b31 Bj.size
 have A31:ai w31 k3 ae [vI d.k,vI d.st,.slice a n c,.slice b d.n e]:=(A3.below bj).below b31
 have hso:d.s<out.length:=by omega
 have lst:∀{u:World},bW w31 u->(Instr.loadAt aq (.pointer (some ⟨k3,1,none⟩))).run prog u=.ok (vI ((d.s:Nat):Int)) u:=λhu=>by rw[hss];exact(A31.below hu).load1 aC rfl rfl
 have lout:∀{s:Nat} {u:World},s<d.n->bW w31 u->(Instr.loadAt aq (.pointer (ak oa (s:Int) 1))).run prog u=.ok (vI (oAt out s)) u:=fun{s u} hs hu=>by
   have hsl:s<out.length:=by omega
   rw[<- BA hsl];exact(O.below hu).all.num aC hsl
 have isO:∀{s:Nat},s<d.n->Option.isSome oa=true:=fun{s} hs=>O.all.isSome (i:=s) (by omega)
 have rf:=Below.refl w31.heap.size w31
 refine mJ (λw'=>w'=w31/\oAt out d.s <=most/\oAt out d.s≠INF) ?_ ?_
 · refine⟨rfl,_,lst rf,⟨⟨by omega,by omega⟩,isO hsn⟩,_,lout hsn rf,ah.of (λh1=>?_) (λh1=>?_)⟩ <;> simp only[gt_iff_lt,dTx,dFx]at h1
   · refine⟨B31,.inr ⟨hask,.inl ⟨λu hu=>?_,rfl⟩⟩⟩
     have:=(L.le hd hsn hu).2
     omega
   refine⟨rfl,_,lst rf,⟨⟨by omega,by omega⟩,isO hsn⟩,_,lout hsn rf,ah.of (λh2=>?_) (λh2=>?_)⟩
   · have h2:oAt out d.s=INF:=by simpa using h2
     exact⟨B31,.inr ⟨hask,.inl ⟨λu hu=>absurd hu (L.none hd h2 u),rfl⟩⟩⟩
   · have h2:oAt out d.s≠INF:=by simpa using h2
     exact⟨rfl,by omega,h2⟩
 rintro wk ⟨hwk,hle,hne⟩
 have hwk2:=hwk.symm
 subst hwk2
 have hmost:=L.most d.s hsn hne
 refine⟨rfl,_,lst rf,?_⟩
 refine⟨λmm wa wn wc t wl=>∃(u:List Nat) (s:Nat),t=(s:Int)/\s<d.n/\oAt out s≠INF/\mm=(oAt out s).toNat/\u.length+(oAt out s).toNat <=(oAt out d.s).toNat/\Gr d cs out d.s u s/\Ow bY aq wl NoB wa wn wc (wI u)/\br w31.heap.size wa/\bW w31 wl,
   ⟨_,[],d.s,rfl,hsn,hne,rfl,by simp,.nil _,Ow.nil _ _ _ _,br.none _,rf⟩,?_⟩
 intro mm wa wn wc t
 refine aL.of ?_ _
 rintro wl ⟨u,s,rfl,hsl,hsne,rfl,hul,G,W,fw,bl⟩
 have hslo:=(L.lo s hsl).1
 have hdlo:=(L.lo d.s hsn).1
 refine⟨⟨⟨by omega,by omega⟩,isO hsl⟩,_,lout hsl bl,ah.of (λh1=>?_) (λh1=>?_)⟩ <;> simp only[gt_iff_lt,dTx,dFx]at h1
 · have Al:=A31.below bl
   refine⟨rfl,d.k,Al.load1 aC rfl rfl,?_⟩
   refine⟨λm1 wa1 wn1 wc1 t1 xx wl1=>∃x:Nat,wa1=wa/\wn1=wn/\wc1=wc/\t1=((s:Nat):Int)/\xx=(x:Int)/\x <=d.K/\m1=d.K-x/\(∀y,y<x-> ¬ yG d cs out s y)/\Ow bY aq wl1 NoB wa wn wc (wI u)/\bW w31 wl1,
     ⟨_,0,rfl,rfl,rfl,rfl,rfl,Nat.zero_le _,rfl,λy hy=>absurd hy (Nat.not_lt_zero _),W,bl⟩,?_⟩
   intro m1 wa1 wn1 wc1 t1 xx
   refine aL.of ?_ _
   rintro wl1 ⟨x,rfl,rfl,rfl,rfl,rfl,hxk,rfl,hno,W1,bl1⟩
   have hdk:=hd.kk
   refine ah.of (λh2=>?_) (λh2=>?_) <;> simp only[dTx,dFx]at h2
   · have hxK:x<d.K:=by omega
     have hxc:x<cs.length:=by omega
     have hcx:=hf.at hxc
     have A1:=A31.below bl1
     have B1:=ab B31 bl1 B31.size
     have hidx:=qt hsl hxK
     have hK2:=hd.k2
     have hN2:=hd.n2
     have hKs:d.K <=512:=by omega
     have hmul:d.n*d.K <=65536*512:=Nat.mul_le_mul hN2 hKs
     have hsk:s*d.K <=d.n*d.K:=Nat.mul_le_mul_right _ (Nat.le_of_lt hsl)
     have ew:i64.wrap (i64.wrap (((s:Nat):Int)*d.k)+((x:Nat):Int))=((s*d.K+x:Nat):Int):=by
       have e1:((s:Nat):Int)*d.k=((s*d.K:Nat):Int):=by rw[<- hdk];simp
       have e2:i64.wrap (((s*d.K:Nat):Int))=((s*d.K:Nat):Int):=ar (by omega) (by omega)
       rw[e1,e2,ar (by omega) (by omega)];omega
     have hnx:=(h.below B1).nx
     have hnl:s*d.K+x<d.nx.length:=by rw[hd.lenN];exact hidx
     have hnn:=hnx.len
     have eto:d.nx[s*d.K+x]=((d.to s x:Nat):Int):=by
       have h0:=hd.nx0 _ (List.getElem_mem hnl)
       unfold DA.to
       rw[List.getD_eq_getElem?_getD,List.getElem?_eq_getElem hnl]
       show _=((d.nx[s*d.K+x].toNat:Nat):Int)
       omega
     have htl:=hd.to_lt hsl hxK
     have hto:=L.lo _ htl
     refine⟨rfl,a,n,c,A1.load1 aA rfl rfl,rfl,d.k,A1.load1 aC rfl rfl,?_⟩
     rw[ew]
     refine⟨⟨⟨by omega,by omega⟩,hnx.isSome hnl⟩,((d.to s x:Nat):Int),by rw[<- eto];exact hnx.num aC hnl,?_⟩
     refine⟨λbb wq=>bW wl1 wq/\(bb=true ↔ yG d cs out s x),?_,?_⟩
     · refine⟨⟨⟨by omega,by omega⟩,isO htl⟩,_,λq hq=>lout htl (ab bl1 hq bl1.size),ah.of (λh3=>?_) (λh3=>?_)⟩ <;> simp only[dTx,dFx]at h3
       · have hm3:=L.most _ htl (by have:=sq;omega)
         refine⟨⟨⟨by omega,by omega⟩,isO htl⟩,_,λq hq=>lout htl (ab bl1 hq bl1.size),⟨⟨by omega,by omega⟩,hs.isSome hxc⟩,cAt cs x,λq hq=>?_,⟨⟨by omega,by omega⟩,isO hsl⟩,_,λq hq=>lout hsl (ab bl1 hq bl1.size),λq hq=>⟨hq,?_⟩⟩
         · rw[<- EG hxc];exact(hs.below (ab B1 hq B1.size)).num aC hxc
         · rw[ar (by omega) (by omega),beq_iff_eq]
           exact⟨λe=>⟨by have:=sq;omega,e⟩,λe=>e.2⟩
       · exact λq hq=>⟨hq,⟨λe=>absurd e (by decide),λe=>absurd (show oAt out (d.to s x)<9223372036854775807 from e.1) h3⟩⟩
     · intro bb
       refine aL.of ?_ _
       rintro wj2 ⟨bj2,hbb⟩
       have Wj:=W1.below bj2
       have Bl2:=ab bl1 bj2 bl1.size
       refine ah.of (λh4=>?_) (λh4=>?_)
       · have hok:=hbb.1 h4
         intro k92 w92 hk92 hw92
         have hbd:((wI u).length+1)*8 <=140737488355328:=by
           unfold wI
           rw[List.length_map];omega
         obtain⟨w93,a93,n93,c93,hr,o93,f93,b93⟩:=FN (ty:=aj) (w0:=w31) (cm:=1) (x:=((x:Nat):Int)) dF aA dk (by decide) Wj fw Bl2 hk92 hw92 cS hbd
         have hcx1:=hok.2
         refine⟨w93,a93,n93,c93,hr,(oAt out (d.to s x)).toNat,by omega,u++[x],d.to s x,rfl,htl,by have:=hok.1;have:=sq;omega,rfl,?_,G.snoc hxK h1 hok hno,?_,f93,b93⟩
         · rw[List.length_append,List.length_singleton];omega
         · unfold wI at o93 ⊢
           rw[List.map_append];exact o93
       · have hok: ¬ yG d cs out s x:=λhk=>by rw[hbb.2 hk]at h4;cases h4
         refine⟨d.K-(x+1),by omega,x+1,rfl,rfl,rfl,rfl,by rw[ar (by omega) (by omega)];omega,hxK,rfl,λy hy=>?_,Wj,Bl2⟩
         by_cases e:y=x
         · subst e;exact hok
         · exact hno y (by omega)
   · exfalso
     obtain⟨x',hx',hok'⟩:=L.next hd hf hkk hsl hsne h1
     exact hno x' (by omega) hok'
 · have h0:oAt out s=0:=by omega
   obtain⟨g1,g2,g3⟩:=G.law L hd hf hkk hsn hne h0
   refine⟨ab B31 bl B31.size,.inr ⟨hask,.inr ⟨u,wa,wn,wc,rfl,W,λg hg=>?_,⟨g1,g3⟩,by omega⟩⟩⟩
   have:=fw g hg
   have:=B31.size
   omega
theorem Ex {ts:List Txt}(htl:ts.length <=60):(vT ts).Ok:=KR (by omega) (by omega)
theorem HR (ts:List Txt):(vT ts).k=((ts.length:Int)+1):=by show(((ts.length+1:Nat)):Int)=_;omega
theorem Ew (ts:List Txt)(v:List Nat):(vT ts).Lang (vT ts).s v ↔ (∀x∈v,x<ts.length+1)/\kP (v.map (tx ts)):=by
 rw[<- I3]
 exact I1 v
theorem Du {ts:List Txt}(hl:ts.length <=60)(hx:∀t∈ts,t.length <=70):GF (gF ts) 71:=by
 refine⟨by omega,by omega,λx hx'=>?_⟩
 rw[lu]at hx'
 rw[un hx']
 rcases Nat.lt_or_ge x ts.length with h|h
 · rw[Jr h]
   have:=hx _ (List.getElem_mem h)
   omega
 · have:x=ts.length:=by omega
   subst this
   rw[Cb]
   have:=(gz (pE hl)).2.1
   omega
theorem Hw {ts:List Txt}(htl:ts.length <=60){d e:DA}{ps:List Pr}(hk:d.k=(ts.length:Int)+1)(hI:fN d (vT ts) (λx y=>x&&y) e ps)(v:List Nat):
   e.Lang e.s v ↔ d.Lang d.s v/\kP (v.map (tx ts)):=by
 have hK:d.K=ts.length+1:=by unfold DA.K;rw[hk];omega
 rw[hI.lang v]
 have h2:=Ew ts v
 unfold DA.Lang at h2 ⊢
 have hK2:(vT ts).K=ts.length+1:=by unfold DA.K;rw[HR];omega
 rw[hK2]at h2
 rw[hK,Bool.and_eq_true]
 constructor
 · rintro⟨h3,h4,h5⟩
   exact⟨⟨h3,h4⟩,(h2.1 ⟨h3,h5⟩).2⟩
 · rintro⟨⟨h3,h4⟩,h5⟩
   exact⟨h3,h4,(h2.2 ⟨h3,h5⟩).2⟩
def hB (ts:List Txt)(d:DA):Bool:=okD d&&decide (d.k=(ts.length:Int)+1)
def JD (ts:List Txt)(d:DA)(w:World)(v:Value)(w':World):Prop:=bW w w'/\
 if hB ts d=true then ∃r:Option Hst,wQ ts (d.Lang d.s) r/\(∀g,r=some g->g.ok)/\v=.tuple #[(r.getD iN).v,.bool r.isSome,vI 0]else v=.tuple #[iN.v,.bool false,vI 151]
set_option maxHeartbeats 1000000 in
theorem sJ {w:World}(he:Env w){p:Option Addr}{ts:List Txt}(hA:fH w p ts)(htl:ts.length <=60)(hx:∀t∈ts,t.length <=70){a b:Option Addr}{n c m e:Nat}{d:DA}(h:DaS w a n c b m e d)(hf:d.Ok->d.k=(ts.length:Int)+1->Few d (vT ts)):
   Cf jO #[.pointer p,daV a n c b m e d] w (Ret (JD ts d w)):=by
 apply rL
 intro k3 w3 hk3 hw3 k4 w4 hk4 hw4
 have hx':∀t∈ts,t.length <=1000:=λt ht=>by have:=hx t ht;omega
 have b3:=(hw3▸af w _:bW w w3)
 have b4:=(hw4▸af w3 _:bW w3 w4)
 have A3:ai w3 k3 ae (daL a n c b m e d):=ai.new hk3 hw3
 have A4:ai w4 k4 am iN.cells:=ai.new hk4 hw4
 have B4:=ab b3 b4 b3.size
 have s3:=b3.size
 have l4:=A4.lt
 refine aw (sI (he.step B4) (hA.below B4) htl hx') ?_
 rintro _ w17 ⟨a1,n1,c1,b1,m1,e1,rfl,O,b17⟩
 have B17:=ab B4 b17 B4.size
 refine⟨_,_,a1,n1,c1,b1,m1,e1,_,rfl,?_⟩
 intro k7 w7 hk7 hw7
 have b7:=(hw7▸af w17 _:bW w17 w7)
 have A7:ai w7 k7 ae [vI 0,vI 0,.slice none 0 0,.slice none 0 0]:=ai.new hk7 hw7
 obtain⟨wx,q1,v1,g1⟩:=bh.store0 (P:=prog) (cs:=daL a1 n1 c1 b1 m1 e1 (vT ts)) rfl (dt _ _ _ _ _ _ _) A7 rfl
 have bx:bW w17 wx:=Below.put b7 g1 (by omega)
 have Bx:=ab B17 bx B17.size
 have b4x:=ab b17 bx b17.size
 refine⟨wx,q1,ah.no rfl ⟨_,_,a,n,c,b,m,e,bh.load0 (cs:=daL a n c b m e d) ((A3.below b4).below b4x) rfl,_,_,a1,n1,c1,b1,m1,e1,bh.load0 (cs:=daL a1 n1 c1 b1 m1 e1 (vT ts)) v1 rfl,?_⟩⟩
 have hallK:=HR ts
 refine aw (py (h.below Bx) (O.das.below bx) (λh1 _ hk=>hf h1 (by rw[hk,hallK]))) ?_
 intro v w27 hP
 have eb:dz d (vT ts)=hB ts d:=by
   have e1:(d.k==(vT ts).k)=decide (d.k=(ts.length:Int)+1):=by rw[hallK,Bool.eq_iff_iff,beq_iff_eq,dTx]
   unfold dz hB
   rw[eY.2 (Ex htl),Bool.true_and,e1]
 have A4x:=A4.below b4x
 have back:∀{W:World} {g:Hst} (bb:Bool) (r:Int),g.ok->bW wx W->(∃wy,(Instr.storeAt am (.pointer (some ⟨k4,0,none⟩)) g.v).run prog W=.ok () wy/\(bE am (.pointer (some ⟨k4,0,none⟩))).run prog wy=.ok g.v wy/\bW w wy):=by
   intro W g bb r og hb
   obtain⟨wy,r1,r2,r3⟩:=bF.store0 (P:=prog) (cs:=g.cells) (Hst.len og) (Hst.one _) (A4x.below hb) rfl
   exact⟨wy,r1,ai.res (bF.load0 r2 (Hst.len og)),Below.put (ab Bx hb Bx.size) r3 (by omega)⟩
 cases hhB:hB ts d with
 | false=>
   rw[<- eb]at hhB
   unfold lO at hP
   rw[if_neg (by rw[hhB];simp)]at hP
   obtain⟨rfl,b27⟩:=hP
   refine⟨_,_,none,0,0,none,0,0,_,rfl,?_⟩
   intro k9 w9 hk9 hw9
   have b9:=(hw9▸af w27 _:bW w27 w9)
   have A9:ai w9 k9 ae [vI 0,vI 0,.slice none 0 0,.slice none 0 0]:=ai.new hk9 hw9
   obtain⟨wy,q2,v2,g2⟩:=bh.store0 (P:=prog) (cs:=daL none 0 0 none 0 0 d0) rfl (dt _ _ _ _ _ _ _) A9 rfl
   have bxy:=ab b27 (Below.put b9 g2 (by omega)) b27.size
   obtain⟨wz,r1,r2,r3⟩:=back (g:=iN) false 151 rfl bxy
   refine⟨wy,q2,ah.yes rfl ⟨wz,r1,_,r2,r3,?_⟩⟩
   rw[if_neg (by rw[<- eb,hhB];simp)]
 | true=>
   have hhB':=hhB
   rw[<- eb]at hhB
   unfold lO at hP
   rw[if_pos hhB]at hP
   obtain⟨dd,ps,hI,a2,n2,c2,b2,m2,e2,rfl,OB,b27⟩:=hP
   unfold hB at hhB'
   rw[Bool.and_eq_true,dTx]at hhB'
   obtain⟨hok,hdk⟩:=hhB'
   have hdok:=eY.1 hok
   have hfew:=hf hdok hdk
   have hps:ps.length <=65536:=hfew ps hI.nd hI.reach
   have hddok:=hI.ok hdok hps
   refine⟨_,_,a2,n2,c2,b2,m2,e2,_,rfl,?_⟩
   intro k9 w9 hk9 hw9
   have b9:=(hw9▸af w27 _:bW w27 w9)
   have A9:ai w9 k9 ae [vI 0,vI 0,.slice none 0 0,.slice none 0 0]:=ai.new hk9 hw9
   obtain⟨wy,q2,v2,g2⟩:=bh.store0 (P:=prog) (cs:=daL a2 n2 c2 b2 m2 e2 dd) rfl (dt _ _ _ _ _ _ _) A9 rfl
   have b27y:=Below.put b9 g2 (by omega)
   have bxy:=ab b27 b27y b27.size
   have By:=ab Bx bxy Bx.size
   refine⟨wy,q2,ah.no rfl ?_⟩
   have hddk:dd.k=(ts.length:Int)+1:=by rw[hI.k,hdk]
   have hAy:=hA.below By
   refine aw (ci p ts (by omega) wy hAy) ?_
   rintro _ w35 ⟨rfl,hw35⟩
   rw[hw35];clear hw35 w35
   refine⟨_,rfl,λM aa ll cc i W=>∃j:Nat,j <=ts.length+1/\i=(j:Int)/\M=ts.length+1-j/\Ow bY aq W NoB aa ll cc ((gF ts).take j)/\br wy.heap.size aa/\bW wy W,⟨_,0,by omega,rfl,rfl,by rw[List.take_zero];exact Ow.nil _ _ _ _,br.none _,Below.refl _ _⟩,?_⟩
   intro M aa ll cc i
   refine aL.of ?_ _
   rintro wl ⟨j,hj,rfl,rfl,hO,hF,hBl⟩
   refine ah.of (λh3=>?_) (λh3=>?_) <;> simp only[dTx,dFx]at h3
   · have hjk:j<ts.length+1:=by omega
     refine aw (kV p ts (by omega) (j:Int) wl (hAy.below hBl)) ?_
     rintro _ w42 ⟨rfl,b42⟩
     have hst:mO ts (j:Int)=tx ts j:=rfl
     have hl1:(tx ts j).length <=1000:=Gc htl hx' (by omega)
     refine⟨_,rfl,?_⟩
     rw[hst]
     intro k45 w45 hk45 hw45
     have B42:=ab hBl b42 hBl.size
     obtain⟨w46,a',n',c',r46,o46,f46,B46⟩:=FN (ty:=aj) dF aA dk (by decide) (hO.below b42) hF B42 (x:=(((tx ts j).length:Nat):Int)+1) hk45 hw45 (by rw[ar (by omega) (by omega)];exact cS) (cm:=1) (by rw[List.length_take,lu];omega)
     refine⟨w46,a',n',c',r46,ts.length+1-(j+1),by omega,j+1,by omega,by rw[ar (by omega) (by omega)];omega,rfl,?_,f46,B46⟩
     have e:(gF ts).take (j+1)=(gF ts).take j++[(((tx ts j).length:Nat):Int)+1]:=by
       have hlt:j<(gF ts).length:=by rw[lu];exact hjk
       have hg:(gF ts)[j]? =some ((((tx ts j).length:Nat):Int)+1):=by
         unfold gF
         rw[List.getElem?_map,List.getElem?_range hjk];rfl
       rw[List.getElem?_eq_getElem hlt]at hg
       rw[List.take_succ_eq_append_getElem hlt,Option.some.inj hg]
     rw[e];exact o46
   · have hjk:j=ts.length+1:=by omega
     subst hjk
     rw[List.take_of_length_le (by rw[lu];omega)]at hO
     have DS:DaS wl a2 n2 c2 b2 m2 e2 dd:=(OB.das.below b27y).below hBl
     refine⟨_,_,a2,n2,c2,b2,m2,e2,bh.load0 (cs:=daL a2 n2 c2 b2 m2 e2 dd) (v2.below hBl) rfl,?_⟩
     have hfine:=Bk htl hx'
     have bxl:=ab bxy hBl bxy.size
     have Bl:=ab By hBl By.size
     refine aw (oP DS hO.all 254 (by unfold INF;omega) (λh1 _ _=>⟨71,65536*71,Du htl hx,?_,?_⟩)) ?_
     · have:=h1.n2
       have h2:((dd.n-1:Nat):Int) <=65536:=by show((dd.ac.length-1:Nat):Int) <=65536;omega
       omega
     · have:=h1.n2
       have h2:dd.n <=65536:=this
       have:dd.n*(65536*71+3) <=65536*(65536*71+3):=Nat.mul_le_mul_right _ h2
       omega
     have hask:C9 dd (gF ts)=true:=by
       unfold C9
       rw[eY.2 hddok,decide_eq_true (by rw[lu,hddk];omega),ug.2 hfine];rfl
     have hlang:=Hw htl hdk hI
     rintro _ w51 ⟨b51,⟨h1,_⟩|⟨_,⟨hno,rfl⟩|⟨u,a5,n5,c5,rfl,o5,f5,hu,hc⟩⟩⟩
     · rw[hask]at h1;cases h1
     · refine⟨none,0,0,false,0,rfl,?_⟩
       obtain⟨wz,r1,r2,r3⟩:=back (g:=iN) false 0 rfl (ab bxl b51 bxl.size)
       refine⟨λ_=>False,⟨λbb W=>bb=true/\W=w51,ah.yes rfl ⟨rfl,rfl⟩,λbb=>aL.of ?_ _⟩,aL.of (λ_ hc=>hc.elim) _⟩
       rintro wj ⟨rfl,rfl⟩
       refine ah.yes rfl ⟨wz,r1,_,r2,r3,?_⟩
       rw[if_pos (by rw[<- eb];exact hhB)]
       refine⟨none,λv hv hw=>?_,(λg hg=>by cases hg),rfl⟩
       have:=hno v ((hlang v).2 ⟨hv,hw⟩)
       omega
     · refine⟨a5,n5,c5,true,0,rfl,?_⟩
       have bx51:=ab bxl b51 bxl.size
       have B51:=ab Bl b51 Bl.size
       refine⟨λW=>W=w51,⟨λbb W=>bb=false/\W=w51,ah.no rfl ⟨rfl,rfl⟩,λbb=>aL.of (λwj hj=>ah.no hj.1 hj.2) _⟩,aL.of ?_ _⟩
       rintro wj hwj
       rw[hwj];clear hwj wj
       have hu1:=(hlang u).1 hu.1
       have hsym:∀x∈u,x<ts.length+1:=by
         have:=hu1.1.1
         have hK:d.K=ts.length+1:=by unfold DA.K;rw[hdk];omega
         rwa [hK]at this
       have hul:u.length <=254:=by
         have h2:∀{v:List Nat},(∀x∈v,x<ts.length+1)->(v.length:Int) <=dM (gF ts) v:=by
           intro v
           induction v with
           | nil=>intro _;exact Int.le_refl _
           | cons x v ih=>
             intro hv
             have h3:=ih λy hy=>hv y (List.mem_cons_of_mem _ hy)
             have h4:=un (ts:=ts) (hv x List.mem_cons_self)
             simp only[dM,List.length_cons]
             omega
         have:=h2 hsym
         omega
       have etx:txs ts (wI u)=u.map (tx ts):=by unfold txs wI;rw[List.map_map];rfl
       refine aw (ur (he.step B51) (hA.below B51) (by omega) o5.all (Ow.inside o5) ?_ ?_ ?_) ?_
       · intro x hx'
         obtain⟨y,hy,rfl⟩:=List.mem_map.1 hx'
         have:=hsym y hy
         omega
       · unfold wI;rw[List.length_map];omega
       · rw[etx]
         intro x hx2
         obtain⟨y,hy,rfl⟩:=List.mem_map.1 hx2
         exact Gc htl hx' (by have:=hsym y hy;omega)
       rintro _ w66 ⟨rfl,b66⟩
       rw[etx]
       obtain⟨g,hg,og,_,_⟩:=Dp hsym hu1.2 hc
       rw[hg]
       refine⟨_,_,rfl,?_⟩
       intro k14 w14 hk14 hw14
       have b14:=(hw14▸af w66 _:bW w66 w14)
       have A14:ai w14 k14 am iN.cells:=ai.new hk14 hw14
       obtain⟨w5x,r4,v4,g4⟩:=bF.store0 (P:=prog) (cs:=g.cells) (Hst.len og) (Hst.one _) A14 rfl
       have bx14:=ab (ab bx51 b66 bx51.size) (Below.put b14 g4 (by omega)) (ab bx51 b66 bx51.size).size
       obtain⟨wz,r1,r2,r3⟩:=back (g:=g) true 0 og bx14
       refine⟨w5x,r4,_,bF.load0 v4 (Hst.len og),wz,r1,_,r2,r3,?_⟩
       rw[if_pos (by rw[<- eb];exact hhB)]
       exact⟨some g,⟨u,hu.congr hlang,hc,hg⟩,(λg' hg'=>by cases hg';exact og),rfl⟩
def jl:List Int:=List.replicate 92 1
theorem xl:jl.length=92:=by simp[jl]
theorem BC:pk jl:=λc hc=>by
 have:=(List.mem_replicate.1 hc).2
 omega
theorem iD:∀{v:List Nat},(∀x∈v,x<92)->dM jl v=(v.length:Int)
 | [],_=>rfl
 | x::v,h=>by
   have hx:=h x List.mem_cons_self
   have e:cAt jl x=1:=by
     unfold cAt jl
     rw[List.getD_eq_getElem?_getD,List.getElem?_replicate,if_pos hx];rfl
   simp only[dM]
   rw[e,iD λy hy=>h y (List.mem_cons_of_mem _ hy)]
   simp only[List.length_cons]
   omega
def GB (v:List Nat):List UInt8:=v.map fun(x:Nat)=>chr (x:Int)
theorem Gg {v:List Nat}(h:∀x∈v,x<92):kZ (GB v)=true/\pw (GB v)=v:=by
 constructor
 · refine List.all_eq_true.2 λc hc=>?_
   obtain⟨x,hx,rfl⟩:=List.mem_map.1 hc
   have:=h x hx
   have e:=F9 (i:=(x:Int)) (by unfold wd;simp;omega)
   rw[e];simp
 · unfold pw GB
   rw[List.map_map]
   conv=>rhs;rw[<- List.map_id v]
   refine List.map_congr_left λx hx=>?_
   have:=h x hx
   have e:=F9 (i:=(x:Int)) (by unfold wd;simp;omega)
   show(sym (chr (x:Int))).toNat=x
   rw[e];simp
theorem ot:kZ [47]=true:=by decide
theorem Ds {p:List UInt8}(h:kZ p=true)(h1:[47] <+:p)(h2:p.length <=2048):we p=true:=by
 unfold we
 obtain⟨r,e⟩:=h1
 have hd:p.head?=some 47:=by rw[<- e];rfl
 rw[decide_eq_true hd,decide_eq_true h2,Bool.true_and,Bool.true_and]
 refine List.all_eq_true.2 λc hc=>?_
 rw[CO]
 exact decide_eq_true (qj h hc)
theorem xp {p:List UInt8}(h:we p=true):pw [47] <+:pw p:=by
 obtain⟨g,h47,_⟩:=rE h
 refine(ly ot g).2 ?_
 cases p with
 | nil=>simp at h47
 | cons c q=>simp at h47;exact⟨q,by rw[h47];rfl⟩
def jH (L:List Nat->Prop)(r:Option (List UInt8)):Prop:=
 match r with
 | some p=>∃v,oG jl (λv=>L v/\pw [47] <+:v) v/\dM jl v <=2048/\p=GB v
 | none=>∀v,L v->pw [47] <+:v->2048<dM jl v
theorem jH.congr {L L':List Nat->Prop}{r:Option (List UInt8)}(h:jH L r)(e:∀v,L v ↔ L' v):jH L' r:=by
 cases r with
 | some p=>
   obtain⟨v,h1,h2,h3⟩:=h
   exact⟨v,h1.congr λu=>by rw[e u],h2,h3⟩
 | none=>exact λv hv=>h v ((e v).2 hv)
theorem jH.one {L:List Nat->Prop}{r r':Option (List UInt8)}(h:jH L r)(k:jH L r'):r=r':=by
 cases r with
 | none=>
   cases r' with
   | none=>rfl
   | some p=>
     obtain⟨v,h1,h2,h3⟩:=k
     have:=h v h1.1.1 h1.1.2
     omega
 | some p=>
   obtain⟨v,h1,h2,h3⟩:=h
   cases r' with
   | none=>
     have:=k v h1.1.1 h1.1.2
     omega
   | some q=>
     obtain⟨u,k1,k2,k3⟩:=k
     rw[h3,k3,h1.one k1]
theorem DO {L:List Nat->Prop}(hL:∀v,L v->∀x∈v,x<92){p:List UInt8}(h:jH L (some p)):we p=true/\L (pw p)/\∀q,we q=true->L (pw q)->p.length <=q.length:=by
 obtain⟨v,h1,h2,rfl⟩:=h
 have hv:=hL v h1.1.1
 obtain⟨g,e⟩:=Gg hv
 rw[iD hv]at h2
 have hlen:(GB v).length=v.length:=by simp[GB]
 have hpre:[47] <+:GB v:=(ly ot g).1 (by rw[e];exact h1.1.2)
 refine⟨Ds g hpre (by omega),by rw[e];exact h1.1.1,λq hq hLq=>?_⟩
 have hq':=xp hq
 have h3:=h1.2 (pw q) ⟨hLq,hq'⟩
 rw[iD hv,iD (hL _ hLq)]at h3
 have:(pw q).length=q.length:=by simp[pw]
 omega
theorem FI {L:List Nat->Prop}(hL:∀v,L v->∀x∈v,x<92)(h:jH L none){q:List UInt8}(hq:we q=true): ¬ L (pw q):=λhLq=>by
 have:=h _ hLq (xp hq)
 rw[iD (hL _ hLq)]at this
 have h2:=(rE hq).2.2
 have:(pw q).length=q.length:=by simp[pw]
 omega
theorem rQ (a b:Int)(c:Option Addr)(d e:Nat)(f:Option Addr)(g i:Nat){w K}(h:nA w (.cells #[vI a,vI b,.slice c d e,.slice f g i] ae) λj k=>∃l:FP [.one .ptr,.one (.int .i64)],((∃m n o p q r s t,Ld ae (vA j 0) (World.drew k) (.agg #[vI m,vI n,.slice o p q,.slice r s t])/\(Cf cg #[] (World.drew k) λu v=>∃x y z A B C D E,u=.returned (.agg #[vI x,vI y,.slice z A B,.slice C D E])/\(Cf cv #[.agg #[vI m,vI n,.slice o p q,.slice r s t],.agg #[vI x,vI y,.slice z A B,.slice C D E]] v λF G=>∃H I J L M N O P Q,F=rT #[.agg #[vI H,vI I,.slice J L M,.slice N O P],vI Q]/\nA G (.cells #[vI 0,vI 0,.slice none 0 0,.slice none 0 0] ae) λR S=>∃T,Sv ae (vA R 0) (.agg #[vI H,vI I,.slice J L M,.slice N O P]) S T/\l (vA R 0) Q T)/\nA v (.cells #[vI 0,vI 0,.slice none 0 0,.slice none 0 0] ae) λF G=>Cf cv #[.agg #[vI m,vI n,.slice o p q,.slice r s t],.agg #[vI x,vI y,.slice z A B,.slice C D E]] G λH I=>∃J L M N O P Q R S,H=rT #[.agg #[vI J,vI L,.slice M N O,.slice P Q R],vI S]/\∃T,Sv ae (vA F 0) (.agg #[vI J,vI L,.slice M N O,.slice P Q R]) I T/\l (vA F 0) S T)/\∀u v,u=(World.drew k).heap.size->v=(World.drew k).alloc (.cells #[vI 0,vI 0,.slice none 0 0,.slice none 0 0] ae)->Cf cg #[] v λx y=>∃z A B C D E F G,x=.returned (.agg #[vI z,vI A,.slice B C D,.slice E F G])/\Cf cv #[.agg #[vI m,vI n,.slice o p q,.slice r s t],.agg #[vI z,vI A,.slice B C D,.slice E F G]] y λH I=>∃J L M N O P Q R S,H=rT #[.agg #[vI J,vI L,.slice M N O,.slice P Q R],vI S]/\∃T,Sv ae (vA u 0) (.agg #[vI J,vI L,.slice M N O,.slice P Q R]) I T/\l (vA u 0) S T)/\(Cf cg #[] (World.drew k) λm n=>∃o p q r s t u v,m=.returned (.agg #[vI o,vI p,.slice q r s,.slice t u v])/\(∃x y z A B C D E,Ld ae (vA j 0) n (.agg #[vI x,vI y,.slice z A B,.slice C D E])/\(Cf cv #[.agg #[vI x,vI y,.slice z A B,.slice C D E],.agg #[vI o,vI p,.slice q r s,.slice t u v]] n λF G=>∃H I J L M N O P Q,F=rT #[.agg #[vI H,vI I,.slice J L M,.slice N O P],vI Q]/\nA G (.cells #[vI 0,vI 0,.slice none 0 0,.slice none 0 0] ae) λR S=>∃T,Sv ae (vA R 0) (.agg #[vI H,vI I,.slice J L M,.slice N O P]) S T/\l (vA R 0) Q T)/\nA n (.cells #[vI 0,vI 0,.slice none 0 0,.slice none 0 0] ae) λF G=>Cf cv #[.agg #[vI x,vI y,.slice z A B,.slice C D E],.agg #[vI o,vI p,.slice q r s,.slice t u v]] G λH I=>∃J L M N O P Q R S,H=rT #[.agg #[vI J,vI L,.slice M N O,.slice P Q R],vI S]/\∃T,Sv ae (vA F 0) (.agg #[vI J,vI L,.slice M N O,.slice P Q R]) I T/\l (vA F 0) S T)/\nA n (.cells #[vI 0,vI 0,.slice none 0 0,.slice none 0 0] ae) λx y=>∃z A B C D E F G,Ld ae (vA j 0) y (.agg #[vI z,vI A,.slice B C D,.slice E F G])/\Cf cv #[.agg #[vI z,vI A,.slice B C D,.slice E F G],.agg #[vI o,vI p,.slice q r s,.slice t u v]] y λH I=>∃J L M N O P Q R S,H=rT #[.agg #[vI J,vI L,.slice M N O,.slice P Q R],vI S]/\∃T,Sv ae (vA x 0) (.agg #[vI J,vI L,.slice M N O,.slice P Q R]) I T/\l (vA x 0) S T)/\∀m n,m=(World.drew k).heap.size->n=(World.drew k).alloc (.cells #[vI 0,vI 0,.slice none 0 0,.slice none 0 0] ae)->(∃o p q r s t u v,Ld ae (vA j 0) n (.agg #[vI o,vI p,.slice q r s,.slice t u v])/\Cf cg #[] n λx y=>∃z A B C D E F G,x=.returned (.agg #[vI z,vI A,.slice B C D,.slice E F G])/\Cf cv #[.agg #[vI o,vI p,.slice q r s,.slice t u v],.agg #[vI z,vI A,.slice B C D,.slice E F G]] y λH I=>∃J L M N O P Q R S,H=rT #[.agg #[vI J,vI L,.slice M N O,.slice P Q R],vI S]/\∃T,Sv ae (vA m 0) (.agg #[vI J,vI L,.slice M N O,.slice P Q R]) I T/\l (vA m 0) S T)/\Cf cg #[] n λo p=>∃q r s t u v x y,o=.returned (.agg #[vI q,vI r,.slice s t u,.slice v x y])/\∃z A B C D E F G,Ld ae (vA j 0) p (.agg #[vI z,vI A,.slice B C D,.slice E F G])/\Cf cv #[.agg #[vI z,vI A,.slice B C D,.slice E F G],.agg #[vI q,vI r,.slice s t u,.slice v x y]] p λH I=>∃J L M N O P Q R S,H=rT #[.agg #[vI J,vI L,.slice M N O,.slice P Q R],vI S]/\∃T,Sv ae (vA m 0) (.agg #[vI J,vI L,.slice M N O,.slice P Q R]) I T/\l (vA m 0) S T)/\∀m n,aL 6 (∀o,l m n o->ah (n !=(0:Int)) (K (.tuple #[vS [],.bool false,vI n]) o) (∃p:FP [.one (.int .i64),.one .slice,.one .bool],((∃q r s t u v x y,Ld ae m (World.drew o) (.agg #[vI q,vI r,.slice s t u,.slice v x y])/\∀z A,z=(World.drew o).heap.size->A=(World.drew o).alloc (.cells #[vI 1] aq)->uL bm #[.slice (vA z 0) 1 1,vI 92] A λB C D E=>Cf eU #[.agg #[vI q,vI r,.slice s t u,.slice v x y],.slice B C D,vI 2048] E λF G=>∃H I J L M,F=rT #[.slice H I J,.bool L,vI M]/\p M H I J L G)/\∀q r,q=(World.drew o).heap.size->r=(World.drew o).alloc (.cells #[vI 1] aq)->(∃s t u v x y z A,Ld ae m r (.agg #[vI s,vI t,.slice u v x,.slice y z A])/\uL bm #[.slice (vA q 0) 1 1,vI 92] r λB C D E=>Cf eU #[.agg #[vI s,vI t,.slice u v x,.slice y z A],.slice B C D,vI 2048] E λF G=>∃H I J L M,F=rT #[.slice H I J,.bool L,vI M]/\p M H I J L G)/\uL bm #[.slice (vA q 0) 1 1,vI 92] r λs t u v=>∃x y z A B C D E,Ld ae m v (.agg #[vI x,vI y,.slice z A B,.slice C D E])/\Cf eU #[.agg #[vI x,vI y,.slice z A B,.slice C D E],.slice s t u,vI 2048] v λF G=>∃H I J L M,F=rT #[.slice H I J,.bool L,vI M]/\p M H I J L G)/\∀q r s t u,aL 8 (∀v,p q r s t u v->∃x:FP [],(ah (!u) (K (.tuple #[vS [],.bool false,vI q]) v) (ah (q !=(0:Int)) (K (.tuple #[vS [],.bool false,vI q]) v) (x v)))/\aL 10 (∀y,x y->Cf gR #[.slice r s t] y λz A=>∃B C,z=rT #[vS B,.bool C]/\K (.tuple #[vS B,.bool C,vI 0]) A))))):Cf jR #[.agg #[vI a,vI b,.slice c d e,.slice f g i]] w (Ret K):=ru func88 [(2,[(5,.one .ptr),(6,.one (.int .i64))]),(12,[(6,.one (.int .i64)),(7,.one .slice),(8,.one .bool)]),(14,[])] h
end Go.Pk
