/- The statement 'PlanMakes' of the given program holds, with its card. Its conditions: none beyond the row's own list of laid variables. -/
import Derived.Test.YthbkoifpgkjadaaGreatDoorCards
import Derived.Test.YthbkoifpgkjadaaGreatDoorTie
import Derived.WalkKit
import Derived.ProofKit
import Derived.OpenShut
import Derived.ShutString
import Derived.ChangeOld
import Derived.Below
import Derived.SliceStrings
import Derived.LaidMore
import Derived.Lay
import Derived.SevenTiedAt
import Derived.Stop.Joined
import Derived.Lib.LaidTab
import Derived.Stop.LaidErr
import Derived.Deep.DeepHandedRow
import Derived.Shelf.Vars
import Derived.Test.YthbkoifpgkjadaaGreatDoorKO
namespace Go.Proofs.YthbkoifpgkjadaaGreatDoor.planMakes
open Go.Pk (Env Hy Km Wm qak)
open Go.ChangeShapes Go.WideShapes Go.ChangeAt Go.RowKit
open Go.ChangeMaps (open_string shut_string)
set_option linter.unusedVariables false
set_option linter.unusedSimpArgs false

theorem own:ownKnob Tryz.prog.godebug=none:=by kernel_rfl
theorem laidOut:laidOutB Tryz.prog=true:=by kernel_rfl
theorem pow_data:(Rows.laid_internal_strconv_uint64pow10:DataW Unit)=Lib.tabData .u64 Lib.pow10Tab:=by kernel_rfl
theorem table {W:World}(h:laidMetH Tryz.prog Rows.planMakesRow.laid W):Wm Tryz.prog W:=by
 have h2:laidMet Tryz.prog Rows.planMakesRow.laid W:=by rw[<- MakeChecks.laidMetH_plain _ _ _ (by kernel_rfl)];exact h
 have h3:=h2.tail.tail;have h4:laidMet Tryz.prog (("internal/strconv.uint64pow10",Lib.tabData .u64 Lib.pow10Tab)::[("unicode/utf8.acceptRanges",Rows.laid_unicode_utf8_acceptRanges),("strconv.ErrRange",Rows.laid_strconv_ErrRange),("strconv.ErrSyntax",Rows.laid_strconv_ErrSyntax),("unicode/utf8.first",Rows.laid_unicode_utf8_first)]) W:=by rw[<- pow_data]; exact h3
 exact Lib.tabIs_of_head (n:=20) (g:=3) (t:=409) (by kernel_rfl) (by kernel_rfl) Tryz.underlying409 Tryz.underlying325 (by kernel_rfl) (by kernel_rfl) h4
theorem tz_data:(Rows.laid_math_bits_deBruijn64tab:DataW Unit)=Lib.tabData .u8 [0,1,56,2,57,49,28,3,61,58,42,50,38,29,17,4,62,47,59,36,45,43,51,22,53,39,33,30,24,18,12,5,63,55,48,27,60,41,37,16,46,35,44,21,52,32,23,11,54,26,40,15,34,20,31,10,25,14,19,9,13,8,7,6]:=by kernel_rfl
theorem tz {W:World}(h:laidMetH Tryz.prog Rows.planMakesRow.laid W):W.cell? ⟨5,15,none⟩=some (.int .u8 4):=by
 have h2:laidMet Tryz.prog Rows.planMakesRow.laid W:=by rw[<- MakeChecks.laidMetH_plain _ _ _ (by kernel_rfl)];exact h
 have h3:=h2.tail;have h4:laidMet Tryz.prog (("math/bits.deBruijn64tab",Lib.tabData .u8 [0,1,56,2,57,49,28,3,61,58,42,50,38,29,17,4,62,47,59,36,45,43,51,22,53,39,33,30,24,18,12,5,63,55,48,27,60,41,37,16,46,35,44,21,52,32,23,11,54,26,40,15,34,20,31,10,25,14,19,9,13,8,7,6])::[("internal/strconv.uint64pow10",Rows.laid_internal_strconv_uint64pow10),("unicode/utf8.acceptRanges",Rows.laid_unicode_utf8_acceptRanges),("strconv.ErrRange",Rows.laid_strconv_ErrRange),("strconv.ErrSyntax",Rows.laid_strconv_ErrSyntax),("unicode/utf8.first",Rows.laid_unicode_utf8_first)]) W:=by rw[<- tz_data]; exact h3
 have h5:=Lib.tabIs_of_head (n:=64) (g:=5) (t:=422) (by kernel_rfl) (by kernel_rfl) Tryz.underlying422 Tryz.underlying5 (by kernel_rfl) (by kernel_rfl) h4;exact h5.cell (g:=5) (by kernel_rfl) 15 (by decide)

theorem limit {W:World}(h:W.ShapedOpen Tryz.prog):∃m:Int,W.cell? ⟨0,0,none⟩=some (.int .i64 m):=
 cell_of_shapedOpen_int (zero:= #[.int .i64 0]) (t:=3) h (of_decide_eq_true (by kernel_rfl)) (by kernel_rfl) rfl (by kernel_rfl) (by kernel_rfl) Tryz.underlying3
def wArgs:Array Value:= #[.agg #[.string ByteArray.empty,.string ByteArray.empty,.string ByteArray.empty]]
set_option maxRecDepth 100000 in
theorem reads (os:Os){H:Type}(enc:TypeId×Value->H):∃places,DataW.whole enc Tryz.prog (((World.laidAll Tryz.prog os Rows.planMakesRow.laid).forCall (λ_ _=>0) ⟨#[],wArgs,[]⟩)).memory Tryz.f4.params.toList Rows.planMakesSpec.vars false wArgs.toList 8=some ([.agg [.lit (.string []),.lit (.string []),.lit (.string [])]],[],places):=
 ⟨[],by kernel_rfl⟩
set_option maxRecDepth 100000 in
set_option maxHeartbeats 2000000 in
theorem lifted (os:Os)(started:os.Started)(H:Type)(enc:TypeId×Value->H)(F:Stop.Interp):
 ReturnsInHanded {} Tryz.checked os 4 .any ((OpenSpec.ofChange Rows.planMakesSpec).preRow enc Tryz.prog Tryz.f4 Rows.planMakesRow.domain false Rows.planMakesRow.laid) (((OpenSpec.ofChange Rows.planMakesSpec).at F).post enc Tryz.prog Tryz.f4 false true false false):=by
 obtain⟨places,hx⟩:=reads os enc;refine returnsInHanded_of_row (C:=Tryz.checked) (s:=OpenSpec.ofChange Rows.planMakesSpec) own started (by kernel_rfl) Tryz.func4
  (Pk.xt (enc:=enc) (C:=Tryz.checked) false (World.laidAll Tryz.prog os Rows.planMakesRow.laid) wArgs (World.laidAll_os _ _ _)
   (World.shaped_of_ZipB (by kernel_rfl) (by kernel_rfl)) (by kernel_rfl)
   (OpenSpec.preRow_of_cond 8 hx (by kernel_rfl) (λk hk=>by cases hk) (by kernel_rfl)
    (by rw[MakeChecks.laidMetH_plain _ _ _ (by kernel_rfl)];exact laidMet_laidAll _ (by kernel_rfl) (by kernel_rfl)))) ?_
 intro W base args ds gs before hval0 hW hc hcond _ hL hSh _;have hval:∀(j:Nat) t v,Tryz.f4.params[j]? =some t->args[j]? =some v->Value.okWide Tryz.prog W .any base t v:=hval0;have ht:Env W:=⟨table hL,limit hSh,tz hL⟩
 have hW':=hW;obtain⟨p,q,hA0,hV,rfl,hfz,hnd⟩:=hW;have hA:DataW.TrodAll enc Tryz.prog W 0 (λ_=>true) true Tryz.f4.params.toList args.toList ds p:=hA0;rw[Tryz.params4]at hA hval;obtain⟨v0,vs0,d0,ds0,p0,q0,hargs,rfl,rfl,h0,r0⟩:=trodAll_cons hA;obtain⟨rfl,rfl,rfl⟩:=trodAll_nil r0;obtain rfl:args= #[v0]:=by cases args;simp_all
 obtain⟨rfl,rfl⟩:=trodVars_none hV;have k0:=h0;have lt0:∀x∈p0,x.block<W.heap.size:=by obtain⟨m,hm⟩:=k0;exact DataW.trod_lt m _ _ _ hm
 obtain⟨cs0,rfl⟩:=Pk.MU Tryz.underlying39 rfl (hval 0 39 v0 rfl rfl);obtain⟨fu0,hf0⟩:=h0;obtain⟨a0,rfl⟩:=Km hf0;clear hA0 hval0;refine(Hy a0.a a0.b a0.c W ht (qak hSh ht.tab)).mono ?_;rintro _ W' ⟨_,rfl,rfl,bel⟩;exact⟨_,rfl,_,_,_,[],_,[],hW',trodAll_mk1 (shut_bool Tryz.underlying4 _),(trodAll_cons_mk (Below.trod laidOut (by kernel_rfl) (of_decide_eq_true (by kernel_rfl)) k0 bel lt0) trodAll_mk0),rfl,bel.frame _,λh=>by cases h⟩

set_option maxHeartbeats 8000000
theorem and2 {a b:Bool}(ha:a=true)(hb:b=true):(a&&b)=true:=by rw[ha,hb];rfl
theorem closed:joinedFacts Tryz.prog 4 Tryz.f4 (OpenSpec.ofChange Rows.planMakesSpec).bare Rows.planMakesRow=true:=by
 unfold joinedFacts
 repeat' (with_reducible refine and2 ?_ ?_)
 all_goals(as_aux_lemma=>kernel_rfl)
theorem holds:Rows.PlanMakesSaid:=
 OpenClaim.holds_of_cond 4 Tryz.f4 rfl rfl rfl rfl rfl rfl rfl ⟨rfl,rfl,rfl,rfl,rfl⟩ rfl rfl rfl rfl rfl (by as_aux_lemma=>kernel_rfl) Tryz.func4 closed
  (of_decide_eq_true (by as_aux_lemma=>kernel_rfl)) (by as_aux_lemma=>(unfold Func.isWrapper;first|(rw[if_pos (by decide+kernel)];kernel_rfl)|(rw[if_neg (by decide+kernel)];exact⟨rfl,rfl⟩)))
  (λos started H enc _ F=>by rw[OpenClaim.pre_eq_preRow];exact lifted os started H enc F)
theorem proved:Rows.PlanMakesCardSaid:=
 Claim7.holds_tied_plain_at .later [] _ _ _ _ holds (λ_ h=>by cases h) (by as_aux_lemma=>kernel_rfl) (λ_ h=>by cases h) planMakes_row_tie rfl ⟨rfl,rfl⟩ (by as_aux_lemma=>kernel_rfl) rfl
  (λf fn hf hfn=>by
   obtain rfl:f=4:=Option.some.inj ((show Tryz.prog.funcNamed "cracknel/cracknellaw23.PlanMakes" =some 4 by kernel_rfl).symm.trans hf) |>.symm;obtain rfl:fn=Tryz.f4:=(Option.some.inj (Tryz.func4.symm.trans hfn)).symm;exact⟨by as_aux_lemma=>kernel_rfl,λj t ht=>by
    rw[Tryz.params4]at ht;have hm:t∈[39]:=by simpa using Array.mem_of_getElem? ht
    have hall:([39].all λu=> !Tryz.prog.wantsStandIn u)=true:=by kernel_rfl
    exact(show Tryz.prog.wantsStandIn t=false by simpa using List.all_eq_true.1 hall t hm)⟩)
  (by as_aux_lemma=>kernel_rfl)
#print axioms proved
end Go.Proofs.YthbkoifpgkjadaaGreatDoor.planMakes
