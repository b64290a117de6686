/- What the laws lean on: V59, PlnC, RF, V57, ShelfW, TplH, V37, HosE, RegB, HdrD, HdrE, HdrF, V2, HdrG; what is used. Its conditions: none. -/
import Derived.Test.YthbkoifpgkjadaaGreatDoorKK
import Derived.RangeFuncRecord
import Derived.Lib.Join
set_option linter.unusedVariables false
set_option linter.unusedSimpArgs false
set_option linter.unusedSectionVars false
set_option maxRecDepth 100000
open Go.IntKind (i64)
open Go.Proofs.Tryz
open List (length)
open Option (isSome)
namespace Go.Pk
open Go.RowKit (Below)
open Go.Proofs
theorem Gn (a b c:lU){w K}(h:nA w (.cells #[vI 0,vI 0,vI 0,vI 0] ay) λd e=>nA e (.cells #[.slice none 0 0,.slice none 0 0,.slice none 0 0,.pointer none,.pointer none] ep) λf g=>nA g (.cells #[vI 0,vI 0,vI 0] aA) λi j=>Cf mY #[vS a] j λk l=>∃m n o p q r,k=rT #[.slice m n o,.agg #[vI p,vI q,vI r]]/\true/\true/\∃s,Sv aS (vA f 0) (.slice m n o) l s/\∃t,Sv aA (vA i 0) (.agg #[vI p,vI q,vI r]) s t/\true/\∃u,Ld gu (vA i 0) t (vI u)/\ae (u !=(0:Int)) (∃v x y,Ld aA (vA i 0) t (.agg #[vI v,vI x,vI y])/\Cf eP #[vI 1,.agg #[vI v,vI x,vI y]] t λz A=>∃B C D E F,z=rT #[.pointer B,.agg #[vI C,vI D,vI E,vI F]]/\∃G,Sv ay (vA d 0) (.agg #[vI C,vI D,vI E,vI F]) A G/\∃H I J L,Rv ay (vA d 0) G (.agg #[vI H,vI I,vI J,vI L])/\K (.tuple #[.pointer B,.agg #[vI H,vI I,vI J,vI L]]) G) (Cf vf #[vS b] t λv x=>∃y z A B C D,v=rT #[.slice y z A,.agg #[vI B,vI C,vI D]]/\∃E,Sv aA (vA i 0) (.agg #[vI B,vI C,vI D]) x E/\true/\∃F,Ld gu (vA i 0) E (vI F)/\ae (F !=(0:Int)) (∃G H I,Ld aA (vA i 0) E (.agg #[vI G,vI H,vI I])/\Cf eP #[vI 2,.agg #[vI G,vI H,vI I]] E λJ L=>∃M N O P Q,J=rT #[.pointer M,.agg #[vI N,vI O,vI P,vI Q]]/\∃R,Sv ay (vA d 0) (.agg #[vI N,vI O,vI P,vI Q]) L R/\∃S T U V,Rv ay (vA d 0) R (.agg #[vI S,vI T,vI U,vI V])/\K (.tuple #[.pointer M,.agg #[vI S,vI T,vI U,vI V]]) R) (Cf mX #[vS c] E λG H=>∃I J L M N O P Q R,G=rT #[.slice I J L,.slice M N O,.agg #[vI P,vI Q,vI R]]/\true/\true/\∃S,Sv au (vA f 1) (.slice I J L) H S/\true/\true/\∃T,Sv aC (vA f 2) (.slice M N O) S T/\∃U,Sv aA (vA i 0) (.agg #[vI P,vI Q,vI R]) T U/\true/\∃V,Ld gu (vA i 0) U (vI V)/\ae (V !=(0:Int)) (∃X Y Z,Ld aA (vA i 0) U (.agg #[vI X,vI Y,vI Z])/\Cf eP #[vI 3,.agg #[vI X,vI Y,vI Z]] U λaa ac=>∃ad ag al an ba,aa=rT #[.pointer ad,.agg #[vI ag,vI al,vI an,vI ba]]/\∃bb,Sv ay (vA d 0) (.agg #[vI ag,vI al,vI an,vI ba]) ac bb/\∃bd bj bk bl,Rv ay (vA d 0) bb (.agg #[vI bd,vI bj,vI bk,vI bl])/\K (.tuple #[.pointer ad,.agg #[vI bd,vI bj,vI bk,vI bl]]) bb) (true/\true/\∃X Y Z,Ld au (vA f 1) U (.slice X Y Z)/\∃aa:Nat->FP [.one (.int .i64)],(∃ac,aa ac (0:Int) U)/\∀ac ad,aN 16 (∀ag,aa ac ad ag->ae (decide (ad<((Y:Nat):Int))) ((bx ad ((Y:Nat):Int)/\Option.isSome X=true)/\∃al,Ld ao (am X ad 24) ag al/\nA ag (.cells kV ao) λan ba=>∃bb,Sv ao (vA an 0) al ba bb/\∃bd,Ld ao (vA an 0) bb bd/\uB iW #[.pointer (vA f 0),bd] bb λbj bk=>ae (!bj) (true/\∃bl,Ld aP (vA an 23) bk (vI bl)/\Cf eP #[vI 3,.agg #[vI 231,vI bl,vI 1]] bk λbo bq=>∃bs bu bw bz cb,bo=rT #[.pointer bs,.agg #[vI bu,vI bw,vI bz,vI cb]]/\∃cc,Sv ay (vA d 0) (.agg #[vI bu,vI bw,vI bz,vI cb]) bq cc/\∃cf ch ck cl,Rv ay (vA d 0) cc (.agg #[vI cf,vI ch,vI ck,vI cl])/\K (.tuple #[.pointer bs,.agg #[vI cf,vI ch,vI ck,vI cl]]) cc) (∃bl:Nat,bl<ac/\aa bl (i64.wrap (ad+(1:Int))) bk)) (uP sn #[.slice y z A] ag λal an=>uP jn #[.pointer (vA f 0)] an λba bb=>true/\true/\∃bd,Sv jh (vA f 3) (.pointer al) bb bd/\true/\true/\∃bj,Sv bI (vA f 4) (.pointer ba) bd bj/\true/\true/\∃bk,Ld bI (vA f 4) bj (.pointer bk)/\uI bh #[.pointer bk] bj λbl bo=>ae (decide (bl>(512:Int))) (Cf eP #[vI 1,.agg #[vI 53,vI 1,vI 1]] bo λbq bs=>∃bu bw bz cb cc,bq=rT #[.pointer bu,.agg #[vI bw,vI bz,vI cb,vI cc]]/\∃cf,Sv ay (vA d 0) (.agg #[vI bw,vI bz,vI cb,vI cc]) bs cf/\∃ch ck cl cm,Rv ay (vA d 0) cf (.agg #[vI ch,vI ck,vI cl,vI cm])/\K (.tuple #[.pointer bu,.agg #[vI ch,vI ck,vI cl,vI cm]]) cf) (∃bq,Sv ay (vA d 0) (.agg #[vI 0,vI 0,vI 0,vI 0]) bo bq/\∃bs bu bw bz,Rv ay (vA d 0) bq (.agg #[vI bs,vI bu,vI bw,vI bz])/\K (.tuple #[.pointer (vA f 0),.agg #[vI bs,vI bu,vI bw,vI bz]]) bq))))))):Cf iy #[vS a,vS b,vS c] w (Ret K):=ru func8 [(40,[(66,.one (.int .i64))])] h
def ptU (p q:Pt):Pt where
 fp:=p.fp++q.fp
 P:=λw=>p.P w/\q.P w
 st:=λh hk=>⟨p.st h.1 (hk.mono λb hb=>List.mem_append.2 (.inl hb)),q.st h.2 (hk.mono λb hb=>List.mem_append.2 (.inr hb))⟩
 lt:=λh b hb=>(List.mem_append.1 hb).elim (p.lt h.1 b) (q.lt h.2 b)
theorem T5 {a b c:List UInt8}{f:Flt}(h:I8 a=.inr f):sE a b c=.inr (1,f):=by unfold sE;rw[h]
theorem T6 {a b c:List UInt8}{ps:List Pat}{f:Flt}(h:I8 a=.inl ps)(h2:wS b=.inr f):sE a b c=.inr (2,f):=by unfold sE;rw[h,h2]
theorem T7 {a b c:List UInt8}{ps:List Pat}{rs:List Rul}{f:Flt}(h:I8 a=.inl ps)(h2:wS b=.inl rs)(h3:xf c=.inr f):sE a b c=.inr (3,f):=by unfold sE;rw[h,h2,h3]
theorem J1 {a b c:List UInt8}{ps:List Pat}{rs:List Rul}{ts:List Tpl}{cs:List Cho}(h:I8 a=.inl ps)(h2:wS b=.inl rs)(h3:xf c=.inl (ts,cs)):
   sE a b c=match ts.find? λt=> !FB ps t with
       | some t=>.inr (3,231,t.line,1)
       | none=>if 512<(xS (⟨ps,ts,cs,rs⟩:Pln).labs).length+1 then .inr (1,53,1,1)else .inl ⟨ps,ts,cs,rs⟩:=by unfold sE;rw[h,h2,h3];rfl
theorem JF {w W:World}{ps:List Pt}(h:Sp w ps W)(j:Nat){k:Nat}{f0:Flt}(hj:ps[j]? =some (ptA k aA (xW f0)))(f:Flt):∃wx,(Instr.storeAt aA (.pointer (some ⟨k,0,none⟩)) (Ez f)).run prog W=.ok () wx/\Sp w (ps.set j (ptA k aA (xW f))) wx:=by
 have A4:ai W k aA (xW f0):=h.at j hj
 obtain⟨wC,qC,AC,gC⟩:=gM.store0 (P:=prog) (cs:=xW f) rfl (BQ _) A4 rfl
 exact⟨wC,qC,h.upd j hj (Chg.grown gC List.mem_cons_self) (p':=ptA k aA (xW f)) AC λb hb=>.inl hb⟩
theorem CZ {w W:World}{ps:List Pt}(h:Sp w ps W)(j:Nat){k7:Nat}{n0:Int}{f0:Flt}(hj:ps[j]? =some (ptA k7 ay (zo n0 f0)))(n:Int)(f:Flt){K:Value->World->Prop}(hK:∀wx,bW w wx->K (.tuple #[.pointer none,UV n f]) wx):
   Cf eP #[vI n,Ez f] W λe27 w27=>∃(p27_0:Option Addr) (n27_1_0:Int) (n27_1_1:Int) (n27_1_2:Int) (n27_1_3:Int),e27=.returned (.tuple #[.pointer p27_0,.agg #[vI n27_1_0,vI n27_1_1,vI n27_1_2,vI n27_1_3]])/\
     ∃(wx_2:World),(Instr.storeAt ay (.pointer (some ⟨k7,0,none⟩)) (.agg #[vI n27_1_0,vI n27_1_1,vI n27_1_2,vI n27_1_3])).run prog w27=.ok () wx_2/\
     ∃(nr1_0:Int) (nr1_1:Int) (nr1_2:Int) (nr1_3:Int),(aV ay (.pointer (some ⟨k7,0,none⟩))).run prog wx_2=.ok (.agg #[vI nr1_0,vI nr1_1,vI nr1_2,vI nr1_3]) wx_2/\
     K (.tuple #[.pointer p27_0,.agg #[vI nr1_0,vI nr1_1,vI nr1_2,vI nr1_3]]) wx_2:=by
 refine aB (Mz n f W) ?_
 rintro _ w27 ⟨rfl,b27⟩
 have h:=h.below b27
 have A7:ai w27 k7 ay (zo n0 f0):=h.at j hj
 obtain⟨wx,qx,Ax,gx⟩:=cV.store0 (P:=prog) (cs:=zo n f) rfl (qW n f) A7 rfl
 have hx:=h.upd j hj (Chg.grown gx List.mem_cons_self) (p':=ptA k7 ay (zo n f)) Ax λb hb=>.inl hb
 exact⟨_,n,f.1,f.2.1,f.2.2,rfl,wx,qx,n,f.1,f.2.1,f.2.2,ai.res (cV.load0 Ax rfl),hK wx hx.bw⟩
def MW (a b c:List UInt8)(w:World)(v:Value)(w':World):Prop:=bW w w'/\match sE a b c with
 | .inr (n,f)=>v=.tuple #[.pointer none,UV n f]
 | .inl p=>∃k,v=.tuple #[.pointer (some ⟨k,0,none⟩),UV 0 (0,0,0)]/\E7 w' k p
theorem ju (a b c:List UInt8)(w:World)(he:Env w):Cf iy #[vS a,vS b,vS c] w (Ret (MW a b c w)):=by
 apply Gn
 intro k7 w7 hk7 hw7 k14 w14 hk14 hw14 k9 w9 hk9 hw9
 have b7:=(hw7▸ah w _:bW w w7)
 have b14:=(hw14▸ah w7 _:bW w7 w14)
 have b9:=(hw9▸ah w14 _:bW w14 w9)
 have h0:Sp w [ptA k9 aA (xW (0,0,0)),ptA k14 ep [.slice none 0 0,.slice none 0 0,.slice none 0 0,.pointer none,.pointer none],ptA k7 ay (zo 0 (0,0,0))] w9:=
   (((Sp.nil w).add b7 (p:=ptA k7 ay (zo 0 (0,0,0))) (ai.new hk7 hw7) λb hb=>by rw[List.mem_singleton.1 hb];omega).add b14 (p:=ptA k14 ep [.slice none 0 0,.slice none 0 0,.slice none 0 0,.pointer none,.pointer none]) (ai.new hk14 hw14) λb hb=>by rw[List.mem_singleton.1 hb];omega).add b9 (p:=ptA k9 aA (xW (0,0,0))) (ai.new hk9 hw9) λb hb=>by rw[List.mem_singleton.1 hb];omega
 refine aB (AE a w9 (he.step h0.bw)) ?_
 rintro v w18 ⟨b18,hv⟩
 obtain⟨x1,n1,e1,f1,ps,rfl,oP,fP,hc1⟩:∃(x:Option Addr) (n e:Nat) (f:Flt) (ps:List Pat),v=.tuple #[.slice x n e,Ez f]/\Ow AY av w18 NoB x n e ps/\bg w9.heap.size x/\((I8 a=.inl ps/\f=(0,0,0))\/(I8 a=.inr f/\f.1≠0)):=by
   cases ht:I8 a with
   | inl ps=>rw[ht]at hv;obtain⟨x,n,e,h1,h2,h3⟩:=hv;exact⟨x,n,e,_,ps,h1,h2,h3,.inl ⟨rfl,rfl⟩⟩
   | inr f=>rw[ht]at hv;exact⟨none,0,0,f,[],hv.1,Ow.nil _ _ _ _,bg.none _,.inr ⟨rfl,hv.2⟩⟩
 clear hv
 have h1:=h0.add b18 (p:=ptO AY av x1 n1 e1 ps) oP λg hg=>fP g (fU.1 hg)
 obtain⟨wx,qx,hx,_⟩:=h1.put yQ 2 rfl (i:=0) (v:=.slice x1 n1 e1) rfl rfl (by show 0<5;decide)
 obtain⟨wy,qy,hy⟩:=JF hx 1 rfl f1
 have A9:ai wy k9 aA (xW f1):=hy.at 1 rfl
 refine⟨_,_,_,f1.1,f1.2.1,f1.2.2,rfl,rfl,rfl,wx,qx,wy,qy,rfl,f1.1,A9.load1 lw rfl (i:=0) rfl,ae.of (λh=>?_) (λh=>?_)⟩
 · have hne:f1.1≠0:=by simpa using h
   obtain⟨ht,_⟩:=hc1.resolve_left λh2=>hne (by rw[h2.2])
   exact⟨f1.1,f1.2.1,f1.2.2,gM.load0 A9 rfl,CZ hy 3 rfl 1 f1 λwz hz=>⟨hz,by rw[T5 ht]⟩⟩
 have hz:f1.1=0:=by simpa using h
 obtain⟨hA,rfl⟩:=hc1.resolve_right λh2=>h2.2 hz
 have iP:=RE hA
 clear hc1 h hz A9
 refine aB (Ii b wy (he.step hy.bw)) ?_
 rintro v w32 ⟨b32,hv⟩
 obtain⟨x2,n2,e2,f2,rs,rfl,oR,fR,hc2⟩:∃(x:Option Addr) (n e:Nat) (f:Flt) (rs:List Rul),v=.tuple #[.slice x n e,Ez f]/\Ow Kb aE w32 NoB x n e rs/\bg wy.heap.size x/\((wS b=.inl rs/\f=(0,0,0))\/(wS b=.inr f/\f.1≠0)):=by
   cases ht:wS b with
   | inl ps=>rw[ht]at hv;obtain⟨x,n,e,h1,h2,h3⟩:=hv;exact⟨x,n,e,_,ps,h1,h2,h3,.inl ⟨rfl,rfl⟩⟩
   | inr f=>rw[ht]at hv;exact⟨none,0,0,f,[],hv.1,Ow.nil _ _ _ _,bg.none _,.inr ⟨rfl,hv.2⟩⟩
 clear hv
 have h2:=hy.add b32 (p:=ptO Kb aE x2 n2 e2 rs) oR λg hg=>fR g (fU.1 hg)
 obtain⟨wz,qz,hz⟩:=JF h2 2 rfl f2
 have A9:ai wz k9 aA (xW f2):=hz.at 2 rfl
 refine⟨_,_,_,f2.1,f2.2.1,f2.2.2,rfl,wz,qz,rfl,f2.1,A9.load1 lw rfl (i:=0) rfl,ae.of (λh=>?_) (λh=>?_)⟩
 · have hne:f2.1≠0:=by simpa using h
   obtain⟨ht,_⟩:=hc2.resolve_left λh2=>hne (by rw[h2.2])
   exact⟨f2.1,f2.2.1,f2.2.2,gM.load0 A9 rfl,CZ hz 4 rfl 2 f2 λwz hz=>⟨hz,by rw[T6 hA ht]⟩⟩
 have hz0:f2.1=0:=by simpa using h
 obtain⟨hB,rfl⟩:=hc2.resolve_right λh2=>h2.2 hz0
 have iR:=OV hB
 clear hc2 h hz0 A9
 refine aB (AB c wz (he.step hz.bw)) ?_
 rintro v w46 ⟨b46,hv⟩
 obtain⟨x3,n3,e3,x4,n4,e4,S,f3,ts,cs,rfl,oT,oD,fT,fC,fS,hc3⟩:∃(x:Option Addr) (n e:Nat) (y:Option Addr) (m d:Nat) (S:List Nat) (f:Flt) (ts:List Tpl) (cs:List Cho),v=.tuple #[.slice x n e,.slice y m d,Ez f]/\Ow vW ao w46 NoB x n e ts/\(ptD aG S y m d cs).P w46/\bg wz.heap.size x/\bg wz.heap.size y/\(∀g∈S,wz.heap.size <=g)/\((xf c=.inl (ts,cs)/\f=(0,0,0)/\RdI (ts,cs))\/(xf c=.inr f/\f.1≠0)):=by
   cases ht:xf c with
   | inl st=>
     obtain⟨ts,cs⟩:=st
     rw[ht]at hv
     obtain⟨hI,x,n,e,y,m,d,S,h1,h2,h3,h4,h5,h6⟩:=hv
     exact⟨x,n,e,y,m,d,S,_,ts,cs,h1,h2,h3,h4,h5,h6,.inl ⟨rfl,rfl,hI⟩⟩
   | inr f=>
     rw[ht]at hv
     exact⟨none,0,0,none,0,0,[],f,[],[],hv.1,Ow.nil _ _ _ _,⟨Ow.nil _ _ _ _,λg hg=>(by cases hg),λg hg=>(by cases hg)⟩,bg.none _,bg.none _,λg hg=>(by cases hg),.inr ⟨rfl,hv.2⟩⟩
 clear hv
 have h3:=hz.add b46 (p:=ptU (ptO vW ao x3 n3 e3 ts) (ptD aG S x4 n4 e4 cs)) ⟨oT,oD⟩ λg hg=>by
   rcases List.mem_append.1 hg with hg|hg
   · exact fT g (fU.1 hg)
   · rcases List.mem_append.1 hg with hg|hg
     · exact fC g (fU.1 hg)
     · exact fS g hg
 obtain⟨wa,qa,ha,_⟩:=h3.put j2 4 rfl (i:=1) (v:=.slice x3 n3 e3) rfl rfl (by show 1<5;decide)
 obtain⟨wb,qb,hb,_⟩:=ha.put lV 4 rfl (i:=2) (v:=.slice x4 n4 e4) rfl rfl (by show 2<5;decide)
 obtain⟨wc,qc,hc⟩:=JF hb 3 rfl f3
 have A9:ai wc k9 aA (xW f3):=hc.at 3 rfl
 refine⟨_,_,_,_,_,_,f3.1,f3.2.1,f3.2.2,rfl,rfl,rfl,wa,qa,rfl,rfl,wb,qb,wc,qc,rfl,f3.1,A9.load1 lw rfl (i:=0) rfl,ae.of (λh=>?_) (λh=>?_)⟩
 · have hne:f3.1≠0:=by simpa using h
   obtain⟨ht,_⟩:=hc3.resolve_left λh2=>hne (by rw[h2.2.1])
   exact⟨f3.1,f3.2.1,f3.2.2,gM.load0 A9 rfl,CZ hc 5 rfl 3 f3 λwz hz=>⟨hz,by rw[T7 hA hB ht]⟩⟩
 have hz0:f3.1=0:=by simpa using h
 obtain⟨hC,rfl,hI8⟩:=hc3.resolve_right λh2=>h2.2 hz0
 have iT:UK ts:=Pd hC
 have h8:ts.length <=8:=hI8.1
 have hV:=J1 hA hB hC
 clear hc3 h hz0 A9 oT oD h1 h2 h3 hx hy hz ha hb
 let PS:List Pt:=[ptU (ptO vW ao x3 n3 e3 ts) (ptD aG S x4 n4 e4 cs),ptO Kb aE x2 n2 e2 rs,ptO AY av x1 n1 e1 ps,ptA k9 aA (xW (0,0,0)),ptA k14 ep [.slice x1 n1 e1,.slice x3 n3 e3,.slice x4 n4 e4,.pointer none,.pointer none],ptA k7 ay (zo 0 (0,0,0))]
 have hc:Sp w PS wc:=hc
 have A14:ai wc k14 ep [.slice x1 n1 e1,.slice x3 n3 e3,.slice x4 n4 e4,.pointer none,.pointer none]:=hc.at 4 rfl
 have hn3:n3=ts.length:=(hc.at 0 rfl:(ptU (ptO vW ao x3 n3 e3 ts) (ptD aG S x4 n4 e4 cs)).P wc).1.1
 subst hn3
 refine⟨rfl,rfl,_,_,_,A14.load1 bT rfl (i:=1) rfl,λm i W=>∃j:Nat,i=(j:Int)/\m=ts.length-j/\j <=ts.length/\Sp w PS W/\ts.find? (λt=> !FB ps t)=(ts.drop j).find? (λt=> !FB ps t),
   ⟨_,0,rfl,rfl,Nat.zero_le _,hc,rfl⟩,λm i=>aN.of ?_ _⟩
 rintro wl ⟨j,rfl,rfl,hj,hl,hF⟩
 have oT:Ow vW ao wl NoB x3 ts.length e3 ts:=(hl.at 0 rfl:(ptU (ptO vW ao x3 ts.length e3 ts) (ptD aG S x4 n4 e4 cs)).P wl).1
 have oP:Ow AY av wl NoB x1 n1 e1 ps:=hl.at 2 rfl
 have A14:ai wl k14 ep [.slice x1 n1 e1,.slice x3 ts.length e3,.slice x4 n4 e4,.pointer none,.pointer none]:=hl.at 4 rfl
 refine ae.of (λh=>?_) (λh=>?_) <;> simp only[dTx,dFx]at h
 · have hlt:j<ts.length:=by omega
   obtain⟨ld,ok⟩:=AM oT.all hlt
   have tn:=iT _ (List.getElem_mem hlt)
   have hF2:=hF
   rw[List.drop_eq_getElem_cons hlt]at hF2
   refine⟨⟨⟨by omega,h⟩,oT.all.isSome hlt⟩,_,ld,?_⟩
   generalize ts[j]=t at*
   refine jq.new (zs:=Tpl.cells ⟨[],AZ,[],0⟩) (cs:=t.cells) rfl (Tpl.len ok) (Tpl.one _) wl λk12 w12 hk12 A12 b12=>?_
   have hl2:=hl.below b12
   refine⟨_,jq.load0 A12 (Tpl.len ok),aB (JA ok tn (he.step hl2.bw) (A14.below b12) rfl (oP.below b12).all λp hp=>(iP.2 p hp).2) ?_⟩
   rintro _ w72 ⟨rfl,b72⟩
   refine⟨_,rfl,ae.of (λh5=>?_) (λh5=>⟨ts.length-(j+1),by omega,j+1,by rw[wrap_i64 (by omega) (by omega)];omega,rfl,by omega,hl2.below b72,?_⟩)⟩
   · refine⟨rfl,t.line,(A12.below b72).load1 cD rfl (i:=23) (Lo ok 1),CZ (hl2.below b72) 5 rfl 3 (231,t.line,1) λwz hz=>⟨hz,?_⟩⟩
     rw[hV,hF2,List.find?_cons_of_pos (p:=λt=> !FB ps t) h5]
   · rw[hF2,List.find?_cons_of_neg (p:=λt=> !FB ps t) (by show ¬ (!FB ps t)=true;rw[h5];decide)]
 obtain rfl:j=ts.length:=by omega
 rw[List.drop_eq_nil_of_le (Nat.le_refl _)]at hF
 rw[hF]at hV
 have hV:sE a b c=if 512<(xS (⟨ps,ts,cs,rs⟩:Pln).labs).length+1 then .inr (1,53,1,1)else .inl ⟨ps,ts,cs,rs⟩:=hV
 have oR:Ow Kb aE wl NoB x2 n2 e2 rs:=hl.at 1 rfl
 refine aB (GD oR.all (Nat.le_trans iR.1 (by decide)) (λr hr=>Nat.le_trans (iR.2 r hr) (by decide)) (he.step hl.bw)) ?_
 rintro _ w84 ⟨kt,km,ta,tn,tc,pths,kvs,es,rfl,TI⟩
 have b84:=TI.hb
 have h84:=hl.below b84
 refine⟨_,rfl,aB (Ma (he.step h84.bw) (A14.below b84) rfl rfl (oP.below b84).all (oT.below b84).all iP iT h8) ?_⟩
 rintro _ w86 ⟨pa,rfl,AN,b86⟩
 have h86:=h84.below b86
 obtain⟨wx11,q11,h11,g11⟩:=h86.put yP 4 rfl (i:=3) (v:=.pointer (some ⟨kt,0,none⟩)) rfl rfl (by show 3<5;decide)
 obtain⟨wx12,q12,h12,g12⟩:=h11.put um 4 rfl (i:=4) (v:=.pointer pa) rfl rfl (by show 4<5;decide)
 have c12:Chg [k14] w86 wx12:=(Chg.grown g11 List.mem_cons_self).trans (Chg.grown g12 List.mem_cons_self)
 have ltk:k14<wl.heap.size:=A14.lt
 have AL:ky wx12 pa (xS (⟨ps,ts,cs,rs⟩:Pln).labs):=AN.turned c12 λs hs=>by rw[List.mem_singleton.1 hs];have:=b84.size;omega
 have TX:PD wx12 kt rs:=PD.turned he h12.bw hl.bw.size c12 (λs hs=>by rw[List.mem_singleton.1 hs];exact ltk) (TI.below b86)
 have A14:ai wx12 k14 ep [.slice x1 n1 e1,.slice x3 ts.length e3,.slice x4 n4 e4,.pointer (some ⟨kt,0,none⟩),.pointer pa]:=h12.at 4 rfl
 have hlab:(xS (⟨ps,ts,cs,rs⟩:Pln).labs).length <=1000000:=by
   refine Nat.le_trans (AW _) ?_
   have l1:=ww (B:=254) ps λx hx=>ub x.host (iP.2 x hx).2
   have l2:=ww (B:=254) ts λx hx=>ub x.url.host (iT x hx)
   have:=iP.1
   show(ps.flatMap (λx=>jw x.host)++ts.flatMap λt=>jw t.url.host).length <=_
   rw[List.length_append];omega
 refine⟨_,rfl,rfl,rfl,wx11,q11,rfl,rfl,wx12,q12,rfl,rfl,pa,A14.load1 fK rfl (i:=4) rfl,aB (dR pa _ (by omega) wx12 AL) ?_⟩
 rintro _ w95 ⟨rfl,hw95⟩
 rw[hw95]
 clear hw95 w95
 refine⟨_,rfl,ae.of (λh5=>?_) (λh5=>?_)⟩ <;> simp only[dTx,dFx]at h5
 · exact CZ h12 5 rfl 1 (53,1,1) λwz hz=>⟨hz,by rw[hV,if_pos (by omega)]⟩
 · have A7:ai wx12 k7 ay (zo 0 (0,0,0)):=h12.at 5 rfl
   obtain⟨wy2,qy2,Ay,gy⟩:=cV.store0 (P:=prog) (cs:=zo 0 (0,0,0)) rfl (qW _ _) A7 rfl
   have hf:=h12.upd 5 rfl (Chg.grown gy List.mem_cons_self) (p':=ptA k7 ay (zo 0 (0,0,0))) Ay λb hb=>.inl hb
   have cf:Chg [k14,k7] w86 wy2:=(c12.mono λk h=>by rw[List.mem_singleton.1 h];simp).trans (Chg.grown gy (by simp))
   have ltk7:=(hl.at 5 rfl:ai wl k7 ay (zo 0 (0,0,0))).lt
   have lts:∀s∈[k14,k7],s<wl.heap.size:=λs hs=>by
     simp only[List.mem_cons,List.not_mem_nil,or_false]at hs
     rcases hs with rfl|rfl <;> assumption
   have ALf:ky wy2 pa (xS (⟨ps,ts,cs,rs⟩:Pln).labs):=AN.turned cf λs hs=>by have:=lts s hs;have:=b84.size;omega
   have TXf:PD wy2 kt rs:=PD.turned he hf.bw hl.bw.size cf lts (TI.below b86)
   have rwT:Ow vW ao wy2 NoB x3 ts.length e3 ts:=(hf.at 0 rfl:(ptU (ptO vW ao x3 ts.length e3 ts) (ptD aG S x4 n4 e4 cs)).P wy2).1
   have rwC:Ow Ee aG wy2 (λb=>b∈S) x4 n4 e4 cs:=(hf.at 0 rfl:(ptU (ptO vW ao x3 ts.length e3 ts) (ptD aG S x4 n4 e4 cs)).P wy2).2.1
   have rwP:Ow AY av wy2 NoB x1 n1 e1 ps:=hf.at 2 rfl
   have rwA:ai wy2 k14 ep [.slice x1 n1 e1,.slice x3 ts.length e3,.slice x4 n4 e4,.pointer (some ⟨kt,0,none⟩),.pointer pa]:=hf.at 4 rfl
   refine⟨wy2,qy2,0,0,0,0,ai.res (cV.load0 Ay rfl),hf.bw,?_⟩
   rw[hV,if_neg (by omega)]
   exact⟨k14,rfl,x1,n1,e1,x3,_,e3,x4,n4,e4,kt,pa,rwA,rwP.all,rwT.all,rwC.all,TXf,ALf⟩
def wM:Code->Code|.loop c=>c|c=>c
def Sq:List Code->Code->Code
 | [],t=>t
 | c::l,t=>.seq c (Sq l t)
def WC (P:Program)(n:Nat)(ann:Ann)(R:Exit->Fr->World->Prop):List (Nat×Code)->(Fr->World->Prop)->Fr->World->Prop
 | [],K=>K
 | (p,c)::l,K=>λfr w=>W P n ann p c (λe fr w=>match e with
     | .normal=>WC P n ann R l K fr w
     | e=>R e fr w) fr w
theorem PQ {P:Program}(hm:P.follows .mixedOrders=true){n:Nat}{ann:Ann}{R:Exit->Fr->World->Prop} :∀(l:List (Nat×Code)) {K:Fr->World->Prop} {fr:Fr} {a:Act} {w:World} {t:Code} {Q:Exit->Act->World->Prop},Rep n fr a->WC P n ann R l K fr w->
   (∀fr' a' w',Rep n fr' a'->a'.defers=a.defers->K fr' w'->t.wp P Q a' w')->(∀e fr' a' w',e≠.normal->Rep n fr' a'->a'.defers=a.defers->R e fr' w'->Q e a' w')->(Sq (l.map (·.2)) t).wp P Q a w
 | [],K,fr,a,w,t,Q,hr,h,hk,hx=>hk _ _ _ hr rfl h
 | (p,c)::l,K,fr,a,w,t,Q,hr,h,hk,hx=>by
   refine wp_seq (Lv hm n ann c p _ fr a w hr h _ λe fr1 a1 w1 hr1 hg1 h1=>?_)
   cases e with
   | normal=>exact PQ hm l hr1 h1 (λfr' a' w' h2 h3 h4=>hk fr' a' w' h2 (h3.trans hg1.defers) h4) (λe fr' a' w' he h2 h3 h4=>hx e fr' a' w' he h2 (h3.trans hg1.defers) h4)
   | _=>exact hx _ _ _ _ (by simp) hr1 hg1.defers h1
def H3 (D:Nat):Deferred:= { target:=.collected D,args:= #[] }
def Mrk (D:Nat)(w:World):Prop:=w.heap[D]? =some (.deferred (some []))
def shut:List Nat->World->World
 | [],w=>w
 | D::Ds,w=>shut Ds (w.putObj D (.deferred none))
def RFs (P:Program)(n:Nat)(c:Code)(l:List Tmp)(vs:List Value)(J:Nat->World->Prop)(w:World):Prop:=
 ∀a:Act,a.tmps.size=n->(l.map λt=>a.tmps.getD t undef)=vs->c.wp P (λe a' w'=>e=.normal/\∃D,w.heap.size <=D/\Mrk D w'/\a'= { a with defers:=H3 D::a.defers } /\J D w') a w
def UI (K:Value->World->Prop)(Ds:List Nat)(v:Value)(w:World):Prop:=Ds.Nodup/\(∀D∈Ds,Mrk D w)/\K v (shut Ds w)
def VW (fn:Func)(K:Value->World->Prop)(Ds:List Nat)(fr:Fr)(w:World):Prop:=match Ll fn.results.toList with
 | some l=>UI K Ds (qN (l.map (ij fr))) w
 | none=>False
def Xu (fn:Func)(K:Value->World->Prop)(Ds:List Nat):Exit->Fr->World->Prop
 | .ret,fr,w=>VW fn K Ds fr w
 | _,_,_=>False
def Xo (fn:Func)(K:Value->World->Prop)(Ds:List Nat):Exit->Fr->World->Prop
 | .ret,fr,w|.normal,fr,w=>VW fn K Ds fr w
 | _,_,_=>False
def W5 (P:Program)(fn:Func)(ann:Ann)(K:Value->World->Prop)(Ds:List Nat)(b:Nat)(pp:Nat)(post:Code):Exit->Fr->World->Prop
 | .exit i,fr,w=>bif Nat.beq i b then W P fn.ntmps ann pp post (Xo fn K Ds) fr w else False
 | _,_,_=>False
def Cu (K:Fr->World->Prop):Exit->Fr->World->Prop
 | .normal,fr,w=>K fr w
 | _,_,_=>False
def noX:Exit->Fr->World->Prop:=λ_ _ _=>False
def UF:List Tmp->List Value->Fr->Fr
 | t::ts,v::vs,r=>(t,v)::UF ts vs r
 | _,_,r=>r
theorem RS {n:Nat}{fr:Fr}{a:Act}(h:Rep n fr a):∀ts:List Tmp,Rep n (UF ts (ts.map (ij fr)) fr) a:=λts=>by
 have key:∀(ts:List Tmp) (j:Nat),ij (UF ts (ts.map (ij fr)) fr) j=ij fr j:=by
   intro ts
   induction ts with
   | nil=>intro j;rfl
   | cons t ts ih=>
     intro j
     show(bif Nat.beq t j then ij fr t else ij (UF ts (ts.map (ij fr)) fr) j)=_
     cases hb:Nat.beq t j with
     | true=>rw[cond_true,Nat.eq_of_beq_eq_true hb]
     | false=>rw[cond_false,ih]
 exact⟨h.size,λj=>(h.get j).trans (key ts j).symm⟩
theorem zi {P:Program}{n:Nat}{fn:Func}{tmps:Array Value}{K:Value->World->Prop} :∀(Ds:List Nat) (w:World),Ds.Nodup->(∀D∈Ds,Mrk D w)->(∃v,(∀w',(results fn tmps).run P w'=.ok v w')/\K v (shut Ds w))->LeavesInM Fence.wide n P fn tmps (Ret K) (Ds.map H3) .returning w
 | [],w,_,_,⟨v,hv,hK⟩=>⟨v,hv _,v,rfl,hK⟩
 | D::Ds,w,hn,hM,hE=>by
   refine⟨by simp,.inl ⟨D,_,rfl,run_takeDeferred (hM D List.mem_cons_self),?_⟩⟩
   rw[List.nodup_cons]at hn
   refine zi Ds _ hn.2 (λD' hD'=>?_) hE
   have hne:D'≠D:=λe=>hn.1 (e▸hD')
   have h1:=hM D' (List.mem_cons_of_mem _ hD')
   show(w.putObj D (.deferred none)).heap[D']? =_
   unfold Mrk at h1
   rw[<- h1]
   simp[World.putObj,Array.getElem?_setIfInBounds_ne (Ne.symm hne)]
theorem yg {P:Program}{n:Nat}{fn:Func}{K:Value->World->Prop}{Ds:List Nat}{fr:Fr}{a:Act}{w:World}(hr:Rep fn.ntmps fr a)(hd:a.defers=Ds.map H3)(h:VW fn K Ds fr w):LeavesInM Fence.wide n P fn a.tmps (Ret K) a.defers .returning w:=by
 unfold VW at h
 split at h
 · rename_i l hl
   obtain⟨h1,h2,h3⟩:=h
   have e:(λt=>a.tmps.getD t undef)=ij fr:=funext hr.get
   rw[hd]
   refine zi Ds w h1 h2 ⟨_,λw'=>?_,h3⟩
   rw[ua,e]
   exact results_tmq hl _ _
 · exact h.elim
theorem Qb {P:Program}(hm:P.follows .mixedOrders=true){f:FuncId}{fn:Func}{pre hd mid:List (Nat×Code)}{r11 r15 RF rest inc post:Code}{b2 b3 b4:Nat}(hf:P.funcs[f]? =some fn)
   (hb:fn.body=some (Sq (pre.map (·.2)) (.seq (.seq r11 (.block b2 (.loop (Sq (hd.map (·.2)) (.seq (.block b3 (Sq (mid.map (·.2)) (.seq (.seq r15 (.block b4 RF)) rest))) inc))))) post)))
   (ann:Ann) (args:List Value) (hn:args.length <=fn.ntmps) {w:World} {K:Value->World->Prop} (live:List (Tmp×Sh)) (l2:List Tmp) (p11 p15 pr pi pp:Nat)
   (LI:Nat->List Nat->FP (fH live))
   (h1:WC P fn.ntmps ann (Xu fn K []) pre (λfr w=>W P fn.ntmps ann p11 r11 (Cu λfr w=>∃m,ap (fH live) (LI m []) (reads fr live) w) fr w) (kj 0 args) w)
   (h2:∀(m:Nat) (Ds:List Nat) (rs:Fr),PY (fH live) λvs=>∀w:World,ap (fH live) (LI m Ds) vs w->
     WC P fn.ntmps ann (W5 P fn ann K Ds b2 pp post) hd (λfr w=>WC P fn.ntmps ann noX mid (λfr w=>W P fn.ntmps ann p15 r15 (Cu λfr w=>
       ∃J:Nat->World->Prop,RFs P fn.ntmps RF l2 (l2.map (ij fr)) J w/\∀(D:Nat) (wj:World),w.heap.size <=D->Mrk D wj->J D wj->
         W P fn.ntmps ann pr rest (Cu λfr w=>W P fn.ntmps ann pi inc (Cu λfr w=>∃m',m'<m/\ap (fH live) (LI m' (D::Ds)) (reads fr live) w) fr w) fr wj) fr w) fr w) (UF (kR live) vs rs) w):
   Calls P f args.toArray w (Ret K):=by
 refine(callsIn_wide (n:=0)).1 (callsIn_of_wp_marks hf hb trivial (wpIn_wide.2 ?_) rfl)
 have hr:Rep fn.ntmps (kj 0 args) { tmps:=args.toArray++Array.replicate (fn.ntmps-args.toArray.size) undef,defers:=[] } :=by
   refine⟨by simp;omega,λt=>?_⟩
   rw[kT]
   simp only[Nat.zero_le,if_true,Nat.sub_zero,Array.getD_eq_getD_getElem?,Array.getElem?_append,List.size_toArray,List.getElem?_toArray]
   by_cases ht:t<args.length
   · simp[ht]
   · simp only[if_neg ht]
     rw[List.getElem?_eq_none (by omega:args.length <=t)]
     simp only[Array.getElem?_replicate]
     split <;> rfl
 refine PQ hm pre hr h1 (λfr1 a1 w1 hr1 hd1 k1=>?_) (λe fr1 a1 w1 he hr1 hd1 k1=>?_)
 rotate_left
 · cases e with
   | ret=>exact yg (Ds:=[]) hr1 hd1 k1
   | _=>exact k1.elim
 refine wp_seq (wp_seq (Lv hm _ ann r11 p11 _ _ _ _ hr1 k1 _ λe fr2 a2 w2 hr2 hg2 k2=>?_))
 cases e with
 | normal=>?_
 | _=>exact k2.elim
 obtain⟨m0,k2⟩:=k2
 refine wp_block (E2 (λm a w=>∃fr Ds,Rep fn.ntmps fr a/\a.defers=List.map H3 Ds/\ap (fH live) (LI m Ds) (reads fr live) w) ⟨m0,fr2,[],hr2,hg2.defers.trans hd1,k2⟩ λm a3 w3 ⟨fr3,Ds,hr3,hd3,k3⟩=>?_)
 have h3:=Jj (d:=λ_=>False) (f:=LI m Ds) (K:=λt vs=>∀w:World,t w->
     WC P fn.ntmps ann (W5 P fn ann K Ds b2 pp post) hd (λfr w=>WC P fn.ntmps ann noX mid (λfr w=>W P fn.ntmps ann p15 r15 (Cu λfr w=>
       ∃J:Nat->World->Prop,RFs P fn.ntmps RF l2 (l2.map (ij fr)) J w/\∀(D:Nat) (wj:World),w.heap.size <=D->Mrk D wj->J D wj->
         W P fn.ntmps ann pr rest (Cu λfr w=>W P fn.ntmps ann pi inc (Cu λfr w=>∃m',m'<m/\ap (fH live) (LI m' (D::Ds)) (reads fr live) w) fr w) fr wj) fr w) fr w) (UF (kR live) vs fr3) w) (h2 m Ds fr3) (λvs w hf=>hf.elim) (reads fr3 live) w3 k3
 rw[Gc]at h3
 refine PQ hm hd (RS hr3 (kR live)) h3 (λfr4 a4 w4 hr4 hd4 k4=>?_) (λe fr4 a4 w4 he hr4 hd4 k4=>?_)
 rotate_left
 · cases e with
   | exit i=>
     have k4':(bif Nat.beq i b2 then W P fn.ntmps ann pp post (Xo fn K Ds) fr4 w4 else False):=k4
     clear k4
     cases hb:Nat.beq i b2 with
     | false=>rw[hb]at k4';exact k4'.elim
     | true=>
       rw[hb,cond_true]at k4'
       have:i=b2:=Nat.eq_of_beq_eq_true hb
       subst this
       show Exit.inBlock i _ (.exit i) a4 w4
       simp only[Exit.inBlock,if_true]
       show Code.wp P post _ a4 w4
       refine Lv hm _ ann post pp _ _ _ _ hr4 k4' _ λe fr5 a5 w5 hr5 hg5 k5=>?_
       have hd5:a5.defers=Ds.map H3:=hg5.defers.trans (hd4.trans hd3)
       cases e with
       | normal=>exact yg hr5 hd5 k5
       | ret=>exact yg hr5 hd5 k5
       | _=>exact k5.elim
   | _=>exact k4.elim
 refine wp_seq (wp_block (PQ hm mid hr4 k4 (λfr5 a5 w5 hr5 hd5 k5=>?_) (λe fr5 a5 w5 he hr5 hd5 k5=>k5.elim)))
 refine wp_seq (wp_seq (Lv hm _ ann r15 p15 _ _ _ _ hr5 k5 _ λe fr6 a6 w6 hr6 hg6 k6=>?_))
 cases e with
 | normal=>?_
 | _=>exact k6.elim
 obtain⟨J,k6,k7⟩:=k6
 have hd6:a6.defers=Ds.map H3:=hg6.defers.trans (hd5.trans (hd4.trans hd3))
 refine wp_block ?_
 have key:=k6 a6 hr6.size (List.map_congr_left λt _=>hr6.get t)
 intro b kk cs
 obtain⟨e,a7,w7,⟨rfl,D,hD,hM,rfl,hJ⟩,harr⟩:=key b kk cs
 refine⟨.normal,_,w7,?_,harr⟩
 have hr7:Rep fn.ntmps fr6 { a6 with defers:=H3 D::a6.defers } :=⟨hr6.size,hr6.get⟩
 refine Lv hm _ ann rest pr _ _ _ _ hr7 (k7 D w7 hD hM hJ) _ λe fr8 a8 w8 hr8 hg8 k8=>?_
 cases e with
 | normal=>?_
 | _=>exact k8.elim
 refine Lv hm _ ann inc pi _ _ _ _ hr8 k8 _ λe fr9 a9 w9 hr9 hg9 k9=>?_
 cases e with
 | normal=>
   obtain⟨m',hlt,k9⟩:=k9
   refine⟨m',hlt,fr9,D::Ds,hr9,?_,k9⟩
   rw[hg9.defers,hg8.defers]
   show H3 D::a6.defers=_
   rw[hd6];rfl
 | _=>exact k9.elim
def RFV (P:Program)(fn:Func)(ann:Ann)(args:List Value)(pre hd mid:List (Nat×Code))(r11 r15 RF rest inc post:Code)(b2:Nat)(live:List (Tmp×Sh))(l2:List Tmp)(p11 p15 pr pi pp:Nat)(K:Value->World->Prop)(w:World):Prop:=∃LI:Nat->List Nat->FP (fH live),
   WC P fn.ntmps ann (Xu fn K []) pre (λfr w=>W P fn.ntmps ann p11 r11 (Cu λfr w=>∃m,ap (fH live) (LI m []) (reads fr live) w) fr w) (kj 0 args) w/\
   ∀(m:Nat) (Ds:List Nat) (rs:Fr),PY (fH live) λvs=>∀w:World,ap (fH live) (LI m Ds) vs w->
     WC P fn.ntmps ann (W5 P fn ann K Ds b2 pp post) hd (λfr w=>WC P fn.ntmps ann noX mid (λfr w=>W P fn.ntmps ann p15 r15 (Cu λfr w=>
       ∃J:Nat->World->Prop,RFs P fn.ntmps RF l2 (l2.map (ij fr)) J w/\∀(D:Nat) (wj:World),w.heap.size <=D->Mrk D wj->J D wj->
         W P fn.ntmps ann pr rest (Cu λfr w=>W P fn.ntmps ann pi inc (Cu λfr w=>∃m',m'<m/\ap (fH live) (LI m' (D::Ds)) (reads fr live) w) fr w) fr wj) fr w) fr w) (UF (kR live) vs rs) w
theorem Np {P:Program}(hm:P.follows .mixedOrders=true){f:FuncId}{fn:Func}(pre hd mid:List (Nat×Code)){r11 r15 RF rest inc post:Code}{b2 b3 b4:Nat}(hf:P.funcs[f]? =some fn)
   (hb:fn.body=some (Sq (pre.map (·.2)) (.seq (.seq r11 (.block b2 (.loop (Sq (hd.map (·.2)) (.seq (.block b3 (Sq (mid.map (·.2)) (.seq (.seq r15 (.block b4 RF)) rest))) inc))))) post)))
   (ann:Ann) (args:List Value) (hn:args.length <=fn.ntmps) {w:World} {K:Value->World->Prop} (live:List (Tmp×Sh)) (l2:List Tmp) (p11 p15 pr pi pp:Nat)
   (V:Prop) (he:RFV P fn ann args pre hd mid r11 r15 RF rest inc post b2 live l2 p11 p15 pr pi pp K w=V) (h:V):Calls P f args.toArray w (Ret K):=by
 obtain⟨LI,h1,h2⟩:=he▸h
 exact Qb hm hf hb ann args hn live l2 p11 p15 pr pi pp LI h1 h2
def iG (v0:Value)(a1:Option Addr)(l1 c1:Nat)(w:World)(K:Value->World->Prop):Prop:=∃LI:Nat->List Nat->FP [.one (.ptr),.one (.slice),.one (.slice),.one (.slice),.one (.int .i64),.one (.int .i64)],
 (∀k2 w2,k2=w.heap.size->w2=w.alloc (.cells (Value.cells v0) ao)->
 ∀k3 w3,k3=w2.heap.size->w3=w2.alloc (.cells #[.slice a1 l1 c1] aC)->
 (true=true)/\
 ∃s21,Ld ak (some ⟨k2,22,none⟩) w3 (vS s21)/\
 ∃a22 l22 c22,Ld aC (some ⟨k3,0,none⟩) w3 (.slice a22 l22 c22)/\
 Cf ji #[vS s21,.slice a22 l22 c22] w3 λe23 w23=>∃a23_0 l23_0 c23_0 b23_1,e23=.returned (.tuple #[.slice a23_0 l23_0 c23_0,.bool b23_1])/\
 Cf jQ #[.slice a23_0 l23_0 c23_0] w23 λe27 w27=>∃a27 l27 c27,e27=.returned (.slice a27 l27 c27)/\
 ∃I:Nat->FP [.one (.bool),.one (.int .i64)],
 (∃m_1,I m_1 b23_1 (0:Int) w27)/\
 ∀m_1 b6 n30,aN 15 (∀wl,I m_1 b6 n30 wl->
 ae (decide (n30<((l27:Nat):Int)))
 (((0 <=n30/\n30<((l27:Nat):Int))/\Option.isSome a27=true)/\
 ∃n33,Ld aP (am a27 n30 1) wl (vI n33)/\
 ae b6
 (∃a36 l36 c36,Ld aC (some ⟨k3,0,none⟩) wl (.slice a36 l36 c36)/\
 ((0 <=n33/\n33<((l36:Nat):Int))/\Option.isSome a36=true)/\
 (Option.isSome (am a36 n33 2)=true)/\
 ∃a40 l40 c40,Ld aw (Option.map (λx=>x.add 1) (am a36 n33 2)) wl (.slice a40 l40 c40)/\
 ∃m':Nat,m'<m_1/\I m' (decide (((l40:Nat):Int)>(0:Int))) (i64.wrap (n30+(1:Int))) wl)
 (∃m':Nat,m'<m_1/\I m' false (i64.wrap (n30+(1:Int))) wl))
 (ae (!b6)
 (UI K [] (.slice none 0 0) wl)
 (∃a49 l49 c49,Ld aC (some ⟨k3,0,none⟩) wl (.slice a49 l49 c49)/\
 Cf iE #[.slice a27 l27 c27,.slice a49 l49 c49] wl λe50 w50=>∃n50,e50=.returned (vI n50)/\
 ae (decide (n50>(24:Int)))
 (UI K [] (.slice none 0 0) w50)
 (∃a55 l55 c55,Ld aC (some ⟨k3,0,none⟩) w50 (.slice a55 l55 c55)/\
 Cf iI #[.slice a23_0 l23_0 c23_0,.slice a55 l55 c55] w50 λe56 w56=>∃n56,e56=.returned (vI n56)/\
 ae (decide (n56>(2000:Int)))
 (UI K [] (.slice none 0 0) w56)
 (∃a60 l60 c60,Ld aC (some ⟨k3,0,none⟩) w56 (.slice a60 l60 c60)/\
 Cf iE #[.slice a27 l27 c27,.slice a60 l60 c60] w56 λe61 w61=>∃n61,e61=.returned (vI n61)/\
 ∃m,LI m [] (some ⟨k3,0,none⟩) a23_0 l23_0 c23_0 a27 l27 c27 none 0 0 n61 (0:Int) w61))))))/\
 ∀(m:Nat) (Ds:List Nat) (rs:Fr) (p3:Option Addr) (a5:Option Addr) (l5 c5:Nat) (a7:Option Addr) (l7 c7:Nat) (a10:Option Addr) (l10 c10:Nat) (n61_1:Int) (n62:Int) (wl_1:World),LI m Ds p3 a5 l5 c5 a7 l7 c7 a10 l10 c10 n61_1 n62 wl_1->
 ae (decide (n62<n61_1))
 (∀k11 w11,k11=wl_1.heap.size->w11=wl_1.alloc (.cells #[vI 0] aP)->
 ∃wx,Sv aP (some ⟨k11,0,none⟩) (vI n62) w11 wx/\
 ∀k65 w65,k65=wx.heap.size->w65=wx.alloc (.map #[] 0)->
 ∀k12 w12,k12=w65.heap.size->w12=w65.alloc (.cells #[.map none] cZ)->
 ∃wx_1,Sv cZ (some ⟨k12,0,none⟩) (.map (some k65)) w12 wx_1/\
 Cf fz #[.slice a7 l7 c7] wx_1 λe67 w67=>∃v67,e67=.returned v67/\
 ∃J:Nat->World->Prop,RFs prog 109 (ii (seqB (kc (seqB (seqB (ii (kc (seqB (seqB (wM (ii (seqB (kc (seqB (seqB (seqB (seqB (seqB (seqB (aq Tryz.f54)))))))))))))))))))) [3,11,12,67] [.pointer p3,.pointer (some ⟨k11,0,none⟩),.pointer (some ⟨k12,0,none⟩),v67] J w67/\
 ∀D wj,w67.heap.size <=D->Mrk D wj->J D wj->
 ∀k16 w16,k16=wj.heap.size->w16=wj.alloc (.cells #[.pointer none,.slice none 0 0] pt)->
 ∃I_1:Nat->FP [.one (.int .i64)],
 (∃m_2,I_1 m_2 (0:Int) w16)/\
 ∀m_2 n90,aN 13 (∀wl_2,I_1 m_2 n90 wl_2->
 ae (decide (n90<((l5:Nat):Int)))
 (((0 <=n90/\n90<((l5:Nat):Int))/\Option.isSome a5=true)/\
 ∃s93_0 n93_1,Ld be (am a5 n90 2) wl_2 (.agg #[vS s93_0,vI n93_1])/\
 ∀k18 w18,k18=wl_2.heap.size->w18=wl_2.alloc (.cells #[vS [],vI 0] be)->
 ∃wx_2,Sv be (some ⟨k18,0,none⟩) (.agg #[vS s93_0,vI n93_1]) w18 wx_2/\
 (true=true)/\
 ∃s95,Ld ak (some ⟨k18,0,none⟩) wx_2 (vS s95)/\
 ∃m96,Ld cZ (some ⟨k12,0,none⟩) wx_2 (.map m96)/\
 (true=true)/\
 ∃n98,Ld aP (some ⟨k18,1,none⟩) wx_2 (vI n98)/\
 ∃s99,(Instr.lookup cZ (.map m96) (vI n98) false).run prog wx_2=.ok (vS s99) wx_2/\
 ((((List.length s95+List.length s99:Nat):Int) <=i64.max))/\
 ∀s100,s100=(s95++s99)->
 Cf lM #[.pointer (some ⟨k16,0,none⟩),vS s100] wx_2 λe101 w101=>∃n101_0 v101_1,e101=.returned (.tuple #[vI n101_0,v101_1])/\
 ∃m'_2:Nat,m'_2<m_2/\I_1 m'_2 (i64.wrap (n90+(1:Int))) w101)
 (Cf pG #[.pointer (some ⟨k16,0,none⟩)] wl_2 λe104 w104=>∃s104,e104=.returned (vS s104)/\
 ∀k105 w105,k105=w104.heap.size->w105=w104.alloc (.cells #[vS s104] ak)->
 ∃w106 a106 l106 c106,(Builtin.append_ #[aw,aw] aw #[.slice a10 l10 c10,.slice (some ⟨k105,0,none⟩) 1 1]).run prog w105=.ok (.slice a106 l106 c106) w106/\
 ∃m'_1:Nat,m'_1<m/\LI m'_1 (D::Ds) p3 a5 l5 c5 a7 l7 c7 a106 l106 c106 n61_1 (i64.wrap (n62+(1:Int))) w106)))
 (UI K Ds (.slice a10 l10 c10) wl_1)
theorem rO (v0:Value)(a1:Option Addr)(l1 c1:Nat){w:World}{K:Value->World->Prop}(h:iG v0 a1 l1 c1 w K):Cf iZ #[v0,.slice a1 l1 c1] w (Ret K):=
 Np (r11:=(kc (kc (seqB (seqB (seqB (seqB (seqB (seqB (aq Tryz.f54)))))))))) (r15:=(kc (kc (seqB (seqB (ii (kc (seqB (seqB (wM (ii (seqB (kc (seqB (seqB (seqB (seqB (seqB (seqB (aq Tryz.f54)))))))))))))))))))) (RF:=(ii (seqB (kc (seqB (seqB (ii (kc (seqB (seqB (wM (ii (seqB (kc (seqB (seqB (seqB (seqB (seqB (seqB (aq Tryz.f54))))))))))))))))))))) (rest:=(seqB (seqB (seqB (ii (kc (seqB (seqB (wM (ii (seqB (kc (seqB (seqB (seqB (seqB (seqB (seqB (aq Tryz.f54))))))))))))))))))) (inc:=(seqB (seqB (seqB (wM (ii (seqB (kc (seqB (seqB (seqB (seqB (seqB (seqB (aq Tryz.f54))))))))))))))) (post:=(seqB (seqB (seqB (seqB (seqB (seqB (seqB (aq Tryz.f54))))))))) (b2:=2) (b3:=3) (b4:=4) (by kernel_rfl) [(0,(kc (aq Tryz.f54))),(2,(kc (seqB (aq Tryz.f54)))),(4,(kc (seqB (seqB (aq Tryz.f54))))),(6,(kc (seqB (seqB (seqB (aq Tryz.f54)))))),(23,(kc (seqB (seqB (seqB (seqB (aq Tryz.f54))))))),(31,(kc (seqB (seqB (seqB (seqB (seqB (aq Tryz.f54))))))))] [(35,(kc (wM (ii (seqB (kc (seqB (seqB (seqB (seqB (seqB (seqB (aq Tryz.f54))))))))))))),(37,(kc (seqB (wM (ii (seqB (kc (seqB (seqB (seqB (seqB (seqB (seqB (aq Tryz.f54))))))))))))))] [(41,(kc (ii (kc (seqB (seqB (wM (ii (seqB (kc (seqB (seqB (seqB (seqB (seqB (seqB (aq Tryz.f54))))))))))))))))),(43,(kc (seqB (ii (kc (seqB (seqB (wM (ii (seqB (kc (seqB (seqB (seqB (seqB (seqB (seqB (aq Tryz.f54))))))))))))))))))] func54 (by kernel_rfl)
   [(9,[(6,.one (.bool)),(30,.one (.int .i64))]),(53,[(90,.one (.int .i64))])] [v0,.slice a1 l1 c1] (of_decide_eq_true (by kernel_rfl)) [(3,.one (.ptr)),(5,.one (.slice)),(7,.one (.slice)),(10,.one (.slice)),(61,.one (.int .i64)),(62,.one (.int .i64))] [3,11,12,67] 33 45 47 68 70 (iG v0 a1 l1 c1 w K) (by kernel_rfl) h
end Go.Pk
namespace Go.Proofs
open Go.Pk (Cf vS vI bW)
open Go.Shelf
def Tryz.lays166_ren:Go.Shelf.Ren:=⟨fun|166=>106|240=>182|276=>264|n=>n,fun|0=>0|3=>3|4=>4|9=>9|20=>20|37=>189|70=>188|72=>191|75=>195|80=>198|164=>312|5=>5|n=>n,fun|n=>n⟩
theorem Tryz.lays166:Go.Proofs.Lays.n166 prog Tryz.lays166_ren:=by constructor <;> intros <;> kernel_rfl
theorem Tryz.Builder_Extra_166:Builder.Extra prog Tryz.lays166_ren:= {
 sizeBuilder:=by kernel_rfl
 liesBuilder:=by kernel_rfl
 t5:=Tryz.underlying5
 a5:=Tryz.isAgg5
 z5:=Tryz.sizeOf5
 v5:=Tryz.zeroValue5
 infoByte:=by kernel_rfl
 cellsByte:=by kernel_rfl
 sizeByte:=by kernel_rfl
 neB5:=by decide }
open Go.RowKit in
theorem Tryz.Builder_WriteString (B b:Nat)(bs:List Value)(s:ByteArray)(w:World)(h:Lib.IsBuilder 191 5 B b bs w)(hlen:bs.length+s.size <=140737488355328)(hBw:B <=w.heap.size):
   Cf 106 #[.pointer (some ⟨b,0,none⟩),.string s] w λe w'=>e=.returned (.tuple #[vI s.size,.nilIface])/\(Lib.BuilderAt 191 5 B b (.pointer (some ⟨b,0,none⟩)) (bs++Lib.strCells s) w'/\Below B w w'):=Any.Builder_WriteString Tryz.lays166 Tryz.Builder_Extra_166 B b bs s w h hlen hBw
end Go.Proofs
namespace Go.Pk
open Go.RowKit (Below)
open Go.Proofs
def rfG:Code->Operand|.rangeFunc g _ _ _=>g|_=>.tmp 0
def rfP:Code->Array Tmp|.rangeFunc _ p _ _=>p|_=> #[]
def rfA:Code->Code|.rangeFunc _ _ a _=>a|_=>.skip
def rfB:Code->Code|.rangeFunc _ _ _ b=>b|_=>.skip
theorem Fq {T e:TypeId}{B b:Nat}{bs:List Value}{w w':World}(h:Lib.IsBuilder T e B b bs w)(hb:bW w w'):Lib.IsBuilder T e B b bs w':=by
 have one:∀{p:Value},Lib.BuilderAt T e B b p bs w->Lib.BuilderAt T e B b p bs w':=by
   rintro p ⟨h1,v,h2,h3,h4⟩
   refine⟨h1,v,?_,⟨h3.1,?_⟩,h4⟩
   · rw[hb.block _ (Array.getElem?_eq_some_iff.1 h2).1];exact h2
   · rcases h3.2 with h|⟨g,cap,cur,e1,e2,e3,e4⟩
     · exact .inl h
     · exact .inr ⟨g,cap,cur,e1,e2,by rw[hb.block _ (Array.getElem?_eq_some_iff.1 e3).1];exact e3,e4⟩
 exact h.elim (λh=>.inl (one h)) λh=>.inr (one h)
theorem Jm {T e:TypeId}{w w':World}{b:Nat}(hb:b=w.heap.size)(hw:w'=w.alloc (.cells #[.pointer none,.slice none 0 0] T)):Lib.IsBuilder T e w.heap.size b [] w':=by
 refine .inl ⟨by omega,.slice none 0 0,?_,⟨rfl,.inl ⟨rfl,rfl⟩⟩,λh=>by cases h⟩
 subst hb hw;exact heap_alloc_new w _
def pc (ps:List Prt):List UInt8:=ps.flatMap (·.1)
theorem LQ (ps:List Prt)(p:Prt):pc (ps++[p])=pc ps++p.1:=by unfold pc;rw[List.flatMap_append];simp
theorem Hz {B:Nat} :∀ps:List Prt,(∀p∈ps,p.1.length <=B)->(pc ps).length <=ps.length*B
 | [],_=>Nat.zero_le _
 | p::ps,h=>by
   have h1:=Hz ps λq hq=>h q (List.mem_cons_of_mem _ hq)
   have h2:=h p List.mem_cons_self
   show(p.1++pc ps).length <=_
   rw[List.length_append,List.length_cons,Nat.add_mul,Nat.one_mul];omega
theorem Mr (l:List Cho){ps:List Prt}(hu:sY ps=[]):Wh l ps 0=pc ps:=by
 unfold Wh pc
 rw[hu]
 congr 1
 funext p
 show p.1++[]=_
 rw[List.append_nil]
theorem JL {l:List Cho}{s:List UInt8}{ps:List Prt}(hp:Cy l s=some ps)(hu:sY ps=[]):DF l s=if 2000<H1 l ps then[]else[pc ps]:=by
 unfold DF
 rw[hp]
 have hr:Ge l (sY ps)=1:=by rw[hu];rfl
 have ha:((sY ps).all λi=>decide (0<(gm l i).length))=true:=by rw[hu];rfl
 simp only[hr,ha]
 by_cases h:2000<H1 l ps
 · rw[if_pos (.inr (.inr h)),if_pos h]
 · rw[if_neg (λh2=>by rcases h2 with h2|h2|h2;cases h2;omega;exact h h2),if_neg h]
   show[Wh l ps 0]=_
   rw[Mr l hu]
theorem Qa (a:Option Addr)(n c:Nat)(w:World):Cf fz #[.slice a n c] w (Ret λv w'=>v=(.func (.func cw) #[] #[.pointer (some ⟨w.heap.size,0,none⟩)])/\w'=w.alloc (.cells #[.slice a n c] aZ)):=by
 refine nw a n c ?_
 intro k1 w1 hk1 hw1
 subst hk1 hw1
 exact⟨rfl,rfl⟩
theorem JU {w:World}{r:Nat}(h:w.heap[r]? =some (.map #[] 0))(n:Int):(Instr.lookup cZ (.map (some r)) (vI n) false).run prog w=.ok (vS []) w:=by
 obtain⟨i,hi,_,_,hz⟩:=(eG).info
 unfold Instr.lookup
 have hc:∀b:Bool,(Instr.checkKey b 10000 aP (vI n)).run prog w=.ok () w:=λb=>by kernel_rfl
 simp only[Sem.run_bind,bK p8,Result.andThen_ok,vp h,Sem.run_pure,hc]
 have hf:(Instr.findKey aP (vI n) (#[]:Array MapEntry).toList).run prog w=.ok none w:=by kernel_rfl
 simp only[hf,Result.andThen_ok]
 simp[zeroValue,jj hi,hz]
theorem PP {n:Nat}{c:Code}{t d:Tmp}(e:c=.rangeFunc (rfG c) (rfP c) (rfA c) (rfB c))(hg:rfG c=.tmp t)(hps:(rfP c).size=2)(ha:rfA c=.region (Ts (rfA c)) (opsOf (rfA c)) false)(ho:(opsOf (rfA c)).toList=[(opsOf (rfA c))[0]!])(hw:((opsOf (rfA c))[0]!).guard=none)(hop:((opsOf (rfA c))[0]!).op=.assign (.tmp d))
   {l:List Tmp} {vs:List Value} {j:Nat} (hl:l[j]? =some t) {w:World} {k:Nat} (hv:vs[j]? =some (.func (.func cw) #[] #[.pointer (some ⟨k,0,none⟩)])) {a:Option Addr} {cap:Nat} (hk:ai w k aZ [.slice a 0 cap]) (hs:Sl lS w uc a 0 cap []) (hin:∀b o,a=some ⟨b,o,none⟩->b<w.heap.size):
   RFs prog n c l vs (λ_ W=>bW w W) w:=by
 intro A hsz hvs
 generalize (opsOf (rfA c))[0]! =o at*
 refine(wpIn_wide (n:=6)).1 ?_
 have hA:A.eval (rfG c)=.func (.func cw) #[] #[.pointer (some ⟨k,0,none⟩)]:=by
   rw[hg]
   show A.tmps.getD t undef=_
   have:=congrArg (·[j]?) hvs
   simp only[List.getElem?_map,hl,Option.map_some,hv]at this
   exact Option.some.inj this
 rw[e]
 refine wpIn_rangeFunc_ownG rfl (by decide) (gf:=cw) (lb:= #[.pointer (some ⟨k,0,none⟩)]) hA trivial (enters_of func181 (by kernel_rfl) rfl)
   (LD Fence.wide 5 trivial rfl (by decide) k [] (by decide) hk hs) (λh1 h2=>h1.trans h2) (λV l o o' hl _ _ _=>Ch λb hb e=> ?hKb) (Below.refl _ _) (λx=>by rw[hps];rfl)
   (λpre V=>bW w V) (fun(_:Code) (_:List (Int×Int)) (_:World)=>False) ?own (λ_=>λ_ _ _ _ h=>h.elim) (Below.refl _ _)
   (λx=>({ tmps:=((rfP c).zip #[vI x.1,vI x.2]).foldl (λt (p,v)=>t.setIfInBounds p v) A.tmps,defers:=[] } :Act).put o.dst (({ tmps:=((rfP c).zip #[vI x.1,vI x.2]).foldl (λt (p,v)=>t.setIfInBounds p v) A.tmps,defers:=[] } :Act).eval (.tmp d))) ?assign ?body ?done (λD c pre W _ _ h _=>h.elim)
 case hKb=>
   have:=hk.lt
   rcases hb with rfl|⟨o2,e2⟩
   · omega
   · have:=hin b o2 e2;omega
 case own=>
   intro s W W' row h hg2 hr
   exact h.grown hg2 h.size λr hr2=>(hr r hr2).1
 case assign=>
   intro l x V K hK
   rw[ha]
   have hl:opsOf (rfA c)=[o].toArray:=by rw[<- ho]
   rw[hl]
   apply wpIn_region_lit
   exact rH (by unfold Region.wanted;rw[hw]) (.inr hop) rfl (WL hK)
 case body=>
   intro l pre x V _ hlen
   exact absurd hlen (Nat.not_lt_zero _)
 case done=>
   intro D xs W hD _ hI hM
   exact⟨rfl,D,hD,hM,rfl,hI⟩
theorem sV {w:World}(t:Tpl)(ot:t.ok)(ht:t.text.length <=100000){A:Bl}{a1:Option Addr}{l1 c1:Nat}{cs:List Cho}(hc:Sl Ee w A a1 l1 c1 cs)(hW:UX cs){ps:List Prt}(hp:Cy cs t.text=some ps)(hu:sY ps=[])(he:Env w):
   Cf iZ #[t.v,.slice a1 l1 c1] w (Ret λv w'=>∃a n c,v=.slice a n c/\Ow tS ak w' NoB a n c (DF cs t.text)/\bg w.heap.size a/\bW w w'):=by
 apply rO
 unfold iG
 obtain⟨pl,pf⟩:=EO hp
 have hrow:Ge cs (sY ps)=1:=by rw[hu];rfl
 have hM:=GM (l:=cs) ps [] (λi hi=>by cases hi) λp hp=>(pf p hp).1
 rw[<- Ls]at hM
 have hI:=JL hp hu
 refine⟨λm Ds p3 a5 l5 c5 a7 l7 c7 a10 l10 c10 n61 n62 W=>∃k3:Nat,p3=some ⟨k3,0,none⟩/\bW w W/\Ow Rz be W NoB a5 l5 c5 ps/\Ow lS aP W NoB a7 l7 c7 []/\n61=1/\DF cs t.text=[pc ps]/\
     ((n62=0/\m=1/\Ds=[]/\a10=none/\l10=0/\c10=0)\/(n62=1/\m=0/\∃D,Ds=[D]/\Mrk D W/\w.heap.size <=D/\Ow tS ak W NoB a10 l10 c10 [pc ps]/\∀g,dV a10=some g->D<g)),?_,?_⟩
 · intro k2 w2 hk2 hw2 k3 w3 hk3 hw3
   have b2:=(hw2▸ah w _:bW w w2)
   have b3:=(hw3▸ah w2 _:bW w2 w3)
   have B3:=ab b2 b3 b2.size
   have A2:ai w2 k2 ao t.cells:=ai.new hk2 hw2
   have A3:ai w3 k3 aC [.slice a1 l1 c1]:=ai.new hk3 hw3
   refine⟨rfl,t.text,(A2.below b3).load1 aF rfl (Lp ot),a1,l1,c1,A3.load1 bQ rfl rfl,aB (K5 t.text (by omega) (hc.below B3) (he.step B3)) ?_⟩
   rintro v w23 ⟨b23,hm⟩
   rw[hp]at hm
   obtain⟨a,n,c,rfl,oP,_⟩:=hm
   refine⟨_,_,_,_,rfl,aB (Pq oP.all (by omega)) ?_⟩
   rintro _ w27 ⟨a27,n27,c27,rfl,oU,_,b27⟩
   have B23:=ab B3 b23 B3.size
   have B27:=ab B23 b27 B23.size
   have A3:=A3.below (ab b23 b27 b23.size)
   have oP:=oP.below b27
   have hc:=hc.below B27
   have oU':Ow lS aP w27 NoB a27 n27 c27 []:=by rw[hu]at oU;exact oU
   have h0:n27=0:=oU'.len
   subst h0
   refine⟨_,_,_,rfl,λm b n W=>W=w27/\b=true/\n=0,⟨0,rfl,rfl,rfl⟩,λm b n=>aN.of ?_ _⟩
   rintro _ ⟨rfl,rfl,rfl⟩
   have lc:=A3.load1 (P:=prog) bQ rfl (i:=0) rfl
   have nil:2000<H1 cs ps->∀{W:World},bW w W->UI (λv w'=>∃a n c,v=.slice a n c/\Ow tS ak w' NoB a n c (DF cs t.text)/\bg w.heap.size a/\bW w w') [] (.slice none 0 0) W:=λh W hb=>⟨List.nodup_nil,λD hD=>(by cases hD),_,_,_,rfl,by rw[hI,if_pos h];exact Ow.nil _ _ _ _,bg.none _,hb⟩
   refine ae.no rfl (ae.no rfl ⟨_,_,_,lc,aB (J4 oU.all hc hM hW) ?_⟩)
   rintro _ _ ⟨rfl,rfl⟩
   rw[hrow]
   refine⟨_,rfl,ae.no rfl ⟨_,_,_,lc,aB (HX oP.all hc (λp hp=>(pf p hp).1) hW (by omega) λp hp=>by have:=(pf p hp).2;omega) ?_⟩⟩
   rintro _ w56 ⟨rfl,b56⟩
   have B56:=ab B27 b56 B27.size
   refine⟨_,rfl,ae.of (λh5=>nil (of_decide_eq_true h5) B56) (λh5=>⟨_,_,_,(A3.below b56).load1 bQ rfl rfl,aB (J4 (oU.below b56).all (hc.below b56) hM hW) ?_⟩)⟩
   rintro _ _ ⟨rfl,rfl⟩
   rw[hrow]
   have h5:=of_decide_eq_false h5
   exact⟨_,rfl,1,k3,rfl,B56,oP.below b56,oU'.below b56,rfl,by rw[hI,if_neg h5],.inl ⟨rfl,rfl,rfl,rfl,rfl,rfl⟩⟩
 · rintro m Ds rs p3 a5 l5 c5 a7 l7 c7 a10 l10 c10 n61 n62 W ⟨k3,rfl,B,oP,oU,rfl,hI,⟨rfl,rfl,rfl,rfl,rfl,rfl⟩|⟨rfl,rfl,D,rfl,hM1,hD,oo,hg⟩⟩
   rotate_left
   · have g1:=grownBy_putObj' W D (.deferred none)
     refine ae.no rfl ⟨by simp,λD' h=>by rw[List.mem_singleton.1 h];exact hM1,_,_,_,rfl,?_,λg h=>Nat.le_trans hD (Nat.le_of_lt (hg g h)),B.grown g1 B.size λr e=>by cases e;exact hD⟩
     rw[hI]
     exact oo.put (λg h e=>by have:=hg g h;omega) g1
   have h0:l7=0:=oU.len
   have hl5:=oP.len
   subst h0 hl5
   refine ae.yes rfl λk11 w11 hk11 hw11=>?_
   have b11:=(hw11▸ah W _:bW W w11)
   have A11:ai w11 k11 aP [vI 0]:=ai.new hk11 hw11
   obtain⟨wx,qx,Ax,gx⟩:=A11.put1 (P:=prog) fV (v:=vI 0) rfl rfl
   have bxq:bW W wx:=Below.put b11 gx (by omega)
   refine⟨wx,qx,λk65 w65 hk65 hw65 k12 w12 hk12 hw12=>?_⟩
   have b65:=(hw65▸ah wx _:bW wx w65)
   have b12:=(hw12▸ah w65 _:bW w65 w12)
   have s65:=b65.size
   have M65:w65.heap[k65]? =some (.map #[] 0):=by rw[hk65,hw65];exact heap_alloc_new wx _
   have lt65:k65<w65.heap.size:=(Array.getElem?_eq_some_iff.1 M65).1
   have A12:ai w12 k12 cZ [.map none]:=ai.new hk12 hw12
   obtain⟨wy,qy,Ay,gy⟩:=A12.put1 (P:=prog) yO (v:=.map (some k65)) rfl rfl
   have by1:bW w65 wy:=Below.put b12 gy (by omega)
   have M65:wy.heap[k65]? =some (.map #[] 0):=(by1.block k65 lt65).trans M65
   have By:bW W wy:=ab bxq (ab b65 by1 b65.size) bxq.size
   refine⟨wy,qy,aB (Qa a7 0 c7 wy) ?_⟩
   rintro _ w67 ⟨rfl,hw67⟩
   have b67:=(hw67▸ah wy _:bW wy w67)
   have A67:ai w67 wy.heap.size aZ [.slice a7 0 c7]:=ai.new rfl hw67
   have B67:=ab By b67 By.size
   have oU7:=oU.below B67
   refine⟨_,rfl,_,PP (t:=67) (d:=69) (j:=3) (by kernel_rfl) (by kernel_rfl) (by kernel_rfl) (by kernel_rfl) (by kernel_rfl) (by kernel_rfl) (by kernel_rfl) rfl rfl A67 oU7.all (λb o e=>?_),λD wj hD hM1 hJ k16 w16 hk16 hw16=>?_⟩
   · obtain⟨_,_,_,h4⟩:=oU7
     rcases h4 with⟨h,_,_⟩|⟨g,cur,fr,h,hg,_⟩
     · rw[h]at e;cases e
     · rw[h]at e;cases e
       exact(Array.getElem?_eq_some_iff.1 hg).1
   have Dlt:D<wj.heap.size:=(Array.getElem?_eq_some_iff.1 hM1).1
   have b16:=(hw16▸ah wj _:bW wj w16)
   have Bj:bW W wj:=ab B67 hJ B67.size
   have oPj:=oP.below Bj
   have Ayj:ai wj k12 cZ [.map (some k65)]:=(Ay.below b67).below hJ
   have ltk65:k65<wy.heap.size:=(Array.getElem?_eq_some_iff.1 M65).1
   have M65j:wj.heap[k65]? =some (.map #[] 0):=(hJ.block k65 (Nat.lt_of_lt_of_le ltk65 b67.size)).trans ((b67.block k65 ltk65).trans M65)
   have lt65j:k65<wj.heap.size:=(Array.getElem?_eq_some_iff.1 M65j).1
   have hfl:∀j,(pc (ps.take j)).length <=200000*100000:=λj=>by
     have:=Hz (B:=100000) (ps.take j) λp hp=>Nat.le_trans (pf p (List.mem_of_mem_take hp)).2 ht
     refine Nat.le_trans this (Nat.mul_le_mul ?_ (Nat.le_refl _))
     rw[List.length_take];omega
   refine⟨λm n90 V=>∃j:Nat,n90=(j:Int)/\m=ps.length-j/\j <=ps.length/\Lib.IsBuilder pt bX wj.heap.size k16 (Lib.byteCells (pc (ps.take j))) V/\bW wj V,
     ⟨_,0,rfl,rfl,Nat.zero_le _,Jm hk16 hw16,b16⟩,λm n90=>aN.of ?_ _⟩
   rintro V ⟨j,rfl,rfl,hj,bu,bV⟩
   refine ae.of (λh=>?_) (λh=>?_) <;> simp only[dTx,dFx]at h
   · have hlt:j<ps.length:=by omega
     refine⟨⟨⟨by omega,h⟩,oPj.all.isSome hlt⟩,_,_,F1 (oPj.all.below bV) hlt,?_⟩
     have hpl:=(pf _ (List.getElem_mem hlt)).2
     have htk:ps.take (j+1)=ps.take j++[ps[j]]:=List.take_succ_eq_append_getElem hlt
     generalize ps[j]=p at*
     refine GO.new (zs:=I5 ([],0)) (cs:=I5 p) rfl rfl (λv hv=>by simp[I5]at hv;rcases hv with rfl|rfl <;> rfl) V λk18 w18 hk18 A18 b18=>?_
     have bV8:=ab bV b18 bV.size
     have M18:w18.heap[k65]? =some (.map #[] 0):=(bV8.block k65 lt65j).trans M65j
     have hj1:=hfl j
     refine⟨rfl,p.1,A18.load1 aF rfl rfl,some k65,(Ayj.below bV8).load1 p8 rfl rfl,rfl,p.2,A18.load1 cD rfl rfl,[],JU M18 p.2,?_,?_⟩
     · show(((p.1.length+0:Nat)):Int) <=9223372036854775807
       omega
     rintro _ rfl
     rw[List.append_nil]
     refine(Tryz.Builder_WriteString wj.heap.size k16 (Lib.byteCells (pc (ps.take j))) (mkS p.1) w18 (Fq bu b18) (by
       have e1:(Lib.byteCells (pc (ps.take j))).length=(pc (ps.take j)).length:=by simp[Lib.byteCells]
       have e2:(mkS p.1).size=p.1.length:=by show(p.1.toArray).size=_;simp
       rw[e1,e2];omega) bV8.size).mono ?_
     rintro _ w10 ⟨rfl,b10,hb10⟩
     refine⟨_,_,rfl,ps.length-(j+1),by omega,j+1,by rw[wrap_i64 (by omega) (by omega)];omega,rfl,by omega,?_,bV8.trans hb10⟩
     rw[htk,LQ]
     have e:Lib.byteCells (pc (ps.take j)++p.1)=Lib.byteCells (pc (ps.take j))++Lib.strCells (mkS p.1):=by
       unfold Lib.byteCells Lib.strCells
       rw[List.map_append];rfl
     rw[e];exact .inr b10
   · obtain rfl:j=ps.length:=by omega
     rw[List.take_length]at bu
     refine(Tryz.Builder_String_any wj.heap.size k16 (pc ps) _ bu bV.size).mono ?_
     rintro _ w104 ⟨rfl,hb104⟩
     have B104:=bV.trans hb104
     refine⟨pc ps,rfl,λk105 w105 hk105 hw105=>?_⟩
     obtain⟨_,w106,a6,n6,c6,r6,o6,ch6,nw6⟩:=T8 (ty:=aw) (jS _) bG eG (by decide) (Ow.nil tS ak w104 NoB) hk105 hw105 (x:=pc ps) (vs:=[vS (pc ps)]) (qO trivial) (cm:=1) (by decide)
     have b6:bW w104 w106:=ch6.none
     have Bj6:bW wj w106:=ab B104 b6 B104.size
     have Bw6:bW W w106:=ab Bj Bj6 Bj.size
     exact⟨w106,a6,n6,c6,r6,0,by decide,k3,rfl,ab B Bw6 B.size,oP.below Bw6,oU.below Bw6,rfl,hI,.inr ⟨rfl,rfl,D,rfl,(Bj6.block D Dlt).trans hM1,by have:=B.size;have:=B67.size;omega,o6,λg hg=>by
       rcases nw6 g hg with h|h
       · cases h
       · have:=B104.size;omega⟩⟩
theorem yu (a:Option Addr)(b:Value)(c:Bool){w K}(h:nA w (.cells (Value.cells b) af) λd e=>nA e (.cells #[vI 0,vI 0,.slice none 0 0,.slice none 0 0] ax) λf g=>∃i,Ld af (vA d 0) g i/\Cf jK #[.pointer a,i] g λj k=>∃l m n o,j=rT #[.slice l m n,vI o]/\ae (o !=(0:Int)) (∃p,Sv ax (vA f 0) (.agg #[vI 0,vI 0,.slice none 0 0,.slice none 0 0]) k p/\∃q r s t u v x y,Rv ax (vA f 0) p (.agg #[vI q,vI r,.slice s t u,.slice v x y])/\K (.tuple #[.agg #[vI q,vI r,.slice s t u,.slice v x y],vI o]) p) (∃p:FP [],(∃q:FP [.one .bool],(true/\∃r,Ld aP (vA d 0) k (vI r)/\ae (r !=(1:Int)) (q c k) (q false k))/\∀r,aN 5 (∀s,q r s->ae r (uI bh #[.pointer a] s λt u=>Cf tU #[vI t,.slice l m n] u λv x=>∃y z A B C D E F G,v=rT #[.agg #[vI y,vI z,.slice A B C,.slice D E F],vI G]/\∃H,Sv ax (vA f 0) (.agg #[vI y,vI z,.slice A B C,.slice D E F]) x H/\∃I J L M N O P Q,Rv ax (vA f 0) H (.agg #[vI I,vI J,.slice L M N,.slice O P Q])/\K (.tuple #[.agg #[vI I,vI J,.slice L M N,.slice O P Q],vI G]) H) (p s)))/\aN 13 (∀q,p q->true/\∃r,Ld aP (vA d 0) q (vI r)/\ae (r !=(1:Int)) (uI bh #[.pointer a] q λs t=>Cf pz #[vI s] t λu v=>∃x y z A B C D E F,u=rT #[.agg #[vI x,vI y,.slice z A B,.slice C D E],vI F]/\∃G,Sv ax (vA f 0) (.agg #[vI x,vI y,.slice z A B,.slice C D E]) v G/\∃H I J L M N O P,Rv ax (vA f 0) G (.agg #[vI H,vI I,.slice J L M,.slice N O P])/\K (.tuple #[.agg #[vI H,vI I,.slice J L M,.slice N O P],vI F]) G) (uI bh #[.pointer a] q λs t=>Cf nV #[vI s,.slice l m n] t λu v=>∃x y z A B C D E F,u=rT #[.agg #[vI x,vI y,.slice z A B,.slice C D E],vI F]/\nA v (.cells #[vI 0,vI 0,.slice none 0 0,.slice none 0 0] ax) λG H=>∃I,Sv ax (vA G 0) (.agg #[vI x,vI y,.slice z A B,.slice C D E]) H I/\∃J:FP [],(∃L:FP [.one .bool],(ae (F !=(0:Int)) (L true I) (L c I))/\∀M,aN 4 (∀N,L M N->ae M (∃O P Q R S T U V,Ld ax (vA G 0) N (.agg #[vI O,vI P,.slice Q R S,.slice T U V])/\∃X,Sv ax (vA f 0) (.agg #[vI O,vI P,.slice Q R S,.slice T U V]) N X/\∃Y Z aa ac ad ag al an,Rv ax (vA f 0) X (.agg #[vI Y,vI Z,.slice aa ac ad,.slice ag al an])/\K (.tuple #[.agg #[vI Y,vI Z,.slice aa ac ad,.slice ag al an],vI F]) X) (J N)))/\aN 8 (∀L,J L->true/\∃M N O,Ld df (vA G 3) L (.slice M N O)/\true/\∃P Q R,Ld df (vA G 3) L (.slice P Q R)/\uI fM #[.slice P Q R,.bool true] L λS T=>∃U:FP [],(true/\∃V X Y,(∀Z,bW T Z->Ld aZ (vA G 2) Z (.slice V X Y))/\∃Z,(∀aa,bW T aa->Cf bh #[.pointer a] aa λac ad=>ac=.returned (vI Z)/\bW aa ad)/\∀aa,T.heap.size <=aa->∃ac:FP [.one .slice],(∀ad ag al an ba,ac ad ag al an->bW an ba->ac ad ag al ba)/\(∀ad,bW T ad->ad.heap[aa]? =some (.cells #[vI ((N:Nat):Int)] aP)->uL eM #[.slice (vA aa 0) 1 1,vI Z] ad λag al an ba=>ac ag al an ba/\bW ad ba)/\∀ad ag al,∀an,bW T an->ac ad ag al an->an.heap[aa]? =some (.cells #[vI ((N:Nat):Int)] aP)->∃ba bb bd bj,(Builtin.append_ #[aZ,aZ] aZ #[.slice V X Y,.slice ad ag al]).run prog an=.ok (.slice bb bd bj) ba/\true/\∃bk,Sv aZ (vA G 2) (.slice bb bd bj) ba bk/\U bk)/\aN 9 (∀V,U V->uI bh #[.pointer a] V λX Y=>∃Z:Nat->FP [.one (.int .i64)],(∃aa,Z aa (0:Int) Y)/\∀aa ac,aN 14 (∀ad,Z aa ac ad->ae (decide (ac<X)) (true/\∃ag al an,(∀ba,bW ad ba->Ld aZ (vA G 2) ba (.slice ag al an))/\∃ba,(∀bb,bW ad bb->Cf bh #[.pointer a] bb λbd bj=>bd=.returned (vI ba)/\bW bb bj)/\(bx (i64.wrap ((i64.wrap (S*ba))+ac)) ((al:Nat):Int)/\Option.isSome ag=true)/\∀bb,bW ad bb->∃bd,Sv aP (am ag (i64.wrap ((i64.wrap (S*ba))+ac)) 1) (vI ((N:Nat):Int)) bb bd/\∃bj:Nat,bj<aa/\Z bj (i64.wrap (ac+(1:Int))) bd) (true/\∃ag al an,Ld df (vA G 3) ad (.slice ag al an)/\(bx S ((al:Nat):Int)/\Option.isSome ag=true)/\∃ba,Sv cd (am ag S 1) (.bool false) ad ba/\true/\∃bb bd bj,Ld df (vA G 3) ba (.slice bb bd bj)/\nA ba (.cells #[.bool true] cd) λbk bl=>∃bo bq bs bu,(Builtin.append_ #[df,df] df #[.slice bb bd bj,.slice (vA bk 0) 1 1]).run prog bl=.ok (.slice bq bs bu) bo/\true/\∃bw,Sv df (vA G 3) (.slice bq bs bu) bo bw/\∃bz cb cc cf ch ck cl cm,Ld ax (vA G 0) bw (.agg #[vI bz,vI cb,.slice cc cf ch,.slice ck cl cm])/\∃cn,Sv ax (vA f 0) (.agg #[vI bz,vI cb,.slice cc cf ch,.slice ck cl cm]) bw cn/\∃co cp cs cx dc dg dl dn,Rv ax (vA f 0) cn (.agg #[vI co,vI cp,.slice cs cx dc,.slice dg dl dn])/\K (.tuple #[.agg #[vI co,vI cp,.slice cs cx dc,.slice dg dl dn],vI 0]) cn)))))))):Cf mO #[.pointer a,b,.bool c] w (Ret K):=ru func228 [(12,[]),(13,[(29,.one .bool)]),(30,[]),(31,[(55,.one .bool)]),(42,[]),(3000043,[(0,.one .bool),(2,.one .bool),(4,.one .bool),(1,.one .bool),(5,.one .bool),(3,.one .bool),(6,.one .slice)]),(48,[(75,.one (.int .i64))]),(3000059,[(0,.one .bool),(2,.one .bool),(3,.one .bool),(6,.one .bool),(8,.one .bool),(1,.one .bool),(4,.one .bool),(5,.one .bool),(7,.one .bool),(9,.one .bool)])] h
def upD (k:Nat)(w:List Nat):DA:=⟨(k:Int),1,setRow k (w.length+1) ((w.length+2:Nat):Int) (MJ k w ((w.length+1:Nat):Int)++sG k ((w.length+2:Nat):Int)) k,(MI w).set (w.length+1) false++[true]⟩
def LA (ts:List Txt)(h:Hst)(itself:Bool):DA:=
 if h.kind≠1 then(if itself=true then chD (ts.length+1) (vT ts h) 0 else noD (ts.length+1))
 else if itself=true then chD (ts.length+1) (vT ts h) (((vT ts h).length+1:Nat):Int)else upD (ts.length+1) (vT ts h)
abbrev Mb:=MV ax aP cd
structure UpS (wB:World)(k10 lo:Nat)(d:DA)(a:Option Addr)(n c:Nat)(b:Option Addr)(m e:Nat)(W:World):Prop where
 mb:Mb W k10 a n c b m e d
 bel:bW wB W
 fa:∀g,dV a=some g->wB.heap.size <=g
 fb:∀g,dV b=some g->wB.heap.size <=g
 le:lo <=W.heap.size
set_option maxHeartbeats 1000000 in
theorem zW {h:Hst}(o:h.ok)(hn:h.name.length <=1000000){w:World}(he:Env w){p:Option Addr}{ts:List Txt}(hA:ky w p ts)(htl:ts.length <=511)(itself:Bool):
   Cf mO #[.pointer p,h.v,.bool itself] w (Ret (gr (kB ts h) (LA ts h itself) w)):=by
 apply yu
 intro k4 w4 hk4 hw4 k6 w6 hk6 hw6
 have hb4:=(hw4▸ah w _:bW w w4)
 have hb6:=(hw6▸ah w4 _:bW w4 w6)
 have A4:ai w4 k4 af h.cells:=ai.new hk4 hw4
 have A6:ai w6 k6 ax [vI 0,vI 0,.slice none 0 0,.slice none 0 0]:=ai.new hk6 hw6
 have hB6:=ab hb4 hb6 hb4.size
 refine⟨_,bc.load0 (A4.below hb6) (Hst.len o),?_⟩
 refine aB (qY o hn (he.step hB6) (hA.below hB6) (by omega)) ?_
 rintro v w17 ⟨hb17,hv⟩
 have hB:=ab hB6 hb17 hB6.size
 have hlt:=A6.lt
 have ho6:w.heap.size <=k6:=by have:=hb4.size;omega
 have hs17:=hb17.size
 cases hk:kB ts h with
 | false=>
   rw[if_neg (by rw[hk];simp)]at hv
   subst hv
   obtain⟨wx,s1,s2,g1⟩:=jo (A6.below hb17) rfl none 0 0 none 0 0 ⟨0,0,[],[]⟩
   exact⟨none,0,0,181,rfl,ae.yes rfl ⟨wx,s1,_,_,none,0,0,none,0,0,s2,gr.no (Below.put hB g1 ho6)⟩⟩
 | true=>
   rw[if_pos hk]at hv
   obtain⟨a,n,c,rfl,ho,hf⟩:=hv
   have hwl:=IU ts o hk
   have hlen:((ts.length:Int)+1)=((ts.length+1:Nat):Int):=by omega
   have hs17':Sl lS w17 uc a n c ((vT ts h).map fun(x:Nat)=>(x:Int)):=by rw[<- Vp];exact ho.all
   have A4b:=(A4.below hb6).below hb17
   have A6b:=A6.below hb17
   refine⟨a,n,c,0,rfl,ae.no rfl ?_⟩
   have fin:∀{d:DA} {v:Value} {w21:World},d=LA ts h itself->Do w17 d v w21->∃(a1:Option Addr) (n1 c1:Nat) (b1:Option Addr) (m1 e1:Nat),v=.tuple #[daV a1 n1 c1 b1 m1 e1 d,vI 0]/\∃wx,(Instr.storeAt ax (.pointer (some ⟨k6,0,none⟩)) (daV a1 n1 c1 b1 m1 e1 d)).run prog w21=.ok () wx/\
       (aV ax (.pointer (some ⟨k6,0,none⟩))).run prog wx=.ok (daV a1 n1 c1 b1 m1 e1 d) wx/\gr true (LA ts h itself) w (.tuple #[daV a1 n1 c1 b1 m1 e1 d,vI 0]) wx:=by
     rintro d v w21 rfl ⟨a1,n1,c1,b1,m1,e1,rfl,O,hb21⟩
     obtain⟨wx,s1,s2,g1⟩:=jo (A6b.below hb21) rfl a1 n1 c1 b1 m1 e1 (LA ts h itself)
     exact⟨a1,n1,c1,b1,m1,e1,rfl,wx,s1,s2,gr.yes ⟨a1,n1,c1,b1,m1,e1,rfl,(O.put g1 (by omega)).mono hB.size,Below.put (ab hB hb21 hB.size) g1 ho6⟩⟩
   refine⟨λw'=>w'=w17/\ ¬ (h.kind≠1/\itself=true),⟨λb w'=>w'=w17/\b=(decide (h.kind≠1)&&itself),⟨rfl,h.kind,A4b.load1 cD rfl rfl,?_⟩,λb=>aN.of ?_ _⟩,aN.of ?_ _⟩
   · refine ae.of (λh1=>⟨rfl,?_⟩) (λh1=>⟨rfl,?_⟩)
     · have:h.kind≠1:=by simpa using h1
       simp[this]
     · have:h.kind=1:=by simpa using h1
       simp[this]
   · rintro wj ⟨rfl,rfl⟩
     refine ae.of (λh1=>?_) (λh1=>⟨rfl,λhc=>?_⟩)
     · rw[Bool.and_eq_true,dTx]at h1
       refine aB (dR p ts (by omega) wj (hA.below hB)) ?_
       rintro _ w31 ⟨rfl,hw31⟩
       rw[hw31];clear hw31 w31
       refine⟨_,rfl,?_⟩
       rw[hlen]
       refine aB (BF hs17' (k:=ts.length+1) (by omega) (by omega) (GP ts h) (by omega)) ?_
       intro v w33 hD
       obtain⟨a1,n1,c1,b1,m1,e1,rfl,wx,s1,s2,hP⟩:=fin (by unfold LA;rw[if_pos h1.1,if_pos h1.2]) hD
       exact⟨_,_,a1,n1,c1,b1,m1,e1,_,rfl,wx,s1,_,_,a1,n1,c1,b1,m1,e1,s2,hP⟩
     · rw[hc.2,decide_eq_true hc.1]at h1;cases h1
   rintro wj ⟨hwj,hno⟩
   obtain rfl:w17=wj:=hwj.symm
   clear hwj
   refine⟨rfl,h.kind,A4b.load1 cD rfl rfl,ae.of (λh1=>?_) (λh1=>?_)⟩
   · have hk1:h.kind≠1:=by simpa using h1
     have hi: ¬ itself=true:=λhc=>hno ⟨hk1,hc⟩
     refine aB (dR p ts (by omega) w17 (hA.below hB)) ?_
     rintro _ w40 ⟨rfl,hw40⟩
     rw[hw40];clear hw40 w40
     refine⟨_,rfl,?_⟩
     rw[hlen]
     refine aB (vc (k:=ts.length+1) (by omega) (by omega)) ?_
     intro v w41 hD
     obtain⟨a1,n1,c1,b1,m1,e1,rfl,wx,s1,s2,hP⟩:=fin (by unfold LA;rw[if_pos hk1,if_neg hi]) hD
     exact⟨_,_,a1,n1,c1,b1,m1,e1,_,rfl,wx,s1,_,_,a1,n1,c1,b1,m1,e1,s2,hP⟩
   have hk1:h.kind=1:=by simpa using h1
   refine aB (dR p ts (by omega) w17 (hA.below hB)) ?_
   rintro _ w46 ⟨rfl,hw46⟩
   rw[hw46];clear hw46 w46
   refine⟨_,rfl,?_⟩
   rw[hlen]
   refine aB (wo hs17' (k:=ts.length+1) (by omega) (by omega) (GP ts h) (by omega)) ?_
   rintro _ w48 ⟨a1,n1,c1,b1,m1,e1,rfl,O,hb48⟩
   obtain⟨wn,hwn⟩:∃wn,wn=vT ts h:=⟨_,rfl⟩
   obtain⟨k,hkk⟩:∃k,k=ts.length+1:=⟨_,rfl⟩
   obtain⟨D,hD⟩:∃D,D=chD k wn ((wn.length+1:Nat):Int):=⟨_,rfl⟩
   rw[<- hwn,<- hkk,<- hD]at O
   rw[<- hwn,<- hkk,<- hD]
   rw[<- hwn]at hwl
   have hB48:=ab hB hb48 hB.size
   refine⟨_,_,a1,n1,c1,b1,m1,e1,_,rfl,?_⟩
   intro k10 w10 hk10 hw10
   have hb10:=(hw10▸ah w48 _:bW w48 w10)
   have A10:ai w10 k10 ax [vI 0,vI 0,.slice none 0 0,.slice none 0 0]:=ai.new hk10 hw10
   obtain⟨wx,s3,v3,g3⟩:=lG.store0 (P:=prog) (cs:=daL a1 n1 c1 b1 m1 e1 D) rfl (rW _ _ _ _ _ _ _) A10 rfl
   have hbx:bW w48 wx:=Below.put hb10 g3 (by omega)
   have M0:Mb wx k10 a1 n1 c1 b1 m1 e1 D:=⟨v3,O.nx.below hbx,O.ac.below hbx,λg hg e=>by have:=O.nx.lt g hg;omega,λg hg e=>by have:=O.ac.lt g hg;omega,O.ne⟩
   have hBx:=ab hB48 hbx hB48.size
   have hs48:=hb48.size
   have hs10:=hb10.size
   have hsx:=hbx.size
   refine⟨wx,s3,?_⟩
   refine⟨λw'=>w'=wx/\itself=false,⟨λb w'=>w'=wx/\b=itself,ae.no rfl ⟨rfl,rfl⟩,λb=>aN.of ?_ _⟩,aN.of ?_ _⟩
   · rintro wj2 ⟨rfl,rfl⟩
     refine ae.of (λh2=>?_) (λh2=>⟨rfl,h2⟩)
     refine⟨_,_,a1,n1,c1,b1,m1,e1,lG.load0 (cs:=daL a1 n1 c1 b1 m1 e1 D) M0.var rfl,?_⟩
     have A6x:=(A6b.below hb48).below hbx
     obtain⟨w4x,s4,s5,g4⟩:=jo A6x rfl a1 n1 c1 b1 m1 e1 D
     have eD:D=LA ts h b:=by unfold LA;rw[if_neg (λhc=>hc hk1),if_pos h2,hD,<- hwn,<- hkk]
     refine⟨w4x,s4,_,_,a1,n1,c1,b1,m1,e1,s5,?_⟩
     rw[<- eD]
     exact gr.yes ⟨a1,n1,c1,b1,m1,e1,rfl,((O.below hbx).put g4 (by omega)).mono hB.size,Below.put hBx g4 ho6⟩
   rintro wj2 ⟨hwj,hi⟩
   obtain rfl:wx=wj2:=hwj.symm
   clear hwj
   have hm1:=O.ac.len
   have hn1:=O.nx.len
   have hacl:D.ac.length=wn.length+2:=by rw[hD];exact qk wn
   have hnxl:D.nx.length=(wn.length+2)*k:=by rw[hD];exact Kr _ _ _
   have hkle:1 <=k/\k <=512:=by omega
   refine⟨rfl,b1,m1,e1,M0.var.load1 gT rfl rfl,rfl,b1,m1,e1,M0.var.load1 gT rfl rfl,?_⟩
   have hac:D.ac=List.replicate (wn.length+1) false++[true]:=by rw[hD];rfl
   have hsac:Sl AA wx uc b1 m1 e1 (List.replicate (wn.length+1) false++[true]):=by rw[<- hac];exact M0.ac.all
   refine aB (L3 hsac) ?_
   rintro _ w63 ⟨rfl,hw63⟩
   rw[hw63];clear hw63 w63
   refine⟨_,rfl,?_⟩
   have hAx:=hA.below hBx
   have hm1':((m1:Nat):Int)=((wn.length+2:Nat):Int):=by omega
   rw[hm1']
   refine⟨λW=>∃a' n' c',UpS w17 k10 wx.heap.size ⟨D.k,D.st,D.nx++sG k ((wn.length+2:Nat):Int),D.ac⟩ a' n' c' b1 m1 e1 W,⟨rfl,a1,n1,c1,λu hu=>(M0.var.below hu).load1 fh rfl rfl,((ts.length:Int)+1),λu hu=>?_,λk67 hk67=>?_⟩,aN.of ?_ _⟩
   · refine(dR p ts (by omega) u (hAx.below hu)).mono ?_
     rintro e w' ⟨v,rfl,rfl,rfl⟩
     exact⟨rfl,Below.refl _ _⟩
   · refine⟨λaa ll cc W=>ll=k/\cc=k/\Sl lS W (λg=>wx.heap.size <=g) aa ll cc (sG k ((wn.length+2:Nat):Int)),?_,?_,?_⟩
     · rintro aa ll cc x y ⟨rfl,rfl,hs⟩ hb
       exact⟨rfl,rfl,hs.below hb⟩
     · intro u70 hu hcell
       have hsl:Sl lS u70 uc (some ⟨k67,0,none⟩) 1 1 [((wn.length+2:Nat):Int)]:=by
         refine⟨rfl,Nat.le_refl _,by decide,.inr ⟨k67,0,rfl,(Array.getElem?_eq_some_iff.1 hcell).1,trivial,[vI ((wn.length+2:Nat):Int)],kg.one sF,λj hj=>?_⟩⟩
         rw[hO hcell,Nat.zero_add];simp
       rw[hlen,<- hkk]
       refine(Ih hsl hkle.1 (by omega)).mono ?_
       rintro _ w70 ⟨_,rfl,a',rfl,ho',hf',hb'⟩
       refine⟨a',k,k,rfl,⟨rfl,rfl,ho'.sl (λb _ hb=>hb.elim) λg hg=>?_⟩,hb'⟩
       have:=hf' g hg
       have:=hu.size
       omega
     rintro aa ll cc wq hq ⟨hll,hcc,hs⟩ hcell
     rw[hll,hcc]at hs
     rw[hll,hcc]
     have Mq:=M0.below hq
     obtain⟨w71,a3,n3,c3,r71,o71,g71,f71⟩:=dF (ty:=aZ) fh fV (by decide) Mq.nx (λ_ _ h=>h) (cm:=k) (hs.flat tV) (by rw[hnxl];simp[sG];have:(wn.length+2)*k <=129*512:=Nat.mul_le_mul (by omega) (by omega);omega)
     have v71:=Mq.var.grown g71 λex=>M0.na k10 ex.symm rfl
     have hqs:=hq.size
     have kl:=M0.var.lt
     have hne3:∀g,dV a3=some g->g≠k10:=λg hg ex=>by
       rcases f71 g hg with h1|h1
       · exact M0.na g h1 ex
       · omega
     have o71b:=Mq.ac.other g71 λg hg ex=>M0.ne g ex hg
     obtain⟨w5,s5,v5,g5⟩:=v71.store CY (i:=2) (v:=.slice a3 n3 c3) rfl (by simp) (by intro c hc;simp[Value.cells]at hc;subst hc;rfl)
     have v5:ai w5 k10 ax [vI D.k,vI D.st,.slice a3 n3 c3,.slice b1 m1 e1]:=v5
     have old3:∀g,dV a3=some g->w17.heap.size <=g:=λg hg=>by
       rcases f71 g hg with h1|h1
       · exact O.fa g h1
       · omega
     have hb17x:bW w17 wx:=ab hb48 hbx hb48.size
     have hb17q:bW w17 wq:=ab hb17x hq hb17x.size
     have hb5:bW w17 w5:=(hb17q.grown g71 hb17q.size λg hg=>O.fa g hg).grown g5 (Nat.le_trans hb17q.size g71.size) λx ex=>by cases ex;omega
     refine⟨w71,a3,n3,c3,r71,rfl,w5,s5,a3,n3,c3,⟨v5,o71.put (λg hg ex=>hne3 g hg ex) g5,o71b.put (λg hg ex=>M0.nb g hg ex) g5,hne3,M0.nb,λg hg ex=>?_⟩,hb5,old3,O.fb,Nat.le_trans hqs (Nat.le_trans g71.size g5.size)⟩
     rcases f71 g hg with h1|h1
     · exact M0.ne g h1 ex
     · have:=M0.ac.lt g ex;omega
   rintro w74 ⟨a2,n2,c2,U0⟩
   have hBU:∀{W:World} {d:DA} {a2:Option Addr} {n2 c2:Nat} {b2:Option Addr} {m2 e2:Nat},UpS w17 k10 wx.heap.size d a2 n2 c2 b2 m2 e2 W->bW w W:=λU=>ab hB U.bel hB.size
   refine aB (dR p ts (by omega) w74 (hA.below (hBU U0))) ?_
   rintro _ w74' ⟨rfl,hw74⟩
   rw[hw74];clear hw74 w74'
   refine⟨_,rfl,?_⟩
   have hk10x:k10<wx.heap.size:=M0.var.lt
   obtain⟨nx0,hnx0⟩:∃nx0,nx0=D.nx++sG k ((wn.length+2:Nat):Int):=⟨_,rfl⟩
   rw[<- hnx0]at U0
   have hnx0l:nx0.length=(wn.length+3)*k:=by rw[hnx0,List.length_append,hnxl,sG,List.length_replicate,<- Nat.succ_mul]
   have hmul:(wn.length+3)*k=(wn.length+1)*k+k+k:=by rw[show wn.length+3=(wn.length+1)+1+1 from rfl,Nat.succ_mul,Nat.succ_mul]
   have hmul2:(wn.length+1)*k <=128*512:=Nat.mul_le_mul (by omega) (by omega)
   rw[hlen,<- hkk]
   refine⟨λm i W=>∃(j:Nat) (a2:Option Addr) (n2 c2:Nat),j <=k/\i=(j:Int)/\m=k-j/\UpS w17 k10 wx.heap.size ⟨D.k,D.st,setRow k (wn.length+1) ((wn.length+2:Nat):Int) nx0 j,D.ac⟩ a2 n2 c2 b1 m1 e1 W,⟨_,0,a2,n2,c2,by omega,rfl,rfl,U0⟩,?_⟩
   intro m i
   refine aN.of ?_ _
   rintro wl ⟨j,a4,n4,c4,hj,rfl,rfl,U⟩
   have hn4:=U.mb.nx.len
   have hn4':n4=(wn.length+3)*k:=by rw[hn4];show(setRow _ _ _ _ _).length=_;rw[yK];exact hnx0l
   refine ae.of (λh3=>?_) (λh3=>?_) <;> simp only[dTx,dFx]at h3
   · have hjk:j<k:=by omega
     have hw1:i64.wrap (((wn.length+1:Nat):Int)*((k:Nat):Int))=(((wn.length+1)*k:Nat):Int):=by
       rw[<- Int.natCast_mul];exact wrap_i64 (by omega) (by omega)
     have hw2:i64.wrap (i64.wrap (((wn.length+1:Nat):Int)*((k:Nat):Int))+(j:Int))=(((wn.length+1)*k+j:Nat):Int):=by
       rw[hw1,wrap_i64 (by omega) (by omega)];omega
     have hidx:(wn.length+1)*k+j<(setRow k (wn.length+1) ((wn.length+2:Nat):Int) nx0 j).length:=by rw[yK,hnx0l];omega
     refine⟨rfl,a4,n4,c4,λu hu=>(U.mb.var.below hu).load1 fh rfl rfl,((k:Nat):Int),λu hu=>?_,?_⟩
     · have h1:=dR p ts (by omega) u ((hA.below (hBU U)).below hu)
       rw[hlen,<- hkk]at h1
       refine h1.mono ?_
       rintro e w' ⟨v,rfl,rfl,rfl⟩
       exact⟨rfl,Below.refl _ _⟩
     rw[hw2]
     refine⟨⟨⟨by omega,by omega⟩,U.mb.nx.all.isSome hidx⟩,λwq hq=>?_⟩
     have Mq:=U.mb.below hq
     obtain⟨w6x,s6,o6,g6⟩:=Mq.nx.store (P:=prog) fV (i:=(((wn.length+1)*k+j:Nat):Int)) (k:=1) (λ_ _ h=>h) (by rw[Int.toNat_natCast];exact hidx) rfl (v:=vI ((wn.length+2:Nat):Int)) (x:=((wn.length+2:Nat):Int)) sF
     rw[Int.toNat_natCast]at o6
     refine⟨w6x,s6,k-(j+1),by omega,j+1,a4,n4,c4,by omega,by rw[wrap_i64 (by omega) (by omega)];omega,rfl,⟨⟨Mq.var.grown g6 (λex=>U.mb.na k10 ex.symm rfl),o6,Mq.ac.other g6 (λg hg ex=>U.mb.ne g ex hg),U.mb.na,U.mb.nb,U.mb.ne⟩,?_,U.fa,U.fb,?_⟩⟩
     · have h1:=ab U.bel hq U.bel.size
       exact h1.grown g6 h1.size λg hg=>U.fa g hg
     · exact Nat.le_trans U.le (Nat.le_trans hq.size g6.size)
   have hjk:j=k:=by omega
   subst hjk
   have kl:=U.mb.var.lt
   have hidx:(((wn.length+1:Nat):Int)).toNat<D.ac.length:=by rw[Int.toNat_natCast];omega
   refine⟨rfl,b1,m1,e1,U.mb.var.load1 gT rfl rfl,⟨⟨by omega,by omega⟩,U.mb.ac.all.isSome (i:=wn.length+1) (by show wn.length+1<D.ac.length;omega)⟩,?_⟩
   obtain⟨w7,s7,o7,g7⟩:=U.mb.ac.store (P:=prog) kU (i:=((wn.length+1:Nat):Int)) (k:=1) (λ_ _ h=>h) hidx rfl (v:=.bool false) (x:=false) AQ
   rw[Int.toNat_natCast]at o7
   have v7:=U.mb.var.grown g7 (λex=>U.mb.nb k10 ex.symm rfl)
   have x7:=U.mb.nx.other g7 U.mb.ne
   have B7:bW w17 w7:=U.bel.grown g7 U.bel.size λg hg=>U.fb g hg
   have s7':wl.heap.size <=w7.heap.size:=g7.size
   have hac1:(D.ac.set (wn.length+1) false).length=wn.length+2:=by rw[List.length_set];exact hacl
   refine⟨w7,s7,rfl,b1,m1,e1,v7.load1 gT rfl rfl,?_⟩
   intro k95 w95 hk95 hw95
   have hb95:=(hw95▸ah w7 _:bW w7 w95)
   have hsrc:Src AA w95 NoB (some ⟨k95,0,none⟩) 1 [true]:=Src.new1F HB hk95 hw95 AQ
   obtain⟨w96,b3,m3,e3,r96,o96,g96,f96⟩:=dF (ty:=df) gT kU (by decide) (o7.below hb95) (λ_ _ h=>h) (cm:=1) hsrc (by rw[hac1];simp;omega)
   have v96:=(v7.below hb95).grown g96 λex=>U.mb.nb k10 ex.symm rfl
   have x96:=(x7.below hb95).other g96 U.mb.ne
   have s95:=hb95.size
   have hne3:∀g,dV b3=some g->g≠k10:=λg hg ex=>by
     rcases f96 g hg with h1|h1
     · exact U.mb.nb g h1 ex
     · omega
   have fb3:∀g,dV b3=some g->w17.heap.size <=g:=λg hg=>by
     rcases f96 g hg with h1|h1
     · exact U.fb g h1
     · have:=B7.size;omega
   obtain⟨w8,s8,v8,g8⟩:=v96.store EX (i:=3) (v:=.slice b3 m3 e3) rfl (by simp) (by intro c hc;simp[Value.cells]at hc;subst hc;rfl)
   have v8:ai w8 k10 ax (daL a4 n4 c4 b3 m3 e3 (upD j wn)):=by
     have e1:D.k=(j:Int):=by rw[hD];rfl
     have e2:D.st=1:=by rw[hD];rfl
     rw[e1,e2]at v8
     exact v8
   have B96:bW w17 w96:=(ab B7 hb95 B7.size).grown g96 (ab B7 hb95 B7.size).size λg hg=>U.fb g hg
   have B8:bW w17 w8:=B96.grown g8 B96.size λx ex=>by cases ex;omega
   have x8:=x96.put (λg hg ex=>U.mb.na g hg ex) g8
   have o8:=o96.put (λg hg ex=>hne3 g hg ex) g8
   have eup:(⟨D.k,D.st,setRow j (wn.length+1) ((wn.length+2:Nat):Int) nx0 j,D.ac.set (wn.length+1) false++[true]⟩:DA)=upD j wn:=by
     unfold upD
     rw[hnx0,hD];rfl
   have e8n:(upD j wn).nx=setRow j (wn.length+1) ((wn.length+2:Nat):Int) nx0 j:=by rw[<- eup]
   have e8a:(upD j wn).ac=D.ac.set (wn.length+1) false++[true]:=by rw[<- eup]
   obtain⟨w9,s9,s9',g9⟩:=jo (A6b.below B8) rfl a4 n4 c4 b3 m3 e3 (upD j wn)
   have eD:upD j wn=LA ts h itself:=by unfold LA;rw[if_neg (λhc=>hc hk1),if_neg (by rw[hi];simp),<- hwn,<- hkk]
   refine⟨w96,b3,m3,e3,r96,rfl,w8,s8,_,_,a4,n4,c4,b3,m3,e3,lG.load0 (cs:=daL a4 n4 c4 b3 m3 e3 (upD j wn)) v8 rfl,w9,s9,_,_,a4,n4,c4,b3,m3,e3,s9',?_⟩
   rw[<- eD]
   have OO:Es w17.heap.size w8 a4 n4 c4 b3 m3 e3 (upD j wn):=⟨by rw[e8n];exact x8,by rw[e8a];exact o8,λg hg ex=>by
     rcases f96 g ex with h1|h1
     · exact U.mb.ne g hg h1
     · have:=x7.lt g hg;omega,U.fa,fb3⟩
   exact gr.yes ⟨a4,n4,c4,b3,m3,e3,rfl,(OO.put g9 (by omega)).mono hB.size,Below.put (ab hB B8 hB.size) g9 ho6⟩
theorem xZ {h:Hst}(o:h.ok)(hn:h.name.length <=1000000){w:World}(he:Env w){p:Option Addr}{ts:List Txt}(hA:ky w p ts)(htl:ts.length <=511):
   Cf fk #[.pointer p,h.v] w (Ret (gr (kB ts h) (LA ts h true) w)):=by
 apply wW
 intro k3 w3 hk3 hw3 k4 w4 hk4 hw4
 have hb3:=(hw3▸ah w _:bW w w3)
 have hb4:=(hw4▸ah w3 _:bW w3 w4)
 have A3:ai w3 k3 af h.cells:=ai.new hk3 hw3
 have A4:ai w4 k4 ax [vI 0,vI 0,.slice none 0 0,.slice none 0 0]:=ai.new hk4 hw4
 have hB4:=ab hb3 hb4 hb3.size
 have hlt:=A4.lt
 have ho4:w.heap.size <=k4:=by have:=hb3.size;omega
 refine⟨_,bc.load0 (A3.below hb4) (Hst.len o),?_⟩
 refine aB (zW o hn (he.step hB4) (hA.below hB4) htl true) ?_
 intro v w8 hS
 cases hk:kB ts h with
 | false=>
   rw[hk]at hS
   obtain⟨rfl,hb8⟩:=hS
   obtain⟨wx,s1,s2,g1⟩:=jo (A4.below hb8) rfl none 0 0 none 0 0 ⟨0,0,[],[]⟩
   exact⟨_,_,none,0,0,none,0,0,_,rfl,wx,s1,_,_,none,0,0,none,0,0,s2,gr.no (Below.put (ab hB4 hb8 hB4.size) g1 ho4)⟩
 | true=>
   rw[hk]at hS
   obtain⟨a1,n1,c1,b1,m1,e1,rfl,O,hb8⟩:=hS
   obtain⟨wx,s1,s2,g1⟩:=jo (A4.below hb8) rfl a1 n1 c1 b1 m1 e1 (LA ts h true)
   exact⟨_,_,a1,n1,c1,b1,m1,e1,_,rfl,wx,s1,_,_,a1,n1,c1,b1,m1,e1,s2,gr.yes ⟨a1,n1,c1,b1,m1,e1,rfl,(O.put g1 hlt).mono hB4.size,Below.put (ab hB4 hb8 hB4.size) g1 ho4⟩⟩
theorem Ru {ok:Bool}{d:DA}{w:World}{v:Value}{w':World}(h:gr ok d w v w'):∃(err:Int) (D:DA) (a:Option Addr) (n c:Nat) (b:Option Addr) (m e:Nat),v=.tuple #[daV a n c b m e D,vI err]/\Es w.heap.size w' a n c b m e D/\bW w w'/\(ok=true/\err=0/\D=d\/ok=false/\err=181):=by
 unfold gr at h
 cases ok with
 | true=>
   rw[if_pos rfl]at h
   obtain⟨a,n,c,b,m,e,rfl,O,hb⟩:=h
   exact⟨0,d,a,n,c,b,m,e,rfl,O,hb,.inl ⟨rfl,rfl,rfl⟩⟩
 | false=>
   rw[if_neg (by decide)]at h
   obtain⟨rfl,hb⟩:=h
   exact⟨181,⟨0,0,[],[]⟩,none,0,0,none,0,0,rfl,⟨Ow.nil _ _ _ _,Ow.nil _ _ _ _,(λg hg=>by cases hg),bg.none _,bg.none _⟩,hb,.inr ⟨rfl,rfl⟩⟩
def Xb (ts:List Txt)(h:Hst)(only:Bool):DA:=if only=true then chD (ts.length+1) (vT ts h) 0 else LA ts h true
def ofR (ts:List Txt)(c:Cky)(now:Int):Rgn:=
 ⟨Xb ts c.host c.only,jW c.path,decide (now<c.exp) && !c.sec,decide (now<c.exp),decide (now<c.exp),decide (now<c.exp)&&(c.same !=3),decide (now<c.exp)&&(c.same==1)⟩
def RV (ok:Bool)(r:Rgn)(er:Int)(w:World)(v:Value)(w':World):Prop:=bW w w'/\
 if ok=true then ∃x y,v=.tuple #[r.v x y,vI 0]/\RgO w.heap.size w' r x y else v=.tuple #[rg0.v rp0 rp0,vI er]
theorem UC:Whl prog mH 2:=⟨⟨_,_,Iz⟩,by kernel_rfl⟩
theorem UD:Whl prog va 3:=⟨⟨_,_,IA⟩,by kernel_rfl⟩
set_option maxHeartbeats 1000000 in
theorem zk {c:Cky}(o:c.ok)(hn:c.host.name.length <=1000000)(hp:c.path.length <=60000){w:World}(he:Env w){p:Option Addr}{ts:List Txt}(hA:ky w p ts)(htl:ts.length <=511)(now:Int):
   Cf qD #[.pointer p,c.v,vI now] w (Ret (RV (kB ts c.host) (ofR ts c now) 181 w)):=by
 apply Gp
 intro k4 w4 hk4 hw4 k6 w6 hk6 hw6
 have b4:=(hw4▸ah w _:bW w w4)
 have b6:=(hw6▸ah w4 _:bW w4 w6)
 have A4:ai w4 k4 br c.cells:=ai.new hk4 hw4
 have A6:ai w6 k6 aK (rg0.cells rp0 rp0):=ai.new hk6 hw6
 have B6:=ab b4 b6 b4.size
 have A46:=A4.below b6
 have s4:=b4.size
 have s6:=B6.size
 have l6:=A6.lt
 refine⟨λv8 W=>W=w6/\v8=.func (.func (if c.only=true then iH else fk)) #[] #[],⟨rfl,_,A46.load1 dp rfl (i:=20) (tO o 0),ae.of (λh=>⟨rfl,by rw[if_pos h]⟩) (λh=>⟨rfl,by rw[if_neg (by rw[h];decide)]⟩)⟩,λv8=>aN.of ?_ _⟩
 rintro wj ⟨rfl,rfl⟩
 refine⟨rfl,_,bc.load A46 (i:=2) (us:=c.host.cells) (Hst.len o) (λj hj=>Qi o hj),?_⟩
 have hset:Cf (if c.only=true then iH else fk) #[.pointer p,c.host.v] wj (Ret (gr (kB ts c.host) (Xb ts c.host c.only) wj)):=by
   unfold Xb
   by_cases h:c.only=true
   · rw[if_pos h,if_pos h];exact DC o hn (he.step B6) (hA.below B6) htl
   · rw[if_neg h,if_neg h];exact xZ o hn (he.step B6) (hA.below B6) htl
 have hcal:kW prog (if c.only=true then iH else fk)=true:=by
   by_cases h:c.only=true
   · rw[if_pos h];kernel_rfl
   · rw[if_neg h];kernel_rfl
 refine GV.of hcal (aB hset ?_)
 intro v w21 hv
 obtain⟨err,D,a,n,cc,b,m,e,rfl,O,b21,hcase⟩:=Ru hv
 refine⟨_,_,a,n,cc,b,m,e,err,rfl,?_⟩
 intro k9 w9 hk9 hw9
 have B21:=ab B6 b21 B6.size
 have b9:=(hw9▸ah w21 _:bW w21 w9)
 have A9:ai w9 k9 ax [vI 0,vI 0,.slice none 0 0,.slice none 0 0]:=ai.new hk9 hw9
 obtain⟨wx,q1,v1,g1⟩:=lG.store0 (P:=prog) (cs:=daL a n cc b m e D) rfl (rW _ _ _ _ _ _ _) A9 rfl
 have bxq:bW w21 wx:=Below.put b9 g1 (by omega)
 have Bx:=ab B21 bxq B21.size
 have b6x:=ab b21 bxq b21.size
 have A4x:=A46.below b6x
 refine⟨wx,q1,rfl,_,A4x.load1 aF rfl (i:=21) (tO o 1),?_⟩
 refine aB (PN c.path hp wx) ?_
 rintro _ w27 ⟨a1,n1,c1,b1,m1,e1,rfl,O1,b27⟩
 refine⟨_,_,a1,n1,c1,b1,m1,e1,_,rfl,?_⟩
 intro k11 w11 hk11 hw11
 have B27:=ab Bx b27 Bx.size
 have b11:=(hw11▸ah w27 _:bW w27 w11)
 have A11:ai w11 k11 ax [vI 0,vI 0,.slice none 0 0,.slice none 0 0]:=ai.new hk11 hw11
 obtain⟨wy,q2,v2,g2⟩:=lG.store0 (P:=prog) (cs:=daL a1 n1 c1 b1 m1 e1 (jW c.path)) rfl (rW _ _ _ _ _ _ _) A11 rfl
 have by_:bW w27 wy:=Below.put b11 g2 (by omega)
 have bxy:=ab b27 by_ b27.size
 have By:=ab Bx bxy Bx.size
 refine⟨wy,q2,_,_,a,n,cc,b,m,e,lG.load0 (cs:=daL a n cc b m e D) (v1.below bxy) rfl,_,_,a1,n1,c1,b1,m1,e1,lG.load0 (cs:=daL a1 n1 c1 b1 m1 e1 (jW c.path)) v2 rfl,?_⟩
 intro k13 w13 hk13 hw13
 have b13:=(hw13▸ah wy _:bW wy w13)
 have A13:ai w13 k13 aK (rg0.cells rp0 rp0):=ai.new hk13 hw13
 have SH:DaS wy a n cc b m e D:=(O.das.below bxq).below bxy
 have SP:DaS wy a1 n1 c1 b1 m1 e1 (jW c.path):=O1.das.below by_
 obtain⟨wz,q3,v3,g3⟩:=dk.store0 (P:=prog) (cs:=(⟨D,jW c.path,false,false,false,false,false⟩:Rgn).cells ⟨a,n,cc,b,m,e⟩ ⟨a1,n1,c1,b1,m1,e1⟩) rfl (Rgn.one _ _ _) A13 rfl
 have bz:bW wy wz:=Below.put b13 g3 (by omega)
 have byz:=ab b6x bxy b6x.size
 have A4z:=(A46.below byz).below bz
 refine⟨wz,q3,λW=>bW wy W/\ai W k13 aK ((⟨D,jW c.path,decide (now<c.exp) && !c.sec,decide (now<c.exp),decide (now<c.exp),decide (now<c.exp)&&(c.same !=3),decide (now<c.exp)&&(c.same==1)⟩:Rgn).cells ⟨a,n,cc,b,m,e⟩ ⟨a1,n1,c1,b1,m1,e1⟩),⟨rfl,_,A4z.load1 xh rfl (i:=25) (tO o 5),ae.of (λh=>?_) (λh=>?_)⟩,aN.of ?_ _⟩
 · obtain⟨wa,r1,u1,h1⟩:=UC.store (P:=prog) (cs:=[.bool (!c.sec),.bool true]) rfl (aJ rfl (aJ rfl gX)) v3 (i:=8) (show 8+2 <=13 by decide)
   have ba:=Below.put bz h1 (by omega)
   have ne4:k4≠k13:=by have:=A46.lt;have:=byz.size;omega
   have A4a:=A4z.grown h1 (mc ne4)
   obtain⟨wb,r2,u2,h2⟩:=UD.store (P:=prog) (cs:=[.bool true,.bool (c.same !=3),.bool (c.same==1)]) rfl (aJ rfl (aJ rfl (aJ rfl gX))) u1 (i:=10) (show 10+3 <=13 by decide)
   refine⟨rfl,_,A4z.load1 dp rfl (i:=22) (tO o 2),rfl,wa,r1,rfl,_,A4a.load1 cD rfl (i:=24) (tO o 4),rfl,_,A4a.load1 cD rfl (i:=24) (tO o 4),rfl,wb,r2,Below.put ba h2 (by omega),?_⟩
   rw[h]
   exact u2
 · refine⟨bz,?_⟩
   rw[h]
   exact v3
 rintro wj2 ⟨bj,Aj⟩
 have Bj:=ab By bj By.size
 refine⟨_,dk.load0 Aj rfl,?_⟩
 have herr:i64.wrap err=err:=by rcases hcase with⟨_,h,_⟩|⟨_,h⟩ <;> rw[h] <;> rfl
 refine aB (Rw _ _ _ err 0 herr rfl wj2) ?_
 rintro _ w53 ⟨b53,rfl⟩
 have B53:=ab Bj b53 Bj.size
 have A6z:=(A6.below (ab byz bj byz.size)).below b53
 rcases hcase with⟨hk,rfl,rfl⟩|⟨hk,rfl⟩
 · rw[if_pos (by rfl)]
   obtain⟨wq,r3,u3,h3⟩:=dk.store0 (P:=prog) (cs:=(ofR ts c now).cells ⟨a,n,cc,b,m,e⟩ ⟨a1,n1,c1,b1,m1,e1⟩) rfl (Rgn.one _ _ _) A6z rfl
   refine⟨_,_,rfl,wq,r3,_,ai.res (dk.load0 u3 rfl),Below.put B53 h3 (by omega),?_⟩
   rw[if_pos hk]
   have bq:bW w53 w53:=Below.refl _ _
   have k6a:∀g,dV a=some g->g≠k6:=λg hg=>by have:=O.fa g hg;omega
   refine⟨⟨a,n,cc,b,m,e⟩,⟨a1,n1,c1,b1,m1,e1⟩,rfl,?_,?_⟩
   · exact((((O.below bxq).below bxy).below bj).below b53 |>.put h3 l6).mono B6.size
   · exact(((O1.below by_).below bj).below b53 |>.put h3 (by have:=b6x.size;omega)).mono Bx.size
 · rw[if_neg (by decide)]
   obtain⟨wq,r3,u3,h3⟩:=dk.store0 (P:=prog) (cs:=rg0.cells rp0 rp0) rfl (Rgn.one _ _ _) A6z rfl
   refine⟨_,_,rfl,wq,r3,_,ai.res (dk.load0 u3 rfl),Below.put B53 h3 (by omega),?_⟩
   rw[if_neg (by rw[hk];decide)];rfl
def nmL:List (List UInt8):=[[],[78,111,110,101],[76,97,120],[83,116,114,105,99,116]]
def nmV:Value:=.agg (nmL.map λs=>vS s).toArray
def DH (v:List UInt8):Nat->Int
 | 0=>0
 | k+1=>if eH (nmL[k]?.getD [])=eH v then(k:Int)else DH v k
theorem L9 (v:List UInt8):DH v 4=Rs v:=by
 have e0:eH (nmL[0]?.getD [])=[]:=rfl
 have e1:eH (nmL[1]?.getD [])=[110,111,110,101]:=by decide
 have e2:eH (nmL[2]?.getD [])=[108,97,120]:=by decide
 have e3:eH (nmL[3]?.getD [])=[115,116,114,105,99,116]:=by decide
 unfold DH DH DH DH DH Rs
 rw[e0,e1,e2,e3]
 generalize eH v=x
 by_cases h1:x=[110,111,110,101]
 · subst h1;rfl
 · by_cases h2:x=[108,97,120]
   · subst h2;rfl
   · by_cases h3:x=[115,116,114,105,99,116]
     · subst h3;rfl
     · rw[if_neg (Ne.symm h3),if_neg (Ne.symm h2),if_neg (Ne.symm h1),if_neg h1,if_neg h2,if_neg h3]
       split <;> rfl
def nameOf (l:List UInt8):List UInt8×List UInt8:=if N6 l then(G6 l,Bn l)else([],G6 l)
def GC (h:Hdr)(x:List UInt8):Hdr:=if(Bn x).length <=1024 then Fp h (eH (G6 x)) (Bn x)else h
def nt (s:List UInt8):Hdr×Int:=
 if s.any yf=true then(ED,81)
 else if(nameOf ((dz 59 [] s).headD [])).1++(nameOf ((dz 59 [] s).headD [])).2=[]then(ED,82)
 else if 4096<(nameOf ((dz 59 [] s).headD [])).1.length+(nameOf ((dz 59 [] s).headD [])).2.length then(ED,83)
 else(((dz 59 [] s).drop 1).foldl GC { ED with name:=(nameOf ((dz 59 [] s).headD [])).1,value:=(nameOf ((dz 59 [] s).headD [])).2 },0)
theorem G7 (s:List UInt8):(G6 s).length <=s.length:=Nat.le_trans (yM _ _) (nY _ _)
theorem G5 (s:List UInt8):(Bn s).length <=s.length:=by
 have h1:=yM JN ((s.dropWhile (· !=61)).drop 1)
 have h2:=(List.dropWhile_sublist (· !=(61:UInt8)) (l:=s)).length_le
 rw[List.length_drop]at h1
 unfold Bn trimB;omega
theorem Tr (h:Hdr):∀c∈h.v.cells.toList,c.oneCell'=true:=by
 intro c hc
 simp only[Hdr.v,Value.cells,Hdr.cells,List.mem_cons,List.mem_nil_iff,or_false]at hc
 rcases hc with rfl|rfl|rfl|rfl|rfl|rfl|rfl|rfl|rfl|rfl|rfl <;> rfl
theorem HL (h:Hdr){w:World}{k:Nat}{vs:List Value}(ha:ai w k az vs)(hl:vs.length=11):
   ∃wx,(Instr.storeAt az (.pointer (some ⟨k,0,none⟩)) h.v).run prog w=.ok () wx/\ai wx k az h.cells/\w.grownBy wx (some k):=by
 obtain⟨wx,hs,h2,hg⟩:=ha.store (P:=prog) qV (i:=0) (v:=h.v) rfl (by omega) (Tr h)
 refine⟨wx,hs,?_,hg⟩
 rw[List.take_zero,List.nil_append,List.drop_eq_nil_of_le (by omega),List.append_nil]at h2
 exact h2
theorem mw (h:Hdr){w:World}{k:Nat}(ha:ai w k az h.cells):(Instr.loadAt az (.pointer (some ⟨k,0,none⟩))).run prog w=.ok h.v w:=by
 obtain⟨ti,hti,hsz,_,_⟩:=qV.info
 cases hu:prog.underlying az with
 | none=>
           have:(prog.underlying az).map Et=some true:=by kernel_rfl
           rw[hu]at this;cases this
 | some d=>
   have:(prog.underlying az).map Et=some true:=by kernel_rfl
   rw[hu]at this
   simp only[Option.map_some,Option.some.injEq]at this
   exact ha.loadA hu this hti (us:=h.cells) (i:=0) (by rw[hsz];rfl) (λj hj=>by rw[Nat.zero_add])
theorem FJ (h:Hdr){w w':World}{k2:Nat}{vs:List Value}(h2:ai w' k2 az vs)(hl:vs.length=11)(hb:bW w w')(hk:w.heap.size <=k2){e:Int}{K:Value->World->Prop}
   (hK:∀wx,bW w wx->K (.tuple #[h.v,vI e]) wx):
   ∃(wx:World),(Instr.storeAt az (.pointer (some ⟨k2,0,none⟩)) h.v).run prog w'=.ok () wx/\
     ∃(s0:List UInt8) (s1:List UInt8) (s2:List UInt8) (s3:List UInt8) (b4:Bool) (n5:Int) (b6:Bool) (n7:Int) (b8:Bool) (b9:Bool) (n10:Int),
       (aV az (.pointer (some ⟨k2,0,none⟩))).run prog wx=.ok (.agg #[vS s0,vS s1,vS s2,vS s3,.bool b4,vI n5,.bool b6,vI n7,.bool b8,.bool b9,vI n10]) wx/\
       K (.tuple #[.agg #[vS s0,vS s1,vS s2,vS s3,.bool b4,vI n5,.bool b6,vI n7,.bool b8,.bool b9,vI n10],vI e]) wx:=by
 obtain⟨wx,hs,h3,hg⟩:=HL h h2 hl
 exact⟨wx,hs,h.name,h.value,h.domain,h.path,h.hasE,h.exp,h.hasA,h.age,h.sec,h.http,h.same,ai.res (mw h h3),hK wx (hb.grown hg hb.size λx e=>by cases e;exact hk)⟩
theorem ng (w:World):Cf ja #[] w (Ret λv w'=>v=nmV/\bW w w'):=by
 apply Ah
 intro k w1 hk hw
 have hB:=(hw▸ah w _:bW w w1)
 have ha:ai w1 k cY (List.replicate 4 (vS [])):=ai.new hk hw
 obtain⟨wx,hs,h2,hg⟩:=ha.store (P:=prog) uA (i:=0) (v:=nmV) rfl (by decide) (by
   intro c hc
   simp only[nmV,Value.cells]at hc
   obtain⟨s,_,rfl⟩:=List.mem_map.1 (by simpa using hc)
   rfl)
 have h3:ai wx k cY (nmL.map λs=>vS s):=h2
 obtain⟨ti,hti,hsz,_,_⟩:=uA.info
 refine⟨wx,hs,_,_,_,_,ai.res (h3.loadA En rfl hti (us:=nmL.map λs=>vS s) (i:=0) (by rw[hsz];rfl) (λj hj=>by rw[Nat.zero_add])),rfl,hB.grown hg hB.size λx e=>by cases e;omega⟩
theorem KQ (w:World):∀k:Nat,k<4->(Instr.index cY nmV (vI (k:Int))).run prog w=.ok (vS (nmL[k]?.getD [])) w
 | 0,_=>by kernel_rfl
 | 1,_=>by kernel_rfl
 | 2,_=>by kernel_rfl
 | 3,_=>by kernel_rfl
 | n+4,h=>by omega
def Kk (k:Nat)(h:Hdr)(w:World)(v:Value)(w':World):Prop:=v=.tuple #[]/\ai w' k az h.cells/\w.grownBy w' (some k)
theorem ir {k:Nat}{h:Hdr}{w w':World}(ha:ai w' k az h.cells)(hg:w.grownBy w' (some k)):Kk k h w (.tuple #[]) w':=⟨rfl,ha,hg⟩
theorem vt (k:Nat)(h:Hdr)(key value:List UInt8)(hl:value.length <=100000)(w:World)(ha:ai w k az h.cells):
   Cf jJ #[.pointer (some ⟨k,0,none⟩),vS key,vS value] w (Ret (Kk k (Fp h key value) w)):=by
 apply ui
 simp only[Bg]
 have h0:Option.isSome (some (⟨k,0,none⟩:Addr))=true:=rfl
 have g0:=LU w (some k)
 have bb:∀b:Bool,(Value.bool b).cells= #[Value.bool b]:=λ_=>rfl
 refine ae.of (λh1=>?_) (λh1=>?_)
 · rw[beq_iff_eq]at h1
   refine aB (Dv value (by omega) w) ?_
   rintro _ w1 ⟨rfl,hb1⟩
   have ha1:=ha.below hb1
   have hg1:=dK hb1 (some k)
   unfold Fp
   rw[if_pos h1]
   unfold Ny
   by_cases hc:Hi (Ek value)
   · rw[if_pos hc,if_pos hc]
     refine⟨_,_,rfl,ae.yes rfl ⟨h0,h0,?_⟩⟩
     obtain⟨w2,hs2,ha2,hg2⟩:=ha1.put (P:=prog) kU (i:=4) (v:=.bool true) (by simp[Hdr.cells]) rfl rfl
     refine⟨w2,hs2,h0,h0,?_⟩
     obtain⟨w3,hs3,ha3,hg3⟩:=ha2.put (P:=prog) Lk (i:=5) (v:=vI (Nx (Ek value))) (by simp[Hdr.cells]) rfl rfl
     exact⟨w3,hs3,ir ha3 (bZ (bZ hg1 hg2) hg3)⟩
   · rw[if_neg hc,if_neg hc]
     exact⟨_,_,rfl,ae.no rfl (ir ha1 hg1)⟩
 rw[beq_eq_false_iff_ne]at h1
 refine ae.of (λh2=>?_) (λh2=>?_)
 · rw[beq_iff_eq]at h2
   refine aB (FM value (by omega) w) ?_
   rintro _ w1 ⟨rfl,hb1⟩
   have ha1:=ha.below hb1
   have hg1:=dK hb1 (some k)
   unfold Fp
   rw[if_neg h1,if_pos h2]
   unfold VY
   cases UL value with
   | none=>exact⟨_,_,rfl,ae.no rfl (ir ha1 hg1)⟩
   | some n=>
     refine⟨_,_,rfl,ae.yes rfl ⟨h0,h0,?_⟩⟩
     obtain⟨w2,hs2,ha2,hg2⟩:=ha1.put (P:=prog) kU (i:=6) (v:=.bool true) (by simp[Hdr.cells]) rfl rfl
     refine⟨w2,hs2,h0,h0,?_⟩
     obtain⟨w3,hs3,ha3,hg3⟩:=ha2.put (P:=prog) Lk (i:=7) (v:=vI n) (by simp[Hdr.cells]) rfl rfl
     exact⟨w3,hs3,ir ha3 (bZ (bZ hg1 hg2) hg3)⟩
 rw[beq_eq_false_iff_ne]at h2
 refine ae.of (λh3=>?_) (λh3=>?_)
 · rw[beq_iff_eq]at h3
   refine(Tryz.strings_TrimPrefix (mkS value) (mkS [46]) w).mono ?_
   rintro _ _ ⟨rfl,rfl⟩
   have e:Lib.trimPrefix (mkS value).data.toList (mkS [46]).data.toList=if value.head?=some 46 then value.drop 1 else value:=(tZ value 46).2
   rw[e]
   refine⟨(if value.head?=some 46 then value.drop 1 else value),rfl,?_⟩
   refine aB (eU _ (by split <;> (try rw[List.length_drop]) <;> omega) _) ?_
   rintro _ w1 ⟨rfl,hb1⟩
   refine⟨_,rfl,h0,h0,?_⟩
   have ha1:=ha.below hb1
   obtain⟨w2,hs2,ha2,hg2⟩:=ha1.put (P:=prog) eG (i:=2) (v:=vS (eH (if value.head?=some 46 then value.drop 1 else value))) (by simp[Hdr.cells]) rfl rfl
   refine⟨w2,hs2,ir ?_ (bZ (dK hb1 (some k)) hg2)⟩
   unfold Fp
   rw[if_neg h1,if_neg h2,if_pos h3];exact ha2
 rw[beq_eq_false_iff_ne]at h3
 refine ae.of (λh4=>?_) (λh4=>?_)
 · rw[beq_iff_eq]at h4
   refine⟨h0,h0,?_⟩
   obtain⟨w2,hs2,ha2,hg2⟩:=ha.put (P:=prog) eG (i:=3) (v:=vS []) (by simp[Hdr.cells]) rfl rfl
   refine⟨w2,hs2,?_⟩
   refine(Tryz.strings_HasPrefix (mkS value) (mkS [47]) w2).mono ?_
   rintro _ _ ⟨rfl,rfl⟩
   have e:Lib.hasPrefix (mkS value).data.toList (mkS [47]).data.toList=decide (value.head?=some 47):=(tZ value 47).1
   rw[e]
   refine⟨_,rfl,?_⟩
   unfold Fp
   rw[if_neg h1,if_neg h2,if_neg h3,if_pos h4]
   refine ae.of (λh5=>?_) (λh5=>?_) <;> simp only[dTx,dFx]at h5
   · refine⟨h0,h0,?_⟩
     obtain⟨w3,hs3,ha3,hg3⟩:=ha2.put (P:=prog) eG (i:=3) (v:=vS value) (by simp[Hdr.cells]) rfl rfl
     refine⟨w3,hs3,ir ?_ (bZ hg2 hg3)⟩
     rw[if_pos h5];exact ha3
   · rw[if_neg h5];exact ir ha2 hg2
 rw[beq_eq_false_iff_ne]at h4
 refine ae.of (λh5=>?_) (λh5=>?_)
 · rw[beq_iff_eq]at h5
   refine⟨h0,h0,?_⟩
   obtain⟨w2,hs2,ha2,hg2⟩:=ha.put (P:=prog) kU (i:=8) (v:=.bool true) (by simp[Hdr.cells]) rfl rfl
   refine⟨w2,hs2,ir ?_ hg2⟩
   unfold Fp
   rw[if_neg h1,if_neg h2,if_neg h3,if_neg h4,if_pos h5];exact ha2
 rw[beq_eq_false_iff_ne]at h5
 refine ae.of (λh6=>?_) (λh6=>?_)
 · rw[beq_iff_eq]at h6
   refine⟨h0,h0,?_⟩
   obtain⟨w2,hs2,ha2,hg2⟩:=ha.put (P:=prog) kU (i:=9) (v:=.bool true) (by simp[Hdr.cells]) rfl rfl
   refine⟨w2,hs2,ir ?_ hg2⟩
   unfold Fp
   rw[if_neg h1,if_neg h2,if_neg h3,if_neg h4,if_neg h5,if_pos h6];exact ha2
 rw[beq_eq_false_iff_ne]at h6
 unfold Fp
 rw[if_neg h1,if_neg h2,if_neg h3,if_neg h4,if_neg h5,if_neg h6]
 refine ae.of (λh7=>?_) (λh7=>?_)
 · rw[beq_iff_eq]at h7
   rw[if_pos h7]
   refine⟨h0,h0,?_⟩
   obtain⟨w2,hs2,ha2,hg2⟩:=ha.put (P:=prog) fV (i:=10) (v:=vI 0) (by simp[Hdr.cells]) rfl rfl
   refine⟨w2,hs2,?_⟩
   refine aB (ng w2) ?_
   rintro _ w3 ⟨rfl,hb3⟩
   refine⟨_,_,_,_,rfl,?_⟩
   refine⟨λm i w'=>∃j:Nat,j <=4/\i=(j:Int)/\m=4-j/\ai w' k az ({ h with same:=DH value j } :Hdr).cells/\w.grownBy w' (some k),
     ⟨_,0,by omega,rfl,rfl,ha2.below hb3,bZ hg2 (dK hb3 _)⟩,?_⟩
   intro m i
   refine aN.of ?_ _
   rintro w4 ⟨j,hj,rfl,rfl,ha4,hg4⟩
   refine ae.of (λh8=>?_) (λh8=>?_) <;> simp only[dTx,dFx]at h8
   · have hj4:j<4:=by omega
     have ew:i64.wrap ((j:Int)+1)=((j+1:Nat):Int):=by rw[wrap_i64 (by omega) (by omega)];omega
     try dsimp only
     rw[ew]
     have hnl:(nmL[j]?.getD []).length <=6:=by
       have:∀j,j<4->(nmL[j]?.getD []).length <=6:=by decide
       exact this j hj4
     refine⟨_,KQ w4 j hj4,?_⟩
     refine aB (qM _ value (by omega) (by omega) w4) ?_
     rintro _ w5 ⟨rfl,hb5⟩
     have ha5:=ha4.below hb5
     have hg5:=bZ hg4 (dK hb5 (some k))
     refine⟨_,rfl,?_⟩
     have el:DH value (j+1)=if eH (nmL[j]?.getD [])=eH value then(j:Int)else DH value j:=rfl
     refine ae.of (λh9=>?_) (λh9=>?_)
     · rw[beq_iff_eq]at h9
       rw[if_pos h9]at el
       refine⟨h0,h0,?_⟩
       obtain⟨w6,hs6,ha6,hg6⟩:=ha5.put (P:=prog) fV (i:=10) (v:=vI (j:Int)) (by simp[Hdr.cells]) rfl rfl
       refine⟨w6,hs6,4-(j+1),by omega,j+1,by omega,rfl,rfl,?_,bZ hg5 hg6⟩
       rw[el];exact ha6
     · rw[beq_eq_false_iff_ne]at h9
       rw[if_neg h9]at el
       refine⟨4-(j+1),by omega,j+1,by omega,rfl,rfl,?_,hg5⟩
       rw[el];exact ha5
   · have:j=4:=by omega
     subst this
     rw[L9]at ha4
     exact ir ha4 hg4
 · rw[beq_eq_false_iff_ne]at h7
   rw[if_neg h7]
   exact ir ha g0
def GX (s:List UInt8)(w:World)(v:Value)(w':World):Prop:=v=.tuple #[(nt s).1.v,vI (nt s).2]/\bW w w'
theorem JE (s:List UInt8):(dz 59 [] s).length≠0/\∀h:0<(dz 59 [] s).length,(dz 59 [] s)[0]=(dz 59 [] s).headD []:=by
 have h:=oF 59 s []
 cases hc:dz 59 [] s with
 | nil=>exact absurd hc h
 | cons x l=>exact⟨by simp,λ_=>rfl⟩
theorem HZ {w:World}{A:Bl}{a:Option Addr}{n c:Nat}{xs:List (List UInt8)}(h:Sl tS w A a n c xs){i:Nat}(hi:i<xs.length):(Instr.loadAt ak (.pointer (am a (i:Int) 1))).run prog w=.ok (.string (mkS xs[i])) w:=by
 obtain⟨v,hv,hrep⟩:=h.load1 (i:=(i:Int)) aF rfl rfl (by simpa using hi)
 obtain⟨rfl,-⟩:=CU hrep
 simpa using hv
theorem sr (s:List UInt8)(hs:s.length <=2000000000)(w:World)(he:Env w):Cf kY #[vS s] w (Ret (GX s w)):=by
 apply Af
 intro k2 w2 hk2 hw2
 have hB2:=(hw2▸ah w _:bW w w2)
 have ha2:ai w2 k2 az ED.cells:=ai.new hk2 hw2
 have hk2w:w.heap.size <=k2:=by omega
 have hs2:w2.heap.size=w.heap.size+1:=by rw[hw2];simp
 refine aB (xX s (by omega) w2) ?_
 rintro _ w3 ⟨rfl,hb3⟩
 have hB3:=ab hB2 hb3 hB2.size
 have ha3:=ha2.below hb3
 refine⟨_,rfl,?_⟩
 have post:∀{h:Hdr} {e:Int},nt s=(h,e)->∀wx,bW w wx->GX s w (.tuple #[h.v,vI e]) wx:=λhp wx hb=>⟨by rw[hp],hb⟩
 refine ae.of (λh1=>?_) (λh1=>?_)
 · exact FJ ED ha3 rfl hB3 hk2w (post (by unfold nt;rw[if_pos h1]))
 have h1': ¬ s.any yf=true:=by rw[h1];decide
 refine aB (dQ s 59 (by omega) w3 (he.step hB3)) ?_
 rintro _ w4 ⟨a,n,c,rfl,ho4,hf4,hb4⟩
 have hB4:=ab hB3 hb4 hB3.size
 have ha4:=ha3.below hb4
 refine⟨_,_,_,rfl,?_⟩
 intro k5 w5 hk5 hw5
 have hb5:=(hw5▸ah w4 _:bW w4 w5)
 have hB5:=ab hB4 hb5 hB4.size
 have ha5:=ha4.below hb5
 have hh5:ai w5 k5 az ED.cells:=ai.new hk5 hw5
 have ho5:=ho4.below hb5
 have hlt2:=ha4.lt
 have hne:k2≠k5:=by omega
 have hk5w:w.heap.size <=k5:=by have:=hB4.size;omega
 have hog:∀g,dV a=some g->g≠k5:=λg hg e=>by have:=ho4.lt g hg;omega
 have hn:=ho5.len
 obtain⟨hl0,hhead⟩:=JE s
 have hlens:∀x∈dz 59 [] s,x.length <=s.length:=λx hx=>by simpa using jE 59 s [] x hx
 have hpar:nt s=if(nameOf ((dz 59 [] s).headD [])).1++(nameOf ((dz 59 [] s).headD [])).2=[]then(ED,82)
   else if 4096<(nameOf ((dz 59 [] s).headD [])).1.length+(nameOf ((dz 59 [] s).headD [])).2.length then(ED,83)
   else(((dz 59 [] s).drop 1).foldl GC { ED with name:=(nameOf ((dz 59 [] s).headD [])).1,value:=(nameOf ((dz 59 [] s).headD [])).2 },0):=by
   unfold nt;rw[if_neg h1']
 have hcl:=dZ 59 s []
 generalize dz 59 [] s=L at*
 have hl1:0<L.length:=by omega
 subst hn
 have l0:=HZ ho5.all hl1
 rw[hhead hl1]at l0
 have hx0:=hlens _ (List.getElem_mem hl1)
 rw[hhead hl1]at hx0
 generalize L.headD []=x0 at*
 refine⟨⟨⟨by decide,by omega⟩,ho5.all.isSome hl1⟩,x0,l0,?_⟩
 refine aB (uw x0 (by omega) w5 (he.step hB5)) ?_
 rintro _ w6 ⟨rfl,hb6⟩
 have hB6:=ab hB5 hb6 hB5.size
 refine⟨_,_,_,rfl,?_⟩
 have hp1:=G7 x0
 have hp2:=G5 x0
 refine⟨λa b w'=>w'=w6/\a=(nameOf x0).1/\b=(nameOf x0).2,?_,?_⟩
 · unfold nameOf
   cases N6 x0
   · exact ae.yes rfl ⟨rfl,rfl,rfl⟩
   · exact ae.no rfl ⟨rfl,rfl,rfl⟩
 intro nm vl
 refine aN.of ?_ _
 rintro w6' ⟨hw6,hnm,hvl⟩
 subst hw6
 have hnl:nm.length <=s.length/\vl.length <=s.length:=by
   rw[hnm,hvl];unfold nameOf
   split
   · exact⟨by simp only;omega,by simp only;omega⟩
   · exact⟨by simp,by simp only;omega⟩
 rw[<- hnm,<- hvl]at hpar
 refine⟨fits (by omega),?_⟩
 rintro _ rfl
 have ha6:=ha5.below hb6
 have hh6:=hh5.below hb6
 have ho6:=ho5.below hb6
 refine ae.of (λh2=>?_) (λh2=>?_)
 · rw[beq_iff_eq]at h2
   rw[if_pos h2]at hpar
   exact FJ ED ha6 rfl hB6 hk2w (post hpar)
 rw[beq_eq_false_iff_ne]at h2
 rw[if_neg h2]at hpar
 rw[wrap_i64 (by omega) (by omega)]
 refine ae.of (λh3=>?_) (λh3=>?_) <;> simp only[gt_iff_lt,dTx,dFx]at h3
 · rw[if_pos (by omega)]at hpar
   exact FJ ED ha6 rfl hB6 hk2w (post hpar)
 rw[if_neg (by omega)]at hpar
 refine⟨rfl,?_⟩
 obtain⟨w7,hs7,hh7,hg7⟩:=hh6.put (P:=prog) eG (i:=0) (v:=vS nm) (by simp[Hdr.cells]) rfl rfl
 refine⟨w7,hs7,rfl,?_⟩
 obtain⟨w8,hs8,hh8,hg8⟩:=hh7.put (P:=prog) eG (i:=1) (v:=vS vl) (by simp[Hdr.cells]) rfl rfl
 have hgg:=bZ hg7 hg8
 have hh8':ai w8 k5 az ({ ED with name:=nm,value:=vl } :Hdr).cells:=hh8
 have hk5r:∀x,some k5=some x->w.heap.size <=x:=λx e=>by cases e;exact hk5w
 refine⟨w8,hs8,⟨by decide,by omega⟩,?_⟩
 have keepO:∀{u u':World},Ow tS ak u NoB a L.length c L->u.grownBy u' (some k5)->Ow tS ak u' NoB a L.length c L:=λho hg=>ho.keep (fQ hg λb hb e=>by
   rcases hb with hb|hb
   · exact hb
   · exact hog b hb.symm (Option.some.inj e))
 have e1:Int.toNat (1:Int)=1:=rfl
 rw[e1]
 refine⟨λm i w'=>∃j:Nat,j <=(L.drop 1).length/\i=(j:Int)/\m=(L.drop 1).length-j/\ai w' k5 az (((L.drop 1).take j).foldl GC { ED with name:=nm,value:=vl }).cells/\
     ai w' k2 az ED.cells/\Ow tS ak w' NoB a L.length c L/\bW w w',
   ⟨_,0,by omega,rfl,rfl,hh8',ha6.grown hgg (λe=>hne (Option.some.inj e)),keepO ho6 hgg,hB6.grown hgg hB6.size hk5r⟩,?_⟩
 intro m i
 refine aN.of ?_ _
 rintro w9 ⟨j,hj,rfl,rfl,hh9,ha9,ho9,hB9⟩
 have hdl:(L.drop 1).length=L.length-1:=List.length_drop ..
 refine ae.of (λh4=>?_) (λh4=>?_) <;> simp only[dTx,dFx]at h4
 · have hjl:j<(L.drop 1).length:=by omega
   have hsl:=ho9.all.from 1 hl1 (k:=1) rfl
   have ew:i64.wrap ((j:Int)+1)=((j+1:Nat):Int):=by rw[wrap_i64 (by omega) (by omega)];omega
   try dsimp only
   rw[ew]
   have hnext:((L.drop 1).take (j+1)).foldl GC { ED with name:=nm,value:=vl } =GC (((L.drop 1).take j).foldl GC { ED with name:=nm,value:=vl }) (L.drop 1)[j]:=by
     rw[List.take_succ_eq_append_getElem hjl,List.foldl_append];rfl
   have hxl:=hlens _ (List.mem_of_mem_drop (List.getElem_mem hjl))
   refine⟨⟨⟨by omega,h4⟩,hsl.isSome hjl⟩,_,HZ hsl hjl,?_⟩
   generalize (L.drop 1)[j]=x at*
   generalize ((L.drop 1).take j).foldl GC { ED with name:=nm,value:=vl } =H at*
   have hq1:=G7 x
   have hq2:=G5 x
   refine aB (uw x (by omega) w9 (he.step hB9)) ?_
   rintro _ w10 ⟨rfl,hb10⟩
   have hB10:=ab hB9 hb10 hB9.size
   refine⟨_,_,_,rfl,?_⟩
   refine ae.of (λh5=>?_) (λh5=>?_) <;> simp only[dTx,dFx]at h5
   · refine aB (eU _ (by omega) w10) ?_
     rintro _ w11 ⟨rfl,hb11⟩
     have hB11:=ab hB10 hb11 hB10.size
     refine⟨_,rfl,?_⟩
     refine aB (vt k5 H _ (Bn x) (by omega) w11 ((hh9.below hb10).below hb11)) ?_
     rintro _ w12 ⟨rfl,hh12,hg12⟩
     refine⟨rfl,(L.drop 1).length-(j+1),by omega,j+1,by omega,rfl,rfl,?_,((ha9.below hb10).below hb11).grown hg12 (λe=>hne (Option.some.inj e)),keepO ((ho9.below hb10).below hb11) hg12,hB11.grown hg12 hB11.size hk5r⟩
     rw[hnext];unfold GC
     rw[if_pos (by omega)];exact hh12
   · refine⟨(L.drop 1).length-(j+1),by omega,j+1,by omega,rfl,rfl,?_,ha9.below hb10,ho9.below hb10,hB10⟩
     rw[hnext];unfold GC
     rw[if_neg (by omega)];exact hh9.below hb10
 · have:j=(L.drop 1).length:=by omega
   subst this
   rw[List.take_length]at hh9
   refine⟨_,_,_,_,_,_,_,_,_,_,_,mw _ hh9,?_⟩
   exact FJ _ ha9 rfl hB9 hk2w (post hpar)
abbrev kE:List UInt8:=[101,120,112,105,114,101,115]
abbrev kA:List UInt8:=[109,97,120,45,97,103,101]
abbrev kD:List UInt8:=[100,111,109,97,105,110]
abbrev kP:List UInt8:=[112,97,116,104]
abbrev kS:List UInt8:=[115,101,99,117,114,101]
abbrev kH:List UInt8:=[104,116,116,112,111,110,108,121]
abbrev kM:List UInt8:=[115,97,109,101,115,105,116,101]
def a1 (key v:List UInt8)(h:Hdr):Hdr:=if key=kE then(if Hi (Ek v)then{ h with hasE:=true,exp:=Nx (Ek v) } else h)else h
def a2 (key v:List UInt8)(h:Hdr):Hdr:=if key=kA then(match UL v with|some n=> { h with hasA:=true,age:=n }|none=>h)else h
def a3 (key v:List UInt8)(h:Hdr):Hdr:=if key=kD then{ h with domain:=eH (if v.head?=some 46 then v.drop 1 else v) } else h
def a4 (key v:List UInt8)(h:Hdr):Hdr:=if key=kP then{ h with path:=if v.head?=some 47 then v else[] } else h
def a5 (key:List UInt8)(h:Hdr):Hdr:=if key=kS then{ h with sec:=true } else h
def a6 (key:List UInt8)(h:Hdr):Hdr:=if key=kH then{ h with http:=true } else h
def a7 (key v:List UInt8)(h:Hdr):Hdr:=if key=kM then{ h with same:=Rs v } else h
theorem sO (a b:Int){w K}(h:uS ms #[vI a,vI b] w λc d=>K (vS c) d):Cf eZ #[vI a,vI b] w (Ret K):=ru func362 [] h
def Qy (s:List UInt8):List UInt8:=if trimB s=s/\s.head?≠some 46 then s else 46::s
def pE:List UInt8:=[69,120,112,105,114,101,115,61]
def pA:List UInt8:=[77,97,120,45,65,103,101,61]
def pD:List UInt8:=[68,111,109,97,105,110,61]
def pP:List UInt8:=[80,97,116,104,61]
def pS:List UInt8:=[83,101,99,117,114,101]
def pH:List UInt8:=[72,116,116,112,79,110,108,121]
def pM:List UInt8:=[83,97,109,101,83,105,116,101,61]
def opt (b:Bool)(x:List UInt8):List (List UInt8):=if b then[x]else[]
noncomputable def zO (h:Hdr):List (List UInt8):=
 [h.name++[61]++h.value]++opt h.hasE (pE++GF h.exp)++opt h.hasA (pA++Lib.itoa h.age)++opt (!(h.domain==[])) (pD++Qy h.domain)++opt (!(h.path==[])) (pP++h.path)++opt h.sec pS++opt h.http pH++
   opt (decide (0<h.same)&&decide (h.same <=3)) (pM++nmL[h.same.toNat]?.getD [])
noncomputable def jl (h:Hdr):List UInt8:=Lib.join (zO h) [59,32]
structure Ja (h:Hdr):Prop where
 name:h.name.length <=20000
 value:h.value.length <=20000
 domain:h.domain.length <=20000
 path:h.path.length <=20000
 exp: -9223372036854775808 <=h.exp/\h.exp <=9223372036854775807
 age: -9223372036854775808 <=h.age/\h.age <=9223372036854775807
theorem KE (s:List UInt8):(Qy s).length <=s.length+1:=by unfold Qy;split <;> simp
theorem Iw (t:Int):(GF t).length <=29:=by
 by_cases hr:t/86400 < -134774\/2932896<t/86400
 · rw[EW hr];simp
 · obtain⟨y,m,d,hd,he⟩:=R5 (n:=t/86400) (by omega) (by omega)
   rw[Li hd he]
   have h1:∀k:Nat,k<7->(Pw (k:Int)).length=3:=by decide
   have h2:∀k:Nat,k<12->(Vv ((k:Int)+1)).length=3:=by decide
   have e1:=h1 (t/86400%7).toNat (by omega)
   have e2:=h2 (m-1).toNat (by have:=hd.2.2.1;have:=hd.2.2.2.1;omega)
   rw[show(((t/86400%7).toNat:Nat):Int)=t/86400%7 by omega]at e1
   rw[show(((m-1).toNat:Nat):Int)+1=m by have:=hd.2.2.1;omega]at e2
   unfold RB Nu
   simp only[List.length_append,j3,e1,e2,List.length_cons,List.length_nil]
   omega
def Tp (h g:Hdr):Bool:=(h.name==g.name)&&((h.value==g.value)&&((h.domain==g.domain)&&((h.path==g.path)&&((h.hasE==g.hasE)&&((h.exp==g.exp)&&((h.hasA==g.hasA)&&((h.age==g.age)&&((h.sec==g.sec)&&((h.http==g.http)&&((h.same==g.same)&&true))))))))))
structure Dm (w0:World)(tl ts th:TypeId)(k1 k3:Nat)(h:Hdr)(xs:List (List UInt8))(w:World):Prop where
 slot:∃a l c,ai w k3 tl [.slice a l c]/\Ow tS ts w NoB a l c xs/\bg w0.heap.size a/\∀g,dV a=some g->g≠k3/\g≠k1
 hdr:ai w k1 th h.cells
 hb:bW w0 w
 hk1:w0.heap.size <=k1
 hk3:w0.heap.size <=k3
 hne:k1≠k3
theorem Dm.below {w0:World}{tl ts th:TypeId}{k1 k3:Nat}{h:Hdr}{xs:List (List UInt8)}{w w':World}(S:Dm w0 tl ts th k1 k3 h xs w)(hb:bW w w'):Dm w0 tl ts th k1 k3 h xs w':=by
 obtain⟨a,l,c,h1,h2,h3,h4⟩:=S.slot
 exact⟨⟨a,l,c,h1.below hb,h2.below hb,h3,h4⟩,S.hdr.below hb,ab S.hb hb S.hb.size,S.hk1,S.hk3,S.hne⟩
theorem Dm.get {P:Program}{u:TypeId}{d:TypeDesc}(hu:P.underlying u=some d)(ha:Et d=false){w0:World}{tl ts th:TypeId}{k1 k3:Nat}{h:Hdr}{xs:List (List UInt8)}{w:World}(S:Dm w0 tl ts th k1 k3 h xs w)
   {i:Nat} {v:Value} (hv:h.cells[i]? =some v):(Instr.loadAt u (.pointer (some ⟨k1,i,none⟩))).run P w=.ok v w:=S.hdr.load1 hu ha hv
abbrev IZ (w0:World)(k1 k3:Nat)(h:Hdr)(xs:List (List UInt8))(w:World):Prop:=Dm w0 aw ak az k1 k3 h xs w
theorem gi {w0:World}{k1 k3:Nat}{h:Hdr}{xs:List (List UInt8)}{w:World}(S:IZ w0 k1 k3 h xs w)(hx:xs.length <=1000)(b:Bool)(s:List UInt8):
   Cf aW #[.bool b,vS s,.pointer (some ⟨k3,0,none⟩)] w (Ret λv w'=>v=.tuple #[]/\IZ w0 k1 k3 h (xs++opt b s) w'):=by
 apply sK
 refine ae.of (λhb=>?_) (λhb=>?_)
 · subst hb
   obtain⟨a,l,c,h1,h2,h3,h4⟩:=S.slot
   refine⟨a,l,c,h1.load1 bG rfl rfl,?_⟩
   intro k8 w8 hk8 hw8
   have hB8:=(hw8▸ah w _:bW w w8)
   have hsrc:Src tS w8 NoB (some ⟨k8,0,none⟩) 1 [s]:=Src.new1F (jS _) hk8 hw8 (qO trivial)
   obtain⟨w9,a9,l9,c9,hr,ho9,hg9,hf9⟩:=dF (ty:=aw) bG eG (by decide) (h2.below hB8) (λ_ _ h=>h) (cm:=1) hsrc (by simp;omega)
   have hlt1:=S.hdr.lt
   have hlt3:=h1.lt
   have h1':=(h1.below hB8).grown hg9 (λe=>(h4 k3 e.symm).1 rfl)
   have hh':=(S.hdr.below hB8).grown hg9 (λe=>(h4 k1 e.symm).2 rfl)
   have hbb:=ab S.hb hB8 S.hb.size
   have h49:∀g,dV a9=some g->g≠k3/\g≠k1:=λg hg=>by
     rcases hf9 g hg with e|e
     · exact h4 g e
     · have:=hB8.size;exact⟨by omega,by omega⟩
   refine⟨w9,a9,l9,c9,hr,?_⟩
   obtain⟨wx,hsx,hax,hgx⟩:=h1'.put (P:=prog) nZ (i:=0) (v:=.slice a9 l9 c9) (by simp) rfl rfl
   refine⟨wx,hsx,rfl,⟨a9,l9,c9,hax,ho9.keep (fQ hgx λg hg e=>?_),?_,h49⟩,hh'.grown hgx (λe=>S.hne (Option.some.inj e)),(hbb.grown hg9 hbb.size h3).grown hgx ?_ ?_,S.hk1,S.hk3,S.hne⟩
   · rcases hg with hg|hg
     · exact hg
     · exact(h49 g hg.symm).1 (Option.some.inj e)
   · exact h3.app hbb.size hf9
   · exact(hbb.grown hg9 hbb.size h3).size
   · intro x e;cases e;exact S.hk3
 · subst hb
   refine⟨rfl,?_⟩
   show IZ w0 k1 k3 h (xs++[]) w
   rw[List.append_nil];exact S
theorem zU (s:List UInt8)(hs:s.length <=1000000)(w:World):Cf iu #[vS s] w (Ret λv w'=>v=vS (Qy s)/\bW w w'):=by
 apply yq
 refine aB (mC s (by omega) w) ?_
 rintro _ w1 ⟨rfl,hb⟩
 refine⟨_,rfl,?_⟩
 refine ae.of (λh=>?_) (λh=>?_)
 · refine⟨fits (by simp;omega),?_⟩
   rintro _ rfl
   refine⟨?_,hb⟩
   unfold Qy
   rw[if_neg (λhc=>by rw[hc.1]at h;simp at h)];rfl
 · have ht:trimB s=s:=by simpa using h
   refine(Tryz.strings_HasPrefix (mkS s) (mkS [46]) w1).mono ?_
   rintro _ _ ⟨rfl,rfl⟩
   have e:Lib.hasPrefix (mkS s).data.toList (mkS [46]).data.toList=decide (s.head?=some 46):=(tZ s 46).1
   rw[e]
   refine⟨_,rfl,?_⟩
   refine ae.of (λh2=>?_) (λh2=>?_) <;> simp only[dTx,dFx]at h2
   · refine⟨fits (by simp;omega),?_⟩
     rintro _ rfl
     refine⟨?_,hb⟩
     unfold Qy
     rw[if_neg (λhc=>hc.2 h2)];rfl
   · refine⟨?_,hb⟩
     unfold Qy
     rw[if_pos ⟨ht,h2⟩]
theorem JG (n:Int)(h0: -9223372036854775808 <=n)(h1:n <=9223372036854775807)(w:World)(ht:Lu prog w):Cf eZ #[vI n,vI 10] w (Ret λv w'=>v=vS (Lib.itoa n)/\bW w w'):=by
 apply sO
 refine(Tryz.internal_strconv_FormatInt_10 n h0 h1 w ht).mono ?_
 rintro _ _ ⟨rfl,k,os,rfl⟩
 exact⟨Lib.itoa n,rfl,rfl,vb w k os⟩
theorem Ce (xs:List (List UInt8)){w0:World}{k1 k3:Nat}{h:Hdr}{w:World}(S:IZ w0 k1 k3 h xs w)(hx:xs.length <=1000)(hl:(Lib.join xs [59,32]).length <=1000000)(K:Value->World->Prop)(hK:∀w',bW w0 w'->K (vS (Lib.join xs [59,32])) w'):
   ∃(a:Option Addr) (l c:Nat),(Instr.loadAt aw (.pointer (some ⟨k3,0,none⟩))).run prog w=.ok (.slice a l c) w/\
     Cf dN #[.slice a l c,vS [59,32]] w λe w'=>∃(s:List UInt8),e=.returned (vS s)/\K (vS s) w':=by
 obtain⟨a,l,c,h1,h2,_,_⟩:=S.slot
 refine⟨a,l,c,h1.load1 bG rfl rfl,?_⟩
 obtain⟨hn,hnc,hcm,h4⟩:=h2.all
 subst hn
 rcases h4 with h4|⟨b,off,rfl,hbl,_,cs,hcs,hcell⟩
 · subst h4
   refine(Tryz.strings_Join_none a c (mkS [59,32]) w).mono ?_
   rintro _ _ ⟨rfl,rfl⟩
   exact⟨[],rfl,hK _ S.hb⟩
 · have he:=fx hcs
   have hj:=Tryz.strings_Join b off c (xs.map mkS) (mkS [59,32]) w (λj x hx=>by
     rw[List.getElem?_map]at hx
     cases hxj:xs[j]? with
     | none=>rw[hxj]at hx;cases hx
     | some y=>
       rw[hxj]at hx
       cases hx
       have hjl:=(List.getElem?_eq_some_iff.1 hxj).1
       rw[hcell j (by rw[he];simpa using hjl),he,List.getElem?_map,hxj];rfl) hbl (by rw[List.length_map];omega) (by rw[List.length_map];exact hnc) (by
       have e:(xs.map mkS).map (λs=>s.data.toList)=xs:=by rw[List.map_map];exact List.map_id xs
       rw[e];show(Lib.join xs [59,32]).length <=_;omega)
   rw[List.length_map]at hj
   refine hj.mono ?_
   rintro _ w' ⟨rfl,hb'⟩
   have e:(xs.map mkS).map (λs=>s.data.toList)=xs:=by rw[List.map_map];exact List.map_id xs
   rw[e]
   exact⟨_,rfl,hK _ (ab S.hb hb' S.hb.size)⟩
theorem QS (xs:List (List UInt8))(M:Nat)(h:∀x∈xs,x.length <=M):(Lib.join xs [59,32]).length <=xs.length*(M+2):=by
 cases xs with
 | nil=>simp[Lib.join_nil]
 | cons x r=>
   rw[Lib.join_cons]
   have:∀r:List (List UInt8),(∀x∈r,x.length <=M)->(Lib.joinTail [59,32] r).length <=r.length*(M+2):=by
     intro r
     induction r with
     | nil=>intro _;simp[Lib.joinTail]
     | cons y r ih=>
       intro hr
       have h1:=ih λx hx=>hr x (List.mem_cons_of_mem _ hx)
       have h2:=hr y List.mem_cons_self
       have e:Lib.joinTail [59,32] (y::r)=[59,32]++y++Lib.joinTail [59,32] r:=by simp[Lib.joinTail]
       rw[e]
       simp only[List.length_append,List.length_cons,List.length_nil,Nat.add_mul];omega
   have h1:=this r λy hy=>h y (List.mem_cons_of_mem _ hy)
   have h2:=h x List.mem_cons_self
   simp only[List.length_append,List.length_cons,Nat.add_mul];omega
theorem OL (b:Bool)(x:List UInt8):(opt b x).length <=1:=by unfold opt;split <;> simp
theorem vz {b:Bool}{x y:List UInt8}(h:y∈opt b x):y=x:=by unfold opt at h;split at h <;> simp_all
theorem Xw (h:Hdr)(ho:Ja h):(Lib.join (zO h) [59,32]).length <=1000000:=by
 have hl1:=ho.name;have hl2:=ho.value;have hl3:=ho.domain;have hl4:=ho.path
 have tl:=Iw h.exp
 have il:=Lib.itoa_length_le h.age ho.age.1 ho.age.2
 have dl:=KE h.domain
 have ol:=OL
 have h1:(zO h).length <=8:=by
   unfold zO
   simp only[List.length_append]
   exact Nat.add_le_add (Nat.add_le_add (Nat.add_le_add (Nat.add_le_add (Nat.add_le_add (Nat.add_le_add (Nat.add_le_add (Nat.le_refl 1) (ol _ _)) (ol _ _)) (ol _ _)) (ol _ _)) (ol _ _)) (ol _ _)) (ol _ _)
 have h2:=QS (zO h) 41000 λx hx=>by
   unfold zO at hx
   simp only[List.mem_append]at hx
   rcases hx with((((((hx|hx)|hx)|hx)|hx)|hx)|hx)|hx
   · rw[List.mem_singleton.1 hx];simp;omega
   · rw[vz hx];simp[pE];omega
   · rw[vz hx];simp[pA];omega
   · rw[vz hx];simp[pD];omega
   · rw[vz hx];simp[pP];omega
   · rw[vz hx];simp[pS]
   · rw[vz hx];simp[pH]
   · rw[vz hx]
     have nl:∀k:Nat,(nmL[k]?.getD []).length <=6:=λk=>by
       by_cases hk:k<4
       · have:∀k:Nat,k<4->(nmL[k]?.getD []).length <=6:=by decide
         exact this k hk
       · rw[List.getElem?_eq_none (by simp[nmL];omega)];simp
     have:=nl h.same.toNat
     simp only[List.length_append];simp only[pM,List.length_cons,List.length_nil];omega
 have:(zO h).length*(41000+2) <=8*(41000+2):=Nat.mul_le_mul_right _ h1
 omega
theorem xY (h:Hdr)(ho:Ja h)(w:World)(he:Env w):Cf lK #[h.v] w (Ret λv w'=>v=vS (jl h)/\bW w w'):=by
 refine wV h.name h.value h.domain h.path h.hasE h.exp h.hasA h.age h.sec h.http h.same ?_
 have hl1:=ho.name;have hl2:=ho.value;have hl3:=ho.domain;have hl4:=ho.path
 intro k1 w1 hk1 hw1
 have hB1:=(hw1▸ah w _:bW w w1)
 have hh1:ai w1 k1 az h.cells:=ai.new hk1 hw1
 refine⟨rfl,_,hh1.load1 aF rfl rfl,fits (by simp;omega),?_⟩
 rintro _ rfl
 refine⟨rfl,_,hh1.load1 aF rfl rfl,fits (by simp;omega),?_⟩
 rintro _ rfl
 intro k11 w11 hk11 hw11 k3 w3 hk3 hw3
 have hB11:=(hw11▸ah w1 _:bW w1 w11)
 have hB3:=(hw3▸ah w11 _:bW w11 w3)
 have ho11:Ow tS ak w11 NoB (some ⟨k11,0,none⟩) 1 1 [h.name++[61]++h.value]:=Ow.newF (l:=[_]) (jS _) hk11 hw11 (kg.one (qO trivial)) (show 1 <=maxLen by decide)
 have ha3:ai w3 k3 aw [.slice none 0 0]:=ai.new hk3 hw3
 have hs1:w1.heap.size=w.heap.size+1:=by rw[hw1];simp
 have hs11:w11.heap.size=w1.heap.size+1:=by rw[hw11];simp
 obtain⟨wx,hsx,hax,hgx⟩:=ha3.put (P:=prog) nZ (i:=0) (v:=.slice (some ⟨k11,0,none⟩) 1 1) (by simp) rfl rfl
 refine⟨wx,hsx,?_⟩
 have hB13:=ab (ab hB1 hB11 hB1.size) hB3 (ab hB1 hB11 hB1.size).size
 have S0:IZ w k1 k3 h [h.name++[61]++h.value] wx:=by
   refine⟨⟨_,_,_,hax,(ho11.below hB3).keep (fQ hgx λg hg e=>?_),λg hg=>?_,λg hg=>?_⟩,((hh1.below hB11).below hB3).grown hgx (λe=>by cases e;omega),hB13.grown hgx hB13.size (λx e=>by cases e;omega),by omega,by omega,by omega⟩
   · rcases hg with hg|hg
     · exact hg
     · have hg':g=k11:=by simpa[dV]using hg
       cases e;omega
   · have hg':g=k11:=by simpa[dV]using hg.symm
     omega
   · have hg':g=k11:=by simpa[dV]using hg.symm
     exact⟨by omega,by omega⟩
 have htab:∀{u:World} {xs:List (List UInt8)},IZ w k1 k3 h xs u->Lu prog u:=λS=>(he.step S.hb).tab
 have htr:true=true:=rfl
 clear hax hgx hsx ha3 ho11 hh1 hB13 hB3 hB11 hB1 hw3 hw11 hw1
 have ol:=OL
 have tl:=Iw h.exp
 have il:=Lib.itoa_length_le h.age ho.age.1 ho.age.2
 have dl:=KE h.domain
 obtain⟨x0,e0⟩:∃x,x=[h.name++[61]++h.value]:=⟨_,rfl⟩
 rw[<- e0]at S0
 have n0:x0.length <=1:=by rw[e0];simp
 refine j8 (λw'=>IZ w k1 k3 h (x0++opt h.hasE (pE++GF h.exp)) w') ?_ ?_
 · have Sd:=S0.below (cF _)
   repeat' (first
     | exact htr
     | refine Exists.intro _ (And.intro (Dm.get dp rfl (by assumption) rfl) ?_)
     | refine Exists.intro _ (And.intro (Dm.get xh rfl (by assumption) rfl) ?_)
     | (refine aB (Hp _ ho.exp.1 ho.exp.2 _ (htab (by assumption))) ?_;rintro _ u ⟨rfl,hbu⟩;have Su:=Dm.below (by assumption) hbu;refine Exists.intro _ (And.intro rfl ?_);refine And.intro (fits (by simp only[List.length_cons,List.length_nil];omega)) ?_;rintro _ rfl)
     | (refine aB (gi (by assumption) (by omega) _ _) ?_;rintro _ u ⟨rfl,Su⟩;exact And.intro rfl Su)
     | refine And.intro ?_ ?_)
 intro w4 S1
 clear S0
 obtain⟨x1,e1⟩:∃x,x=x0++opt h.hasE (pE++GF h.exp):=⟨_,rfl⟩
 have n1:x1.length <=2:=by rw[e1,List.length_append];exact Nat.add_le_add n0 (ol _ _)
 rw[<- e1]at S1
 refine j8 (λw'=>IZ w k1 k3 h (x1++opt h.hasA (pA++Lib.itoa h.age)) w') ?_ ?_
 · have Sd:=S1.below (cF _)
   repeat' (first
     | exact htr
     | refine Exists.intro _ (And.intro (Dm.get dp rfl (by assumption) rfl) ?_)
     | refine Exists.intro _ (And.intro (Dm.get xh rfl (by assumption) rfl) ?_)
     | (refine aB (JG _ ho.age.1 ho.age.2 _ (htab (by assumption))) ?_;rintro _ u ⟨rfl,hbu⟩;have Su:=Dm.below (by assumption) hbu;refine Exists.intro _ (And.intro rfl ?_);refine And.intro (fits (by simp only[List.length_cons,List.length_nil];omega)) ?_;rintro _ rfl)
     | (refine aB (gi (by assumption) (by omega) _ _) ?_;rintro _ u ⟨rfl,Su⟩;exact And.intro rfl Su)
     | refine And.intro ?_ ?_)
 intro w5 S2
 clear S1
 obtain⟨x2,e2⟩:∃x,x=x1++opt h.hasA (pA++Lib.itoa h.age):=⟨_,rfl⟩
 have n2:x2.length <=3:=by rw[e2,List.length_append];exact Nat.add_le_add n1 (ol _ _)
 rw[<- e2]at S2
 refine j8 (λw'=>IZ w k1 k3 h (x2++opt (!(h.domain==[])) (pD++Qy h.domain)) w') ?_ ?_
 · have Sd:=S2.below (cF _)
   repeat' (first
     | exact htr
     | refine Exists.intro _ (And.intro (Dm.get aF rfl (by assumption) rfl) ?_)
     | (refine aB (zU _ (by omega) _) ?_;rintro _ u ⟨rfl,hbu⟩;have Su:=Dm.below (by assumption) hbu;refine Exists.intro _ (And.intro rfl ?_);refine And.intro (fits (by simp only[List.length_cons,List.length_nil];omega)) ?_;rintro _ rfl)
     | (refine aB (gi (by assumption) (by omega) _ _) ?_;rintro _ u ⟨rfl,Su⟩;exact And.intro rfl Su)
     | refine And.intro ?_ ?_)
 intro w6 S3
 clear S2
 obtain⟨x3,e3⟩:∃x,x=x2++opt (!(h.domain==[])) (pD++Qy h.domain):=⟨_,rfl⟩
 have n3:x3.length <=4:=by rw[e3,List.length_append];exact Nat.add_le_add n2 (ol _ _)
 rw[<- e3]at S3
 refine⟨rfl,_,Dm.get aF rfl S3 rfl,?_⟩
 refine⟨rfl,_,Dm.get aF rfl S3 rfl,fits (by simp only[List.length_cons,List.length_nil];omega),?_⟩
 rintro _ rfl
 refine aB (gi S3 (by omega) _ _) ?_
 rintro _ w7 ⟨rfl,S4⟩
 refine⟨rfl,?_⟩
 obtain⟨x4,e4⟩:∃x,x=x3++opt (!(h.path==[])) (pP++h.path):=⟨_,rfl⟩
 have n4:x4.length <=5:=by rw[e4,List.length_append];exact Nat.add_le_add n3 (ol _ _)
 replace S4:IZ w k1 k3 h x4 w7:=by rw[e4];exact S4
 clear S3
 refine⟨rfl,_,Dm.get dp rfl S4 rfl,?_⟩
 refine aB (gi S4 (by omega) _ _) ?_
 rintro _ w8 ⟨rfl,S5⟩
 refine⟨rfl,?_⟩
 obtain⟨x5,e5⟩:∃x,x=x4++opt h.sec pS:=⟨_,rfl⟩
 have n5:x5.length <=6:=by rw[e5,List.length_append];exact Nat.add_le_add n4 (ol _ _)
 replace S5:IZ w k1 k3 h x5 w8:=by rw[e5];exact S5
 clear S4
 refine⟨rfl,_,Dm.get dp rfl S5 rfl,?_⟩
 refine aB (gi S5 (by omega) _ _) ?_
 rintro _ w9 ⟨rfl,S6⟩
 refine⟨rfl,?_⟩
 obtain⟨x6,e6⟩:∃x,x=x5++opt h.http pH:=⟨_,rfl⟩
 have n6:x6.length <=7:=by rw[e6,List.length_append];exact Nat.add_le_add n5 (ol _ _)
 replace S6:IZ w k1 k3 h x6 w9:=by rw[e6];exact S6
 clear S5
 obtain⟨x7,e7⟩:∃x,x=x6++opt (decide (0<h.same)&&decide (h.same <=3)) (pM++nmL[h.same.toNat]?.getD []):=⟨_,rfl⟩
 have n7:x7.length <=8:=by rw[e7,List.length_append];exact Nat.add_le_add n6 (ol _ _)
 have ew:zO h=x7:=by subst e7;subst e6;subst e5;subst e4;subst e3;subst e2;subst e1;subst e0;rfl
 have hJ:(Lib.join x7 [59,32]).length <=1000000:=by rw[<- ew];exact Xw h ho
 refine Kq (λb w'=>b=(decide (0<h.same)&&decide (h.same <=3))/\IZ w k1 k3 h x6 w') ?_ ?_
 · refine⟨rfl,_,Dm.get cD rfl S6 rfl,?_⟩
   refine ae.of (λhc=>?_) (λhc=>?_) <;> simp only[dTx,dFx,gt_iff_lt]at hc
   · exact⟨rfl,_,Dm.get cD rfl S6 rfl,by rw[decide_eq_true hc];rfl,S6⟩
   · exact⟨by rw[decide_eq_false hc];rfl,S6⟩
 rintro b w10 ⟨hb,S⟩
 refine ae.of (λhc=>?_) (λhc=>?_)
 · rw[hb]at hc
   have hc':0<h.same/\h.same <=3:=by simpa using hc
   have hx:x7=x6++opt true (pM++nmL[h.same.toNat]?.getD []):=by rw[e7,hc]
   have hn:((h.same.toNat:Nat):Int)=h.same:=by omega
   have hi:∀u,(Instr.index cY nmV (vI h.same)).run prog u=.ok (vS (nmL[h.same.toNat]?.getD [])) u:=λu=>by
     have:=KQ u h.same.toNat (by omega)
     rwa [hn]at this
   have nl:(nmL[h.same.toNat]?.getD []).length <=6:=by
     have:∀k:Nat,k<4->(nmL[k]?.getD []).length <=6:=by decide
     exact this _ (by omega)
   have Sd:=S.below (cF _)
   clear S6
   refine⟨rfl,?_,?_⟩
   · refine aB (ng _) ?_
     rintro _ u ⟨rfl,hbu⟩
     have Su:=Sd.below hbu
     refine⟨_,_,_,_,rfl,_,Dm.get cD rfl Su rfl,_,hi u,fits (by simp only[List.length_cons,List.length_nil];omega),?_⟩
     rintro _ rfl
     refine aB (gi Su (by omega) _ _) ?_
     rintro _ u2 ⟨rfl,S7⟩
     have S7':IZ w k1 k3 h x7 u2:=by rw[hx];exact S7
     refine⟨rfl,?_⟩
     exact Ce x7 S7' (by omega) hJ (λv w'=>v=vS (jl h)/\bW w w') λw' hb'=>⟨by rw[jl,ew],hb'⟩
   · refine⟨_,Dm.get cD rfl Sd rfl,?_⟩
     refine aB (ng _) ?_
     rintro _ u ⟨rfl,hbu⟩
     have Su:=Sd.below hbu
     refine⟨_,_,_,_,rfl,_,hi u,fits (by simp only[List.length_cons,List.length_nil];omega),?_⟩
     rintro _ rfl
     refine aB (gi Su (by omega) _ _) ?_
     rintro _ u2 ⟨rfl,S7⟩
     have S7':IZ w k1 k3 h x7 u2:=by rw[hx];exact S7
     refine⟨rfl,?_⟩
     exact Ce x7 S7' (by omega) hJ (λv w'=>v=vS (jl h)/\bW w w') λw' hb'=>⟨by rw[jl,ew],hb'⟩
 · rw[hb]at hc
   have hx:x7=x6:=by rw[e7,hc];exact List.append_nil _
   have S7':IZ w k1 k3 h x7 w10:=by rw[hx];exact S
   exact Ce x7 S7' (by omega) hJ (λv w'=>v=vS (jl h)/\bW w w') λw' hb'=>⟨by rw[jl,ew],hb'⟩
end Go.Pk
