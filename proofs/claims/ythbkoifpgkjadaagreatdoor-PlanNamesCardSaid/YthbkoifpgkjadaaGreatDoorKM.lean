/- What the laws lean on: HdrH, AdmA, AdmB, V60, PlnD, PlnL; what is used. Its conditions: none. -/
import Derived.Test.YthbkoifpgkjadaaGreatDoorKL
set_option linter.unusedVariables false
set_option linter.unusedSimpArgs false
set_option linter.unusedSectionVars false
set_option maxRecDepth 100000
open Go.IntKind (i64)
open Go.Proofs.Tryz
open List (length)
open Option (isSome)
namespace Go.Pk
open Go.RowKit (Below)
open Go.Proofs
noncomputable def Lc (h:Hdr):Bool:=decide ((nt (jl h)).2=0)&&Tp (nt (jl h)).1 h
theorem Tq (h:Hdr)(w:World){R:Nat->World->Prop}(H:∀k wx,k=w.heap.size->ai wx k az h.cells->bW w wx->R k wx):
   ∀(k:Nat) (w1:World),k=w.heap.size->w1=w.alloc (.cells #[vS [],vS [],vS [],vS [],.bool false,vI 0,.bool false,vI 0,.bool false,.bool false,vI 0] az)->
     ∃(wx:World),(Instr.storeAt az (.pointer (some ⟨k,0,none⟩)) h.v).run prog w1=.ok () wx/\R k wx:=by
 intro k w1 hk hw
 have hB:=(hw▸ah w _:bW w w1)
 obtain⟨wx,hs,h3,hg⟩:=HL h (ai.new hk hw:ai w1 k az ED.cells) rfl
 exact⟨wx,hs,H k wx hk h3 (hB.grown hg hB.size λx e=>by cases e;omega)⟩
theorem BU (h:Hdr)(w:World){k:Nat}{w1:World}(hk:k=w.heap.size)(hw:w1=w.alloc (.cells h.cells.toArray az)):ai w1 k az h.cells/\bW w w1:=
 ⟨ai.new hk hw,hw▸ah w _⟩
theorem Tg (h g:Hdr):eqV prog 10000 az h.v g.v=some (Tp h g):=by kernel_rfl
theorem N1:prog.eqGuardType prog.depth az=false:=by kernel_rfl
theorem Vm (h g:Hdr){x y:Operand}(w:World):((do eqGuard .eql az x y h.v g.v;binOp .eql az h.v g.v:Sem Value)).run prog w=.ok (.bool (Tp h g)) w:=
 Le N1 (Tg h g) w
theorem BX (h:Hdr)(ho:Ja h)(w:World)(he:Env w):Cf oO #[h.v] w (Ret λv w'=>v=.bool (Lc h)/\bW w w'):=by
 refine Ag h.name h.value h.domain h.path h.hasE h.exp h.hasA h.age h.sec h.http h.same ?_
 intro k1 w1 hk1 hw1
 obtain⟨hh1,hB1⟩:=BU h w hk1 hw1
 refine⟨h.name,h.value,h.domain,h.path,h.hasE,h.exp,h.hasA,h.age,h.sec,h.http,h.same,mw h hh1,?_⟩
 refine aB (xY h ho w1 (he.step hB1)) ?_
 rintro _ w2 ⟨rfl,hb2⟩
 have hB2:=ab hB1 hb2 hB1.size
 have hh2:=hh1.below hb2
 refine⟨_,rfl,?_⟩
 refine aB (sr (jl h) (by have:=Xw h ho;unfold jl;omega) w2 (he.step hB2)) ?_
 rintro _ w3 ⟨rfl,hb3⟩
 have hB3:=ab hB2 hb3 hB2.size
 have hh3:=hh2.below hb3
 refine⟨_,_,_,_,_,_,_,_,_,_,_,_,rfl,?_⟩
 refine Tq (nt (jl h)).1 w3 λk3 w4 hk3 h4 hb4=>?_
 have hB4:=ab hB3 hb4 hB3.size
 have hh4:=hh3.below hb4
 refine ae.of (λhc=>?_) (λhc=>?_)
 · rw[beq_iff_eq]at hc
   refine⟨_,_,_,_,_,_,_,_,_,_,_,mw _ h4,_,_,_,_,_,_,_,_,_,_,_,mw _ hh4,_,Vm _ _ _,?_,hB4⟩
   rw[Lc,decide_eq_true hc];rfl
 · rw[beq_eq_false_iff_ne]at hc
   refine⟨?_,hB4⟩
   rw[Lc,decide_eq_false hc];rfl
def UR:List UInt8:=[95,95,115,101,99,117,114,101,45]
def VA:List UInt8:=[95,95,104,111,115,116,45]
def Mm (s:List UInt8):Int:=if eH (s.take 9)=UR then 1 else if eH (s.take 7)=VA then 2 else 0
def zb (rs:List Rul)(u:Hst)(t:List UInt8):Hst×Bool×Int:=if t=[]then(u,true,0)else match di t with
 | none=>(nJ,false,101)
 | some d=>if(PJ rs d && !pK d u)=true then(d,false,102)else if(!UO u d)=true then(d,false,103)else(d,PJ rs d,0)
def V8 (h:Hdr)(now:Int):Int:=if h.hasA=true then i64.wrap (now+h.age)else if h.hasE=true then(if i64.wrap (now+34560000)<h.exp then i64.wrap (now+34560000)else h.exp)else 9223372036854775807
def Pz (h:Hdr):List UInt8:=if h.name=[]then h.value else h.name
def P6 (h:Hdr)(only:Bool):Bool:=if Mm (Pz h)=1 then !h.sec else if Mm (Pz h)=2 then(!h.sec || (!only || !(h.path==[47])))else false
noncomputable def UP (u:Url)(h:Hdr)(now:Int):Int:=if(!Pm u)=true then 41 else if(!Lc h)=true then 82 else if now<0 then 122 else if 1099511627776<now then 122 else 0
def Sb (u:Url)(h:Hdr)(d:Hst×Bool×Int):Int:=
 if d.2.2≠0 then d.2.2 else if(h.sec && !u.sec)=true then 104 else if(decide (h.same=1) && !h.sec)=true then 105 else if P6 h d.2.1=true then 106 else 0
def Wy (u:Url)(h:Hdr)(d:Hst×Bool×Int)(now:Int):Cky:=⟨h.name,h.value,d.1,d.2.1,if h.path=[]then Qu u.path else h.path,h.sec,h.http,h.same,V8 h now,now,now,0⟩
noncomputable def I6 (rs:List Rul)(u:Url)(h:Hdr)(now:Int):Cky×Int:=
 if UP u h now≠0 then(PE,UP u h now)else if Sb u h (zb rs u.host h.domain)≠0 then(PE,Sb u h (zb rs u.host h.domain))else(Wy u h (zb rs u.host h.domain) now,0)
def XA (x:Cky×Int):Value:=.tuple #[x.1.v,vI x.2]
theorem NO {rs:List Rul}{u:Hst}(o:u.ok)(t:List UInt8):(zb rs u t).1.ok:=by
 unfold zb
 split
 · exact o
 split
 · rfl
 · rename_i d hd
   have:=jT hd
   split
   · exact this
   split <;> exact this
theorem Uo {rs:List Rul}{u:Url}(o:u.ok)(h:Hdr)(now:Int):(I6 rs u h now).1.ok:=by
 unfold I6
 split
 · rfl
 split
 · rfl
 · exact NO o _
theorem Bi (s:List UInt8)(w:World):Cf oJ #[vS s] w (Ret λv w'=>v=vI (Mm s)/\bW w w'):=by
 apply Aa
 refine⟨λm i w'=>bW w w'/\(m=3/\i=0\/m=2/\i=1\/m=1/\i=2/\eH (s.take 9)≠UR\/m=0/\i=3/\eH (s.take 9)≠UR/\eH (s.take 7)≠VA),⟨3,Below.refl _ _,.inl ⟨rfl,rfl⟩⟩,?_⟩
 intro m i
 refine aN.of ?_ _
 rintro w1 ⟨hB,h⟩
 rcases h with⟨rfl,rfl⟩|⟨rfl,rfl⟩|⟨rfl,rfl,h1⟩|⟨rfl,rfl,h1,h2⟩
 · exact ae.yes (by decide) ⟨[],by kernel_rfl,ae.no (by decide) ⟨2,by decide,hB,.inr (.inl ⟨rfl,rfl⟩)⟩⟩
 · refine ae.yes (by decide) ⟨UR,by kernel_rfl,ae.yes (by decide) (ae.of (λc=>?_) (λc=>⟨1,by decide,hB,.inr (.inr (.inl ⟨rfl,rfl,?_⟩))⟩))⟩
   · refine⟨⟨by omega,by simpa using c⟩,?_⟩
     rintro _ rfl
     refine aB (eU _ (by show(s.take 9).length <=_;rw[List.length_take];omega) w1) ?_
     rintro _ w2 ⟨rfl,hb2⟩
     have hB2:=ab hB hb2 hB.size
     refine⟨_,rfl,ae.of (λc2=>⟨?_,hB2⟩) (λc2=>⟨1,by decide,hB2,.inr (.inr (.inl ⟨rfl,rfl,beq_eq_false_iff_ne.1 c2⟩))⟩)⟩
     have c2:eH (s.take 9)=UR:=eq_of_beq c2
     unfold Mm;rw[if_pos c2]
   · intro e
     have:=congrArg List.length e
     simp[eH,UR]at this c;omega
 · refine ae.yes (by decide) ⟨VA,by kernel_rfl,ae.yes (by decide) (ae.of (λc=>?_) (λc=>⟨0,by decide,hB,.inr (.inr (.inr ⟨rfl,rfl,h1,?_⟩))⟩))⟩
   · refine⟨⟨by omega,by simpa using c⟩,?_⟩
     rintro _ rfl
     refine aB (eU _ (by show(s.take 7).length <=_;rw[List.length_take];omega) w1) ?_
     rintro _ w2 ⟨rfl,hb2⟩
     have hB2:=ab hB hb2 hB.size
     refine⟨_,rfl,ae.of (λc2=>⟨?_,hB2⟩) (λc2=>⟨0,by decide,hB2,.inr (.inr (.inr ⟨rfl,rfl,h1,beq_eq_false_iff_ne.1 c2⟩))⟩)⟩
     have c2:eH (s.take 7)=VA:=eq_of_beq c2
     unfold Mm;rw[if_neg h1,if_pos c2]
   · intro e
     have:=congrArg List.length e
     simp[eH,VA]at this c;omega
 · refine ae.no (by decide) ⟨?_,hB⟩
   unfold Mm;rw[if_neg h1,if_neg h2]
theorem zQ (h:Hdr)(now:Int)(w:World):Cf mL #[h.v,vI now] w (Ret λv w'=>v=vI (V8 h now)/\bW w w'):=by
 refine yl h.name h.value h.domain h.path h.hasE h.exp h.hasA h.age h.sec h.http h.same now ?_
 intro k1 w1 hk1 hw1
 obtain⟨hh1,hB1⟩:=BU h w hk1 hw1
 unfold V8
 refine⟨rfl,_,hh1.load1 dp rfl rfl,ae.of (λc=>?_) (λc=>?_)⟩
 · rw[if_pos c]
   exact⟨rfl,_,hh1.load1 xh rfl rfl,rfl,hB1⟩
 rw[if_neg (by rw[c];decide)]
 refine⟨rfl,_,hh1.load1 dp rfl rfl,ae.of (λc=>?_) (λc=>?_)⟩
 · rw[if_pos c]
   exact⟨rfl,_,hh1.load1 xh rfl rfl,_,run_min_int2 _ _ _ _ _ _ _,rfl,hB1⟩
 · rw[if_neg (by rw[c];decide)]
   exact⟨rfl,hB1⟩
theorem Bk (h:Hdr)(only:Bool)(w:World):Cf oK #[h.v,.bool only] w (Ret λv w'=>v=.bool (P6 h only)/\bW w w'):=by
 refine Ab h.name h.value h.domain h.path h.hasE h.exp h.hasA h.age h.sec h.http h.same only ?_
 intro k1 w1 hk1 hw1
 obtain⟨hh1,hB1⟩:=BU h w hk1 hw1
 refine⟨rfl,_,hh1.load1 aF rfl rfl,?_⟩
 refine Xv (w:=w1) (Pz h) ?_ ?_
 · unfold Pz
   exact ae.of (λc=>⟨rfl,_,hh1.load1 aF rfl rfl,rfl,by rw[if_pos (eq_of_beq c)]⟩) (λc=>⟨rfl,by rw[if_neg (beq_eq_false_iff_ne.1 c)]⟩)
 refine aB (Bi (Pz h) w1) ?_
 rintro _ w2 ⟨rfl,hb2⟩
 have hB2:=ab hB1 hb2 hB1.size
 have hh2:=hh1.below hb2
 unfold P6
 refine⟨_,rfl,ae.of (λc=>?_) (λc=>?_)⟩
 · rw[if_pos (eq_of_beq c)]
   exact⟨rfl,_,hh2.load1 dp rfl rfl,rfl,hB2⟩
 rw[if_neg (beq_eq_false_iff_ne.1 c)]
 refine ae.of (λc=>?_) (λc=>?_)
 · rw[if_pos (eq_of_beq c)]
   refine⟨rfl,_,hh2.load1 dp rfl rfl,ae.of (λc2=>⟨by rw[c2];rfl,hB2⟩) (λc2=>?_)⟩
   rw[c2,Bool.false_or]
   refine ae.of (λc3=>⟨by rw[c3];rfl,hB2⟩) (λc3=>?_)
   rw[c3,Bool.false_or]
   exact⟨rfl,_,hh2.load1 aF rfl rfl,rfl,hB2⟩
 · rw[if_neg (beq_eq_false_iff_ne.1 c)]
   exact⟨rfl,hB2⟩
theorem Du {u:Url}(o:u.ok)(hn:u.host.name.length <=1000000000)(h:Hdr)(ho:Ja h)(now:Int)(w:World)(he:Env w):Cf qp #[u.v,h.v,vI now] w (Ret λv w'=>v=vI (UP u h now)/\bW w w'):=by
 refine CD u.v h.name h.value h.domain h.path h.hasE h.exp h.hasA h.age h.sec h.http h.same now ?_
 intro k3 w3 hk3 hw3
 have hB3:=(hw3▸ah w _:bW w w3)
 have h3:ai w3 k3 bt u.cells:=ai.new hk3 hw3
 intro k4 w4 hk4 hw4
 obtain⟨hh4,hb4⟩:=BU h w3 hk4 hw4
 have hB4:=ab hB3 hb4 hB3.size
 unfold UP
 refine⟨_,zL.load0 (h3.below hb4) (Url.len o),?_⟩
 refine aB (IJ o hn w4 (he.step hB4)) ?_
 rintro _ w5 ⟨rfl,hb5⟩
 have hB5:=ab hB4 hb5 hB4.size
 have hh5:=hh4.below hb5
 refine⟨_,rfl,ae.of (λc=>⟨by rw[if_pos c],hB5⟩) (λc=>?_)⟩
 rw[if_neg (by rw[c];decide)]
 refine⟨_,_,_,_,_,_,_,_,_,_,_,mw h hh5,?_⟩
 refine aB (BX h ho w5 (he.step hB5)) ?_
 rintro _ w6 ⟨rfl,hb6⟩
 have hB6:=ab hB5 hb6 hB5.size
 refine⟨_,rfl,ae.of (λc=>⟨by rw[if_pos c],hB6⟩) (λc=>?_)⟩
 rw[if_neg (by rw[c];decide)]
 refine ae.of (λc=>⟨by rw[if_pos (of_decide_eq_true c)],hB6⟩) (λc=>?_)
 rw[if_neg (of_decide_eq_false c)]
 exact ae.of (λc=>⟨by rw[if_pos (show 1099511627776<now from of_decide_eq_true c)],hB6⟩) (λc=>⟨by rw[if_neg (show ¬ 1099511627776<now from of_decide_eq_false c)],hB6⟩)
theorem Te {h:Hst}(o:h.ok){w w':World}{k2:Nat}(h2:ai w' k2 af nJ.cells)(hb:bW w w')(hk:w.heap.size <=k2){b:Bool}{e:Int}{K:Value->World->Prop}
   (hK:∀wx,bW w wx->K (.tuple #[h.v,.bool b,vI e]) wx):
   ∃(wx:World),(Instr.storeAt af (.pointer (some ⟨k2,0,none⟩)) h.v).run prog w'=.ok () wx/\∃vr:Value,(aV af (.pointer (some ⟨k2,0,none⟩))).run prog wx=.ok vr wx/\K (.tuple #[vr,.bool b,vI e]) wx:=
 bc.fin (K:=λvr wx=>K (.tuple #[vr,.bool b,vI e]) wx) (cs:=h.cells) (Hst.len o) (Hst.one h) h2 rfl hb hk λwx hbx=>hK wx hbx
def V7 (x:Hst×Bool×Int):Value:=.tuple #[x.1.v,.bool x.2.1,vI x.2.2]
theorem Bm {w0:World}(he:Env w0){kt km:Nat}{a:Option Addr}{n c:Nat}{ps:List Pth}{kvs:List (rC×Int)}{es:List (List Bool)}{rs:List Rul}{w:World}(S:rP w0 bC bP kt km a n c ps kvs es rs w){u:Hst}(o:u.ok)(hn:u.name.length <=1000000000)(t:List UInt8)(ht:t.length <=100000000):
   Cf oN #[.pointer (some ⟨kt,0,none⟩),u.v,vS t] w (Ret λv w'=>v=V7 (zb rs u t)/\bW w w'):=by
 apply Ac
 intro k4 w4 hk4 hw4
 have hB4:=(hw4▸ah w _:bW w w4)
 have h4:ai w4 k4 af u.cells:=ai.new hk4 hw4
 intro k6 w6 hk6 hw6
 have hb6:=(hw6▸ah w4 _:bW w4 w6)
 have hB6:=ab hB4 hb6 hB4.size
 have h6:ai w6 k6 af nJ.cells:=ai.new hk6 hw6
 have h46:=h4.below hb6
 have hk6w:w.heap.size <=k6:=by have:=hB4.size;omega
 have fin:∀{wx:World} {h:Hst} {b:Bool} {e:Int},h.ok->zb rs u t=(h,b,e)->bW w6 wx->∃wy,(Instr.storeAt af (.pointer (some ⟨k6,0,none⟩)) h.v).run prog wx=.ok () wy/\∃vr:Value,(aV af (.pointer (some ⟨k6,0,none⟩))).run prog wy=.ok vr wy/\
     ((.tuple #[vr,.bool b,vI e]:Value)=V7 (zb rs u t)/\bW w wy):=fun{wx h b e} oh hv hbx=>
   Te oh (h6.below hbx) (ab hB6 hbx hB6.size) hk6w (K:=λv wy=>v=V7 (zb rs u t)/\bW w wy) λwy hb=>⟨by rw[hv];rfl,hb⟩
 refine ae.of (λc1=>?_) (λc1=>?_)
 · have c1:t=[]:=eq_of_beq c1
   exact⟨_,bc.load0 h46 (Hst.len o),fin o (by unfold zb;rw[if_pos c1]) (Below.refl _ _)⟩
 have c1:t≠[]:=beq_eq_false_iff_ne.1 c1
 have hV:zb rs u t=match di t with
     | none=>(nJ,false,101)
     | some d=>if(PJ rs d && !pK d u)=true then(d,false,102)else if(!UO u d)=true then(d,false,103)else(d,PJ rs d,0):=if_neg c1
 refine aB (jU t (by omega) w6 (he.step (S.below hB6).hb)) ?_
 rintro _ w7 ⟨rfl,hb7⟩
 rw[my]
 refine⟨_,_,rfl,?_⟩
 have hok:=B1 λx hx=>jT (s:=t) hx
 refine bc.new (zs:=nJ.cells) (cs:=((di t).getD nJ).cells) rfl (Hst.len hok) (Hst.one _) w7 λk9 w9 hk9 h9 hb9=>?_
 have hb69:=ab hb7 hb9 hb7.size
 cases hd:di t with
 | none=>
   rw[hd]at hV h9
   refine j8 (λ_=>False) (ae.yes rfl ⟨_,bc.load0 h9 rfl,fin rfl hV hb69⟩) (λw hf=>hf.elim)
 | some d=>
   rw[hd]at hV h9 hok
   simp only[Option.getD_some]at h9 hok
   have hdn:d.name.length <=1000000000:=by have:=mG hd;omega
   have l9:∀{wx},bW w9 wx->(Instr.loadAt af (.pointer (some ⟨k9,0,none⟩))).run prog wx=.ok d.v wx:=λhb=>bc.load0 (h9.below hb) (Hst.len hok)
   have l4:∀{wx},bW w6 wx->(Instr.loadAt af (.pointer (some ⟨k4,0,none⟩))).run prog wx=.ok u.v wx:=λhb=>bc.load0 (h46.below hb) (Hst.len o)
   have hV:zb rs u t=if(PJ rs d && !pK d u)=true then(d,false,102)else if(!UO u d)=true then(d,false,103)else(d,PJ rs d,0):=hV
   refine j8 (λw'=>zb rs u t=(d,PJ rs d,0)/\bW w9 w') ?_ ?_
   · refine ae.no rfl ?_
     refine Kq (λb w'=>b=(PJ rs d && !pK d u)/\bW w9 w') ?_ ?_
     · refine⟨_,l9 (Below.refl _ _),?_⟩
       refine aB (qZ he (S.below (ab hB6 hb69 hB6.size)) hok hdn) ?_
       rintro _ w10 ⟨rfl,hb10⟩
       refine⟨_,rfl,ae.of (λc2=>?_) (λc2=>⟨by rw[c2];rfl,hb10⟩)⟩
       exact⟨_,l9 hb10,_,l4 (ab hb69 hb10 hb69.size),_,Vo hok o w10,by rw[c2];rfl,hb10⟩
     · rintro b w10 ⟨rfl,hb10⟩
       have hb610:=ab hb69 hb10 hb69.size
       refine ae.of (λc2=>⟨_,l9 hb10,fin hok (by rw[hV,if_pos c2]) hb610⟩) (λc2=>?_)
       rw[if_neg (by rw[c2];decide)]at hV
       refine⟨_,l4 hb610,_,l9 hb10,?_⟩
       refine aB (Cp o hok hn hdn w10 (he.step (S.below (ab hB6 hb610 hB6.size)).hb)) ?_
       rintro _ w11 ⟨rfl,hb11⟩
       have hb911:=ab hb10 hb11 hb10.size
       refine⟨_,rfl,ae.of (λc3=>⟨_,l9 hb911,fin hok (by rw[hV,if_pos c3]) (ab hb69 hb911 hb69.size)⟩) (λc3=>⟨?_,hb911⟩)⟩
       rw[hV,if_neg (by rw[c3];decide)]
   · rintro w10 ⟨hV,hb10⟩
     have hd10:=cF w10
     have hb910:=ab hb10 hd10 hb10.size
     have hb610:=ab hb69 hb910 hb69.size
     have pub:=qZ he (S.below (ab hB6 hb610 hB6.size)) hok hdn
     refine⟨⟨_,l9 hb910,_,l9 hb910,?_⟩,_,l9 hb910,⟨_,l9 hb910,?_⟩,?_⟩
     · refine aB pub ?_
       rintro _ w11 ⟨rfl,hb11⟩
       exact⟨_,rfl,fin hok hV (ab hb610 hb11 hb610.size)⟩
     · refine aB pub ?_
       rintro _ w11 ⟨rfl,hb11⟩
       exact⟨_,rfl,fin hok hV (ab hb610 hb11 hb610.size)⟩
     · refine aB pub ?_
       rintro _ w11 ⟨rfl,hb11⟩
       exact⟨_,rfl,_,l9 (ab hb910 hb11 hb910.size),fin hok hV (ab hb610 hb11 hb610.size)⟩
theorem Ng (name value:List UInt8){d:Hst}(o:d.ok)(only:Bool)(path:List UInt8)(sec http:Bool)(same exp born used:Int)(w:World):
   (Instr.build br #[(0,vS name),(1,vS value),(2,d.v),(3,.bool only),(4,vS path),(5,.bool sec),(6,.bool http),(7,vI same),(8,vI exp),(9,vI born),(10,vI used)]).run prog w=
     .ok (Cky.v ⟨name,value,d,only,path,sec,http,same,exp,born,used,0⟩) w:=by
 obtain⟨k,n,a⟩:=d
 obtain⟨x0,x1,x2,x3,x4,x5,x6,x7,x8,x9,x10,x11,x12,x13,x14,x15,rfl⟩:=pN a o
 kernel_rfl
def Jd (rs:List Rul)(u:Url)(h:Hdr)(now:Int)(w:World)(v:Value)(w':World):Prop:=v=XA (I6 rs u h now)/\bW w w'
theorem Fl {w0:World}(he:Env w0){kt km:Nat}{a:Option Addr}{n c:Nat}{ps:List Pth}{kvs:List (rC×Int)}{es:List (List Bool)}{rs:List Rul}{w:World}(S:rP w0 bC bP kt km a n c ps kvs es rs w)
   {u:Url} (o:u.ok) (hn:u.host.name.length <=1000000000) (hp:u.path.length <=1000000000) (h:Hdr) (ho:Ja h) (now:Int):
   Cf sb #[.pointer (some ⟨kt,0,none⟩),u.v,h.v,vI now] w (Ret (Jd rs u h now w)):=by
 refine DR _ u.v h.name h.value h.domain h.path h.hasE h.exp h.hasA h.age h.sec h.http h.same now ?_
 intro k5 w5 hk5 hw5
 have hB5:=(hw5▸ah w _:bW w w5)
 have h5:ai w5 k5 bt u.cells:=ai.new hk5 hw5
 intro k6 w6 hk6 hw6
 obtain⟨hh6,hb6⟩:=BU h w5 hk6 hw6
 have hB6:=ab hB5 hb6 hB5.size
 intro k8 w8 hk8 hw8
 have hb8:=(hw8▸ah w6 _:bW w6 w8)
 have hB8:=ab hB6 hb8 hB6.size
 have h8:ai w8 k8 br PE.cells:=ai.new hk8 hw8
 have h58:=(h5.below hb6).below hb8
 have h68:=hh6.below hb8
 have hk8w:w.heap.size <=k8:=by have:=hB6.size;omega
 have hE8:=he.step (S.below hB8).hb
 clear h5 hh6 hb6 hb8 hk5 hw5 hk6 hw6 hk8 hw8 hB5 hB6
 have fin:∀{wx:World} {c:Cky} {e:Int},c.ok->I6 rs u h now=(c,e)->bW w8 wx->∃wy,(Instr.storeAt br (.pointer (some ⟨k8,0,none⟩)) c.v).run prog wx=.ok () wy/\∃vr:Value,(aV br (.pointer (some ⟨k8,0,none⟩))).run prog wy=.ok vr wy/\
     Jd rs u h now w (.tuple #[vr,vI e]) wy:=fun{wx c e} oc hv hbx=>
   xM.fin (K:=λvr wy=>Jd rs u h now w (.tuple #[vr,vI e]) wy) (cs:=c.cells) (Cky.len oc) (Cky.one c) (h8.below hbx) rfl (ab hB8 hbx hB8.size) hk8w λwy hb=>⟨by rw[hv];rfl,hb⟩
 refine⟨_,zL.load0 h58 (Url.len o),_,_,_,_,_,_,_,_,_,_,_,mw h h68,?_⟩
 refine aB (Du o hn h ho now w8 hE8) ?_
 rintro _ w9 ⟨rfl,hb9⟩
 refine⟨_,rfl,ae.of (λc1=>?_) (λc1=>?_)⟩
 · have c1:UP u h now≠0:=by simpa using c1
   exact fin (c:=PE) rfl (by unfold I6;rw[if_pos c1]) hb9
 have c1: ¬ UP u h now≠0:=by simpa using c1
 have hT:I6 rs u h now=if Sb u h (zb rs u.host h.domain)≠0 then(PE,Sb u h (zb rs u.host h.domain))else(Wy u h (zb rs u.host h.domain) now,0):=by unfold I6;rw[if_neg c1]
 have hB9:=ab hB8 hb9 hB8.size
 refine⟨rfl,_,bc.load (h58.below hb9) (i:=1) (us:=u.host.cells) (Hst.len o) (λj hj=>Ba o hj),rfl,_,(h68.below hb9).load1 aF rfl rfl,?_⟩
 refine aB (Bm he (S.below hB9) o hn h.domain (by have:=ho.domain;omega)) ?_
 rintro _ w10 ⟨rfl,hb10⟩
 have hb810:=ab hb9 hb10 hb9.size
 have hdo:=NO (rs:=rs) o h.domain
 have herr:Sb u h (zb rs u.host h.domain)=if(zb rs u.host h.domain).2.2≠0 then(zb rs u.host h.domain).2.2 else if(h.sec && !u.sec)=true then 104 else if(decide (h.same=1) && !h.sec)=true then 105 else if P6 h (zb rs u.host h.domain).2.1=true then 106 else 0:=rfl
 have hck:Wy u h (zb rs u.host h.domain) now=⟨h.name,h.value,(zb rs u.host h.domain).1,(zb rs u.host h.domain).2.1,if h.path=[]then Qu u.path else h.path,h.sec,h.http,h.same,V8 h now,now,now,0⟩:=rfl
 unfold V7
 generalize zb rs u.host h.domain=D at*
 obtain⟨d,only,e⟩:=D
 simp only at hdo herr hck
 refine⟨_,_,_,rfl,?_⟩
 refine bc.new (zs:=nJ.cells) (cs:=d.cells) rfl (Hst.len hdo) (Hst.one d) w10 λk11 w11 hk11 h11 hb11=>?_
 have hb811:=ab hb810 hb11 hb810.size
 have h5B:=h58.below hb811
 have h6B:=h68.below hb811
 refine⟨λn w'=>n=Sb u h (d,only,e)/\bW w11 w',?_,?_⟩
 · refine ae.of (λc2=>⟨?_,Below.refl _ _⟩) (λc2=>?_)
   · have c2:e≠0:=by simpa using c2
     rw[herr,if_pos c2]
   have c2: ¬ e≠0:=by simpa using c2
   rw[if_neg c2]at herr
   refine nK (w:=w11) (h.sec && !u.sec) ?_ ?_
   · exact⟨rfl,_,h6B.load1 dp rfl rfl,ae.of (λc3=>⟨rfl,_,h5B.load1 dp rfl (i:=0) rfl,rfl,by rw[c3];rfl⟩) (λc3=>⟨rfl,by rw[c3];rfl⟩)⟩
   refine ae.of (λc3=>⟨by rw[herr,if_pos c3],Below.refl _ _⟩) (λc3=>?_)
   rw[if_neg (by rw[c3];decide)]at herr
   refine nK (w:=w11) (decide (h.same=1) && !h.sec) ?_ ?_
   · exact⟨rfl,_,h6B.load1 cD rfl rfl,ae.of (λc4=>⟨rfl,_,h6B.load1 dp rfl rfl,rfl,by rw[decide_eq_true (eq_of_beq c4)];rfl⟩) (λc4=>⟨rfl,by rw[decide_eq_false (beq_eq_false_iff_ne.1 c4)];rfl⟩)⟩
   refine ae.of (λc4=>⟨by rw[herr,if_pos c4],Below.refl _ _⟩) (λc4=>?_)
   rw[if_neg (by rw[c4];decide)]at herr
   refine⟨_,_,_,_,_,_,_,_,_,_,_,mw h h6B,?_⟩
   refine aB (Bk h only w11) ?_
   rintro _ w12 ⟨rfl,hb12⟩
   refine⟨_,rfl,ae.of (λc5=>⟨by rw[herr,if_pos c5],hb12⟩) (λc5=>⟨?_,hb12⟩)⟩
   rw[herr,if_neg (by rw[c5];decide)]
   exact Decidable.not_not.1 c2
 intro e2
 refine aN.of ?_ _
 rintro w12 ⟨rfl,hb12⟩
 have hb812:=ab hb811 hb12 hb811.size
 refine ae.of (λc2=>?_) (λc2=>?_)
 · have c2:Sb u h (d,only,e)≠0:=by simpa using c2
   exact fin (c:=PE) rfl (by rw[hT,if_pos c2]) hb812
 have c2: ¬ Sb u h (d,only,e)≠0:=by simpa using c2
 rw[if_neg c2]at hT
 have h5C:=h5B.below hb12
 have h6C:=h6B.below hb12
 have h11C:=h11.below hb12
 refine⟨rfl,_,h6C.load1 aF rfl rfl,?_⟩
 refine Xv (w:=w12) (if h.path=[]then Qu u.path else h.path) ?_ ?_
 · refine ae.of (λc3=>?_) (λc3=>⟨rfl,by rw[if_neg (beq_eq_false_iff_ne.1 c3)]⟩)
   refine⟨rfl,_,h5C.load1 aF rfl (GL o),?_⟩
   refine aB (zY u.path (by omega) w12) ?_
   rintro _ w13 ⟨rfl,hw13⟩
   exact⟨_,rfl,hw13,by rw[if_pos (eq_of_beq c3)]⟩
 refine⟨rfl,_,λv hv=>(h6C.below hv).load1 aF rfl rfl,rfl,_,λv hv=>(h6C.below hv).load1 aF rfl rfl,_,λv hv=>bc.load0 (h11C.below hv) (Hst.len hdo),rfl,_,λv hv=>(h6C.below hv).load1 dp rfl rfl,rfl,_,λv hv=>(h6C.below hv).load1 dp rfl rfl,rfl,_,λv hv=>(h6C.below hv).load1 cD rfl rfl,_,_,_,_,_,_,_,_,_,_,_,λv hv=>mw h (h6C.below hv),_,λv hv=>jY (zQ h now v) hv,_,λv hv=>Ng _ _ hdo _ _ _ _ _ _ _ _ v,?_⟩
 intro wq hq
 exact fin hdo (by rw[hT,hck]) (ab hb812 hq hb812.size)
theorem rL (a:Option Addr)(b:Value)(c:lU){w K}(h:nA w (.cells (Value.cells b) bt) λd e=>nA e (.cells Dr bB) λf g=>Cf kY #[vS c] g λi j=>∃k l m n o p q r s t u v,i=rT #[(hV k l m n o p q r s t u),vI v]/\nA j (.cells #[vS [],vS [],vS [],vS [],.bool false,vI 0,.bool false,vI 0,.bool false,.bool false,vI 0] az) λx y=>∃z,Sv az (vA x 0) (hV k l m n o p q r s t u) y z/\ae (v !=(0:Int)) (∃A,Sv bB (vA f 0) (.agg #[vS c,vI v,vS [],vS [],vI 0,vS [],.int .u8 0,.int .u8 0,.int .u8 0,.int .u8 0,.int .u8 0,.int .u8 0,.int .u8 0,.int .u8 0,.int .u8 0,.int .u8 0,.int .u8 0,.int .u8 0,.int .u8 0,.int .u8 0,.int .u8 0,.int .u8 0,.bool false,vS [],.bool false,.bool false,vI 0,vI 0,vI 0,vI 0,vI 0,vI 0,vI 0,.slice none 0 0,.slice none 0 0,vI 0,vI 0,.slice none 0 0,.slice none 0 0,.bool false,.bool false,.bool false,.bool false,.bool false]) z A/\∃B,Rv bB (vA f 0) A B/\K B A) ((Option.isSome a=true)/\(Option.isSome a=true)/\∃A,(∀B,bW z B->Ld jh (Option.map (λC=>C.add 3) a) B (.pointer A))/\∃B,(∀C,bW z C->Ld bt (vA d 0) C B)/\∃C D E F G H I J L M N,(∀O,bW z O->Ld az (vA x 0) O (hV C D E F G H I J L M N))/\∃O P,(∀Q,bW z Q->Cf sb #[.pointer A,B,(hV C D E F G H I J L M N),vI 0] Q λR S=>R=rT #[O,vI P]/\bW Q S)/\∀Q,z.heap.size <=Q->∀R,bW z R->R.heap[Q]? =some (.cells nT br)->∃S,Sv br (vA Q 0) O R S/\ae (P !=(0:Int)) (∃T,Sv bB (vA f 0) (.agg #[vS c,vI P,vS [],vS [],vI 0,vS [],.int .u8 0,.int .u8 0,.int .u8 0,.int .u8 0,.int .u8 0,.int .u8 0,.int .u8 0,.int .u8 0,.int .u8 0,.int .u8 0,.int .u8 0,.int .u8 0,.int .u8 0,.int .u8 0,.int .u8 0,.int .u8 0,.bool false,vS [],.bool false,.bool false,vI 0,vI 0,vI 0,vI 0,vI 0,vI 0,vI 0,.slice none 0 0,.slice none 0 0,vI 0,vI 0,.slice none 0 0,.slice none 0 0,.bool false,.bool false,.bool false,.bool false,.bool false]) S T/\∃U,Rv bB (vA f 0) T U/\K U T) (∃T:FP [.one .ptr],(∃U:World->Prop,U (World.drew S)/\(Option.isSome a=true)/\(Option.isSome a=true)/\∃V,(∀X,U X->Ld bI (Option.map (λY=>Y.add 4) a) X (.pointer V))/\∃X,(∀Y,U Y->Ld br (vA Q 0) Y X)/\(Cf qD #[.pointer V,X,vI 1] (World.drew S) λY Z=>∃aa ac,Y=rT #[aa,vI ac]/\nA Z (.cells io aK) λad ag=>(U Z->U ag)/\∃al,Sv aK (vA ad 0) aa ag al/\T (vA ad 0) al)/\∀Y Z,Y=(World.drew S).heap.size->Z=(World.drew S).alloc (.cells io aK)->U Z/\Cf qD #[.pointer V,X,vI 1] Z λaa ac=>∃ad ag,aa=rT #[ad,vI ag]/\∃al,Sv aK (vA Y 0) ad ac al/\T (vA Y 0) al)/\∀U,aN 10 (∀V,T U V->∃X,Ld br (vA Q 0) V X/\∃Y,Ld aK U V Y/\∃Z,(Instr.build bB #[(0,vS c),(2,X),(3,Y)]).run prog V=.ok Z V/\∃aa,Sv bB (vA f 0) Z V aa/\∃ac,Rv bB (vA f 0) aa ac/\K ac aa)))):Cf iX #[.pointer a,b,vS c] w (Ret K):=ru func55 [(3000013,[(0,.one .bool),(1,.one .bool),(2,.one .bool),(3,.one .bool),(4,.one .bool),(5,.one .bool),(6,.one .bool),(7,.one .bool),(8,.one .bool),(9,.one .bool),(10,.one .bool)]),(22,[(10,.one .ptr)]),(4000023,[])] h
theorem qP (a:Option Addr)(b:Int){w K}(h:∃c:FP [],(ae (decide (b<(0:Int))) (K (.slice none 0 0) w) ((Option.isSome a=true)/\(Option.isSome a=true)/\∃d e f,Ld au (Option.map (λg=>g.add 1) a) w (.slice d e f)/\ae (decide (b >=((e:Nat):Int))) (K (.slice none 0 0) w) (c w)))/\aN 12 (∀d,c d->(Option.isSome a=true)/\(Option.isSome a=true)/\(Option.isSome a=true)/\(Option.isSome a=true)/\∃e f g,(∀i,bW d i->Ld au (Option.map (λj=>j.add 1) a) i (.slice e f g))/\(bx b ((f:Nat):Int)/\Option.isSome e=true)/\∃i,(∀j,bW d j->Ld ao (am e b 24) j i)/\∃j k l,(∀m,bW d m->Ld aC (Option.map (λn=>n.add 2) a) m (.slice j k l))/\∀m,bW d m->uL iZ #[i,.slice j k l] m λn o p q=>∃r:Nat->FP [.one .slice,.one (.int .i64)],(∃s,r s none 0 0 (0:Int) q)/\∀s t u v x,aN 19 (∀y,r s t u v x y->ae (decide (x<((o:Nat):Int))) ((bx x ((o:Nat):Int)/\Option.isSome n=true)/\∃z,Ld ak (am n x 1) y (vS z)/\(Option.isSome a=true)/\(Option.isSome a=true)/\∃A B C,Ld au (Option.map (λD=>D.add 1) a) y (.slice A B C)/\(bx b ((B:Nat):Int)/\Option.isSome A=true)/\(isSome (am A b 24))/\∃D,Ld bt (Option.map (λE=>E.add 1) (am A b 24)) y D/\uV iX #[.pointer a,D,vS z] y λE F=>∃G H I J,(Instr.buildSlice dE 1 #[(0,E)]).run prog F=.ok (.slice H I J) G/\∃L M N O,(Builtin.append_ #[dE,dE] dE #[.slice t u v,.slice H I J]).run prog G=.ok (.slice M N O) L/\∃P:Nat,P<s/\r P M N O (i64.wrap (x+(1:Int))) L) (K (.slice t u v) y)))):Cf iz #[.pointer a,vI b] w (Ret K):=ru func22 [(2,[]),(1000014,[]),(3000014,[(0,.one .bool),(1,.one .bool),(2,.one .bool),(4,.one .bool),(7,.one .bool),(8,.one .bool),(9,.one .bool),(13,.one .bool),(3,.one .bool),(5,.one .bool),(6,.one .bool),(10,.one .bool)]),(16,[(5,.one .slice),(32,.one (.int .i64))])] h
theorem gR (a:Option Addr)(b c:Nat){w K}(h:∃d,(do eqGuard .eql au (.tmp 3) (.const (.slice none 0 0)) (.slice a b c) (.slice none 0 0);binOp .eql au (.slice a b c) (.slice none 0 0):Sem Value).run prog w=.ok (.bool d) w/\ae d (K (.slice none 0 0) w) (nA w (.cells #[] ao) λe f=>∃g i j k,(Builtin.append_ #[au,au] au #[.slice (vA e 0) 0 0,.slice a b c]).run prog f=.ok (.slice i j k) g/\K (.slice i j k) g)):Cf cE #[.slice a b c] w (Ret K):=ru func38 [] h
theorem ik (a:Option Addr)(b c:Nat){w K}(h:∃d,(do eqGuard .eql aS (.tmp 3) (.const (.slice none 0 0)) (.slice a b c) (.slice none 0 0);binOp .eql aS (.slice a b c) (.slice none 0 0):Sem Value).run prog w=.ok (.bool d) w/\ae d (K (.slice none 0 0) w) (nA w (.cells #[] av) λe f=>∃g i j k,(Builtin.append_ #[aS,aS] aS #[.slice (vA e 0) 0 0,.slice a b c]).run prog f=.ok (.slice i j k) g/\K (.slice i j k) g)):Cf cQ #[.slice a b c] w (Ret K):=ru func39 [] h
theorem vE {w K}(h:Cf iy #[vS [104,111,115,116,32,120,46,99,111,109,32,98,111,116,104,32,47],vS [],vS [99,111,111,107,105,101,32,97,32,104,116,116,112,58,47,47,121,46,99,111,109,47,32,107,61,49]] w λa b=>∃c d e f g,a=rT #[.pointer c,.agg #[vI d,vI e,vI f,vI g]]/\nA b (.cells #[vI 0,vI 0,vI 0,vI 0] ay) λi j=>∃k,Sv ay (vA i 0) (.agg #[vI d,vI e,vI f,vI g]) j k/\Cf iy #[vS [104,111,115,116,32,120,46,99,111,109,32,98,111,116,104,32,47],vS [],vS [99,111,111,107,105,101,32,97,32,104,116,116,112,58,47,47,120,46,99,111,109,47,32,107,61,49]] k λl m=>∃n o p q r,l=rT #[.pointer n,.agg #[vI o,vI p,vI q,vI r]]/\nA m (.cells #[vI 0,vI 0,vI 0,vI 0] ay) λs t=>∃u,Sv ay (vA s 0) (.agg #[vI o,vI p,vI q,vI r]) t u/\ae (Option.isNone c) (∃v x y z,Ld ay (vA i 0) u (.agg #[vI v,vI x,vI y,vI z])/\∃A,(do eqGuard .eql ay (.tmp 16) (.tmp 18) (.agg #[vI v,vI x,vI y,vI z]) (.agg #[vI 3,vI 231,vI 1,vI 1]);binOp .eql ay (.agg #[vI v,vI x,vI y,vI z]) (.agg #[vI 3,vI 231,vI 1,vI 1]):Sem Value).run prog u=.ok (.bool A) u/\ae A (∃B C D E,Ld ay (vA s 0) u (.agg #[vI B,vI C,vI D,vI E])/\∃F,(do eqGuard .eql ay (.tmp 22) (.tmp 23) (.agg #[vI B,vI C,vI D,vI E]) (.agg #[vI 0,vI 0,vI 0,vI 0]);binOp .eql ay (.agg #[vI B,vI C,vI D,vI E]) (.agg #[vI 0,vI 0,vI 0,vI 0]):Sem Value).run prog u=.ok (.bool F) u/\ae F (ae (!Option.isNone n) (uL iz #[.pointer n,vI 0] u λG H I J=>K (.bool (((H:Nat):Int)==(1:Int))) J) (K (.bool false) u)) (K (.bool false) u)) (K (.bool false) u)) (K (.bool false) u)):Cf kJ #[] w (Ret K):=ru func9 [] h
theorem vD {w K}(h:Cf iy #[vS [120],vS [120,32,121,47],vS [120]] w λa b=>∃c d e f g,a=rT #[.pointer c,.agg #[vI d,vI e,vI f,vI g]]/\nA b (.cells #[vI 0,vI 0,vI 0,vI 0] ay) λi j=>∃k,Sv ay (vA i 0) (.agg #[vI d,vI e,vI f,vI g]) j k/\Cf iy #[vS [],vS [97,47],vS [120]] k λl m=>∃n o p q r,l=rT #[.pointer n,.agg #[vI o,vI p,vI q,vI r]]/\nA m (.cells #[vI 0,vI 0,vI 0,vI 0] ay) λs t=>∃u,Sv ay (vA s 0) (.agg #[vI o,vI p,vI q,vI r]) t u/\Cf iy #[vS [],vS [],vS [120]] u λv x=>∃y z A B C,v=rT #[.pointer y,.agg #[vI z,vI A,vI B,vI C]]/\nA x (.cells #[vI 0,vI 0,vI 0,vI 0] ay) λD E=>∃F,Sv ay (vA D 0) (.agg #[vI z,vI A,vI B,vI C]) E F/\Cf iy #[vS [],vS [],vS []] F λG H=>∃I J L M N,G=rT #[.pointer I,.agg #[vI J,vI L,vI M,vI N]]/\nA H (.cells #[vI 0,vI 0,vI 0,vI 0] ay) λO P=>∃Q,Sv ay (vA O 0) (.agg #[vI J,vI L,vI M,vI N]) P Q/\uB kJ #[] Q λR S=>ae (cond R true false) (∃T U V X,Ld ay (vA i 0) S (.agg #[vI T,vI U,vI V,vI X])/\∃Y,(do eqGuard .eql ay (.tmp 29) (.tmp 31) (.agg #[vI T,vI U,vI V,vI X]) (.agg #[vI 1,vI 131,vI 1,vI 1]);binOp .eql ay (.agg #[vI T,vI U,vI V,vI X]) (.agg #[vI 1,vI 131,vI 1,vI 1]):Sem Value).run prog S=.ok (.bool Y) S/\ae Y (∃Z aa ac ad,Ld ay (vA s 0) S (.agg #[vI Z,vI aa,vI ac,vI ad])/\∃ag,(do eqGuard .eql ay (.tmp 35) (.tmp 37) (.agg #[vI Z,vI aa,vI ac,vI ad]) (.agg #[vI 2,vI 51,vI 1,vI 1]);binOp .eql ay (.agg #[vI Z,vI aa,vI ac,vI ad]) (.agg #[vI 2,vI 51,vI 1,vI 1]):Sem Value).run prog S=.ok (.bool ag) S/\ae ag (∃al an ba bb,Ld ay (vA D 0) S (.agg #[vI al,vI an,vI ba,vI bb])/\∃bd,(do eqGuard .eql ay (.tmp 41) (.tmp 43) (.agg #[vI al,vI an,vI ba,vI bb]) (.agg #[vI 3,vI 131,vI 1,vI 1]);binOp .eql ay (.agg #[vI al,vI an,vI ba,vI bb]) (.agg #[vI 3,vI 131,vI 1,vI 1]):Sem Value).run prog S=.ok (.bool bd) S/\ae bd (∃bj bk bl bo,Ld ay (vA O 0) S (.agg #[vI bj,vI bk,vI bl,vI bo])/\∃bq,(do eqGuard .eql ay (.tmp 47) (.tmp 48) (.agg #[vI bj,vI bk,vI bl,vI bo]) (.agg #[vI 0,vI 0,vI 0,vI 0]);binOp .eql ay (.agg #[vI bj,vI bk,vI bl,vI bo]) (.agg #[vI 0,vI 0,vI 0,vI 0]):Sem Value).run prog S=.ok (.bool bq) S/\ae bq (ae (!Option.isNone I) (uL iA #[.pointer I] S λbs bu bw bx=>ae (((bu:Nat):Int)==(0:Int)) (uL iV #[.pointer I] bx λbz cb cc cf=>ae (((cb:Nat):Int)==(0:Int)) (uP iU #[.pointer I] cf λch ck=>uI bh #[.pointer ch] ck λcl cm=>K (.bool (cl==(1:Int))) cm) (K (.bool false) cf)) (K (.bool false) bx)) (K (.bool false) S)) (K (.bool false) S)) (K (.bool false) S)) (K (.bool false) S)) (K (.bool false) S)) (K (.bool false) S)):Cf pC #[] w (Ret K):=ru func3 [] h
theorem Whl.part {α:Type}{T:Ty α}{P:Program}{t:TypeId}{n:Nat}(hw:Whl P t n){w:World}{A:Bl}{a:Option Addr}{l c:Nat}{xs:List α}(h:Sl T w A a l c xs){i k:Nat}(hk:T.k=k)(hi:i<xs.length){o:Nat}{us:List Value}(hl:us.length=n)(ho:o+n <=k)(hv:∀vs,T.rep w A vs xs[i]->∀j,j<n->vs[o+j]? =us[j]?):
   Option.isSome (am a (i:Int) k)=true/\(Instr.loadAt t (.pointer (Option.map (λx=>x.add o) (am a (i:Int) k)))).run P w=.ok (.agg us.toArray) w:=by
 subst hk
 obtain⟨bytes,z,tf⟩:=hw.tf
 obtain⟨ti,hti,hsz,_,_⟩:=tf.info
 have hag:=hw.ag
 cases hu:P.underlying t with
 | none=>rw[hu]at hag;cases hag
 | some d=>
   rw[hu]at hag
   simp only[Option.map_some,Option.some.injEq]at hag
   rcases h.2.2.2 with h7|⟨b0,off,ea,_,_,h7⟩
   · rw[h7]at hi;cases hi
   obtain⟨vs,h8,h9⟩:=h7.elem hi
   rw[ea,jG]
   refine⟨rfl,?_⟩
   show(Instr.loadAt t (.pointer (some ((⟨b0,off+((i:Nat):Int).toNat*T.k,none⟩:Addr).add o)))).run P w=_
   rw[gw]
   show(do loadVar t (<- Instr.sureAddr (.pointer (some _)))).run P w=_
   rw[Sem.run_bind,gk]
   refine vw hu hag hti (by omega) λj hj=>?_
   rw[Int.toNat_natCast,show off+i*T.k+o+j=off+i*T.k+(o+j) by omega,h9 (o+j) (by omega)]
   exact hv vs h8 j (by omega)
structure Ins where
 text:List UInt8
 code:Int
 c:Cky
 r:Rgn
 x:Rgp
 y:Rgp
def Ins.cells (i:Ins):List Value:=vS i.text::vI i.code::(i.c.cells++i.r.cells i.x i.y)
def Ins.v (i:Ins):Value:=.agg i.cells.toArray
def Ins.ok (i:Ins):Prop:=i.c.ok
theorem Ins.len {i:Ins}(o:i.ok):i.cells.length=44:=by unfold Ins.cells;rw[List.length_cons,List.length_cons,List.length_append,Cky.len o];rfl
theorem Ins.one (i:Ins):vX i.cells:=aJ rfl (aJ rfl (sD (Cky.one _) (Rgn.one _ _ _)))
def Xd:Ty Ins where
 k:=44
 pos:=by decide
 rep:=λ_ _ vs o=>vs=o.cells/\o.ok
 len:=λh=>by rw[h.1];exact Ins.len h.2
 one:=fun{_ _ _ x} h v hv=>by rw[h.1]at hv;exact Ins.one x v hv
 keep:=λh _=>h
 mono:=λh _=>h
theorem QB:Flat Xd:=λ_ _ _ _ _ _ h=>h
def XC:Ins:=⟨[],0,PE,rg0,rp0,rp0⟩
theorem Di:Whl prog bB 44:=⟨⟨_,_,sW⟩,by kernel_rfl⟩
theorem TG {o:Ins}(k:o.ok)(w:World):(Instr.buildSlice dE 1 #[(0,o.v)]).run prog w=.ok (.slice (some ⟨w.heap.size,0,none⟩) 1 1) (w.alloc (.cells o.cells.toArray bB)):=by
 obtain⟨tx,co,⟨nm,val,⟨kd,hn,a⟩,only,path,sec,http,same,exp,born,used,seq⟩,⟨⟨k1,s1,nx1,ac1⟩,⟨k2,s2,nx2,ac2⟩,r1,r2,r3,r4,r5⟩,⟨xa,xn,xc,xb,xm,xe⟩,⟨ya,yn,yc,yb,ym,ye⟩⟩:=o
 obtain⟨x0,x1,x2,x3,x4,x5,x6,x7,x8,x9,x10,x11,x12,x13,x14,x15,rfl⟩:=pN a k
 kernel_rfl
theorem Nh (s:List UInt8){c:Cky}(k:c.ok)(r:Rgn)(x y:Rgp)(w:World):(Instr.build bB #[(0,vS s),(2,c.v),(3,r.v x y)]).run prog w=.ok (Ins.v ⟨s,0,c,r,x,y⟩) w:=by
 obtain⟨nm,val,⟨kd,hn,a⟩,only,path,sec,http,same,exp,born,used,seq⟩:=c
 obtain⟨⟨k1,s1,nx1,ac1⟩,⟨k2,s2,nx2,ac2⟩,r1,r2,r3,r4,r5⟩:=r
 obtain⟨xa,xn,xc,xb,xm,xe⟩:=x
 obtain⟨ya,yn,yc,yb,ym,ye⟩:=y
 obtain⟨x0,x1,x2,x3,x4,x5,x6,x7,x8,x9,x10,x11,x12,x13,x14,x15,rfl⟩:=pN a k
 kernel_rfl
theorem Hg {w:World}{A:Bl}{a:Option Addr}{n c:Nat}{xs:List Tpl}(hs:Sl vW w A a n c xs)(hl:xs.length <=1000000):
   Cf cE #[.slice a n c] w (Ret λv w'=>∃a' n' c',v=.slice a' n' c'/\Ow vW ao w' NoB a' n' c' xs/\bg w.heap.size a'/\bW w w'):=by
 apply gR
 have hn:=hs.len
 cases a with
 | none=>
   obtain rfl:xs=[]:=by
     rcases hs.2.2.2 with h|⟨b,o,h,_⟩
     · exact h
     · cases h
   exact⟨true,by kernel_rfl,ae.yes rfl ⟨_,_,_,rfl,Ow.nil _ _ _ _,bg.none _,Below.refl _ _⟩⟩
 | some p=>
   refine⟨false,by kernel_rfl,ae.no rfl λk5 w5 hk5 hw5=>?_⟩
   have b5:=(hw5▸ah w _:bW w w5)
   have o5:Ow vW ao w5 NoB (some ⟨k5,0,none⟩) 0 0 []:=Ow.newF (l:=[]) (xs:=([]:List Tpl)) FF hk5 hw5 ⟨rfl,λi hi=>absurd hi (Nat.not_lt_zero _)⟩ (Nat.zero_le _)
   obtain⟨w2,a',n',c',r2,o2,f2,b2⟩:=Rj (ty:=au) FF bT nz (by decide) o5 (λg hg=>by cases hg;show w.heap.size <=k5;omega) b5 (hs.below b5) (by simp only[List.length_nil];omega)
   exact⟨w2,a',n',c',r2,a',n',c',rfl,o2,f2,b2⟩
theorem Hf {w:World}{A:Bl}{a:Option Addr}{n c:Nat}{xs:List Pat}(hs:Sl AY w A a n c xs)(hl:xs.length <=1000000):
   Cf cQ #[.slice a n c] w (Ret λv w'=>∃a' n' c',v=.slice a' n' c'/\Ow AY av w' NoB a' n' c' xs/\bg w.heap.size a'/\bW w w'):=by
 apply ik
 have hn:=hs.len
 cases a with
 | none=>
   obtain rfl:xs=[]:=by
     rcases hs.2.2.2 with h|⟨b,o,h,_⟩
     · exact h
     · cases h
   exact⟨true,by kernel_rfl,ae.yes rfl ⟨_,_,_,rfl,Ow.nil _ _ _ _,bg.none _,Below.refl _ _⟩⟩
 | some p=>
   refine⟨false,by kernel_rfl,ae.no rfl λk5 w5 hk5 hw5=>?_⟩
   have b5:=(hw5▸ah w _:bW w w5)
   have o5:Ow AY av w5 NoB (some ⟨k5,0,none⟩) 0 0 []:=Ow.newF (l:=[]) (xs:=([]:List Pat)) FD hk5 hw5 ⟨rfl,λi hi=>absurd hi (Nat.not_lt_zero _)⟩ (Nat.zero_le _)
   obtain⟨w2,a',n',c',r2,o2,f2,b2⟩:=Rj (ty:=aS) FD fW pk (by decide) o5 (λg hg=>by cases hg;show w.heap.size <=k5;omega) b5 (hs.below b5) (by simp only[List.length_nil];omega)
   exact⟨w2,a',n',c',r2,a',n',c',rfl,o2,f2,b2⟩
theorem yk {w:World}{k:Nat}{p:Pln}(h:E7 w k p)(hl:p.ts.length <=1000000):Cf iA #[.pointer (some ⟨k,0,none⟩)] w (Ret λv w'=>∃a' n' c',v=.slice a' n' c'/\Ow vW ao w' NoB a' n' c' p.ts/\bg w.heap.size a'/\bW w w'):=by
 obtain⟨a,n,c,b,m,e,d,q,f,kt,pa,h1,h2,h3,h4,h5,h6⟩:=h
 apply qQ
 refine⟨rfl,rfl,b,m,e,by rw[dI];exact h1.load1 bT rfl rfl,aB (Hg h3 hl) ?_⟩
 rintro _ w' ⟨a',n',c',rfl,r⟩
 exact⟨_,_,_,rfl,_,_,_,rfl,r⟩
theorem z1 {w:World}{k:Nat}{p:Pln}(h:E7 w k p)(hl:p.ps.length <=1000000):Cf iV #[.pointer (some ⟨k,0,none⟩)] w (Ret λv w'=>∃a' n' c',v=.slice a' n' c'/\Ow AY av w' NoB a' n' c' p.ps/\bg w.heap.size a'/\bW w w'):=by
 obtain⟨a,n,c,b,m,e,d,q,f,kt,pa,h1,h2,h3,h4,h5,h6⟩:=h
 apply rJ
 refine⟨rfl,rfl,a,n,c,by rw[tY];exact h1.load1 fW rfl rfl,aB (Hf h2 hl) ?_⟩
 rintro _ w' ⟨a',n',c',rfl,r⟩
 exact⟨_,_,_,rfl,_,_,_,rfl,r⟩
theorem zZ {w:World}{k:Nat}{p:Pln}(h:E7 w k p):Cf iU #[.pointer (some ⟨k,0,none⟩)] w (Ret λv w'=>∃q,v=.pointer q/\ky w q (xS p.labs)/\w'=w):=by
 obtain⟨a,n,c,b,m,e,d,q,f,kt,pa,h1,h2,h3,h4,h5,h6⟩:=h
 apply rI
 exact⟨rfl,rfl,pa,by rw[dI];exact h1.load1 fK rfl rfl,pa,rfl,h6,rfl⟩
def VX (rs:List Rul)(u:Url)(s:List UInt8):Prop:=Ja (nt s).1/\((I6 (rs.filter GU) u (nt s).1 0).1.ok/\(I6 (rs.filter GU) u (nt s).1 0).1.host.name.length <=1000000/\(I6 (rs.filter GU) u (nt s).1 0).1.path.length <=60000)
theorem Py:Whl prog az 11:=⟨⟨_,_,qV⟩,by kernel_rfl⟩
theorem QM (h:Hdr):vX h.cells:=aJ rfl (aJ rfl (aJ rfl (aJ rfl (aJ rfl (aJ rfl (aJ rfl (aJ rfl (aJ rfl (aJ rfl (aJ rfl gX))))))))))
theorem JM {w:World}{k:Nat}{p:Pln}(h:E7 w k p)(hlab:(xS p.labs).length <=511){u:Url}(ou:u.ok)(un:u.host.name.length <=1000000)(up:u.path.length <=1000000)(s:List UInt8)(hs:s.length <=1000000)(hT:VX p.rs u s)(he:Env w):
   Cf iX #[.pointer (some ⟨k,0,none⟩),u.v,vS s] w (Ret λv w'=>(∃i:Ins,v=i.v/\i.ok)/\bW w w'):=by
 obtain⟨a,n,c,b,m,e,d,q,f,kt,pa,h1,h2,h3,h4,⟨w0,km,ta,tn,tc,pths,kvs,es,he0,TI⟩,h6⟩:=h
 obtain⟨hH,hT1,hT2,hT3⟩:=hT
 apply rL
 intro k4 w4 hk4 hw4 k6 w6 hk6 hw6
 have b4:=(hw4▸ah w _:bW w w4)
 have b6:=(hw6▸ah w4 _:bW w4 w6)
 have A4:ai w4 k4 bt u.cells:=ai.new hk4 hw4
 have A6:ai w6 k6 bB XC.cells:=ai.new hk6 hw6
 have B6:=ab b4 b6 b4.size
 have k6w:w.heap.size <=k6:=by have:=b4.size;omega
 have fin:∀{W:World} (i:Ins),i.ok->bW w6 W->∃wx,(Instr.storeAt bB (.pointer (some ⟨k6,0,none⟩)) i.v).run prog W=.ok () wx/\∃vr,(aV bB (.pointer (some ⟨k6,0,none⟩))).run prog wx=.ok vr wx/\((∃i:Ins,vr=i.v/\i.ok)/\bW w wx):=fun{W} i o hb=>by
   obtain⟨wx,qx,Ax,gx⟩:=Di.store0 (P:=prog) (cs:=i.cells) (Ins.len o) (Ins.one i) (A6.below hb) rfl
   exact⟨wx,qx,_,ai.res (Di.load0 Ax (Ins.len o)),⟨i,rfl,o⟩,Below.put (ab B6 hb B6.size) gx k6w⟩
 refine aB (sr s (by omega) w6 (he.step B6)) ?_
 rintro _ w14 ⟨rfl,b14⟩
 generalize nt s=pp at*
 obtain⟨hd,ec⟩:=pp
 simp only at hH hT1 hT2 hT3
 refine⟨hd.name,hd.value,hd.domain,hd.path,hd.hasE,hd.exp,hd.hasA,hd.age,hd.sec,hd.http,hd.same,ec,rfl,Py.new (zs:=ED.cells) (cs:=hd.cells) rfl rfl (QM hd) w14 λk7 w7 hk7 A7 b7=>?_⟩
 have B7:=ab b14 b7 b14.size
 refine ae.of (λc1=>fin ⟨s,ec,PE,rg0,rp0,rp0⟩ rfl B7) (λc1=>?_)
 have W7:=ab B6 B7 B6.size
 have Ak:=h1.below W7
 have A4:=A4.below (ab b6 B7 b6.size)
 refine⟨rfl,rfl,some ⟨kt,0,none⟩,λu' hu=>by rw[dI];exact(Ak.below hu).load1 yR rfl rfl,u.v,λu' hu=>zL.load0 (A4.below hu) (Url.len ou),hd.name,hd.value,hd.domain,hd.path,hd.hasE,hd.exp,hd.hasA,hd.age,hd.sec,hd.http,hd.same,λu' hu=>Py.load0 (A7.below hu) rfl,
   (I6 (p.rs.filter GU) u hd 0).1.v,(I6 (p.rs.filter GU) u hd 0).2,λu' hu=>(Fl he0 ((TI.below W7).below hu) ou (by omega) (by omega) hd hH 0).mono ?_,λk9 hk9 wq hq hcell=>?_⟩
 · rintro _ w' ⟨_,rfl,rfl,b'⟩
   exact⟨rfl,b'⟩
 generalize I6 (p.rs.filter GU) u hd 0=tk at*
 obtain⟨ck,tc2⟩:=tk
 simp only at hT1 hT2 hT3
 have A9:ai wq k9 br PE.cells:=hcell
 obtain⟨wx2,q2,A9,g2⟩:=xM.store0 (P:=prog) (cs:=ck.cells) (Cky.len hT1) (Cky.one ck) A9 rfl
 have b2:bW w7 wx2:=Below.put hq g2 hk9
 have B2:=ab B7 b2 B7.size
 refine⟨wx2,q2,ae.of (λc2=>fin ⟨s,tc2,PE,rg0,rp0,rp0⟩ rfl B2) (λc2=>?_)⟩
 have hdr:=cF wx2
 generalize World.drew wx2=wd at*
 have Bd:=ab B2 hdr B2.size
 have Wd:=ab B6 Bd B6.size
 have A9:=A9.below hdr
 have Ak:=h1.below Wd
 have split:∀{W:World} {v:Value} {W':World},RV (kB (xS p.labs) ck.host) (ofR (xS p.labs) ck 1) 181 W v W'->bW W W'/\∃(r:Rgn) (x y:Rgp) (n:Int),v=.tuple #[r.v x y,vI n]:=fun{W v W'} ⟨hb,hv⟩=>by
   split at hv
   · obtain⟨x,y,e,_⟩:=hv;exact⟨hb,_,x,y,_,e⟩
   · exact⟨hb,_,_,_,_,hv⟩
 refine⟨λp10 W=>∃(k10:Nat) (r:Rgn) (x y:Rgp),p10=some ⟨k10,0,none⟩/\ai W k10 aK (r.cells x y)/\ai W k9 br ck.cells/\bW w6 W,
   ⟨λu'=>ai u' k ep [.slice a n c,.slice b m e,.slice d q f,.pointer (some ⟨kt,0,none⟩),.pointer pa]/\ai u' k9 br ck.cells,⟨Ak,A9⟩,rfl,rfl,pa,λu' hu=>by rw[dI];exact hu.1.load1 fK rfl rfl,ck.v,λu' hu=>xM.load0 hu.2 (Cky.len hT1),aB (zk hT1 hT2 hT3 (he.step Wd) (h6.below Wd) hlab 1) ?_,λk10 w10 hk10 hw10=>?_⟩,λp10=>aN.of ?_ _⟩
 · intro v w43 hv
   obtain⟨b43,r,x,y,n',rfl⟩:=split hv
   refine⟨_,_,rfl,λk10 w10 hk10 hw10=>?_⟩
   have b10:=(hw10▸ah w43 _:bW w43 w10)
   have A10:ai w10 k10 aK (rg0.cells rp0 rp0):=ai.new hk10 hw10
   obtain⟨wx4,q4,A4',g4⟩:=dk.store0 (P:=prog) (cs:=r.cells x y) rfl (Rgn.one _ _ _) A10 rfl
   have b4':bW w43 wx4:=Below.put b10 g4 (by omega)
   have B4:=ab b43 b4' b43.size
   exact⟨λhS=>⟨hS.1.below b10,hS.2.below b10⟩,wx4,q4,k10,r,x,y,rfl,A4',A9.below B4,ab Bd B4 Bd.size⟩
 · have b10:=(hw10▸ah wd _:bW wd w10)
   have A10:ai w10 k10 aK (rg0.cells rp0 rp0):=ai.new hk10 hw10
   have W10:=ab Wd b10 Wd.size
   refine⟨⟨Ak.below b10,A9.below b10⟩,aB (zk hT1 hT2 hT3 (he.step W10) (h6.below W10) hlab 1) ?_⟩
   intro v w43 hv
   obtain⟨b43,r,x,y,n',rfl⟩:=split hv
   obtain⟨wx4,q4,A4',g4⟩:=dk.store0 (P:=prog) (cs:=r.cells x y) rfl (Rgn.one _ _ _) (A10.below b43) rfl
   have B43:=ab b10 b43 b10.size
   have B4:bW wd wx4:=Below.put B43 g4 (by omega)
   exact⟨_,_,rfl,wx4,q4,k10,r,x,y,rfl,A4',A9.below B4,ab Bd B4 Bd.size⟩
 · rintro W ⟨k10,r,x,y,rfl,A10,A9,BW⟩
   obtain⟨wx,qx,vr,hr,hK⟩:=fin ⟨s,0,ck,r,x,y⟩ hT1 BW
   exact⟨_,xM.load0 A9 (Cky.len hT1),_,dk.load0 A10 rfl,_,Nh s hT1 r x y W,wx,qx,vr,hr,hK⟩
theorem yj {w:World}{k:Nat}{p:Pln}(h:E7 w k p)(hlab:(xS p.labs).length <=511){t:Nat}(ht:t<p.ts.length)(o:p.ts[t].ok)(tn:p.ts[t].url.host.name.length <=1000000)(tp:p.ts[t].url.path.length <=1000000)(tx:p.ts[t].text.length <=100000)(hW:UX p.cs){ps:List Prt}(hp:Cy p.cs p.ts[t].text=some ps)(hu:sY ps=[])
   (hT:∀s∈DF p.cs p.ts[t].text,s.length <=1000000/\VX p.rs p.ts[t].url s) (hl:(DF p.cs p.ts[t].text).length <=1000) (he:Env w):
   Cf iz #[.pointer (some ⟨k,0,none⟩),vI (t:Int)] w (Ret λv w'=>∃a n c xs,v=.slice a n c/\Ow Xd bB w' NoB a n c xs/\xs.length=(DF p.cs p.ts[t].text).length/\bW w w'):=by
 have hP:=h
 obtain⟨a,n,c,b,m,e,d,q,f,kt,pa,h1,h2,h3,h4,h5,h6⟩:=h
 have hm:=h3.len
 have hle:=h3.le
 subst hm
 apply qP
 have ou:p.ts[t].url.ok:=o
 have ldT:∀{u:World},bW w u->(Instr.loadAt au (.pointer (Option.map (λx=>x.add 1) (some (⟨k,0,none⟩:Addr))))).run prog u=.ok (.slice b p.ts.length e) u:=λhb=>by rw[dI];exact(h1.below hb).load1 bT rfl rfl
 have ldU:∀{u:World},bW w u->Option.isSome (am b (t:Int) 24)=true/\(Instr.loadAt bt (.pointer (Option.map (λx=>x.add 1) (am b (t:Int) 24)))).run prog u=.ok p.ts[t].url.v u:=fun{u} hb=>
   zL.part (h3.below hb) rfl ht (o:=1) (us:=p.ts[t].url.cells) (Url.len ou) (by decide) λvs h j hj=>by rw[h.1];exact GJ o hj
 refine⟨λW=>W=w,ae.no (decide_eq_false (by omega)) ⟨rfl,rfl,_,_,_,ldT (Below.refl _ _),ae.no (decide_eq_false (by omega)) rfl⟩,aN.of ?_ _⟩
 rintro W rfl
 refine⟨rfl,rfl,rfl,rfl,_,_,_,λu hu=>ldT hu,⟨⟨by omega,by omega⟩,h3.isSome ht⟩,p.ts[t].v,λu hu=>(AM (h3.below hu) ht).1,d,q,f,λu hu=>by rw[dI];exact(h1.below hu).load1 bQ rfl rfl,λwq hq=>?_⟩
 refine aB (sV p.ts[t] o tx (h4.below hq) hW hp hu (he.step hq)) ?_
 rintro _ w30 ⟨a30,n30,c30,rfl,oI,_,b30⟩
 have B30:=ab hq b30 hq.size
 generalize DF p.cs p.ts[t].text=L at*
 have hn:=oI.len
 subst hn
 refine⟨_,_,_,rfl,λm a5 l5 c5 i V=>∃(j:Nat) (xs:List Ins),i=(j:Int)/\m=L.length-j/\j <=L.length/\Ow Xd bB V NoB a5 l5 c5 xs/\xs.length=j/\bg w30.heap.size a5/\bW w30 V,
   ⟨_,0,[],rfl,rfl,Nat.zero_le _,Ow.nil _ _ _ _,rfl,bg.none _,Below.refl _ _⟩,λm a5 l5 c5 i=>aN.of ?_ _⟩
 rintro V ⟨j,xs,rfl,rfl,hj,oX,hx,fX,bV⟩
 have BV:=ab B30 bV B30.size
 refine ae.of (λc1=>?_) (λc1=>?_) <;> simp only[dTx,dFx]at c1
 · have hlt:j<L.length:=by omega
   have oI:=oI.below bV
   obtain⟨hs1,hs2⟩:=hT _ (List.getElem_mem hlt)
   obtain⟨lu1,lu2⟩:=ldU BV
   refine⟨⟨⟨by omega,c1⟩,oI.all.isSome hlt⟩,L[j],oI.all.text aF hlt,rfl,rfl,_,_,_,ldT BV,⟨⟨by omega,by omega⟩,h3.isSome ht⟩,lu1,_,lu2,aB (JM (hP.below BV) hlab ou tn tp L[j] hs1 hs2 (he.step BV)) ?_⟩
   rintro _ w47 ⟨⟨ins,rfl,oi⟩,b47⟩
   obtain⟨w2,a',n',c',r2,o2,f2,b2⟩:=Cz (ty:=dE) QB xi sW (by decide) (oX.below b47) fX (ab bV b47 bV.size) rfl rfl (x:=ins) (vs:=ins.cells) ⟨rfl,oi⟩ (cm:=1) (by omega)
   exact⟨_,rfl,_,_,_,_,TG oi w47,w2,a',n',c',r2,L.length-(j+1),by omega,j+1,xs++[ins],by rw[wrap_i64 (by omega) (by omega)];omega,rfl,by omega,o2,by rw[List.length_append,List.length_singleton,hx],f2,b2⟩
 · exact⟨_,_,_,xs,rfl,oX,by omega,BV⟩
theorem NK (s:List UInt8):(Qu s).length <=s.length+1:=by
 unfold Qu
 split
 · simp
 · rw[List.length_take];omega
theorem Tc {rs:List Rul}{u:Hst}(t:List UInt8)(hu:u.name.length <=253):(zb rs u t).1.name.length <=253:=by
 unfold zb
 split
 · exact hu
 split
 · decide
 · rename_i d hd
   have:=mG hd
   split
   · simp;omega
   split <;> (simp;omega)
theorem Up {rs:List Rul}{u:Url}{h:Hdr}(hu:u.host.name.length <=253)(hp:u.path.length <=2048)(hh:h.path.length <=20000):(I6 rs u h 0).1.host.name.length <=253/\(I6 rs u h 0).1.path.length <=60000:=by
 unfold I6
 split
 · exact⟨Nat.zero_le 253,Nat.zero_le 60000⟩
 split
 · exact⟨Nat.zero_le 253,Nat.zero_le 60000⟩
 · refine⟨Tc _ hu,?_⟩
   show(if h.path=[]then Qu u.path else h.path).length <=_
   split
   · have:=NK u.path;omega
   · omega
def N4:List UInt8:=[104,111,115,116,32,120,46,99,111,109,32,98,111,116,104,32,47]
def VO:List UInt8:=[99,111,111,107,105,101,32,97,32,104,116,116,112,58,47,47,121,46,99,111,109,47,32,107,61,49]
def Uk:List UInt8:=[99,111,111,107,105,101,32,97,32,104,116,116,112,58,47,47,120,46,99,111,109,47,32,107,61,49]
def VR:Tpl:=⟨[97],⟨false,⟨1,[120,46,99,111,109],ad0⟩,80,[47]⟩,[107,61,49],1⟩
def jX:Pln:=⟨[⟨false,⟨1,[120,46,99,111,109],ad0⟩,true,true,[47]⟩],[VR],[],[]⟩
def To:Hdr:=⟨[107],[49],[],[],false,0,false,0,false,false,0⟩
theorem Ra:sE N4 [] VO=.inr (3,231,1,1):=by kernel_rfl
theorem Sj:(xS jX.labs).length <=511:=by
 refine Nat.le_trans (AW _) ?_
 have h:jX.labs.length=4:=by kernel_rfl
 omega
theorem Rb:sE N4 [] Uk=.inl jX:=by
 have h1:I8 N4=.inl jX.ps:=by kernel_rfl
 have h2:wS []=.inl jX.rs:=by kernel_rfl
 have h3:xf Uk=.inl (jX.ts,jX.cs):=by kernel_rfl
 have h4:jX.ts.find? (λt=> !FB jX.ps t)=none:=by kernel_rfl
 rw[J1 h1 h2 h3,h4]
 have:=Sj
 exact if_neg (by show ¬ 512<(xS jX.labs).length+1;omega)
theorem Rc:sE [120] [120,32,121,47] [120]=.inr (1,131,1,1):=by kernel_rfl
theorem Re:sE [] [97,47] [120]=.inr (2,51,1,1):=by kernel_rfl
theorem Rf:sE [] [] [120]=.inr (3,131,1,1):=by kernel_rfl
theorem Iq:xS []=[]:=List.eq_nil_of_length_eq_zero (Nat.le_zero.1 (AW []))
theorem Rg:sE [] [] []=.inl ⟨[],[],[],[]⟩:=by
 have h1:I8 []=.inl []:=by kernel_rfl
 have h2:wS []=.inl []:=by kernel_rfl
 have h3:xf []=.inl ([],[]):=by kernel_rfl
 rw[J1 h1 h2 h3]
 refine if_neg ?_
 have e:(⟨[],[],[],[]⟩:Pln).labs=[]:=rfl
 rw[e,Iq];decide
theorem TZ:Cy jX.cs jX.ts[0].text=some [([107,61,49],-1)]:=by kernel_rfl
theorem Oi:DF jX.cs jX.ts[0].text=[[107,61,49]]:=by kernel_rfl
theorem Vn:nt [107,61,49]=(To,0):=by kernel_rfl
theorem Xf:VX jX.rs jX.ts[0].url [107,61,49]:=by
 unfold VX
 rw[Vn]
 have hh:Ja To:=⟨by decide,by decide,by decide,by decide,by decide,by decide⟩
 obtain⟨h1,h2⟩:=Up (rs:=jX.rs.filter GU) (u:=jX.ts[0].url) (h:=To) (by decide) (by decide) (by decide)
 exact⟨hh,Uo (u:=jX.ts[0].url) rfl _ _,Nat.le_trans h1 (by decide),h2⟩
theorem Ia (w:World)(he:Env w):Cf kJ #[] w (Ret λv w'=>v=.bool true/\bW w w'):=by
 apply vE
 refine aB (ju N4 [] VO w he) ?_
 rintro v w6 ⟨b6,hv⟩
 rw[Ra]at hv
 have hv:v=.tuple #[.pointer none,UV 3 (231,1,1)]:=hv
 subst hv
 refine⟨none,3,231,1,1,rfl,cV.new (zs:=zo 0 (0,0,0)) (cs:=zo 3 (231,1,1)) rfl rfl (qW _ _) w6 λk2 w2 hk2 A2 b2=>?_⟩
 have B2:=ab b6 b2 b6.size
 refine aB (ju N4 [] Uk w2 (he.step B2)) ?_
 rintro v w10 ⟨b10,hv⟩
 rw[Rb]at hv
 obtain⟨k,rfl,PA⟩:=hv
 refine⟨some ⟨k,0,none⟩,0,0,0,0,rfl,cV.new (zs:=zo 0 (0,0,0)) (cs:=zo 0 (0,0,0)) rfl rfl (qW _ _) w10 λk4 w4 hk4 A4 b4=>?_⟩
 have B4:=ab B2 (ab b10 b4 b10.size) B2.size
 have A2:=A2.below (ab b10 b4 b10.size)
 refine ae.yes rfl ⟨3,231,1,1,cV.load0 A2 rfl,true,by kernel_rfl,ae.yes rfl ⟨0,0,0,0,cV.load0 A4 rfl,true,by kernel_rfl,ae.yes rfl (ae.yes rfl (aB (yj (PA.below b4) Sj (t:=0) (by decide) rfl (by decide) (by decide) (by decide) (MQ.nil).w TZ (by kernel_rfl) (by rw[Oi];intro s hs;rw[List.mem_singleton]at hs;subst hs;exact⟨by decide,Xf⟩) (by rw[Oi];decide) (he.step B4)) ?_))⟩⟩
 rintro _ w32 ⟨a,n,c,xs,rfl,oX,hx,b32⟩
 rw[Oi]at hx
 have hn:=oX.len
 subst hn
 refine⟨_,_,_,rfl,?_,ab B4 b32 B4.size⟩
 rw[hx];rfl
theorem GY (w:World)(he:Env w):Cf pC #[] w (Ret λv w'=>v=.bool true/\bW w w'):=by
 apply vD
 have bad:∀{a b c:List UInt8} {n:Int} {f:Flt} {W:World} {v:Value} {W':World},sE a b c=.inr (n,f)->MW a b c W v W'->v=.tuple #[.pointer none,UV n f]/\bW W W':=fun{a b c n f W v W'} e ⟨hb,hv⟩=>by rw[e]at hv;exact⟨hv,hb⟩
 refine aB (ju [120] [120,32,121,47] [120] w he) ?_
 intro v w10 hv
 obtain⟨rfl,b10⟩:=bad Rc hv
 refine⟨none,1,131,1,1,rfl,cV.new (zs:=zo 0 (0,0,0)) (cs:=zo 1 (131,1,1)) rfl rfl (qW _ _) w10 λk2 w2 hk2 A2 b2=>?_⟩
 have B2:=ab b10 b2 b10.size
 refine aB (ju [] [97,47] [120] w2 (he.step B2)) ?_
 intro v w14 hv
 obtain⟨rfl,b14⟩:=bad Re hv
 refine⟨none,2,51,1,1,rfl,cV.new (zs:=zo 0 (0,0,0)) (cs:=zo 2 (51,1,1)) rfl rfl (qW _ _) w14 λk4 w4 hk4 A4 b4=>?_⟩
 have c4:=ab b14 b4 b14.size
 have B4:=ab B2 c4 B2.size
 refine aB (ju [] [] [120] w4 (he.step B4)) ?_
 intro v w18 hv
 obtain⟨rfl,b18⟩:=bad Rf hv
 refine⟨none,3,131,1,1,rfl,cV.new (zs:=zo 0 (0,0,0)) (cs:=zo 3 (131,1,1)) rfl rfl (qW _ _) w18 λk6 w6 hk6 A6 b6=>?_⟩
 have c6:=ab b18 b6 b18.size
 have B6:=ab B4 c6 B4.size
 refine aB (ju [] [] [] w6 (he.step B6)) ?_
 rintro v w22 ⟨b22,hv⟩
 rw[Rg]at hv
 obtain⟨k,rfl,PA⟩:=hv
 refine⟨some ⟨k,0,none⟩,0,0,0,0,rfl,cV.new (zs:=zo 0 (0,0,0)) (cs:=zo 0 (0,0,0)) rfl rfl (qW _ _) w22 λk8 w8 hk8 A8 b8=>?_⟩
 have c8:=ab b22 b8 b22.size
 have B8:=ab B6 c8 B6.size
 refine aB (Ia w8 (he.step B8)) ?_
 rintro _ w25 ⟨rfl,b25⟩
 have c25:=ab c8 b25 c8.size
 have A6:=A6.below c25
 have A4:=A4.below (ab c6 c25 c6.size)
 have A2:=A2.below (ab c4 (ab c6 c25 c6.size) c4.size)
 have A8:=A8.below b25
 have PA:=PA.below (ab b8 b25 b8.size)
 have B25:=ab B8 b25 B8.size
 refine⟨true,rfl,ae.yes rfl ⟨1,131,1,1,cV.load0 A2 rfl,true,by kernel_rfl,ae.yes rfl ⟨2,51,1,1,cV.load0 A4 rfl,true,by kernel_rfl,ae.yes rfl ⟨3,131,1,1,cV.load0 A6 rfl,true,by kernel_rfl,ae.yes rfl ⟨0,0,0,0,cV.load0 A8 rfl,true,by kernel_rfl,ae.yes rfl (ae.yes rfl (aB (yk PA (Nat.zero_le _)) ?_))⟩⟩⟩⟩⟩
 rintro _ w57 ⟨a1,n1,c1,rfl,o1,_,b57⟩
 have h1:n1=0:=o1.len
 subst h1
 refine⟨_,_,_,rfl,ae.yes rfl (aB (z1 (PA.below b57) (Nat.zero_le _)) ?_)⟩
 rintro _ w63 ⟨a2,n2,c2,rfl,o2,_,b63⟩
 have h2:n2=0:=o2.len
 subst h2
 have c63:=ab b57 b63 b57.size
 refine⟨_,_,_,rfl,ae.yes rfl (aB (zZ (PA.below c63)) ?_)⟩
 rintro _ w69 ⟨q,rfl,AL,hw69⟩
 rw[hw69]at*
 have e:(⟨[],[],[],[]⟩:Pln).labs=[]:=rfl
 rw[e,Iq]at AL
 refine⟨_,rfl,aB (dR q [] (Nat.zero_le _) w63 AL) ?_⟩
 rintro _ w70 ⟨rfl,hw70⟩
 rw[hw70]
 exact⟨_,rfl,rfl,ab B25 c63 B25.size⟩
end Go.Pk
