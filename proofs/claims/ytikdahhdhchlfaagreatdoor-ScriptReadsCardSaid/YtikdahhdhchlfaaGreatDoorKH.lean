/- What the laws lean on: ScrG, ScrH, ShP, MapH, ShQ, ShR, Chg, SufP, Row, SufA, SufB, SufC, HdrD; what is used. Its conditions: none. -/
import Derived.Test.YtikdahhdhchlfaaGreatDoorKG
import Derived.Maps.RangeRun
set_option linter.unusedVariables false
set_option linter.unusedSimpArgs false
set_option linter.unusedSectionVars false
set_option maxRecDepth 100000
open Go.IntKind (i64)
open Go.Proofs.Tryz
namespace Go.Pk
open Go.RowKit (Below)
open Go.Proofs
theorem AL {s:List UInt8}{h:Hst}(e:bt s=some h):h.name.length <=s.length:=by
 unfold bt at e
 split at e
 · split at e
   · rw[Option.map_eq_some_iff]at e
     obtain⟨a,_,rfl⟩:=e
     exact Nat.zero_le _
   · cases e
 · split at e
   · rw[Option.map_eq_some_iff]at e
     obtain⟨a,_,rfl⟩:=e
     exact Nat.zero_le _
   · split at e
     · rw[<- Option.some.inj e];simp[co]
     · cases e
theorem NO (s:List UInt8):((bt s).getD gJ).name.length <=s.length:=by
 cases e:bt s with
 | none=>exact Nat.zero_le _
 | some h=>exact AL e
theorem OC (r:List UInt8):(kV r).length <=r.length+1:=by
 unfold kV
 split
 · simp
 · simp;omega
theorem Rq (r:List UInt8)(b:Bool):(Lh r b).1.host.name.length <=r.length/\(Lh r b).1.path.length <=r.length+1:=by
 unfold Lh
 split
 · exact⟨Nat.zero_le _,Nat.zero_le _⟩
 · rename_i h hh
   split
   · exact⟨Nat.zero_le _,Nat.zero_le _⟩
   · split
     · refine⟨?_,?_⟩
       · unfold nI at hh
         split at hh
         · cases hh
         · have:=AL hh
           simp only[List.length_take]at this
           show h.name.length <=_
           omega
       · have:=OC (r.drop (cz [47,63,35] r))
         simp only[List.length_drop]at this
         show(kV _).length <=_
         omega
     · exact⟨Nat.zero_le _,Nat.zero_le _⟩
theorem Rr (s:List UInt8):(iR s).1.host.name.length <=s.length/\(iR s).1.path.length <=s.length+1:=by
 unfold iR
 split
 · exact⟨Nat.zero_le _,Nat.zero_le _⟩
 · rename_i r b e
   have hr:r.length <=s.length:=by
     unfold Lg at e
     split at e
     · cases e;simp
     split at e
     · cases e;simp
     · cases e
   have:=Rq r b
   omega
theorem TS (s:List UInt8):((unP s).getD []).length <=s.length:=by
 cases e:unP s with
 | none=>exact Nat.zero_le _
 | some t=>
   have h:=(rf s t).1 e
   unfold j8 at h
   split at h
   · rename_i c;subst c;exact Nat.zero_le _
   · have:=(mr t).1
     rw[h]at this;exact this
def iE (k:List UInt8)(ws:List (List UInt8)):OpR×Bool:=
 match ws with
 | []=>(eP,true)
 | [a]=>(⟨3,eX,[],j6,if nK a then ez a else 0⟩,decide (nK a))
 | [a,b]=>(⟨1,(iR a).1,(unP b).getD [],j6,0⟩,(unP b).isSome&&((iR a).2==0))
 | [a,b,c,d]=>(⟨2,eX,[],⟨cS a==1,(bt b).getD gJ,c,gI d⟩,0⟩,(bt b).isSome&&decide (0 <=cS a))
 | _=>(uy,false)
def fD (k:List UInt8)(n:Nat):Bool:=decide (k=xX/\n=2) || (decide (k=sA/\n=4) || (decide (k=mv/\n=1) || decide (k=jM/\n=0)))
theorem Ma (k:List UInt8)(ws:List (List UInt8))(h:(iE k ws).2=true):(iE k ws).1=vC (iE k ws).1:=by
 revert h
 unfold iE
 split <;> intro h
 · rfl
 · rfl
 · rfl
 · rfl
 · cases h
theorem FV (k:List UInt8)(ws:List (List UInt8))(h:∀x∈ws,x.length <=900000):(iE k ws).1.ok:=by
 unfold iE
 split
 · exact⟨rfl,rfl,Nat.zero_le _,Nat.zero_le _,Nat.zero_le _,Nat.zero_le _,Nat.zero_le _⟩
 · exact⟨rfl,rfl,Nat.zero_le _,Nat.zero_le _,Nat.zero_le _,Nat.zero_le _,Nat.zero_le _⟩
 · rename_i a b
   have ha:=h a (by simp)
   have hb:=h b (by simp)
   have h1:=Rr a
   have h2:=TS b
   exact⟨GA a,rfl,by show(iR a).1.path.length <=_;omega,by show(iR a).1.host.name.length <=_;omega,Nat.zero_le _,Nat.zero_le _,by show((unP b).getD []).length <=_;omega⟩
 · rename_i a b c d
   have hb:=h b (by simp)
   have hc:=h c (by simp)
   have h1:=NO b
   exact⟨rfl,lN λx hx=>fM (s:=b) hx,Nat.zero_le _,Nat.zero_le _,by show c.length <=_;omega,by show((bt b).getD gJ).name.length <=_;omega,Nat.zero_le _⟩
 · exact⟨rfl,rfl,Nat.zero_le _,Nat.zero_le _,Nat.zero_le _,Nat.zero_le _,Nat.zero_le _⟩
theorem uA {s k:List UInt8}{ws:List (List UInt8)}(hc:bK 32 [] s=k::ws):bT s=if([]:List UInt8)∈k::ws then none else if fD k ws.length=true then(if((iE k ws).2&&cP (iE k ws).1)=true then some (iE k ws).1 else none)else none:=by
 unfold bT
 rw[hc]
 by_cases h0:([]:List UInt8)∈k::ws
 · rw[if_pos h0,if_pos h0]
 rw[if_neg h0,if_neg h0]
 have key:((iE k ws).2&&cP (iE k ws).1)=((iE k ws).2&&cX (iE k ws).1):=by
   cases h:(iE k ws).2 with
   | false=>rfl
   | true=>
     rw[Bool.true_and,Bool.true_and]
     have hf:(iE k ws).1.fit:=by
       unfold iE
       split
       · exact⟨rfl,rfl⟩
       · exact⟨rfl,rfl⟩
       · exact⟨GA _,rfl⟩
       · exact⟨rfl,lN λx hx=>fM hx⟩
       · exact⟨rfl,rfl⟩
     exact A9 hf (Ma k ws h)
 rw[key]
 have fl:∀(b:Bool) (o:OpR),(if(b&&cX o)=true then some o else none)=Option.filter cX (if b=true then some o else none):=λb o=>by
   cases b <;> cases h:cX o <;> simp[Option.filter,h]
 match ws with
 | []=>
   show(if k=jM then some eP else none)=if fD k 0=true then _ else none
   have e:(fD k 0=true)=(k=jM):=by simp[fD]
   simp only[e];rfl
 | [a]=>
   show(if k=mv then(Pg a).filter cX else none)=if fD k 1=true then _ else none
   have e:(fD k 1=true)=(k=mv):=by simp[fD]
   simp only[e]
   congr 1
   show _=if(decide (nK a)&&cX ⟨3,eX,[],j6,if nK a then ez a else 0⟩)=true then some (⟨3,eX,[],j6,if nK a then ez a else 0⟩:OpR)else none
   rw[fl];unfold Pg
   by_cases h:nK a
   · simp only[h,if_true,decide_true]
   · simp only[h,if_false,decide_false,Bool.false_eq_true]
 | [a,b]=>
   show(if k=xX then(TB a b).filter cX else none)=if fD k 2=true then _ else none
   have e:(fD k 2=true)=(k=xX):=by simp[fD]
   simp only[e]
   congr 1
   show _=if(((unP b).isSome&&((iR a).2==0))&&cX ⟨1,(iR a).1,(unP b).getD [],j6,0⟩)=true then some (⟨1,(iR a).1,(unP b).getD [],j6,0⟩:OpR)else none
   rw[fl];unfold TB
   cases unP b <;> by_cases h:(iR a).2=0 <;> simp[h]
 | [a,b,c]=>
   have e:fD k 3=false:=by simp[fD]
   show none=if fD k 3=true then _ else none
   rw[e];rfl
 | [a,b,c,d]=>
   show(if k=sA then(Ta a b c d).filter cX else none)=if fD k 4=true then _ else none
   have e:(fD k 4=true)=(k=sA):=by simp[fD]
   simp only[e]
   congr 1
   show _=if(((bt b).isSome&&decide (0 <=cS a))&&cX ⟨2,eX,[],⟨cS a==1,(bt b).getD gJ,c,gI d⟩,0⟩)=true then some (⟨2,eX,[],⟨cS a==1,(bt b).getD gJ,c,gI d⟩,0⟩:OpR)else none
   rw[fl];unfold Ta
   cases bt b <;> by_cases h:0 <=cS a <;> simp[h]
 | a::b::c::d::f::r=>
   have e:fD k (a::b::c::d::f::r).length=false:=by simp[fD]
   show none=if fD k (a::b::c::d::f::r).length=true then _ else none
   rw[e];rfl
def rdN (k:List UInt8):Int:=((dw k qO).map (·.1)).getD 0
def rdF (k:List UInt8):Value:=((dw k qO).map λp=>Value.func (.func p.2) #[] #[]).getD .nilFunc
theorem Tx {w:World}{r:Nat}(m:sy evS evR w r qO)(k:List UInt8):(Instr.lookup aI (.map (some r)) (vS k) true).run prog w=.ok (.tuple #[.agg #[vI (rdN k),rdF k],.bool (dw k qO).isSome]) w:=by
 have:=m.look2 cx (qb.str av) pO k
 unfold evS at this
 rw[this]
 unfold rdN rdF
 cases dw k qO <;> rfl
theorem Q5 {k:List UInt8}{n:Nat}(hs:(dw k qO).isSome=true)(e:((n+1:Nat):Int)=rdN k+1):fD k n=true:=by
 have hk:k=xX\/k=sA\/k=mv\/k=jM:=by
   revert hs
   simp only[qO,dw]
   split
   · rename_i h;intro _;exact .inl h
   split
   · rename_i h;intro _;exact .inr (.inl h)
   split
   · rename_i h;intro _;exact .inr (.inr (.inl h))
   split
   · rename_i h;intro _;exact .inr (.inr (.inr h))
   · intro h;cases h
 unfold fD
 simp only[Bool.or_eq_true,dTx]
 rcases hk with rfl|rfl|rfl|rfl
 · have:rdN xX=2:=rfl
   exact .inl ⟨rfl,by omega⟩
 · have:rdN sA=4:=rfl
   exact .inr (.inl ⟨rfl,by omega⟩)
 · have:rdN mv=1:=rfl
   exact .inr (.inr (.inl ⟨rfl,by omega⟩))
 · have:rdN jM=0:=rfl
   exact .inr (.inr (.inr ⟨rfl,by omega⟩))
theorem HQ {k:List UInt8}{n:Nat}(h:fD k n=true):(dw k qO).isSome=true/\((n+1:Nat):Int)=rdN k+1:=by
 unfold fD at h
 simp only[Bool.or_eq_true,dTx]at h
 rcases h with⟨rfl,rfl⟩|⟨rfl,rfl⟩|⟨rfl,rfl⟩|⟨rfl,rfl⟩ <;> exact⟨rfl,rfl⟩
theorem Tw {A:Bl}{a:Option Addr}{l c:Nat}{k:List UInt8}{ws:List (List UInt8)}{u:World}(h:fD k ws.length=true)(ho:Sl tS u A a l c ws)(hl:∀x∈ws,x.length <=900000)(he:Env u){R:Ending->World->Prop}
   (hR:∀u',bW u u'->R (.returned (.tuple #[(iE k ws).1.v,.bool (iE k ws).2])) u'):pC prog (rdF k) #[.slice a l c] u R:=by
 unfold fD at h
 simp only[Bool.or_eq_true,dTx]at h
 rcases h with⟨rfl,h⟩|⟨rfl,h⟩|⟨rfl,h⟩|⟨rfl,h⟩
 · match ws,h with
   | [x,y],_=>
     have hx:=hl x (by simp)
     have hy:=hl y (by simp)
     refine pC.of (f:=iN) (by kernel_rfl) (aw (Gq ho (by omega) (by omega) he) ?_)
     rintro _ u' ⟨rfl,hb⟩;exact hR u' hb
 · match ws,h with
   | [x,y,p,z],_=>
     have hy:=hl y (by simp)
     refine pC.of (f:=iM) (by kernel_rfl) (aw (Gp ho (by omega) he) ?_)
     rintro _ u' ⟨rfl,hb⟩;exact hR u' hb
 · match ws,h with
   | [x],_=>
     have hx:=hl x (by simp)
     refine pC.of (f:=gF) (by kernel_rfl) (aw (DN ho (by omega)) ?_)
     rintro _ u' ⟨rfl,hb⟩;exact hR u' hb
 · match ws,h with
   | [],_=>
     refine pC.of (f:=dx) (by kernel_rfl) (aw (BV a l c u) ?_)
     rintro _ u' ⟨rfl,hb⟩;exact hR u' hb
theorem UX:∃d,prog.underlying bM=some d/\CE d=false:=by
 have h:(prog.underlying bM).map CE=some false:=by kernel_rfl
 cases e:prog.underlying bM with
 | none=>rw[e]at h;cases h
 | some d=>rw[e]at h;exact⟨d,rfl,Option.some.inj h⟩
def Ug (s:List UInt8)(w:World)(v:Value)(w':World):Prop:=(∃o:OpR,v=.tuple #[o.v,.bool (bT s).isSome]/\o.fit/\∀p,bT s=some p->o=p)/\bW w w'
structure StR (w:World)(u:World)(m k:Option Nat):Prop where
 b:bW w u
 mm:∀r,m=some r->sy evS evR u r qO
 kk:∀x,k=some x->ao u x aU [vI 0,.nilFunc]
 nn:∀r x,m=some r->k=some x->r≠x
 oo:∀x,k=some x->w.heap.size <=x
theorem zu (s:List UInt8)(hs:s.length <=900000)(w:World)(he:Env w):Cf lF #[vS s] w (Ret (Ug s w)):=by
 apply xP
 intro k2 w2 hk2 hw2
 have hB2:bW w w2:=hw2▸ai w _
 have h2:ao w2 k2 ak uy.cells:=ao.new hk2 hw2
 have hk2w:w.heap.size <=k2:=by omega
 have bad:∀{wx:World},bW w2 wx->bT s=none->∃wy,(Instr.storeAt ak (.pointer (some ⟨k2,0,none⟩)) (.agg dt)).run prog wx=.ok () wy/\∃vr:Value,(bg ak (.pointer (some ⟨k2,0,none⟩))).run prog wy=.ok vr wy/\Ug s w (.tuple #[vr,.bool false]) wy:=fun{wx} hb hn=>
   ec.fin (K:=λvr wy=>Ug s w (.tuple #[vr,.bool false]) wy) (cs:=uy.cells) cG (OpR.one _) (h2.below hb) cG (aa hB2 hb hB2.size) hk2w λwy hy=>⟨⟨uy,by rw[hn];rfl,⟨rfl,rfl⟩,λp hp=>by rw[hn]at hp;cases hp⟩,hy⟩
 have hne:=gQ 32 s []
 have hlen:=fI 32 s []
 have hcnt:=dK 32 s []
 refine aw (CZ s (by omega) w2 (he.step hB2)) ?_
 rintro _ w3 ⟨hv,hb3⟩
 have hB3:=aa hB2 hb3 hB2.size
 by_cases h0:([]:List UInt8)∈bK 32 [] s
 · rw[if_pos h0]at hv
   subst hv
   exact⟨_,_,_,_,rfl,ab.yes rfl (bad hb3 (by unfold bT;rw[if_pos h0]))⟩
 rw[if_neg h0]at hv
 obtain⟨a,n,c,rfl,ow,hf⟩:=hv
 obtain⟨k,ws,hcut⟩:∃k ws,bK 32 [] s=k::ws:=by
   cases h:bK 32 [] s with
   | nil=>exact absurd h hne
   | cons k ws=>exact⟨k,ws,rfl⟩
 have hP:=uA hcut
 rw[hcut]at ow h0 hlen hcnt
 rw[if_neg h0]at hP
 have hws:∀x∈ws,x.length <=900000:=λx hx=>by
   have:=hlen x (List.mem_cons_of_mem _ hx)
   simp at this;omega
 have hwl:ws.length <=900000:=by simp at hcnt;omega
 have hn:n=ws.length+1:=ow.len
 have hsl:=ow.all
 have hio:Option.isSome a=true:=hsl.isSome (i:=0) (by simp)
 refine⟨_,_,_,_,rfl,ab.no rfl ?_⟩
 refine⟨λp b w'=>∃k6,p=some ⟨k6,0,none⟩/\b=(dw k qO).isSome/\ao w' k6 aU [vI (rdN k),rdF k]/\bW w3 w',⟨⟨⟨by decide,by omega⟩,hio⟩,?_⟩,λp b=>aJ.of ?_ _⟩
 · have s0:StR w3 (World.drew w3) none none:=⟨eC w3,λ_ h=>(by cases h),λ_ h=>(by cases h),λ_ _ h=>(by cases h),λ_ h=>(by cases h)⟩
   have ld:∀{u:World} {m x:Option Nat},StR w3 u m x->(Instr.loadAt ah (.pointer (aq a (0:Int) 1))).run prog u=.ok (vS k) u:=λS=>Sl.str (hsl.below S.b) rfl
   have rd:∀{u:World} {x:Option Nat} {R:Ending->World->Prop},StR w3 u none x->(∀r u',StR w3 u' (some r) x->R (.returned (.map (some r))) u')->Cf dr #[] u R:=fun{u x R} S h=>aw (xQ u) (by
     rintro _ u' ⟨r,rfl,hr,m,hb⟩
     refine h r u' ⟨aa S.b hb S.b.size,λr' e=>?_,λy hy=>(S.kk y hy).below hb,λr' y e hy=>?_,S.oo⟩
     · rw[<- Option.some.inj e];exact m
     · rw[<- Option.some.inj e]
       have:=(S.kk y hy).lt
       omega)
   have al:∀{u:World} {m:Option Nat} {R:Nat->World->Prop},StR w3 u m none->(∀x u',StR w3 u' m (some x)->R x u')->∀(x:Nat) (u':World),x=u.heap.size->u'=u.alloc (.cells #[vI 0,.nilFunc] aU)->R x u':=fun{u m R} S h x u' hx hu=>by
     have hb:bW u u':=hu▸ai u _
     refine h x u' ⟨aa S.b hb S.b.size,λr e=>(S.mm r e).below hb,λy hy=>?_,λr y e hy=>?_,λy hy=>?_⟩
     · rw[<- Option.some.inj hy];exact ao.new hx hu
     · rw[<- Option.some.inj hy]
       have:=(S.mm r e).lt
       omega
     · rw[<- Option.some.inj hy,hx];exact S.b.size
   have lk:∀{u:World} {r:Nat} {x:Option Nat},StR w3 u (some r) x->(Instr.lookup aI (.map (some r)) (vS k) true).run prog u=.ok (.tuple #[.agg #[vI (rdN k),rdF k],.bool (dw k qO).isSome]) u:=λS=>Tx (S.mm _ rfl) k
   have st:∀{u:World} {m:Option Nat} {x:Nat},StR w3 u m (some x)->∃wx,(Instr.storeAt aU (.pointer (some ⟨x,0,none⟩)) (.agg #[vI (rdN k),rdF k])).run prog u=.ok () wx/\∃k6,(some ⟨x,0,none⟩:Option Addr)=some ⟨k6,0,none⟩/\(dw k qO).isSome=(dw k qO).isSome/\ao wx k6 aU [vI (rdN k),rdF k]/\bW w3 wx:=fun{u m x} S=>by
     have hone:∀v∈[vI (rdN k),rdF k],v.oneCell'=true:=by
       intro v hv
       simp at hv
       rcases hv with rfl|rfl
       · rfl
       · unfold rdF;cases dw k qO <;> rfl
     obtain⟨wx,hs,ha,hg⟩:=(S.kk x rfl).store (P:=prog) pO (i:=0) (v:=.agg #[vI (rdN k),rdF k]) rfl (by decide) hone
     exact⟨wx,hs,x,rfl,rfl,ha,Below.put S.b hg (S.oo x rfl)⟩
   clear bad h2 hB3 hP hlen hcnt hb3 hB2
   repeat' (with_reducible first
     | exact st (by assumption)
     | refine And.intro ?_ ?_
     | refine⟨k,ld (by assumption),?_⟩
     | refine⟨_,_,_,lk (by assumption),?_⟩
     | (refine rd (by assumption) λ_ _ _=>⟨_,rfl,?_⟩)
     | (refine al (by assumption) λ_ _ _=>?_))
 · rintro w4 ⟨k6,rfl,rfl,h6,hb4⟩
   have hB4:=aa hB3 hb4 hB3.size
   have hb24:=aa hb3 hb4 hb3.size
   refine si (w:=w4) (fD k ws.length=true) ?_ ?_
   · refine ab.of (λc1=>?_) (λc1=>?_)
     · refine bad hb24 ?_
       rw[hP,if_neg]
       intro h
       rw[(HQ h).1]at c1;cases c1
     · have c1:(dw k qO).isSome=true:=by simpa using c1
       refine⟨rfl,_,h6.load1 bG rfl (i:=0) rfl,ab.of (λc2=>?_) (λc2=>⟨rfl,?_⟩)⟩
       · refine bad hb24 ?_
         rw[hP,if_neg]
         intro h
         have e:=(HQ h).2
         rw[hn,e,wrap_i64 (by omega) (by omega)]at c2
         simp at c2
       · refine Q5 c1 ?_
         have c2:((n:Nat):Int)=i64.wrap (rdN k+1):=by simpa using c2
         have hN:0 <=rdN k/\rdN k <=4:=by
           unfold rdN
           simp only[qO,dw]
           split
           · decide
           split
           · decide
           split
           · decide
           split <;> decide
         rw[hn,wrap_i64 (by omega) (by omega)]at c2
         exact c2
   · intro hkn
     rw[if_pos hkn]at hP
     have ok:=FV k ws hws
     have hsub:Sl tS w4 zW (iG a c 1 1) (n-1) (c-1) ws:=(hsl.below hb4).from (k:=1) 1 (by simp) rfl
     refine⟨λb p w'=>∃k8,p=some ⟨k8,0,none⟩/\b=(iE k ws).2/\ao w' k8 ak (iE k ws).1.cells/\bW w4 w',⟨rfl,⟨by decide,by omega⟩,?_⟩,λb p=>aJ.of ?_ _⟩
     · obtain⟨d,ud,ag⟩:=UX
       have ld:∀{u:World},bW w4 u->(Instr.loadAt bM (.pointer (some ⟨k6,1,none⟩))).run prog u=.ok (rdF k) u:=λhb=>(h6.below hb).load1 ud ag (i:=1) rfl
       have ca:∀{u:World} {R:Ending->World->Prop},bW w4 u->(∀u',bW w4 u'->bW u u'->R (.returned (.tuple #[(iE k ws).1.v,.bool (iE k ws).2])) u')->pC prog (rdF k) #[.slice (iG a c 1 1) (n-1) (c-1)] u R:=λhb h=>
         Tw hkn (hsub.below hb) hws (he.step (aa hB4 hb hB4.size)) λu' hu=>h u' (aa hb hu hb.size) hu
       have hd:bW w4 (World.drew w4):=eC w4
       have al:∀{u:World} {R:Nat->World->Prop},bW w4 u->(∀x u',ao u' x ak uy.cells->w4.heap.size <=x->bW w4 u'->R x u')->∀(x:Nat) (u':World),x=u.heap.size->u'=u.alloc (.cells dt ak)->R x u':=fun{u R} hb h x u' hx hu=>
         h x u' (ao.new hx hu) (by have:=hb.size;omega) (aa hb (hu▸ai u _) hb.size)
       have st:∀{u:World} {x:Nat},ao u x ak uy.cells->w4.heap.size <=x->bW w4 u->∃wx,(Instr.storeAt ak (.pointer (some ⟨x,0,none⟩)) (iE k ws).1.v).run prog u=.ok () wx/\∃k8,(some ⟨x,0,none⟩:Option Addr)=some ⟨k8,0,none⟩/\(iE k ws).2=(iE k ws).2/\ao wx k8 ak (iE k ws).1.cells/\bW w4 wx:=fun{u x} ha hx hb=>by
         obtain⟨wx,hs,h3,hg⟩:=ec.store0 (OpR.len ok) (OpR.one _) ha cG
         exact⟨wx,hs,x,rfl,rfl,h3,Below.put hb hg hx⟩
       refine⟨⟨rdF k,ld hd,?_,?_⟩,?_⟩
       · exact ca hd λu' hb _=>⟨_,_,rfl,al hb λx u2 ha hx hb2=>st ha hx hb2⟩
       · exact al hd λx u2 ha hx hb2=>ca hb2 λu' hb hu=>⟨_,_,rfl,st (ha.below hu) hx hb⟩
       · exact al hd λx u2 ha hx hb2=>⟨rdF k,ld hb2,ca hb2 λu' hb hu=>⟨_,_,rfl,st (ha.below hu) hx hb⟩⟩
     · rintro w5 ⟨k8,rfl,rfl,h8,hb5⟩
       have hB5:=aa hB4 hb5 hB4.size
       have hb25:=aa hb24 hb5 hb24.size
       have fin:∀(b:Bool),b=(bT s).isSome->∀wq:World,bW w5 wq->∃wx,(Instr.storeAt ak (.pointer (some ⟨k2,0,none⟩)) (iE k ws).1.v).run prog wq=.ok () wx/\∃vr:Value,(bg ak (.pointer (some ⟨k2,0,none⟩))).run prog wx=.ok vr wx/\Ug s w (.tuple #[vr,.bool b]) wx:=λb hb wq hq=>
         ec.fin (K:=λvr wx=>Ug s w (.tuple #[vr,.bool b]) wx) (cs:=(iE k ws).1.cells) (OpR.len ok) (OpR.one _) ((h2.below hb25).below hq) cG (aa hB5 hq hB5.size) hk2w λwx hy=>⟨⟨(iE k ws).1,by rw[hb];rfl,ok.fit,λp hp=>by
           rw[hP]at hp
           split at hp
           · exact Option.some.inj hp
           · cases hp⟩,hy⟩
       refine⟨_,λu hu=>ec.load0 (h8.below hu) (OpR.len ok),ab.of (λc1=>?_) (λc1=>?_)⟩
       · refine⟨_,λu hu=>ec.load0 (h8.below hu) (OpR.len ok),cP (iE k ws).1,λu hu=>?_,fin _ ?_⟩
         · refine(lX ok u (he.step (aa hB5 hu hB5.size))).mono ?_
           rintro _ u' ⟨_,rfl,rfl,hb⟩
           exact⟨rfl,hb⟩
         · rw[hP,c1,Bool.true_and]
           cases cP (iE k ws).1 <;> rfl
       · exact fin _ (by rw[hP,c1];rfl)
theorem OpW.fit {o:OpR}(k:OpW o):o.fit:=⟨k.uo,k.ro⟩
theorem OP {o:OpR}(f:o.fit)(h:cP o=true):OpW o:=by
 obtain⟨h1,h2⟩:=(ls f).1 h
 refine⟨f.uo,f.ro,?_⟩
 have hn:(vC o).n <=9223372036854775807:=by
   unfold vC
   split
   · exact(by decide:(0:Int) <=9223372036854775807)
   split
   · exact(by decide:(0:Int) <=9223372036854775807)
   split
   · rename_i c1 c2 c3
     unfold cX at h1
     rw[if_neg c1,if_neg c2,if_pos c3,Bool.and_eq_true,dTx,dTx]at h1
     show o.n <=_
     omega
   · exact(by decide:(0:Int) <=9223372036854775807)
 rwa [<- h2]at hn
theorem qN {s:List UInt8}{p:OpR}(h:bT s=some p):cP p=true:=by
 have hne:=gQ 32 s []
 obtain⟨k,ws,hcut⟩:∃k ws,bK 32 [] s=k::ws:=by
   cases h:bK 32 [] s with
   | nil=>exact absurd h hne
   | cons k ws=>exact⟨k,ws,rfl⟩
 rw[uA hcut]at h
 split at h
 · cases h
 split at h
 · split at h
   · rename_i hr
     rw[<- Option.some.inj h]
     rw[Bool.and_eq_true]at hr
     exact hr.2
   · cases h
 · cases h
def Je (x:Int×Int×Int):Value:=.agg #[vI x.1,vI x.2.1,vI x.2.2]
def Ky (x:Int×Int×Int):List Value:=[vI x.1,vI x.2.1,vI x.2.2]
theorem xr (x:Int×Int×Int):yM (Ky x):=bI rfl (bI rfl (bI rfl nj))
theorem AV (s:List UInt8):∀x∈ka s,x.length <=s.length:=by
 intro x hx
 unfold ka at hx
 obtain⟨y,hy,rfl⟩:=List.mem_map.1 hx
 have hc:y∈bK 10 [] s:=by
   split at hy
   · exact List.dropLast_subset _ hy
   · exact hy
 have:=fI 10 s [] y hc
 have:=Qa y
 simp at*;omega
theorem nO (f:List UInt8->Option OpR)(i:Nat)(out:List OpR):gK f i [] out=(out,0,0,0):=rfl
theorem lR (f:List UInt8->Option OpR){i:Nat}(x:List UInt8)(r:List (List UInt8))(out:List OpR)(h:i=200):gK f i (x::r) out=([],53,(i:Int)+1,1):=by rw[gK,if_pos h]
theorem nN {f:List UInt8->Option OpR}{i:Nat}{x:List UInt8}(r:List (List UInt8))(out:List OpR)(h:i≠200)(hx:f x=none):gK f i (x::r) out=([],131,(i:Int)+1,1):=by rw[gK,if_neg h,hx]
theorem lS {f:List UInt8->Option OpR}{i:Nat}{x:List UInt8}{o:OpR}(r:List (List UInt8))(out:List OpR)(h:i≠200)(hx:f x=some o):gK f i (x::r) out=gK f (i+1) r (out++[o]):=by rw[gK,if_neg h,hx]
theorem iu:Whl prog aF 3:=⟨⟨_,_,Ig⟩,by kernel_rfl⟩
theorem Tv {w0 w:World}{a:Option Addr}{n c:Nat}{xs:List OpR}(ho:Ow tOp ak w NoB a n c xs)(hf:bU w0.heap.size a)(hb:bW w0 w){x:OpR}(o:OpW x)(hl:xs.length <=1000000):
   ∃(w1:World) (a1:Option Addr) (l1 c1:Nat),(Instr.buildSlice cE 1 #[(0,x.v)]).run prog w=.ok (.slice a1 l1 c1) w1/\
     ∃(w2:World) (a':Option Addr) (n' c':Nat),(Builtin.append_ #[cE,cE] cE #[.slice a n c,.slice a1 l1 c1]).run prog w1=.ok (.slice a' n' c') w2/\
       Ow tOp ak w2 NoB a' n' c' (xs++[x])/\bU w0.heap.size a'/\bW w0 w2:=
 ⟨_,_,_,_,RY o w,C4 Jd rh Cd (by decide) ho hf hb rfl rfl ⟨rfl,o⟩ (by omega)⟩
def Vh (s:List UInt8)(w:World)(v:Value)(w':World):Prop:=∃a n c,v=.tuple #[.slice a n c,Je (fk bT s).2]/\Ow tOp ak w' NoB a n c (fk bT s).1/\bU w.heap.size a/\bW w w'
theorem Nx {w w' w3:World}{k3:Nat}{vs:List Value}(h3:ao w' k3 aF vs)(hv:vs.length=3)(hb3:bW w w3)(hk3:w.heap.size <=k3)(hk:k3<w3.heap.size)(hb:bW w3 w'){s:List UInt8}{a:Option Addr}{n c:Nat}{out:List OpR}(ho:Ow tOp ak w' NoB a n c out)(hf:bU w3.heap.size a)(x y z:Int)(e:fk bT s=(out,x,y,z)):
   ∃wx:World,(Instr.storeAt aF (.pointer (some ⟨k3,0,none⟩)) (.agg #[vI x,vI y,vI z])).run prog w'=.ok () wx/\
     ∃(p q r:Int),(bg aF (.pointer (some ⟨k3,0,none⟩))).run prog wx=.ok (.agg #[vI p,vI q,vI r]) wx/\Vh s w (.tuple #[.slice a n c,.agg #[vI p,vI q,vI r]]) wx:=by
 obtain⟨wx,hs,ha,hg⟩:=iu.store0 (cs:=Ky (x,y,z)) rfl (xr _) h3 hv
 have hB:=aa hb3 hb hb3.size
 refine⟨wx,hs,x,y,z,ao.res (iu.load0 ha rfl),a,n,c,by rw[e];rfl,?_,hf.mono hb3.size,Below.put hB hg hk3⟩
 rw[e]
 exact ho.put (λg hg e=>by have:=hf g hg;omega) hg
theorem jl (s:List UInt8)(w:World)(he:Env w):Cf fW #[vS s] w (Ret (Vh s w)):=by
 apply zr
 intro k3 w3 hk3 hw3
 have hB3:bW w w3:=hw3▸ai w _
 have h3:ao w3 k3 aF (Ky (0,0,0)):=ao.new hk3 hw3
 have hk3w:w.heap.size <=k3:=by omega
 have hk3l:=h3.lt
 have fin:=fun{w':World} {a:Option Addr} {n c:Nat} {out:List OpR} (hb:bW w3 w') (ho:Ow tOp ak w' NoB a n c out) (hf:bU w3.heap.size a) (x y z:Int) e=>Nx (s:=s) (h3.below hb) rfl hB3 hk3w hk3l hb ho hf x y z e
 refine ab.of (λc1=>?_) (λc1=>?_) <;> simp only[gt_iff_lt,dTx,dFx]at c1
 · exact fin (Below.refl _ _) (Ow.nil _ _ _ _) (bU.none _) 54 1 1 (by unfold fk;rw[if_pos (by omega)])
 refine aw (CY s (by omega) w3 (he.step hB3)) ?_
 rintro _ w4 ⟨b,nb,cb,rfl,ob,fb,hb4⟩
 have hL:=AV s
 have hP:fk bT s=gK bT 0 (ka s) []:=by unfold fk;rw[if_neg (by omega)]
 generalize ka s=L at*
 have hsl:=ob.all
 have hnb:nb=L.length:=ob.len
 refine⟨_,_,_,rfl,λm a n c i w'=>∃(j:Nat) (out:List OpR),j <=L.length/\i=(j:Int)/\m=L.length-j/\out.length=j/\j <=200/\Ow tOp ak w' NoB a n c out/\bU w4.heap.size a/\bW w4 w'/\fk bT s=gK bT j (L.drop j) out,⟨_,0,[],Nat.zero_le _,rfl,rfl,rfl,by decide,Ow.nil _ _ _ _,bU.none _,Below.refl _ _,hP⟩,λm a n c i=>aJ.of ?_ _⟩
 rintro w5 ⟨j,out,hj,rfl,rfl,hol,hj2,oo,fo,hb45,hQ⟩
 have hb5:=aa hb4 hb45 hb4.size
 refine ab.of (λc2=>?_) (λc2=>?_) <;> simp only[dTx,dFx]at c2
 · have hjl:j<L.length:=by omega
   rw[List.drop_eq_getElem_cons hjl]at hQ
   refine⟨⟨⟨by omega,c2⟩,hsl.isSome hjl⟩,L[j],Sl.str (hsl.below hb45) (by rw[Int.toNat_natCast];exact List.getElem?_eq_getElem hjl),?_⟩
   have ew:i64.wrap ((j:Int)+1)=(j:Int)+1:=wrap_i64 (by omega) (by omega)
   try dsimp only
   rw[ew]
   refine ab.of (λc3=>?_) (λc3=>?_)
   · have c3:j=200:=by simp at c3;omega
     exact fin hb5 (Ow.nil _ _ _ _) (bU.none _) 53 _ 1 (by rw[hQ,lR _ _ _ _ c3])
   · have c3:j≠200:=by simp at c3;omega
     have hB5:=aa hB3 hb5 hB3.size
     have hxl:L[j].length <=900000:=by have:=hL _ (List.getElem_mem hjl);omega
     refine aw (zu L[j] hxl w5 (he.step hB5)) ?_
     rintro _ w6 ⟨⟨o,rfl,of,hop⟩,hb6⟩
     have hb56:=aa hb5 hb6 hb5.size
     refine⟨_,_,rfl,ec.new (zs:=uy.cells) (cs:=o.cells) cG (OpR.len' of) (OpR.one _) w6 λk7 w7 hk7 h7 hb7=>?_⟩
     have hb57:=aa hb56 hb7 hb56.size
     have hb47:=aa (aa hb45 hb6 hb45.size) hb7 (aa hb45 hb6 hb45.size).size
     refine ab.of (λc4=>?_) (λc4=>?_)
     · have c4:bT L[j]=none:=by cases h:bT L[j]with
         | none=>rfl
         | some p=>rw[h]at c4;cases c4
       exact fin hb57 (Ow.nil _ _ _ _) (bU.none _) 131 _ 1 (by rw[hQ,nN _ _ c3 c4])
     · obtain⟨p,hp⟩:∃p,bT L[j]=some p:=by cases h:bT L[j]with
         | none=>rw[h]at c4;cases c4
         | some p=>exact⟨p,rfl⟩
       have e:=hop p hp
       subst e
       refine⟨_,ec.load0 h7 (OpR.len' of),?_⟩
       obtain⟨w8,a8,l8,c8,r8,w9,a9,n9,c9,r9,o9,f9,hb9⟩:=Tv ((oo.below hb6).below hb7) fo hb47 (OP of (qN hp)) (by omega)
       exact⟨w8,a8,l8,c8,r8,w9,a9,n9,c9,r9,L.length-(j+1),by omega,j+1,out++[o],by omega,by omega,rfl,by simp;omega,by omega,o9,f9,hb9,by rw[hQ,lS _ _ c3 hp]⟩
 · have:j=L.length:=by omega
   subst this
   rw[List.drop_length,nO]at hQ
   exact fin hb5 oo (fo.mono hb4.size) 0 0 0 hQ
structure Plc where
 name:List UInt8
 host:Hst
 only:Bool
 path:List UInt8
 hk:host.ok
instance:DecidableEq Hst:=λa b=>decidable_of_iff (a.kind=b.kind/\a.name=b.name/\a.ad=b.ad) (by cases a;cases b;simp)
instance:DecidableEq Plc:=λa b=>decidable_of_iff (a.name=b.name/\a.host=b.host/\a.only=b.only/\a.path=b.path) (by cases a;cases b;simp)
def Cky.plc (c:Cky)(o:c.ok):Plc:=⟨c.name,c.host,c.only,c.path,o⟩
structure Kpt where
 c:Cky
 site:List UInt8
 ok:c.ok
def Kpt.plc (k:Kpt):Plc:=k.c.plc k.ok
structure ShI (L:List Kpt)(last:Int):Prop where
 up:L.Pairwise λa b=>a.c.seq<b.c.seq
 lo:∀k∈L,1 <=k.c.seq/\k.c.seq <=last
 key:L.Pairwise λa b=>a.plc≠b.plc
 l0:0 <=last
def atK (L:List Kpt)(p:Plc):Option Kpt:=L.find? λk=>decide (k.plc=p)
def zR (L:List Kpt)(last:Int)(c:Kpt):List Kpt×Int:=
 match atK L c.plc with
 | some o=>(L.map λk=>if k.plc=c.plc then⟨{ c.c with born:=o.c.born,seq:=o.c.seq },c.site,c.ok⟩ else k,last)
 | none=>(L++[⟨{ c.c with seq:=last+1 },c.site,c.ok⟩],last+1)
def fq (L:List Kpt)(p:Plc):List Kpt:=L.filter λk=> !decide (k.plc=p)
def IC (L:List Kpt)(p:Plc)(now:Int):List Kpt:=L.map λk=>if k.plc=p then⟨{ k.c with used:=now },k.site,k.ok⟩ else k
def PG (L:List Kpt)(now:Int):List Kpt:=L.filter λk=>decide (now<k.c.exp)
def j1 (L:List Kpt)(s:List UInt8):Nat:=L.countP λk=>decide (k.site=s)
def Vz (of:Kpt->Bool):List Kpt->Option Kpt->Option Kpt
 | [],b=>b
 | k::r,b=>Vz of r (if of k=true then(match b with|none=>some k|some x=>if k.c.used<x.c.used then some k else some x)else b)
def KS (L:List Kpt)(of:Kpt->Bool):Option Kpt:=Vz of L none
theorem mz {L:List Kpt}{p:Plc}{k:Kpt}(h:atK L p=some k):k∈L/\k.plc=p:=by
 unfold atK at h
 exact⟨List.mem_of_find?_eq_some h,by simpa using List.find?_some h⟩
theorem rR {L:List Kpt}{p:Plc}(h:atK L p=none):∀k∈L,k.plc≠p:=λk hk=>by
 unfold atK at h
 simpa using List.find?_eq_none.1 h k hk
theorem ShI.nil:ShI [] 0:=⟨List.Pairwise.nil,(λk h=>by cases h),List.Pairwise.nil,Int.le_refl _⟩
theorem ShI.filter {L:List Kpt}{last:Int}(h:ShI L last)(p:Kpt->Bool):ShI (L.filter p) last:=
 ⟨h.up.filter p,λk hk=>h.lo k (List.mem_filter.1 hk).1,h.key.filter p,h.l0⟩
theorem ShI.use {L:List Kpt}{last:Int}(h:ShI L last)(p:Plc)(now:Int):ShI (IC L p now) last:=by
 have e:∀k:Kpt,(if k.plc=p then(⟨{ k.c with used:=now },k.site,k.ok⟩:Kpt)else k).c.seq=k.c.seq/\(if k.plc=p then(⟨{ k.c with used:=now },k.site,k.ok⟩:Kpt)else k).plc=k.plc:=by
   intro k;split <;> exact⟨rfl,rfl⟩
 unfold IC
 refine⟨?_,?_,?_,h.l0⟩
 · rw[List.pairwise_map];exact h.up.imp fun{a b} hab=>by rw[(e a).1,(e b).1];exact hab
 · intro k hk
   obtain⟨x,hx,rfl⟩:=List.mem_map.1 hk
   rw[(e x).1];exact h.lo x hx
 · rw[List.pairwise_map];exact h.key.imp fun{a b} hab=>by rw[(e a).2,(e b).2];exact hab
theorem ShI.put {L:List Kpt}{last:Int}(h:ShI L last)(c:Kpt):ShI (zR L last c).1 (zR L last c).2:=by
 unfold zR
 cases ha:atK L c.plc with
 | none=>
   have hn:=rR ha
   refine⟨?_,?_,?_,by have:=h.l0;show 0 <=last+1;omega⟩
   · rw[List.pairwise_append]
     refine⟨h.up,List.pairwise_singleton _ _,λa ha' b hb=>?_⟩
     rw[List.mem_singleton.1 hb]
     have:=(h.lo a ha').2
     show a.c.seq<last+1
     omega
   · intro k hk
     rcases List.mem_append.1 hk with hk|hk
     · have:=h.lo k hk
       exact⟨this.1,by show k.c.seq <=last+1;omega⟩
     · rw[List.mem_singleton.1 hk]
       have:=h.l0
       exact⟨by show 1 <=last+1;omega,Int.le_refl _⟩
   · rw[List.pairwise_append]
     refine⟨h.key,List.pairwise_singleton _ _,λa ha' b hb=>?_⟩
     rw[List.mem_singleton.1 hb]
     exact hn a ha'
 | some o=>
   obtain⟨ho,hp⟩:=mz ha
   have one:∀k∈L,k.plc=c.plc->k.c.seq=o.c.seq:=λk hk hkp=>by
     have:k=o:=by
       by_cases e:k=o
       · exact e
       · exact absurd (hkp.trans hp.symm) (by
           have:=h.key
           rcases List.mem_iff_getElem.1 hk with⟨i,hi,rfl⟩
           rcases List.mem_iff_getElem.1 ho with⟨j,hj,rfl⟩
           have hij:i≠j:=λx=>e (by subst x;rfl)
           have hpw:=List.pairwise_iff_getElem.1 h.key
           rcases Nat.lt_or_gt_of_ne hij with hl|hl
           · exact hpw i j hi hj hl
           · exact λx=>hpw j i hj hi hl x.symm)
     rw[this]
   have e:∀k∈L,(if k.plc=c.plc then(⟨{ c.c with born:=o.c.born,seq:=o.c.seq },c.site,c.ok⟩:Kpt)else k).c.seq=k.c.seq/\(if k.plc=c.plc then(⟨{ c.c with born:=o.c.born,seq:=o.c.seq },c.site,c.ok⟩:Kpt)else k).plc=k.plc:=by
     intro k hk
     split
     · rename_i hkp;exact⟨(one k hk hkp).symm,hkp.symm⟩
     · exact⟨rfl,rfl⟩
   refine⟨?_,?_,?_,h.l0⟩
   · rw[List.pairwise_map]
     exact List.Pairwise.imp_of_mem (fun{a b} ha hb hab=>by rw[(e a ha).1,(e b hb).1];exact hab) h.up
   · intro k hk
     obtain⟨x,hx,rfl⟩:=List.mem_map.1 hk
     rw[(e x hx).1];exact h.lo x hx
   · rw[List.pairwise_map]
     exact List.Pairwise.imp_of_mem (fun{a b} ha hb hab=>by rw[(e a ha).2,(e b hb).2];exact hab) h.key
structure xU (M:List (Plc×Kpt))(L:List Kpt):Prop where
 perm:(M.map (·.2)).Perm L
 own:∀q∈M,q.1=q.2.plc
theorem xU.nil:xU [] []:=⟨List.Perm.refl _,λq h=>by cases h⟩
theorem xU.keys {M:List (Plc×Kpt)}{L:List Kpt}(h:xU M L):(M.map (·.1)).Perm (L.map Kpt.plc):=by
 have e:M.map (·.1)=(M.map (·.2)).map Kpt.plc:=by
   rw[List.map_map]
   exact List.map_congr_left λq hq=>h.own q hq
 rw[e];exact h.perm.map _
theorem xU.nodup {M:List (Plc×Kpt)}{L:List Kpt}{last:Int}(h:xU M L)(s:ShI L last):(M.map (·.1)).Nodup:=by
 rw[h.keys.nodup_iff]
 have:=s.key
 rw[List.Nodup,List.pairwise_map]
 exact this
theorem FJ {α β:Type}[DecidableEq α]{k:α}{v:β} :∀{l:List (α×β)},dw k l=some v->(k,v)∈l
 | [],h=>by cases h
 | (k',v')::l,h=>by
   unfold dw at h
   split at h
   · rename_i e;subst e;cases h;exact List.mem_cons_self
   · exact List.mem_cons_of_mem _ (FJ h)
theorem AZ {α β:Type}[DecidableEq α]{k:α}{v:β} :∀{l:List (α×β)},(l.map (·.1)).Nodup->(k,v)∈l->dw k l=some v
 | [],_,h=>by cases h
 | (k',v')::l,hn,h=>by
   rw[List.map_cons,List.nodup_cons]at hn
   unfold dw
   rcases List.mem_cons.1 h with e|h
   · cases e;rw[if_pos rfl]
   · rw[if_neg,AZ hn.2 h]
     intro e
     exact hn.1 (List.mem_map.2 ⟨(k,v),h,e⟩)
theorem xU.look {M:List (Plc×Kpt)}{L:List Kpt}{last:Int}(h:xU M L)(s:ShI L last)(p:Plc):dw p M=atK L p:=by
 cases ha:atK L p with
 | some k=>
   obtain⟨hk,hp⟩:=mz ha
   obtain⟨q,hq,e⟩:=List.mem_map.1 (h.perm.mem_iff.2 hk)
   refine AZ (h.nodup s) ?_
   have:q=(p,k):=Prod.ext ((h.own q hq).trans (by rw[e,hp])) e
   rw[<- this];exact hq
 | none=>
   cases hl:dw p M with
   | none=>rfl
   | some v=>
     have hm:=FJ hl
     exact absurd (h.own _ hm).symm (rR ha v (h.perm.mem_iff.1 (List.mem_map.2 ⟨_,hm,rfl⟩)))
theorem xU.drop {M:List (Plc×Kpt)}{L:List Kpt}(h:xU M L)(p:Plc):xU (M.filter λq=> !decide (q.1=p)) (fq L p):=by
 refine⟨?_,λq hq=>h.own q (List.mem_filter.1 hq).1⟩
 have e:(M.filter λq=> !decide (q.1=p)).map (·.2)=(M.map (·.2)).filter λk=> !decide (k.plc=p):=by
   rw[List.filter_map]
   congr 1
   exact List.filter_congr λq hq=>by rw[h.own q hq];rfl
 rw[e]
 exact h.perm.filter _
open Go.ChangeMaps (setBlock)
section
variable {α β:Type} [DecidableEq α]
def sf (ek:α->Value)(ev:β->Value)(w:World)(r:Nat)(kvs:List (α×β)):Prop:=
 ∃es clock,w.heap[r]? =some (.map es clock)/\KVg ek ev es.toList kvs/\(es.toList.map (·.born)).Nodup/\∀e∈es.toList,e.born<clock
variable {ek:α->Value} {ev:β->Value}
theorem sf.g {w:World}{r:Nat}{kvs:List (α×β)}(h:sf ek ev w r kvs):sy ek ev w r kvs:=by
 obtain⟨es,c,hh,hk,_⟩:=h
 exact⟨es,c,hh,hk⟩
theorem sf.lt {w:World}{r:Nat}{kvs:List (α×β)}(h:sf ek ev w r kvs):r<w.heap.size:=h.g.lt
theorem sf.keep {w w':World}{r:Nat}{kvs:List (α×β)}(h:sf ek ev w r kvs)(hb:w'.heap[r]? =w.heap[r]?):sf ek ev w' r kvs:=by
 obtain⟨es,c,hh,hk⟩:=h
 exact⟨es,c,hb.trans hh,hk⟩
theorem sf.below {w w':World}{r:Nat}{kvs:List (α×β)}(h:sf ek ev w r kvs)(hb:bW w w'):sf ek ev w' r kvs:=h.keep (hb.block r h.lt)
theorem sf.grown {w w':World}{r:Nat}{kvs:List (α×β)}(h:sf ek ev w r kvs){k:Nat}(hg:w.grownBy w' (some k))(hne:r≠k):sf ek ev w' r kvs:=h.keep (hg.block r h.lt λe=>hne (Option.some.inj e))
theorem sf.new {w w':World}{r:Nat}(hr:r=w.heap.size)(hw:w'=w.alloc (.map #[] 0)):sf ek ev w' r []:=by
 subst hr hw
 exact⟨#[],0,heap_alloc_new w _,rfl,List.nodup_nil,λe he=>by cases he⟩
theorem vi {γ δ:Type}(f:γ->δ):∀(l:List γ) (i:Nat),(l.eraseIdx i).map f=(l.map f).eraseIdx i
 | [],_=>rfl
 | x::l,0=>rfl
 | x::l,i+1=>by
   show f x::(l.eraseIdx i).map f=f x::(l.map f).eraseIdx i
   rw[vi f l i]
def PF (k:α)(kvs:List (α×β)):List (α×β):=match fj k kvs 0 with
 | some (i,_)=>kvs.eraseIdx i
 | none=>kvs
theorem N0 {es:List MapEntry}{kvs:List (α×β)}(h:KVg ek ev es kvs)(i:Nat):KVg ek ev (es.eraseIdx i) (kvs.eraseIdx i):=by
 unfold KVg at h ⊢
 rw[vi,vi,h]
theorem Jr {es:List MapEntry}{kvs:List (α×β)}(h:KVg ek ev es kvs):es.length=kvs.length:=by
 have:=congrArg List.length h
 simpa using this
theorem sa {P:Program}{w:World}{r:Nat}{es:Array MapEntry}{c:Nat}(h:w.heap[r]? =some (.map es c))(o:Obj):(setObj r o).run P w=.ok () { w with heap:=w.heap.setIfInBounds r o } :=by
 simp only[setObj,Sem.run,h]
theorem qG {w:World}{r:Nat}(o:Obj):w.grownBy { w with heap:=w.heap.setIfInBounds r o } (some r):=
 ⟨rfl,rfl,rfl,by simp,λj hj hne=>by
   have:r≠j:=λe=>hne (by rw[e])
   simp[Array.getElem?_setIfInBounds_ne this]⟩
theorem sf.del {P:Program}{mt kt et:TypeId}(hm:P.underlying mt=some (.map kt et))(hk:qb P kt ek){w:World}{r:Nat}{kvs:List (α×β)}(h:sf ek ev w r kvs)(k:α)(ts:Array TypeId)(t:TypeId)(ht:ts[0]? =some mt):
   ∃w',(Builtin.delete_ ts t #[.map (some r),ek k]).run P w=.ok (.tuple #[]) w'/\sf ek ev w' r (PF k kvs)/\w.grownBy w' (some r):=by
 obtain⟨es,c,hh,hkv,hn,hc⟩:=h
 have hlt:r<w.heap.size:=(Array.getElem?_eq_some_iff.1 hh).1
 unfold Builtin.delete_ PF
 cases hi:fj k kvs 0 with
 | none=>
   refine⟨_,?_,⟨es,c,?_,hkv,hn,hc⟩,qG (.map es c)⟩
   · simp only[ht,List.getElem?_toArray,List.getElem?_cons_zero,List.getElem?_cons_succ,Sem.run_bind,bD hm,Result.andThen_ok,pd hh,hk.check,hk.find ev k _ _ _ hkv,hi,Option.map_none,sa hh,Sem.run_pure]
   · simp[hlt]
 | some p=>
   obtain⟨i,v⟩:=p
   refine⟨_,?_,⟨es.eraseIdxIfInBounds i,c,?_,?_,?_,?_⟩,qG (.map (es.eraseIdxIfInBounds i) c)⟩
   · simp only[ht,List.getElem?_toArray,List.getElem?_cons_zero,List.getElem?_cons_succ,Sem.run_bind,bD hm,Result.andThen_ok,pd hh,hk.check,hk.find ev k _ _ _ hkv,hi,Option.map_some,sa hh,Sem.run_pure]
   · simp[hlt]
   · rw[Array.toList_eraseIdxIfInBounds];exact N0 hkv i
   · rw[Array.toList_eraseIdxIfInBounds,vi]
     exact hn.sublist (List.eraseIdx_sublist _ _)
   · rw[Array.toList_eraseIdxIfInBounds]
     exact λe he=>hc e (List.mem_of_mem_eraseIdx he)
def upG (k:α)(v:β)(kvs:List (α×β)):List (α×β):=match fj k kvs 0 with
 | some (i,_)=>kvs.set i (k,v)
 | none=>kvs++[(k,v)]
theorem nJ (k:α):∀(l:List (α×β)) (i j:Nat) (v:β),fj k l i=some (j,v)->i <=j/\l[j-i]? =some (k,v)
 | [],i,j,v,h=>by cases h
 | (k',v')::l,i,j,v,h=>by
   unfold fj at h
   split at h
   · rename_i e
     subst e
     cases h
     exact⟨Nat.le_refl _,by rw[Nat.sub_self];rfl⟩
   · obtain⟨h1,h2⟩:=nJ k l (i+1) j v h
     refine⟨by omega,?_⟩
     rw[show j-i=(j-(i+1))+1 by omega,List.getElem?_cons_succ]
     exact h2
theorem LV {es:List MapEntry}{kvs:List (α×β)}(h:KVg ek ev es kvs){i:Nat}{k:α}{v v':β}(hi:kvs[i]? =some (k,v'))(f:MapEntry->MapEntry)(hf:∀e,e.key=ek k->(f e).key=ek k/\(f e).val=ev v):KVg ek ev (es.modify i f) (kvs.set i (k,v)):=by
 unfold KVg at h ⊢
 apply List.ext_getElem?
 intro j
 have hj:=congrArg (λl=>l[j]?) h
 simp only[List.getElem?_map]at hj ⊢
 rw[List.getElem?_modify,List.getElem?_set]
 by_cases e:i=j
 · subst e
   rw[if_pos rfl]
   rw[hi]at hj
   cases he:es[i]? with
   | none=>rw[he]at hj;cases hj
   | some x=>
     rw[he]at hj
     have hx:x.key=ek k:=congrArg Prod.fst (Option.some.inj hj)
     obtain⟨f1,f2⟩:=hf x hx
     have hlt:i<kvs.length:=(List.getElem?_eq_some_iff.1 hi).1
     rw[if_pos hlt]
     simp[f1,f2]
 · rw[if_neg e]
   cases he:es[j]? with
   | none=>rw[he]at hj;simpa using hj
   | some x=>rw[he]at hj;simpa[e]using hj
theorem Ah (es:List MapEntry)(i:Nat)(f:MapEntry->MapEntry)(hf:∀e,(f e).born=e.born):(es.modify i f).map (·.born)=es.map (·.born):=by
 apply List.ext_getElem?
 intro j
 rw[List.getElem?_map,List.getElem?_map,List.getElem?_modify]
 cases es[j]? with
 | none=>rfl
 | some x=>by_cases e:i=j <;> simp[e,hf]
theorem SG {es es':List MapEntry}{c:Nat}(h:∀e∈es,e.born<c)(he:es'.map (·.born)=es.map (·.born)):∀e∈es',e.born<c:=λe hm=>by
 have:e.born∈es.map (·.born):=by rw[<- he];exact List.mem_map.2 ⟨e,hm,rfl⟩
 obtain⟨x,hx,hxe⟩:=List.mem_map.1 this
 rw[<- hxe];exact h x hx
theorem stays {P:Program}{v:Value}(h:Instr.sameBits 10000 v v=true)(w:World):(Instr.keyThatStays v v).run P w=.ok v w:=by
 unfold Instr.keyThatStays
 rw[if_pos h];rfl
theorem sf.up {P:Program}{mt kt et:TypeId}(hm:P.underlying mt=some (.map kt et))(hk:qb P kt ek)(hs:∀k,Instr.sameBits 10000 (ek k) (ek k)=true){w:World}{r:Nat}{kvs:List (α×β)}(h:sf ek ev w r kvs)(k:α)(v:β):
   ∃w',(Instr.mapUpdate mt (.map (some r)) (ek k) (ev v)).run P w=.ok () w'/\sf ek ev w' r (upG k v kvs)/\w.grownBy w' (some r):=by
 obtain⟨es,c,hh,hkv,hn,hc⟩:=h
 have hlt:r<w.heap.size:=(Array.getElem?_eq_some_iff.1 hh).1
 unfold Instr.mapUpdate upG
 cases hi:fj k kvs 0 with
 | none=>
   refine⟨_,?_,⟨es.push { key:=ek k,val:=ev v,born:=c },c+1,?_,?_,?_,?_⟩,qG (.map (es.push { key:=ek k,val:=ev v,born:=c }) (c+1))⟩
   · simp only[Sem.run_bind,bD hm,Result.andThen_ok,pd hh,hk.check,hk.find ev k _ _ _ hkv,hi,Option.map_none,sa hh]
   · simp[hlt]
   · unfold KVg at hkv ⊢
     simp only[Array.toList_push,List.map_append,List.map_cons,List.map_nil,hkv]
   · rw[Array.toList_push,List.map_append,List.nodup_append]
     refine⟨hn,by simp,λa ha b hb=>?_⟩
     obtain⟨e,he,rfl⟩:=List.mem_map.1 ha
     simp only[List.map_cons,List.map_nil,List.mem_singleton]at hb
     have:=hc e he
     omega
   · intro e he
     rw[Array.toList_push]at he
     rcases List.mem_append.1 he with he|he
     · have:=hc e he;omega
     · rw[List.mem_singleton.1 he];exact Nat.lt_succ_self _
 | some p=>
   obtain⟨i,v'⟩:=p
   obtain⟨_,hat⟩:=nJ k kvs 0 i v' hi
   rw[Nat.sub_zero]at hat
   have hkey:((es[i]?).map (·.key)).getD (ek k)=ek k:=by
     have:=congrArg (λl=>l[i]?) hkv
     simp only[List.getElem?_map,hat,Array.getElem?_toList]at this
     cases he:es[i]? with
     | none=>rfl
     | some x=>
       rw[he]at this
       exact congrArg Prod.fst (Option.some.inj this)
   refine⟨_,?_,⟨es.modify i (λe=> { e with key:=ek k,val:=ev v }),c,?_,?_,?_,?_⟩,qG (.map (es.modify i λe=> { e with key:=ek k,val:=ev v }) c)⟩
   · simp only[Sem.run_bind,bD hm,Result.andThen_ok,pd hh,hk.check,hk.find ev k _ _ _ hkv,hi,Option.map_some,hkey,stays (hs k),sa hh]
   · simp[hlt]
   · rw[Array.toList_modify];exact LV hkv hat _ λe _=>⟨rfl,rfl⟩
   · rw[Array.toList_modify,Ah es.toList i (λe=> { e with key:=ek k,val:=ev v }) (λe=>rfl)];exact hn
   · rw[Array.toList_modify];exact SG hc (Ah es.toList i (λe=> { e with key:=ek k,val:=ev v }) (λe=>rfl))
def gg (ek:α->Value)(ev:β->Value)(w:World)(r m:Nat)(kvs left:List (α×β)):Prop:=
 ∃since seen c0 es clock,w.heap[r]? =some (.mapIter (some m) since seen c0)/\w.heap[m]? =some (.map es clock)/\KVg ek ev es.toList kvs/\(es.toList.map (·.born)).Nodup/\(∀e∈es.toList,e.born<clock)/\(∀e∈es.toList,e.born<since)/\since <=c0/\since <=clock/\KVg ek ev (leftOf es seen).toList left
theorem gg.map {w:World}{r m:Nat}{kvs left:List (α×β)}(h:gg ek ev w r m kvs left):sf ek ev w m kvs:=by
 obtain⟨_,_,_,es,c,_,h2,h3,h4,h5,_⟩:=h
 exact⟨es,c,h2,h3,h4,h5⟩
theorem gg.keep {w w':World}{r m:Nat}{kvs left:List (α×β)}(h:gg ek ev w r m kvs left)(hr:w'.heap[r]? =w.heap[r]?)(hm:w'.heap[m]? =w.heap[m]?):gg ek ev w' r m kvs left:=by
 obtain⟨a,b,c,d,e,h1,h2,h3⟩:=h
 exact⟨a,b,c,d,e,hr.trans h1,hm.trans h2,h3⟩
theorem gg.lt {w:World}{r m:Nat}{kvs left:List (α×β)}(h:gg ek ev w r m kvs left):r<w.heap.size:=by
 obtain⟨_,_,_,_,_,h1,_⟩:=h
 exact(Array.getElem?_eq_some_iff.1 h1).1
theorem gg.below {w w':World}{r m:Nat}{kvs left:List (α×β)}(h:gg ek ev w r m kvs left)(hb:bW w w'):gg ek ev w' r m kvs left:=h.keep (hb.block r h.lt) (hb.block m h.map.lt)
theorem vH {P:Program}{mt kt et:TypeId}(hm:P.underlying mt=some (.map kt et)){w:World}{m:Nat}{kvs:List (α×β)}(h:sf ek ev w m kvs):
   ∃w',(Instr.range mt (.map (some m))).run P w=.ok (.pointer (some ⟨w.heap.size,0,none⟩)) w'/\gg ek ev w' w.heap.size m kvs kvs/\bW w w':=by
 obtain⟨es,c,hh,hkv,hn,hc⟩:=h
 refine⟨w.alloc (.mapIter (some m) c #[] c),?_,⟨c,#[],c,es,c,heap_alloc_new w _,?_,hkv,hn,hc,hc,Nat.le_refl _,Nat.le_refl _,?_⟩,ai w _⟩
 · unfold Instr.range
   simp only[Sem.run_bind,bD hm,Result.andThen_ok,pd hh,Sem.run_pure]
   rfl
 · exact((ai w _).block m (Array.getElem?_eq_some_iff.1 hh).1).trans hh
 · have:leftOf es #[]=es:=by
     unfold leftOf
     rw[Array.filter_eq_self]
     intro e he
     simp
   rw[this];exact hkv
theorem filter_one {γ:Type}(f:γ->Nat):∀(l:List γ) (e:γ),(l.map f).Nodup->e∈l->∃l1 l2,l=l1++e::l2/\l.filter (λx=> !decide (f x=f e))=l1++l2
 | [],e,_,h=>by cases h
 | x::l,e,hn,h=>by
   rw[List.map_cons,List.nodup_cons]at hn
   rcases List.mem_cons.1 h with rfl|h
   · refine⟨[],l,rfl,?_⟩
     rw[List.filter_cons,if_neg (by simp),List.nil_append,List.filter_eq_self]
     intro y hy
     have:f y≠f e:=λc=>hn.1 (List.mem_map.2 ⟨y,hy,c⟩)
     simp[this]
   · obtain⟨l1,l2,h1,h2⟩:=filter_one f l e hn.2 h
     refine⟨x::l1,l2,by rw[h1];rfl,?_⟩
     have:f x≠f e:=λc=>hn.1 (List.mem_map.2 ⟨e,h,c.symm⟩)
     rw[List.filter_cons,if_pos (by simp[this]),h2];rfl
theorem gg.step {P:Program}{w:World}{r m:Nat}{kvs left:List (α×β)}(h:gg ek ev w r m kvs left)(hne:r≠m)(ty:TypeId):
   (left=[]/\(Instr.next (.pointer (some ⟨r,0,none⟩)) false ty).run P w=.ok (.tuple #[.bool false]) w)\/
   ∃l1 k v l2 w',left=l1++(k,v)::l2/\(Instr.next (.pointer (some ⟨r,0,none⟩)) false ty).run P w=.ok (.tuple #[.bool true,ek k,ev v]) w'/\gg ek ev w' r m kvs (l1++l2)/\(Instr.entry (.pointer (some ⟨r,0,none⟩))).run P w'=.ok (.tuple #[ek k,ev v]) w'/\w.grownBy w' (some r):=by
 obtain⟨since,seen,c0,es,clock,hr,hm,hkv,hn,hc,hs,hsc,hsk,hl⟩:=h
 rcases run_next_at (P:=P) w ty r m since c0 seen es clock hr hm hs hsc with⟨h0,hrun⟩|⟨e,he,w1,hw1,hrun⟩
 · refine .inl ⟨?_,hrun⟩
   have:=Jr hl
   rw[Array.length_toList,h0]at this
   exact List.eq_nil_of_length_eq_zero this.symm
 · refine .inr ?_
   have hrl:r<w.heap.size:=(Array.getElem?_eq_some_iff.1 hr).1
   have hhp:w1.heap=w.heap:=by rcases hw1 with rfl|rfl <;> rfl
   have hel:=mem_left he
   have hleft:(leftOf es (seen.push e.born)).toList=(leftOf es seen).toList.filter λx=> !decide (x.born=e.born):=by
     unfold leftOf
     rw[Array.toList_filter,Array.toList_filter,List.filter_filter]
     exact List.filter_congr λx hx=>by
       rw[Bool.eq_iff_iff]
       simp[Array.mem_push,and_comm]
   have hnl:((leftOf es seen).toList.map (·.born)).Nodup:=by
     unfold leftOf
     rw[Array.toList_filter]
     exact hn.sublist ((List.filter_sublist).map _)
   obtain⟨l1,l2,e1,e2⟩:=filter_one (·.born) _ e hnl he
   have hkl:=hl
   unfold KVg at hkl
   rw[e1,List.map_append,List.map_cons]at hkl
   obtain⟨q1,q2,hq,hq1,hq2⟩:=List.map_eq_append_iff.1 hkl.symm
   cases q2 with
   | nil=>cases hq2
   | cons p q2=>
     obtain⟨k,v⟩:=p
     rw[List.map_cons,List.cons.injEq]at hq2
     have hkey:e.key=ek k:=(congrArg Prod.fst hq2.1).symm
     have hval:e.val=ev v:=(congrArg Prod.snd hq2.1).symm
     have hset:(setBlock w1 r (.mapIter (some m) since (seen.push e.born) clock)).heap[r]? =some (.mapIter (some m) since (seen.push e.born) clock):=by
       unfold setBlock
       simp[hhp,hrl]
     have hset2:(setBlock w1 r (.mapIter (some m) since (seen.push e.born) clock)).heap[m]? =some (.map es clock):=by
       unfold setBlock
       simp only[hhp]
       rw[Array.getElem?_setIfInBounds_ne hne];exact hm
     refine⟨q1,k,v,q2,setBlock w1 r (.mapIter (some m) since (seen.push e.born) clock),hq,?_,⟨since,seen.push e.born,clock,es,clock,hset,hset2,hkv,hn,hc,hs,hsk,hsk,?_⟩,?_,?_⟩
     · rw[<- hkey,<- hval];exact hrun
     · unfold KVg
       rw[hleft,e2,List.map_append,List.map_append,hq1,hq2.2]
     · rw[<- hkey,<- hval]
       exact run_entry_at _ r m since seen es clock e hset hset2 hel.1 hn
     · rcases hw1 with rfl|rfl
       · exact qG _
       · have hd:=eC w
         refine⟨hd.os,hd.tape,hd.output,?_,λj hj hnj=>?_⟩
         · have:=hd.size
           show _ <=(Array.setIfInBounds _ _ _).size
           rw[Array.size_setIfInBounds];exact this
         · have:r≠j:=λc=>hnj (by rw[c])
           show(Array.setIfInBounds _ _ _)[j]? =_
           rw[Array.getElem?_setIfInBounds_ne this]
           exact hd.block j hj
end
section
variable {α β:Type} [DecidableEq α]
theorem AY {k:α} :∀{l:List (α×β)} {i:Nat},fj k l i=none->∀q∈l,q.1≠k
 | [],_,_,q,hq=>by cases hq
 | (k',v')::l,i,h,q,hq=>by
   unfold fj at h
   split at h
   · cases h
   · rename_i e
     rcases List.mem_cons.1 hq with rfl|hq
     · exact λx=>e x.symm
     · exact AY h q hq
theorem tY {k:α} :∀{l:List (α×β)},(l.map (·.1)).Nodup->PF k l=l.filter λq=> !decide (q.1=k):=by
 intro l hn
 unfold PF
 cases hi:fj k l 0 with
 | none=>
   rw[List.filter_eq_self.2]
   intro q hq
   simpa using AY hi q hq
 | some p=>
   obtain⟨i,v⟩:=p
   obtain⟨_,hat⟩:=nJ k l 0 i v hi
   rw[Nat.sub_zero]at hat
   obtain⟨hlt,he⟩:=List.getElem?_eq_some_iff.1 hat
   have hs:l=l.take i++(k,v)::l.drop (i+1):=by
     conv=>lhs;rw[<- List.take_append_drop i l,List.drop_eq_getElem_cons hlt,he]
   show l.eraseIdx i=_
   rw[List.eraseIdx_eq_take_drop_succ]
   conv=>rhs;rw[hs]
   rw[hs,List.map_append,List.map_cons,List.nodup_append,List.nodup_cons]at hn
   obtain⟨n1,⟨n2,n3⟩,n4⟩:=hn
   rw[List.filter_append,List.filter_cons,if_neg (by simp)]
   congr 1
   · rw[List.filter_eq_self.2]
     · intro q hq
       have:=n4 q.1 (List.mem_map.2 ⟨q,hq,rfl⟩) k (List.mem_cons_self ..)
       simpa using this
   · rw[List.filter_eq_self.2]
     intro q hq
     have:q.1≠k:=λc=>n2 (List.mem_map.2 ⟨q,hq,c⟩)
     simpa using this
theorem yi {k k':α} :∀{l:List (α×β)},dw k' (l.filter λq=> !decide (q.1=k))=if k'=k then none else dw k' l
 | []=>by split <;> rfl
 | (x,v)::l=>by
   have ih:=yi (k:=k) (k':=k') (l:=l)
   rw[List.filter_cons]
   by_cases e:x=k
   · subst e
     rw[if_neg (by simp),ih]
     by_cases e2:k'=x
     · rw[if_pos e2,if_pos e2]
     · rw[if_neg e2,if_neg e2]
       show _=(if k'=x then _ else _)
       rw[if_neg e2]
   · rw[if_pos (by simpa using e)]
     show(if k'=x then some v else dw k' _)=_
     by_cases e2:k'=x
     · rw[if_pos e2]
       rw[if_neg (λc=>e (e2.symm.trans c))]
       show _=(if k'=x then some v else _)
       rw[if_pos e2]
     · rw[if_neg e2,ih]
       by_cases e3:k'=k
       · rw[if_pos e3,if_pos e3]
       · rw[if_neg e3,if_neg e3]
         show _=(if k'=x then some v else _)
         rw[if_neg e2]
theorem HE {k k':α}{v:β} :∀{l:List (α×β)} {i j:Nat} {v0:β},fj k l i=some (j,v0)->dw k' (l.set (j-i) (k,v))=if k'=k then some v else dw k' l
 | [],_,_,_,h=>by cases h
 | (x,y)::l,i,j,v0,h=>by
   unfold fj at h
   split at h
   · rename_i e
     subst e
     cases h
     rw[Nat.sub_self,List.set_cons_zero]
     show(if k'=k then some v else dw k' l)=if k'=k then some v else(if k'=k then some y else dw k' l)
     split <;> rfl
   · rename_i e
     have hle:=(nJ k l (i+1) j v0 h).1
     have ih:=HE (k':=k') (v:=v) h
     rw[show j-i=(j-(i+1))+1 by omega,List.set_cons_succ]
     show(if k'=x then some y else dw k' _)=if k'=k then some v else(if k'=x then some y else dw k' l)
     by_cases e2:k'=x
     · rw[if_pos e2,if_pos e2,if_neg (λc=>e (c.symm.trans e2))]
     · rw[if_neg e2,if_neg e2,ih]
theorem zN {k k':α}{v:β}{l:List (α×β)} :dw k' (upG k v l)=if k'=k then some v else dw k' l:=by
 unfold upG
 cases hi:fj k l 0 with
 | none=>
   show dw k' (l++[(k,v)])=_
   rw[vw]
   by_cases e:k'=k
   · subst e
     have:dw k' l=none:=by rw[<- uw k' l 0,hi];rfl
     rw[this,if_pos rfl];rfl
   · rw[if_neg e,if_neg e]
     cases dw k' l <;> rfl
 | some p=>
   obtain⟨j,v0⟩:=p
   have:=HE (k':=k') (v:=v) hi
   rw[Nat.sub_zero]at this
   exact this
theorem QD {k:α}{v:β}{l:List (α×β)}{j:Nat}{v0:β}(h:fj k l 0=some (j,v0)):(l.set j (k,v)).map (·.1)=l.map (·.1):=by
 obtain⟨_,hat⟩:=nJ k l 0 j v0 h
 rw[Nat.sub_zero]at hat
 obtain⟨hlt,he⟩:=List.getElem?_eq_some_iff.1 hat
 rw[List.map_set]
 apply List.ext_getElem?
 intro i
 rw[List.getElem?_set]
 by_cases e:j=i
 · subst e
   rw[if_pos rfl,if_pos (by simpa using hlt),List.getElem?_map,hat];rfl
 · rw[if_neg e]
theorem zV {k:α}{v:β}{l:List (α×β)}(h:(l.map (·.1)).Nodup):((upG k v l).map (·.1)).Nodup:=by
 unfold upG
 cases hi:fj k l 0 with
 | none=>
   show((l++[(k,v)]).map (·.1)).Nodup
   rw[List.map_append,List.nodup_append]
   refine⟨h,by simp,λa ha b hb=>?_⟩
   obtain⟨q,hq,rfl⟩:=List.mem_map.1 ha
   simp only[List.map_cons,List.map_nil,List.mem_singleton]at hb
   rw[hb];exact AY hi q hq
 | some p=>
   obtain⟨j,v0⟩:=p
   show((l.set j (k,v)).map (·.1)).Nodup
   rw[QD hi];exact h
theorem Na {k:α}{l:List (α×β)}(h:(l.map (·.1)).Nodup):((PF k l).map (·.1)).Nodup:=by
 rw[tY h]
 exact h.sublist ((List.filter_sublist).map _)
theorem N7 {k k':α}{l:List (α×β)}(h:(l.map (·.1)).Nodup):dw k' (PF k l)=if k'=k then none else dw k' l:=by
 rw[tY h];exact yi
end
structure CG (S:List (List UInt8×Int))(L:List Kpt):Prop where
 nd:(S.map (·.1)).Nodup
 look:∀s,dw s S=if j1 L s=0 then none else some ((j1 L s:Nat):Int)
theorem CG.nil:CG [] []:=⟨List.nodup_nil,λs=>rfl⟩
theorem CG.val {S:List (List UInt8×Int)}{L:List Kpt}(h:CG S L)(s:List UInt8):(dw s S).getD 0=((j1 L s:Nat):Int):=by
 rw[h.look s]
 split
 · rename_i e;rw[e];rfl
 · rfl
theorem CG.perm {S:List (List UInt8×Int)}{L L':List Kpt}(h:CG S L)(hp:∀s,j1 L' s=j1 L s):CG S L':=⟨h.nd,λs=>by rw[hp,h.look s]⟩
theorem CG.inc {S:List (List UInt8×Int)}{L L':List Kpt}(h:CG S L){t:List UInt8}(hc:∀s,j1 L' s=j1 L s+if s=t then 1 else 0):CG (upG t (((j1 L t:Nat):Int)+1) S) L':=by
 refine⟨zV h.nd,λs=>?_⟩
 rw[zN,hc s]
 by_cases e:s=t
 · subst e
   rw[if_pos rfl,if_pos rfl,if_neg (by omega)]
   congr 1
 · rw[if_neg e,if_neg e,h.look s];rfl
theorem CG.dec {S:List (List UInt8×Int)}{L L':List Kpt}(h:CG S L){t:List UInt8}(hc:∀s,j1 L s=j1 L' s+if s=t then 1 else 0)(h0:j1 L' t≠0):CG (upG t (((j1 L t:Nat):Int)-1) S) L':=by
 refine⟨zV h.nd,λs=>?_⟩
 rw[zN]
 by_cases e:s=t
 · subst e
   have:=hc s
   rw[if_pos rfl]at this
   rw[if_pos rfl,if_neg h0,this]
   congr 1;omega
 · have:=hc s
   rw[if_neg e]at this
   rw[if_neg e,h.look s,this];rfl
theorem CG.last {S:List (List UInt8×Int)}{L L':List Kpt}(h:CG S L){t:List UInt8}(hc:∀s,j1 L s=j1 L' s+if s=t then 1 else 0)(h0:j1 L' t=0)(v:Int):CG (PF t (upG t v S)) L':=by
 refine⟨Na (zV h.nd),λs=>?_⟩
 rw[N7 (zV h.nd),zN]
 by_cases e:s=t
 · subst e
   rw[if_pos rfl,if_pos h0]
 · have:=hc s
   rw[if_neg e]at this
   rw[if_neg e,if_neg e,h.look s,this];rfl
theorem ShI.one {L:List Kpt}{last:Int}(h:ShI L last){a b:Kpt}(ha:a∈L)(hb:b∈L)(e:a.plc=b.plc):a=b:=by
 rcases List.mem_iff_getElem.1 ha with⟨i,hi,rfl⟩
 rcases List.mem_iff_getElem.1 hb with⟨j,hj,rfl⟩
 have hpw:=List.pairwise_iff_getElem.1 h.key
 rcases Nat.lt_trichotomy i j with hl|hl|hl
 · exact absurd e (hpw i j hi hj hl)
 · subst hl;rfl
 · exact absurd e.symm (hpw j i hj hi hl)
theorem ShI.seq {L:List Kpt}{last:Int}(h:ShI L last){a b:Kpt}(ha:a∈L)(hb:b∈L)(e:a.c.seq=b.c.seq):a=b:=by
 rcases List.mem_iff_getElem.1 ha with⟨i,hi,rfl⟩
 rcases List.mem_iff_getElem.1 hb with⟨j,hj,rfl⟩
 have hpw:=List.pairwise_iff_getElem.1 h.up
 rcases Nat.lt_trichotomy i j with hl|hl|hl
 · have:=hpw i j hi hj hl;omega
 · subst hl;rfl
 · have:=hpw j i hj hi hl;omega
theorem xU.new {M:List (Plc×Kpt)}{L:List Kpt}(h:xU M L){k:Kpt}(hno:atK L k.plc=none):xU (upG k.plc k M) (L++[k]):=by
 have hl:dw k.plc M=none:=by
   cases hx:dw k.plc M with
   | none=>rfl
   | some v=>
     have hm:=FJ hx
     exact absurd (h.own _ hm).symm (rR hno v (h.perm.mem_iff.1 (List.mem_map.2 ⟨_,hm,rfl⟩)))
 have hi:fj k.plc M 0=none:=by
   have:=uw k.plc M 0
   rw[hl]at this
   simpa using this
 unfold upG
 rw[hi]
 refine⟨?_,λq hq=>?_⟩
 · show((M++[(k.plc,k)]).map (·.2)).Perm _
   rw[List.map_append]
   exact h.perm.append (List.Perm.refl _)
 · rcases List.mem_append.1 hq with hq|hq
   · exact h.own q hq
   · rw[List.mem_singleton.1 hq]
theorem xU.over {M:List (Plc×Kpt)}{L:List Kpt}{last:Int}(h:xU M L)(s:ShI L last){k o:Kpt}(hat:atK L k.plc=some o):xU (upG k.plc k M) (L.map λx=>if x.plc=k.plc then k else x):=by
 have hl:=h.look s k.plc
 rw[hat]at hl
 have hn:=h.nodup s
 cases hi:fj k.plc M 0 with
 | none=>
   have:=uw k.plc M 0
   rw[hi,hl]at this;cases this
 | some p=>
   obtain⟨j,v0⟩:=p
   obtain⟨_,hat2⟩:=nJ k.plc M 0 j v0 hi
   rw[Nat.sub_zero]at hat2
   obtain⟨hlt,he⟩:=List.getElem?_eq_some_iff.1 hat2
   have e:upG k.plc k M=M.map λq=>if q.1=k.plc then(k.plc,k)else q:=by
     unfold upG
     rw[hi]
     show M.set j (k.plc,k)=_
     apply List.ext_getElem?
     intro i
     rw[List.getElem?_set,List.getElem?_map]
     by_cases c:j=i
     · subst c
       rw[if_pos rfl,if_pos hlt,hat2]
       simp
     · rw[if_neg c]
       cases hx:M[i]? with
       | none=>rfl
       | some q=>
         have:q.1≠k.plc:=λx=>by
           obtain⟨hli,hxe⟩:=List.getElem?_eq_some_iff.1 hx
           have hp:=List.pairwise_iff_getElem.1 hn
           have h1:(M.map (·.1))[j]'(by simpa using hlt)=k.plc:=by simp[he]
           have h2:(M.map (·.1))[i]'(by simpa using hli)=k.plc:=by simp[hxe,x]
           rcases Nat.lt_or_gt_of_ne c with hc|hc
           · exact hp j i (by simpa using hlt) (by simpa using hli) hc (h1.trans h2.symm)
           · exact hp i j (by simpa using hli) (by simpa using hlt) hc (h2.trans h1.symm)
         simp[this]
   rw[e]
   refine⟨?_,λq hq=>?_⟩
   · have e2:(M.map λq=>if q.1=k.plc then(k.plc,k)else q).map (·.2)=(M.map (·.2)).map λx=>if x.plc=k.plc then k else x:=by
       rw[List.map_map,List.map_map]
       exact List.map_congr_left λq hq=>by
         have:=h.own q hq
         show(if q.1=k.plc then(k.plc,k)else q).2=if q.2.plc=k.plc then k else q.2
         rw[this]
         split <;> rfl
     rw[e2]
     exact h.perm.map _
   · obtain⟨x,hx,rfl⟩:=List.mem_map.1 hq
     split
     · rfl
     · exact h.own x hx
def before (x y:Kpt):Prop:=x.c.used<y.c.used\/(x.c.used=y.c.used/\x.c.seq <=y.c.seq)
def se (of:Kpt->Bool)(L:List Kpt)(o:Option Kpt):Prop:=match o with
 | none=>∀k∈L,of k=false
 | some x=>x∈L/\of x=true/\∀k∈L,of k=true->before x k
theorem Ag (x:Kpt):before x x:=.inr ⟨rfl,Int.le_refl _⟩
theorem se.perm {of:Kpt->Bool}{L L':List Kpt}{o:Option Kpt}(h:se of L o)(hp:L.Perm L'):se of L' o:=by
 cases o with
 | none=>exact λk hk=>h k (hp.mem_iff.2 hk)
 | some x=>exact⟨hp.mem_iff.1 h.1,h.2.1,λk hk=>h.2.2 k (hp.mem_iff.2 hk)⟩
theorem se.one {of:Kpt->Bool}{L:List Kpt}{last:Int}(s:ShI L last){o p:Option Kpt}(h:se of L o)(k:se of L p):o=p:=by
 cases o with
 | none=>
   cases p with
   | none=>rfl
   | some y=>have:=h y k.1;rw[k.2.1]at this;cases this
 | some x=>
   cases p with
   | none=>have:=k x h.1;rw[h.2.1]at this;cases this
   | some y=>
     have h1:=h.2.2 y k.1 k.2.1
     have h2:=k.2.2 x h.1 h.2.1
     have:x=y:=s.seq h.1 k.1 (by unfold before at h1 h2;omega)
     rw[this]
def kU (o:Option Kpt)(x:Kpt):Bool:=match o with
 | none=>true
 | some y=>decide (x.c.used<y.c.used) || (decide (x.c.used=y.c.used)&&decide (x.c.seq<y.c.seq))
theorem se.step {of:Kpt->Bool}{L:List Kpt}{o:Option Kpt}(h:se of L o)(k:Kpt):
   se of (L++[k]) (bif of k&&kU o k then some k else o):=by
 cases o with
 | none=>
   have e:(bif of k&&kU none k then some k else none)=(bif of k then some k else none):=by unfold kU;rw[Bool.and_true]
   rw[e]
   cases hk:of k with
   | true=>
     refine⟨by simp,hk,λy hy hyo=>?_⟩
     rcases List.mem_append.1 hy with hy|hy
     · have:=h y hy;rw[hyo]at this;cases this
     · rw[List.mem_singleton.1 hy];exact Ag _
   | false=>
     intro y hy
     rcases List.mem_append.1 hy with hy|hy
     · exact h y hy
     · rw[List.mem_singleton.1 hy];exact hk
 | some x=>
   obtain⟨hx,ho,hb⟩:=h
   cases hc:(of k&&kU (some x) k)with
   | true=>
     simp only[Bool.and_eq_true,kU,Bool.or_eq_true,dTx]at hc
     refine⟨by simp,hc.1,λy hy hyo=>?_⟩
     rcases List.mem_append.1 hy with hy|hy
     · have h2:=hb y hy hyo
       have h3:=hc.2
       unfold before at*;omega
     · rw[List.mem_singleton.1 hy];exact Ag _
   | false=>
     refine⟨List.mem_append_left _ hx,ho,λy hy hyo=>?_⟩
     rcases List.mem_append.1 hy with hy|hy
     · exact hb y hy hyo
     · rw[List.mem_singleton.1 hy]at hyo ⊢
       rw[hyo,Bool.true_and]at hc
       have hc: ¬ kU (some x) k=true:=by rw[hc];decide
       simp only[kU,Bool.or_eq_true,Bool.and_eq_true,dTx]at hc
       unfold before;omega
theorem TE (of:Kpt->Bool)(k:Kpt):∀(o:Option Kpt),(∀x,o=some x->x.c.seq<k.c.seq)->(bif of k&&kU o k then some k else o)=
   (if of k=true then(match o with|none=>some k|some x=>if k.c.used<x.c.used then some k else some x)else o)
 | none,_=>by cases of k <;> rfl
 | some x,h=>by
   have:=h x rfl
   cases of k with
   | false=>rfl
   | true=>
     by_cases c2:k.c.used<x.c.used
     · simp[kU,c2]
     · have: ¬ k.c.seq<x.c.seq:=by omega
       simp[kU,c2,this]
theorem Em {of:Kpt->Bool} :∀(l pre:List Kpt) (o:Option Kpt),((pre++l).Pairwise λa b=>a.c.seq<b.c.seq)->se of pre o->se of (pre++l) (Vz of l o)
 | [],pre,o,_,h=>by rw[List.append_nil];exact h
 | k::l,pre,o,hp,h=>by
   have hs:=se.step h k
   rw[TE of k o λx e=>by
     subst e
     rw[List.pairwise_append]at hp
     exact hp.2.2 x h.1 k (List.mem_cons_self ..)]at hs
   have:=Em l (pre++[k]) _ (by rw[List.append_assoc];exact hp) hs
   rw[List.append_assoc]at this
   exact this
theorem r6 {of:Kpt->Bool}{L:List Kpt}{last:Int}(s:ShI L last):se of L (KS L of):=by
 have:=Em (of:=of) L [] none (by rw[List.nil_append];exact s.up) (λk hk=>by cases hk)
 rw[List.nil_append]at this
 exact this
theorem P3 {L:List Kpt}{last:Int}(s:ShI L last){p:Plc}{o:Kpt}(h:atK L p=some o)(t:List UInt8):j1 L t=j1 (fq L p) t+if t=o.site then 1 else 0:=by
 obtain⟨ho,hp⟩:=mz h
 have hone:∀k∈L,k.plc=p->k=o:=λk hk e=>s.one hk ho (e.trans hp.symm)
 clear h
 revert hone s ho
 induction L with
 | nil=>intro _ ho;cases ho
 | cons a L ih=>
   intro s ho hone
   have sL:ShI L last:=⟨(List.pairwise_cons.1 s.up).2,λk hk=>s.lo k (List.mem_cons_of_mem _ hk),(List.pairwise_cons.1 s.key).2,s.l0⟩
   have hak:=(List.pairwise_cons.1 s.key).1
   unfold j1 fq at*
   by_cases e:a=o
   · subst e
     have hd:(L.filter λk=> !decide (k.plc=p))=L:=List.filter_eq_self.2 λk hk=>by
       have:=hak k hk
       rw[hp]at this
       simpa using λc=>this c.symm
     rw[List.filter_cons,if_neg (by simp[hp]),hd,List.countP_cons]
     simp[eq_comm]
   · have ho':o∈L:=(List.mem_cons.1 ho).resolve_left λx=>e x.symm
     have hap:a.plc≠p:=λx=>e (hone a (List.mem_cons_self ..) x)
     have:=ih sL ho' λk hk=>hone k (List.mem_cons_of_mem _ hk)
     rw[List.filter_cons,if_pos (by simpa using hap),List.countP_cons,List.countP_cons,this]
     omega
theorem SI (L:List Kpt)(k:Kpt)(t:List UInt8):j1 (L++[k]) t=j1 L t+if t=k.site then 1 else 0:=by
 unfold j1
 rw[List.countP_append,List.countP_cons,List.countP_nil]
 simp[eq_comm]
structure Chg (S:List Nat)(w w':World):Prop where
 os:w'.os=w.os
 tape:w'.tape=w.tape
 output:w'.output=w.output
 size:w.heap.size <=w'.heap.size
 block:∀k,k<w.heap.size->k ∉ S->w'.heap[k]? =w.heap[k]?
theorem Chg.refl (S:List Nat)(w:World):Chg S w w:=⟨rfl,rfl,rfl,Nat.le_refl _,λ_ _ _=>rfl⟩
theorem Chg.trans {S:List Nat}{a b c:World}(h:Chg S a b)(k:Chg S b c):Chg S a c:=
 ⟨k.os.trans h.os,k.tape.trans h.tape,k.output.trans h.output,Nat.le_trans h.size k.size,λi hi hs=>(k.block i (Nat.lt_of_lt_of_le hi h.size) hs).trans (h.block i hi hs)⟩
theorem Chg.of {S:List Nat}{w w':World}(h:bW w w'):Chg S w w':=⟨h.os,h.tape,h.output,h.size,λk hk _=>h.block k hk⟩
theorem Chg.grown {S:List Nat}{w w':World}{r:Nat}(h:w.grownBy w' (some r))(hr:r∈S):Chg S w w':=
 ⟨h.os,h.tape,h.output,h.size,λk hk hs=>h.block k hk λe=>hs (by cases e;exact hr)⟩
theorem Chg.mono {S S':List Nat}{w w':World}(h:Chg S w w')(hs:∀k∈S,k∈S'):Chg S' w w':=⟨h.os,h.tape,h.output,h.size,λk hk hn=>h.block k hk λhm=>hn (hs k hm)⟩
theorem Chg.below {S:List Nat}{B:Nat}{w w':World}(h:Chg S w w')(hB:B <=w.heap.size)(hs:∀k∈S,B <=k):Below B w w':=
 ⟨h.os,h.tape,h.output,h.size,λk hk=>h.block k (by omega) λhm=>by have:=hs k hm;omega⟩
theorem Chg.none {w w':World}(h:Chg [] w w'):bW w w':=h.below (Nat.le_refl _) λk hk=>by cases hk
theorem Chg.keep {S:List Nat}{w w':World}(h:Chg S w w'):GI (λb=>b ∉ S) w w':=⟨h.size,λb hb ha=>h.block b hb ha⟩
theorem Chg.arr {S:List Nat}{w w':World}(h:Chg S w w'){k:Nat}{t:TypeId}{vs:List Value}(ha:ao w k t vs)(hk:k ∉ S):ao w' k t vs:=ha.block (h.block k ha.lt hk)
theorem Chg.step {S:List Nat}{a b c:World}(h:Chg S a b)(k:bW b c):Chg S a c:=h.trans (Chg.of k)
theorem Chg.put {S:List Nat}{a b c:World}{r:Nat}(h:Chg S a b)(k:b.grownBy c (some r))(hr:a.heap.size <=r):Chg S a c:=
   ⟨k.os.trans h.os,k.tape.trans h.tape,k.output.trans h.output,Nat.le_trans h.size k.size,λi hi hs=>(k.block i (Nat.lt_of_lt_of_le hi h.size) (λe=>by cases e;omega)).trans (h.block i hi hs)⟩
abbrev Pth:=List (List UInt8)
def gd (r:Rul):Pth:=(bK 46 [] r.2).reverse
def CF (p:Pth):List Pth->Nat->Option Nat
 | [],_=>none
 | q::l,i=>if p=q then some i else CF p l (i+1)
theorem nP {p:Pth} :∀{l:List Pth} {i:Nat},CF p l i=none ↔ p ∉ l
 | [],i=>by simp[CF]
 | q::l,i=>by
   unfold CF
   by_cases h:p=q
   · simp[h]
   · rw[if_neg h,nP];simp[h]
theorem nQ {p:Pth} :∀{l:List Pth} {i j:Nat},CF p l i=some j->i <=j/\l[j-i]? =some p
 | [],i,j,h=>by cases h
 | q::l,i,j,h=>by
   unfold CF at h
   split at h
   · rename_i e;cases h
     exact⟨Nat.le_refl _,by rw[Nat.sub_self,e];rfl⟩
   · obtain⟨h1,h2⟩:=nQ h
     exact⟨by omega,by rw[show j-i=(j-(i+1))+1 by omega];exact h2⟩
theorem zP (p q:Pth):∀(l:List Pth) (i:Nat),CF p (l++[q]) i=(CF p l i).or (if p=q then some (i+l.length)else none)
 | [],i=>by
   show(if p=q then some i else none)=_
   split <;> rfl
 | x::l,i=>by
   show(if p=x then some i else CF p (l++[q]) (i+1))=(if p=x then some i else CF p l (i+1)).or _
   split
   · rfl
   · rw[zP p q l (i+1)]
     congr 2
     simp;omega
abbrev jq:=Int×List UInt8
structure My (ps:List Pth)(kvs:List (jq×Int)):Prop where
 root:ps[0]? =some []
 first:∀(i:Nat) p,ps[i]? =some p->CF p ps 0=some i
 closed:∀p l,p++[l]∈ps->p∈ps
 edge:∀(n:Nat) (l:List UInt8),dw ((n:Int),l) kvs=match ps[n]? with
   | some p=>(CF (p++[l]) ps 0).map λi=>(i:Int)
   | none=>none
theorem Rk:My [[]] [] where
 root:=rfl
 first:=by
   intro i p h
   match i,h with
   | 0,h=>cases h;rfl
 closed:=by intro p l h;simp at h
 edge:=by
   intro n l
   match n with
   | 0=>rfl
   | n+1=>rfl
theorem My.pos {ps:List Pth}{kvs:List (jq×Int)}(t:My ps kvs){p:Pth}(h:p∈ps):∃i,CF p ps 0=some i/\ps[i]? =some p:=by
 cases hp:CF p ps 0 with
 | none=>exact absurd h (nP.1 hp)
 | some i=>exact⟨i,rfl,by simpa using(nQ hp).2⟩
theorem My.grow {ps:List Pth}{kvs:List (jq×Int)}(t:My ps kvs){n:Nat}{p:Pth}{l:List UInt8}(hn:ps[n]? =some p)(hno:p++[l] ∉ ps):My (ps++[p++[l]]) (kvs++[(((n:Int),l),(ps.length:Int))]) where
 root:=by
   have:=t.root
   rw[List.getElem?_append_left (by have:=(List.getElem?_eq_some_iff.1 this).1;exact this)];exact this
 first:=by
   intro i q h
   rw[zP]
   by_cases hi:i<ps.length
   · rw[List.getElem?_append_left hi]at h
     rw[t.first i q h];rfl
   · rw[List.getElem?_append_right (by omega)]at h
     have h0:i=ps.length:=by
       have:=(List.getElem?_eq_some_iff.1 h).1
       simp at this;omega
     subst h0
     rw[Nat.sub_self]at h
     cases h
     rw[nP.2 hno,if_pos rfl];simp
 closed:=by
   intro q x h
   rw[List.mem_append]at h ⊢
   rcases h with h|h
   · exact .inl (t.closed q x h)
   · rw[List.mem_singleton]at h
     have:=List.append_inj_left' h rfl
     subst this
     exact .inl (List.mem_of_getElem? hn)
 edge:=by
   intro m x
   rw[vw,t.edge m x]
   by_cases hm:m<ps.length
   · rw[List.getElem?_append_left hm]
     obtain⟨q,hq⟩:∃q,ps[m]? =some q:=⟨_,List.getElem?_eq_getElem hm⟩
     rw[hq]
     simp only
     rw[zP]
     have e:(((m:Int),x)=((n:Int),l)) ↔ (q++[x]=p++[l]):=by
       constructor
       · intro h
         have h1:m=n:=by have:=congrArg Prod.fst h;simp at this;omega
         have h2:x=l:=congrArg Prod.snd h
         subst h1 h2
         rw[hq]at hn
         rw[Option.some.inj hn]
       · intro h
         have h1:=List.append_inj_left' h rfl
         have h2:=List.append_inj_right' h rfl
         subst h1
         have:=(t.first m q hq).symm.trans (t.first n q hn)
         rw[Option.some.inj this,List.singleton_inj.1 h2]
     cases hp:CF (q++[x]) ps 0 with
     | some i=>rfl
     | none=>
       by_cases he:q++[x]=p++[l]
       · rw[if_pos (e.2 he),if_pos he];simp
       · rw[if_neg (λh=>he (e.1 h)),if_neg he];rfl
   · have hnl:n<ps.length:=(List.getElem?_eq_some_iff.1 hn).1
     rw[List.getElem?_eq_none (l:=ps) (by omega)]
     rw[if_neg (λh=>by have:=congrArg Prod.fst h;simp at this;omega)]
     by_cases h0:m=ps.length
     · subst h0
       rw[List.getElem?_append_right (Nat.le_refl _),Nat.sub_self]
       simp only[List.getElem?_cons_zero]
       have h1:CF (p++[l]++[x]) (ps++[p++[l]]) 0=none:=by
         rw[nP,List.mem_append,List.mem_singleton]
         rintro(h|h)
         · exact hno (t.closed _ _ h)
         · have:=congrArg List.length h;simp at this
       rw[h1];rfl
     · rw[List.getElem?_append_right (by omega),List.getElem?_eq_none (l:=[p++[l]]) (by simp;omega)];rfl
def marks (rs:List Rul)(p:Pth):List Bool:=(List.range 4).map fun(k:Nat)=>rs.any λr=>decide (r.1=(k:Int)/\gd r=p)
theorem vx (rs:List Rul)(p:Pth):(marks rs p).length=4:=by simp[marks]
theorem A1 (rs:List Rul)(p:Pth)(k:Nat)(h:k<4):(marks rs p)[k]? =some (rs.any λr=>decide (r.1=(k:Int)/\gd r=p)):=by
 unfold marks
 rw[List.getElem?_map,List.getElem?_range h];rfl
structure Tab (ps:List Pth)(es:List (List Bool))(rs:List Rul):Prop where
 len:es.length=ps.length
 mark:∀(i:Nat) p,ps[i]? =some p->es[i]? =some (marks rs p)
 rules:∀r∈rs,gd r∈ps
theorem TK:Tab [[]] [[false,false,false,false]] [] where
 len:=rfl
 mark:=by
   intro i p h
   match i,h with
   | 0,h=>cases h;rfl
 rules:=by intro r h;cases h
theorem Tab.grow {ps:List Pth}{es:List (List Bool)}{rs:List Rul}(t:Tab ps es rs){q:Pth}(hq:q ∉ ps):Tab (ps++[q]) (es++[[false,false,false,false]]) rs where
 len:=by rw[List.length_append,List.length_append,t.len];rfl
 mark:=by
   intro i p h
   by_cases hi:i<ps.length
   · rw[List.getElem?_append_left hi]at h
     rw[List.getElem?_append_left (by rw[t.len];exact hi)]
     exact t.mark i p h
   · rw[List.getElem?_append_right (by omega)]at h
     have h0:i=ps.length:=by
       have:=(List.getElem?_eq_some_iff.1 h).1
       simp at this;omega
     subst h0
     rw[Nat.sub_self]at h
     cases h
     rw[List.getElem?_append_right (by rw[t.len];exact Nat.le_refl _),t.len,Nat.sub_self]
     show some _=some _
     congr 1
     have:∀k:Nat,(rs.any λr=>decide (r.1=(k:Int)/\gd r=q))=false:=λk=>by
       rw[List.any_eq_false]
       intro r hr
       simp only[dTx]
       rintro⟨-,he⟩
       exact hq (he▸t.rules r hr)
     unfold marks
     simp only[List.range_succ,List.range_zero,List.map_append,List.map_nil,List.map_cons,List.nil_append,this];rfl
 rules:=λr hr=>List.mem_append_left _ (t.rules r hr)
theorem Tab.rule {ps:List Pth}{kvs:List (jq×Int)}{es:List (List Bool)}{rs:List Rul}(T:My ps kvs)(t:Tab ps es rs){r:Rul}{n:Nat}{k:Nat}(hk:r.1=(k:Int))(hn:ps[n]? =some (gd r))(h4:k<4):
   Tab ps (es.set n ((marks rs (gd r)).set k true)) (rs++[r]) where
 len:=by rw[List.length_set,t.len]
 mark:=by
   intro i p h
   have hnl:n<ps.length:=(List.getElem?_eq_some_iff.1 hn).1
   by_cases hi:n=i
   · subst hi
     have hp:p=gd r:=by rw[hn]at h;exact(Option.some.inj h).symm
     subst hp
     rw[List.getElem?_set_self (by rw[t.len];exact hnl)]
     congr 1
     apply List.ext_getElem?
     intro j
     by_cases hj:j<4
     · rw[A1 _ _ _ hj,List.getElem?_set,vx]
       by_cases hkj:k=j
       · subst hkj
         rw[if_pos rfl,if_pos h4,List.any_append]
         simp[hk]
       · rw[if_neg hkj,A1 _ _ _ hj,List.any_append]
         have: ¬ r.1=(j:Int):=by rw[hk];omega
         simp[this]
     · rw[List.getElem?_eq_none (by simp[vx];omega),List.getElem?_eq_none (by rw[vx];omega)]
   · rw[List.getElem?_set_ne hi,t.mark i p h]
     congr 1
     unfold marks
     apply List.map_congr_left
     intro k' _
     rw[List.any_append]
     have:gd r≠p:=by
       intro he
       subst he
       have:=(T.first i _ h).symm.trans (T.first n _ hn)
       exact hi (Option.some.inj this).symm
     simp[this]
 rules:=by
   intro x hx
   rcases List.mem_append.1 hx with hx|hx
   · exact t.rules x hx
   · rw[List.mem_singleton]at hx;subst hx;exact List.mem_of_getElem? hn
structure Top (d:Nat)(S:Nat->Prop)(m:Nat):Prop where
 is:m=d\/S m
 ge:d <=m
 le:∀x,S x->x <=m
theorem Top.eq {d:Nat}{S:Nat->Prop}{m m':Nat}(h:Top d S m)(h':Top d S m'):m=m':=by
 have a:m <=m':=by rcases h.is with e|e;rw[e];exact h'.ge;exact h'.le _ e
 have b:m' <=m:=by rcases h'.is with e|e;rw[e];exact h.ge;exact h.le _ e
 omega
theorem Top.congr {d:Nat}{S S':Nat->Prop}{m:Nat}(h:Top d S m)(e:∀x,S x ↔ S' x):Top d S' m:=⟨h.is.imp id (e m).1,h.ge,λx hx=>h.le x ((e x).2 hx)⟩
theorem Top.zero (d:Nat):Top d (λ_=>False) d:=⟨.inl rfl,Nat.le_refl _,λ_ h=>h.elim⟩
theorem Top.max {d:Nat}{S:Nat->Prop}{m:Nat}(h:Top d S m)(x:Nat):Top d (λy=>S y\/y=x) (max m x):=by
 by_cases c:m <=x
 · rw[Nat.max_eq_right c]
   exact⟨.inr (.inr rfl),Nat.le_trans h.ge c,λy hy=>hy.elim (λhy=>Nat.le_trans (h.le y hy) c) (λhy=>by omega)⟩
 · rw[Nat.max_eq_left (by omega)]
   exact⟨h.is.imp id .inl,h.ge,λy hy=>hy.elim (h.le y) (λhy=>by omega)⟩
def kR (rs:List Rul)(R:Pth)(n1 n2 x:Nat):Prop:=∃r∈rs,gd r=R.take (gd r).length/\(r.1=1/\(gd r).length <=n1/\(gd r).length=x\/r.1=2/\(gd r).length <=n2/\(gd r).length+1=x)
def fY (rs:List Rul)(R:Pth)(n x:Nat):Prop:=∃r∈rs,gd r=R.take (gd r).length/\r.1=3/\(gd r).length <=n/\(gd r).length-1=x
theorem Vs (g i k j:Nat):aq (aq (some ⟨g,0,none⟩) (i:Int) k) (j:Int) 1=some ⟨g,i*k+j,none⟩:=by
 rw[j2,j2];simp
theorem QJ {α:Type}(l:List α)(p k j:Nat)(v:α)(hj:j<k)(hl:p+k <=l.length):l.take (p+j)++[v]++l.drop (p+j+1)=l.take p++(((l.drop p).take k).set j v)++l.drop (p+k):=by
 have e1:l=l.take p++((l.drop p).take k++l.drop (p+k)):=by
   rw[<- List.drop_drop,List.take_append_drop,List.take_append_drop]
 generalize hA:l.take p=A at*
 generalize hB:(l.drop p).take k=B at*
 generalize hC:l.drop (p+k)=C at*
 have lA:A.length=p:=by rw[<- hA];simp;omega
 have lB:B.length=k:=by rw[<- hB];simp;omega
 clear hA hB hC
 subst e1
 have t1:(A++(B++C)).take (p+j)=A++B.take j:=by
   rw[List.take_append,List.take_of_length_le (by omega),lA,show p+j-p=j by omega,List.take_append_of_le_length (by omega)]
 have t2:(A++(B++C)).drop (p+j+1)=B.drop (j+1)++C:=by
   rw[List.drop_append,List.drop_of_length_le (by omega),List.nil_append,lA,show p+j+1-p=j+1 by omega,List.drop_append_of_le_length (by omega)]
 rw[t1,t2,List.set_eq_take_append_cons_drop,if_pos (by omega)]
 simp
theorem Sl.loadC {α:Type}{T:Ty α}{P:Program}{u:TypeId}{d:TypeDesc}(hu:P.underlying u=some d)(ha:CE d=false){w:World}{A:Bl}{a:Option Addr}{n c:Nat}{xs:List α}(h:Sl T w A a n c xs){i j k:Nat}(hk:T.k=k)(hi:i<xs.length)(hj:j<k)
   {v:Value} (hv:∀vs,T.rep w A vs xs[i]->vs[j]? =some v):(Instr.loadAt u (.pointer (aq (aq a (i:Int) k) (j:Int) 1))).run P w=.ok v w:=by
 subst hk
 rcases h.2.2.2 with h4|⟨b,off,e,hb,hab,h4⟩
 · subst h4;cases hi
 · obtain⟨vs,h5,h6⟩:=h4.elem hi
   rw[e,j2,j2]
   show(do loadVar u (<- Instr.sureAddr (.pointer (some _)))).run P w=_
   rw[Sem.run_bind,iQ]
   refine pf hu ha ?_
   have:=h6 j hj
   rw[hv vs h5]at this
   simpa using this
theorem Ow.store1 {α:Type}{T:Ty α}{P:Program}{t u:TypeId}{bytes:Nat}{z:Value}(tf:TF P u 1 bytes z){w:World}{A:Bl}{a:Option Addr}{n c:Nat}{xs:List α}(ho:Ow T t w A a n c xs)(hA:∀g,eJ a=some g-> ¬ A g)
   {i j k:Nat} (hk:T.k=k) (hi:i<xs.length) (hj:j<k) {v:Value} (h1:v.oneCell'=true) (hc:v.cells= #[v]) {x:α} (hv:∀vs,T.rep w A vs xs[i]->T.rep w A (vs.set j v) x):
   ∃w',(Instr.storeAt u (.pointer (aq (aq a (i:Int) k) (j:Int) 1)) v).run P w=.ok () w'/\Ow T t w' A a n c (xs.set i x)/\w.grownBy w' (eJ a):=by
 subst hk
 obtain⟨ti,hti,hsz,_,_⟩:=tf.info
 obtain⟨hn,hnc,hcm,ho4⟩:=ho
 rcases ho4 with⟨_,_,rfl⟩|⟨g,cur,fr,rfl,hg,hf,hcs,hrep⟩
 · cases hi
 · subst hn
   have hb:i*T.k+T.k <=xs.length*T.k:=by
     have:=Nat.mul_le_mul_right T.k (show i+1 <=xs.length from hi)
     rwa [Nat.add_mul,Nat.one_mul]at this
   have hb2:xs.length*T.k <=cur.size:=by rw[hcs];exact Nat.mul_le_mul_right _ hnc
   have hx:=hrep.rep i hi
   have hvs:=hv _ hx
   have hvl:=T.len hvs
   rw[Vs]
   have hst:=run_storeVar_row (P:=P) hti (o:=i*T.k+j) hg hf (v:=v) (by rw[hc,hsz];rfl) (by rw[hsz];omega) (λx hx=>by rw[hc]at hx;simp at hx;rw[hx];exact h1)
   have hrow:(cur.toList.take (i*T.k+j)++v.cells.toList++cur.toList.drop (i*T.k+j+v.cells.size))=cur.toList.take (i*T.k)++(((cur.toList.take (xs.length*T.k)).drop (i*T.k)).take T.k).set j v++cur.toList.drop (i*T.k+T.k):=by
     rw[hc]
     have e:=QJ cur.toList (i*T.k) T.k j v hj (by simp;omega)
     have e2:((cur.toList.take (xs.length*T.k)).drop (i*T.k)).take T.k=(cur.toList.drop (i*T.k)).take T.k:=by
       rw[List.drop_take,List.take_take];congr 1;omega
     rw[e2];exact e
   rw[hrow]at hst
   generalize (((cur.toList.take (xs.length*T.k)).drop (i*T.k)).take T.k).set j v=vs' at*
   refine⟨_,hst,?_,eI w g _⟩
   refine⟨by simp,hnc,hcm,.inr ⟨g,_,fr,rfl,setRow_heap w g cur _ t fr hg,?_,?_,?_⟩⟩
   · intro j' hj'
     refine hf j' ?_
     simp at hj';omega
   · simp;omega
   · have h2:=(hrep.set hi hvs).keep (dX (eI w g (cur.toList.take (i*T.k)++vs'++cur.toList.drop (i*T.k+T.k)).toArray) λb hb e=>hA g rfl (by cases e;exact hb))
     have e:((cur.toList.take (i*T.k)++vs'++cur.toList.drop (i*T.k+T.k)).toArray).toList.take (xs.length*T.k)=
         (cur.toList.take (xs.length*T.k)).take (i*T.k)++vs'++(cur.toList.take (xs.length*T.k)).drop (i*T.k+vs'.length):=by
       simp only[]
       have e1:(cur.toList.take (xs.length*T.k)).take (i*T.k)=cur.toList.take (i*T.k):=by rw[List.take_take];congr 1;omega
       rw[e1,List.take_append,List.drop_take]
       have e2:(cur.toList.take (i*T.k)++vs').length=i*T.k+T.k:=by simp[hvl];omega
       rw[e2,List.take_of_length_le (by rw[e2];omega)]
       congr 2
       · rw[hvl]
       · rw[hvl]
     rw[e];exact h2
def ekE (e:jq):Value:=.agg #[vI e.1,vS e.2]
def evI (n:Int):Value:=vI n
def tB4:Ty (List Bool) where
 k:=4
 pos:=by decide
 rep:=λ_ _ vs x=>vs=x.map Value.bool/\x.length=4
 len:=λh=>by rw[h.1,List.length_map,h.2]
 one:=fun{_ _ _ x} h v hv=>by rw[h.1]at hv;obtain⟨b,_,rfl⟩:=List.mem_map.1 hv;rfl
 keep:=λh _=>h
 mono:=λh _=>h
theorem Nu:Flat tB4:=λ_ _ _ _ _ _ h=>h
def VG:Ty Rul where
 k:=2
 pos:=by decide
 rep:=λ_ _ vs r=>vs=KZ r
 len:=λh=>by rw[h];rfl
 one:=fun{_ _ _ x} h v hv=>by rw[h]at hv;exact(bI rfl (bI rfl nj):yM (KZ x)) v hv
 keep:=λh _=>h
 mono:=λh _=>h
structure j0 (w0:World)(t te:TypeId)(kt km:Nat)(a:Option Addr)(n c:Nat)(ps:List Pth)(kvs:List (jq×Int))(es:List (List Bool))(rs:List Rul)(w:World):Prop where
 h1:ao w kt t [.map (some km),.slice a n c]
 h2:sy ekE evI w km kvs
 h3:Ow tB4 te w NoB a n c es
 T:My ps kvs
 t:Tab ps es rs
 hb:bW w0 w
 ne:km≠kt
 og:∀g,eJ a=some g->g≠kt/\g≠km/\w0.heap.size <=g
 kt0:w0.heap.size <=kt
 km0:w0.heap.size <=km
theorem j0.below {w0:World}{t te:TypeId}{kt km:Nat}{a:Option Addr}{n c:Nat}{ps:List Pth}{kvs:List (jq×Int)}{es:List (List Bool)}{rs:List Rul}{w w':World}(S:j0 w0 t te kt km a n c ps kvs es rs w)(h:bW w w'):j0 w0 t te kt km a n c ps kvs es rs w':=
 ⟨S.h1.below h,S.h2.below h,S.h3.below h,S.T,S.t,aa S.hb h S.hb.size,S.ne,S.og,S.kt0,S.km0⟩
theorem vF {α:Type}{T:Ty α}{t:TypeId}{w w':World}{a:Option Addr}{n c:Nat}{xs:List α}(h:Ow T t w NoB a n c xs){r:Option Nat}(hg:w.grownBy w' r)(hne:∀g,eJ a=some g->r≠some g):Ow T t w' NoB a n c xs:=
 h.keep (dX hg λb hb e=>by
   rcases hb with hb|hb
   · exact hb
   · exact hne b hb.symm e.symm)
theorem A0 {ek:jq->Value}{ev:Int->Value}{w w':World}{r:Nat}{kvs:List (jq×Int)}(h:sy ek ev w r kvs){k:Option Nat}(hg:w.grownBy w' k)(hne:k≠some r):sy ek ev w' r kvs:=h.keep (hg.block r h.lt λe=>hne e.symm)
structure T9 (w0:World)(t te ts tr:TypeId)(kt km k3:Nat)(rs:List Rul)(r:Rul)(aL:Option Addr)(nL cL:Nat)(L:List (List UInt8))(N:Nat)(p:Pth)(node:Nat)(w:World):Prop where
 ex:∃a n c ps kvs es,j0 w0 t te kt km a n c ps kvs es rs w/\CF p ps 0=some node/\ps.length <=N/\(∀g,eJ a=some g->g≠k3/\eJ aL≠some g)
 hL:Ow tS ts w NoB aL nL cL L
 h3:ao w k3 tr (KZ r)
 s1:kt≠k3
 s2:km≠k3
 s3:eJ aL≠some kt
 s4:eJ aL≠some km
theorem T9.below {w0:World}{t te ts tr:TypeId}{kt km k3:Nat}{rs:List Rul}{r:Rul}{aL:Option Addr}{nL cL:Nat}{L:List (List UInt8)}{N:Nat}{p:Pth}{node:Nat}{w w':World}(S:T9 w0 t te ts tr kt km k3 rs r aL nL cL L N p node w)(h:bW w w'):T9 w0 t te ts tr kt km k3 rs r aL nL cL L N p node w':=by
 obtain⟨a,n,c,ps,kvs,es,h1,h2,h3,h4⟩:=S.ex
 exact⟨⟨a,n,c,ps,kvs,es,h1.below h,h2,h3,h4⟩,S.hL.below h,S.h3.below h,S.s1,S.s2,S.s3,S.s4⟩
theorem TV:∃fs,prog.underlying cB=some (.struct fs):=⟨_,rfl⟩
theorem rZ:qb prog cB ekE:=by
 obtain⟨fs,h⟩:=TV
 refine qb.struct h (λa b=>?_) (λb k w=>?_)
 · obtain⟨a1,a2⟩:=a
   obtain⟨b1,b2⟩:=b
   have e:eqV prog 10000 cB (ekE (a1,a2)) (ekE (b1,b2))=some ((a1==b1)&&((a2==b2)&&true)):=by kernel_rfl
   rw[e]
   congr 1
   rw[Bool.eq_iff_iff];simp
 · obtain⟨a1,a2⟩:=k
   kernel_rfl
theorem GD:Whl prog cB 2:=⟨⟨_,_,DX⟩,by kernel_rfl⟩
def Si (w0:World)(kt km:Nat)(rs:List Rul)(N:Nat)(v:Value)(w':World):Prop:=
 v=.tuple #[]/\∃a n c ps kvs es,j0 w0 aV bi kt km a n c ps kvs es rs w'/\ps.length <=N
theorem Gv {w0:World}(he:Env w0){kt km:Nat}{a:Option Addr}{n c:Nat}{ps:List Pth}{kvs:List (jq×Int)}{es:List (List Bool)}{rs:List Rul}{w:World}(S:j0 w0 aV bi kt km a n c ps kvs es rs w)(r:Rul)
   (hk:∃k:Nat,r.1=(k:Int)/\k<4) (hr:r.2.length <=253) {N:Nat} (hN:ps.length <=N) (hN2:N <=1000000000):
   Cf jb #[.pointer (some ⟨kt,0,none⟩),zZc r] w (Ret (Si w0 kt km (rs++[r]) (N+300))):=by
 obtain⟨rk,rn⟩:=r
 obtain⟨kk,hkk,hk4⟩:=hk
 simp only at hkk hr
 subst hkk
 apply ss
 intro k3 w3 hk3 hw3
 have hb3:=(hw3▸ai w _:bW w w3)
 have h3:ao w3 k3 aW (KZ ((kk:Int),rn)):=ao.new hk3 hw3
 have lt1:=S.h1.lt
 have lt2:=S.h2.lt
 have S3:=S.below hb3
 refine⟨rfl,_,h3.load1 av rfl rfl,?_⟩
 refine aw (dV rn 46 (by omega) w3 (he.step S3.hb)) ?_
 rintro _ w4 ⟨aL,nL,cL,rfl,hoL,hfL,hb4⟩
 have hcc:(bK 46 [] rn).length <=300:=by have:=dK 46 rn [];omega
 have hR:gd ((kk:Int),rn)=(bK 46 [] rn).reverse:=rfl
 generalize bK 46 [] rn=L at*
 have hnL:=hoL.len
 subst hnL
 refine⟨_,_,_,rfl,?_⟩
 have hs3:=hb3.size
 have S4:=S3.below hb4
 have P0:T9 w0 aV bi ah aW kt km k3 rs ((kk:Int),rn) aL L.length cL L (N+0) [] 0 w4:=by
   refine⟨⟨a,n,c,ps,kvs,es,S4,?_,hN,λg hg=>⟨?_,?_⟩⟩,hoL,h3.below hb4,by omega,by omega,λhx=>?_,λhx=>?_⟩
   · exact S.T.first 0 [] S.T.root
   · have:=S.h3.lt g hg;omega
   · intro hx;have:=hfL g hx;have:=S.h3.lt g hg;omega
   · have:=hfL _ hx;omega
   · have:=hfL _ hx;omega
 have e0:i64.wrap (((L.length:Nat):Int)-1)=((L.length:Nat):Int)-1:=wrap_i64 (by omega) (by omega)
 try dsimp only
 rw[e0]
 clear S3 S4 S
 refine⟨λm nd i w'=>∃(k node:Nat),k <=L.length/\i=((L.length:Nat):Int)-1-(k:Int)/\m=L.length-k/\nd=(node:Int)/\T9 w0 aV bi ah aW kt km k3 rs ((kk:Int),rn) aL L.length cL L (N+k) ((gd ((kk:Int),rn)).take k) node w',⟨_,0,0,by omega,by omega,rfl,rfl,P0⟩,?_⟩
 intro m nd i
 refine aJ.of ?_ _
 rintro w5 ⟨k,node,hkl,rfl,rfl,rfl,P5⟩
 refine ab.of (λh=>?_) (λh=>?_) <;> simp only[ge_iff_le,dTx,dFx]at h
 · have hlt:k<L.length:=by omega
   have ei:((L.length:Nat):Int)-1-(k:Int)=((L.length-1-k:Nat):Int):=by omega
   rw[ei]
   refine⟨⟨⟨by omega,by omega⟩,P5.hL.all.isSome (by omega)⟩,_,P5.hL.all.text av (by omega),?_⟩
   have hRk:(gd ((kk:Int),rn)).take (k+1)=(gd ((kk:Int),rn)).take k++[L[L.length-1-k]'(by omega)]:=by
     rw[hR,List.take_succ_eq_append_getElem (by simpa using hlt),List.getElem_reverse]
   generalize L[L.length-1-k]'(by omega)=lab at*
   refine GD.new (zs:=[vI 0,vS []]) (cs:=[vI (node:Int),vS lab]) rfl rfl (bI rfl (bI rfl nj)) w5 λk7 w7 hk7 h7 hb7=>?_
   have P7:=P5.below hb7
   simp only[z6]
   obtain⟨a5,n5,c5,ps5,kvs5,es5,S7,hp5,hN5,hog5⟩:=P7.ex
   have pn:=(nQ hp5).2
   rw[Nat.sub_zero]at pn
   have hedge:=S7.T.edge node lab
   rw[pn]at hedge
   simp only at hedge
   have lt7:=h7.lt
   have ltm:=S7.h2.lt
   have ltt:=S7.h1.lt
   have hkk7:k7≠km/\k7≠kt/\k7≠k3:=by
     have:=P5.h3.lt
     obtain⟨_,_,_,_,_,_,S5,_⟩:=P5.ex
     have:=S5.h1.lt
     have:=S5.h2.lt
     omega
   have hog7:∀g,eJ a5=some g->g≠k7:=λg hg=>by
     obtain⟨a6,n6,c6,ps6,kvs6,es6,S5,_⟩:=P5.ex
     have e1:=S5.h1.below hb7
     have e2:=S7.h1
     unfold ao at e1 e2
     rw[e1]at e2
     simp only[Option.some.injEq,Obj.cells.injEq,and_true,true_and]at e2
     have e3:a6=a5:=by
       have:=congrArg (λx:Array Value=>x[1]?) e2
       simp at this
       exact this.1
     subst e3
     have:=S5.h3.lt g hg
     omega
   have hol7:∀g,eJ aL=some g->g≠k7:=λg hg=>by have:=P5.hL.lt g hg;omega
   have luk:∀u,bW w7 u->(Instr.loadAt bz (.pointer (some ⟨kt,0,none⟩))).run prog u=.ok (.map (some km)) u:=λu hu=>(S7.h1.below hu).load1 bn rfl rfl
   have led:∀u,bW w7 u->(Instr.loadAt cB (.pointer (some ⟨k7,0,none⟩))).run prog u=.ok (.agg #[vI (node:Int),vS lab]) u:=λu hu=>GD.load0 (h7.below hu) rfl
   refine⟨λwj=>∃i2:Nat,T9 w0 aV bi ah aW kt km k3 rs ((kk:Int),rn) aL L.length cL L (N+(k+1)) ((gd ((kk:Int),rn)).take (k+1)) i2 wj/\(∃a n c ps kvs es,j0 w0 aV bi kt km a n c ps kvs es rs wj/\dw ((node:Int),lab) kvs=some (i2:Int))/\ao wj k7 cB [vI (node:Int),vS lab],?_,?_⟩
   · refine⟨rfl,rfl,_,luk,_,_,led,?_⟩
     cases hq:CF ((gd ((kk:Int),rn)).take k++[lab]) ps5 0 with
     | some i2=>
       rw[hq]at hedge
       refine⟨(i2:Int),true,λu hu=>?_,?_⟩
       · have:=(S7.h2.below hu).look2 (P:=prog) bn rZ ik ((node:Int),lab)
         rw[hedge]at this;exact this
       intro wq hwq
       refine ab.no rfl ?_
       rw[hRk]
       have P8:=P7.below hwq
       exact⟨i2,⟨⟨a5,n5,c5,ps5,kvs5,es5,S7.below hwq,hq,by omega,hog5⟩,P8.hL,P8.h3,P8.s1,P8.s2,P8.s3,P8.s4⟩,⟨a5,n5,c5,ps5,kvs5,es5,S7.below hwq,hedge⟩,h7.below hwq⟩
     | none=>
       rw[hq]at hedge
       have hno:=nP.1 hq
       refine⟨0,false,λu hu=>?_,?_⟩
       · have:=(S7.h2.below hu).look2 (P:=prog) bn rZ ik ((node:Int),lab)
         rw[hedge]at this;exact this
       intro wq hwq
       have S8:=S7.below hwq
       have P8:=P7.below hwq
       have h78:=h7.below hwq
       refine ab.yes rfl ⟨rfl,rfl,_,λu hu=>(S8.h1.below hu).load1 bn rfl rfl,_,_,λu hu=>GD.load0 (h78.below hu) rfl,rfl,rfl,_,_,_,λu hu=>(S8.h1.below hu).load1 eu rfl rfl,?_⟩
       intro wr hwr
       have S9:=S8.below hwr
       have P9:=P8.below hwr
       have h79:=h78.below hwr
       have hn5:=S9.h3.len
       have hesl:=S9.t.len
       obtain⟨wa,hsa,hma,hga⟩:=S9.h2.put (P:=prog) bn rZ (k:=((node:Int),lab)) hedge (((n5:Nat):Int))
       refine⟨wa,hsa,?_⟩
       have h1a:=S9.h1.grown hga (bF S9.ne.symm)
       have h3a:=vF S9.h3 hga λg hg e=>(S9.og g hg).2.1 (Option.some.inj e).symm
       have hLa:=vF P9.hL hga λg hg e=>P9.s4 (by rw[hg,<- e])
       have hRa:=P9.h3.grown hga (bF P9.s2.symm)
       have h7a:=h79.grown hga (bF hkk7.1)
       have hBa:=Below.put S9.hb hga S9.km0
       refine⟨rfl,rfl,_,_,_,h1a.load1 eu rfl rfl,?_⟩
       intro kb wb hkb hwb
       have hbb:=(hwb▸ai wa _:bW wa wb)
       have hBb:=aa hBa hbb hBa.size
       have hsrc:Src tB4 wb NoB (some ⟨kb,0,none⟩) 1 [[false,false,false,false]]:=Src.new1F Nu hkb hwb ⟨rfl,rfl⟩
       obtain⟨wc,ac,nc,cc,hrc,h3c,hgc,hfc⟩:=eZ (P:=prog) (ty:=bJ) eu Ii (by decide) (h3a.below hbb) (λ_ _ h=>h) (cm:=1) hsrc (by simp;omega)
       refine⟨wc,ac,nc,cc,hrc,rfl,rfl,?_⟩
       have ltka:=h1a.lt
       have ltma:=hma.lt
       have sza:=hbb.size
       have nog:∀x,(∀g,eJ a5=some g->g≠x)->some x≠eJ a5:=λx h e=>h x e.symm rfl
       have h1c:=(h1a.below hbb).grown hgc (nog kt λg hg=>(S9.og g hg).1)
       have hmc:=A0 (hma.below hbb) hgc (nog km λg hg=>(S9.og g hg).2.1).symm
       have hLc:=vF (hLa.below hbb) hgc λg hg e=>(hog5 g e).2 hg
       have hRc:=(hRa.below hbb).grown hgc (nog k3 λg hg=>(hog5 g hg).1)
       have h7c:=(h7a.below hbb).grown hgc (nog k7 hog7)
       have hBc:bW w0 wc:=hBb.grown hgc hBb.size λx e=>(S9.og x e).2.2
       obtain⟨wd,hsd,h1d,hgd⟩:=h1c.put (P:=prog) Cg (i:=1) (v:=.slice ac nc cc) (show 1<2 by decide) rfl rfl
       refine⟨wd,hsd,?_⟩
       have hacn:∀g,eJ ac=some g->g≠kt/\g≠km/\w0.heap.size <=g/\g≠k3/\eJ aL≠some g:=λg hg=>by
         rcases hfc g hg with e|e
         · have:=S9.og g e
           have h2:=hog5 g e
           exact⟨this.1,this.2.1,this.2.2,h2.1,h2.2⟩
         · have:=hBb.size
           have:=(hRa.below hbb).lt
           have h3:∀x,eJ aL=some x->x<wb.heap.size:=(hLa.below hbb).lt
           exact⟨by omega,by omega,by omega,by omega,λhx=>by have:=h3 g hx;omega⟩
       have Td:=S9.T.grow pn hno
       have td:=S9.t.grow hno
       have hn9:((n5:Nat):Int)=((ps5.length:Nat):Int):=by omega
       rw[hn9]at hmc
       have Sd:j0 w0 aV bi kt km ac nc cc _ _ _ rs wd:=⟨h1d,A0 hmc hgd (bF S9.ne.symm),vF h3c hgd λg hg e=>(hacn g hg).1 (Option.some.inj e).symm,Td,td,Below.put hBc hgd S9.kt0,S9.ne,λg hg=>⟨(hacn g hg).1,(hacn g hg).2.1,(hacn g hg).2.2.1⟩,S9.kt0,S9.km0⟩
       have hpd:CF ((gd ((kk:Int),rn)).take k++[lab]) (ps5++[(gd ((kk:Int),rn)).take k++[lab]]) 0=some ps5.length:=by
         rw[zP,hq,if_pos rfl];simp
       rw[hRk]
       refine⟨ps5.length,⟨⟨ac,nc,cc,_,_,_,Sd,hpd,by simp;omega,λg hg=>⟨(hacn g hg).2.2.2.1,(hacn g hg).2.2.2.2⟩⟩,vF hLc hgd λg hg e=>P9.s3 (by rw[hg,<- e]),hRc.grown hgd (bF P9.s1.symm),P9.s1,P9.s2,P9.s3,P9.s4⟩,⟨ac,nc,cc,_,_,_,Sd,?_⟩,h7c.grown hgd (bF hkk7.2.1)⟩
       rw[vw,hedge,if_pos rfl];rfl
   · refine aJ.of ?_ _
     rintro wj ⟨i2,Pj,⟨a6,n6,c6,ps6,kvs6,es6,S6,hl6⟩,h7j⟩
     refine⟨rfl,rfl,_,λu hu=>(S6.h1.below hu).load1 bn rfl rfl,_,_,λu hu=>GD.load0 (h7j.below hu) rfl,(i2:Int),λu hu=>?_,λwq hwq=>?_⟩
     · have:=(S6.h2.below hu).look1 (P:=prog) bn rZ ik ((node:Int),lab)
       rw[hl6]at this;exact this
     · exact⟨L.length-(k+1),by omega,k+1,i2,by omega,by rw[wrap_i64 (by omega) (by omega)];omega,rfl,rfl,Pj.below hwq⟩
 · have:k=L.length:=by omega
   subst this
   have hRl:(gd ((kk:Int),rn)).take L.length=gd ((kk:Int),rn):=by rw[List.take_of_length_le];rw[hR];simp
   rw[hRl]at P5
   simp only[z6]
   obtain⟨a5,n5,c5,ps5,kvs5,es5,S5,hp5,hN5,hog5⟩:=P5.ex
   have pn:=(nQ hp5).2
   rw[Nat.sub_zero]at pn
   have hnl:node<es5.length:=by rw[S5.t.len];exact(List.getElem?_eq_some_iff.1 pn).1
   have hn5:=S5.h3.len
   subst hn5
   have hsome:=S5.h3.all.isSome hnl
   have hrow:=S5.t.mark node _ pn
   refine⟨rfl,rfl,_,_,_,λu hu=>(S5.h1.below hu).load1 eu rfl rfl,trivial,_,λu hu=>(P5.h3.below hu).load1 bG rfl rfl,⟨⟨by omega,by omega⟩,hsome⟩,⟨⟨by omega,by omega⟩,?_⟩,?_⟩
   · cases a5 with
     | none=>cases hsome
     | some x=>rfl
   intro wq hwq
   have S6:=S5.below hwq
   obtain⟨w7,hs7,h37,hg7⟩:=S6.h3.store1 (P:=prog) nu (λ_ _ h=>h) (k:=4) rfl (i:=node) (j:=kk) hnl hk4 (v:=.bool true) (x:=(marks rs (gd ((kk:Int),rn))).set kk true) rfl rfl (by
     intro vs hvs
     rw[List.getElem?_eq_getElem hnl]at hrow
     have hvs:vs=es5[node].map Value.bool/\es5[node].length=4:=hvs
     rw[Option.some.inj hrow]at hvs
     exact⟨by rw[hvs.1,List.map_set],by rw[List.length_set,vx]⟩)
   refine⟨w7,hs7,rfl,a5,es5.length,c5,ps5,kvs5,_,⟨S6.h1.grown hg7 (λe=>(S6.og kt e.symm).1 rfl),A0 S6.h2 hg7 (λe=>(S6.og km e).2.1 rfl),h37,S6.T,S6.t.rule S6.T rfl pn hk4,S6.hb.grown hg7 S6.hb.size (λx e=>(S6.og x e).2.2),S6.ne,S6.og,S6.kt0,S6.km0⟩,by omega⟩
theorem Oa (s:List UInt8):co (co s)=co s:=by
 have h:∀n,n<256->xC (xC (UInt8.ofNat n))=xC (UInt8.ofNat n):=by decide+kernel
 unfold co
 rw[List.map_map]
 apply List.map_congr_left
 intro c _
 have:=h c.toNat (by have:=c.toNat_lt;omega)
 rw[UInt8.ofNat_toNat]at this
 exact this
theorem UF (s:List UInt8):(co s).head?=some 91 ↔ s.head?=some 91:=by
 cases s with
 | nil=>simp[co]
 | cons c r=>
   have h:∀n,n<256->(xC (UInt8.ofNat n)=91 ↔ UInt8.ofNat n=91):=by decide+kernel
   have:=h c.toNat (by have:=c.toNat_lt;omega)
   rw[UInt8.ofNat_toNat]at this
   simpa[co]using this
theorem NR {s:List UInt8}{h:Hst}(e:bt s=some h)(hk:h.kind=1):h=⟨1,co s,ad0⟩/\bt (co s)=some h/\(co s).length <=253:=by
 have e0:=e
 unfold bt at e
 split at e
 · split at e
   · have:=Iu e;omega
   · cases e
 rename_i h91
 split at e
 · cases h4:v4V s with
   | none=>rw[h4]at e;cases e
   | some a=>
     rw[h4]at e
     have:h.kind=2:=by rw[<- Option.some.inj e]
     omega
 rename_i hd
 split at e
 · rename_i hc
   have e1:=Option.some.inj e
   refine⟨e1.symm,?_,by simpa[co]using hc.1⟩
   unfold bt
   rw[if_neg (λhx=>h91 ((UF s).1 hx)),Oa,if_neg hd,if_pos ⟨by simpa[co]using hc.1,hc.2⟩,e1]
 · cases e
def Q7 (r:Rul):Hst:=⟨1,r.2,ad0⟩
theorem OR (r:Rul):(Q7 r).ok:=rfl
theorem LU (u:List UInt8):(qJ u).1=1\/(qJ u).1=2\/(qJ u).1=3:=by
 unfold qJ
 split
 · exact .inr (.inl rfl)
 split
 · exact .inr (.inr rfl)
 · exact .inl rfl
structure ES (r:Rul):Prop where
 kind:r.1=1\/r.1=2\/r.1=3
 len:r.2.length <=253
 host:bt r.2=some (Q7 r)
theorem Q9 {r:Rul}(h:Q8 r=true):ES r:=by
 unfold Q8 at h
 rw[Bool.and_eq_true,Bool.and_eq_true,beq_iff_eq,OQ]at h
 obtain⟨h1,h2,h3⟩:=h
 generalize yZ r=s at*
 unfold qK at h1 h2 h3
 split at h1
 · rename_i hc;rw[if_pos hc]at h2;cases h2
 · rename_i hc
   rw[if_neg hc]at h2 h3
   have hk:=LU (ve (trimB s))
   generalize qJ (ve (trimB s))=kn at*
   obtain⟨k,n⟩:=kn
   unfold Tt at h1 h2 h3
   cases hv:bt n with
   | none=>simp only[hv]at h2;cases h2
   | some g=>
     simp only[hv]at h1 h2 h3
     split at h2
     · rename_i hg
       rw[if_pos hg]at h3
       obtain⟨g1,g2,g3⟩:=NR hv hg.1
       have e1:r.1=k:=by rw[<- h3]
       have e2:r.2=co n:=by rw[<- h3,g1]
       refine⟨by rw[e1];exact hk,by rw[e2];exact g3,?_⟩
       unfold Q7
       rw[e2,g2,g1]
     · cases h2
theorem ES.right {r:Rul}(h:ES r):cC (Q7 r)=true:=by
 unfold cC
 have:cD (Q7 r)=r.2:=by unfold cD Q7;rw[if_pos rfl]
 rw[this,h.host]
 exact(je (OR r) (OR r)).2 rfl
theorem ES.labels {r:Rul}(h:ES r):aK (Q7 r)=bK 46 [] r.2:=by
 unfold aK
 rw[if_pos ⟨rfl,h.right⟩];rfl
theorem ES.ne {r:Rul}(h:ES r):(aK (Q7 r)).length≠0:=by
 rw[h.labels]
 have:=List.length_pos_iff.2 (gQ 46 r.2 [])
 omega
theorem ES.revl {r:Rul}(h:ES r):gd r=(aK (Q7 r)).reverse:=by rw[h.labels];rfl
theorem FZ {r:Rul} :0<(gd r).length:=by
 unfold Go.Pk.gd
 rw[List.length_reverse]
 exact List.length_pos_iff.2 (gQ 46 r.2 [])
def Mk (R:Pth)(m:Nat)(r:Rul):Nat:=
 if gd r=R.take (gd r).length then(if r.1=1 then max m (gd r).length else if r.1=2/\(gd r).length<R.length then max m ((gd r).length+1)else m)else m
def Mj (R:Pth)(m:Nat)(r:Rul):Nat:=if gd r=R.take (gd r).length/\r.1=3 then max m ((gd r).length-1)else m
def U8 (rs:List Rul)(R:Pth):Nat:=rs.foldl (Mk R) 1
def Uq (rs:List Rul)(R:Pth):Nat:=rs.foldl (Mj R) 0
def Gt (rs:List Rul)(R:Pth):Nat:=if R=[]then 0 else if 0<Uq rs R then Uq rs R else U8 rs R
theorem zU {r:Rul}{R:Pth}(h:gd r=R.take (gd r).length):(gd r).length <=R.length:=by
 have:=congrArg List.length h
 rw[List.length_take]at this;omega
theorem Ku (rs:List Rul)(R:Pth):Top 1 (kR rs R R.length (R.length-1)) (U8 rs R):=by
 suffices ∀(rs:List Rul) (S:Nat->Prop) (m:Nat),Top 1 S m->Top 1 (λx=>S x\/kR rs R R.length (R.length-1) x) (rs.foldl (Mk R) m) by
   exact(this rs _ 1 (Top.zero 1)).congr λx=>by simp
 intro rs
 induction rs with
 | nil=>exact λS m h=>h.congr λx=>by unfold kR;simp
 | cons r rs ih=>
   intro S m h
   rw[List.foldl_cons]
   have hsplit:∀x,kR (r::rs) R R.length (R.length-1) x ↔ kR [r] R R.length (R.length-1) x\/kR rs R R.length (R.length-1) x:=λx=>by
     unfold kR;simp
   have h1:Top 1 (λx=>S x\/kR [r] R R.length (R.length-1) x) (Mk R m r):=by
     have hl:=FZ (r:=r)
     unfold Mk
     by_cases c:gd r=R.take (gd r).length
     · have hle:=zU c
       rw[if_pos c]
       by_cases c1:r.1=1
       · rw[if_pos c1]
         refine(h.max _).congr λx=>or_congr Iff.rfl ?_
         unfold kR
         constructor
         · rintro rfl;exact⟨r,by simp,c,.inl ⟨c1,hle,rfl⟩⟩
         · rintro⟨r',hr',c',h'⟩
           rw[List.mem_singleton]at hr';subst hr'
           rcases h' with⟨_,_,h'⟩|⟨c2,_⟩
           · exact h'.symm
           · rw[c1]at c2;exact absurd c2 (by decide)
       · rw[if_neg c1]
         by_cases c2:r.1=2/\(gd r).length<R.length
         · rw[if_pos c2]
           refine(h.max _).congr λx=>or_congr Iff.rfl ?_
           unfold kR
           constructor
           · rintro rfl;exact⟨r,by simp,c,.inr ⟨c2.1,by omega,rfl⟩⟩
           · rintro⟨r',hr',c',h'⟩
             rw[List.mem_singleton]at hr';subst hr'
             rcases h' with⟨c3,_⟩|⟨_,_,h'⟩
             · exact absurd c3 c1
             · exact h'.symm
         · rw[if_neg c2]
           refine h.congr λx=>?_
           have: ¬ kR [r] R R.length (R.length-1) x:=by
             rintro⟨r',hr',c',h'⟩
             rw[List.mem_singleton]at hr';subst hr'
             rcases h' with⟨c3,_⟩|⟨c3,c4,_⟩
             · exact c1 c3
             · exact c2 ⟨c3,by omega⟩
           simp[this]
     · rw[if_neg c]
       refine h.congr λx=>?_
       have: ¬ kR [r] R R.length (R.length-1) x:=by
         rintro⟨r',hr',c',-⟩
         rw[List.mem_singleton]at hr';subst hr'
         exact c c'
       simp[this]
   exact(ih _ _ h1).congr λx=>by rw[hsplit,or_assoc]
theorem Kt (rs:List Rul)(R:Pth):Top 0 (fY rs R R.length) (Uq rs R):=by
 suffices ∀(rs:List Rul) (S:Nat->Prop) (m:Nat),Top 0 S m->Top 0 (λx=>S x\/fY rs R R.length x) (rs.foldl (Mj R) m) by
   exact(this rs _ 0 (Top.zero 0)).congr λx=>by simp
 intro rs
 induction rs with
 | nil=>exact λS m h=>h.congr λx=>by unfold fY;simp
 | cons r rs ih=>
   intro S m h
   rw[List.foldl_cons]
   have hsplit:∀x,fY (r::rs) R R.length x ↔ fY [r] R R.length x\/fY rs R R.length x:=λx=>by
     unfold fY;simp
   have h1:Top 0 (λx=>S x\/fY [r] R R.length x) (Mj R m r):=by
     unfold Mj
     by_cases c:gd r=R.take (gd r).length/\r.1=3
     · rw[if_pos c]
       refine(h.max _).congr λx=>or_congr Iff.rfl ?_
       unfold fY
       constructor
       · rintro rfl;exact⟨r,by simp,c.1,c.2,zU c.1,rfl⟩
       · rintro⟨r',hr',c',c3,c4,h'⟩
         rw[List.mem_singleton]at hr';subst hr'
         exact h'.symm
     · rw[if_neg c]
       refine h.congr λx=>?_
       have: ¬ fY [r] R R.length x:=by
         rintro⟨r',hr',c',c3,c4,h'⟩
         rw[List.mem_singleton]at hr';subst hr'
         exact c ⟨c',c3⟩
       simp[this]
   exact(ih _ _ h1).congr λx=>by rw[hsplit,or_assoc]
theorem My.take {ps:List Pth}{kvs:List (jq×Int)}(t:My ps kvs):∀(j:Nat) (p:Pth),p∈ps->p.length <=j->∀k,p.take k∈ps
 | 0,p,hp,hl,k=>by
   have:p=[]:=List.length_eq_zero_iff.1 (by omega)
   subst this;rw[List.take_nil];exact hp
 | j+1,p,hp,hl,k=>by
   by_cases hk:p.length <=k
   · rw[List.take_of_length_le hk];exact hp
   · obtain⟨q,l,rfl⟩:∃q l,p=q++[l]:=by
       rcases List.eq_nil_or_concat p with h|⟨q,l,h⟩
       · subst h;simp at hk
       · exact⟨q,l,by simpa using h⟩
     rw[List.length_append,List.length_singleton]at hl hk
     have:=My.take t j q (t.closed _ _ hp) (by omega) k
     rw[List.take_append_of_le_length (by omega)];exact this
theorem Oh {ps:List Pth}{kvs:List (jq×Int)}{es:List (List Bool)}{rs:List Rul}(T:My ps kvs)(t:Tab ps es rs){R:Pth}{k:Nat}(hk:k<R.length)(hno:R.take (k+1) ∉ ps):
   (∀x,kR rs R k k x ↔ kR rs R R.length (R.length-1) x)/\(∀x,fY rs R k x ↔ fY rs R R.length x):=by
 have hle:∀r∈rs,gd r=R.take (gd r).length->(gd r).length <=k:=λr hr c=>by
   refine Decidable.byContradiction λhc=>hno ?_
   have:=T.take _ _ (t.rules r hr) (Nat.le_refl _) (k+1)
   rw[c,List.take_take,Nat.min_eq_left (by omega)]at this
   exact this
 refine⟨λx=>?_,λx=>?_⟩
 · constructor
   · rintro⟨r,hr,c,h⟩
     refine⟨r,hr,c,?_⟩
     rcases h with⟨h1,h2,h3⟩|⟨h1,h2,h3⟩
     · exact .inl ⟨h1,by omega,h3⟩
     · exact .inr ⟨h1,by omega,h3⟩
   · rintro⟨r,hr,c,h⟩
     have:=hle r hr c
     refine⟨r,hr,c,?_⟩
     rcases h with⟨h1,h2,h3⟩|⟨h1,h2,h3⟩
     · exact .inl ⟨h1,this,h3⟩
     · exact .inr ⟨h1,this,h3⟩
 · constructor
   · rintro⟨r,hr,c,h1,h2,h3⟩;exact⟨r,hr,c,h1,by omega,h3⟩
   · rintro⟨r,hr,c,h1,h2,h3⟩;exact⟨r,hr,c,h1,hle r hr c,h3⟩
theorem E8 {rs:List Rul}{R:Pth}{k kk:Nat}(hk:k <=R.length):(rs.any λr=>decide (r.1=(kk:Int)/\gd r=R.take k))=true ↔ ∃r∈rs,r.1=(kk:Int)/\gd r=R.take (gd r).length/\(gd r).length=k:=by
 rw[List.any_eq_true]
 constructor
 · rintro⟨r,hr,h⟩
   rw[dTx]at h
   have hl:(gd r).length=k:=by rw[h.2,List.length_take];omega
   exact⟨r,hr,h.1,by rw[hl];exact h.2,hl⟩
 · rintro⟨r,hr,h1,h2,h3⟩
   exact⟨r,hr,decide_eq_true ⟨h1,by rw[h3]at h2;exact h2⟩⟩
theorem Oi {rs:List Rul}{R:Pth}{k m:Nat}(hk:k <=R.length)(h:Top 1 (kR rs R k (k-1)) m)(hm:m <=k+1):
   Top 1 (kR rs R k k) (if(rs.any λr=>decide (r.1=((2:Nat):Int)/\gd r=R.take k))=true then k+1 else m):=by
 have hx:∀x,kR rs R k k x ↔ (kR rs R k (k-1) x\/(x=k+1/\(rs.any λr=>decide (r.1=((2:Nat):Int)/\gd r=R.take k))=true)):=λx=>by
   rw[E8 hk]
   constructor
   · rintro⟨r,hr,c,h⟩
     rcases h with h|⟨h1,h2,h3⟩
     · exact .inl ⟨r,hr,c,.inl h⟩
     · by_cases e:(gd r).length=k
       · exact .inr ⟨by omega,r,hr,h1,c,e⟩
       · exact .inl ⟨r,hr,c,.inr ⟨h1,by omega,h3⟩⟩
   · rintro(⟨r,hr,c,h⟩|⟨rfl,r,hr,h1,c,h2⟩)
     · refine⟨r,hr,c,?_⟩
       rcases h with h|⟨h1,h2,h3⟩
       · exact .inl h
       · exact .inr ⟨h1,by omega,h3⟩
     · exact⟨r,hr,c,.inr ⟨h1,by omega,by omega⟩⟩
 split
 · rename_i hm2
   have:=h.max (k+1)
   rw[Nat.max_eq_right hm]at this
   exact this.congr λx=>by rw[hx x,and_iff_left hm2]
 · rename_i hm2
   exact h.congr λx=>by rw[hx x];exact⟨.inl,λh=>h.elim id λh=>absurd h.2 hm2⟩
theorem Og {rs:List Rul}{R:Pth}{k m:Nat}(hk:k<R.length)(h:Top 1 (kR rs R k k) m)(hm:m <=k+1):
   Top 1 (kR rs R (k+1) k) (if(rs.any λr=>decide (r.1=((1:Nat):Int)/\gd r=R.take (k+1)))=true then k+1 else m):=by
 have hx:∀x,kR rs R (k+1) k x ↔ (kR rs R k k x\/(x=k+1/\(rs.any λr=>decide (r.1=((1:Nat):Int)/\gd r=R.take (k+1)))=true)):=λx=>by
   rw[E8 (by omega)]
   constructor
   · rintro⟨r,hr,c,h⟩
     rcases h with⟨h1,h2,h3⟩|h
     · by_cases e:(gd r).length=k+1
       · exact .inr ⟨by omega,r,hr,h1,c,e⟩
       · exact .inl ⟨r,hr,c,.inl ⟨h1,by omega,h3⟩⟩
     · exact .inl ⟨r,hr,c,.inr h⟩
   · rintro(⟨r,hr,c,h⟩|⟨rfl,r,hr,h1,c,h2⟩)
     · refine⟨r,hr,c,?_⟩
       rcases h with⟨h1,h2,h3⟩|h
       · exact .inl ⟨h1,by omega,h3⟩
       · exact .inr h
     · exact⟨r,hr,c,.inl ⟨h1,by omega,h2⟩⟩
 split
 · rename_i hm2
   have:=h.max (k+1)
   rw[Nat.max_eq_right hm]at this
   exact this.congr λx=>by rw[hx x,and_iff_left hm2]
 · rename_i hm2
   exact h.congr λx=>by rw[hx x];exact⟨.inl,λh=>h.elim id λh=>absurd h.2 hm2⟩
theorem Ja {rs:List Rul}{R:Pth}{k m:Nat}(hk:k<R.length)(h:Top 0 (fY rs R k) m)(hm:m <=k):
   Top 0 (fY rs R (k+1)) (if(rs.any λr=>decide (r.1=((3:Nat):Int)/\gd r=R.take (k+1)))=true then k else m):=by
 have hx:∀x,fY rs R (k+1) x ↔ (fY rs R k x\/(x=k/\(rs.any λr=>decide (r.1=((3:Nat):Int)/\gd r=R.take (k+1)))=true)):=λx=>by
   rw[E8 (by omega)]
   constructor
   · rintro⟨r,hr,c,h1,h2,h3⟩
     by_cases e:(gd r).length=k+1
     · exact .inr ⟨by omega,r,hr,h1,c,e⟩
     · exact .inl ⟨r,hr,c,h1,by omega,h3⟩
   · rintro(⟨r,hr,c,h1,h2,h3⟩|⟨rfl,r,hr,h1,c,h2⟩)
     · exact⟨r,hr,c,h1,by omega,h3⟩
     · exact⟨r,hr,c,h1,by omega,by omega⟩
 split
 · rename_i hm2
   have:=h.max k
   rw[Nat.max_eq_right hm]at this
   exact this.congr λx=>by rw[hx x,and_iff_left hm2]
 · rename_i hm2
   exact h.congr λx=>by rw[hx x];exact⟨.inl,λh=>h.elim id λh=>absurd h.2 hm2⟩
def MA (rs:List Rul)(h:Hst):Bool:=decide (0<(aK h).length)&&(Gt rs (aK h).reverse==(aK h).length)
def Sg (w:World)(rs:List Rul)(v:Value)(w':World):Prop:=∃kt km a n c ps kvs es,v=.pointer (some ⟨kt,0,none⟩)/\j0 w aV bi kt km a n c ps kvs es (rs.filter Q8) w'
theorem QO (w:World):(Instr.makeSlice bJ (vI 1) (vI 1)).run prog w=.ok (.slice (some ⟨w.heap.size,0,none⟩) 1 1) (w.alloc (.cells #[.bool false,.bool false,.bool false,.bool false] bi)):=by kernel_rfl
theorem QK {w:World}{A:Bl}{a:Option Addr}{n c:Nat}{rs:List Rul}(h:Sl VG w A a n c rs){i:Nat}(hi:i<rs.length):(Instr.loadAt aW (.pointer (aq a (i:Int) 2))).run prog w=.ok (zZc rs[i]) w:=by
 obtain⟨ti,hti,hsz,_,_⟩:=Ce.info
 have hag:(prog.underlying aW).map CE=some true:=by kernel_rfl
 cases hu:prog.underlying aW with
 | none=>rw[hu]at hag;cases hag
 | some d=>
   rw[hu]at hag
   simp only[Option.map_some,Option.some.injEq]at hag
   obtain⟨vs,h1,h2⟩:=h.loadA hu hag hti (k:=2) rfl hsz (i:=(i:Int)) (by simpa using hi)
   have h2:vs=KZ rs[i]:=h2
   rw[h2]at h1;exact h1
theorem Gu {A:Bl}{a0:Option Addr}{l0 c0:Nat}{rs:List Rul}{w:World}(hs:Sl VG w A a0 l0 c0 rs)(hl:rs.length <=1000000)(hr:∀r∈rs,r.2.length <=1000000)(he:Env w):
   Cf qE #[.slice a0 l0 c0] w (Ret (Sg w rs)):=by
 apply DK
 intro k9 w9 hk9 hw9
 have hb9:=(hw9▸ai w _:bW w w9)
 have m9:sy ekE evI w9 k9 []:=sy.new hk9 hw9
 refine⟨_,_,_,_,QO w9,?_⟩
 generalize hw10:w9.alloc (.cells #[.bool false,.bool false,.bool false,.bool false] bi)=w10
 have hb10:=(hw10▸ai w9 _:bW w9 w10)
 have hB10:=aa hb9 hb10 hb9.size
 have o10:Ow tB4 bi w10 NoB (some ⟨w9.heap.size,0,none⟩) 1 1 [[false,false,false,false]]:=
   Ow.newF (T:=tB4) (l:=[.bool false,.bool false,.bool false,.bool false]) (xs:=[[false,false,false,false]]) (w:=w9) Nu rfl hw10.symm (gh.one ⟨rfl,rfl⟩) (by decide)
 intro k12 w12 hk12 hw12
 have hb12:=(hw12▸ai w10 _:bW w10 w12)
 have hB12:=aa hB10 hb12 hB10.size
 have lt9:=m9.lt
 have s10:=hb10.size
 have s9:=hb9.size
 have sz10:w10.heap.size=w9.heap.size+1:=by rw[<- hw10];simp
 have T0:j0 w aV bi k12 k9 (some ⟨w9.heap.size,0,none⟩) 1 1 [[]] [] [[false,false,false,false]] [] w12:=
   ⟨ao.new hk12 hw12,(m9.below hb10).below hb12,o10.below hb12,Rk,TK,hB12,by omega,λg hg=>by
     simp[eJ]at hg
     omega,by omega,by omega⟩
 clear m9 o10
 have hn:=hs.len
 subst hn
 refine⟨λm i w'=>∃k:Nat,k <=rs.length/\i=(k:Int)/\m=rs.length-k/\∃a n c ps kvs es,j0 w aV bi k12 k9 a n c ps kvs es ((rs.take k).filter Q8) w'/\ps.length <=1+300*k,⟨_,0,by omega,rfl,rfl,_,_,_,_,_,_,T0,by decide⟩,?_⟩
 intro m i
 refine aJ.of ?_ _
 rintro w1 ⟨k,hk,rfl,rfl,a,n,c,ps,kvs,es,S1,hps⟩
 refine ab.of (λh=>?_) (λh=>?_) <;> simp only[dTx,dFx]at h
 · have hlt:k<rs.length:=by omega
   have hs1:=hs.below S1.hb
   have hlen:=hr _ (List.getElem_mem hlt)
   refine⟨⟨⟨by omega,h⟩,hs1.isSome hlt⟩,_,_,QK hs1 hlt,?_⟩
   have htake:(rs.take (k+1)).filter Q8=(rs.take k).filter Q8++(if Q8 rs[k]=true then[rs[k]]else[]):=by
     rw[List.take_succ_eq_append_getElem hlt,List.filter_append]
     congr 1
     rw[List.filter_cons,List.filter_nil]
   generalize rs[k]=r at*
   refine rP.new (zs:=KZ (0,[])) (cs:=KZ r) rfl rfl (JL r) w1 λk5 w5 hk5 h5 hb5=>?_
   refine⟨_,_,rP.load0 h5 rfl,?_⟩
   have S5:=S1.below hb5
   refine aw (HT r (by omega) w5) ?_
   rintro _ w6 ⟨rfl,hb6⟩
   have S6:=S5.below hb6
   have hm:(yZ r).length <=1000002:=by
     have:(yU r.1).length <=2:=by unfold yU;split;decide;split;decide;decide
     unfold yZ;simp;omega
   refine⟨_,rfl,?_⟩
   refine aw (HS (yZ r) (by omega) w6 (he.step S6.hb)) ?_
   rintro _ w7 ⟨rfl,hb7⟩
   have S7:=S6.below hb7
   refine⟨_,_,_,_,rfl,?_⟩
   have hR:Q8 r=(((qK (yZ r)).2.2==0)&&((qK (yZ r)).2.1&&Mf (qK (yZ r)).1 r)):=rfl
   generalize qK (yZ r)=x at*
   obtain⟨q,b,e⟩:=x
   simp only at hR
   refine rP.new (zs:=KZ (0,[])) (cs:=KZ q) rfl rfl (JL q) w7 λk8 w8 hk8 h8 hb8=>?_
   have S8:=S7.below hb8
   have h58:=((h5.below hb6).below hb7).below hb8
   refine iU (w:=w8) (Q8 r) ?_ ?_
   · rw[hR]
     refine ab.of (λc1=>?_) (λc1=>⟨rfl,by simp only at c1;rw[c1];rfl⟩)
     refine ab.of (λc2=>?_) (λc2=>⟨rfl,by simp only at c1 c2;rw[c1,c2];rfl⟩)
     refine⟨_,_,rP.load0 h8 rfl,_,_,rP.load0 h58 rfl,_,UO q r w8,rfl,?_⟩
     simp only at c1 c2;rw[c1,c2];rfl
   · refine ab.of (λc1=>?_) (λc1=>?_)
     · have g:=Q9 c1
       refine⟨_,_,rP.load0 h58 rfl,?_⟩
       refine aw (Gv he S8 r ?_ g.len hps (by omega)) ?_
       · rcases g.kind with e|e|e
         · exact⟨1,e,by decide⟩
         · exact⟨2,e,by decide⟩
         · exact⟨3,e,by decide⟩
       rintro _ w9' ⟨rfl,a',n',c',ps',kvs',es',S9,hps'⟩
       refine⟨rfl,rs.length-(k+1),by omega,k+1,by omega,by rw[wrap_i64 (by omega) (by omega)];omega,rfl,a',n',c',ps',kvs',es',?_,by omega⟩
       rw[htake,if_pos c1];exact S9
     · refine⟨rs.length-(k+1),by omega,k+1,by omega,by rw[wrap_i64 (by omega) (by omega)];omega,rfl,a,n,c,ps,kvs,es,?_,by omega⟩
       rw[htake,if_neg (by rw[c1];decide),List.append_nil];exact S8
 · have:k=rs.length:=by omega
   subst this
   rw[List.take_length]at S1
   exact⟨_,_,_,_,_,_,_,_,rfl,S1⟩
theorem pN {w0:World}(he:Env w0){kt km:Nat}{a:Option Addr}{n c:Nat}{ps:List Pth}{kvs:List (jq×Int)}{es:List (List Bool)}{rs:List Rul}{w:World}(S:j0 w0 aV bi kt km a n c ps kvs es rs w){h:Hst}(oh:h.ok)(hn:h.name.length <=1000000000):
   Cf eG #[.pointer (some ⟨kt,0,none⟩),h.v] w (Ret λv w'=>v=vI ((Gt rs (aK h).reverse:Nat):Int)/\bW w w'):=by
 apply px
 intro k3 w3 hk3 hw3
 have hB3:=(hw3▸ai w _:bW w w3)
 have h3:ao w3 k3 ae h.cells:=ao.new hk3 hw3
 refine⟨_,aP.load0 h3 (Hst.len oh),?_⟩
 refine aw (fX oh hn w3 (he.step (S.below hB3).hb)) ?_
 rintro _ w4 ⟨aL,lL,cL,rfl,ho,-,hb4⟩
 have hB4:=aa hB3 hb4 hB3.size
 have hll:=lP h
 generalize aK h=L at*
 have hnL:=ho.len
 subst hnL
 have hRlen:L.reverse.length=L.length:=List.length_reverse
 refine⟨_,_,_,rfl,_,run_min_int2 _ _ _ _ _ _ _,?_⟩
 have hn5:=S.h3.len
 subst hn5
 have hel:=S.t.len
 refine⟨λm e w'=>∃mm ee:Nat,m=(mm:Int)/\e=(ee:Int)/\(if 0<ee then ee else mm)=Gt rs L.reverse/\bW w w',?_,?_⟩
 · refine⟨λm nd mo ex i w'=>∃k node mm ee:Nat,k <=L.length/\i=(k:Int)+1/\m=L.length-k/\nd=(node:Int)/\mo=(mm:Int)/\ex=(ee:Int)/\CF (L.reverse.take k) ps 0=some node/\(L=[]->mm=0)/\(L≠[]->Top 1 (kR rs L.reverse k (k-1)) mm)/\mm <=k+1/\Top 0 (fY rs L.reverse k) ee/\ee <=k/\bW w4 w',?_,?_⟩
   · refine⟨_,0,0,(if L=[]then 0 else 1),0,by omega,rfl,rfl,rfl,?_,rfl,S.T.first 0 [] S.T.root,λe=>if_pos e,λe=>?_,?_,?_,Nat.le_refl _,Below.refl _ _⟩
     · by_cases e:L=[]
       · subst e;rfl
       · rw[if_neg e,if_neg (by have:=List.length_pos_iff.2 e;omega)];rfl
     · rw[if_neg e]
       exact(Top.zero 1).congr λx=>⟨λh=>h.elim,λ⟨r,_,_,h⟩=>by have:=FZ (r:=r);omega⟩
     · split <;> omega
     · exact(Top.zero 0).congr λx=>⟨λh=>h.elim,λ⟨r,_,_,h⟩=>by have:=FZ (r:=r);omega⟩
   intro m nd mo ex i
   refine aJ.of ?_ _
   rintro w5 ⟨k,node,mm,ee,hk,rfl,rfl,rfl,rfl,rfl,hpos,hmz,hmt,hmm,het,hee,hb5⟩
   have hB5:=aa hB4 hb5 hB4.size
   have S5:=S.below hB5
   have ho5:=ho.below hb5
   simp only[z6]
   refine ab.of (λhc=>?_) (λhc=>?_) <;> simp only[dTx,dFx]at hc
   · have hlt:k<L.length:=by omega
     have hne:L≠[]:=λe=>by rw[e]at hlt;cases hlt
     have pn:=(nQ hpos).2
     rw[Nat.sub_zero]at pn
     have hnl:node<es.length:=by rw[hel];exact(List.getElem?_eq_some_iff.1 pn).1
     have mget:∀(nd:Nat) (p:Pth) (hnd:nd<es.length),ps[nd]? =some p->∀(j:Nat),j<4->∀(vs:List Value),tB4.rep w5 zW vs es[nd]->vs[j]? =some (.bool (rs.any λr=>decide (r.1=(j:Int)/\gd r=p))):=λnd p hnd hp j hj vs hvs=>by
       have hrow:=S.t.mark nd p hp
       rw[List.getElem?_eq_getElem hnd]at hrow
       have hvs:vs=es[nd].map Value.bool/\es[nd].length=4:=hvs
       rw[hvs.1,Option.some.inj hrow,List.getElem?_map,A1 _ _ _ hj];rfl
     have hsome:=S5.h3.all.isSome hnl
     have hel2:∀x:Int,Option.isSome (aq a x 4)=true:=λx=>by
       cases a with
       | none=>cases hsome
       | some x=>rfl
     have T2:=Oi (rs:=rs) (R:=L.reverse) (k:=k) (by rw[hRlen];exact hk) (hmt hne) hmm
     have hmm2:(if(rs.any λr=>decide (r.1=((2:Nat):Int)/\gd r=L.reverse.take k))=true then k+1 else mm) <=k+1:=by split <;> omega
     refine⟨λn7 w'=>w'=w5/\n7=(((if(rs.any λr=>decide (r.1=((2:Nat):Int)/\gd r=L.reverse.take k))=true then k+1 else mm):Nat):Int),?_,?_⟩
     · refine⟨rfl,rfl,_,_,_,S5.h1.load1 eu rfl rfl,⟨⟨by omega,by omega⟩,hsome⟩,⟨⟨by decide,by decide⟩,hel2 _⟩,_,S5.h3.all.loadC (P:=prog) ci rfl (k:=4) rfl (i:=node) (j:=2) hnl (by decide) (mget node _ hnl pn 2 (by decide)),?_⟩
       exact ab.of (λc=>⟨rfl,by rw[if_pos c];rfl⟩) (λc=>⟨rfl,by rw[if_neg (by rw[c];decide)]⟩)
     intro n7
     refine aJ.of ?_ _
     rintro w6 ⟨hw6,rfl⟩
     rw[hw6];clear hw6
     generalize (if(rs.any λr=>decide (r.1=((2:Nat):Int)/\gd r=L.reverse.take k))=true then k+1 else mm)=mm2 at*
     have ei:i64.wrap (((L.length:Nat):Int)-((k:Int)+1))=((L.length-1-k:Nat):Int):=by rw[wrap_i64 (by omega) (by omega)];omega
     try dsimp only
     rw[ei]
     have hRk:L.reverse.take (k+1)=L.reverse.take k++[L[L.length-1-k]'(by omega)]:=by
       rw[List.take_succ_eq_append_getElem (by simpa using hlt),List.getElem_reverse]
     refine⟨rfl,rfl,_,λu hu=>(S5.h1.below hu).load1 bn rfl rfl,⟨⟨by omega,by omega⟩,ho5.all.isSome (by omega)⟩,_,λu hu=>(ho5.below hu).all.text av (i:=L.length-1-k) (show L.length-1-k<L.length by omega),?_⟩
     generalize L[L.length-1-k]'(by omega)=lab at*
     have hedge:=S5.T.edge node lab
     rw[pn]at hedge
     simp only at hedge
     cases hq:CF (L.reverse.take k++[lab]) ps 0 with
     | none=>
       rw[hq]at hedge
       refine⟨0,false,λu hu=>?_,λwq hwq=>ab.yes rfl ⟨mm2,ee,rfl,rfl,?_,aa hB5 hwq hB5.size⟩⟩
       · have:=(S5.h2.below hu).look2 (P:=prog) bn rZ ik ((node:Int),lab)
         rw[hedge]at this;exact this
       · have hno:L.reverse.take (k+1) ∉ ps:=by rw[hRk];exact nP.1 hq
         obtain⟨s1,s2⟩:=Oh S.T S.t (R:=L.reverse) (k:=k) (by rw[hRlen];exact hlt) hno
         have e1:mm2=U8 rs L.reverse:=Top.eq (T2.congr s1) (Ku rs L.reverse)
         have e2:ee=Uq rs L.reverse:=Top.eq (het.congr s2) (Kt rs L.reverse)
         unfold Gt
         rw[if_neg (λhx=>hne (List.reverse_eq_nil_iff.1 hx)),e1,e2]
     | some i2=>
       rw[hq]at hedge
       refine⟨(i2:Int),true,λu hu=>?_,λwq hwq=>ab.no rfl ?_⟩
       · have:=(S5.h2.below hu).look2 (P:=prog) bn rZ ik ((node:Int),lab)
         rw[hedge]at this;exact this
       have pn2:=(nQ hq).2
       rw[Nat.sub_zero]at pn2
       have hnl2:i2<es.length:=by rw[hel];exact(List.getElem?_eq_some_iff.1 pn2).1
       have S6:=S5.below hwq
       rw[<- hRk]at pn2 hq
       have T3:=Og (rs:=rs) (R:=L.reverse) (k:=k) (by rw[hRlen];exact hlt) T2 hmm2
       have E3:=Ja (rs:=rs) (R:=L.reverse) (k:=k) (by rw[hRlen];exact hlt) het hee
       have hmm3:(if(rs.any λr=>decide (r.1=((1:Nat):Int)/\gd r=L.reverse.take (k+1)))=true then k+1 else mm2) <=k+1:=by split <;> omega
       have hee3:(if(rs.any λr=>decide (r.1=((3:Nat):Int)/\gd r=L.reverse.take (k+1)))=true then k else ee) <=k+1:=by split <;> omega
       refine⟨λn7 w'=>w'=wq/\n7=(((if(rs.any λr=>decide (r.1=((1:Nat):Int)/\gd r=L.reverse.take (k+1)))=true then k+1 else mm2):Nat):Int),?_,?_⟩
       · refine⟨rfl,rfl,_,_,_,S6.h1.load1 eu rfl rfl,⟨⟨by omega,by omega⟩,hsome⟩,⟨⟨by decide,by decide⟩,hel2 _⟩,_,S6.h3.all.loadC (P:=prog) ci rfl (k:=4) rfl (i:=i2) (j:=1) hnl2 (by decide) (mget i2 _ hnl2 pn2 1 (by decide)),?_⟩
         exact ab.of (λc=>⟨rfl,by rw[if_pos c];rfl⟩) (λc=>⟨rfl,by rw[if_neg (by rw[c];decide)]⟩)
       intro n7
       refine aJ.of ?_ _
       rintro w7 ⟨hw7,rfl⟩
       rw[hw7];clear hw7
       have next:∀ee2:Nat,ee2=(if(rs.any λr=>decide (r.1=((3:Nat):Int)/\gd r=L.reverse.take (k+1)))=true then k else ee)->∃m':Nat,m'<L.length-k/\∃k' node' mm' ee':Nat,k' <=L.length/\i64.wrap ((k:Int)+1+1)=(k':Int)+1/\m'=L.length-k'/\(i2:Int)=(node':Int)/\(((if(rs.any λr=>decide (r.1=((1:Nat):Int)/\gd r=L.reverse.take (k+1)))=true then k+1 else mm2):Nat):Int)=(mm':Int)/\(ee2:Int)=(ee':Int)/\CF (L.reverse.take k') ps 0=some node'/\(L=[]->mm'=0)/\(L≠[]->Top 1 (kR rs L.reverse k' (k'-1)) mm')/\mm' <=k'+1/\Top 0 (fY rs L.reverse k') ee'/\ee' <=k'/\bW w4 wq:=λee2 he2=>by
         refine⟨L.length-(k+1),by omega,k+1,i2,_,ee2,by omega,by rw[wrap_i64 (by omega) (by omega)];omega,rfl,rfl,rfl,rfl,hq,λe=>absurd e hne,λ_=>T3,by omega,by rw[he2];exact E3,by rw[he2];exact hee3,aa hb5 hwq hb5.size⟩
       refine⟨rfl,rfl,_,_,_,S6.h1.load1 eu rfl rfl,⟨⟨by omega,by omega⟩,hsome⟩,⟨⟨by decide,by decide⟩,hel2 _⟩,_,S6.h3.all.loadC (P:=prog) ci rfl (k:=4) rfl (i:=i2) (j:=3) hnl2 (by decide) (mget i2 _ hnl2 pn2 3 (by decide)),?_⟩
       refine ab.of (λc=>?_) (λc=>?_)
       · have e:i64.wrap ((k:Int)+1-1)=(k:Int):=by rw[wrap_i64 (by omega) (by omega)];omega
         try dsimp only
         rw[e]
         exact next k (by rw[if_pos c])
       · exact next ee (by rw[if_neg (by rw[c];decide)])
   · have:k=L.length:=by omega
     subst this
     refine⟨mm,ee,rfl,rfl,?_,hB5⟩
     by_cases e:L=[]
     · subst e
       have:=hmz rfl
       simp only[List.length_nil]at hee
       have:ee=0:=by omega
       subst this
       unfold Gt
       simp[hmz rfl]
     · have hm:=hmt e
       have e1:mm=U8 rs L.reverse:=Top.eq hm (by have:=Ku rs L.reverse;rw[hRlen]at this;exact this)
       have e2:ee=Uq rs L.reverse:=Top.eq het (by have:=Kt rs L.reverse;rw[hRlen]at this;exact this)
       unfold Gt
       rw[if_neg (λhx=>e (List.reverse_eq_nil_iff.1 hx)),e1,e2]
 · intro mo ex
   refine aJ.of ?_ _
   rintro w5 ⟨mm,ee,rfl,rfl,hv,hB5⟩
   refine ab.of (λhc=>⟨?_,hB5⟩) (λhc=>⟨?_,hB5⟩) <;> simp only[gt_iff_lt,dTx,dFx]at hc
   · rw[<- hv,if_pos (by omega)]
   · rw[<- hv,if_neg (by omega)]
theorem pL {w0:World}(he:Env w0){kt km:Nat}{a:Option Addr}{n c:Nat}{ps:List Pth}{kvs:List (jq×Int)}{es:List (List Bool)}{rs:List Rul}{w:World}(S:j0 w0 aV bi kt km a n c ps kvs es rs w){h:Hst}(oh:h.ok)(hn:h.name.length <=1000000000):
   Cf cU #[.pointer (some ⟨kt,0,none⟩),h.v] w (Ret λv w'=>v=.bool (MA rs h)/\bW w w'):=by
 apply pu
 intro k3 w3 hk3 hw3
 have hB3:=(hw3▸ai w _:bW w w3)
 have h3:ao w3 k3 ae h.cells:=ao.new hk3 hw3
 refine⟨_,aP.load0 h3 (Hst.len oh),?_⟩
 refine aw (fX oh hn w3 (he.step (S.below hB3).hb)) ?_
 rintro _ w4 ⟨aL,lL,cL,rfl,ho,-,hb4⟩
 have hB4:=aa hB3 hb4 hB3.size
 refine⟨_,_,_,rfl,?_⟩
 have hnL:=ho.len
 subst hnL
 unfold MA
 refine ab.of (λhc=>?_) (λhc=>⟨?_,hB4⟩) <;> simp only[gt_iff_lt,dTx,dFx]at hc
 · refine⟨_,aP.load0 (h3.below hb4) (Hst.len oh),?_⟩
   refine aw (pN he (S.below hB4) oh hn) ?_
   rintro _ w5 ⟨rfl,hb5⟩
   refine⟨_,rfl,?_,aa hB4 hb5 hB4.size⟩
   try dsimp only
   rw[decide_eq_true (show 0<(aK h).length by omega),Bool.true_and]
   congr 1
   rw[Bool.eq_iff_iff,beq_iff_eq,beq_iff_eq];omega
 · try dsimp only
   rw[decide_eq_false (show ¬ 0<(aK h).length by omega),Bool.false_and]
def nmL:List (List UInt8):=[[],[78,111,110,101],[76,97,120],[83,116,114,105,99,116]]
def nmV:Value:=.agg (nmL.map λs=>vS s).toArray
def CT (v:List UInt8):Nat->Int
 | 0=>0
 | k+1=>if co (nmL[k]?.getD [])=co v then(k:Int)else CT v k
theorem LW (v:List UInt8):CT v 4=JP v:=by
 have e0:co (nmL[0]?.getD [])=[]:=rfl
 have e1:co (nmL[1]?.getD [])=[110,111,110,101]:=by decide
 have e2:co (nmL[2]?.getD [])=[108,97,120]:=by decide
 have e3:co (nmL[3]?.getD [])=[115,116,114,105,99,116]:=by decide
 unfold CT CT CT CT CT JP
 rw[e0,e1,e2,e3]
 generalize co v=x
 by_cases h1:x=[110,111,110,101]
 · subst h1;rfl
 · by_cases h2:x=[108,97,120]
   · subst h2;rfl
   · by_cases h3:x=[115,116,114,105,99,116]
     · subst h3;rfl
     · rw[if_neg (Ne.symm h3),if_neg (Ne.symm h2),if_neg (Ne.symm h1),if_neg h1,if_neg h2,if_neg h3]
       split <;> rfl
def nameOf (l:List UInt8):List UInt8×List UInt8:=if NK l then(D1 l,xW l)else([],D1 l)
def zv (h:Hdr)(x:List UInt8):Hdr:=if(xW x).length <=1024 then Af h (co (D1 x)) (xW x)else h
def cK (s:List UInt8):Hdr×Int:=
 if s.any qd=true then(CO,81)
 else if(nameOf ((bK 59 [] s).headD [])).1++(nameOf ((bK 59 [] s).headD [])).2=[]then(CO,82)
 else if 4096<(nameOf ((bK 59 [] s).headD [])).1.length+(nameOf ((bK 59 [] s).headD [])).2.length then(CO,83)
 else(((bK 59 [] s).drop 1).foldl zv { CO with name:=(nameOf ((bK 59 [] s).headD [])).1,value:=(nameOf ((bK 59 [] s).headD [])).2 },0)
theorem GT (s:List UInt8):(D1 s).length <=s.length:=Nat.le_trans (xR _ _) (mJ _ _)
theorem GS (s:List UInt8):(xW s).length <=s.length:=by
 have h1:=xR xA ((s.dropWhile (· !=61)).drop 1)
 have h2:=(List.dropWhile_sublist (· !=(61:UInt8)) (l:=s)).length_le
 rw[List.length_drop]at h1
 unfold xW trimB;omega
theorem Tg (h:Hdr):∀c∈h.v.cells.toList,c.oneCell'=true:=by
 intro c hc
 simp only[Hdr.v,Value.cells,Hdr.cells,List.mem_cons,List.mem_nil_iff,or_false]at hc
 rcases hc with rfl|rfl|rfl|rfl|rfl|rfl|rfl|rfl|rfl|rfl|rfl <;> rfl
theorem Hp (h:Hdr){w:World}{k:Nat}{vs:List Value}(ha:ao w k ax vs)(hl:vs.length=11):
   ∃wx,(Instr.storeAt ax (.pointer (some ⟨k,0,none⟩)) h.v).run prog w=.ok () wx/\ao wx k ax h.cells/\w.grownBy wx (some k):=by
 obtain⟨wx,hs,h2,hg⟩:=ha.store (P:=prog) vY (i:=0) (v:=h.v) rfl (by omega) (Tg h)
 refine⟨wx,hs,?_,hg⟩
 rw[List.take_zero,List.nil_append,List.drop_eq_nil_of_le (by omega),List.append_nil]at h2
 exact h2
theorem jI (h:Hdr){w:World}{k:Nat}(ha:ao w k ax h.cells):(Instr.loadAt ax (.pointer (some ⟨k,0,none⟩))).run prog w=.ok h.v w:=by
 obtain⟨ti,hti,hsz,_,_⟩:=vY.info
 cases hu:prog.underlying ax with
 | none=>
           have:(prog.underlying ax).map CE=some true:=by kernel_rfl
           rw[hu]at this;cases this
 | some d=>
   have:(prog.underlying ax).map CE=some true:=by kernel_rfl
   rw[hu]at this
   simp only[Option.map_some,Option.some.injEq]at this
   exact ha.loadA hu this hti (us:=h.cells) (i:=0) (by rw[hsz];rfl) (λj hj=>by rw[Nat.zero_add])
theorem Fq (h:Hdr){w w':World}{k2:Nat}{vs:List Value}(h2:ao w' k2 ax vs)(hl:vs.length=11)(hb:bW w w')(hk:w.heap.size <=k2){e:Int}{K:Value->World->Prop}
   (hK:∀wx,bW w wx->K (.tuple #[h.v,vI e]) wx):
   ∃(wx:World),(Instr.storeAt ax (.pointer (some ⟨k2,0,none⟩)) h.v).run prog w'=.ok () wx/\
     ∃(s0:List UInt8) (s1:List UInt8) (s2:List UInt8) (s3:List UInt8) (b4:Bool) (n5:Int) (b6:Bool) (n7:Int) (b8:Bool) (b9:Bool) (n10:Int),
       (bg ax (.pointer (some ⟨k2,0,none⟩))).run prog wx=.ok (.agg #[vS s0,vS s1,vS s2,vS s3,.bool b4,vI n5,.bool b6,vI n7,.bool b8,.bool b9,vI n10]) wx/\
       K (.tuple #[.agg #[vS s0,vS s1,vS s2,vS s3,.bool b4,vI n5,.bool b6,vI n7,.bool b8,.bool b9,vI n10],vI e]) wx:=by
 obtain⟨wx,hs,h3,hg⟩:=Hp h h2 hl
 exact⟨wx,hs,h.name,h.value,h.domain,h.path,h.hasE,h.exp,h.hasA,h.age,h.sec,h.http,h.same,ao.res (jI h h3),hK wx (hb.grown hg hb.size λx e=>by cases e;exact hk)⟩
theorem lI (w:World):Cf hU #[] w (Ret λv w'=>v=nmV/\bW w w'):=by
 apply zg
 intro k w1 hk hw
 have hB:=(hw▸ai w _:bW w w1)
 have ha:ao w1 k cO (List.replicate 4 (vS [])):=ao.new hk hw
 obtain⟨wx,hs,h2,hg⟩:=ha.store (P:=prog) sO (i:=0) (v:=nmV) rfl (by decide) (by
   intro c hc
   simp only[nmV,Value.cells]at hc
   obtain⟨s,_,rfl⟩:=List.mem_map.1 (by simpa using hc)
   rfl)
 have h3:ao wx k cO (nmL.map λs=>vS s):=h2
 obtain⟨ti,hti,hsz,_,_⟩:=sO.info
 refine⟨wx,hs,_,_,_,_,ao.res (h3.loadA DY rfl hti (us:=nmL.map λs=>vS s) (i:=0) (by rw[hsz];rfl) (λj hj=>by rw[Nat.zero_add])),rfl,hB.grown hg hB.size λx e=>by cases e;omega⟩
theorem KJ (w:World):∀k:Nat,k<4->(Instr.index cO nmV (vI (k:Int))).run prog w=.ok (vS (nmL[k]?.getD [])) w
 | 0,_=>by kernel_rfl
 | 1,_=>by kernel_rfl
 | 2,_=>by kernel_rfl
 | 3,_=>by kernel_rfl
 | n+4,h=>by omega
def Ke (k:Nat)(h:Hdr)(w:World)(v:Value)(w':World):Prop:=v=.tuple #[]/\ao w' k ax h.cells/\w.grownBy w' (some k)
theorem gu {k:Nat}{h:Hdr}{w w':World}(ha:ao w' k ax h.cells)(hg:w.grownBy w' (some k)):Ke k h w (.tuple #[]) w':=⟨rfl,ha,hg⟩
theorem ul (k:Nat)(h:Hdr)(key value:List UInt8)(hl:value.length <=100000)(w:World)(ha:ao w k ax h.cells):
   Cf iY #[.pointer (some ⟨k,0,none⟩),vS key,vS value] w (Ret (Ke k (Af h key value) w)):=by
 apply so
 simp only[z6]
 have h0:Option.isSome (some (⟨k,0,none⟩:Addr))=true:=rfl
 have g0:=LJ w (some k)
 have bb:∀b:Bool,(Value.bool b).cells= #[Value.bool b]:=λ_=>rfl
 refine ab.of (λh1=>?_) (λh1=>?_)
 · rw[beq_iff_eq]at h1
   refine aw (CL value (by omega) w) ?_
   rintro _ w1 ⟨rfl,hb1⟩
   have ha1:=ha.below hb1
   have hg1:=dz hb1 (some k)
   unfold Af
   rw[if_pos h1]
   unfold G6
   by_cases hc:xi (nv value)
   · rw[if_pos hc,if_pos hc]
     refine⟨_,_,rfl,ab.yes rfl ⟨h0,h0,?_⟩⟩
     obtain⟨w2,hs2,ha2,hg2⟩:=ha1.put (P:=prog) nu (i:=4) (v:=.bool true) (by simp[Hdr.cells]) rfl rfl
     refine⟨w2,hs2,h0,h0,?_⟩
     obtain⟨w3,hs3,ha3,hg3⟩:=ha2.put (P:=prog) vZ (i:=5) (v:=vI (iw (nv value))) (by simp[Hdr.cells]) rfl rfl
     exact⟨w3,hs3,gu ha3 (bL (bL hg1 hg2) hg3)⟩
   · rw[if_neg hc,if_neg hc]
     exact⟨_,_,rfl,ab.no rfl (gu ha1 hg1)⟩
 rw[beq_eq_false_iff_ne]at h1
 refine ab.of (λh2=>?_) (λh2=>?_)
 · rw[beq_iff_eq]at h2
   refine aw (Ft value (by omega) w) ?_
   rintro _ w1 ⟨rfl,hb1⟩
   have ha1:=ha.below hb1
   have hg1:=dz hb1 (some k)
   unfold Af
   rw[if_neg h1,if_pos h2]
   unfold U5
   cases RL value with
   | none=>exact⟨_,_,rfl,ab.no rfl (gu ha1 hg1)⟩
   | some n=>
     refine⟨_,_,rfl,ab.yes rfl ⟨h0,h0,?_⟩⟩
     obtain⟨w2,hs2,ha2,hg2⟩:=ha1.put (P:=prog) nu (i:=6) (v:=.bool true) (by simp[Hdr.cells]) rfl rfl
     refine⟨w2,hs2,h0,h0,?_⟩
     obtain⟨w3,hs3,ha3,hg3⟩:=ha2.put (P:=prog) vZ (i:=7) (v:=vI n) (by simp[Hdr.cells]) rfl rfl
     exact⟨w3,hs3,gu ha3 (bL (bL hg1 hg2) hg3)⟩
 rw[beq_eq_false_iff_ne]at h2
 refine ab.of (λh3=>?_) (λh3=>?_)
 · rw[beq_iff_eq]at h3
   refine(Tryz.strings_TrimPrefix (mkS value) (mkS [46]) w).mono ?_
   rintro _ _ ⟨rfl,rfl⟩
   have e:Lib.trimPrefix (mkS value).data.toList (mkS [46]).data.toList=if value.head?=some 46 then value.drop 1 else value:=(zQ value 46).2
   rw[e]
   refine⟨(if value.head?=some 46 then value.drop 1 else value),rfl,?_⟩
   refine aw (dU _ (by split <;> (try rw[List.length_drop]) <;> omega) _) ?_
   rintro _ w1 ⟨rfl,hb1⟩
   refine⟨_,rfl,h0,h0,?_⟩
   have ha1:=ha.below hb1
   obtain⟨w2,hs2,ha2,hg2⟩:=ha1.put (P:=prog) dI (i:=2) (v:=vS (co (if value.head?=some 46 then value.drop 1 else value))) (by simp[Hdr.cells]) rfl rfl
   refine⟨w2,hs2,gu ?_ (bL (dz hb1 (some k)) hg2)⟩
   unfold Af
   rw[if_neg h1,if_neg h2,if_pos h3];exact ha2
 rw[beq_eq_false_iff_ne]at h3
 refine ab.of (λh4=>?_) (λh4=>?_)
 · rw[beq_iff_eq]at h4
   refine⟨h0,h0,?_⟩
   obtain⟨w2,hs2,ha2,hg2⟩:=ha.put (P:=prog) dI (i:=3) (v:=vS []) (by simp[Hdr.cells]) rfl rfl
   refine⟨w2,hs2,?_⟩
   refine(Tryz.strings_HasPrefix (mkS value) (mkS [47]) w2).mono ?_
   rintro _ _ ⟨rfl,rfl⟩
   have e:Lib.hasPrefix (mkS value).data.toList (mkS [47]).data.toList=decide (value.head?=some 47):=(zQ value 47).1
   rw[e]
   refine⟨_,rfl,?_⟩
   unfold Af
   rw[if_neg h1,if_neg h2,if_neg h3,if_pos h4]
   refine ab.of (λh5=>?_) (λh5=>?_) <;> simp only[dTx,dFx]at h5
   · refine⟨h0,h0,?_⟩
     obtain⟨w3,hs3,ha3,hg3⟩:=ha2.put (P:=prog) dI (i:=3) (v:=vS value) (by simp[Hdr.cells]) rfl rfl
     refine⟨w3,hs3,gu ?_ (bL hg2 hg3)⟩
     rw[if_pos h5];exact ha3
   · rw[if_neg h5];exact gu ha2 hg2
 rw[beq_eq_false_iff_ne]at h4
 refine ab.of (λh5=>?_) (λh5=>?_)
 · rw[beq_iff_eq]at h5
   refine⟨h0,h0,?_⟩
   obtain⟨w2,hs2,ha2,hg2⟩:=ha.put (P:=prog) nu (i:=8) (v:=.bool true) (by simp[Hdr.cells]) rfl rfl
   refine⟨w2,hs2,gu ?_ hg2⟩
   unfold Af
   rw[if_neg h1,if_neg h2,if_neg h3,if_neg h4,if_pos h5];exact ha2
 rw[beq_eq_false_iff_ne]at h5
 refine ab.of (λh6=>?_) (λh6=>?_)
 · rw[beq_iff_eq]at h6
   refine⟨h0,h0,?_⟩
   obtain⟨w2,hs2,ha2,hg2⟩:=ha.put (P:=prog) nu (i:=9) (v:=.bool true) (by simp[Hdr.cells]) rfl rfl
   refine⟨w2,hs2,gu ?_ hg2⟩
   unfold Af
   rw[if_neg h1,if_neg h2,if_neg h3,if_neg h4,if_neg h5,if_pos h6];exact ha2
 rw[beq_eq_false_iff_ne]at h6
 unfold Af
 rw[if_neg h1,if_neg h2,if_neg h3,if_neg h4,if_neg h5,if_neg h6]
 refine ab.of (λh7=>?_) (λh7=>?_)
 · rw[beq_iff_eq]at h7
   rw[if_pos h7]
   refine⟨h0,h0,?_⟩
   obtain⟨w2,hs2,ha2,hg2⟩:=ha.put (P:=prog) ik (i:=10) (v:=vI 0) (by simp[Hdr.cells]) rfl rfl
   refine⟨w2,hs2,?_⟩
   refine aw (lI w2) ?_
   rintro _ w3 ⟨rfl,hb3⟩
   refine⟨_,_,_,_,rfl,?_⟩
   refine⟨λm i w'=>∃j:Nat,j <=4/\i=(j:Int)/\m=4-j/\ao w' k ax ({ h with same:=CT value j } :Hdr).cells/\w.grownBy w' (some k),
     ⟨_,0,by omega,rfl,rfl,ha2.below hb3,bL hg2 (dz hb3 _)⟩,?_⟩
   intro m i
   refine aJ.of ?_ _
   rintro w4 ⟨j,hj,rfl,rfl,ha4,hg4⟩
   refine ab.of (λh8=>?_) (λh8=>?_) <;> simp only[dTx,dFx]at h8
   · have hj4:j<4:=by omega
     have ew:i64.wrap ((j:Int)+1)=((j+1:Nat):Int):=by rw[wrap_i64 (by omega) (by omega)];omega
     try dsimp only
     rw[ew]
     have hnl:(nmL[j]?.getD []).length <=6:=by
       have:∀j,j<4->(nmL[j]?.getD []).length <=6:=by decide
       exact this j hj4
     refine⟨_,KJ w4 j hj4,?_⟩
     refine aw (pg _ value (by omega) (by omega) w4) ?_
     rintro _ w5 ⟨rfl,hb5⟩
     have ha5:=ha4.below hb5
     have hg5:=bL hg4 (dz hb5 (some k))
     refine⟨_,rfl,?_⟩
     have el:CT value (j+1)=if co (nmL[j]?.getD [])=co value then(j:Int)else CT value j:=rfl
     refine ab.of (λh9=>?_) (λh9=>?_)
     · rw[beq_iff_eq]at h9
       rw[if_pos h9]at el
       refine⟨h0,h0,?_⟩
       obtain⟨w6,hs6,ha6,hg6⟩:=ha5.put (P:=prog) ik (i:=10) (v:=vI (j:Int)) (by simp[Hdr.cells]) rfl rfl
       refine⟨w6,hs6,4-(j+1),by omega,j+1,by omega,rfl,rfl,?_,bL hg5 hg6⟩
       rw[el];exact ha6
     · rw[beq_eq_false_iff_ne]at h9
       rw[if_neg h9]at el
       refine⟨4-(j+1),by omega,j+1,by omega,rfl,rfl,?_,hg5⟩
       rw[el];exact ha5
   · have:j=4:=by omega
     subst this
     rw[LW]at ha4
     exact gu ha4 hg4
 · rw[beq_eq_false_iff_ne]at h7
   rw[if_neg h7]
   exact gu ha g0
end Go.Pk
