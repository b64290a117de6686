/- What the laws lean on: ScrG, ScrH, ShP, MapH, ShQ, ShR, Chg, SufP, Row, SufA, SufB, SufC, HdrD; what is used. Its conditions: none. -/
import Derived.Test.YtikdahhdhchlfaaGreatDoorKG
import Derived.Maps.RangeRun
open Go.IntKind (i64)
open Go.Proofs.Tryz
set_option linter.unusedVariables false
set_option linter.unusedSimpArgs false
set_option maxRecDepth 20000
namespace Go.Pk
open Go.RowKit (Below)
open Go.Proofs
theorem CZ {s:List UInt8}{h:Hst}(e:bR s=some h):h.name.length <=s.length:=by
 unfold bR at e
 split at e
 · split at e
   · rw[Option.map_eq_some_iff]at e
     obtain⟨a,_,rfl⟩:=e
     exact Nat.zero_le _
   · cases e
 · split at e
   · rw[Option.map_eq_some_iff]at e
     obtain⟨a,_,rfl⟩:=e
     exact Nat.zero_le _
   · split at e
     · rw[<- Option.some.inj e];simp[cF]
     · cases e
theorem Jb (s:List UInt8):((bR s).getD iq).name.length <=s.length:=by
 cases e:bR s with
 | none=>exact Nat.zero_le _
 | some h=>exact CZ e
theorem J9 (r:List UInt8):(vk r).length <=r.length+1:=by
 unfold vk
 split
 · simp
 · simp;omega
theorem Ms (r:List UInt8)(b:Bool):(Mr r b).1.host.name.length <=r.length/\(Mr r b).1.path.length <=r.length+1:=by
 unfold Mr
 split
 · exact⟨Nat.zero_le _,Nat.zero_le _⟩
 · rename_i h hh
   split
   · exact⟨Nat.zero_le _,Nat.zero_le _⟩
   · split
     · refine⟨?_,?_⟩
       · unfold vb at hh
         split at hh
         · cases hh
         · have:=CZ hh
           simp only[List.length_take]at this
           show h.name.length <=_
           omega
       · have:=J9 (r.drop (dC [47,63,35] r))
         simp only[List.length_drop]at this
         show(vk _).length <=_
         omega
     · exact⟨Nat.zero_le _,Nat.zero_le _⟩
theorem Mt (s:List UInt8):(uv s).1.host.name.length <=s.length/\(uv s).1.path.length <=s.length+1:=by
 unfold uv
 split
 · exact⟨Nat.zero_le _,Nat.zero_le _⟩
 · rename_i r b e
   have hr:r.length <=s.length:=by
     unfold OB at e
     split at e
     · cases e;simp
     split at e
     · cases e;simp
     · cases e
   have:=Ms r b
   omega
theorem Oy (s:List UInt8):((unP s).getD []).length <=s.length:=by
 cases e:unP s with
 | none=>exact Nat.zero_le _
 | some t=>
   have h:=(Ox s t).1 e
   unfold zL at h
   split at h
   · rename_i c;subst c;exact Nat.zero_le _
   · have:=(yu t).1
     rw[h]at this;exact this
def gq (k:List UInt8)(ws:List (List UInt8)):OpR×Bool:=
 match ws with
 | []=>(di,true)
 | [a]=>(⟨3,li,[],qZ,if vj a then gj a else 0⟩,decide (vj a))
 | [a,b]=>(⟨1,(uv a).1,(unP b).getD [],qZ,0⟩,(unP b).isSome&&((uv a).2==0))
 | [a,b,c,d]=>(⟨2,li,[],⟨dR a==1,(bR b).getD iq,c,lj d⟩,0⟩,(bR b).isSome&&decide (0 <=dR a))
 | _=>(yU,false)
def eE (k:List UInt8)(n:Nat):Bool:=decide (k=Nj/\n=2) || (decide (k=Ni/\n=4) || (decide (k=D9/\n=1) || decide (k=tZ/\n=0)))
theorem Hm (k:List UInt8)(ws:List (List UInt8))(h:(gq k ws).2=true):(gq k ws).1=vi (gq k ws).1:=by
 revert h
 unfold gq
 split <;> intro h
 · rfl
 · rfl
 · rfl
 · rfl
 · cases h
theorem Ma (k:List UInt8)(ws:List (List UInt8))(h:∀x∈ws,x.length <=900000):(gq k ws).1.ok:=by
 unfold gq
 split
 · exact⟨rfl,rfl,Nat.zero_le _,Nat.zero_le _,Nat.zero_le _,Nat.zero_le _,Nat.zero_le _⟩
 · exact⟨rfl,rfl,Nat.zero_le _,Nat.zero_le _,Nat.zero_le _,Nat.zero_le _,Nat.zero_le _⟩
 · rename_i a b
   have ha:=h a (by simp)
   have hb:=h b (by simp)
   have h1:=Mt a
   have h2:=Oy b
   exact⟨Fk a,rfl,by show(uv a).1.path.length <=_;omega,by show(uv a).1.host.name.length <=_;omega,Nat.zero_le _,Nat.zero_le _,by show((unP b).getD []).length <=_;omega⟩
 · rename_i a b c d
   have hb:=h b (by simp)
   have hc:=h c (by simp)
   have h1:=Jb b
   exact⟨rfl,nS λx hx=>gO (s:=b) hx,Nat.zero_le _,Nat.zero_le _,by show c.length <=_;omega,by show((bR b).getD iq).name.length <=_;omega,Nat.zero_le _⟩
 · exact⟨rfl,rfl,Nat.zero_le _,Nat.zero_le _,Nat.zero_le _,Nat.zero_le _,Nat.zero_le _⟩
theorem xB {s k:List UInt8}{ws:List (List UInt8)}(hc:dr 32 [] s=k::ws):dD s=if([]:List UInt8)∈k::ws then none else if eE k ws.length=true then(if((gq k ws).2&&eG (gq k ws).1)=true then some (gq k ws).1 else none)else none:=by
 unfold dD
 rw[hc]
 by_cases h0:([]:List UInt8)∈k::ws
 · rw[if_pos h0,if_pos h0]
 rw[if_neg h0,if_neg h0]
 have key:((gq k ws).2&&eG (gq k ws).1)=((gq k ws).2&&fF (gq k ws).1):=by
   cases h:(gq k ws).2 with
   | false=>rfl
   | true=>
     rw[Bool.true_and,Bool.true_and]
     have hf:(gq k ws).1.fit:=by
       unfold gq
       split
       · exact⟨rfl,rfl⟩
       · exact⟨rfl,rfl⟩
       · exact⟨Fk _,rfl⟩
       · exact⟨rfl,nS λx hx=>gO hx⟩
       · exact⟨rfl,rfl⟩
     exact EW hf (Hm k ws h)
 rw[key]
 have fl:∀(b:Bool) (o:OpR),(if(b&&fF o)=true then some o else none)=Option.filter fF (if b=true then some o else none):=λb o=>by
   cases b <;> cases h:fF o <;> simp[Option.filter,h]
 match ws with
 | []=>
   show(if k=tZ then some di else none)=if eE k 0=true then _ else none
   have e:(eE k 0=true)=(k=tZ):=by simp[eE]
   simp only[e];rfl
 | [a]=>
   show(if k=D9 then(On a).filter fF else none)=if eE k 1=true then _ else none
   have e:(eE k 1=true)=(k=D9):=by simp[eE]
   simp only[e]
   congr 1
   show _=if(decide (vj a)&&fF ⟨3,li,[],qZ,if vj a then gj a else 0⟩)=true then some (⟨3,li,[],qZ,if vj a then gj a else 0⟩:OpR)else none
   rw[fl];unfold On
   by_cases h:vj a
   · simp only[h,if_true,decide_true]
   · simp only[h,if_false,decide_false,Bool.false_eq_true]
 | [a,b]=>
   show(if k=Nj then(QD a b).filter fF else none)=if eE k 2=true then _ else none
   have e:(eE k 2=true)=(k=Nj):=by simp[eE]
   simp only[e]
   congr 1
   show _=if(((unP b).isSome&&((uv a).2==0))&&fF ⟨1,(uv a).1,(unP b).getD [],qZ,0⟩)=true then some (⟨1,(uv a).1,(unP b).getD [],qZ,0⟩:OpR)else none
   rw[fl];unfold QD
   cases unP b <;> by_cases h:(uv a).2=0 <;> simp[h]
 | [a,b,c]=>
   have e:eE k 3=false:=by simp[eE]
   show none=if eE k 3=true then _ else none
   rw[e];rfl
 | [a,b,c,d]=>
   show(if k=Ni then(Qr a b c d).filter fF else none)=if eE k 4=true then _ else none
   have e:(eE k 4=true)=(k=Ni):=by simp[eE]
   simp only[e]
   congr 1
   show _=if(((bR b).isSome&&decide (0 <=dR a))&&fF ⟨2,li,[],⟨dR a==1,(bR b).getD iq,c,lj d⟩,0⟩)=true then some (⟨2,li,[],⟨dR a==1,(bR b).getD iq,c,lj d⟩,0⟩:OpR)else none
   rw[fl];unfold Qr
   cases bR b <;> by_cases h:0 <=dR a <;> simp[h]
 | a::b::c::d::f::r=>
   have e:eE k (a::b::c::d::f::r).length=false:=by simp[eE]
   show none=if eE k (a::b::c::d::f::r).length=true then _ else none
   rw[e];rfl
def rdN (k:List UInt8):Int:=((cT k nY).map (·.1)).getD 0
def rdF (k:List UInt8):Value:=((cT k nY).map λp=>Value.func (.func p.2) #[] #[]).getD .nilFunc
theorem N4 {w:World}{r:Nat}(m:pR evS evR w r nY)(k:List UInt8):(Instr.lookup aA (.map (some r)) (vS k) true).run prog w=.ok (.tuple #[.agg #[vI (rdN k),rdF k],.bool (cT k nY).isSome]) w:=by
 have:=m.look2 bU (na.str aw) mQ k
 unfold evS at this
 rw[this]
 unfold rdN rdF
 cases cT k nY <;> rfl
theorem L9 {k:List UInt8}{n:Nat}(hs:(cT k nY).isSome=true)(e:((n+1:Nat):Int)=rdN k+1):eE k n=true:=by
 have hk:k=Nj\/k=Ni\/k=D9\/k=tZ:=by
   revert hs
   simp only[nY,cT]
   split
   · rename_i h;intro _;exact .inl h
   split
   · rename_i h;intro _;exact .inr (.inl h)
   split
   · rename_i h;intro _;exact .inr (.inr (.inl h))
   split
   · rename_i h;intro _;exact .inr (.inr (.inr h))
   · intro h;cases h
 unfold eE
 simp only[Bool.or_eq_true,dTx]
 rcases hk with rfl|rfl|rfl|rfl
 · have:rdN Nj=2:=rfl
   exact .inl ⟨rfl,by omega⟩
 · have:rdN Ni=4:=rfl
   exact .inr (.inl ⟨rfl,by omega⟩)
 · have:rdN D9=1:=rfl
   exact .inr (.inr (.inl ⟨rfl,by omega⟩))
 · have:rdN tZ=0:=rfl
   exact .inr (.inr (.inr ⟨rfl,by omega⟩))
theorem Dm {k:List UInt8}{n:Nat}(h:eE k n=true):(cT k nY).isSome=true/\((n+1:Nat):Int)=rdN k+1:=by
 unfold eE at h
 simp only[Bool.or_eq_true,dTx]at h
 rcases h with⟨rfl,rfl⟩|⟨rfl,rfl⟩|⟨rfl,rfl⟩|⟨rfl,rfl⟩ <;> exact⟨rfl,rfl⟩
theorem N3 {A:Bl}{a:Option Addr}{l c:Nat}{k:List UInt8}{ws:List (List UInt8)}{u:World}(h:eE k ws.length=true)(ho:Sl tS u A a l c ws)(hl:∀x∈ws,x.length <=900000)(he:Env u){R:Ending->World->Prop}
   (hR:∀u',bW u u'->R (.returned (.tuple #[(gq k ws).1.v,.bool (gq k ws).2])) u'):mI prog (rdF k) #[.slice a l c] u R:=by
 unfold eE at h
 simp only[Bool.or_eq_true,dTx]at h
 rcases h with⟨rfl,h⟩|⟨rfl,h⟩|⟨rfl,h⟩|⟨rfl,h⟩
 · match ws,h with
   | [x,y],_=>
     have hx:=hl x (by simp)
     have hy:=hl y (by simp)
     refine mI.of (f:=gz) (by kernel_rfl) (ax (BS ho (by omega) (by omega) he) ?_)
     rintro _ u' ⟨rfl,hb⟩;exact hR u' hb
 · match ws,h with
   | [x,y,p,z],_=>
     have hy:=hl y (by simp)
     refine mI.of (f:=gy) (by kernel_rfl) (ax (BR ho (by omega) he) ?_)
     rintro _ u' ⟨rfl,hb⟩;exact hR u' hb
 · match ws,h with
   | [x],_=>
     have hx:=hl x (by simp)
     refine mI.of (f:=fD) (by kernel_rfl) (ax (zw ho (by omega)) ?_)
     rintro _ u' ⟨rfl,hb⟩;exact hR u' hb
 · match ws,h with
   | [],_=>
     refine mI.of (f:=cU) (by kernel_rfl) (ax (ya a l c u) ?_)
     rintro _ u' ⟨rfl,hb⟩;exact hR u' hb
theorem PN:∃d,prog.underlying bA=some d/\yz d=false:=by
 have h:(prog.underlying bA).map yz=some false:=by kernel_rfl
 cases e:prog.underlying bA with
 | none=>rw[e]at h;cases h
 | some d=>rw[e]at h;exact⟨d,rfl,Option.some.inj h⟩
def zZc (s:List UInt8)(w:World)(v:Value)(w':World):Prop:=(∃o:OpR,v=.tuple #[o.v,.bool (dD s).isSome]/\o.fit/\∀p,dD s=some p->o=p)/\bW w w'
structure StR (w:World)(u:World)(m k:Option Nat):Prop where
 b:bW w u
 mm:∀r,m=some r->pR evS evR u r nY
 kk:∀x,k=some x->am u x aN [vI 0,.nilFunc]
 nn:∀r x,m=some r->k=some x->r≠x
 oo:∀x,k=some x->w.heap.size <=x
theorem vJ (s:List UInt8)(hs:s.length <=900000)(w:World)(he:Env w):Cf jO #[vS s] w (Ret (zZc s w)):=by
 apply tK
 intro k2 w2 hk2 hw2
 have hB2:bW w w2:=hw2▸ai w _
 have h2:am w2 k2 ao yU.cells:=am.new hk2 hw2
 have hk2w:w.heap.size <=k2:=by omega
 have bad:∀{wx:World},bW w2 wx->dD s=none->∃wy,(Instr.storeAt ao (.pointer (some ⟨k2,0,none⟩)) (.agg cA)).run prog wx=.ok () wy/\∃vr:Value,(bG ao (.pointer (some ⟨k2,0,none⟩))).run prog wy=.ok vr wy/\zZc s w (.tuple #[vr,.bool false]) wy:=fun{wx} hb hn=>
   gX.fin (K:=λvr wy=>zZc s w (.tuple #[vr,.bool false]) wy) (cs:=yU.cells) eN (OpR.one _) (h2.below hb) eN (aa hB2 hb hB2.size) hk2w λwy hy=>⟨⟨yU,by rw[hn];rfl,⟨rfl,rfl⟩,λp hp=>by rw[hn]at hp;cases hp⟩,hy⟩
 have hne:=jG 32 s []
 have hlen:=jp 32 s []
 have hcnt:=dF 32 s []
 refine ax (yS s (by omega) w2 (he.step hB2)) ?_
 rintro _ w3 ⟨hv,hb3⟩
 have hB3:=aa hB2 hb3 hB2.size
 by_cases h0:([]:List UInt8)∈dr 32 [] s
 · rw[if_pos h0]at hv
   subst hv
   exact⟨_,_,_,_,rfl,ab.yes rfl (bad hb3 (by unfold dD;rw[if_pos h0]))⟩
 rw[if_neg h0]at hv
 obtain⟨a,n,c,rfl,ow,hf⟩:=hv
 obtain⟨k,ws,hcut⟩:∃k ws,dr 32 [] s=k::ws:=by
   cases h:dr 32 [] s with
   | nil=>exact absurd h hne
   | cons k ws=>exact⟨k,ws,rfl⟩
 have hP:=xB hcut
 rw[hcut]at ow h0 hlen hcnt
 rw[if_neg h0]at hP
 have hws:∀x∈ws,x.length <=900000:=λx hx=>by
   have:=hlen x (List.mem_cons_of_mem _ hx)
   simp at this;omega
 have hwl:ws.length <=900000:=by simp at hcnt;omega
 have hn:n=ws.length+1:=ow.len
 have hsl:=ow.all
 have hio:Option.isSome a=true:=hsl.isSome (i:=0) (by simp)
 refine⟨_,_,_,_,rfl,ab.no rfl ?_⟩
 refine⟨λp b w'=>∃k6,p=some ⟨k6,0,none⟩/\b=(cT k nY).isSome/\am w' k6 aN [vI (rdN k),rdF k]/\bW w3 w',⟨⟨⟨by decide,by omega⟩,hio⟩,?_⟩,λp b=>aX.of ?_ _⟩
 · have s0:StR w3 (World.drew w3) none none:=⟨ec w3,λ_ h=>(by cases h),λ_ h=>(by cases h),λ_ _ h=>(by cases h),λ_ h=>(by cases h)⟩
   have ld:∀{u:World} {m x:Option Nat},StR w3 u m x->(Instr.loadAt ah (.pointer (an a (0:Int) 1))).run prog u=.ok (vS k) u:=λS=>Sl.str (hsl.below S.b) rfl
   have rd:∀{u:World} {x:Option Nat} {R:Ending->World->Prop},StR w3 u none x->(∀r u',StR w3 u' (some r) x->R (.returned (.map (some r))) u')->Cf cQ #[] u R:=fun{u x R} S h=>ax (tM u) (by
     rintro _ u' ⟨r,rfl,hr,m,hb⟩
     refine h r u' ⟨aa S.b hb S.b.size,λr' e=>?_,λy hy=>(S.kk y hy).below hb,λr' y e hy=>?_,S.oo⟩
     · rw[<- Option.some.inj e];exact m
     · rw[<- Option.some.inj e]
       have:=(S.kk y hy).lt
       omega)
   have al:∀{u:World} {m:Option Nat} {R:Nat->World->Prop},StR w3 u m none->(∀x u',StR w3 u' m (some x)->R x u')->∀(x:Nat) (u':World),x=u.heap.size->u'=u.alloc (.cells #[vI 0,.nilFunc] aN)->R x u':=fun{u m R} S h x u' hx hu=>by
     have hb:bW u u':=hu▸ai u _
     refine h x u' ⟨aa S.b hb S.b.size,λr e=>(S.mm r e).below hb,λy hy=>?_,λr y e hy=>?_,λy hy=>?_⟩
     · rw[<- Option.some.inj hy];exact am.new hx hu
     · rw[<- Option.some.inj hy]
       have:=(S.mm r e).lt
       omega
     · rw[<- Option.some.inj hy,hx];exact S.b.size
   have lk:∀{u:World} {r:Nat} {x:Option Nat},StR w3 u (some r) x->(Instr.lookup aA (.map (some r)) (vS k) true).run prog u=.ok (.tuple #[.agg #[vI (rdN k),rdF k],.bool (cT k nY).isSome]) u:=λS=>N4 (S.mm _ rfl) k
   have st:∀{u:World} {m:Option Nat} {x:Nat},StR w3 u m (some x)->∃wx,(Instr.storeAt aN (.pointer (some ⟨x,0,none⟩)) (.agg #[vI (rdN k),rdF k])).run prog u=.ok () wx/\∃k6,(some ⟨x,0,none⟩:Option Addr)=some ⟨k6,0,none⟩/\(cT k nY).isSome=(cT k nY).isSome/\am wx k6 aN [vI (rdN k),rdF k]/\bW w3 wx:=fun{u m x} S=>by
     have hone:∀v∈[vI (rdN k),rdF k],v.oneCell'=true:=by
       intro v hv
       simp at hv
       rcases hv with rfl|rfl
       · rfl
       · unfold rdF;cases cT k nY <;> rfl
     obtain⟨wx,hs,ha,hg⟩:=(S.kk x rfl).store (P:=prog) mQ (i:=0) (v:=.agg #[vI (rdN k),rdF k]) rfl (by decide) hone
     exact⟨wx,hs,x,rfl,rfl,ha,Below.put S.b hg (S.oo x rfl)⟩
   clear bad h2 hB3 hP hlen hcnt hb3 hB2
   repeat' (with_reducible first
     | exact st (by assumption)
     | refine And.intro ?_ ?_
     | refine⟨k,ld (by assumption),?_⟩
     | refine⟨_,_,_,lk (by assumption),?_⟩
     | (refine rd (by assumption) λ_ _ _=>⟨_,rfl,?_⟩)
     | (refine al (by assumption) λ_ _ _=>?_))
 · rintro w4 ⟨k6,rfl,rfl,h6,hb4⟩
   have hB4:=aa hB3 hb4 hB3.size
   have hb24:=aa hb3 hb4 hb3.size
   refine wZ (w:=w4) (eE k ws.length=true) ?_ ?_
   · refine ab.of (λc1=>?_) (λc1=>?_)
     · refine bad hb24 ?_
       rw[hP,if_neg]
       intro h
       rw[(Dm h).1]at c1;cases c1
     · have c1:(cT k nY).isSome=true:=by simpa using c1
       refine⟨rfl,_,h6.load1 bT rfl (i:=0) rfl,ab.of (λc2=>?_) (λc2=>⟨rfl,?_⟩)⟩
       · refine bad hb24 ?_
         rw[hP,if_neg]
         intro h
         have e:=(Dm h).2
         rw[hn,e,wrap_i64 (by omega) (by omega)]at c2
         simp at c2
       · refine L9 c1 ?_
         have c2:((n:Nat):Int)=i64.wrap (rdN k+1):=by simpa using c2
         have hN:0 <=rdN k/\rdN k <=4:=by
           unfold rdN
           simp only[nY,cT]
           split
           · decide
           split
           · decide
           split
           · decide
           split <;> decide
         rw[hn,wrap_i64 (by omega) (by omega)]at c2
         exact c2
   · intro hkn
     rw[if_pos hkn]at hP
     have ok:=Ma k ws hws
     have hsub:Sl tS w4 tV (fM a c 1 1) (n-1) (c-1) ws:=(hsl.below hb4).from (k:=1) 1 (by simp) rfl
     refine⟨λb p w'=>∃k8,p=some ⟨k8,0,none⟩/\b=(gq k ws).2/\am w' k8 ao (gq k ws).1.cells/\bW w4 w',⟨rfl,⟨by decide,by omega⟩,?_⟩,λb p=>aX.of ?_ _⟩
     · obtain⟨d,ud,ag⟩:=PN
       have ld:∀{u:World},bW w4 u->(Instr.loadAt bA (.pointer (some ⟨k6,1,none⟩))).run prog u=.ok (rdF k) u:=λhb=>(h6.below hb).load1 ud ag (i:=1) rfl
       have ca:∀{u:World} {R:Ending->World->Prop},bW w4 u->(∀u',bW w4 u'->bW u u'->R (.returned (.tuple #[(gq k ws).1.v,.bool (gq k ws).2])) u')->mI prog (rdF k) #[.slice (fM a c 1 1) (n-1) (c-1)] u R:=λhb h=>
         N3 hkn (hsub.below hb) hws (he.step (aa hB4 hb hB4.size)) λu' hu=>h u' (aa hb hu hb.size) hu
       have hd:bW w4 (World.drew w4):=ec w4
       have al:∀{u:World} {R:Nat->World->Prop},bW w4 u->(∀x u',am u' x ao yU.cells->w4.heap.size <=x->bW w4 u'->R x u')->∀(x:Nat) (u':World),x=u.heap.size->u'=u.alloc (.cells cA ao)->R x u':=fun{u R} hb h x u' hx hu=>
         h x u' (am.new hx hu) (by have:=hb.size;omega) (aa hb (hu▸ai u _) hb.size)
       have st:∀{u:World} {x:Nat},am u x ao yU.cells->w4.heap.size <=x->bW w4 u->∃wx,(Instr.storeAt ao (.pointer (some ⟨x,0,none⟩)) (gq k ws).1.v).run prog u=.ok () wx/\∃k8,(some ⟨x,0,none⟩:Option Addr)=some ⟨k8,0,none⟩/\(gq k ws).2=(gq k ws).2/\am wx k8 ao (gq k ws).1.cells/\bW w4 wx:=fun{u x} ha hx hb=>by
         obtain⟨wx,hs,h3,hg⟩:=gX.store0 (OpR.len ok) (OpR.one _) ha eN
         exact⟨wx,hs,x,rfl,rfl,h3,Below.put hb hg hx⟩
       refine⟨⟨rdF k,ld hd,?_,?_⟩,?_⟩
       · exact ca hd λu' hb _=>⟨_,_,rfl,al hb λx u2 ha hx hb2=>st ha hx hb2⟩
       · exact al hd λx u2 ha hx hb2=>ca hb2 λu' hb hu=>⟨_,_,rfl,st (ha.below hu) hx hb⟩
       · exact al hd λx u2 ha hx hb2=>⟨rdF k,ld hb2,ca hb2 λu' hb hu=>⟨_,_,rfl,st (ha.below hu) hx hb⟩⟩
     · rintro w5 ⟨k8,rfl,rfl,h8,hb5⟩
       have hB5:=aa hB4 hb5 hB4.size
       have hb25:=aa hb24 hb5 hb24.size
       have fin:∀(b:Bool),b=(dD s).isSome->∀wq:World,bW w5 wq->∃wx,(Instr.storeAt ao (.pointer (some ⟨k2,0,none⟩)) (gq k ws).1.v).run prog wq=.ok () wx/\∃vr:Value,(bG ao (.pointer (some ⟨k2,0,none⟩))).run prog wx=.ok vr wx/\zZc s w (.tuple #[vr,.bool b]) wx:=λb hb wq hq=>
         gX.fin (K:=λvr wx=>zZc s w (.tuple #[vr,.bool b]) wx) (cs:=(gq k ws).1.cells) (OpR.len ok) (OpR.one _) ((h2.below hb25).below hq) eN (aa hB5 hq hB5.size) hk2w λwx hy=>⟨⟨(gq k ws).1,by rw[hb];rfl,ok.fit,λp hp=>by
           rw[hP]at hp
           split at hp
           · exact Option.some.inj hp
           · cases hp⟩,hy⟩
       refine⟨_,λu hu=>gX.load0 (h8.below hu) (OpR.len ok),ab.of (λc1=>?_) (λc1=>?_)⟩
       · refine⟨_,λu hu=>gX.load0 (h8.below hu) (OpR.len ok),eG (gq k ws).1,λu hu=>?_,fin _ ?_⟩
         · refine(oD ok u (he.step (aa hB5 hu hB5.size))).mono ?_
           rintro _ u' ⟨_,rfl,rfl,hb⟩
           exact⟨rfl,hb⟩
         · rw[hP,c1,Bool.true_and]
           cases eG (gq k ws).1 <;> rfl
       · exact fin _ (by rw[hP,c1];rfl)
theorem OpW.fit {o:OpR}(k:OpW o):o.fit:=⟨k.uo,k.ro⟩
theorem N6 {o:OpR}(f:o.fit)(h:eG o=true):OpW o:=by
 obtain⟨h1,h2⟩:=(Hp f).1 h
 refine⟨f.uo,f.ro,?_⟩
 have hn:(vi o).n <=9223372036854775807:=by
   unfold vi
   split
   · exact(by decide:(0:Int) <=9223372036854775807)
   split
   · exact(by decide:(0:Int) <=9223372036854775807)
   split
   · rename_i c1 c2 c3
     unfold fF at h1
     rw[if_neg c1,if_neg c2,if_pos c3,Bool.and_eq_true,dTx,dTx]at h1
     show o.n <=_
     omega
   · exact(by decide:(0:Int) <=9223372036854775807)
 rwa [<- h2]at hn
theorem Di {s:List UInt8}{p:OpR}(h:dD s=some p):eG p=true:=by
 have hne:=jG 32 s []
 obtain⟨k,ws,hcut⟩:∃k ws,dr 32 [] s=k::ws:=by
   cases h:dr 32 [] s with
   | nil=>exact absurd h hne
   | cons k ws=>exact⟨k,ws,rfl⟩
 rw[xB hcut]at h
 split at h
 · cases h
 split at h
 · split at h
   · rename_i hr
     rw[<- Option.some.inj h]
     rw[Bool.and_eq_true]at hr
     exact hr.2
   · cases h
 · cases h
def NB (x:Int×Int×Int):Value:=.agg #[vI x.1,vI x.2.1,vI x.2.2]
def Ls (x:Int×Int×Int):List Value:=[vI x.1,vI x.2.1,vI x.2.2]
theorem AY (x:Int×Int×Int):uX (Ls x):=br rfl (br rfl (br rfl jZ))
theorem Ju (s:List UInt8):∀x∈uj s,x.length <=s.length:=by
 intro x hx
 unfold uj at hx
 obtain⟨y,hy,rfl⟩:=List.mem_map.1 hx
 have hc:y∈dr 10 [] s:=by
   split at hy
   · exact List.dropLast_subset _ hy
   · exact hy
 have:=jp 10 s [] y hc
 have:=Le y
 simp at*;omega
theorem Hg (f:List UInt8->Option OpR)(i:Nat)(out:List OpR):mN f i [] out=(out,0,0,0):=rfl
theorem ER (f:List UInt8->Option OpR){i:Nat}(x:List UInt8)(r:List (List UInt8))(out:List OpR)(h:i=200):mN f i (x::r) out=([],53,(i:Int)+1,1):=by rw[mN,if_pos h]
theorem Hf {f:List UInt8->Option OpR}{i:Nat}{x:List UInt8}(r:List (List UInt8))(out:List OpR)(h:i≠200)(hx:f x=none):mN f i (x::r) out=([],131,(i:Int)+1,1):=by rw[mN,if_neg h,hx]
theorem ES {f:List UInt8->Option OpR}{i:Nat}{x:List UInt8}{o:OpR}(r:List (List UInt8))(out:List OpR)(h:i≠200)(hx:f x=some o):mN f i (x::r) out=mN f (i+1) r (out++[o]):=by rw[mN,if_neg h,hx]
theorem kF:Whl prog aP 3:=⟨⟨_,_,DH⟩,by kernel_rfl⟩
theorem N2 {w0 w:World}{a:Option Addr}{n c:Nat}{xs:List OpR}(ho:Ow tOp ao w NoB a n c xs)(hf:bZ w0.heap.size a)(hb:bW w0 w){x:OpR}(o:OpW x)(hl:xs.length <=1000000):
   ∃(w1:World) (a1:Option Addr) (l1 c1:Nat),(Instr.buildSlice aK 1 #[(0,x.v)]).run prog w=.ok (.slice a1 l1 c1) w1/\
     ∃(w2:World) (a':Option Addr) (n' c':Nat),(Builtin.append_ #[aK,aK] aK #[.slice a n c,.slice a1 l1 c1]).run prog w1=.ok (.slice a' n' c') w2/\
       Ow tOp ao w2 NoB a' n' c' (xs++[x])/\bZ w0.heap.size a'/\bW w0 w2:=
 ⟨_,_,_,_,Jw o w,Hl qO ky oH (by decide) ho hf hb rfl rfl ⟨rfl,o⟩ (by omega)⟩
def QL (s:List UInt8)(w:World)(v:Value)(w':World):Prop:=∃a n c,v=.tuple #[.slice a n c,NB (pW dD s).2]/\Ow tOp ao w' NoB a n c (pW dD s).1/\bZ w.heap.size a/\bW w w'
theorem NC {w w' w3:World}{k3:Nat}{vs:List Value}(h3:am w' k3 aP vs)(hv:vs.length=3)(hb3:bW w w3)(hk3:w.heap.size <=k3)(hk:k3<w3.heap.size)(hb:bW w3 w'){s:List UInt8}{a:Option Addr}{n c:Nat}{out:List OpR}(ho:Ow tOp ao w' NoB a n c out)(hf:bZ w3.heap.size a)(x y z:Int)(e:pW dD s=(out,x,y,z)):
   ∃wx:World,(Instr.storeAt aP (.pointer (some ⟨k3,0,none⟩)) (.agg #[vI x,vI y,vI z])).run prog w'=.ok () wx/\
     ∃(p q r:Int),(bG aP (.pointer (some ⟨k3,0,none⟩))).run prog wx=.ok (.agg #[vI p,vI q,vI r]) wx/\QL s w (.tuple #[.slice a n c,.agg #[vI p,vI q,vI r]]) wx:=by
 obtain⟨wx,hs,ha,hg⟩:=kF.store0 (cs:=Ls (x,y,z)) rfl (AY _) h3 hv
 have hB:=aa hb3 hb hb3.size
 refine⟨wx,hs,x,y,z,am.res (kF.load0 ha rfl),a,n,c,by rw[e];rfl,?_,hf.mono hb3.size,Below.put hB hg hk3⟩
 rw[e]
 exact ho.put (λg hg e=>by have:=hf g hg;omega) hg
theorem j3 (s:List UInt8)(w:World)(he:Env w):Cf fV #[vS s] w (Ret (QL s w)):=by
 apply vG
 intro k3 w3 hk3 hw3
 have hB3:bW w w3:=hw3▸ai w _
 have h3:am w3 k3 aP (Ls (0,0,0)):=am.new hk3 hw3
 have hk3w:w.heap.size <=k3:=by omega
 have hk3l:=h3.lt
 have fin:=fun{w':World} {a:Option Addr} {n c:Nat} {out:List OpR} (hb:bW w3 w') (ho:Ow tOp ao w' NoB a n c out) (hf:bZ w3.heap.size a) (x y z:Int) e=>NC (s:=s) (h3.below hb) rfl hB3 hk3w hk3l hb ho hf x y z e
 refine ab.of (λc1=>?_) (λc1=>?_) <;> simp only[gt_iff_lt,dTx,dFx]at c1
 · exact fin (Below.refl _ _) (Ow.nil _ _ _ _) (bZ.none _) 54 1 1 (by unfold pW;rw[if_pos (by omega)])
 refine ax (yR s (by omega) w3 (he.step hB3)) ?_
 rintro _ w4 ⟨b,nb,cb,rfl,ob,fb,hb4⟩
 have hL:=Ju s
 have hP:pW dD s=mN dD 0 (uj s) []:=by unfold pW;rw[if_neg (by omega)]
 generalize uj s=L at*
 have hsl:=ob.all
 have hnb:nb=L.length:=ob.len
 refine⟨_,_,_,rfl,λm a n c i w'=>∃(j:Nat) (out:List OpR),j <=L.length/\i=(j:Int)/\m=L.length-j/\out.length=j/\j <=200/\Ow tOp ao w' NoB a n c out/\bZ w4.heap.size a/\bW w4 w'/\pW dD s=mN dD j (L.drop j) out,⟨_,0,[],Nat.zero_le _,rfl,rfl,rfl,by decide,Ow.nil _ _ _ _,bZ.none _,Below.refl _ _,hP⟩,λm a n c i=>aX.of ?_ _⟩
 rintro w5 ⟨j,out,hj,rfl,rfl,hol,hj2,oo,fo,hb45,hQ⟩
 have hb5:=aa hb4 hb45 hb4.size
 refine ab.of (λc2=>?_) (λc2=>?_) <;> simp only[dTx,dFx]at c2
 · have hjl:j<L.length:=by omega
   rw[List.drop_eq_getElem_cons hjl]at hQ
   refine⟨⟨⟨by omega,c2⟩,hsl.isSome hjl⟩,L[j],Sl.str (hsl.below hb45) (by rw[Int.toNat_natCast];exact List.getElem?_eq_getElem hjl),?_⟩
   have ew:i64.wrap ((j:Int)+1)=(j:Int)+1:=wrap_i64 (by omega) (by omega)
   try dsimp only
   rw[ew]
   refine ab.of (λc3=>?_) (λc3=>?_)
   · have c3:j=200:=by simp at c3;omega
     exact fin hb5 (Ow.nil _ _ _ _) (bZ.none _) 53 _ 1 (by rw[hQ,ER _ _ _ _ c3])
   · have c3:j≠200:=by simp at c3;omega
     have hB5:=aa hB3 hb5 hB3.size
     have hxl:L[j].length <=900000:=by have:=hL _ (List.getElem_mem hjl);omega
     refine ax (vJ L[j] hxl w5 (he.step hB5)) ?_
     rintro _ w6 ⟨⟨o,rfl,of,hop⟩,hb6⟩
     have hb56:=aa hb5 hb6 hb5.size
     refine⟨_,_,rfl,gX.new (zs:=yU.cells) (cs:=o.cells) eN (OpR.len' of) (OpR.one _) w6 λk7 w7 hk7 h7 hb7=>?_⟩
     have hb57:=aa hb56 hb7 hb56.size
     have hb47:=aa (aa hb45 hb6 hb45.size) hb7 (aa hb45 hb6 hb45.size).size
     refine ab.of (λc4=>?_) (λc4=>?_)
     · have c4:dD L[j]=none:=by cases h:dD L[j]with
         | none=>rfl
         | some p=>rw[h]at c4;cases c4
       exact fin hb57 (Ow.nil _ _ _ _) (bZ.none _) 131 _ 1 (by rw[hQ,Hf _ _ c3 c4])
     · obtain⟨p,hp⟩:∃p,dD L[j]=some p:=by cases h:dD L[j]with
         | none=>rw[h]at c4;cases c4
         | some p=>exact⟨p,rfl⟩
       have e:=hop p hp
       subst e
       refine⟨_,gX.load0 h7 (OpR.len' of),?_⟩
       obtain⟨w8,a8,l8,c8,r8,w9,a9,n9,c9,r9,o9,f9,hb9⟩:=N2 ((oo.below hb6).below hb7) fo hb47 (N6 of (Di hp)) (by omega)
       exact⟨w8,a8,l8,c8,r8,w9,a9,n9,c9,r9,L.length-(j+1),by omega,j+1,out++[o],by omega,by omega,rfl,by simp;omega,by omega,o9,f9,hb9,by rw[hQ,ES _ _ c3 hp]⟩
 · have:j=L.length:=by omega
   subst this
   rw[List.drop_length,Hg]at hQ
   exact fin hb5 oo (fo.mono hb4.size) 0 0 0 hQ
structure Plc where
 name:List UInt8
 host:Hst
 only:Bool
 path:List UInt8
 hk:host.ok
instance:DecidableEq Hst:=λa b=>decidable_of_iff (a.kind=b.kind/\a.name=b.name/\a.ad=b.ad) (by cases a;cases b;simp)
instance:DecidableEq Plc:=λa b=>decidable_of_iff (a.name=b.name/\a.host=b.host/\a.only=b.only/\a.path=b.path) (by cases a;cases b;simp)
def Cky.plc (c:Cky)(o:c.ok):Plc:=⟨c.name,c.host,c.only,c.path,o⟩
structure Kpt where
 c:Cky
 site:List UInt8
 ok:c.ok
def Kpt.plc (k:Kpt):Plc:=k.c.plc k.ok
structure ShI (L:List Kpt)(last:Int):Prop where
 up:L.Pairwise λa b=>a.c.seq<b.c.seq
 lo:∀k∈L,1 <=k.c.seq/\k.c.seq <=last
 key:L.Pairwise λa b=>a.plc≠b.plc
 l0:0 <=last
def atK (L:List Kpt)(p:Plc):Option Kpt:=L.find? λk=>decide (k.plc=p)
def wk (L:List Kpt)(last:Int)(c:Kpt):List Kpt×Int:=
 match atK L c.plc with
 | some o=>(L.map λk=>if k.plc=c.plc then⟨{ c.c with born:=o.c.born,seq:=o.c.seq },c.site,c.ok⟩ else k,last)
 | none=>(L++[⟨{ c.c with seq:=last+1 },c.site,c.ok⟩],last+1)
def eK (L:List Kpt)(p:Plc):List Kpt:=L.filter λk=> !decide (k.plc=p)
def D3 (L:List Kpt)(p:Plc)(now:Int):List Kpt:=L.map λk=>if k.plc=p then⟨{ k.c with used:=now },k.site,k.ok⟩ else k
def KR (L:List Kpt)(now:Int):List Kpt:=L.filter λk=>decide (now<k.c.exp)
def iV (L:List Kpt)(s:List UInt8):Nat:=L.countP λk=>decide (k.site=s)
def Qx (of:Kpt->Bool):List Kpt->Option Kpt->Option Kpt
 | [],b=>b
 | k::r,b=>Qx of r (if of k=true then(match b with|none=>some k|some x=>if k.c.used<x.c.used then some k else some x)else b)
def Ga (L:List Kpt)(of:Kpt->Bool):Option Kpt:=Qx of L none
theorem lN {L:List Kpt}{p:Plc}{k:Kpt}(h:atK L p=some k):k∈L/\k.plc=p:=by
 unfold atK at h
 exact⟨List.mem_of_find?_eq_some h,by simpa using List.find?_some h⟩
theorem ry {L:List Kpt}{p:Plc}(h:atK L p=none):∀k∈L,k.plc≠p:=λk hk=>by
 unfold atK at h
 simpa using List.find?_eq_none.1 h k hk
theorem ShI.nil:ShI [] 0:=⟨List.Pairwise.nil,(λk h=>by cases h),List.Pairwise.nil,Int.le_refl _⟩
theorem ShI.filter {L:List Kpt}{last:Int}(h:ShI L last)(p:Kpt->Bool):ShI (L.filter p) last:=
 ⟨h.up.filter p,λk hk=>h.lo k (List.mem_filter.1 hk).1,h.key.filter p,h.l0⟩
theorem ShI.use {L:List Kpt}{last:Int}(h:ShI L last)(p:Plc)(now:Int):ShI (D3 L p now) last:=by
 have e:∀k:Kpt,(if k.plc=p then(⟨{ k.c with used:=now },k.site,k.ok⟩:Kpt)else k).c.seq=k.c.seq/\(if k.plc=p then(⟨{ k.c with used:=now },k.site,k.ok⟩:Kpt)else k).plc=k.plc:=by
   intro k;split <;> exact⟨rfl,rfl⟩
 unfold D3
 refine⟨?_,?_,?_,h.l0⟩
 · rw[List.pairwise_map];exact h.up.imp fun{a b} hab=>by rw[(e a).1,(e b).1];exact hab
 · intro k hk
   obtain⟨x,hx,rfl⟩:=List.mem_map.1 hk
   rw[(e x).1];exact h.lo x hx
 · rw[List.pairwise_map];exact h.key.imp fun{a b} hab=>by rw[(e a).2,(e b).2];exact hab
theorem ShI.put {L:List Kpt}{last:Int}(h:ShI L last)(c:Kpt):ShI (wk L last c).1 (wk L last c).2:=by
 unfold wk
 cases ha:atK L c.plc with
 | none=>
   have hn:=ry ha
   refine⟨?_,?_,?_,by have:=h.l0;show 0 <=last+1;omega⟩
   · rw[List.pairwise_append]
     refine⟨h.up,List.pairwise_singleton _ _,λa ha' b hb=>?_⟩
     rw[List.mem_singleton.1 hb]
     have:=(h.lo a ha').2
     show a.c.seq<last+1
     omega
   · intro k hk
     rcases List.mem_append.1 hk with hk|hk
     · have:=h.lo k hk
       exact⟨this.1,by show k.c.seq <=last+1;omega⟩
     · rw[List.mem_singleton.1 hk]
       have:=h.l0
       exact⟨by show 1 <=last+1;omega,Int.le_refl _⟩
   · rw[List.pairwise_append]
     refine⟨h.key,List.pairwise_singleton _ _,λa ha' b hb=>?_⟩
     rw[List.mem_singleton.1 hb]
     exact hn a ha'
 | some o=>
   obtain⟨ho,hp⟩:=lN ha
   have one:∀k∈L,k.plc=c.plc->k.c.seq=o.c.seq:=λk hk hkp=>by
     have:k=o:=by
       by_cases e:k=o
       · exact e
       · exact absurd (hkp.trans hp.symm) (by
           have:=h.key
           rcases List.mem_iff_getElem.1 hk with⟨i,hi,rfl⟩
           rcases List.mem_iff_getElem.1 ho with⟨j,hj,rfl⟩
           have hij:i≠j:=λx=>e (by subst x;rfl)
           have hpw:=List.pairwise_iff_getElem.1 h.key
           rcases Nat.lt_or_gt_of_ne hij with hl|hl
           · exact hpw i j hi hj hl
           · exact λx=>hpw j i hj hi hl x.symm)
     rw[this]
   have e:∀k∈L,(if k.plc=c.plc then(⟨{ c.c with born:=o.c.born,seq:=o.c.seq },c.site,c.ok⟩:Kpt)else k).c.seq=k.c.seq/\(if k.plc=c.plc then(⟨{ c.c with born:=o.c.born,seq:=o.c.seq },c.site,c.ok⟩:Kpt)else k).plc=k.plc:=by
     intro k hk
     split
     · rename_i hkp;exact⟨(one k hk hkp).symm,hkp.symm⟩
     · exact⟨rfl,rfl⟩
   refine⟨?_,?_,?_,h.l0⟩
   · rw[List.pairwise_map]
     exact List.Pairwise.imp_of_mem (fun{a b} ha hb hab=>by rw[(e a ha).1,(e b hb).1];exact hab) h.up
   · intro k hk
     obtain⟨x,hx,rfl⟩:=List.mem_map.1 hk
     rw[(e x hx).1];exact h.lo x hx
   · rw[List.pairwise_map]
     exact List.Pairwise.imp_of_mem (fun{a b} ha hb hab=>by rw[(e a ha).2,(e b hb).2];exact hab) h.key
structure tW (M:List (Plc×Kpt))(L:List Kpt):Prop where
 perm:(M.map (·.2)).Perm L
 own:∀q∈M,q.1=q.2.plc
theorem tW.nil:tW [] []:=⟨List.Perm.refl _,λq h=>by cases h⟩
theorem tW.keys {M:List (Plc×Kpt)}{L:List Kpt}(h:tW M L):(M.map (·.1)).Perm (L.map Kpt.plc):=by
 have e:M.map (·.1)=(M.map (·.2)).map Kpt.plc:=by
   rw[List.map_map]
   exact List.map_congr_left λq hq=>h.own q hq
 rw[e];exact h.perm.map _
theorem tW.nodup {M:List (Plc×Kpt)}{L:List Kpt}{last:Int}(h:tW M L)(s:ShI L last):(M.map (·.1)).Nodup:=by
 rw[h.keys.nodup_iff]
 have:=s.key
 rw[List.Nodup,List.pairwise_map]
 exact this
theorem Bp {α β:Type}[DecidableEq α]{k:α}{v:β} :∀{l:List (α×β)},cT k l=some v->(k,v)∈l
 | [],h=>by cases h
 | (k',v')::l,h=>by
   unfold cT at h
   split at h
   · rename_i e;subst e;cases h;exact List.mem_cons_self
   · exact List.mem_cons_of_mem _ (Bp h)
theorem xu {α β:Type}[DecidableEq α]{k:α}{v:β} :∀{l:List (α×β)},(l.map (·.1)).Nodup->(k,v)∈l->cT k l=some v
 | [],_,h=>by cases h
 | (k',v')::l,hn,h=>by
   rw[List.map_cons,List.nodup_cons]at hn
   unfold cT
   rcases List.mem_cons.1 h with e|h
   · cases e;rw[if_pos rfl]
   · rw[if_neg,xu hn.2 h]
     intro e
     exact hn.1 (List.mem_map.2 ⟨(k,v),h,e⟩)
theorem tW.look {M:List (Plc×Kpt)}{L:List Kpt}{last:Int}(h:tW M L)(s:ShI L last)(p:Plc):cT p M=atK L p:=by
 cases ha:atK L p with
 | some k=>
   obtain⟨hk,hp⟩:=lN ha
   obtain⟨q,hq,e⟩:=List.mem_map.1 (h.perm.mem_iff.2 hk)
   refine xu (h.nodup s) ?_
   have:q=(p,k):=Prod.ext ((h.own q hq).trans (by rw[e,hp])) e
   rw[<- this];exact hq
 | none=>
   cases hl:cT p M with
   | none=>rfl
   | some v=>
     have hm:=Bp hl
     exact absurd (h.own _ hm).symm (ry ha v (h.perm.mem_iff.1 (List.mem_map.2 ⟨_,hm,rfl⟩)))
theorem tW.drop {M:List (Plc×Kpt)}{L:List Kpt}(h:tW M L)(p:Plc):tW (M.filter λq=> !decide (q.1=p)) (eK L p):=by
 refine⟨?_,λq hq=>h.own q (List.mem_filter.1 hq).1⟩
 have e:(M.filter λq=> !decide (q.1=p)).map (·.2)=(M.map (·.2)).filter λk=> !decide (k.plc=p):=by
   rw[List.filter_map]
   congr 1
   exact List.filter_congr λq hq=>by rw[h.own q hq];rfl
 rw[e]
 exact h.perm.filter _
set_option linter.unusedSectionVars false
open Go.ChangeMaps (setBlock)
section
variable {α β:Type} [DecidableEq α]
def py (ek:α->Value)(ev:β->Value)(w:World)(r:Nat)(kvs:List (α×β)):Prop:=
 ∃es clock,w.heap[r]? =some (.map es clock)/\KVg ek ev es.toList kvs/\(es.toList.map (·.born)).Nodup/\∀e∈es.toList,e.born<clock
variable {ek:α->Value} {ev:β->Value}
theorem py.g {w:World}{r:Nat}{kvs:List (α×β)}(h:py ek ev w r kvs):pR ek ev w r kvs:=by
 obtain⟨es,c,hh,hk,_⟩:=h
 exact⟨es,c,hh,hk⟩
theorem py.lt {w:World}{r:Nat}{kvs:List (α×β)}(h:py ek ev w r kvs):r<w.heap.size:=h.g.lt
theorem py.keep {w w':World}{r:Nat}{kvs:List (α×β)}(h:py ek ev w r kvs)(hb:w'.heap[r]? =w.heap[r]?):py ek ev w' r kvs:=by
 obtain⟨es,c,hh,hk⟩:=h
 exact⟨es,c,hb.trans hh,hk⟩
theorem py.below {w w':World}{r:Nat}{kvs:List (α×β)}(h:py ek ev w r kvs)(hb:bW w w'):py ek ev w' r kvs:=h.keep (hb.block r h.lt)
theorem py.grown {w w':World}{r:Nat}{kvs:List (α×β)}(h:py ek ev w r kvs){k:Nat}(hg:w.grownBy w' (some k))(hne:r≠k):py ek ev w' r kvs:=h.keep (hg.block r h.lt λe=>hne (Option.some.inj e))
theorem py.new {w w':World}{r:Nat}(hr:r=w.heap.size)(hw:w'=w.alloc (.map #[] 0)):py ek ev w' r []:=by
 subst hr hw
 exact⟨#[],0,heap_alloc_new w _,rfl,List.nodup_nil,λe he=>by cases he⟩
theorem rH {γ δ:Type}(f:γ->δ):∀(l:List γ) (i:Nat),(l.eraseIdx i).map f=(l.map f).eraseIdx i
 | [],_=>rfl
 | x::l,0=>rfl
 | x::l,i+1=>by
   show f x::(l.eraseIdx i).map f=f x::(l.map f).eraseIdx i
   rw[rH f l i]
def KQ (k:α)(kvs:List (α×β)):List (α×β):=match eo k kvs 0 with
 | some (i,_)=>kvs.eraseIdx i
 | none=>kvs
theorem Jp {es:List MapEntry}{kvs:List (α×β)}(h:KVg ek ev es kvs)(i:Nat):KVg ek ev (es.eraseIdx i) (kvs.eraseIdx i):=by
 unfold KVg at h ⊢
 rw[rH,rH,h]
theorem EE {es:List MapEntry}{kvs:List (α×β)}(h:KVg ek ev es kvs):es.length=kvs.length:=by
 have:=congrArg List.length h
 simpa using this
theorem pr {P:Program}{w:World}{r:Nat}{es:Array MapEntry}{c:Nat}(h:w.heap[r]? =some (.map es c))(o:Obj):(setObj r o).run P w=.ok () { w with heap:=w.heap.setIfInBounds r o } :=by
 simp only[setObj,Sem.run,h]
theorem nO {w:World}{r:Nat}(o:Obj):w.grownBy { w with heap:=w.heap.setIfInBounds r o } (some r):=
 ⟨rfl,rfl,rfl,by simp,λj hj hne=>by
   have:r≠j:=λe=>hne (by rw[e])
   simp[Array.getElem?_setIfInBounds_ne this]⟩
theorem py.del {P:Program}{mt kt et:TypeId}(hm:P.underlying mt=some (.map kt et))(hk:na P kt ek){w:World}{r:Nat}{kvs:List (α×β)}(h:py ek ev w r kvs)(k:α)(ts:Array TypeId)(t:TypeId)(ht:ts[0]? =some mt):
   ∃w',(Builtin.delete_ ts t #[.map (some r),ek k]).run P w=.ok (.tuple #[]) w'/\py ek ev w' r (KQ k kvs)/\w.grownBy w' (some r):=by
 obtain⟨es,c,hh,hkv,hn,hc⟩:=h
 have hlt:r<w.heap.size:=(Array.getElem?_eq_some_iff.1 hh).1
 unfold Builtin.delete_ KQ
 cases hi:eo k kvs 0 with
 | none=>
   refine⟨_,?_,⟨es,c,?_,hkv,hn,hc⟩,nO (.map es c)⟩
   · simp only[ht,List.getElem?_toArray,List.getElem?_cons_zero,List.getElem?_cons_succ,Sem.run_bind,bn hm,Result.andThen_ok,mn hh,hk.check,hk.find ev k _ _ _ hkv,hi,Option.map_none,pr hh,Sem.run_pure]
   · simp[hlt]
 | some p=>
   obtain⟨i,v⟩:=p
   refine⟨_,?_,⟨es.eraseIdxIfInBounds i,c,?_,?_,?_,?_⟩,nO (.map (es.eraseIdxIfInBounds i) c)⟩
   · simp only[ht,List.getElem?_toArray,List.getElem?_cons_zero,List.getElem?_cons_succ,Sem.run_bind,bn hm,Result.andThen_ok,mn hh,hk.check,hk.find ev k _ _ _ hkv,hi,Option.map_some,pr hh,Sem.run_pure]
   · simp[hlt]
   · rw[Array.toList_eraseIdxIfInBounds];exact Jp hkv i
   · rw[Array.toList_eraseIdxIfInBounds,rH]
     exact hn.sublist (List.eraseIdx_sublist _ _)
   · rw[Array.toList_eraseIdxIfInBounds]
     exact λe he=>hc e (List.mem_of_mem_eraseIdx he)
def upG (k:α)(v:β)(kvs:List (α×β)):List (α×β):=match eo k kvs 0 with
 | some (i,_)=>kvs.set i (k,v)
 | none=>kvs++[(k,v)]
theorem lv (k:α):∀(l:List (α×β)) (i j:Nat) (v:β),eo k l i=some (j,v)->i <=j/\l[j-i]? =some (k,v)
 | [],i,j,v,h=>by cases h
 | (k',v')::l,i,j,v,h=>by
   unfold eo at h
   split at h
   · rename_i e
     subst e
     cases h
     exact⟨Nat.le_refl _,by rw[Nat.sub_self];rfl⟩
   · obtain⟨h1,h2⟩:=lv k l (i+1) j v h
     refine⟨by omega,?_⟩
     rw[show j-i=(j-(i+1))+1 by omega,List.getElem?_cons_succ]
     exact h2
theorem G7 {es:List MapEntry}{kvs:List (α×β)}(h:KVg ek ev es kvs){i:Nat}{k:α}{v v':β}(hi:kvs[i]? =some (k,v'))(f:MapEntry->MapEntry)(hf:∀e,e.key=ek k->(f e).key=ek k/\(f e).val=ev v):KVg ek ev (es.modify i f) (kvs.set i (k,v)):=by
 unfold KVg at h ⊢
 apply List.ext_getElem?
 intro j
 have hj:=congrArg (λl=>l[j]?) h
 simp only[List.getElem?_map]at hj ⊢
 rw[List.getElem?_modify,List.getElem?_set]
 by_cases e:i=j
 · subst e
   rw[if_pos rfl]
   rw[hi]at hj
   cases he:es[i]? with
   | none=>rw[he]at hj;cases hj
   | some x=>
     rw[he]at hj
     have hx:x.key=ek k:=congrArg Prod.fst (Option.some.inj hj)
     obtain⟨f1,f2⟩:=hf x hx
     have hlt:i<kvs.length:=(List.getElem?_eq_some_iff.1 hi).1
     rw[if_pos hlt]
     simp[f1,f2]
 · rw[if_neg e]
   cases he:es[j]? with
   | none=>rw[he]at hj;simpa using hj
   | some x=>rw[he]at hj;simpa[e]using hj
theorem wI (es:List MapEntry)(i:Nat)(f:MapEntry->MapEntry)(hf:∀e,(f e).born=e.born):(es.modify i f).map (·.born)=es.map (·.born):=by
 apply List.ext_getElem?
 intro j
 rw[List.getElem?_map,List.getElem?_map,List.getElem?_modify]
 cases es[j]? with
 | none=>rfl
 | some x=>by_cases e:i=j <;> simp[e,hf]
theorem Nl {es es':List MapEntry}{c:Nat}(h:∀e∈es,e.born<c)(he:es'.map (·.born)=es.map (·.born)):∀e∈es',e.born<c:=λe hm=>by
 have:e.born∈es.map (·.born):=by rw[<- he];exact List.mem_map.2 ⟨e,hm,rfl⟩
 obtain⟨x,hx,hxe⟩:=List.mem_map.1 this
 rw[<- hxe];exact h x hx
theorem stays {P:Program}{v:Value}(h:Instr.sameBits 10000 v v=true)(w:World):(Instr.keyThatStays v v).run P w=.ok v w:=by
 unfold Instr.keyThatStays
 rw[if_pos h];rfl
theorem py.up {P:Program}{mt kt et:TypeId}(hm:P.underlying mt=some (.map kt et))(hk:na P kt ek)(hs:∀k,Instr.sameBits 10000 (ek k) (ek k)=true){w:World}{r:Nat}{kvs:List (α×β)}(h:py ek ev w r kvs)(k:α)(v:β):
   ∃w',(Instr.mapUpdate mt (.map (some r)) (ek k) (ev v)).run P w=.ok () w'/\py ek ev w' r (upG k v kvs)/\w.grownBy w' (some r):=by
 obtain⟨es,c,hh,hkv,hn,hc⟩:=h
 have hlt:r<w.heap.size:=(Array.getElem?_eq_some_iff.1 hh).1
 unfold Instr.mapUpdate upG
 cases hi:eo k kvs 0 with
 | none=>
   refine⟨_,?_,⟨es.push { key:=ek k,val:=ev v,born:=c },c+1,?_,?_,?_,?_⟩,nO (.map (es.push { key:=ek k,val:=ev v,born:=c }) (c+1))⟩
   · simp only[Sem.run_bind,bn hm,Result.andThen_ok,mn hh,hk.check,hk.find ev k _ _ _ hkv,hi,Option.map_none,pr hh]
   · simp[hlt]
   · unfold KVg at hkv ⊢
     simp only[Array.toList_push,List.map_append,List.map_cons,List.map_nil,hkv]
   · rw[Array.toList_push,List.map_append,List.nodup_append]
     refine⟨hn,by simp,λa ha b hb=>?_⟩
     obtain⟨e,he,rfl⟩:=List.mem_map.1 ha
     simp only[List.map_cons,List.map_nil,List.mem_singleton]at hb
     have:=hc e he
     omega
   · intro e he
     rw[Array.toList_push]at he
     rcases List.mem_append.1 he with he|he
     · have:=hc e he;omega
     · rw[List.mem_singleton.1 he];exact Nat.lt_succ_self _
 | some p=>
   obtain⟨i,v'⟩:=p
   obtain⟨_,hat⟩:=lv k kvs 0 i v' hi
   rw[Nat.sub_zero]at hat
   have hkey:((es[i]?).map (·.key)).getD (ek k)=ek k:=by
     have:=congrArg (λl=>l[i]?) hkv
     simp only[List.getElem?_map,hat,Array.getElem?_toList]at this
     cases he:es[i]? with
     | none=>rfl
     | some x=>
       rw[he]at this
       exact congrArg Prod.fst (Option.some.inj this)
   refine⟨_,?_,⟨es.modify i (λe=> { e with key:=ek k,val:=ev v }),c,?_,?_,?_,?_⟩,nO (.map (es.modify i λe=> { e with key:=ek k,val:=ev v }) c)⟩
   · simp only[Sem.run_bind,bn hm,Result.andThen_ok,mn hh,hk.check,hk.find ev k _ _ _ hkv,hi,Option.map_some,hkey,stays (hs k),pr hh]
   · simp[hlt]
   · rw[Array.toList_modify];exact G7 hkv hat _ λe _=>⟨rfl,rfl⟩
   · rw[Array.toList_modify,wI es.toList i (λe=> { e with key:=ek k,val:=ev v }) (λe=>rfl)];exact hn
   · rw[Array.toList_modify];exact Nl hc (wI es.toList i (λe=> { e with key:=ek k,val:=ev v }) (λe=>rfl))
def fa (ek:α->Value)(ev:β->Value)(w:World)(r m:Nat)(kvs left:List (α×β)):Prop:=
 ∃since seen c0 es clock,w.heap[r]? =some (.mapIter (some m) since seen c0)/\w.heap[m]? =some (.map es clock)/\KVg ek ev es.toList kvs/\(es.toList.map (·.born)).Nodup/\(∀e∈es.toList,e.born<clock)/\(∀e∈es.toList,e.born<since)/\since <=c0/\since <=clock/\KVg ek ev (leftOf es seen).toList left
theorem fa.map {w:World}{r m:Nat}{kvs left:List (α×β)}(h:fa ek ev w r m kvs left):py ek ev w m kvs:=by
 obtain⟨_,_,_,es,c,_,h2,h3,h4,h5,_⟩:=h
 exact⟨es,c,h2,h3,h4,h5⟩
theorem fa.keep {w w':World}{r m:Nat}{kvs left:List (α×β)}(h:fa ek ev w r m kvs left)(hr:w'.heap[r]? =w.heap[r]?)(hm:w'.heap[m]? =w.heap[m]?):fa ek ev w' r m kvs left:=by
 obtain⟨a,b,c,d,e,h1,h2,h3⟩:=h
 exact⟨a,b,c,d,e,hr.trans h1,hm.trans h2,h3⟩
theorem fa.lt {w:World}{r m:Nat}{kvs left:List (α×β)}(h:fa ek ev w r m kvs left):r<w.heap.size:=by
 obtain⟨_,_,_,_,_,h1,_⟩:=h
 exact(Array.getElem?_eq_some_iff.1 h1).1
theorem fa.below {w w':World}{r m:Nat}{kvs left:List (α×β)}(h:fa ek ev w r m kvs left)(hb:bW w w'):fa ek ev w' r m kvs left:=h.keep (hb.block r h.lt) (hb.block m h.map.lt)
theorem rZ {P:Program}{mt kt et:TypeId}(hm:P.underlying mt=some (.map kt et)){w:World}{m:Nat}{kvs:List (α×β)}(h:py ek ev w m kvs):
   ∃w',(Instr.range mt (.map (some m))).run P w=.ok (.pointer (some ⟨w.heap.size,0,none⟩)) w'/\fa ek ev w' w.heap.size m kvs kvs/\bW w w':=by
 obtain⟨es,c,hh,hkv,hn,hc⟩:=h
 refine⟨w.alloc (.mapIter (some m) c #[] c),?_,⟨c,#[],c,es,c,heap_alloc_new w _,?_,hkv,hn,hc,hc,Nat.le_refl _,Nat.le_refl _,?_⟩,ai w _⟩
 · unfold Instr.range
   simp only[Sem.run_bind,bn hm,Result.andThen_ok,mn hh,Sem.run_pure]
   rfl
 · exact((ai w _).block m (Array.getElem?_eq_some_iff.1 hh).1).trans hh
 · have:leftOf es #[]=es:=by
     unfold leftOf
     rw[Array.filter_eq_self]
     intro e he
     simp
   rw[this];exact hkv
theorem filter_one {γ:Type}(f:γ->Nat):∀(l:List γ) (e:γ),(l.map f).Nodup->e∈l->∃l1 l2,l=l1++e::l2/\l.filter (λx=> !decide (f x=f e))=l1++l2
 | [],e,_,h=>by cases h
 | x::l,e,hn,h=>by
   rw[List.map_cons,List.nodup_cons]at hn
   rcases List.mem_cons.1 h with rfl|h
   · refine⟨[],l,rfl,?_⟩
     rw[List.filter_cons,if_neg (by simp),List.nil_append,List.filter_eq_self]
     intro y hy
     have:f y≠f e:=λc=>hn.1 (List.mem_map.2 ⟨y,hy,c⟩)
     simp[this]
   · obtain⟨l1,l2,h1,h2⟩:=filter_one f l e hn.2 h
     refine⟨x::l1,l2,by rw[h1];rfl,?_⟩
     have:f x≠f e:=λc=>hn.1 (List.mem_map.2 ⟨e,h,c.symm⟩)
     rw[List.filter_cons,if_pos (by simp[this]),h2];rfl
theorem fa.step {P:Program}{w:World}{r m:Nat}{kvs left:List (α×β)}(h:fa ek ev w r m kvs left)(hne:r≠m)(ty:TypeId):
   (left=[]/\(Instr.next (.pointer (some ⟨r,0,none⟩)) false ty).run P w=.ok (.tuple #[.bool false]) w)\/
   ∃l1 k v l2 w',left=l1++(k,v)::l2/\(Instr.next (.pointer (some ⟨r,0,none⟩)) false ty).run P w=.ok (.tuple #[.bool true,ek k,ev v]) w'/\fa ek ev w' r m kvs (l1++l2)/\(Instr.entry (.pointer (some ⟨r,0,none⟩))).run P w'=.ok (.tuple #[ek k,ev v]) w'/\w.grownBy w' (some r):=by
 obtain⟨since,seen,c0,es,clock,hr,hm,hkv,hn,hc,hs,hsc,hsk,hl⟩:=h
 rcases run_next_at (P:=P) w ty r m since c0 seen es clock hr hm hs hsc with⟨h0,hrun⟩|⟨e,he,w1,hw1,hrun⟩
 · refine .inl ⟨?_,hrun⟩
   have:=EE hl
   rw[Array.length_toList,h0]at this
   exact List.eq_nil_of_length_eq_zero this.symm
 · refine .inr ?_
   have hrl:r<w.heap.size:=(Array.getElem?_eq_some_iff.1 hr).1
   have hhp:w1.heap=w.heap:=by rcases hw1 with rfl|rfl <;> rfl
   have hel:=mem_left he
   have hleft:(leftOf es (seen.push e.born)).toList=(leftOf es seen).toList.filter λx=> !decide (x.born=e.born):=by
     unfold leftOf
     rw[Array.toList_filter,Array.toList_filter,List.filter_filter]
     exact List.filter_congr λx hx=>by
       rw[Bool.eq_iff_iff]
       simp[Array.mem_push,and_comm]
   have hnl:((leftOf es seen).toList.map (·.born)).Nodup:=by
     unfold leftOf
     rw[Array.toList_filter]
     exact hn.sublist ((List.filter_sublist).map _)
   obtain⟨l1,l2,e1,e2⟩:=filter_one (·.born) _ e hnl he
   have hkl:=hl
   unfold KVg at hkl
   rw[e1,List.map_append,List.map_cons]at hkl
   obtain⟨q1,q2,hq,hq1,hq2⟩:=List.map_eq_append_iff.1 hkl.symm
   cases q2 with
   | nil=>cases hq2
   | cons p q2=>
     obtain⟨k,v⟩:=p
     rw[List.map_cons,List.cons.injEq]at hq2
     have hkey:e.key=ek k:=(congrArg Prod.fst hq2.1).symm
     have hval:e.val=ev v:=(congrArg Prod.snd hq2.1).symm
     have hset:(setBlock w1 r (.mapIter (some m) since (seen.push e.born) clock)).heap[r]? =some (.mapIter (some m) since (seen.push e.born) clock):=by
       unfold setBlock
       simp[hhp,hrl]
     have hset2:(setBlock w1 r (.mapIter (some m) since (seen.push e.born) clock)).heap[m]? =some (.map es clock):=by
       unfold setBlock
       simp only[hhp]
       rw[Array.getElem?_setIfInBounds_ne hne];exact hm
     refine⟨q1,k,v,q2,setBlock w1 r (.mapIter (some m) since (seen.push e.born) clock),hq,?_,⟨since,seen.push e.born,clock,es,clock,hset,hset2,hkv,hn,hc,hs,hsk,hsk,?_⟩,?_,?_⟩
     · rw[<- hkey,<- hval];exact hrun
     · unfold KVg
       rw[hleft,e2,List.map_append,List.map_append,hq1,hq2.2]
     · rw[<- hkey,<- hval]
       exact run_entry_at _ r m since seen es clock e hset hset2 hel.1 hn
     · rcases hw1 with rfl|rfl
       · exact nO _
       · have hd:=ec w
         refine⟨hd.os,hd.tape,hd.output,?_,λj hj hnj=>?_⟩
         · have:=hd.size
           show _ <=(Array.setIfInBounds _ _ _).size
           rw[Array.size_setIfInBounds];exact this
         · have:r≠j:=λc=>hnj (by rw[c])
           show(Array.setIfInBounds _ _ _)[j]? =_
           rw[Array.getElem?_setIfInBounds_ne this]
           exact hd.block j hj
end
section
variable {α β:Type} [DecidableEq α]
theorem xt {k:α} :∀{l:List (α×β)} {i:Nat},eo k l i=none->∀q∈l,q.1≠k
 | [],_,_,q,hq=>by cases hq
 | (k',v')::l,i,h,q,hq=>by
   unfold eo at h
   split at h
   · cases h
   · rename_i e
     rcases List.mem_cons.1 hq with rfl|hq
     · exact λx=>e x.symm
     · exact xt h q hq
theorem qD {k:α} :∀{l:List (α×β)},(l.map (·.1)).Nodup->KQ k l=l.filter λq=> !decide (q.1=k):=by
 intro l hn
 unfold KQ
 cases hi:eo k l 0 with
 | none=>
   rw[List.filter_eq_self.2]
   intro q hq
   simpa using xt hi q hq
 | some p=>
   obtain⟨i,v⟩:=p
   obtain⟨_,hat⟩:=lv k l 0 i v hi
   rw[Nat.sub_zero]at hat
   obtain⟨hlt,he⟩:=List.getElem?_eq_some_iff.1 hat
   have hs:l=l.take i++(k,v)::l.drop (i+1):=by
     conv=>lhs;rw[<- List.take_append_drop i l,List.drop_eq_getElem_cons hlt,he]
   show l.eraseIdx i=_
   rw[List.eraseIdx_eq_take_drop_succ]
   conv=>rhs;rw[hs]
   rw[hs,List.map_append,List.map_cons,List.nodup_append,List.nodup_cons]at hn
   obtain⟨n1,⟨n2,n3⟩,n4⟩:=hn
   rw[List.filter_append,List.filter_cons,if_neg (by simp)]
   congr 1
   · rw[List.filter_eq_self.2]
     · intro q hq
       have:=n4 q.1 (List.mem_map.2 ⟨q,hq,rfl⟩) k (List.mem_cons_self ..)
       simpa using this
   · rw[List.filter_eq_self.2]
     intro q hq
     have:q.1≠k:=λc=>n2 (List.mem_map.2 ⟨q,hq,c⟩)
     simpa using this
theorem ul {k k':α} :∀{l:List (α×β)},cT k' (l.filter λq=> !decide (q.1=k))=if k'=k then none else cT k' l
 | []=>by split <;> rfl
 | (x,v)::l=>by
   have ih:=ul (k:=k) (k':=k') (l:=l)
   rw[List.filter_cons]
   by_cases e:x=k
   · subst e
     rw[if_neg (by simp),ih]
     by_cases e2:k'=x
     · rw[if_pos e2,if_pos e2]
     · rw[if_neg e2,if_neg e2]
       show _=(if k'=x then _ else _)
       rw[if_neg e2]
   · rw[if_pos (by simpa using e)]
     show(if k'=x then some v else cT k' _)=_
     by_cases e2:k'=x
     · rw[if_pos e2]
       rw[if_neg (λc=>e (e2.symm.trans c))]
       show _=(if k'=x then some v else _)
       rw[if_pos e2]
     · rw[if_neg e2,ih]
       by_cases e3:k'=k
       · rw[if_pos e3,if_pos e3]
       · rw[if_neg e3,if_neg e3]
         show _=(if k'=x then some v else _)
         rw[if_neg e2]
theorem Da {k k':α}{v:β} :∀{l:List (α×β)} {i j:Nat} {v0:β},eo k l i=some (j,v0)->cT k' (l.set (j-i) (k,v))=if k'=k then some v else cT k' l
 | [],_,_,_,h=>by cases h
 | (x,y)::l,i,j,v0,h=>by
   unfold eo at h
   split at h
   · rename_i e
     subst e
     cases h
     rw[Nat.sub_self,List.set_cons_zero]
     show(if k'=k then some v else cT k' l)=if k'=k then some v else(if k'=k then some y else cT k' l)
     split <;> rfl
   · rename_i e
     have hle:=(lv k l (i+1) j v0 h).1
     have ih:=Da (k':=k') (v:=v) h
     rw[show j-i=(j-(i+1))+1 by omega,List.set_cons_succ]
     show(if k'=x then some y else cT k' _)=if k'=k then some v else(if k'=x then some y else cT k' l)
     by_cases e2:k'=x
     · rw[if_pos e2,if_pos e2,if_neg (λc=>e (c.symm.trans e2))]
     · rw[if_neg e2,if_neg e2,ih]
theorem we {k k':α}{v:β}{l:List (α×β)} :cT k' (upG k v l)=if k'=k then some v else cT k' l:=by
 unfold upG
 cases hi:eo k l 0 with
 | none=>
   show cT k' (l++[(k,v)])=_
   rw[rP]
   by_cases e:k'=k
   · subst e
     have:cT k' l=none:=by rw[<- qV k' l 0,hi];rfl
     rw[this,if_pos rfl];rfl
   · rw[if_neg e,if_neg e]
     cases cT k' l <;> rfl
 | some p=>
   obtain⟨j,v0⟩:=p
   have:=Da (k':=k') (v:=v) hi
   rw[Nat.sub_zero]at this
   exact this
theorem LJ {k:α}{v:β}{l:List (α×β)}{j:Nat}{v0:β}(h:eo k l 0=some (j,v0)):(l.set j (k,v)).map (·.1)=l.map (·.1):=by
 obtain⟨_,hat⟩:=lv k l 0 j v0 h
 rw[Nat.sub_zero]at hat
 obtain⟨hlt,he⟩:=List.getElem?_eq_some_iff.1 hat
 rw[List.map_set]
 apply List.ext_getElem?
 intro i
 rw[List.getElem?_set]
 by_cases e:j=i
 · subst e
   rw[if_pos rfl,if_pos (by simpa using hlt),List.getElem?_map,hat];rfl
 · rw[if_neg e]
theorem wo {k:α}{v:β}{l:List (α×β)}(h:(l.map (·.1)).Nodup):((upG k v l).map (·.1)).Nodup:=by
 unfold upG
 cases hi:eo k l 0 with
 | none=>
   show((l++[(k,v)]).map (·.1)).Nodup
   rw[List.map_append,List.nodup_append]
   refine⟨h,by simp,λa ha b hb=>?_⟩
   obtain⟨q,hq,rfl⟩:=List.mem_map.1 ha
   simp only[List.map_cons,List.map_nil,List.mem_singleton]at hb
   rw[hb];exact xt hi q hq
 | some p=>
   obtain⟨j,v0⟩:=p
   show((l.set j (k,v)).map (·.1)).Nodup
   rw[LJ hi];exact h
theorem Iv {k:α}{l:List (α×β)}(h:(l.map (·.1)).Nodup):((KQ k l).map (·.1)).Nodup:=by
 rw[qD h]
 exact h.sublist ((List.filter_sublist).map _)
theorem JA {k k':α}{l:List (α×β)}(h:(l.map (·.1)).Nodup):cT k' (KQ k l)=if k'=k then none else cT k' l:=by
 rw[qD h];exact ul
end
structure yC (S:List (List UInt8×Int))(L:List Kpt):Prop where
 nd:(S.map (·.1)).Nodup
 look:∀s,cT s S=if iV L s=0 then none else some ((iV L s:Nat):Int)
theorem yC.nil:yC [] []:=⟨List.nodup_nil,λs=>rfl⟩
theorem yC.val {S:List (List UInt8×Int)}{L:List Kpt}(h:yC S L)(s:List UInt8):(cT s S).getD 0=((iV L s:Nat):Int):=by
 rw[h.look s]
 split
 · rename_i e;rw[e];rfl
 · rfl
theorem yC.perm {S:List (List UInt8×Int)}{L L':List Kpt}(h:yC S L)(hp:∀s,iV L' s=iV L s):yC S L':=⟨h.nd,λs=>by rw[hp,h.look s]⟩
theorem yC.inc {S:List (List UInt8×Int)}{L L':List Kpt}(h:yC S L){t:List UInt8}(hc:∀s,iV L' s=iV L s+if s=t then 1 else 0):yC (upG t (((iV L t:Nat):Int)+1) S) L':=by
 refine⟨wo h.nd,λs=>?_⟩
 rw[we,hc s]
 by_cases e:s=t
 · subst e
   rw[if_pos rfl,if_pos rfl,if_neg (by omega)]
   congr 1
 · rw[if_neg e,if_neg e,h.look s];rfl
theorem yC.dec {S:List (List UInt8×Int)}{L L':List Kpt}(h:yC S L){t:List UInt8}(hc:∀s,iV L s=iV L' s+if s=t then 1 else 0)(h0:iV L' t≠0):yC (upG t (((iV L t:Nat):Int)-1) S) L':=by
 refine⟨wo h.nd,λs=>?_⟩
 rw[we]
 by_cases e:s=t
 · subst e
   have:=hc s
   rw[if_pos rfl]at this
   rw[if_pos rfl,if_neg h0,this]
   congr 1;omega
 · have:=hc s
   rw[if_neg e]at this
   rw[if_neg e,h.look s,this];rfl
theorem yC.last {S:List (List UInt8×Int)}{L L':List Kpt}(h:yC S L){t:List UInt8}(hc:∀s,iV L s=iV L' s+if s=t then 1 else 0)(h0:iV L' t=0)(v:Int):yC (KQ t (upG t v S)) L':=by
 refine⟨Iv (wo h.nd),λs=>?_⟩
 rw[JA (wo h.nd),we]
 by_cases e:s=t
 · subst e
   rw[if_pos rfl,if_pos h0]
 · have:=hc s
   rw[if_neg e]at this
   rw[if_neg e,if_neg e,h.look s,this];rfl
theorem ShI.one {L:List Kpt}{last:Int}(h:ShI L last){a b:Kpt}(ha:a∈L)(hb:b∈L)(e:a.plc=b.plc):a=b:=by
 rcases List.mem_iff_getElem.1 ha with⟨i,hi,rfl⟩
 rcases List.mem_iff_getElem.1 hb with⟨j,hj,rfl⟩
 have hpw:=List.pairwise_iff_getElem.1 h.key
 rcases Nat.lt_trichotomy i j with hl|hl|hl
 · exact absurd e (hpw i j hi hj hl)
 · subst hl;rfl
 · exact absurd e.symm (hpw j i hj hi hl)
theorem ShI.seq {L:List Kpt}{last:Int}(h:ShI L last){a b:Kpt}(ha:a∈L)(hb:b∈L)(e:a.c.seq=b.c.seq):a=b:=by
 rcases List.mem_iff_getElem.1 ha with⟨i,hi,rfl⟩
 rcases List.mem_iff_getElem.1 hb with⟨j,hj,rfl⟩
 have hpw:=List.pairwise_iff_getElem.1 h.up
 rcases Nat.lt_trichotomy i j with hl|hl|hl
 · have:=hpw i j hi hj hl;omega
 · subst hl;rfl
 · have:=hpw j i hj hi hl;omega
theorem tW.new {M:List (Plc×Kpt)}{L:List Kpt}(h:tW M L){k:Kpt}(hno:atK L k.plc=none):tW (upG k.plc k M) (L++[k]):=by
 have hl:cT k.plc M=none:=by
   cases hx:cT k.plc M with
   | none=>rfl
   | some v=>
     have hm:=Bp hx
     exact absurd (h.own _ hm).symm (ry hno v (h.perm.mem_iff.1 (List.mem_map.2 ⟨_,hm,rfl⟩)))
 have hi:eo k.plc M 0=none:=by
   have:=qV k.plc M 0
   rw[hl]at this
   simpa using this
 unfold upG
 rw[hi]
 refine⟨?_,λq hq=>?_⟩
 · show((M++[(k.plc,k)]).map (·.2)).Perm _
   rw[List.map_append]
   exact h.perm.append (List.Perm.refl _)
 · rcases List.mem_append.1 hq with hq|hq
   · exact h.own q hq
   · rw[List.mem_singleton.1 hq]
theorem tW.over {M:List (Plc×Kpt)}{L:List Kpt}{last:Int}(h:tW M L)(s:ShI L last){k o:Kpt}(hat:atK L k.plc=some o):tW (upG k.plc k M) (L.map λx=>if x.plc=k.plc then k else x):=by
 have hl:=h.look s k.plc
 rw[hat]at hl
 have hn:=h.nodup s
 cases hi:eo k.plc M 0 with
 | none=>
   have:=qV k.plc M 0
   rw[hi,hl]at this;cases this
 | some p=>
   obtain⟨j,v0⟩:=p
   obtain⟨_,hat2⟩:=lv k.plc M 0 j v0 hi
   rw[Nat.sub_zero]at hat2
   obtain⟨hlt,he⟩:=List.getElem?_eq_some_iff.1 hat2
   have e:upG k.plc k M=M.map λq=>if q.1=k.plc then(k.plc,k)else q:=by
     unfold upG
     rw[hi]
     show M.set j (k.plc,k)=_
     apply List.ext_getElem?
     intro i
     rw[List.getElem?_set,List.getElem?_map]
     by_cases c:j=i
     · subst c
       rw[if_pos rfl,if_pos hlt,hat2]
       simp
     · rw[if_neg c]
       cases hx:M[i]? with
       | none=>rfl
       | some q=>
         have:q.1≠k.plc:=λx=>by
           obtain⟨hli,hxe⟩:=List.getElem?_eq_some_iff.1 hx
           have hp:=List.pairwise_iff_getElem.1 hn
           have h1:(M.map (·.1))[j]'(by simpa using hlt)=k.plc:=by simp[he]
           have h2:(M.map (·.1))[i]'(by simpa using hli)=k.plc:=by simp[hxe,x]
           rcases Nat.lt_or_gt_of_ne c with hc|hc
           · exact hp j i (by simpa using hlt) (by simpa using hli) hc (h1.trans h2.symm)
           · exact hp i j (by simpa using hli) (by simpa using hlt) hc (h2.trans h1.symm)
         simp[this]
   rw[e]
   refine⟨?_,λq hq=>?_⟩
   · have e2:(M.map λq=>if q.1=k.plc then(k.plc,k)else q).map (·.2)=(M.map (·.2)).map λx=>if x.plc=k.plc then k else x:=by
       rw[List.map_map,List.map_map]
       exact List.map_congr_left λq hq=>by
         have:=h.own q hq
         show(if q.1=k.plc then(k.plc,k)else q).2=if q.2.plc=k.plc then k else q.2
         rw[this]
         split <;> rfl
     rw[e2]
     exact h.perm.map _
   · obtain⟨x,hx,rfl⟩:=List.mem_map.1 hq
     split
     · rfl
     · exact h.own x hx
def before (x y:Kpt):Prop:=x.c.used<y.c.used\/(x.c.used=y.c.used/\x.c.seq <=y.c.seq)
def px (of:Kpt->Bool)(L:List Kpt)(o:Option Kpt):Prop:=match o with
 | none=>∀k∈L,of k=false
 | some x=>x∈L/\of x=true/\∀k∈L,of k=true->before x k
theorem wG (x:Kpt):before x x:=.inr ⟨rfl,Int.le_refl _⟩
theorem px.perm {of:Kpt->Bool}{L L':List Kpt}{o:Option Kpt}(h:px of L o)(hp:L.Perm L'):px of L' o:=by
 cases o with
 | none=>exact λk hk=>h k (hp.mem_iff.2 hk)
 | some x=>exact⟨hp.mem_iff.1 h.1,h.2.1,λk hk=>h.2.2 k (hp.mem_iff.2 hk)⟩
theorem px.one {of:Kpt->Bool}{L:List Kpt}{last:Int}(s:ShI L last){o p:Option Kpt}(h:px of L o)(k:px of L p):o=p:=by
 cases o with
 | none=>
   cases p with
   | none=>rfl
   | some y=>have:=h y k.1;rw[k.2.1]at this;cases this
 | some x=>
   cases p with
   | none=>have:=k x h.1;rw[h.2.1]at this;cases this
   | some y=>
     have h1:=h.2.2 y k.1 k.2.1
     have h2:=k.2.2 x h.1 h.2.1
     have:x=y:=s.seq h.1 k.1 (by unfold before at h1 h2;omega)
     rw[this]
def jz (o:Option Kpt)(x:Kpt):Bool:=match o with
 | none=>true
 | some y=>decide (x.c.used<y.c.used) || (decide (x.c.used=y.c.used)&&decide (x.c.seq<y.c.seq))
theorem px.step {of:Kpt->Bool}{L:List Kpt}{o:Option Kpt}(h:px of L o)(k:Kpt):
   px of (L++[k]) (bif of k&&jz o k then some k else o):=by
 cases o with
 | none=>
   have e:(bif of k&&jz none k then some k else none)=(bif of k then some k else none):=by unfold jz;rw[Bool.and_true]
   rw[e]
   cases hk:of k with
   | true=>
     refine⟨by simp,hk,λy hy hyo=>?_⟩
     rcases List.mem_append.1 hy with hy|hy
     · have:=h y hy;rw[hyo]at this;cases this
     · rw[List.mem_singleton.1 hy];exact wG _
   | false=>
     intro y hy
     rcases List.mem_append.1 hy with hy|hy
     · exact h y hy
     · rw[List.mem_singleton.1 hy];exact hk
 | some x=>
   obtain⟨hx,ho,hb⟩:=h
   cases hc:(of k&&jz (some x) k)with
   | true=>
     simp only[Bool.and_eq_true,jz,Bool.or_eq_true,dTx]at hc
     refine⟨by simp,hc.1,λy hy hyo=>?_⟩
     rcases List.mem_append.1 hy with hy|hy
     · have h2:=hb y hy hyo
       have h3:=hc.2
       unfold before at*;omega
     · rw[List.mem_singleton.1 hy];exact wG _
   | false=>
     refine⟨List.mem_append_left _ hx,ho,λy hy hyo=>?_⟩
     rcases List.mem_append.1 hy with hy|hy
     · exact hb y hy hyo
     · rw[List.mem_singleton.1 hy]at hyo ⊢
       rw[hyo,Bool.true_and]at hc
       have hc: ¬ jz (some x) k=true:=by rw[hc];decide
       simp only[jz,Bool.or_eq_true,Bool.and_eq_true,dTx]at hc
       unfold before;omega
theorem Od (of:Kpt->Bool)(k:Kpt):∀(o:Option Kpt),(∀x,o=some x->x.c.seq<k.c.seq)->(bif of k&&jz o k then some k else o)=
   (if of k=true then(match o with|none=>some k|some x=>if k.c.used<x.c.used then some k else some x)else o)
 | none,_=>by cases of k <;> rfl
 | some x,h=>by
   have:=h x rfl
   cases of k with
   | false=>rfl
   | true=>
     by_cases c2:k.c.used<x.c.used
     · simp[jz,c2]
     · have: ¬ k.c.seq<x.c.seq:=by omega
       simp[jz,c2,this]
theorem z8 {of:Kpt->Bool} :∀(l pre:List Kpt) (o:Option Kpt),((pre++l).Pairwise λa b=>a.c.seq<b.c.seq)->px of pre o->px of (pre++l) (Qx of l o)
 | [],pre,o,_,h=>by rw[List.append_nil];exact h
 | k::l,pre,o,hp,h=>by
   have hs:=px.step h k
   rw[Od of k o λx e=>by
     subst e
     rw[List.pairwise_append]at hp
     exact hp.2.2 x h.1 k (List.mem_cons_self ..)]at hs
   have:=z8 l (pre++[k]) _ (by rw[List.append_assoc];exact hp) hs
   rw[List.append_assoc]at this
   exact this
theorem pp {of:Kpt->Bool}{L:List Kpt}{last:Int}(s:ShI L last):px of L (Ga L of):=by
 have:=z8 (of:=of) L [] none (by rw[List.nil_append];exact s.up) (λk hk=>by cases hk)
 rw[List.nil_append]at this
 exact this
theorem La {L:List Kpt}{last:Int}(s:ShI L last){p:Plc}{o:Kpt}(h:atK L p=some o)(t:List UInt8):iV L t=iV (eK L p) t+if t=o.site then 1 else 0:=by
 obtain⟨ho,hp⟩:=lN h
 have hone:∀k∈L,k.plc=p->k=o:=λk hk e=>s.one hk ho (e.trans hp.symm)
 clear h
 revert hone s ho
 induction L with
 | nil=>intro _ ho;cases ho
 | cons a L ih=>
   intro s ho hone
   have sL:ShI L last:=⟨(List.pairwise_cons.1 s.up).2,λk hk=>s.lo k (List.mem_cons_of_mem _ hk),(List.pairwise_cons.1 s.key).2,s.l0⟩
   have hak:=(List.pairwise_cons.1 s.key).1
   unfold iV eK at*
   by_cases e:a=o
   · subst e
     have hd:(L.filter λk=> !decide (k.plc=p))=L:=List.filter_eq_self.2 λk hk=>by
       have:=hak k hk
       rw[hp]at this
       simpa using λc=>this c.symm
     rw[List.filter_cons,if_neg (by simp[hp]),hd,List.countP_cons]
     simp[eq_comm]
   · have ho':o∈L:=(List.mem_cons.1 ho).resolve_left λx=>e x.symm
     have hap:a.plc≠p:=λx=>e (hone a (List.mem_cons_self ..) x)
     have:=ih sL ho' λk hk=>hone k (List.mem_cons_of_mem _ hk)
     rw[List.filter_cons,if_pos (by simpa using hap),List.countP_cons,List.countP_cons,this]
     omega
theorem Nq (L:List Kpt)(k:Kpt)(t:List UInt8):iV (L++[k]) t=iV L t+if t=k.site then 1 else 0:=by
 unfold iV
 rw[List.countP_append,List.countP_cons,List.countP_nil]
 simp[eq_comm]
structure Chg (S:List Nat)(w w':World):Prop where
 os:w'.os=w.os
 tape:w'.tape=w.tape
 output:w'.output=w.output
 size:w.heap.size <=w'.heap.size
 block:∀k,k<w.heap.size->k ∉ S->w'.heap[k]? =w.heap[k]?
theorem Chg.refl (S:List Nat)(w:World):Chg S w w:=⟨rfl,rfl,rfl,Nat.le_refl _,λ_ _ _=>rfl⟩
theorem Chg.trans {S:List Nat}{a b c:World}(h:Chg S a b)(k:Chg S b c):Chg S a c:=
 ⟨k.os.trans h.os,k.tape.trans h.tape,k.output.trans h.output,Nat.le_trans h.size k.size,λi hi hs=>(k.block i (Nat.lt_of_lt_of_le hi h.size) hs).trans (h.block i hi hs)⟩
theorem Chg.of {S:List Nat}{w w':World}(h:bW w w'):Chg S w w':=⟨h.os,h.tape,h.output,h.size,λk hk _=>h.block k hk⟩
theorem Chg.grown {S:List Nat}{w w':World}{r:Nat}(h:w.grownBy w' (some r))(hr:r∈S):Chg S w w':=
 ⟨h.os,h.tape,h.output,h.size,λk hk hs=>h.block k hk λe=>hs (by cases e;exact hr)⟩
theorem Chg.mono {S S':List Nat}{w w':World}(h:Chg S w w')(hs:∀k∈S,k∈S'):Chg S' w w':=⟨h.os,h.tape,h.output,h.size,λk hk hn=>h.block k hk λhm=>hn (hs k hm)⟩
theorem Chg.below {S:List Nat}{B:Nat}{w w':World}(h:Chg S w w')(hB:B <=w.heap.size)(hs:∀k∈S,B <=k):Below B w w':=
 ⟨h.os,h.tape,h.output,h.size,λk hk=>h.block k (by omega) λhm=>by have:=hs k hm;omega⟩
theorem Chg.none {w w':World}(h:Chg [] w w'):bW w w':=h.below (Nat.le_refl _) λk hk=>by cases hk
theorem Chg.keep {S:List Nat}{w w':World}(h:Chg S w w'):Cj (λb=>b ∉ S) w w':=⟨h.size,λb hb ha=>h.block b hb ha⟩
theorem Chg.arr {S:List Nat}{w w':World}(h:Chg S w w'){k:Nat}{t:TypeId}{vs:List Value}(ha:am w k t vs)(hk:k ∉ S):am w' k t vs:=ha.block (h.block k ha.lt hk)
theorem Chg.step {S:List Nat}{a b c:World}(h:Chg S a b)(k:bW b c):Chg S a c:=h.trans (Chg.of k)
theorem Chg.put {S:List Nat}{a b c:World}{r:Nat}(h:Chg S a b)(k:b.grownBy c (some r))(hr:a.heap.size <=r):Chg S a c:=
   ⟨k.os.trans h.os,k.tape.trans h.tape,k.output.trans h.output,Nat.le_trans h.size k.size,λi hi hs=>(k.block i (Nat.lt_of_lt_of_le hi h.size) (λe=>by cases e;omega)).trans (h.block i hi hs)⟩
abbrev Pth:=List (List UInt8)
def eZ (r:Rul):Pth:=(dr 46 [] r.2).reverse
def yA (p:Pth):List Pth->Nat->Option Nat
 | [],_=>none
 | q::l,i=>if p=q then some i else yA p l (i+1)
theorem lw {p:Pth} :∀{l:List Pth} {i:Nat},yA p l i=none ↔ p ∉ l
 | [],i=>by simp[yA]
 | q::l,i=>by
   unfold yA
   by_cases h:p=q
   · simp[h]
   · rw[if_neg h,lw];simp[h]
theorem ly {p:Pth} :∀{l:List Pth} {i j:Nat},yA p l i=some j->i <=j/\l[j-i]? =some p
 | [],i,j,h=>by cases h
 | q::l,i,j,h=>by
   unfold yA at h
   split at h
   · rename_i e;cases h
     exact⟨Nat.le_refl _,by rw[Nat.sub_self,e];rfl⟩
   · obtain⟨h1,h2⟩:=ly h
     exact⟨by omega,by rw[show j-i=(j-(i+1))+1 by omega];exact h2⟩
theorem wg (p q:Pth):∀(l:List Pth) (i:Nat),yA p (l++[q]) i=(yA p l i).or (if p=q then some (i+l.length)else none)
 | [],i=>by
   show(if p=q then some i else none)=_
   split <;> rfl
 | x::l,i=>by
   show(if p=x then some i else yA p (l++[q]) (i+1))=(if p=x then some i else yA p l (i+1)).or _
   split
   · rfl
   · rw[wg p q l (i+1)]
     congr 2
     simp;omega
abbrev ia:=Int×List UInt8
structure HP (ps:List Pth)(kvs:List (ia×Int)):Prop where
 root:ps[0]? =some []
 first:∀(i:Nat) p,ps[i]? =some p->yA p ps 0=some i
 closed:∀p l,p++[l]∈ps->p∈ps
 edge:∀(n:Nat) (l:List UInt8),cT ((n:Int),l) kvs=match ps[n]? with
   | some p=>(yA (p++[l]) ps 0).map λi=>(i:Int)
   | none=>none
theorem Mn:HP [[]] [] where
 root:=rfl
 first:=by
   intro i p h
   match i,h with
   | 0,h=>cases h;rfl
 closed:=by intro p l h;simp at h
 edge:=by
   intro n l
   match n with
   | 0=>rfl
   | n+1=>rfl
theorem HP.pos {ps:List Pth}{kvs:List (ia×Int)}(t:HP ps kvs){p:Pth}(h:p∈ps):∃i,yA p ps 0=some i/\ps[i]? =some p:=by
 cases hp:yA p ps 0 with
 | none=>exact absurd h (lw.1 hp)
 | some i=>exact⟨i,rfl,by simpa using(ly hp).2⟩
theorem HP.grow {ps:List Pth}{kvs:List (ia×Int)}(t:HP ps kvs){n:Nat}{p:Pth}{l:List UInt8}(hn:ps[n]? =some p)(hno:p++[l] ∉ ps):HP (ps++[p++[l]]) (kvs++[(((n:Int),l),(ps.length:Int))]) where
 root:=by
   have:=t.root
   rw[List.getElem?_append_left (by have:=(List.getElem?_eq_some_iff.1 this).1;exact this)];exact this
 first:=by
   intro i q h
   rw[wg]
   by_cases hi:i<ps.length
   · rw[List.getElem?_append_left hi]at h
     rw[t.first i q h];rfl
   · rw[List.getElem?_append_right (by omega)]at h
     have h0:i=ps.length:=by
       have:=(List.getElem?_eq_some_iff.1 h).1
       simp at this;omega
     subst h0
     rw[Nat.sub_self]at h
     cases h
     rw[lw.2 hno,if_pos rfl];simp
 closed:=by
   intro q x h
   rw[List.mem_append]at h ⊢
   rcases h with h|h
   · exact .inl (t.closed q x h)
   · rw[List.mem_singleton]at h
     have:=List.append_inj_left' h rfl
     subst this
     exact .inl (List.mem_of_getElem? hn)
 edge:=by
   intro m x
   rw[rP,t.edge m x]
   by_cases hm:m<ps.length
   · rw[List.getElem?_append_left hm]
     obtain⟨q,hq⟩:∃q,ps[m]? =some q:=⟨_,List.getElem?_eq_getElem hm⟩
     rw[hq]
     simp only
     rw[wg]
     have e:(((m:Int),x)=((n:Int),l)) ↔ (q++[x]=p++[l]):=by
       constructor
       · intro h
         have h1:m=n:=by have:=congrArg Prod.fst h;simp at this;omega
         have h2:x=l:=congrArg Prod.snd h
         subst h1 h2
         rw[hq]at hn
         rw[Option.some.inj hn]
       · intro h
         have h1:=List.append_inj_left' h rfl
         have h2:=List.append_inj_right' h rfl
         subst h1
         have:=(t.first m q hq).symm.trans (t.first n q hn)
         rw[Option.some.inj this,List.singleton_inj.1 h2]
     cases hp:yA (q++[x]) ps 0 with
     | some i=>rfl
     | none=>
       by_cases he:q++[x]=p++[l]
       · rw[if_pos (e.2 he),if_pos he];simp
       · rw[if_neg (λh=>he (e.1 h)),if_neg he];rfl
   · have hnl:n<ps.length:=(List.getElem?_eq_some_iff.1 hn).1
     rw[List.getElem?_eq_none (l:=ps) (by omega)]
     rw[if_neg (λh=>by have:=congrArg Prod.fst h;simp at this;omega)]
     by_cases h0:m=ps.length
     · subst h0
       rw[List.getElem?_append_right (Nat.le_refl _),Nat.sub_self]
       simp only[List.getElem?_cons_zero]
       have h1:yA (p++[l]++[x]) (ps++[p++[l]]) 0=none:=by
         rw[lw,List.mem_append,List.mem_singleton]
         rintro(h|h)
         · exact hno (t.closed _ _ h)
         · have:=congrArg List.length h;simp at this
       rw[h1];rfl
     · rw[List.getElem?_append_right (by omega),List.getElem?_eq_none (l:=[p++[l]]) (by simp;omega)];rfl
def marks (rs:List Rul)(p:Pth):List Bool:=(List.range 4).map fun(k:Nat)=>rs.any λr=>decide (r.1=(k:Int)/\eZ r=p)
theorem rQ (rs:List Rul)(p:Pth):(marks rs p).length=4:=by simp[marks]
theorem xw (rs:List Rul)(p:Pth)(k:Nat)(h:k<4):(marks rs p)[k]? =some (rs.any λr=>decide (r.1=(k:Int)/\eZ r=p)):=by
 unfold marks
 rw[List.getElem?_map,List.getElem?_range h];rfl
structure Tab (ps:List Pth)(es:List (List Bool))(rs:List Rul):Prop where
 len:es.length=ps.length
 mark:∀(i:Nat) p,ps[i]? =some p->es[i]? =some (marks rs p)
 rules:∀r∈rs,eZ r∈ps
theorem Oj:Tab [[]] [[false,false,false,false]] [] where
 len:=rfl
 mark:=by
   intro i p h
   match i,h with
   | 0,h=>cases h;rfl
 rules:=by intro r h;cases h
theorem Tab.grow {ps:List Pth}{es:List (List Bool)}{rs:List Rul}(t:Tab ps es rs){q:Pth}(hq:q ∉ ps):Tab (ps++[q]) (es++[[false,false,false,false]]) rs where
 len:=by rw[List.length_append,List.length_append,t.len];rfl
 mark:=by
   intro i p h
   by_cases hi:i<ps.length
   · rw[List.getElem?_append_left hi]at h
     rw[List.getElem?_append_left (by rw[t.len];exact hi)]
     exact t.mark i p h
   · rw[List.getElem?_append_right (by omega)]at h
     have h0:i=ps.length:=by
       have:=(List.getElem?_eq_some_iff.1 h).1
       simp at this;omega
     subst h0
     rw[Nat.sub_self]at h
     cases h
     rw[List.getElem?_append_right (by rw[t.len];exact Nat.le_refl _),t.len,Nat.sub_self]
     show some _=some _
     congr 1
     have:∀k:Nat,(rs.any λr=>decide (r.1=(k:Int)/\eZ r=q))=false:=λk=>by
       rw[List.any_eq_false]
       intro r hr
       simp only[dTx]
       rintro⟨-,he⟩
       exact hq (he▸t.rules r hr)
     unfold marks
     simp only[List.range_succ,List.range_zero,List.map_append,List.map_nil,List.map_cons,List.nil_append,this];rfl
 rules:=λr hr=>List.mem_append_left _ (t.rules r hr)
theorem Tab.rule {ps:List Pth}{kvs:List (ia×Int)}{es:List (List Bool)}{rs:List Rul}(T:HP ps kvs)(t:Tab ps es rs){r:Rul}{n:Nat}{k:Nat}(hk:r.1=(k:Int))(hn:ps[n]? =some (eZ r))(h4:k<4):
   Tab ps (es.set n ((marks rs (eZ r)).set k true)) (rs++[r]) where
 len:=by rw[List.length_set,t.len]
 mark:=by
   intro i p h
   have hnl:n<ps.length:=(List.getElem?_eq_some_iff.1 hn).1
   by_cases hi:n=i
   · subst hi
     have hp:p=eZ r:=by rw[hn]at h;exact(Option.some.inj h).symm
     subst hp
     rw[List.getElem?_set_self (by rw[t.len];exact hnl)]
     congr 1
     apply List.ext_getElem?
     intro j
     by_cases hj:j<4
     · rw[xw _ _ _ hj,List.getElem?_set,rQ]
       by_cases hkj:k=j
       · subst hkj
         rw[if_pos rfl,if_pos h4,List.any_append]
         simp[hk]
       · rw[if_neg hkj,xw _ _ _ hj,List.any_append]
         have: ¬ r.1=(j:Int):=by rw[hk];omega
         simp[this]
     · rw[List.getElem?_eq_none (by simp[rQ];omega),List.getElem?_eq_none (by rw[rQ];omega)]
   · rw[List.getElem?_set_ne hi,t.mark i p h]
     congr 1
     unfold marks
     apply List.map_congr_left
     intro k' _
     rw[List.any_append]
     have:eZ r≠p:=by
       intro he
       subst he
       have:=(T.first i _ h).symm.trans (T.first n _ hn)
       exact hi (Option.some.inj this).symm
     simp[this]
 rules:=by
   intro x hx
   rcases List.mem_append.1 hx with hx|hx
   · exact t.rules x hx
   · rw[List.mem_singleton]at hx;subst hx;exact List.mem_of_getElem? hn
structure Top (d:Nat)(S:Nat->Prop)(m:Nat):Prop where
 is:m=d\/S m
 ge:d <=m
 le:∀x,S x->x <=m
theorem Top.eq {d:Nat}{S:Nat->Prop}{m m':Nat}(h:Top d S m)(h':Top d S m'):m=m':=by
 have a:m <=m':=by rcases h.is with e|e;rw[e];exact h'.ge;exact h'.le _ e
 have b:m' <=m:=by rcases h'.is with e|e;rw[e];exact h.ge;exact h.le _ e
 omega
theorem Top.congr {d:Nat}{S S':Nat->Prop}{m:Nat}(h:Top d S m)(e:∀x,S x ↔ S' x):Top d S' m:=⟨h.is.imp id (e m).1,h.ge,λx hx=>h.le x ((e x).2 hx)⟩
theorem Top.zero (d:Nat):Top d (λ_=>False) d:=⟨.inl rfl,Nat.le_refl _,λ_ h=>h.elim⟩
theorem Top.max {d:Nat}{S:Nat->Prop}{m:Nat}(h:Top d S m)(x:Nat):Top d (λy=>S y\/y=x) (max m x):=by
 by_cases c:m <=x
 · rw[Nat.max_eq_right c]
   exact⟨.inr (.inr rfl),Nat.le_trans h.ge c,λy hy=>hy.elim (λhy=>Nat.le_trans (h.le y hy) c) (λhy=>by omega)⟩
 · rw[Nat.max_eq_left (by omega)]
   exact⟨h.is.imp id .inl,h.ge,λy hy=>hy.elim (h.le y) (λhy=>by omega)⟩
def jx (rs:List Rul)(R:Pth)(n1 n2 x:Nat):Prop:=∃r∈rs,eZ r=R.take (eZ r).length/\(r.1=1/\(eZ r).length <=n1/\(eZ r).length=x\/r.1=2/\(eZ r).length <=n2/\(eZ r).length+1=x)
def eX (rs:List Rul)(R:Pth)(n x:Nat):Prop:=∃r∈rs,eZ r=R.take (eZ r).length/\r.1=3/\(eZ r).length <=n/\(eZ r).length-1=x
theorem Qp (g i k j:Nat):an (an (some ⟨g,0,none⟩) (i:Int) k) (j:Int) 1=some ⟨g,i*k+j,none⟩:=by
 rw[iW,iW];simp
theorem LN {α:Type}(l:List α)(p k j:Nat)(v:α)(hj:j<k)(hl:p+k <=l.length):l.take (p+j)++[v]++l.drop (p+j+1)=l.take p++(((l.drop p).take k).set j v)++l.drop (p+k):=by
 have e1:l=l.take p++((l.drop p).take k++l.drop (p+k)):=by
   rw[<- List.drop_drop,List.take_append_drop,List.take_append_drop]
 generalize hA:l.take p=A at*
 generalize hB:(l.drop p).take k=B at*
 generalize hC:l.drop (p+k)=C at*
 have lA:A.length=p:=by rw[<- hA];simp;omega
 have lB:B.length=k:=by rw[<- hB];simp;omega
 clear hA hB hC
 subst e1
 have t1:(A++(B++C)).take (p+j)=A++B.take j:=by
   rw[List.take_append,List.take_of_length_le (by omega),lA,show p+j-p=j by omega,List.take_append_of_le_length (by omega)]
 have t2:(A++(B++C)).drop (p+j+1)=B.drop (j+1)++C:=by
   rw[List.drop_append,List.drop_of_length_le (by omega),List.nil_append,lA,show p+j+1-p=j+1 by omega,List.drop_append_of_le_length (by omega)]
 rw[t1,t2,List.set_eq_take_append_cons_drop,if_pos (by omega)]
 simp
theorem Sl.loadC {α:Type}{T:Ty α}{P:Program}{u:TypeId}{d:TypeDesc}(hu:P.underlying u=some d)(ha:yz d=false){w:World}{A:Bl}{a:Option Addr}{n c:Nat}{xs:List α}(h:Sl T w A a n c xs){i j k:Nat}(hk:T.k=k)(hi:i<xs.length)(hj:j<k)
   {v:Value} (hv:∀vs,T.rep w A vs xs[i]->vs[j]? =some v):(Instr.loadAt u (.pointer (an (an a (i:Int) k) (j:Int) 1))).run P w=.ok v w:=by
 subst hk
 rcases h.2.2.2 with h4|⟨b,off,e,hb,hab,h4⟩
 · subst h4;cases hi
 · obtain⟨vs,h5,h6⟩:=h4.elem hi
   rw[e,iW,iW]
   show(do loadVar u (<- Instr.sureAddr (.pointer (some _)))).run P w=_
   rw[Sem.run_bind,gC]
   refine mu hu ha ?_
   have:=h6 j hj
   rw[hv vs h5]at this
   simpa using this
theorem Ow.store1 {α:Type}{T:Ty α}{P:Program}{t u:TypeId}{bytes:Nat}{z:Value}(tf:TF P u 1 bytes z){w:World}{A:Bl}{a:Option Addr}{n c:Nat}{xs:List α}(ho:Ow T t w A a n c xs)(hA:∀g,eY a=some g-> ¬ A g)
   {i j k:Nat} (hk:T.k=k) (hi:i<xs.length) (hj:j<k) {v:Value} (h1:v.oneCell'=true) (hc:v.cells= #[v]) {x:α} (hv:∀vs,T.rep w A vs xs[i]->T.rep w A (vs.set j v) x):
   ∃w',(Instr.storeAt u (.pointer (an (an a (i:Int) k) (j:Int) 1)) v).run P w=.ok () w'/\Ow T t w' A a n c (xs.set i x)/\w.grownBy w' (eY a):=by
 subst hk
 obtain⟨ti,hti,hsz,_,_⟩:=tf.info
 obtain⟨hn,hnc,hcm,ho4⟩:=ho
 rcases ho4 with⟨_,_,rfl⟩|⟨g,cur,fr,rfl,hg,hf,hcs,hrep⟩
 · cases hi
 · subst hn
   have hb:i*T.k+T.k <=xs.length*T.k:=by
     have:=Nat.mul_le_mul_right T.k (show i+1 <=xs.length from hi)
     rwa [Nat.add_mul,Nat.one_mul]at this
   have hb2:xs.length*T.k <=cur.size:=by rw[hcs];exact Nat.mul_le_mul_right _ hnc
   have hx:=hrep.rep i hi
   have hvs:=hv _ hx
   have hvl:=T.len hvs
   rw[Qp]
   have hst:=run_storeVar_row (P:=P) hti (o:=i*T.k+j) hg hf (v:=v) (by rw[hc,hsz];rfl) (by rw[hsz];omega) (λx hx=>by rw[hc]at hx;simp at hx;rw[hx];exact h1)
   have hrow:(cur.toList.take (i*T.k+j)++v.cells.toList++cur.toList.drop (i*T.k+j+v.cells.size))=cur.toList.take (i*T.k)++(((cur.toList.take (xs.length*T.k)).drop (i*T.k)).take T.k).set j v++cur.toList.drop (i*T.k+T.k):=by
     rw[hc]
     have e:=LN cur.toList (i*T.k) T.k j v hj (by simp;omega)
     have e2:((cur.toList.take (xs.length*T.k)).drop (i*T.k)).take T.k=(cur.toList.drop (i*T.k)).take T.k:=by
       rw[List.drop_take,List.take_take];congr 1;omega
     rw[e2];exact e
   rw[hrow]at hst
   generalize (((cur.toList.take (xs.length*T.k)).drop (i*T.k)).take T.k).set j v=vs' at*
   refine⟨_,hst,?_,dM w g _⟩
   refine⟨by simp,hnc,hcm,.inr ⟨g,_,fr,rfl,setRow_heap w g cur _ t fr hg,?_,?_,?_⟩⟩
   · intro j' hj'
     refine hf j' ?_
     simp at hj';omega
   · simp;omega
   · have h2:=(hrep.set hi hvs).keep (eV (dM w g (cur.toList.take (i*T.k)++vs'++cur.toList.drop (i*T.k+T.k)).toArray) λb hb e=>hA g rfl (by cases e;exact hb))
     have e:((cur.toList.take (i*T.k)++vs'++cur.toList.drop (i*T.k+T.k)).toArray).toList.take (xs.length*T.k)=
         (cur.toList.take (xs.length*T.k)).take (i*T.k)++vs'++(cur.toList.take (xs.length*T.k)).drop (i*T.k+vs'.length):=by
       simp only[]
       have e1:(cur.toList.take (xs.length*T.k)).take (i*T.k)=cur.toList.take (i*T.k):=by rw[List.take_take];congr 1;omega
       rw[e1,List.take_append,List.drop_take]
       have e2:(cur.toList.take (i*T.k)++vs').length=i*T.k+T.k:=by simp[hvl];omega
       rw[e2,List.take_of_length_le (by rw[e2];omega)]
       congr 2
       · rw[hvl]
       · rw[hvl]
     rw[e];exact h2
def ekE (e:ia):Value:=.agg #[vI e.1,vS e.2]
def evI (n:Int):Value:=vI n
def tB4:Ty (List Bool) where
 k:=4
 pos:=by decide
 rep:=λ_ _ vs x=>vs=x.map Value.bool/\x.length=4
 len:=λh=>by rw[h.1,List.length_map,h.2]
 one:=fun{_ _ _ x} h v hv=>by rw[h.1]at hv;obtain⟨b,_,rfl⟩:=List.mem_map.1 hv;rfl
 keep:=λh _=>h
 mono:=λh _=>h
theorem IL:Flat tB4:=λ_ _ _ _ _ _ h=>h
def Oh:Ty Rul where
 k:=2
 pos:=by decide
 rep:=λ_ _ vs r=>vs=Cn r
 len:=λh=>by rw[h];rfl
 one:=fun{_ _ _ x} h v hv=>by rw[h]at hv;exact(br rfl (br rfl jZ):uX (Cn x)) v hv
 keep:=λh _=>h
 mono:=λh _=>h
structure iU (w0:World)(t te:TypeId)(kt km:Nat)(a:Option Addr)(n c:Nat)(ps:List Pth)(kvs:List (ia×Int))(es:List (List Bool))(rs:List Rul)(w:World):Prop where
 h1:am w kt t [.map (some km),.slice a n c]
 h2:pR ekE evI w km kvs
 h3:Ow tB4 te w NoB a n c es
 T:HP ps kvs
 t:Tab ps es rs
 hb:bW w0 w
 ne:km≠kt
 og:∀g,eY a=some g->g≠kt/\g≠km/\w0.heap.size <=g
 kt0:w0.heap.size <=kt
 km0:w0.heap.size <=km
theorem iU.below {w0:World}{t te:TypeId}{kt km:Nat}{a:Option Addr}{n c:Nat}{ps:List Pth}{kvs:List (ia×Int)}{es:List (List Bool)}{rs:List Rul}{w w':World}(S:iU w0 t te kt km a n c ps kvs es rs w)(h:bW w w'):iU w0 t te kt km a n c ps kvs es rs w':=
 ⟨S.h1.below h,S.h2.below h,S.h3.below h,S.T,S.t,aa S.hb h S.hb.size,S.ne,S.og,S.kt0,S.km0⟩
theorem rW {α:Type}{T:Ty α}{t:TypeId}{w w':World}{a:Option Addr}{n c:Nat}{xs:List α}(h:Ow T t w NoB a n c xs){r:Option Nat}(hg:w.grownBy w' r)(hne:∀g,eY a=some g->r≠some g):Ow T t w' NoB a n c xs:=
 h.keep (eV hg λb hb e=>by
   rcases hb with hb|hb
   · exact hb
   · exact hne b hb.symm e.symm)
theorem xv {ek:ia->Value}{ev:Int->Value}{w w':World}{r:Nat}{kvs:List (ia×Int)}(h:pR ek ev w r kvs){k:Option Nat}(hg:w.grownBy w' k)(hne:k≠some r):pR ek ev w' r kvs:=h.keep (hg.block r h.lt λe=>hne e.symm)
structure OL (w0:World)(t te ts tr:TypeId)(kt km k3:Nat)(rs:List Rul)(r:Rul)(aL:Option Addr)(nL cL:Nat)(L:List (List UInt8))(N:Nat)(p:Pth)(node:Nat)(w:World):Prop where
 ex:∃a n c ps kvs es,iU w0 t te kt km a n c ps kvs es rs w/\yA p ps 0=some node/\ps.length <=N/\(∀g,eY a=some g->g≠k3/\eY aL≠some g)
 hL:Ow tS ts w NoB aL nL cL L
 h3:am w k3 tr (Cn r)
 s1:kt≠k3
 s2:km≠k3
 s3:eY aL≠some kt
 s4:eY aL≠some km
theorem OL.below {w0:World}{t te ts tr:TypeId}{kt km k3:Nat}{rs:List Rul}{r:Rul}{aL:Option Addr}{nL cL:Nat}{L:List (List UInt8)}{N:Nat}{p:Pth}{node:Nat}{w w':World}(S:OL w0 t te ts tr kt km k3 rs r aL nL cL L N p node w)(h:bW w w'):OL w0 t te ts tr kt km k3 rs r aL nL cL L N p node w':=by
 obtain⟨a,n,c,ps,kvs,es,h1,h2,h3,h4⟩:=S.ex
 exact⟨⟨a,n,c,ps,kvs,es,h1.below h,h2,h3,h4⟩,S.hL.below h,S.h3.below h,S.s1,S.s2,S.s3,S.s4⟩
theorem Oz:∃fs,prog.underlying cd=some (.struct fs):=⟨_,rfl⟩
theorem pm:na prog cd ekE:=by
 obtain⟨fs,h⟩:=Oz
 refine na.struct h (λa b=>?_) (λb k w=>?_)
 · obtain⟨a1,a2⟩:=a
   obtain⟨b1,b2⟩:=b
   have e:eqV prog 10000 cd (ekE (a1,a2)) (ekE (b1,b2))=some ((a1==b1)&&((a2==b2)&&true)):=by kernel_rfl
   rw[e]
   congr 1
   rw[Bool.eq_iff_iff];simp
 · obtain⟨a1,a2⟩:=k
   kernel_rfl
theorem Cc:Whl prog cd 2:=⟨⟨_,_,zH⟩,by kernel_rfl⟩
def M2 (w0:World)(kt km:Nat)(rs:List Rul)(N:Nat)(v:Value)(w':World):Prop:=
 v=.tuple #[]/\∃a n c ps kvs es,iU w0 aO aZ kt km a n c ps kvs es rs w'/\ps.length <=N
theorem BV {w0:World}(he:Env w0){kt km:Nat}{a:Option Addr}{n c:Nat}{ps:List Pth}{kvs:List (ia×Int)}{es:List (List Bool)}{rs:List Rul}{w:World}(S:iU w0 aO aZ kt km a n c ps kvs es rs w)(r:Rul)
   (hk:∃k:Nat,r.1=(k:Int)/\k<4) (hr:r.2.length <=253) {N:Nat} (hN:ps.length <=N) (hN2:N <=1000000000):
   Cf gK #[.pointer (some ⟨kt,0,none⟩),Kk r] w (Ret (M2 w0 kt km (rs++[r]) (N+300))):=by
 obtain⟨rk,rn⟩:=r
 obtain⟨kk,hkk,hk4⟩:=hk
 simp only at hkk hr
 subst hkk
 apply pN
 intro k3 w3 hk3 hw3
 have hb3:=(hw3▸ai w _:bW w w3)
 have h3:am w3 k3 aG (Cn ((kk:Int),rn)):=am.new hk3 hw3
 have lt1:=S.h1.lt
 have lt2:=S.h2.lt
 have S3:=S.below hb3
 refine⟨rfl,_,h3.load1 aw rfl rfl,?_⟩
 refine ax (dv rn 46 (by omega) w3 (he.step S3.hb)) ?_
 rintro _ w4 ⟨aL,nL,cL,rfl,hoL,hfL,hb4⟩
 have hcc:(dr 46 [] rn).length <=300:=by have:=dF 46 rn [];omega
 have hR:eZ ((kk:Int),rn)=(dr 46 [] rn).reverse:=rfl
 generalize dr 46 [] rn=L at*
 have hnL:=hoL.len
 subst hnL
 refine⟨_,_,_,rfl,?_⟩
 have hs3:=hb3.size
 have S4:=S3.below hb4
 have P0:OL w0 aO aZ ah aG kt km k3 rs ((kk:Int),rn) aL L.length cL L (N+0) [] 0 w4:=by
   refine⟨⟨a,n,c,ps,kvs,es,S4,?_,hN,λg hg=>⟨?_,?_⟩⟩,hoL,h3.below hb4,by omega,by omega,λhx=>?_,λhx=>?_⟩
   · exact S.T.first 0 [] S.T.root
   · have:=S.h3.lt g hg;omega
   · intro hx;have:=hfL g hx;have:=S.h3.lt g hg;omega
   · have:=hfL _ hx;omega
   · have:=hfL _ hx;omega
 have e0:i64.wrap (((L.length:Nat):Int)-1)=((L.length:Nat):Int)-1:=wrap_i64 (by omega) (by omega)
 try dsimp only
 rw[e0]
 clear S3 S4 S
 refine⟨λm nd i w'=>∃(k node:Nat),k <=L.length/\i=((L.length:Nat):Int)-1-(k:Int)/\m=L.length-k/\nd=(node:Int)/\OL w0 aO aZ ah aG kt km k3 rs ((kk:Int),rn) aL L.length cL L (N+k) ((eZ ((kk:Int),rn)).take k) node w',⟨_,0,0,by omega,by omega,rfl,rfl,P0⟩,?_⟩
 intro m nd i
 refine aX.of ?_ _
 rintro w5 ⟨k,node,hkl,rfl,rfl,rfl,P5⟩
 refine ab.of (λh=>?_) (λh=>?_) <;> simp only[ge_iff_le,dTx,dFx]at h
 · have hlt:k<L.length:=by omega
   have ei:((L.length:Nat):Int)-1-(k:Int)=((L.length-1-k:Nat):Int):=by omega
   rw[ei]
   refine⟨⟨⟨by omega,by omega⟩,P5.hL.all.isSome (by omega)⟩,_,P5.hL.all.text aw (by omega),?_⟩
   have hRk:(eZ ((kk:Int),rn)).take (k+1)=(eZ ((kk:Int),rn)).take k++[L[L.length-1-k]'(by omega)]:=by
     rw[hR,List.take_succ_eq_append_getElem (by simpa using hlt),List.getElem_reverse]
   generalize L[L.length-1-k]'(by omega)=lab at*
   refine Cc.new (zs:=[vI 0,vS []]) (cs:=[vI (node:Int),vS lab]) rfl rfl (br rfl (br rfl jZ)) w5 λk7 w7 hk7 h7 hb7=>?_
   have P7:=P5.below hb7
   simp only[wu]
   obtain⟨a5,n5,c5,ps5,kvs5,es5,S7,hp5,hN5,hog5⟩:=P7.ex
   have pn:=(ly hp5).2
   rw[Nat.sub_zero]at pn
   have hedge:=S7.T.edge node lab
   rw[pn]at hedge
   simp only at hedge
   have lt7:=h7.lt
   have ltm:=S7.h2.lt
   have ltt:=S7.h1.lt
   have hkk7:k7≠km/\k7≠kt/\k7≠k3:=by
     have:=P5.h3.lt
     obtain⟨_,_,_,_,_,_,S5,_⟩:=P5.ex
     have:=S5.h1.lt
     have:=S5.h2.lt
     omega
   have hog7:∀g,eY a5=some g->g≠k7:=λg hg=>by
     obtain⟨a6,n6,c6,ps6,kvs6,es6,S5,_⟩:=P5.ex
     have e1:=S5.h1.below hb7
     have e2:=S7.h1
     unfold am at e1 e2
     rw[e1]at e2
     simp only[Option.some.injEq,Obj.cells.injEq,and_true,true_and]at e2
     have e3:a6=a5:=by
       have:=congrArg (λx:Array Value=>x[1]?) e2
       simp at this
       exact this.1
     subst e3
     have:=S5.h3.lt g hg
     omega
   have hol7:∀g,eY aL=some g->g≠k7:=λg hg=>by have:=P5.hL.lt g hg;omega
   have luk:∀u,bW w7 u->(Instr.loadAt bj (.pointer (some ⟨kt,0,none⟩))).run prog u=.ok (.map (some km)) u:=λu hu=>(S7.h1.below hu).load1 bh rfl rfl
   have led:∀u,bW w7 u->(Instr.loadAt cd (.pointer (some ⟨k7,0,none⟩))).run prog u=.ok (.agg #[vI (node:Int),vS lab]) u:=λu hu=>Cc.load0 (h7.below hu) rfl
   refine⟨λwj=>∃i2:Nat,OL w0 aO aZ ah aG kt km k3 rs ((kk:Int),rn) aL L.length cL L (N+(k+1)) ((eZ ((kk:Int),rn)).take (k+1)) i2 wj/\(∃a n c ps kvs es,iU w0 aO aZ kt km a n c ps kvs es rs wj/\cT ((node:Int),lab) kvs=some (i2:Int))/\am wj k7 cd [vI (node:Int),vS lab],?_,?_⟩
   · refine⟨rfl,rfl,_,luk,_,_,led,?_⟩
     cases hq:yA ((eZ ((kk:Int),rn)).take k++[lab]) ps5 0 with
     | some i2=>
       rw[hq]at hedge
       refine⟨(i2:Int),true,λu hu=>?_,?_⟩
       · have:=(S7.h2.below hu).look2 (P:=prog) bh pm iO ((node:Int),lab)
         rw[hedge]at this;exact this
       intro wq hwq
       refine ab.no rfl ?_
       rw[hRk]
       have P8:=P7.below hwq
       exact⟨i2,⟨⟨a5,n5,c5,ps5,kvs5,es5,S7.below hwq,hq,by omega,hog5⟩,P8.hL,P8.h3,P8.s1,P8.s2,P8.s3,P8.s4⟩,⟨a5,n5,c5,ps5,kvs5,es5,S7.below hwq,hedge⟩,h7.below hwq⟩
     | none=>
       rw[hq]at hedge
       have hno:=lw.1 hq
       refine⟨0,false,λu hu=>?_,?_⟩
       · have:=(S7.h2.below hu).look2 (P:=prog) bh pm iO ((node:Int),lab)
         rw[hedge]at this;exact this
       intro wq hwq
       have S8:=S7.below hwq
       have P8:=P7.below hwq
       have h78:=h7.below hwq
       refine ab.yes rfl ⟨rfl,rfl,_,λu hu=>(S8.h1.below hu).load1 bh rfl rfl,_,_,λu hu=>Cc.load0 (h78.below hu) rfl,rfl,rfl,_,_,_,λu hu=>(S8.h1.below hu).load1 dB rfl rfl,?_⟩
       intro wr hwr
       have S9:=S8.below hwr
       have P9:=P8.below hwr
       have h79:=h78.below hwr
       have hn5:=S9.h3.len
       have hesl:=S9.t.len
       obtain⟨wa,hsa,hma,hga⟩:=S9.h2.put (P:=prog) bh pm (k:=((node:Int),lab)) hedge (((n5:Nat):Int))
       refine⟨wa,hsa,?_⟩
       have h1a:=S9.h1.grown hga (bP S9.ne.symm)
       have h3a:=rW S9.h3 hga λg hg e=>(S9.og g hg).2.1 (Option.some.inj e).symm
       have hLa:=rW P9.hL hga λg hg e=>P9.s4 (by rw[hg,<- e])
       have hRa:=P9.h3.grown hga (bP P9.s2.symm)
       have h7a:=h79.grown hga (bP hkk7.1)
       have hBa:=Below.put S9.hb hga S9.km0
       refine⟨rfl,rfl,_,_,_,h1a.load1 dB rfl rfl,?_⟩
       intro kb wb hkb hwb
       have hbb:=(hwb▸ai wa _:bW wa wb)
       have hBb:=aa hBa hbb hBa.size
       have hsrc:Src tB4 wb NoB (some ⟨kb,0,none⟩) 1 [[false,false,false,false]]:=Src.new1F IL hkb hwb ⟨rfl,rfl⟩
       obtain⟨wc,ac,nc,cc,hrc,h3c,hgc,hfc⟩:=fB (P:=prog) (ty:=bw) dB DJ (by decide) (h3a.below hbb) (λ_ _ h=>h) (cm:=1) hsrc (by simp;omega)
       refine⟨wc,ac,nc,cc,hrc,rfl,rfl,?_⟩
       have ltka:=h1a.lt
       have ltma:=hma.lt
       have sza:=hbb.size
       have nog:∀x,(∀g,eY a5=some g->g≠x)->some x≠eY a5:=λx h e=>h x e.symm rfl
       have h1c:=(h1a.below hbb).grown hgc (nog kt λg hg=>(S9.og g hg).1)
       have hmc:=xv (hma.below hbb) hgc (nog km λg hg=>(S9.og g hg).2.1).symm
       have hLc:=rW (hLa.below hbb) hgc λg hg e=>(hog5 g e).2 hg
       have hRc:=(hRa.below hbb).grown hgc (nog k3 λg hg=>(hog5 g hg).1)
       have h7c:=(h7a.below hbb).grown hgc (nog k7 hog7)
       have hBc:bW w0 wc:=hBb.grown hgc hBb.size λx e=>(S9.og x e).2.2
       obtain⟨wd,hsd,h1d,hgd⟩:=h1c.put (P:=prog) yi (i:=1) (v:=.slice ac nc cc) (show 1<2 by decide) rfl rfl
       refine⟨wd,hsd,?_⟩
       have hacn:∀g,eY ac=some g->g≠kt/\g≠km/\w0.heap.size <=g/\g≠k3/\eY aL≠some g:=λg hg=>by
         rcases hfc g hg with e|e
         · have:=S9.og g e
           have h2:=hog5 g e
           exact⟨this.1,this.2.1,this.2.2,h2.1,h2.2⟩
         · have:=hBb.size
           have:=(hRa.below hbb).lt
           have h3:∀x,eY aL=some x->x<wb.heap.size:=(hLa.below hbb).lt
           exact⟨by omega,by omega,by omega,by omega,λhx=>by have:=h3 g hx;omega⟩
       have Td:=S9.T.grow pn hno
       have td:=S9.t.grow hno
       have hn9:((n5:Nat):Int)=((ps5.length:Nat):Int):=by omega
       rw[hn9]at hmc
       have Sd:iU w0 aO aZ kt km ac nc cc _ _ _ rs wd:=⟨h1d,xv hmc hgd (bP S9.ne.symm),rW h3c hgd λg hg e=>(hacn g hg).1 (Option.some.inj e).symm,Td,td,Below.put hBc hgd S9.kt0,S9.ne,λg hg=>⟨(hacn g hg).1,(hacn g hg).2.1,(hacn g hg).2.2.1⟩,S9.kt0,S9.km0⟩
       have hpd:yA ((eZ ((kk:Int),rn)).take k++[lab]) (ps5++[(eZ ((kk:Int),rn)).take k++[lab]]) 0=some ps5.length:=by
         rw[wg,hq,if_pos rfl];simp
       rw[hRk]
       refine⟨ps5.length,⟨⟨ac,nc,cc,_,_,_,Sd,hpd,by simp;omega,λg hg=>⟨(hacn g hg).2.2.2.1,(hacn g hg).2.2.2.2⟩⟩,rW hLc hgd λg hg e=>P9.s3 (by rw[hg,<- e]),hRc.grown hgd (bP P9.s1.symm),P9.s1,P9.s2,P9.s3,P9.s4⟩,⟨ac,nc,cc,_,_,_,Sd,?_⟩,h7c.grown hgd (bP hkk7.2.1)⟩
       rw[rP,hedge,if_pos rfl];rfl
   · refine aX.of ?_ _
     rintro wj ⟨i2,Pj,⟨a6,n6,c6,ps6,kvs6,es6,S6,hl6⟩,h7j⟩
     refine⟨rfl,rfl,_,λu hu=>(S6.h1.below hu).load1 bh rfl rfl,_,_,λu hu=>Cc.load0 (h7j.below hu) rfl,(i2:Int),λu hu=>?_,λwq hwq=>?_⟩
     · have:=(S6.h2.below hu).look1 (P:=prog) bh pm iO ((node:Int),lab)
       rw[hl6]at this;exact this
     · exact⟨L.length-(k+1),by omega,k+1,i2,by omega,by rw[wrap_i64 (by omega) (by omega)];omega,rfl,rfl,Pj.below hwq⟩
 · have:k=L.length:=by omega
   subst this
   have hRl:(eZ ((kk:Int),rn)).take L.length=eZ ((kk:Int),rn):=by rw[List.take_of_length_le];rw[hR];simp
   rw[hRl]at P5
   simp only[wu]
   obtain⟨a5,n5,c5,ps5,kvs5,es5,S5,hp5,hN5,hog5⟩:=P5.ex
   have pn:=(ly hp5).2
   rw[Nat.sub_zero]at pn
   have hnl:node<es5.length:=by rw[S5.t.len];exact(List.getElem?_eq_some_iff.1 pn).1
   have hn5:=S5.h3.len
   subst hn5
   have hsome:=S5.h3.all.isSome hnl
   have hrow:=S5.t.mark node _ pn
   refine⟨rfl,rfl,_,_,_,λu hu=>(S5.h1.below hu).load1 dB rfl rfl,trivial,_,λu hu=>(P5.h3.below hu).load1 bT rfl rfl,⟨⟨by omega,by omega⟩,hsome⟩,⟨⟨by omega,by omega⟩,?_⟩,?_⟩
   · cases a5 with
     | none=>cases hsome
     | some x=>rfl
   intro wq hwq
   have S6:=S5.below hwq
   obtain⟨w7,hs7,h37,hg7⟩:=S6.h3.store1 (P:=prog) mG (λ_ _ h=>h) (k:=4) rfl (i:=node) (j:=kk) hnl hk4 (v:=.bool true) (x:=(marks rs (eZ ((kk:Int),rn))).set kk true) rfl rfl (by
     intro vs hvs
     rw[List.getElem?_eq_getElem hnl]at hrow
     have hvs:vs=es5[node].map Value.bool/\es5[node].length=4:=hvs
     rw[Option.some.inj hrow]at hvs
     exact⟨by rw[hvs.1,List.map_set],by rw[List.length_set,rQ]⟩)
   refine⟨w7,hs7,rfl,a5,es5.length,c5,ps5,kvs5,_,⟨S6.h1.grown hg7 (λe=>(S6.og kt e.symm).1 rfl),xv S6.h2 hg7 (λe=>(S6.og km e).2.1 rfl),h37,S6.T,S6.t.rule S6.T rfl pn hk4,S6.hb.grown hg7 S6.hb.size (λx e=>(S6.og x e).2.2),S6.ne,S6.og,S6.kt0,S6.km0⟩,by omega⟩
theorem JD (s:List UInt8):cF (cF s)=cF s:=by
 have h:∀n,n<256->ve (ve (UInt8.ofNat n))=ve (UInt8.ofNat n):=by decide+kernel
 unfold cF
 rw[List.map_map]
 apply List.map_congr_left
 intro c _
 have:=h c.toNat (by have:=c.toNat_lt;omega)
 rw[UInt8.ofNat_toNat]at this
 exact this
theorem Po (s:List UInt8):(cF s).head?=some 91 ↔ s.head?=some 91:=by
 cases s with
 | nil=>simp[cF]
 | cons c r=>
   have h:∀n,n<256->(ve (UInt8.ofNat n)=91 ↔ UInt8.ofNat n=91):=by decide+kernel
   have:=h c.toNat (by have:=c.toNat_lt;omega)
   rw[UInt8.ofNat_toNat]at this
   simpa[cF]using this
theorem Je {s:List UInt8}{h:Hst}(e:bR s=some h)(hk:h.kind=1):h=⟨1,cF s,ad0⟩/\bR (cF s)=some h/\(cF s).length <=253:=by
 have e0:=e
 unfold bR at e
 split at e
 · split at e
   · have:=DW e;omega
   · cases e
 rename_i h91
 split at e
 · cases h4:v4V s with
   | none=>rw[h4]at e;cases e
   | some a=>
     rw[h4]at e
     have:h.kind=2:=by rw[<- Option.some.inj e]
     omega
 rename_i hd
 split at e
 · rename_i hc
   have e1:=Option.some.inj e
   refine⟨e1.symm,?_,by simpa[cF]using hc.1⟩
   unfold bR
   rw[if_neg (λhx=>h91 ((Po s).1 hx)),JD,if_neg hd,if_pos ⟨by simpa[cF]using hc.1,hc.2⟩,e1]
 · cases e
def Mb (r:Rul):Hst:=⟨1,r.2,ad0⟩
theorem Kj (r:Rul):(Mb r).ok:=rfl
theorem G6 (u:List UInt8):(nT u).1=1\/(nT u).1=2\/(nT u).1=3:=by
 unfold nT
 split
 · exact .inr (.inl rfl)
 split
 · exact .inr (.inr rfl)
 · exact .inl rfl
structure Av (r:Rul):Prop where
 kind:r.1=1\/r.1=2\/r.1=3
 len:r.2.length <=253
 host:bR r.2=some (Mb r)
theorem Mc {r:Rul}(h:KT r=true):Av r:=by
 unfold KT at h
 rw[Bool.and_eq_true,Bool.and_eq_true,beq_iff_eq,Ki]at h
 obtain⟨h1,h2,h3⟩:=h
 generalize vn r=s at*
 unfold nU at h1 h2 h3
 split at h1
 · rename_i hc;rw[if_pos hc]at h2;cases h2
 · rename_i hc
   rw[if_neg hc]at h2 h3
   have hk:=G6 (rE (trimB s))
   generalize nT (rE (trimB s))=kn at*
   obtain⟨k,n⟩:=kn
   unfold NX at h1 h2 h3
   cases hv:bR n with
   | none=>simp only[hv]at h2;cases h2
   | some g=>
     simp only[hv]at h1 h2 h3
     split at h2
     · rename_i hg
       rw[if_pos hg]at h3
       obtain⟨g1,g2,g3⟩:=Je hv hg.1
       have e1:r.1=k:=by rw[<- h3]
       have e2:r.2=cF n:=by rw[<- h3,g1]
       refine⟨by rw[e1];exact hk,by rw[e2];exact g3,?_⟩
       unfold Mb
       rw[e2,g2,g1]
     · cases h2
theorem Av.right {r:Rul}(h:Av r):cW (Mb r)=true:=by
 unfold cW
 have:mr (Mb r)=r.2:=by unfold mr Mb;rw[if_pos rfl]
 rw[this,h.host]
 exact(iK (Kj r) (Kj r)).2 rfl
theorem Av.labels {r:Rul}(h:Av r):aC (Mb r)=dr 46 [] r.2:=by
 unfold aC
 rw[if_pos ⟨rfl,h.right⟩];rfl
theorem Av.ne {r:Rul}(h:Av r):(aC (Mb r)).length≠0:=by
 rw[h.labels]
 have:=List.length_pos_iff.2 (jG 46 r.2 [])
 omega
theorem Av.revl {r:Rul}(h:Av r):eZ r=(aC (Mb r)).reverse:=by rw[h.labels];rfl
theorem Bz {r:Rul} :0<(eZ r).length:=by
 unfold Go.Pk.eZ
 rw[List.length_reverse]
 exact List.length_pos_iff.2 (jG 46 r.2 [])
def Hz (R:Pth)(m:Nat)(r:Rul):Nat:=
 if eZ r=R.take (eZ r).length then(if r.1=1 then max m (eZ r).length else if r.1=2/\(eZ r).length<R.length then max m ((eZ r).length+1)else m)else m
def Hy (R:Pth)(m:Nat)(r:Rul):Nat:=if eZ r=R.take (eZ r).length/\r.1=3 then max m ((eZ r).length-1)else m
def PY (rs:List Rul)(R:Pth):Nat:=rs.foldl (Hz R) 1
def O8 (rs:List Rul)(R:Pth):Nat:=rs.foldl (Hy R) 0
def BU (rs:List Rul)(R:Pth):Nat:=if R=[]then 0 else if 0<O8 rs R then O8 rs R else PY rs R
theorem wn {r:Rul}{R:Pth}(h:eZ r=R.take (eZ r).length):(eZ r).length <=R.length:=by
 have:=congrArg List.length h
 rw[List.length_take]at this;omega
theorem FG (rs:List Rul)(R:Pth):Top 1 (jx rs R R.length (R.length-1)) (PY rs R):=by
 suffices ∀(rs:List Rul) (S:Nat->Prop) (m:Nat),Top 1 S m->Top 1 (λx=>S x\/jx rs R R.length (R.length-1) x) (rs.foldl (Hz R) m) by
   exact(this rs _ 1 (Top.zero 1)).congr λx=>by simp
 intro rs
 induction rs with
 | nil=>exact λS m h=>h.congr λx=>by unfold jx;simp
 | cons r rs ih=>
   intro S m h
   rw[List.foldl_cons]
   have hsplit:∀x,jx (r::rs) R R.length (R.length-1) x ↔ jx [r] R R.length (R.length-1) x\/jx rs R R.length (R.length-1) x:=λx=>by
     unfold jx;simp
   have h1:Top 1 (λx=>S x\/jx [r] R R.length (R.length-1) x) (Hz R m r):=by
     have hl:=Bz (r:=r)
     unfold Hz
     by_cases c:eZ r=R.take (eZ r).length
     · have hle:=wn c
       rw[if_pos c]
       by_cases c1:r.1=1
       · rw[if_pos c1]
         refine(h.max _).congr λx=>or_congr Iff.rfl ?_
         unfold jx
         constructor
         · rintro rfl;exact⟨r,by simp,c,.inl ⟨c1,hle,rfl⟩⟩
         · rintro⟨r',hr',c',h'⟩
           rw[List.mem_singleton]at hr';subst hr'
           rcases h' with⟨_,_,h'⟩|⟨c2,_⟩
           · exact h'.symm
           · rw[c1]at c2;exact absurd c2 (by decide)
       · rw[if_neg c1]
         by_cases c2:r.1=2/\(eZ r).length<R.length
         · rw[if_pos c2]
           refine(h.max _).congr λx=>or_congr Iff.rfl ?_
           unfold jx
           constructor
           · rintro rfl;exact⟨r,by simp,c,.inr ⟨c2.1,by omega,rfl⟩⟩
           · rintro⟨r',hr',c',h'⟩
             rw[List.mem_singleton]at hr';subst hr'
             rcases h' with⟨c3,_⟩|⟨_,_,h'⟩
             · exact absurd c3 c1
             · exact h'.symm
         · rw[if_neg c2]
           refine h.congr λx=>?_
           have: ¬ jx [r] R R.length (R.length-1) x:=by
             rintro⟨r',hr',c',h'⟩
             rw[List.mem_singleton]at hr';subst hr'
             rcases h' with⟨c3,_⟩|⟨c3,c4,_⟩
             · exact c1 c3
             · exact c2 ⟨c3,by omega⟩
           simp[this]
     · rw[if_neg c]
       refine h.congr λx=>?_
       have: ¬ jx [r] R R.length (R.length-1) x:=by
         rintro⟨r',hr',c',-⟩
         rw[List.mem_singleton]at hr';subst hr'
         exact c c'
       simp[this]
   exact(ih _ _ h1).congr λx=>by rw[hsplit,or_assoc]
theorem FF (rs:List Rul)(R:Pth):Top 0 (eX rs R R.length) (O8 rs R):=by
 suffices ∀(rs:List Rul) (S:Nat->Prop) (m:Nat),Top 0 S m->Top 0 (λx=>S x\/eX rs R R.length x) (rs.foldl (Hy R) m) by
   exact(this rs _ 0 (Top.zero 0)).congr λx=>by simp
 intro rs
 induction rs with
 | nil=>exact λS m h=>h.congr λx=>by unfold eX;simp
 | cons r rs ih=>
   intro S m h
   rw[List.foldl_cons]
   have hsplit:∀x,eX (r::rs) R R.length x ↔ eX [r] R R.length x\/eX rs R R.length x:=λx=>by
     unfold eX;simp
   have h1:Top 0 (λx=>S x\/eX [r] R R.length x) (Hy R m r):=by
     unfold Hy
     by_cases c:eZ r=R.take (eZ r).length/\r.1=3
     · rw[if_pos c]
       refine(h.max _).congr λx=>or_congr Iff.rfl ?_
       unfold eX
       constructor
       · rintro rfl;exact⟨r,by simp,c.1,c.2,wn c.1,rfl⟩
       · rintro⟨r',hr',c',c3,c4,h'⟩
         rw[List.mem_singleton]at hr';subst hr'
         exact h'.symm
     · rw[if_neg c]
       refine h.congr λx=>?_
       have: ¬ eX [r] R R.length x:=by
         rintro⟨r',hr',c',c3,c4,h'⟩
         rw[List.mem_singleton]at hr';subst hr'
         exact c ⟨c',c3⟩
       simp[this]
   exact(ih _ _ h1).congr λx=>by rw[hsplit,or_assoc]
theorem HP.take {ps:List Pth}{kvs:List (ia×Int)}(t:HP ps kvs):∀(j:Nat) (p:Pth),p∈ps->p.length <=j->∀k,p.take k∈ps
 | 0,p,hp,hl,k=>by
   have:p=[]:=List.length_eq_zero_iff.1 (by omega)
   subst this;rw[List.take_nil];exact hp
 | j+1,p,hp,hl,k=>by
   by_cases hk:p.length <=k
   · rw[List.take_of_length_le hk];exact hp
   · obtain⟨q,l,rfl⟩:∃q l,p=q++[l]:=by
       rcases List.eq_nil_or_concat p with h|⟨q,l,h⟩
       · subst h;simp at hk
       · exact⟨q,l,by simpa using h⟩
     rw[List.length_append,List.length_singleton]at hl hk
     have:=HP.take t j q (t.closed _ _ hp) (by omega) k
     rw[List.take_append_of_le_length (by omega)];exact this
theorem JN {ps:List Pth}{kvs:List (ia×Int)}{es:List (List Bool)}{rs:List Rul}(T:HP ps kvs)(t:Tab ps es rs){R:Pth}{k:Nat}(hk:k<R.length)(hno:R.take (k+1) ∉ ps):
   (∀x,jx rs R k k x ↔ jx rs R R.length (R.length-1) x)/\(∀x,eX rs R k x ↔ eX rs R R.length x):=by
 have hle:∀r∈rs,eZ r=R.take (eZ r).length->(eZ r).length <=k:=λr hr c=>by
   refine Decidable.byContradiction λhc=>hno ?_
   have:=T.take _ _ (t.rules r hr) (Nat.le_refl _) (k+1)
   rw[c,List.take_take,Nat.min_eq_left (by omega)]at this
   exact this
 refine⟨λx=>?_,λx=>?_⟩
 · constructor
   · rintro⟨r,hr,c,h⟩
     refine⟨r,hr,c,?_⟩
     rcases h with⟨h1,h2,h3⟩|⟨h1,h2,h3⟩
     · exact .inl ⟨h1,by omega,h3⟩
     · exact .inr ⟨h1,by omega,h3⟩
   · rintro⟨r,hr,c,h⟩
     have:=hle r hr c
     refine⟨r,hr,c,?_⟩
     rcases h with⟨h1,h2,h3⟩|⟨h1,h2,h3⟩
     · exact .inl ⟨h1,this,h3⟩
     · exact .inr ⟨h1,this,h3⟩
 · constructor
   · rintro⟨r,hr,c,h1,h2,h3⟩;exact⟨r,hr,c,h1,by omega,h3⟩
   · rintro⟨r,hr,c,h1,h2,h3⟩;exact⟨r,hr,c,h1,hle r hr c,h3⟩
theorem AH {rs:List Rul}{R:Pth}{k kk:Nat}(hk:k <=R.length):(rs.any λr=>decide (r.1=(kk:Int)/\eZ r=R.take k))=true ↔ ∃r∈rs,r.1=(kk:Int)/\eZ r=R.take (eZ r).length/\(eZ r).length=k:=by
 rw[List.any_eq_true]
 constructor
 · rintro⟨r,hr,h⟩
   rw[dTx]at h
   have hl:(eZ r).length=k:=by rw[h.2,List.length_take];omega
   exact⟨r,hr,h.1,by rw[hl];exact h.2,hl⟩
 · rintro⟨r,hr,h1,h2,h3⟩
   exact⟨r,hr,decide_eq_true ⟨h1,by rw[h3]at h2;exact h2⟩⟩
theorem JO {rs:List Rul}{R:Pth}{k m:Nat}(hk:k <=R.length)(h:Top 1 (jx rs R k (k-1)) m)(hm:m <=k+1):
   Top 1 (jx rs R k k) (if(rs.any λr=>decide (r.1=((2:Nat):Int)/\eZ r=R.take k))=true then k+1 else m):=by
 have hx:∀x,jx rs R k k x ↔ (jx rs R k (k-1) x\/(x=k+1/\(rs.any λr=>decide (r.1=((2:Nat):Int)/\eZ r=R.take k))=true)):=λx=>by
   rw[AH hk]
   constructor
   · rintro⟨r,hr,c,h⟩
     rcases h with h|⟨h1,h2,h3⟩
     · exact .inl ⟨r,hr,c,.inl h⟩
     · by_cases e:(eZ r).length=k
       · exact .inr ⟨by omega,r,hr,h1,c,e⟩
       · exact .inl ⟨r,hr,c,.inr ⟨h1,by omega,h3⟩⟩
   · rintro(⟨r,hr,c,h⟩|⟨rfl,r,hr,h1,c,h2⟩)
     · refine⟨r,hr,c,?_⟩
       rcases h with h|⟨h1,h2,h3⟩
       · exact .inl h
       · exact .inr ⟨h1,by omega,h3⟩
     · exact⟨r,hr,c,.inr ⟨h1,by omega,by omega⟩⟩
 split
 · rename_i hm2
   have:=h.max (k+1)
   rw[Nat.max_eq_right hm]at this
   exact this.congr λx=>by rw[hx x,and_iff_left hm2]
 · rename_i hm2
   exact h.congr λx=>by rw[hx x];exact⟨.inl,λh=>h.elim id λh=>absurd h.2 hm2⟩
theorem JM {rs:List Rul}{R:Pth}{k m:Nat}(hk:k<R.length)(h:Top 1 (jx rs R k k) m)(hm:m <=k+1):
   Top 1 (jx rs R (k+1) k) (if(rs.any λr=>decide (r.1=((1:Nat):Int)/\eZ r=R.take (k+1)))=true then k+1 else m):=by
 have hx:∀x,jx rs R (k+1) k x ↔ (jx rs R k k x\/(x=k+1/\(rs.any λr=>decide (r.1=((1:Nat):Int)/\eZ r=R.take (k+1)))=true)):=λx=>by
   rw[AH (by omega)]
   constructor
   · rintro⟨r,hr,c,h⟩
     rcases h with⟨h1,h2,h3⟩|h
     · by_cases e:(eZ r).length=k+1
       · exact .inr ⟨by omega,r,hr,h1,c,e⟩
       · exact .inl ⟨r,hr,c,.inl ⟨h1,by omega,h3⟩⟩
     · exact .inl ⟨r,hr,c,.inr h⟩
   · rintro(⟨r,hr,c,h⟩|⟨rfl,r,hr,h1,c,h2⟩)
     · refine⟨r,hr,c,?_⟩
       rcases h with⟨h1,h2,h3⟩|h
       · exact .inl ⟨h1,by omega,h3⟩
       · exact .inr h
     · exact⟨r,hr,c,.inl ⟨h1,by omega,h2⟩⟩
 split
 · rename_i hm2
   have:=h.max (k+1)
   rw[Nat.max_eq_right hm]at this
   exact this.congr λx=>by rw[hx x,and_iff_left hm2]
 · rename_i hm2
   exact h.congr λx=>by rw[hx x];exact⟨.inl,λh=>h.elim id λh=>absurd h.2 hm2⟩
theorem Et {rs:List Rul}{R:Pth}{k m:Nat}(hk:k<R.length)(h:Top 0 (eX rs R k) m)(hm:m <=k):
   Top 0 (eX rs R (k+1)) (if(rs.any λr=>decide (r.1=((3:Nat):Int)/\eZ r=R.take (k+1)))=true then k else m):=by
 have hx:∀x,eX rs R (k+1) x ↔ (eX rs R k x\/(x=k/\(rs.any λr=>decide (r.1=((3:Nat):Int)/\eZ r=R.take (k+1)))=true)):=λx=>by
   rw[AH (by omega)]
   constructor
   · rintro⟨r,hr,c,h1,h2,h3⟩
     by_cases e:(eZ r).length=k+1
     · exact .inr ⟨by omega,r,hr,h1,c,e⟩
     · exact .inl ⟨r,hr,c,h1,by omega,h3⟩
   · rintro(⟨r,hr,c,h1,h2,h3⟩|⟨rfl,r,hr,h1,c,h2⟩)
     · exact⟨r,hr,c,h1,by omega,h3⟩
     · exact⟨r,hr,c,h1,by omega,by omega⟩
 split
 · rename_i hm2
   have:=h.max k
   rw[Nat.max_eq_right hm]at this
   exact this.congr λx=>by rw[hx x,and_iff_left hm2]
 · rename_i hm2
   exact h.congr λx=>by rw[hx x];exact⟨.inl,λh=>h.elim id λh=>absurd h.2 hm2⟩
def HT (rs:List Rul)(h:Hst):Bool:=decide (0<(aC h).length)&&(BU rs (aC h).reverse==(aC h).length)
def M0 (w:World)(rs:List Rul)(v:Value)(w':World):Prop:=∃kt km a n c ps kvs es,v=.pointer (some ⟨kt,0,none⟩)/\iU w aO aZ kt km a n c ps kvs es (rs.filter KT) w'
theorem LS (w:World):(Instr.makeSlice bw (vI 1) (vI 1)).run prog w=.ok (.slice (some ⟨w.heap.size,0,none⟩) 1 1) (w.alloc (.cells #[.bool false,.bool false,.bool false,.bool false] aZ)):=by kernel_rfl
theorem F5 {w:World}{A:Bl}{a:Option Addr}{n c:Nat}{rs:List Rul}(h:Sl Oh w A a n c rs){i:Nat}(hi:i<rs.length):(Instr.loadAt aG (.pointer (an a (i:Int) 2))).run prog w=.ok (Kk rs[i]) w:=by
 obtain⟨ti,hti,hsz,_,_⟩:=yh.info
 have hag:(prog.underlying aG).map yz=some true:=by kernel_rfl
 cases hu:prog.underlying aG with
 | none=>rw[hu]at hag;cases hag
 | some d=>
   rw[hu]at hag
   simp only[Option.map_some,Option.some.injEq]at hag
   obtain⟨vs,h1,h2⟩:=h.loadA hu hag hti (k:=2) rfl hsz (i:=(i:Int)) (by simpa using hi)
   have h2:vs=Cn rs[i]:=h2
   rw[h2]at h1;exact h1
theorem sn {A:Bl}{a0:Option Addr}{l0 c0:Nat}{rs:List Rul}{w:World}(hs:Sl Oh w A a0 l0 c0 rs)(hl:rs.length <=1000000)(hr:∀r∈rs,r.2.length <=1000000)(he:Env w):
   Cf kl #[.slice a0 l0 c0] w (Ret (M0 w rs)):=by
 apply zv
 intro k9 w9 hk9 hw9
 have hb9:=(hw9▸ai w _:bW w w9)
 have m9:pR ekE evI w9 k9 []:=pR.new hk9 hw9
 refine⟨_,_,_,_,LS w9,?_⟩
 generalize hw10:w9.alloc (.cells #[.bool false,.bool false,.bool false,.bool false] aZ)=w10
 have hb10:=(hw10▸ai w9 _:bW w9 w10)
 have hB10:=aa hb9 hb10 hb9.size
 have o10:Ow tB4 aZ w10 NoB (some ⟨w9.heap.size,0,none⟩) 1 1 [[false,false,false,false]]:=
   Ow.newF (T:=tB4) (l:=[.bool false,.bool false,.bool false,.bool false]) (xs:=[[false,false,false,false]]) (w:=w9) IL rfl hw10.symm (fP.one ⟨rfl,rfl⟩) (by decide)
 intro k12 w12 hk12 hw12
 have hb12:=(hw12▸ai w10 _:bW w10 w12)
 have hB12:=aa hB10 hb12 hB10.size
 have lt9:=m9.lt
 have s10:=hb10.size
 have s9:=hb9.size
 have sz10:w10.heap.size=w9.heap.size+1:=by rw[<- hw10];simp
 have T0:iU w aO aZ k12 k9 (some ⟨w9.heap.size,0,none⟩) 1 1 [[]] [] [[false,false,false,false]] [] w12:=
   ⟨am.new hk12 hw12,(m9.below hb10).below hb12,o10.below hb12,Mn,Oj,hB12,by omega,λg hg=>by
     simp[eY]at hg
     omega,by omega,by omega⟩
 clear m9 o10
 have hn:=hs.len
 subst hn
 refine⟨λm i w'=>∃k:Nat,k <=rs.length/\i=(k:Int)/\m=rs.length-k/\∃a n c ps kvs es,iU w aO aZ k12 k9 a n c ps kvs es ((rs.take k).filter KT) w'/\ps.length <=1+300*k,⟨_,0,by omega,rfl,rfl,_,_,_,_,_,_,T0,by decide⟩,?_⟩
 intro m i
 refine aX.of ?_ _
 rintro w1 ⟨k,hk,rfl,rfl,a,n,c,ps,kvs,es,S1,hps⟩
 refine ab.of (λh=>?_) (λh=>?_) <;> simp only[dTx,dFx]at h
 · have hlt:k<rs.length:=by omega
   have hs1:=hs.below S1.hb
   have hlen:=hr _ (List.getElem_mem hlt)
   refine⟨⟨⟨by omega,h⟩,hs1.isSome hlt⟩,_,_,F5 hs1 hlt,?_⟩
   have htake:(rs.take (k+1)).filter KT=(rs.take k).filter KT++(if KT rs[k]=true then[rs[k]]else[]):=by
     rw[List.take_succ_eq_append_getElem hlt,List.filter_append]
     congr 1
     rw[List.filter_cons,List.filter_nil]
   generalize rs[k]=r at*
   refine mH.new (zs:=Cn (0,[])) (cs:=Cn r) rfl rfl (EY r) w1 λk5 w5 hk5 h5 hb5=>?_
   refine⟨_,_,mH.load0 h5 rfl,?_⟩
   have S5:=S1.below hb5
   refine ax (Dp r (by omega) w5) ?_
   rintro _ w6 ⟨rfl,hb6⟩
   have S6:=S5.below hb6
   have hm:(vn r).length <=1000002:=by
     have:(vf r.1).length <=2:=by unfold vf;split;decide;split;decide;decide
     unfold vn;simp;omega
   refine⟨_,rfl,?_⟩
   refine ax (Do (vn r) (by omega) w6 (he.step S6.hb)) ?_
   rintro _ w7 ⟨rfl,hb7⟩
   have S7:=S6.below hb7
   refine⟨_,_,_,_,rfl,?_⟩
   have hR:KT r=(((nU (vn r)).2.2==0)&&((nU (vn r)).2.1&&Hr (nU (vn r)).1 r)):=rfl
   generalize nU (vn r)=x at*
   obtain⟨q,b,e⟩:=x
   simp only at hR
   refine mH.new (zs:=Cn (0,[])) (cs:=Cn q) rfl rfl (EY q) w7 λk8 w8 hk8 h8 hb8=>?_
   have S8:=S7.below hb8
   have h58:=((h5.below hb6).below hb7).below hb8
   refine qC (w:=w8) (KT r) ?_ ?_
   · rw[hR]
     refine ab.of (λc1=>?_) (λc1=>⟨rfl,by simp only at c1;rw[c1];rfl⟩)
     refine ab.of (λc2=>?_) (λc2=>⟨rfl,by simp only at c1 c2;rw[c1,c2];rfl⟩)
     refine⟨_,_,mH.load0 h8 rfl,_,_,mH.load0 h58 rfl,_,PG q r w8,rfl,?_⟩
     simp only at c1 c2;rw[c1,c2];rfl
   · refine ab.of (λc1=>?_) (λc1=>?_)
     · have g:=Mc c1
       refine⟨_,_,mH.load0 h58 rfl,?_⟩
       refine ax (BV he S8 r ?_ g.len hps (by omega)) ?_
       · rcases g.kind with e|e|e
         · exact⟨1,e,by decide⟩
         · exact⟨2,e,by decide⟩
         · exact⟨3,e,by decide⟩
       rintro _ w9' ⟨rfl,a',n',c',ps',kvs',es',S9,hps'⟩
       refine⟨rfl,rs.length-(k+1),by omega,k+1,by omega,by rw[wrap_i64 (by omega) (by omega)];omega,rfl,a',n',c',ps',kvs',es',?_,by omega⟩
       rw[htake,if_pos c1];exact S9
     · refine⟨rs.length-(k+1),by omega,k+1,by omega,by rw[wrap_i64 (by omega) (by omega)];omega,rfl,a,n,c,ps,kvs,es,?_,by omega⟩
       rw[htake,if_neg (by rw[c1];decide),List.append_nil];exact S8
 · have:k=rs.length:=by omega
   subst this
   rw[List.take_length]at S1
   exact⟨_,_,_,_,_,_,_,_,rfl,S1⟩
theorem mP {w0:World}(he:Env w0){kt km:Nat}{a:Option Addr}{n c:Nat}{ps:List Pth}{kvs:List (ia×Int)}{es:List (List Bool)}{rs:List Rul}{w:World}(S:iU w0 aO aZ kt km a n c ps kvs es rs w){h:Hst}(oh:h.ok)(hn:h.name.length <=1000000000):
   Cf dJ #[.pointer (some ⟨kt,0,none⟩),h.v] w (Ret λv w'=>v=vI ((BU rs (aC h).reverse:Nat):Int)/\bW w w'):=by
 apply mC
 intro k3 w3 hk3 hw3
 have hB3:=(hw3▸ai w _:bW w w3)
 have h3:am w3 k3 ae h.cells:=am.new hk3 hw3
 refine⟨_,aY.load0 h3 (Hst.len oh),?_⟩
 refine ax (eW oh hn w3 (he.step (S.below hB3).hb)) ?_
 rintro _ w4 ⟨aL,lL,cL,rfl,ho,-,hb4⟩
 have hB4:=aa hB3 hb4 hB3.size
 have hll:=jX h
 generalize aC h=L at*
 have hnL:=ho.len
 subst hnL
 have hRlen:L.reverse.length=L.length:=List.length_reverse
 refine⟨_,_,_,rfl,_,run_min_int2 _ _ _ _ _ _ _,?_⟩
 have hn5:=S.h3.len
 subst hn5
 have hel:=S.t.len
 refine⟨λm e w'=>∃mm ee:Nat,m=(mm:Int)/\e=(ee:Int)/\(if 0<ee then ee else mm)=BU rs L.reverse/\bW w w',?_,?_⟩
 · refine⟨λm nd mo ex i w'=>∃k node mm ee:Nat,k <=L.length/\i=(k:Int)+1/\m=L.length-k/\nd=(node:Int)/\mo=(mm:Int)/\ex=(ee:Int)/\yA (L.reverse.take k) ps 0=some node/\(L=[]->mm=0)/\(L≠[]->Top 1 (jx rs L.reverse k (k-1)) mm)/\mm <=k+1/\Top 0 (eX rs L.reverse k) ee/\ee <=k/\bW w4 w',?_,?_⟩
   · refine⟨_,0,0,(if L=[]then 0 else 1),0,by omega,rfl,rfl,rfl,?_,rfl,S.T.first 0 [] S.T.root,λe=>if_pos e,λe=>?_,?_,?_,Nat.le_refl _,Below.refl _ _⟩
     · by_cases e:L=[]
       · subst e;rfl
       · rw[if_neg e,if_neg (by have:=List.length_pos_iff.2 e;omega)];rfl
     · rw[if_neg e]
       exact(Top.zero 1).congr λx=>⟨λh=>h.elim,λ⟨r,_,_,h⟩=>by have:=Bz (r:=r);omega⟩
     · split <;> omega
     · exact(Top.zero 0).congr λx=>⟨λh=>h.elim,λ⟨r,_,_,h⟩=>by have:=Bz (r:=r);omega⟩
   intro m nd mo ex i
   refine aX.of ?_ _
   rintro w5 ⟨k,node,mm,ee,hk,rfl,rfl,rfl,rfl,rfl,hpos,hmz,hmt,hmm,het,hee,hb5⟩
   have hB5:=aa hB4 hb5 hB4.size
   have S5:=S.below hB5
   have ho5:=ho.below hb5
   simp only[wu]
   refine ab.of (λhc=>?_) (λhc=>?_) <;> simp only[dTx,dFx]at hc
   · have hlt:k<L.length:=by omega
     have hne:L≠[]:=λe=>by rw[e]at hlt;cases hlt
     have pn:=(ly hpos).2
     rw[Nat.sub_zero]at pn
     have hnl:node<es.length:=by rw[hel];exact(List.getElem?_eq_some_iff.1 pn).1
     have mget:∀(nd:Nat) (p:Pth) (hnd:nd<es.length),ps[nd]? =some p->∀(j:Nat),j<4->∀(vs:List Value),tB4.rep w5 tV vs es[nd]->vs[j]? =some (.bool (rs.any λr=>decide (r.1=(j:Int)/\eZ r=p))):=λnd p hnd hp j hj vs hvs=>by
       have hrow:=S.t.mark nd p hp
       rw[List.getElem?_eq_getElem hnd]at hrow
       have hvs:vs=es[nd].map Value.bool/\es[nd].length=4:=hvs
       rw[hvs.1,Option.some.inj hrow,List.getElem?_map,xw _ _ _ hj];rfl
     have hsome:=S5.h3.all.isSome hnl
     have hel2:∀x:Int,Option.isSome (an a x 4)=true:=λx=>by
       cases a with
       | none=>cases hsome
       | some x=>rfl
     have T2:=JO (rs:=rs) (R:=L.reverse) (k:=k) (by rw[hRlen];exact hk) (hmt hne) hmm
     have hmm2:(if(rs.any λr=>decide (r.1=((2:Nat):Int)/\eZ r=L.reverse.take k))=true then k+1 else mm) <=k+1:=by split <;> omega
     refine⟨λn7 w'=>w'=w5/\n7=(((if(rs.any λr=>decide (r.1=((2:Nat):Int)/\eZ r=L.reverse.take k))=true then k+1 else mm):Nat):Int),?_,?_⟩
     · refine⟨rfl,rfl,_,_,_,S5.h1.load1 dB rfl rfl,⟨⟨by omega,by omega⟩,hsome⟩,⟨⟨by decide,by decide⟩,hel2 _⟩,_,S5.h3.all.loadC (P:=prog) cE rfl (k:=4) rfl (i:=node) (j:=2) hnl (by decide) (mget node _ hnl pn 2 (by decide)),?_⟩
       exact ab.of (λc=>⟨rfl,by rw[if_pos c];rfl⟩) (λc=>⟨rfl,by rw[if_neg (by rw[c];decide)]⟩)
     intro n7
     refine aX.of ?_ _
     rintro w6 ⟨hw6,rfl⟩
     rw[hw6];clear hw6
     generalize (if(rs.any λr=>decide (r.1=((2:Nat):Int)/\eZ r=L.reverse.take k))=true then k+1 else mm)=mm2 at*
     have ei:i64.wrap (((L.length:Nat):Int)-((k:Int)+1))=((L.length-1-k:Nat):Int):=by rw[wrap_i64 (by omega) (by omega)];omega
     try dsimp only
     rw[ei]
     have hRk:L.reverse.take (k+1)=L.reverse.take k++[L[L.length-1-k]'(by omega)]:=by
       rw[List.take_succ_eq_append_getElem (by simpa using hlt),List.getElem_reverse]
     refine⟨rfl,rfl,_,λu hu=>(S5.h1.below hu).load1 bh rfl rfl,⟨⟨by omega,by omega⟩,ho5.all.isSome (by omega)⟩,_,λu hu=>(ho5.below hu).all.text aw (i:=L.length-1-k) (show L.length-1-k<L.length by omega),?_⟩
     generalize L[L.length-1-k]'(by omega)=lab at*
     have hedge:=S5.T.edge node lab
     rw[pn]at hedge
     simp only at hedge
     cases hq:yA (L.reverse.take k++[lab]) ps 0 with
     | none=>
       rw[hq]at hedge
       refine⟨0,false,λu hu=>?_,λwq hwq=>ab.yes rfl ⟨mm2,ee,rfl,rfl,?_,aa hB5 hwq hB5.size⟩⟩
       · have:=(S5.h2.below hu).look2 (P:=prog) bh pm iO ((node:Int),lab)
         rw[hedge]at this;exact this
       · have hno:L.reverse.take (k+1) ∉ ps:=by rw[hRk];exact lw.1 hq
         obtain⟨s1,s2⟩:=JN S.T S.t (R:=L.reverse) (k:=k) (by rw[hRlen];exact hlt) hno
         have e1:mm2=PY rs L.reverse:=Top.eq (T2.congr s1) (FG rs L.reverse)
         have e2:ee=O8 rs L.reverse:=Top.eq (het.congr s2) (FF rs L.reverse)
         unfold BU
         rw[if_neg (λhx=>hne (List.reverse_eq_nil_iff.1 hx)),e1,e2]
     | some i2=>
       rw[hq]at hedge
       refine⟨(i2:Int),true,λu hu=>?_,λwq hwq=>ab.no rfl ?_⟩
       · have:=(S5.h2.below hu).look2 (P:=prog) bh pm iO ((node:Int),lab)
         rw[hedge]at this;exact this
       have pn2:=(ly hq).2
       rw[Nat.sub_zero]at pn2
       have hnl2:i2<es.length:=by rw[hel];exact(List.getElem?_eq_some_iff.1 pn2).1
       have S6:=S5.below hwq
       rw[<- hRk]at pn2 hq
       have T3:=JM (rs:=rs) (R:=L.reverse) (k:=k) (by rw[hRlen];exact hlt) T2 hmm2
       have E3:=Et (rs:=rs) (R:=L.reverse) (k:=k) (by rw[hRlen];exact hlt) het hee
       have hmm3:(if(rs.any λr=>decide (r.1=((1:Nat):Int)/\eZ r=L.reverse.take (k+1)))=true then k+1 else mm2) <=k+1:=by split <;> omega
       have hee3:(if(rs.any λr=>decide (r.1=((3:Nat):Int)/\eZ r=L.reverse.take (k+1)))=true then k else ee) <=k+1:=by split <;> omega
       refine⟨λn7 w'=>w'=wq/\n7=(((if(rs.any λr=>decide (r.1=((1:Nat):Int)/\eZ r=L.reverse.take (k+1)))=true then k+1 else mm2):Nat):Int),?_,?_⟩
       · refine⟨rfl,rfl,_,_,_,S6.h1.load1 dB rfl rfl,⟨⟨by omega,by omega⟩,hsome⟩,⟨⟨by decide,by decide⟩,hel2 _⟩,_,S6.h3.all.loadC (P:=prog) cE rfl (k:=4) rfl (i:=i2) (j:=1) hnl2 (by decide) (mget i2 _ hnl2 pn2 1 (by decide)),?_⟩
         exact ab.of (λc=>⟨rfl,by rw[if_pos c];rfl⟩) (λc=>⟨rfl,by rw[if_neg (by rw[c];decide)]⟩)
       intro n7
       refine aX.of ?_ _
       rintro w7 ⟨hw7,rfl⟩
       rw[hw7];clear hw7
       have next:∀ee2:Nat,ee2=(if(rs.any λr=>decide (r.1=((3:Nat):Int)/\eZ r=L.reverse.take (k+1)))=true then k else ee)->∃m':Nat,m'<L.length-k/\∃k' node' mm' ee':Nat,k' <=L.length/\i64.wrap ((k:Int)+1+1)=(k':Int)+1/\m'=L.length-k'/\(i2:Int)=(node':Int)/\(((if(rs.any λr=>decide (r.1=((1:Nat):Int)/\eZ r=L.reverse.take (k+1)))=true then k+1 else mm2):Nat):Int)=(mm':Int)/\(ee2:Int)=(ee':Int)/\yA (L.reverse.take k') ps 0=some node'/\(L=[]->mm'=0)/\(L≠[]->Top 1 (jx rs L.reverse k' (k'-1)) mm')/\mm' <=k'+1/\Top 0 (eX rs L.reverse k') ee'/\ee' <=k'/\bW w4 wq:=λee2 he2=>by
         refine⟨L.length-(k+1),by omega,k+1,i2,_,ee2,by omega,by rw[wrap_i64 (by omega) (by omega)];omega,rfl,rfl,rfl,rfl,hq,λe=>absurd e hne,λ_=>T3,by omega,by rw[he2];exact E3,by rw[he2];exact hee3,aa hb5 hwq hb5.size⟩
       refine⟨rfl,rfl,_,_,_,S6.h1.load1 dB rfl rfl,⟨⟨by omega,by omega⟩,hsome⟩,⟨⟨by decide,by decide⟩,hel2 _⟩,_,S6.h3.all.loadC (P:=prog) cE rfl (k:=4) rfl (i:=i2) (j:=3) hnl2 (by decide) (mget i2 _ hnl2 pn2 3 (by decide)),?_⟩
       refine ab.of (λc=>?_) (λc=>?_)
       · have e:i64.wrap ((k:Int)+1-1)=(k:Int):=by rw[wrap_i64 (by omega) (by omega)];omega
         try dsimp only
         rw[e]
         exact next k (by rw[if_pos c])
       · exact next ee (by rw[if_neg (by rw[c];decide)])
   · have:k=L.length:=by omega
     subst this
     refine⟨mm,ee,rfl,rfl,?_,hB5⟩
     by_cases e:L=[]
     · subst e
       have:=hmz rfl
       simp only[List.length_nil]at hee
       have:ee=0:=by omega
       subst this
       unfold BU
       simp[hmz rfl]
     · have hm:=hmt e
       have e1:mm=PY rs L.reverse:=Top.eq hm (by have:=FG rs L.reverse;rw[hRlen]at this;exact this)
       have e2:ee=O8 rs L.reverse:=Top.eq het (by have:=FF rs L.reverse;rw[hRlen]at this;exact this)
       unfold BU
       rw[if_neg (λhx=>e (List.reverse_eq_nil_iff.1 hx)),e1,e2]
 · intro mo ex
   refine aX.of ?_ _
   rintro w5 ⟨mm,ee,rfl,rfl,hv,hB5⟩
   refine ab.of (λhc=>⟨?_,hB5⟩) (λhc=>⟨?_,hB5⟩) <;> simp only[gt_iff_lt,dTx,dFx]at hc
   · rw[<- hv,if_pos (by omega)]
   · rw[<- hv,if_neg (by omega)]
theorem mO {w0:World}(he:Env w0){kt km:Nat}{a:Option Addr}{n c:Nat}{ps:List Pth}{kvs:List (ia×Int)}{es:List (List Bool)}{rs:List Rul}{w:World}(S:iU w0 aO aZ kt km a n c ps kvs es rs w){h:Hst}(oh:h.ok)(hn:h.name.length <=1000000000):
   Cf cz #[.pointer (some ⟨kt,0,none⟩),h.v] w (Ret λv w'=>v=.bool (HT rs h)/\bW w w'):=by
 apply mA
 intro k3 w3 hk3 hw3
 have hB3:=(hw3▸ai w _:bW w w3)
 have h3:am w3 k3 ae h.cells:=am.new hk3 hw3
 refine⟨_,aY.load0 h3 (Hst.len oh),?_⟩
 refine ax (eW oh hn w3 (he.step (S.below hB3).hb)) ?_
 rintro _ w4 ⟨aL,lL,cL,rfl,ho,-,hb4⟩
 have hB4:=aa hB3 hb4 hB3.size
 refine⟨_,_,_,rfl,?_⟩
 have hnL:=ho.len
 subst hnL
 unfold HT
 refine ab.of (λhc=>?_) (λhc=>⟨?_,hB4⟩) <;> simp only[gt_iff_lt,dTx,dFx]at hc
 · refine⟨_,aY.load0 (h3.below hb4) (Hst.len oh),?_⟩
   refine ax (mP he (S.below hB4) oh hn) ?_
   rintro _ w5 ⟨rfl,hb5⟩
   refine⟨_,rfl,?_,aa hB4 hb5 hB4.size⟩
   try dsimp only
   rw[decide_eq_true (show 0<(aC h).length by omega),Bool.true_and]
   congr 1
   rw[Bool.eq_iff_iff,beq_iff_eq,beq_iff_eq];omega
 · try dsimp only
   rw[decide_eq_false (show ¬ 0<(aC h).length by omega),Bool.false_and]
def nmL:List (List UInt8):=[[],[78,111,110,101],[76,97,120],[83,116,114,105,99,116]]
def nmV:Value:=.agg (nmL.map λs=>vS s).toArray
def yO (v:List UInt8):Nat->Int
 | 0=>0
 | k+1=>if cF (nmL[k]?.getD [])=cF v then(k:Int)else yO v k
theorem G8 (v:List UInt8):yO v 4=E6 v:=by
 have e0:cF (nmL[0]?.getD [])=[]:=rfl
 have e1:cF (nmL[1]?.getD [])=[110,111,110,101]:=by decide
 have e2:cF (nmL[2]?.getD [])=[108,97,120]:=by decide
 have e3:cF (nmL[3]?.getD [])=[115,116,114,105,99,116]:=by decide
 unfold yO yO yO yO yO E6
 rw[e0,e1,e2,e3]
 generalize cF v=x
 by_cases h1:x=[110,111,110,101]
 · subst h1;rfl
 · by_cases h2:x=[108,97,120]
   · subst h2;rfl
   · by_cases h3:x=[115,116,114,105,99,116]
     · subst h3;rfl
     · rw[if_neg (Ne.symm h3),if_neg (Ne.symm h2),if_neg (Ne.symm h1),if_neg h1,if_neg h2,if_neg h3]
       split <;> rfl
def nameOf (l:List UInt8):List UInt8×List UInt8:=if I6 l then(zM l,tY l)else([],zM l)
def vK (h:Hdr)(x:List UInt8):Hdr:=if(tY x).length <=1024 then wF h (cF (zM x)) (tY x)else h
def co (s:List UInt8):Hdr×Int:=
 if s.any ng=true then(yJ,81)
 else if(nameOf ((dr 59 [] s).headD [])).1++(nameOf ((dr 59 [] s).headD [])).2=[]then(yJ,82)
 else if 4096<(nameOf ((dr 59 [] s).headD [])).1.length+(nameOf ((dr 59 [] s).headD [])).2.length then(yJ,83)
 else(((dr 59 [] s).drop 1).foldl vK { yJ with name:=(nameOf ((dr 59 [] s).headD [])).1,value:=(nameOf ((dr 59 [] s).headD [])).2 },0)
theorem Cv (s:List UInt8):(zM s).length <=s.length:=Nat.le_trans (tO _ _) (ko _ _)
theorem Cu (s:List UInt8):(tY s).length <=s.length:=by
 have h1:=tO tq ((s.dropWhile (· !=61)).drop 1)
 have h2:=(List.dropWhile_sublist (· !=(61:UInt8)) (l:=s)).length_le
 rw[List.length_drop]at h1
 unfold tY trimB;omega
theorem NK (h:Hdr):∀c∈h.v.cells.toList,c.oneCell'=true:=by
 intro c hc
 simp only[Hdr.v,Value.cells,Hdr.cells,List.mem_cons,List.mem_nil_iff,or_false]at hc
 rcases hc with rfl|rfl|rfl|rfl|rfl|rfl|rfl|rfl|rfl|rfl|rfl <;> rfl
theorem CX (h:Hdr){w:World}{k:Nat}{vs:List Value}(ha:am w k aq vs)(hl:vs.length=11):
   ∃wx,(Instr.storeAt aq (.pointer (some ⟨k,0,none⟩)) h.v).run prog w=.ok () wx/\am wx k aq h.cells/\w.grownBy wx (some k):=by
 obtain⟨wx,hs,h2,hg⟩:=ha.store (P:=prog) so (i:=0) (v:=h.v) rfl (by omega) (NK h)
 refine⟨wx,hs,?_,hg⟩
 rw[List.take_zero,List.nil_append,List.drop_eq_nil_of_le (by omega),List.append_nil]at h2
 exact h2
theorem iB (h:Hdr){w:World}{k:Nat}(ha:am w k aq h.cells):(Instr.loadAt aq (.pointer (some ⟨k,0,none⟩))).run prog w=.ok h.v w:=by
 obtain⟨ti,hti,hsz,_,_⟩:=so.info
 cases hu:prog.underlying aq with
 | none=>
           have:(prog.underlying aq).map yz=some true:=by kernel_rfl
           rw[hu]at this;cases this
 | some d=>
   have:(prog.underlying aq).map yz=some true:=by kernel_rfl
   rw[hu]at this
   simp only[Option.map_some,Option.some.injEq]at this
   exact ha.loadA hu this hti (us:=h.cells) (i:=0) (by rw[hsz];rfl) (λj hj=>by rw[Nat.zero_add])
theorem A2 (h:Hdr){w w':World}{k2:Nat}{vs:List Value}(h2:am w' k2 aq vs)(hl:vs.length=11)(hb:bW w w')(hk:w.heap.size <=k2){e:Int}{K:Value->World->Prop}
   (hK:∀wx,bW w wx->K (.tuple #[h.v,vI e]) wx):
   ∃(wx:World),(Instr.storeAt aq (.pointer (some ⟨k2,0,none⟩)) h.v).run prog w'=.ok () wx/\
     ∃(s0:List UInt8) (s1:List UInt8) (s2:List UInt8) (s3:List UInt8) (b4:Bool) (n5:Int) (b6:Bool) (n7:Int) (b8:Bool) (b9:Bool) (n10:Int),
       (bG aq (.pointer (some ⟨k2,0,none⟩))).run prog wx=.ok (.agg #[vS s0,vS s1,vS s2,vS s3,.bool b4,vI n5,.bool b6,vI n7,.bool b8,.bool b9,vI n10]) wx/\
       K (.tuple #[.agg #[vS s0,vS s1,vS s2,vS s3,.bool b4,vI n5,.bool b6,vI n7,.bool b8,.bool b9,vI n10],vI e]) wx:=by
 obtain⟨wx,hs,h3,hg⟩:=CX h h2 hl
 exact⟨wx,hs,h.name,h.value,h.domain,h.path,h.hasE,h.exp,h.hasA,h.age,h.sec,h.http,h.same,am.res (iB h h3),hK wx (hb.grown hg hb.size λx e=>by cases e;exact hk)⟩
theorem jT (w:World):Cf fS #[] w (Ret λv w'=>v=nmV/\bW w w'):=by
 apply vx
 intro k w1 hk hw
 have hB:=(hw▸ai w _:bW w w1)
 have ha:am w1 k cv (List.replicate 4 (vS [])):=am.new hk hw
 obtain⟨wx,hs,h2,hg⟩:=ha.store (P:=prog) qa (i:=0) (v:=nmV) rfl (by decide) (by
   intro c hc
   simp only[nmV,Value.cells]at hc
   obtain⟨s,_,rfl⟩:=List.mem_map.1 (by simpa using hc)
   rfl)
 have h3:am wx k cv (nmL.map λs=>vS s):=h2
 obtain⟨ti,hti,hsz,_,_⟩:=qa.info
 refine⟨wx,hs,_,_,_,_,am.res (h3.loadA zJ rfl hti (us:=nmL.map λs=>vS s) (i:=0) (by rw[hsz];rfl) (λj hj=>by rw[Nat.zero_add])),rfl,hB.grown hg hB.size λx e=>by cases e;omega⟩
theorem FT (w:World):∀k:Nat,k<4->(Instr.index cv nmV (vI (k:Int))).run prog w=.ok (vS (nmL[k]?.getD [])) w
 | 0,_=>by kernel_rfl
 | 1,_=>by kernel_rfl
 | 2,_=>by kernel_rfl
 | 3,_=>by kernel_rfl
 | n+4,h=>by omega
def Fo (k:Nat)(h:Hdr)(w:World)(v:Value)(w':World):Prop:=v=.tuple #[]/\am w' k aq h.cells/\w.grownBy w' (some k)
theorem fm {k:Nat}{h:Hdr}{w w':World}(ha:am w' k aq h.cells)(hg:w.grownBy w' (some k)):Fo k h w (.tuple #[]) w':=⟨rfl,ha,hg⟩
theorem qQ (k:Nat)(h:Hdr)(key value:List UInt8)(hl:value.length <=100000)(w:World)(ha:am w k aq h.cells):
   Cf gI #[.pointer (some ⟨k,0,none⟩),vS key,vS value] w (Ret (Fo k (wF h key value) w)):=by
 apply pJ
 simp only[wu]
 have h0:Option.isSome (some (⟨k,0,none⟩:Addr))=true:=rfl
 have g0:=GV w (some k)
 have bb:∀b:Bool,(Value.bool b).cells= #[Value.bool b]:=λ_=>rfl
 refine ab.of (λh1=>?_) (λh1=>?_)
 · rw[beq_iff_eq]at h1
   refine ax (yG value (by omega) w) ?_
   rintro _ w1 ⟨rfl,hb1⟩
   have ha1:=ha.below hb1
   have hg1:=cX hb1 (some k)
   unfold wF
   rw[if_pos h1]
   unfold CE
   by_cases hc:ta (kY value)
   · rw[if_pos hc,if_pos hc]
     refine⟨_,_,rfl,ab.yes rfl ⟨h0,h0,?_⟩⟩
     obtain⟨w2,hs2,ha2,hg2⟩:=ha1.put (P:=prog) mG (i:=4) (v:=.bool true) (by simp[Hdr.cells]) rfl rfl
     refine⟨w2,hs2,h0,h0,?_⟩
     obtain⟨w3,hs3,ha3,hg3⟩:=ha2.put (P:=prog) sp (i:=5) (v:=vI (gi (kY value))) (by simp[Hdr.cells]) rfl rfl
     exact⟨w3,hs3,fm ha3 (bz (bz hg1 hg2) hg3)⟩
   · rw[if_neg hc,if_neg hc]
     exact⟨_,_,rfl,ab.no rfl (fm ha1 hg1)⟩
 rw[beq_eq_false_iff_ne]at h1
 refine ab.of (λh2=>?_) (λh2=>?_)
 · rw[beq_iff_eq]at h2
   refine ax (A3 value (by omega) w) ?_
   rintro _ w1 ⟨rfl,hb1⟩
   have ha1:=ha.below hb1
   have hg1:=cX hb1 (some k)
   unfold wF
   rw[if_neg h1,if_pos h2]
   unfold PT
   cases MH value with
   | none=>exact⟨_,_,rfl,ab.no rfl (fm ha1 hg1)⟩
   | some n=>
     refine⟨_,_,rfl,ab.yes rfl ⟨h0,h0,?_⟩⟩
     obtain⟨w2,hs2,ha2,hg2⟩:=ha1.put (P:=prog) mG (i:=6) (v:=.bool true) (by simp[Hdr.cells]) rfl rfl
     refine⟨w2,hs2,h0,h0,?_⟩
     obtain⟨w3,hs3,ha3,hg3⟩:=ha2.put (P:=prog) sp (i:=7) (v:=vI n) (by simp[Hdr.cells]) rfl rfl
     exact⟨w3,hs3,fm ha3 (bz (bz hg1 hg2) hg3)⟩
 rw[beq_eq_false_iff_ne]at h2
 refine ab.of (λh3=>?_) (λh3=>?_)
 · rw[beq_iff_eq]at h3
   refine(Tryz.strings_TrimPrefix (mkS value) (mkS [46]) w).mono ?_
   rintro _ _ ⟨rfl,rfl⟩
   have e:Lib.trimPrefix (mkS value).data.toList (mkS [46]).data.toList=if value.head?=some 46 then value.drop 1 else value:=(wh value 46).2
   rw[e]
   refine⟨(if value.head?=some 46 then value.drop 1 else value),rfl,?_⟩
   refine ax (du _ (by split <;> (try rw[List.length_drop]) <;> omega) _) ?_
   rintro _ w1 ⟨rfl,hb1⟩
   refine⟨_,rfl,h0,h0,?_⟩
   have ha1:=ha.below hb1
   obtain⟨w2,hs2,ha2,hg2⟩:=ha1.put (P:=prog) fz (i:=2) (v:=vS (cF (if value.head?=some 46 then value.drop 1 else value))) (by simp[Hdr.cells]) rfl rfl
   refine⟨w2,hs2,fm ?_ (bz (cX hb1 (some k)) hg2)⟩
   unfold wF
   rw[if_neg h1,if_neg h2,if_pos h3];exact ha2
 rw[beq_eq_false_iff_ne]at h3
 refine ab.of (λh4=>?_) (λh4=>?_)
 · rw[beq_iff_eq]at h4
   refine⟨h0,h0,?_⟩
   obtain⟨w2,hs2,ha2,hg2⟩:=ha.put (P:=prog) fz (i:=3) (v:=vS []) (by simp[Hdr.cells]) rfl rfl
   refine⟨w2,hs2,?_⟩
   refine(Tryz.strings_HasPrefix (mkS value) (mkS [47]) w2).mono ?_
   rintro _ _ ⟨rfl,rfl⟩
   have e:Lib.hasPrefix (mkS value).data.toList (mkS [47]).data.toList=decide (value.head?=some 47):=(wh value 47).1
   rw[e]
   refine⟨_,rfl,?_⟩
   unfold wF
   rw[if_neg h1,if_neg h2,if_neg h3,if_pos h4]
   refine ab.of (λh5=>?_) (λh5=>?_) <;> simp only[dTx,dFx]at h5
   · refine⟨h0,h0,?_⟩
     obtain⟨w3,hs3,ha3,hg3⟩:=ha2.put (P:=prog) fz (i:=3) (v:=vS value) (by simp[Hdr.cells]) rfl rfl
     refine⟨w3,hs3,fm ?_ (bz hg2 hg3)⟩
     rw[if_pos h5];exact ha3
   · rw[if_neg h5];exact fm ha2 hg2
 rw[beq_eq_false_iff_ne]at h4
 refine ab.of (λh5=>?_) (λh5=>?_)
 · rw[beq_iff_eq]at h5
   refine⟨h0,h0,?_⟩
   obtain⟨w2,hs2,ha2,hg2⟩:=ha.put (P:=prog) mG (i:=8) (v:=.bool true) (by simp[Hdr.cells]) rfl rfl
   refine⟨w2,hs2,fm ?_ hg2⟩
   unfold wF
   rw[if_neg h1,if_neg h2,if_neg h3,if_neg h4,if_pos h5];exact ha2
 rw[beq_eq_false_iff_ne]at h5
 refine ab.of (λh6=>?_) (λh6=>?_)
 · rw[beq_iff_eq]at h6
   refine⟨h0,h0,?_⟩
   obtain⟨w2,hs2,ha2,hg2⟩:=ha.put (P:=prog) mG (i:=9) (v:=.bool true) (by simp[Hdr.cells]) rfl rfl
   refine⟨w2,hs2,fm ?_ hg2⟩
   unfold wF
   rw[if_neg h1,if_neg h2,if_neg h3,if_neg h4,if_neg h5,if_pos h6];exact ha2
 rw[beq_eq_false_iff_ne]at h6
 unfold wF
 rw[if_neg h1,if_neg h2,if_neg h3,if_neg h4,if_neg h5,if_neg h6]
 refine ab.of (λh7=>?_) (λh7=>?_)
 · rw[beq_iff_eq]at h7
   rw[if_pos h7]
   refine⟨h0,h0,?_⟩
   obtain⟨w2,hs2,ha2,hg2⟩:=ha.put (P:=prog) iO (i:=10) (v:=vI 0) (by simp[Hdr.cells]) rfl rfl
   refine⟨w2,hs2,?_⟩
   refine ax (jT w2) ?_
   rintro _ w3 ⟨rfl,hb3⟩
   refine⟨_,_,_,_,rfl,?_⟩
   refine⟨λm i w'=>∃j:Nat,j <=4/\i=(j:Int)/\m=4-j/\am w' k aq ({ h with same:=yO value j } :Hdr).cells/\w.grownBy w' (some k),
     ⟨_,0,by omega,rfl,rfl,ha2.below hb3,bz hg2 (cX hb3 _)⟩,?_⟩
   intro m i
   refine aX.of ?_ _
   rintro w4 ⟨j,hj,rfl,rfl,ha4,hg4⟩
   refine ab.of (λh8=>?_) (λh8=>?_) <;> simp only[dTx,dFx]at h8
   · have hj4:j<4:=by omega
     have ew:i64.wrap ((j:Int)+1)=((j+1:Nat):Int):=by rw[wrap_i64 (by omega) (by omega)];omega
     try dsimp only
     rw[ew]
     have hnl:(nmL[j]?.getD []).length <=6:=by
       have:∀j,j<4->(nmL[j]?.getD []).length <=6:=by decide
       exact this j hj4
     refine⟨_,FT w4 j hj4,?_⟩
     refine ax (mv _ value (by omega) (by omega) w4) ?_
     rintro _ w5 ⟨rfl,hb5⟩
     have ha5:=ha4.below hb5
     have hg5:=bz hg4 (cX hb5 (some k))
     refine⟨_,rfl,?_⟩
     have el:yO value (j+1)=if cF (nmL[j]?.getD [])=cF value then(j:Int)else yO value j:=rfl
     refine ab.of (λh9=>?_) (λh9=>?_)
     · rw[beq_iff_eq]at h9
       rw[if_pos h9]at el
       refine⟨h0,h0,?_⟩
       obtain⟨w6,hs6,ha6,hg6⟩:=ha5.put (P:=prog) iO (i:=10) (v:=vI (j:Int)) (by simp[Hdr.cells]) rfl rfl
       refine⟨w6,hs6,4-(j+1),by omega,j+1,by omega,rfl,rfl,?_,bz hg5 hg6⟩
       rw[el];exact ha6
     · rw[beq_eq_false_iff_ne]at h9
       rw[if_neg h9]at el
       refine⟨4-(j+1),by omega,j+1,by omega,rfl,rfl,?_,hg5⟩
       rw[el];exact ha5
   · have:j=4:=by omega
     subst this
     rw[G8]at ha4
     exact fm ha4 hg4
 · rw[beq_eq_false_iff_ne]at h7
   rw[if_neg h7]
   exact fm ha g0
end Go.Pk
