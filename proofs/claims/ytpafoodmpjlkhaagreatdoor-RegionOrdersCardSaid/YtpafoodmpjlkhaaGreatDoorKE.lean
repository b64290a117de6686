/- What the laws lean on: DfaP, DaM, Chg, Hep, DaA, Make, Rep, DfaQ, DfaR, DaB, DaC, V30, SymA, SymB, SymC; what is used. Its conditions: none. -/
import Derived.Test.YtpafoodmpjlkhaaGreatDoorKD
import Derived.Deep.OwnRows
set_option linter.unusedVariables false
set_option linter.unusedSimpArgs false
set_option linter.unusedSectionVars false
set_option maxRecDepth 100000
open Go.IntKind (i64)
open Go.Proofs.Tryz
open List (length)
open Option (isSome)
namespace Go.Pk
open Go.RowKit (Below)
open Go.Proofs
structure DA where
 k:Int
 st:Int
 nx:List Int
 ac:List Bool
structure DA.Ok (d:DA):Prop where
 k1:1 <=d.k
 k2:d.k <=512
 n1:1 <=d.ac.length
 n2:d.ac.length <=65536
 len:(d.nx.length:Int)=(d.ac.length:Int)*d.k
 s0:0 <=d.st
 s1:d.st<(d.ac.length:Int)
 nx0:∀x∈d.nx,0 <=x/\x<(d.ac.length:Int)
abbrev DA.n (d:DA):Nat:=d.ac.length
abbrev DA.K (d:DA):Nat:=d.k.toNat
abbrev DA.s (d:DA):Nat:=d.st.toNat
def DA.to (d:DA)(s x:Nat):Nat:=(d.nx.getD (s*d.K+x) 0).toNat
def DA.run (d:DA):Nat->List Nat->Nat
 | s,[]=>s
 | s,x::w=>d.run (d.to s x) w
def DA.acc (d:DA)(s:Nat):Bool:=d.ac.getD s false
def DA.Lang (d:DA)(s:Nat)(w:List Nat):Prop:=(∀x∈w,x<d.K)/\d.acc (d.run s w)=true
theorem DA.Ok.kk {d:DA}(h:d.Ok):(d.K:Int)=d.k:=by have:=h.k1;show((d.k.toNat:Nat):Int)=d.k;omega
theorem DA.Ok.lenN {d:DA}(h:d.Ok):d.nx.length=d.n*d.K:=by
 have h1:=h.len
 rw[<- h.kk,<- Int.natCast_mul]at h1
 exact Int.ofNat.inj h1
theorem ud {s x n K:Nat}(hs:s<n)(hx:x<K):s*K+x<n*K:=by
 have:(s+1)*K <=n*K:=Nat.mul_le_mul_right _ hs
 rw[Nat.succ_mul]at this
 omega
theorem DA.Ok.at {d:DA}(h:d.Ok){s x:Nat}(hs:s<d.n)(hx:x<d.K):∃v,d.nx[s*d.K+x]? =some v/\0 <=v/\v<(d.n:Int)/\d.to s x=v.toNat:=by
 have hi:s*d.K+x<d.nx.length:=by rw[h.lenN];exact ud hs hx
 refine⟨d.nx[s*d.K+x],List.getElem?_eq_getElem hi,(h.nx0 _ (List.getElem_mem hi)).1,(h.nx0 _ (List.getElem_mem hi)).2,?_⟩
 unfold DA.to
 rw[List.getD_eq_getElem?_getD,List.getElem?_eq_getElem hi];rfl
theorem DA.Ok.to_lt {d:DA}(h:d.Ok){s x:Nat}(hs:s<d.n)(hx:x<d.K):d.to s x<d.n:=by
 obtain⟨v,_,h1,h2,e⟩:=h.at hs hx
 rw[e];omega
theorem DA.Ok.s_lt {d:DA}(h:d.Ok):d.s<d.n:=by have:=h.s0;have:=h.s1;show d.st.toNat<d.ac.length;omega
theorem DA.Ok.run_lt {d:DA}(h:d.Ok):∀{w:List Nat} {s:Nat},s<d.n->(∀x∈w,x<d.K)->d.run s w<d.n
 | [],s,hs,_=>hs
 | x::w,s,hs,hw=>by
   show d.run (d.to s x) w<d.n
   exact h.run_lt (h.to_lt hs (hw x List.mem_cons_self)) λy hy=>hw y (List.mem_cons_of_mem _ hy)
theorem DA.Lang.cons {d:DA}{s x:Nat}{w:List Nat} :d.Lang s (x::w) ↔ x<d.K/\d.Lang (d.to s x) w:=by
 unfold DA.Lang
 simp only[List.mem_cons,forall_eq_or_imp,DA.run]
 exact and_assoc
theorem DA.Lang.nil {d:DA}{s:Nat} :d.Lang s [] ↔ d.acc s=true:=by simp[DA.Lang,DA.run]
theorem oA (d:DA):∀(u v:List Nat) (s:Nat),d.run s (u++v)=d.run (d.run s u) v
 | [],_,_=>rfl
 | x::u,v,s=>oA d u v (d.to s x)
def cAt (cs:List Int)(x:Nat):Int:=cs.getD x 0
def fL (cs:List Int):List Nat->Int
 | []=>0
 | x::w=>cAt cs x+fL cs w
abbrev INF:Int:=9223372036854775807
theorem Aq:INF=9223372036854775807:=rfl
def oAt (out:List Int)(s:Nat):Int:=out.getD s 0
def wM (cs:List Int):Prop:=∀c∈cs,1 <=c/\c <=1048576
theorem wM.at {cs:List Int}(h:wM cs){x:Nat}(hx:x<cs.length):1 <=cAt cs x/\cAt cs x <=1048576:=by
 unfold cAt
 rw[List.getD_eq_getElem?_getD,List.getElem?_eq_getElem hx]
 exact h _ (List.getElem_mem hx)
theorem eU {out:List Int}{s:Nat}(h:s<out.length)(v:Int):oAt (out.set s v) s=v:=by simp[oAt,List.getD_eq_getElem?_getD,h]
theorem dw {out:List Int}{s t:Nat}(h:s≠t)(v:Int):oAt (out.set s v) t=oAt out t:=by simp[oAt,List.getD_eq_getElem?_getD,List.getElem?_set_ne h]
structure vH (d:DA)(cs out:List Int):Prop where
 len:out.length=d.n
 lo:∀s,s<d.n->0 <=oAt out s/\oAt out s <=INF
 acc0:∀s,s<d.n->d.acc s=true->oAt out s=0
 sound:∀s,s<d.n->oAt out s≠INF->∃w,d.Lang s w/\fL cs w=oAt out s
 step:∀s x,s<d.n->x<d.K->oAt out (d.to s x)≠INF->oAt out s≠INF/\oAt out s <=oAt out (d.to s x)+cAt cs x
 most:∀s,s<d.n->oAt out s≠INF->oAt out s <=68719476736
theorem vH.le {d:DA}{cs out:List Int}(h:vH d cs out)(hd:d.Ok):∀{w:List Nat} {s:Nat},s<d.n->d.Lang s w->oAt out s≠INF/\oAt out s <=fL cs w
 | [],s,hs,hw=>by
   rw[h.acc0 s hs (DA.Lang.nil.1 hw)]
   exact⟨by decide,by simp[fL]⟩
 | x::w,s,hs,hw=>by
   obtain⟨hx,hw'⟩:=DA.Lang.cons.1 hw
   obtain⟨h1,h2⟩:=h.le hd (hd.to_lt hs hx) hw'
   obtain⟨h3,h4⟩:=h.step s x hs hx h1
   exact⟨h3,by simp only[fL];omega⟩
def Dg:List Nat->List Nat->Prop
 | a::u,b::v=>a<b\/a=b/\Dg u v
 | _,_=>False
def FR (d:DA)(cs out:List Int)(s x:Nat):Prop:=oAt out (d.to s x)<INF/\oAt out (d.to s x)+cAt cs x=oAt out s
inductive Gr (d:DA)(cs out:List Int):Nat->List Nat->Nat->Prop
 | nil (s:Nat):Gr d cs out s [] s
 | cons {s x t:Nat} {w:List Nat} :x<d.K->0<oAt out s->FR d cs out s x->(∀y,y<x-> ¬ FR d cs out s y)->Gr d cs out (d.to s x) w t->Gr d cs out s (x::w) t
theorem Gr.snoc {d:DA}{cs out:List Int}{s t x:Nat}{w:List Nat}(h:Gr d cs out s w t)(hx:x<d.K)(h0:0<oAt out t)(hk:FR d cs out t x)(hl:∀y,y<x-> ¬ FR d cs out t y):Gr d cs out s (w++[x]) (d.to t x):=by
 induction h with
 | nil s=>exact .cons hx h0 hk hl (.nil _)
 | cons a b c e _ ih=>exact .cons a b c e (ih h0 hk hl)
theorem Gr.lt {d:DA}{cs out:List Int}(hd:d.Ok){s t:Nat}{w:List Nat}(h:Gr d cs out s w t)(hs:s<d.n):t<d.n:=by
 induction h with
 | nil s=>exact hs
 | cons a b c e _ ih=>exact ih (hd.to_lt hs a)
theorem vH.next {d:DA}{cs out:List Int}(h:vH d cs out)(hd:d.Ok)(hc:wM cs)(hk:cs.length=d.K){s:Nat}(hs:s<d.n)(h0:oAt out s≠INF)(h1:0<oAt out s):∃x,x<d.K/\FR d cs out s x:=by
 obtain⟨w,hw,e⟩:=h.sound s hs h0
 cases w with
 | nil=>rw[<- e]at h1;simp[fL]at h1
 | cons x w=>
   obtain⟨hx,hw'⟩:=DA.Lang.cons.1 hw
   have ht:=hd.to_lt hs hx
   obtain⟨h2,h3⟩:=h.le hd ht hw'
   obtain⟨h4,h5⟩:=h.step s x hs hx h2
   simp only[fL]at e
   have:=(h.lo _ ht).2
   exact⟨x,hx,by omega,by omega⟩
theorem Gr.law {d:DA}{cs out:List Int}(h:vH d cs out)(hd:d.Ok)(hc:wM cs)(hk:cs.length=d.K){s t:Nat}{w:List Nat}(hg:Gr d cs out s w t)(hs:s<d.n)(h0:oAt out s≠INF)(ht:oAt out t=0):
   d.Lang s w/\fL cs w=oAt out s/\∀v,d.Lang s v->fL cs w<fL cs v\/fL cs v=fL cs w/\(v=w\/Dg w v):=by
 induction hg with
 | nil s=>
   obtain⟨w,hw,e⟩:=h.sound s hs h0
   have hw0:w=[]:=by
     cases w with
     | nil=>rfl
     | cons x w=>
       obtain⟨hx,hw'⟩:=DA.Lang.cons.1 hw
       have h2:=(h.le hd (hd.to_lt hs hx) hw').2
       have h3:=(h.lo _ (hd.to_lt hs hx)).1
       have h4:=(hc.at (x:=x) (by omega)).1
       simp only[fL]at e
       omega
   subst hw0
   refine⟨hw,by simp[fL,ht],λv hv=>?_⟩
   cases v with
   | nil=>exact .inr ⟨rfl,.inl rfl⟩
   | cons x v=>
     obtain⟨hx,hv'⟩:=DA.Lang.cons.1 hv
     have h2:=(h.le hd (hd.to_lt hs hx) hv').2
     have h3:=(h.lo _ (hd.to_lt hs hx)).1
     have h4:=(hc.at (x:=x) (by omega)).1
     left
     simp only[fL]
     omega
 | @cons s x t w hx hp hok hl hg ih=>
   have hs':=hd.to_lt hs hx
   obtain⟨i1,i2,i3⟩:=ih hs' (by have:=hok.1;omega) ht
   refine⟨DA.Lang.cons.2 ⟨hx,i1⟩,by simp only[fL];rw[i2];have:=hok.2;omega,λv hv=>?_⟩
   have e0:fL cs (x::w)=oAt out s:=by simp only[fL];rw[i2];have:=hok.2;omega
   rw[e0]
   cases v with
   | nil=>
     have:=(h.acc0 s hs (DA.Lang.nil.1 hv))
     omega
   | cons y v=>
     obtain⟨hy,hv'⟩:=DA.Lang.cons.1 hv
     obtain⟨h2,h3⟩:=h.le hd (hd.to_lt hs hy) hv'
     obtain⟨h4,h5⟩:=h.step s y hs hy h2
     have e1:fL cs (y::v)=cAt cs y+fL cs v:=rfl
     by_cases hlt:oAt out s<fL cs (y::v)
     · exact .inl hlt
     · right
       have hlo:=(h.lo _ (hd.to_lt hs hy)).2
       have hoky:FR d cs out s y:=⟨by omega,by omega⟩
       refine⟨by omega,?_⟩
       rcases Nat.lt_trichotomy x y with hxy|hxy|hxy
       · exact .inr (.inl hxy)
       · subst hxy
         rcases i3 v hv' with h6|⟨h6,h7⟩
         · omega
         · rcases h7 with h7|h7
           · exact .inl (by rw[h7])
           · exact .inr (.inr ⟨rfl,h7⟩)
       · exact absurd hoky (hl y hxy)
theorem yC:∀{u v:List Nat},Dg u v-> ¬ Dg v u
 | [],_,h,_=>h
 | _::_,[],h,_=>h
 | a::u,b::v,h,k=>by
   rcases h with h|⟨h,h'⟩ <;> rcases k with k|⟨k,k'⟩ <;> first|omega|exact yC h' k'
def vK (cs:List Int)(L:List Nat->Prop)(w:List Nat):Prop:=L w/\∀v,L v->fL cs w<fL cs v\/fL cs v=fL cs w/\(v=w\/Dg w v)
theorem vK.one {cs:List Int}{L:List Nat->Prop}{w v:List Nat}(h:vK cs L w)(k:vK cs L v):w=v:=by
 rcases h.2 v k.1 with h1|⟨h1,h1'|h1'⟩ <;> rcases k.2 w h.1 with h2|⟨h2,h2'|h2'⟩
 all_goals first
   | exact h1'.symm
   | exact h2'
   | (exfalso;omega)
   | exact absurd h2' (yC h1')
theorem vK.congr {cs:List Int}{L L':List Nat->Prop}{w:List Nat}(h:vK cs L w)(e:∀v,L v ↔ L' v):vK cs L' w:=⟨(e _).1 h.1,λv hv=>h.2 v ((e _).2 hv)⟩
def OR (d:DA)(cs out:List Int)(s:Nat):Prop:=∀f x,f<d.n->x<d.K->d.to f x=s->oAt out f <=oAt out s+cAt cs x
def Bnd (d:DA)(C:Int)(out:List Int)(s:Nat):Prop:=∃p:List Nat,(s::p).Nodup/\(∀t∈p,t<d.n/\oAt out t<oAt out s)/\oAt out s <=(p.length:Int)*C
structure Nk (cs:List Int)(C:Int):Prop where
 lo:1 <=C
 hi:C <=1048576
 all:∀x,x<cs.length->cAt cs x <=C
structure M9 (d:DA)(cs:List Int)(C:Int)(out:List Int):Prop where
 len:out.length=d.n
 lo:∀s,s<d.n->0 <=oAt out s/\oAt out s <=INF
 acc0:∀s,s<d.n->d.acc s=true->oAt out s=0
 sound:∀s,s<d.n->oAt out s≠INF->∃w,d.Lang s w/\fL cs w=oAt out s
 bnd:∀s,s<d.n->oAt out s≠INF->Bnd d C out s
abbrev Hp:=List (Int×Nat)
def HIn (d:DA)(out:List Int)(H:Hp):Prop:=∀p∈H,p.2<d.n/\oAt out p.2 <=p.1/\p.1 <=68719476736
def Nb (d:DA)(cs out:List Int)(H:Hp)(s:Nat):Prop:=oAt out s≠INF->(oAt out s,s)∈H\/OR d cs out s
theorem pY:∀{n:Nat} {l:List Nat},l.Nodup->(∀x∈l,x<n)->l.length <=n:=by
 intro n
 induction n with
 | zero=>
   intro l _ h
   cases l with
   | nil=>exact Nat.le_refl _
   | cons x l=>exact absurd (h x List.mem_cons_self) (Nat.not_lt_zero _)
 | succ n ih=>
   intro l hn h
   have h1:(l.filter λx=>decide (x≠n)).length <=n:=by
     refine ih (hn.filter _) λx hx=>?_
     obtain⟨hx,hne⟩:=List.mem_filter.1 hx
     have:=h x hx
     have:x≠n:=by simpa using hne
     omega
   have h2:l.length <=(l.filter λx=>decide (x≠n)).length+1:=by
     clear ih h h1
     induction l with
     | nil=>exact Nat.zero_le _
     | cons x l ih2=>
       obtain⟨hx,hl⟩:=List.nodup_cons.1 hn
       rw[List.filter_cons]
       by_cases e:x=n
       · subst e
         have:(l.filter λy=>decide (y≠x))=l:=List.filter_eq_self.2 λy hy=>by
           have:y≠x:=λe=>hx (e▸hy)
           simpa using this
         rw[if_neg (by simp),this]
         exact Nat.le_refl _
       · have:=ih2 hl
         simp only[ne_eq,e,not_false_eq_true,decide_true,if_true,List.length_cons]
         simp only[ne_eq]at this
         omega
   omega
theorem Bnd.leC {d:DA}{C:Int}(hC:0 <=C){out:List Int}{s:Nat}(hs:s<d.n)(h:Bnd d C out s):oAt out s <=((d.n-1:Nat):Int)*C:=by
 obtain⟨p,hn,hp,hb⟩:=h
 have h1:(s::p).length <=d.n:=pY hn λx hx=>by
   rcases List.mem_cons.1 hx with rfl|hx
   · exact hs
   · exact(hp x hx).1
 simp only[List.length_cons]at h1
 exact Int.le_trans hb (Int.mul_le_mul_of_nonneg_right (by omega) hC)
theorem Bnd.le {d:DA}(hd:d.Ok){C:Int}(hC:0 <=C)(hC2:C <=1048576){out:List Int}{s:Nat}(hs:s<d.n)(h:Bnd d C out s):oAt out s <=68719476736-1048576:=by
 have h1:=h.leC hC hs
 have h2:d.n <=65536:=hd.n2
 have h3:((d.n-1:Nat):Int)*C <=65535*1048576:=Int.mul_le_mul (by omega) hC2 hC (by omega)
 omega
theorem M9.first {d:DA}{cs:List Int}{C:Int}{out:List Int}(hl:out.length=d.n)(h:∀s,s<d.n->oAt out s=if d.acc s=true then 0 else INF):M9 d cs C out where
 len:=hl
 lo:=λs hs=>by rw[h s hs];split <;> decide
 acc0:=λs hs ha=>by rw[h s hs,if_pos ha]
 sound:=λs hs hi=>by
   rw[h s hs]at hi ⊢
   by_cases ha:d.acc s=true
   · exact⟨[],DA.Lang.nil.2 ha,by rw[if_pos ha];rfl⟩
   · rw[if_neg ha]at hi;exact absurd rfl hi
 bnd:=λs hs hi=>by
   rw[h s hs]at hi
   by_cases ha:d.acc s=true
   · refine⟨[],by simp,by simp,?_⟩
     rw[h s hs,if_pos ha];simp
   · rw[if_neg ha]at hi;exact absurd rfl hi
theorem M9.down {d:DA}{cs:List Int}{C:Int}{out:List Int}(hd:d.Ok)(hc:wM cs)(hC:Nk cs C)(hk:cs.length=d.K)(h:M9 d cs C out){f x s:Nat}(hf:f<d.n)(hx:x<d.K)(e:d.to f x=s)(hi:oAt out s≠INF){v:Int}(hv:v=oAt out s+cAt cs x)(hlt:v<oAt out f):
   M9 d cs C (out.set f v):=by
 have hs:s<d.n:=e▸hd.to_lt hf hx
 have hfl:f<out.length:=by rw[h.len];exact hf
 have hcx:=hc.at (x:=x) (by omega)
 have hne:f≠s:=λe=>by subst e;omega
 have hb:=h.bnd s hs hi
 have hbl:=hb.le hd (by have:=hC.lo;omega) hC.hi hs
 have hxC:=hC.all x (by omega)
 have hlos:=(h.lo s hs).1
 have hI:=Aq
 have hmono:∀t,oAt (out.set f v) t <=oAt out t:=λt=>by
   by_cases et:f=t
   · subst et;rw[eU hfl];omega
   · rw[dw et];exact Int.le_refl _
 refine⟨by simp[h.len],λt ht=>?_,λt ht ha=>?_,λt ht hti=>?_,λt ht hti=>?_⟩
 · by_cases et:f=t
   · subst et;rw[eU hfl];omega
   · rw[dw et];exact h.lo t ht
 · by_cases et:f=t
   · subst et;have:=h.acc0 f ht ha;omega
   · rw[dw et];exact h.acc0 t ht ha
 · by_cases et:f=t
   · subst et
     rw[eU hfl]
     obtain⟨w,hw,ew⟩:=h.sound s hs hi
     refine⟨x::w,DA.Lang.cons.2 ⟨hx,by rw[e];exact hw⟩,?_⟩
     simp only[fL];omega
   · rw[dw et]at hti ⊢;exact h.sound t ht hti
 · by_cases et:f=t
   · subst et
     obtain⟨p,hn,hp,hbb⟩:=hb
     refine⟨s::p,?_,λt ht=>?_,?_⟩
     · refine List.nodup_cons.2 ⟨λhm=>?_,hn⟩
       rcases List.mem_cons.1 hm with hm|hm
       · exact hne hm
       · have:=(hp f hm).2;omega
     · rw[eU hfl]
       rcases List.mem_cons.1 ht with rfl|ht
       · exact⟨hs,by rw[dw hne];omega⟩
       · have h1:=hp t ht
         exact⟨h1.1,by have:=hmono t;omega⟩
     · rw[eU hfl]
       simp only[List.length_cons]
       have e2:(((p.length+1:Nat):Int))*C=(p.length:Int)*C+C:=by rw[Int.natCast_add,Int.add_mul];simp
       omega
   · rw[dw et]at hti
     obtain⟨p,hn,hp,hbb⟩:=h.bnd t ht hti
     refine⟨p,hn,λu hu=>⟨(hp u hu).1,?_⟩,?_⟩
     · rw[dw et]
       have:=hmono u
       have:=(hp u hu).2
       omega
     · rw[dw et];exact hbb
theorem M9.done {d:DA}{cs:List Int}{C:Int}{out:List Int}(hd:d.Ok)(hc:wM cs)(hC:Nk cs C)(hk:cs.length=d.K)(h:M9 d cs C out)(hr:∀s,s<d.n->Nb d cs out [] s):vH d cs out where
 len:=h.len
 lo:=h.lo
 acc0:=h.acc0
 sound:=h.sound
 step:=λs x hs hx hi=>by
   have ht:=hd.to_lt hs hx
   have hcx:=hc.at (x:=x) (by omega)
   rcases hr _ ht hi with h1|h1
   · cases h1
   · have h2:=h1 s x hs hx rfl
     have h3:=(h.bnd _ ht hi).le hd (by have:=hC.lo;omega) hC.hi ht
     have hI:=Aq
     exact⟨by omega,h2⟩
 most:=λs hs hi=>by have:=(h.bnd s hs hi).le hd (by have:=hC.lo;omega) hC.hi hs;omega
theorem Nb.down {d:DA}{cs out:List Int}{H:Hp}{f t:Nat}{v:Int}(hl:f<out.length)(hlt:v<oAt out f)(hft:f≠t)(h:Nb d cs out H t):Nb d cs (out.set f v) H t:=by
 intro hi
 rw[dw hft]at hi ⊢
 rcases h hi with h1|h1
 · exact .inl h1
 · refine .inr λg x hg hx e=>?_
   have h2:=h1 g x hg hx e
   rw[dw hft]
   by_cases eg:f=g
   · subst eg;rw[eU hl];omega
   · rw[dw eg];exact h2
theorem Nb.sub {d:DA}{cs out:List Int}{H H':Hp}{t:Nat}(hs:∀p∈H,p∈H')(h:Nb d cs out H t):Nb d cs out H' t:=λhi=>(h hi).imp (hs _) id
theorem HIn.down {d:DA}{out:List Int}{H:Hp}{f:Nat}{v:Int}(hl:f<out.length)(hf:f<d.n)(hlt:v<oAt out f)(hv:v <=68719476736)(h:HIn d out H):HIn d (out.set f v) ((v,f)::H):=by
 intro p hp
 rcases List.mem_cons.1 hp with rfl|hp
 · exact⟨hf,by rw[eU hl];exact Int.le_refl _,hv⟩
 · obtain⟨h1,h2,h3⟩:=h p hp
   refine⟨h1,?_,h3⟩
   by_cases e:f=p.2
   · rw[e]at hlt hl;rw[e,eU hl];omega
   · rw[dw e];exact h2
def II (M:Nat)(out:List Int):Nat:=(out.map λo=>min o.toNat (M+1)).sum
theorem JM {M:Nat}{v:Int} :∀{out:List Int} {f:Nat},f<out.length->v.toNat <=M->v.toNat<(oAt out f).toNat->II M (out.set f v)<II M out
 | [],_,h,_,_=>absurd h (Nat.not_lt_zero _)
 | o::out,0,_,hM,h=>by
   simp only[List.set_cons_zero,II,List.map_cons,List.sum_cons]
   have:oAt (o::out) 0=o:=rfl
   rw[this]at h
   omega
 | o::out,f+1,hl,hM,h=>by
   simp only[List.set_cons_succ,II,List.map_cons,List.sum_cons]
   have:=JM (M:=M) (v:=v) (out:=out) (f:=f) (by simpa using hl) hM h
   unfold II at this
   omega
theorem MH (M:Nat):∀out:List Int,II M out <=out.length*(M+1)
 | []=>Nat.zero_le _
 | o::out=>by
   have:=MH M out
   unfold II at this ⊢
   simp only[List.map_cons,List.sum_cons,List.length_cons,Nat.succ_mul]
   omega
structure DaS (w:World)(a:Option Addr)(n c:Nat)(b:Option Addr)(m e:Nat)(d:DA):Prop where
 nx:Sl cI w kj a n c d.nx
 ac:Sl lH w kj b m e d.ac
theorem DaS.below {w w':World}{a b:Option Addr}{n c m e:Nat}{d:DA}(h:DaS w a n c b m e d)(hb:bW w w'):DaS w' a n c b m e d:=⟨h.nx.below hb,h.ac.below hb⟩
def daV (a:Option Addr)(n c:Nat)(b:Option Addr)(m e:Nat)(d:DA):Value:=.agg #[vI d.k,vI d.st,.slice a n c,.slice b m e]
def okD (d:DA):Bool:=decide (1 <=d.k)&&decide (d.k <=512)&&decide (1 <=d.ac.length)&&decide (d.ac.length <=65536)&&decide ((d.nx.length:Int)=(d.ac.length:Int)*d.k)&&decide (0 <=d.st)&&decide (d.st<(d.ac.length:Int)) &&
 d.nx.all λx=>decide (0 <=x)&&decide (x<(d.ac.length:Int))
theorem di {d:DA} :okD d=true ↔ d.Ok:=by
 unfold okD
 simp only[Bool.and_eq_true,dTx,List.all_eq_true]
 constructor
 · rintro⟨⟨⟨⟨⟨⟨⟨h1,h2⟩,h3⟩,h4⟩,h5⟩,h6⟩,h7⟩,h8⟩
   exact⟨h1,h2,h3,h4,h5,h6,h7,h8⟩
 · rintro⟨h1,h2,h3,h4,h5,h6,h7,h8⟩
   exact⟨⟨⟨⟨⟨⟨⟨h1,h2⟩,h3⟩,h4⟩,h5⟩,h6⟩,h7⟩,h8⟩
def Gh (k:Int)(w:List Int):Bool:=w.all λx=>decide (0 <=x)&&decide (x<k)
def dm (d:DA)(w:List Int):Bool:=okD d&&(Gh d.k w&&d.acc (d.run d.s (w.map Int.toNat)))
theorem iC {d:DA}(h:d.Ok)(w:List Nat):dm d (w.map fun(x:Nat)=>(x:Int))=true ↔ d.Lang d.s w:=by
 have e:(w.map fun(x:Nat)=>(x:Int)).map Int.toNat=w:=by
   rw[List.map_map]
   conv=>rhs;rw[<- List.map_id w]
   exact List.map_congr_left λx _=>Int.toNat_natCast x
 unfold dm DA.Lang Gh
 rw[e,di.2 h,Bool.true_and,Bool.and_eq_true,List.all_eq_true]
 refine and_congr ?_ Iff.rfl
 constructor
 · intro H x hx
   have:=H (x:Int) (List.mem_map.2 ⟨x,hx,rfl⟩)
   simp only[Bool.and_eq_true,dTx]at this
   have:=h.kk
   omega
 · intro H y hy
   obtain⟨x,hx,rfl⟩:=List.mem_map.1 hy
   have:=H x hx
   have:=h.kk
   simp only[Bool.and_eq_true,dTx]
   omega
structure Chg (S:List Nat)(w w':World):Prop where
 os:w'.os=w.os
 tape:w'.tape=w.tape
 output:w'.output=w.output
 size:w.heap.size <=w'.heap.size
 block:∀k,k<w.heap.size->k ∉ S->w'.heap[k]? =w.heap[k]?
theorem Chg.refl (S:List Nat)(w:World):Chg S w w:=⟨rfl,rfl,rfl,Nat.le_refl _,λ_ _ _=>rfl⟩
theorem Chg.trans {S:List Nat}{a b c:World}(h:Chg S a b)(k:Chg S b c):Chg S a c:=
 ⟨k.os.trans h.os,k.tape.trans h.tape,k.output.trans h.output,Nat.le_trans h.size k.size,λi hi hs=>(k.block i (Nat.lt_of_lt_of_le hi h.size) hs).trans (h.block i hi hs)⟩
theorem Chg.of {S:List Nat}{w w':World}(h:bW w w'):Chg S w w':=⟨h.os,h.tape,h.output,h.size,λk hk _=>h.block k hk⟩
theorem Chg.grown {S:List Nat}{w w':World}{r:Nat}(h:w.grownBy w' (some r))(hr:r∈S):Chg S w w':=
 ⟨h.os,h.tape,h.output,h.size,λk hk hs=>h.block k hk λe=>hs (by cases e;exact hr)⟩
theorem Chg.mono {S S':List Nat}{w w':World}(h:Chg S w w')(hs:∀k∈S,k∈S'):Chg S' w w':=⟨h.os,h.tape,h.output,h.size,λk hk hn=>h.block k hk λhm=>hn (hs k hm)⟩
theorem Chg.below {S:List Nat}{B:Nat}{w w':World}(h:Chg S w w')(hB:B <=w.heap.size)(hs:∀k∈S,B <=k):Below B w w':=
 ⟨h.os,h.tape,h.output,h.size,λk hk=>h.block k (by omega) λhm=>by have:=hs k hm;omega⟩
theorem Chg.none {w w':World}(h:Chg [] w w'):bW w w':=h.below (Nat.le_refl _) λk hk=>by cases hk
theorem Chg.keep {S:List Nat}{w w':World}(h:Chg S w w'):vJ (λb=>b ∉ S) w w':=⟨h.size,λb hb ha=>h.block b hb ha⟩
theorem Chg.arr {S:List Nat}{w w':World}(h:Chg S w w'){k:Nat}{t:TypeId}{vs:List Value}(ha:am w k t vs)(hk:k ∉ S):am w' k t vs:=ha.block (h.block k ha.lt hk)
theorem Chg.step {S:List Nat}{a b c:World}(h:Chg S a b)(k:bW b c):Chg S a c:=h.trans (Chg.of k)
theorem Chg.put {S:List Nat}{a b c:World}{r:Nat}(h:Chg S a b)(k:b.grownBy c (some r))(hr:a.heap.size <=r):Chg S a c:=
   ⟨k.os.trans h.os,k.tape.trans h.tape,k.output.trans h.output,Nat.le_trans h.size k.size,λi hi hs=>(k.block i (Nat.lt_of_lt_of_le hi h.size) (λe=>by cases e;omega)).trans (h.block i hi hs)⟩
theorem am.put1 {P:Program}{u:TypeId}{bytes:Nat}{z:Value}(tf:TF P u 1 bytes z){w:World}{k:Nat}{t:TypeId}{x v:Value}(h:am w k t [x])(h1:v.oneCell'=true)(hc:v.cells= #[v]):
   ∃w',(Instr.storeAt u (.pointer (some ⟨k,0,none⟩)) v).run P w=.ok () w'/\am w' k t [v]/\w.grownBy w' (some k):=by
 obtain⟨w',hs,ha,hg⟩:=h.store tf (i:=0) (v:=v) (by rw[hc];rfl) (by simp) (by rw[hc];intro c hcc;simp at hcc;subst hcc;exact h1)
 refine⟨w',hs,?_,hg⟩
 rw[hc]at ha
 exact ha
theorem Chg.trans2 {S S':List Nat}{a b c:World}(h:Chg S a b)(k:Chg S' b c)(hs:∀x∈S',x<a.heap.size->x∈S):Chg S a c:=
 ⟨k.os.trans h.os,k.tape.trans h.tape,k.output.trans h.output,Nat.le_trans h.size k.size,λi hi hn=>(k.block i (Nat.lt_of_lt_of_le hi h.size) (λhm=>hn (hs i hm hi))).trans (h.block i hi hn)⟩
theorem Chg.row {w w':World}{a:Option Addr}(h:w.grownBy w' (bK a)):Chg (bK a).toList w w':=
 ⟨h.os,h.tape,h.output,h.size,λk hk hn=>h.block k hk λe=>hn (by rw[<- e];simp)⟩
theorem Src.at1 {α:Type}{T:Ty α}(hf:Flat T){w:World}{A:Bl}{vs:List Value}{x:α}{t:TypeId}{b:Nat}(hw:w.heap[b]? =some (.cells vs.toArray t (0,0)))(h:T.rep w A vs x):Src T w A (some ⟨b,0,none⟩) 1 [x]:=by
 refine⟨rfl,.inr ⟨_,0,rfl,vs,iK.one h,λj hj=>?_⟩⟩
 rw[gR hw,Nat.zero_add]
 simp
theorem iK.takeN {α:Type}{T:Ty α}{w:World}{A:Bl}{l:List Value}{xs:List α}(h:iK T w A l xs){j:Nat}(hj:j <=xs.length):iK T w A (l.take (j*T.k)) (xs.take j):=by
 have hle:j*T.k <=xs.length*T.k:=Nat.mul_le_mul_right _ hj
 refine⟨by rw[List.length_take,List.length_take,h.len,Nat.min_eq_left hle,Nat.min_eq_left hj],λi hi=>?_⟩
 rw[List.length_take,Nat.min_eq_left hj]at hi
 have:=h.rep i (by omega)
 have h2:(i+1)*T.k <=j*T.k:=Nat.mul_le_mul_right _ hi
 rw[Nat.succ_mul]at h2
 rw[List.getElem_take,List.drop_take,List.take_take,Nat.min_eq_left (by omega)]
 exact this
theorem Ow.takeN {α:Type}{T:Ty α}{t:TypeId}{w:World}{A:Bl}{a:Option Addr}{n c:Nat}{xs:List α}(h:Ow T t w A a n c xs){j:Nat}(hj:j <=xs.length):Ow T t w A a j c (xs.take j):=by
 obtain⟨hn,hnc,hcm,h4⟩:=h
 refine⟨by rw[List.length_take,Nat.min_eq_left hj],by omega,hcm,?_⟩
 rcases h4 with⟨e1,e2,e3⟩|⟨g,cur,fr,e,hg,hf,hs,hr⟩
 · exact .inl ⟨e1,e2,by rw[e3];simp⟩
 · refine .inr ⟨g,cur,fr,e,hg,hf,hs,?_⟩
   have:=hr.takeN hj
   rwa [List.take_take,Nat.min_eq_left (by rw[hn];exact Nat.mul_le_mul_right _ hj)]at this
structure Ei (ts te:TypeId)(w:World)(vb:Nat)(a:Option Addr)(n c:Nat)(xs:List Pi):Prop where
 var:am w vb ts [.slice a n c]
 row:Ow tP te w NoB a n c xs
 ne:∀g,bK a=some g->g≠vb
theorem Ei.below {ts te:TypeId}{w w':World}{vb:Nat}{a:Option Addr}{n c:Nat}{xs:List Pi}(h:Ei ts te w vb a n c xs)(hb:bW w w'):Ei ts te w' vb a n c xs:=⟨h.var.below hb,h.row.below hb,h.ne⟩
abbrev Hq:=Ei aU aN
theorem Af:Whl prog aN 2:=⟨⟨_,_,ou⟩,by kernel_rfl⟩
theorem su {w:World}{A:Bl}{a:Option Addr}{n c:Nat}{xs:List Pi}(h:Sl tP w A a n c xs){i j:Nat}(hi:i<xs.length)(hj:j<xs.length):
   Cf fE #[.slice a n c,vI (i:Int),vI (j:Int)] w (Ret λv w'=>∃b,v=.bool b/\bW w w'):=by
 apply vB
 have hn:=h.len
 subst hn
 exact⟨⟨⟨by omega,by omega⟩,h.isSome hi⟩,h.some_of hi 2,_,λu hu=>((h.below hu).pair0 aB hi).1,⟨⟨by omega,by omega⟩,h.isSome hj⟩,h.some_of hj 2,_,λu hu=>((h.below hu).pair0 aB hj).1,λwq hq=>⟨_,rfl,hq⟩⟩
theorem sw {w:World}{a:Option Addr}{n c:Nat}{xs:List Pi}(h:Ow tP aN w NoB a n c xs){i j:Nat}(hi:i<xs.length)(hj:j<xs.length):
   Cf fF #[.slice a n c,vI (i:Int),vI (j:Int)] w (Ret λv w'=>v=.tuple #[]/\Ow tP aN w' NoB a n c ((xs.set i xs[j]).set j xs[i])/\Chg (bK a).toList w w'):=by
 apply vD
 have hn:=h.len
 subst hn
 have h2:=h.all
 refine⟨⟨⟨by omega,by omega⟩,h2.isSome hj⟩,⟨⟨by omega,by omega⟩,h2.isSome hi⟩,xs[j].1,xs[j].2,λu hu=>(h2.below hu).pair Af hj,xs[i].1,xs[i].2,λu hu=>(h2.below hu).pair Af hi,⟨⟨by omega,by omega⟩,h2.isSome hi⟩,λwq hq=>?_⟩
 obtain⟨w1,s1,o1,g1⟩:=(h.below hq).store ou (λ_ _ h=>h) (i:=(i:Int)) (by simpa using hi) (k:=2) rfl (v:=prV xs[j]) (x:=xs[j]) rfl
 rw[Int.toNat_natCast]at o1
 refine⟨w1,s1,⟨⟨by omega,by omega⟩,h2.isSome hj⟩,?_⟩
 obtain⟨w2,s2,o2,g2⟩:=o1.store ou (λ_ _ h=>h) (i:=(j:Int)) (by simpa using hj) (k:=2) rfl (v:=prV xs[i]) (x:=xs[i]) rfl
 rw[Int.toNat_natCast]at o2
 exact⟨w2,s2,rfl,o2,((Chg.of hq).trans (Chg.row g1)).trans (Chg.row g2)⟩
theorem Kj {w:World}{vb:Nat}{a:Option Addr}{n c:Nat}{xs:List Pi}(h:Hq w vb a n c xs){j:Nat}(hj:j<xs.length):
   Cf j7 #[.iface bt (.pointer (some ⟨vb,0,none⟩)),vI (j:Int)] w (Ret λv w'=>v=.tuple #[]/\∃xs',xs'.Perm xs/\Hq w' vb a n c xs'/\Chg (bK a).toList w w'):=by
 apply j9
 refine⟨λm i wl=>∃(k:Nat) (ys:List Pi),i=(k:Int)/\m=k/\k<ys.length/\ys.Perm xs/\Hq wl vb a n c ys/\Chg (bK a).toList w wl,⟨_,j,xs,rfl,rfl,hj,List.Perm.refl _,h,Chg.refl _ _⟩,?_⟩
 intro m i
 refine aC.of ?_ _
 rintro wl ⟨k,ys,rfl,hmk,hk,hp,H,hc⟩
 have hle:=H.row.le
 refine⟨by decide,λq7 hq=>?_⟩
 have hq':q7=(((k-1)/2:Nat):Int):=by
   rw[hq]
   by_cases h0:k=0
   · subst h0;rfl
   · rw[wrap_i64 (n:=(k:Int)-1) (by omega) (by omega),show((k:Int)-1)=((k-1:Nat):Int) by omega,show Int.tdiv ((k-1:Nat):Int) 2=(((k-1)/2:Nat):Int) from rfl]
     exact wrap_i64 (by omega) (by omega)
 subst hq'
 clear hq
 refine fY (λw'=>0<k/\Hq w' vb a n c ys/\Chg (bK a).toList w w') ?_ ?_
 · refine ae.of (λ_=>⟨rfl,ys,hp,H,hc⟩) (λh0=>?_)
   have hk0:0<k:=by
     rcases Nat.eq_zero_or_pos k with e|e
     · subst e;simp at h0
     · exact e
   refine⟨a,n,c,H.var.load1 bN rfl rfl,?_⟩
   refine ax (su H.row.all hk (show(k-1)/2<ys.length by omega)) ?_
   rintro _ w15 ⟨b,rfl,hb⟩
   refine⟨b,rfl,ae.of (λ_=>⟨rfl,ys,hp,H.below hb,hc.step hb⟩) (λ_=>⟨hk0,H.below hb,hc.step hb⟩)⟩
 · rintro wj ⟨hk0,H,hc⟩
   refine⟨a,n,c,H.var.load1 bN rfl rfl,?_⟩
   have hd:(k-1)/2<ys.length:=by omega
   refine ax (sw H.row hd hk) ?_
   rintro _ w21 ⟨rfl,o,hc2⟩
   refine⟨rfl,(k-1)/2,by omega,(k-1)/2,_,rfl,rfl,?_,(Dk hd hk).trans hp,⟨hc2.arr H.var λhm=>?_,o,H.ne⟩,hc.trans hc2⟩
   · simp;omega
   · exact H.ne vb (by simpa using hm) rfl
theorem GX {w:World}{vb:Nat}{a:Option Addr}{n c:Nat}{xs:List Pi}(h:Hq w vb a n c xs)(hl:xs.length <=1000000000000){N:Nat}(hN:N <=xs.length):
   Cf iL #[.iface bt (.pointer (some ⟨vb,0,none⟩)),vI 0,vI (N:Int)] w (Ret λv w'=>∃b,v=.bool b/\∃xs':List Pi,xs'.Perm xs/\(∀k,N <=k->xs'[k]? =xs[k]?)/\Hq w' vb a n c xs'/\Chg (bK a).toList w w'):=by
 apply jC
 refine⟨λm i wl=>∃(k:Nat) (ys:List Pi),i=(k:Int)/\m=ys.length-k/\k <=ys.length/\ys.Perm xs/\(∀k,N <=k->ys[k]? =xs[k]?)/\Hq wl vb a n c ys/\Chg (bK a).toList w wl,⟨_,0,xs,rfl,rfl,Nat.zero_le _,List.Perm.refl _,λ_ _=>rfl,h,Chg.refl _ _⟩,?_⟩
 intro m i
 refine aC.of ?_ _
 rintro wl ⟨k,ys,rfl,rfl,hk,hp,hsame,H,hc⟩
 have hlen:=hp.length_eq
 have e1:i64.wrap ((i64.wrap ((2:Int)*(k:Int)))+(1:Int))=((2*k+1:Nat):Int):=by
   rw[wrap_i64 (n:=(2:Int)*(k:Int)) (by omega) (by omega),wrap_i64 (by omega) (by omega)];omega
 have e2:i64.wrap (((2*k+1:Nat):Int)+(1:Int))=((2*k+2:Nat):Int):=by
   rw[wrap_i64 (by omega) (by omega)];omega
 simp only[e1,e2]
 refine fY (λw'=>2*k+1<N/\w'=wl) ?_ ?_
 · refine ae.of (λ_=>⟨_,rfl,ys,hp,hsame,H,hc⟩) (λh0=>?_)
   simp only[ge_iff_le,dFx]at h0
   refine ae.of (λh1=>?_) (λ_=>⟨by omega,rfl⟩)
   simp only[dTx]at h1
   omega
 rintro wj ⟨hlt,rfl⟩
 refine⟨λi w'=>∃jj:Nat,i=(jj:Int)/\k<jj/\jj<N/\Hq w' vb a n c ys/\Chg (bK a).toList w w',?_,λn9=>aC.of ?_ _⟩
 · refine ae.of (λh0=>?_) (λ_=>⟨2*k+1,rfl,by omega,hlt,H,hc⟩)
   simp only[dTx]at h0
   refine⟨a,n,c,H.var.load1 bN rfl rfl,?_⟩
   refine ax (su H.row.all (show 2*k+2<ys.length by omega) (show 2*k+1<ys.length by omega)) ?_
   rintro _ w32 ⟨b,rfl,hb⟩
   exact⟨b,rfl,ae.of (λ_=>⟨2*k+2,rfl,by omega,by omega,H.below hb,hc.step hb⟩) (λ_=>⟨2*k+1,rfl,by omega,hlt,H.below hb,hc.step hb⟩)⟩
 · rintro w9 ⟨jj,rfl,hkj,hjN,H,hc⟩
   refine⟨a,n,c,H.var.load1 bN rfl rfl,?_⟩
   refine ax (su H.row.all (show jj<ys.length by omega) (show k<ys.length by omega)) ?_
   rintro _ w38 ⟨b,rfl,hb⟩
   refine⟨b,rfl,ae.of (λ_=>⟨_,rfl,ys,hp,hsame,H.below hb,hc.step hb⟩) (λ_=>?_)⟩
   have H2:=H.below hb
   refine⟨a,n,c,H2.var.load1 bN rfl rfl,?_⟩
   have hk1:k<ys.length:=by omega
   have hj1:jj<ys.length:=by omega
   refine ax (sw H2.row hk1 hj1) ?_
   rintro _ w43 ⟨rfl,o,hc2⟩
   refine⟨rfl,ys.length-jj,by omega,jj,_,rfl,by simp,by simp;omega,(Dk hk1 hj1).trans hp,λi hi=>?_,⟨hc2.arr H2.var λhm=>?_,o,H.ne⟩,(hc.step hb).trans hc2⟩
   · rw[List.getElem?_set_ne (by omega),List.getElem?_set_ne (by omega)]
     exact hsame i hi
   · exact H.ne vb (by simpa using hm) rfl
theorem BL (p:Pi)(u:World):(Instr.typeAssert (.iface aN (prV p)) wR aN false).run prog u=.ok (.agg #[vI p.1,vI p.2]) u:=by kernel_rfl
theorem Gg {w:World}{vb:Nat}{a:Option Addr}{n c:Nat}{xs:List Pi}(h:Hq w vb a n c xs)(hl:xs.length <=1000000000000)(p:Pi):
   Cf kM #[.pointer (some ⟨vb,0,none⟩),.iface aN (prV p)] w (Ret λv w'=>v=.tuple #[]/\∃a' n' c',Hq w' vb a' n' c' (xs++[p])/\Chg (vb::(bK a).toList) w w'/\∀g,bK a'=some g->bK a=some g\/w.heap.size <=g):=by
 apply vC
 refine⟨rfl,a,n,c,λu hu=>(h.below hu).var.load1 bN rfl rfl,p.1,p.2,λu _=>BL p u,λk10 hk wq hq hcell=>?_⟩
 have H:=h.below hq
 have hsrc:Src tP wq NoB (some ⟨k10,0,none⟩) 1 [p]:=Src.at1 Fq (vs:=prC p) hcell rfl
 obtain⟨w4,a4,n4,c4,hr,o4,g4,f4⟩:=dh (ty:=aU) bN ou (by decide) H.row (λ_ _ h=>h) (cm:=1) hsrc (by simp;omega)
 have hsz:=hq.size
 have hvlt:=h.var.lt
 have v4:am w4 vb aU [.slice a n c]:=H.var.grown g4 λe=>H.ne vb e.symm rfl
 obtain⟨w5,hs5,v5,g5⟩:=v4.put1 (P:=prog) wg (v:=.slice a4 n4 c4) rfl rfl
 have hne4:∀g,bK a4=some g->g≠vb:=λg hg e=>by
   rcases f4 g hg with h1|h1
   · exact h.ne g h1 e
   · omega
 refine⟨w4,a4,n4,c4,hr,rfl,w5,hs5,rfl,a4,n4,c4,⟨v5,o4.put (λg hg e=>hne4 g hg e) g5,hne4⟩,?_,λg hg=>?_⟩
 · have c1:Chg (vb::(bK a).toList) w wq:=Chg.of hq
   have c2:Chg (vb::(bK a).toList) wq w4:=(Chg.row g4).mono λk hk=>List.mem_cons_of_mem _ hk
   exact(c1.trans c2).trans (Chg.grown g5 List.mem_cons_self)
 · rcases f4 g hg with h1|h1
   · exact .inl h1
   · exact .inr (by omega)
theorem An {w:World}{vb:Nat}{a:Option Addr}{n c:Nat}{xs:List Pi}(h:Hq w vb a n c xs)(hl:xs.length <=1000000000000)(p:Pi):
   Cf fC #[.iface bt (.pointer (some ⟨vb,0,none⟩)),.iface aN (prV p)] w
     (Ret λv w'=>v=.tuple #[]/\∃a' n' c' xs',xs'.Perm (p::xs)/\Hq w' vb a' n' c' xs'/\Chg (vb::(bK a).toList) w w'/\∀g,bK a'=some g->bK a=some g\/w.heap.size <=g):=by
 apply jB
 refine ax (Gg h hl p) ?_
 rintro _ w6 ⟨rfl,a1,n1,c1,H1,hc1,f1⟩
 refine⟨rfl,a1,n1,c1,H1.var.load1 bN rfl rfl,?_⟩
 have hn1:=H1.row.len
 refine ax (K:=λv w'=>v=vI ((n1:Nat):Int)/\w'=w6) (pF _ _ _ ⟨rfl,rfl⟩) ?_
 rintro _ w9 ⟨rfl,rfl⟩
 refine⟨_,rfl,?_⟩
 have e1:i64.wrap (((n1:Nat):Int)-1)=((xs.length:Nat):Int):=by
   rw[hn1,List.length_append,List.length_singleton,wrap_i64 (by omega) (by omega)];omega
 try dsimp only
 rw[e1]
 refine ax (Kj H1 (by simp)) ?_
 rintro _ w11 ⟨rfl,ys,hp,H2,hc2⟩
 refine⟨rfl,rfl,a1,n1,c1,ys,hp.trans (List.perm_append_singleton p xs),H2,?_,f1⟩
 refine hc1.trans2 hc2 λk hk hlt=>?_
 rcases f1 k (by simpa using hk)with h1|h1
 · exact List.mem_cons_of_mem _ (by rw[h1];simp)
 · omega
theorem Hu {w:World}{vb:Nat}{a:Option Addr}{n c:Nat}{xs:List Pi}(h:Hq w vb a n c xs){p:Pi}{ys:List Pi}(hx:xs=ys++[p]):
   Cf lX #[.pointer (some ⟨vb,0,none⟩)] w (Ret λv w'=>v=.iface aN (prV p)/\Hq w' vb a (n-1) c ys/\Chg [vb] w w'):=by
 apply xw
 have hn:=h.row.len
 have hle:=h.row.le
 subst hx
 rw[List.length_append,List.length_singleton]at hn hle
 have e1:i64.wrap (((n:Nat):Int)-1)=((ys.length:Nat):Int):=by rw[wrap_i64 (by omega) (by omega)];omega
 have hlt:ys.length<(ys++[p]).length:=by simp
 have hget:(ys++[p])[ys.length]=p:=by simp
 have hvlt:=h.var.lt
 refine⟨rfl,rfl,a,n,c,λu hu=>(h.below hu).var.load1 bN rfl rfl,a,n,c,λu hu=>(h.below hu).var.load1 bN rfl rfl,?_⟩
 try dsimp only
 rw[e1]
 refine⟨⟨⟨by omega,by omega⟩,h.row.all.isSome hlt⟩,p.1,p.2,λu hu=>?_,λk3 hk3 wq hq hcell=>?_⟩
 · have:=((h.below hu).row.all).pair Af hlt
   rw[hget]at this;exact this
 have H:=h.below hq
 have a3:am wq k3 aN [vI 0,vI 0]:=hcell
 obtain⟨wx,hs,b3,g3⟩:=Af.store0 (P:=prog) (cs:=prC p) rfl (aW rfl (aW rfl jA)) a3 rfl
 have H3:Hq wx vb a n c (ys++[p]):=⟨H.var.grown g3 (fH (by omega)),H.row.put (λg hg e=>by have:=h.row.lt g hg;omega) g3,H.ne⟩
 refine⟨wx,hs,rfl,rfl,a,n,c,λu hu=>(H3.below hu).var.load1 bN rfl rfl,a,n,c,λu hu=>(H3.below hu).var.load1 bN rfl rfl,?_⟩
 try dsimp only
 rw[e1]
 refine⟨⟨by omega,?_⟩,rfl,λwq1 hq1=>?_⟩
 · have:=H3.row.2.1;omega
 have H4:=H3.below hq1
 obtain⟨w5,hs5,v5,g5⟩:=H4.var.put1 (P:=prog) wg (v:=.slice a ys.length c) rfl rfl
 rw[Int.toNat_natCast]
 have b5:am w5 k3 aN (prC p):=(b3.below hq1).grown g5 (fH (by omega))
 refine⟨w5,hs5,p.1,p.2,Af.load0 (cs:=prC p) b5 rfl,rfl,⟨?_,?_,h.ne⟩,?_⟩
 · rw[show n-1=ys.length by omega];exact v5
 · have o5:=H4.row.put (λg hg e=>h.ne g hg e) g5
   have o6:=o5.takeN (j:=ys.length) (by simp)
   rw[List.take_left]at o6
   rw[show n-1=ys.length by omega]
   exact o6
 · exact((Chg.of hq).put g3 hk3).trans2 ((Chg.of hq1:Chg [vb] wx wq1).trans (Chg.grown g5 (List.mem_singleton.2 rfl))) λk hk _=>hk
theorem Is {w:World}{vb:Nat}{a:Option Addr}{n c:Nat}{xs:List Pi}(h:Hq w vb a n c xs)(hl:xs.length <=1000000000000)(hx:0<xs.length):
   Cf jy #[.iface bt (.pointer (some ⟨vb,0,none⟩))] w
     (Ret λv w'=>∃(p:Pi) (ys:List Pi),v=.iface aN (prV p)/\xs.Perm (p::ys)/\Hq w' vb a (n-1) c ys/\Chg (vb::(bK a).toList) w w'):=by
 apply jN
 have hn:=h.row.len
 refine⟨a,n,c,h.var.load1 bN rfl rfl,?_⟩
 refine ax (K:=λv w'=>v=vI ((n:Nat):Int)/\w'=w) (pF _ _ _ ⟨rfl,rfl⟩) ?_
 rintro _ w5 ⟨rfl,rfl⟩
 refine⟨_,rfl,a,n,c,h.var.load1 bN rfl rfl,?_⟩
 have e1:i64.wrap (((n:Nat):Int)-1)=((xs.length-1:Nat):Int):=by rw[hn,wrap_i64 (by omega) (by omega)];omega
 try dsimp only
 rw[e1]
 have hlast:xs.length-1<xs.length:=by omega
 refine ax (sw h.row (i:=0) hx hlast) ?_
 rintro _ w9 ⟨rfl,o9,hc9⟩
 have hp9:=Dk (xs:=xs) hx hlast
 have hvne:vb ∉ (bK a).toList:=λhm=>h.ne vb (by simpa using hm) rfl
 have H9:Hq w9 vb a n c ((xs.set 0 xs[xs.length-1]).set (xs.length-1) xs[0]):=⟨hc9.arr h.var hvne,o9,h.ne⟩
 refine⟨rfl,?_⟩
 refine ax (GX H9 (by simpa using hl) (N:=xs.length-1) (by simp)) ?_
 rintro _ w12 ⟨b,rfl,zs,hp,hsame,H12,hc12⟩
 refine⟨b,rfl,?_⟩
 have hzl:zs.length=xs.length:=by have:=hp.length_eq;simpa using this
 have hz:zs[xs.length-1]? =some xs[0]:=by
   rw[hsame _ (Nat.le_refl _),List.getElem?_set_self (by simp;omega)]
 have hzs:zs=zs.take (xs.length-1)++[xs[0]]:=by
   have h1:=List.take_succ_eq_append_getElem (l:=zs) (i:=xs.length-1) (by omega)
   have h2:zs[xs.length-1]'(by omega)=xs[0]:=by
     rw[List.getElem?_eq_getElem (by omega)]at hz
     exact Option.some.inj hz
   rw[h2,List.take_of_length_le (by omega)]at h1
   exact h1
 refine ax (Hu H12 hzs) ?_
 rintro _ w14 ⟨rfl,H14,hc14⟩
 refine⟨_,rfl,xs[0],zs.take (xs.length-1),rfl,?_,H14,?_⟩
 · have h3:=(hp.trans hp9).symm
   rw[hzs]at h3
   exact h3.trans (List.perm_append_singleton _ _)
 · have c1:Chg (vb::(bK a).toList) w9 w12:=hc12.mono λk hk=>List.mem_cons_of_mem _ hk
   have c0:Chg (vb::(bK a).toList) _ w9:=hc9.mono λk hk=>List.mem_cons_of_mem _ hk
   exact(c0.trans c1).trans (hc14.mono λk hk=>by rw[List.mem_singleton]at hk;rw[hk];exact List.mem_cons_self)
theorem bG:Whl prog af 4:=⟨⟨_,_,KF⟩,by kernel_rfl⟩
def inR (N x:Int):Bool:=decide (0 <=x)&&decide (x<N)
def inC (x:Int):Bool:=decide (1 <=x)&&decide (x <=1048576)
theorem Ie {w:World}{k:Nat}{N:Int}(hk:am w k aw [vI N]):(Instr.loadAt aw (.pointer (some ⟨k,0,none⟩))).run prog w=.ok (vI N) w:=hk.load1 aB rfl rfl
theorem Ce (x:Int){w:World}{k:Nat}{N:Int}(hk:am w k aw [vI N]):Cf cR #[vI x,.pointer (some ⟨k,0,none⟩)] w (Ret λv w'=>v=.bool (!inR N x)/\w'=w):=by
 apply AV
 refine ae.of (λh=>⟨?_,rfl⟩) (λh=>⟨N,Ie hk,?_,rfl⟩) <;> simp only[dTx,dFx]at h
 · congr 1;unfold inR;rw[decide_eq_false (by omega)];rfl
 · congr 1;unfold inR
   have h0:(0:Int) <=x:=by omega
   by_cases h2:x<N
   · have h3: ¬ N <=x:=by omega
     simp[h0,h2,h3]
   · have h3:N <=x:=by omega
     simp[h0,h2,h3]
theorem xQ {w:World}{A:Bl}{a:Option Addr}{n c:Nat}{xs:List Int}(hs:Sl cI w A a n c xs){k:Nat}{N:Int}(hk:am w k aw [vI N]):
   Cf aZ #[.slice a n c,.func (.func cR) #[] #[.pointer (some ⟨k,0,none⟩)]] w (Ret λv w'=>v=.bool (!xs.all (inR N))/\w'=w):=by
 have hn:=hs.len
 subst hn
 have hle:=hs.le
 apply gC
 refine ax (K:=λv w'=>∃i:Int,v=vI i/\(decide (i >=0))=(!xs.all (inR N))/\w'=w) ?_ ?_
 · apply iE
   refine⟨λm i w'=>∃j:Nat,j <=xs.length/\i=(j:Int)/\m=xs.length-j/\(xs.take j).all (inR N)=true/\w'=w,⟨_,0,by omega,rfl,rfl,rfl,rfl⟩,?_⟩
   intro m i
   refine aC.of ?_ _
   rintro w' ⟨j,hj,rfl,rfl,hno,hw'⟩
   rw[hw'];clear hw'
   refine ae.of (λh=>?_) (λh=>?_) <;> simp only[dTx,dFx]at h
   · have hlt:j<xs.length:=by omega
     refine⟨⟨⟨by omega,h⟩,hs.isSome hlt⟩,_,hs.num aB hlt,?_⟩
     refine ax (Ce xs[j] hk) ?_
     rintro _ w3 ⟨rfl,hw3⟩
     rw[hw3]
     refine⟨_,rfl,ae.of (λh3=>?_) (λh3=>?_)⟩
     · refine⟨_,rfl,?_,rfl⟩
       have:xs.all (inR N)=false:=by
         rw[Bool.eq_false_iff]
         intro hc
         rw[List.all_eq_true.1 hc _ (List.getElem_mem hlt)]at h3;cases h3
       rw[this,decide_eq_true (by omega)];rfl
     · refine⟨xs.length-(j+1),by omega,j+1,by omega,by rw[wrap_i64 (by omega) (by omega)];omega,rfl,?_,rfl⟩
       rw[List.take_succ_eq_append_getElem hlt,List.all_append,hno]
       simpa using h3
   · have:j=xs.length:=by omega
     subst this
     rw[List.take_length]at hno
     exact⟨_,rfl,by rw[hno];decide,rfl⟩
 · rintro _ w3 ⟨i,rfl,hi,hw3⟩
   exact⟨_,rfl,by rw[hi],hw3⟩
theorem Ch (x:Int){w:World}{k:Nat}{N:Int}(hk:am w k aw [vI N]):Cf cS #[vI x,.pointer (some ⟨k,0,none⟩)] w (Ret λv w'=>v=.bool (!inR N x)/\w'=w):=by
 apply AW
 refine ae.of (λh=>⟨?_,rfl⟩) (λh=>⟨N,Ie hk,?_,rfl⟩) <;> simp only[dTx,dFx]at h
 · congr 1;unfold inR;rw[decide_eq_false (by omega)];rfl
 · congr 1;unfold inR
   have h0:(0:Int) <=x:=by omega
   by_cases h2:x<N
   · have h3: ¬ N <=x:=by omega
     simp[h0,h2,h3]
   · have h3:N <=x:=by omega
     simp[h0,h2,h3]
theorem xR {w:World}{A:Bl}{a:Option Addr}{n c:Nat}{xs:List Int}(hs:Sl cI w A a n c xs){k:Nat}{N:Int}(hk:am w k aw [vI N]):
   Cf aZ #[.slice a n c,.func (.func cS) #[] #[.pointer (some ⟨k,0,none⟩)]] w (Ret λv w'=>v=.bool (!xs.all (inR N))/\w'=w):=by
 have hn:=hs.len
 subst hn
 have hle:=hs.le
 apply gE
 refine ax (K:=λv w'=>∃i:Int,v=vI i/\(decide (i >=0))=(!xs.all (inR N))/\w'=w) ?_ ?_
 · apply iF
   refine⟨λm i w'=>∃j:Nat,j <=xs.length/\i=(j:Int)/\m=xs.length-j/\(xs.take j).all (inR N)=true/\w'=w,⟨_,0,by omega,rfl,rfl,rfl,rfl⟩,?_⟩
   intro m i
   refine aC.of ?_ _
   rintro w' ⟨j,hj,rfl,rfl,hno,hw'⟩
   rw[hw'];clear hw'
   refine ae.of (λh=>?_) (λh=>?_) <;> simp only[dTx,dFx]at h
   · have hlt:j<xs.length:=by omega
     refine⟨⟨⟨by omega,h⟩,hs.isSome hlt⟩,_,hs.num aB hlt,?_⟩
     refine ax (Ch xs[j] hk) ?_
     rintro _ w3 ⟨rfl,hw3⟩
     rw[hw3]
     refine⟨_,rfl,ae.of (λh3=>?_) (λh3=>?_)⟩
     · refine⟨_,rfl,?_,rfl⟩
       have:xs.all (inR N)=false:=by
         rw[Bool.eq_false_iff]
         intro hc
         rw[List.all_eq_true.1 hc _ (List.getElem_mem hlt)]at h3;cases h3
       rw[this,decide_eq_true (by omega)];rfl
     · refine⟨xs.length-(j+1),by omega,j+1,by omega,by rw[wrap_i64 (by omega) (by omega)];omega,rfl,?_,rfl⟩
       rw[List.take_succ_eq_append_getElem hlt,List.all_append,hno]
       simpa using h3
   · have:j=xs.length:=by omega
     subst this
     rw[List.take_length]at hno
     exact⟨_,rfl,by rw[hno];decide,rfl⟩
 · rintro _ w3 ⟨i,rfl,hi,hw3⟩
   exact⟨_,rfl,by rw[hi],hw3⟩
theorem Bg (x:Int){w:World} :Cf cE #[vI x] w (Ret λv w'=>v=.bool (!inC x)/\w'=w):=by
 apply zX
 refine ae.of (λh=>⟨?_,rfl⟩) (λh=>⟨?_,rfl⟩) <;> simp only[dTx,dFx]at h
 · congr 1;unfold inC;rw[decide_eq_false (by omega)];rfl
 · congr 1;unfold inC
   have h0:(1:Int) <=x:=by omega
   by_cases h2:x <=1048576
   · have h3: ¬ 1048576<x:=by omega
     simp[h0,h2,h3]
   · have h3:1048576<x:=by omega
     simp[h0,h2,h3]
theorem wV {w:World}{A:Bl}{a:Option Addr}{n c:Nat}{xs:List Int}(hs:Sl cI w A a n c xs):
   Cf aZ #[.slice a n c,.func (.func cE) #[] #[]] w (Ret λv w'=>v=.bool (!xs.all (inC))/\w'=w):=by
 have hn:=hs.len
 subst hn
 have hle:=hs.le
 apply gz
 refine ax (K:=λv w'=>∃i:Int,v=vI i/\(decide (i >=0))=(!xs.all (inC))/\w'=w) ?_ ?_
 · apply ix
   refine⟨λm i w'=>∃j:Nat,j <=xs.length/\i=(j:Int)/\m=xs.length-j/\(xs.take j).all (inC)=true/\w'=w,⟨_,0,by omega,rfl,rfl,rfl,rfl⟩,?_⟩
   intro m i
   refine aC.of ?_ _
   rintro w' ⟨j,hj,rfl,rfl,hno,hw'⟩
   rw[hw'];clear hw'
   refine ae.of (λh=>?_) (λh=>?_) <;> simp only[dTx,dFx]at h
   · have hlt:j<xs.length:=by omega
     refine⟨⟨⟨by omega,h⟩,hs.isSome hlt⟩,_,hs.num aB hlt,?_⟩
     refine ax (Bg xs[j]) ?_
     rintro _ w3 ⟨rfl,hw3⟩
     rw[hw3]
     refine⟨_,rfl,ae.of (λh3=>?_) (λh3=>?_)⟩
     · refine⟨_,rfl,?_,rfl⟩
       have:xs.all (inC)=false:=by
         rw[Bool.eq_false_iff]
         intro hc
         rw[List.all_eq_true.1 hc _ (List.getElem_mem hlt)]at h3;cases h3
       rw[this,decide_eq_true (by omega)];rfl
     · refine⟨xs.length-(j+1),by omega,j+1,by omega,by rw[wrap_i64 (by omega) (by omega)];omega,rfl,?_,rfl⟩
       rw[List.take_succ_eq_append_getElem hlt,List.all_append,hno]
       simpa using h3
   · have:j=xs.length:=by omega
     subst this
     rw[List.take_length]at hno
     exact⟨_,rfl,by rw[hno];decide,rfl⟩
 · rintro _ w3 ⟨i,rfl,hi,hw3⟩
   exact⟨_,rfl,by rw[hi],hw3⟩
theorem Gc {w:World}{A:Bl}{a:Option Addr}{n c:Nat}{xs:List Int}(hs:Sl cI w A a n c xs):Cf tL #[.slice a n c] w (Ret λv w'=>v=.bool (xs.all inC)/\w'=w):=by
 apply Ea
 refine ax (wV hs) ?_
 rintro _ w3 ⟨rfl,hw3⟩
 exact⟨_,rfl,by rw[Bool.not_not],hw3⟩
theorem Cr {xs:List Int} :xs.all inC=true ↔ wM xs:=by
 rw[List.all_eq_true]
 unfold wM inC
 simp only[Bool.and_eq_true,dTx]
theorem ko {w:World}{a b:Option Addr}{n c m e:Nat}{d:DA}(h:DaS w a n c b m e d):
   Cf iM #[daV a n c b m e d] w (Ret λv w'=>v=.bool (okD d)/\bW w w'):=by
 apply F2
 intro k1 w1 hk1 hw1
 have hb1:=(hw1▸ah w _:bW w w1)
 have A1:am w1 k1 af [vI d.k,vI d.st,.slice a n c,.slice b m e]:=am.new hk1 hw1
 refine⟨rfl,b,m,e,A1.load1 bf rfl rfl,?_⟩
 intro k3 w3 hk3 hw3
 have hb3:=(hw3▸ah w1 _:bW w1 w3)
 obtain⟨wx,hs,A3,g3⟩:=(am.new hk3 hw3:am w3 k3 aw [vI 0]).put1 (P:=prog) ff (v:=vI ((m:Nat):Int)) rfl rfl
 have k31:k1<k3:=by have:=A1.lt;omega
 have hbx:bW w1 wx:=hb3.grown g3 hb3.size λx ex=>by cases ex;omega
 have B1:=A1.below hbx
 have hB:bW w wx:=ab hb1 hbx hb1.size
 have hx:=h.below hB
 clear A1 hb1 hw1 hb3 hw3 hbx g3
 have hm:=hx.ac.len
 have hn:=hx.nx.len
 have hml:=hx.ac.le
 have l0:(Instr.loadAt aw (.pointer (some ⟨k1,0,none⟩))).run prog wx=.ok (vI d.k) wx:=B1.load1 aB rfl rfl
 have l1:(Instr.loadAt aw (.pointer (some ⟨k1,1,none⟩))).run prog wx=.ok (vI d.st) wx:=B1.load1 aB rfl rfl
 have l2:(Instr.loadAt ar (.pointer (some ⟨k1,2,none⟩))).run prog wx=.ok (.slice a n c) wx:=B1.load1 aI rfl rfl
 have l3:=Ie A3
 have no:∀{P:Prop},¬ d.Ok->Value.bool false=Value.bool (okD d):=fun{P} hno=>by
   cases ho:okD d with
   | false=>rfl
   | true=>exact absurd (di.1 ho) hno
 refine⟨wx,hs,fY (λw'=>w'=wx/\1 <=d.k/\d.k <=512/\1 <=m/\m <=65536/\(n:Int)=(m:Int)*d.k/\0 <=d.st/\d.st<(m:Int)) ?_ ?_⟩
 · refine⟨rfl,_,l0,ae.of (λh1=>⟨no (P:=True) λo=>?_,hB⟩) (λh1=>?_)⟩ <;> simp only[dTx,dFx]at h1
   · have:=o.k1;omega
   refine⟨rfl,_,l0,ae.of (λh2=>⟨no (P:=True) λo=>?_,hB⟩) (λh2=>?_)⟩ <;> simp only[dTx,dFx]at h2
   · have:=o.k2;omega
   refine⟨_,l3,ae.of (λh3=>⟨no (P:=True) λo=>?_,hB⟩) (λh3=>?_)⟩ <;> simp only[dTx,dFx]at h3
   · have:=o.n1;omega
   refine⟨_,l3,ae.of (λh4=>⟨no (P:=True) λo=>?_,hB⟩) (λh4=>?_)⟩ <;> simp only[dTx,dFx]at h4
   · have:=o.n2;omega
   have hmul:0 <=(m:Int)*d.k/\(m:Int)*d.k <=65536*512:=by
     refine⟨Int.mul_nonneg (by omega) (by omega),?_⟩
     exact Int.mul_le_mul (by omega) (by omega) (by omega) (by omega)
   have ew:i64.wrap (((m:Nat):Int)*d.k)=(m:Int)*d.k:=wrap_i64 (by omega) (by omega)
   refine⟨rfl,a,n,c,l2,_,l3,rfl,_,l0,?_⟩
   rw[ew]
   refine ae.of (λh5=>⟨no (P:=True) λo=>?_,hB⟩) (λh5=>?_)
   · have h5:((n:Nat):Int)≠(m:Int)*d.k:=by simpa using h5
     have:=o.len
     rw[<- hn,<- hm]at this
     exact h5 this
   have h5:((n:Nat):Int)=(m:Int)*d.k:=by simpa using h5
   refine⟨rfl,_,l1,ae.of (λh6=>⟨no (P:=True) λo=>?_,hB⟩) (λh6=>?_)⟩ <;> simp only[dTx,dFx]at h6
   · have:=o.s0;omega
   refine⟨rfl,_,l1,_,l3,ae.of (λh7=>⟨no (P:=True) λo=>?_,hB⟩) (λh7=>?_)⟩ <;> simp only[ge_iff_le,dTx,dFx]at h7
   · have:=o.s1;omega
   exact⟨rfl,by omega,by omega,by omega,by omega,h5,by omega,by omega⟩
 · rintro wj ⟨rfl,h1,h2,h3,h4,h5,h6,h7⟩
   refine⟨rfl,a,n,c,l2,?_⟩
   refine ax (xQ hx.nx A3) ?_
   rintro _ w47 ⟨rfl,rfl⟩
   refine⟨_,rfl,?_,hB⟩
   rw[Bool.not_not]
   congr 1
   unfold okD
   rw[<- hm,<- hn,decide_eq_true h1,decide_eq_true h2,decide_eq_true h3,decide_eq_true h4,decide_eq_true h5,decide_eq_true h6,decide_eq_true h7]
   rfl
theorem FK (z:Value)(n:Nat):madeCells #[z] n=(List.replicate n z).toArray:=by
 unfold madeCells
 apply Array.ext
 · simp
 · intro i h1 h2
   simp at h1 ⊢
   rw[Nat.mod_one];rfl
theorem yk {α:Type}{e:α->Value}{h1:∀x,(e x).oneCell'=true}{p:α->Prop}{P:Program}{s t:TypeId}{bytes:Nat}{z:Value}(hs:P.underlying s=some (.slice t))(tf:TF P t 1 bytes z){x0:α}(hz:e x0=z)(hz1:z.cells= #[z])(hp:p x0)
   (kl kc:IntKind) (n:Nat) (hb:bytes*n <=281474976710656) (hn:n <=9223372036854775807) (w:World) (A:Bl):
   ∃(w':World) (a:Option Addr),(Instr.makeSlice s (.int kl (n:Int)) (.int kc (n:Int))).run P w=.ok (.slice a n n) w'/\Ow (Ty.enc e h1 p) t w' A a n n (List.replicate n x0)/\bW w w'/\bI w.heap.size a:=by
 obtain⟨i,hi,hsz,hbt,hzz⟩:=tf.info
 subst hbt
 have hr:=run_make_row (P:=P) s t i z hs hi hzz hsz hz1 kl kc n hb hn w
 refine⟨_,_,hr,?_,ah w _,tU rfl⟩
 have:=Ow.newF (A:=A) (t:=t) (l:=List.replicate n z) (xs:=List.replicate n x0) (T:=Ty.enc e h1 p) (w:=w) (w':=w.alloc (.cells (List.replicate n z).toArray t)) (b:=w.heap.size) (λ_ _ _ _ _ _ h=>h) rfl rfl (by
   have:=j1 (e:=e) (h1:=h1) (p:=p) (w:=w) (A:=A) (xs:=List.replicate n x0) (λx hx=>by rw[(List.mem_replicate.1 hx).2];exact hp)
   rw[List.map_replicate,hz]at this
   exact this) (by simp;exact hn)
 rw[List.length_replicate]at this
 rw[FK]
 exact this
theorem Ow.ofArr {w:World}{A:Bl}{g:Nat}{t:TypeId}{xs:List Int}(h:am w g t (xs.map λx=>vI x))(hl:xs.length <=maxLen):Ow cI t w A (some ⟨g,0,none⟩) xs.length xs.length xs:=by
 refine⟨rfl,Nat.le_refl _,hl,.inr ⟨g,_,(0,0),rfl,h,λi hi h2=>by omega,by simp[cI,Rm,Ty.enc],?_⟩⟩
 have e:(cI.k)=1:=rfl
 rw[e,Nat.mul_one]
 have e2:(xs.map λx=>vI x).toArray.toList.take xs.length=xs.map λx=>vI x:=List.take_of_length_le (by simp)
 rw[e2]
 exact(j1 (e:=λn=>vI n) (h1:=λ_=>rfl) (p:=λ_=>True) (λx _=>trivial):iK cI w A (xs.map λx=>vI x) xs)
theorem Ks (k:Nat)(hk:k <=1000000)(w:World):Cf oL #[.int .u64 1,.int .u64 (k:Int)] w (Ret λv w'=>v=.tuple #[.int .u64 0,.int .u64 (k:Int)]/\w'=w):=by
 apply zT
 refine ax (K:=λv w'=>v=.tuple #[.int .u64 0,.int .u64 (k:Int)]/\w'=w) ?_ ?_
 · apply xv
   have c1:Int.fdiv (1:Int) (2 ^ (min (Int.toNat (32:Int)) (IntKind.bits .u64)))=0:=by decide
   have c2:Int.fdiv (k:Int) (2 ^ (min (Int.toNat (32:Int)) (IntKind.bits .u64)))=0:=by
     show Int.fdiv (k:Int) 4294967296=0
     rw[Int.fdiv_eq_ediv_of_nonneg _ (by omega)]
     omega
   have c0:Int.fdiv (0:Int) (2 ^ (min (Int.toNat (32:Int)) (IntKind.bits .u64)))=0:=by decide
   have w0:IntKind.u64.wrap (0:Int)=0:=by decide
   have wk:IntKind.u64.wrap (k:Int)=(k:Int):=IntWalk.u64_in _ ⟨by omega,by omega⟩
   have m1:(((BitVec.ofInt (IntKind.bits .u64) (1:Int)) &&& (BitVec.ofInt (IntKind.bits .u64) (4294967295:Int))).toNat:Nat)=1:=by decide
   have m0:(((BitVec.ofInt (IntKind.bits .u64) (0:Int)) &&& (BitVec.ofInt (IntKind.bits .u64) (4294967295:Int))).toNat:Nat)=0:=by decide
   have mk:(((BitVec.ofInt (IntKind.bits .u64) (k:Int)) &&& (BitVec.ofInt (IntKind.bits .u64) (4294967295:Int))).toNat:Nat)=k:=by
     show(((BitVec.ofInt 64 (k:Int)) &&& (BitVec.ofInt 64 (4294967295:Int))).toNat:Nat)=k
     have e1:BitVec.ofInt 64 (k:Int)=BitVec.ofNat 64 k:=by simp
     have e2:BitVec.ofInt 64 (4294967295:Int)=BitVec.ofNat 64 4294967295:=by decide
     rw[e1,e2,BitVec.toNat_and,BitVec.toNat_ofNat,BitVec.toNat_ofNat,Nat.mod_eq_of_lt (show k<2 ^ 64 by omega),show(4294967295%2 ^ 64:Nat)=2 ^ 32-1 by decide,Nat.and_two_pow_sub_one_eq_mod]
     omega
   have w1:IntKind.u64.wrap ((1:Nat):Int)=1:=by decide
   have z0:IntKind.u64.wrap ((0:Nat):Int)=0:=by decide
   refine⟨by decide,by decide,by decide,by decide,by decide,?_,rfl⟩
   rw[c1,c2,m1,mk,w1,wk]
   simp only[Int.zero_mul,Int.mul_zero,Int.one_mul,Int.zero_add,Int.add_zero,w0,wk,c0,c2,m0,z0]
 · rintro _ w3 ⟨rfl,hw3⟩
   exact⟨_,_,rfl,rfl,hw3⟩
def tg (v:Int)(i k:Nat):List Int:=List.replicate i v++List.replicate (k-i) 0
theorem Ly {v:Int}{i k:Nat}(h:i <=k):(tg v i k).length=k:=by simp[tg];omega
theorem tQ (v:Int)(i k:Nat):((tg v i k).map λx=>vI x)=List.replicate i (vI v)++List.replicate (k-i) (vI 0):=by simp[tg]
theorem rk {w:World}{A:Bl}{a0:Option Addr}{c0:Nat}{v:Int}(hs:Sl cI w A a0 1 c0 [v]){k:Nat}(h1:1 <=k)(hk:k <=1000000):
   Cf bL #[.slice a0 1 c0,vI (k:Int)] w (Ret λr w'=>∃a':Option Addr,r=.slice a' k k/\Ow cI aw w' NoB a' k k (List.replicate k v)/\bI w.heap.size a'/\bW w w'):=by
 apply qJ
 refine fY (λw'=>w'=w) ?_ ?_
 · refine ae.of (λh=>?_) (λ_=>rfl)
   simp only[dTx]at h
   omega
 intro wj ej
 rw[ej];clear ej wj
 have wk:IntKind.u64.wrap (k:Int)=(k:Int):=IntWalk.u64_in _ ⟨by omega,by omega⟩
 rw[show IntKind.u64.wrap (((1:Nat):Int))=(1:Int) by decide,wk]
 refine ax (Ks k hk w) ?_
 rintro _ w18 ⟨rfl,e18⟩
 rw[e18];clear e18 w18
 refine⟨_,_,rfl,fY (λw'=>w'=w) ⟨λb w'=>b=false/\w'=w,?_,λb=>aC.of ?_ _⟩ ?_⟩
 · refine ae.of (λh=>?_) (λ_=>⟨?_,rfl⟩)
   · simp only[dTx]at h;omega
   · rw[decide_eq_false (by omega)]
 · rintro wj ⟨hb0,hw0⟩
   exact ae.no hb0 hw0
 intro wj ej
 rw[ej];clear ej wj
 try dsimp only
 rw[show i64.wrap (k:Int)=(k:Int) from wrap_i64 (by omega) (by omega)]
 obtain⟨ti,hti,hsz,hbt,hzz⟩:=ff.info
 have hr:=run_make_row (P:=prog) ar aw ti (vI 0) aI hti hzz hsz rfl .i64 .i64 k (by rw[hbt];omega) (by omega) w
 rw[FK]at hr
 obtain⟨w30,hw30⟩:∃w30,w30=w.alloc (.cells (List.replicate k (vI 0)).toArray aw):=⟨_,rfl⟩
 obtain⟨g,hg⟩:∃g,g=w.heap.size:=⟨_,rfl⟩
 rw[<- hw30,<- hg]at hr
 have A30:am w30 g aw (List.replicate k (vI 0)):=am.new hg hw30
 have hb30:bW w w30:=hw30▸ah w _
 refine⟨w30,some ⟨g,0,none⟩,k,k,hr,?_⟩
 have step:∀(W:World) (i j:Nat) (sa:Addr) (sl sc dc:Nat),am W g aw ((tg v i k).map λx=>vI x)->i <=k->j=Nat.min sl (k-i)->(∀t,t<j->W.cell? (sa.add t)=some (vI v))->
     ∃W',(Builtin.copy_ #[ar,ar] aw #[.slice (some ⟨g,i,none⟩) (k-i) dc,.slice (some sa) sl sc]).run prog W=.ok (vI ((j:Nat):Int)) W'/\am W' g aw ((tg v (i+j) k).map λx=>vI x)/\W.grownBy W' (some g):=by
   intro W i j sa sl sc dc hA hi hj hc
   have hjk:i+j <=k:=by
     have:Nat.min sl (k-i) <=k-i:=Nat.min_le_right _ _
     omega
   have hlen:=congrArg List.length (tQ v i k)
   have hrun:=run_copy_row (P:=prog) W ar ar aw aw g i (k-i) dc sa sl sc ((tg v i k).map λx=>vI x).toArray aw (List.replicate j (vI v)) aI (by rw[hti];simp[hsz]) hA (by rw[List.length_replicate];exact hj)
     (λt u hu=>by
       have ht:t<j:=by have:=(List.getElem?_eq_some_iff.1 hu).1;simpa using this
       rw[List.getElem?_replicate,if_pos ht]at hu
       rw[<- Option.some.inj hu];exact hc t ht)
     (by simp[Ly hi];try omega) (λu hu=>by rw[(List.mem_replicate.1 hu).2];rfl)
   refine⟨_,by rw[hrun,List.length_replicate];rfl,?_,gK W g _⟩
   have hh:=setRow_heap W g ((tg v i k).map λx=>vI x).toArray ((((tg v i k).map λx=>vI x).toArray.toList.take i++List.replicate j (vI v)++((tg v i k).map λx=>vI x).toArray.toList.drop (i+(List.replicate j (vI v)).length)).toArray) aw (0,0) hA
   have e:(((tg v i k).map λx=>vI x).toArray.toList.take i++List.replicate j (vI v)++((tg v i k).map λx=>vI x).toArray.toList.drop (i+(List.replicate j (vI v)).length))=(tg v (i+j) k).map λx=>vI x:=by
     simp only[List.length_replicate]
     rw[tQ,tQ,List.take_left' (by simp),List.drop_append,List.drop_of_length_le (by simp <;> omega),List.nil_append,List.length_replicate,List.drop_replicate,List.replicate_append_replicate]
     congr 2
     try omega
   rw[List.length_replicate]at hh e
   unfold am
   rw[<- e]
   exact hh
 obtain⟨b,off,rfl,hbl,_,l,hl,hcell⟩:=hs.2.2.2.resolve_left (by simp)
 have hl':l=[vI v]:=gP (h1:=λ_=>rfl) hl
 subst hl'
 have s0:=hcell 0 (by simp)
 have A30':am w30 g aw ((tg v 0 k).map λx=>vI x):=by rw[tQ];simpa using A30
 obtain⟨w33,r33,A33,g33⟩:=step w30 0 1 ⟨b,off,none⟩ 1 c0 k A30' (Nat.zero_le _) (by show 1=Nat.min 1 (k-0);exact(Nat.min_eq_left (by omega)).symm) (λt ht=>by
   have:t=0:=by omega
   subst this
   rw[BI,mF (hb30.block b hbl)]
   simpa using s0)
 rw[Nat.sub_zero]at r33
 refine⟨w33,_,r33,?_⟩
 have hg0:w.heap.size <=g:=by omega
 have hb33:bW w w33:=Below.put hb30 g33 hg0
 refine⟨λm n w'=>∃i:Nat,n=(i:Int)/\1 <=i/\i <=k/\m=k-i/\am w' g aw ((tg v i k).map λx=>vI x)/\bW w w',⟨_,1,rfl,Nat.le_refl _,h1,rfl,A33,hb33⟩,?_⟩
 intro m n
 refine aC.of ?_ _
 rintro wl ⟨i,rfl,hi1,hik,rfl,Al,hbl'⟩
 refine ae.of (λh=>?_) (λh=>?_) <;> simp only[dTx,dFx]at h
 · refine⟨⟨by omega,by omega⟩,⟨by omega,by omega⟩,?_⟩
   have Ad:am (World.drew wl) g aw ((tg v i k).map λx=>vI x):=Al.below (bg wl)
   obtain⟨w45,r45,A45,g45⟩:=step (World.drew wl) i (Nat.min i (k-i)) ⟨g,0,none⟩ i k (k-i) Ad hik rfl (λt ht=>by
     have hti':t<i:=Nat.lt_of_lt_of_le ht (Nat.min_le_left _ _)
     rw[fB,Nat.zero_add,Ad.cell,tQ,List.getElem?_append_left (by simpa using hti'),List.getElem?_replicate,if_pos hti'])
   have es:qL (some ⟨g,0,none⟩) k i 1=some ⟨g,i,none⟩:=by
     unfold qL
     rw[if_neg (by omega)]
     show some (Addr.add ⟨g,0,none⟩ (i*1))=_
     rw[fB,Nat.mul_one,Nat.zero_add]
   rw[Int.toNat_natCast,es]
   have hmin:1 <=Nat.min i (k-i):=by
     show 1 <=min i (k-i)
     omega
   have hmin2:Nat.min i (k-i) <=k-i:=Nat.min_le_right _ _
   refine⟨w45,_,r45,k-(i+Nat.min i (k-i)),by omega,i+Nat.min i (k-i),?_,by omega,by omega,rfl,A45,Below.put (hbl'.trans ((bg wl).mono hbl'.size)) g45 hg0⟩
   rw[wrap_i64 (by omega) (by omega)];omega
 · have:i=k:=by omega
   subst this
   have e:(tg v i i)=List.replicate i v:=by simp[tg]
   rw[e]at Al
   have ho:=Ow.ofArr (A:=NoB) Al (by rw[List.length_replicate];show i <=9223372036854775807;omega)
   rw[List.length_replicate]at ho
   exact⟨_,rfl,ho,λx hx=>by simp[bK]at hx;omega,hbl'⟩
abbrev Pr:=Nat×Nat
def toP (a b:DA)(p:Pr)(x:Nat):Pr:=(a.to p.1 x,b.to p.2 x)
def Gu (a b:DA)(p:Pr)(w:List Nat):Pr:=(a.run p.1 w,b.run p.2 w)
structure jr (a b:DA)(f:Bool->Bool->Bool)(d:DA)(ps:List Pr):Prop where
 k:d.k=a.k
 st:d.st=0
 first:ps[0]? =some (a.s,b.s)
 nd:ps.Nodup
 inn:∀p∈ps,p.1<a.n/\p.2<b.n
 reach:∀p∈ps,∃w:List Nat,(∀x∈w,x<a.K)/\Gu a b (a.s,b.s) w=p
 ac:d.ac=ps.map λp=>f (a.acc p.1) (b.acc p.2)
 len:d.nx.length=ps.length*a.K
 nx:∀i x p,ps[i]? =some p->x<a.K->∃j:Nat,d.nx[i*a.K+x]? =some (j:Int)/\ps[j]? =some (toP a b p x)
theorem tW {α:Type}{l:List α}{i:Nat}{d v:α}(h:l[i]? =some v):l.getD i d=v:=by rw[List.getD_eq_getElem?_getD,h];rfl
theorem cF {α:Type}{l:List α}{i:Nat}{v:α}(h:l[i]? =some v):i<l.length:=(List.getElem?_eq_some_iff.1 h).1
theorem jr.kk {a b:DA}{f:Bool->Bool->Bool}{d:DA}{ps:List Pr}(h:jr a b f d ps):d.K=a.K:=by unfold DA.K;rw[h.k]
theorem jr.n {a b:DA}{f:Bool->Bool->Bool}{d:DA}{ps:List Pr}(h:jr a b f d ps):d.ac.length=ps.length:=by rw[h.ac,List.length_map]
theorem jr.ok {a b:DA}{f:Bool->Bool->Bool}{d:DA}{ps:List Pr}(h:jr a b f d ps)(ha:a.Ok)(hl:ps.length <=65536):d.Ok where
 k1:=by rw[h.k];exact ha.k1
 k2:=by rw[h.k];exact ha.k2
 n1:=by have:=cF h.first;have:=h.n;omega
 n2:=by have:=h.n;omega
 len:=by
   have h1:=h.len
   have h2:=h.n
   have h3:d.ac.length=ps.length:=h2
   rw[h1,h3,h.k,<- ha.kk,Int.natCast_mul]
 s0:=by rw[h.st];exact Int.le_refl _
 s1:=by have:=cF h.first;have:=h.n;rw[h.st];omega
 nx0:=λv hv=>by
   obtain⟨i,hi,e⟩:=List.mem_iff_getElem.1 hv
   have hK:0<a.K:=by have:=ha.k1;show 0<a.k.toNat;omega
   have hi':=hi
   rw[h.len]at hi'
   have hr:i/a.K<ps.length:=Nat.div_lt_of_lt_mul (by rw[Nat.mul_comm];exact hi')
   obtain⟨j,e1,e2⟩:=h.nx (i/a.K) (i%a.K) _ (List.getElem?_eq_getElem hr) (Nat.mod_lt _ hK)
   rw[show i/a.K*a.K+i%a.K=i from by rw[Nat.mul_comm];exact Nat.div_add_mod i a.K,List.getElem?_eq_getElem hi,e]at e1
   have hj:=cF e2
   have h2:d.ac.length=ps.length:=h.n
   have e3:v=(j:Int):=Option.some.inj e1
   omega
theorem jr.to {a b:DA}{f:Bool->Bool->Bool}{d:DA}{ps:List Pr}(h:jr a b f d ps){i x:Nat}{p:Pr}(hi:ps[i]? =some p)(hx:x<a.K):ps[d.to i x]? =some (toP a b p x):=by
 obtain⟨j,e1,e2⟩:=h.nx i x p hi hx
 unfold DA.to
 rw[h.kk,tW e1]
 exact e2
theorem jr.run {a b:DA}{f:Bool->Bool->Bool}{d:DA}{ps:List Pr}(h:jr a b f d ps):∀{w:List Nat} {i:Nat} {p:Pr},ps[i]? =some p->(∀x∈w,x<a.K)->ps[d.run i w]? =some (Gu a b p w)
 | [],i,p,hi,_=>hi
 | x::w,i,p,hi,hw=>by
   show ps[d.run (d.to i x) w]? =some (Gu a b (toP a b p x) w)
   exact h.run (h.to hi (hw x List.mem_cons_self)) λy hy=>hw y (List.mem_cons_of_mem _ hy)
theorem jr.acc {a b:DA}{f:Bool->Bool->Bool}{d:DA}{ps:List Pr}(h:jr a b f d ps){i:Nat}{p:Pr}(hi:ps[i]? =some p):d.acc i=f (a.acc p.1) (b.acc p.2):=by
 unfold DA.acc
 rw[h.ac]
 exact tW (by rw[List.getElem?_map,hi];rfl)
theorem jr.lang {a b:DA}{f:Bool->Bool->Bool}{d:DA}{ps:List Pr}(h:jr a b f d ps)(w:List Nat):
   d.Lang d.s w ↔ (∀x∈w,x<a.K)/\f (a.acc (a.run a.s w)) (b.acc (b.run b.s w))=true:=by
 unfold DA.Lang
 rw[h.kk]
 have hs:d.s=0:=by unfold DA.s;rw[h.st];rfl
 constructor
 · rintro⟨h1,h2⟩
   rw[hs,h.acc (h.run h.first h1)]at h2
   exact⟨h1,h2⟩
 · rintro⟨h1,h2⟩
   refine⟨h1,?_⟩
   rw[hs,h.acc (h.run h.first h1)]
   exact h2
theorem G9 {n m:Nat} :∀{ps:List Pr},ps.Nodup->(∀p∈ps,p.1<n/\p.2<m)->ps.length <=n*m:=by
 intro ps hn hp
 have h1:(ps.map λp=>p.1*m+p.2).Nodup:=by
   rw[List.Nodup,List.pairwise_map]
   refine List.Pairwise.imp_of_mem (fun{p q} hpm hqm hne e=>hne ?_) hn
   have h2:=(hp p hpm).2
   have h3:=(hp q hqm).2
   have e1:(p.1*m+p.2)/m=p.1:=by rw[Nat.mul_comm,Nat.mul_add_div (by omega),Nat.div_eq_of_lt h2,Nat.add_zero]
   have e2:(q.1*m+q.2)/m=q.1:=by rw[Nat.mul_comm,Nat.mul_add_div (by omega),Nat.div_eq_of_lt h3,Nat.add_zero]
   have e3:p.1=q.1:=by rw[<- e1,<- e2,e]
   rw[e3]at e
   exact Prod.ext e3 (by omega)
 have h2:=pY (n:=n*m) h1 λx hx=>by
   obtain⟨p,hpm,rfl⟩:=List.mem_map.1 hx
   exact ud (hp p hpm).1 (hp p hpm).2
 simpa using h2
structure Gp (a b:DA)(f:Bool->Bool->Bool)(ps:List Pr)(ac:List Bool)(nx:List Int)(i x:Nat):Prop where
 first:ps[0]? =some (a.s,b.s)
 nd:ps.Nodup
 inn:∀p∈ps,p.1<a.n/\p.2<b.n
 reach:∀p∈ps,∃w:List Nat,(∀x∈w,x<a.K)/\Gu a b (a.s,b.s) w=p
 le:ac.length <=ps.length
 acs:ac=(ps.take ac.length).map λp=>f (a.acc p.1) (b.acc p.2)
 len:nx.length=ac.length*a.K
 ways:∀j y p,(j<i/\y<a.K\/j=i/\y<x)->ps[j]? =some p->∃t:Nat,nx[j*a.K+y]? =some (t:Int)/\ps[t]? =some (toP a b p y)
theorem Gp.start {a b:DA}{f:Bool->Bool->Bool}(ha:a.Ok)(hb:b.Ok):Gp a b f [(a.s,b.s)] [] [] 0 0 where
 first:=rfl
 nd:=by simp
 inn:=λp hp=>by
   rw[List.mem_singleton]at hp;subst hp;exact⟨ha.s_lt,hb.s_lt⟩
 reach:=λp hp=>by
   rw[List.mem_singleton]at hp;subst hp;exact⟨[],by simp,rfl⟩
 le:=by simp
 acs:=rfl
 len:=by simp
 ways:=λj y p h=>by omega
theorem My (a b:DA)(p:Pr)(w:List Nat)(x:Nat):Gu a b p (w++[x])=toP a b (Gu a b p w) x:=by
 unfold Gu toP
 rw[oA,oA]
 rfl
theorem Gp.state {a b:DA}{f:Bool->Bool->Bool}{ps:List Pr}{ac:List Bool}{nx:List Int}{i:Nat}(h:Gp a b f ps ac nx i 0)(hi:ac.length=i){p:Pr}(hp:ps[i]? =some p):
   Gp a b f ps (ac++[f (a.acc p.1) (b.acc p.2)]) (nx++List.replicate a.K 0) i 0 where
 first:=h.first
 nd:=h.nd
 inn:=h.inn
 reach:=h.reach
 le:=by have:=cF hp;simp;omega
 acs:=by
   have hl:=cF hp
   rw[List.length_append,List.length_singleton,hi,List.take_succ_eq_append_getElem hl,List.map_append]
   have h1:=h.acs
   rw[hi]at h1
   rw[<- h1,(List.getElem?_eq_some_iff.1 hp).2]
   rfl
 len:=by rw[List.length_append,List.length_replicate,List.length_append,List.length_singleton,Nat.succ_mul,h.len]
 ways:=λj y q hj hq=>by
   obtain⟨t,e1,e2⟩:=h.ways j y q hj hq
   exact⟨t,by rw[List.getElem?_append_left (cF e1)];exact e1,e2⟩
theorem Gp.put {a b:DA}{f:Bool->Bool->Bool}(ha:a.Ok)(hb:b.Ok)(hk:a.k=b.k){ps:List Pr}{ac:List Bool}{nx:List Int}{i x:Nat}(h:Gp a b f ps ac nx i x)(hi:ac.length=i+1)(hx:x<a.K){p:Pr}(hp:ps[i]? =some p)
   {ps':List Pr} {t:Nat} (hps:ps'=ps\/ps'=ps++[toP a b p x]/\toP a b p x ∉ ps) (ht:ps'[t]? =some (toP a b p x)):
   Gp a b f ps' ac (nx.set (i*a.K+x) (t:Int)) i (x+1):=by
 have hpm:p∈ps:=List.mem_of_getElem? hp
 have hin:=h.inn p hpm
 have hkK:b.K=a.K:=by unfold DA.K;rw[hk]
 have hq:(toP a b p x).1<a.n/\(toP a b p x).2<b.n:=⟨ha.to_lt hin.1 hx,hb.to_lt hin.2 (by rw[hkK];exact hx)⟩
 have hr:∃w:List Nat,(∀x∈w,x<a.K)/\Gu a b (a.s,b.s) w=toP a b p x:=by
   obtain⟨w,hw,e⟩:=h.reach p hpm
   refine⟨w++[x],λy hy=>?_,by rw[My,e]⟩
   rcases List.mem_append.1 hy with hy|hy
   · exact hw y hy
   · rw[List.mem_singleton]at hy;subst hy;exact hx
 have hold:∀{j:Nat} {q:Pr},ps[j]? =some q->ps'[j]? =some q:=fun{j q} hj=>by
   rcases hps with rfl|⟨rfl,_⟩
   · exact hj
   · rw[List.getElem?_append_left (cF hj)];exact hj
 have hlen:i*a.K+x<nx.length:=by rw[h.len,hi];exact ud (Nat.lt_succ_self i) hx
 have hmem:∀q∈ps',q∈ps\/q=toP a b p x:=λq hq=>by
   rcases hps with rfl|⟨rfl,_⟩
   · exact .inl hq
   · rcases List.mem_append.1 hq with hq|hq
     · exact .inl hq
     · exact .inr (List.mem_singleton.1 hq)
 refine⟨hold h.first,?_,λq hq'=>?_,λq hq'=>?_,?_,?_,by rw[List.length_set];exact h.len,λj y q hj hq'=>?_⟩
 · rcases hps with rfl|⟨rfl,hno⟩
   · exact h.nd
   · refine List.nodup_append.2 ⟨h.nd,by simp,λu hu v hv e=>?_⟩
     rw[List.mem_singleton]at hv
     subst hv
     exact hno (e▸hu)
 · rcases hmem q hq' with h1|rfl
   · exact h.inn q h1
   · exact hq
 · rcases hmem q hq' with h1|rfl
   · exact h.reach q h1
   · exact hr
 · rcases hps with rfl|⟨rfl,_⟩
   · exact h.le
   · have:=h.le;simp;omega
 · have h1:=h.acs
   rcases hps with rfl|⟨rfl,_⟩
   · exact h1
   · rw[List.take_append_of_le_length h.le];exact h1
 · have hjl:j <=i:=by omega
   have hil:i<ps.length:=cF hp
   have hq0:ps[j]? =some q:=by
     rcases hps with rfl|⟨rfl,_⟩
     · exact hq'
     · rw[List.getElem?_append_left (by omega)]at hq';exact hq'
   by_cases e:j=i/\y=x
   · obtain⟨rfl,rfl⟩:=e
     refine⟨t,by rw[List.getElem?_set_self hlen],?_⟩
     rw[hp]at hq0
     rw[<- Option.some.inj hq0]
     exact ht
   · have hy:y<a.K:=by omega
     obtain⟨t',e1,e2⟩:=h.ways j y q (by omega) hq0
     refine⟨t',?_,hold e2⟩
     rw[List.getElem?_set_ne]
     · exact e1
     · intro e3
       have hK:0<a.K:=by omega
       have h4:(i*a.K+x)/a.K=i:=by rw[Nat.mul_comm,Nat.mul_add_div hK,Nat.div_eq_of_lt hx,Nat.add_zero]
       have h5:(j*a.K+y)/a.K=j:=by rw[Nat.mul_comm,Nat.mul_add_div hK,Nat.div_eq_of_lt hy,Nat.add_zero]
       have h6:i=j:=by rw[<- h4,<- h5,e3]
       subst h6
       exact e ⟨rfl,by omega⟩
theorem Gp.row {a b:DA}{f:Bool->Bool->Bool}{ps:List Pr}{ac:List Bool}{nx:List Int}{i:Nat}(h:Gp a b f ps ac nx i a.K):Gp a b f ps ac nx (i+1) 0:=
 { h with ways:=λj y p hj hp=>h.ways j y p (by omega) hp }
theorem Gp.done {a b:DA}{f:Bool->Bool->Bool}{ps:List Pr}{ac:List Bool}{nx:List Int}{i:Nat}(h:Gp a b f ps ac nx i 0)(hi:ac.length=i)(hl:ps.length <=ac.length):jr a b f ⟨a.k,0,nx,ac⟩ ps where
 k:=rfl
 st:=rfl
 first:=h.first
 nd:=h.nd
 inn:=h.inn
 reach:=h.reach
 ac:=by
   have h1:=h.acs
   rw[List.take_of_length_le hl]at h1
   exact h1
 len:=by
   have:=h.le
   show nx.length=_
   rw[h.len,show ac.length=ps.length by omega]
 nx:=λj x p hj hx=>h.ways j x p (.inl ⟨by have:=cF hj;omega,hx⟩) hj
def Ek (m:Nat)(w v:List Nat):Prop:=if m=0 then v=w else if m=1 then w <+:v else w <+:v/\w.length<v.length
structure xG (d:DA)(w:List Nat)(m:Nat):Prop where
 ok:d.Ok
 st:d.s=1
 mm:m <=2
 n:d.n=w.length+2+m/2
 acc:∀s,s<d.n->d.acc s=decide (s=w.length+1+m/2)
 sink:∀x,x<d.K->d.to 0 x=0
 mid:∀(i x:Nat) (hi:i<w.length),x<d.K->d.to (i+1) x=if x=w[i]then i+2 else 0
 last:∀x,x<d.K->d.to (w.length+1) x=if m=0 then 0 else w.length+m
 more:m=2->∀x,x<d.K->d.to (w.length+2) x=w.length+2
theorem xG.run0 {d:DA}{w:List Nat}{m:Nat}(h:xG d w m):∀{v:List Nat},(∀x∈v,x<d.K)->d.run 0 v=0
 | [],_=>rfl
 | x::v,hv=>by
   show d.run (d.to 0 x) v=0
   rw[h.sink x (hv x List.mem_cons_self)]
   exact h.run0 λy hy=>hv y (List.mem_cons_of_mem _ hy)
theorem xG.runM {d:DA}{w:List Nat}{m s:Nat}(h:xG d w m)(hs:∀x,x<d.K->d.to s x=s):∀{v:List Nat},(∀x∈v,x<d.K)->d.run s v=s
 | [],_=>rfl
 | x::v,hv=>by
   show d.run (d.to s x) v=s
   rw[hs x (hv x List.mem_cons_self)]
   exact h.runM hs λy hy=>hv y (List.mem_cons_of_mem _ hy)
theorem xG.acc_at {d:DA}{w:List Nat}{m s:Nat}(h:xG d w m)(hs:s<w.length+2+m/2):d.acc s=true ↔ s=w.length+1+m/2:=by
 rw[h.acc s (by rw[h.n];exact hs)];simp
theorem NF {w:List Nat}{i:Nat}(h:i<w.length):w.drop i=w[i]::w.drop (i+1):=List.drop_eq_getElem_cons h
theorem xG.from {d:DA}{w:List Nat}{m:Nat}(h:xG d w m):∀{v:List Nat} {i:Nat},i <=w.length->(∀x∈v,x<d.K)->(d.acc (d.run (i+1) v)=true ↔ Ek m (w.drop i) v)
 | [],i,hi,_=>by
   have hm:=h.mm
   show d.acc (i+1)=true ↔ _
   rw[h.acc_at (by omega)]
   unfold Ek
   by_cases h0:m=0
   · subst h0
     simp only[if_true]
     constructor
     · intro e;rw[List.drop_eq_nil_of_le (by omega)]
     · intro e
       have:=congrArg List.length e
       simp only[List.length_nil,List.length_drop]at this
       omega
   · rw[if_neg h0]
     by_cases h1:m=1
     · subst h1
       simp only[if_true,List.prefix_nil,List.drop_eq_nil_iff]
       omega
     · rw[if_neg h1]
       simp only[List.length_nil]
       omega
 | x::v,i,hi,hv=>by
   have hm:=h.mm
   have hx:=hv x List.mem_cons_self
   have hv':∀y∈v,y<d.K:=λy hy=>hv y (List.mem_cons_of_mem _ hy)
   show d.acc (d.run (d.to (i+1) x) v)=true ↔ _
   rcases Nat.lt_or_ge i w.length with hlt|hge
   · rw[h.mid i x hlt hx,NF hlt]
     by_cases e:x=w[i]
     · rw[if_pos e,h.from (i:=i+1) hlt hv']
       unfold Ek
       subst e
       simp only[List.cons.injEq,true_and,List.cons_prefix_cons,List.length_cons,Nat.add_lt_add_iff_right]
     · rw[if_neg e,h.run0 hv',h.acc_at (by omega)]
       have hne: ¬ (x::v=w[i]::w.drop (i+1)):=λh0=>e (List.cons.inj h0).1
       have hnp: ¬ (w[i]::w.drop (i+1) <+:x::v):=λh0=>e (List.cons_prefix_cons.1 h0).1.symm
       constructor
       · intro h0;omega
       · intro h0
         unfold Ek at h0
         split at h0
         · exact(hne h0).elim
         · split at h0
           · exact(hnp h0).elim
           · exact(hnp h0.1).elim
   · have hi':i=w.length:=by omega
     subst hi'
     rw[List.drop_length,h.last x hx]
     unfold Ek
     by_cases h0:m=0
     · subst h0
       rw[if_pos rfl,h.run0 hv',h.acc_at (by omega)]
       simp
     · rw[if_neg h0,if_neg h0]
       by_cases h1:m=1
       · subst h1
         rw[h.runM (λy hy=>by rw[h.last y hy];simp) hv',h.acc_at (by omega)]
         simp
       · have h2:m=2:=by omega
         subst h2
         rw[h.runM (h.more rfl) hv',h.acc_at (by omega)]
         simp
theorem xG.lang {d:DA}{w:List Nat}{m:Nat}(h:xG d w m)(v:List Nat):d.Lang d.s v ↔ (∀x∈v,x<d.K)/\Ek m w v:=by
 unfold DA.Lang
 rw[h.st]
 refine and_congr_right λhv=>?_
 have:=h.from (i:=0) (Nat.zero_le _) hv
 simpa using this
def se (k:Nat)(t:Int):List Int:=List.replicate k t
def iu (k:Nat):List Nat->Nat->List Int
 | [],_=>[]
 | x::w,s=>(se k 0).set x ((s+1:Nat):Int)++iu k w (s+1)
theorem BR (k:Nat):∀(u:List Nat) (x s:Nat),iu k (u++[x]) s=iu k u s++(se k 0).set x ((s+u.length+1:Nat):Int)
 | [],x,s=>by simp[iu]
 | y::u,x,s=>by
   simp only[List.cons_append,iu]
   rw[BR k u x (s+1),List.append_assoc]
   simp only[List.length_cons]
   rw[show s+1+u.length+1=s+(u.length+1)+1 by omega]
theorem qS (k:Nat):∀(u:List Nat) (s:Nat),(iu k u s).length=u.length*k
 | [],s=>by simp[iu]
 | y::u,s=>by
   simp only[iu,List.length_append,List.length_set,se,List.length_replicate,List.length_cons,Nat.succ_mul,qS k u (s+1)]
   omega
theorem Q7 {nx A R B:List Int}{s k x:Nat}(e:nx=A++(R++B))(hA:A.length=s*k)(hR:R.length=k)(hx:x<k):nx.getD (s*k+x) 0=R.getD x 0:=by
 subst e
 rw[List.getD_eq_getElem?_getD,List.getD_eq_getElem?_getD,List.getElem?_append_right (by omega),hA,show s*k+x-s*k=x by omega,List.getElem?_append_left (by omega)]
theorem El (k:Nat):∀(u:List Nat) (s i:Nat) (hi:i<u.length),iu k u s=iu k (u.take i) s++((se k 0).set u[i] ((s+i+1:Nat):Int)++iu k (u.drop (i+1)) (s+i+1))
 | [],_,_,h=>absurd h (Nat.not_lt_zero _)
 | y::u,s,0,_=>by simp[iu]
 | y::u,s,i+1,h=>by
   have hi:i<u.length:=by simpa using h
   have e:=El k u (s+1) i hi
   simp only[List.take_succ_cons,List.drop_succ_cons,List.getElem_cons_succ,iu]
   rw[e,List.append_assoc]
   rw[show s+1+i+1=s+(i+1)+1 by omega]
theorem Cs {k x:Nat}(t:Int)(hx:x<k):(se k t).getD x 0=t:=by simp[se,List.getD_eq_getElem?_getD,hx]
theorem GW {k x y:Nat}(v:Int)(hx:x<k)(hy:y<k):((se k 0).set y v).getD x 0=if x=y then v else 0:=by
 rw[List.getD_eq_getElem?_getD]
 by_cases e:x=y
 · subst e
   rw[List.getElem?_set_self (by simpa[se]using hx),if_pos rfl];rfl
 · rw[List.getElem?_set_ne (λe2=>e e2.symm),if_neg e]
   simp[se,hx]
def Ia (k:Nat)(w:List Nat)(t:Int):List Int:=se k 0++(iu k w 1++se k t)
def J3 (w:List Nat):List Bool:=List.replicate (w.length+1) false++[true]
def chD (k:Nat)(w:List Nat)(t:Int):DA:=⟨(k:Int),1,Ia k w t,J3 w⟩
theorem jg (w:List Nat):(J3 w).length=w.length+2:=by simp[J3]
theorem rL (k:Nat)(w:List Nat)(t:Int):(Ia k w t).length=(w.length+2)*k:=by
 simp only[Ia,List.length_append,se,List.length_replicate,qS]
 rw[show w.length+2=w.length+1+1 by omega,Nat.succ_mul,Nat.succ_mul]
 omega
theorem ED (k:Nat):∀(u:List Nat) (s:Nat) (v:Int),v∈iu k u s->v=0\/((s:Int)<v/\v <=((s+u.length:Nat):Int))
 | [],s,v,h=>by simp[iu]at h
 | y::u,s,v,h=>by
   simp only[iu,List.mem_append]at h
   rcases h with h|h
   · rcases List.mem_or_eq_of_mem_set h with h|h
     · simp[se,List.mem_replicate]at h;exact .inl h.2
     · simp only[List.length_cons];omega
   · rcases ED k u (s+1) v h with h|h
     · exact .inl h
     · simp only[List.length_cons];omega
theorem Oi {w:List Nat}{s:Nat}(hs:s<w.length+2):(J3 w).getD s false=decide (s=w.length+1):=by
 unfold J3
 rw[List.getD_eq_getElem?_getD]
 by_cases e:s=w.length+1
 · subst e
   rw[List.getElem?_append_right (by simp)]
   simp
 · rw[List.getElem?_append_left (by simp;omega),List.getElem?_replicate,if_pos (by omega)]
   simp[e]
theorem FF {k:Nat}(hk1:1 <=k)(hk2:k <=512){w:List Nat}(hw:∀x∈w,x<k)(hl:w.length <=65534)(m:Nat)(hm:m<2):xG (chD k w (if m=0 then 0 else((w.length+1:Nat):Int))) w m:=by
 have hK:(chD k w (if m=0 then 0 else((w.length+1:Nat):Int))).K=k:=by simp[DA.K,chD]
 have hto:∀{s x:Nat} {A R B:List Int},Ia k w (if m=0 then 0 else((w.length+1:Nat):Int))=A++(R++B)->A.length=s*k->R.length=k->x<k->(chD k w (if m=0 then 0 else((w.length+1:Nat):Int))).to s x=(R.getD x 0).toNat:=λe hA hR hx=>by
   unfold DA.to
   rw[hK]
   exact congrArg Int.toNat (Q7 e hA hR hx)
 have hn:(chD k w (if m=0 then 0 else((w.length+1:Nat):Int))).n=w.length+2:=jg w
 have hm2:m/2=0:=by omega
 refine⟨⟨?_,?_,?_,?_,?_,?_,?_,?_⟩,rfl,by omega,by rw[hn,hm2],λs hs=>?_,λx hx=>?_,λi x hi hx=>?_,λx hx=>?_,λe=>by omega⟩
 · show(1:Int) <=(k:Int);omega
 · show(k:Int) <=512;omega
 · rw[show(chD k w (if m=0 then 0 else((w.length+1:Nat):Int))).ac=J3 w from rfl,jg];omega
 · rw[show(chD k w (if m=0 then 0 else((w.length+1:Nat):Int))).ac=J3 w from rfl,jg];omega
 · show((Ia k w _).length:Int)=((J3 w).length:Int)*(k:Int)
   rw[rL,jg,Int.natCast_mul]
 · show(0:Int) <=1;omega
 · show(1:Int)<((J3 w).length:Int);rw[jg];omega
 · intro v hv
   show 0 <=v/\v<((J3 w).length:Int)
   rw[jg]
   have hv':v∈Ia k w (if m=0 then 0 else((w.length+1:Nat):Int)):=hv
   unfold Ia at hv'
   rcases List.mem_append.1 hv' with h|h
   · simp[se,List.mem_replicate]at h;omega
   · rcases List.mem_append.1 h with h|h
     · rcases ED k w 1 v h with h|h <;> omega
     · have:=(List.mem_replicate.1 h).2
       split at this <;> omega
 · show(J3 w).getD s false=_
   rw[hn]at hs
   rw[Oi hs,hm2]
   try simp
 · rw[hK]at hx
   rw[hto (A:=[]) (s:=0) (x:=x) (by unfold Ia;rfl) (by simp) (by simp[se]) hx,Cs _ hx]
   try rfl
 · rw[hK]at hx
   have e:=El k w 1 i hi
   rw[hto (A:=se k 0++iu k (w.take i) 1) (s:=i+1) (x:=x) (R:=(se k 0).set w[i] ((1+i+1:Nat):Int)) (by unfold Ia;rw[e];simp only[List.append_assoc];rfl)
     (by rw[List.length_append,qS,List.length_take,Nat.min_eq_left (by omega),se,List.length_replicate,Nat.succ_mul];omega) (by simp[se]) hx,GW _ hx (hw _ (List.getElem_mem hi))]
   split
   · show(((1+i+1:Nat):Int)).toNat=i+2
     omega
   · rfl
 · rw[hK]at hx
   rw[hto (A:=se k 0++iu k w 1) (s:=w.length+1) (x:=x) (B:=[]) (by unfold Ia;simp only[List.append_assoc,List.append_nil];rfl)
     (by rw[List.length_append,qS,se,List.length_replicate,Nat.succ_mul];omega) (by simp[se]) hx,Cs _ hx]
   split
   · rfl
   · have:m=1:=by omega
     subst this;rfl
def setRow (k at_:Nat)(v:Int)(nx:List Int):Nat->List Int
 | 0=>nx
 | j+1=>(setRow k at_ v nx j).set (at_*k+j) v
theorem rA (k a:Nat)(v:Int)(nx:List Int):∀j,(setRow k a v nx j).length=nx.length
 | 0=>rfl
 | j+1=>by simp[setRow,rA k a v nx j]
theorem z7 (k a:Nat)(v:Int)(nx:List Int):∀j i,(setRow k a v nx j)[i]? =if a*k <=i/\i<a*k+j/\i<nx.length then some v else nx[i]?
 | 0,i=>by rw[setRow,if_neg (by omega)]
 | j+1,i=>by
   rw[setRow,List.getElem?_set,rA,z7 k a v nx j i]
   by_cases e:a*k+j=i
   · subst e
     rw[if_pos rfl]
     by_cases hl:a*k+j<nx.length
     · rw[if_pos hl,if_pos (by omega)]
     · rw[if_neg hl,if_neg (by omega),List.getElem?_eq_none (by omega)]
   · rw[if_neg e]
     by_cases h1:a*k <=i/\i<a*k+j/\i<nx.length
     · rw[if_pos h1,if_pos (by omega)]
     · rw[if_neg h1,if_neg (by omega)]
theorem PM {k:Nat}(hk1:1 <=k)(hk2:k <=512){w:List Nat}(hw:∀x∈w,x<k)(hl:w.length <=65533){nx:List Int}{ac:List Bool}
   (hnx:nx=setRow k (w.length+1) ((w.length+2:Nat):Int) (Ia k w ((w.length+1:Nat):Int)++se k ((w.length+2:Nat):Int)) k) (hac:ac=(J3 w).set (w.length+1) false++[true]):
   xG ⟨(k:Int),1,nx,ac⟩ w 2:=by
 have hb:=FF hk1 hk2 hw (by omega) 1 (by omega)
 simp only[show(1:Nat)≠0 by omega,if_false]at hb
 have hKb:(chD k w ((w.length+1:Nat):Int)).K=k:=by simp[DA.K,chD]
 have hnb:(chD k w ((w.length+1:Nat):Int)).n=w.length+2:=jg w
 have hlen:nx.length=(w.length+3)*k:=by
   rw[hnx,rA,List.length_append,rL,se,List.length_replicate,<- Nat.succ_mul]
 have hacl:ac.length=w.length+3:=by rw[hac];simp[jg]
 have hK:(⟨(k:Int),1,nx,ac⟩:DA).K=k:=by simp[DA.K]
 have hto:∀s x,x<k->s<w.length+3->(⟨(k:Int),1,nx,ac⟩:DA).to s x=if s<w.length+1 then(chD k w ((w.length+1:Nat):Int)).to s x else w.length+2:=λs x hx hs=>by
   have hlt:=ud hs hx
   unfold DA.to
   rw[hK,hKb]
   show(nx.getD (s*k+x) 0).toNat=_
   have hl2:(Ia k w ((w.length+1:Nat):Int)++se k ((w.length+2:Nat):Int)).length=(w.length+3)*k:=by
     rw[List.length_append,rL,se,List.length_replicate,<- Nat.succ_mul]
   rw[hnx,List.getD_eq_getElem?_getD,z7,hl2]
   have e1:(w.length+2)*k=(w.length+1)*k+k:=by rw[<- Nat.succ_mul]
   by_cases h1:s<w.length+1
   · have h2:=ud h1 hx
     rw[if_neg (by omega),if_pos h1,List.getElem?_append_left (by rw[rL];omega),<- List.getD_eq_getElem?_getD]
     rfl
   · rw[if_neg h1]
     by_cases h3:s=w.length+1
     · subst h3
       rw[if_pos ⟨by omega,by omega,hlt⟩];rfl
     · have h4:s=w.length+2:=by omega
       subst h4
       rw[if_neg (by omega),List.getElem?_append_right (by rw[rL];omega),rL,show(w.length+2)*k+x-(w.length+2)*k=x by omega,<- List.getD_eq_getElem?_getD,Cs _ hx]
       rfl
 refine⟨⟨by show(1:Int) <=(k:Int);omega,by show(k:Int) <=512;omega,by show 1 <=ac.length;omega,by show ac.length <=65536;omega,by show(nx.length:Int)=(ac.length:Int)*(k:Int);rw[hlen,hacl,Int.natCast_mul],by show(0:Int) <=1;omega,by show(1:Int)<(ac.length:Int);omega,λv hv=>?_⟩,rfl,by omega,hacl,λs hs=>?_,λx hx=>?_,λi x hi hx=>?_,λx hx=>?_,λ_ x hx=>?_⟩
 · show 0 <=v/\v<(ac.length:Int)
   obtain⟨i,hi,e⟩:=List.mem_iff_getElem.1 hv
   have hi':i<nx.length:=hi
   have e':nx[i]? =some v:=by rw[List.getElem?_eq_getElem hi'];exact congrArg some e
   have hs:i/k<w.length+3:=Nat.div_lt_of_lt_mul (by rw[Nat.mul_comm];omega)
   have hx:i%k<k:=Nat.mod_lt _ (by omega)
   rw[hnx,z7]at e'
   split at e'
   · have:=Option.some.inj e';omega
   · rcases Nat.lt_or_ge i (Ia k w ((w.length+1:Nat):Int)).length with h|h
     · rw[List.getElem?_append_left h]at e'
       have h0:=hb.ok.nx0 v (List.mem_of_getElem? e')
       have h1:((chD k w ((w.length+1:Nat):Int)).ac.length:Int)=((w.length+2:Nat):Int):=congrArg Int.ofNat hnb
       omega
     · rw[List.getElem?_append_right h]at e'
       have:=List.mem_of_getElem? e'
       have:=(List.mem_replicate.1 this).2
       omega
 · have hs':s<w.length+3:=by have:s<ac.length:=hs;omega
   show ac.getD s false=decide (s=w.length+1+2/2)
   rw[hac,List.getD_eq_getElem?_getD]
   rcases Nat.lt_or_ge s (w.length+2)with h|h
   · rw[List.getElem?_append_left (by simp[jg];omega),List.getElem?_set]
     by_cases e:w.length+1=s
     · subst e;simp[jg]
     · rw[if_neg e,<- List.getD_eq_getElem?_getD,Oi h]
       have h1: ¬ s=w.length+1:=λe2=>e e2.symm
       have h2: ¬ s=w.length+1+2/2:=by omega
       simp[h1]
       omega
   · have:s=w.length+2:=by omega
     subst this
     rw[List.getElem?_append_right (by simp[jg])]
     simp[jg]
 · rw[hK]at hx
   rw[hto 0 x hx (by omega),if_pos (by omega)]
   exact hb.sink x (by rw[hKb];exact hx)
 · rw[hK]at hx
   rw[hto (i+1) x hx (by omega),if_pos (by omega)]
   exact hb.mid i x hi (by rw[hKb];exact hx)
 · rw[hK]at hx
   rw[hto _ x hx (by omega),if_neg (by omega)]
   rfl
 · rw[hK]at hx
   rw[hto _ x hx (by omega),if_neg (by omega)]
theorem xG.to_up {d:DA}{w:List Nat}{m:Nat}(h:xG d w m){s x:Nat}(hs:s<d.n)(hx:x<d.K):d.to s x=0\/s <=d.to s x:=by
 have hm:=h.mm
 have hn:=h.n
 rcases Nat.eq_zero_or_pos s with rfl|h0
 · exact .inl (h.sink x hx)
 · obtain⟨i,rfl⟩:∃i,s=i+1:=⟨s-1,by omega⟩
   rcases Nat.lt_trichotomy i w.length with hi|hi|hi
   · rw[h.mid i x hi hx]
     split
     · right;omega
     · exact .inl rfl
   · subst hi
     rw[h.last x hx]
     split
     · exact .inl rfl
     · right;omega
   · have h2:m=2:=by omega
     have h3:i=w.length+1:=by omega
     subst h3
     right
     rw[show w.length+1+1=w.length+2 by omega,h.more h2 x hx]
     exact Nat.le_refl _
theorem xG.run_up {d:DA}{w:List Nat}{m:Nat}(h:xG d w m):∀{v:List Nat} {s:Nat},s<d.n->(∀x∈v,x<d.K)->d.run s v=0\/s <=d.run s v
 | [],s,_,_=>.inr (Nat.le_refl _)
 | x::v,s,hs,hv=>by
   have hx:=hv x List.mem_cons_self
   have hv':∀y∈v,y<d.K:=λy hy=>hv y (List.mem_cons_of_mem _ hy)
   show d.run (d.to s x) v=0\/s <=d.run (d.to s x) v
   rcases h.to_up hs hx with e|e
   · rw[e];exact .inl (h.run0 hv')
   · rcases h.run_up (h.ok.to_lt hs hx) hv' with e2|e2
     · exact .inl e2
     · exact .inr (Nat.le_trans e e2)
theorem xG.run_at {d:DA}{w:List Nat}{m:Nat}(h:xG d w m){i:Nat}(hi:i<w.length):∀{v:List Nat} {j:Nat},j <=i->(∀x∈v,x<d.K)->(d.run (j+1) v=i+1 ↔ v=(w.take i).drop j)
 | [],j,hj,_=>by
   show j+1=i+1 ↔ _
   constructor
   · intro e
     have:j=i:=by omega
     subst this
     rw[List.drop_eq_nil_of_le (by rw[List.length_take];omega)]
   · intro e
     have:=congrArg List.length e
     rw[List.length_nil,List.length_drop,List.length_take]at this
     omega
 | x::v,j,hj,hv=>by
   have hx:=hv x List.mem_cons_self
   have hv':∀y∈v,y<d.K:=λy hy=>hv y (List.mem_cons_of_mem _ hy)
   have hn:=h.n
   show d.run (d.to (j+1) x) v=i+1 ↔ _
   rw[h.mid j x (by omega) hx]
   rcases Nat.lt_or_ge j i with hlt|hge
   · have e:(w.take i).drop j=w[j]'(by omega)::(w.take i).drop (j+1):=by
       rw[List.drop_eq_getElem_cons (by rw[List.length_take];omega),List.getElem_take]
     rw[e]
     by_cases ex:x=w[j]'(by omega)
     · rw[if_pos ex,h.run_at hi (j:=j+1) hlt hv',ex]
       simp
     · rw[if_neg ex,h.run0 hv']
       simp[ex]
   · have:j=i:=by omega
     subst this
     rw[List.drop_eq_nil_of_le (by rw[List.length_take];omega)]
     simp only[reduceCtorEq,iff_false]
     split
     · rcases h.run_up (s:=j+2) (v:=v) (by omega) hv' with e|e <;> omega
     · rw[h.run0 hv'];omega
theorem NT {d:DA}{a:Nat}(ha:a<d.n)(v:List Nat):(⟨d.k,d.st,d.nx,d.ac.set a true⟩:DA).Lang d.s v ↔ (∀x∈v,x<d.K)/\(d.acc (d.run d.s v)=true\/d.run d.s v=a):=by
 have hr:∀(v:List Nat) (s:Nat),(⟨d.k,d.st,d.nx,d.ac.set a true⟩:DA).run s v=d.run s v:=by
   intro v
   induction v with
   | nil=>intro s;rfl
   | cons x v ih=>intro s;exact ih _
 unfold DA.Lang
 refine and_congr_right λ_=>?_
 rw[hr]
 unfold DA.acc
 rw[List.getD_eq_getElem?_getD,List.getElem?_set]
 by_cases e:a=d.run d.s v
 · rw[if_pos e,if_pos ha]
   exact⟨λ_=>.inr e.symm,λ_=>rfl⟩
 · rw[if_neg e,List.getD_eq_getElem?_getD]
   exact⟨λh=>.inl h,λh=>h.elim id λe2=>absurd e2.symm e⟩
theorem Q1 {d:DA}(h:d.Ok)(a:Nat):(⟨d.k,d.st,d.nx,d.ac.set a true⟩:DA).Ok:=by
 have e:(d.ac.set a true).length=d.ac.length:=by simp
 refine⟨h.k1,h.k2,?_,?_,?_,h.s0,?_,?_⟩ <;> simp only[e]
 · exact h.n1
 · exact h.n2
 · exact h.len
 · exact h.s1
 · exact h.nx0
def noD (k:Nat):DA:=⟨(k:Int),0,List.replicate k 0,[false]⟩
theorem EF {k:Nat}(h1:1 <=k)(h2:k <=512):(noD k).Ok:=by
 refine⟨?_,?_,?_,?_,?_,?_,?_,λv hv=>?_⟩
 · show(1:Int) <=(k:Int);omega
 · show(k:Int) <=512;omega
 · show 1 <=1;omega
 · show 1 <=65536;omega
 · show((List.replicate k (0:Int)).length:Int)=((1:Nat):Int)*(k:Int);rw[List.length_replicate];omega
 · show(0:Int) <=0;omega
 · show(0:Int)<((1:Nat):Int);omega
 · have:=(List.mem_replicate.1 (show v∈List.replicate k (0:Int) from hv)).2
   subst this
   show(0:Int) <=0/\(0:Int)<((1:Nat):Int)
   omega
theorem Bu {k:Nat}(v:List Nat)(s:Nat): ¬ (noD k).Lang s v:=by
 rintro⟨_,h⟩
 unfold DA.acc noD at h
 generalize ((⟨(k:Int),0,List.replicate k 0,[false]⟩:DA).run s v)=t at h
 cases t <;> simp at h
structure KQ (tm ti tb:TypeId)(w:World)(km:Nat)(a:Option Addr)(n c:Nat)(b:Option Addr)(m e:Nat)(d:DA):Prop where
 var:am w km tm [vI d.k,vI d.st,.slice a n c,.slice b m e]
 nx:Ow cI ti w NoB a n c d.nx
 ac:Ow lH tb w NoB b m e d.ac
 na:∀g,bK a=some g->g≠km
 nb:∀g,bK b=some g->g≠km
 ne:∀g,bK a=some g->bK b≠some g
theorem KQ.below {tm ti tb:TypeId}{w w':World}{km:Nat}{a b:Option Addr}{n c m e:Nat}{d:DA}(h:KQ tm ti tb w km a n c b m e d)(hb:bW w w'):KQ tm ti tb w' km a n c b m e d:=⟨h.var.below hb,h.nx.below hb,h.ac.below hb,h.na,h.nb,h.ne⟩
def nB (km:Nat)(a b:Option Addr):List Nat:=km::((bK a).toList++(bK b).toList)
theorem dv {km x:Nat}{a b:Option Addr} :x∈nB km a b ↔ x=km\/bK a=some x\/bK b=some x:=by simp[nB]
def oD (w:World)(a a':Option Addr):Prop:=∀g,bK a'=some g->bK a=some g\/w.heap.size <=g
theorem Ow.other {α:Type}{T:Ty α}{t:TypeId}{w w':World}{a b:Option Addr}{n c:Nat}{xs:List α}(h:Ow T t w NoB a n c xs)(hg:w.grownBy w' (bK b))(hne:∀g,bK a=some g->bK b≠some g):Ow T t w' NoB a n c xs:=
 h.keep (lZ hg λk hk e=>by
   rcases hk with hk|hk
   · exact hk
   · exact hne k hk.symm e.symm)
abbrev Mk:=KQ lN aw aX
theorem NX (k:Nat):(Option.map (λx=>x.add 0) (some (⟨k,0,none⟩:Addr)))=some ⟨k,0,none⟩:=by simp[Addr.add]
theorem P0 (k o:Nat):(Option.map (λx=>x.add o) (some (⟨k,0,none⟩:Addr)))=some ⟨k,o,none⟩:=by
 simp only[Option.map_some,fB,Nat.zero_add]
theorem BC {w:World}{km:Nat}{a b:Option Addr}{n c m e:Nat}{d:DA}(h:Mk w km a n c b m e d)(hk1:1 <=d.k)(hk2:d.k <=512)(hm:d.ac.length <=200000)(hnx:d.nx.length <=200000*512)(acc:Bool)(t:Int):
   Cf dt #[.pointer (some ⟨km,0,none⟩),.bool acc,vI t] w
     (Ret λv w'=>v=vI ((d.ac.length:Nat):Int)/\∃a' n' c' b' m' e',Mk w' km a' n' c' b' m' e' ⟨d.k,d.st,d.nx++List.replicate d.K t,d.ac++[acc]⟩/\Chg (nB km a b) w w'/\oD w a a'/\oD w b b'):=by
 apply xr
 have hlt:=h.var.lt
 have hml:=h.ac.len
 have hnl:=h.nx.len
 simp only[NX,P0]
 refine⟨rfl,rfl,rfl,b,m,e,h.var.load1 bf rfl rfl,?_⟩
 intro k14 w14 hk14 hw14
 have hb14:=(hw14▸ah w _:bW w w14)
 have H14:=h.below hb14
 have hsrc:Src lH w14 NoB (some ⟨k14,0,none⟩) 1 [acc]:=Src.new1F xW hk14 hw14 vh
 obtain⟨w15,b1,m1,e1,r15,o15,g15,f15⟩:=dh (ty:=aO) bf qO (by decide) H14.ac (λ_ _ h=>h) (cm:=1) hsrc (by simp;omega)
 have hs14:=hb14.size
 have v15:=H14.var.grown g15 λex=>h.nb km ex.symm rfl
 have x15:=H14.nx.other g15 h.ne
 have hne1:∀g,bK b1=some g->g≠km:=λg hg ex=>by
   rcases f15 g hg with h1|h1
   · exact h.nb g h1 ex
   · omega
 obtain⟨wx,sx,vx,gx⟩:=v15.store z8 (i:=3) (v:=.slice b1 m1 e1) rfl (by simp) (by intro c hc;simp[Value.cells]at hc;subst hc;rfl)
 have vx:am wx km lN [vI d.k,vI d.st,.slice a n c,.slice b1 m1 e1]:=vx
 have xx:=x15.put (λg hg ex=>h.na g hg ex) gx
 have ox:=o15.put (λg hg ex=>hne1 g hg ex) gx
 have cx:Chg (nB km a b) w wx:=by
   have c1:Chg (nB km a b) w w14:=Chg.of hb14
   have c2:Chg (nB km a b) w14 w15:=(Chg.row g15).mono λk hk=>dv.2 (.inr (.inr (by simpa using hk)))
   exact(c1.trans c2).trans (Chg.grown gx (dv.2 (.inl rfl)))
 have hsx:=cx.size
 have hne15:∀g,bK a=some g->bK b1≠some g:=λg hg ex=>by
   rcases f15 g ex with h1|h1
   · exact h.ne g hg h1
   · have:=h.nx.lt g hg;omega
 refine⟨w15,b1,m1,e1,r15,rfl,rfl,rfl,wx,sx,rfl,rfl,rfl,rfl,rfl,rfl,a,n,c,λu hu=>(vx.below hu).load1 aI rfl rfl,d.k,λu hu=>(vx.below hu).load1 aB rfl rfl,λk26 hk26=>?_⟩
 have hKk:(d.K:Int)=d.k:=by show((d.k.toNat:Nat):Int)=d.k;omega
 have hK1:1 <=d.K/\d.K <=512:=by show 1 <=d.k.toNat/\d.k.toNat <=512;omega
 refine⟨λaa ll cc W=>∃a':Option Addr,aa=a'/\ll=d.K/\cc=d.K/\Sl cI W (λg=>wx.heap.size <=g) aa ll cc (List.replicate d.K t),?_,?_,?_⟩
 · rintro aa ll cc x y ⟨a',rfl,rfl,rfl,hs⟩ hb
   exact⟨_,rfl,rfl,rfl,hs.below hb⟩
 · intro u32 hu hcell
   have hsl:Sl cI u32 kj (some ⟨k26,0,none⟩) 1 1 [t]:=by
     refine⟨rfl,Nat.le_refl _,by decide,.inr ⟨k26,0,rfl,(Array.getElem?_eq_some_iff.1 hcell).1,trivial,[vI t],iK.one eE,λj hj=>?_⟩⟩
     rw[gR hcell,Nat.zero_add];simp
   rw[<- hKk]
   refine(rk hsl hK1.1 (by omega)).mono ?_
   rintro _ w32 ⟨_,rfl,a',rfl,ho,hf,hb⟩
   refine⟨a',d.K,d.K,rfl,⟨a',rfl,rfl,rfl,ho.sl (λb _ hb=>hb.elim) λg hg=>?_⟩,hb⟩
   have:=hf g hg
   have:=hu.size
   omega
 rintro aa ll cc wq hq ⟨a',rfl,rfl,rfl,hs⟩ hcell
 have vq:=vx.below hq
 have xq:=xx.below hq
 have oq:=ox.below hq
 obtain⟨w33,a3,n3,c3,r33,o33,g33,f33⟩:=dh (ty:=ar) aI ff (by decide) xq (λ_ _ h=>h) (cm:=d.K) (hs.flat fG) (by simp;omega)
 have v33:=vq.grown g33 λex=>h.na km ex.symm rfl
 have hqs:=hq.size
 have hne3:∀g,bK a3=some g->g≠km:=λg hg ex=>by
   rcases f33 g hg with h1|h1
   · exact h.na g h1 ex
   · omega
 have o33b:=oq.other g33 λg hg ex=>hne15 g ex hg
 obtain⟨w5,s5,v5,g5⟩:=v33.store iY (i:=2) (v:=.slice a3 n3 c3) rfl (by simp) (by intro c hc;simp[Value.cells]at hc;subst hc;rfl)
 have v5:am w5 km lN [vI d.k,vI d.st,.slice a3 n3 c3,.slice b1 m1 e1]:=v5
 refine⟨w33,a3,n3,c3,r33,rfl,rfl,rfl,w5,s5,rfl,rfl,rfl,b1,m1,e1,v5.load1 bf rfl rfl,?_,a3,n3,c3,b1,m1,e1,⟨v5,o33.put (λg hg ex=>hne3 g hg ex) g5,o33b.put (λg hg ex=>hne1 g hg ex) g5,hne3,hne1,λg hg ex=>?_⟩,?_,λg hg=>?_,λg hg=>?_⟩
 · have:=o15.len
   rw[this,List.length_append,List.length_singleton,wrap_i64 (by omega) (by omega)]
   congr 1;omega
 · rcases f33 g hg with h1|h1
   · exact hne15 g h1 ex
   · have:=ox.lt g ex;omega
 · have c2:Chg (nB km a b) wx wq:=Chg.of hq
   have c3':Chg (nB km a b) wq w33:=(Chg.row g33).mono λk hk=>dv.2 (.inr (.inl (by simpa using hk)))
   exact((cx.trans c2).trans c3').trans (Chg.grown g5 (dv.2 (.inl rfl)))
 · rcases f33 g hg with h1|h1
   · exact .inl h1
   · exact .inr (by omega)
 · rcases f15 g hg with h1|h1
   · exact .inl h1
   · exact .inr (by omega)
structure zb (B:Nat)(w:World)(a:Option Addr)(n c:Nat)(b:Option Addr)(m e:Nat)(d:DA):Prop where
 nx:Ow cI aw w NoB a n c d.nx
 ac:Ow lH aX w NoB b m e d.ac
 ne:∀g,bK a=some g->bK b≠some g
 fa:bI B a
 fb:bI B b
theorem zb.das {B:Nat}{w:World}{a b:Option Addr}{n c m e:Nat}{d:DA}(h:zb B w a n c b m e d):DaS w a n c b m e d:=⟨h.nx.all,h.ac.all⟩
theorem zb.below {B:Nat}{w w':World}{a b:Option Addr}{n c m e:Nat}{d:DA}(h:zb B w a n c b m e d)(hb:bW w w'):zb B w' a n c b m e d:=⟨h.nx.below hb,h.ac.below hb,h.ne,h.fa,h.fb⟩
theorem zb.mono {B B':Nat}{w:World}{a b:Option Addr}{n c m e:Nat}{d:DA}(h:zb B w a n c b m e d)(hB:B' <=B):zb B' w a n c b m e d:=⟨h.nx,h.ac,h.ne,h.fa.mono hB,h.fb.mono hB⟩
def vo (w:World)(d:DA)(v:Value)(w':World):Prop:=∃(a:Option Addr) (n c:Nat) (b:Option Addr) (m e:Nat),v=.tuple #[daV a n c b m e d,vI 0]/\zb w.heap.size w' a n c b m e d/\bW w w'
theorem oD.fresh {B:Nat}{w:World}{a a':Option Addr}(h:oD w a a')(hf:bI B a)(hB:B <=w.heap.size):bI B a':=λg hg=>by
 rcases h g hg with h1|h1
 · exact hf g h1
 · omega
def chS (k:Nat)(wn:List Nat)(i:Nat):DA:=⟨(k:Int),1,se k 0++iu k (wn.take i) 1,List.replicate (i+1) false⟩
theorem Ps (k:Nat)(wn:List Nat){i:Nat}(hi:i <=wn.length):(chS k wn i).nx.length=(i+1)*k:=by
 show(se k 0++iu k (wn.take i) 1).length=_
 rw[List.length_append,qS,List.length_take,Nat.min_eq_left hi,se,List.length_replicate,Nat.succ_mul];omega
theorem Ja {w:World}{A:Bl}{a:Option Addr}{n c:Nat}{k:Nat}{wn:List Nat}(hs:Sl cI w A a n c (wn.map fun(x:Nat)=>(x:Int)))(hk1:1 <=k)(hk2:k <=512)(hw:∀x∈wn,x<k)(hl:wn.length <=65534)(stays:Bool):
   Cf rP #[vI (k:Int),.slice a n c,.bool stays] w (Ret (vo w (chD k wn (if stays=true then((wn.length+1:Nat):Int)else 0)))):=by
 apply F3
 have hn:=hs.len
 rw[List.length_map]at hn
 subst hn
 intro k3 w3 hk3 hw3 k6 w6 hk6 hw6
 have A3':am w3 k3 aw [vI (k:Int)]:=am.new hk3 hw3
 have hb3:=(hw3▸ah w _:bW w w3)
 have hb6:=(hw6▸ah w3 _:bW w3 w6)
 have A3:=A3'.below hb6
 have A6:am w6 k6 af [vI 0,vI 0,.slice none 0 0,.slice none 0 0]:=am.new hk6 hw6
 have hB:=ab hb3 hb6 hb3.size
 have hk36:k3<k6:=by have:=A3'.lt;omega
 have hk0:w.heap.size <=k3:=by omega
 have hs6:=hs.below hB
 clear A3' hb3 hw3 hb6 hw6
 have hall:((wn.map fun(x:Nat)=>(x:Int)).all (inR (k:Int)))=true:=by
   rw[List.all_eq_true]
   intro y hy
   obtain⟨x,hx,rfl⟩:=List.mem_map.1 hy
   have:=hw x hx
   unfold inR
   rw[decide_eq_true (by omega),decide_eq_true (by omega)];rfl
 refine fY (λw'=>w'=w6) ⟨λb w'=>b=false/\w'=w6,?_,λb=>aC.of ?_ _⟩ ?_
 · refine⟨_,Ie A3,ae.no (decide_eq_false (by omega)) ⟨_,Ie A3,ae.no (decide_eq_false (by omega)) ?_⟩⟩
   refine ax (xR hs6 A3) ?_
   rintro _ w23 ⟨rfl,e23⟩
   exact⟨_,rfl,by rw[hall];rfl,e23⟩
 · rintro wj ⟨e1,e2⟩
   exact ae.no e1 e2
 intro wj ej
 rw[ej];clear ej wj
 refine ae.no (decide_eq_false (by omega)) ⟨_,Ie A3,?_⟩
 intro k33 w33 hk33 hw33
 have hb33:=(hw33▸ah w6 _:bW w6 w33)
 have hlt6:=A6.lt
 have M0:Mk w33 k33 none 0 0 none 0 0 ⟨(k:Int),1,[],[]⟩:=⟨am.new hk33 hw33,Ow.nil _ _ _ _,Ow.nil _ _ _ _,(λg hg=>by cases hg),(λg hg=>by cases hg),λg hg=>by cases hg⟩
 have hK:(⟨(k:Int),1,[],[]⟩:DA).K=k:=by show((k:Int)).toNat=k;omega
 refine ax (BC M0 (by show(1:Int) <=(k:Int);omega) (by show(k:Int) <=512;omega) (by simp) (by simp) false 0) ?_
 rintro _ w35 ⟨rfl,a1,n1,c1,b1,m1,e1,M1,g1,f1,f2⟩
 refine⟨_,rfl,?_⟩
 have hs33:w33.heap.size=k33+1:=by rw[hk33,hw33];simp
 have none35:∀x∈nB k33 none none,x=k33:=λx hx=>by
   rcases dv.1 hx with h|h|h
   · exact h
   · cases h
   · cases h
 have A3b:=g1.arr (A3.below hb33) (λhm=>by have:=none35 _ hm;omega)
 have A6b:=g1.arr (A6.below hb33) (λhm=>by have:=none35 _ hm;omega)
 have hB33:=ab hB hb33 hB.size
 have hB35:bW w w35:=hB33.trans (g1.below hB33.size λx hx=>by have:=none35 _ hx;omega)
 have st0:(⟨(k:Int),1,[]++List.replicate (⟨(k:Int),1,[],[]⟩:DA).K 0,[]++[false]⟩:DA)=chS k wn 0:=by rw[hK];simp[chS,se,iu]
 rw[st0]at M1
 refine⟨λm i wl=>∃(j:Nat) (a:Option Addr) (n c:Nat) (b:Option Addr) (m' e:Nat),i=(j:Int)/\j <=wn.length/\m=wn.length-j/\Mk wl k33 a n c b m' e (chS k wn j)/\am wl k3 aw [vI (k:Int)]/\am wl k6 af [vI 0,vI 0,.slice none 0 0,.slice none 0 0]/\bI (k33+1) a/\bI (k33+1) b/\bW w wl,
   ⟨_,0,a1,n1,c1,b1,m1,e1,rfl,Nat.zero_le _,rfl,M1,A3b,A6b,oD.fresh f1 (bI.none _) (by omega),oD.fresh f2 (bI.none _) (by omega),hB35⟩,?_⟩
 clear M1 A3b A6b hB35 f1 f2 g1 M0
 intro m i
 refine aC.of ?_ _
 rintro wl ⟨j,a1,n1,c1,b1,m1,e1,rfl,hj,rfl,M,A3l,A6l,fa,fb,hBl⟩
 have hsl:=hs.below hBl
 have hKj:(chS k wn j).K=k:=by show((k:Int)).toNat=k;omega
 have hacl:(chS k wn j).ac.length=j+1:=by simp[chS]
 have hnxl:=Ps k wn hj
 have hjk:(j+1)*k <=65535*512:=Nat.mul_le_mul (by omega) hk2
 have stl:=fun(acc:Bool) (t:Int)=>BC M (by show(1:Int) <=(k:Int);omega) (by show(k:Int) <=512;omega) (by omega) (by omega) acc t
 have hMlt:=M.var.lt
 have blk:∀x∈nB k33 a1 b1,k33 <=x:=λx hx=>by
   rcases dv.1 hx with h|h|h
   · omega
   · have:=fa x h;omega
   · have:=fb x h;omega
 refine ae.of (λh=>?_) (λh=>?_) <;> simp only[dTx,dFx]at h
 · have hlt:j<wn.length:=by omega
   have hlt':j<(wn.map fun(x:Nat)=>(x:Int)).length:=by simpa using hlt
   refine⟨⟨⟨by omega,h⟩,hsl.isSome hlt'⟩,_,hsl.num aB hlt',?_⟩
   rw[List.getElem_map]
   refine ax (stl false 0) ?_
   rintro _ w43 ⟨rfl,a2,n2,c2,b2,m2,e2,M2,g2,f1,f2⟩
   rw[hacl]
   have A3b:=g2.arr A3l (λhm=>by have:=blk _ hm;omega)
   have A6b:=g2.arr A6l (λhm=>by have:=blk _ hm;omega)
   have hxk:wn[j]<k:=hw _ (List.getElem_mem hlt)
   have e1':i64.wrap (((j+1:Nat):Int)*(k:Int))=(((j+1)*k:Nat):Int):=by
     rw[show((j+1:Nat):Int)*(k:Int)=(((j+1)*k:Nat):Int) from(Int.natCast_mul _ _).symm]
     exact wrap_i64 (by omega) (by omega)
   have e2':i64.wrap ((((j+1)*k:Nat):Int)+((wn[j]:Nat):Int))=(((j+1)*k+wn[j]:Nat):Int):=by
     rw[wrap_i64 (by omega) (by omega)];omega
   have e3':i64.wrap (((j+1:Nat):Int)+1)=((1+j+1:Nat):Int):=by
     rw[wrap_i64 (by omega) (by omega)];omega
   have hn2:=M2.nx.len
   have hl2:((chS k wn j).nx++List.replicate (chS k wn j).K 0).length=(j+1)*k+k:=by rw[List.length_append,hnxl,List.length_replicate,hKj]
   have hn2':n2=(j+1)*k+k:=hn2.trans hl2
   have hidx:(j+1)*k+wn[j]<((chS k wn j).nx++List.replicate (chS k wn j).K 0).length:=by omega
   refine⟨_,rfl,rfl,rfl,rfl,a2,n2,c2,λu hu=>(M2.var.below hu).load1 aI rfl rfl,(k:Int),λu hu=>Ie (A3b.below hu),?_⟩
   rw[e1',e2',e3']
   refine⟨⟨⟨by omega,by omega⟩,M2.nx.all.isSome hidx⟩,λwq hq=>?_⟩
   have M2q:=M2.below hq
   obtain⟨wx,sx,ox,gx⟩:=M2q.nx.store ff (λ_ _ h=>h) (i:=(((j+1)*k+wn[j]:Nat):Int)) (by rw[Int.toNat_natCast];exact hidx) (k:=1) rfl (v:=vI ((1+j+1:Nat):Int)) (x:=((1+j+1:Nat):Int)) eE
   rw[Int.toNat_natCast]at ox
   have enx:((chS k wn j).nx++List.replicate (chS k wn j).K 0).set ((j+1)*k+wn[j]) ((1+j+1:Nat):Int)=(chS k wn (j+1)).nx:=by
     rw[List.set_append_right _ _ (by omega),hnxl,show(j+1)*k+wn[j]-(j+1)*k=wn[j] by omega,hKj]
     show(se k 0++iu k (wn.take j) 1)++_=se k 0++iu k (wn.take (j+1)) 1
     rw[List.take_succ_eq_append_getElem hlt,BR,List.append_assoc,List.length_take,Nat.min_eq_left (by omega)]
     rfl
   have hgx:Chg (nB k33 a2 b2) w43 wx:=(Chg.of hq).trans ((Chg.row gx).mono λx hx=>dv.2 (.inr (.inl (by simpa using hx))))
   have fa2:=oD.fresh f1 fa (by omega)
   have fb2:=oD.fresh f2 fb (by omega)
   have blk2:∀x∈nB k33 a2 b2,k33 <=x:=λx hx=>by
     rcases dv.1 hx with h|h|h
     · omega
     · have:=fa2 x h;omega
     · have:=fb2 x h;omega
   have hB43:bW w w43:=hBl.trans (g2.below hBl.size λx hx=>by have:=blk x hx;omega)
   refine⟨wx,sx,wn.length-(j+1),by omega,j+1,a2,n2,c2,b2,m2,e2,by rw[wrap_i64 (by omega) (by omega)];omega,hlt,rfl,⟨?_,?_,?_,M2.na,M2.nb,M2.ne⟩,hgx.arr A3b (λhm=>by have:=blk2 _ hm;omega),hgx.arr A6b (λhm=>by have:=blk2 _ hm;omega),fa2,fb2,hB43.trans (hgx.below hB43.size λx hx=>by have:=blk2 x hx;omega)⟩
   · exact M2q.var.grown gx λex=>M2.na k33 ex.symm rfl
   · rw[<- enx];exact ox
   · have:=M2q.ac.other gx λg hg ex=>M2.ne g ex hg
     have eac:(chS k wn j).ac++[false]=(chS k wn (j+1)).ac:=by
       show List.replicate (j+1) false++[false]=List.replicate (j+1+1) false
       rw[<- List.replicate_succ']
     rw[<- eac];exact this
 · have:j=wn.length:=by omega
   subst this
   refine⟨rfl,rfl,rfl,b1,m1,e1,M.var.load1 bf rfl rfl,?_⟩
   have hm1:=M.ac.len
   refine⟨λi w'=>i=(if stays=true then((wn.length+1:Nat):Int)else 0)/\w'=wl,?_,λt=>aC.of ?_ _⟩
   · refine ae.of (λhst=>⟨?_,rfl⟩) (λhst=>⟨?_,rfl⟩)
     · rw[if_pos hst,hm1,hacl]
     · rw[if_neg (by rw[hst];simp)]
   rintro wj ⟨rfl,rfl⟩
   refine ax (stl true _) ?_
   rintro _ w68 ⟨rfl,a2,n2,c2,b2,m2,e2,M2,g2,f1,f2⟩
   have A6b:=g2.arr A6l (λhm=>by have:=blk _ hm;omega)
   have fa2:=oD.fresh f1 fa (by omega)
   have fb2:=oD.fresh f2 fb (by omega)
   have hB68:bW w w68:=hBl.trans (g2.below hBl.size λx hx=>by have:=blk x hx;omega)
   have ld:=bG.load0 (cs:=[vI (k:Int),vI 1,.slice a2 n2 c2,.slice b2 m2 e2]) M2.var rfl
   obtain⟨wx,sx,v6,g6⟩:=bG.store0 (P:=prog) (cs:=[vI (k:Int),vI 1,.slice a2 n2 c2,.slice b2 m2 e2]) rfl (aW rfl (aW rfl (aW rfl (aW rfl jA)))) A6b rfl
   have ld6:=am.res (bG.load0 (cs:=[vI (k:Int),vI 1,.slice a2 n2 c2,.slice b2 m2 e2]) v6 rfl)
   refine⟨_,rfl,rfl,rfl,_,_,a2,n2,c2,b2,m2,e2,ld,wx,sx,_,_,a2,n2,c2,b2,m2,e2,ld6,a2,n2,c2,b2,m2,e2,rfl,⟨?_,?_,M2.ne,fa2.mono (by omega),fb2.mono (by omega)⟩,Below.put hB68 g6 (by omega)⟩
   · have:=M2.nx.put (λg hg ex=>by have:=fa2 g hg;omega) g6
     have enx:∀t:Int,(chS k wn wn.length).nx++List.replicate (chS k wn wn.length).K t=Ia k wn t:=λt=>by
       rw[hKj]
       show(se k 0++iu k (wn.take wn.length) 1)++_=_
       rw[List.take_length,List.append_assoc];rfl
     simp only[enx]at this
     exact this
   · exact M2.ac.put (λg hg ex=>by have:=fb2 g hg;omega) g6
def daL (a:Option Addr)(n c:Nat)(b:Option Addr)(m e:Nat)(d:DA):List Value:=[vI d.k,vI d.st,.slice a n c,.slice b m e]
theorem fM (a:Option Addr)(n c:Nat)(b:Option Addr)(m e:Nat)(d:DA):DE (daL a n c b m e d):=aW rfl (aW rfl (aW rfl (aW rfl jA)))
theorem cX {w:World}{k:Nat}{vs:List Value}(h:am w k af vs)(hv:vs.length=4)(a:Option Addr)(n c:Nat)(b:Option Addr)(m e:Nat)(d:DA):
   ∃wx,(Instr.storeAt af (.pointer (some ⟨k,0,none⟩)) (daV a n c b m e d)).run prog w=.ok () wx/\(aR af (.pointer (some ⟨k,0,none⟩))).run prog wx=.ok (daV a n c b m e d) wx/\w.grownBy wx (some k):=by
 obtain⟨wx,sx,v6,g6⟩:=bG.store0 (P:=prog) (cs:=daL a n c b m e d) rfl (fM _ _ _ _ _ _ _) h hv
 exact⟨wx,sx,am.res (bG.load0 (cs:=daL a n c b m e d) v6 rfl),g6⟩
theorem zb.put {B:Nat}{w w':World}{a b:Option Addr}{n c m e k:Nat}{d:DA}(h:zb B w a n c b m e d)(hg:w.grownBy w' (some k))(hk:k<B):zb B w' a n c b m e d:=
 ⟨h.nx.put (λg hg' ex=>by have:=h.fa g hg';omega) hg,h.ac.put (λg hg' ex=>by have:=h.fb g hg';omega) hg,h.ne,h.fa,h.fb⟩
theorem Cg {w:World}{A:Bl}{a:Option Addr}{n c:Nat}{k:Nat}{wn:List Nat}(hs:Sl cI w A a n c (wn.map fun(x:Nat)=>(x:Int)))(hk1:1 <=k)(hk2:k <=512)(hw:∀x∈wn,x<k)(hl:wn.length <=65534):
   Cf vd #[vI (k:Int),.slice a n c] w (Ret (vo w (chD k wn 0))):=by
 apply Hr
 intro k4 w4 hk4 hw4
 have hb4:=(hw4▸ah w _:bW w w4)
 have A4:am w4 k4 af [vI 0,vI 0,.slice none 0 0,.slice none 0 0]:=am.new hk4 hw4
 refine ax (Ja (hs.below hb4) hk1 hk2 hw hl false) ?_
 rintro _ w8 ⟨a1,n1,c1,b1,m1,e1,rfl,O,hb8⟩
 have hlt:=A4.lt
 obtain⟨wx,s1,s2,g1⟩:=cX (A4.below hb8) rfl a1 n1 c1 b1 m1 e1 (chD k wn 0)
 have hB:=ab hb4 hb8 hb4.size
 exact⟨_,_,a1,n1,c1,b1,m1,e1,_,rfl,wx,s1,_,_,a1,n1,c1,b1,m1,e1,s2,a1,n1,c1,b1,m1,e1,rfl,(O.put g1 hlt).mono hb4.size,Below.put hB g1 (by omega)⟩
theorem xU {w:World}{A:Bl}{a:Option Addr}{n c:Nat}{k:Nat}{wn:List Nat}(hs:Sl cI w A a n c (wn.map fun(x:Nat)=>(x:Int)))(hk1:1 <=k)(hk2:k <=512)(hw:∀x∈wn,x<k)(hl:wn.length <=65534):
   Cf pU #[vI (k:Int),.slice a n c] w (Ret (vo w (chD k wn ((wn.length+1:Nat):Int)))):=by
 apply DX
 intro k4 w4 hk4 hw4
 have hb4:=(hw4▸ah w _:bW w w4)
 have A4:am w4 k4 af [vI 0,vI 0,.slice none 0 0,.slice none 0 0]:=am.new hk4 hw4
 refine ax (Ja (hs.below hb4) hk1 hk2 hw hl true) ?_
 rintro _ w8 ⟨a1,n1,c1,b1,m1,e1,rfl,O,hb8⟩
 have hlt:=A4.lt
 obtain⟨wx,s1,s2,g1⟩:=cX (A4.below hb8) rfl a1 n1 c1 b1 m1 e1 (chD k wn ((wn.length+1:Nat):Int))
 have hB:=ab hb4 hb8 hb4.size
 exact⟨_,_,a1,n1,c1,b1,m1,e1,_,rfl,wx,s1,_,_,a1,n1,c1,b1,m1,e1,s2,a1,n1,c1,b1,m1,e1,rfl,(O.put g1 hlt).mono hb4.size,Below.put hB g1 (by omega)⟩
theorem wY {w:World}{k:Nat}(hk1:1 <=k)(hk2:k <=512):Cf qV #[vI (k:Int)] w (Ret (vo w (noD k))):=by
 apply Ho
 intro k2 w2 hk2' hw2
 have hb2:=(hw2▸ah w _:bW w w2)
 have A2:am w2 k2 af [vI 0,vI 0,.slice none 0 0,.slice none 0 0]:=am.new hk2' hw2
 refine fY (λw'=>w'=w2) ⟨λb w'=>b=false/\w'=w2,?_,λb=>aC.of ?_ _⟩ ?_
 · exact ae.no (decide_eq_false (by omega)) ⟨decide_eq_false (by omega),rfl⟩
 · rintro wj ⟨e1,e2⟩
   exact ae.no e1 e2
 intro wj ej
 rw[ej];clear ej wj
 intro k15 w15 hk15 hw15
 have hb15:=(hw15▸ah w2 _:bW w2 w15)
 have hlt:=A2.lt
 have M0:Mk w15 k15 none 0 0 none 0 0 ⟨(k:Int),0,[],[]⟩:=⟨am.new hk15 hw15,Ow.nil _ _ _ _,Ow.nil _ _ _ _,(λg hg=>by cases hg),(λg hg=>by cases hg),λg hg=>by cases hg⟩
 have hK:(⟨(k:Int),0,[],[]⟩:DA).K=k:=by show((k:Int)).toNat=k;omega
 have hs15:w15.heap.size=k15+1:=by rw[hk15,hw15];simp
 refine ax (BC M0 (by show(1:Int) <=(k:Int);omega) (by show(k:Int) <=512;omega) (by simp) (by simp) false 0) ?_
 rintro _ w17 ⟨rfl,a1,n1,c1,b1,m1,e1,M1,g1,f1,f2⟩
 have st0:(⟨(k:Int),0,[]++List.replicate (⟨(k:Int),0,[],[]⟩:DA).K 0,[]++[false]⟩:DA)=noD k:=by rw[hK];simp[noD]
 rw[st0]at M1
 have none15:∀x∈nB k15 none none,x=k15:=λx hx=>by
   rcases dv.1 hx with h|h|h
   · exact h
   · cases h
   · cases h
 have A2b:=g1.arr (A2.below hb15) (λhm=>by have:=none15 _ hm;omega)
 have hB15:=ab hb2 hb15 hb2.size
 have hB17:bW w w17:=hB15.trans (g1.below hB15.size λx hx=>by have:=none15 _ hx;omega)
 have fa:=oD.fresh f1 (bI.none (k15+1)) (by omega)
 have fb:=oD.fresh f2 (bI.none (k15+1)) (by omega)
 have ld:=bG.load0 (cs:=daL a1 n1 c1 b1 m1 e1 (noD k)) M1.var rfl
 obtain⟨wx,s1,s2,g2⟩:=cX A2b rfl a1 n1 c1 b1 m1 e1 (noD k)
 have O:zb (k15+1) w17 a1 n1 c1 b1 m1 e1 (noD k):=⟨M1.nx,M1.ac,M1.ne,fa,fb⟩
 exact⟨_,rfl,rfl,rfl,_,_,a1,n1,c1,b1,m1,e1,ld,wx,s1,_,_,a1,n1,c1,b1,m1,e1,s2,a1,n1,c1,b1,m1,e1,rfl,(O.put g2 (by omega)).mono (by omega),Below.put hB17 g2 (by omega)⟩
theorem Ec (a:Option Addr)(b c:Nat){w K}(h:uV dW #[.slice a b c] w λd e=>uL iD #[d] e λf g i j=>uL gH #[.slice f g i] j λk l m n=>nA n (.map #[] 0) λo p=>nA p (.cells #[.slice k l m,.map (some o)] gi) λq r=>true/\true/\∃s t u,Ld az (vA q 0) r (.slice s t u)/\∃v:Nat->FP [.one (.int .i64)],(∃x,v x (0:Int) r)/\∀x y,aC 13 (∀z,v x y z->ae (decide (y<((t:Nat):Int))) ((bx y ((t:Nat):Int)/\Option.isSome s=true)/\∃A,Ld au (ao s y 1) z (vS A)/\true/\true/\∃B,Ld bU (vA q 1) z (.map B)/\∃C,(Instr.mapUpdate bU (.map B) (vS A) (vI y)).run prog z=.ok () C/\∃D:Nat,D<x/\v D (i64.wrap (y+(1:Int))) C) (K (.pointer (vA q 0)) z))):Cf gI #[.slice a b c] w (Ret K):=ru func11 [(8,[(18,.one (.int .i64))])] h
theorem qK (a:Option Addr){w K}(h:∃b:Nat->FP [.one (.int .i64)],(∃c,b c (1:Int) w)/\∀c d,aC 19 (∀e,b c d e->(Option.isSome a=true)/\(Option.isSome a=true)/\∃f,(∀g,bW e g->Ld bU (Option.map (λi=>i.add 1) a) g (.map f))/\∃g,(∀i,bW e i->Cf nU #[vI d] i λj k=>j=.returned (vS g)/\Below e.heap.size i k)/\∃i j,(∀k,bW e k->(Instr.lookup bU (.map f) (vS g) true).run prog k=.ok (.tuple #[vI i,.bool j]) k)/\∀k,bW e k->ae (!j) (uS nU #[vI d] k λl m=>K (vS l) m) (∃l:Nat,l<c/\b l (i64.wrap (d+(1:Int))) k))):Cf ij #[.pointer a] w (Ret K):=ru func30 [(5,[(3,.one (.int .i64))])] h
theorem sp (a:Option Addr){w K}(h:(Option.isSome a=true)/\(Option.isSome a=true)/\∃b c d,Ld az (Option.map (λe=>e.add 0) a) w (.slice b c d)/\K (vI (i64.wrap (((c:Nat):Int)+(1:Int)))) w):Cf bi #[.pointer a] w (Ret K):=ru func50 [] h
theorem ry (a:Option Addr)(b:Int){w K}(h:∃c:FP [],(∃d:FP [.one .bool],(ae (decide (b<(0:Int))) (d true w) ((Option.isSome a=true)/\(Option.isSome a=true)/\∃e f g,Ld az (Option.map (λi=>i.add 0) a) w (.slice e f g)/\d (decide (b>((f:Nat):Int))) w))/\∀e,aC 11 (∀f,d e f->ae e (K (vS []) f) ((Option.isSome a=true)/\(Option.isSome a=true)/\∃g i j,Ld az (Option.map (λk=>k.add 0) a) f (.slice g i j)/\ae (b==((i:Nat):Int)) (uS ij #[.pointer a] f λk l=>K (vS k) l) (c f))))/\aC 23 (∀d,c d->(Option.isSome a=true)/\(Option.isSome a=true)/\∃e f g,Ld az (Option.map (λi=>i.add 0) a) d (.slice e f g)/\(bx b ((f:Nat):Int)/\Option.isSome e=true)/\∃i,Ld au (ao e b 1) d (vS i)/\K (vS i) d)):Cf fj #[.pointer a,vI b] w (Ret K):=ru func52 [(2,[]),(4,[(5,.one .bool)])] h
theorem tq (a:Option Addr)(b:lU){w K}(h:(Option.isSome a=true)/\(Option.isSome a=true)/\∃c,Ld bU (Option.map (λd=>d.add 1) a) w (.map c)/\∃d e,(Instr.lookup bU (.map c) (vS b) true).run prog w=.ok (.tuple #[vI d,.bool e]) w/\ae e (K (vI d) w) ((Option.isSome a=true)/\(Option.isSome a=true)/\∃f g i,Ld az (Option.map (λj=>j.add 0) a) w (.slice f g i)/\K (vI ((g:Nat):Int)) w)):Cf nz #[.pointer a,vS b] w (Ret K):=ru func71 [] h
theorem Dc (a:Int){w K}(h:∃b:Nat->FP [.one (.int .i64),.one .slice],(∃c,b c a none 0 0 w)/\∀c d e f g,aC 12 (∀i,b c d e f g i->ae (decide (d>(0:Int))) (((38:Int)≠0)/\∀j,j=(Int.tmod (i64.wrap (d-(1:Int))) (38:Int))->bx j ((List.length [97,98,99,100,101,102,103,104,105,106,107,108,109,110,111,112,113,114,115,116,117,118,119,120,121,122,48,49,50,51,52,53,54,55,56,57,45,95]:Nat):Int)/\nA i (.cells #[.int .u8 (aQ [97,98,99,100,101,102,103,104,105,106,107,108,109,110,111,112,113,114,115,116,117,118,119,120,121,122,48,49,50,51,52,53,54,55,56,57,45,95] j)] aG) λk l=>∃m n o p,(Builtin.append_ #[aP,aP] aP #[.slice e f g,.slice (vA k 0) 1 1]).run prog l=.ok (.slice n o p) m/\((38:Int)≠0)/\∀q,q=(i64.wrap (Int.tdiv (i64.wrap (d-(1:Int))) (38:Int)))->∃r:Nat,r<c/\b r q n o p m) (uU fu #[.slice e f g] i λj=>∃k,(convert aP au (.slice e f g)).run prog j=.ok (vS k) j/\K (vS k) j))):Cf nU #[vI a] w (Ret K):=ru func72 [(6,[(0,.one (.int .i64)),(3,.one .slice)])] h
theorem Bc (a:lU){w K}(h:uS mz #[] w λb c=>∃d e f g,(convert au aP (vS a)).run prog c=.ok (.slice e f g) d/\∃i:Nat->FP [.one .slice,.one (.int .i64)],(∃j,i j none 0 0 (0:Int) d)/\∀j k l m n,aC 17 (∀o,i j k l m n o->ae (decide (n<((f:Nat):Int))) ((bx n ((f:Nat):Int)/\Option.isSome e=true)/\∃p,Ld aG (ao e n 1) o (.int .u8 p)/\uI oQ #[vS b,.int .u8 p] o λq r=>ae (decide (q<(0:Int))) (K (.tuple #[.slice none 0 0,.bool false]) r) (nA r (.cells #[vI q] aw) λs t=>∃u v x y,(Builtin.append_ #[ar,ar] ar #[.slice k l m,.slice (vA s 0) 1 1]).run prog t=.ok (.slice v x y) u/\∃z:Nat,z<j/\i z v x y (i64.wrap (n+(1:Int))) u)) (K (.tuple #[.slice k l m,.bool true]) o))):Cf iB #[vS a] w (Ret K):=ru func81 [(10,[(5,.one .slice),(13,.one (.int .i64))])] h
theorem Be {w K}(h:∃a:Nat->FP [.one .slice,.one (.int .u8)],(∃b,a b none 0 0 (33:Int) w)/\∀b c d e f,aC 14 (∀g,a b c d e f g->ae (decide (f <=(126:Int))) (∃i:FP [.one .bool],(ae (f !=(63:Int)) (i (f !=(35:Int)) g) (i false g))/\∀j,aC 5 (∀k,i j k->ae j (nA k (.cells #[.int .u8 f] aG) λl m=>∃n o p q,(Builtin.append_ #[aP,aP] aP #[.slice c d e,.slice (vA l 0) 1 1]).run prog m=.ok (.slice o p q) n/\∃r:Nat,r<b/\a r o p q (IntKind.u8.wrap (f+(1:Int))) n) (∃l:Nat,l<b/\a l c d e (IntKind.u8.wrap (f+(1:Int))) k))) (∃i,(convert aP au (.slice c d e)).run prog g=.ok (vS i) g/\K (vS i) g))):Cf mz #[] w (Ret K):=ru func138 [(8,[(1,.one .slice),(2,.one (.int .u8))]),(17,[(12,.one .bool)])] h
theorem vE (a:Option Addr)(b c:Nat){w K}(h:uS mz #[] w λd e=>∃f:Nat->FP [.one .slice,.one (.int .i64)],(∃g,f g none 0 0 (0:Int) e)/\∀g i j k l,aC 21 (∀m,f g i j k l m->ae (decide (l<((b:Nat):Int))) ((bx l ((b:Nat):Int)/\Option.isSome a=true)/\∃n,Ld aw (ao a l 1) m (vI n)/\∃o:FP [],(ae (decide (n<(0:Int))) (K (.tuple #[vS [],.bool false]) m) (ae (decide (n >=((List.length d:Nat):Int))) (K (.tuple #[vS [],.bool false]) m) (o m)))/\aC 10 (∀p,o p->bx n ((List.length d:Nat):Int)/\nA p (.cells #[.int .u8 (aQ d n)] aG) λq r=>∃s t u v,(Builtin.append_ #[aP,aP] aP #[.slice i j k,.slice (vA q 0) 1 1]).run prog r=.ok (.slice t u v) s/\∃x:Nat,x<g/\f x t u v (i64.wrap (l+(1:Int))) s)) (∃n,(convert aP au (.slice i j k)).run prog m=.ok (vS n) m/\K (.tuple #[vS n,.bool true]) m))):Cf kN #[.slice a b c] w (Ret K):=ru func144 [(10,[(5,.one .slice),(11,.one (.int .i64))]),(21,[])] h
theorem rv (a:Value){w K}(h:uL ii #[a] w λb c d e=>uU iS #[.slice b c d] e λf=>K (.slice b c d) f):Cf iD #[a] w (Ret K):=ru func46 [] h
theorem qI (a:Value){w K}(h:uL fW #[.slice none 0 0,a] w λb c d e=>K (.slice b c d) e):Cf ii #[a] w (Ret K):=ru func94 [] h
theorem ms (a:Option Addr)(b c:Nat){w K}(h:nA w (.cells #[.slice a b c] az) λd e=>K (.func (.func bR) #[] #[.pointer (vA d 0)]) e):Cf dW #[.slice a b c] w (Ret K):=ru func47 [] h
theorem ot (a:Option Addr)(b c:Nat){w K}(h:∃d:Nat->FP [.one (.int .i64),.one (.int .i64)],(∃e,d e (0:Int) (i64.wrap (((b:Nat):Int)-(1:Int))) w)/\∀e f g,aC 21 (∀i,d e f g i->ae (decide (f<g)) ((bx g ((b:Nat):Int)/\Option.isSome a=true)/\(bx f ((b:Nat):Int)/\Option.isSome a=true)/\(∃j,Ld aG (ao a g 1) (World.drew i) (.int .u8 j)/\∃k,Ld aG (ao a f 1) (World.drew i) (.int .u8 k)/\(bx f ((b:Nat):Int)/\Option.isSome a=true)/\∃l,Sv aG (ao a f 1) (.int .u8 j) (World.drew i) l/\(bx g ((b:Nat):Int)/\Option.isSome a=true)/\∃m,Sv aG (ao a g 1) (.int .u8 k) l m/\∃n:Nat,n<e/\d n (i64.wrap (f+(1:Int))) (i64.wrap (g-(1:Int))) m)/\∃j,Ld aG (ao a f 1) (World.drew i) (.int .u8 j)/\∃k,Ld aG (ao a g 1) (World.drew i) (.int .u8 k)/\(bx f ((b:Nat):Int)/\Option.isSome a=true)/\∃l,Sv aG (ao a f 1) (.int .u8 k) (World.drew i) l/\(bx g ((b:Nat):Int)/\Option.isSome a=true)/\∃m,Sv aG (ao a g 1) (.int .u8 j) l m/\∃n:Nat,n<e/\d n (i64.wrap (f+(1:Int))) (i64.wrap (g-(1:Int))) m) (K (.tuple #[]) i))):Cf fu #[.slice a b c] w (Ret K):=ru func131 [(3,[(2,.one (.int .i64)),(3,.one (.int .i64))])] h
def cnt (k:Int):Int:=if k <=35 then k-33 else if k <=63 then k-34 else k-35
def Qc (c:Int):Int:=if c<33\/c>126\/c=35\/c=63 then -1 else cnt c
def vV:Nat->List UInt8
 | 0=>[]
 | n+1=>if n+33=63\/n+33=35 then vV n else vV n++[UInt8.ofNat (n+33)]
def wS:List UInt8:=vV 94
theorem Hf:∀n,(vV n).length <=n
 | 0=>by simp[vV]
 | n+1=>by
   have:=Hf n
   unfold vV;split <;> simp <;> omega
theorem ux (w:World):Cf mz #[] w (Ret λv w'=>v=vS wS/\bW w w'):=by
 apply Be
 refine⟨λm a l c k w'=>∃n:Nat,n <=94/\k=(n:Int)+33/\m=94-n/\Ow tU8 aG w' NoB a l c (vV n)/\bI w.heap.size a/\bW w w',
   ⟨_,0,by omega,by simp,rfl,Ow.nil _ _ _ _,bI.none _,Below.refl _ _⟩,?_⟩
 intro m a l c k
 refine aC.of ?_ _
 rintro w' ⟨n,hn,rfl,rfl,ho,hf,hb⟩
 refine ae.of (λh=>?_) (λh=>?_) <;> simp at h
 · have e1:IntKind.u8.wrap ((n:Int)+33+1)=((n+1:Nat):Int)+33:=by rw[wrap_u8 (by omega) (by omega)];omega
   try dsimp only
   rw[e1]
   refine⟨λb w''=>w''=w'/\b=decide (¬ (n+33=63\/n+33=35)),?_,?_⟩
   · refine ae.of (λh4=>?_) (λh4=>?_) <;> simp at h4
     · refine⟨rfl,?_⟩
       rw[Bool.eq_iff_iff];simp;omega
     · refine⟨rfl,?_⟩
       rw[Bool.eq_iff_iff];simp;omega
   · intro b
     refine aC.of ?_ _
     rintro w2 ⟨rfl,rfl⟩
     refine ae.of (λh4=>?_) (λh4=>?_) <;> simp at h4
     · intro k1 w3 hk1 hw3
       have ho3:Ow tU8 aG w3 NoB a l c (vV n):=ho.below (hw3▸ah _ _)
       have hsrc:Src tU8 w3 NoB (some ⟨k1,0,none⟩) 1 [UInt8.ofNat (n+33)]:=
         Src.new1F tT hk1 hw3 (ul (by rw[xD (by omega)];omega))
       obtain⟨w4,a',n',c',hr,ho4,hg,hfr⟩:=dh (ty:=aP) bZ gh (by decide) ho3 (λ_ _ h=>h) (cm:=1) hsrc (by have:=Hf n;simp;omega)
       refine⟨w4,a',n',c',hr,_,?_,n+1,by omega,rfl,rfl,?_,?_,?_⟩
       · omega
       · unfold vV;rw[if_neg (by omega)];exact ho4
       · subst hw3;exact hf.app (by have:=hb.size;simp;omega) hfr
       · subst hw3
         exact(ab hb (ah _ _) hb.size).grown hg (by have:=hb.size;simp;omega) hf
     · refine⟨_,?_,n+1,by omega,rfl,rfl,?_,hf,hb⟩
       · omega
       · unfold vV;rw[if_pos (by omega)];exact ho
 · have:n=94:=by omega
   subst this
   exact⟨_,qN bZ aA bP ho.all,rfl,hb⟩
def sym (c:UInt8):Int:=Qc (c.toNat:Nat)
def kr (s:List UInt8):Bool:=s.all λc=>decide (0 <=sym c)
def p9 (s:List UInt8):List Int:=if kr s then s.map sym else[]
theorem PJ:∀n,n<256->Lib.indexByte wS (UInt8.ofNat n)=Qc n:=by decide+kernel
theorem PK (c:UInt8):Lib.indexByte wS c=sym c:=by
 have:=PJ c.toNat (by have:=c.toNat_lt;omega)
 rwa [UInt8.ofNat_toNat]at this
theorem Ra (c:UInt8): -1 <=sym c/\sym c <=91:=by
 have:=kY c
 unfold sym Qc cnt
 split <;> (try split) <;> (try split) <;> omega
theorem vm {α:Type}{l:List α}{k:Nat}(h:k<l.length):l.take (k+1)=l.take k++[l[k]]:=by
 rw[List.take_succ_eq_append_getElem h]
theorem NL {s:List UInt8}{k:Nat}(hk:k<s.length)(h:sym s[k]<0):kr s=false:=by
 rw[Bool.eq_false_iff]
 intro hg
 unfold kr at hg
 rw[List.all_eq_true]at hg
 have:=hg s[k] (List.getElem_mem hk)
 simp at this;omega
theorem LC {s:List UInt8}{k:Nat}(hk:k<s.length)(hg:kr (s.take k)=true)(h: ¬ sym s[k]<0):kr (s.take (k+1))=true:=by
 unfold kr at*
 rw[vm hk,List.all_append,hg]
 simp;omega
def BD (s:List UInt8)(w:World)(v:Value)(w':World):Prop:=
 ∃a n c,v=.tuple #[.slice a n c,.bool (kr s)]/\Ow cI aw w' NoB a n c (p9 s)/\bI w.heap.size a/\bW w w'
theorem Lb {s:List UInt8}{w w':World}(hg:kr s=false)(hb:bW w w'):BD s w (.tuple #[.slice none 0 0,.bool false]) w':=by
 refine⟨none,0,0,by rw[hg],?_,bI.none _,hb⟩
 rw[p9,hg];exact Ow.nil _ _ _ _
theorem J2 {s:List UInt8}{w w':World}{a:Option Addr}{n c:Nat}(hg:kr s=true)(ho:Ow cI aw w' NoB a n c (s.map sym))(hf:bI w.heap.size a)(hb:bW w w'):BD s w (.tuple #[.slice a n c,.bool true]) w':=by
 refine⟨a,n,c,by rw[hg],?_,hf,hb⟩
 rw[p9,hg];exact ho
theorem kX (s:List UInt8)(hs:s.length <=1000000)(w:World):Cf iB #[vS s] w (Ret (BD s w)):=by
 apply Bc
 refine ax (ux w) ?_
 rintro _ w1 ⟨rfl,hb1⟩
 refine⟨_,rfl,?_⟩
 obtain⟨w2,a2,n2,c2,hr,ho2,hb2,hf2⟩:=uX aA bZ bP w1 s (by omega) NoB
 have hn2:=ho2.len
 subst hn2
 have hB2:bW w w2:=ab hb1 hb2 hb1.size
 refine⟨w2,a2,_,c2,hr,?_⟩
 refine⟨λm a l c k w'=>∃n:Nat,n <=s.length/\k=(n:Int)/\m=s.length-n/\kr (s.take n)=true/\Ow cI aw w' NoB a l c ((s.take n).map sym)/\bI w2.heap.size a/\bW w2 w',
   ⟨_,0,by omega,rfl,rfl,rfl,Ow.nil _ _ _ _,bI.none _,Below.refl _ _⟩,?_⟩
 intro m a l c k
 refine aC.of ?_ _
 rintro w' ⟨n,hn,rfl,rfl,hg,ho,hf,hb⟩
 refine ae.of (λh=>?_) (λh=>?_) <;> simp at h
 · have hsl:=(ho2.below hb).all
   refine⟨⟨⟨by omega,by omega⟩,hsl.isSome h⟩,?_⟩
   obtain⟨v,hv,hrep⟩:=hsl.load1 (i:=(n:Int)) bP rfl rfl (by simpa using h)
   have:=Aw hrep
   subst this
   simp only[Int.toNat_natCast]at hv
   refine⟨_,hv,?_⟩
   refine(Tryz.strings_IndexByte (mkS wS) _ _).mono ?_
   rintro _ _ ⟨rfl,rfl⟩
   have e:Lib.indexByte (mkS wS).data.toList (Int.toNat ((s[n].toNat:Nat):Int)).toUInt8=sym s[n]:=by
     rw[<- PK]
     congr 1
     simp[Nat.toUInt8]
   rw[e]
   refine⟨_,rfl,?_⟩
   refine ae.of (λh4=>?_) (λh4=>?_) <;> simp at h4
   · exact Lb (NL h h4) (ab hB2 hb hB2.size)
   · intro k1 w3 hk1 hw3
     have ho3:Ow cI aw w3 NoB a l c ((s.take n).map sym):=ho.below (hw3▸ah _ _)
     have hsrc:Src cI w3 NoB (some ⟨k1,0,none⟩) 1 [sym s[n]]:=Src.new1F fG hk1 hw3 eE
     obtain⟨w4,a',n',c',hr,ho4,hgr,hfr⟩:=dh (ty:=ar) aI ff (by decide) ho3 (λ_ _ h=>h) (cm:=1) hsrc (by simp;omega)
     have e1:i64.wrap ((n:Int)+1)=((n+1:Nat):Int):=by rw[wrap_i64 (by omega) (by omega)];omega
     try dsimp only
     rw[e1]
     refine⟨w4,a',n',c',hr,_,?_,n+1,by omega,rfl,rfl,LC h hg (by omega),?_,?_,?_⟩
     · omega
     · rw[vm h,List.map_append];exact ho4
     · subst hw3;exact hf.app (by have:=hb.size;simp;omega) hfr
     · subst hw3;exact(ab hb (ah _ _) hb.size).grown hgr (by have:=hb.size;simp;omega) hf
 · have:n=s.length:=by omega
   subst this
   rw[List.take_length]at hg ho
   exact J2 hg ho (hf.mono hB2.size) (ab hB2 hb hB2.size)
def DN (i:Int):Bool:=decide (0 <=i)&&decide (i<92)
def chr (i:Int):UInt8:=wS[i.toNat]?.getD 0
def okL (l:List Int):Bool:=l.all DN
def Hy (l:List Int):List UInt8:=if okL l then l.map chr else[]
theorem H0:wS.length=92:=by decide+kernel
theorem Mf {l:List Int}{k:Nat}(hk:k<l.length)(h: ¬ (0 <=l[k]/\l[k]<92)):okL l=false:=by
 rw[Bool.eq_false_iff]
 intro hg
 unfold okL at hg
 rw[List.all_eq_true]at hg
 have:=hg l[k] (List.getElem_mem hk)
 simp[DN]at this;omega
theorem NW {l:List Int}{k:Nat}(hk:k<l.length)(hg:okL (l.take k)=true)(h0:0 <=l[k])(h1:l[k]<92):okL (l.take (k+1))=true:=by
 unfold okL at*
 rw[vm hk,List.all_append,hg]
 simp[DN,h0,h1]
def E1 (l:List Int)(w:World)(v:Value)(w':World):Prop:=v=.tuple #[vS (Hy l),.bool (okL l)]/\bW w w'
theorem Jm {l:List Int}{w w':World}(hg:okL l=false)(hb:bW w w'):E1 l w (.tuple #[vS [],.bool false]) w':=by
 refine⟨?_,hb⟩
 simp[Hy,hg]
theorem LB {l:List Int}{w w':World}(hg:okL l=true)(hb:bW w w'):E1 l w (.tuple #[vS (l.map chr),.bool true]) w':=by
 refine⟨?_,hb⟩
 simp[Hy,hg]
theorem xB {l:List Int}(hl:l.length <=1000000){w:World}{A:Bl}{a:Option Addr}{n c:Nat}(hs:Sl cI w A a n c l):Cf kN #[.slice a n c] w (Ret (E1 l w)):=by
 have hn:=hs.len
 subst hn
 apply vE
 refine ax (ux w) ?_
 rintro _ w1 ⟨rfl,hb1⟩
 refine⟨_,rfl,?_⟩
 refine⟨λm a l1 c k w'=>∃n:Nat,n <=l.length/\k=(n:Int)/\m=l.length-n/\okL (l.take n)=true/\Ow tU8 aG w' NoB a l1 c ((l.take n).map chr)/\bI w1.heap.size a/\bW w1 w',
   ⟨_,0,by omega,rfl,rfl,rfl,Ow.nil _ _ _ _,bI.none _,Below.refl _ _⟩,?_⟩
 intro m a1 l1 c1 k
 refine aC.of ?_ _
 rintro w' ⟨n,hn,rfl,rfl,hg,ho,hf,hb⟩
 have hB:bW w w':=ab hb1 hb hb1.size
 refine ae.of (λh=>?_) (λh=>?_) <;> simp at h
 · have hsl:=hs.below hB
   refine⟨⟨⟨by omega,by omega⟩,hsl.isSome h⟩,?_⟩
   obtain⟨v,hv,hrep⟩:=hsl.load1 (i:=(n:Int)) aB rfl rfl (by simpa using h)
   have:=LV hrep
   subst this
   simp only[Int.toNat_natCast]at hv
   refine⟨_,hv,?_⟩
   rw[H0]
   refine⟨λw''=>w''=w'/\0 <=l[n]/\l[n]<92,?_,?_⟩
   · refine ae.of (λh4=>?_) (λh4=>ae.of (λh5=>?_) (λh5=>?_)) <;> simp at h4
     · exact Jm (Mf h (by omega)) hB
     · simp at h5;exact Jm (Mf h (by omega)) hB
     · simp at h5;exact⟨rfl,h4,h5⟩
   · refine aC.of ?_ _
     rintro w2 ⟨rfl,h4,h5⟩
     refine⟨⟨h4,by omega⟩,?_⟩
     intro k1 w3 hk1 hw3
     have ho3:Ow tU8 aG w3 NoB a1 l1 c1 ((l.take n).map chr):=ho.below (hw3▸ah _ _)
     have hsrc:Src tU8 w3 NoB (some ⟨k1,0,none⟩) 1 [chr l[n]]:=Src.new1F tT hk1 hw3 (ul rfl)
     obtain⟨w4,a',n',c',hr,ho4,hgr,hfr⟩:=dh (ty:=aP) bZ gh (by decide) ho3 (λ_ _ h=>h) (cm:=1) hsrc (by simp;omega)
     have e1:i64.wrap ((n:Int)+1)=((n+1:Nat):Int):=by rw[wrap_i64 (by omega) (by omega)];omega
     try dsimp only
     rw[e1]
     refine⟨w4,a',n',c',hr,_,?_,n+1,by omega,rfl,rfl,NW h hg h4 h5,?_,?_,?_⟩
     · omega
     · rw[vm h,List.map_append];exact ho4
     · subst hw3;exact hf.app (by have:=hb.size;simp;omega) hfr
     · subst hw3;exact(ab hb (ah _ _) hb.size).grown hgr (by have:=hb.size;simp;omega) hf
 · have:n=l.length:=by omega
   subst this
   rw[List.take_length]at hg ho
   exact⟨_,qN bZ aA bP ho.all,LB hg hB⟩
def one (n:Int):List UInt8:=if DN n then[chr n]else[]
end Go.Pk
