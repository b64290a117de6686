/- What the laws lean on: HostC, Sub, HostD, V4, UrlA, MatA, V31, V32, V33, Elem, PrT; what is used. Its conditions: none. -/
import Derived.Test.YtpafoodmpjlkhaaGreatDoorKC
import Derived.Lib.LastIndexByte
set_option linter.unusedVariables false
set_option linter.unusedSimpArgs false
set_option linter.unusedSectionVars false
set_option maxRecDepth 100000
open Go.IntKind (i64)
open Go.Proofs.Tryz
open List (length)
open Option (isSome)
namespace Go.Pk
open Go.RowKit (Below)
open Go.Proofs
def dj (h:Hst):List UInt8:=if h.kind=1 then h.name else if h.kind=2 then As h.ad else if h.kind=3 then[91]++yD h.ad++[93]else[]
def br (h:Hst):Bool:=match cQ (dj h)with|some g=>lG g h|none=>false
def aH (h:Hst):List (List UInt8):=if h.kind=1/\br h=true then bS 46 [] h.name else[]
theorem MM {a:List UInt8}(h:a.length=16):(As a).length <=88:=by
 have:=CE ((a.drop 12).map λc=>DF c.toNat) 46 21 (λx hx=>by
   obtain⟨c,_,rfl⟩:=List.mem_map.1 hx
   have:=kY c
   exact j4 (by omega))
 rw[List.length_map,List.length_drop,h]at this
 exact this
theorem yE (a:List UInt8):(yD a).length <=90:=by
 have hgl:=tV a
 unfold yD
 split
 · have:=nw (AJ a);omega
 · have l1:=nw (l:=(gL a).take (cr (zsA a)).1) λx hx=>AJ a x (List.mem_of_mem_take hx)
   have l2:=nw (l:=(gL a).drop ((cr (zsA a)).1+(cr (zsA a)).2)) λx hx=>AJ a x (List.mem_of_mem_drop hx)
   rw[List.length_take]at l1
   rw[List.length_drop]at l2
   simp;omega
theorem yd {h:Hst}(o:h.ok):(dj h).length <=h.name.length+100:=by
 have h4:=MM o
 have h6:=yE h.ad
 unfold dj
 split
 · omega
 split
 · omega
 split
 · simp;omega
 · simp
theorem NB {h:Hst}(j:Nat):h.cells[2+j]? =(adC h.ad)[j]? :=by rw[Nat.add_comm];rfl
theorem Et {h:Hst}(o:h.ok){w:World}{k:Nat}{T:TypeId}(ha:am w k T h.cells):(Instr.loadAt ak (.pointer (some ⟨k,2,none⟩))).run prog w=.ok (adV h.ad) w:=
 bh.load ha (i:=2) (us:=adC h.ad) (by rw[bX,o]) λj _=>NB j
theorem uc {h:Hst}(o:h.ok)(w:World)(he:Env w):Cf rS #[h.v] w (Ret λv w'=>v=vS (dj h)/\bW w w'):=by
 apply F4
 intro k1 w1 hk1 hw1
 have hB1:=(hw1▸ah w _:bW w w1)
 have h1:am w1 k1 ai h.cells:=am.new hk1 hw1
 refine⟨rfl,_,h1.load1 aB rfl rfl,?_⟩
 unfold dj
 refine ae.of (λc1=>?_) (λc1=>?_) <;> simp only[beq_iff_eq,beq_eq_false_iff_ne,ne_eq]at c1
 · rw[if_pos c1]
   exact⟨rfl,_,h1.load1 aA rfl rfl,rfl,hB1⟩
 rw[if_neg c1]
 refine ae.of (λc2=>?_) (λc2=>?_) <;> simp only[beq_iff_eq,beq_eq_false_iff_ne,ne_eq]at c2
 · rw[if_pos c2]
   refine⟨rfl,_,Et o h1,?_⟩
   refine ax (E8 h.ad o w1 (he.step hB1)) ?_
   rintro _ w2 ⟨rfl,hb2⟩
   exact⟨_,rfl,rfl,ab hB1 hb2 hB1.size⟩
 rw[if_neg c2]
 refine ae.of (λc3=>?_) (λc3=>?_) <;> simp only[beq_iff_eq,beq_eq_false_iff_ne,ne_eq]at c3
 · rw[if_pos c3]
   refine⟨rfl,_,Et o h1,?_⟩
   refine ax (E9 h.ad o w1 (he.step hB1)) ?_
   rintro _ w2 ⟨rfl,hb2⟩
   have h6:=yE h.ad
   refine⟨_,rfl,fits (by simp;omega),?_⟩
   rintro _ rfl
   refine⟨fits (by simp;omega),?_⟩
   rintro _ rfl
   exact⟨rfl,ab hB1 hb2 hB1.size⟩
 · rw[if_neg c3]
   exact⟨rfl,hB1⟩
theorem nY {h:Hst}(o:h.ok)(hn:h.name.length <=1000000000)(w:World)(he:Env w):Cf mJ #[h.v] w (Ret λv w'=>v=.bool (br h)/\bW w w'):=by
 apply D0
 have hxl:=yd o
 intro k1 w1 hk1 hw1
 have hB1:=(hw1▸ah w _:bW w w1)
 have h1:am w1 k1 ai h.cells:=am.new hk1 hw1
 refine⟨_,aJ.load0 h1 (Hst.len o),?_⟩
 refine ax (uc o w1 (he.step hB1)) ?_
 rintro _ w2 ⟨rfl,hb2⟩
 have hB2:=ab hB1 hb2 hB1.size
 refine⟨_,rfl,?_⟩
 refine ax (nW (dj h) (by omega) w2 (he.step hB2)) ?_
 rintro _ w3 ⟨rfl,hb3⟩
 have hB3:=ab hB2 hb3 hB2.size
 refine⟨_,_,by rw[nV],?_⟩
 have hok:((cQ (dj h)).getD jf).ok:=zy λx hx=>il hx
 refine aJ.new (zs:=jf.cells) (cs:=((cQ (dj h)).getD jf).cells) rfl (Hst.len hok) (Hst.one _) w3 λk4 w4 hk4 h4 hb4=>?_
 have hB4:=ab hB3 hb4 hB3.size
 have h14:=((h1.below hb2).below hb3).below hb4
 unfold br
 cases hv:cQ (dj h)with
 | none=>exact ae.no rfl ⟨rfl,hB4⟩
 | some g=>
   rw[hv]at h4 hok
   exact ae.yes rfl ⟨_,aJ.load0 h4 (Hst.len hok),_,aJ.load0 h14 (Hst.len o),_,CD hok o w4,rfl,hB4⟩
def zf (h:Hst)(w:World)(v:Value)(w':World):Prop:=∃(a:Option Addr) (n c:Nat),v=.slice a n c/\Ow tS au w' NoB a n c (aH h)/\bI w.heap.size a/\bW w w'
theorem vQ {h:Hst}(o:h.ok)(hn:h.name.length <=1000000000)(w:World)(he:Env w):Cf rR #[h.v] w (Ret (zf h w)):=by
 apply CX
 intro k1 w1 hk1 hw1
 have hB1:=(hw1▸ah w _:bW w w1)
 have h1:am w1 k1 ai h.cells:=am.new hk1 hw1
 have none_end:∀{wx:World},¬ (h.kind=1/\br h=true)->bW w wx->zf h w (.slice none 0 0) wx:=λhc hb=>⟨none,0,0,rfl,by unfold aH;rw[if_neg hc];exact Ow.nil _ _ _ _,bI.none _,hb⟩
 refine fY (λw'=>(h.kind=1/\br h=true)/\bW w1 w') ⟨rfl,_,h1.load1 aB rfl rfl,?_⟩ ?_
 · refine ae.of (λc=>none_end (λhc=>?_) hB1) (λc=>?_)
   · rw[hc.1]at c;simp at c
   · have hk:h.kind=1:=by simpa using c
     refine⟨_,aJ.load0 h1 (Hst.len o),?_⟩
     refine ax (nY o hn w1 (he.step hB1)) ?_
     rintro _ w2 ⟨rfl,hb2⟩
     refine⟨_,rfl,ae.of (λc2=>none_end (λhc=>?_) (ab hB1 hb2 hB1.size)) (λc2=>⟨⟨hk,by simpa using c2⟩,hb2⟩)⟩
     rw[hc.2]at c2;cases c2
 · rintro w2 ⟨hc,hb2⟩
   have hB2:=ab hB1 hb2 hB1.size
   refine⟨rfl,_,(h1.below hb2).load1 aA rfl rfl,?_⟩
   refine ax (mA h.name 46 (by omega) w2 (he.step hB2)) ?_
   rintro _ w3 ⟨a,n,c,rfl,ho,hf,hb3⟩
   exact⟨_,_,_,rfl,_,_,_,rfl,by unfold aH;rw[if_pos hc];exact ho,hf.mono hB2.size,ab hB2 hb3 hB2.size⟩
theorem iK.drop {α:Type}{T:Ty α}{w:World}{A:Bl}{l:List Value}{xs:List α}(h:iK T w A l xs)(j:Nat):iK T w A (l.drop (j*T.k)) (xs.drop j):=by
 refine⟨by rw[List.length_drop,List.length_drop,h.len,Nat.sub_mul],λi hi=>?_⟩
 have hi':j+i<xs.length:=by rw[List.length_drop]at hi;omega
 have:=h.rep (j+i) hi'
 rw[List.drop_drop,List.getElem_drop]
 rw[Nat.add_mul]at this
 exact this
theorem Sl.from {α:Type}{T:Ty α}{w:World}{A:Bl}{a:Option Addr}{n c:Nat}{xs:List α}(h:Sl T w A a n c xs)(j:Nat)(hj:j <=xs.length){k:Nat}(hk:T.k=k):Sl T w A (qL a c j k) (n-j) (c-j) (xs.drop j):=by
 subst hk
 obtain⟨h1,h2,h3,h4⟩:=h
 refine⟨by rw[List.length_drop,h1],by omega,by omega,?_⟩
 rcases h4 with h4|⟨b,off,e,hb,hab,l,h5,h6⟩
 · left;rw[h4];simp
 · by_cases hc:c=j
   · left
     exact List.drop_eq_nil_of_le (by omega)
   · right
     refine⟨b,off+j*T.k,?_,hb,hab,l.drop (j*T.k),h5.drop j,λi hi=>?_⟩
     · unfold qL;rw[if_neg hc,e,Option.map_some,fB]
     · rw[List.length_drop]at hi
       rw[Nat.add_assoc,h6 _ (by omega),List.getElem?_drop]
def Rb (L:List (List UInt8))(n:Nat):List UInt8:=Lib.join (L.drop (L.length-n)) [46]
def lL (h d:Hst):Bool:=if(aH d).length=0\/(aH h).length <=(aH d).length then false else lG ⟨1,Rb (aH h) (aH d).length,ad0⟩ d
def HE (h d:Hst):Bool:=if(aH h).length=0\/(aH d).length=0 then false else decide (d.name.length+1<h.name.length)&&(h.name.drop (h.name.length-(d.name.length+1))==46::d.name)
theorem MX {o:Option (List UInt8)}{h:Hst}(e:(o.map λa=>(⟨3,[],a⟩:Hst))=some h):h.kind=3:=by
 cases o with
 | none=>cases e
 | some a=>cases e;rfl
theorem jq {d:Hst}(o:d.ok)(hk:d.kind=1)(hr:br d=true):d=⟨1,d.name,ad0⟩/\ir d.name=d.name/\(bS 46 [] d.name).all bs=true/\d.name.length <=253/\cC (th (bS 46 [] d.name))=false/\cQ d.name=some d:=by
 have hx:dj d=d.name:=by unfold dj;rw[if_pos hk]
 unfold br at hr
 rw[hx]at hr
 cases hv:cQ d.name with
 | none=>rw[hv]at hr;cases hr
 | some g=>
   rw[hv]at hr
   obtain rfl:=(dP (il hv) o).1 hr
   have hv':=hv
   unfold cQ at hv'
   split at hv'
   · split at hv'
     · have:=MX hv';omega
     · cases hv'
   split at hv'
   · cases h4:v4V g.name with
     | none=>rw[h4]at hv';cases hv'
     | some a=>
       rw[h4]at hv'
       have:g.kind=2:=by rw[<- Option.some.inj hv']
       omega
   rename_i hd
   split at hv'
   · rename_i hc
     have e:=Option.some.inj hv'
     have e2:ir g.name=g.name:=congrArg Hst.name e
     rw[e2]at hc e hd
     exact⟨e.symm,e2,hc.2,hc.1,by simpa using hd,rfl⟩
   · cases hv'
theorem j8 {d:Hst}(o:d.ok)(h:(aH d).length≠0):(d.kind=1/\br d=true)/\aH d=bS 46 [] d.name:=by
 unfold aH at h ⊢
 split at h
 · rename_i hc;exact⟨hc,by rw[if_pos hc]⟩
 · exact absurd rfl h
theorem Jr (c:UInt8)(A B:List (List UInt8))(hA:A≠[])(hB:B≠[]):Lib.join (A++B) [c]=Lib.join A [c]++c::Lib.join B [c]:=by
 cases A with
 | nil=>exact absurd rfl hA
 | cons x A=>
   cases B with
   | nil=>exact absurd rfl hB
   | cons y B=>
     rw[List.cons_append,Lib.join_cons,Lib.join_cons,Lib.join_cons]
     unfold Lib.joinTail
     simp
theorem Aa {h d:Hst}(oh:h.ok)(od:d.ok):lL h d=HE h d:=by
 unfold lL HE
 by_cases hd0:(aH d).length=0
 · rw[if_pos (.inl hd0),if_pos (.inr hd0)]
 by_cases hh0:(aH h).length=0
 · rw[if_pos (.inr (by omega)),if_pos (.inl hh0)]
 rw[if_neg (show ¬ ((aH h).length=0\/(aH d).length=0) from λh=>h.elim hh0 hd0)]
 obtain⟨⟨dk,dr⟩,dl⟩:=j8 od hd0
 obtain⟨⟨hk,hr⟩,hl⟩:=j8 oh hh0
 obtain⟨d1,-,d3,-,-,-⟩:=jq od dk dr
 obtain⟨h1,-,h3,-,-,-⟩:=jq oh hk hr
 have hjh:=jm 46 h.name []
 have hjd:=jm 46 d.name []
 rw[List.nil_append]at hjh hjd
 rw[dl,hl]
 have hne:=mW 46 h.name []
 have hpos:0<(bS 46 [] h.name).length:=List.length_pos_iff.2 hne
 have dpos:0<(bS 46 [] d.name).length:=List.length_pos_iff.2 (mW 46 d.name [])
 have eqn:∀x:List UInt8,lG ⟨1,x,ad0⟩ d=(x==d.name):=λx=>by
   rw[Bool.eq_iff_iff,dP (show(⟨1,x,ad0⟩:Hst).ok from rfl) od,beq_iff_eq]
   constructor
   · intro e;exact congrArg Hst.name e
   · intro e;rw[d1];simp[e]
 rw[eqn,Bool.eq_iff_iff]
 by_cases hlt:(bS 46 [] h.name).length <=(bS 46 [] d.name).length
 · rw[if_pos (show(bS 46 [] d.name).length=0\/(bS 46 [] h.name).length <=(bS 46 [] d.name).length from .inr hlt)]
   refine⟨(λh=>by cases h),λhx=>?_⟩
   rw[Bool.and_eq_true,dTx,beq_iff_eq]at hx
   exfalso
   have hs:h.name=h.name.take (h.name.length-(d.name.length+1))++46::d.name:=by rw[<- hx.2,List.take_append_drop]
   have hc:=congrArg (λs=>(bS 46 [] s).length) hs
   simp only[cy,List.length_append]at hc
   have:0<(bS 46 [] (h.name.take (h.name.length-(d.name.length+1)))).length:=List.length_pos_iff.2 (mW 46 _ [])
   omega
 · rw[if_neg (show ¬ ((bS 46 [] d.name).length=0\/(bS 46 [] h.name).length <=(bS 46 [] d.name).length) from λh=>h.elim (λh=>by omega) hlt),beq_iff_eq,Bool.and_eq_true,dTx,beq_iff_eq]
   unfold Rb
   constructor
   · intro hj
     have hA:(bS 46 [] h.name).take ((bS 46 [] h.name).length-(bS 46 [] d.name).length)≠[]:=by
       intro e
       have:=congrArg List.length e
       rw[List.length_take,List.length_nil]at this;omega
     have hB:(bS 46 [] h.name).drop ((bS 46 [] h.name).length-(bS 46 [] d.name).length)≠[]:=by
       intro e
       have:=congrArg List.length e
       rw[List.length_drop,List.length_nil]at this;omega
     have ha:=Jr 46 _ _ hA hB
     rw[List.take_append_drop,hjh,hj]at ha
     have hp:Lib.join ((bS 46 [] h.name).take ((bS 46 [] h.name).length-(bS 46 [] d.name).length)) [46]≠[]:=by
       cases hc:(bS 46 [] h.name).take ((bS 46 [] h.name).length-(bS 46 [] d.name).length)with
       | nil=>exact absurd hc hA
       | cons x A=>
         rw[Lib.join_cons]
         intro e
         have hx:x∈bS 46 [] h.name:=List.mem_of_mem_take (by rw[hc];exact List.mem_cons_self)
         have:=List.all_eq_true.1 h3 x hx
         rw[(List.append_eq_nil_iff.1 e).1]at this
         cases this
     generalize Lib.join ((bS 46 [] h.name).take ((bS 46 [] h.name).length-(bS 46 [] d.name).length)) [46]=p at*
     have hpl:0<p.length:=List.length_pos_iff.2 hp
     have hlen:=congrArg List.length ha
     rw[List.length_append,List.length_cons]at hlen
     refine⟨by omega,?_⟩
     rw[show h.name.length-(d.name.length+1)=p.length by omega,ha]
     simp
   · rintro⟨hl',hdr⟩
     have hs:h.name=h.name.take (h.name.length-(d.name.length+1))++46::d.name:=by rw[<- hdr,List.take_append_drop]
     have hc:bS 46 [] h.name=bS 46 [] (h.name.take (h.name.length-(d.name.length+1)))++bS 46 [] d.name:=by
       conv=>lhs;rw[hs]
       exact cy 46 _ _ _
     rw[hc,List.length_append,Nat.add_sub_cancel,List.drop_left]
     exact hjd
theorem Hs (a:lU){w K}(h:∃b:FP [],(ae (a==[]) (K (.bool false) w) (ae (decide (((List.length a:Nat):Int)>(2048:Int))) (K (.bool false) w) (bx (0:Int) ((List.length a:Nat):Int)/\ae ((aQ a (0:Int)) !=(47:Int)) (K (.bool false) w) (b w))))/\aC 13 (∀c,b c->∃d e f g,(convert au aP (vS a)).run prog c=.ok (.slice e f g) d/\∃i:Nat->FP [.one (.int .i64)],(∃j,i j (0:Int) d)/\∀j k,aC 20 (∀l,i j k l->ae (decide (k<((f:Nat):Int))) ((bx k ((f:Nat):Int)/\Option.isSome e=true)/\∃m,Ld aG (ao e k 1) l (.int .u8 m)/\ae (decide (m<(33:Int))) (K (.bool false) l) (ae (decide (m>(126:Int))) (K (.bool false) l) (ae (m==(63:Int)) (K (.bool false) l) (ae (m==(35:Int)) (K (.bool false) l) (∃n:Nat,n<j/\i n (i64.wrap (k+(1:Int))) l))))) (K (.bool true) l)))):Cf qY #[vS a] w (Ret K):=ru func137 [(2,[]),(14,[(20,.one (.int .i64))])] h
def tj (c:UInt8):Bool:= !(decide (((c.toNat:Nat):Int)<33) || (decide (((c.toNat:Nat):Int)>126) || (c==63 || c==35)))
def jn (s:List UInt8):Bool:=decide (s.head?=some 47)&&(decide (s.length <=2048)&&s.all tj)
theorem FT {s:List UInt8}{k:Nat}(hlt:k<s.length)(h:tj s[k]=false):jn s=false:=by
 have:s.all tj=false:=by
   rw[Bool.eq_false_iff];intro hx;rw[List.all_eq_true.1 hx _ (List.getElem_mem hlt)]at h;cases h
 unfold jn;rw[this,Bool.and_false,Bool.and_false]
theorem zH (c:UInt8)(H:Prop)(hH:H){Y N:Prop}(hy:tj c=true->Y)(hn:tj c=false->N):
   ae (decide (((c.toNat:Nat):Int)<33)) N (H/\ae (decide (((c.toNat:Nat):Int)>126)) N (H/\ae (((c.toNat:Nat):Int)==(63:Int)) N (H/\ae (((c.toNat:Nat):Int)==(35:Int)) N Y))):=by
 have e63:=mu c 63
 have e35:=mu c 35
 rw[show(((63:UInt8).toNat:Nat):Int)=63 from rfl]at e63
 rw[show(((35:UInt8).toNat:Nat):Int)=35 from rfl]at e35
 rw[e63,e35]
 refine ae.of (λh=>hn ?_) (λh=>⟨hH,ae.of (λh2=>hn ?_) (λh2=>⟨hH,ae.of (λh3=>hn ?_) (λh3=>⟨hH,ae.of (λh4=>hn ?_) (λh4=>hy ?_)⟩)⟩)⟩)
 · unfold tj;rw[h];rfl
 · unfold tj;rw[h,h2];rfl
 · unfold tj;rw[h,h2,h3];rfl
 · unfold tj;rw[h,h2,h3,h4];rfl
 · unfold tj;rw[h,h2,h3,h4];rfl
theorem IA (c:UInt8){Y N:Prop}(hy:tj c=true->Y)(hn:tj c=false->N):
   ae (decide (((c.toNat:Nat):Int)<33)) N (ae (decide (((c.toNat:Nat):Int)>126)) N (ae (((c.toNat:Nat):Int)==(63:Int)) N (ae (((c.toNat:Nat):Int)==(35:Int)) N Y))):=by
 have:=zH c True trivial hy hn
 simpa only[true_and]using this
theorem xE (s:List UInt8)(w:World):Cf qY #[vS s] w (Ret λv w'=>v=.bool (jn s)/\bW w w'):=by
 apply Hs
 refine vt (w:=w) (s.head?=some 47/\s.length <=2048) ?_ ?_
 · refine ae.of (λh=>⟨?_,Below.refl _ _⟩) (λh=>?_)
   · have:s=[]:=by simpa using h
     subst this;rfl
   have hne:s≠[]:=by simpa using h
   have hl:0<s.length:=List.length_pos_iff.2 hne
   have hh:s.head?=some s[0]:=by rw[List.head?_eq_getElem?,List.getElem?_eq_getElem hl]
   refine ae.of (λh=>⟨?_,Below.refl _ _⟩) (λh2=>⟨⟨by decide,by omega⟩,?_⟩)
   · unfold jn;rw[decide_eq_false (p:=s.length <=2048) (by simp at h;omega),Bool.false_and,Bool.and_false]
   have hb:=byte_at (s:=s) (k:=0) hl
   rw[show((0:Nat):Int)=0 from rfl]at hb
   have hu:=mu s[0] 47
   rw[show(((47:UInt8).toNat:Nat):Int)=47 from rfl]at hu
   simp only[bne,hb,hu]
   refine ae.of (λh3=>⟨?_,Below.refl _ _⟩) (λh3=>⟨trivial,?_,by simp at h2;omega⟩)
   · unfold jn;rw[hh,decide_eq_false (p:=some s[0]=some 47) (by simpa using h3),Bool.false_and]
   · rw[hh];simpa using h3
 · rintro⟨hh,hl⟩
   have hp:jn s=s.all tj:=by unfold jn;rw[decide_eq_true hh,decide_eq_true hl,Bool.true_and,Bool.true_and]
   obtain⟨w2,a,n,c,hr,ho,hb2,hf⟩:=uX (P:=prog) aA bZ bP w s (by omega) NoB
   have hnn:=ho.len
   subst hnn
   refine⟨w2,a,_,c,hr,?_⟩
   refine⟨λm i w'=>∃k:Nat,k <=s.length/\i=(k:Int)/\m=s.length-k/\(s.take k).all tj=true/\w'=w2,⟨_,0,by omega,rfl,rfl,rfl,rfl⟩,?_⟩
   intro m i
   refine aC.of ?_ _
   rintro w' ⟨k,hk,rfl,rfl,hno,hw'⟩
   rw[hw'];clear hw'
   refine ae.of (λh=>?_) (λh=>?_) <;> simp only[dTx,dFx]at h
   · have hlt:k<s.length:=by omega
     obtain⟨v,hv,hrep⟩:=ho.all.load1 (i:=(k:Int)) bP rfl rfl (by simpa using hlt)
     have:=Aw hrep
     subst this
     simp only[Int.toNat_natCast]at hv
     refine⟨⟨⟨by omega,h⟩,ho.all.isSome hlt⟩,_,hv,IA _ (λhc=>?_) (λhc=>⟨by rw[FT hlt hc],hb2⟩)⟩
     exact⟨s.length-(k+1),by omega,k+1,by omega,by rw[wrap_i64 (by omega) (by omega)];omega,rfl,by rw[List.take_succ_eq_append_getElem hlt,List.all_append,hno];simp[hc],rfl⟩
   · have:k=s.length:=by omega
     subst this
     rw[List.take_length]at hno
     exact⟨by rw[hp,hno],hb2⟩
def GT (h d:Hst):Bool:=br h&&(br d&&(lG h d || lL h d))
def vz (p o:List UInt8):Bool:=(p==o) || (decide (o.length<p.length)&&((p.take o.length==o)&&(decide (p[o.length]? =some 47) || decide (o.getLast?=some 47))))
structure Cky where
 name:List UInt8
 value:List UInt8
 host:Hst
 only:Bool
 path:List UInt8
 sec:Bool
 http:Bool
 same:Int
 exp:Int
 born:Int
 used:Int
 seq:Int
def Cky.tail (c:Cky):List Value:=[.bool c.only,vS c.path,.bool c.sec,.bool c.http,vI c.same,vI c.exp,vI c.born,vI c.used,vI c.seq]
def Cky.cells (c:Cky):List Value:=vS c.name::vS c.value::(c.host.cells++c.tail)
def Cky.v (c:Cky):Value:=.agg c.cells.toArray
def Cky.ok (c:Cky):Prop:=c.host.ok
theorem Cky.len {c:Cky}(o:c.ok):c.cells.length=29:=by unfold Cky.cells;rw[List.length_cons,List.length_cons,List.length_append,Hst.len o];rfl
theorem Cky.one (c:Cky):DE c.cells:=aW rfl (aW rfl (CN (Hst.one _) (aW rfl (aW rfl (aW rfl (aW rfl (aW rfl (aW rfl (aW rfl (aW rfl (aW rfl jA)))))))))))
theorem Bn {c:Cky}(o:c.ok){j:Nat}(h:j<18):c.cells[2+j]? =c.host.cells[j]? :=by
 unfold Cky.cells
 rw[show 2+j=j+1+1 by omega,List.getElem?_cons_succ,List.getElem?_cons_succ,List.getElem?_append_left (by rw[Hst.len o];exact h)]
theorem cO {c:Cky}(o:c.ok)(j:Nat):c.cells[20+j]? =c.tail[j]? :=by
 unfold Cky.cells
 rw[show 20+j=(18+j)+1+1 by omega,List.getElem?_cons_succ,List.getElem?_cons_succ,List.getElem?_append_right (by rw[Hst.len o];omega),Hst.len o]
 congr 1;omega
structure Req where
 sec:Bool
 host:Hst
 path:List UInt8
 cross:Int
def Req.tail (r:Req):List Value:=[vS r.path,vI r.cross]
def Req.cells (r:Req):List Value:=.bool r.sec::(r.host.cells++r.tail)
def Req.v (r:Req):Value:=.agg r.cells.toArray
def Req.ok (r:Req):Prop:=r.host.ok
theorem Req.len {r:Req}(o:r.ok):r.cells.length=21:=by unfold Req.cells;rw[List.length_cons,List.length_append,Hst.len o];rfl
theorem Req.one (r:Req):DE r.cells:=aW rfl (CN (Hst.one _) (aW rfl (aW rfl jA)))
theorem jp {r:Req}(o:r.ok){j:Nat}(h:j<18):r.cells[1+j]? =r.host.cells[j]? :=by
 unfold Req.cells
 rw[Nat.add_comm,List.getElem?_cons_succ,List.getElem?_append_left (by rw[Hst.len o];exact h)]
theorem cK {r:Req}(o:r.ok)(j:Nat):r.cells[19+j]? =r.tail[j]? :=by
 unfold Req.cells
 rw[show 19+j=(18+j)+1 by omega,List.getElem?_cons_succ,List.getElem?_append_right (by rw[Hst.len o];omega),Hst.len o]
 congr 1;omega
def xT (same cross:Int):Bool:=if cross=1 then same !=3 else if cross=2 then same==1 else cross==0
def vF (c:Cky)(r:Req)(now:Int):Bool:=
 !(c.only && !lG c.host r.host)&&(GT r.host c.host&&(vz r.path c.path&&(!(c.sec && !r.sec)&&(!(decide (now >=c.exp))&&xT c.same r.cross))))
theorem uQ:Whl prog bE 29:=⟨⟨_,_,Gi⟩,by kernel_rfl⟩
theorem bQ:Whl prog aq 21:=⟨⟨_,_,Ee⟩,by kernel_rfl⟩
theorem AV (a:Int)(b:Option Addr){w K}(h:ae (decide (a<(0:Int))) (K (.bool true) w) (∃c,Ld aw b w (vI c)/\K (.bool (decide (a >=c))) w)):Cf cR #[vI a,.pointer b] w (Ret K):=ru func155 [] h
theorem iE (a:Option Addr)(b c:Nat)(d:Option Addr){w K}(h:∃e:Nat->FP [.one (.int .i64)],(∃f,e f (0:Int) w)/\∀f g,aC 12 (∀i,e f g i->ae (decide (g<((b:Nat):Int))) ((bx g ((b:Nat):Int)/\Option.isSome a=true)/\∃j,Ld aw (ao a g 1) i (vI j)/\uB cR #[vI j,.pointer d] i λk l=>ae k (K (vI g) l) (∃m:Nat,m<f/\e m (i64.wrap (g+(1:Int))) l)) (K (vI (-1)) i))):Cf bm #[.slice a b c,.func (.func cR) #[] #[.pointer d]] w (Ret K):=ru func202 [(6,[(8,.one (.int .i64))])] h
theorem gC (a:Option Addr)(b c:Nat)(d:Option Addr){w K}(h:uI bm #[.slice a b c,.func (.func cR) #[] #[.pointer d]] w λe f=>K (.bool (decide (e >=(0:Int)))) f):Cf aZ #[.slice a b c,.func (.func cR) #[] #[.pointer d]] w (Ret K):=ru func152 [] h
theorem F2 (a b:Int)(c:Option Addr)(d e:Nat)(f:Option Addr)(g i:Nat){w K}(h:nA w (.cells #[vI a,vI b,.slice c d e,.slice f g i] af) λj k=>true/\∃l m n,Ld aO (vA j 3) k (.slice l m n)/\nA k (.cells #[vI 0] aw) λo p=>∃q,Sv aw (vA o 0) (vI ((m:Nat):Int)) p q/\∃r:FP [],(true/\∃s,Ld aw (vA j 0) q (vI s)/\ae (decide (s<(1:Int))) (K (.bool false) q) (true/\∃t,Ld aw (vA j 0) q (vI t)/\ae (decide (t>(512:Int))) (K (.bool false) q) (∃u,Ld aw (vA o 0) q (vI u)/\ae (decide (u<(1:Int))) (K (.bool false) q) (∃v,Ld aw (vA o 0) q (vI v)/\ae (decide (v>(65536:Int))) (K (.bool false) q) (true/\∃x y z,Ld ar (vA j 2) q (.slice x y z)/\∃A,Ld aw (vA o 0) q (vI A)/\true/\∃B,Ld aw (vA j 0) q (vI B)/\ae (((y:Nat):Int) !=(i64.wrap (A*B))) (K (.bool false) q) (true/\∃C,Ld aw (vA j 1) q (vI C)/\ae (decide (C<(0:Int))) (K (.bool false) q) (true/\∃D,Ld aw (vA j 1) q (vI D)/\∃E,Ld aw (vA o 0) q (vI E)/\ae (decide (D >=E)) (K (.bool false) q) (r q))))))))/\aC 38 (∀s,r s->true/\∃t u v,Ld ar (vA j 2) s (.slice t u v)/\uB aZ #[.slice t u v,.func (.func cR) #[] #[.pointer (vA o 0)]] s λx y=>K (.bool (!x)) y)):Cf iM #[.agg #[vI a,vI b,.slice c d e,.slice f g i]] w (Ret K):=ru func102 [(4,[])] h
theorem xv (a b:Int){w K}(h:(0 <=(32:Int))/\(0 <=(32:Int))/\(0 <=(32:Int))/\(0 <=(32:Int))/\(0 <=(32:Int))/\K (.tuple #[.int .u64 (IntKind.u64.wrap ((IntKind.u64.wrap ((IntKind.u64.wrap ((Int.fdiv a (2 ^ (min (Int.toNat 32) (IntKind.bits .u64))))*(Int.fdiv b (2 ^ (min (Int.toNat 32) (IntKind.bits .u64))))))+(Int.fdiv (IntKind.u64.wrap ((IntKind.u64.wrap ((Int.fdiv a (2 ^ (min (Int.toNat 32) (IntKind.bits .u64))))*(IntKind.u64.wrap (((BitVec.ofInt (IntKind.bits .u64) b) &&& (BitVec.ofInt (IntKind.bits .u64) (4294967295:Int))).toNat:Nat))))+(Int.fdiv (IntKind.u64.wrap ((IntKind.u64.wrap (((BitVec.ofInt (IntKind.bits .u64) a) &&& (BitVec.ofInt (IntKind.bits .u64) (4294967295:Int))).toNat:Nat))*(IntKind.u64.wrap (((BitVec.ofInt (IntKind.bits .u64) b) &&& (BitVec.ofInt (IntKind.bits .u64) (4294967295:Int))).toNat:Nat)))) (2 ^ (min (Int.toNat 32) (IntKind.bits .u64)))))) (2 ^ (min (Int.toNat 32) (IntKind.bits .u64))))))+(Int.fdiv (IntKind.u64.wrap ((IntKind.u64.wrap (((BitVec.ofInt (IntKind.bits .u64) (IntKind.u64.wrap ((IntKind.u64.wrap ((Int.fdiv a (2 ^ (min (Int.toNat 32) (IntKind.bits .u64))))*(IntKind.u64.wrap (((BitVec.ofInt (IntKind.bits .u64) b) &&& (BitVec.ofInt (IntKind.bits .u64) (4294967295:Int))).toNat:Nat))))+(Int.fdiv (IntKind.u64.wrap ((IntKind.u64.wrap (((BitVec.ofInt (IntKind.bits .u64) a) &&& (BitVec.ofInt (IntKind.bits .u64) (4294967295:Int))).toNat:Nat))*(IntKind.u64.wrap (((BitVec.ofInt (IntKind.bits .u64) b) &&& (BitVec.ofInt (IntKind.bits .u64) (4294967295:Int))).toNat:Nat)))) (2 ^ (min (Int.toNat 32) (IntKind.bits .u64))))))) &&& (BitVec.ofInt (IntKind.bits .u64) (4294967295:Int))).toNat:Nat))+(IntKind.u64.wrap ((IntKind.u64.wrap (((BitVec.ofInt (IntKind.bits .u64) a) &&& (BitVec.ofInt (IntKind.bits .u64) (4294967295:Int))).toNat:Nat))*(Int.fdiv b (2 ^ (min (Int.toNat 32) (IntKind.bits .u64)))))))) (2 ^ (min (Int.toNat 32) (IntKind.bits .u64)))))),.int .u64 (IntKind.u64.wrap (a*b))]) w):Cf qX #[.int .u64 a,.int .u64 b] w (Ret K):=ru func204 [] h
theorem zT (a b:Int){w K}(h:Cf qX #[.int .u64 a,.int .u64 b] w λc d=>∃e f,c=rT #[.int .u64 e,.int .u64 f]/\K (.tuple #[.int .u64 e,.int .u64 f]) d):Cf oL #[.int .u64 a,.int .u64 b] w (Ret K):=ru func154 [] h
theorem qJ (a:Option Addr)(b c:Nat)(d:Int){w K}(h:∃e:FP [],(ae (decide (d<(0:Int))) (False) (e w))/\aC 3 (∀f,e f->Cf oL #[.int .u64 (IntKind.u64.wrap ((b:Nat):Int)),.int .u64 (IntKind.u64.wrap d)] f λg i=>∃j k,g=rT #[.int .u64 j,.int .u64 k]/\∃l:FP [],(∃m:FP [.one .bool],(ae (decide (j>(0:Int))) (m true i) (m (decide (k>(9223372036854775807:Int))) i))/\∀n,aC 5 (∀o,m n o->ae n (False) (l o)))/\aC 7 (∀m,l m->∃n o p q,(Instr.makeSlice ar (vI (i64.wrap k)) (vI (i64.wrap k))).run prog m=.ok (.slice o p q) n/\∃r s,(Builtin.copy_ #[ar,ar] aw #[.slice o p q,.slice a b c]).run prog n=.ok (vI s) r/\∃t:Nat->FP [.one (.int .i64)],(∃u,t u s r)/\∀u v,aC 13 (∀x,t u v x->ae (decide (v<((p:Nat):Int))) (bd v ((p:Nat):Int)/\bd v ((q:Nat):Int)/\∃y z,(Builtin.copy_ #[ar,ar] aw #[.slice (qL o q (Int.toNat v) 1) (p-(Int.toNat v)) (q-(Int.toNat v)),.slice o (Int.toNat v) q]).run prog (World.drew x)=.ok (vI z) y/\∃A:Nat,A<u/\t A (i64.wrap (v+z)) y) (K (.slice o p q) x))))):Cf bL #[.slice a b c,vI d] w (Ret K):=ru func101 [(2,[]),(10,[]),(11,[(26,.one .bool)]),(22,[(8,.one (.int .i64))])] h
theorem xr (a:Option Addr)(b:Bool)(c:Int){w K}(h:(Option.isSome a=true)/\(Option.isSome a=true)/\(isSome (Option.map (λd=>d.add 0) a))/\∃d e f,Ld aO (Option.map (λg=>g.add 3) (Option.map (λg=>g.add 0) a)) w (.slice d e f)/\nA w (.cells #[.bool b] aX) λg i=>∃j k l m,(Builtin.append_ #[aO,aO] aO #[.slice d e f,.slice (vA g 0) 1 1]).run prog i=.ok (.slice k l m) j/\(Option.isSome a=true)/\(Option.isSome a=true)/\(isSome (Option.map (λn=>n.add 0) a))/\∃n,Sv aO (Option.map (λo=>o.add 3) (Option.map (λo=>o.add 0) a)) (.slice k l m) j n/\(Option.isSome a=true)/\(Option.isSome a=true)/\(isSome (Option.map (λo=>o.add 0) a))/\(Option.isSome a=true)/\(Option.isSome a=true)/\(isSome (Option.map (λo=>o.add 0) a))/\∃o p q,(∀r,bW n r->Ld ar (Option.map (λs=>s.add 2) (Option.map (λs=>s.add 0) a)) r (.slice o p q))/\∃r,(∀s,bW n s->Ld aw (Option.map (λt=>t.add 0) (Option.map (λt=>t.add 0) a)) s (vI r))/\∀s,n.heap.size <=s->∃t:FP [.one .slice],(∀u v x y z,t u v x y->bW y z->t u v x z)/\(∀u,bW n u->u.heap[s]? =some (.cells #[vI c] aw)->uL bL #[.slice (vA s 0) 1 1,vI r] u λv x y z=>t v x y z/\bW u z)/\∀u v x,∀y,bW n y->t u v x y->y.heap[s]? =some (.cells #[vI c] aw)->∃z A B C,(Builtin.append_ #[ar,ar] ar #[.slice o p q,.slice u v x]).run prog y=.ok (.slice A B C) z/\(Option.isSome a=true)/\(Option.isSome a=true)/\(isSome (Option.map (λD=>D.add 0) a))/\∃D,Sv ar (Option.map (λE=>E.add 2) (Option.map (λE=>E.add 0) a)) (.slice A B C) z D/\(Option.isSome a=true)/\(Option.isSome a=true)/\(isSome (Option.map (λE=>E.add 0) a))/\∃E F G,Ld aO (Option.map (λH=>H.add 3) (Option.map (λH=>H.add 0) a)) D (.slice E F G)/\K (vI (i64.wrap (((F:Nat):Int)-(1:Int)))) D):Cf dt #[.pointer a,.bool b,vI c] w (Ret K):=ru func132 [(3000005,[(0,.one .bool),(1,.one .bool),(2,.one .bool),(3,.one .bool),(4,.one .bool),(6,.one .bool),(8,.one .bool),(9,.one .bool),(10,.one .bool),(11,.one .bool),(5,.one .bool),(12,.one .bool),(7,.one .bool),(13,.one .slice)])] h
theorem AW (a:Int)(b:Option Addr){w K}(h:ae (decide (a<(0:Int))) (K (.bool true) w) (∃c,Ld aw b w (vI c)/\K (.bool (decide (a >=c))) w)):Cf cS #[vI a,.pointer b] w (Ret K):=ru func153 [] h
theorem iF (a:Option Addr)(b c:Nat)(d:Option Addr){w K}(h:∃e:Nat->FP [.one (.int .i64)],(∃f,e f (0:Int) w)/\∀f g,aC 12 (∀i,e f g i->ae (decide (g<((b:Nat):Int))) ((bx g ((b:Nat):Int)/\Option.isSome a=true)/\∃j,Ld aw (ao a g 1) i (vI j)/\uB cS #[vI j,.pointer d] i λk l=>ae k (K (vI g) l) (∃m:Nat,m<f/\e m (i64.wrap (g+(1:Int))) l)) (K (vI (-1)) i))):Cf bm #[.slice a b c,.func (.func cS) #[] #[.pointer d]] w (Ret K):=ru func202 [(6,[(8,.one (.int .i64))])] h
theorem gE (a:Option Addr)(b c:Nat)(d:Option Addr){w K}(h:uI bm #[.slice a b c,.func (.func cS) #[] #[.pointer d]] w λe f=>K (.bool (decide (e >=(0:Int)))) f):Cf aZ #[.slice a b c,.func (.func cS) #[] #[.pointer d]] w (Ret K):=ru func152 [] h
theorem F3 (a:Int)(b:Option Addr)(c d:Nat)(e:Bool){w K}(h:nA w (.cells #[vI a] aw) λf g=>nA g (.cells #[vI 0,vI 0,.slice none 0 0,.slice none 0 0] af) λi j=>∃k:FP [],(∃l:FP [.one .bool],(∃m,Ld aw (vA f 0) j (vI m)/\ae (decide (m<(1:Int))) (l true j) (∃n,Ld aw (vA f 0) j (vI n)/\ae (decide (n>(512:Int))) (l true j) (uB aZ #[.slice b c d,.func (.func cS) #[] #[.pointer (vA f 0)]] j λo p=>l o p)))/\∀m,aC 10 (∀n,l m n->ae m (∃o,Sv af (vA i 0) (.agg #[vI 0,vI 0,.slice none 0 0,.slice none 0 0]) n o/\∃p q r s t u v x,Rv af (vA i 0) o (.agg #[vI p,vI q,.slice r s t,.slice u v x])/\K (.tuple #[.agg #[vI p,vI q,.slice r s t,.slice u v x],vI 151]) o) (k n)))/\aC 13 (∀l,k l->ae (decide (((c:Nat):Int)>(65534:Int))) (∃m,Sv af (vA i 0) (.agg #[vI 0,vI 0,.slice none 0 0,.slice none 0 0]) l m/\∃n o p q r s t u,Rv af (vA i 0) m (.agg #[vI n,vI o,.slice p q r,.slice s t u])/\K (.tuple #[.agg #[vI n,vI o,.slice p q r,.slice s t u],vI 152]) m) (∃m,Ld aw (vA f 0) l (vI m)/\nA l (.cells #[vI m,vI 1,.slice none 0 0,.slice none 0 0] lN) λn o=>uI dt #[.pointer (vA n 0),.bool false,vI 0] o λp q=>∃r:Nat->FP [.one (.int .i64)],(∃s,r s (0:Int) q)/\∀s t,aC 21 (∀u,r s t u->ae (decide (t<((c:Nat):Int))) ((bx t ((c:Nat):Int)/\Option.isSome b=true)/\∃v,Ld aw (ao b t 1) u (vI v)/\uI dt #[.pointer (vA n 0),.bool false,vI 0] u λx y=>true/\true/\true/\∃z A B,(∀C,bW y C->Ld ar (vA n 2) C (.slice z A B))/\∃C,(∀D,bW y D->Ld aw (vA f 0) D (vI C))/\(bx (i64.wrap ((i64.wrap (x*C))+v)) ((A:Nat):Int)/\Option.isSome z=true)/\∀D,bW y D->∃E,Sv aw (ao z (i64.wrap ((i64.wrap (x*C))+v)) 1) (vI (i64.wrap (x+(1:Int)))) D E/\∃F:Nat,F<s/\r F (i64.wrap (t+(1:Int))) E) (true/\true/\true/\∃v x y,Ld aO (vA n 3) u (.slice v x y)/\∃z:FP [.one (.int .i64)],(ae e (z ((x:Nat):Int) u) (z (0:Int) u))/\∀A,aC 2 (∀B,z A B->uI dt #[.pointer (vA n 0),.bool true,vI A] B λC D=>true/\true/\∃E F G H I J L M,Ld af (vA n 0) D (.agg #[vI E,vI F,.slice G H I,.slice J L M])/\∃N,Sv af (vA i 0) (.agg #[vI E,vI F,.slice G H I,.slice J L M]) D N/\∃O P Q R S T U V,Rv af (vA i 0) N (.agg #[vI O,vI P,.slice Q R S,.slice T U V])/\K (.tuple #[.agg #[vI O,vI P,.slice Q R S,.slice T U V],vI 0]) N)))))):Cf rP #[vI a,.slice b c d,.bool e] w (Ret K):=ru func98 [(2,[]),(3,[(24,.one .bool)]),(26,[(38,.one (.int .i64))]),(3000039,[(0,.one .bool),(1,.one .bool),(2,.one .bool),(3,.one .bool),(5,.one .bool),(8,.one .bool),(10,.one .bool),(11,.one .bool),(4,.one .bool),(6,.one .bool),(7,.one .bool),(9,.one .bool),(12,.one .bool)]),(45,[(13,.one (.int .i64))])] h
theorem Ho (a:Int){w K}(h:nA w (.cells #[vI 0,vI 0,.slice none 0 0,.slice none 0 0] af) λb c=>∃d:FP [],(∃e:FP [.one .bool],(ae (decide (a<(1:Int))) (e true c) (e (decide (a>(512:Int))) c))/\∀f,aC 5 (∀g,e f g->ae f (∃i,Sv af (vA b 0) (.agg #[vI 0,vI 0,.slice none 0 0,.slice none 0 0]) g i/\∃j k l m n o p q,Rv af (vA b 0) i (.agg #[vI j,vI k,.slice l m n,.slice o p q])/\K (.tuple #[.agg #[vI j,vI k,.slice l m n,.slice o p q],vI 151]) i) (d g)))/\aC 8 (∀e,d e->nA e (.cells #[vI a,vI 0,.slice none 0 0,.slice none 0 0] lN) λf g=>uI dt #[.pointer (vA f 0),.bool false,vI 0] g λi j=>true/\true/\∃k l m n o p q r,Ld af (vA f 0) j (.agg #[vI k,vI l,.slice m n o,.slice p q r])/\∃s,Sv af (vA b 0) (.agg #[vI k,vI l,.slice m n o,.slice p q r]) j s/\∃t u v x y z A B,Rv af (vA b 0) s (.agg #[vI t,vI u,.slice v x y,.slice z A B])/\K (.tuple #[.agg #[vI t,vI u,.slice v x y,.slice z A B],vI 0]) s)):Cf qV #[vI a] w (Ret K):=ru func99 [(2,[]),(3,[(10,.one .bool)])] h
theorem Hr (a:Int)(b:Option Addr)(c d:Nat){w K}(h:nA w (.cells #[vI 0,vI 0,.slice none 0 0,.slice none 0 0] af) λe f=>Cf rP #[vI a,.slice b c d,.bool false] f λg i=>∃j k l m n o p q r,g=rT #[.agg #[vI j,vI k,.slice l m n,.slice o p q],vI r]/\∃s,Sv af (vA e 0) (.agg #[vI j,vI k,.slice l m n,.slice o p q]) i s/\∃t u v x y z A B,Rv af (vA e 0) s (.agg #[vI t,vI u,.slice v x y,.slice z A B])/\K (.tuple #[.agg #[vI t,vI u,.slice v x y,.slice z A B],vI r]) s):Cf vd #[vI a,.slice b c d] w (Ret K):=ru func49 [] h
theorem DX (a:Int)(b:Option Addr)(c d:Nat){w K}(h:nA w (.cells #[vI 0,vI 0,.slice none 0 0,.slice none 0 0] af) λe f=>Cf rP #[vI a,.slice b c d,.bool true] f λg i=>∃j k l m n o p q r,g=rT #[.agg #[vI j,vI k,.slice l m n,.slice o p q],vI r]/\∃s,Sv af (vA e 0) (.agg #[vI j,vI k,.slice l m n,.slice o p q]) i s/\∃t u v x y z A B,Rv af (vA e 0) s (.agg #[vI t,vI u,.slice v x y,.slice z A B])/\K (.tuple #[.agg #[vI t,vI u,.slice v x y,.slice z A B],vI r]) s):Cf pU #[vI a,.slice b c d] w (Ret K):=ru func100 [] h
theorem CV (a b:Bool){w K}(h:ae a (K (.bool b) w) (K (.bool false) w)):Cf gT #[.bool a,.bool b] w (Ret K):=ru func74 [] h
theorem pe (a b:Int)(c:Option Addr)(d e:Nat)(f:Option Addr)(g i:Nat)(j k:Int)(l:Option Addr)(m n:Nat)(o:Option Addr)(p q:Nat){w K}(h:nA w (.cells #[vI a,vI b,.slice c d e,.slice f g i] af) λr s=>nA s (.cells #[vI j,vI k,.slice l m n,.slice o p q] af) λt u=>nA u (.cells #[vI 0,vI 0,.slice none 0 0,.slice none 0 0] af) λv x=>∃y:FP [],(∃z:FP [.one .bool],(∃A B C D E F G H,Ld af (vA r 0) x (.agg #[vI A,vI B,.slice C D E,.slice F G H])/\uB iM #[.agg #[vI A,vI B,.slice C D E,.slice F G H]] x λI J=>ae (!I) (z true J) (∃L M N O P Q R S,Ld af (vA t 0) J (.agg #[vI L,vI M,.slice N O P,.slice Q R S])/\uB iM #[.agg #[vI L,vI M,.slice N O P,.slice Q R S]] J λT U=>ae (!T) (z true U) (true/\∃V,Ld aw (vA r 0) U (vI V)/\true/\∃X,Ld aw (vA t 0) U (vI X)/\z (V !=X) U)))/\∀A,aC 14 (∀B,z A B->ae A (∃C,Sv af (vA v 0) (.agg #[vI 0,vI 0,.slice none 0 0,.slice none 0 0]) B C/\∃D E F G H I J L,Rv af (vA v 0) C (.agg #[vI D,vI E,.slice F G H,.slice I J L])/\K (.tuple #[.agg #[vI D,vI E,.slice F G H,.slice I J L],vI 151]) C) (y B)))/\aC 17 (∀z,y z->true/\∃A,Ld aw (vA r 0) z (vI A)/\nA z (.cells #[vI A,vI 0,.slice none 0 0,.slice none 0 0] lN) λB C=>true/\∃D,Ld aw (vA r 1) C (vI D)/\true/\∃E,Ld aw (vA t 1) C (vI E)/\nA C (.cells #[vI 0,vI 0] be) λF G=>∃H,Sv be (vA F 0) (.agg #[vI D,vI E]) G H/\nA H (.map #[] 0) λI J=>∃L M,Ld be (vA F 0) J (.agg #[vI L,vI M])/\∃N,(Instr.mapUpdate fA (.map (some I)) (.agg #[vI L,vI M]) (vI 0)).run prog J=.ok () N/\∃O P,Ld be (vA F 0) N (.agg #[vI O,vI P])/\nA N (.cells #[vI O,vI P] be) λQ R=>∃S:Nat->FP [.one .slice],(∃T,S T (vA Q 0) 1 1 R)/\∀T U V X,aC 104 (∀Y,S T U V X Y->true/\true/\true/\∃Z aa ac,Ld aO (vA B 3) Y (.slice Z aa ac)/\ae (decide (((aa:Nat):Int)<((V:Nat):Int))) (true/\true/\true/\∃ad ag al,Ld aO (vA B 3) Y (.slice ad ag al)/\(bx ((ag:Nat):Int) ((V:Nat):Int)/\Option.isSome U=true)/\∃an ba,Ld be (ao U ((ag:Nat):Int) 2) Y (.agg #[vI an,vI ba])/\nA Y (.cells #[vI 0,vI 0] be) λbb bc=>∃bd,Sv be (vA bb 0) (.agg #[vI an,vI ba]) bc bd/\∃bj:FP [.one (.int .i64)],(true/\true/\true/\true/\∃bk bl bn,(∀bo,bW bd bo->Ld aO (vA r 3) bo (.slice bk bl bn))/\∃bo,(∀bq,bW bd bq->Ld aw (vA bb 0) bq (vI bo))/\(bx bo ((bl:Nat):Int)/\Option.isSome bk=true)/\∃bq,(∀bw,bW bd bw->Ld aX (ao bk bo 1) bw (.bool bq))/\∃bw bz ca,(∀cc,bW bd cc->Ld aO (vA t 3) cc (.slice bw bz ca))/\∃cc,(∀ch,bW bd ch->Ld aw (vA bb 1) ch (vI cc))/\(bx cc ((bz:Nat):Int)/\Option.isSome bw=true)/\∃ch,(∀cl,bW bd cl->Ld aX (ao bw cc 1) cl (.bool ch))/\∀cl,bW bd cl->uB gT #[.bool bq,.bool ch] cl λcm cn=>uI dt #[.pointer (vA B 0),.bool cm,vI 0] cn λcp cs=>bj cp cs)/\∀bk,aC 16 (∀bl,bj bk bl->true/\∃bn,Ld aw (vA r 0) bl (vI bn)/\∃bo:Nat->FP [.one .slice,.one (.int .i64)],(∃bq,bo bq U V X (0:Int) bl)/\∀bq bw bz ca cc,aC 60 (∀ch,bo bq bw bz ca cc ch->ae (decide (cc<bn)) (true/\true/\true/\true/\true/\true/\∃cl cm cn,(∀cp,bW ch cp->Ld ar (vA r 2) cp (.slice cl cm cn))/\∃cp,(∀cs,bW ch cs->Ld aw (vA bb 0) cs (vI cp))/\∃cs,(∀cx,bW ch cx->Ld aw (vA r 0) cx (vI cs))/\(bx (i64.wrap ((i64.wrap (cp*cs))+cc)) ((cm:Nat):Int)/\Option.isSome cl=true)/\∃cx,(∀da,bW ch da->Ld aw (ao cl (i64.wrap ((i64.wrap (cp*cs))+cc)) 1) da (vI cx))/\∃da db dc,(∀dd,bW ch dd->Ld ar (vA t 2) dd (.slice da db dc))/\∃dd,(∀dg,bW ch dg->Ld aw (vA bb 1) dg (vI dd))/\∃dg,(∀dk,bW ch dk->Ld aw (vA t 0) dk (vI dg))/\(bx (i64.wrap ((i64.wrap (dd*dg))+cc)) ((db:Nat):Int)/\Option.isSome da=true)/\∃dk,(∀dl,bW ch dl->Ld aw (ao da (i64.wrap ((i64.wrap (dd*dg))+cc)) 1) dl (vI dk))/\∀dl,ch.heap.size <=dl->∀dn,bW ch dn->dn.heap[dl]? =some (.cells #[vI 0,vI 0] be)->∃dr,Sv be (vA dl 0) (.agg #[vI cx,vI dk]) dn dr/\∃ds ea,Ld be (vA dl 0) dr (.agg #[vI ds,vI ea])/\∃eb ec,(Instr.lookup fA (.map (some I)) (.agg #[vI ds,vI ea]) true).run prog dr=.ok (.tuple #[vI eb,.bool ec]) dr/\∃ed:FP [.one .slice,.one (.int .i64)],(ae (!ec) (∃ef eg,Ld be (vA dl 0) dr (.agg #[vI ef,vI eg])/\∃eh,(Instr.mapUpdate fA (.map (some I)) (.agg #[vI ef,vI eg]) (vI ((bz:Nat):Int))).run prog dr=.ok () eh/\∃ei ej,Ld be (vA dl 0) eh (.agg #[vI ei,vI ej])/\nA eh (.cells #[vI ei,vI ej] be) λek el=>∃em en eo ep,(Builtin.append_ #[kE,kE] kE #[.slice bw bz ca,.slice (vA ek 0) 1 1]).run prog el=.ok (.slice en eo ep) em/\ed en eo ep ((bz:Nat):Int) em) (ed bw bz ca eb dr))/\∀ef eg eh ei,aC 11 (∀ej,ed ef eg eh ei ej->true/\true/\true/\true/\∃ek el em,(∀en,bW ej en->Ld ar (vA B 2) en (.slice ek el em))/\∃en,(∀eo,bW ej eo->Ld aw (vA r 0) eo (vI en))/\(bx (i64.wrap ((i64.wrap (bk*en))+cc)) ((el:Nat):Int)/\Option.isSome ek=true)/\∀eo,bW ej eo->∃ep,Sv aw (ao ek (i64.wrap ((i64.wrap (bk*en))+cc)) 1) (vI ei) eo ep/\∃eq:Nat,eq<bq/\bo eq ef eg eh (i64.wrap (cc+(1:Int))) ep)) (ae (decide (((bz:Nat):Int)>(65536:Int))) (∃cl,Sv af (vA v 0) (.agg #[vI 0,vI 0,.slice none 0 0,.slice none 0 0]) ch cl/\∃cm cn cp cs cx da db dc,Rv af (vA v 0) cl (.agg #[vI cm,vI cn,.slice cp cs cx,.slice da db dc])/\K (.tuple #[.agg #[vI cm,vI cn,.slice cp cs cx,.slice da db dc],vI 152]) cl) (∃cl:Nat,cl<T/\S cl bw bz ca ch))))) (true/\true/\∃ad ag al an ba bb bc bd,Ld af (vA B 0) Y (.agg #[vI ad,vI ag,.slice al an ba,.slice bb bc bd])/\∃bj,Sv af (vA v 0) (.agg #[vI ad,vI ag,.slice al an ba,.slice bb bc bd]) Y bj/\∃bk bl bn bo bq bw bz ca,Rv af (vA v 0) bj (.agg #[vI bk,vI bl,.slice bn bo bq,.slice bw bz ca])/\K (.tuple #[.agg #[vI bk,vI bl,.slice bn bo bq,.slice bw bz ca],vI 0]) bj)))):Cf rQ #[.agg #[vI a,vI b,.slice c d e,.slice f g i],.agg #[vI j,vI k,.slice l m n,.slice o p q],.func (.func gT) #[] #[]] w (Ret K):=ru func73 [(2,[]),(3,[(32,.one .bool)]),(20,[(11,.one .slice)]),(30,[(13,.one (.int .i64))]),(1000031,[]),(3000031,[(0,.one .bool),(1,.one .bool),(2,.one .bool),(4,.one .bool),(8,.one .bool),(10,.one .bool),(3,.one .bool),(5,.one .bool),(6,.one .bool),(7,.one .bool),(9,.one .bool),(11,.one .bool),(12,.one .bool),(13,.one .bool)]),(36,[(11,.one .slice),(85,.one (.int .i64))]),(3000048,[(0,.one .bool),(2,.one .bool),(4,.one .bool),(7,.one .bool),(11,.one .bool),(13,.one .bool),(15,.one .bool),(18,.one .bool),(1,.one .bool),(3,.one .bool),(5,.one .bool),(6,.one .bool),(8,.one .bool),(9,.one .bool),(10,.one .bool),(12,.one .bool),(14,.one .bool),(16,.one .bool),(17,.one .bool),(19,.one .bool),(20,.one .bool),(21,.one .bool),(22,.one .bool),(23,.one .bool)]),(51,[(11,.one .slice),(16,.one (.int .i64))]),(3000061,[(0,.one .bool),(1,.one .bool),(2,.one .bool),(3,.one .bool),(5,.one .bool),(6,.one .bool),(9,.one .bool),(11,.one .bool),(4,.one .bool),(7,.one .bool),(8,.one .bool),(10,.one .bool),(12,.one .bool)])] h
theorem Hn (a b:Int)(c:Option Addr)(d e:Nat)(f:Option Addr)(g i:Nat)(j k:Int)(l:Option Addr)(m n:Nat)(o:Option Addr)(p q:Nat){w K}(h:nA w (.cells #[vI a,vI b,.slice c d e,.slice f g i] af) λr s=>nA s (.cells #[vI j,vI k,.slice l m n,.slice o p q] af) λt u=>nA u (.cells #[vI 0,vI 0,.slice none 0 0,.slice none 0 0] af) λv x=>∃y z A B C D E F,Ld af (vA r 0) x (.agg #[vI y,vI z,.slice A B C,.slice D E F])/\∃G H I J L M N O,Ld af (vA t 0) x (.agg #[vI G,vI H,.slice I J L,.slice M N O])/\Cf rQ #[.agg #[vI y,vI z,.slice A B C,.slice D E F],.agg #[vI G,vI H,.slice I J L,.slice M N O],.func (.func gT) #[] #[]] x λP Q=>∃R S T U V X Y Z aa,P=rT #[.agg #[vI R,vI S,.slice T U V,.slice X Y Z],vI aa]/\∃ac,Sv af (vA v 0) (.agg #[vI R,vI S,.slice T U V,.slice X Y Z]) Q ac/\∃ad ag al an ba bb bc bd,Rv af (vA v 0) ac (.agg #[vI ad,vI ag,.slice al an ba,.slice bb bc bd])/\K (.tuple #[.agg #[vI ad,vI ag,.slice al an ba,.slice bb bc bd],vI aa]) ac):Cf dq #[.agg #[vI a,vI b,.slice c d e,.slice f g i],.agg #[vI j,vI k,.slice l m n,.slice o p q]] w (Ret K):=ru func31 [] h
theorem rr (a:Option Addr)(b c:Nat)(d:Int){w K}(h:∃e:Nat->FP [.one (.int .i64)],(∃f,e f (0:Int) w)/\∀f g,aC 12 (∀i,e f g i->ae (decide (g<((b:Nat):Int))) ((bx g ((b:Nat):Int)/\Option.isSome a=true)/\∃j,Ld aw (ao a g 1) i (vI j)/\ae (d==j) (K (vI g) i) (∃k:Nat,k<f/\e k (i64.wrap (g+(1:Int))) i)) (K (vI (-1)) i))):Cf lJ #[.slice a b c,vI d] w (Ret K):=ru func151 [(6,[(8,.one (.int .i64))])] h
theorem pH (a:Option Addr)(b c:Nat)(d:Int){w K}(h:uI lJ #[.slice a b c,vI d] w λe f=>K (.bool (decide (e >=(0:Int)))) f):Cf fR #[.slice a b c,vI d] w (Ret K):=ru func97 [] h
theorem jt (a:Option Addr)(b c:Nat)(d:Bool){w K}(h:∃e:Nat->FP [.one (.int .i64)],(∃f,e f (0:Int) w)/\∀f g,aC 12 (∀i,e f g i->ae (decide (g<((b:Nat):Int))) ((bx g ((b:Nat):Int)/\Option.isSome a=true)/\∃j,Ld aX (ao a g 1) i (.bool j)/\ae (d==j) (K (vI g) i) (∃k:Nat,k<f/\e k (i64.wrap (g+(1:Int))) i)) (K (vI (-1)) i))):Cf cd #[.slice a b c,.bool d] w (Ret K):=ru func90 [(6,[(8,.one (.int .i64))])] h
theorem zX (a:Int){w K}(h:ae (decide (a<(1:Int))) (K (.bool true) w) (K (.bool (decide (a>(1048576:Int)))) w)):Cf cE #[vI a] w (Ret K):=ru func156 [] h
theorem ix (a:Option Addr)(b c:Nat){w K}(h:∃d:Nat->FP [.one (.int .i64)],(∃e,d e (0:Int) w)/\∀e f,aC 12 (∀g,d e f g->ae (decide (f<((b:Nat):Int))) ((bx f ((b:Nat):Int)/\Option.isSome a=true)/\∃i,Ld aw (ao a f 1) g (vI i)/\uB cE #[vI i] g λj k=>ae j (K (vI f) k) (∃l:Nat,l<e/\d l (i64.wrap (f+(1:Int))) k)) (K (vI (-1)) g))):Cf bm #[.slice a b c,.func (.func cE) #[] #[]] w (Ret K):=ru func202 [(6,[(8,.one (.int .i64))])] h
theorem gz (a:Option Addr)(b c:Nat){w K}(h:uI bm #[.slice a b c,.func (.func cE) #[] #[]] w λd e=>K (.bool (decide (d >=(0:Int)))) e):Cf aZ #[.slice a b c,.func (.func cE) #[] #[]] w (Ret K):=ru func152 [] h
theorem Ea (a:Option Addr)(b c:Nat){w K}(h:uB aZ #[.slice a b c,.func (.func cE) #[] #[]] w λd e=>K (.bool (!d)) e):Cf tL #[.slice a b c] w (Ret K):=ru func103 [] h
theorem pF (a:Option Addr)(b c:Nat){w K}(h:K (vI ((b:Nat):Int)) w):Cf lW #[.slice a b c] w (Ret K):=ru func278 [] h
theorem vB (a:Option Addr)(b c:Nat)(d e:Int){w K}(h:(bx d ((b:Nat):Int)/\Option.isSome a=true)/\(isSome (ao a d 2))/\∃f,(∀g,bW w g->Ld aw (Option.map (λi=>i.add 0) (ao a d 2)) g (vI f))/\(bx e ((b:Nat):Int)/\Option.isSome a=true)/\(isSome (ao a e 2))/\∃g,(∀i,bW w i->Ld aw (Option.map (λj=>j.add 0) (ao a e 2)) i (vI g))/\∀i,bW w i->K (.bool (decide (f<g))) i):Cf fE #[.slice a b c,vI d,vI e] w (Ret K):=ru func279 [] h
theorem vD (a:Option Addr)(b c:Nat)(d e:Int){w K}(h:(bx e ((b:Nat):Int)/\Option.isSome a=true)/\(bx d ((b:Nat):Int)/\Option.isSome a=true)/\∃f g,(∀i,bW w i->Ld aN (ao a e 2) i (.agg #[vI f,vI g]))/\∃i j,(∀k,bW w k->Ld aN (ao a d 2) k (.agg #[vI i,vI j]))/\(bx d ((b:Nat):Int)/\Option.isSome a=true)/\∀k,bW w k->∃l,Sv aN (ao a d 2) (.agg #[vI f,vI g]) k l/\(bx e ((b:Nat):Int)/\Option.isSome a=true)/\∃m,Sv aN (ao a e 2) (.agg #[vI i,vI j]) l m/\K (.tuple #[]) m):Cf fF #[.slice a b c,vI d,vI e] w (Ret K):=ru func280 [(3000000,[(0,.one .bool),(1,.one .bool),(2,.one .bool),(3,.one .bool),(4,.one .bool),(5,.one .bool),(6,.one .bool),(8,.one .bool),(9,.one .bool),(10,.one .bool),(7,.one .bool),(11,.one .bool),(12,.one .bool)])] h
theorem vC (a:Option Addr)(b:Value){w K}(h:(Option.isSome a=true)/\∃c d e,(∀f,bW w f->Ld aU a f (.slice c d e))/\∃f g,(∀i,bW w i->(Instr.typeAssert b wR aN false).run prog i=.ok (.agg #[vI f,vI g]) i)/\∀i,w.heap.size <=i->∀j,bW w j->j.heap[i]? =some (.cells #[vI f,vI g] aN)->∃k l m n,(Builtin.append_ #[aU,aU] aU #[.slice c d e,.slice (vA i 0) 1 1]).run prog j=.ok (.slice l m n) k/\(Option.isSome a=true)/\∃o,Sv aU a (.slice l m n) k o/\K (.tuple #[]) o):Cf kM #[.pointer a,b] w (Ret K):=ru func282 [(3000000,[(0,.one .bool),(1,.one .bool),(2,.one .bool),(4,.one .bool),(3,.one .bool),(5,.one .bool),(6,.one .bool)])] h
theorem xw (a:Option Addr){w K}(h:(Option.isSome a=true)/\(Option.isSome a=true)/\∃b c d,(∀e,bW w e->Ld aU a e (.slice b c d))/\∃e f g,(∀i,bW w i->Ld aU a i (.slice e f g))/\(bx (i64.wrap (((f:Nat):Int)-(1:Int))) ((c:Nat):Int)/\Option.isSome b=true)/\∃i j,(∀k,bW w k->Ld aN (ao b (i64.wrap (((f:Nat):Int)-(1:Int))) 2) k (.agg #[vI i,vI j]))/\∀k,w.heap.size <=k->∀l,bW w l->l.heap[k]? =some (.cells #[vI 0,vI 0] aN)->∃m,Sv aN (vA k 0) (.agg #[vI i,vI j]) l m/\(Option.isSome a=true)/\(Option.isSome a=true)/\∃n o p,(∀q,bW m q->Ld aU a q (.slice n o p))/\∃q r s,(∀t,bW m t->Ld aU a t (.slice q r s))/\bd (i64.wrap (((r:Nat):Int)-(1:Int))) ((p:Nat):Int)/\(Option.isSome a=true)/\∀t,bW m t->∃u,Sv aU a (.slice n (Int.toNat (i64.wrap (((r:Nat):Int)-(1:Int)))) p) t u/\∃v x,Ld aN (vA k 0) u (.agg #[vI v,vI x])/\K (.iface aN (.agg #[vI v,vI x])) u):Cf lX #[.pointer a] w (Ret K):=ru func281 [(3000003,[(0,.one .bool),(1,.one .bool),(3,.one .bool),(4,.one .bool),(2,.one .bool),(5,.one .bool),(6,.one .bool),(7,.one .bool),(8,.one .bool),(9,.one .bool),(10,.one .bool)]),(3000005,[(0,.one .bool),(1,.one .bool),(2,.one .bool),(4,.one .bool),(5,.one .bool),(3,.one .bool),(6,.one .bool),(7,.one .bool),(8,.one .bool),(9,.one .bool),(10,.one .bool)])] h
theorem j9 (a:Addr)(b:Int){w K}(h:∃c:Nat->FP [.one (.int .i64)],(∃d,c d b w)/\∀d e,aC 19 (∀f,c d e f->((2:Int)≠0)/\∀g,g=(i64.wrap (Int.tdiv (i64.wrap (e-(1:Int))) (2:Int)))->∃i:FP [],(ae (g==e) (K (.tuple #[]) f) (∃j k l,Ld aU (some a) f (.slice j k l)/\uB fE #[.slice j k l,vI e,vI g] f λm n=>ae (!m) (K (.tuple #[]) n) (i n)))/\aC 10 (∀j,i j->∃k l m,Ld aU (some a) j (.slice k l m)/\uU fF #[.slice k l m,vI g,vI e] j λn=>∃o:Nat,o<d/\c o g n))):Cf j7 #[.iface bt (.pointer (some a)),vI b] w (Ret K):=ru func205 [(1,[(1,.one (.int .i64))]),(5,[])] h
theorem jC (a:Addr)(b c:Int){w K}(h:∃d:Nat->FP [.one (.int .i64)],(∃e,d e b w)/\∀e f,aC 36 (∀g,d e f g->∃i:FP [],(ae (decide ((i64.wrap ((i64.wrap ((2:Int)*f))+(1:Int))) >=c)) (K (.bool (decide (f>b))) g) (ae (decide ((i64.wrap ((i64.wrap ((2:Int)*f))+(1:Int)))<(0:Int))) (K (.bool (decide (f>b))) g) (i g)))/\aC 7 (∀j,i j->∃k:FP [.one (.int .i64)],(ae (decide ((i64.wrap ((i64.wrap ((i64.wrap ((2:Int)*f))+(1:Int)))+(1:Int)))<c)) (∃l m n,Ld aU (some a) j (.slice l m n)/\uB fE #[.slice l m n,vI (i64.wrap ((i64.wrap ((i64.wrap ((2:Int)*f))+(1:Int)))+(1:Int))),vI (i64.wrap ((i64.wrap ((2:Int)*f))+(1:Int)))] j λo p=>ae o (k (i64.wrap ((i64.wrap ((i64.wrap ((2:Int)*f))+(1:Int)))+(1:Int))) p) (k (i64.wrap ((i64.wrap ((2:Int)*f))+(1:Int))) p)) (k (i64.wrap ((i64.wrap ((2:Int)*f))+(1:Int))) j))/\∀l,aC 13 (∀m,k l m->∃n o p,Ld aU (some a) m (.slice n o p)/\uB fE #[.slice n o p,vI l,vI f] m λq r=>ae (!q) (K (.bool (decide (f>b))) r) (∃s t u,Ld aU (some a) r (.slice s t u)/\uU fF #[.slice s t u,vI f,vI l] r λv=>∃x:Nat,x<e/\d x l v))))):Cf iL #[.iface bt (.pointer (some a)),vI b,vI c] w (Ret K):=ru func206 [(6,[(7,.one (.int .i64))]),(10,[]),(18,[(9,.one (.int .i64))])] h
theorem jB (a:Addr)(b:Value){w K}(h:uU kM #[.pointer (some a),b] w λc=>∃d e f,Ld aU (some a) c (.slice d e f)/\uI lW #[.slice d e f] c λg i=>uU j7 #[.iface bt (.pointer (some a)),vI (i64.wrap (g-(1:Int)))] i λj=>K (.tuple #[]) j):Cf fC #[.iface bt (.pointer (some a)),b] w (Ret K):=ru func157 [] h
theorem jN (a:Addr){w K}(h:∃b c d,Ld aU (some a) w (.slice b c d)/\uI lW #[.slice b c d] w λe f=>∃g i j,Ld aU (some a) f (.slice g i j)/\uU fF #[.slice g i j,vI 0,vI (i64.wrap (e-(1:Int)))] f λk=>uB iL #[.iface bt (.pointer (some a)),vI 0,vI (i64.wrap (e-(1:Int)))] k λl m=>uV lX #[.pointer (some a)] m λn o=>K n o):Cf jy #[.iface bt (.pointer (some a))] w (Ret K):=ru func159 [] h
theorem D9 (a b:Int)(c:Option Addr)(d e:Nat)(f:Option Addr)(g i:Nat){w K}(h:nA w (.cells #[vI a,vI b,.slice c d e,.slice f g i] af) λj k=>true/\∃l m n,Ld aO (vA j 3) k (.slice l m n)/\∃o p q r,(Instr.makeSlice lP (vI ((m:Nat):Int)) (vI ((m:Nat):Int))).run prog k=.ok (.slice p q r) o/\true/\∃s t u,Ld ar (vA j 2) o (.slice s t u)/\∃v:Nat->FP [.one (.int .i64)],(∃x,v x (0:Int) o)/\∀x y,aC 25 (∀z,v x y z->ae (decide (y<((t:Nat):Int))) ((bx y ((t:Nat):Int)/\Option.isSome s=true)/\∃A,Ld aw (ao s y 1) z (vI A)/\(bx A ((q:Nat):Int)/\Option.isSome p=true)/\true/\true/\∃B C D,(∀E,bW z E->Ld bY (ao p A 1) E (.slice B C D))/\∃E,(∀F,bW z F->Ld aw (vA j 0) F (vI E))/\(E≠0)/\∀F,F=(i64.wrap (Int.tdiv y E))->∃G,(∀H,bW z H->Ld aw (vA j 0) H (vI G))/\(G≠0)/\∀H,H=(Int.tmod y G)->∀I,z.heap.size <=I->∀J,bW z J->J.heap[I]? =some (.cells #[vI F,vI H] fK)->∃L M N O,(Builtin.append_ #[bY,bY] bY #[.slice B C D,.slice (vA I 0) 1 1]).run prog J=.ok (.slice M N O) L/\(bx A ((q:Nat):Int)/\Option.isSome p=true)/\∃P,Sv bY (ao p A 1) (.slice M N O) L P/\∃Q:Nat,Q<x/\v Q (i64.wrap (y+(1:Int))) P) (K (.slice p q r) z))):Cf tK #[.agg #[vI a,vI b,.slice c d e,.slice f g i]] w (Ret K):=ru func158 [(8,[(13,.one (.int .i64))]),(3000019,[(0,.one .bool),(1,.one .bool),(2,.one .bool),(3,.one .bool),(4,.one .bool),(6,.one .bool),(7,.one .bool),(10,.one .bool),(11,.one .bool),(5,.one .bool),(8,.one .bool),(9,.one .bool),(12,.one .bool),(13,.one .bool),(14,.one .bool),(15,.one .bool)])] h
theorem Eb (a b:Int)(c:Option Addr)(d e:Nat)(f:Option Addr)(g i:Nat)(j:Option Addr)(k l:Nat){w K}(h:nA w (.cells #[vI a,vI b,.slice c d e,.slice f g i] af) λm n=>nA n (.cells #[vI 9223372036854775807] aw) λo p=>true/\∃q r s,Ld aO (vA m 3) p (.slice q r s)/\uL bL #[.slice (vA o 0) 1 1,vI ((r:Nat):Int)] p λt u v x=>nA x (.cells #[.slice none 0 0] aU) λy z=>true/\∃A B C,Ld aO (vA m 3) z (.slice A B C)/\∃D:Nat->FP [.one (.int .i64)],(∃E,D E (0:Int) z)/\∀E F,aC 16 (∀G,D E F G->ae (decide (F<((B:Nat):Int))) ((bx F ((B:Nat):Int)/\Option.isSome A=true)/\∃H,Ld aX (ao A F 1) G (.bool H)/\ae H ((bx F ((u:Nat):Int)/\Option.isSome t=true)/\∃I,Sv aw (ao t F 1) (vI 0) G I/\uU fC #[.iface bt (.pointer (vA y 0)),.iface aN (.agg #[vI 0,vI F])] I λJ=>∃L:Nat,L<E/\D L (i64.wrap (F+(1:Int))) J) (∃I:Nat,I<E/\D I (i64.wrap (F+(1:Int))) G)) (∃H I J L M N O P,Ld af (vA m 0) G (.agg #[vI H,vI I,.slice J L M,.slice N O P])/\uL tK #[.agg #[vI H,vI I,.slice J L M,.slice N O P]] G λQ R S T=>∃U:Nat->FP [],(∃V,U V T)/\∀V,aC 55 (∀X,U V X->∃Y Z aa,Ld aU (vA y 0) X (.slice Y Z aa)/\ae (decide (((Z:Nat):Int)>(0:Int))) (uV jy #[.iface bt (.pointer (vA y 0))] X λac ad=>∃ag al,(Instr.typeAssert ac wR aN false).run prog ad=.ok (.agg #[vI ag,vI al]) ad/\nA ad (.cells #[vI 0,vI 0] aN) λan ba=>∃bb,Sv aN (vA an 0) (.agg #[vI ag,vI al]) ba bb/\true/\∃bc,(∀bd,bW bb bd->Ld aw (vA an 0) bd (vI bc))/\true/\∃bd,(∀bj,bW bb bj->Ld aw (vA an 1) bj (vI bd))/\(bx bd ((u:Nat):Int)/\Option.isSome t=true)/\∃bj,(∀bk,bW bb bk->Ld aw (ao t bd 1) bk (vI bj))/\∀bk,bW bb bk->ae (decide (bc>bj)) (∃bl:Nat,bl<V/\U bl bk) (true/\∃bl,Ld aw (vA an 1) bk (vI bl)/\(bx bl ((R:Nat):Int)/\Option.isSome Q=true)/\∃bn bo bq,Ld bY (ao Q bl 1) bk (.slice bn bo bq)/\∃bw:Nat->FP [.one (.int .i64)],(∃bz,bw bz (0:Int) bk)/\∀bz ca,aC 33 (∀cc,bw bz ca cc->ae (decide (ca<((bo:Nat):Int))) ((bx ca ((bo:Nat):Int)/\Option.isSome bn=true)/\∃ch cl,Ld fK (ao bn ca 2) cc (.agg #[vI ch,vI cl])/\nA cc (.cells #[vI 0,vI 0] fK) λcm cn=>∃cp,Sv fK (vA cm 0) (.agg #[vI ch,vI cl]) cn cp/\true/\∃cs,(∀cx,bW cp cx->Ld aw (vA an 0) cx (vI cs))/\true/\∃cx,(∀da,bW cp da->Ld aw (vA cm 1) da (vI cx))/\(bx cx ((k:Nat):Int)/\Option.isSome j=true)/\∃da,(∀db,bW cp db->Ld aw (ao j cx 1) db (vI da))/\∀db,bW cp db->true/\∃dc,Ld aw (vA cm 0) db (vI dc)/\(bx dc ((u:Nat):Int)/\Option.isSome t=true)/\∃dd,Ld aw (ao t dc 1) db (vI dd)/\ae (decide ((i64.wrap (cs+da))<dd)) (true/\∃dg,Ld aw (vA cm 0) db (vI dg)/\(bx dg ((u:Nat):Int)/\Option.isSome t=true)/\∃dk,Sv aw (ao t dg 1) (vI (i64.wrap (cs+da))) db dk/\true/\∃dl,Ld aw (vA cm 0) dk (vI dl)/\uU fC #[.iface bt (.pointer (vA y 0)),.iface aN (.agg #[vI (i64.wrap (cs+da)),vI dl])] dk λdn=>∃dr:Nat,dr<bz/\bw dr (i64.wrap (ca+(1:Int))) dn) (∃dg:Nat,dg<bz/\bw dg (i64.wrap (ca+(1:Int))) db)) (∃ch:Nat,ch<V/\U ch cc)))) (K (.slice t u v) X))))):Cf tM #[.agg #[vI a,vI b,.slice c d e,.slice f g i],.slice j k l] w (Ret K):=ru func104 [(10,[(22,.one (.int .i64))]),(33,[]),(52,[(59,.one (.int .i64))])] h
theorem Db (a b:Int)(c:Option Addr)(d e:Nat)(f:Option Addr)(g i:Nat)(j:Option Addr)(k l:Nat)(m:Int){w K}(h:nA w (.cells #[vI a,vI b,.slice c d e,.slice f g i] af) λn o=>∃p:FP [],(∃q r s t u v x y,Ld af (vA n 0) o (.agg #[vI q,vI r,.slice s t u,.slice v x y])/\uB iM #[.agg #[vI q,vI r,.slice s t u,.slice v x y]] o λz A=>ae (!z) (K (.tuple #[.slice none 0 0,.bool false,vI 151]) A) (true/\∃B,Ld aw (vA n 0) A (vI B)/\ae (((k:Nat):Int) !=B) (K (.tuple #[.slice none 0 0,.bool false,vI 151]) A) (uB tL #[.slice j k l] A λC D=>ae (!C) (K (.tuple #[.slice none 0 0,.bool false,vI 151]) D) (p D))))/\aC 18 (∀q,p q->∃r s t u v x y z,Ld af (vA n 0) q (.agg #[vI r,vI s,.slice t u v,.slice x y z])/\uL tM #[.agg #[vI r,vI s,.slice t u v,.slice x y z],.slice j k l] q λA B C D=>∃E:FP [],(true/\∃F,Ld aw (vA n 1) D (vI F)/\(bx F ((B:Nat):Int)/\Option.isSome A=true)/\∃G,Ld aw (ao A F 1) D (vI G)/\ae (decide (G>m)) (K (.tuple #[.slice none 0 0,.bool false,vI 0]) D) (true/\∃H,Ld aw (vA n 1) D (vI H)/\(bx H ((B:Nat):Int)/\Option.isSome A=true)/\∃I,Ld aw (ao A H 1) D (vI I)/\ae (I==(9223372036854775807:Int)) (K (.tuple #[.slice none 0 0,.bool false,vI 0]) D) (E D)))/\aC 18 (∀F,E F->true/\∃G,Ld aw (vA n 1) F (vI G)/\∃H:Nat->FP [.one .slice,.one (.int .i64)],(∃I,H I none 0 0 G F)/\∀I J L M N,aC 49 (∀O,H I J L M N O->(bx N ((B:Nat):Int)/\Option.isSome A=true)/\∃P,Ld aw (ao A N 1) O (vI P)/\ae (decide (P>(0:Int))) (true/\∃Q,Ld aw (vA n 0) O (vI Q)/\∃R:Nat->FP [.one .slice,.one (.int .i64),.one (.int .i64)],(∃S,R S J L M N (0:Int) O)/\∀S T U V X Y,aC 41 (∀Z,R S T U V X Y Z->ae (decide (Y<Q)) (true/\∃aa ac ad,Ld ar (vA n 2) Z (.slice aa ac ad)/\true/\∃ag,Ld aw (vA n 0) Z (vI ag)/\(bx (i64.wrap ((i64.wrap (X*ag))+Y)) ((ac:Nat):Int)/\Option.isSome aa=true)/\∃al,Ld aw (ao aa (i64.wrap ((i64.wrap (X*ag))+Y)) 1) Z (vI al)/\∃an:FP [.one .bool],((bx al ((B:Nat):Int)/\Option.isSome A=true)/\∃ba,(∀bb,bW Z bb->Ld aw (ao A al 1) bb (vI ba))/\ae (decide (ba<(9223372036854775807:Int))) ((bx al ((B:Nat):Int)/\Option.isSome A=true)/\∃bb,(∀bc,bW Z bc->Ld aw (ao A al 1) bc (vI bb))/\(bx Y ((k:Nat):Int)/\Option.isSome j=true)/\∃bc,(∀bd,bW Z bd->Ld aw (ao j Y 1) bd (vI bc))/\(bx X ((B:Nat):Int)/\Option.isSome A=true)/\∃bd,(∀bj,bW Z bj->Ld aw (ao A X 1) bj (vI bd))/\∀bj,bW Z bj->an ((i64.wrap (bb+bc))==bd) bj) (∀bb,bW Z bb->an false bb))/\∀ba,aC 20 (∀bb,an ba bb->ae ba (nA bb (.cells #[vI Y] aw) λbc bd=>∃bj bk bl bn,(Builtin.append_ #[ar,ar] ar #[.slice T U V,.slice (vA bc 0) 1 1]).run prog bd=.ok (.slice bk bl bn) bj/\∃bo:Nat,bo<I/\H bo bk bl bn al bj) (∃bc:Nat,bc<S/\R bc T U V X (i64.wrap (Y+(1:Int))) bb))) (∃aa:Nat,aa<I/\H aa T U V X Z))) (K (.tuple #[.slice J L M,.bool true,vI 0]) O))))):Cf ig #[.agg #[vI a,vI b,.slice c d e,.slice f g i],.slice j k l,vI m] w (Ret K):=ru func53 [(2,[]),(12,[]),(26,[(10,.one .slice),(11,.one (.int .i64))]),(37,[(10,.one .slice),(11,.one (.int .i64)),(56,.one (.int .i64))]),(50,[(89,.one .bool)])] h
theorem zQ (a:Option Addr)(b:Value){w K}(h:nA w (.cells (Value.cells b) ai) λc d=>∃e,Ld ai (vA c 0) d e/\uL eG #[.pointer a,e] d λf g i j=>ae (((g:Nat):Int)==(0:Int)) (K (.tuple #[.slice none 0 0,vI 181]) j) (uI bi #[.pointer a] j λk l=>uB fR #[.slice f g i,vI (i64.wrap (k-(1:Int)))] l λm n=>ae m (K (.tuple #[.slice none 0 0,vI 181]) n) (K (.tuple #[.slice f g i,vI 0]) n))):Cf kK #[.pointer a,b] w (Ret K):=ru func48 [] h
theorem CZ (a:Option Addr)(b:Value){w K}(h:nA w (.cells (Value.cells b) ai) λc d=>nA d (.cells #[vI 0,vI 0,.slice none 0 0,.slice none 0 0] af) λe f=>∃g,Ld ai (vA c 0) f g/\Cf kK #[.pointer a,g] f λi j=>∃k l m n,i=rT #[.slice k l m,vI n]/\ae (n !=(0:Int)) (∃o,Sv af (vA e 0) (.agg #[vI 0,vI 0,.slice none 0 0,.slice none 0 0]) j o/\∃p q r s t u v x,Rv af (vA e 0) o (.agg #[vI p,vI q,.slice r s t,.slice u v x])/\K (.tuple #[.agg #[vI p,vI q,.slice r s t,.slice u v x],vI n]) o) (uI bi #[.pointer a] j λo p=>Cf vd #[vI o,.slice k l m] p λq r=>∃s t u v x y z A B,q=rT #[.agg #[vI s,vI t,.slice u v x,.slice y z A],vI B]/\∃C,Sv af (vA e 0) (.agg #[vI s,vI t,.slice u v x,.slice y z A]) r C/\∃D E F G H I J L,Rv af (vA e 0) C (.agg #[vI D,vI E,.slice F G H,.slice I J L])/\K (.tuple #[.agg #[vI D,vI E,.slice F G H,.slice I J L],vI B]) C)):Cf dF #[.pointer a,b] w (Ret K):=ru func12 [] h
theorem zO (a:Option Addr)(b:Value){w K}(h:nA w (.cells (Value.cells b) ai) λc d=>nA d (.cells #[vI 0,vI 0,.slice none 0 0,.slice none 0 0] af) λe f=>∃g,Ld ai (vA c 0) f g/\Cf kJ #[.pointer a,g,.bool false] f λi j=>∃k l m n o p q r s,i=rT #[.agg #[vI k,vI l,.slice m n o,.slice p q r],vI s]/\∃t,Sv af (vA e 0) (.agg #[vI k,vI l,.slice m n o,.slice p q r]) j t/\∃u v x y z A B C,Rv af (vA e 0) t (.agg #[vI u,vI v,.slice x y z,.slice A B C])/\K (.tuple #[.agg #[vI u,vI v,.slice x y z,.slice A B C],vI s]) t):Cf gj #[.pointer a,b] w (Ret K):=ru func20 [] h
theorem yv (a:Option Addr)(b:Value){w K}(h:nA w (.cells (Value.cells b) ai) λc d=>nA d (.cells #[vI 0,vI 0,.slice none 0 0,.slice none 0 0] af) λe f=>∃g,Ld ai (vA c 0) f g/\Cf kJ #[.pointer a,g,.bool true] f λi j=>∃k l m n o p q r s,i=rT #[.agg #[vI k,vI l,.slice m n o,.slice p q r],vI s]/\∃t,Sv af (vA e 0) (.agg #[vI k,vI l,.slice m n o,.slice p q r]) j t/\∃u v x y z A B C,Rv af (vA e 0) t (.agg #[vI u,vI v,.slice x y z,.slice A B C])/\K (.tuple #[.agg #[vI u,vI v,.slice x y z,.slice A B C],vI s]) t):Cf fv #[.pointer a,b] w (Ret K):=ru func14 [] h
theorem xu (a:lU){w K}(h:Cf mI #[vS a] w λb c=>∃d e,b=rT #[d,vI e]/\nA c (.cells bA ai) λf g=>∃i,Sv ai (vA f 0) d g i/\ae (e==(0:Int)) (true/\∃j,Ld aw (vA f 0) i (vI j)/\ae (j !=(1:Int)) (∃k,Ld ai (vA f 0) i k/\uS rS #[k] i λl m=>K (.bool (l==a)) m) (K (.bool false) i)) (K (.bool false) i)):Cf lR #[vS a] w (Ret K):=ru func54 [] h
theorem zR (a:lU){w K}(h:(((List.length a+List.length [46,120]:Nat):Int) <=i64.max)/\∀b,b=(a++[46,120])->Cf mI #[vS b] w λc d=>∃e f,c=rT #[e,vI f]/\nA d (.cells bA ai) λg i=>∃j,Sv ai (vA g 0) e i j/\ae (f==(0:Int)) (true/\∃k,Ld au (vA g 1) j (vS k)/\(((List.length a+List.length [46,120]:Nat):Int) <=i64.max)/\∀l,l=(a++[46,120])->ae (k==l) (∃m,Ld ai (vA g 0) j m/\uL rR #[m] j λn o p q=>K (.bool (((o:Nat):Int)==(2:Int))) q) (K (.bool false) j)) (K (.bool false) j)):Cf kL #[vS a] w (Ret K):=ru func55 [] h
theorem zM (a:Option Addr){w K}(h:nA w (.cells #[vI 0,vI 0,.slice none 0 0,.slice none 0 0] af) λb c=>uI bi #[.pointer a] c λd e=>ae (decide (d>(512:Int))) (∃f,Sv af (vA b 0) (.agg #[vI 0,vI 0,.slice none 0 0,.slice none 0 0]) e f/\∃g i j k l m n o,Rv af (vA b 0) f (.agg #[vI g,vI i,.slice j k l,.slice m n o])/\K (.tuple #[.agg #[vI g,vI i,.slice j k l,.slice m n o],vI 151]) f) (∃f g i j,(Instr.makeSlice ar (vI (i64.wrap ((4:Int)*d))) (vI (i64.wrap ((4:Int)*d)))).run prog e=.ok (.slice g i j) f/\nA f (.cells #[.bool false,.bool false,.bool true,.bool true] aX) λk l=>nA l (.cells #[vI 0,vI 0,.slice none 0 0,.slice none 0 0] af) λm n=>∃o,Sv af (vA m 0) (.agg #[vI d,vI 1,.slice g i j,.slice (vA k 0) 4 4]) n o/\∃p:Nat->FP [.one (.int .i64)],(∃q,p q (0:Int) o)/\∀q r,aC 38 (∀s,p q r s->ae (decide (r<d)) (uS fj #[.pointer a,vI r] s λt u=>uB lR #[vS t] u λv x=>ae v (true/\∃y z A,Ld ar (vA m 2) x (.slice y z A)/\(bx (i64.wrap ((i64.wrap ((1:Int)*d))+r)) ((z:Nat):Int)/\Option.isSome y=true)/\∃B,Sv aw (ao y (i64.wrap ((i64.wrap ((1:Int)*d))+r)) 1) (vI 3) x B/\∃C:Nat,C<q/\p C (i64.wrap (r+(1:Int))) B) (uB kL #[vS t] x λy z=>ae y (true/\∃A B C,Ld ar (vA m 2) z (.slice A B C)/\(bx (i64.wrap ((i64.wrap ((2:Int)*d))+r)) ((B:Nat):Int)/\Option.isSome A=true)/\∃D,Sv aw (ao A (i64.wrap ((i64.wrap ((2:Int)*d))+r)) 1) (vI 2) z D/\uB jH #[vS t] D λE F=>ae (!E) (true/\∃G H I,Ld ar (vA m 2) F (.slice G H I)/\(bx (i64.wrap ((i64.wrap ((1:Int)*d))+r)) ((H:Nat):Int)/\Option.isSome G=true)/\∃J,Sv aw (ao G (i64.wrap ((i64.wrap ((1:Int)*d))+r)) 1) (vI 2) F J/\∃L:Nat,L<q/\p L (i64.wrap (r+(1:Int))) J) (∃G:Nat,G<q/\p G (i64.wrap (r+(1:Int))) F)) (∃A:Nat,A<q/\p A (i64.wrap (r+(1:Int))) z))) (∃t u v x y z A B,Ld af (vA m 0) s (.agg #[vI t,vI u,.slice v x y,.slice z A B])/\∃C,Sv af (vA b 0) (.agg #[vI t,vI u,.slice v x y,.slice z A B]) s C/\∃D E F G H I J L,Rv af (vA b 0) C (.agg #[vI D,vI E,.slice F G H,.slice I J L])/\K (.tuple #[.agg #[vI D,vI E,.slice F G H,.slice I J L],vI 0]) C)))):Cf oH #[.pointer a] w (Ret K):=ru func16 [(18,[(20,.one (.int .i64))])] h
theorem zN (a:Option Addr)(b c:Int)(d:Option Addr)(e f:Nat)(g:Option Addr)(i j:Nat){w K}(h:nA w (.cells #[vI b,vI c,.slice d e f,.slice g i j] af) λk l=>nA l (.cells bA ai) λm n=>Cf oH #[.pointer a] n λo p=>∃q r s t u v x y z,o=rT #[.agg #[vI q,vI r,.slice s t u,.slice v x y],vI z]/\nA p (.cells #[vI 0,vI 0,.slice none 0 0,.slice none 0 0] af) λA B=>∃C,Sv af (vA A 0) (.agg #[vI q,vI r,.slice s t u,.slice v x y]) B C/\ae (z !=(0:Int)) (∃D,Sv ai (vA m 0) (.agg bA) C D/\∃E,Rv ai (vA m 0) D E/\K (.tuple #[E,.bool false,vI z]) D) (∃D E F G H I J L,Ld af (vA k 0) C (.agg #[vI D,vI E,.slice F G H,.slice I J L])/\∃M N O P Q R S T,Ld af (vA A 0) C (.agg #[vI M,vI N,.slice O P Q,.slice R S T])/\Cf dq #[.agg #[vI D,vI E,.slice F G H,.slice I J L],.agg #[vI M,vI N,.slice O P Q,.slice R S T]] C λU V=>∃X Y Z aa ac ad ag al an,U=rT #[.agg #[vI X,vI Y,.slice Z aa ac,.slice ad ag al],vI an]/\nA V (.cells #[vI 0,vI 0,.slice none 0 0,.slice none 0 0] af) λba bb=>∃bc,Sv af (vA ba 0) (.agg #[vI X,vI Y,.slice Z aa ac,.slice ad ag al]) bb bc/\ae (an !=(0:Int)) (∃bd,Sv ai (vA m 0) (.agg bA) bc bd/\∃bj,Rv ai (vA m 0) bd bj/\K (.tuple #[bj,.bool false,vI an]) bd) (uI bi #[.pointer a] bc λbd bj=>∃bk:Nat->FP [.one .slice,.one (.int .i64)],(∃bl,bk bl none 0 0 (0:Int) bj)/\∀bl bn bo bq bw,aC 12 (∀bx,bk bl bn bo bq bw bx->ae (decide (bw<bd)) (uS fj #[.pointer a,vI bw] bx λbz ca=>nA ca (.cells #[vI (i64.wrap (((List.length bz:Nat):Int)+(1:Int)))] aw) λcc ch=>∃cl cm cn cp,(Builtin.append_ #[ar,ar] ar #[.slice bn bo bq,.slice (vA cc 0) 1 1]).run prog ch=.ok (.slice cm cn cp) cl/\∃cs:Nat,cs<bl/\bk cs cm cn cp (i64.wrap (bw+(1:Int))) cl) (∃bz ca cc ch cl cm cn cp,Ld af (vA ba 0) bx (.agg #[vI bz,vI ca,.slice cc ch cl,.slice cm cn cp])/\Cf ig #[.agg #[vI bz,vI ca,.slice cc ch cl,.slice cm cn cp],.slice bn bo bq,vI 254] bx λcs cx=>∃da db dc dd dg,cs=rT #[.slice da db dc,.bool dd,vI dg]/\∃dk:FP [],(∃dl:FP [.one .bool],(ae (!dd) (dl true cx) (dl (dg !=(0:Int)) cx))/\∀dn,aC 5 (∀dr,dl dn dr->ae dn (∃ds,Sv ai (vA m 0) (.agg bA) dr ds/\∃ea,Rv ai (vA m 0) ds ea/\K (.tuple #[ea,.bool false,vI dg]) ds) (dk dr)))/\aC 10 (∀dl,dk dl->Cf vM #[.pointer a,.slice da db dc] dl λdn dr=>∃ds ea,dn=rT #[ds,.bool ea]/\nA dr (.cells bA ai) λeb ec=>∃ed,Sv ai (vA eb 0) ds ec ed/\∃ef,Ld ai (vA eb 0) ed ef/\∃eg,Sv ai (vA m 0) ef ed eg/\∃eh,Rv ai (vA m 0) eg eh/\K (.tuple #[eh,.bool ea,vI 0]) eg)))))):Cf oI #[.pointer a,.agg #[vI b,vI c,.slice d e f,.slice g i j]] w (Ret K):=ru func15 [(28,[(10,.one .slice),(36,.one (.int .i64))]),(43,[]),(44,[(60,.one .bool)])] h
theorem xt (a:lU){w K}(h:uB kL #[vS a] w λb c=>K (.bool (!b)) c):Cf ct #[vS a] w (Ret K):=ru func64 [] h
theorem fk (a:Option Addr)(b c:Nat){w K}(h:∃d:Nat->FP [.one (.int .i64)],(∃e,d e (0:Int) w)/\∀e f,aC 12 (∀g,d e f g->ae (decide (f<((b:Nat):Int))) ((bx f ((b:Nat):Int)/\Option.isSome a=true)/\∃i,Ld au (ao a f 1) g (vS i)/\uB ct #[vS i] g λj k=>ae j (K (vI f) k) (∃l:Nat,l<e/\d l (i64.wrap (f+(1:Int))) k)) (K (vI (-1)) g))):Cf ci #[.slice a b c,.func (.func ct) #[] #[]] w (Ret K):=ru func115 [(6,[(8,.one (.int .i64))])] h
theorem eF (a:Option Addr)(b c:Nat){w K}(h:uI ci #[.slice a b c,.func (.func ct) #[] #[]] w λd e=>K (.bool (decide (d >=(0:Int)))) e):Cf bH #[.slice a b c,.func (.func ct) #[] #[]] w (Ret K):=ru func63 [] h
theorem Whl.elem {α:Type}{T:Ty α}{P:Program}{t:TypeId}{n:Nat}(hw:Whl P t n)(hk:T.k=n){w:World}{A:Bl}{a:Option Addr}{l c:Nat}{xs:List α}(h:Sl T w A a l c xs){i:Nat}(hi:i<xs.length):
   ∃vs,(Instr.loadAt t (.pointer (ao a (i:Int) n))).run P w=.ok (.agg vs.toArray) w/\T.rep w A vs xs[i]:=by
 obtain⟨bytes,z,tf⟩:=hw.tf
 obtain⟨ti,hti,hsz,_,_⟩:=tf.info
 have hag:=hw.ag
 cases hu:P.underlying t with
 | none=>rw[hu]at hag;cases hag
 | some d=>
   rw[hu]at hag
   simp only[Option.map_some,Option.some.injEq]at hag
   have:=h.loadA hu hag hti hk hsz (i:=(i:Int)) (by simpa using hi)
   simpa using this
abbrev Pi:=Int×Int
def prC (p:Pi):List Value:=[vI p.1,vI p.2]
def prV (p:Pi):Value:=.agg #[vI p.1,vI p.2]
def tP:Ty Pi where
 k:=2
 pos:=by decide
 rep:=λ_ _ vs p=>vs=prC p
 len:=λh=>by rw[h];rfl
 one:=fun{_ _ _ x} h v hv=>by rw[h]at hv;exact(aW rfl (aW rfl jA):DE (prC x)) v hv
 keep:=λh _=>h
 mono:=λh _=>h
theorem Fq:Flat tP:=λ_ _ _ _ _ _ h=>h
theorem Sl.pair {P:Program}{t:TypeId}(hw:Whl P t 2){w:World}{A:Bl}{a:Option Addr}{l c:Nat}{xs:List Pi}(h:Sl tP w A a l c xs){i:Nat}(hi:i<xs.length):
   (Instr.loadAt t (.pointer (ao a (i:Int) 2))).run P w=.ok (prV xs[i]) w:=by
 obtain⟨vs,h1,h2⟩:=hw.elem rfl h hi
 have h2:vs=prC xs[i]:=h2
 rw[h2]at h1;exact h1
theorem Sl.pair0 {P:Program}{t:TypeId}(hu:P.underlying t=some (.int .i64)){w:World}{A:Bl}{a:Option Addr}{l c:Nat}{xs:List Pi}(h:Sl tP w A a l c xs){i:Nat}(hi:i<xs.length):
   (Instr.loadAt t (.pointer (Option.map (λx=>x.add 0) (ao a (i:Int) 2)))).run P w=.ok (vI xs[i].1) w/\(Instr.loadAt t (.pointer (Option.map (λx=>x.add 1) (ao a (i:Int) 2)))).run P w=.ok (vI xs[i].2) w:=by
 rcases h.2.2.2 with h4|⟨b,off,e,hb,hab,h4⟩
 · subst h4;cases hi
 · obtain⟨vs,h5,h6⟩:=h4.elem hi
   have h5:vs=prC xs[i]:=h5
   subst h5
   rw[e,Fm]
   simp only[Option.map_some,fB,Int.toNat_natCast]
   constructor
   · show(do loadVar t (<- Instr.sureAddr (.pointer (some _)))).run P w=_
     rw[Sem.run_bind,iX]
     exact eZ hu rfl (h6 0 (by decide))
   · show(do loadVar t (<- Instr.sureAddr (.pointer (some _)))).run P w=_
     rw[Sem.run_bind,iX]
     exact eZ hu rfl (h6 1 (by decide))
theorem Sl.some_of {α:Type}{T:Ty α}{w:World}{A:Bl}{a:Option Addr}{n c:Nat}{xs:List α}(h:Sl T w A a n c xs){i:Nat}(hi:i<xs.length)(k:Nat):(ao a (i:Int) k).isSome=true:=by
 have:=h.isSome hi
 cases a with
 | none=>cases this
 | some x=>rfl
theorem Sl.num {P:Program}{t:TypeId}(hu:P.underlying t=some (.int .i64)){w:World}{A:Bl}{a:Option Addr}{l c:Nat}{xs:List Int}(h:Sl cI w A a l c xs){i:Nat}(hi:i<xs.length):
   (Instr.loadAt t (.pointer (ao a (i:Int) 1))).run P w=.ok (vI xs[i]) w:=by
 obtain⟨v,h1,h2⟩:=h.load1 hu rfl rfl (i:=(i:Int)) (by simpa using hi)
 rw[h1,LV h2]
 simp
theorem Sl.tru {P:Program}{t:TypeId}(hu:P.underlying t=some .bool){w:World}{A:Bl}{a:Option Addr}{l c:Nat}{xs:List Bool}(h:Sl lH w A a l c xs){i:Nat}(hi:i<xs.length):
   (Instr.loadAt t (.pointer (ao a (i:Int) 1))).run P w=.ok (.bool xs[i]) w:=by
 obtain⟨v,h1,h2⟩:=h.load1 hu rfl rfl (i:=(i:Int)) (by simpa using hi)
 rw[h1,xP h2]
 simp
theorem Dk {α:Type}{xs:List α}{i j:Nat}(hi:i<xs.length)(hj:j<xs.length):((xs.set i xs[j]).set j xs[i]).Perm xs:=List.set_set_perm hi hj
end Go.Pk
