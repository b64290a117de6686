/- What the laws lean on: ShW, Col, ShX, AllA, DocA, JarP, AdmE, AdmX, AdmJ, V13, MatB, MatC, AdmL, JarQ, DocE, AllB, SortK, ShelfSortF, JarR, AllC, V11, DocF, JarF, DocG; what is used. Its conditions: none. -/
import Derived.Shelf.SlSortCmp.NoneTotal
import Derived.Test.YtikdahhdhchlfaaGreatDoorKI
import Derived.RangeFuncNested
import Derived.RangeFuncLeaves
import Derived.Shelf.Abstract
import Derived.Shelf.AbstractIn
import Derived.WalkKit
import Derived.OwnWalkIn
import Derived.TacticsInMore
import Derived.RegionIn
import Derived.LoopNIn
import Derived.LoopIn
set_option linter.unusedVariables false
set_option linter.unusedSimpArgs false
set_option linter.unusedSectionVars false
set_option maxRecDepth 100000
open Go.IntKind (i64)
open Go.Proofs.Tryz
open List (length)
open Option (isSome)
namespace Go.Pk
open Go.RowKit (Below)
open Go.Proofs
theorem GX {P:Program}{w0 w w':World}{k:Nat}(h:bW w0 w){o:Obj}(hk:k=w.heap.size)(hw:w'=w.alloc o):bW w w'/\bW w0 w'/\w0.heap.size <=k:=by
 have hb:=(hw▸ai w _:bW w w')
 exact⟨hb,aa h hb h.size,by rw[hk];exact h.size⟩
structure VL (tk tc:TypeId)(w:World)(ma k4 k6 r:Nat)(M:List (Plc×Kpt))(of:Kpt->Bool)(seen:List Kpt)(left:List (Plc×Kpt))(o:Option Kpt)(m:Nat)(b:Bool)(w':World):Prop where
 hb:bW w w'
 rng:gg Plc.v Kpt.v w' r ma M left
 hp:(M.map (·.2)).Perm (seen++left.map (·.2))
 fst:se of seen o
 kb:ao w' k6 tk (o.getD pI).cells
 kc:ao w' k4 tc An.cells
 eb:b=o.isSome
 em:m=left.length
def U2 (L:List Kpt)(of:Kpt->Bool)(w:World)(v:Value)(w':World):Prop:=v=.tuple #[((KS L of).getD pI).c.v,.bool (KS L of).isSome]/\bW w w'
theorem HH {kq:Nat}{t:List UInt8}{w:World}(hq:ao w kq ah [vS t])(k:Kpt):Cf bY #[k.v,.pointer (some ⟨kq,0,none⟩)] w (Ret λv w'=>v=.bool (decide (k.site=t))/\bW w w'):=by
 apply ns
 intro k2 w2 hk2 hw2
 have hb:=(hw2▸ai w _:bW w w2)
 have a2:ao w2 k2 aC k.cells:=ao.new hk2 hw2
 refine⟨rfl,_,a2.load1 av rfl (i:=29) (zM k),_,(hq.below hb).load1 av rfl (i:=0) rfl,?_,hb⟩
 congr 1
 rw[Bool.eq_iff_iff];simp
theorem HI {w:World}(k:Kpt):Cf bv #[k.v] w (Ret λv w'=>v=.bool true/\bW w w'):=by
 apply jU
 intro k2 w2 hk2 hw2
 exact⟨rfl,(hw2▸ai w _:bW w w2)⟩
theorem DQ {p ma ms:Nat}{L:List Kpt}{last:Int}{w:World}(h:Shf aO p ma ms L last w){kq:Nat}{t:List UInt8}(hq:ao w kq ah [vS t]):
   Cf dm #[.pointer (some ⟨p,0,none⟩),.func (.func bY) #[] #[.pointer (some ⟨kq,0,none⟩)]] w (Ret (U2 L (λk=>decide (k.site=t)) w)):=by
 obtain⟨M,S,s,hM,hS⟩:=SS.of h
 have hi:=h.inv
 apply ft
 intro k4 w4 hk4 hw4 k6 w6 hk6 hw6
 obtain⟨b4,B4,l4⟩:=GX (P:=prog) (Below.refl w.heap.size w) hk4 hw4
 obtain⟨b6,B6,l6⟩:=GX (P:=prog) B4 hk6 hw6
 have a4:ao w4 k4 af An.cells:=ao.new hk4 hw4
 have a6:ao w6 k6 aC pI.cells:=ao.new hk6 hw6
 have n46:k4≠k6:=by have:=a4.lt;omega
 have s6:=(s.below b4).below b6
 refine⟨rfl,rfl,some ma,sJ s6,?_⟩
 obtain⟨w15,hr,rng,b15⟩:=vH aZ s6.mM (P:=prog)
 have lr:w.heap.size <=w6.heap.size:=B6.size
 have nr:w6.heap.size≠ma:=by have:=s6.mM.lt;omega
 have n4r:k4≠w6.heap.size:=by have:=(a4.below b6).lt;omega
 have n6r:k6≠w6.heap.size:=by have:=a6.lt;omega
 refine⟨w15,_,hr,λm b w'=>∃seen left o,VL aC af w ma k4 k6 w6.heap.size M (λk=>decide (k.site=t)) seen left o m b w',
   ⟨_,[],M,none,aa B6 b15 B6.size,rng,by simp,(λk hk=>by cases hk),a6.below b15,(a4.below b6).below b15,rfl,rfl⟩,?_⟩
 intro m b
 refine aJ.of ?_ _
 rintro wl ⟨seen,left,o,I⟩
 rcases I.rng.step nr jL (P:=prog)with⟨rfl,hn⟩|⟨l1,kk,x,l2,w16,rfl,hn,rng2,hen,hg⟩
 · refine .inl ⟨wl,hn,rfl,(o.getD pI).c.v,be.load I.kb (i:=0) (us:=(o.getD pI).c.cells) (Cky.len (o.getD pI).ok) (λj hj=>by rw[Nat.zero_add];exact uq _ hj),?_⟩
   have ho:o=KS L (λk=>decide (k.site=t)):=by
     have hp:=I.hp
     rw[List.map_nil,List.append_nil]at hp
     exact se.one hi (I.fst.perm (hp.symm.trans hM.perm)) (r6 hi)
   refine be.fin (Cky.len (o.getD pI).ok) (Cky.one _) I.kc (Cky.len (by rfl)) I.hb l4 λwx hb=>⟨?_,hb⟩
   rw[I.eb,ho];rfl
 · refine .inr ⟨w16,kk.v,x.v,hn,kk.v,x.v,hen,?_⟩
   intro k9 w9 hk9 hw9
   have B16:=Below.put I.hb hg lr
   obtain⟨b9,B9,l9⟩:=GX (P:=prog) B16 hk9 hw9
   have c4:=(I.kc.grown hg (bF n4r)).below b9
   have c6:=(I.kb.grown hg (bF n6r)).below b9
   have a9:ao w9 k9 aC pI.cells:=ao.new hk9 hw9
   obtain⟨wx,hst,a9x,hg9⟩:=gX.store0 (Kpt.len x) (Kpt.one _) a9 (Kpt.len _)
   have B9x:=Below.put B9 hg9 l9
   have n49:k4≠k9:=by have:=(I.kc.grown hg (bF n4r)).lt;omega
   have n69:k6≠k9:=by have:=(I.kb.grown hg (bF n6r)).lt;omega
   have nr9:w6.heap.size≠k9:=by have:=rng2.lt;omega
   have nm9:ma≠k9:=by have:=s.l2;omega
   have d4:=c4.grown hg9 (bF n49)
   have d6:=c6.grown hg9 (bF n69)
   have rng3:=(rng2.below b9).keep (hg9.block _ (rng2.below b9).lt (bF nr9)) (hg9.block _ (rng2.below b9).map.lt (bF nm9))
   refine⟨wx,hst,?_⟩
   have u9:x.cells[27]? =some (vI x.c.used):=(uq x (by decide)).trans (cq x.ok 7)
   have q9:x.cells[28]? =some (vI x.c.seq):=(uq x (by decide)).trans (cq x.ok 8)
   refine iU (w:=wx) (kU o x) ?_ ?_
   · cases o with
     | none=>rw[I.eb];exact ab.yes rfl ⟨rfl,rfl⟩
     | some y=>
       have d6:ao wx k6 aC y.cells:=d6
       have u6:y.cells[27]? =some (vI y.c.used):=(uq y (by decide)).trans (cq y.ok 7)
       have q6:y.cells[28]? =some (vI y.c.seq):=(uq y (by decide)).trans (cq y.ok 8)
       rw[I.eb]
       refine ab.no rfl ⟨rfl,rfl,_,a9x.load1 bP rfl (i:=27) u9,rfl,rfl,_,d6.load1 bP rfl (i:=27) u6,?_⟩
       refine ab.of (λe=>⟨rfl,?_⟩) (λe=>?_)
       · have:x.c.used<y.c.used:=by simpa using e
         simp[kU,this]
       · have e1: ¬ x.c.used<y.c.used:=by simpa using e
         refine⟨rfl,rfl,_,a9x.load1 bP rfl (i:=27) u9,rfl,rfl,_,d6.load1 bP rfl (i:=27) u6,?_⟩
         refine ab.of (λe=>?_) (λe=>⟨rfl,?_⟩)
         · have e2:x.c.used=y.c.used:=by simpa using e
           refine⟨rfl,rfl,_,a9x.load1 bG rfl (i:=28) q9,rfl,rfl,_,d6.load1 bG rfl (i:=28) q6,rfl,?_⟩
           simp[kU,e2]
         · have e2: ¬ x.c.used=y.c.used:=by simpa using e
           simp[kU,e1,e2]
   · refine uX (λb w'=>b=(decide (x.site=t)&&kU o x)/\bW wx w') ?_ ?_
     · refine⟨x.v,gX.load0 a9x (Kpt.len x),?_⟩
       refine aw (HH (hq.below B9x) x) ?_
       rintro _ w51 ⟨rfl,hb51⟩
       refine⟨_,rfl,ab.of (λe=>⟨?_,hb51⟩) (λe=>⟨?_,hb51⟩)⟩
       · rw[e,Bool.true_and]
       · rw[e,Bool.false_and]
     · rintro b54 wj ⟨rfl,hbj⟩
       have Bj:=aa B9x hbj B9x.size
       have e6:=d6.below hbj
       have e4:=d4.below hbj
       have e9:=a9x.below hbj
       have rng4:=rng3.below hbj
       have hp2:(M.map (·.2)).Perm ((seen++[x])++(l1++l2).map (·.2)):=by
         refine I.hp.trans ?_
         rw[List.map_append,List.map_cons,List.map_append,List.append_assoc]
         exact List.Perm.append_left _ List.perm_middle
       have hfs:=I.fst.step x
       have hlen:(l1++l2).length<m:=by rw[I.em];simp
       refine ab.of (λe=>?_) (λe=>?_)
       · obtain⟨wy,hsy,f6,hgy⟩:=gX.store0 (Kpt.len x) (Kpt.one _) e6 (Kpt.len _)
         rw[show(decide (x.site=t)&&kU o x)=true from e]at hfs
         refine⟨x.v,gX.load0 e9 (Kpt.len x),wy,hsy,_,hlen,seen++[x],l1++l2,some x,Below.put Bj hgy l6,?_,hp2,hfs,f6,e4.grown hgy (bF n46),rfl,rfl⟩
         exact rng4.keep (hgy.block _ rng4.lt (bF (Ne.symm n6r))) (hgy.block _ rng4.map.lt (bF (by have:=s.l2;omega)))
       · rw[show(decide (x.site=t)&&kU o x)=false from e]at hfs
         exact⟨_,hlen,seen++[x],l1++l2,o,Bj,rng4,hp2,hfs,e6,e4,I.eb,rfl⟩
theorem BX {p ma ms:Nat}{L:List Kpt}{last:Int}{w:World}(h:Shf aO p ma ms L last w)(t:List UInt8):
   Cf gT #[.pointer (some ⟨p,0,none⟩),vS t] w (Ret (U2 L (λk=>decide (k.site=t)) w)):=by
 apply qh
 intro k3 w3 hk3 hw3 k4 w4 hk4 hw4
 obtain⟨b3,B3,l3⟩:=GX (P:=prog) (Below.refl w.heap.size w) hk3 hw3
 obtain⟨b4,B4,l4⟩:=GX (P:=prog) B3 hk4 hw4
 have a3:ao w3 k3 ah [vS t]:=ao.new hk3 hw3
 have a4:ao w4 k4 af An.cells:=ao.new hk4 hw4
 refine aw (DQ ((h.below b3).below b4) (a3.below b4)) ?_
 rintro _ w8 ⟨rfl,hb8⟩
 refine⟨_,_,rfl,?_⟩
 exact be.fin (Cky.len ((KS L (λk=>decide (k.site=t))).getD pI).ok) (Cky.one _) (a4.below hb8) (Cky.len (by rfl)) (aa B4 hb8 B4.size) l4 λwx hb=>⟨rfl,hb⟩
def uK:Ty Cky where
 k:=29
 pos:=by decide
 rep:=λ_ _ vs c=>vs=c.cells/\c.ok
 len:=λh=>by rw[h.1];exact Cky.len h.2
 one:=fun{_ _ _ x} h v hv=>by rw[h.1]at hv;exact Cky.one x v hv
 keep:=λh _=>h
 mono:=λh _=>h
theorem Kx:Flat uK:=λ_ _ _ _ _ _ h=>h
theorem vv {P:Program}{t:TypeId}(hw:Whl P t 29){w:World}{A:Bl}{a:Option Addr}{l c:Nat}{xs:List Cky}(h:Sl uK w A a l c xs){i:Nat}(hi:i<xs.length):
   (Instr.loadAt t (.pointer (aq a (i:Int) 29))).run P w=.ok xs[i].v w/\xs[i].ok:=by
 obtain⟨vs,h1,e,o⟩:=hw.elem (T:=uK) rfl h hi
 subst e
 exact⟨h1,o⟩
theorem VC {α:Type}{T:Ty α}(hfl:Flat T){P:Program}{st t ty:TypeId}{bytes:Nat}{z:Value}(hu:P.underlying st=some (.slice t))(tf:TF P t T.k bytes z)(hb0:0<bytes)
   {w0 w w1:World} {a:Option Addr} {n c:Nat} {xs:List α} (ho:Ow T t w NoB a n c xs) (hf:bU w0.heap.size a) (hb:bW w0 w) {k1:Nat} {vs:List Value} {x:α} (hk:k1=w.heap.size)
   (hw:w1=w.alloc (.cells vs.toArray t)) (hx:T.rep w NoB vs x) {cm:Nat} (hbound:(xs.length+1)*bytes <=140737488355328):
   ∃(w2:World) (a':Option Addr) (n' c':Nat),(Builtin.append_ #[st,st] ty #[.slice a n c,.slice (some ⟨k1,0,none⟩) 1 cm]).run P w1=.ok (.slice a' n' c') w2/\Ow T t w2 NoB a' n' c' (xs++[x])/\bU w0.heap.size a'/\bW w0 w2/\
     ∀b,b<w.heap.size->eJ a≠some b->w2.heap[b]? =w.heap[b]? :=by
 have hB1:bW w w1:=hw▸ai w _
 have ho3:=ho.below hB1
 have hsrc:Src T w1 NoB (some ⟨k1,0,none⟩) 1 [x]:=Src.new1F hfl hk hw hx
 obtain⟨w4,a4,n4,c4,hr,ho4,hgr,hfr⟩:=eZ (ty:=ty) hu tf hb0 ho3 (λ_ _ h=>h) (cm:=cm) hsrc (by simpa using hbound)
 have hB:=aa hb hB1 hb.size
 refine⟨w4,a4,n4,c4,hr,ho4,hf.app hB.size hfr,hB.grown hgr hB.size hf,λb hb2 hne=>?_⟩
 rw[hgr.block b (Nat.lt_of_lt_of_le hb2 hB1.size) (λe=>hne e.symm),hB1.block b hb2]
theorem N4 {c:Cky}(o:c.ok)(w:World):(Instr.buildSlice aR 1 #[(0,c.v)]).run prog w=.ok (.slice (some ⟨w.heap.size,0,none⟩) 1 1) (w.alloc (.cells c.cells.toArray af)):=by
 obtain⟨nm,val,⟨kd,hn,a⟩,only,path,sec,http,same,exp,born,used,seq⟩:=c
 obtain⟨x0,x1,x2,x3,x4,x5,x6,x7,x8,x9,x10,x11,x12,x13,x14,x15,rfl⟩:=fi a o
 kernel_rfl
theorem Q2 {w0 w:World}{a:Option Addr}{n c:Nat}{xs:List Cky}(ho:Ow uK af w NoB a n c xs)(hf:bU w0.heap.size a)(hb:bW w0 w){x:Cky}(o:x.ok)(hl:xs.length <=1000000):
   ∃(w1:World) (a1:Option Addr) (l1 c1:Nat),(Instr.buildSlice aR 1 #[(0,x.v)]).run prog w=.ok (.slice a1 l1 c1) w1/\
     ∃(w2:World) (a':Option Addr) (n' c':Nat),(Builtin.append_ #[aR,aR] aR #[.slice a n c,.slice a1 l1 c1]).run prog w1=.ok (.slice a' n' c') w2/\
       Ow uK af w2 NoB a' n' c' (xs++[x])/\bU w0.heap.size a'/\bW w0 w2/\∀b,b<w.heap.size->eJ a≠some b->w2.heap[b]? =w.heap[b]? :=
 ⟨_,_,_,_,N4 o w,VC Kx fR lg (by decide) ho hf hb rfl rfl ⟨rfl,o⟩ (by omega)⟩
def ya (L:List Kpt)(ps:List Plc):List Kpt:=ps.foldl fq L
theorem I7 (L:List Kpt)(ps:List Plc)(p:Plc):ya L (ps++[p])=fq (ya L ps) p:=by unfold ya;rw[List.foldl_append];rfl
theorem Az:∀(ps:List Plc) (L:List Kpt),ya L ps=L.filter λk=> !decide (k.plc∈ps)
 | [],L=>by
   show L=_
   rw[List.filter_eq_self.2]
   intro k _;simp
 | p::ps,L=>by
   show ya (fq L p) ps=_
   rw[Az ps]
   unfold fq
   rw[List.filter_filter]
   exact List.filter_congr λk _=>by
     rw[Bool.eq_iff_iff]
     simp[and_comm]
theorem Ng {L E:List Kpt}{last:Int}(s:ShI L last)(now:Int)(h:E.Perm (L.filter λk=>decide (k.c.exp <=now))):ya L (E.map Kpt.plc)=PG L now:=by
 rw[Az]
 unfold PG
 refine List.filter_congr λk hk=>?_
 rw[Bool.eq_iff_iff]
 simp only[Bool.not_eq_true',dFx,dTx]
 constructor
 · intro hn
   have: ¬ k.c.exp <=now:=λc=>hn (List.mem_map.2 ⟨k,h.mem_iff.2 (List.mem_filter.2 ⟨hk,by simpa using c⟩),rfl⟩)
   omega
 · intro hn hm
   obtain⟨x,hx,e⟩:=List.mem_map.1 hm
   have hx2:=List.mem_filter.1 (h.mem_iff.1 hx)
   rw[s.one hx2.1 hk e]at hx2
   have:=hx2.2
   simp at this;omega
theorem LI (ps:List Plc)(L:List Kpt):(ya L ps).length <=L.length:=by rw[Az];exact List.length_filter_le ..
structure VY (t:TypeId)(w:World)(p ma ms r:Nat)(M:List (Plc×Kpt))(now:Int)(seen:List Kpt)(left:List (Plc×Kpt))(m:Nat)(a:Option Addr)(l c:Nat)(w':World):Prop where
 hb:bW w w'
 rng:gg Plc.v Kpt.v w' r ma M left
 hp:(M.map (·.2)).Perm (seen++left.map (·.2))
 row:Ow uK t w' NoB a l c ((seen.filter λk=>decide (k.c.exp <=now)).map Kpt.c)
 fr:bU w.heap.size a
 em:m=left.length
theorem DR {p ma ms:Nat}{L:List Kpt}{last:Int}{w:World}(h:Shf aO p ma ms L last w):
   Cf dm #[.pointer (some ⟨p,0,none⟩),.func (.func bv) #[] #[]] w (Ret (U2 L (λ_=>true) w)):=by
 obtain⟨M,S,s,hM,hS⟩:=SS.of h
 have hi:=h.inv
 apply eB
 intro k4 w4 hk4 hw4 k6 w6 hk6 hw6
 obtain⟨b4,B4,l4⟩:=GX (P:=prog) (Below.refl w.heap.size w) hk4 hw4
 obtain⟨b6,B6,l6⟩:=GX (P:=prog) B4 hk6 hw6
 have a4:ao w4 k4 af An.cells:=ao.new hk4 hw4
 have a6:ao w6 k6 aC pI.cells:=ao.new hk6 hw6
 have n46:k4≠k6:=by have:=a4.lt;omega
 have s6:=(s.below b4).below b6
 refine⟨rfl,rfl,some ma,sJ s6,?_⟩
 obtain⟨w15,hr,rng,b15⟩:=vH aZ s6.mM (P:=prog)
 have lr:w.heap.size <=w6.heap.size:=B6.size
 have nr:w6.heap.size≠ma:=by have:=s6.mM.lt;omega
 have n4r:k4≠w6.heap.size:=by have:=(a4.below b6).lt;omega
 have n6r:k6≠w6.heap.size:=by have:=a6.lt;omega
 refine⟨w15,_,hr,λm b w'=>∃seen left o,VL aC af w ma k4 k6 w6.heap.size M (λ_=>true) seen left o m b w',
   ⟨_,[],M,none,aa B6 b15 B6.size,rng,by simp,(λk hk=>by cases hk),a6.below b15,(a4.below b6).below b15,rfl,rfl⟩,?_⟩
 intro m b
 refine aJ.of ?_ _
 rintro wl ⟨seen,left,o,I⟩
 rcases I.rng.step nr jL (P:=prog)with⟨rfl,hn⟩|⟨l1,kk,x,l2,w16,rfl,hn,rng2,hen,hg⟩
 · refine .inl ⟨wl,hn,rfl,(o.getD pI).c.v,be.load I.kb (i:=0) (us:=(o.getD pI).c.cells) (Cky.len (o.getD pI).ok) (λj hj=>by rw[Nat.zero_add];exact uq _ hj),?_⟩
   have ho:o=KS L (λ_=>true):=by
     have hp:=I.hp
     rw[List.map_nil,List.append_nil]at hp
     exact se.one hi (I.fst.perm (hp.symm.trans hM.perm)) (r6 hi)
   refine be.fin (Cky.len (o.getD pI).ok) (Cky.one _) I.kc (Cky.len (by rfl)) I.hb l4 λwx hb=>⟨?_,hb⟩
   rw[I.eb,ho];rfl
 · refine .inr ⟨w16,kk.v,x.v,hn,kk.v,x.v,hen,?_⟩
   intro k9 w9 hk9 hw9
   have B16:=Below.put I.hb hg lr
   obtain⟨b9,B9,l9⟩:=GX (P:=prog) B16 hk9 hw9
   have c4:=(I.kc.grown hg (bF n4r)).below b9
   have c6:=(I.kb.grown hg (bF n6r)).below b9
   have a9:ao w9 k9 aC pI.cells:=ao.new hk9 hw9
   obtain⟨wx,hst,a9x,hg9⟩:=gX.store0 (Kpt.len x) (Kpt.one _) a9 (Kpt.len _)
   have B9x:=Below.put B9 hg9 l9
   have n49:k4≠k9:=by have:=(I.kc.grown hg (bF n4r)).lt;omega
   have n69:k6≠k9:=by have:=(I.kb.grown hg (bF n6r)).lt;omega
   have nr9:w6.heap.size≠k9:=by have:=rng2.lt;omega
   have nm9:ma≠k9:=by have:=s.l2;omega
   have d4:=c4.grown hg9 (bF n49)
   have d6:=c6.grown hg9 (bF n69)
   have rng3:=(rng2.below b9).keep (hg9.block _ (rng2.below b9).lt (bF nr9)) (hg9.block _ (rng2.below b9).map.lt (bF nm9))
   refine⟨wx,hst,?_⟩
   have u9:x.cells[27]? =some (vI x.c.used):=(uq x (by decide)).trans (cq x.ok 7)
   have q9:x.cells[28]? =some (vI x.c.seq):=(uq x (by decide)).trans (cq x.ok 8)
   refine iU (w:=wx) (kU o x) ?_ ?_
   · cases o with
     | none=>rw[I.eb];exact ab.yes rfl ⟨rfl,rfl⟩
     | some y=>
       have d6:ao wx k6 aC y.cells:=d6
       have u6:y.cells[27]? =some (vI y.c.used):=(uq y (by decide)).trans (cq y.ok 7)
       have q6:y.cells[28]? =some (vI y.c.seq):=(uq y (by decide)).trans (cq y.ok 8)
       rw[I.eb]
       refine ab.no rfl ⟨rfl,rfl,_,a9x.load1 bP rfl (i:=27) u9,rfl,rfl,_,d6.load1 bP rfl (i:=27) u6,?_⟩
       refine ab.of (λe=>⟨rfl,?_⟩) (λe=>?_)
       · have:x.c.used<y.c.used:=by simpa using e
         simp[kU,this]
       · have e1: ¬ x.c.used<y.c.used:=by simpa using e
         refine⟨rfl,rfl,_,a9x.load1 bP rfl (i:=27) u9,rfl,rfl,_,d6.load1 bP rfl (i:=27) u6,?_⟩
         refine ab.of (λe=>?_) (λe=>⟨rfl,?_⟩)
         · have e2:x.c.used=y.c.used:=by simpa using e
           refine⟨rfl,rfl,_,a9x.load1 bG rfl (i:=28) q9,rfl,rfl,_,d6.load1 bG rfl (i:=28) q6,rfl,?_⟩
           simp[kU,e2]
         · have e2: ¬ x.c.used=y.c.used:=by simpa using e
           simp[kU,e1,e2]
   · refine uX (λb w'=>b=(true&&kU o x)/\bW wx w') ?_ ?_
     · refine⟨x.v,gX.load0 a9x (Kpt.len x),?_⟩
       refine aw (HI x) ?_
       rintro _ w51 ⟨rfl,hb51⟩
       refine⟨_,rfl,ab.of (λe=>⟨?_,hb51⟩) (λe=>⟨?_,hb51⟩)⟩
       · rw[e,Bool.true_and]
       · rw[e,Bool.false_and]
     · rintro b54 wj ⟨rfl,hbj⟩
       have Bj:=aa B9x hbj B9x.size
       have e6:=d6.below hbj
       have e4:=d4.below hbj
       have e9:=a9x.below hbj
       have rng4:=rng3.below hbj
       have hp2:(M.map (·.2)).Perm ((seen++[x])++(l1++l2).map (·.2)):=by
         refine I.hp.trans ?_
         rw[List.map_append,List.map_cons,List.map_append,List.append_assoc]
         exact List.Perm.append_left _ List.perm_middle
       have hfs:=I.fst.step x
       have hlen:(l1++l2).length<m:=by rw[I.em];simp
       refine ab.of (λe=>?_) (λe=>?_)
       · obtain⟨wy,hsy,f6,hgy⟩:=gX.store0 (Kpt.len x) (Kpt.one _) e6 (Kpt.len _)
         rw[show(true&&kU o x)=true from e]at hfs
         refine⟨x.v,gX.load0 e9 (Kpt.len x),wy,hsy,_,hlen,seen++[x],l1++l2,some x,Below.put Bj hgy l6,?_,hp2,hfs,f6,e4.grown hgy (bF n46),rfl,rfl⟩
         exact rng4.keep (hgy.block _ rng4.lt (bF (Ne.symm n6r))) (hgy.block _ rng4.map.lt (bF (by have:=s.l2;omega)))
       · rw[show(true&&kU o x)=false from e]at hfs
         exact⟨_,hlen,seen++[x],l1++l2,o,Bj,rng4,hp2,hfs,e6,e4,I.eb,rfl⟩
theorem sv {p ma ms:Nat}{L:List Kpt}{last:Int}{w:World}(h:Shf aO p ma ms L last w):
   Cf eM #[.pointer (some ⟨p,0,none⟩)] w (Ret (U2 L (λ_=>true) w)):=by
 apply lW
 intro k4 w4 hk4 hw4
 obtain⟨b4,B4,l4⟩:=GX (P:=prog) (Below.refl w.heap.size w) hk4 hw4
 have a4:ao w4 k4 af An.cells:=ao.new hk4 hw4
 refine aw (DR (h.below b4)) ?_
 rintro _ w8 ⟨rfl,hb8⟩
 refine⟨_,_,rfl,?_⟩
 exact be.fin (Cky.len ((KS L (λ_=>true)).getD pI).ok) (Cky.one _) (a4.below hb8) (Cky.len (by rfl)) (aa B4 hb8 B4.size) l4 λwx hb=>⟨rfl,hb⟩
def VZ (p ma ms:Nat)(L:List Kpt)(last:Int)(now:Int)(w:World)(v:Value)(w':World):Prop:=(∃n:Int,v=vI n)/\Shf aO p ma ms (PG L now) last w'/\Chg [p,ma,ms] w w'
theorem rb {p ma ms:Nat}{L:List Kpt}{last:Int}{w:World}(h:Shf aO p ma ms L last w)(hl:L.length <=1000000)(now:Int):
   Cf eV #[.pointer (some ⟨p,0,none⟩),vI now] w (Ret (VZ p ma ms L last now w)):=by
 obtain⟨M,S,s,hM,hS⟩:=SS.of h
 have hi:=h.inv
 have hML:M.length=L.length:=by have:=hM.perm.length_eq;rwa [List.length_map]at this
 apply qg
 refine⟨rfl,rfl,some ma,sJ s,?_⟩
 obtain⟨w15,hr,rng,b15⟩:=vH aZ s.mM (P:=prog)
 have nr:w.heap.size≠ma:=by have:=s.l2;omega
 refine⟨w15,_,hr,λm a l c w'=>∃seen left,VY af w p ma ms w.heap.size M now seen left m a l c w',
   ⟨_,[],M,b15,rng,by simp,Ow.nil _ _ _ _,bU.none _,rfl⟩,?_⟩
 intro m a5 l5 c5
 refine aJ.of ?_ _
 rintro wl ⟨seen,left,I⟩
 rcases I.rng.step nr jL (P:=prog)with⟨rfl,hn⟩|⟨l1,kk,x,l2,w16,rfl,hn,rng2,hen,hg⟩
 · refine .inl ⟨wl,hn,?_⟩
   have hp:L.Perm seen:=by
     have:=I.hp
     rw[List.map_nil,List.append_nil]at this
     exact hM.perm.symm.trans this
   generalize hE:(seen.filter λk=>decide (k.c.exp <=now))=E at*
   have hEp:E.Perm (L.filter λk=>decide (k.c.exp <=now)):=by rw[<- hE];exact(hp.symm.filter _)
   have hE0:=I.row
   rw[hE]at hE0
   have hlen:=hE0.len
   rw[List.length_map]at hlen
   have hshf:Shf aO p ma ms L last wl:=h.below I.hb
   have hEl:E.length <=L.length:=by rw[hEp.length_eq];exact List.length_filter_le ..
   have l1:=s.l1
   have l2:=s.l2
   have l3:=s.l3
   refine⟨λm i w'=>∃k:Nat,k <=E.length/\i=(k:Int)/\m=E.length-k/\Shf aO p ma ms (ya L ((E.take k).map Kpt.plc)) last w'/\Chg [p,ma,ms] wl w',
     ⟨_,0,by omega,rfl,rfl,hshf,Chg.refl _ _⟩,?_⟩
   intro m i
   refine aJ.of ?_ _
   rintro w1 ⟨k,hk,rfl,rfl,hs1,hc1⟩
   refine ab.of (λhlt=>?_) (λhlt=>?_) <;> simp only[dTx,dFx]at hlt
   · have hlt:k<E.length:=by omega
     have hsl:Sl uK w1 (λb=>w.heap.size <=b) a5 l5 c5 (E.map Kpt.c):=by
       refine(hE0.sl (A':=λb=>w.heap.size <=b) (λ_ _ hb=>hb.elim) (λg hg=>I.fr g hg)).keep ⟨hc1.size,λb hb hab=>hc1.block b hb (λhm=>?_)⟩
       simp only[List.mem_cons,List.not_mem_nil,or_false]at hm
       omega
     have hlt2:k<(E.map Kpt.c).length:=by rw[List.length_map];exact hlt
     obtain⟨hld,o⟩:=vv be hsl hlt2
     rw[List.getElem_map]at hld o
     refine⟨⟨⟨by omega,by omega⟩,hsl.isSome hlt2⟩,_,hld,?_⟩
     refine be.new (zs:=An.cells) (cs:=E[k].c.cells) rfl (Cky.len o) (Cky.one _) w1 λk9 w9 hk9 h9 hb9=>?_
     refine⟨_,be.load0 h9 (Cky.len o),?_⟩
     refine aw (kY (hs1.below hb9) (Nat.le_trans (LI _ _) (by omega)) o) ?_
     rintro _ w37 ⟨rfl,hs2,hc2⟩
     refine⟨_,rfl,E.length-(k+1),by omega,k+1,by omega,by rw[wrap_i64 (by omega) (by omega)];omega,rfl,?_,(hc1.step hb9).trans hc2⟩
     rw[List.take_succ_eq_append_getElem hlt,List.map_append,List.map_cons,List.map_nil,I7]
     exact hs2
   · have:k=E.length:=by omega
     subst this
     rw[List.take_length,Ng hi now hEp]at hs1
     exact⟨⟨_,rfl⟩,hs1,(Chg.of I.hb).trans hc1⟩
 · refine .inr ⟨w16,kk.v,x.v,hn,kk.v,x.v,hen,?_⟩
   have B16:=Below.put I.hb hg (Nat.le_refl _)
   have ogr:∀g,eJ a5=some g->g≠w.heap.size:=λg hg2 e=>by
     have h1:=I.rng
     obtain⟨_,_,_,_,_,q1,_⟩:=h1
     obtain⟨_,_,_,q2⟩:=I.row
     rcases q2 with⟨q3,_⟩|⟨g',cur,fr,q3,q4,_⟩
     · rw[q3]at hg2;cases hg2
     · rw[q3]at hg2
       cases hg2
       have e:g'=w.heap.size:=e
       rw[e,q1]at q4
       cases q4
   have row2:=I.row.put ogr hg
   have hp2:(M.map (·.2)).Perm ((seen++[x])++(l1++l2).map (·.2)):=by
     refine I.hp.trans ?_
     rw[List.map_append,List.map_cons,List.map_append,List.append_assoc]
     exact List.Perm.append_left _ List.perm_middle
   have hlen:(l1++l2).length<m:=by rw[I.em];simp
   have hsl:(seen.filter λk=>decide (k.c.exp <=now)).length <=L.length:=by
     have h1:=I.hp.length_eq
     rw[List.length_map,hML,List.length_append]at h1
     have:=List.length_filter_le (λk:Kpt=>decide (k.c.exp <=now)) seen
     omega
   refine gX.new (zs:=pI.cells) (cs:=x.cells) (Kpt.len pI) (Kpt.len x) (Kpt.one _) w16 λk7 w7 hk7 h7 hb7=>?_
   have B7:=aa B16 hb7 B16.size
   have rng3:=rng2.below hb7
   have row3:=row2.below hb7
   refine⟨rfl,rfl,_,h7.load1 bP rfl (i:=25) ((uq x (by decide)).trans (cq x.ok 5)),ab.of (λe=>?_) (λe=>?_)⟩ <;> simp only[dTx,dFx]at e
   · refine⟨rfl,x.c.v,be.load h7 (i:=0) (us:=x.c.cells) (Cky.len x.ok) (λj hj=>by rw[Nat.zero_add];exact uq _ hj),?_⟩
     obtain⟨w1,a1,q1,c1,e1,w2,a',n',c',e2,row4,fr4,B4,oth⟩:=Q2 row3 I.fr B7 x.ok (by rw[List.length_map];omega)
     refine⟨w1,a1,q1,c1,e1,w2,a',n',c',e2,_,hlen,seen++[x],l1++l2,B4,?_,hp2,?_,fr4,rfl⟩
     · have hn1:eJ a5≠some w.heap.size:=λe=>ogr _ e rfl
       have hn2:eJ a5≠some ma:=λe=>by have:=I.fr _ e;have:=s.l2;omega
       exact rng3.keep (oth _ rng3.lt hn1) (oth _ rng3.map.lt hn2)
     · rw[List.filter_append,List.filter_cons,if_pos (by simpa using e),List.filter_nil,List.map_append]
       exact row4
   · refine⟨_,hlen,seen++[x],l1++l2,B7,rng3,hp2,?_,I.fr,rfl⟩
     rw[List.filter_append,List.filter_cons,if_neg (by simpa using e),List.filter_nil,List.append_nil]
     exact row3
section
variable {F:Fence} {n:Nat} {P:Program} {ops:Array Oper} {Q:Exit->Act->World->Prop} {a:Act} {w:World} {rest:List Oper} {o:Oper}
theorem iP (hg:o.guard=none)(hd:∀c,o.op≠.defer c)(ha:o.about P w a.eval=none){v:Value}{w':World}(hrun:(execOp a.eval o).run P w=.ok (.value v) w')(hK:wpListIn F n P ops Q rest (a.put o.dst v) w'):wpListIn F n P ops Q (o::rest) a w:=by
 refine wpListIn_plain hg λK hK'=>⟨λf hf=>?_,?_⟩
 · rw[ha]at hf;cases hf
 · rw[Oper.semAt_plain F _ _ hd,hrun]
   exact hK' _ _ hK
theorem Ju (hg:o.guard=none)(hd:∀c,o.op≠.defer c)(ha:o.about P w a.eval=none){w':World}(hrun:(execOp a.eval o).run P w=.ok .skip w')(hK:wpListIn F n P ops Q rest (a.put o.dst undef) w'):wpListIn F n P ops Q (o::rest) a w:=by
 refine wpListIn_plain hg λK hK'=>⟨λf hf=>?_,?_⟩
 · rw[ha]at hf;cases hf
 · rw[Oper.semAt_plain F _ _ hd,hrun]
   exact hK' _ _ hK
theorem uu (hg:o.guard=none){t:TypeId}{x:Operand}(hop:o.op=.load t x){p:Value}(hx:a.eval x=p){v:Value}(hrun:(Instr.loadAt t p).run P w=.ok v w)(hK:wpListIn F n P ops Q rest (a.put o.dst v) w):wpListIn F n P ops Q (o::rest) a w:=
 iP hg (by rw[hop];intro c hc;cases hc) (by simp[Oper.about,hop]) (by simp[execOp,hop,hx,hrun,Result.andThen]) hK
theorem qL (hg:o.guard=none){t:TypeId}{x y:Operand}(hop:o.op=.store t x y){p u:Value}(hx:a.eval x=p)(hy:a.eval y=u){w':World}(hrun:(Instr.storeAt t p u).run P w=.ok () w')(hK:wpListIn F n P ops Q rest (a.put o.dst undef) w'):wpListIn F n P ops Q (o::rest) a w:=
 Ju hg (by rw[hop];intro c hc;cases hc) (by simp[Oper.about,hop]) (by simp[execOp,hop,hx,hy,hrun,Result.andThen]) hK
theorem HB (hg:o.guard=none){t:TypeId}{x:Operand}(hop:o.op=.range t x){p:Value}(hx:a.eval x=p){v:Value}{w':World}(hrun:(Instr.range t p).run P w=.ok v w')(hK:wpListIn F n P ops Q rest (a.put o.dst v) w'):wpListIn F n P ops Q (o::rest) a w:=
 iP hg (by rw[hop];intro c hc;cases hc) (by simp[Oper.about,hop]) (by simp[execOp,hop,hx,hrun,Result.andThen]) hK
theorem AW (hg:o.guard=none){x:Operand}(hop:o.op=.next x false){p:Value}(hx:a.eval x=p){v:Value}{w':World}(hrun:(Instr.next p false o.type).run P w=.ok v w')(hK:wpListIn F n P ops Q rest (a.put o.dst v) w'):wpListIn F n P ops Q (o::rest) a w:=
 iP hg (by rw[hop];intro c hc;cases hc) (by simp[Oper.about,hop]) (by simp[execOp,hop,hx,hrun,Result.andThen]) hK
theorem Hz (hg:o.guard=none){x:Operand}(hop:o.op=.entry x){p:Value}(hx:a.eval x=p){v:Value}{w':World}(hrun:(Instr.entry p).run P w=.ok v w')(hK:wpListIn F n P ops Q rest (a.put o.dst v) w'):wpListIn F n P ops Q (o::rest) a w:=
 iP hg (by rw[hop];intro c hc;cases hc) (by simp[Oper.about,hop]) (by simp[execOp,hop,hx,hrun,Result.andThen]) hK
theorem yh (hg:o.guard=none){t:TypeId}(hop:o.op=.alloc t){v:Value}{w':World}(hrun:(Instr.alloc t true (.tuple #[])).run P w=.ok v w')(hK:wpListIn F n P ops Q rest (a.put o.dst v) w'):wpListIn F n P ops Q (o::rest) a w:=
 iP hg (by rw[hop];intro c hc;cases hc) (by simp[Oper.about,hop]) (by simp[execOp,hop,hrun,Result.andThen]) hK
end
def LX (w:World)(b r:Nat):Nat:=
 match w.heap[b]?,w.heap[r]? with
 | some (.map es _),some (.mapIter _ _ seen _)=>(leftOf es seen).size
 | _,_=>0
theorem gg.leftN {α β:Type}[DecidableEq α]{ek:α->Value}{ev:β->Value}{w:World}{r m:Nat}{kvs left:List (α×β)}(h:gg ek ev w r m kvs left):Go.Pk.LX w m r=left.length:=by
 obtain⟨since,seen,c0,es,clock,hr,hm,hkv,hn,hc,hs,hsc,hsk,hl⟩:=h
 unfold Go.Pk.LX
 rw[hm,hr]
 have:=Jr hl
 rw[Array.length_toList]at this
 exact this
theorem gg.walks {α β:Type}{ek:α->Value}{ev:β->Value}{w w':World}{r m:Nat}{kvs left:List (α×β)}(h:gg ek ev w r m kvs left)(k:KeepsWalks w w'):gg ek ev w' r m kvs left:=by
 obtain⟨since,seen,c0,es,clock,hr,hm,h3⟩:=h
 exact⟨since,seen,c0,es,clock,k.same _ _ hr rfl,k.same _ _ hm rfl,h3⟩
theorem gg.walk {α β:Type}{ek:α->Value}{ev:β->Value}{w:World}{r m:Nat}{kvs left:List (α×β)}(h:gg ek ev w r m kvs left):∃o:Obj,w.heap[r]? =some o/\o.isWalk=true:=by
 obtain⟨since,seen,c0,es,clock,hr,_⟩:=h
 exact⟨_,hr,rfl⟩
theorem uk {w w':World}(hb:bW w w'):w.grownBy w' none:=⟨hb.os,hb.tape,hb.output,hb.size,λk hk _=>hb.block k hk⟩
section
open Go.Pk Go.RowKit Go.Shelf
attribute [local go_sem] Oper.semAt_some
theorem D2 (w:World):(Instr.alloc aC true (.tuple #[])).run prog w=.ok (.pointer (some ⟨w.heap.size,0,none⟩)) (w.alloc (.cells pI.cells.toArray aC)):=by
 kernel_rfl
set_option maxRecDepth 100000 in
set_option maxHeartbeats 2000000 in
theorem QR (F:Fence)(n:Nat)(h7:F.fn 202)(hro:F.round=none)(hn:1 <=n)(l Bs m:Nat)(kvs:List (Plc×Kpt))(J Jx:List Kpt->World->Prop)
   (hY:∀pre x W,J pre W->pre.length<kvs.length->YieldAt F (n-1) prog l #[x.v] W λe W'=>
     (e=.returned (.bool true)/\J (pre++[x]) W'/\KeepsWalks W W')\/(e=.returned (.bool false)/\Jx (pre++[x]) W'))
   (W:World) (hJ:AbidesFrom W.heap.size J) (hBs:W.cell? ⟨Bs,0,none⟩=some (.map (some m))) (hm:sf Plc.v Kpt.v W m kvs) (h0:J [] W):
   CallsIn F n prog 202 #[.func (.yield l) #[] #[],.pointer (some ⟨Bs,0,none⟩)] W λe W'=>(∃v,e=.returned v)/\
     ((∃xs,xs.Perm (kvs.map (·.2))/\J xs W')\/(∃pre,True/\Jx pre W')):=by
 obtain⟨w0,hr0,hrg0,hb0⟩:=vH (P:=prog) aZ hm
 have hmlt:=hm.lt
 refine callsIn_of_wp func202 rfl h7 ?_ hro
 simp only[Tryz.ntmps202,List.size_toArray,List.length_cons,List.length_nil,Nat.reduceAdd,Nat.reduceSub,Array.replicate_succ,Array.replicate_zero,List.push_toArray,List.append_toArray,List.nil_append,List.cons_append]
 gi_wp2_with (first
   | (refine HB rfl rfl rfl hr0 ?_)
   | gi_in)
 simp only[Act.put,List.setIfInBounds_toArray,List.set_cons_succ,List.set_cons_zero]
 gi_loopw [4] (λ_ wr=>∃(left:List (Plc×Kpt)) (ps:List Kpt),gg Plc.v Kpt.v wr W.heap.size m kvs left/\(ps++left.map (·.2)).Perm (kvs.map (·.2))/\J ps wr)
   (λ_ wr=>LX wr m W.heap.size)
 case atStart=>exact⟨kvs,[],hrg0,List.Perm.refl _,hJ [] W w0 none h0 (uk hb0) (λr e=>by cases e)⟩
 case round=>
   obtain⟨left,ps,hrg,hp,hJs⟩:=hrel
   have hlr:=hrg.lt
   rcases hrg.step (P:=prog) (by omega) 0 with⟨rfl,hrun⟩|⟨l1,k,v,l2,w2,rfl,hrun,hrg2,hent,hg2⟩
   · gi_wp2_with (first
       | (refine AW rfl rfl rfl hrun ?_)
       | gi_in)
     go_end0
     rw[List.map_nil,List.append_nil]at hp
     exact⟨⟨_,rfl⟩,.inl ⟨ps,hp,hJs⟩⟩
   · have hb3:bW w2 (w2.alloc (.cells pI.cells.toArray aC)):=ai w2 _
     obtain⟨w3,hst,ha3,hg3⟩:=gX.store0 (P:=prog) (cs:=v.cells) (Kpt.len v) (Kpt.one v) (ao.new (t:=aC) (vs:=pI.cells) rfl rfl:ao (w2.alloc (.cells pI.cells.toArray aC)) w2.heap.size aC pI.cells) (Kpt.len pI)
     have hb23:=Below.put hb3 hg3 (Nat.le_refl _)
     have hld:(Instr.loadAt aC (.pointer (some ⟨w2.heap.size,0,none⟩))).run prog w3=.ok v.v w3:=gX.load0 ha3 (Kpt.len v)
     have hrg3:=hrg2.below hb23
     have hJ2:J ps w2:=hJ ps wr w2 _ hJs hg2 (λr e=>by cases e;exact⟨Nat.le_refl _,hrg.walk⟩)
     have hJ3:J ps w3:=hJ ps w2 w3 none hJ2 (uk hb23) (λr e=>by cases e)
     have hlen:ps.length<kvs.length:=by
       have:=hp.length_eq
       rw[List.length_append,List.length_map,List.length_map,List.length_append,List.length_cons]at this
       omega
     obtain⟨fn,tmps,assign,body,hy,hR⟩:=hY ps v w3 hJ3 hlen
     have hpp:((ps++[v])++(l1++l2).map (·.2)).Perm (kvs.map (·.2)):=by
       refine List.Perm.trans ?_ hp
       rw[List.append_assoc,List.map_append,List.map_append,List.map_cons]
       exact List.Perm.append_left ps (by simpa using List.perm_middle.symm)
     gi_wp2_with (first
       | (refine AW rfl rfl rfl hrun ?_)
       | (refine Hz rfl rfl rfl hent ?_)
       | (refine yh rfl rfl (D2 _) ?_)
       | (refine qL rfl rfl rfl rfl hst ?_)
       | (refine uu rfl rfl rfl hld ?_)
       | gi_in)
     refine hR.mono ?_
     rintro e W3 (⟨rfl,hJ4,hk4⟩|⟨rfl,hJx4⟩)
     · gi_wp2
       have hrg4:=hrg3.walks hk4
       go_roundw
       case rel=>exact⟨l1++l2,ps++[v],hrg4,hpp,hJ4⟩
       case measure=>rw[hrg4.leftN,hrg.leftN];simp
     · gi_wp2
       refine bodyPost_ret (results_none rfl _ _ _) rfl ?_
       exact⟨⟨_,rfl⟩,.inr ⟨ps++[v],trivial,hJx4⟩⟩
theorem JA (F:Fence)(n:Nat)(h7:F.fn 202)(hro:F.round=none)(hn:1 <=n)(Bs m:Nat)(kvs:List (Plc×Kpt))(w:World)(hBl:Bs<w.heap.size)
   (hBs:w.cell? ⟨Bs,0,none⟩=some (.map (some m))) (hm:sf Plc.v Kpt.v w m kvs):
   SeqStopsK F n prog 202 #[.pointer (some ⟨Bs,0,none⟩)] (λx:Kpt=> #[x.v]) KeepsWalks (λxs=>xs.Perm (kvs.map (·.2))) (λ_=>True) kvs.length w:=λl J Jx W hW hJ _ hY h0=>
 QR F n h7 hro hn l Bs m kvs J Jx hY W hJ ((hW.cell (p:=⟨Bs,0,none⟩) hBl).trans hBs) (hm.below hW) h0
end
theorem Tj {L:List Kpt}{last:Int}(s:ShI L last){i j:Nat}(hi:i<L.length)(hj:j<L.length)(e:L[i].plc=L[j].plc):i=j:=by
 have hpw:=List.pairwise_iff_getElem.1 s.key
 rcases Nat.lt_trichotomy i j with hl|hl|hl
 · exact absurd e (hpw i j hi hj hl)
 · exact hl
 · exact absurd e.symm (hpw j i hj hi hl)
theorem xD {L:List Kpt}{last:Int}(s:ShI L last){i:Nat}(hi:i<L.length){p:Plc}(hp:L[i].plc=p)(f:Kpt->Kpt):(L.map λk=>if k.plc=p then f k else k)=L.set i (f L[i]):=by
 apply List.ext_getElem
 · simp
 · intro j h1 h2
   have hj:j<L.length:=by simpa using h1
   rw[List.getElem_map,List.getElem_set]
   by_cases c:i=j
   · subst c
     rw[if_pos hp,if_pos rfl]
   · rw[if_neg c,if_neg]
     exact λe=>c (Tj s hi hj (hp.trans e.symm))
theorem Ow.ne {α:Type}{T:Ty α}{t t':TypeId}{w:World}{A:Bl}{a:Option Addr}{n c k:Nat}{xs:List α}{vs:List Value}(h:Ow T t w A a n c xs)(ha:ao w k t' vs)(ht:t≠t'):∀g,eJ a=some g->g≠k:=by
 intro g hg e
 subst e
 obtain⟨_,_,_,h4⟩:=h
 rcases h4 with⟨e1,_⟩|⟨g',cur,fr,e',hh,_⟩
 · rw[e1]at hg;cases hg
 · rw[e']at hg
   cases hg
   rw[show w.heap[g']? =_ from ha]at hh
   cases hh
   exact ht rfl
def H9 (rs:List Rul)(h:Hst):List UInt8:=
 if h.kind=1 then(if 1 <=Gt rs (aK h).reverse+1/\Gt rs (aK h).reverse+1 <=(aK h).length then zx (aK h) (Gt rs (aK h).reverse+1)else[])
 else if cC h=true then cD h else[]
def uJ (rs:List Rul)(h:Hst):List UInt8:=if H9 rs h=[]then cD h else H9 rs h
structure JS where
 L:List Kpt
 last:Int
 now:Int
def js0 (now:Int):JS:=⟨[],0,now⟩
def wg (s:JS)(n:Int):JS×Int:=if n<0\/1099511627776-s.now<n then(s,122)else(⟨PG s.L (s.now+n),s.last,s.now+n⟩,0)
def HK (old c:Cky):Bool:=old.sec&&((old.name==c.name)&&((GK old.host c.host || GK c.host old.host)&&C3 c.path old.path))
def Nr (s:List UInt8):Nat->List Kpt->List Kpt
 | 0,L=>L
 | f+1,L=>if 50<j1 L s then(match KS L (λk=>decide (k.site=s))with|some k=>Nr s f (fq L k.plc)|none=>L)else L
def PH:Nat->List Kpt->List Kpt
 | 0,L=>L
 | f+1,L=>if 3000<L.length then(match KS L (λ_=>true)with|some k=>PH f (fq L k.plc)|none=>L)else L
def Uu (s:List UInt8)(L:List Kpt):List Kpt:=PH (Nr s L.length L).length (Nr s L.length L)
def LA (rs:List Rul)(s:JS)(c:Cky)(o:c.ok):JS:=
 ⟨Uu (uJ rs c.host) (PG (zR s.L s.last ⟨c,uJ rs c.host,o⟩).1 s.now),(zR s.L s.last ⟨c,uJ rs c.host,o⟩).2,s.now⟩
noncomputable def EA (rs:List Rul)(s:JS)(u:Url)(ou:u.ok)(t:List UInt8):JS×Int:=
 if fm u=false then(s,41)
 else if(cK t).2≠0 then(s,(cK t).2)
 else if(pz rs u (cK t).1 s.now).2≠0 then(s,(pz rs u (cK t).1 s.now).2)
 else if u.sec=false/\s.L.any (λk=>HK k.c (pz rs u (cK t).1 s.now).1)=true then(s,121)
 else(LA rs s (pz rs u (cK t).1 s.now).1 (Pa ou _ _),0)
def fz (a b:Cky):Bool:=decide (b.path.length<a.path.length) || (decide (a.path.length=b.path.length)&&decide (a.seq<b.seq))
def Qz (c:Kpt):List Kpt->List Kpt
 | []=>[c]
 | x::r=>if fz c.c x.c=true then c::x::r else x::Qz c r
def Fp (L:List Kpt)(r:Req)(now:Int):List Kpt:=(L.filter λk=>iF k.c r now).foldl (λout c=>Qz c out) []
def uH (c:Cky):List UInt8:=if c.name=[]then c.value else c.name++[61]++c.value
def GB (L:List Kpt)(ks:List Kpt)(now:Int):List Kpt:=ks.foldl (λL k=>IC L k.plc now) L
def K1:List (List UInt8)->List UInt8
 | []=>[]
 | [x]=>x
 | x::y::r=>x++[59,32]++K1 (y::r)
def Qs (s:JS)(r:Req):JS×List UInt8:=(⟨GB s.L (Fp s.L r s.now) s.now,s.last,s.now⟩,K1 ((Fp s.L r s.now).map λk=>uH k.c))
theorem Ad {a b c:Cky}(h:fz a b=true)(k:fz b c=true):fz a c=true:=by
 unfold fz at h k ⊢
 simp only[Bool.or_eq_true,Bool.and_eq_true,dTx]at h k ⊢
 omega
theorem IG {a b:Cky}(h:a.seq≠b.seq):fz a b=true\/fz b a=true:=by
 unfold fz
 simp only[Bool.or_eq_true,Bool.and_eq_true,dTx]
 omega
theorem zL (c:Kpt):∀l:List Kpt,(Qz c l).Perm (c::l)
 | []=>List.Perm.refl _
 | x::r=>by
   unfold Qz
   split
   · exact List.Perm.refl _
   · exact((zL c r).cons x).trans (List.Perm.swap c x r)
theorem Ei (c:Kpt):∀l:List Kpt,(l.Pairwise λa b=>fz a.c b.c=true)->(∀x∈l,x.c.seq≠c.c.seq)->((Qz c l).Pairwise λa b=>fz a.c b.c=true)
 | [],_,_=>List.pairwise_singleton _ _
 | x::r,h,hn=>by
   rw[List.pairwise_cons]at h
   unfold Qz
   split
   · rename_i hc
     rw[List.pairwise_cons,List.pairwise_cons]
     refine⟨λy hy=>?_,h⟩
     rcases List.mem_cons.1 hy with rfl|hy
     · exact hc
     · exact Ad hc (h.1 y hy)
   · rename_i hc
     rw[List.pairwise_cons]
     refine⟨λy hy=>?_,Ei c r h.2 λz hz=>hn z (List.mem_cons_of_mem _ hz)⟩
     rcases List.mem_cons.1 ((zL c r).mem_iff.1 hy)with rfl|hy
     · exact(IG (hn x (List.mem_cons_self ..))).resolve_right hc
     · exact h.1 y hy
theorem sB:∀(l out:List Kpt),(l.foldl (λout c=>Qz c out) out).Perm (out++l)
 | [],out=>by rw[List.append_nil];exact List.Perm.refl _
 | c::l,out=>by
   rw[List.foldl_cons]
   refine(sB l _).trans ?_
   refine((zL c out).append_right l).trans ?_
   exact List.perm_middle.symm
theorem pG:∀(l out:List Kpt),((out++l).Pairwise λa b=>a.c.seq≠b.c.seq)->(out.Pairwise λa b=>fz a.c b.c=true)->((l.foldl (λout c=>Qz c out) out).Pairwise λa b=>fz a.c b.c=true)
 | [],out,_,h=>h
 | c::l,out,hn,h=>by
   rw[List.foldl_cons]
   have hp:(out++c::l).Perm (Qz c out++l):=(List.perm_middle.trans (((zL c out).symm).append_right l))
   refine pG l _ ?_ (Ei c out h λx hx=>?_)
   · exact(hp.pairwise_iff fun{a b} hab=>Ne.symm hab).1 hn
   · rw[List.pairwise_append]at hn
     exact hn.2.2 x hx c (List.mem_cons_self ..)
theorem vn (L:List Kpt)(r:Req)(now:Int):(Fp L r now).Perm (L.filter λk=>iF k.c r now):=by
 have:=sB (L.filter λk=>iF k.c r now) []
 rw[List.nil_append]at this
 exact this
theorem Jg {L:List Kpt}{last:Int}(h:ShI L last)(r:Req)(now:Int):(Fp L r now).Pairwise λa b=>fz a.c b.c=true:=by
 refine pG _ [] ?_ List.Pairwise.nil
 rw[List.nil_append]
 exact(h.up.filter _).imp fun{a b} hab=>by omega
theorem ShI.uses {L:List Kpt}{last:Int}(h:ShI L last)(now:Int):∀ks:List Kpt,ShI (GB L ks now) last:=by
 intro ks
 unfold GB
 revert L
 induction ks with
 | nil=>intro L h;exact h
 | cons k ks ih=>intro L h;exact ih (h.use k.plc now)
theorem zH {L:List Kpt}{k:Kpt}(hk:k∈L):(fq L k.plc).length<L.length:=by
 unfold fq
 refine List.length_filter_lt_length_iff_exists.2 ⟨k,hk,by simp⟩
theorem Ol {L:List Kpt}{last:Int}(s:ShI L last){of:Kpt->Bool}{k:Kpt}(h:KS L of=some k):k∈L/\of k=true:=by
 have:=r6 (of:=of) s
 rw[h]at this
 exact⟨this.1,this.2.1⟩
theorem KT {L:List Kpt}{last:Int}(s:ShI L last){of:Kpt->Bool}{x:Kpt}(hx:x∈L)(ho:of x=true):∃k,KS L of=some k:=by
 cases h:KS L of with
 | some k=>exact⟨k,rfl⟩
 | none=>
   have:=r6 (of:=of) s
   rw[h]at this
   have:=this x hx
   rw[ho]at this;cases this
theorem j0.base {w0 w1:World}{t te:TypeId}{kt km:Nat}{a:Option Addr}{n c:Nat}{ps:List Pth}{kvs:List (jq×Int)}{es:List (List Bool)}{rs:List Rul}{w:World}(S:j0 w1 t te kt km a n c ps kvs es rs w)(h:bW w0 w1):j0 w0 t te kt km a n c ps kvs es rs w:=
 ⟨S.h1,S.h2,S.h3,S.T,S.t,aa h S.hb h.size,S.ne,λg hg=>⟨(S.og g hg).1,(S.og g hg).2.1,Nat.le_trans h.size (S.og g hg).2.2⟩,Nat.le_trans h.size S.kt0,Nat.le_trans h.size S.km0⟩
theorem Te:EP CO:=⟨by decide,by decide,by decide,by decide,by decide,by decide⟩
theorem L5 {s:List UInt8}(h:(cK s).2≠0):(cK s).1=CO:=by
 unfold cK at h ⊢
 split
 · rfl
 split
 · rfl
 split
 · rfl
 · rename_i h1 h2 h3
   rw[if_neg h1,if_neg h2,if_neg h3]at h
   exact absurd rfl h
theorem FR (s:List UInt8):EP (cK s).1:=by
 by_cases h:(cK s).2=0
 · exact Tc (L4 (s:=s) (Prod.ext rfl h))
 · rw[L5 h];exact Te
theorem xy (h:Hst):jA h h=true:=by
 have ha:∀l:List UInt8,Ss l l=true:=λl=>by
   induction l with
   | nil=>rfl
   | cons a l ih=>simp[Ss,ih]
 unfold jA;rw[ha];simp
theorem Ic (rs:List Rul)(u:Url)(h:Hdr)(now:Int):((pz rs u h now).2≠0/\(pz rs u h now).1=An)\/
   ((pz rs u h now).2=0/\Mz u h now=0/\Kv u h (qc rs u.host h.domain)=0/\(pz rs u h now).1=U7 u h (qc rs u.host h.domain) now):=by
 unfold pz
 split
 · rename_i h1;exact .inl ⟨h1,rfl⟩
 · rename_i h1
   split
   · rename_i h2;exact .inl ⟨h2,rfl⟩
   · rename_i h2;exact .inr ⟨rfl,by simpa using h1,by simpa using h2,rfl⟩
theorem ND {u:Url}{h:Hdr}{now:Int}(g:Mz u h now=0):fm u=true/\HR h=true/\0 <=now/\now <=1099511627776:=by
 unfold Mz at g
 split at g
 · cases g
 split at g
 · cases g
 split at g
 · cases g
 split at g
 · cases g
 · rename_i h1 h2 h3 h4
   exact⟨by simpa using h1,by simpa using h2,by omega,by omega⟩
theorem Nn {u:Url}{h:Hdr}{d:Hst×Bool×Int}(e:Kv u h d=0):d.2.2=0/\(h.sec && !u.sec)=false/\(decide (h.same=1) && !h.sec)=false/\MP h d.2.1=false:=by
 unfold Kv at e
 split at e
 · exact absurd e (by assumption)
 split at e
 · cases e
 split at e
 · cases e
 split at e
 · cases e
 · rename_i h1 h2 h3 h4
   exact⟨by simpa using h1,by simpa using h2,by simpa using h3,by simpa using h4⟩
theorem J7 {u:Url}(h:fm u=true):cC u.host=true/\gV u.path=true:=by
 unfold fm at h
 simp only[Bool.and_eq_true]at h
 exact⟨h.1,h.2.2.2⟩
theorem Nf {rs:List Rul}{u:Hst}{t:List UInt8}(hu:cC u=true)(e:(qc rs u t).2.2=0):
   ((qc rs u t).2.1=true->jA (qc rs u t).1 u=true)/\(MA rs (qc rs u t).1=true->(qc rs u t).2.1=true)/\GK u (qc rs u t).1=true:=by
 unfold qc at e ⊢
 split
 · refine⟨λ_=>xy u,λ_=>rfl,?_⟩
   unfold GK;rw[hu,xy];rfl
 · rename_i ht
   rw[if_neg ht]at e
   cases hd:bt t with
   | none=>rw[hd]at e;cases e
   | some d=>
     rw[hd]at e
     simp only at e ⊢
     split
     · rename_i h1;rw[if_pos h1]at e;cases e
     · rename_i h1
       rw[if_neg h1]at e
       split
       · rename_i h2;rw[if_pos h2]at e;cases e
       · rename_i h2
         refine⟨λhp=>?_,λhp=>hp,by simpa using h2⟩
         have hp:MA rs d=true:=hp
         rw[hp,Bool.true_and]at h1
         simpa using h1
theorem pw (a:Option Addr)(b:Value){w K}(h:nA w (.cells (Value.cells b) ae) λc d=>∃e:FP [],(∃f:FP [.one .bool],(true/\∃g,Ld bh (vA c 0) d (vI g)/\ab (g !=(1:Int)) (∃i,Ld ae (vA c 0) d i/\uB fA #[i] d λj k=>f j k) (f false d))/\∀g,aJ 6 (∀i,f g i->ab g (∃j,Ld ae (vA c 0) i j/\uS iz #[j] i λk l=>K (vS k) l) (e i)))/\aJ 10 (∀f,e f->∃g,(∀i,bW f i->Ld ae (vA c 0) i g)/\∃i,(∀j,bW f j->Ld ae (vA c 0) j i)/\∃j,(∀k,bW f k->Cf eG #[.pointer a,i] k λl m=>l=.returned (vI j)/\bW k m)/\∃k l,(∀m,bW f m->Cf iy #[g,vI (i64.wrap (j+(1:Int)))] m λn o=>n=rT #[k,.bool l]/\bW m o)/\∀m,f.heap.size <=m->∀n,bW f n->n.heap[m]? =some (.cells bj ae)->∃o,Sv ae (vA m 0) k n o/\true/\∃p,Ld ah (vA m 1) o (vS p)/\K (vS p) o)):Cf iC #[.pointer a,b] w (Ret K):=ru func127 [(2,[]),(3,[(13,.one .bool)]),(3000011,[(1,.one .bool),(0,.one .bool),(2,.one .bool),(3,.one .bool),(4,.one .bool),(5,.one .bool),(6,.one .bool),(7,.one .bool),(8,.one .bool),(9,.one .bool)])] h
theorem Q0 (p o:List UInt8):C3 p o=(Lib.hasPrefix p o&&((p.drop o.length==[]) || (decide ((p.drop o.length).head?=some 47) || decide (o.getLast?=some 47)))):=by
 have e1:Lib.hasPrefix p o=(decide (o.length <=p.length)&&(p.take o.length==o)):=(Lib.hasPrefix_of_take p o).symm
 unfold C3
 rw[e1,List.head?_drop]
 by_cases h:p.take o.length=o
 · have hl:o.length <=p.length:=by
     have:=congrArg List.length h
     rw[List.length_take]at this;omega
   by_cases h2:o.length<p.length
   · have h3:p≠o:=λe=>by rw[e]at h2;omega
     have h4:p.drop o.length≠[]:=λe=>by have:=congrArg List.length e;rw[List.length_drop,List.length_nil]at this;omega
     rw[beq_eq_false_iff_ne.2 h3,decide_eq_true h2,h,beq_self_eq_true,decide_eq_true hl,beq_eq_false_iff_ne.2 h4]
     simp only[Bool.false_or,Bool.true_and]
   · have h5:p.length=o.length:=by omega
     have h3:p=o:=by rw[<- h,<- h5,List.take_length]
     have h4:p.drop o.length=[]:=List.drop_eq_nil_of_le (by omega)
     simp[h3]
 · have h3:p≠o:=λe=>h (by rw[e,List.take_length])
   rw[beq_eq_false_iff_ne.2 h3,beq_eq_false_iff_ne.2 h]
   simp only[Bool.false_or,Bool.false_and,Bool.and_false]
theorem TI (s p:List UInt8)(hs:s.length <=9223372036854775807)(w:World):Cf lG #[vS s,vS p] w (Ret λv w'=>v=.bool (Lib.hasSuffix s p)/\w'=w):=
 (Tryz.strings_HasSuffix (mkS s) (mkS p) w hs).mono λe w' ⟨h1,h2⟩=>⟨_,h1,rfl,h2⟩
theorem vy (p o:List UInt8)(ho:o.length <=9223372036854775807)(w:World):Cf iJ #[vS p,vS o] w (Ret λv w'=>v=.bool (C3 p o)/\w'=w):=by
 apply Ds
 refine aw (IY p o w) ?_
 rintro _ w1 ⟨rfl,hw⟩
 rw[hw]
 refine⟨_,_,rfl,?_⟩
 rw[Q0]
 refine ab.of (λh=>?_) (λh=>⟨by rw[h];rfl,rfl⟩)
 have e:Lib.trimPrefix p o=p.drop o.length:=if_pos h
 rw[h,e,Bool.true_and]
 refine ab.of (λh2=>⟨by rw[h2];rfl,rfl⟩) (λh2=>?_)
 rw[h2,Bool.false_or]
 generalize p.drop o.length=q at*
 cases q with
 | nil=>cases h2
 | cons x q=>
   refine⟨⟨by decide,by simp⟩,?_⟩
   have hu:=my x 47
   rw[show(((47:UInt8).toNat:Nat):Int)=47 from rfl]at hu
   rw[show bf (x::q) (0:Int)=((x.toNat:Nat):Int) from rfl,hu]
   refine ab.of (λc=>⟨?_,rfl⟩) (λc=>?_)
   · rw[eq_of_beq c];rfl
   · refine aw (TI o [47] ho w) ?_
     rintro _ w2 ⟨rfl,hw2⟩
     rw[hw2,(zT o 47).1]
     refine⟨_,rfl,?_,rfl⟩
     have:x≠47:=λe=>by rw[e]at c;cases c
     simp[this]
theorem yW (n k:Int)(w:World):Cf gz #[vI n,vI k] w (Ret λv w'=>v=.bool (xZ n k)/\w'=w):=by
 apply xL
 unfold xZ
 refine ab.of (λh=>?_) (λh=>?_)
 · have h:=eq_of_beq h
   subst h
   exact⟨rfl,rfl⟩
 · have h0:k≠0:=by simpa using h
   refine ab.of (λh2=>?_) (λh2=>?_)
   · have h2:=eq_of_beq h2
     subst h2
     exact⟨rfl,rfl⟩
   · have h1:k≠1:=by simpa using h2
     rw[if_neg h1]
     refine ab.of (λh3=>?_) (λh3=>?_)
     · have h3:=eq_of_beq h3
       subst h3
       exact⟨rfl,rfl⟩
     · have h2:k≠2:=by simpa using h3
       rw[if_neg h2,h]
       exact⟨rfl,rfl⟩
def atV (c:Cky)(h:Hst):Bool:=if c.only=true then jA c.host h&&cC h else GK h c.host
theorem Jw {c:Cky}{h:Hst}(oc:c.ok)(oh:h.ok)(cn:c.host.name.length <=1000000000)(hn:h.name.length <=1000000000)(w:World)(he:Env w):
   Cf nE #[c.v,h.v] w (Ret λv w'=>v=.bool (atV c h)/\bW w w'):=by
 apply HZ
 intro k2 w2 hk2 hw2 k3 w3 hk3 hw3
 have hB2:=(hw2▸ai w _:bW w w2)
 have hb3:=(hw3▸ai w2 _:bW w2 w3)
 have hB3:=aa hB2 hb3 hB2.size
 have a2:ao w3 k2 af c.cells:=(ao.new hk2 hw2:ao w2 k2 af c.cells).below hb3
 have a3:ao w3 k3 ae h.cells:=ao.new hk3 hw3
 have lc:=aP.load a2 (i:=2) (us:=c.host.cells) (Hst.len oc) (λj hj=>uZ oc hj)
 have lh:=aP.load0 a3 (Hst.len oh)
 unfold atV
 refine⟨rfl,_,a2.load1 ci rfl (i:=20) (cq oc 0),ab.of (λe=>?_) (λe=>?_)⟩
 · rw[if_pos e]
   refine⟨rfl,_,lc,_,lh,_,Hr oc oh w3,ab.of (λe2=>?_) (λe2=>⟨by rw[e2];rfl,hB3⟩)⟩
   refine⟨_,lh,?_⟩
   refine aw (gG oh hn w3 (he.step hB3)) ?_
   rintro _ w4 ⟨rfl,hb4⟩
   exact⟨_,rfl,by rw[e2];rfl,aa hB3 hb4 hB3.size⟩
 · rw[if_neg (by rw[e];decide)]
   refine⟨_,lh,rfl,_,lc,?_⟩
   refine aw (jg oh oc hn cn w3 (he.step hB3)) ?_
   rintro _ w4 ⟨rfl,hb4⟩
   exact⟨_,rfl,rfl,aa hB3 hb4 hB3.size⟩
theorem TA {c:Cky}{r:Req}(oc:c.ok)(or:r.ok)(now:Int):iF c r now=(decide (now<c.exp)&&((r.sec || !c.sec)&&(xZ c.same r.cross&&(C3 r.path c.path&&atV c r.host)))):=by
 have e1:(!(decide (now >=c.exp)))=decide (now<c.exp):=by
   rw[Bool.eq_iff_iff];simp
 have e2:(!(c.only && !jA c.host r.host)&&GK r.host c.host)=atV c r.host:=by
   unfold atV
   cases ho:c.only with
   | false=>simp
   | true=>
     cases he:jA c.host r.host with
     | false=>simp
     | true=>
       have:=(je oc or).1 he
       unfold GK
       rw[this,xy]
       cases cC r.host <;> simp
 unfold iF
 rw[e1,<- e2]
 cases c.only <;> cases jA c.host r.host <;> cases GK r.host c.host <;> cases C3 r.path c.path <;> cases c.sec <;> cases r.sec <;> cases decide (now<c.exp) <;> cases xZ c.same r.cross <;> rfl
theorem CX {c:Cky}{r:Req}(oc:c.ok)(or:r.ok)(cn:c.host.name.length <=1000000000)(rn:r.host.name.length <=1000000000)(cp:c.path.length <=9223372036854775807)(now:Int)(w:World)(he:Env w):
   Cf oK #[c.v,r.v,vI now] w (Ret λv w'=>v=.bool (iF c r now)/\bW w w'):=by
 apply Br
 intro k3 w3 hk3 hw3 k4 w4 hk4 hw4
 have hB3:=(hw3▸ai w _:bW w w3)
 have hb4:=(hw4▸ai w3 _:bW w3 w4)
 have hB4:=aa hB3 hb4 hB3.size
 have a3:ao w4 k3 af c.cells:=(ao.new hk3 hw3:ao w3 k3 af c.cells).below hb4
 have a4:ao w4 k4 aN r.cells:=ao.new hk4 hw4
 rw[TA oc or]
 have tail:∀{K:Value->World->Prop},(∀wy,bW w wy->K (.bool (xZ c.same r.cross&&(C3 r.path c.path&&atV c r.host))) wy)->
     (true=true)/\∃(n22:Int),(Instr.loadAt bh (.pointer (some ⟨k3,24,none⟩))).run prog w4=.ok (vI n22) w4/\(true=true)/\
     ∃(n24:Int),(Instr.loadAt bh (.pointer (some ⟨k4,20,none⟩))).run prog w4=.ok (vI n24) w4/\
     Cf gz #[vI n22,vI n24] w4 λe25 w25=>∃(b25:Bool),e25=.returned (.bool b25)/\
     ab b25
     ((true=true)/\∃(s29:List UInt8),(Instr.loadAt ah (.pointer (some ⟨k4,19,none⟩))).run prog w25=.ok (vS s29) w25/\(true=true)/\
     ∃(s31:List UInt8),(Instr.loadAt ah (.pointer (some ⟨k3,21,none⟩))).run prog w25=.ok (vS s31) w25/\
     Cf iJ #[vS s29,vS s31] w25 λe32 w32=>∃(b32:Bool),e32=.returned (.bool b32)/\
     ab b32
     (∃(v35:Value),(Instr.loadAt af (.pointer (some ⟨k3,0,none⟩))).run prog w32=.ok v35 w32/\(true=true)/\
     ∃(v37:Value),(Instr.loadAt ae (.pointer (some ⟨k4,1,none⟩))).run prog w32=.ok v37 w32/\
     Cf nE #[v35,v37] w32 λe38 w38=>∃(b38:Bool),e38=.returned (.bool b38)/\K (.bool b38) w38)
     (K (.bool false) w32))
     (K (.bool false) w25):=fun{K} H=>by
   refine⟨rfl,_,a3.load1 bG rfl (i:=24) (cq oc 4),rfl,_,a4.load1 bG rfl (i:=20) (jj or 1),?_⟩
   refine aw (yW _ _ w4) ?_
   rintro _ w5 ⟨rfl,hw5⟩
   rw[hw5]
   refine⟨_,rfl,ab.of (λe=>?_) (λe=>by rw[e]at H;exact H w4 hB4)⟩
   rw[e,Bool.true_and]at H
   refine⟨rfl,_,a4.load1 av rfl (i:=19) (jj or 0),rfl,_,a3.load1 av rfl (i:=21) (cq oc 1),?_⟩
   refine aw (vy _ _ cp w4) ?_
   rintro _ w6 ⟨rfl,hw6⟩
   rw[hw6]
   refine⟨_,rfl,ab.of (λe=>?_) (λe=>by rw[e]at H;exact H w4 hB4)⟩
   rw[e,Bool.true_and]at H
   refine⟨_,be.load0 a3 (Cky.len oc),rfl,_,aP.load a4 (i:=1) (us:=r.host.cells) (Hst.len or) (λj hj=>vM or hj),?_⟩
   refine aw (Jw oc or cn rn w4 (he.step hB4)) ?_
   rintro _ w7 ⟨rfl,hb7⟩
   exact⟨_,rfl,H w7 (aa hB4 hb7 hB4.size)⟩
 refine⟨rfl,_,a3.load1 bP rfl (i:=25) (cq oc 5),ab.of (λe=>?_) (λe=>⟨by rw[e];rfl,hB4⟩)⟩
 rw[e,Bool.true_and]
 refine⟨rfl,_,a4.load1 ci rfl (i:=0) rfl,ab.of (λe2=>?_) (λe2=>?_)⟩
 · rw[e2,Bool.true_or,Bool.true_and]
   exact tail (K:=λv wy=>v=.bool (xZ c.same r.cross&&(C3 r.path c.path&&atV c r.host))/\bW w wy) λwy hb=>⟨rfl,hb⟩
 · rw[e2,Bool.false_or]
   refine⟨rfl,_,a3.load1 ci rfl (i:=22) (cq oc 2),ab.of (λe3=>?_) (λe3=>⟨by rw[e3];rfl,hB4⟩)⟩
   rw[e3,Bool.true_and]
   exact tail (K:=λv wy=>v=.bool (xZ c.same r.cross&&(C3 r.path c.path&&atV c r.host))/\bW w wy) λwy hb=>⟨rfl,hb⟩
theorem CW {c d:Cky}(oc:c.ok)(od:d.ok)(w:World):Cf oJ #[c.v,d.v] w (Ret λv w'=>v=.bool (fz c d)/\w'=(w.alloc (.cells c.cells.toArray af)).alloc (.cells d.cells.toArray af)):=by
 apply Bp
 intro k2 w2 hk2 hw2 k3 w3 hk3 hw3
 have hb3:=(hw3▸ai w2 _:bW w2 w3)
 have a2:ao w3 k2 af c.cells:=(ao.new hk2 hw2:ao w2 k2 af c.cells).below hb3
 have a3:ao w3 k3 af d.cells:=ao.new hk3 hw3
 have hw:w3=(w.alloc (.cells c.cells.toArray af)).alloc (.cells d.cells.toArray af):=by rw[hw3,hw2];rfl
 unfold fz
 refine⟨rfl,_,a2.load1 av rfl (i:=21) (cq oc 1),rfl,_,a3.load1 av rfl (i:=21) (cq od 1),ab.of (λe=>?_) (λe=>?_)⟩
 · have e:c.path.length≠d.path.length:=λx=>by rw[x]at e;simp at e
   refine⟨rfl,_,a2.load1 av rfl (i:=21) (cq oc 1),rfl,_,a3.load1 av rfl (i:=21) (cq od 1),?_,hw⟩
   rw[decide_eq_false (p:=c.path.length=d.path.length) e,Bool.false_and,Bool.or_false]
   congr 1
   rw[Bool.eq_iff_iff,dTx,dTx];omega
 · have e:c.path.length=d.path.length:=by
     have e2:((c.path.length:Nat):Int)=((d.path.length:Nat):Int):=by simpa using e
     omega
   refine⟨rfl,_,a2.load1 bG rfl (i:=28) (cq oc 8),rfl,_,a3.load1 bG rfl (i:=28) (cq od 8),?_,hw⟩
   rw[decide_eq_true (p:=c.path.length=d.path.length) e,Bool.true_and,decide_eq_false (p:=d.path.length<c.path.length) (by omega),Bool.false_or]
def JW (L:List (List UInt8))(n:Nat):Hst:=if 1 <=n/\n <=L.length then⟨1,zx L n,ad0⟩ else gJ
theorem Rf (L:List (List UInt8))(n:Nat):O8 L n=.tuple #[(JW L n).v,.bool (decide (1 <=n/\n <=L.length))]:=by
 unfold O8 JW
 split
 · rename_i h;rw[decide_eq_true h]
 · rename_i h;rw[decide_eq_false h]
theorem Re (L:List (List UInt8))(n:Nat):(JW L n).ok:=by
 unfold JW;split <;> rfl
theorem Js {h:Hst}(hk:h.kind≠1):aK h=[]:=by
 unfold aK;rw[if_neg λc=>hk c.1]
theorem OX (rs:List Rul)(h:Hst):H9 rs h=if h.kind≠1/\cC h=true then cD h else(JW (aK h) (Gt rs (aK h).reverse+1)).name:=by
 unfold H9 JW
 by_cases hk:h.kind=1
 · rw[if_pos hk,if_neg (c:=h.kind≠1/\cC h=true) (λc=>c.1 hk)]
   split <;> rfl
 · rw[if_neg hk,Js hk]
   by_cases hr:cC h=true
   · rw[if_pos hr,if_pos ⟨hk,hr⟩]
   · rw[if_neg hr,if_neg (λc=>hr c.2),if_neg (λc=>by have:=c.2;simp at this)]
     rfl
theorem TH (rs:List Rul)(h:Hst):Gt rs (aK h).reverse <=(aK h).length+1:=by
 have hM:∀(rs:List Rul) (m:Nat),m <=(aK h).reverse.length+1->rs.foldl (Mk (aK h).reverse) m <=(aK h).reverse.length+1:=by
   intro rs
   induction rs with
   | nil=>intro m hm;exact hm
   | cons r rs ih=>
     intro m hm
     refine ih _ ?_
     unfold Mk
     split
     · rename_i h1
       have:=zU h1
       split
       · omega
       · split <;> omega
     · exact hm
 have hE:∀(rs:List Rul) (m:Nat),m <=(aK h).reverse.length+1->rs.foldl (Mj (aK h).reverse) m <=(aK h).reverse.length+1:=by
   intro rs
   induction rs with
   | nil=>intro m hm;exact hm
   | cons r rs ih=>
     intro m hm
     refine ih _ ?_
     unfold Mj
     split
     · rename_i h1
       have:=zU h1.1
       omega
     · exact hm
 have h1:=hM rs 1 (by omega)
 have h2:=hE rs 0 (by omega)
 rw[List.length_reverse]at h1 h2
 unfold Gt
 split
 · omega
 · split
   · exact h2
   · exact h1
theorem DS {w0:World}(he:Env w0){kt km:Nat}{a:Option Addr}{n c:Nat}{ps:List Pth}{kvs:List (jq×Int)}{es:List (List Bool)}{rs:List Rul}{w:World}(S:j0 w0 aV bi kt km a n c ps kvs es rs w){h:Hst}(o:h.ok)(hn:h.name.length <=1000000000):
   Cf iC #[.pointer (some ⟨kt,0,none⟩),h.v] w (Ret λv w'=>v=vS (H9 rs h)/\bW w w'):=by
 apply pw
 intro k3 w3 hk3 hw3
 have hB3:=(hw3▸ai w _:bW w w3)
 have a3:ao w3 k3 ae h.cells:=ao.new hk3 hw3
 have S3:=S.below hB3
 have hl:=lP h
 have hsl:=TH rs h
 rw[OX]
 refine⟨λwj=> ¬ (h.kind≠1/\cC h=true)/\bW w3 wj,⟨λb wj=>b=(decide (h.kind≠1)&&cC h)/\bW w3 wj,?_,λb=>aJ.of ?_ _⟩,aJ.of ?_ _⟩
 · refine⟨rfl,_,a3.load1 bG rfl (i:=0) rfl,ab.of (λe=>?_) (λe=>⟨?_,Below.refl _ _⟩)⟩
   · refine⟨_,aP.load0 a3 (Hst.len o),?_⟩
     refine aw (gG o hn w3 (he.step S3.hb)) ?_
     rintro _ w4 ⟨rfl,hb4⟩
     have e:h.kind≠1:=by simpa using e
     exact⟨_,rfl,by rw[decide_eq_true e,Bool.true_and],hb4⟩
   · have e:h.kind=1:=by simpa using e
     rw[decide_eq_false (λc=>c e),Bool.false_and]
 · rintro wj ⟨rfl,hbj⟩
   refine ab.of (λe=>?_) (λe=>⟨λc=>?_,hbj⟩)
   · simp only[Bool.and_eq_true,dTx]at e
     refine⟨_,aP.load0 (a3.below hbj) (Hst.len o),?_⟩
     refine aw (jS o wj (he.step (S3.below hbj).hb)) ?_
     rintro _ w4 ⟨rfl,hb4⟩
     rw[if_pos e]
     exact⟨_,rfl,rfl,aa hB3 (aa hbj hb4 hbj.size) hB3.size⟩
   · rw[decide_eq_true c.1,c.2]at e;cases e
 · rintro wj ⟨hno,hbj⟩
   rw[if_neg hno]
   have hBj:=aa hB3 hbj hB3.size
   have aj:=a3.below hbj
   have Sj:=S3.below hbj
   refine⟨_,λu hu=>aP.load0 (aj.below hu) (Hst.len o),_,λu hu=>aP.load0 (aj.below hu) (Hst.len o),_,λu hu=>HP (pN he (Sj.below hu) o hn),?_⟩
   have ew:i64.wrap (((Gt rs (aK h).reverse:Nat):Int)+1)=((Gt rs (aK h).reverse+1:Nat):Int):=by rw[wrap_i64 (by omega) (by omega)];omega
   try dsimp only
   rw[ew]
   refine⟨_,_,λu hu=>by
     have:=HP (v:=.tuple #[(JW (aK h) (Gt rs (aK h).reverse+1)).v,.bool (decide (1 <=Gt rs (aK h).reverse+1/\Gt rs (aK h).reverse+1 <=(aK h).length))]) (by rw[<- Rf];exact ye o hn (Gt rs (aK h).reverse+1) (by omega) u (he.step (Sj.below hu).hb))
     exact this,?_⟩
   intro k5 hk5 wq hq hz
   have a5:ao wq k5 ae gJ.cells:=hz
   obtain⟨wx,hst,a5x,hg⟩:=aP.store0 (P:=prog) (Hst.len (Re (aK h) (Gt rs (aK h).reverse+1))) (Hst.one _) a5 rfl
   refine⟨wx,hst,rfl,_,a5x.load1 av rfl (i:=1) rfl,rfl,Below.put (aa hBj hq hBj.size) hg (Nat.le_trans hBj.size hk5)⟩
theorem Qg (s:List UInt8):(Qf s).length <=s.length+1:=by
 unfold Qf
 split
 · simp
 · rw[List.length_take];omega
noncomputable def doV (rs:List Rul)(s:JS)(o:OpR)(ok:o.ok):JS:=
 if o.kind=1 then(EA rs s o.url ok.uo o.text).1 else if o.kind=2 then(Qs s o.req).1 else if o.kind=3 then(wg s o.n).1 else if o.kind=4 then js0 s.now else s
def Part (L' L:List Kpt):Prop:=∃p:Kpt->Bool,L'=L.filter p
theorem Part.refl (L:List Kpt):Part L L:=⟨λ_=>true,(List.filter_eq_self.2 λ_ _=>rfl).symm⟩
theorem Part.trans {A B C:List Kpt}(h:Part A B)(k:Part B C):Part A C:=by
 obtain⟨p,rfl⟩:=h
 obtain⟨q,rfl⟩:=k
 exact⟨λx=>p x&&q x,by rw[List.filter_filter]⟩
theorem Part.drop (L:List Kpt)(p:Plc):Part (fq L p) L:=⟨_,rfl⟩
theorem Part.mem {A B:List Kpt}(h:Part A B){k:Kpt}(hk:k∈A):k∈B:=by
 obtain⟨p,rfl⟩:=h
 exact(List.mem_filter.1 hk).1
theorem Part.len {A B:List Kpt}(h:Part A B):A.length <=B.length:=by
 obtain⟨p,rfl⟩:=h
 exact List.length_filter_le ..
theorem Part.inv {A B:List Kpt}{last:Int}(h:Part A B)(s:ShI B last):ShI A last:=by
 obtain⟨p,rfl⟩:=h
 exact s.filter p
theorem Hk (s:List UInt8):∀(f:Nat) (L:List Kpt),Part (Nr s f L) L
 | 0,L=>Part.refl L
 | f+1,L=>by
   unfold Nr
   split
   · split
     · exact(Hk s f _).trans (Part.drop _ _)
     · exact Part.refl L
   · exact Part.refl L
theorem Hl:∀(f:Nat) (L:List Kpt),Part (PH f L) L
 | 0,L=>Part.refl L
 | f+1,L=>by
   unfold PH
   split
   · split
     · exact(Hl f _).trans (Part.drop _ _)
     · exact Part.refl L
   · exact Part.refl L
theorem Hm (s:List UInt8)(L:List Kpt):Part (Uu s L) L:=(Hl _ _).trans (Hk _ _ _)
structure T8 (c:Cky):Prop where
 nm:c.name.length <=1100000
 vl:c.value.length <=1100000
 pt:c.path.length <=1100000
structure JI (s:JS)(m:Nat):Prop where
 sh:ShI s.L s.last
 n0:0 <=s.now
 n1:s.now <=1099511627776
 few:s.L.length <=m
 last:s.last <=m
 live:∀k∈s.L,s.now<k.c.exp/\k.c.born <=s.now/\k.c.used <=s.now
 right:∀k∈s.L,cC k.c.host=true
 sm:∀k∈s.L,T8 k.c
theorem JI.new {now:Int}(h0:0 <=now)(h1:now <=1099511627776)(m:Nat):JI (js0 now) m:=
 ⟨ShI.nil,h0,h1,Nat.zero_le _,by show(0:Int) <=m;omega,(λk hk=>by cases hk),(λk hk=>by cases hk),λk hk=>by cases hk⟩
theorem JI.mono {s:JS}{m m':Nat}(h:JI s m)(hm:m <=m'):JI s m':=⟨h.sh,h.n0,h.n1,Nat.le_trans h.few hm,by have:=h.last;omega,h.live,h.right,h.sm⟩
theorem JI.tick {s:JS}{m:Nat}(h:JI s m)(n:Int):JI (wg s n).1 m:=by
 unfold wg
 split
 · exact h
 · rename_i hn
   have h0:=h.n0
   have hp:Part (PG s.L (s.now+n)) s.L:=⟨_,rfl⟩
   refine⟨hp.inv h.sh,by show 0 <=s.now+n;omega,by show s.now+n <=_;omega,Nat.le_trans hp.len h.few,h.last,λk hk=>?_,λk hk=>h.right k (hp.mem hk),λk hk=>h.sm k (hp.mem hk)⟩
   have hk2:=List.mem_filter.1 hk
   have:=h.live k hk2.1
   refine⟨by simpa using hk2.2,?_,?_⟩
   · show _ <=s.now+n;omega
   · show _ <=s.now+n;omega
theorem Ka {L:List Kpt}{p:Plc}{now:Int}{k:Kpt}(h:k∈IC L p now):∃x∈L,k=x\/k=⟨{ x.c with used:=now },x.site,x.ok⟩:=by
 unfold IC at h
 obtain⟨x,hx,rfl⟩:=List.mem_map.1 h
 refine⟨x,hx,?_⟩
 split
 · exact .inr rfl
 · exact .inl rfl
theorem JI.uses {s:JS}{m:Nat}(h:JI s m):∀ks:List Kpt,JI ⟨GB s.L ks s.now,s.last,s.now⟩ m:=by
 intro ks
 have:∀(ks:List Kpt) (L:List Kpt),JI ⟨L,s.last,s.now⟩ m->JI ⟨GB L ks s.now,s.last,s.now⟩ m:=by
   intro ks
   induction ks with
   | nil=>intro L h;exact h
   | cons k ks ih=>
     intro L h
     refine ih (IC L k.plc s.now) ⟨h.sh.use _ _,h.n0,h.n1,?_,h.last,λx hx=>?_,λx hx=>?_,λx hx=>?_⟩
     · show(IC L k.plc s.now).length <=m
       unfold IC;rw[List.length_map];exact h.few
     · obtain⟨y,hy,rfl|rfl⟩:=Ka hx
       · exact h.live _ hy
       · have:=h.live y hy
         exact⟨this.1,this.2.1,Int.le_refl _⟩
     · obtain⟨y,hy,rfl|rfl⟩:=Ka hx
       · exact h.right _ hy
       · exact h.right y hy
     · obtain⟨y,hy,rfl|rfl⟩:=Ka hx
       · exact h.sm _ hy
       · exact⟨(h.sm y hy).nm,(h.sm y hy).vl,(h.sm y hy).pt⟩
 exact this ks s.L h
theorem JI.get {s:JS}{m:Nat}(h:JI s m)(r:Req):JI (Qs s r).1 m:=h.uses _
theorem K8 {rs:List Rul}{u:Url}{h:Hdr}{now:Int}(e:(pz rs u h now).2=0):cC (pz rs u h now).1.host=true/\(pz rs u h now).1.born=now/\(pz rs u h now).1.used=now:=by
 rcases Ic rs u h now with h1|⟨-,g,e2,hc⟩
 · exact absurd e h1.1
 · obtain⟨hu,-,-,-⟩:=ND g
   have hd:=Nf (J7 hu).1 (Nn e2).1
   rw[hc]
   refine⟨?_,rfl,rfl⟩
   show cC (qc rs u.host h.domain).1=true
   have h3:=hd.2.2
   unfold GK at h3
   simp only[Bool.and_eq_true]at h3
   exact h3.2.1
theorem OJ (L:List Kpt)(last:Int)(c:Kpt):(zR L last c).1.length <=L.length+1/\(zR L last c).2 <=last+1:=by
 unfold zR
 split
 · rw[List.length_map];exact⟨by omega,by show last <=last+1;omega⟩
 · rw[List.length_append];exact⟨by simp,Int.le_refl _⟩
theorem JG {L:List Kpt}{last:Int}{c k:Kpt}(h:k∈(zR L last c).1):k∈L\/(∃o∈L,k=⟨{ c.c with born:=o.c.born,seq:=o.c.seq },c.site,c.ok⟩)\/k=⟨{ c.c with seq:=last+1 },c.site,c.ok⟩:=by
 unfold zR at h
 split at h
 · rename_i o ho
   obtain⟨x,hx,rfl⟩:=List.mem_map.1 h
   split
   · exact .inr (.inl ⟨o,(mz ho).1,rfl⟩)
   · exact .inl hx
 · rcases List.mem_append.1 h with h|h
   · exact .inl h
   · exact .inr (.inr (List.mem_singleton.1 h))
theorem JI.come {rs:List Rul}{s:JS}{m:Nat}(h:JI s m){c:Cky}(o:c.ok)(hr:cC c.host=true)(hb:c.born=s.now)(hu:c.used=s.now)(hsm:T8 c):JI (LA rs s c o) (m+1):=by
 unfold LA
 have hp:Part (Uu (uJ rs c.host) (PG (zR s.L s.last ⟨c,uJ rs c.host,o⟩).1 s.now)) (zR s.L s.last ⟨c,uJ rs c.host,o⟩).1:=(Hm _ _).trans ⟨_,rfl⟩
 have hl:=OJ s.L s.last ⟨c,uJ rs c.host,o⟩
 have hf:=h.few
 have hla:=h.last
 refine⟨hp.inv (h.sh.put _),h.n0,h.n1,Nat.le_trans hp.len (by omega),?_,λk hk=>?_,λk hk=>?_,λk hk=>?_⟩
 · show(zR s.L s.last ⟨c,uJ rs c.host,o⟩).2 <=((m+1:Nat):Int)
   omega
 · have h1:=(List.mem_filter.1 ((Hm _ _).mem hk)).2
   refine⟨by simpa using h1,?_⟩
   rcases JG (hp.mem hk)with h2|⟨y,hy,rfl⟩|rfl
   · exact(h.live k h2).2
   · exact⟨(h.live y hy).2.1,by show c.used <=s.now;omega⟩
   · exact⟨by show c.born <=s.now;omega,by show c.used <=s.now;omega⟩
 · rcases JG (hp.mem hk)with h2|⟨y,hy,rfl⟩|rfl
   · exact h.right k h2
   · exact hr
   · exact hr
 · rcases JG (hp.mem hk)with h2|⟨y,hy,rfl⟩|rfl
   · exact h.sm k h2
   · exact⟨hsm.nm,hsm.vl,hsm.pt⟩
   · exact⟨hsm.nm,hsm.vl,hsm.pt⟩
theorem Sb {rs:List Rul}{u:Url}{h:Hdr}{now:Int}(hu:u.path.length <=1000000)(hh:EP h)(e:(pz rs u h now).2=0):T8 (pz rs u h now).1:=by
 rcases Ic rs u h now with h1|⟨-,g,e2,hc⟩
 · exact absurd e h1.1
 · rw[hc]
   have h1:=hh.name
   have h2:=hh.value
   have h3:=hh.path
   have h4:=Qg u.path
   refine⟨by show h.name.length <=_;omega,by show h.value.length <=_;omega,?_⟩
   show(if h.path=[]then Qf u.path else h.path).length <=_
   split <;> omega
theorem JI.set {rs:List Rul}{s:JS}{m:Nat}(h:JI s m)(u:Url)(ou:u.ok)(t:List UInt8)(hup:u.path.length <=1000000):JI (EA rs s u ou t).1 (m+1):=by
 have hm:=h.mono (Nat.le_succ m)
 unfold EA
 split
 · exact hm
 split
 · exact hm
 split
 · exact hm
 split
 · exact hm
 rename_i h1 h2 h3 h4
 have e:(pz rs u (cK t).1 s.now).2=0:=by omega
 obtain⟨a,b,c⟩:=K8 e
 exact h.come _ a b c (Sb hup (FR t) e)
theorem JI.do {rs:List Rul}{s:JS}{m:Nat}(h:JI s m)(o:OpR)(ok:o.ok):JI (doV rs s o ok) (m+1):=by
 have hm:=h.mono (Nat.le_succ m)
 unfold doV
 split
 · exact h.set _ _ _ ok.up
 split
 · exact hm.get _
 split
 · exact hm.tick _
 split
 · exact JI.new h.n0 h.n1 _
 · exact hm
theorem uD {h:Hst}(o:h.ok)(r:cC h=true):h.name.length <=1000000:=by
 by_cases hk:h.kind=1
 · have:=(Me o hk r).2.2.2.1
   omega
 · unfold cC at r
   cases hv:bt (cD h)with
   | none=>rw[hv]at r;cases r
   | some g=>
     rw[hv]at r
     have e:=(je (fM hv) o).1 r
     subst e
     unfold bt at hv
     split at hv
     · split at hv
       · obtain⟨a,_,rfl⟩:=Option.map_eq_some_iff.1 hv
         exact Nat.zero_le _
       · cases hv
     split at hv
     · obtain⟨a,_,rfl⟩:=Option.map_eq_some_iff.1 hv
       exact Nat.zero_le _
     split at hv
     · exact absurd (by have:=Option.some.inj hv;rw[<- this]) hk
     · cases hv
theorem Ra {c:Cky}(s:T8 c):(uH c).length <=2300000:=by
 have:=s.nm
 have:=s.vl
 unfold uH
 split
 · omega
 · simp;omega
theorem Sl.wr {α:Type}{T:Ty α}{w w':World}{A:Bl}{a:Option Addr}{n c k:Nat}{xs:List α}(h:Sl T w A a n c xs)(hg:w.grownBy w' (some k))(hk: ¬ A k):Sl T w' A a n c xs:=
 h.keep (dX hg λb hb e=>by cases e;exact hk hb)
section
variable {F:Fence} {n:Nat} {P:Program} {ops:Array Oper} {Q:Exit->Act->World->Prop} {a:Act} {w:World} {rest:List Oper} {o:Oper}
theorem FI (hg:o.guard=none){t:TypeId}{x:Operand}(hop:o.op=.buildSlice t 1 #[(0,x)]){u:Value}(hx:a.eval x=u){v:Value}{w':World}(hrun:(Instr.buildSlice t 1 #[(0,u)]).run P w=.ok v w')(hK:wpListIn F n P ops Q rest (a.put o.dst v) w'):wpListIn F n P ops Q (o::rest) a w:=
 iP hg (by rw[hop];intro c hc;cases hc) (by simp[Oper.about,hop]) (by simp[execOp,hop,hx,hrun,Result.andThen]) hK
theorem FH (hg:o.guard=none){t:TypeId}{x y:Operand}(hop:o.op=.call { callee:=.builtin .append,args:= #[x,y],argTypes:= #[t,t] }){p q:Value}(hx:a.eval x=p)(hy:a.eval y=q){v:Value}{w':World}(hrun:(Builtin.append_ #[t,t] o.type #[p,q]).run P w=.ok v w')(hK:wpListIn F n P ops Q rest (a.put o.dst v) w'):wpListIn F n P ops Q (o::rest) a w:=
 iP hg (by rw[hop];intro c hc;cases hc) (by simp[Oper.about,hop,resolve,Target.leads,Sem.run_pure]) (by simp[execOp,hop,resolve,invoke,builtin,hx,hy,hrun,Result.andThen]) hK
end
theorem Ow.cells {α:Type}{T:Ty α}{t:TypeId}{w:World}{A:Bl}{a:Option Addr}{n c:Nat}{xs:List α}(h:Ow T t w A a n c xs){g:Nat}(hg:eJ a=some g):∃o:Obj,w.heap[g]? =some o/\o.isCells=true:=by
 rcases h.2.2.2 with⟨e,_⟩|⟨g',cur,fr,e,hh,_⟩
 · rw[e]at hg;cases hg
 · rw[e]at hg
   have:g'=g:=by simpa[eJ]using hg
   subst this
   exact⟨_,hh,rfl⟩
def ER (w:World)(row:Option Nat):Prop:=∀r,row=some r->∃o:Obj,w.heap[r]? =some o/\o.isCells=false
theorem ao.turned {w w':World}{k:Nat}{t:TypeId}{vs:List Value}{row:Option Nat}(h:ao w k t vs)(hg:w.grownBy w' row)(hr:ER w row):ao w' k t vs:=
 h.grown hg λe=>by
   obtain⟨o,ho,hc⟩:=hr k e.symm
   rw[show w.heap[k]? =_ from h]at ho;cases ho;cases hc
theorem Ow.turned {α:Type}{T:Ty α}{t:TypeId}{w w':World}{a:Option Addr}{n c:Nat}{xs:List α}{row:Option Nat}(h:Ow T t w NoB a n c xs)(hg:w.grownBy w' row)(hr:ER w row):Ow T t w' NoB a n c xs:=by
 cases row with
 | none=>exact h.keep (dX hg λb hb e=>by cases e)
 | some r=>
   refine h.put (λg hg' e=>?_) hg
   subst e
   obtain⟨o,ho,hc⟩:=h.cells hg'
   obtain⟨o',ho',hc'⟩:=hr g rfl
   rw[ho]at ho';cases ho';rw[hc]at hc';cases hc'
theorem xY {n₀:Nat}{w0 w w':World}{row:Option Nat}(h:Below n₀ w0 w)(hn:n₀ <=w.heap.size)(hg:w.grownBy w' row)(hr:∀r,row=some r->n₀ <=r):Below n₀ w0 w':=h.grown hg hn hr
def Vg (w:World)(B:Nat)(t tc:TypeId)(pre:List Kpt)(W:World):Prop:=
 ∃(a:Option Addr) (n c:Nat),ao W B t [.slice a n c]/\Ow uK tc W NoB a n c (pre.map Kpt.c)/\bU w.heap.size a/\eJ a≠some B/\bW w W
theorem Kk {w:World}{B:Nat}{t tc:TypeId}{n₀:Nat}(hn:w.heap.size <=n₀):OwnFrom n₀ (Vg w B t tc):=by
 rintro pre W W' row ⟨a,n,c,hB,ho,hf,hne,hb⟩ hg hr
 have hr':ER W row:=λr e=>(hr r e).2
 exact⟨a,n,c,hB.turned hg hr',ho.turned hg hr',hf,hne,xY hb hb.size hg λr e=>Nat.le_trans hn (hr r e).1⟩
theorem AP {w w':World}(n:Nat)(hb:bW w w'):KeepsFrom n w w':=⟨hb.size,λk o _ hk _=>(hb.block k (Array.getElem?_eq_some_iff.1 hk).1).trans hk⟩
theorem yT {w w':World}(hb:bW w w'):KeepsWalks w w':=⟨hb.size,λk o hk _=>(hb.block k (Array.getElem?_eq_some_iff.1 hk).1).trans hk⟩
section
open Go.Pk Go.RowKit Go.Shelf
attribute [local go_sem] Oper.semAt_some
theorem OI {w0 w:World}{a:Option Addr}{n c:Nat}{xs:List Cky}(ho:Ow uK af w NoB a n c xs)(hf:bU w0.heap.size a)(hb:bW w0 w){x:Cky}(o:x.ok)(hl:xs.length <=1000000):
   ∃(w1:World) (a1:Option Addr) (l1 c1:Nat),(Instr.buildSlice aR 1 #[(0,x.v)]).run prog w=.ok (.slice a1 l1 c1) w1/\
     ∃(w2:World) (a':Option Addr) (n' c':Nat),(Builtin.append_ #[aR,aR] aR #[.slice a n c,.slice a1 l1 c1]).run prog w1=.ok (.slice a' n' c') w2/\
       Ow uK af w2 NoB a' n' c' (xs++[x])/\bU w0.heap.size a'/\bW w0 w2/\(∀b,b<w.heap.size->eJ a≠some b->w2.heap[b]? =w.heap[b]?)/\w.heap.size <=w2.heap.size:=by
 have hB1:bW w (w.alloc (.cells x.cells.toArray af)):=ai w _
 have ho3:=ho.below hB1
 have hsrc:Src uK (w.alloc (.cells x.cells.toArray af)) NoB (some ⟨w.heap.size,0,none⟩) 1 [x]:=Src.new1F Kx rfl rfl (show uK.rep w NoB x.cells x from⟨rfl,o⟩)
 obtain⟨w4,a4,n4,c4,hr,ho4,hgr,hfr⟩:=eZ (ty:=aR) fR lg (by decide) ho3 (λ_ _ h=>h) (cm:=1) hsrc (by simp;omega)
 have hB:=aa hb hB1 hb.size
 refine⟨_,_,_,_,N4 o w,w4,a4,n4,c4,hr,ho4,hf.app hB.size hfr,hB.grown hgr hB.size hf,λb hb2 hne=>?_,Nat.le_trans hB1.size hgr.size⟩
 rw[hgr.block b (Nat.lt_of_lt_of_le hb2 hB1.size) (λe=>hne e.symm),hB1.block b hb2]
theorem QS (m:Option Nat)(w:World):Cf 135 #[.map m] w λe w'=>e=.returned (.func (.func 202) #[] #[.pointer (some ⟨w.heap.size,0,none⟩)])/\w'=w.alloc (.cells #[.map m] ar):=by
 refine(cV m (K:=λv w'=>v=(.func (.func bE) #[] #[.pointer (some ⟨w.heap.size,0,none⟩)])/\w'=w.alloc (.cells #[.map m] ar)) ?_).mono ?_
 · intro k1 w1 hk1 hw1
   subst hk1 hw1
   exact⟨rfl,rfl⟩
 · rintro e w' ⟨v,rfl,rfl,rfl⟩
   exact⟨rfl,rfl⟩
set_option maxRecDepth 100000 in
set_option maxHeartbeats 4000000 in
theorem H5 {p ma ms:Nat}{L:List Kpt}{last:Int}{w:World}(h:Shf aO p ma ms L last w)(hl:L.length <=1000000)
   (hsort:∀(xs:List Kpt) (W:World) (a:Option Addr) (n c:Nat),xs.Perm L->Ow uK af W NoB a n c (xs.map Kpt.c)->bU w.heap.size a->bW w W->
     CallsIn Fence.wide 5 prog 71 #[.slice a n c,.func (.func 136) #[] #[]] W λe W'=>e=.returned (.tuple #[])/\Ow uK af W' NoB a n c (L.map Kpt.c)/\Chg (eJ a).toList W W'):
   CallsIn Fence.wide 6 prog 68 #[.pointer (some ⟨p,0,none⟩)] w λe w'=>∃(a:Option Addr) (n c:Nat),e=.returned (.slice a n c)/\Ow uK af w' NoB a n c (L.map Kpt.c)/\bU w.heap.size a/\bW w w':=by
 have hv:=λm W=>(callsIn_wide (n:=5)).2 (QS m W)
 obtain⟨M,S,hM,hS,hMR,hSR⟩:=h.ex
 have hplt:=h.cell.lt
 have hcell:∀i,w.cell? ⟨p,i,none⟩=_:=λi=>h.cell.cell i
 have hc0:=hcell 0
 refine callsIn_of_wp_marks func68 rfl trivial ?_ rfl
 simp only[Tryz.ntmps68,List.size_toArray,List.length_cons,List.length_nil,Nat.reduceAdd,Nat.reduceSub,Array.replicate_succ,Array.replicate_zero,List.push_toArray,List.append_toArray,List.nil_append,List.cons_append]
 gi_wp2
 refine⟨trivial,(hv _ _).mono ?_⟩
 rintro e w' ⟨rfl,rfl⟩
 gi_wp2
 have hml:M.length <=1000000:=by have:=hMR.perm.length_eq;rw[List.length_map]at this;omega
 obtain⟨w1,hw1⟩:∃w1,w1=w.alloc (.cells #[.slice none 0 0] aR):=⟨_,rfl⟩
 have b1:bW w w1:=hw1▸ai w _
 have aB:ao w1 w.heap.size aR [.slice none 0 0]:=ao.new rfl hw1
 rw[<- hw1]
 have hs1:w1.heap.size=w.heap.size+1:=by rw[hw1];simp
 obtain⟨w2,hw2⟩:∃w2,w2=w1.alloc (.cells #[.map (some ma)] ar):=⟨_,rfl⟩
 have b2:bW w1 w2:=hw2▸ai w1 _
 have aM:ao w2 w1.heap.size ar [.map (some ma)]:=ao.new rfl hw2
 rw[<- hw2]
 have hs2:w2.heap.size=w1.heap.size+1:=by rw[hw2];simp
 have B2:=aa b1 b2 b1.size
 clear hw1 hw2 hcell hc0
 rw[hs1]at aM
 have hStop:=JA Fence.wide 5 trivial rfl (by decide) (w.heap.size+1) ma M w2 (by omega) (aM.cell 0) (hM.below B2)
 obtain⟨Bx,hBx⟩:∃Bx,Bx=w.heap.size:=⟨_,rfl⟩
 obtain⟨Bm,hBm⟩:∃Bm,Bm=w.heap.size+1:=⟨_,rfl⟩
 rw[<- hBm]at hStop
 rw[<- hBm,<- hBx]
 rw[<- hBx]at aB
 have I0:Vg w Bx aR af [] w2:=⟨none,0,0,aB.below b2,Ow.nil _ _ _ _,(λg hg=>by cases hg),(by intro h;cases h),B2⟩
 clear aM hS hM h b1 b2 aB
 refine wpIn_rangeFunc_ownH rfl (by decide) (gf:=202) (lb:= #[.pointer (some ⟨Bm,0,none⟩)]) rfl trivial (enters_of func202 (by kernel_rfl) rfl)
   hStop walksK_t walksK_b (Below.refl _ _) (λ_=>rfl)
   (Vg w Bx aR af) (λ_ _ _=>False) (Kk (by omega)) (λ_ _ _ _ _ hs _ _=>hs) I0
   (λx a' W=>∃kx,a'= { tmps:= #[.pointer (some ⟨p,0,none⟩),undef,.slice none 0 0,.pointer (some ⟨Bx,0,none⟩),.pointer (some ⟨kx,0,none⟩),.pointer (some ⟨p,0,none⟩),.pointer (some ⟨p,0,none⟩),.pointer (some ⟨p,0,none⟩),.map (some ma),.func (.func 202) #[] #[.pointer (some ⟨Bm,0,none⟩)],x.v,undef,undef,undef,undef,undef,undef,undef,undef],defers:=[] } /\ao W kx aC x.cells)
   (λx a' s W W' row hs hg hr=> ?own) ?assign ?body ?done ?stop
 case own=>
   obtain⟨kx,e,ha⟩:=hs
   exact⟨kx,e,ha.turned hg λr e=>(hr r e).2⟩
 case assign=>
   intro l pre x W K hI hK
   have hb3:bW W (W.alloc (.cells pI.cells.toArray aC)):=ai W _
   obtain⟨w3,hst,ha3,hg3⟩:=gX.store0 (P:=prog) (cs:=x.cells) (Kpt.len x) (Kpt.one x) (ao.new (t:=aC) (vs:=pI.cells) rfl rfl:ao (W.alloc (.cells pI.cells.toArray aC)) W.heap.size aC pI.cells) (Kpt.len pI)
   have hb23:=Below.put hb3 hg3 (Nat.le_refl _)
   apply wpIn_region_lit
   simp only[List.zip_toArray,List.foldl_toArray',List.foldl_toArray,List.zip_cons_cons,List.zip_nil_left,List.zip_nil_right,List.foldl_cons,List.foldl_nil,List.setIfInBounds_toArray,List.set_cons_succ,List.set_cons_zero]
   refine yh rfl rfl (D2 _) ?_
   refine qL rfl rfl rfl rfl hst ?_
   apply wpListIn_nil
   exact hK _ w3 (AP _ hb23) (yT hb23) (Kk (Nat.le_refl _) pre W w3 none hI (uk hb23) (λr e=>by cases e)) ⟨_,rfl,ha3⟩
 case body=>
   rintro l pre x a' W hl hrec ⟨a,n,c,hB,ho,hf,hne,hb⟩ ⟨kx,rfl,hx⟩ hlen
   have hl1:(Instr.loadAt aR (.pointer (some ⟨Bx,0,none⟩))).run prog W=.ok (.slice a n c) W:=hB.load1 fR rfl (i:=0) rfl
   have hl2:(Instr.loadAt af (.pointer (some ⟨kx,0,none⟩))).run prog W=.ok x.c.v W:=be.load hx (i:=0) (us:=x.c.cells) (Cky.len x.ok) (λj hj=>by rw[Nat.zero_add];exact uq x hj)
   obtain⟨w4,a1,l1,c1,q1,w5,a2,n2,c2,q2,row4,fr4,B4,oth,sz5⟩:=OI ho hf hb x.ok (by rw[List.length_map];omega)
   have hB5:=hB.block (oth Bx hB.lt hne)
   obtain⟨w6,q3,hB6,g6⟩:=hB5.put zz (i:=0) (v:=.slice a2 n2 c2) (show 0<1 by decide) rfl rfl
   apply wpIn_block
   apply wpIn_region_lit
   refine uu rfl rfl rfl hl1 ?_
   refine iP rfl (by intro c hc;cases hc) rfl (v:=.pointer (some ⟨kx,0,none⟩)) (w':=W) rfl ?_
   refine uu rfl rfl rfl hl2 ?_
   refine FI rfl rfl rfl q1 ?_
   refine FH rfl rfl rfl rfl q2 ?_
   refine qL rfl rfl rfl rfl q3 ?_
   apply wpListIn_nil
   have hne2:eJ a2≠some Bx:=λe=>by
     rcases row4.2.2.2 with⟨e1,_⟩|⟨g,cur,fr,e1,hh,_⟩
     · rw[e1]at e;cases e
     · rw[e1]at e
       have:g=Bx:=by simpa[eJ]using e
       subst this
       rw[show w5.heap[g]? =_ from hB5]at hh
       exact absurd (Option.some.inj hh) (by intro h;injection h with _ h2 _;exact absurd h2 (by decide))
   have oth6:∀(k:Nat) (o:Obj),W.heap[k]? =some o->o.isCells=false->w6.heap[k]? =some o:=λk o hk ho'=>by
     have hlt:=(Array.getElem?_eq_some_iff.1 hk).1
     have h5:=(oth k hlt λe=>by obtain⟨o2,h2,c2⟩:=ho.cells e;rw[hk]at h2;cases h2;rw[ho']at c2;cases c2).trans hk
     refine(g6.block k (Array.getElem?_eq_some_iff.1 h5).1 λe=>?_).trans h5
     cases e
     rw[show W.heap[Bx]? =_ from hB]at hk;cases hk;cases ho'
   have sz6:W.heap.size <=w6.heap.size:=Nat.le_trans sz5 g6.size
   exact⟨⟨sz6,λk o _ hk ho'=>oth6 k o hk ho'⟩,⟨sz6,λk o hk ho'=>oth6 k o hk (Obj.not_cells_of_walk ho')⟩,a2,n2,c2,hB6,by rw[List.map_append];exact row4.put (λg hg e=>hne2 (by rw[<- e];exact hg)) g6,fr4,hne2,Below.put B4 g6 (by omega)⟩
 case done=>
   rintro D xs W hD hp ⟨a,n,c,hB,ho,hf,hne,hb⟩ hK
   subst hBx
   have hcB:W.cell? ⟨w.heap.size,0,none⟩=some (.slice a n c):=hB.cell 0
   have hsx:=hsort xs W a n c (hp.trans hMR.perm) ho hf hb
   gi_wp2
   refine⟨trivial,hsx.mono ?_⟩
   rintro e W3 ⟨rfl,ho3,hc3⟩
   have hB3:ao W3 w.heap.size aR [.slice a n c]:=hc3.arr hB (by intro h;exact hne (by simpa using h))
   have hcB3:W3.cell? ⟨w.heap.size,0,none⟩=some (.slice a n c):=hB3.cell 0
   have hK3:W3.heap[D]? =some (.deferred (some [])):=(hc3.block D (Array.getElem?_eq_some_iff.1 hK).1 (by
     intro h
     obtain⟨o,h1,h2⟩:=ho.cells (show eJ a=some D by simpa using h)
     rw[hK]at h1;cases h1;cases h2)).trans hK
   gi_wp2
   refine⟨by simp,.inl ⟨_,_,rfl,run_takeDeferred hK3,?_⟩⟩
   have gD:=grownBy_putObj' W3 D (.deferred none)
   have nD:ER W3 (some D):=λr e=>by cases e;exact⟨_,hK3,rfl⟩
   have B3:bW w W3:=hb.trans (hc3.below hb.size (λk hk=>hf k (by simpa using hk)))
   exact⟨_,results_tmp rfl _ _ _,a,n,c,rfl,ho3.turned gD nD,hf,xY B3 B3.size gD (λr e=>by cases e;omega)⟩
 case stop=>
   rintro D c pre W _ _ h _
   exact h.elim
end
open Go.Sort (Holds HoldsK flatK putRow putRowK grow putCells mapBlock)
open Go.Proofs (sortWorldK)
section
variable {α β:Type} [Inhabited α] {T:Ty β} {f:α->β} {enc:α->List Value}
theorem Nv {ys:List α}{k:Nat}(hk:∀y,(enc y).length=k){i:Nat}(hi:i<ys.length):((flatK enc k ys.toArray).toList.drop (i*k)).take k=enc ys[i]:=by
 have hb:i*k+k <=ys.length*k:=by
   have:=Nat.mul_le_mul_right k (show i+1 <=ys.length from hi)
   rwa [Nat.add_mul,Nat.one_mul]at this
 have hsz:(flatK enc k ys.toArray).toList.length=ys.length*k:=by simp
 apply List.ext_getElem
 · rw[List.length_take,List.length_drop,hsz,hk];omega
 · intro c h1 h2
   have hc:c<k:=by rw[hk]at h2;exact h2
   rw[List.getElem_take,List.getElem_drop,Array.getElem_toList]
   have lt:i*k+c<ys.toArray.size*k:=by simp;omega
   have h3:=Sort.get_flatK enc k ys.toArray (i*k+c) lt
   rw[getElem!_pos _ _ (by simpa using lt)]at h3
   rw[h3]
   have e1:(i*k+c)/k=i:=(Sort.blk_iff k i _ (by omega)).1 ⟨by omega,by omega⟩
   have e2:(i*k+c)%k=c:=by rw[Nat.mod_eq_sub_div_mul,e1];omega
   rw[e1,e2,getElem!_pos ys.toArray i (by simpa using hi)]
   rw[List.getElem_toArray,getElem!_pos (enc ys[i]) (c) h2]
theorem OwK.holds (he:∀w A vs y,T.rep w A vs (f y) ↔ vs=enc y){t:TypeId}{w:World}{A:Bl}{g n c:Nat}{ys:List α}(h:Ow T t w A (some ⟨g,0,none⟩) n c (ys.map f)):
   HoldsK enc T.k w g 0 ys.toArray/\g<w.heap.size:=by
 have hk:∀y,(enc y).length=T.k:=λy=>T.len ((he w A (enc y) y).2 rfl)
 obtain⟨h1',h2,h3,h4⟩:=h
 rcases h4 with⟨e1,_⟩|⟨g',cur,fr,e',hh,hf,hs,h4⟩
 · cases e1
 · cases e'
   rw[List.length_map]at h1'
   refine⟨λj hj=>?_,(Array.getElem?_eq_some_iff.1 hh).1⟩
   have hj':j<ys.length*T.k:=by simpa using hj
   have hk0:=T.pos
   have hcap:ys.length*T.k <=cur.size:=by rw[hs,<- h1'];exact Nat.mul_le_mul_right _ h2
   have hjc:j<cur.size:=by omega
   have hi:j/T.k<ys.length:=Nat.div_lt_of_lt_mul (by rw[Nat.mul_comm];exact hj')
   refine⟨?_,?_⟩
   · rw[rS hh,Nat.zero_add]
     have h5:=(he _ _ _ _).1 (by have:=h4.rep (j/T.k) (by simpa using hi);rwa [List.getElem_map]at this)
     have h6:=Sort.get_flatK enc T.k ys.toArray j (by simpa using hj')
     show cur[j]? =some ((flatK enc T.k ys.toArray)[j]!)
     rw[h6]
     have hm:j%T.k<T.k:=Nat.mod_lt _ hk0
     have hjd:j/T.k*T.k+j%T.k=j:=by have:=Nat.div_add_mod j T.k;rw[Nat.mul_comm]at this;exact this
     have h7:(((cur.toList.take (n*T.k)).drop (j/T.k*T.k)).take T.k)[j%T.k]? =some (cur.toList[j]'(by simpa using hjc)):=by
       rw[List.getElem?_take,if_pos hm,List.getElem?_drop,List.getElem?_take,hjd,if_pos (by rw[h1'];exact hj')]
       rw[List.getElem?_eq_getElem (by simpa using hjc)]
     rw[h5]at h7
     have e3:ys.toArray[j/T.k]! =ys[j/T.k]:=by rw[getElem!_pos _ _ (by simpa using hi)];simp
     rw[e3]
     have h8:=(List.getElem?_eq_some_iff.1 h7)
     obtain⟨h9,h10⟩:=h8
     rw[getElem!_pos (enc ys[j/T.k]) (j%T.k) h9,h10,Array.getElem?_eq_getElem hjc]
     simp
   · rw[Nat.zero_add];exact Ec hh (hf j hjc)
theorem OwK.put (he:∀w A vs y,T.rep w A vs (f y) ↔ vs=enc y){t:TypeId}{w:World}{A:Bl}{g n c:Nat}{xs ys:List α}(h:Ow T t w A (some ⟨g,0,none⟩) n c (xs.map f))(hl:ys.length=xs.length)(q:Nat)(os:Array Obj):
   Ow T t (sortWorldK enc T.k w g 0 q ys.toArray os) A (some ⟨g,0,none⟩) n c (ys.map f)/\w.grownBy (sortWorldK enc T.k w g 0 q ys.toArray os) (some g):=by
 have hk:∀y,(enc y).length=T.k:=λy=>T.len ((he w A (enc y) y).2 rfl)
 obtain⟨h1',h2,h3,h4⟩:=h
 rw[List.length_map]at h1'
 rcases h4 with⟨e1,_⟩|⟨g',cur,fr,e',hh,hf,hs,h4⟩
 · cases e1
 · cases e'
   have hlt:=(Array.getElem?_eq_some_iff.1 hh).1
   have hsz:(putRowK enc T.k (Go.Sort.ahead w q) g 0 ys.toArray).heap.size=w.heap.size:=by simp[putRowK,Go.Sort.ahead]
   have hh':(sortWorldK enc T.k w g 0 q ys.toArray os).heap[g]? =some (.cells (putCells id 0 (flatK enc T.k ys.toArray) cur) t fr):=by
     unfold sortWorldK
     rw[Sort.heap_grow_old _ _ (by rw[hsz];exact hlt)]
     show((Go.Sort.ahead w q).heap.modify g _)[g]? =_
     rw[Array.getElem?_modify,if_pos rfl]
     show(w.heap[g]?).map _=_
     rw[hh];rfl
   have hn:n*T.k=ys.length*T.k:=by rw[hl,h1']
   have hcap:ys.length*T.k <=cur.size:=by rw[hs,<- hn];exact Nat.mul_le_mul_right _ h2
   refine⟨⟨by rw[List.length_map,hl];exact h1',h2,h3,.inr ⟨g,_,fr,rfl,hh',?_,?_,?_⟩⟩,?_⟩
   · intro i hi;exact hf i (by simpa[putCells]using hi)
   · simpa[putCells]using hs
   · have e:(putCells id 0 (flatK enc T.k ys.toArray) cur).toList.take (n*T.k)=(flatK enc T.k ys.toArray).toList:=by
       rw[hn]
       apply List.ext_getElem?
       intro i
       rw[List.getElem?_take]
       by_cases hi:i<ys.length*T.k
       · rw[if_pos hi]
         have:i<cur.size:=by omega
         simp[putCells,hi,this]
       · rw[if_neg hi]
         symm
         rw[List.getElem?_eq_none]
         simp;omega
     rw[e]
     refine⟨by simp,λi hi=>?_⟩
     have hi':i<ys.length:=by simpa using hi
     rw[Nv hk hi',List.getElem_map]
     exact(he _ _ _ _).2 rfl
   · unfold sortWorldK
     refine⟨rfl,rfl,rfl,by simp[grow,hsz],λk hk2 hne=>?_⟩
     rw[Sort.heap_grow_old _ _ (by rw[hsz];exact hk2)]
     show((Go.Sort.ahead w q).heap.modify g _)[k]? =_
     rw[Array.getElem?_modify,if_neg (λe=>hne (by rw[e]))]
     rfl
end
theorem OD {α:Type}[Inhabited α]{d d':Array α}(h:Go.Sort.PermIn 0 d.size d d'):d'.size=d.size/\d'.toList.Perm d.toList:=by
 obtain⟨h1,_,h3⟩:=h
 refine⟨h1,?_⟩
 have e1:d.extract 0 d.size=d:=by simp
 have e2:d'.extract 0 d.size=d':=by rw[<- h1];simp
 rw[e1,e2]at h3
 exact h3
theorem JR {α:Type}[Inhabited α]{lt:α->α->Bool}{n:Nat}{d:Array α}(hn:d.size=n)(h:Go.Sort.SortedIn lt 0 n d):d.toList.Pairwise λa b=>lt b a=false:=by
 rw[List.pairwise_iff_getElem]
 intro i j hi hj hij
 have:=h i j (Nat.zero_le _) hij (by rw[<- hn];simpa using hj)
 rw[getElem!_pos d j (by simpa using hj),getElem!_pos d i (by simpa using hi)]at this
 simpa using this
theorem Gs {α:Type}{R:α->α->Bool} :∀{l r:List α},l.Perm r->(l.Pairwise λa b=>R b a=false)->(r.Pairwise λa b=>R a b=true)->l=r
 | [],r,hp,_,_=>by rw[hp.nil_eq]
 | a::l,[],hp,_,_=>by have:=hp.length_eq;simp at this
 | a::l,b::r,hp,hl,hr=>by
   rw[List.pairwise_cons]at hl hr
   have hab:a=b:=by
     rcases List.mem_cons.1 (hp.mem_iff.1 (List.mem_cons_self ..))with e|e
     · exact e
     · rcases List.mem_cons.1 (hp.mem_iff.2 (List.mem_cons_self ..))with e2|e2
       · exact e2.symm
       · have h1:=hr.1 a e
         have h2:=hl.1 b e2
         rw[h1]at h2;cases h2
   subst hab
   rw[Gs ((List.perm_cons a).1 hp) hl.2 hr.2]
end Go.Pk
namespace Go.Proofs
open Go.Pk (Cf vS vI bW)
open Go.Shelf
def Tryz.sortF_ren:Go.Shelf.Ren:=⟨fun|6=>71|15=>140|14=>139|28=>211|29=>212|20=>203|21=>204|22=>205|23=>206|24=>207|25=>208|26=>209|27=>210|46=>271|47=>272|48=>273|49=>274|50=>275|57=>314|n=>n,fun|22=>140|24=>131|25=>146|3=>3|39=>139|0=>0|53=>261|55=>263|4=>4|46=>255|45=>254|50=>157|5=>5|9=>9|66=>302|70=>306|76=>332|77=>284|n=>n,fun|n=>n⟩
theorem Tryz.sortF:Go.Proofs.SlLaysF0.n6 prog Tryz.sortF_ren:= {
 mixed:=by kernel_rfl
 f6:=⟨Tryz.f71.name,by decide,func71.trans (congrArg some (by kernel_rfl))⟩
 f14:=⟨Tryz.f139.name,by decide,func139.trans (congrArg some (by kernel_rfl))⟩
 f15:=func140.trans (congrArg some (by kernel_rfl))
 f20:=⟨Tryz.f203.name,by decide,func203.trans (congrArg some (by kernel_rfl))⟩
 f21:=⟨Tryz.f204.name,by decide,func204.trans (congrArg some (by kernel_rfl))⟩
 f22:=⟨Tryz.f205.name,by decide,func205.trans (congrArg some (by kernel_rfl))⟩
 f23:=⟨Tryz.f206.name,by decide,func206.trans (congrArg some (by kernel_rfl))⟩
 f24:=⟨Tryz.f207.name,by decide,func207.trans (congrArg some (by kernel_rfl))⟩
 f25:=⟨Tryz.f208.name,by decide,func208.trans (congrArg some (by kernel_rfl))⟩
 f26:=⟨Tryz.f209.name,by decide,func209.trans (congrArg some (by kernel_rfl))⟩
 f27:=⟨Tryz.f210.name,by decide,func210.trans (congrArg some (by kernel_rfl))⟩
 f28:=func211.trans (congrArg some (by kernel_rfl))
 f29:=func212.trans (congrArg some (by kernel_rfl))
 f46:=⟨Tryz.f271.name,by decide,func271.trans (congrArg some (by kernel_rfl))⟩
 f47:=func272.trans (congrArg some (by kernel_rfl))
 f48:=func273.trans (congrArg some (by kernel_rfl))
 f49:=⟨Tryz.f274.name,by decide,func274.trans (congrArg some (by kernel_rfl))⟩
 f50:=⟨Tryz.f275.name,by decide,func275.trans (congrArg some (by kernel_rfl))⟩
 f57:=⟨Tryz.f314.name,by decide,func314.trans (congrArg some (by kernel_rfl))⟩
 t0:=Tryz.underlying0
 a0:=Tryz.isAgg0
 z0:=Tryz.sizeOf0
 v0:=Tryz.zeroValue0
 t3:=Tryz.underlying3
 a3:=Tryz.isAgg3
 z3:=Tryz.sizeOf3
 v3:=Tryz.zeroValue3
 t4:=Tryz.underlying4
 a4:=Tryz.isAgg4
 z4:=Tryz.sizeOf4
 v4:=Tryz.zeroValue4
 t5:=Tryz.underlying5
 a5:=Tryz.isAgg5
 z5:=Tryz.sizeOf5
 v5:=Tryz.zeroValue5
 t9:=Tryz.underlying9
 a9:=Tryz.isAgg9
 z9:=Tryz.sizeOf9
 v9:=Tryz.zeroValue9
 t22:=Tryz.underlying140
 a22:=Tryz.isAgg140
 z22:=Tryz.sizeOf140
 v22:=Tryz.zeroValue140
 t25:=Tryz.underlying146
 a25:=Tryz.isAgg146
 z25:=Tryz.sizeOf146
 v25:=Tryz.zeroValue146
 t39:=Tryz.underlying139
 a39:=Tryz.isAgg139
 z39:=Tryz.sizeOf139
 v39:=Tryz.zeroValue139
 t45:=Tryz.underlying254
 a45:=Tryz.isAgg254
 z45:=Tryz.sizeOf254
 v45:=Tryz.zeroValue254
 t46:=Tryz.underlying255
 a46:=Tryz.isAgg255
 z46:=Tryz.sizeOf255
 v46:=Tryz.zeroValue255
 t50:=Tryz.underlying157
 a50:=Tryz.isAgg157
 z50:=Tryz.sizeOf157
 v50:=Tryz.zeroValue157
 t53:=Tryz.underlying261
 a53:=Tryz.isAgg261
 z53:=Tryz.sizeOf261
 v53:=Tryz.zeroValue261
 t55:=Tryz.underlying263
 a55:=Tryz.isAgg263
 z55:=Tryz.sizeOf263
 v55:=Tryz.zeroValue263
 t66:=Tryz.underlying302
 a66:=Tryz.isAgg302
 z66:=Tryz.sizeOf302
 v66:=Tryz.zeroValue302
 t70:=Tryz.underlying306
 a70:=Tryz.isAgg306
 z70:=Tryz.sizeOf306
 v70:=Tryz.zeroValue306
 t76:=Tryz.underlying332
 a76:=Tryz.isAgg332
 z76:=Tryz.sizeOf332
 v76:=Tryz.zeroValue332
 t77:=Tryz.underlying284
 a77:=Tryz.isAgg284
 z77:=Tryz.sizeOf284
 v77:=Tryz.zeroValue284 }
open Go.RowKit Go.Lib Go.Sort in
theorem Tryz.slices_SortFunc_Cookie {α:Type}[Inhabited α](k:Nat)(aE:∀w,(isAgg 131).run prog w=.ok true w)(zE:∀w,(Go.sizeOf 131).run prog w=.ok k w)(enc:α->List Value)(hk:∀x,(enc x).length=k)(h1:∀x,∀v∈enc x,v.oneCell'=true)(cf:α->α->Int)(hO:SWO (ltOf cf))(g:Nat)(cb:Array Value)(blk off cap:Nat)(d:Array α)(w:World)
   (eg:∀args w,(callFunc g args).run prog w=.ok (.enter g args) w) (hcmp:CmpLays prog g cb enc k cf blk off d.size w) (hH:HoldsK enc k w blk off d) (hblk:blk<w.heap.size) (hsz:d.size<4611686018427387904):
   Cf 71 #[.slice (some ⟨blk,off,none⟩) d.size cap,.func (.func g) #[] cb] w λe w'=>
     e=.returned (.tuple #[])/\∃d' n os,PermIn 0 d.size d d'/\SortedIn (ltOf cf) 0 d.size d'/\w'=sortWorldK enc k w blk off n d' os:=AnyQ.slices_SortFunc Tryz.sortF k aE zE enc hk h1 cf hO g cb blk off cap d w eg hcmp hH hblk hsz
theorem Tryz.slices_SortFunc_Cookie_none (p:Option Addr)(cap:Nat)(fv:Value)(w:World):
   Cf 71 #[.slice p 0 cap,fv] w λe w'=>e=.returned (.tuple #[])/\w'=w:=AnyF.slices_SortFunc_none Tryz.sortF p cap fv w
end Go.Proofs
namespace Go.Pk
open Go.RowKit (Below)
open Go.Proofs
open Go.Proofs (sortWorldK)
open Go.Sort (Holds HoldsK flatK putRow putRowK grow putCells mapBlock)
structure OpK where
 o:OpR
 ok:o.ok
noncomputable def MB (rs:List Rul):JS->List OpK->JS
 | s,[]=>s
 | s,o::l=>MB rs (doV rs s o.o o.ok) l
theorem HU (rs:List Rul)(o:OpK):∀(l:List OpK) (s:JS),MB rs s (l++[o])=doV rs (MB rs s l) o.o o.ok
 | [],s=>rfl
 | x::l,s=>HU rs o l _
theorem JI.run {rs:List Rul} :∀(l:List OpK) {s:JS} {m:Nat},JI s m->JI (MB rs s l) (m+l.length)
 | [],s,m,h=>h
 | o::l,s,m,h=>by
   have:=JI.run (rs:=rs) l (h.do (rs:=rs) o.o o.ok)
   rw[List.length_cons,show m+(l.length+1)=m+1+l.length by omega]
   exact this
theorem jV {α:Type}{l:List α}{k:Nat}(h:k<l.length):l.take (k+1)=l.take k++[l[k]]:=List.take_succ_eq_append_getElem h
def MC:List (List UInt8)->Nat
 | []=>0
 | x::l=>x.length+MC l
theorem O6 {a b:List (List UInt8)}(h:a.Perm b):MC a=MC b:=by
 induction h with
 | nil=>rfl
 | cons x _ ih=>rw[MC,MC,ih]
 | swap x y l=>simp only[MC];omega
 | trans _ _ h1 h2=>rw[h1,h2]
theorem K2:∀l:List (List UInt8),(K1 l).length=MC l+2*(l.length-1)
 | []=>rfl
 | [x]=>by simp[K1,MC]
 | x::y::r=>by
   have ih:=K2 (y::r)
   unfold K1
   rw[List.length_append,List.length_append,ih]
   simp[MC]
   omega
theorem Tb (s:JS)(r:Req):(Qs s r).2.length=MC ((s.L.filter λk=>iF k.c r s.now).map λk=>uH k.c)+2*((s.L.filter λk=>iF k.c r s.now).length-1):=by
 show(K1 ((Fp s.L r s.now).map λk=>uH k.c)).length=_
 have hp:=vn s.L r s.now
 rw[K2,O6 (hp.map λk=>uH k.c),List.length_map,hp.length_eq]
open Go.Sort (grow SWO)
open Go.Proofs (ltOf)
theorem QH {α:Type}{Q:α->Prop}{xs:List α}(h:∀x∈xs,Q x):∃ys:List {x // Q x},ys.map (·.1)=xs:=⟨xs.attachWith Q h,by simp⟩
theorem Qu (w:World)(o1 o2:Obj):(w.alloc o1).alloc o2=grow (w.drewN 0) #[o1,o2]:=by
 unfold grow World.alloc
 simp only[World.drewN,Nat.add_zero]
 congr 1
open Go.Proofs (ltOf CmpLays)
theorem Ia {Q:Kpt->Prop}[Inhabited {k:Kpt // Q k}](cf: {k:Kpt // Q k} -> {k:Kpt // Q k} ->Int)(hO:SWO (ltOf cf))(g:Nat)(eg:∀args w,(callFunc g args).run prog w=.ok (.enter g args) w)
   (hcmp:∀(W:World) (x y: {k:Kpt // Q k}),Cf g #[x.1.c.v,y.1.c.v] W λe w'=>e=.returned (vI (cf x y))/\∃q os',w'=grow (W.drewN q) os')
   {W:World} {a:Option Addr} {n c:Nat} {xs:List Kpt} (hx:∀k∈xs,Q k) (ho:Ow uK af W NoB a n c (xs.map Kpt.c)) (hl:xs.length <=1000000):
   Cf dG #[.slice a n c,.func (.func g) #[] #[]] W λe w'=>e=.returned (.tuple #[])/\
     ∃ys:List {k:Kpt // Q k},(ys.map (·.1)).Perm xs/\(ys.Pairwise λa b=>ltOf cf b a=false)/\Ow uK af w' NoB a n c ((ys.map (·.1)).map Kpt.c)/\Chg (eJ a).toList W w':=by
 obtain⟨zs,rfl⟩:=QH hx
 have ho0:=ho
 rcases ho0.2.2.2 with⟨rfl,rfl,e0⟩|⟨b,cur,fr,rfl,hh,_⟩
 · have hn:n=0:=by have:=ho.len;rw[e0]at this;exact this
   subst hn
   have hz:zs=[]:=by cases zs with|nil=>rfl|cons _ _=>cases e0
   subst hz
   refine(Tryz.slices_SortFunc_Cookie_none none 0 _ W).mono ?_
   rintro e w' ⟨rfl,rfl⟩
   exact⟨rfl,[],List.Perm.refl _,List.Pairwise.nil,ho,Chg.refl _ _⟩
 · have hn:n=zs.toArray.size:=by have:=ho.len;simpa using this
   subst hn
   have he:∀w A vs (y: {k:Kpt // Q k}),uK.rep w A vs y.1.c ↔ vs=y.1.c.cells:=λw A vs y=>⟨λh=>h.1,λh=>⟨h,y.1.ok⟩⟩
   have ho1:Ow uK af W NoB (some ⟨b,0,none⟩) zs.toArray.size c (zs.map λy=>y.1.c):=by rw[List.map_map]at ho;exact ho
   obtain⟨hH,hlt⟩:=OwK.holds (f:=λy: {k:Kpt // Q k} =>y.1.c) (enc:=λy=>y.1.c.cells) he ho1
   refine(Tryz.slices_SortFunc_Cookie (α:= {k:Kpt // Q k}) 29 (λw=>by kernel_rfl) (λw=>by kernel_rfl) (λy=>y.1.c.cells) (λy=>Cky.len y.1.ok) (λy v hv=>Cky.one y.1.c v hv) cf hO g #[] b 0 c zs.toArray W eg (λm os dk hs x y=>hcmp _ x y) hH hlt (by simp at hl ⊢;omega)).mono ?_
   rintro e w' ⟨rfl,d',q,os,hp,hs,rfl⟩
   obtain⟨hsz,hpm⟩:=OD hp
   have hsl:=JR hsz hs
   obtain⟨ho2,hg2⟩:=OwK.put (f:=λy: {k:Kpt // Q k} =>y.1.c) (enc:=λy=>y.1.c.cells) he ho1 (ys:=d'.toList) (by rw[hpm.length_eq]) q os
   refine⟨rfl,d'.toList,hpm.map _,hsl,?_,?_⟩
   · rw[List.map_map];exact ho2
   · exact Chg.grown hg2 (by simp[eJ])
theorem Lt (W:World){x y:Kpt}(hx:0 <=x.c.seq/\x.c.seq <=4611686018427387904)(hy:0 <=y.c.seq/\y.c.seq <=4611686018427387904):
   Cf gS #[x.c.v,y.c.v] W λe w'=>e=.returned (vI (x.c.seq-y.c.seq))/\∃q os',w'=grow (W.drewN q) os':=by
 refine(qf x.c.v y.c.v (K:=λv w'=>v=vI (x.c.seq-y.c.seq)/\∃q os',w'=grow (W.drewN q) os') ?_).mono ?_
 · intro k2 w2 hk2 hw2 k3 w3 hk3 hw3
   have a2:ao w3 k2 af x.c.cells:=(ao.new hk2 hw2:ao w2 k2 af x.c.cells).below (hw3▸ai w2 _)
   have a3:ao w3 k3 af y.c.cells:=ao.new hk3 hw3
   refine⟨rfl,_,a2.load1 bG rfl (i:=28) (cq x.ok 8),rfl,_,a3.load1 bG rfl (i:=28) (cq y.ok 8),?_,0,#[.cells (Value.cells x.c.v) af,.cells (Value.cells y.c.v) af],?_⟩
   · rw[wrap_i64 (by omega) (by omega)]
   · subst hw3 hw2;exact Qu _ _ _
 · rintro e w' ⟨v,rfl,rfl,h⟩
   exact⟨rfl,h⟩
def PO (k:Kpt):Prop:=0 <=k.c.seq/\k.c.seq <=4611686018427387904
instance:Inhabited {k:Kpt // PO k} :=⟨⟨pI,by decide,by decide⟩⟩
theorem SE:SWO (ltOf λx y: {k:Kpt // PO k} =>x.1.c.seq-y.1.c.seq):=by
 constructor <;> intros <;> simp only[ltOf,dTx,dFx]at* <;> omega
theorem yl {p ma ms:Nat}{L:List Kpt}{last:Int}{w:World}(h:Shf aO p ma ms L last w)(hl:L.length <=1000000)(hla:last <=4611686018427387904):
   Cf jv #[.pointer (some ⟨p,0,none⟩)] w (Ret λv w'=>∃(a:Option Addr) (n c:Nat),v=.slice a n c/\Ow uK af w' NoB a n c (L.map Kpt.c)/\bU w.heap.size a/\bW w w'):=by
 have hi:=h.inv
 have hq:∀k∈L,PO k:=λk hk=>by have:=hi.lo k hk;exact⟨by omega,by omega⟩
 have hA:=H5 h hl (λxs W a n c hp ho hf hb=>(callsIn_wide (n:=5)).2 ?_)
 · refine((callsIn_wide (n:=6)).1 hA).mono ?_
   rintro e w' ⟨a,n,c,rfl,h2⟩
   exact⟨_,rfl,a,n,c,rfl,h2⟩
 · refine(Ia (Q:=PO) _ SE gS (enters_of func136 (by kernel_rfl) rfl) (λW x y=>Lt W x.2 y.2) (λk hk=>hq k (hp.mem_iff.1 hk)) ho (by rw[hp.length_eq];exact hl)).mono ?_
   rintro e w' ⟨rfl,ys,hp2,hs,ho2,hc⟩
   have e1:ys.map (·.1)=L:=by
     refine Gs (R:=λa b=>decide (a.c.seq<b.c.seq)) (hp2.trans hp) ?_ ?_
     · rw[List.pairwise_map]
       refine hs.imp fun{a b} h=>?_
       simp only[ltOf,dFx]at h ⊢
       omega
     · exact hi.up.imp fun{a b} h=>by simpa using h
   rw[e1]at ho2
   exact⟨rfl,ho2,hc⟩
theorem JO (a:Option Addr){w K}(h:uP o0 #[] w λb c=>nA c (.cells #[vI 0,.pointer a,.pointer b] jK) λd e=>K (.pointer (vA d 0)) e):Cf AC #[.pointer a] w (Ret K):=ru func23 [] h
theorem Bk (a:Option Addr)(b:Value)(c:lU){w K}(h:nA w (.cells (Value.cells b) ay) λd e=>∃f,Ld ay (vA d 0) e f/\uB jz #[f] e λg i=>ab (!g) (K (vI 41) i) (Cf jF #[vS c] i λj k=>∃l m n o p q r s t u v x,j=rT #[(hV l m n o p q r s t u v),vI x]/\nA k (.cells #[vS [],vS [],vS [],vS [],.bool false,vI 0,.bool false,vI 0,.bool false,.bool false,vI 0] ax) λy z=>∃A,Sv ax (vA y 0) (hV l m n o p q r s t u v) z A/\ab (x !=(0:Int)) (K (vI x) A) ((Option.isSome a=true)/\(Option.isSome a=true)/\(Option.isSome a=true)/\(Option.isSome a=true)/\(isSome (Option.map (λB=>B.add 0) a))/\∃B,(∀C,bW A C->Ld jZ (Option.map (λD=>D.add 1) a) C (.pointer B))/\∃C,(∀D,bW A D->Ld ay (vA d 0) D C)/\∃D E F G H I J L M N O,(∀P,bW A P->Ld ax (vA y 0) P (hV D E F G H I J L M N O))/\∃P,(∀Q,bW A Q->Ld bu (Option.map (λR=>R.add 0) (Option.map (λR=>R.add 0) a)) Q (vI P))/\∃Q R,(∀S,bW A S->Cf mC #[.pointer B,C,(hV D E F G H I J L M N O),vI P] S λT U=>T=rT #[Q,vI R]/\bW S U)/\∀S,A.heap.size <=S->∀T,bW A T->T.heap[S]? =some (.cells cT af)->∃U,Sv af (vA S 0) Q T U/\ab (R !=(0:Int)) (K (vI R) U) (∃V:FP [],(true/\∃X,Ld bV (vA d 0) U (.bool X)/\ab (!X) (∃Y,Ld af (vA S 0) U Y/\uB iZ #[.pointer a,Y] U λZ ac=>ab Z (K (vI 121) ac) (V ac)) (V U))/\aJ 9 (∀X,V X->∃Y,Ld af (vA S 0) X Y/\uS na #[.pointer a,Y] X λZ ac=>(Option.isSome a=true)/\(Option.isSome a=true)/\∃ad,(∀ag,bW ac ag->Ld bC (Option.map (λaj=>aj.add 2) a) ag (.pointer ad))/\∃ag,(∀aj,bW ac aj->Ld af (vA S 0) aj ag)/\∀aj,bW ac aj->uB jx #[.pointer ad,ag,vS Z] aj λal an=>(Option.isSome a=true)/\(Option.isSome a=true)/\(Option.isSome a=true)/\(Option.isSome a=true)/\(isSome (Option.map (λbb=>bb.add 0) a))/\∃bb,(∀bc,bW an bc->Ld bC (Option.map (λbd=>bd.add 2) a) bc (.pointer bb))/\∃bc,(∀bd,bW an bd->Ld bu (Option.map (λbk=>bk.add 0) (Option.map (λbk=>bk.add 0) a)) bd (vI bc))/\∀bd,bW an bd->uI eV #[.pointer bb,vI bc] bd λbk bo=>uU oH #[.pointer a,vS Z] bo λbp=>K (vI 0) bp))))):Cf oG #[.pointer a,b,vS c] w (Ret K):=ru func25 [(3000021,[(0,.one .bool),(1,.one .bool),(2,.one .bool),(6,.one .bool),(7,.one .bool),(8,.one .bool),(9,.one .bool),(3,.one .bool),(4,.one .bool),(5,.one .bool),(10,.one .bool),(11,.one .bool),(12,.one .bool),(13,.one .bool),(14,.one .bool),(15,.one .bool)]),(30,[]),(1000041,[]),(3000041,[(0,.one .bool),(1,.one .bool),(2,.one .bool),(5,.one .bool),(3,.one .bool),(4,.one .bool)]),(1000043,[]),(3000043,[(0,.one .bool),(1,.one .bool),(2,.one .bool),(4,.one .bool),(5,.one .bool),(6,.one .bool),(7,.one .bool),(3,.one .bool),(8,.one .bool)])] h
theorem Bi (a:Option Addr)(b:Value){w K}(h:nA w (.cells #[.pointer a] eK) λc d=>nA d (.cells (Value.cells b) aN) λe f=>∃g,Ld eK (vA c 0) f (.pointer g)/\(Option.isSome g=true)/\(Option.isSome g=true)/\∃i,Ld bC (Option.map (λj=>j.add 2) g) f (.pointer i)/\uL jv #[.pointer i] f λj k l m=>uL cg #[.slice j k l,.func (.func bQ) #[] #[.pointer (vA e 0),.pointer (vA c 0)]] m λn o p q=>uU dG #[.slice n o p,.func (.func im) #[] #[]] q λr=>∃s:Nat->FP [.one .slice,.one (.int .i64)],(∃t,s t none 0 0 (0:Int) r)/\∀t u v x y,aJ 21 (∀z,s t u v x y z->ab (decide (y<((o:Nat):Int))) ((bx y ((o:Nat):Int)/\Option.isSome n=true)/\∃A,Ld af (aq n y 29) z A/\nA z (.cells cT af) λB C=>∃D,Sv af (vA B 0) A C D/\∃E,(∀F,bW D F->Ld eK (vA c 0) F (.pointer E))/\(Option.isSome E=true)/\(Option.isSome E=true)/\∃F,(∀G,bW D G->Ld bC (Option.map (λH=>H.add 2) E) G (.pointer F))/\∃G,(∀H,bW D H->Ld af (vA B 0) H G)/\∃H,(∀I,bW D I->Ld eK (vA c 0) I (.pointer H))/\(Option.isSome H=true)/\(Option.isSome H=true)/\(isSome (Option.map (λI=>I.add 0) H))/\∃I,(∀J,bW D J->Ld bu (Option.map (λL=>L.add 0) (Option.map (λL=>L.add 0) H)) J (vI I))/\∀J,bW D J->uB jy #[.pointer F,G,vI I] J λL M=>∃N,Ld af (vA B 0) M N/\uS xk #[N] M λO P=>nA P (.cells #[vS O] ah) λQ R=>∃S T U V,(Builtin.append_ #[aH,aH] aH #[.slice u v x,.slice (vA Q 0) 1 1]).run prog R=.ok (.slice T U V) S/\∃X:Nat,X<t/\s X T U V (i64.wrap (y+(1:Int))) S) (uS cJ #[.slice u v x,vS [59,32]] z λA B=>K (vS A) B))):Cf oF #[.pointer a,b] w (Ret K):=ru func27 [(12,[(6,.one .slice),(20,.one (.int .i64))]),(1000024,[]),(3000024,[(0,.one .bool),(1,.one .bool),(2,.one .bool),(3,.one .bool),(4,.one .bool),(5,.one .bool),(6,.one .bool),(7,.one .bool),(8,.one .bool),(9,.one .bool)])] h
theorem zi (a:Option Addr)(b:Int){w K}(h:∃c:FP [],(ab (decide (b<(0:Int))) (K (vI 122) w) ((Option.isSome a=true)/\(Option.isSome a=true)/\(isSome (Option.map (λd=>d.add 0) a))/\∃d,Ld bu (Option.map (λe=>e.add 0) (Option.map (λe=>e.add 0) a)) w (vI d)/\ab (decide (b>(i64.wrap ((1099511627776:Int)-d)))) (K (vI 122) w) (c w)))/\aJ 13 (∀d,c d->(Option.isSome a=true)/\(Option.isSome a=true)/\(isSome (Option.map (λe=>e.add 0) a))/\∃e,Ld bu (Option.map (λf=>f.add 0) (Option.map (λf=>f.add 0) a)) d (vI e)/\(Option.isSome a=true)/\(Option.isSome a=true)/\(isSome (Option.map (λf=>f.add 0) a))/\∃f,Sv bu (Option.map (λg=>g.add 0) (Option.map (λg=>g.add 0) a)) (vI (i64.wrap (e+b))) d f/\(Option.isSome a=true)/\(Option.isSome a=true)/\(Option.isSome a=true)/\(Option.isSome a=true)/\(isSome (Option.map (λg=>g.add 0) a))/\∃g,(∀i,bW f i->Ld bC (Option.map (λj=>j.add 2) a) i (.pointer g))/\∃i,(∀j,bW f j->Ld bu (Option.map (λk=>k.add 0) (Option.map (λk=>k.add 0) a)) j (vI i))/\∀j,bW f j->uI eV #[.pointer g,vI i] j λk l=>K (vI 0) l)):Cf mZ #[.pointer a,vI b] w (Ret K):=ru func28 [(2,[]),(1000013,[]),(3000013,[(0,.one .bool),(1,.one .bool),(2,.one .bool),(4,.one .bool),(5,.one .bool),(6,.one .bool),(7,.one .bool),(3,.one .bool),(8,.one .bool)])] h
theorem xJ (a:Option Addr){w K}(h:uP o0 #[] w λb c=>(Option.isSome a=true)/\(Option.isSome a=true)/\∃d,Sv bC (Option.map (λe=>e.add 2) a) (.pointer b) c d/\K (.tuple #[]) d):Cf lC #[.pointer a] w (Ret K):=ru func29 [] h
theorem sp (a:Option Addr)(b:Value){w K}(h:nA w (.cells (Value.cells b) af) λc d=>(Option.isSome a=true)/\(Option.isSome a=true)/\∃e,Ld bC (Option.map (λf=>f.add 2) a) d (.pointer e)/\uL jv #[.pointer e] d λf g i j=>uB bZ #[.slice f g i,.func (.func bm) #[] #[.pointer (vA c 0)]] j λk l=>K (.bool k) l):Cf iZ #[.pointer a,b] w (Ret K):=ru func62 [] h
theorem zj (a:Option Addr)(b:Value){w K}(h:nA w (.cells (Value.cells b) af) λc d=>(Option.isSome a=true)/\(Option.isSome a=true)/\∃e,(∀f,bW d f->Ld jZ (Option.map (λg=>g.add 1) a) f (.pointer e))/\true/\∃f,(∀g,bW d g->Ld ae (vA c 2) g f)/\∃g,(∀i,bW d i->Cf iC #[.pointer e,f] i λj k=>j=.returned (vS g)/\Below d.heap.size i k)/\∀i,bW d i->ab (!(g==[])) (K (vS g) i) (true/\∃j,Ld ae (vA c 2) i j/\uS iz #[j] i λk l=>K (vS k) l)):Cf na #[.pointer a,b] w (Ret K):=ru func63 [] h
theorem Bn (a:Option Addr)(b:lU){w K}(h:∃c:Nat->FP [],(∃d,c d w)/\∀d,aJ 24 (∀e,c d e->(Option.isSome a=true)/\(Option.isSome a=true)/\∃f,Ld bC (Option.map (λg=>g.add 2) a) e (.pointer f)/\uI iB #[.pointer f,vS b] e λg i=>ab (decide (g>(50:Int))) ((Option.isSome a=true)/\(Option.isSome a=true)/\∃j,Ld bC (Option.map (λk=>k.add 2) a) i (.pointer j)/\Cf gT #[.pointer j,vS b] i λk l=>∃m n,k=rT #[m,.bool n]/\nA l (.cells cT af) λo p=>∃q,Sv af (vA o 0) m p q/\(Option.isSome a=true)/\(Option.isSome a=true)/\∃r,(∀s,bW q s->Ld bC (Option.map (λt=>t.add 2) a) s (.pointer r))/\∃s,(∀t,bW q t->Ld af (vA o 0) t s)/\∀t,bW q t->uB dM #[.pointer r,s] t λu v=>∃x:Nat,x<d/\c x v) (∃j:Nat->FP [],(∃k,j k i)/\∀k,aJ 22 (∀l,j k l->(Option.isSome a=true)/\(Option.isSome a=true)/\∃m,Ld bC (Option.map (λn=>n.add 2) a) l (.pointer m)/\uI jw #[.pointer m] l λn o=>ab (decide (n>(3000:Int))) ((Option.isSome a=true)/\(Option.isSome a=true)/\∃p,Ld bC (Option.map (λq=>q.add 2) a) o (.pointer p)/\Cf eM #[.pointer p] o λq r=>∃s t,q=rT #[s,.bool t]/\nA r (.cells cT af) λu v=>∃x,Sv af (vA u 0) s v x/\(Option.isSome a=true)/\(Option.isSome a=true)/\∃y,(∀z,bW x z->Ld bC (Option.map (λA=>A.add 2) a) z (.pointer y))/\∃z,(∀A,bW x A->Ld af (vA u 0) A z)/\∀A,bW x A->uB dM #[.pointer y,z] A λB C=>∃D:Nat,D<k/\j D C) (K (.tuple #[]) o))))):Cf oH #[.pointer a,vS b] w (Ret K):=ru func66 [(2,[]),(1000012,[]),(3000012,[(0,.one .bool),(1,.one .bool),(2,.one .bool),(3,.one .bool),(4,.one .bool)]),(14,[]),(1000024,[]),(3000024,[(0,.one .bool),(1,.one .bool),(2,.one .bool),(3,.one .bool),(4,.one .bool)])] h
theorem vR (a:Value)(b c:Option Addr){w K}(h:nA w (.cells (Value.cells a) af) λd e=>∃f,(∀g,bW e g->Ld af (vA d 0) g f)/\∃g,(∀i,bW e i->Ld aN b i g)/\∃i,(∀j,bW e j->Ld eK c j (.pointer i))/\(Option.isSome i=true)/\(Option.isSome i=true)/\(isSome (Option.map (λj=>j.add 0) i))/\∃j,(∀k,bW e k->Ld bu (Option.map (λl=>l.add 0) (Option.map (λl=>l.add 0) i)) k (vI j))/\∃k,(∀l,bW e l->Cf oK #[f,g,vI j] l λm n=>m=.returned (.bool k)/\Below e.heap.size l n)/\∀l,bW e l->K (.bool (!k)) l):Cf bQ #[a,.pointer b,.pointer c] w (Ret K):=ru func69 [] h
theorem vT (a b:Value){w K}(h:nA w (.cells (Value.cells a) af) λc d=>nA d (.cells (Value.cells b) af) λe f=>∃g,Ld af (vA c 0) f g/\∃i,Ld af (vA e 0) f i/\uB oJ #[g,i] f λj k=>ab j (K (vI (-1)) k) (K (vI 1) k)):Cf im #[a,b] w (Ret K):=ru func72 [] h
theorem HY (a:Value){w K}(h:nA w (.cells (Value.cells a) af) λb c=>true/\∃d,Ld ah (vA b 0) c (vS d)/\ab (d==[]) (true/\∃e,Ld ah (vA b 1) c (vS e)/\K (vS e) c) (true/\∃e,Ld ah (vA b 0) c (vS e)/\(((List.length e+List.length [61]:Nat):Int) <=i64.max)/\∀f,f=(e++[61])->true/\∃g,Ld ah (vA b 1) c (vS g)/\(((List.length f+List.length g:Nat):Int) <=i64.max)/\∀i,i=(f++g)->K (vS i) c)):Cf xk #[a] w (Ret K):=ru func75 [] h
theorem pr (a:Value)(b:Option Addr){w K}(h:nA w (.cells (Value.cells a) af) λc d=>∃e:FP [.one .bool],(true/\∃f,Ld ae (vA c 2) d f/\(Option.isSome b=true)/\∃g,Ld ae (Option.map (λi=>i.add 2) b) d g/\uB fU #[f,g] d λi j=>ab i (e true j) ((Option.isSome b=true)/\∃k,Ld ae (Option.map (λl=>l.add 2) b) j k/\true/\∃l,Ld ae (vA c 2) j l/\uB fU #[k,l] j λm n=>e m n))/\∀f,aJ 12 (∀g,e f g->true/\∃i,Ld bV (vA c 22) g (.bool i)/\ab i (true/\∃j,Ld ah (vA c 0) g (vS j)/\(Option.isSome b=true)/\∃k,Ld ah (Option.map (λl=>l.add 0) b) g (vS k)/\ab (j==k) (ab f ((Option.isSome b=true)/\∃l,Ld ah (Option.map (λm=>m.add 21) b) g (vS l)/\true/\∃m,Ld ah (vA c 21) g (vS m)/\uB iJ #[vS l,vS m] g λn o=>K (.bool n) o) (K (.bool false) g)) (K (.bool false) g)) (K (.bool false) g))):Cf bm #[a,.pointer b] w (Ret K):=ru func124 [(2,[(4,.one .bool)])] h
theorem cW (a:Option Addr)(b c:Nat)(d:Option Addr){w K}(h:uI ba #[.slice a b c,.func (.func bm) #[] #[.pointer d]] w λe f=>K (.bool (decide (e >=(0:Int)))) f):Cf bZ #[.slice a b c,.func (.func bm) #[] #[.pointer d]] w (Ret K):=ru func123 [] h
theorem dp (a:Option Addr)(b c:Nat)(d:Option Addr){w K}(h:∃e:Nat->FP [.one (.int .i64)],(∃f,e f (0:Int) w)/\∀f g,aJ 12 (∀i,e f g i->ab (decide (g<((b:Nat):Int))) ((bx g ((b:Nat):Int)/\Option.isSome a=true)/\∃j,Ld af (aq a g 29) i j/\uB bm #[j,.pointer d] i λk l=>ab k (K (vI g) l) (∃m:Nat,m<f/\e m (i64.wrap (g+(1:Int))) l)) (K (vI (-1)) i))):Cf ba #[.slice a b c,.func (.func bm) #[] #[.pointer d]] w (Ret K):=ru func134 [(6,[(8,.one (.int .i64))])] h
theorem dC (a:Option Addr)(b c:Nat)(d e:Option Addr){w K}(h:uI ba #[.slice a b c,.func (.func bQ) #[] #[.pointer d,.pointer e]] w λf g=>ab (f==(-1:Int)) (K (.slice a b c) g) (∃i:Nat->FP [.one (.int .i64),.one (.int .i64)],(∃j,i j f (i64.wrap (f+(1:Int))) g)/\∀j k l,aJ 21 (∀m,i j k l m->ab (decide (l<((b:Nat):Int))) ((bx l ((b:Nat):Int)/\Option.isSome a=true)/\∃n,Ld af (aq a l 29) m n/\nA m (.cells cT af) λo p=>∃q,Sv af (vA o 0) n p q/\∃r,Ld af (vA o 0) q r/\uB bQ #[r,.pointer d,.pointer e] q λs t=>ab (!s) (∃u,Ld af (vA o 0) t u/\(bx k ((b:Nat):Int)/\Option.isSome a=true)/\∃v,Sv af (aq a k 29) u t v/\∃x:Nat,x<j/\i x (i64.wrap (k+(1:Int))) (i64.wrap (l+(1:Int))) v) (∃u:Nat,u<j/\i u k (i64.wrap (l+(1:Int))) t)) (bd k ((b:Nat):Int)/\∃n,(Builtin.clear_ #[aR] jL #[.slice (iG a c (Int.toNat k) 29) (b-(Int.toNat k)) (c-(Int.toNat k))]).run prog m=.ok (.tuple #[]) n/\bd k ((c:Nat):Int)/\K (.slice a (Int.toNat k) c) n)))):Cf cg #[.slice a b c,.func (.func bQ) #[] #[.pointer d,.pointer e]] w (Ret K):=ru func67 [(16,[(5,.one (.int .i64)),(6,.one (.int .i64))])] h
theorem dH (a:Option Addr)(b c:Nat)(d e:Option Addr){w K}(h:∃f:Nat->FP [.one (.int .i64)],(∃g,f g (0:Int) w)/\∀g i,aJ 12 (∀j,f g i j->ab (decide (i<((b:Nat):Int))) ((bx i ((b:Nat):Int)/\Option.isSome a=true)/\∃k,Ld af (aq a i 29) j k/\uB bQ #[k,.pointer d,.pointer e] j λl m=>ab l (K (vI i) m) (∃n:Nat,n<g/\f n (i64.wrap (i+(1:Int))) m)) (K (vI (-1)) j))):Cf ba #[.slice a b c,.func (.func bQ) #[] #[.pointer d,.pointer e]] w (Ret K):=ru func134 [(6,[(8,.one (.int .i64))])] h
theorem R9 {B:Nat} :∀l:List (List UInt8),(∀x∈l,x.length <=B)->(K1 l).length <=l.length*(B+2)
 | [],_=>by simp[K1]
 | [x],h=>by
   have:=h x (List.mem_cons_self ..)
   simp only[K1,List.length_cons,List.length_nil]
   omega
 | x::y::r,h=>by
   have h1:=h x (List.mem_cons_self ..)
   have h2:=R9 (y::r) λz hz=>h z (List.mem_cons_of_mem _ hz)
   show(x++[59,32]++K1 (y::r)).length <=((y::r).length+1)*(B+2)
   rw[List.length_append,List.length_append,Nat.succ_mul]
   have:([59,32]:List UInt8).length=2:=rfl
   omega
def Ti (s:List UInt8):Hst:=⟨1,s,ad0⟩
def hA:Hst:=Ti [97,46,120,46,99,111,109]
def hB:Hst:=Ti [98,46,120,46,99,111,109]
def hY:Hst:=Ti [121,46,99,111,109]
theorem Ns (s:List UInt8)(L:List Kpt)(h:j1 L s <=50):∀f,Nr s f L=L
 | 0=>rfl
 | f+1=>by unfold Nr;rw[if_neg (by omega)]
theorem Nt (L:List Kpt)(h:L.length <=3000):∀f,PH f L=L
 | 0=>rfl
 | f+1=>by unfold PH;rw[if_neg (by omega)]
def PK (t:List UInt8)(R L:List Kpt):Prop:=∃f,L.length <=f/\Nr t f L=R
def PL (R L:List Kpt):Prop:=∃f,L.length <=f/\PH f L=R
theorem PK.next {t:List UInt8}{R L:List Kpt}{last:Int}(s:ShI L last)(h:50<j1 L t)(e:PK t R L):∃k,KS L (λk=>decide (k.site=t))=some k/\k∈L/\PK t R (fq L k.plc):=by
 obtain⟨f,hf,he⟩:=e
 have hp:0<j1 L t:=by omega
 obtain⟨x,hx,hs⟩:=List.countP_pos_iff.1 hp
 obtain⟨k,hk⟩:=KT (of:=λk=>decide (k.site=t)) s hx hs
 have hm:=(Ol s hk).1
 have hd:=zH hm
 cases f with
 | zero=>omega
 | succ f=>
   unfold Nr at he
   rw[if_pos h,hk]at he
   exact⟨k,hk,hm,f,by omega,he⟩
theorem PK.stop {t:List UInt8}{R L:List Kpt}(h: ¬ 50<j1 L t)(e:PK t R L):L=R:=by
 obtain⟨f,hf,he⟩:=e
 rw[<- he,Ns t L (by omega)]
theorem PL.next {R L:List Kpt}{last:Int}(s:ShI L last)(h:3000<L.length)(e:PL R L):∃k,KS L (λ_=>true)=some k/\k∈L/\PL R (fq L k.plc):=by
 obtain⟨f,hf,he⟩:=e
 have hp:0<L.length:=by omega
 obtain⟨k,hk⟩:=KT (of:=λ_=>true) s (List.getElem_mem hp) rfl
 have hm:=(Ol s hk).1
 have hd:=zH hm
 cases f with
 | zero=>omega
 | succ f=>
   unfold PH at he
   rw[if_pos h,hk]at he
   exact⟨k,hk,hm,f,by omega,he⟩
theorem PL.stop {R L:List Kpt}(h: ¬ 3000<L.length)(e:PL R L):L=R:=by
 obtain⟨f,hf,he⟩:=e
 rw[<- he,Nt L (by omega)]
theorem PK.of (t:List UInt8)(L:List Kpt):PK t (Nr t L.length L) L:=⟨_,Nat.le_refl _,rfl⟩
theorem PL.of (L:List Kpt):PL (PH L.length L) L:=⟨_,Nat.le_refl _,rfl⟩
theorem SX (L:List Kpt)(now:Int):(PG L now).length <=L.length:=List.length_filter_le ..
end Go.Pk
