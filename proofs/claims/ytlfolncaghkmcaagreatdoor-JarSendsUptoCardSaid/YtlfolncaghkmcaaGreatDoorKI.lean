/- What the laws lean on: ShW, Col, ShX, AllA, DocA, JarP, AdmE, AdmX, AdmJ, V13, MatB, MatC, AdmL, JarQ, DocE, AllB, SortK, ShelfSortF, JarR, AllC, V11, DocF, JarF, DocG, DocH; what is used. Its conditions: none. -/
import Derived.Test.YtlfolncaghkmcaaGreatDoorKH
import Derived.RangeFuncNested
import Derived.RangeFuncLeaves
import Derived.Shelf.Abstract
import Derived.Shelf.AbstractIn
import Derived.WalkKit
import Derived.OwnWalkIn
import Derived.TacticsInMore
import Derived.RegionIn
import Derived.LoopNIn
import Derived.LoopIn
import Derived.Shelf.SlSortCmp.NoneTotal
variable {n m i j k:Nat}{w:Go.World}{L M:List Go.Pk.Kpt}{a:Int}{t:Go.TypeId}{c:Go.Pk.Cky}{A:Go.Pk.Bl}{s:List UInt8}{P:Go.Program}
open Go.IntKind (i64)
open Go.Proofs.Tryz
set_option linter.unusedVariables false
set_option linter.unusedSectionVars false
set_option linter.unusedSimpArgs false
set_option maxRecDepth 20000
open List (length)
open Option (isSome)
namespace Go.Pk
open Go.RowKit (Below)
open Go.Proofs
theorem dP {P:Program}{w0 w w':World}(h:bW w0 w){o:Obj}(q:k=w.heap.size)(D:w'=w.alloc o):bW w w'/\bW w0 w'/\w0.heap.size <=k:=by
 have e:=(D▸au w _:bW w w')
 exact⟨e,ah h e h.size,by rw[q];exact h.size⟩
structure XY (tk tc:TypeId)(w:World)(ma k4 k6 r:Nat)(M:List (Plc×Kpt))(of:Kpt->Bool)(seen:List Kpt)(left:List (Plc×Kpt))(o:Option Kpt)(m:Nat)(b:Bool)(w':World):Prop where
 hb:bW w w'
 rng:sW Plc.v Kpt.v w' r ma M left
 hp:(M.map (·.2)).Perm (seen++left.map (·.2))
 fst:Ei of seen o
 kb:av w' k6 tk (o.getD mW).cells
 kc:av w' k4 tc je.cells
 eb:b=o.isSome
 em:m=left.length
def TW (L:List Kpt)(of:Kpt->Bool)(w:World)(v:Value)(w':World):Prop:=v=.tuple #[((QA L of).getD mW).c.v,.bool (QA L of).isSome]/\bW w w'
theorem Ol {t:List UInt8}(G:av w n ao [vS t])(k:Kpt):Cf iS #[k.v,.pointer (some ⟨n,0,none⟩)] w (Ret λv w'=>v=.bool (decide (k.site=t))/\bW w w'):=by
 apply Ar
 intro H D E q
 have e:=(q▸au w _:bW w D)
 have a2:av D H bC k.cells:=av.new E q
 refine⟨rfl,_,a2.load1 ax rfl (i:=29) (tA k),_,(G.below e).load1 ax rfl (i:=0) rfl,?_,e⟩
 congr 1
 rw[Bool.eq_iff_iff];simp
theorem Om (k:Kpt):Cf eW #[k.v] w (Ret λv w'=>v=.bool true/\bW w w'):=by
 apply xv
 intro E q D e
 exact⟨rfl,(e▸au w _:bW w q)⟩
theorem LP {p ma c5:Nat}(h:Shf bR p ma c5 L a w){t:List UInt8}(cr:av w n ao [vS t]):
 Cf mV #[.pointer (some ⟨p,0,none⟩),.func (.func iS) #[] #[.pointer (some ⟨n,0,none⟩)]] w (Ret (TW L (λk=>decide (k.site=t)) w)):=by
 obtain⟨ac,S,s,cj,d3⟩:=SS.of h
 have bb:=h.inv
 apply rS
 intro O dr bc bz k6 D bj b0
 obtain⟨b8,b5,c1⟩:=dP (P:=prog) (Below.refl w.heap.size w) bc bz
 obtain⟨ag,Z,c2⟩:=dP (P:=prog) b5 bj b0
 have a4:av dr O af je.cells:=av.new bc bz
 have a6:av D k6 bC mW.cells:=av.new bj b0
 have c6:O≠k6:=by have:=a4.lt;omega
 have an:=(s.below b8).below ag
 refine⟨rfl,rfl,some ma,EH an,?_⟩
 obtain⟨dn,ct,dk,ad⟩:=Gv dj an.mM (P:=prog)
 have c4:w.heap.size <=D.heap.size:=Z.size
 have dc:D.heap.size≠ma:=by have:=an.mM.lt;omega
 have b2:O≠D.heap.size:=by have:=(a4.below ag).lt;omega
 have al:k6≠D.heap.size:=by have:=a6.lt;omega
 refine⟨dn,_,ct,λm b w'=>∃seen left o,XY bC af w ma O k6 D.heap.size ac (λk=>decide (k.site=t)) seen left o m b w',
  ⟨_,[],ac,none,ah Z ad Z.size,dk,by simp,(λk cn=>by cases cn),a6.below ad,(a4.below ag).below ad,rfl,rfl⟩,?_⟩
 intro m b
 refine aP.of ?_ _
 rintro d0 ⟨seen,left,o,e⟩
 rcases e.rng.step dc xk (P:=prog)with⟨rfl,hn⟩|⟨l1,kk,x,l2,w16,rfl,hn,rng2,hen,hg⟩
 ·refine .inl ⟨d0,hn,rfl,(o.getD mW).c.v,aC.load e.kb (i:=0) (us:=(o.getD mW).c.cells) (Cky.len (o.getD mW).ok) (λj cl=>by rw[Nat.zero_add];exact oZ _ cl),?_⟩
  have cp:o=QA L (λk=>decide (k.site=t)):=by
   have bq:=e.hp
   rw[List.map_nil,List.append_nil]at bq
   exact Ei.one bb (e.fst.perm (bq.symm.trans cj.perm)) (DW bb)
  refine aC.fin (Cky.len (o.getD mW).ok) (Cky.one _) e.kc (Cky.len (by rfl)) e.hb c1 λU ck=>⟨?_,ck⟩
  rw[e.eb,cp];rfl
 ·refine .inr ⟨w16,kk.v,x.v,hn,kk.v,x.v,hen,?_⟩
  intro k9 ds bk b1
  have B16:=Below.put e.hb hg c4
  obtain⟨H,b6,c3⟩:=dP (P:=prog) B16 bk b1
  have b9:=(e.kc.grown hg (bw b2)).below H
  have cb:=(e.kb.grown hg (bw al)).below H
  have b7:av ds k9 bC mW.cells:=av.new bk b1
  obtain⟨U,cu,G,M⟩:=ur.store0 (Kpt.len x) (Kpt.one _) b7 (Kpt.len _)
  have B9x:=Below.put b6 M c3
  have c7:O≠k9:=by have:=(e.kc.grown hg (bw b2)).lt;omega
  have c8:k6≠k9:=by have:=(e.kb.grown hg (bw al)).lt;omega
  have dd:D.heap.size≠k9:=by have:=rng2.lt;omega
  have c9:ma≠k9:=by have:=s.l2;omega
  have cc:=b9.grown M (bw c7)
  have E:=cb.grown M (bw c8)
  have dl:=(rng2.below H).keep (M.block _ (rng2.below H).lt (bw dd)) (M.block _ (rng2.below H).map.lt (bw c9))
  refine⟨U,cu,?_⟩
  have b4:x.cells[27]? =some (vI x.c.used):=(oZ x (by decide)).trans (be x.ok 7)
  have dg:x.cells[28]? =some (vI x.c.seq):=(oZ x (by decide)).trans (be x.ok 8)
  refine eJ (w:=U) (yv o x) ?_ ?_
  ·cases o with
   |none=>rw[e.eb];exact ai.yes rfl ⟨rfl,rfl⟩
   |some y=>
    have E:av U k6 bC y.cells:=E
    have b3:y.cells[27]? =some (vI y.c.used):=(oZ y (by decide)).trans (be y.ok 7)
    have de:y.cells[28]? =some (vI y.c.seq):=(oZ y (by decide)).trans (be y.ok 8)
    rw[e.eb]
    refine ai.no rfl ⟨rfl,rfl,_,G.load1 bn rfl (i:=27) b4,rfl,rfl,_,E.load1 bn rfl (i:=27) b3,?_⟩
    refine ai.of (λq=>⟨rfl,?_⟩) (λq=>?_)
    ·have:x.c.used<y.c.used:=by simpa using q
     simp[yv,this]
    ·have ce: ¬ x.c.used<y.c.used:=by simpa using q
     refine⟨rfl,rfl,_,G.load1 bn rfl (i:=27) b4,rfl,rfl,_,E.load1 bn rfl (i:=27) b3,?_⟩
     refine ai.of (λq=>?_) (λq=>⟨rfl,?_⟩)
     ·have aj:x.c.used=y.c.used:=by simpa using q
      refine⟨rfl,rfl,_,G.load1 br rfl (i:=28) dg,rfl,rfl,_,E.load1 br rfl (i:=28) de,rfl,?_⟩
      simp[yv,aj]
     ·have aj: ¬ x.c.used=y.c.used:=by simpa using q
      simp[yv,ce,aj]
  ·refine qs (λb w'=>b=(decide (x.site=t)&&yv o x)/\bW U w') ?_ ?_
   ·refine⟨x.v,ur.load0 G (Kpt.len x),?_⟩
    refine az (Ol (cr.below B9x) x) ?_
    rintro _ d4 ⟨rfl,a9⟩
    refine⟨_,rfl,ai.of (λq=>⟨?_,a9⟩) (λq=>⟨?_,a9⟩)⟩
    ·rw[q,Bool.true_and]
    ·rw[q,Bool.false_and]
   ·rintro d2 d5 ⟨rfl,I⟩
    have ar:=ah B9x I B9x.size
    have a8:=E.below I
    have a0:=cc.below I
    have cf:=G.below I
    have Y:=dl.below I
    have bs:(ac.map (·.2)).Perm ((seen++[x])++(l1++l2).map (·.2)):=by
     refine e.hp.trans ?_
     rw[List.map_append,List.map_cons,List.map_append,List.append_assoc]
     exact List.Perm.append_left _ List.perm_middle
    have V:=e.fst.step x
    have bp:(l1++l2).length<m:=by rw[e.em];simp
    refine ai.of (λq=>?_) (λq=>?_)
    ·obtain⟨d1,c0,ch,X⟩:=ur.store0 (Kpt.len x) (Kpt.one _) a8 (Kpt.len _)
     rw[show(decide (x.site=t)&&yv o x)=true from q]at V
     refine⟨x.v,ur.load0 cf (Kpt.len x),d1,c0,_,bp,seen++[x],l1++l2,some x,Below.put ar X c2,?_,bs,V,ch,a0.grown X (bw c6),rfl,rfl⟩
     exact Y.keep (X.block _ Y.lt (bw (Ne.symm al))) (X.block _ Y.map.lt (bw (by have:=s.l2;omega)))
    ·rw[show(decide (x.site=t)&&yv o x)=false from q]at V
     exact⟨_,bp,seen++[x],l1++l2,o,ar,Y,bs,V,a8,a0,e.eb,rfl⟩
theorem Ku {p Z ac:Nat}(h:Shf bR p Z ac L a w)(t:List UInt8):
 Cf uj #[.pointer (some ⟨p,0,none⟩),vS t] w (Ret (TW L (λk=>decide (k.site=t)) w)):=by
 apply CH
 intro V ad E H X ag G I
 obtain⟨O,M,aj⟩:=dP (P:=prog) (Below.refl w.heap.size w) E H
 obtain⟨q,e,Y⟩:=dP (P:=prog) M G I
 have a3:av ad V ao [vS t]:=av.new E H
 have a4:av ag X af je.cells:=av.new G I
 refine az (LP ((h.below O).below q) (a3.below q)) ?_
 rintro _ al ⟨rfl,D⟩
 refine⟨_,_,rfl,?_⟩
 exact aC.fin (Cky.len ((QA L (λk=>decide (k.site=t))).getD mW).ok) (Cky.one _) (a4.below D) (Cky.len (by rfl)) (ah e D e.size) Y λan U=>⟨rfl,U⟩
def rF:Ty Cky where
 k:=29
 pos:=by decide
 rep:=λ_ _ vs c=>vs=c.cells/\c.ok
 len:=λh=>by rw[h.1];exact Cky.len h.2
 one:=fun{_ _ _ x} h v hv=>by rw[h.1]at hv;exact Cky.one x v hv
 keep:=λh _=>h
 mono:=λh _=>h
theorem qz:Flat rF:=λ_ _ _ _ _ _ h=>h
theorem Whl.elem {α:Type}{T:Ty α}(D:Whl P t n)(G:T.k=n){a:Option Addr}{l c:Nat}{xs:List α}(h:Sl T w A a l c xs)(E:i<xs.length):
 ∃vs,(Instr.loadAt t (.pointer (aw a (i:Int) n))).run P w=.ok (.agg vs.toArray) w/\T.rep w A vs xs[i]:=by
 obtain⟨bytes,z,M⟩:=D.tf
 obtain⟨O,I,H,_,_⟩:=M.info
 have e:=D.ag
 cases q:P.underlying t with
 |none=>rw[q]at e;cases e
 |some d=>
  rw[q]at e
  simp only[Option.map_some,Option.some.injEq]at e
  have:=h.loadA q e I G H (i:=(i:Int)) (by simpa using E)
  simpa using this
theorem fj (D:Whl P t 29){a:Option Addr}{l c:Nat}{xs:List Cky}(h:Sl rF w A a l c xs)(q:i<xs.length):
 (Instr.loadAt t (.pointer (aw a (i:Int) 29))).run P w=.ok xs[i].v w/\xs[i].ok:=by
 obtain⟨vs,h1,e,o⟩:=D.elem (T:=rF) rfl h q
 subst e
 exact⟨h1,o⟩
theorem Rz {α:Type}{T:Ty α}(Z:Flat T){st t ty:TypeId}{bytes:Nat}{z:Value}(a8:P.underlying st=some (.slice t))(bc:TF P t T.k bytes z)(X:0<bytes)
 {w0 w w1:World} {a:Option Addr} {n c:Nat} {xs:List α} (aj:Ow T t w NoB a n c xs) (H:ci w0.heap.size a) (E:bW w0 w) {D:Nat} {vs:List Value} {x:α} (ad:D=w.heap.size)
 (M:w1=w.alloc (.cells vs.toArray t)) (a9:T.rep w NoB vs x) {cm:Nat} (Y:(xs.length+1)*bytes <=140737488355328):
 ∃(q:World) (a':Option Addr) (O c':Nat),(Builtin.append_ #[st,st] ty #[.slice a n c,.slice (some ⟨D,0,none⟩) 1 cm]).run P w1=.ok (.slice a' O c') q/\Ow T t q NoB a' O c' (xs++[x])/\ci w0.heap.size a'/\bW w0 q/\
  ∀b,b<w.heap.size->j0 a≠some b->q.heap[b]? =w.heap[b]? :=by
 have e:bW w w1:=M▸au w _
 have al:=aj.below e
 have a0:Src T w1 NoB (some ⟨D,0,none⟩) 1 [x]:=Src.new1F Z ad M a9
 obtain⟨bj,a4,bb,U,ar,an,I,ac⟩:=j6 (ty:=ty) a8 bc X al (λ_ _ h=>h) (cm:=cm) a0 (by simpa using Y)
 have hB:=ah E e E.size
 refine⟨bj,a4,bb,U,ar,an,H.app hB.size ac,hB.grown I hB.size H,λb G ag=>?_⟩
 rw[I.block b (Nat.lt_of_lt_of_le G e.size) (λV=>ag V.symm),e.block b G]
theorem Ta (o:c.ok)(w:World):(Instr.buildSlice aN 1 #[(0,c.v)]).run prog w=.ok (.slice (some ⟨w.heap.size,0,none⟩) 1 1) (w.alloc (.cells c.cells.toArray af)):=by
 obtain⟨H,val,⟨G,D,a⟩,only,I,M,E,same,q,e,O,seq⟩:=c
 obtain⟨U,V,aj,al,an,ar,a0,a8,a9,bb,X,Y,Z,ac,ad,ag,rfl⟩:=oS a o
 kernel_rfl
theorem nJ {w0 w:World}{a:Option Addr}{n c:Nat}{xs:List Cky}(M:Ow rF af w NoB a n c xs)(I:ci w0.heap.size a)(H:bW w0 w){x:Cky}(o:x.ok)(O:xs.length <=1000000):
 ∃(G:World) (a1:Option Addr) (D q:Nat),(Instr.buildSlice aN 1 #[(0,x.v)]).run prog w=.ok (.slice a1 D q) G/\
  ∃(e:World) (a':Option Addr) (E c':Nat),(Builtin.append_ #[aN,aN] aN #[.slice a n c,.slice a1 D q]).run prog G=.ok (.slice a' E c') e/\
   Ow rF af e NoB a' E c' (xs++[x])/\ci w0.heap.size a'/\bW w0 e/\∀b,b<w.heap.size->j0 a≠some b->e.heap[b]? =w.heap[b]? :=
 ⟨_,_,_,_,Ta o w,Rz qz sC yD (by decide) M I H rfl rfl ⟨rfl,o⟩ (by omega)⟩
def HP (L:List Kpt)(ps:List Plc):List Kpt:=ps.foldl iI L
theorem Pe (L:List Kpt)(e:List Plc)(p:Plc):HP L (e++[p])=iI (HP L e) p:=by unfold HP;rw[List.foldl_append];rfl
theorem Jv:∀(e:List Plc) (L:List Kpt),HP L e=L.filter λk=> !decide (k.plc∈e)
 |[],L=>by
  show L=_
  rw[List.filter_eq_self.2]
  intro k _;simp
 |p::e,L=>by
  show HP (iI L p) e=_
  rw[Jv e]
  unfold iI
  rw[List.filter_filter]
  exact List.filter_congr λk _=>by
   rw[Bool.eq_iff_iff]
   simp[and_comm]
theorem Sk (s:ShI L a)(now:Int)(h:M.Perm (L.filter λk=>decide (k.c.exp <=now))):HP L (M.map Kpt.plc)=sO L now:=by
 rw[Jv]
 unfold sO
 refine List.filter_congr λk q=>?_
 rw[Bool.eq_iff_iff]
 simp only[Bool.not_eq_true',dFx,dTx]
 constructor
 ·intro D
  have: ¬ k.c.exp <=now:=λc=>D (List.mem_map.2 ⟨k,h.mem_iff.2 (List.mem_filter.2 ⟨q,by simpa using c⟩),rfl⟩)
  omega
 ·intro D G
  obtain⟨x,H,E⟩:=List.mem_map.1 G
  have e:=List.mem_filter.1 (h.mem_iff.1 H)
  rw[s.one e.1 q E]at e
  have:=e.2
  simp at this;omega
theorem Rg (e:List Plc)(L:List Kpt):(HP L e).length <=L.length:=by rw[Jv];exact List.length_filter_le ..
structure Ya (t:TypeId)(w:World)(p ma ms r:Nat)(M:List (Plc×Kpt))(now:Int)(seen:List Kpt)(left:List (Plc×Kpt))(m:Nat)(a:Option Addr)(l c:Nat)(w':World):Prop where
 hb:bW w w'
 rng:sW Plc.v Kpt.v w' r ma M left
 hp:(M.map (·.2)).Perm (seen++left.map (·.2))
 row:Ow rF t w' NoB a l c ((seen.filter λk=>decide (k.c.exp <=now)).map Kpt.c)
 fr:ci w.heap.size a
 em:m=left.length
theorem LQ {p ma c4:Nat}(h:Shf bR p ma c4 L a w):
 Cf mV #[.pointer (some ⟨p,0,none⟩),.func (.func eW) #[] #[]] w (Ret (TW L (λ_=>true) w)):=by
 obtain⟨ac,S,s,cj,d2⟩:=SS.of h
 have bb:=h.inv
 apply ql
 intro O dn bc bz k6 D bj b0
 obtain⟨b8,b5,c0⟩:=dP (P:=prog) (Below.refl w.heap.size w) bc bz
 obtain⟨ag,Z,c1⟩:=dP (P:=prog) b5 bj b0
 have a4:av dn O af je.cells:=av.new bc bz
 have a6:av D k6 bC mW.cells:=av.new bj b0
 have c5:O≠k6:=by have:=a4.lt;omega
 have an:=(s.below b8).below ag
 refine⟨rfl,rfl,some ma,EH an,?_⟩
 obtain⟨dl,cr,dg,ad⟩:=Gv dj an.mM (P:=prog)
 have c3:w.heap.size <=D.heap.size:=Z.size
 have c9:D.heap.size≠ma:=by have:=an.mM.lt;omega
 have b2:O≠D.heap.size:=by have:=(a4.below ag).lt;omega
 have al:k6≠D.heap.size:=by have:=a6.lt;omega
 refine⟨dl,_,cr,λm b w'=>∃seen left o,XY bC af w ma O k6 D.heap.size ac (λ_=>true) seen left o m b w',
  ⟨_,[],ac,none,ah Z ad Z.size,dg,by simp,(λk cn=>by cases cn),a6.below ad,(a4.below ag).below ad,rfl,rfl⟩,?_⟩
 intro m b
 refine aP.of ?_ _
 rintro ds ⟨seen,left,o,e⟩
 rcases e.rng.step c9 xk (P:=prog)with⟨rfl,hn⟩|⟨l1,kk,x,l2,w16,rfl,hn,rng2,hen,hg⟩
 ·refine .inl ⟨ds,hn,rfl,(o.getD mW).c.v,aC.load e.kb (i:=0) (us:=(o.getD mW).c.cells) (Cky.len (o.getD mW).ok) (λj cl=>by rw[Nat.zero_add];exact oZ _ cl),?_⟩
  have cp:o=QA L (λ_=>true):=by
   have bq:=e.hp
   rw[List.map_nil,List.append_nil]at bq
   exact Ei.one bb (e.fst.perm (bq.symm.trans cj.perm)) (DW bb)
  refine aC.fin (Cky.len (o.getD mW).ok) (Cky.one _) e.kc (Cky.len (by rfl)) e.hb c0 λU ck=>⟨?_,ck⟩
  rw[e.eb,cp];rfl
 ·refine .inr ⟨w16,kk.v,x.v,hn,kk.v,x.v,hen,?_⟩
  intro k9 dr bk b1
  have B16:=Below.put e.hb hg c3
  obtain⟨H,b6,c2⟩:=dP (P:=prog) B16 bk b1
  have b9:=(e.kc.grown hg (bw b2)).below H
  have cb:=(e.kb.grown hg (bw al)).below H
  have b7:av dr k9 bC mW.cells:=av.new bk b1
  obtain⟨U,ct,G,M⟩:=ur.store0 (Kpt.len x) (Kpt.one _) b7 (Kpt.len _)
  have B9x:=Below.put b6 M c2
  have c6:O≠k9:=by have:=(e.kc.grown hg (bw b2)).lt;omega
  have c7:k6≠k9:=by have:=(e.kb.grown hg (bw al)).lt;omega
  have dc:D.heap.size≠k9:=by have:=rng2.lt;omega
  have c8:ma≠k9:=by have:=s.l2;omega
  have cc:=b9.grown M (bw c6)
  have E:=cb.grown M (bw c7)
  have dk:=(rng2.below H).keep (M.block _ (rng2.below H).lt (bw dc)) (M.block _ (rng2.below H).map.lt (bw c8))
  refine⟨U,ct,?_⟩
  have b4:x.cells[27]? =some (vI x.c.used):=(oZ x (by decide)).trans (be x.ok 7)
  have de:x.cells[28]? =some (vI x.c.seq):=(oZ x (by decide)).trans (be x.ok 8)
  refine eJ (w:=U) (yv o x) ?_ ?_
  ·cases o with
   |none=>rw[e.eb];exact ai.yes rfl ⟨rfl,rfl⟩
   |some y=>
    have E:av U k6 bC y.cells:=E
    have b3:y.cells[27]? =some (vI y.c.used):=(oZ y (by decide)).trans (be y.ok 7)
    have dd:y.cells[28]? =some (vI y.c.seq):=(oZ y (by decide)).trans (be y.ok 8)
    rw[e.eb]
    refine ai.no rfl ⟨rfl,rfl,_,G.load1 bn rfl (i:=27) b4,rfl,rfl,_,E.load1 bn rfl (i:=27) b3,?_⟩
    refine ai.of (λq=>⟨rfl,?_⟩) (λq=>?_)
    ·have:x.c.used<y.c.used:=by simpa using q
     simp[yv,this]
    ·have ce: ¬ x.c.used<y.c.used:=by simpa using q
     refine⟨rfl,rfl,_,G.load1 bn rfl (i:=27) b4,rfl,rfl,_,E.load1 bn rfl (i:=27) b3,?_⟩
     refine ai.of (λq=>?_) (λq=>⟨rfl,?_⟩)
     ·have aj:x.c.used=y.c.used:=by simpa using q
      refine⟨rfl,rfl,_,G.load1 br rfl (i:=28) de,rfl,rfl,_,E.load1 br rfl (i:=28) dd,rfl,?_⟩
      simp[yv,aj]
     ·have aj: ¬ x.c.used=y.c.used:=by simpa using q
      simp[yv,ce,aj]
  ·refine qs (λb w'=>b=(true&&yv o x)/\bW U w') ?_ ?_
   ·refine⟨x.v,ur.load0 G (Kpt.len x),?_⟩
    refine az (Om x) ?_
    rintro _ d3 ⟨rfl,a9⟩
    refine⟨_,rfl,ai.of (λq=>⟨?_,a9⟩) (λq=>⟨?_,a9⟩)⟩
    ·rw[q,Bool.true_and]
    ·rw[q,Bool.false_and]
   ·rintro d1 d4 ⟨rfl,I⟩
    have ar:=ah B9x I B9x.size
    have a8:=E.below I
    have a0:=cc.below I
    have cf:=G.below I
    have Y:=dk.below I
    have bs:(ac.map (·.2)).Perm ((seen++[x])++(l1++l2).map (·.2)):=by
     refine e.hp.trans ?_
     rw[List.map_append,List.map_cons,List.map_append,List.append_assoc]
     exact List.Perm.append_left _ List.perm_middle
    have V:=e.fst.step x
    have bp:(l1++l2).length<m:=by rw[e.em];simp
    refine ai.of (λq=>?_) (λq=>?_)
    ·obtain⟨d0,cu,ch,X⟩:=ur.store0 (Kpt.len x) (Kpt.one _) a8 (Kpt.len _)
     rw[show(true&&yv o x)=true from q]at V
     refine⟨x.v,ur.load0 cf (Kpt.len x),d0,cu,_,bp,seen++[x],l1++l2,some x,Below.put ar X c1,?_,bs,V,ch,a0.grown X (bw c5),rfl,rfl⟩
     exact Y.keep (X.block _ Y.lt (bw (Ne.symm al))) (X.block _ Y.map.lt (bw (by have:=s.l2;omega)))
    ·rw[show(true&&yv o x)=false from q]at V
     exact⟨_,bp,seen++[x],l1++l2,o,ar,Y,bs,V,a8,a0,e.eb,rfl⟩
theorem Ev {p O U:Nat}(h:Shf bR p O U L a w):
 Cf rc #[.pointer (some ⟨p,0,none⟩)] w (Ret (TW L (λ_=>true) w)):=by
 apply zp
 intro I V D E
 obtain⟨G,e,M⟩:=dP (P:=prog) (Below.refl w.heap.size w) D E
 have a4:av V I af je.cells:=av.new D E
 refine az (LQ (h.below G)) ?_
 rintro _ X ⟨rfl,q⟩
 refine⟨_,_,rfl,?_⟩
 exact aC.fin (Cky.len ((QA L (λ_=>true)).getD mW).ok) (Cky.one _) (a4.below q) (Cky.len (by rfl)) (ah e q e.size) M λY H=>⟨rfl,H⟩
def Yb (p ma ms:Nat)(L:List Kpt)(last:Int)(now:Int)(w:World)(v:Value)(w':World):Prop:=(∃n:Int,v=vI n)/\Shf bR p ma ms (sO L now) last w'/\Chg [p,ma,ms] w w'
theorem Dq {p ma D:Nat}{last:Int}(h:Shf bR p ma D L last w)(dl:L.length <=1000000)(now:Int):
 Cf rC #[.pointer (some ⟨p,0,none⟩),vI now] w (Ret (Yb p ma D L last now w)):=by
 obtain⟨M,S,s,bc,dc⟩:=SS.of h
 have cf:=h.inv
 have cc:M.length=L.length:=by have:=bc.perm.length_eq;rwa [List.length_map]at this
 apply CG
 refine⟨rfl,rfl,some ma,EH s,?_⟩
 obtain⟨c6,cp,c3,b3⟩:=Gv dj s.mM (P:=prog)
 have c1:w.heap.size≠ma:=by have:=s.l2;omega
 refine⟨c6,_,cp,λm a l c w'=>∃seen left,Ya af w p ma D w.heap.size M now seen left m a l c w',
  ⟨_,[],M,b3,c3,by simp,Ow.nil _ _ _ _,ci.none _,rfl⟩,?_⟩
 intro m a5 cu b5
 refine aP.of ?_ _
 rintro wl ⟨seen,left,e⟩
 rcases e.rng.step c1 xk (P:=prog)with⟨rfl,hn⟩|⟨H,kk,x,I,w16,rfl,hn,rng2,hen,U⟩
 ·refine .inl ⟨wl,hn,?_⟩
  have cn:L.Perm seen:=by
   have:=e.hp
   rw[List.map_nil,List.append_nil]at this
   exact bc.perm.symm.trans this
  generalize a9:(seen.filter λk=>decide (k.c.exp <=now))=E at*
  have bb:E.Perm (L.filter λk=>decide (k.c.exp <=now)):=by rw[<- a9];exact(cn.symm.filter _)
  have ac:=e.row
  rw[a9]at ac
  have X:=ac.len
  rw[List.length_map]at X
  have ct:Shf bR p ma D L last wl:=h.below e.hb
  have c9:E.length <=L.length:=by rw[bb.length_eq];exact List.length_filter_le ..
  have H:=s.l1
  have I:=s.l2
  have ds:=s.l3
  refine⟨λm i w'=>∃k:Nat,k <=E.length/\i=(k:Int)/\m=E.length-k/\Shf bR p ma D (HP L ((E.take k).map Kpt.plc)) last w'/\Chg [p,ma,D] wl w',
   ⟨_,0,by omega,rfl,rfl,ct,Chg.refl _ _⟩,?_⟩
  intro m i
  refine aP.of ?_ _
  rintro Z ⟨k,de,rfl,rfl,aj,O⟩
  refine ai.of (λG=>?_) (λG=>?_) <;> simp only[dTx,dFx]at G
  ·have G:k<E.length:=by omega
   have al:Sl rF Z (λb=>w.heap.size <=b) a5 cu b5 (E.map Kpt.c):=by
    refine(ac.sl (A':=λb=>w.heap.size <=b) (λ_ _ ad=>ad.elim) (λg U=>e.fr g U)).keep ⟨O.size,λb ad dd=>O.block b ad (λcj=>?_)⟩
    simp only[List.mem_cons,List.not_mem_nil,or_false]at cj
    omega
   have bp:k<(E.map Kpt.c).length:=by rw[List.length_map];exact G
   obtain⟨bk,o⟩:=fj aC al bp
   rw[List.getElem_map]at bk o
   refine⟨⟨⟨by omega,by omega⟩,al.isSome bp⟩,_,bk,?_⟩
   refine aC.new (zs:=je.cells) (cs:=E[k].c.cells) rfl (Cky.len o) (Cky.one _) Z λdr d2 dk cb bj=>?_
   refine⟨_,aC.load0 cb (Cky.len o),?_⟩
   refine az (yB (aj.below bj) (Nat.le_trans (Rg _ _) (by omega)) o) ?_
   rintro _ d0 ⟨rfl,cr,ce⟩
   refine⟨_,rfl,E.length-(k+1),by omega,k+1,by omega,by rw[wrap_i64 (by omega) (by omega)];omega,rfl,?_,(O.step bj).trans ce⟩
   rw[List.take_succ_eq_append_getElem G,List.map_append,List.map_cons,List.map_nil,Pe]
   exact cr
  ·have:k=E.length:=by omega
   subst this
   rw[List.take_length,Sk cf now bb]at aj
   exact⟨⟨_,rfl⟩,aj,(Chg.of e.hb).trans O⟩
 ·refine .inr ⟨w16,kk.v,x.v,hn,kk.v,x.v,hen,?_⟩
  have B16:=Below.put e.hb U (Nat.le_refl _)
  have bs:∀g,j0 a5=some g->g≠w.heap.size:=λg V q=>by
   have h1:=e.rng
   obtain⟨_,_,_,_,_,an,_⟩:=h1
   obtain⟨_,_,_,c2⟩:=e.row
   rcases c2 with⟨ar,_⟩|⟨b9,cur,c8,ar,b0,_⟩
   ·rw[ar]at V;cases V
   ·rw[ar]at V
    cases V
    have q:b9=w.heap.size:=q
    rw[q,an]at b0
    cases b0
  have c4:=e.row.put bs U
  have bq:(M.map (·.2)).Perm ((seen++[x])++(H++I).map (·.2)):=by
   refine e.hp.trans ?_
   rw[List.map_append,List.map_cons,List.map_append,List.append_assoc]
   exact List.Perm.append_left _ List.perm_middle
  have X:(H++I).length<m:=by rw[e.em];simp
  have al:(seen.filter λk=>decide (k.c.exp <=now)).length <=L.length:=by
   have h1:=e.hp.length_eq
   rw[List.length_map,cc,List.length_append]at h1
   have:=List.length_filter_le (λk:Kpt=>decide (k.c.exp <=now)) seen
   omega
  refine ur.new (zs:=mW.cells) (cs:=x.cells) (Kpt.len mW) (Kpt.len x) (Kpt.one _) w16 λdn d1 dg a8 ag=>?_
  have a0:=ah B16 ag B16.size
  have Y:=rng2.below ag
  have b1:=c4.below ag
  refine⟨rfl,rfl,_,a8.load1 bn rfl (i:=25) ((oZ x (by decide)).trans (be x.ok 5)),ai.of (λq=>?_) (λq=>?_)⟩ <;> simp only[dTx,dFx]at q
  ·refine⟨rfl,x.c.v,aC.load a8 (i:=0) (us:=x.c.cells) (Cky.len x.ok) (λj ch=>by rw[Nat.zero_add];exact oZ _ ch),?_⟩
   obtain⟨Z,a1,an,b4,b6,c7,a',c0,c',b7,c5,b8,b2,bz⟩:=nJ b1 e.fr a0 x.ok (by rw[List.length_map];omega)
   refine⟨Z,a1,an,b4,b6,c7,a',c0,c',b7,_,X,seen++[x],H++I,b2,?_,bq,?_,b8,rfl⟩
   ·have ck:j0 a5≠some w.heap.size:=λq=>bs _ q rfl
    have cl:j0 a5≠some ma:=λq=>by have:=e.fr _ q;have:=s.l2;omega
    exact Y.keep (bz _ Y.lt ck) (bz _ Y.map.lt cl)
   ·rw[List.filter_append,List.filter_cons,if_pos (by simpa using q),List.filter_nil,List.map_append]
    exact c5
  ·refine⟨_,X,seen++[x],H++I,a0,Y,bq,?_,e.fr,rfl⟩
   rw[List.filter_append,List.filter_cons,if_neg (by simpa using q),List.filter_nil,List.append_nil]
   exact b1
section
variable {F:Fence} {n:Nat} {P:Program} {ops:Array Oper} {Q:Exit->Act->World->Prop} {a:Act} {w:World} {rest:List Oper} {o:Oper}
theorem ve (H:o.guard=none)(G:∀c,o.op≠.defer c)(E:o.about P w a.eval=none){v:Value}{w':World}(I:(execOp a.eval o).run P w=.ok (.value v) w')(q:wpListIn F n P ops Q rest (a.put o.dst v) w'):wpListIn F n P ops Q (o::rest) a w:=by
 refine wpListIn_plain H λK D=>⟨λf e=>?_,?_⟩
 ·rw[E]at e;cases e
 ·rw[Oper.semAt_plain F _ _ G,I]
  exact D _ _ q
theorem Pu (H:o.guard=none)(G:∀c,o.op≠.defer c)(E:o.about P w a.eval=none){w':World}(I:(execOp a.eval o).run P w=.ok .skip w')(q:wpListIn F n P ops Q rest (a.put o.dst undef) w'):wpListIn F n P ops Q (o::rest) a w:=by
 refine wpListIn_plain H λK D=>⟨λf e=>?_,?_⟩
 ·rw[E]at e;cases e
 ·rw[Oper.semAt_plain F _ _ G,I]
  exact D _ _ q
theorem Fz (E:o.guard=none){x:Operand}(e:o.op=.load t x){p:Value}(H:a.eval x=p){v:Value}(G:(Instr.loadAt t p).run P w=.ok v w)(q:wpListIn F n P ops Q rest (a.put o.dst v) w):wpListIn F n P ops Q (o::rest) a w:=
 ve E (by rw[e];intro c D;cases D) (by simp[Oper.about,e]) (by simp[execOp,e,H,G,Result.andThen]) q
theorem C9 (E:o.guard=none){x y:Operand}(e:o.op=.store t x y){p u:Value}(H:a.eval x=p)(I:a.eval y=u){w':World}(G:(Instr.storeAt t p u).run P w=.ok () w')(q:wpListIn F n P ops Q rest (a.put o.dst undef) w'):wpListIn F n P ops Q (o::rest) a w:=
 Pu E (by rw[e];intro c D;cases D) (by simp[Oper.about,e]) (by simp[execOp,e,H,I,G,Result.andThen]) q
theorem Oi (E:o.guard=none){x:Operand}(e:o.op=.range t x){p:Value}(H:a.eval x=p){v:Value}{w':World}(G:(Instr.range t p).run P w=.ok v w')(q:wpListIn F n P ops Q rest (a.put o.dst v) w'):wpListIn F n P ops Q (o::rest) a w:=
 ve E (by rw[e];intro c D;cases D) (by simp[Oper.about,e]) (by simp[execOp,e,H,G,Result.andThen]) q
theorem JN (E:o.guard=none){x:Operand}(e:o.op=.next x false){p:Value}(H:a.eval x=p){v:Value}{w':World}(G:(Instr.next p false o.type).run P w=.ok v w')(q:wpListIn F n P ops Q rest (a.put o.dst v) w'):wpListIn F n P ops Q (o::rest) a w:=
 ve E (by rw[e];intro c D;cases D) (by simp[Oper.about,e]) (by simp[execOp,e,H,G,Result.andThen]) q
theorem Oh (E:o.guard=none){x:Operand}(e:o.op=.entry x){p:Value}(H:a.eval x=p){v:Value}{w':World}(G:(Instr.entry p).run P w=.ok v w')(q:wpListIn F n P ops Q rest (a.put o.dst v) w'):wpListIn F n P ops Q (o::rest) a w:=
 ve E (by rw[e];intro c D;cases D) (by simp[Oper.about,e]) (by simp[execOp,e,H,G,Result.andThen]) q
theorem HV (E:o.guard=none)(e:o.op=.alloc t){v:Value}{w':World}(G:(Instr.alloc t true (.tuple #[])).run P w=.ok v w')(q:wpListIn F n P ops Q rest (a.put o.dst v) w'):wpListIn F n P ops Q (o::rest) a w:=
 ve E (by rw[e];intro c D;cases D) (by simp[Oper.about,e]) (by simp[execOp,e,G,Result.andThen]) q
end
def Rq (w:World)(b r:Nat):Nat:=
 match w.heap[b]?,w.heap[r]? with
 |some (.map es _),some (.mapIter _ _ seen _)=>(leftOf es seen).size
 |_,_=>0
theorem sW.leftN {α e:Type}[DecidableEq α]{q:α->Value}{D:e->Value}{r m:Nat}{I left:List (α×e)}(h:sW q D w r m I left):Go.Pk.Rq w m r=left.length:=by
 obtain⟨ad,seen,M,O,clock,H,G,V,X,U,Y,Z,ac,E⟩:=h
 unfold Go.Pk.Rq
 rw[G,H]
 have:=Pt E
 rw[Array.length_toList]at this
 exact this
theorem sW.walks {α E:Type}{e:α->Value}{q:E->Value}{w w':World}{r m:Nat}{D left:List (α×E)}(h:sW e q w r m D left)(k:KeepsWalks w w'):sW e q w' r m D left:=by
 obtain⟨U,seen,G,H,clock,O,M,I⟩:=h
 exact⟨U,seen,G,H,clock,k.same _ _ O rfl,k.same _ _ M rfl,I⟩
theorem sW.walk {α e:Type}{q:α->Value}{D:e->Value}{r m:Nat}{G left:List (α×e)}(h:sW q D w r m G left):∃o:Obj,w.heap[r]? =some o/\o.isWalk=true:=by
 obtain⟨M,seen,H,I,clock,E,_⟩:=h
 exact⟨_,E,rfl⟩
theorem Fv {w w':World}(e:bW w w'):w.grownBy w' none:=⟨e.os,e.tape,e.output,e.size,λk q _=>e.block k q⟩
section
open Go.Pk Go.RowKit Go.Shelf
attribute [local go_sem] Oper.semAt_some
theorem L4 (w:World):(Instr.alloc bC true (.tuple #[])).run prog w=.ok (.pointer (some ⟨w.heap.size,0,none⟩)) (w.alloc (.cells mW.cells.toArray bC)):=by
 kernel_rfl
set_option maxRecDepth 100000 in
set_option maxHeartbeats 2000000 in
theorem UD (F:Fence)(n:Nat)(h7:F.fn 155)(hro:F.round=none)(hn:1 <=n)(l Bs m:Nat)(kvs:List (Plc×Kpt))(J Jx:List Kpt->World->Prop)
 (hY:∀pre x W,J pre W->pre.length<kvs.length->YieldAt F (n-1) prog l #[x.v] W λe W'=>
  (e=.returned (.bool true)/\J (pre++[x]) W'/\KeepsWalks W W')\/(e=.returned (.bool false)/\Jx (pre++[x]) W'))
 (W:World) (hJ:AbidesFrom W.heap.size J) (hBs:W.cell? ⟨Bs,0,none⟩=some (.map (some m))) (hm:Ej Plc.v Kpt.v W m kvs) (h0:J [] W):
 CallsIn F n prog 155 #[.func (.yield l) #[] #[],.pointer (some ⟨Bs,0,none⟩)] W λe W'=>(∃v,e=.returned v)/\
  ((∃xs,xs.Perm (kvs.map (·.2))/\J xs W')\/(∃pre,True/\Jx pre W')):=by
 obtain⟨w0,hr0,hrg0,hb0⟩:=Gv (P:=prog) dj hm
 have hmlt:=hm.lt
 refine callsIn_of_wp func155 rfl h7 ?_ hro
 simp only[Tryz.ntmps155,List.size_toArray,List.length_cons,List.length_nil,Nat.reduceAdd,Nat.reduceSub,Array.replicate_succ,Array.replicate_zero,List.push_toArray,List.append_toArray,List.nil_append,List.cons_append]
 gi_wp2_with (first
  |(refine Oi rfl rfl rfl hr0 ?_)
  |gi_in)
 simp only[Act.put,List.setIfInBounds_toArray,List.set_cons_succ,List.set_cons_zero]
 gi_loopw [4] (λ_ wr=>∃(left:List (Plc×Kpt)) (ps:List Kpt),sW Plc.v Kpt.v wr W.heap.size m kvs left/\(ps++left.map (·.2)).Perm (kvs.map (·.2))/\J ps wr)
  (λ_ wr=>Rq wr m W.heap.size)
 case atStart=>exact⟨kvs,[],hrg0,List.Perm.refl _,hJ [] W w0 none h0 (Fv hb0) (λr e=>by cases e)⟩
 case round=>
  obtain⟨left,ps,hrg,hp,hJs⟩:=hrel
  have hlr:=hrg.lt
  rcases hrg.step (P:=prog) (by omega) 0 with⟨rfl,hrun⟩|⟨l1,k,v,l2,w2,rfl,hrun,hrg2,hent,hg2⟩
  ·gi_wp2_with (first
    |(refine JN rfl rfl rfl hrun ?_)
    |gi_in)
   go_end0
   rw[List.map_nil,List.append_nil]at hp
   exact⟨⟨_,rfl⟩,.inl ⟨ps,hp,hJs⟩⟩
  ·have hb3:bW w2 (w2.alloc (.cells mW.cells.toArray bC)):=au w2 _
   obtain⟨w3,hst,ha3,hg3⟩:=ur.store0 (P:=prog) (cs:=v.cells) (Kpt.len v) (Kpt.one v) (av.new (t:=bC) (vs:=mW.cells) rfl rfl:av (w2.alloc (.cells mW.cells.toArray bC)) w2.heap.size bC mW.cells) (Kpt.len mW)
   have hb23:=Below.put hb3 hg3 (Nat.le_refl _)
   have hld:(Instr.loadAt bC (.pointer (some ⟨w2.heap.size,0,none⟩))).run prog w3=.ok v.v w3:=ur.load0 ha3 (Kpt.len v)
   have hrg3:=hrg2.below hb23
   have hJ2:J ps w2:=hJ ps wr w2 _ hJs hg2 (λr e=>by cases e;exact⟨Nat.le_refl _,hrg.walk⟩)
   have hJ3:J ps w3:=hJ ps w2 w3 none hJ2 (Fv hb23) (λr e=>by cases e)
   have hlen:ps.length<kvs.length:=by
    have:=hp.length_eq
    rw[List.length_append,List.length_map,List.length_map,List.length_append,List.length_cons]at this
    omega
   obtain⟨fn,tmps,assign,body,hy,hR⟩:=hY ps v w3 hJ3 hlen
   have hpp:((ps++[v])++(l1++l2).map (·.2)).Perm (kvs.map (·.2)):=by
    refine List.Perm.trans ?_ hp
    rw[List.append_assoc,List.map_append,List.map_append,List.map_cons]
    exact List.Perm.append_left ps (by simpa using List.perm_middle.symm)
   gi_wp2_with (first
    |(refine JN rfl rfl rfl hrun ?_)
    |(refine Oh rfl rfl rfl hent ?_)
    |(refine HV rfl rfl (L4 _) ?_)
    |(refine C9 rfl rfl rfl rfl hst ?_)
    |(refine Fz rfl rfl rfl hld ?_)
    |gi_in)
   refine hR.mono ?_
   rintro e W3 (⟨rfl,hJ4,hk4⟩|⟨rfl,hJx4⟩)
   ·gi_wp2
    have hrg4:=hrg3.walks hk4
    go_roundw
    case rel=>exact⟨l1++l2,ps++[v],hrg4,hpp,hJ4⟩
    case measure=>rw[hrg4.leftN,hrg.leftN];simp
   ·gi_wp2
    refine bodyPost_ret (results_none rfl _ _ _) rfl ?_
    exact⟨⟨_,rfl⟩,.inr ⟨ps++[v],trivial,hJx4⟩⟩
theorem Py (F:Fence)(n:Nat)(H:F.fn 155)(X:F.round=none)(V:1 <=n)(e m:Nat)(q:List (Plc×Kpt))(w:World)(I:e<w.heap.size)
 (M:w.cell? ⟨e,0,none⟩=some (.map (some m))) (U:Ej Plc.v Kpt.v w m q):
 SeqStopsK F n prog 155 #[.pointer (some ⟨e,0,none⟩)] (λx:Kpt=> #[x.v]) KeepsWalks (λxs=>xs.Perm (q.map (·.2))) (λ_=>True) q.length w:=λl J E W D O _ hY G=>
 UD F n H X V l e m q J E hY W O ((D.cell (p:=⟨e,0,none⟩) I).trans M) (U.below D) G
end
theorem VZ (s:ShI L a)(D:i<L.length)(E:j<L.length)(q:L[i].plc=L[j].plc):i=j:=by
 have G:=List.pairwise_iff_getElem.1 s.key
 rcases Nat.lt_trichotomy i j with e|e|e
 ·exact absurd q (G i j D E e)
 ·exact e
 ·exact absurd q.symm (G j i E D e)
theorem um (s:ShI L a)(D:i<L.length){p:Plc}(e:L[i].plc=p)(f:Kpt->Kpt):(L.map λk=>if k.plc=p then f k else k)=L.set i (f L[i]):=by
 apply List.ext_getElem
 ·simp
 ·intro j h1 G
  have E:j<L.length:=by simpa using h1
  rw[List.getElem_map,List.getElem_set]
  by_cases c:i=j
  ·subst c
   rw[if_pos e,if_pos rfl]
  ·rw[if_neg c,if_neg]
   exact λq=>c (VZ s D E (e.trans q.symm))
theorem Ow.ne {α:Type}{T:Ty α}{t t':TypeId}{a:Option Addr}{n c k:Nat}{xs:List α}{vs:List Value}(h:Ow T t w A a n c xs)(M:av w k t' vs)(O:t≠t'):∀g,j0 a=some g->g≠k:=by
 intro g e D
 subst D
 obtain⟨_,_,_,I⟩:=h
 rcases I with⟨G,_⟩|⟨H,cur,U,E,q,_⟩
 ·rw[G]at e;cases e
 ·rw[E]at e
  cases e
  rw[show w.heap[H]? =_ from M]at q
  cases q
  exact O rfl
def zq (rs:List Rul)(h:Hst):List UInt8:=
 if h.kind=1 then(if 1 <=uK rs (ay h).reverse+1/\uK rs (ay h).reverse+1 <=(ay h).length then wY (ay h) (uK rs (ay h).reverse+1)else[])
 else if dO h=true then pZ h else[]
def lJ (rs:List Rul)(h:Hst):List UInt8:=if zq rs h=[]then pZ h else zq rs h
structure JS where
 L:List Kpt
 last:Int
 now:Int
def js0 (now:Int):JS:=⟨[],0,now⟩
def ju (s:JS)(n:Int):JS×Int:=if n<0\/1099511627776-s.now<n then(s,122)else(⟨sO s.L (s.now+n),s.last,s.now+n⟩,0)
def rR (old c:Cky):Bool:=old.sec&&((old.name==c.name)&&((vi old.host c.host || vi c.host old.host)&&wR c.path old.path))
def IU (s:List UInt8):Nat->List Kpt->List Kpt
 |0,L=>L
 |f+1,L=>if 50<np L s then(match QA L (λk=>decide (k.site=s))with|some k=>IU s f (iI L k.plc)|none=>L)else L
def K0:Nat->List Kpt->List Kpt
 |0,L=>L
 |f+1,L=>if 3000<L.length then(match QA L (λ_=>true)with|some k=>K0 f (iI L k.plc)|none=>L)else L
def G7 (s:List UInt8)(L:List Kpt):List Kpt:=K0 (IU s L.length L).length (IU s L.length L)
def xE (rs:List Rul)(s:JS)(c:Cky)(o:c.ok):JS:=
 ⟨G7 (lJ rs c.host) (sO (nK s.L s.last ⟨c,lJ rs c.host,o⟩).1 s.now),(nK s.L s.last ⟨c,lJ rs c.host,o⟩).2,s.now⟩
noncomputable def oO (rs:List Rul)(s:JS)(u:Url)(ou:u.ok)(t:List UInt8):JS×Int:=
 if nB u=false then(s,41)
 else if(bB t).2≠0 then(s,(bB t).2)
 else if(jZ rs u (bB t).1 s.now).2≠0 then(s,(jZ rs u (bB t).1 s.now).2)
 else if u.sec=false/\s.L.any (λk=>rR k.c (jZ rs u (bB t).1 s.now).1)=true then(s,121)
 else(xE rs s (jZ rs u (bB t).1 s.now).1 (BW ou _ _),0)
def dt (a b:Cky):Bool:=decide (b.path.length<a.path.length) || (decide (a.path.length=b.path.length)&&decide (a.seq<b.seq))
def nH (c:Kpt):List Kpt->List Kpt
 |[]=>[c]
 |x::r=>if dt c.c x.c=true then c::x::r else x::nH c r
def tU (L:List Kpt)(r:Req)(now:Int):List Kpt:=(L.filter λk=>dD k.c r now).foldl (λout c=>nH c out) []
def ki (c:Cky):List UInt8:=if c.name=[]then c.value else c.name++[61]++c.value
def rm (L:List Kpt)(ks:List Kpt)(now:Int):List Kpt:=ks.foldl (λL k=>z6 L k.plc now) L
def ut:List (List UInt8)->List UInt8
 |[]=>[]
 |[x]=>x
 |x::y::r=>x++[59,32]++ut (y::r)
def xH (s:JS)(r:Req):JS×List UInt8:=(⟨rm s.L (tU s.L r s.now) s.now,s.last,s.now⟩,ut ((tU s.L r s.now).map λk=>ki k.c))
theorem Ja {a b c:Cky}(h:dt a b=true)(k:dt b c=true):dt a c=true:=by
 unfold dt at h k ⊢
 simp only[Bool.or_eq_true,Bool.and_eq_true,dTx]at h k ⊢
 omega
theorem O3 {a b:Cky}(h:a.seq≠b.seq):dt a b=true\/dt b a=true:=by
 unfold dt
 simp only[Bool.or_eq_true,Bool.and_eq_true,dTx]
 omega
theorem yj (c:Kpt):∀l:List Kpt,(nH c l).Perm (c::l)
 |[]=>List.Perm.refl _
 |x::r=>by
  unfold nH
  split
  ·exact List.Perm.refl _
  ·exact((yj c r).cons x).trans (List.Perm.swap c x r)
theorem Md (c:Kpt):∀l:List Kpt,(l.Pairwise λa b=>dt a.c b.c=true)->(∀x∈l,x.c.seq≠c.c.seq)->((nH c l).Pairwise λa b=>dt a.c b.c=true)
 |[],_,_=>List.pairwise_singleton _ _
 |x::r,h,D=>by
  rw[List.pairwise_cons]at h
  unfold nH
  split
  ·rename_i q
   rw[List.pairwise_cons,List.pairwise_cons]
   refine⟨λy e=>?_,h⟩
   rcases List.mem_cons.1 e with rfl|e
   ·exact q
   ·exact Ja q (h.1 y e)
  ·rename_i q
   rw[List.pairwise_cons]
   refine⟨λy e=>?_,Md c r h.2 λz E=>D z (List.mem_cons_of_mem _ E)⟩
   rcases List.mem_cons.1 ((yj c r).mem_iff.1 e)with rfl|e
   ·exact(O3 (D x (List.mem_cons_self ..))).resolve_right q
   ·exact h.1 y e
theorem re:∀(l out:List Kpt),(l.foldl (λout c=>nH c out) out).Perm (out++l)
 |[],out=>by rw[List.append_nil];exact List.Perm.refl _
 |c::l,out=>by
  rw[List.foldl_cons]
  refine(re l _).trans ?_
  refine((yj c out).append_right l).trans ?_
  exact List.perm_middle.symm
theorem Ci:∀(l out:List Kpt),((out++l).Pairwise λa b=>a.c.seq≠b.c.seq)->(out.Pairwise λa b=>dt a.c b.c=true)->((l.foldl (λout c=>nH c out) out).Pairwise λa b=>dt a.c b.c=true)
 |[],out,_,h=>h
 |c::l,out,e,h=>by
  rw[List.foldl_cons]
  have D:(out++c::l).Perm (nH c out++l):=(List.perm_middle.trans (((yj c out).symm).append_right l))
  refine Ci l _ ?_ (Md c out h λx E=>?_)
  ·exact(D.pairwise_iff fun{a b} q=>Ne.symm q).1 e
  ·rw[List.pairwise_append]at e
   exact e.2.2 x E c (List.mem_cons_self ..)
theorem oK (L:List Kpt)(r:Req)(now:Int):(tU L r now).Perm (L.filter λk=>dD k.c r now):=by
 have:=re (L.filter λk=>dD k.c r now) []
 rw[List.nil_append]at this
 exact this
theorem Po {last:Int}(h:ShI L last)(r:Req)(now:Int):(tU L r now).Pairwise λa b=>dt a.c b.c=true:=by
 refine Ci _ [] ?_ List.Pairwise.nil
 rw[List.nil_append]
 exact(h.up.filter _).imp fun{a b} e=>by omega
theorem ShI.uses (h:ShI L a)(now:Int):∀e:List Kpt,ShI (rm L e now) a:=by
 intro e
 unfold rm
 revert L
 induction e with
 |nil=>intro L h;exact h
 |cons k e q=>intro L h;exact q (h.use k.plc now)
theorem tv {k:Kpt}(e:k∈L):(iI L k.plc).length<L.length:=by
 unfold iI
 refine List.length_filter_lt_length_iff_exists.2 ⟨k,e,by simp⟩
theorem Pz (s:ShI L a){of:Kpt->Bool}{k:Kpt}(h:QA L of=some k):k∈L/\of k=true:=by
 have:=DW (of:=of) s
 rw[h]at this
 exact⟨this.1,this.2.1⟩
theorem Np (s:ShI L a){of:Kpt->Bool}{x:Kpt}(q:x∈L)(e:of x=true):∃k,QA L of=some k:=by
 cases h:QA L of with
 |some k=>exact⟨k,rfl⟩
 |none=>
  have:=DW (of:=of) s
  rw[h]at this
  have:=this x q
  rw[e]at this;cases this
theorem xV.base {w0 M:World}{t I:TypeId}{E D:Nat}{a:Option Addr}{n c:Nat}{H:List Pth}{G:List (xj×Int)}{q:List (List Bool)}{rs:List Rul}(S:xV M t I E D a n c H G q rs w)(h:bW w0 M):xV w0 t I E D a n c H G q rs w:=
 ⟨S.h1,S.h2,S.h3,S.T,S.t,ah h S.hb h.size,S.ne,λg e=>⟨(S.og g e).1,(S.og g e).2.1,Nat.le_trans h.size (S.og g e).2.2⟩,Nat.le_trans h.size S.kt0,Nat.le_trans h.size S.km0⟩
theorem VX:A2 iJ:=⟨by decide,by decide,by decide,by decide,by decide,by decide⟩
theorem Rw (h:(bB s).2≠0):(bB s).1=iJ:=by
 unfold bB at h ⊢
 split
 ·rfl
 split
 ·rfl
 split
 ·rfl
 ·rename_i h1 e q
  rw[if_neg h1,if_neg e,if_neg q]at h
  exact absurd rfl h
theorem tZ (s:List UInt8):A2 (bB s).1:=by
 by_cases h:(bB s).2=0
 ·exact VW (pV (s:=s) (Prod.ext rfl h))
 ·rw[Rw h];exact VX
theorem DT (h:Hst):iU h h=true:=by
 have e:∀l:List UInt8,Vv l l=true:=λl=>by
  induction l with
  |nil=>rfl
  |cons a l q=>simp[Vv,q]
 unfold iU;rw[e];simp
theorem OM (rs:List Rul)(u:Url)(h:Hdr)(now:Int):((jZ rs u h now).2≠0/\(jZ rs u h now).1=je)\/
 ((jZ rs u h now).2=0/\FO u h now=0/\zG u h (qj rs u.host h.domain)=0/\(jZ rs u h now).1=OY u h (qj rs u.host h.domain) now):=by
 unfold jZ
 split
 ·rename_i h1;exact .inl ⟨h1,rfl⟩
 ·rename_i h1
  split
  ·rename_i e;exact .inl ⟨e,rfl⟩
  ·rename_i e;exact .inr ⟨rfl,by simpa using h1,by simpa using e,rfl⟩
theorem SF {u:Url}{h:Hdr}{now:Int}(g:FO u h now=0):nB u=true/\ij h=true/\0 <=now/\now <=1099511627776:=by
 unfold FO at g
 split at g
 ·cases g
 split at g
 ·cases g
 split at g
 ·cases g
 split at g
 ·cases g
 ·rename_i h1 e q D
  exact⟨by simpa using h1,by simpa using e,by omega,by omega⟩
theorem Ss {u:Url}{h:Hdr}{d:Hst×Bool×Int}(e:zG u h d=0):d.2.2=0/\(h.sec && !u.sec)=false/\(decide (h.same=1) && !h.sec)=false/\sa h d.2.1=false:=by
 unfold zG at e
 split at e
 ·exact absurd e (by assumption)
 split at e
 ·cases e
 split at e
 ·cases e
 split at e
 ·cases e
 ·rename_i h1 q D E
  exact⟨by simpa using h1,by simpa using q,by simpa using D,by simpa using E⟩
theorem PT {u:Url}(h:nB u=true):dO u.host=true/\Gt u.path=true:=by
 unfold nB at h
 simp only[Bool.and_eq_true]at h
 exact⟨h.1,h.2.2.2⟩
theorem Sg {rs:List Rul}{u:Hst}{t:List UInt8}(H:dO u=true)(e:(qj rs u t).2.2=0):
 ((qj rs u t).2.1=true->iU (qj rs u t).1 u=true)/\(vf rs (qj rs u t).1=true->(qj rs u t).2.1=true)/\vi u (qj rs u t).1=true:=by
 unfold qj at e ⊢
 split
 ·refine⟨λ_=>DT u,λ_=>rfl,?_⟩
  unfold vi;rw[H,DT];rfl
 ·rename_i G
  rw[if_neg G]at e
  cases E:dR t with
  |none=>rw[E]at e;cases e
  |some d=>
   rw[E]at e
   simp only at e ⊢
   split
   ·rename_i h1;rw[if_pos h1]at e;cases e
   ·rename_i h1
    rw[if_neg h1]at e
    split
    ·rename_i D;rw[if_pos D]at e;cases e
    ·rename_i D
     refine⟨λq=>?_,λq=>q,by simpa using D⟩
     have q:vf rs d=true:=q
     rw[q,Bool.true_and]at h1
     simpa using h1
set_option maxRecDepth 100000
theorem BT (a:Option Addr)(b:Value){w K}(h:nA w (.cells (Value.cells b) ak) λc d=>∃e:FP [],(∃f:FP [.one .bool],(true/\∃g,Ld aJ (vA c 0) d (vI g)/\ai (g !=(1:Int)) (∃i,Ld ak (vA c 0) d i/\uB tP #[i] d λj k=>f j k) (f false d))/\∀g,aP 6 (∀i,f g i->ai g (∃j,Ld ak (vA c 0) i j/\uS yT #[j] i λk l=>K (vS k) l) (e i)))/\aP 10 (∀f,e f->∃g,(∀i,bW f i->Ld ak (vA c 0) i g)/\∃i,(∀j,bW f j->Ld ak (vA c 0) j i)/\∃j,(∀k,bW f k->Cf qy #[.pointer a,i] k λl m=>l=.returned (vI j)/\bW k m)/\∃k l,(∀m,bW f m->Cf uO #[g,vI (i64.wrap (j+(1:Int)))] m λn o=>n=rT #[k,.bool l]/\bW m o)/\∀m,f.heap.size <=m->∀n,bW f n->n.heap[m]? =some (.cells bK ak)->∃o,Sv ak (vA m 0) k n o/\true/\∃p,Ld ao (vA m 1) o (vS p)/\K (vS p) o)):Cf uR #[.pointer a,b] w (Ret K):=ru func75 [(2,[]),(3,[(13,.one .bool)]),(3000011,[(1,.one .bool),(0,.one .bool),(2,.one .bool),(3,.one .bool),(4,.one .bool),(5,.one .bool),(6,.one .bool),(7,.one .bool),(8,.one .bool),(9,.one .bool)])] h
set_option maxRecDepth 20000
theorem UG (p o:List UInt8):wR p o=(Lib.hasPrefix p o&&((p.drop o.length==[]) || (decide ((p.drop o.length).head?=some 47) || decide (o.getLast?=some 47)))):=by
 have G:Lib.hasPrefix p o=(decide (o.length <=p.length)&&(p.take o.length==o)):=(Lib.hasPrefix_of_take p o).symm
 unfold wR
 rw[G,List.head?_drop]
 by_cases h:p.take o.length=o
 ·have I:o.length <=p.length:=by
   have:=congrArg List.length h
   rw[List.length_take]at this;omega
  by_cases D:o.length<p.length
  ·have q:p≠o:=λe=>by rw[e]at D;omega
   have E:p.drop o.length≠[]:=λe=>by have:=congrArg List.length e;rw[List.length_drop,List.length_nil]at this;omega
   rw[beq_eq_false_iff_ne.2 q,decide_eq_true D,h,beq_self_eq_true,decide_eq_true I,beq_eq_false_iff_ne.2 E]
   simp only[Bool.false_or,Bool.true_and]
  ·have H:p.length=o.length:=by omega
   have q:p=o:=by rw[<- h,<- H,List.take_length]
   have E:p.drop o.length=[]:=List.drop_eq_nil_of_le (by omega)
   simp[q]
 ·have q:p≠o:=λe=>h (by rw[e,List.take_length])
  rw[beq_eq_false_iff_ne.2 q,beq_eq_false_iff_ne.2 h]
  simp only[Bool.false_or,Bool.false_and,Bool.and_false]
theorem Wj (s p:List UInt8)(q:s.length <=9223372036854775807)(w:World):Cf yW #[vS s,vS p] w (Ret λv w'=>v=.bool (Lib.hasSuffix s p)/\w'=w):=
 (Tryz.strings_HasSuffix (mkS s) (mkS p) w q).mono λD w' ⟨h1,e⟩=>⟨_,h1,rfl,e⟩
theorem Gl (p o:List UInt8)(G:o.length <=9223372036854775807)(w:World):Cf uY #[vS p,vS o] w (Ret λv w'=>v=.bool (wR p o)/\w'=w):=by
 apply LG
 refine az (Pa p o w) ?_
 rintro _ M ⟨rfl,H⟩
 rw[H]
 refine⟨_,_,rfl,?_⟩
 rw[UG]
 refine ai.of (λh=>?_) (λh=>⟨by rw[h];rfl,rfl⟩)
 have q:Lib.trimPrefix p o=p.drop o.length:=if_pos h
 rw[h,q,Bool.true_and]
 refine ai.of (λe=>⟨by rw[e];rfl,rfl⟩) (λe=>?_)
 rw[e,Bool.false_or]
 generalize p.drop o.length=D at*
 cases D with
 |nil=>cases e
 |cons x D=>
  refine⟨⟨by decide,by simp⟩,?_⟩
  have E:=fq x 47
  rw[show(((47:UInt8).toNat:Nat):Int)=47 from rfl]at E
  rw[show bm (x::D) (0:Int)=((x.toNat:Nat):Int) from rfl,E]
  refine ai.of (λc=>⟨?_,rfl⟩) (λc=>?_)
  ·rw[eq_of_beq c];rfl
  ·refine az (Wj o [47] G w) ?_
   rintro _ O ⟨rfl,I⟩
   rw[I,(QO o 47).1]
   refine⟨_,rfl,?_,rfl⟩
   have:x≠47:=λq=>by rw[q]at c;cases c
   simp[this]
theorem Ir (n k:Int)(w:World):Cf tQ #[vI n,vI k] w (Ret λv w'=>v=.bool (tM n k)/\w'=w):=by
 apply HE
 unfold tM
 refine ai.of (λh=>?_) (λh=>?_)
 ·have h:=eq_of_beq h
  subst h
  exact⟨rfl,rfl⟩
 ·have D:k≠0:=by simpa using h
  refine ai.of (λe=>?_) (λe=>?_)
  ·have e:=eq_of_beq e
   subst e
   exact⟨rfl,rfl⟩
  ·have h1:k≠1:=by simpa using e
   rw[if_neg h1]
   refine ai.of (λq=>?_) (λq=>?_)
   ·have q:=eq_of_beq q
    subst q
    exact⟨rfl,rfl⟩
   ·have e:k≠2:=by simpa using q
    rw[if_neg e,h]
    exact⟨rfl,rfl⟩
def atV (c:Cky)(h:Hst):Bool:=if c.only=true then iU c.host h&&dO h else vi h c.host
theorem Pw {h:Hst}(D:c.ok)(E:h.ok)(aj:c.host.name.length <=1000000000)(Y:h.name.length <=1000000000)(w:World)(X:Env w):
 Cf AC #[c.v,h.v] w (Ret λv w'=>v=.bool (atV c h)/\bW w w'):=by
 apply OB
 intro ad G an Z a0 q ar ac
 have U:=(Z▸au w _:bW w G)
 have V:=(ac▸au G _:bW G q)
 have e:=ah U V U.size
 have a2:av q ad af c.cells:=(av.new an Z:av G ad af c.cells).below V
 have a3:av q a0 ak h.cells:=av.new ar ac
 have ag:=aO.load a2 (i:=2) (us:=c.host.cells) (Hst.len D) (λj al=>fK D al)
 have O:=aO.load0 a3 (Hst.len E)
 unfold atV
 refine⟨rfl,_,a2.load1 bA rfl (i:=20) (be D 0),ai.of (λH=>?_) (λH=>?_)⟩
 ·rw[if_pos H]
  refine⟨rfl,_,ag,_,O,_,qD D E q,ai.of (λI=>?_) (λI=>⟨by rw[I];rfl,e⟩)⟩
  refine⟨_,O,?_⟩
  refine az (vz E Y q (X.step e)) ?_
  rintro _ a8 ⟨rfl,M⟩
  exact⟨_,rfl,by rw[I];rfl,ah e M e.size⟩
 ·rw[if_neg (by rw[H];decide)]
  refine⟨_,O,rfl,_,ag,?_⟩
  refine az (vK E D Y aj q (X.step e)) ?_
  rintro _ a8 ⟨rfl,M⟩
  exact⟨_,rfl,rfl,ah e M e.size⟩
theorem Wg {r:Req}(E:c.ok)(or:r.ok)(now:Int):dD c r now=(decide (now<c.exp)&&((r.sec || !c.sec)&&(tM c.same r.cross&&(wR r.path c.path&&atV c r.host)))):=by
 have e:(!(decide (now >=c.exp)))=decide (now<c.exp):=by
  rw[Bool.eq_iff_iff];simp
 have q:(!(c.only && !iU c.host r.host)&&vi r.host c.host)=atV c r.host:=by
  unfold atV
  cases G:c.only with
  |false=>simp
  |true=>
   cases D:iU c.host r.host with
   |false=>simp
   |true=>
    have:=(fC E or).1 D
    unfold vi
    rw[this,DT]
    cases dO r.host <;> simp
 unfold dD
 rw[e,<- q]
 cases c.only <;> cases iU c.host r.host <;> cases vi r.host c.host <;> cases wR r.path c.path <;> cases c.sec <;> cases r.sec <;> cases decide (now<c.exp) <;> cases tM c.same r.cross <;> rfl
theorem La {r:Req}(H:c.ok)(or:r.ok)(bk:c.host.name.length <=1000000000)(b7:r.host.name.length <=1000000000)(bp:c.path.length <=9223372036854775807)(now:Int)(w:World)(b1:Env w):
 Cf Bp #[c.v,r.v,vI now] w (Ret λv w'=>v=.bool (dD c r now)/\bW w w'):=by
 apply Kg
 intro O V b3 an U e b4 ar
 have aj:=(an▸au w _:bW w V)
 have al:=(ar▸au V _:bW V e)
 have G:=ah aj al aj.size
 have a3:av e O af c.cells:=(av.new b3 an:av V O af c.cells).below al
 have a4:av e U aU r.cells:=av.new b4 ar
 rw[Wg H or]
 have tail:∀{K:Value->World->Prop},(∀D,bW w D->K (.bool (tM c.same r.cross&&(wR r.path c.path&&atV c r.host))) D)->
  (true=true)/\∃(a0:Int),(Instr.loadAt aJ (.pointer (some ⟨O,24,none⟩))).run prog e=.ok (vI a0) e/\(true=true)/\
  ∃(a8:Int),(Instr.loadAt aJ (.pointer (some ⟨U,20,none⟩))).run prog e=.ok (vI a8) e/\
  Cf tQ #[vI a0,vI a8] e λbq I=>∃(ac:Bool),bq=.returned (.bool ac)/\
  ai ac
  ((true=true)/\∃(a9:List UInt8),(Instr.loadAt ao (.pointer (some ⟨U,19,none⟩))).run prog I=.ok (vS a9) I/\(true=true)/\
  ∃(bb:List UInt8),(Instr.loadAt ao (.pointer (some ⟨O,21,none⟩))).run prog I=.ok (vS bb) I/\
  Cf uY #[vS a9,vS bb] I λbs M=>∃(ad:Bool),bs=.returned (.bool ad)/\
  ai ad
  (∃(bc:Value),(Instr.loadAt af (.pointer (some ⟨O,0,none⟩))).run prog M=.ok bc M/\(true=true)/\
  ∃(bj:Value),(Instr.loadAt ak (.pointer (some ⟨U,1,none⟩))).run prog M=.ok bj M/\
  Cf AC #[bc,bj] M λbz b8=>∃(ag:Bool),bz=.returned (.bool ag)/\K (.bool ag) b8)
  (K (.bool false) M))
  (K (.bool false) I):=fun{K} E=>by
  refine⟨rfl,_,a3.load1 br rfl (i:=24) (be H 4),rfl,_,a4.load1 br rfl (i:=20) (uH or 1),?_⟩
  refine az (Ir _ _ e) ?_
  rintro _ cb ⟨rfl,b5⟩
  rw[b5]
  refine⟨_,rfl,ai.of (λq=>?_) (λq=>by rw[q]at E;exact E e G)⟩
  rw[q,Bool.true_and]at E
  refine⟨rfl,_,a4.load1 ax rfl (i:=19) (uH or 0),rfl,_,a3.load1 ax rfl (i:=21) (be H 1),?_⟩
  refine az (Gl _ _ bp e) ?_
  rintro _ cc ⟨rfl,b6⟩
  rw[b6]
  refine⟨_,rfl,ai.of (λq=>?_) (λq=>by rw[q]at E;exact E e G)⟩
  rw[q,Bool.true_and]at E
  refine⟨_,aC.load0 a3 (Cky.len H),rfl,_,aO.load a4 (i:=1) (us:=r.host.cells) (Hst.len or) (λj b2=>DY or b2),?_⟩
  refine az (Pw H or bk b7 e (b1.step G)) ?_
  rintro _ b9 ⟨rfl,b0⟩
  exact⟨_,rfl,E b9 (ah G b0 G.size)⟩
 refine⟨rfl,_,a3.load1 bn rfl (i:=25) (be H 5),ai.of (λq=>?_) (λq=>⟨by rw[q];rfl,G⟩)⟩
 rw[q,Bool.true_and]
 refine⟨rfl,_,a4.load1 bA rfl (i:=0) rfl,ai.of (λX=>?_) (λX=>?_)⟩
 ·rw[X,Bool.true_or,Bool.true_and]
  exact tail (K:=λv D=>v=.bool (tM c.same r.cross&&(wR r.path c.path&&atV c r.host))/\bW w D) λD Z=>⟨rfl,Z⟩
 ·rw[X,Bool.false_or]
  refine⟨rfl,_,a3.load1 bA rfl (i:=22) (be H 2),ai.of (λY=>?_) (λY=>⟨by rw[Y];rfl,G⟩)⟩
  rw[Y,Bool.true_and]
  exact tail (K:=λv D=>v=.bool (tM c.same r.cross&&(wR r.path c.path&&atV c r.host))/\bW w D) λD Z=>⟨rfl,Z⟩
theorem K9 {c d:Cky}(E:c.ok)(G:d.ok)(w:World):Cf Bo #[c.v,d.v] w (Ret λv w'=>v=.bool (dt c d)/\w'=(w.alloc (.cells c.cells.toArray af)).alloc (.cells d.cells.toArray af)):=by
 apply Kf
 intro O H V M Y q X D
 have U:=(D▸au H _:bW H q)
 have a2:av q O af c.cells:=(av.new V M:av H O af c.cells).below U
 have a3:av q Y af d.cells:=av.new X D
 have I:q=(w.alloc (.cells c.cells.toArray af)).alloc (.cells d.cells.toArray af):=by rw[D,M];rfl
 unfold dt
 refine⟨rfl,_,a2.load1 ax rfl (i:=21) (be E 1),rfl,_,a3.load1 ax rfl (i:=21) (be G 1),ai.of (λe=>?_) (λe=>?_)⟩
 ·have e:c.path.length≠d.path.length:=λx=>by rw[x]at e;simp at e
  refine⟨rfl,_,a2.load1 ax rfl (i:=21) (be E 1),rfl,_,a3.load1 ax rfl (i:=21) (be G 1),?_,I⟩
  rw[decide_eq_false (p:=c.path.length=d.path.length) e,Bool.false_and,Bool.or_false]
  congr 1
  rw[Bool.eq_iff_iff,dTx,dTx];omega
 ·have e:c.path.length=d.path.length:=by
   have Z:((c.path.length:Nat):Int)=((d.path.length:Nat):Int):=by simpa using e
   omega
  refine⟨rfl,_,a2.load1 br rfl (i:=28) (be E 8),rfl,_,a3.load1 br rfl (i:=28) (be G 8),?_,I⟩
  rw[decide_eq_true (p:=c.path.length=d.path.length) e,Bool.true_and,decide_eq_false (p:=d.path.length<c.path.length) (by omega),Bool.false_or]
def IL (L:List (List UInt8))(n:Nat):Hst:=if 1 <=n/\n <=L.length then⟨1,wY L n,ad0⟩ else nG
theorem Ef (L:List (List UInt8))(n:Nat):FH L n=.tuple #[(IL L n).v,.bool (decide (1 <=n/\n <=L.length))]:=by
 unfold FH IL
 split
 ·rename_i h;rw[decide_eq_true h]
 ·rename_i h;rw[decide_eq_false h]
theorem Ee (L:List (List UInt8))(n:Nat):(IL L n).ok:=by
 unfold IL;split <;> rfl
theorem wO {h:Hst}(e:h.kind≠1):ay h=[]:=by
 unfold ay;rw[if_neg λc=>e c.1]
theorem AO (rs:List Rul)(h:Hst):zq rs h=if h.kind≠1/\dO h=true then pZ h else(IL (ay h) (uK rs (ay h).reverse+1)).name:=by
 unfold zq IL
 by_cases e:h.kind=1
 ·rw[if_pos e,if_neg (c:=h.kind≠1/\dO h=true) (λc=>c.1 e)]
  split <;> rfl
 ·rw[if_neg e,wO e]
  by_cases q:dO h=true
  ·rw[if_pos q,if_pos ⟨e,q⟩]
  ·rw[if_neg q,if_neg (λc=>q c.2),if_neg (λc=>by have:=c.2;simp at this)]
   rfl
theorem HG (rs:List Rul)(h:Hst):uK rs (ay h).reverse <=(ay h).length+1:=by
 have G:∀(rs:List Rul) (m:Nat),m <=(ay h).reverse.length+1->rs.foldl (xw (ay h).reverse) m <=(ay h).reverse.length+1:=by
  intro rs
  induction rs with
  |nil=>intro m e;exact e
  |cons r rs q=>
   intro m e
   refine q _ ?_
   unfold xw
   split
   ·rename_i h1
    have:=yC h1
    split
    ·omega
    ·split <;> omega
   ·exact e
 have E:∀(rs:List Rul) (m:Nat),m <=(ay h).reverse.length+1->rs.foldl (Ew (ay h).reverse) m <=(ay h).reverse.length+1:=by
  intro rs
  induction rs with
  |nil=>intro m e;exact e
  |cons r rs q=>
   intro m e
   refine q _ ?_
   unfold Ew
   split
   ·rename_i h1
    have:=yC h1.1
    omega
   ·exact e
 have h1:=G rs 1 (by omega)
 have D:=E rs 0 (by omega)
 rw[List.length_reverse]at h1 D
 unfold uK
 split
 ·omega
 ·split
  ·exact D
  ·exact h1
theorem LS {w0:World}(I:Env w0){ac bk:Nat}{a:Option Addr}{n c:Nat}{bq:List Pth}{bp:List (xj×Int)}{ag:List (List Bool)}{rs:List Rul}(S:xV w0 cB dq ac bk a n c bq bp ag rs w){h:Hst}(o:h.ok)(V:h.name.length <=1000000000):
 Cf uR #[.pointer (some ⟨ac,0,none⟩),h.v] w (Ret λv w'=>v=vS (zq rs h)/\bW w w'):=by
 apply BT
 intro bc H an Z
 have G:=(Z▸au w _:bW w H)
 have a3:av H bc ak h.cells:=av.new an Z
 have M:=S.below G
 have b1:=lI h
 have b2:=HG rs h
 rw[AO]
 refine⟨λE=> ¬ (h.kind≠1/\dO h=true)/\bW H E,⟨λb E=>b=(decide (h.kind≠1)&&dO h)/\bW H E,?_,λb=>aP.of ?_ _⟩,aP.of ?_ _⟩
 ·refine⟨rfl,_,a3.load1 br rfl (i:=0) rfl,ai.of (λe=>?_) (λe=>⟨?_,Below.refl _ _⟩)⟩
  ·refine⟨_,aO.load0 a3 (Hst.len o),?_⟩
   refine az (vz o V H (I.step M.hb)) ?_
   rintro _ bs ⟨rfl,U⟩
   have e:h.kind≠1:=by simpa using e
   exact⟨_,rfl,by rw[decide_eq_true e,Bool.true_and],U⟩
  ·have e:h.kind=1:=by simpa using e
   rw[decide_eq_false (λc=>c e),Bool.false_and]
 ·rintro E ⟨rfl,q⟩
  refine ai.of (λe=>?_) (λe=>⟨λc=>?_,q⟩)
  ·simp only[Bool.and_eq_true,dTx]at e
   refine⟨_,aO.load0 (a3.below q) (Hst.len o),?_⟩
   refine az (C6 o E (I.step (M.below q).hb)) ?_
   rintro _ bs ⟨rfl,U⟩
   rw[if_pos e]
   exact⟨_,rfl,rfl,ah G (ah q U q.size) G.size⟩
  ·rw[decide_eq_true c.1,c.2]at e;cases e
 ·rintro E ⟨a0,q⟩
  rw[if_neg a0]
  have O:=ah G q G.size
  have Y:=a3.below q
  have X:=M.below q
  refine⟨_,λu D=>aO.load0 (Y.below D) (Hst.len o),_,λu D=>aO.load0 (Y.below D) (Hst.len o),_,λu D=>CE (Co I (X.below D) o V),?_⟩
  have aj:i64.wrap (((uK rs (ay h).reverse:Nat):Int)+1)=((uK rs (ay h).reverse+1:Nat):Int):=by rw[wrap_i64 (by omega) (by omega)];omega
  try dsimp only
  rw[aj]
  refine⟨_,_,λu D=>by
   have:=CE (v:=.tuple #[(IL (ay h) (uK rs (ay h).reverse+1)).v,.bool (decide (1 <=uK rs (ay h).reverse+1/\uK rs (ay h).reverse+1 <=(ay h).length))]) (by rw[<- Ef];exact HS o V (uK rs (ay h).reverse+1) (by omega) u (I.step (X.below D).hb))
   exact this,?_⟩
  intro bj ar bz a8 bb
  have a5:av bz bj ak nG.cells:=bb
  obtain⟨b0,a9,ad,al⟩:=aO.store0 (P:=prog) (Hst.len (Ee (ay h) (uK rs (ay h).reverse+1))) (Hst.one _) a5 rfl
  refine⟨b0,a9,rfl,_,ad.load1 ax rfl (i:=1) rfl,rfl,Below.put (ah O a8 O.size) al (Nat.le_trans O.size ar)⟩
theorem Uh (s:List UInt8):(AA s).length <=s.length+1:=by
 unfold AA
 split
 ·simp
 ·rw[List.length_take];omega
structure OpR where
 kind:Int
 url:Url
 text:List UInt8
 req:Req
 n:Int
structure OpR.ok (o:OpR):Prop where
 uo:o.url.ok
 ro:o.req.host.ok
 up:o.url.path.length <=1000000
 un:o.url.host.name.length <=1000000
 rp:o.req.path.length <=1000000
 rn:o.req.host.name.length <=1000000
 tx:o.text.length <=1000000
noncomputable def doV (rs:List Rul)(s:JS)(o:OpR)(ok:o.ok):JS:=
 if o.kind=1 then(oO rs s o.url ok.uo o.text).1 else if o.kind=2 then(xH s o.req).1 else if o.kind=3 then(ju s o.n).1 else if o.kind=4 then js0 s.now else s
def Part (L' L:List Kpt):Prop:=∃p:Kpt->Bool,L'=L.filter p
theorem Part.refl (L:List Kpt):Part L L:=⟨λ_=>true,(List.filter_eq_self.2 λ_ _=>rfl).symm⟩
theorem Part.trans {A B C:List Kpt}(h:Part A B)(k:Part B C):Part A C:=by
 obtain⟨p,rfl⟩:=h
 obtain⟨q,rfl⟩:=k
 exact⟨λx=>p x&&q x,by rw[List.filter_filter]⟩
theorem Part.drop (L:List Kpt)(p:Plc):Part (iI L p) L:=⟨_,rfl⟩
theorem Part.mem {A B:List Kpt}(h:Part A B){k:Kpt}(e:k∈A):k∈B:=by
 obtain⟨p,rfl⟩:=h
 exact(List.mem_filter.1 e).1
theorem Part.len {A B:List Kpt}(h:Part A B):A.length <=B.length:=by
 obtain⟨p,rfl⟩:=h
 exact List.length_filter_le ..
theorem Part.inv {A B:List Kpt}(h:Part A B)(s:ShI B a):ShI A a:=by
 obtain⟨p,rfl⟩:=h
 exact s.filter p
theorem Oa (s:List UInt8):∀(f:Nat) (L:List Kpt),Part (IU s f L) L
 |0,L=>Part.refl L
 |f+1,L=>by
  unfold IU
  split
  ·split
   ·exact(Oa s f _).trans (Part.drop _ _)
   ·exact Part.refl L
  ·exact Part.refl L
theorem Ob:∀(f:Nat) (L:List Kpt),Part (K0 f L) L
 |0,L=>Part.refl L
 |f+1,L=>by
  unfold K0
  split
  ·split
   ·exact(Ob f _).trans (Part.drop _ _)
   ·exact Part.refl L
  ·exact Part.refl L
theorem JD (s:List UInt8)(L:List Kpt):Part (G7 s L) L:=(Ob _ _).trans (Oa _ _ _)
structure OX (c:Cky):Prop where
 nm:c.name.length <=1100000
 vl:c.value.length <=1100000
 pt:c.path.length <=1100000
structure JI (s:JS)(m:Nat):Prop where
 sh:ShI s.L s.last
 n0:0 <=s.now
 n1:s.now <=1099511627776
 few:s.L.length <=m
 last:s.last <=m
 live:∀k∈s.L,s.now<k.c.exp/\k.c.born <=s.now/\k.c.used <=s.now
 right:∀k∈s.L,dO k.c.host=true
 sm:∀k∈s.L,OX k.c
theorem JI.new {now:Int}(q:0 <=now)(h1:now <=1099511627776)(m:Nat):JI (js0 now) m:=
 ⟨ShI.nil,q,h1,Nat.zero_le _,by show(0:Int) <=m;omega,(λk e=>by cases e),(λk e=>by cases e),λk e=>by cases e⟩
theorem JI.mono {s:JS}(h:JI s m)(e:m <=n):JI s n:=⟨h.sh,h.n0,h.n1,Nat.le_trans h.few e,by have:=h.last;omega,h.live,h.right,h.sm⟩
theorem JI.tick {s:JS}(h:JI s m)(n:Int):JI (ju s n).1 m:=by
 unfold ju
 split
 ·exact h
 ·rename_i G
  have E:=h.n0
  have q:Part (sO s.L (s.now+n)) s.L:=⟨_,rfl⟩
  refine⟨q.inv h.sh,by show 0 <=s.now+n;omega,by show s.now+n <=_;omega,Nat.le_trans q.len h.few,h.last,λk e=>?_,λk e=>h.right k (q.mem e),λk e=>h.sm k (q.mem e)⟩
  have D:=List.mem_filter.1 e
  have:=h.live k D.1
  refine⟨by simpa using D.2,?_,?_⟩
  ·show _ <=s.now+n;omega
  ·show _ <=s.now+n;omega
theorem PW {p:Plc}{now:Int}{k:Kpt}(h:k∈z6 L p now):∃x∈L,k=x\/k=⟨{ x.c with used:=now },x.site,x.ok⟩:=by
 unfold z6 at h
 obtain⟨x,e,rfl⟩:=List.mem_map.1 h
 refine⟨x,e,?_⟩
 split
 ·exact .inr rfl
 ·exact .inl rfl
theorem JI.uses {s:JS}(h:JI s m):∀q:List Kpt,JI ⟨rm s.L q s.now,s.last,s.now⟩ m:=by
 intro q
 have:∀(q:List Kpt) (L:List Kpt),JI ⟨L,s.last,s.now⟩ m->JI ⟨rm L q s.now,s.last,s.now⟩ m:=by
  intro q
  induction q with
  |nil=>intro L h;exact h
  |cons k q E=>
   intro L h
   refine E (z6 L k.plc s.now) ⟨h.sh.use _ _,h.n0,h.n1,?_,h.last,λx D=>?_,λx D=>?_,λx D=>?_⟩
   ·show(z6 L k.plc s.now).length <=m
    unfold z6;rw[List.length_map];exact h.few
   ·obtain⟨y,e,rfl|rfl⟩:=PW D
    ·exact h.live _ e
    ·have:=h.live y e
     exact⟨this.1,this.2.1,Int.le_refl _⟩
   ·obtain⟨y,e,rfl|rfl⟩:=PW D
    ·exact h.right _ e
    ·exact h.right y e
   ·obtain⟨y,e,rfl|rfl⟩:=PW D
    ·exact h.sm _ e
    ·exact⟨(h.sm y e).nm,(h.sm y e).vl,(h.sm y e).pt⟩
 exact this q s.L h
theorem JI.get {s:JS}(h:JI s m)(r:Req):JI (xH s r).1 m:=h.uses _
theorem BX {rs:List Rul}{u:Url}{h:Hdr}{now:Int}(q:(jZ rs u h now).2=0):dO (jZ rs u h now).1.host=true/\(jZ rs u h now).1.born=now/\(jZ rs u h now).1.used=now:=by
 rcases OM rs u h now with h1|⟨-,g,D,E⟩
 ·exact absurd q h1.1
 ·obtain⟨H,-,-,-⟩:=SF g
  have G:=Sg (PT H).1 (Ss D).1
  rw[E]
  refine⟨?_,rfl,rfl⟩
  show dO (qj rs u.host h.domain).1=true
  have e:=G.2.2
  unfold vi at e
  simp only[Bool.and_eq_true]at e
  exact e.2.1
theorem Dc (L:List Kpt)(last:Int)(c:Kpt):(nK L last c).1.length <=L.length+1/\(nK L last c).2 <=last+1:=by
 unfold nK
 split
 ·rw[List.length_map];exact⟨by omega,by show last <=last+1;omega⟩
 ·rw[List.length_append];exact⟨by simp,Int.le_refl _⟩
theorem PD {c k:Kpt}(h:k∈(nK L a c).1):k∈L\/(∃o∈L,k=⟨{ c.c with born:=o.c.born,seq:=o.c.seq },c.site,c.ok⟩)\/k=⟨{ c.c with seq:=a+1 },c.site,c.ok⟩:=by
 unfold nK at h
 split at h
 ·rename_i o e
  obtain⟨x,q,rfl⟩:=List.mem_map.1 h
  split
  ·exact .inr (.inl ⟨o,(qq e).1,rfl⟩)
  ·exact .inl q
 ·rcases List.mem_append.1 h with h|h
  ·exact .inl h
  ·exact .inr (.inr (List.mem_singleton.1 h))
theorem JI.come {rs:List Rul}{s:JS}(h:JI s m)(o:c.ok)(E:dO c.host=true)(G:c.born=s.now)(O:c.used=s.now)(q:OX c):JI (xE rs s c o) (m+1):=by
 unfold xE
 have D:Part (G7 (lJ rs c.host) (sO (nK s.L s.last ⟨c,lJ rs c.host,o⟩).1 s.now)) (nK s.L s.last ⟨c,lJ rs c.host,o⟩).1:=(JD _ _).trans ⟨_,rfl⟩
 have I:=Dc s.L s.last ⟨c,lJ rs c.host,o⟩
 have H:=h.few
 have M:=h.last
 refine⟨D.inv (h.sh.put _),h.n0,h.n1,Nat.le_trans D.len (by omega),?_,λk e=>?_,λk e=>?_,λk e=>?_⟩
 ·show(nK s.L s.last ⟨c,lJ rs c.host,o⟩).2 <=((m+1:Nat):Int)
  omega
 ·have h1:=(List.mem_filter.1 ((JD _ _).mem e)).2
  refine⟨by simpa using h1,?_⟩
  rcases PD (D.mem e)with h2|⟨y,hy,rfl⟩|rfl
  ·exact(h.live k h2).2
  ·exact⟨(h.live y hy).2.1,by show c.used <=s.now;omega⟩
  ·exact⟨by show c.born <=s.now;omega,by show c.used <=s.now;omega⟩
 ·rcases PD (D.mem e)with h2|⟨y,hy,rfl⟩|rfl
  ·exact h.right k h2
  ·exact E
  ·exact E
 ·rcases PD (D.mem e)with h2|⟨y,hy,rfl⟩|rfl
  ·exact h.sm k h2
  ·exact⟨q.nm,q.vl,q.pt⟩
  ·exact⟨q.nm,q.vl,q.pt⟩
theorem Ky {rs:List Rul}{u:Url}{h:Hdr}{now:Int}(M:u.path.length <=1000000)(e:A2 h)(q:(jZ rs u h now).2=0):OX (jZ rs u h now).1:=by
 rcases OM rs u h now with h1|⟨-,g,E,D⟩
 ·exact absurd q h1.1
 ·rw[D]
  have h1:=e.name
  have G:=e.value
  have H:=e.path
  have I:=Uh u.path
  refine⟨by show h.name.length <=_;omega,by show h.value.length <=_;omega,?_⟩
  show(if h.path=[]then AA u.path else h.path).length <=_
  split <;> omega
theorem JI.set {rs:List Rul}{s:JS}(h:JI s m)(u:Url)(E:u.ok)(t:List UInt8)(D:u.path.length <=1000000):JI (oO rs s u E t).1 (m+1):=by
 have e:=h.mono (Nat.le_succ m)
 unfold oO
 split
 ·exact e
 split
 ·exact e
 split
 ·exact e
 split
 ·exact e
 rename_i h1 G H I
 have q:(jZ rs u (bB t).1 s.now).2=0:=by omega
 obtain⟨a,b,c⟩:=BX q
 exact h.come _ a b c (Ky D (tZ t) q)
theorem JI.do {rs:List Rul}{s:JS}(h:JI s m)(o:OpR)(q:o.ok):JI (doV rs s o q) (m+1):=by
 have e:=h.mono (Nat.le_succ m)
 unfold doV
 split
 ·exact h.set _ _ _ q.up
 split
 ·exact e.get _
 split
 ·exact e.tick _
 split
 ·exact JI.new h.n0 h.n1 _
 ·exact e
theorem iW {h:Hst}(o:h.ok)(r:dO h=true):h.name.length <=1000000:=by
 by_cases q:h.kind=1
 ·have:=(ec o q r).2.2.2.1
  omega
 ·unfold dO at r
  cases e:dR (pZ h)with
  |none=>rw[e]at r;cases r
  |some g=>
   rw[e]at r
   have D:=(fC (mg e) o).1 r
   subst D
   unfold dR at e
   split at e
   ·split at e
    ·obtain⟨a,_,rfl⟩:=Option.map_eq_some_iff.1 e
     exact Nat.zero_le _
    ·cases e
   split at e
   ·obtain⟨a,_,rfl⟩:=Option.map_eq_some_iff.1 e
    exact Nat.zero_le _
   split at e
   ·exact absurd (by have:=Option.some.inj e;rw[<- this]) q
   ·cases e
theorem uJ (s:OX c):(ki c).length <=2300000:=by
 have:=s.nm
 have:=s.vl
 unfold ki
 split
 ·omega
 ·simp;omega
theorem Sl.wr {α:Type}{T:Ty α}{w w':World}{a:Option Addr}{n c k:Nat}{xs:List α}(h:Sl T w A a n c xs)(D:w.grownBy w' (some k))(E: ¬ A k):Sl T w' A a n c xs:=
 h.keep (jR D λb q e=>by cases e;exact E q)
section
variable {F:Fence} {n:Nat} {P:Program} {ops:Array Oper} {Q:Exit->Act->World->Prop} {a:Act} {w:World} {rest:List Oper} {o:Oper}
theorem Ni (E:o.guard=none){x:Operand}(e:o.op=.buildSlice t 1 #[(0,x)]){u:Value}(H:a.eval x=u){v:Value}{w':World}(G:(Instr.buildSlice t 1 #[(0,u)]).run P w=.ok v w')(q:wpListIn F n P ops Q rest (a.put o.dst v) w'):wpListIn F n P ops Q (o::rest) a w:=
 ve E (by rw[e];intro c D;cases D) (by simp[Oper.about,e]) (by simp[execOp,e,H,G,Result.andThen]) q
theorem Nh (G:o.guard=none){t:TypeId}{x y:Operand}(e:o.op=.call { callee:=.builtin .append,args:= #[x,y],argTypes:= #[t,t] }){p q:Value}(I:a.eval x=p)(M:a.eval y=q){v:Value}{w':World}(H:(Builtin.append_ #[t,t] o.type #[p,q]).run P w=.ok v w')(D:wpListIn F n P ops Q rest (a.put o.dst v) w'):wpListIn F n P ops Q (o::rest) a w:=
 ve G (by rw[e];intro c E;cases E) (by simp[Oper.about,e,resolve,Target.leads,Sem.run_pure]) (by simp[execOp,e,resolve,invoke,builtin,I,M,H,Result.andThen]) D
end
theorem Ow.cells {α:Type}{T:Ty α}{a:Option Addr}{n c:Nat}{xs:List α}(h:Ow T t w A a n c xs){g:Nat}(e:j0 a=some g):∃o:Obj,w.heap[g]? =some o/\o.isCells=true:=by
 rcases h.2.2.2 with⟨q,_⟩|⟨D,cur,G,q,E,_⟩
 ·rw[q]at e;cases e
 ·rw[q]at e
  have:D=g:=by simpa[j0]using e
  subst this
  exact⟨_,E,rfl⟩
def Mz (w:World)(row:Option Nat):Prop:=∀r,row=some r->∃o:Obj,w.heap[r]? =some o/\o.isCells=false
theorem av.turned {w w':World}{vs:List Value}{row:Option Nat}(h:av w k t vs)(E:w.grownBy w' row)(G:Mz w row):av w' k t vs:=
 h.grown E λq=>by
  obtain⟨o,e,D⟩:=G k q.symm
  rw[show w.heap[k]? =_ from h]at e;cases e;cases D
theorem Ow.turned {α:Type}{T:Ty α}{w w':World}{a:Option Addr}{n c:Nat}{xs:List α}{row:Option Nat}(h:Ow T t w NoB a n c xs)(D:w.grownBy w' row)(M:Mz w row):Ow T t w' NoB a n c xs:=by
 cases row with
 |none=>exact h.keep (jR D λb O e=>by cases e)
 |some r=>
  refine h.put (λg H e=>?_) D
  subst e
  obtain⟨o,I,G⟩:=h.cells H
  obtain⟨U,E,q⟩:=M g rfl
  rw[I]at E;cases E;rw[G]at q;cases q
theorem HO {w0 w w':World}{row:Option Nat}(h:Below n w0 w)(q:n <=w.heap.size)(e:w.grownBy w' row)(D:∀r,row=some r->n <=r):Below n w0 w':=h.grown e q D
def Xz (w:World)(B:Nat)(t tc:TypeId)(pre:List Kpt)(W:World):Prop:=
 ∃(a:Option Addr) (n c:Nat),av W B t [.slice a n c]/\Ow rF tc W NoB a n c (pre.map Kpt.c)/\ci w.heap.size a/\j0 a≠some B/\bW w W
theorem Qb {B:Nat}{t V:TypeId}{H:Nat}(M:w.heap.size <=H):OwnFrom H (Xz w B t V):=by
 rintro pre W X row ⟨a,n,c,hB,U,I,O,D⟩ q E
 have G:Mz W row:=λr e=>(E r e).2
 exact⟨a,n,c,hB.turned q G,U.turned q G,I,O,HO D D.size q λr e=>Nat.le_trans M (E r e).1⟩
theorem JL {w w':World}(n:Nat)(e:bW w w'):KeepsFrom n w w':=⟨e.size,λk o _ q _=>(e.block k (Array.getElem?_eq_some_iff.1 q).1).trans q⟩
theorem Ik {w w':World}(e:bW w w'):KeepsWalks w w':=⟨e.size,λk o q _=>(e.block k (Array.getElem?_eq_some_iff.1 q).1).trans q⟩
section
open Go.Pk Go.RowKit Go.Shelf
attribute [local go_sem] Oper.semAt_some
theorem Tt {w0 w:World}{a:Option Addr}{n c:Nat}{xs:List Cky}(ac:Ow rF af w NoB a n c xs)(I:ci w0.heap.size a)(G:bW w0 w){x:Cky}(o:x.ok)(a0:xs.length <=1000000):
 ∃(U:World) (a1:Option Addr) (M E:Nat),(Instr.buildSlice aN 1 #[(0,x.v)]).run prog w=.ok (.slice a1 M E) U/\
  ∃(q:World) (a':Option Addr) (O c':Nat),(Builtin.append_ #[aN,aN] aN #[.slice a n c,.slice a1 M E]).run prog U=.ok (.slice a' O c') q/\
   Ow rF af q NoB a' O c' (xs++[x])/\ci w0.heap.size a'/\bW w0 q/\(∀b,b<w.heap.size->j0 a≠some b->q.heap[b]? =w.heap[b]?)/\w.heap.size <=q.heap.size:=by
 have e:bW w (w.alloc (.cells x.cells.toArray af)):=au w _
 have ad:=ac.below e
 have al:Src rF (w.alloc (.cells x.cells.toArray af)) NoB (some ⟨w.heap.size,0,none⟩) 1 [x]:=Src.new1F qz rfl rfl (show rF.rep w NoB x.cells x from⟨rfl,o⟩)
 obtain⟨ar,a4,an,V,aj,ag,D,Y⟩:=j6 (ty:=aN) sC yD (by decide) ad (λ_ _ h=>h) (cm:=1) al (by simp;omega)
 have hB:=ah G e G.size
 refine⟨_,_,_,_,Ta o w,ar,a4,an,V,aj,ag,I.app hB.size Y,hB.grown D hB.size I,λb H Z=>?_,Nat.le_trans e.size D.size⟩
 rw[D.block b (Nat.lt_of_lt_of_le H e.size) (λX=>Z X.symm),e.block b H]
theorem UE (m:Option Nat)(w:World):Cf 91 #[.map m] w λe w'=>e=.returned (.func (.func 155) #[] #[.pointer (some ⟨w.heap.size,0,none⟩)])/\w'=w.alloc (.cells #[.map m] bg):=by
 refine(lV m (K:=λv w'=>v=(.func (.func fy) #[] #[.pointer (some ⟨w.heap.size,0,none⟩)])/\w'=w.alloc (.cells #[.map m] bg)) ?_).mono ?_
 ·intro E G q D
  subst q D
  exact⟨rfl,rfl⟩
 ·rintro e w' ⟨v,rfl,rfl,rfl⟩
  exact⟨rfl,rfl⟩
set_option maxRecDepth 100000 in
set_option maxHeartbeats 4000000 in
theorem OH {p ma ms:Nat}{L:List Kpt}{last:Int}{w:World}(h:Shf bR p ma ms L last w)(hl:L.length <=1000000)
 (hsort:∀(xs:List Kpt) (W:World) (a:Option Addr) (n c:Nat),xs.Perm L->Ow rF af W NoB a n c (xs.map Kpt.c)->ci w.heap.size a->bW w W->
  CallsIn Fence.wide 5 prog 44 #[.slice a n c,.func (.func 92) #[] #[]] W λe W'=>e=.returned (.tuple #[])/\Ow rF af W' NoB a n c (L.map Kpt.c)/\Chg (j0 a).toList W W'):
 CallsIn Fence.wide 6 prog 40 #[.pointer (some ⟨p,0,none⟩)] w λe w'=>∃(a:Option Addr) (n c:Nat),e=.returned (.slice a n c)/\Ow rF af w' NoB a n c (L.map Kpt.c)/\ci w.heap.size a/\bW w w':=by
 have hv:=λm W=>(callsIn_wide (n:=5)).2 (UE m W)
 obtain⟨M,S,hM,hS,hMR,hSR⟩:=h.ex
 have hplt:=h.cell.lt
 have hcell:∀i,w.cell? ⟨p,i,none⟩=_:=λi=>h.cell.cell i
 have hc0:=hcell 0
 refine callsIn_of_wp_marks func40 rfl trivial ?_ rfl
 simp only[Tryz.ntmps40,List.size_toArray,List.length_cons,List.length_nil,Nat.reduceAdd,Nat.reduceSub,Array.replicate_succ,Array.replicate_zero,List.push_toArray,List.append_toArray,List.nil_append,List.cons_append]
 gi_wp2
 refine⟨trivial,(hv _ _).mono ?_⟩
 rintro e w' ⟨rfl,rfl⟩
 gi_wp2
 have hml:M.length <=1000000:=by have:=hMR.perm.length_eq;rw[List.length_map]at this;omega
 obtain⟨w1,hw1⟩:∃w1,w1=w.alloc (.cells #[.slice none 0 0] aN):=⟨_,rfl⟩
 have b1:bW w w1:=hw1▸au w _
 have aB:av w1 w.heap.size aN [.slice none 0 0]:=av.new rfl hw1
 rw[<- hw1]
 have hs1:w1.heap.size=w.heap.size+1:=by rw[hw1];simp
 obtain⟨w2,hw2⟩:∃w2,w2=w1.alloc (.cells #[.map (some ma)] bg):=⟨_,rfl⟩
 have b2:bW w1 w2:=hw2▸au w1 _
 have aM:av w2 w1.heap.size bg [.map (some ma)]:=av.new rfl hw2
 rw[<- hw2]
 have hs2:w2.heap.size=w1.heap.size+1:=by rw[hw2];simp
 have B2:=ah b1 b2 b1.size
 clear hw1 hw2 hcell hc0
 rw[hs1]at aM
 have hStop:=Py Fence.wide 5 trivial rfl (by decide) (w.heap.size+1) ma M w2 (by omega) (aM.cell 0) (hM.below B2)
 obtain⟨Bx,hBx⟩:∃Bx,Bx=w.heap.size:=⟨_,rfl⟩
 obtain⟨Bm,hBm⟩:∃Bm,Bm=w.heap.size+1:=⟨_,rfl⟩
 rw[<- hBm]at hStop
 rw[<- hBm,<- hBx]
 rw[<- hBx]at aB
 have I0:Xz w Bx aN af [] w2:=⟨none,0,0,aB.below b2,Ow.nil _ _ _ _,(λg hg=>by cases hg),(by intro h;cases h),B2⟩
 clear aM hS hM h b1 b2 aB
 refine wpIn_rangeFunc_ownH rfl (by decide) (gf:=155) (lb:= #[.pointer (some ⟨Bm,0,none⟩)]) rfl trivial (enters_of func155 (by kernel_rfl) rfl)
  hStop walksK_t walksK_b (Below.refl _ _) (λ_=>rfl)
  (Xz w Bx aN af) (λ_ _ _=>False) (Qb (by omega)) (λ_ _ _ _ _ hs _ _=>hs) I0
  (λx a' W=>∃kx,a'= { tmps:= #[.pointer (some ⟨p,0,none⟩),undef,.slice none 0 0,.pointer (some ⟨Bx,0,none⟩),.pointer (some ⟨kx,0,none⟩),.pointer (some ⟨p,0,none⟩),.pointer (some ⟨p,0,none⟩),.pointer (some ⟨p,0,none⟩),.map (some ma),.func (.func 155) #[] #[.pointer (some ⟨Bm,0,none⟩)],x.v,undef,undef,undef,undef,undef,undef,undef,undef],defers:=[] } /\av W kx bC x.cells)
  (λx a' s W W' row hs hg hr=> ?own) ?assign ?body ?done ?stop
 case own=>
  obtain⟨kx,e,ha⟩:=hs
  exact⟨kx,e,ha.turned hg λr e=>(hr r e).2⟩
 case assign=>
  intro l pre x W K hI hK
  have hb3:bW W (W.alloc (.cells mW.cells.toArray bC)):=au W _
  obtain⟨w3,hst,ha3,hg3⟩:=ur.store0 (P:=prog) (cs:=x.cells) (Kpt.len x) (Kpt.one x) (av.new (t:=bC) (vs:=mW.cells) rfl rfl:av (W.alloc (.cells mW.cells.toArray bC)) W.heap.size bC mW.cells) (Kpt.len mW)
  have hb23:=Below.put hb3 hg3 (Nat.le_refl _)
  apply wpIn_region_lit
  simp only[List.zip_toArray,List.foldl_toArray',List.foldl_toArray,List.zip_cons_cons,List.zip_nil_left,List.zip_nil_right,List.foldl_cons,List.foldl_nil,List.setIfInBounds_toArray,List.set_cons_succ,List.set_cons_zero]
  refine HV rfl rfl (L4 _) ?_
  refine C9 rfl rfl rfl rfl hst ?_
  apply wpListIn_nil
  exact hK _ w3 (JL _ hb23) (Ik hb23) (Qb (Nat.le_refl _) pre W w3 none hI (Fv hb23) (λr e=>by cases e)) ⟨_,rfl,ha3⟩
 case body=>
  rintro l pre x a' W hl hrec ⟨a,n,c,hB,ho,hf,hne,hb⟩ ⟨kx,rfl,hx⟩ hlen
  have hl1:(Instr.loadAt aN (.pointer (some ⟨Bx,0,none⟩))).run prog W=.ok (.slice a n c) W:=hB.load1 sC rfl (i:=0) rfl
  have hl2:(Instr.loadAt af (.pointer (some ⟨kx,0,none⟩))).run prog W=.ok x.c.v W:=aC.load hx (i:=0) (us:=x.c.cells) (Cky.len x.ok) (λj hj=>by rw[Nat.zero_add];exact oZ x hj)
  obtain⟨w4,a1,l1,c1,q1,w5,a2,n2,c2,q2,row4,fr4,B4,oth,sz5⟩:=Tt ho hf hb x.ok (by rw[List.length_map];omega)
  have hB5:=hB.block (oth Bx hB.lt hne)
  obtain⟨w6,q3,hB6,g6⟩:=hB5.put IM (i:=0) (v:=.slice a2 n2 c2) (show 0<1 by decide) rfl rfl
  apply wpIn_block
  apply wpIn_region_lit
  refine Fz rfl rfl rfl hl1 ?_
  refine ve rfl (by intro c hc;cases hc) rfl (v:=.pointer (some ⟨kx,0,none⟩)) (w':=W) rfl ?_
  refine Fz rfl rfl rfl hl2 ?_
  refine Ni rfl rfl rfl q1 ?_
  refine Nh rfl rfl rfl rfl q2 ?_
  refine C9 rfl rfl rfl rfl q3 ?_
  apply wpListIn_nil
  have hne2:j0 a2≠some Bx:=λe=>by
   rcases row4.2.2.2 with⟨e1,_⟩|⟨g,cur,fr,e1,hh,_⟩
   ·rw[e1]at e;cases e
   ·rw[e1]at e
    have:g=Bx:=by simpa[j0]using e
    subst this
    rw[show w5.heap[g]? =_ from hB5]at hh
    exact absurd (Option.some.inj hh) (by intro h;injection h with _ h2 _;exact absurd h2 (by decide))
  have oth6:∀(k:Nat) (o:Obj),W.heap[k]? =some o->o.isCells=false->w6.heap[k]? =some o:=λk o hk ho'=>by
   have hlt:=(Array.getElem?_eq_some_iff.1 hk).1
   have h5:=(oth k hlt λe=>by obtain⟨o2,h2,c2⟩:=ho.cells e;rw[hk]at h2;cases h2;rw[ho']at c2;cases c2).trans hk
   refine(g6.block k (Array.getElem?_eq_some_iff.1 h5).1 λe=>?_).trans h5
   cases e
   rw[show W.heap[Bx]? =_ from hB]at hk;cases hk;cases ho'
  have sz6:W.heap.size <=w6.heap.size:=Nat.le_trans sz5 g6.size
  exact⟨⟨sz6,λk o _ hk ho'=>oth6 k o hk ho'⟩,⟨sz6,λk o hk ho'=>oth6 k o hk (Obj.not_cells_of_walk ho')⟩,a2,n2,c2,hB6,by rw[List.map_append];exact row4.put (λg hg e=>hne2 (by rw[<- e];exact hg)) g6,fr4,hne2,Below.put B4 g6 (by omega)⟩
 case done=>
  rintro D xs W hD hp ⟨a,n,c,hB,ho,hf,hne,hb⟩ hK
  subst hBx
  have hcB:W.cell? ⟨w.heap.size,0,none⟩=some (.slice a n c):=hB.cell 0
  have hsx:=hsort xs W a n c (hp.trans hMR.perm) ho hf hb
  gi_wp2
  refine⟨trivial,hsx.mono ?_⟩
  rintro e W3 ⟨rfl,ho3,hc3⟩
  have hB3:av W3 w.heap.size aN [.slice a n c]:=hc3.arr hB (by intro h;exact hne (by simpa using h))
  have hcB3:W3.cell? ⟨w.heap.size,0,none⟩=some (.slice a n c):=hB3.cell 0
  have hK3:W3.heap[D]? =some (.deferred (some [])):=(hc3.block D (Array.getElem?_eq_some_iff.1 hK).1 (by
   intro h
   obtain⟨o,h1,h2⟩:=ho.cells (show j0 a=some D by simpa using h)
   rw[hK]at h1;cases h1;cases h2)).trans hK
  gi_wp2
  refine⟨by simp,.inl ⟨_,_,rfl,run_takeDeferred hK3,?_⟩⟩
  have gD:=grownBy_putObj' W3 D (.deferred none)
  have nD:Mz W3 (some D):=λr e=>by cases e;exact⟨_,hK3,rfl⟩
  have B3:bW w W3:=hb.trans (hc3.below hb.size (λk hk=>hf k (by simpa using hk)))
  exact⟨_,results_tmp rfl _ _ _,a,n,c,rfl,ho3.turned gD nD,hf,HO B3 B3.size gD (λr e=>by cases e;omega)⟩
 case stop=>
  rintro D c pre W _ _ h _
  exact h.elim
end
open Go.Sort (Holds HoldsK flatK putRow putRowK grow putCells mapBlock)
open Go.Proofs (sortWorldK)
section
variable {α β:Type} [Inhabited α] {T:Ty β} {f:α->β} {enc:α->List Value}
theorem Sy {ys:List α}(G:∀y,(enc y).length=k)(E:i<ys.length):((flatK enc k ys.toArray).toList.drop (i*k)).take k=enc ys[i]:=by
 have M:i*k+k <=ys.length*k:=by
  have:=Nat.mul_le_mul_right k (show i+1 <=ys.length from E)
  rwa [Nat.add_mul,Nat.one_mul]at this
 have I:(flatK enc k ys.toArray).toList.length=ys.length*k:=by simp
 apply List.ext_getElem
 ·rw[List.length_take,List.length_drop,I,G];omega
 ·intro c h1 e
  have O:c<k:=by rw[G]at e;exact e
  rw[List.getElem_take,List.getElem_drop,Array.getElem_toList]
  have lt:i*k+c<ys.toArray.size*k:=by simp;omega
  have D:=Sort.get_flatK enc k ys.toArray (i*k+c) lt
  rw[getElem!_pos _ _ (by simpa using lt)]at D
  rw[D]
  have q:(i*k+c)/k=i:=(Sort.blk_iff k i _ (by omega)).1 ⟨by omega,by omega⟩
  have H:(i*k+c)%k=c:=by rw[Nat.mod_eq_sub_div_mul,q];omega
  rw[q,H,getElem!_pos ys.toArray i (by simpa using E)]
  rw[List.getElem_toArray,getElem!_pos (enc ys[i]) (c) e]
theorem OwK.holds (I:∀w A vs y,T.rep w A vs (f y) ↔ vs=enc y){g n c:Nat}{ys:List α}(h:Ow T t w A (some ⟨g,0,none⟩) n c (ys.map f)):
 HoldsK enc T.k w g 0 ys.toArray/\g<w.heap.size:=by
 have bk:∀y,(enc y).length=T.k:=λy=>T.len ((I w A (enc y) y).2 rfl)
 obtain⟨q,Y,bc,D⟩:=h
 rcases D with⟨U,_⟩|⟨bb,cur,a9,O,E,aj,a8,D⟩
 ·cases U
 ·cases O
  rw[List.length_map]at q
  refine⟨λj al=>?_,(Array.getElem?_eq_some_iff.1 E).1⟩
  have G:j<ys.length*T.k:=by simpa using al
  have ar:=T.pos
  have bj:ys.length*T.k <=cur.size:=by rw[a8,<- q];exact Nat.mul_le_mul_right _ Y
  have e:j<cur.size:=by omega
  have M:j/T.k<ys.length:=Nat.div_lt_of_lt_mul (by rw[Nat.mul_comm];exact G)
  refine⟨?_,?_⟩
  ·rw[A6 E,Nat.zero_add]
   have Z:=(I _ _ _ _).1 (by have:=D.rep (j/T.k) (by simpa using M);rwa [List.getElem_map]at this)
   have ac:=Sort.get_flatK enc T.k ys.toArray j (by simpa using G)
   show cur[j]? =some ((flatK enc T.k ys.toArray)[j]!)
   rw[ac]
   have a0:j%T.k<T.k:=Nat.mod_lt _ ar
   have an:j/T.k*T.k+j%T.k=j:=by have:=Nat.div_add_mod j T.k;rw[Nat.mul_comm]at this;exact this
   have H:(((cur.toList.take (n*T.k)).drop (j/T.k*T.k)).take T.k)[j%T.k]? =some (cur.toList[j]'(by simpa using e)):=by
    rw[List.getElem?_take,if_pos a0,List.getElem?_drop,List.getElem?_take,an,if_pos (by rw[q];exact G)]
    rw[List.getElem?_eq_getElem (by simpa using e)]
   rw[Z]at H
   have V:ys.toArray[j/T.k]! =ys[j/T.k]:=by rw[getElem!_pos _ _ (by simpa using M)];simp
   rw[V]
   have ad:=(List.getElem?_eq_some_iff.1 H)
   obtain⟨ag,X⟩:=ad
   rw[getElem!_pos (enc ys[j/T.k]) (j%T.k) ag,X,Array.getElem?_eq_getElem e]
   simp
  ·rw[Nat.zero_add];exact Mb E (aj j e)
theorem OwK.put (U:∀w A vs y,T.rep w A vs (f y) ↔ vs=enc y){g n c:Nat}{xs ys:List α}(h:Ow T t w A (some ⟨g,0,none⟩) n c (xs.map f))(X:ys.length=xs.length)(q:Nat)(H:Array Obj):
 Ow T t (sortWorldK enc T.k w g 0 q ys.toArray H) A (some ⟨g,0,none⟩) n c (ys.map f)/\w.grownBy (sortWorldK enc T.k w g 0 q ys.toArray H) (some g):=by
 have ar:∀y,(enc y).length=T.k:=λy=>T.len ((U w A (enc y) y).2 rfl)
 obtain⟨E,M,ag,O⟩:=h
 rw[List.length_map]at E
 rcases O with⟨ad,_⟩|⟨bb,cur,I,ac,V,aj,Z,O⟩
 ·cases ad
 ·cases ac
  have a8:=(Array.getElem?_eq_some_iff.1 V).1
  have G:(putRowK enc T.k (Go.Sort.ahead w q) g 0 ys.toArray).heap.size=w.heap.size:=by simp[putRowK,Go.Sort.ahead]
  have al:(sortWorldK enc T.k w g 0 q ys.toArray H).heap[g]? =some (.cells (putCells id 0 (flatK enc T.k ys.toArray) cur) t I):=by
   unfold sortWorldK
   rw[Sort.heap_grow_old _ _ (by rw[G];exact a8)]
   show((Go.Sort.ahead w q).heap.modify g _)[g]? =_
   rw[Array.getElem?_modify,if_pos rfl]
   show(w.heap[g]?).map _=_
   rw[V];rfl
  have Y:n*T.k=ys.length*T.k:=by rw[X,E]
  have bc:ys.length*T.k <=cur.size:=by rw[Z,<- Y];exact Nat.mul_le_mul_right _ M
  refine⟨⟨by rw[List.length_map,X];exact E,M,ag,.inr ⟨g,_,I,rfl,al,?_,?_,?_⟩⟩,?_⟩
  ·intro i e;exact aj i (by simpa[putCells]using e)
  ·simpa[putCells]using Z
  ·have D:(putCells id 0 (flatK enc T.k ys.toArray) cur).toList.take (n*T.k)=(flatK enc T.k ys.toArray).toList:=by
    rw[Y]
    apply List.ext_getElem?
    intro i
    rw[List.getElem?_take]
    by_cases e:i<ys.length*T.k
    ·rw[if_pos e]
     have:i<cur.size:=by omega
     simp[putCells,e,this]
    ·rw[if_neg e]
     symm
     rw[List.getElem?_eq_none]
     simp;omega
   rw[D]
   refine⟨by simp,λi e=>?_⟩
   have an:i<ys.length:=by simpa using e
   rw[Sy ar an,List.getElem_map]
   exact(U _ _ _ _).2 rfl
  ·unfold sortWorldK
   refine⟨rfl,rfl,rfl,by simp[grow,G],λk a0 a9=>?_⟩
   rw[Sort.heap_grow_old _ _ (by rw[G];exact a0)]
   show((Go.Sort.ahead w q).heap.modify g _)[k]? =_
   rw[Array.getElem?_modify,if_neg (λD=>a9 (by rw[D]))]
   rfl
end
theorem Tr {α:Type}[Inhabited α]{d d':Array α}(h:Go.Sort.PermIn 0 d.size d d'):d'.size=d.size/\d'.toList.Perm d.toList:=by
 obtain⟨h1,_,e⟩:=h
 refine⟨h1,?_⟩
 have q:d.extract 0 d.size=d:=by simp
 have D:d'.extract 0 d.size=d':=by rw[<- h1];simp
 rw[q,D]at e
 exact e
theorem PK {α:Type}[Inhabited α]{lt:α->α->Bool}{d:Array α}(E:d.size=n)(h:Go.Sort.SortedIn lt 0 n d):d.toList.Pairwise λa b=>lt b a=false:=by
 rw[List.pairwise_iff_getElem]
 intro i j q e D
 have:=h i j (Nat.zero_le _) D (by rw[<- E];simpa using e)
 rw[getElem!_pos d j (by simpa using e),getElem!_pos d i (by simpa using q)]at this
 simpa using this
theorem NG {α:Type}{R:α->α->Bool} :∀{l r:List α},l.Perm r->(l.Pairwise λa b=>R b a=false)->(r.Pairwise λa b=>R a b=true)->l=r
 |[],r,q,_,_=>by rw[q.nil_eq]
 |a::l,[],q,_,_=>by have:=q.length_eq;simp at this
 |a::l,b::r,q,D,E=>by
  rw[List.pairwise_cons]at D E
  have H:a=b:=by
   rcases List.mem_cons.1 (q.mem_iff.1 (List.mem_cons_self ..))with e|e
   ·exact e
   ·rcases List.mem_cons.1 (q.mem_iff.2 (List.mem_cons_self ..))with e2|e2
    ·exact e2.symm
    ·have h1:=E.1 a e
     have G:=D.1 b e2
     rw[h1]at G;cases G
  subst H
  rw[NG ((List.perm_cons a).1 q) D.2 E.2]
end Go.Pk
namespace Go.Proofs
open Go.Pk (Cf vS vI bW)
open Go.Shelf
def Tryz.sortF_ren:Go.Shelf.Ren:=⟨fun|6=>44|15=>97|14=>96|28=>164|29=>165|20=>156|21=>157|22=>158|23=>159|24=>160|25=>161|26=>162|27=>163|46=>217|47=>218|48=>219|49=>220|50=>221|57=>260|n=>n,fun|22=>58|24=>63|25=>103|3=>3|39=>167|0=>0|53=>226|55=>228|4=>4|46=>220|45=>219|50=>124|5=>5|9=>9|66=>257|70=>261|76=>289|77=>251|n=>n,fun|n=>n⟩
theorem Tryz.sortF:Go.Proofs.SlLaysF0.n6 prog Tryz.sortF_ren:= {
 mixed:=by kernel_rfl
 f6:=⟨Tryz.f44.name,by decide,func44.trans (congrArg some (by kernel_rfl))⟩
 f14:=⟨Tryz.f96.name,by decide,func96.trans (congrArg some (by kernel_rfl))⟩
 f15:=func97.trans (congrArg some (by kernel_rfl))
 f20:=⟨Tryz.f156.name,by decide,func156.trans (congrArg some (by kernel_rfl))⟩
 f21:=⟨Tryz.f157.name,by decide,func157.trans (congrArg some (by kernel_rfl))⟩
 f22:=⟨Tryz.f158.name,by decide,func158.trans (congrArg some (by kernel_rfl))⟩
 f23:=⟨Tryz.f159.name,by decide,func159.trans (congrArg some (by kernel_rfl))⟩
 f24:=⟨Tryz.f160.name,by decide,func160.trans (congrArg some (by kernel_rfl))⟩
 f25:=⟨Tryz.f161.name,by decide,func161.trans (congrArg some (by kernel_rfl))⟩
 f26:=⟨Tryz.f162.name,by decide,func162.trans (congrArg some (by kernel_rfl))⟩
 f27:=⟨Tryz.f163.name,by decide,func163.trans (congrArg some (by kernel_rfl))⟩
 f28:=func164.trans (congrArg some (by kernel_rfl))
 f29:=func165.trans (congrArg some (by kernel_rfl))
 f46:=⟨Tryz.f217.name,by decide,func217.trans (congrArg some (by kernel_rfl))⟩
 f47:=func218.trans (congrArg some (by kernel_rfl))
 f48:=func219.trans (congrArg some (by kernel_rfl))
 f49:=⟨Tryz.f220.name,by decide,func220.trans (congrArg some (by kernel_rfl))⟩
 f50:=⟨Tryz.f221.name,by decide,func221.trans (congrArg some (by kernel_rfl))⟩
 f57:=⟨Tryz.f260.name,by decide,func260.trans (congrArg some (by kernel_rfl))⟩
 t0:=Tryz.underlying0
 a0:=Tryz.isAgg0
 z0:=Tryz.sizeOf0
 v0:=Tryz.zeroValue0
 t3:=Tryz.underlying3
 a3:=Tryz.isAgg3
 z3:=Tryz.sizeOf3
 v3:=Tryz.zeroValue3
 t4:=Tryz.underlying4
 a4:=Tryz.isAgg4
 z4:=Tryz.sizeOf4
 v4:=Tryz.zeroValue4
 t5:=Tryz.underlying5
 a5:=Tryz.isAgg5
 z5:=Tryz.sizeOf5
 v5:=Tryz.zeroValue5
 t9:=Tryz.underlying9
 a9:=Tryz.isAgg9
 z9:=Tryz.sizeOf9
 v9:=Tryz.zeroValue9
 t22:=Tryz.underlying58
 a22:=Tryz.isAgg58
 z22:=Tryz.sizeOf58
 v22:=Tryz.zeroValue58
 t25:=Tryz.underlying103
 a25:=Tryz.isAgg103
 z25:=Tryz.sizeOf103
 v25:=Tryz.zeroValue103
 t39:=Tryz.underlying167
 a39:=Tryz.isAgg167
 z39:=Tryz.sizeOf167
 v39:=Tryz.zeroValue167
 t45:=Tryz.underlying219
 a45:=Tryz.isAgg219
 z45:=Tryz.sizeOf219
 v45:=Tryz.zeroValue219
 t46:=Tryz.underlying220
 a46:=Tryz.isAgg220
 z46:=Tryz.sizeOf220
 v46:=Tryz.zeroValue220
 t50:=Tryz.underlying124
 a50:=Tryz.isAgg124
 z50:=Tryz.sizeOf124
 v50:=Tryz.zeroValue124
 t53:=Tryz.underlying226
 a53:=Tryz.isAgg226
 z53:=Tryz.sizeOf226
 v53:=Tryz.zeroValue226
 t55:=Tryz.underlying228
 a55:=Tryz.isAgg228
 z55:=Tryz.sizeOf228
 v55:=Tryz.zeroValue228
 t66:=Tryz.underlying257
 a66:=Tryz.isAgg257
 z66:=Tryz.sizeOf257
 v66:=Tryz.zeroValue257
 t70:=Tryz.underlying261
 a70:=Tryz.isAgg261
 z70:=Tryz.sizeOf261
 v70:=Tryz.zeroValue261
 t76:=Tryz.underlying289
 a76:=Tryz.isAgg289
 z76:=Tryz.sizeOf289
 v76:=Tryz.zeroValue289
 t77:=Tryz.underlying251
 a77:=Tryz.isAgg251
 z77:=Tryz.sizeOf251
 v77:=Tryz.zeroValue251 }
open Go.RowKit Go.Lib Go.Sort in
theorem Tryz.slices_SortFunc_Cookie {α:Type}[Inhabited α](k:Nat)(E:∀w,(isAgg 63).run prog w=.ok true w)(Y:∀w,(Go.sizeOf 63).run prog w=.ok k w)(enc:α->List Value)(V:∀x,(enc x).length=k)(h1:∀x,∀v∈enc x,v.oneCell'=true)(e:α->α->Int)(M:SWO (ltOf e))(g:Nat)(q:Array Value)(blk off cap:Nat)(d:Array α)(w:World)
 (H:∀args w,(callFunc g args).run prog w=.ok (.enter g args) w) (U:CmpLays prog g q enc k e blk off d.size w) (I:HoldsK enc k w blk off d) (O:blk<w.heap.size) (X:d.size<4611686018427387904):
 Cf 44 #[.slice (some ⟨blk,off,none⟩) d.size cap,.func (.func g) #[] q] w λG w'=>
  G=.returned (.tuple #[])/\∃D n os,PermIn 0 d.size d D/\SortedIn (ltOf e) 0 d.size D/\w'=sortWorldK enc k w blk off n D os:=AnyQ.slices_SortFunc Tryz.sortF k E Y enc V h1 e M g q blk off cap d w H U I O X
theorem Tryz.slices_SortFunc_Cookie_none (p:Option Addr)(cap:Nat)(e:Value)(w:World):
 Cf 44 #[.slice p 0 cap,e] w λq w'=>q=.returned (.tuple #[])/\w'=w:=AnyF.slices_SortFunc_none Tryz.sortF p cap e w
end Go.Proofs
namespace Go.Pk
open Go.RowKit (Below)
open Go.Proofs
open Go.Proofs (sortWorldK)
open Go.Sort (Holds HoldsK flatK putRow putRowK grow putCells mapBlock)
structure OpK where
 o:OpR
 ok:o.ok
noncomputable def vQ (rs:List Rul):JS->List OpK->JS
 |s,[]=>s
 |s,o::l=>vQ rs (doV rs s o.o o.ok) l
theorem JI.run {rs:List Rul} :∀(l:List OpK) {s:JS} {m:Nat},JI s m->JI (vQ rs s l) (m+l.length)
 |[],s,m,h=>h
 |o::l,s,m,h=>by
  have:=JI.run (rs:=rs) l (h.do (rs:=rs) o.o o.ok)
  rw[List.length_cons,show m+(l.length+1)=m+1+l.length by omega]
  exact this
theorem fD {α:Type}{l:List α}(h:k<l.length):l.take (k+1)=l.take k++[l[k]]:=List.take_succ_eq_append_getElem h
def usd (r:Req)(now:Int)(k:Kpt):Kpt:=if dD k.c r now=true then⟨{ k.c with used:=now },k.site,k.ok⟩ else k
theorem UX (s:ShI L a)(now:Int):∀e:List Kpt,(∀k∈e,k∈L)->rm L e now=L.map λx=>if x.plc∈e.map Kpt.plc then(⟨{ x.c with used:=now },x.site,x.ok⟩:Kpt)else x:=by
 intro e
 have key:∀(e:List Kpt) (f:Kpt->Kpt),(∀x,f x=x\/f x=⟨{ x.c with used:=now },x.site,x.ok⟩)->rm (L.map f) e now=L.map λx=>if x.plc∈e.map Kpt.plc then(⟨{ x.c with used:=now },x.site,x.ok⟩:Kpt)else f x:=by
  intro e
  induction e with
  |nil=>intro f _;show L.map f=_;exact List.map_congr_left λx _=>by simp
  |cons k e G=>
   intro f D
   show rm (z6 (L.map f) k.plc now) e now=_
   have E:z6 (L.map f) k.plc now=L.map λx=>if x.plc=k.plc then(⟨{ x.c with used:=now },x.site,x.ok⟩:Kpt)else f x:=by
    unfold z6
    rw[List.map_map]
    refine List.map_congr_left λx _=>?_
    show(if(f x).plc=k.plc then(⟨{ (f x).c with used:=now },(f x).site,(f x).ok⟩:Kpt)else f x)=_
    rcases D x with h|h
    ·rw[h]
    ·rw[h];rfl
   rw[E,G]
   ·refine List.map_congr_left λx _=>?_
    rw[List.map_cons]
    by_cases c:x.plc∈e.map Kpt.plc
    ·rw[if_pos c,if_pos (List.mem_cons_of_mem _ c)]
    ·rw[if_neg c]
     by_cases q:x.plc=k.plc
     ·rw[if_pos q,if_pos (by rw[q];exact List.mem_cons_self ..)]
     ·rw[if_neg q,if_neg]
      intro h
      rcases List.mem_cons.1 h with h|h
      ·exact q h
      ·exact c h
   ·intro x
    by_cases q:x.plc=k.plc
    ·rw[if_pos q];exact .inr rfl
    ·rw[if_neg q];exact D x
 intro _
 have:=key e (λx=>x) λx=>.inl rfl
 rw[List.map_id']at this
 exact this
theorem TQ (s:ShI L a)(r:Req)(now:Int):rm L (tU L r now) now=L.map (usd r now):=by
 rw[UX s now _ λk E=>(List.mem_filter.1 ((oK L r now).mem_iff.1 E)).1]
 refine List.map_congr_left λx q=>?_
 unfold usd
 by_cases c:dD x.c r now=true
 ·rw[if_pos c,if_pos]
  exact List.mem_map.2 ⟨x,(oK L r now).mem_iff.2 (List.mem_filter.2 ⟨q,c⟩),rfl⟩
 ·rw[if_neg c,if_neg]
  intro h
  obtain⟨y,G,D⟩:=List.mem_map.1 h
  have e:=List.mem_filter.1 ((oK L r now).mem_iff.1 G)
  rw[s.one e.1 q D]at e
  exact c e.2
theorem SD {s:JS}(h:JI s m)(r:Req):(xH s r).1=⟨s.L.map (usd r s.now),s.last,s.now⟩:=by
 unfold xH
 rw[TQ h.sh]
open Go.Sort (grow SWO)
open Go.Proofs (ltOf)
theorem Gi {α:Type}{Q:α->Prop}{xs:List α}(h:∀x∈xs,Q x):∃ys:List {x // Q x},ys.map (·.1)=xs:=⟨xs.attachWith Q h,by simp⟩
theorem Uo (w:World)(e q:Obj):(w.alloc e).alloc q=grow (w.drewN 0) #[e,q]:=by
 unfold grow World.alloc
 simp only[World.drewN,Nat.add_zero]
 congr 1
open Go.Proofs (ltOf CmpLays)
theorem OL {Q:Kpt->Prop}[Inhabited {k:Kpt // Q k}](D: {k:Kpt // Q k} -> {k:Kpt // Q k} ->Int)(ac:SWO (ltOf D))(g:Nat)(Y:∀args w,(callFunc g args).run prog w=.ok (.enter g args) w)
 (ad:∀(W:World) (x y: {k:Kpt // Q k}),Cf g #[x.1.c.v,y.1.c.v] W λq w'=>q=.returned (vI (D x y))/\∃G bk,w'=grow (W.drewN G) bk)
 {W:World} {a:Option Addr} {n c:Nat} {xs:List Kpt} (bc:∀k∈xs,Q k) (e:Ow rF af W NoB a n c (xs.map Kpt.c)) (aj:xs.length <=1000000):
 Cf oI #[.slice a n c,.func (.func g) #[] #[]] W λq w'=>q=.returned (.tuple #[])/\
  ∃ys:List {k:Kpt // Q k},(ys.map (·.1)).Perm xs/\(ys.Pairwise λa b=>ltOf D b a=false)/\Ow rF af w' NoB a n c ((ys.map (·.1)).map Kpt.c)/\Chg (j0 a).toList W w':=by
 obtain⟨zs,rfl⟩:=Gi bc
 have an:=e
 rcases an.2.2.2 with⟨rfl,rfl,I⟩|⟨b,cur,bq,rfl,bs,_⟩
 ·have E:n=0:=by have:=e.len;rw[I]at this;exact this
  subst E
  have bj:zs=[]:=by cases zs with|nil=>rfl|cons _ _=>cases I
  subst bj
  refine(Tryz.slices_SortFunc_Cookie_none none 0 _ W).mono ?_
  rintro q w' ⟨rfl,rfl⟩
  exact⟨rfl,[],List.Perm.refl _,List.Pairwise.nil,e,Chg.refl _ _⟩
 ·have E:n=zs.toArray.size:=by have:=e.len;simpa using this
  subst E
  have M:∀w A vs (y: {k:Kpt // Q k}),rF.rep w A vs y.1.c ↔ vs=y.1.c.cells:=λw A vs y=>⟨λh=>h.1,λh=>⟨h,y.1.ok⟩⟩
  have O:Ow rF af W NoB (some ⟨b,0,none⟩) zs.toArray.size c (zs.map λy=>y.1.c):=by rw[List.map_map]at e;exact e
  obtain⟨Z,al⟩:=OwK.holds (f:=λy: {k:Kpt // Q k} =>y.1.c) (enc:=λy=>y.1.c.cells) M O
  refine(Tryz.slices_SortFunc_Cookie (α:= {k:Kpt // Q k}) 29 (λw=>by kernel_rfl) (λw=>by kernel_rfl) (λy=>y.1.c.cells) (λy=>Cky.len y.1.ok) (λy v bb=>Cky.one y.1.c v bb) D ac g #[] b 0 c zs.toArray W Y (λm X bp V x y=>ad _ x y) Z al (by simp at aj ⊢;omega)).mono ?_
  rintro q w' ⟨rfl,H,G,X,a0,V,rfl⟩
  obtain⟨a9,U⟩:=Tr a0
  have a8:=PK a9 V
  obtain⟨ar,ag⟩:=OwK.put (f:=λy: {k:Kpt // Q k} =>y.1.c) (enc:=λy=>y.1.c.cells) M O (ys:=H.toList) (by rw[U.length_eq]) G X
  refine⟨rfl,H.toList,U.map _,a8,?_,?_⟩
  ·rw[List.map_map];exact ar
  ·exact Chg.grown ag (by simp[j0])
theorem Q1 (W:World){x y:Kpt}(V:0 <=x.c.seq/\x.c.seq <=4611686018427387904)(X:0 <=y.c.seq/\y.c.seq <=4611686018427387904):
 Cf ui #[x.c.v,y.c.v] W λD w'=>D=.returned (vI (x.c.seq-y.c.seq))/\∃q os',w'=grow (W.drewN q) os':=by
 refine(CF x.c.v y.c.v (K:=λv w'=>v=vI (x.c.seq-y.c.seq)/\∃q os',w'=grow (W.drewN q) os') ?_).mono ?_
 ·intro G H M E U I O e
  have a2:av I G af x.c.cells:=(av.new M E:av H G af x.c.cells).below (e▸au H _)
  have a3:av I U af y.c.cells:=av.new O e
  refine⟨rfl,_,a2.load1 br rfl (i:=28) (be x.ok 8),rfl,_,a3.load1 br rfl (i:=28) (be y.ok 8),?_,0,#[.cells (Value.cells x.c.v) af,.cells (Value.cells y.c.v) af],?_⟩
  ·rw[wrap_i64 (by omega) (by omega)]
  ·subst e E;exact Uo _ _ _
 ·rintro D w' ⟨v,rfl,rfl,h⟩
  exact⟨rfl,h⟩
def TX (k:Kpt):Prop:=0 <=k.c.seq/\k.c.seq <=4611686018427387904
instance:Inhabited {k:Kpt // TX k} :=⟨⟨mW,by decide,by decide⟩⟩
theorem VC:SWO (ltOf λx y: {k:Kpt // TX k} =>x.1.c.seq-y.1.c.seq):=by
 constructor <;> intros <;> simp only[ltOf,dTx,dFx]at* <;> omega
theorem Dp {p Z ac:Nat}{last:Int}(h:Shf bR p Z ac L last w)(E:L.length <=1000000)(aj:last <=4611686018427387904):
 Cf tX #[.pointer (some ⟨p,0,none⟩)] w (Ret λv w'=>∃(a:Option Addr) (n c:Nat),v=.slice a n c/\Ow rF af w' NoB a n c (L.map Kpt.c)/\ci w.heap.size a/\bW w w'):=by
 have D:=h.inv
 have X:∀k∈L,TX k:=λk e=>by have:=D.lo k e;exact⟨by omega,by omega⟩
 have hA:=OH h E (λxs W a n c q U ag ad=>(callsIn_wide (n:=5)).2 ?_)
 ·refine((callsIn_wide (n:=6)).1 hA).mono ?_
  rintro H w' ⟨a,n,c,rfl,M⟩
  exact⟨_,rfl,a,n,c,rfl,M⟩
 ·refine(OL (Q:=TX) _ VC ui (enters_of func92 (by kernel_rfl) rfl) (λW x y=>Q1 W x.2 y.2) (λk e=>X k (q.mem_iff.1 e)) U (by rw[q.length_eq];exact E)).mono ?_
  rintro H w' ⟨rfl,ys,V,Y,G,O⟩
  have I:ys.map (·.1)=L:=by
   refine NG (R:=λa b=>decide (a.c.seq<b.c.seq)) (V.trans q) ?_ ?_
   ·rw[List.pairwise_map]
    refine Y.imp fun{a b} h=>?_
    simp only[ltOf,dFx]at h ⊢
    omega
   ·exact D.up.imp fun{a b} h=>by simpa using h
  rw[I]at G
  exact⟨rfl,G,O⟩
set_option maxRecDepth 100000
theorem PI (a:Option Addr){w K}(h:uP tT #[] w λb c=>nA c (.cells #[vI 0,.pointer a,.pointer b] sk) λd e=>K (.pointer (vA d 0)) e):Cf ux #[.pointer a] w (Ret K):=ru func9 [] h
theorem Kd (a:Option Addr)(b:Value)(c:lU){w K}(h:nA w (.cells (Value.cells b) aQ) λd e=>∃f,Ld aQ (vA d 0) e f/\uB BC #[f] e λg i=>ai (!g) (K (vI 41) i) (Cf xe #[vS c] i λj k=>∃l m n o p q r s t u v x,j=rT #[(hV l m n o p q r s t u v),vI x]/\nA k (.cells #[vS [],vS [],vS [],vS [],.bool false,vI 0,.bool false,vI 0,.bool false,.bool false,vI 0] aq) λy z=>∃A,Sv aq (vA y 0) (hV l m n o p q r s t u v) z A/\ai (x !=(0:Int)) (K (vI x) A) ((Option.isSome a=true)/\(Option.isSome a=true)/\(Option.isSome a=true)/\(Option.isSome a=true)/\(isSome (Option.map (λB=>B.add 0) a))/\∃B,(∀C,bW A C->Ld xD (Option.map (λD=>D.add 1) a) C (.pointer B))/\∃C,(∀D,bW A D->Ld aQ (vA d 0) D C)/\∃D E F G H I J L M N O,(∀P,bW A P->Ld aq (vA y 0) P (hV D E F G H I J L M N O))/\∃P,(∀Q,bW A Q->Ld aX (Option.map (λR=>R.add 0) (Option.map (λR=>R.add 0) a)) Q (vI P))/\∃Q R,(∀S,bW A S->Cf zN #[.pointer B,C,(hV D E F G H I J L M N O),vI P] S λT U=>T=rT #[Q,vI R]/\bW S U)/\∀S,A.heap.size <=S->∀T,bW A T->T.heap[S]? =some (.cells bf af)->∃U,Sv af (vA S 0) Q T U/\ai (R !=(0:Int)) (K (vI R) U) (∃V:FP [],(true/\∃X,Ld bu (vA d 0) U (.bool X)/\ai (!X) (∃Y,Ld af (vA S 0) U Y/\uB vw #[.pointer a,Y] U λZ ac=>ai Z (K (vI 121) ac) (V ac)) (V U))/\aP 9 (∀X,V X->∃Y,Ld af (vA S 0) X Y/\uS Aj #[.pointer a,Y] X λZ ac=>(Option.isSome a=true)/\(Option.isSome a=true)/\∃ad,(∀ag,bW ac ag->Ld cD (Option.map (λaj=>aj.add 2) a) ag (.pointer ad))/\∃ag,(∀aj,bW ac aj->Ld af (vA S 0) aj ag)/\∀aj,bW ac aj->uB wH #[.pointer ad,ag,vS Z] aj λal an=>(Option.isSome a=true)/\(Option.isSome a=true)/\(Option.isSome a=true)/\(Option.isSome a=true)/\(isSome (Option.map (λar=>ar.add 0) a))/\∃ar,(∀bb,bW an bb->Ld cD (Option.map (λbc=>bc.add 2) a) bb (.pointer ar))/\∃bb,(∀bc,bW an bc->Ld aX (Option.map (λbd=>bd.add 0) (Option.map (λbd=>bd.add 0) a)) bc (vI bb))/\∀bc,bW an bc->uI rC #[.pointer ar,vI bb] bc λbd bj=>uU Bn #[.pointer a,vS Z] bj λbk=>K (vI 0) bk))))):Cf bE #[.pointer a,b,vS c] w (Ret K):=ru func12 [(3000021,[(0,.one .bool),(1,.one .bool),(2,.one .bool),(6,.one .bool),(7,.one .bool),(8,.one .bool),(9,.one .bool),(3,.one .bool),(4,.one .bool),(5,.one .bool),(10,.one .bool),(11,.one .bool),(12,.one .bool),(13,.one .bool),(14,.one .bool),(15,.one .bool)]),(30,[]),(1000041,[]),(3000041,[(0,.one .bool),(1,.one .bool),(2,.one .bool),(5,.one .bool),(3,.one .bool),(4,.one .bool)]),(1000043,[]),(3000043,[(0,.one .bool),(1,.one .bool),(2,.one .bool),(4,.one .bool),(5,.one .bool),(6,.one .bool),(7,.one .bool),(3,.one .bool),(8,.one .bool)])] h
theorem IC (a:Option Addr)(b:Int){w K}(h:∃c:FP [],(ai (decide (b<(0:Int))) (K (vI 122) w) ((Option.isSome a=true)/\(Option.isSome a=true)/\(isSome (Option.map (λd=>d.add 0) a))/\∃d,Ld aX (Option.map (λe=>e.add 0) (Option.map (λe=>e.add 0) a)) w (vI d)/\ai (decide (b>(i64.wrap ((1099511627776:Int)-d)))) (K (vI 122) w) (c w)))/\aP 13 (∀d,c d->(Option.isSome a=true)/\(Option.isSome a=true)/\(isSome (Option.map (λe=>e.add 0) a))/\∃e,Ld aX (Option.map (λf=>f.add 0) (Option.map (λf=>f.add 0) a)) d (vI e)/\(Option.isSome a=true)/\(Option.isSome a=true)/\(isSome (Option.map (λf=>f.add 0) a))/\∃f,Sv aX (Option.map (λg=>g.add 0) (Option.map (λg=>g.add 0) a)) (vI (i64.wrap (e+b))) d f/\(Option.isSome a=true)/\(Option.isSome a=true)/\(Option.isSome a=true)/\(Option.isSome a=true)/\(isSome (Option.map (λg=>g.add 0) a))/\∃g,(∀i,bW f i->Ld cD (Option.map (λj=>j.add 2) a) i (.pointer g))/\∃i,(∀j,bW f j->Ld aX (Option.map (λk=>k.add 0) (Option.map (λk=>k.add 0) a)) j (vI i))/\∀j,bW f j->uI rC #[.pointer g,vI i] j λk l=>K (vI 0) l)):Cf dH #[.pointer a,vI b] w (Ret K):=ru func14 [(2,[]),(1000013,[]),(3000013,[(0,.one .bool),(1,.one .bool),(2,.one .bool),(4,.one .bool),(5,.one .bool),(6,.one .bool),(7,.one .bool),(3,.one .bool),(8,.one .bool)])] h
theorem FD (a:Option Addr){w K}(h:(Option.isSome a=true)/\(Option.isSome a=true)/\∃b,Ld cD (Option.map (λc=>c.add 2) a) w (.pointer b)/\uL tX #[.pointer b] w λc d e f=>K (.slice c d e) f):Cf eC #[.pointer a] w (Ret K):=ru func17 [] h
theorem Kc (a:Option Addr)(b:Value){w K}(h:nA w (.cells #[.pointer a] qY) λc d=>nA d (.cells (Value.cells b) aU) λe f=>∃g,Ld qY (vA c 0) f (.pointer g)/\(Option.isSome g=true)/\(Option.isSome g=true)/\∃i,Ld cD (Option.map (λj=>j.add 2) g) f (.pointer i)/\uL tX #[.pointer i] f λj k l m=>uL jb #[.slice j k l,.func (.func gT) #[] #[.pointer (vA e 0),.pointer (vA c 0)]] m λn o p q=>uU oI #[.slice n o p,.func (.func uD) #[] #[]] q λr=>∃s:Nat->FP [.one .slice,.one (.int .i64)],(∃t,s t none 0 0 (0:Int) r)/\∀t u v x y,aP 21 (∀z,s t u v x y z->ai (decide (y<((o:Nat):Int))) ((bx y ((o:Nat):Int)/\Option.isSome n=true)/\∃A,Ld af (aw n y 29) z A/\nA z (.cells bf af) λB C=>∃D,Sv af (vA B 0) A C D/\∃E,(∀F,bW D F->Ld qY (vA c 0) F (.pointer E))/\(Option.isSome E=true)/\(Option.isSome E=true)/\∃F,(∀G,bW D G->Ld cD (Option.map (λH=>H.add 2) E) G (.pointer F))/\∃G,(∀H,bW D H->Ld af (vA B 0) H G)/\∃H,(∀I,bW D I->Ld qY (vA c 0) I (.pointer H))/\(Option.isSome H=true)/\(Option.isSome H=true)/\(isSome (Option.map (λI=>I.add 0) H))/\∃I,(∀J,bW D J->Ld aX (Option.map (λL=>L.add 0) (Option.map (λL=>L.add 0) H)) J (vI I))/\∀J,bW D J->uB wI #[.pointer F,G,vI I] J λL M=>∃N,Ld af (vA B 0) M N/\uS Hf #[N] M λO P=>nA P (.cells #[vS O] ao) λQ R=>∃S T U V,(Builtin.append_ #[bI,bI] bI #[.slice u v x,.slice (vA Q 0) 1 1]).run prog R=.ok (.slice T U V) S/\∃X:Nat,X<t/\s X T U V (i64.wrap (y+(1:Int))) S) (uS lY #[.slice u v x,vS [59,32]] z λA B=>K (vS A) B))):Cf eh #[.pointer a,b] w (Ret K):=ru func21 [(12,[(6,.one .slice),(20,.one (.int .i64))]),(1000024,[]),(3000024,[(0,.one .bool),(1,.one .bool),(2,.one .bool),(3,.one .bool),(4,.one .bool),(5,.one .bool),(6,.one .bool),(7,.one .bool),(8,.one .bool),(9,.one .bool)])] h
theorem Es (a:Option Addr)(b:Value){w K}(h:nA w (.cells (Value.cells b) af) λc d=>(Option.isSome a=true)/\(Option.isSome a=true)/\∃e,Ld cD (Option.map (λf=>f.add 2) a) d (.pointer e)/\uL tX #[.pointer e] d λf g i j=>uB iT #[.slice f g i,.func (.func eA) #[] #[.pointer (vA c 0)]] j λk l=>K (.bool k) l):Cf vw #[.pointer a,b] w (Ret K):=ru func33 [] h
theorem ID (a:Option Addr)(b:Value){w K}(h:nA w (.cells (Value.cells b) af) λc d=>(Option.isSome a=true)/\(Option.isSome a=true)/\∃e,(∀f,bW d f->Ld xD (Option.map (λg=>g.add 1) a) f (.pointer e))/\true/\∃f,(∀g,bW d g->Ld ak (vA c 2) g f)/\∃g,(∀i,bW d i->Cf uR #[.pointer e,f] i λj k=>j=.returned (vS g)/\Below d.heap.size i k)/\∀i,bW d i->ai (!(g==[])) (K (vS g) i) (true/\∃j,Ld ak (vA c 2) i j/\uS yT #[j] i λk l=>K (vS k) l)):Cf Aj #[.pointer a,b] w (Ret K):=ru func34 [] h
theorem Ke (a:Option Addr)(b:lU){w K}(h:∃c:Nat->FP [],(∃d,c d w)/\∀d,aP 24 (∀e,c d e->(Option.isSome a=true)/\(Option.isSome a=true)/\∃f,Ld cD (Option.map (λg=>g.add 2) a) e (.pointer f)/\uI uQ #[.pointer f,vS b] e λg i=>ai (decide (g>(50:Int))) ((Option.isSome a=true)/\(Option.isSome a=true)/\∃j,Ld cD (Option.map (λk=>k.add 2) a) i (.pointer j)/\Cf uj #[.pointer j,vS b] i λk l=>∃m n,k=rT #[m,.bool n]/\nA l (.cells bf af) λo p=>∃q,Sv af (vA o 0) m p q/\(Option.isSome a=true)/\(Option.isSome a=true)/\∃r,(∀s,bW q s->Ld cD (Option.map (λt=>t.add 2) a) s (.pointer r))/\∃s,(∀t,bW q t->Ld af (vA o 0) t s)/\∀t,bW q t->uB oQ #[.pointer r,s] t λu v=>∃x:Nat,x<d/\c x v) (∃j:Nat->FP [],(∃k,j k i)/\∀k,aP 22 (∀l,j k l->(Option.isSome a=true)/\(Option.isSome a=true)/\∃m,Ld cD (Option.map (λn=>n.add 2) a) l (.pointer m)/\uI wF #[.pointer m] l λn o=>ai (decide (n>(3000:Int))) ((Option.isSome a=true)/\(Option.isSome a=true)/\∃p,Ld cD (Option.map (λq=>q.add 2) a) o (.pointer p)/\Cf rc #[.pointer p] o λq r=>∃s t,q=rT #[s,.bool t]/\nA r (.cells bf af) λu v=>∃x,Sv af (vA u 0) s v x/\(Option.isSome a=true)/\(Option.isSome a=true)/\∃y,(∀z,bW x z->Ld cD (Option.map (λA=>A.add 2) a) z (.pointer y))/\∃z,(∀A,bW x A->Ld af (vA u 0) A z)/\∀A,bW x A->uB oQ #[.pointer y,z] A λB C=>∃D:Nat,D<k/\j D C) (K (.tuple #[]) o))))):Cf Bn #[.pointer a,vS b] w (Ret K):=ru func37 [(2,[]),(1000012,[]),(3000012,[(0,.one .bool),(1,.one .bool),(2,.one .bool),(3,.one .bool),(4,.one .bool)]),(14,[]),(1000024,[]),(3000024,[(0,.one .bool),(1,.one .bool),(2,.one .bool),(3,.one .bool),(4,.one .bool)])] h
theorem Gz (a:Value)(b c:Option Addr){w K}(h:nA w (.cells (Value.cells a) af) λd e=>∃f,(∀g,bW e g->Ld af (vA d 0) g f)/\∃g,(∀i,bW e i->Ld aU b i g)/\∃i,(∀j,bW e j->Ld qY c j (.pointer i))/\(Option.isSome i=true)/\(Option.isSome i=true)/\(isSome (Option.map (λj=>j.add 0) i))/\∃j,(∀k,bW e k->Ld aX (Option.map (λl=>l.add 0) (Option.map (λl=>l.add 0) i)) k (vI j))/\∃k,(∀l,bW e l->Cf Bp #[f,g,vI j] l λm n=>m=.returned (.bool k)/\Below e.heap.size l n)/\∀l,bW e l->K (.bool (!k)) l):Cf gT #[a,.pointer b,.pointer c] w (Ret K):=ru func42 [] h
theorem GA (a b:Value){w K}(h:nA w (.cells (Value.cells a) af) λc d=>nA d (.cells (Value.cells b) af) λe f=>∃g,Ld af (vA c 0) f g/\∃i,Ld af (vA e 0) f i/\uB Bo #[g,i] f λj k=>ai j (K (vI (-1)) k) (K (vI 1) k)):Cf uD #[a,b] w (Ret K):=ru func45 [] h
theorem Oz (a:Value){w K}(h:nA w (.cells (Value.cells a) af) λb c=>true/\∃d,Ld ao (vA b 0) c (vS d)/\ai (d==[]) (true/\∃e,Ld ao (vA b 1) c (vS e)/\K (vS e) c) (true/\∃e,Ld ao (vA b 0) c (vS e)/\(((List.length e+List.length [61]:Nat):Int) <=i64.max)/\∀f,f=(e++[61])->true/\∃g,Ld ao (vA b 1) c (vS g)/\(((List.length f+List.length g:Nat):Int) <=i64.max)/\∀i,i=(f++g)->K (vS i) c)):Cf Hf #[a] w (Ret K):=ru func48 [] h
theorem BR (a:Value)(b:Option Addr){w K}(h:nA w (.cells (Value.cells a) af) λc d=>∃e:FP [.one .bool],(true/\∃f,Ld ak (vA c 2) d f/\(Option.isSome b=true)/\∃g,Ld ak (Option.map (λi=>i.add 2) b) d g/\uB sF #[f,g] d λi j=>ai i (e true j) ((Option.isSome b=true)/\∃k,Ld ak (Option.map (λl=>l.add 2) b) j k/\true/\∃l,Ld ak (vA c 2) j l/\uB sF #[k,l] j λm n=>e m n))/\∀f,aP 12 (∀g,e f g->true/\∃i,Ld bu (vA c 22) g (.bool i)/\ai i (true/\∃j,Ld ao (vA c 0) g (vS j)/\(Option.isSome b=true)/\∃k,Ld ao (Option.map (λl=>l.add 0) b) g (vS k)/\ai (j==k) (ai f ((Option.isSome b=true)/\∃l,Ld ao (Option.map (λm=>m.add 21) b) g (vS l)/\true/\∃m,Ld ao (vA c 21) g (vS m)/\uB uY #[vS l,vS m] g λn o=>K (.bool n) o) (K (.bool false) g)) (K (.bool false) g)) (K (.bool false) g))):Cf eA #[a,.pointer b] w (Ret K):=ru func72 [(2,[(4,.one .bool)])] h
theorem lW (a:Option Addr)(b c:Nat)(d:Option Addr){w K}(h:uI dp #[.slice a b c,.func (.func eA) #[] #[.pointer d]] w λe f=>K (.bool (decide (e >=(0:Int)))) f):Cf iT #[.slice a b c,.func (.func eA) #[] #[.pointer d]] w (Ret K):=ru func71 [] h
theorem mX (a:Option Addr)(b c:Nat)(d:Option Addr){w K}(h:∃e:Nat->FP [.one (.int .i64)],(∃f,e f (0:Int) w)/\∀f g,aP 12 (∀i,e f g i->ai (decide (g<((b:Nat):Int))) ((bx g ((b:Nat):Int)/\Option.isSome a=true)/\∃j,Ld af (aw a g 29) i j/\uB eA #[j,.pointer d] i λk l=>ai k (K (vI g) l) (∃m:Nat,m<f/\e m (i64.wrap (g+(1:Int))) l)) (K (vI (-1)) i))):Cf dp #[.slice a b c,.func (.func eA) #[] #[.pointer d]] w (Ret K):=ru func93 [(6,[(8,.one (.int .i64))])] h
theorem oG (a:Option Addr)(b c:Nat)(d e:Option Addr){w K}(h:uI dp #[.slice a b c,.func (.func gT) #[] #[.pointer d,.pointer e]] w λf g=>ai (f==(-1:Int)) (K (.slice a b c) g) (∃i:Nat->FP [.one (.int .i64),.one (.int .i64)],(∃j,i j f (i64.wrap (f+(1:Int))) g)/\∀j k l,aP 21 (∀m,i j k l m->ai (decide (l<((b:Nat):Int))) ((bx l ((b:Nat):Int)/\Option.isSome a=true)/\∃n,Ld af (aw a l 29) m n/\nA m (.cells bf af) λo p=>∃q,Sv af (vA o 0) n p q/\∃r,Ld af (vA o 0) q r/\uB gT #[r,.pointer d,.pointer e] q λs t=>ai (!s) (∃u,Ld af (vA o 0) t u/\(bx k ((b:Nat):Int)/\Option.isSome a=true)/\∃v,Sv af (aw a k 29) u t v/\∃x:Nat,x<j/\i x (i64.wrap (k+(1:Int))) (i64.wrap (l+(1:Int))) v) (∃u:Nat,u<j/\i u k (i64.wrap (l+(1:Int))) t)) (bd k ((b:Nat):Int)/\∃n,(Builtin.clear_ #[aN] xk #[.slice (aS a c (Int.toNat k) 29) (b-(Int.toNat k)) (c-(Int.toNat k))]).run prog m=.ok (.tuple #[]) n/\bd k ((c:Nat):Int)/\K (.slice a (Int.toNat k) c) n)))):Cf jb #[.slice a b c,.func (.func gT) #[] #[.pointer d,.pointer e]] w (Ret K):=ru func41 [(16,[(5,.one (.int .i64)),(6,.one (.int .i64))])] h
theorem oM (a:Option Addr)(b c:Nat)(d e:Option Addr){w K}(h:∃f:Nat->FP [.one (.int .i64)],(∃g,f g (0:Int) w)/\∀g i,aP 12 (∀j,f g i j->ai (decide (i<((b:Nat):Int))) ((bx i ((b:Nat):Int)/\Option.isSome a=true)/\∃k,Ld af (aw a i 29) j k/\uB gT #[k,.pointer d,.pointer e] j λl m=>ai l (K (vI i) m) (∃n:Nat,n<g/\f n (i64.wrap (i+(1:Int))) m)) (K (vI (-1)) j))):Cf dp #[.slice a b c,.func (.func gT) #[] #[.pointer d,.pointer e]] w (Ret K):=ru func93 [(6,[(8,.one (.int .i64))])] h
set_option maxRecDepth 20000
theorem Kr {B:Nat} :∀l:List (List UInt8),(∀x∈l,x.length <=B)->(ut l).length <=l.length*(B+2)
 |[],_=>by simp[ut]
 |[x],h=>by
  have:=h x (List.mem_cons_self ..)
  simp only[ut,List.length_cons,List.length_nil]
  omega
 |x::y::r,h=>by
  have h1:=h x (List.mem_cons_self ..)
  have q:=Kr (y::r) λz e=>h z (List.mem_cons_of_mem _ e)
  show(x++[59,32]++ut (y::r)).length <=((y::r).length+1)*(B+2)
  rw[List.length_append,List.length_append,Nat.succ_mul]
  have:([59,32]:List UInt8).length=2:=rfl
  omega
def Fx (s:List UInt8):Hst:=⟨1,s,ad0⟩
def hA:Hst:=Fx [97,46,120,46,99,111,109]
def hB:Hst:=Fx [98,46,120,46,99,111,109]
def hY:Hst:=Fx [121,46,99,111,109]
theorem JB (s:List UInt8)(L:List Kpt)(h:np L s <=50):∀f,IU s f L=L
 |0=>rfl
 |f+1=>by unfold IU;rw[if_neg (by omega)]
theorem JC (L:List Kpt)(h:L.length <=3000):∀f,K0 f L=L
 |0=>rfl
 |f+1=>by unfold K0;rw[if_neg (by omega)]
def Mv (t:List UInt8)(R L:List Kpt):Prop:=∃f,L.length <=f/\IU t f L=R
def Mw (R L:List Kpt):Prop:=∃f,L.length <=f/\K0 f L=R
theorem Mv.next {t:List UInt8}{R L:List Kpt}(s:ShI L a)(h:50<np L t)(E:Mv t R L):∃k,QA L (λk=>decide (k.site=t))=some k/\k∈L/\Mv t R (iI L k.plc):=by
 obtain⟨f,O,e⟩:=E
 have G:0<np L t:=by omega
 obtain⟨x,I,H⟩:=List.countP_pos_iff.1 G
 obtain⟨k,q⟩:=Np (of:=λk=>decide (k.site=t)) s I H
 have D:=(Pz s q).1
 have M:=tv D
 cases f with
 |zero=>omega
 |succ f=>
  unfold IU at e
  rw[if_pos h,q]at e
  exact⟨k,q,D,f,by omega,e⟩
theorem Mv.stop {t:List UInt8}{R L:List Kpt}(h: ¬ 50<np L t)(e:Mv t R L):L=R:=by
 obtain⟨f,D,q⟩:=e
 rw[<- q,JB t L (by omega)]
theorem Mw.next {R L:List Kpt}(s:ShI L a)(h:3000<L.length)(E:Mw R L):∃k,QA L (λ_=>true)=some k/\k∈L/\Mw R (iI L k.plc):=by
 obtain⟨f,I,e⟩:=E
 have G:0<L.length:=by omega
 obtain⟨k,q⟩:=Np (of:=λ_=>true) s (List.getElem_mem G) rfl
 have D:=(Pz s q).1
 have H:=tv D
 cases f with
 |zero=>omega
 |succ f=>
  unfold K0 at e
  rw[if_pos h,q]at e
  exact⟨k,q,D,f,by omega,e⟩
theorem Mw.stop {R L:List Kpt}(h: ¬ 3000<L.length)(e:Mw R L):L=R:=by
 obtain⟨f,D,q⟩:=e
 rw[<- q,JC L (by omega)]
theorem Mv.of (t:List UInt8)(L:List Kpt):Mv t (IU t L.length L) L:=⟨_,Nat.le_refl _,rfl⟩
theorem Mw.of (L:List Kpt):Mw (K0 L.length L) L:=⟨_,Nat.le_refl _,rfl⟩
theorem He (L:List Kpt)(now:Int):(sO L now).length <=L.length:=List.length_filter_le ..
def OpR.cells (o:OpR):List Value:=vI o.kind::(o.url.cells++(vS o.text::(o.req.cells++[vI o.n])))
def OpR.v (o:OpR):Value:=.agg o.cells.toArray
theorem OpR.len {o:OpR}(k:o.ok):o.cells.length=45:=by
 unfold OpR.cells
 rw[List.length_cons,List.length_append,List.length_cons,List.length_append,Url.len k.uo,Req.len k.ro]
 rfl
theorem OpR.one (o:OpR):Ie o.cells:=aR rfl (Db (Url.one _) (aR rfl (Db (Req.one _) (aR rfl di))))
end Go.Pk
