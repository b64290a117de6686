/- What the laws lean on: JarA, JarB, JarC, JarD, JarE, JlwT, V14, JlwA, JlwB; what is used. Its conditions: none. -/
import Derived.Test.YtlfolncaghkmcaaGreatDoorKI
variable {n m i:Nat}{w:Go.World}{t:Go.TypeId}{p:Option Go.Addr}{y:List Go.Pk.Pth}{z:List (Go.Pk.xj×Int)}{D:List (List Bool)}{c:Go.Pk.Cky}{A:Go.Pk.Bl}
open Go.IntKind (i64)
open Go.Proofs.Tryz
set_option linter.unusedVariables false
set_option linter.unusedSectionVars false
set_option linter.unusedSimpArgs false
set_option maxRecDepth 20000
open List (length)
open Option (isSome)
namespace Go.Pk
open Go.RowKit (Below)
open Go.Proofs
theorem xV.chg {F:List Nat}{w0:World}{t G:TypeId}{E q:Nat}{a:Option Addr}{n c:Nat}{rs:List Rul}{w w':World}(S:xV w0 t G E q a n c y z D rs w)(h:Chg F w w')
 (e:∀k∈F,w0.heap.size <=k/\k≠E/\k≠q/\j0 a≠some k):xV w0 t G E q a n c y z D rs w':=
 ⟨h.arr S.h1 λm=>(e _ m).2.1 rfl,S.h2.keep (h.block q S.h2.lt λm=>(e _ m).2.2.1 rfl),S.h3.keep (h.keep.mono λb I m=>I.elim (λx=>x.elim) λH=>(e _ m).2.2.2 H.symm),S.T,S.t,
  S.hb.trans (h.below S.hb.size λk M=>(e k M).1),S.ne,S.og,S.kt0,S.km0⟩
structure My (w0:World)(tj ts tt te:TypeId)(pj p ma ms kt km:Nat)(a:Option Addr)(n c:Nat)(ps:List Pth)(kvs:List (xj×Int))(es:List (List Bool))(rs:List Rul)(s:JS)(w:World):Prop where
 cell:av w pj tj [vI s.now,.pointer (some ⟨kt,0,none⟩),.pointer (some ⟨p,0,none⟩)]
 shf:Shf ts p ma ms s.L s.last w
 tab:xV w0 tt te kt km a n c ps kvs es rs w
 far:∀k∈[pj,p,ma,ms],w0.heap.size <=k/\k≠kt/\k≠km/\j0 a≠some k
 own:pj ∉ [p,ma,ms]
theorem My.below {w0:World}{M O U I:TypeId}{H p E G q e:Nat}{a:Option Addr}{n c:Nat}{rs:List Rul}{s:JS}{w w':World}(J:My w0 M O U I H p E G q e a n c y z D rs s w)(h:bW w w'):My w0 M O U I H p E G q e a n c y z D rs s w':=
 ⟨J.cell.below h,J.shf.below h,J.tab.below h,J.far,J.own⟩
theorem My.step {w0:World}{X E Y V:TypeId}{U p e q M I:Nat}{a:Option Addr}{n c:Nat}{rs:List Rul}{s:JS}{w w':World}(J:My w0 X E Y V U p e q M I a n c y z D rs s w){G:List Kpt}{O:Int}
 (H:Chg [p,e,q] w w') (ac:Shf E p e q G O w'):My w0 X E Y V U p e q M I a n c y z D rs ⟨G,O,s.now⟩ w':=
 ⟨H.arr J.cell J.own,ac,J.tab.chg H λk Z=>J.far k (List.mem_cons_of_mem _ Z),J.far,J.own⟩
theorem My.time {w0:World}{E V X U:TypeId}{e p M O q I:Nat}{a:Option Addr}{n c:Nat}{rs:List Rul}{s:JS}{w w':World}(J:My w0 E V X U e p M O q I a n c y z D rs s w){now:Int}
 (G:w.grownBy w' (some e)) (Y:av w' e E [vI now,.pointer (some ⟨q,0,none⟩),.pointer (some ⟨p,0,none⟩)]):My w0 E V X U e p M O q I a n c y z D rs ⟨s.L,s.last,now⟩ w':=
 ⟨Y,J.shf.put G J.own,J.tab.chg (Chg.grown (S:=[e]) G (List.mem_singleton.2 rfl)) (λk H=>J.far k (by rw[List.mem_singleton]at H;subst H;exact List.mem_cons_self ..)),J.far,J.own⟩
def QV (w0:World)(tj ts tt te:TypeId)(pj:Nat)(F:List Nat)(rs:List Rul)(s:JS)(w:World):Prop:=
 ∃p ma ms kt km a n c ps kvs es,F=[pj,p,ma,ms]/\My w0 tj ts tt te pj p ma ms kt km a n c ps kvs es rs s w
theorem QV.below {w0:World}{D E G q:TypeId}{e:Nat}{F:List Nat}{rs:List Rul}{s:JS}{w w':World}(J:QV w0 D E G q e F rs s w)(h:bW w w'):QV w0 D E G q e F rs s w':=by
 obtain⟨p,V,X,O,M,a,n,c,Y,U,I,H,J⟩:=J
 exact⟨p,V,X,O,M,a,n,c,Y,U,I,H,J.below h⟩
theorem QV.base {w0:World}{E G H D:TypeId}{q:Nat}{F:List Nat}{rs:List Rul}{s:JS}(J:QV w0 E G H D q F rs s w):bW w0 w/\∀k∈F,w0.heap.size <=k/\k<w.heap.size:=by
 obtain⟨p,X,Y,U,O,a,n,c,Z,V,I,rfl,J⟩:=J
 refine⟨J.tab.hb,λk e=>⟨(J.far k e).1,?_⟩⟩
 have h1:=J.shf.lts
 have M:=J.cell.lt
 simp at e
 rcases e with rfl|rfl|rfl|rfl <;> omega
abbrev yM (w0:World)(pj:Nat)(F:List Nat)(rs:List Rul)(s:JS)(w:World):Prop:=QV w0 sk bR cB dq pj F rs s w
theorem Rl {w0:World}{G X:Nat}{a:Option Addr}{n c:Nat}{rs:List Rul}(S:xV w0 cB dq G X a n c y z D rs w):
 Cf ux #[.pointer (some ⟨G,0,none⟩)] w (Ret λv w'=>∃Y F,v=.pointer (some ⟨Y,0,none⟩)/\yM w0 Y F rs (js0 0) w'/\(∀k∈F,w.heap.size <=k)/\bW w w'):=by
 apply PI
 refine az (vg w) ?_
 rintro _ Z ⟨p,I,M,rfl,U,al,an,ar,e⟩
 refine⟨_,rfl,λE w6 ag V=>?_⟩
 have H:bW Z w6:=V▸au Z _
 have ad:av w6 E sk [vI 0,.pointer (some ⟨G,0,none⟩),.pointer (some ⟨p,0,none⟩)]:=av.new ag V
 have aj:=U.lts
 have t1:=S.h1.lt
 have t2:=S.h2.lt
 have t3:=S.h3.lt
 have a8:=S.hb.size
 have a0:=e.size
 have O:∀k∈[E,p,I,M],w.heap.size <=k:=λk q=>by
  simp at q
  rcases q with rfl|rfl|rfl|rfl <;> omega
 refine⟨E,[E,p,I,M],rfl,⟨p,I,M,G,X,a,n,c,y,z,D,rfl,ad,U.below H,(S.below e).below H,λk q=>?_,?_⟩,O,ah e H e.size⟩
 ·have:=O k q
  exact⟨by omega,by omega,by omega,λac=>by have:=t3 _ ac;omega⟩
 ·simp;omega
section
variable {w0:World} {pj:Nat} {F:List Nat} {rs:List Rul} {s:JS} {w:World}
theorem sH (J:yM w0 pj F rs s w)(e:s.L.length <=1000000)(q:s.last <=4611686018427387904):Cf eC #[.pointer (some ⟨pj,0,none⟩)] w (Ret λv w'=>∃(a:Option Addr) (n c:Nat),v=.slice a n c/\Ow rF af w' NoB a n c (s.L.map Kpt.c)/\ci w.heap.size a/\bW w w'):=by
 obtain⟨p,I,M,G,E,a,n,c,U,H,D,rfl,J⟩:=J
 apply FD
 refine⟨rfl,rfl,_,J.cell.load1 fJ rfl (i:=2) rfl,?_⟩
 refine az (Dp J.shf e q) ?_
 rintro _ V ⟨a',O,c',rfl,h⟩
 exact⟨_,_,_,rfl,_,_,_,rfl,h⟩
def Cd (w0:World)(pj:Nat)(F:List Nat)(rs:List Rul)(s':JS)(w w':World):Prop:=∃F',yM w0 pj F' rs s' w'/\Chg F w w'/\∀k∈F',k∈F\/w.heap.size <=k
theorem Cd.same {w':World}{s':JS}(J:yM w0 pj F rs s' w')(e:Chg F w w'):Cd w0 pj F rs s' w w':=⟨F,J,e,λk q=>.inl q⟩
theorem wN (J:yM w0 pj F rs s w)(H:JI s m)(bs:m <=1000000)(n:Int)(bz:n <=9223372036854775807):
 Cf dH #[.pointer (some ⟨pj,0,none⟩),vI n] w (Ret λv w'=>v=vI (ju s n).2/\Cd w0 pj F rs (ju s n).1 w w'):=by
 have Y:=J
 obtain⟨p,U,V,a8,a0,a,bb,c,bc,a9,ac,rfl,J⟩:=J
 apply IC
 have bp:=H.n0
 have h1:=H.n1
 have bq:=H.few
 have al:i64.wrap ((1099511627776:Int)-s.now)=1099511627776-s.now:=wrap_i64 (by omega) (by omega)
 have I:n<0\/1099511627776-s.now<n->(vI 122=vI (ju s n).2/\Cd w0 pj [pj,p,U,V] rs (ju s n).1 w w):=λe=>by
  unfold ju
  rw[if_pos e]
  exact⟨rfl,Cd.same Y (Chg.refl _ _)⟩
 refine⟨λX=>X=w/\ ¬ (n<0\/1099511627776-s.now<n),?_,aP.of ?_ _⟩
 ·refine ai.of (λe=>I (.inl (of_decide_eq_true e))) (λe=>⟨rfl,rfl,rfl,_,J.cell.load1 bn rfl (i:=0) rfl,?_⟩)
  rw[al]
  refine ai.of (λD=>I (.inr (of_decide_eq_true D))) (λD=>⟨rfl,?_⟩)
  have:=of_decide_eq_false e
  have:=of_decide_eq_false D
  omega
 ·rintro X ⟨ar,ag⟩
  rw[ar]
  have an:i64.wrap (s.now+n)=s.now+n:=wrap_i64 (by omega) (by omega)
  obtain⟨bk,bj,Z,M⟩:=J.cell.put eF (i:=0) (v:=vI (s.now+n)) (show 0<3 by decide) rfl rfl
  have q:=J.time M Z
  refine⟨rfl,rfl,rfl,_,J.cell.load1 bn rfl (i:=0) rfl,rfl,rfl,rfl,bk,by rw[an];exact bj,rfl,rfl,rfl,rfl,rfl,_,λu G=>(q.below G).cell.load1 fJ rfl (i:=2) rfl,_,λu G=>(q.below G).cell.load1 bn rfl (i:=0) rfl,λb2 E=>?_⟩
  refine az (Dq (q.below E).shf (by show s.L.length <=_;omega) (s.now+n)) ?_
  rintro _ b1 ⟨⟨b0,rfl⟩,aj,O⟩
  refine⟨_,rfl,?_⟩
  unfold ju
  rw[if_neg ag]
  refine⟨rfl,Cd.same ⟨p,U,V,a8,a0,a,bb,c,bc,a9,ac,rfl,(q.below E).step O aj⟩ ?_⟩
  exact((Chg.grown M (List.mem_cons_self ..)).step E).trans (O.mono λk ad=>List.mem_cons_of_mem _ ad)
theorem Pq (o:c.ok)(s:OX c)(w:World):Cf Hf #[c.v] w (Ret λv w'=>v=vS (ki c)/\bW w w'):=by
 apply Oz
 intro I M D G
 obtain⟨O,q,V⟩:=dP (P:=prog) (Below.refl w.heap.size w) D G
 have a1:av M I af c.cells:=av.new D G
 have h1:=s.nm
 have U:=s.vl
 unfold ki
 refine⟨rfl,_,a1.load1 ax rfl (i:=0) rfl,ai.of (λe=>?_) (λe=>?_)⟩
 ·have e:c.name=[]:=by simpa using e
  rw[if_pos e]
  exact⟨rfl,_,a1.load1 ax rfl (i:=1) rfl,rfl,q⟩
 ·have e: ¬ c.name=[]:=by simpa using e
  rw[if_neg e]
  refine⟨rfl,_,a1.load1 ax rfl (i:=0) rfl,fits (by simp;omega),λX E=>⟨rfl,_,a1.load1 ax rfl (i:=1) rfl,fits (by rw[E];simp;omega),λY H=>⟨by rw[H,E],q⟩⟩⟩
theorem Pr (M:Env w0)(J:yM w0 pj F rs s w)(o:c.ok)(ad:c.host.name.length <=1000000000):
 Cf Aj #[.pointer (some ⟨pj,0,none⟩),c.v] w (Ret λv w'=>v=vS (lJ rs c.host)/\bW w w'):=by
 obtain⟨p,a9,bb,ar,an,a,n,c',bc,a0,al,rfl,J⟩:=J
 apply ID
 intro V Y O U
 obtain⟨aj,D,a8⟩:=dP (P:=prog) (Below.refl w.heap.size w) O U
 have a3:av Y V af c.cells:=av.new O U
 have G:=J.below D
 have X:∀{wx},bW Y wx->(Instr.loadAt ak (.pointer (some ⟨V,2,none⟩))).run prog wx=.ok c.host.v wx:=λH=>aO.load (a3.below H) (i:=2) (us:=c.host.cells) (Hst.len o) (λj ac=>fK o ac)
 refine⟨rfl,rfl,_,λu q=>(G.below q).cell.load1 AU rfl (i:=1) rfl,rfl,_,λu q=>X q,zq rs c.host,λu q=>?_,λag I=>?_⟩
 ·refine(LS M (G.below q).tab o ad).mono ?_
  rintro e w' ⟨v,rfl,rfl,H⟩
  exact⟨rfl,H.mono q.size⟩
 ·have E:=ah D I D.size
  unfold lJ
  refine ai.of (λe=>?_) (λe=>?_)
  ·have e: ¬ zq rs c.host=[]:=by simpa using e
   rw[if_neg e]
   exact⟨rfl,E⟩
  ·have e:zq rs c.host=[]:=by simpa using e
   rw[if_pos e]
   refine⟨rfl,_,X I,?_⟩
   refine az (C6 o ag (M.step (G.below I).tab.hb)) ?_
   rintro _ bj ⟨rfl,Z⟩
   exact⟨_,rfl,rfl,ah E Z E.size⟩
end
theorem Ru {x c:Cky}(E:x.ok)(G:c.ok)(a8:x.host.name.length <=1000000000)(ad:c.host.name.length <=1000000000)(b2:x.path.length <=1000000000)(bs:c.path.length <=1000000000)(bb:Env w)(bc:av w n af c.cells):
 Cf eA #[x.v,.pointer (some ⟨n,0,none⟩)] w (Ret λv w'=>v=.bool (rR x c)/\bW w w'):=by
 apply BR
 intro an q aj al
 obtain⟨bq,H,bz⟩:=dP (P:=prog) (Below.refl w.heap.size w) aj al
 have a2:av q an af x.cells:=av.new aj al
 have a3:=bc.below H
 have ag:=bb.step H
 have a0:∀{wx},bW q wx->(Instr.loadAt ak (.pointer (some ⟨an,2,none⟩))).run prog wx=.ok x.host.v wx:=λV=>aO.load (a2.below V) (i:=2) (us:=x.host.cells) (Hst.len E) (λj Y=>fK E Y)
 have ar:∀{wx},bW q wx->(Instr.loadAt ak (.pointer (some ⟨n,2,none⟩))).run prog wx=.ok c.host.v wx:=λV=>aO.load (a3.below V) (i:=2) (us:=c.host.cells) (Hst.len G) (λj Y=>fK G Y)
 have Z:=Below.refl q.heap.size q
 refine qs (λb w'=>b=(vi x.host c.host || vi c.host x.host)/\bW q w') ?_ ?_
 ·refine⟨rfl,_,a0 Z,rfl,_,ar Z,?_⟩
  refine az (vK E G a8 ad q ag) ?_
  rintro _ bk ⟨rfl,D⟩
  refine⟨_,rfl,ai.of (λe=>⟨by rw[e];rfl,D⟩) (λe=>?_)⟩
  refine⟨rfl,_,ar D,rfl,_,a0 D,?_⟩
  refine az (vK G E ad a8 bk (ag.step D)) ?_
  rintro _ b0 ⟨rfl,a9⟩
  exact⟨_,rfl,by rw[e];rfl,ah D a9 D.size⟩
 ·rintro b bp ⟨rfl,X⟩
  have M:=ah H X H.size
  have O:=a2.below X
  have ac:=a3.below X
  unfold rR
  refine⟨rfl,_,O.load1 bA rfl (i:=22) (be E 2),ai.of (λe=>?_) (λe=>⟨by rw[e];rfl,M⟩)⟩
  refine⟨rfl,_,O.load1 ax rfl (i:=0) rfl,rfl,_,ac.load1 ax rfl (i:=0) rfl,ai.of (λI=>?_) (λI=>⟨by rw[e,I];rfl,M⟩)⟩
  refine ai.of (λU=>?_) (λU=>⟨by rw[e,I,U];rfl,M⟩)
  refine⟨rfl,_,ac.load1 ax rfl (i:=21) (be G 1),rfl,_,O.load1 ax rfl (i:=21) (be E 1),?_⟩
  refine az (Gl c.path x.path (by omega) bp) ?_
  rintro _ b1 ⟨rfl,bj⟩
  rw[bj]
  exact⟨_,rfl,by rw[e,I,U];rfl,M⟩
theorem PB {a:Option Addr}{l c':Nat}{xs:List Cky}(U:Sl rF w A a l c' xs)(bj:xs.length <=1000000)(D:∀x∈xs,x.ok/\x.host.name.length <=1000000000/\x.path.length <=1000000000)(a0:c.ok)(Z:c.host.name.length <=1000000000)(ac:c.path.length <=1000000000)
 (ag:Env w) {X:Nat} (an:av w X af c.cells):
 Cf dp #[.slice a l c',.func (.func eA) #[] #[.pointer (some ⟨X,0,none⟩)]] w (Ret λv w'=>(∃n:Int,v=vI n/\decide (n >=0)=xs.any λx=>rR x c)/\bW w w'):=by
 apply mX
 have al:=U.len
 subst al
 refine⟨λm i Y=>∃k:Nat,k <=xs.length/\i=(k:Int)/\m=xs.length-k/\(∀x∈xs.take k,rR x c=false)/\bW w Y,⟨_,0,by omega,rfl,rfl,(λx D=>by rw[List.take_zero]at D;cases D),Below.refl _ _⟩,?_⟩
 intro bp bk
 refine aP.of ?_ _
 rintro Y ⟨k,bc,rfl,rfl,H,q⟩
 refine ai.of (λM=>?_) (λM=>?_) <;> simp only[dTx,dFx]at M
 ·have E:k<xs.length:=by omega
  have V:=U.below q
  obtain⟨aj,-⟩:=fj aC V E
  refine⟨⟨⟨by omega,by omega⟩,V.isSome E⟩,_,aj,?_⟩
  have O:=List.getElem_mem E
  obtain⟨a8,a9,bb⟩:=D _ O
  have ar:i64.wrap ((k:Int)+1)=((k+1:Nat):Int):=by rw[wrap_i64 (by omega) (by omega)];omega
  try dsimp only
  rw[ar]
  refine az (Ru a8 a0 a9 Z bb ac (ag.step q) (an.below q)) ?_
  rintro _ bq ⟨rfl,ad⟩
  have I:=ah q ad q.size
  refine⟨_,rfl,ai.of (λG=>⟨⟨_,rfl,?_⟩,I⟩) (λG=>⟨xs.length-(k+1),by omega,k+1,by omega,rfl,rfl,?_,I⟩)⟩
  ·try dsimp only
   rw[decide_eq_true (show(k:Int) >=0 by omega)]
   exact(List.any_eq_true.2 ⟨_,O,G⟩).symm
  ·intro y e
   rw[fD E,List.mem_append]at e
   rcases e with e|e
   ·exact H y e
   ·rw[List.mem_singleton]at e;subst e;exact G
 ·have:k=xs.length:=by omega
  subst this
  rw[List.take_length]at H
  refine⟨⟨_,rfl,?_⟩,q⟩
  rw[show decide ((-1:Int) >=0)=false by decide]
  symm
  rw[List.any_eq_false]
  intro x D;rw[H x D];decide
section
variable {w0:World} {pj:Nat} {F:List Nat} {rs:List Rul} {s:JS} {w:World}
theorem JG (ad:Env w0)(J:yM w0 pj F rs s w)(e:JI s m)(bq:m <=1000000)(ar:c.ok)(X:c.host.name.length <=1000000000)(Y:c.path.length <=1000000000):
 Cf vw #[.pointer (some ⟨pj,0,none⟩),c.v] w (Ret λv w'=>v=.bool (s.L.any λk=>rR k.c c)/\bW w w'):=by
 have H:=J.base.1
 obtain⟨p,b2,b3,bz,bs,a,n,c',b5,b0,bb,rfl,J⟩:=J
 apply Es
 intro U a0 M O
 obtain⟨a9,q,b1⟩:=dP (P:=prog) (Below.refl w.heap.size w) M O
 have a3:av a0 U af c.cells:=av.new M O
 have E:=J.below q
 have bj:=e.few
 have bp:=e.last
 refine⟨rfl,rfl,_,E.cell.load1 fJ rfl (i:=2) rfl,?_⟩
 refine az (Dp E.shf (by omega) (by omega)) ?_
 rintro _ a8 ⟨a',an,V,rfl,aj,bk,G⟩
 have D:=ah q G q.size
 refine⟨_,_,_,rfl,?_⟩
 refine az (?_:Cf iT #[.slice a' an V,.func (.func eA) #[] #[.pointer (some ⟨U,0,none⟩)]] a8 (Ret λv w'=>v=.bool (s.L.any λk=>rR k.c c)/\bW w w')) ?_
 ·apply lW
  refine az (PB aj.all (by rw[List.length_map];omega) (λx al=>?_) ar X Y (ad.step (ah H D H.size)) (a3.below G)) ?_
  ·obtain⟨k,I,rfl⟩:=List.mem_map.1 al
   have h1:=iW k.ok (e.right k I)
   have bc:=(e.sm k I).pt
   exact⟨k.ok,by omega,by omega⟩
  ·rintro _ b7 ⟨⟨b4,rfl,ag⟩,ac⟩
   refine⟨_,rfl,?_,ah D ac D.size⟩
   rw[ag,List.any_map];rfl
 ·rintro _ b6 ⟨rfl,Z⟩
  exact⟨_,rfl,rfl,Z⟩
theorem Rm (J:yM w0 pj F rs s w)(ch:ShI s.L s.last)(cf:s.L.length <=1000000)(t:List UInt8):
 Cf Bn #[.pointer (some ⟨pj,0,none⟩),vS t] w (Ret λv w'=>v=.tuple #[]/\yM w0 pj F rs ⟨G7 t s.L,s.last,s.now⟩ w'/\Chg F w w'):=by
 obtain⟨p,Z,ac,a9,a8,a,n,c',bc,bb,ag,rfl,J⟩:=J
 apply Ke
 unfold G7
 refine⟨λm O=>∃e:List Kpt,m=e.length/\e.length <=1000000/\ShI e s.last/\Mv t (IU t s.L.length s.L) e/\My w0 sk bR cB dq pj p Z ac a9 a8 a n c' bc bb ag rs ⟨e,s.last,s.now⟩ O/\Chg [pj,p,Z,ac] w O,
  ⟨_,s.L,rfl,cf,ch,Mv.of _ _,J,Chg.refl _ _⟩,?_⟩
 intro c2
 refine aP.of ?_ _
 rintro O ⟨G,rfl,b0,ar,b5,I,bj⟩
 refine⟨rfl,rfl,_,I.cell.load1 fJ rfl (i:=2) rfl,?_⟩
 refine az (LO I.shf t) ?_
 rintro _ c4 ⟨rfl,cj⟩
 rw[cj]
 refine⟨_,rfl,ai.of (λq=>⟨rfl,rfl,?_⟩) (λq=>?_)⟩
 ·have q:50<np G t:=by have q:((np G t:Nat):Int)>50:=of_decide_eq_true q;omega
  obtain⟨E,al,an,ad⟩:=b5.next ar q
  refine⟨_,I.cell.load1 fJ rfl (i:=2) rfl,?_⟩
  refine az (Ku I.shf t) ?_
  rintro _ cl ⟨rfl,b1⟩
  have b7:=I.below b1
  refine⟨_,_,rfl,?_⟩
  rw[al]
  refine aC.new (zs:=je.cells) (cs:=E.c.cells) (Cky.len (by rfl)) (Cky.len E.ok) (Cky.one _) cl λc0 cr ct b9 b2=>?_
  have bp:=b7.below b2
  refine⟨rfl,rfl,_,λu H=>(bp.below H).cell.load1 fJ rfl (i:=2) rfl,_,λu H=>aC.load0 (b9.below H) (Cky.len E.ok),λcp Y=>?_⟩
  have bq:=bp.below Y
  refine az (yB bq.shf (by show G.length <=_;omega) E.ok) ?_
  rintro _ c5 ⟨rfl,a0,V⟩
  have X:=tv an
  exact⟨_,rfl,_,X,_,rfl,Nat.le_trans (Nat.le_of_lt X) b0,ar.filter _,ad,bq.step V a0,((((bj.step b1).step b2).step Y).trans (V.mono λk aj=>List.mem_cons_of_mem _ aj))⟩
 ·have q: ¬ 50<np G t:=by have q: ¬ ((np G t:Nat):Int)>50:=of_decide_eq_false q;omega
  rw[<- b5.stop q]
  refine⟨λm O=>∃e:List Kpt,m=e.length/\e.length <=1000000/\ShI e s.last/\Mw (K0 G.length G) e/\My w0 sk bR cB dq pj p Z ac a9 a8 a n c' bc bb ag rs ⟨e,s.last,s.now⟩ O/\Chg [pj,p,Z,ac] w O,
   ⟨_,G,rfl,b0,ar,Mw.of _,I,bj⟩,?_⟩
  intro c3
  refine aP.of ?_ _
  rintro c8 ⟨U,rfl,cc,b6,ad,M,bk⟩
  refine⟨rfl,rfl,_,M.cell.load1 fJ rfl (i:=2) rfl,?_⟩
  refine az (OI M.shf) ?_
  rintro _ c6 ⟨rfl,ck⟩
  rw[ck]
  refine⟨_,rfl,ai.of (λD=>⟨rfl,rfl,?_⟩) (λD=>?_)⟩
  ·have D:3000<U.length:=by have D:((U.length:Nat):Int)>3000:=of_decide_eq_true D;omega
   obtain⟨E,al,an,ce⟩:=ad.next b6 D
   refine⟨_,M.cell.load1 fJ rfl (i:=2) rfl,?_⟩
   refine az (Ev M.shf) ?_
   rintro _ cn ⟨rfl,b3⟩
   have b8:=M.below b3
   refine⟨_,_,rfl,?_⟩
   rw[al]
   refine aC.new (zs:=je.cells) (cs:=E.c.cells) (Cky.len (by rfl)) (Cky.len E.ok) (Cky.one _) cn λc1 cr cu cb b4=>?_
   have bs:=b8.below b4
   refine⟨rfl,rfl,_,λu H=>(bs.below H).cell.load1 fJ rfl (i:=2) rfl,_,λu H=>aC.load0 (cb.below H) (Cky.len E.ok),λcp Y=>?_⟩
   have bz:=bs.below Y
   refine az (yB bz.shf (by show U.length <=_;omega) E.ok) ?_
   rintro _ c7 ⟨rfl,a0,V⟩
   have X:=tv an
   exact⟨_,rfl,_,X,_,rfl,Nat.le_trans (Nat.le_of_lt X) cc,b6.filter _,ce,bz.step V a0,((((bk.step b3).step b4).step Y).trans (V.mono λk aj=>List.mem_cons_of_mem _ aj))⟩
  ·have D: ¬ 3000<U.length:=by have D: ¬ ((U.length:Nat):Int)>3000:=of_decide_eq_false D;omega
   rw[<- ad.stop D]
   exact⟨rfl,⟨p,Z,ac,a9,a8,a,n,c',bc,bb,ag,rfl,M⟩,bk⟩
end
section
variable {w0:World} {pj:Nat} {F:List Nat} {rs:List Rul} {s:JS} {w:World}
theorem wM (ac:Env w0)(J:yM w0 pj F rs s w)(a9:JI s m)(eq:m <=100000){u:Url}(o:u.ok)(ey:u.host.name.length <=1000000)(up:u.path.length <=1000000)(t:List UInt8)(es:t.length <=10000000):
 Cf bE #[.pointer (some ⟨pj,0,none⟩),u.v,vS t] w (Ret λv w'=>v=vI (oO rs s u o t).2/\Cd w0 pj F rs (oO rs s u o t).1 w w'):=by
 have a8:=J.base.1
 obtain⟨p,G,H,ag,bb,a,n,c',bj,bc,ar,rfl,J⟩:=J
 apply Kd
 intro c0 c1 ck cu
 obtain⟨eb,al,ev⟩:=dP (P:=prog) (Below.refl w.heap.size w) ck cu
 have a4:av c1 c0 aQ u.cells:=av.new ck cu
 have ea:=J.below al
 have Z:∀{aj:World} {e:Int},bW w aj->oO rs s u o t=(s,e)->(vI e=vI (oO rs s u o t).2/\Cd w0 pj [pj,p,G,H] rs (oO rs s u o t).1 w aj):=fun{aj e} a0 h=>by
  rw[h]
  exact⟨rfl,Cd.same ⟨p,G,H,ag,bb,a,n,c',bj,bc,ar,rfl,J.below a0⟩ (Chg.of a0)⟩
 refine⟨_,nf.load0 a4 (Url.len o),?_⟩
 refine az (H0 o (by omega) c1 (ac.step (ah a8 al a8.size))) ?_
 rintro _ d7 ⟨rfl,cb⟩
 have B12:=ah al cb al.size
 refine⟨_,rfl,ai.of (λI=>Z B12 (by unfold oO;rw[if_pos (by simpa using I)])) (λI=>?_)⟩
 have I: ¬ nB u=false:=by simpa using I
 refine az (C5 t (by omega) d7 (ac.step (ah a8 B12 a8.size))) ?_
 rintro _ d8 ⟨rfl,cc⟩
 have B16:=ah B12 cc B12.size
 refine⟨_,_,_,_,_,_,_,_,_,_,_,_,rfl,?_⟩
 refine xJ (bB t).1 d8 λet aj el dn ch=>?_
 have X:=ah B16 ch B16.size
 refine ai.of (λM=>Z X (by unfold oO;rw[if_neg I,if_pos (by simpa using M)])) (λM=>⟨rfl,rfl,rfl,rfl,rfl,?_⟩)
 have M: ¬ (bB t).2≠0:=by simpa using M
 have bs:=((a4.below cb).below cc).below ch
 have bq:=J.below X
 have ew:=bs.lt
 have q:(jZ rs u (bB t).1 s.now).1.ok:=BW o _ _
 have U: ¬ (jZ rs u (bB t).1 s.now).2≠0->oO rs s u o t=if u.sec=false/\s.L.any (λk=>rR k.c (jZ rs u (bB t).1 s.now).1)=true then(s,121)
  else(xE rs s (jZ rs u (bB t).1 s.now).1 q,0):=λe=>by
  unfold oO;rw[if_neg I,if_neg M,if_neg e]
 have b2:(jZ rs u (bB t).1 s.now).2≠0->oO rs s u o t=(s,(jZ rs u (bB t).1 s.now).2):=λe=>by
  unfold oO;rw[if_neg I,if_neg M,if_pos e]
 have b0:(jZ rs u (bB t).1 s.now).2=0->OX (jZ rs u (bB t).1 s.now).1/\dO (jZ rs u (bB t).1 s.now).1.host=true/\(jZ rs u (bB t).1 s.now).1.born=s.now/\(jZ rs u (bB t).1 s.now).1.used=s.now:=
  λe=>⟨Ky up (tZ t) e,BX e⟩
 have ct:∀bk:World,bW aj bk->Cf zN #[.pointer (some ⟨ag,0,none⟩),u.v,(bB t).1.v,vI s.now] bk λdl w34=>dl=.returned (U9 (jZ rs u (bB t).1 s.now))/\bW bk w34:=λbk ad=>by
  refine(MJ ac (bq.below ad).tab o (by omega) (by omega) (bB t).1 (tZ t) s.now).mono ?_
  rintro e w' ⟨v,rfl,rfl,a0⟩
  exact⟨rfl,a0⟩
 clear I M
 generalize oO rs s u o t=c9 at*
 generalize jZ rs u (bB t).1 s.now=de at*
 obtain⟨D,e⟩:=de
 simp only at q U b2 b0
 unfold U9 at ct
 refine⟨_,λu ad=>(bq.below ad).cell.load1 AU rfl (i:=1) rfl,_,λx E=>nf.load0 (bs.below E) (Url.len o),_,_,_,_,_,_,_,_,_,_,_,λx E=>fX _ (dn.below E),_,λu ad=>(bq.below ad).cell.load1 bn rfl (i:=0) rfl,D.v,e,ct,?_⟩
 intro d5 em d9 cn d4
 have c3:=ah X cn X.size
 have er:=X.size
 obtain⟨b3,d6,b8,b7⟩:=aC.store0 (P:=prog) (cs:=D.cells) (Cky.len q) (Cky.one D) (show av d9 d5 af je.cells from d4) (Cky.len (by rfl))
 have V:=Below.put c3 b7 (by omega)
 have c5:=J.below V
 have dc:av b3 c0 aQ u.cells:=(bs.below cn).grown b7 (bw (by omega))
 refine⟨b3,d6,ai.of (λY=>Z V (b2 (by simpa using Y))) (λY=>?_)⟩
 have Y:e=0:=by simpa using Y
 obtain⟨dk,dg,ed,eg⟩:=b0 Y
 have U:=U (by omega)
 have ee:=iW q dg
 have ef:=dk.pt
 have ek:=a9.few
 have en:=a9.last
 refine⟨λc2=>bW b3 c2/\c9=(xE rs s D q,0),?_,aP.of ?_ _⟩
 ·refine⟨rfl,_,dc.load1 bA rfl (i:=0) rfl,ai.of (λO=>?_) (λO=>⟨Below.refl _ _,?_⟩)⟩
  ·have O:u.sec=false:=by simpa using O
   refine⟨_,aC.load0 b8 (Cky.len q),?_⟩
   refine az (JG (F:=[pj,p,G,H]) ac ⟨p,G,H,ag,bb,a,n,c',bj,bc,ar,rfl,c5⟩ a9 (by omega) q (by omega) (by omega)) ?_
   rintro _ e0 ⟨rfl,ce⟩
   refine⟨_,rfl,ai.of (λbz=>Z (ah V ce V.size) ?_) (λbz=>⟨ce,?_⟩)⟩
   ·rw[U,if_pos ⟨O,bz⟩]
   ·rw[U,if_neg (λh=>by rw[bz]at h;exact absurd h.2 (by decide))]
  ·have O: ¬ u.sec=false:=by simpa using O
   rw[U,if_neg (λh=>O h.1)]
 ·rintro c2 ⟨cj,cr⟩
  have bp:=ah V cj V.size
  have c8:=J.below bp
  have b9:=b8.below cj
  rw[cr]
  clear U b2 b0 Z cr
  unfold xE
  refine⟨_,aC.load0 b9 (Cky.len q),?_⟩
  refine az (Pr (F:=[pj,p,G,H]) ac ⟨p,G,H,ag,bb,a,n,c',bj,bc,ar,rfl,c8⟩ q (by omega)) ?_
  rintro _ e1 ⟨rfl,cf⟩
  have B50:=ah bp cf bp.size
  have J50:=J.below B50
  have dr:=b9.below cf
  have d0:=Dc s.L s.last ⟨D,lJ rs D.host,q⟩
  have cl:=a9.sh.put ⟨D,lJ rs D.host,q⟩
  refine⟨_,rfl,rfl,rfl,_,λx E=>(J50.below E).cell.load1 fJ rfl (i:=2) rfl,_,λx E=>aC.load0 (dr.below E) (Cky.len q),λe4 d1=>?_⟩
  have b4:=ah B50 d1 B50.size
  have J51:=J.below b4
  refine az (OJ J51.shf (by omega) (by omega) ⟨D,lJ rs D.host,q⟩) ?_
  unfold XZ
  generalize nK s.L s.last ⟨D,lJ rs D.host,q⟩=P at*
  generalize lJ rs D.host=st at*
  obtain⟨an,lp⟩:=P
  simp only at d0 cl
  rintro _ e2 ⟨rfl,d2,b5⟩
  have J57:=J51.step b5 d2
  refine⟨_,rfl,rfl,rfl,rfl,rfl,rfl,_,λx E=>(J57.below E).cell.load1 fJ rfl (i:=2) rfl,_,λx E=>(J57.below E).cell.load1 bn rfl (i:=0) rfl,λe5 cp=>?_⟩
  have J58:=J57.below cp
  have ds:ShI (sO an s.now) lp:=cl.filter _
  have ei:=He an s.now
  refine az (Dq J58.shf (by show an.length <=_;omega) s.now) ?_
  rintro _ e3 ⟨⟨ex,rfl⟩,d3,b6⟩
  have c6:=J58.step b6 d3
  refine⟨_,rfl,?_⟩
  refine az (Rm (F:=[pj,p,G,H]) ⟨p,G,H,ag,bb,a,n,c',bj,bc,ar,rfl,c6⟩ ds (by show(sO an s.now).length <=_;omega) st) ?_
  rintro _ w70 ⟨rfl,c7,dd⟩
  have c4:Chg [pj,p,G,H] w w70:=((((Chg.of b4).trans (b5.mono λk b1=>List.mem_cons_of_mem _ b1)).step cp).trans (b6.mono λk b1=>List.mem_cons_of_mem _ b1)).trans dd
  exact⟨rfl,rfl,Cd.same c7 c4⟩
end
theorem U3 {zs:List Value}(h:Ie zs)(n:Nat)(E:zs≠[]):∀v∈(Builtin.zeroCells zs.toArray n).toList,v.oneCell'=true:=by
 intro v e
 unfold Builtin.zeroCells at e
 rw[Array.toList_map]at e
 obtain⟨i,_,rfl⟩:=List.mem_map.1 e
 have D:0<zs.toArray.size:=by simpa[List.length_pos_iff]using E
 have q:=Nat.mod_lt i D
 rw[getElem!_pos zs.toArray _ q]
 exact h _ (by simp)
theorem Chg.row {S:List Nat}{a b c:World}{row:Option Nat}(h:Chg S a b)(g:b.grownBy c row)(E:∀r,row=some r->a.heap.size <=r\/r∈S):Chg S a c:=
 ⟨g.os.trans h.os,g.tape.trans h.tape,g.output.trans h.output,Nat.le_trans h.size g.size,λi e q=>(g.block i (Nat.lt_of_lt_of_le e h.size) (λD=>by
  rcases E i D.symm with h1|h1
  ·omega
  ·exact q h1)).trans (h.block i e q)⟩
theorem FT {w0 w w':World}{a:Option Addr}(h:bW w0 w)(D:w.grownBy w' (j0 a))(q:ci w0.heap.size a):bW w0 w':=h.grown D h.size λr e=>q r e
theorem Ft {α:Type}(p:α->Bool)(l:List α)(x:α):(l++[x]).filter p=if p x=true then l.filter p++[x]else l.filter p:=by
 rw[List.filter_append,List.filter_cons,List.filter_nil]
 split <;> simp
theorem U2 (w:World):(zeroValue af).run prog w=.ok je.v w:=by kernel_rfl
theorem R4 {a:Option Addr}{n c:Nat}{xs:List Cky}(bk:Ow rF af w NoB a n c xs)(bz:i <=n):
 ∃O,(Builtin.clear_ #[aN] xk #[.slice (aS a c i 29) (n-i) (c-i)]).run prog w=.ok (.tuple #[]) O/\Ow rF af O NoB a i c (xs.take i)/\w.grownBy O (j0 a):=by
 obtain⟨E,bj,U,Z⟩:=bk
 by_cases al:n-i=0
 ·have:i=n:=by omega
  subst this
  refine⟨w,?_,⟨by rw[List.length_take];omega,bj,U,?_⟩,⟨rfl,rfl,rfl,Nat.le_refl _,λ_ _ _=>rfl⟩⟩
  ·rw[al]
   unfold Builtin.clear_
   cases aS a c i 29 <;> simp[ft sC]
  ·rw[E,List.take_length]
   rcases Z with h|⟨g,cur,q,h1,an,ar,a0,a8⟩
   ·exact .inl h
   ·exact .inr ⟨g,cur,q,h1,an,ar,a0,by rw[<- E];exact a8⟩
 ·rcases Z with⟨_,rfl,rfl⟩|⟨g,cur,q,rfl,Y,X,V,I⟩
  ·simp at E;omega
  ·have e:rF.k=29:=rfl
   rw[e]at V I
   have ac:(Builtin.zeroCells je.v.cells (n-i)).toList.length=(n-i)*29:=by
    rw[Array.length_toList]
    unfold Builtin.zeroCells
    rw[Array.size_map,Array.size_range];rfl
   have M:=U3 (Cky.one je) (n-i) (by decide)
   obtain⟨z,H⟩:∃z,z=je.v:=⟨_,rfl⟩
   have bs:∀w,(zeroValue af).run prog w=.ok z w:=λw=>by rw[H];exact U2 w
   have M:∀v∈(Builtin.zeroCells z.cells (n-i)).toList,v.oneCell'=true:=by rw[H];exact M
   rw[<- H]at ac
   clear H
   have a9:i*29+0+(Builtin.zeroCells z.cells (n-i)).toList.length <=cur.size:=by rw[ac,V];omega
   have G:=tB (P:=prog) g (i*29) af q (Builtin.zeroCells z.cells (n-i)).toList 0 cur w Y a9 X M
   rw[Nat.add_zero]at G
   have bq:aS (some ⟨g,0,none⟩) c i 29=some ⟨g,i*29,none⟩:=by
    unfold aS
    rw[if_neg (by omega)];simp[Addr.add];intro h;omega
   obtain⟨ad,bp⟩:∃ad,n-i=ad+1:=⟨n-i-1,by omega⟩
   refine⟨w.setRow g (cur.toList.take (i*29)++(Builtin.zeroCells z.cells (n-i)).toList++cur.toList.drop (i*29+(Builtin.zeroCells z.cells (n-i)).toList.length)).toArray,?_,⟨by rw[List.length_take];omega,by omega,U,.inr ⟨g,_,q,rfl,setRow_heap w g cur _ af q Y,?_,?_,?_⟩⟩,qV w g _⟩
   ·rw[bq]
    unfold Builtin.clear_
    rw[bp]at G ⊢
    simp only[]at G ⊢
    simp[ft sC,bs,G,-List.append_assoc]
   ·intro j D
    refine X j ?_
    rw[List.size_toArray,List.length_append,List.length_append,List.length_take,List.length_drop,Array.length_toList]at D
    omega
   ·rw[e,List.size_toArray,List.length_append,List.length_append,List.length_take,List.length_drop,Array.length_toList]
    omega
   ·have ag:((cur.toList.take (i*29)++(Builtin.zeroCells z.cells (n-i)).toList++cur.toList.drop (i*29+(Builtin.zeroCells z.cells (n-i)).toList.length)).toArray).toList.take (i*rF.k)=(cur.toList.take (n*29)).take (i*29):=by
     rw[e]
     rw[List.append_assoc,List.take_append_of_le_length (by rw[List.length_take,Array.length_toList];omega),List.take_take,List.take_take]
     congr 1
     omega
    rw[ag]
    have bc:(cur.toList.take (n*29)).length=n*29:=by have:=I.len;rw[e]at this;rw[this,<- E]
    refine⟨by rw[List.length_take,bc,e,List.length_take];omega,λj D=>?_⟩
    have bb:j<xs.length:=by rw[List.length_take]at D;omega
    have b0:j<i:=by rw[List.length_take]at D;omega
    have h1:=(I.rep j bb)
    rw[e]at h1 ⊢
    rw[List.getElem_take]
    have aj:(((cur.toList.take (n*29)).take (i*29)).drop (j*29)).take 29=((cur.toList.take (n*29)).drop (j*29)).take 29:=by
     rw[List.drop_take,List.take_take]
     congr 1
     omega
    rw[aj]
    exact⟨h1.1,h1.2⟩
section
variable {w0:World} {pj:Nat} {F:List Nat} {rs:List Rul} {s:JS} {wb:World} {r:Req} {kr kp:Nat}
structure Xp (w0:World)(pj:Nat)(F:List Nat)(rs:List Rul)(s:JS)(r:Req)(kr kp:Nat)(wb:World):Prop where
 he:Env w0
 J:yM w0 pj F rs s wb
 hr:av wb kr aU r.cells
 hp:av wb kp qY [.pointer (some ⟨pj,0,none⟩)]
 or:r.ok
 rn:r.host.name.length <=1000000000
theorem SC (O:Xp w0 pj F rs s r kr kp wb){x:Cky}(M:x.ok)(ar:x.host.name.length <=1000000000)(b0:x.path.length <=1000000000)(G:bW wb w):
 Cf gT #[x.v,.pointer (some ⟨kr,0,none⟩),.pointer (some ⟨kp,0,none⟩)] w (Ret λv w'=>v=.bool (!dD x r s.now)/\bW w w'):=by
 obtain⟨X,J,ad,Y,or,al⟩:=O
 have D:=J.base.1
 obtain⟨p,bp,bq,bc,bb,a,n,c',bs,bj,a9,rfl,J⟩:=J
 apply Gz
 intro aj an H I
 obtain⟨a0,E,bk⟩:=dP (P:=prog) (Below.refl w.heap.size w) H I
 have a3:av an aj af x.cells:=av.new H I
 have q:=ah G E G.size
 have U:=J.below q
 have ag:=ad.below q
 have Z:=Y.below q
 refine⟨_,λu e=>aC.load0 (a3.below e) (Cky.len M),_,λu e=>fA.load0 (ag.below e) (Req.len or),_,λu e=>(Z.below e).load1 zZ rfl (i:=0) rfl,rfl,rfl,rfl,_,λu e=>(U.below e).cell.load1 bn rfl (i:=0) rfl,dD x r s.now,λu e=>?_,λbz ac=>⟨rfl,ah E ac E.size⟩⟩
 refine(La M or ar al (by omega) s.now u (X.step (ah (ah D q D.size) e (ah D q D.size).size))).mono ?_
 rintro a8 w' ⟨v,rfl,rfl,V⟩
 exact⟨rfl,V.mono e.size⟩
theorem Pp (Z:Xp w0 pj F rs s r kr kp wb){a:Option Addr}{l c':Nat}{xs:List Cky}(V:Sl rF w A a l c' xs)(a9:xs.length <=1000000)(G:∀x∈xs,x.ok/\x.host.name.length <=1000000000/\x.path.length <=1000000000)(O:bW wb w):
 Cf dp #[.slice a l c',.func (.func gT) #[] #[.pointer (some ⟨kr,0,none⟩),.pointer (some ⟨kp,0,none⟩)]] w
  (Ret λv w'=>((v=vI (-1)/\∀x∈xs,dD x r s.now=true)\/∃k:Nat,v=vI (k:Int)/\k<xs.length/\∀x∈xs.take k,dD x r s.now=true)/\(∀k:Nat,v=vI (k:Int)->∀h:k<xs.length,dD xs[k] r s.now=false)/\bW w w'):=by
 apply oM
 have aj:=V.len
 subst aj
 refine⟨λm i Y=>∃k:Nat,k <=xs.length/\i=(k:Int)/\m=xs.length-k/\(∀x∈xs.take k,dD x r s.now=true)/\bW w Y,⟨_,0,by omega,rfl,rfl,(λx G=>by rw[List.take_zero]at G;cases G),Below.refl _ _⟩,?_⟩
 intro bc bb
 refine aP.of ?_ _
 rintro Y ⟨k,a8,rfl,rfl,E,q⟩
 refine ai.of (λU=>?_) (λU=>?_) <;> simp only[dTx,dFx]at U
 ·have D:k<xs.length:=by omega
  have X:=V.below q
  obtain⟨ad,-⟩:=fj aC X D
  refine⟨⟨⟨by omega,by omega⟩,X.isSome D⟩,_,ad,?_⟩
  have ag:=List.getElem_mem D
  obtain⟨an,ar,a0⟩:=G _ ag
  have al:i64.wrap ((k:Int)+1)=((k+1:Nat):Int):=by rw[wrap_i64 (by omega) (by omega)];omega
  try dsimp only
  rw[al]
  refine az (SC Z an ar a0 (ah O q O.size)) ?_
  rintro _ bj ⟨rfl,ac⟩
  have M:=ah q ac q.size
  refine⟨_,rfl,ai.of (λH=>⟨.inr ⟨k,rfl,D,E⟩,λk' I h'=>?_,M⟩) (λH=>⟨xs.length-(k+1),by omega,k+1,by omega,rfl,rfl,?_,M⟩)⟩
  ·have:k=k':=by injection I with _ h;omega
   subst this
   simpa using H
  ·intro y e
   rw[fD D,List.mem_append]at e
   rcases e with e|e
   ·exact E y e
   ·rw[List.mem_singleton]at e;subst e;simpa using H
 ·have:k=xs.length:=by omega
  subst this
  rw[List.take_length]at E
  refine⟨.inl ⟨rfl,E⟩,λk' I h'=>?_,q⟩
  injection I with _ h;omega
theorem Pc (ar:Xp w0 pj F rs s r kr kp wb){a:Option Addr}{l c':Nat}{xs:List Cky}(M:Ow rF af w NoB a l c' xs)(bb:ci wb.heap.size a)(b9:xs.length <=1000000)(bs:∀x∈xs,x.ok/\x.host.name.length <=1000000000/\x.path.length <=1000000000)(ac:bW wb w):
 Cf jb #[.slice a l c',.func (.func gT) #[] #[.pointer (some ⟨kr,0,none⟩),.pointer (some ⟨kp,0,none⟩)]] w
  (Ret λv w'=>∃b1:Nat,v=.slice a b1 c'/\Ow rF af w' NoB a b1 c' (xs.filter λx=>dD x r s.now)/\bW wb w'):=by
 apply oG
 have cb:=M.len
 have c2:=M.2.1
 refine az (Pp ar M.all b9 bs ac) ?_
 rintro v c5 ⟨cf,b6,a8⟩
 have bp:=M.below a8
 have al:=ah ac a8 ac.size
 rcases cf with⟨rfl,b4⟩|⟨k,rfl,bj,cc⟩
 ·refine⟨_,rfl,ai.yes rfl ⟨l,rfl,?_,al⟩⟩
  rw[List.filter_eq_self.2 b4]
  exact bp
 have cj:=b6 k rfl bj
 refine⟨_,rfl,ai.no (by simp only[beq_eq_false_iff_ne];omega) ?_⟩
 have b5:(xs.take k).filter (λx=>dD x r s.now)=xs.take k:=List.filter_eq_self.2 cc
 have ag:(xs.take (k+1)).filter (λx=>dD x r s.now)=xs.take k:=by
  rw[fD bj,Ft,if_neg (by rw[cj];decide),b5]
 refine⟨λm i j X=>∃(e:Nat) (ys:List Cky),e <=xs.length/\j=(e:Int)/\m=xs.length-e/\i=((((xs.take e).filter λx=>dD x r s.now).length:Nat):Int)/\((xs.take e).filter λx=>dD x r s.now).length<e/\ys.length=xs.length/\
  ys.take ((xs.take e).filter λx=>dD x r s.now).length=((xs.take e).filter λx=>dD x r s.now)/\ys.drop e=xs.drop e/\Ow rF af X NoB a l c' ys/\bW wb X,
  ⟨_,k+1,xs,by omega,by rw[wrap_i64 (by omega) (by omega)];omega,rfl,by rw[ag,List.length_take];omega,by rw[ag,List.length_take];omega,rfl,by rw[ag,List.length_take];congr 1;omega,rfl,bp,al⟩,?_⟩
 intro m i j
 refine aP.of ?_ _
 rintro X ⟨e,ys,c3,rfl,rfl,rfl,b8,b0,V,U,O,Bl⟩
 have c1:l=xs.length:=cb
 refine ai.of (λbc=>?_) (λbc=>?_) <;> simp only[dTx,dFx]at bc
 ·have H:e<xs.length:=by omega
  have I:e<ys.length:=by omega
  have ck:ys[e]=xs[e]:=by
   have h1:=List.drop_eq_getElem_cons I
   have Z:=List.drop_eq_getElem_cons H
   rw[h1,Z]at U
   exact(List.cons.inj U).1
  have bz:ys.drop (e+1)=xs.drop (e+1):=by
   have h1:=List.drop_eq_getElem_cons I
   have Z:=List.drop_eq_getElem_cons H
   rw[h1,Z]at U
   exact(List.cons.inj U).2
  obtain⟨bk,-⟩:=fj aC O.all I
  rw[ck]at bk
  refine⟨⟨⟨by omega,by omega⟩,O.all.isSome I⟩,_,bk,?_⟩
  obtain⟨G,ct,cu⟩:=bs _ (List.getElem_mem H)
  have D:=Ft (λx=>dD x r s.now) (xs.take e) xs[e]
  rw[<- fD H]at D
  have ch:i64.wrap ((e:Int)+1)=((e+1:Nat):Int):=by rw[wrap_i64 (by omega) (by omega)];omega
  try dsimp only
  rw[ch]
  generalize xs[e]=x at*
  refine aC.new (zs:=je.cells) (cs:=x.cells) (Cky.len (by rfl)) (Cky.len G) (Cky.one _) X λc4 c7 c0 a0 a9=>?_
  have Y:=ah Bl a9 Bl.size
  refine⟨_,aC.load0 a0 (Cky.len G),?_⟩
  refine az (SC ar G ct cu Y) ?_
  rintro _ c6 ⟨rfl,ad⟩
  have an:=ah Y ad Y.size
  have aj:=(O.below a9).below ad
  refine⟨_,rfl,ai.of (λE=>?_) (λE=>?_)⟩
  ·have E:dD x r s.now=true:=by simpa using E
   rw[if_pos E]at D
   generalize (xs.take e).filter (λx=>dD x r s.now)=q at*
   have b7:((q.length:Nat):Int).toNat<ys.length:=by omega
   obtain⟨cp,cl,ce,b2⟩:=Ow.store (k:=29) yD aj (λ_ _ h=>h) (i:=((q.length:Nat):Int)) b7 rfl (v:=x.v) (x:=x) ⟨rfl,G⟩
   refine⟨_,aC.load0 (a0.below ad) (Cky.len G),⟨⟨by omega,by omega⟩,aj.all.isSome (i:=q.length) (by omega)⟩,cp,cl,xs.length-(e+1),by omega,e+1,ys.set q.length x,by omega,rfl,rfl,?_,?_,?_,?_,?_,?_,?_⟩
   ·rw[D,wrap_i64 (by omega) (by omega),List.length_append];simp
   ·rw[D,List.length_append];simp;omega
   ·rw[List.length_set];exact b0
   ·rw[D,List.length_append]
    show(ys.set q.length x).take (q.length+1)=_
    rw[List.take_succ_eq_append_getElem (by rw[List.length_set];omega),List.getElem_set_self,List.take_set_of_le (Nat.le_refl _),V]
   ·rw[List.drop_set_of_lt (by omega),bz]
   ·simpa using ce
   ·exact FT an b2 bb
  ·have E:dD x r s.now=false:=by simpa using E
   rw[if_neg (by rw[E];decide)]at D
   exact⟨xs.length-(e+1),by omega,e+1,ys,by omega,rfl,rfl,by rw[D],by rw[D];omega,b0,by rw[D];exact V,bz,aj,an⟩
 ·have:e=xs.length:=by omega
  subst this
  rw[List.take_length]at b8 V
  rw[List.take_length]
  generalize xs.filter (λx=>dD x r s.now)=q at*
  obtain⟨cr,cn,bq,b3⟩:=R4 O (i:=q.length) (by omega)
  refine⟨⟨by omega,by omega⟩,cr,cn,⟨by omega,by omega⟩,q.length,rfl,?_,FT Bl b3 bb⟩
  rw[V]at bq
  exact bq
end
open Go.Sort (grow SWO)
theorem QN:∀xs:List (List UInt8),ut xs=Lib.join xs [59,32]
 |[]=>rfl
 |[x]=>by simp[ut,Lib.join,List.intercalate]
 |x::y::r=>by
  have:=QN (y::r)
  show x++[59,32]++ut (y::r)=_
  rw[this]
  simp[Lib.join,List.intercalate,List.intersperse]
theorem SG (w:World)(e q D E:Obj):(((w.alloc e).alloc q).alloc D).alloc E=grow (w.drewN 0) #[e,q,D,E]:=by
 unfold grow World.alloc
 simp only[World.drewN,Nat.add_zero]
 congr 1
theorem Ow.chg {α:Type}{T:Ty α}{w w':World}{a:Option Addr}{n c:Nat}{xs:List α}{S:List Nat}(h:Ow T t w NoB a n c xs)(D:Chg S w w')(E:∀g,j0 a=some g->g ∉ S):Ow T t w' NoB a n c xs:=
 h.keep (D.keep.mono λb q=>q.elim (λx=>x.elim) λe=>E b e.symm)
theorem Sl.chg {α:Type}{T:Ty α}{w w':World}{a:Option Addr}{n c:Nat}{xs:List α}{S:List Nat}(h:Sl T w A a n c xs)(q:Chg S w w')(hA:∀b,A b->b ∉ S):Sl T w' A a n c xs:=h.keep (q.keep.mono λb e=>hA b e)
theorem R2 {w w':World}{row:Option Nat}(e:w.grownBy w' row):Chg row.toList w w':=⟨e.os,e.tape,e.output,e.size,λk D E=>e.block k D λq=>E (by rw[<- q];simp)⟩
theorem My.row {w0:World}{X Y Z V:TypeId}{U p M O I H:Nat}{a:Option Addr}{n c:Nat}{rs:List Rul}{s:JS}{w w':World}(J:My w0 X Y Z V U p M O I H a n c y z D rs s w){row:Option Nat}(ac:w.grownBy w' row)
 (G:∀r,row=some r->r ∉ [U,p,M,O]/\w0.heap.size <=r/\r≠I/\r≠H/\j0 a≠some r):My w0 X Y Z V U p M O I H a n c y z D rs s w':=by
 have q:=R2 ac
 have E:∀k∈row.toList,row=some k:=λk e=>by cases row with|none=>cases e|some r=>simp at e;rw[e]
 exact⟨q.arr J.cell λm=>(G _ (E _ m)).1 (List.mem_cons_self ..),J.shf.chg q λk e m=>(G _ (E _ m)).1 (List.mem_cons_of_mem _ e),J.tab.chg q λk e=>(G _ (E _ e)).2,J.far,J.own⟩
theorem My.lts {w0:World}{O U V M:TypeId}{H p E G q e:Nat}{a:Option Addr}{n c:Nat}{rs:List Rul}{s:JS}(J:My w0 O U V M H p E G q e a n c y z D rs s w):
 ∀r,w.heap.size <=r->r ∉ [H,p,E,G]/\w0.heap.size <=r/\r≠q/\r≠e/\j0 a≠some r:=λr ad=>by
 have h1:=J.shf.lts
 have X:=J.cell.lt
 have Y:=J.tab.h1.lt
 have Z:=J.tab.h2.lt
 have ac:=J.tab.hb.size
 refine⟨?_,by omega,by omega,by omega,λI=>by have:=J.tab.h3.lt _ I;omega⟩
 simp;omega
instance  (priority:=low) allKpt:Inhabited {k:Kpt // (λ_=>True) k} :=⟨⟨mW,trivial⟩⟩
theorem W0 (x y: {k:Kpt // (λ_=>True) k}):Go.Proofs.ltOf (λx y: {k:Kpt // (λ_=>True) k} =>if dt x.1.c y.1.c=true then(-1:Int)else 1) x y=dt x.1.c y.1.c:=by
 show decide ((if dt x.1.c y.1.c=true then(-1:Int)else 1)<0)=_
 by_cases h:dt x.1.c y.1.c=true
 ·rw[if_pos h,h];rfl
 ·rw[if_neg h]
  have:dt x.1.c y.1.c=false:=by simpa using h
  rw[this];rfl
theorem W2:SWO (Go.Proofs.ltOf λx y: {k:Kpt // (λ_=>True) k} =>if dt x.1.c y.1.c=true then(-1:Int)else 1):=by
 have e:=W0
 constructor
 ·intro x
  rw[e]
  unfold dt
  simp
 ·intro x y z h1 q
  rw[e]at*
  exact Ja h1 q
 ·intro x y z h1 q
  rw[e]at*
  unfold dt at*
  simp only[Bool.or_eq_false_iff,Bool.and_eq_false_iff,dFx]at*
  omega
theorem VT (W:World)(x y:Kpt):Cf uD #[x.c.v,y.c.v] W λe w'=>e=.returned (vI (if dt x.c y.c=true then(-1:Int)else 1))/\∃q os',w'=grow (W.drewN q) os':=by
 refine(GA x.c.v y.c.v (K:=λv w'=>v=vI (if dt x.c y.c=true then(-1:Int)else 1)/\∃q os',w'=grow (W.drewN q) os') ?_).mono ?_
 ·intro I M O H X E U D
  have a2:av E I af x.c.cells:=(av.new O H:av M I af x.c.cells).below (D▸au M _)
  have a3:av E X af y.c.cells:=av.new U D
  refine⟨_,aC.load0 a2 (Cky.len x.ok),_,aC.load0 a3 (Cky.len y.ok),?_⟩
  refine az (K9 x.ok y.ok E) ?_
  rintro _ Y ⟨rfl,V⟩
  have G:∃q os',Y=grow (W.drewN q) os':=⟨0,_,by rw[V,D,H];exact SG _ _ _ _ _⟩
  exact⟨_,rfl,ai.of (λe=>⟨by rw[if_pos e],G⟩) (λe=>⟨by rw[if_neg (by rw[e];decide)],G⟩)⟩
 ·rintro e w' ⟨v,rfl,rfl,h⟩
  exact⟨rfl,h⟩
section
variable {w0:World} {pj:Nat} {F:List Nat} {rs:List Rul} {s:JS} {w:World}
theorem vd (d3:Env w0)(J:yM w0 pj F rs s w)(H:JI s m)(fb:m <=100000){r:Req}(or:r.ok)(fr:r.host.name.length <=1000000):
 Cf eh #[.pointer (some ⟨pj,0,none⟩),r.v] w (Ret λv w'=>v=.string (mkS (xH s r).2)/\Cd w0 pj F rs (xH s r).1 w w'):=by
 obtain⟨p,I,M,b1,b0,a,n,c',b3,b2,bc,rfl,J⟩:=J
 apply Kc
 intro ar ew cj c0 c3 w3 ck c1
 obtain⟨e1,c6,fm⟩:=dP (P:=prog) (Below.refl w.heap.size w) cj c0
 obtain⟨dk,a0,fn⟩:=dP (P:=prog) c6 ck c1
 have a2:av w3 ar qY [.pointer (some ⟨pj,0,none⟩)]:=(av.new cj c0:av ew ar qY [.pointer (some ⟨pj,0,none⟩)]).below dk
 have a3:av w3 c3 aU r.cells:=av.new ck c1
 have X:=J.below a0
 have c8:Xp w0 pj [pj,p,I,M] rs s r c3 ar w3:=⟨d3,⟨p,I,M,b1,b0,a,n,c',b3,b2,bc,rfl,X⟩,a3,a2,or,by omega⟩
 have e4:=H.few
 have e7:=H.last
 refine⟨_,a2.load1 zZ rfl (i:=0) rfl,rfl,rfl,_,X.cell.load1 fJ rfl (i:=2) rfl,?_⟩
 refine az (Dp X.shf (by omega) (by omega)) ?_
 rintro _ f4 ⟨b6,fl,b7,rfl,d8,bk,d0⟩
 refine⟨_,_,_,rfl,?_⟩
 refine az (Pc c8 d8 bk (by rw[List.length_map];omega) (λx Z=>?_) d0) ?_
 ·obtain⟨k,G,rfl⟩:=List.mem_map.1 Z
  have h1:=iW k.ok (H.right k G)
  have e2:=(H.sm k G).pt
  exact⟨k.ok,by omega,by omega⟩
 rintro _ f5 ⟨ev,rfl,ct,B15⟩
 refine⟨_,_,_,rfl,?_⟩
 have d5:(s.L.map Kpt.c).filter (λx=>dD x r s.now)=(s.L.filter λk=>dD k.c r s.now).map Kpt.c:=by rw[List.filter_map];rfl
 rw[d5]at ct
 have e5:(s.L.filter λk=>dD k.c r s.now).length <=s.L.length:=List.length_filter_le ..
 refine(OL (Q:=λ_=>True) _ W2 uD (enters_of func45 (by kernel_rfl) rfl) (λW x y=>VT W x.1 y.1) (λ_ _=>trivial) ct (by omega)).mono ?_
 rintro _ w17 ⟨rfl,ys,eb,ee,aj,d2⟩
 refine⟨rfl,?_⟩
 have ds:ys.map (·.1)=tU s.L r s.now:=by
  refine NG (R:=λa b=>dt a.c b.c) (eb.trans (oK s.L r s.now).symm) ?_ (Po H.sh r s.now)
  rw[List.pairwise_map]
  refine ee.imp fun{a b} h=>?_
  exact(W0 b a).symm.trans h
 rw[ds]at aj
 have B17:bW w3 w17:=B15.trans (d2.below B15.size (λk G=>bk k (by simpa using G)))
 have c9:=X.below B17
 have dc:=a2.below B17
 have cb:∀x∈tU s.L r s.now,x∈s.L:=λx Z=>(List.mem_filter.1 ((oK s.L r s.now).mem_iff.1 Z)).1
 have e3:(tU s.L r s.now).length <=m:=by
  rw[(oK s.L r s.now).length_eq];omega
 unfold xH
 generalize tU s.L r s.now=e at*
 have d7:ev=e.length:=by have:=aj.len;rw[List.length_map]at this;exact this
 subst d7
 have eg:Sl rF w17 (λb=>w3.heap.size <=b/\b<w17.heap.size) b6 e.length b7 (e.map Kpt.c):=aj.sl (λ_ _ h=>h.elim) λg U=>⟨bk g U,aj.lt g U⟩
 have cr:=X.lts
 have fv:=B17.size
 have c7:Chg [pj,p,I,M] w w17:=(Chg.of a0).step B17
 have fp:=a2.lt
 refine⟨λm a6 c4 b8 i D=>∃k:Nat,k <=e.length/\i=(k:Int)/\m=e.length-k/\Ow tS ao D NoB a6 c4 b8 ((e.take k).map λx=>ki x.c)/\ci w17.heap.size a6/\
  My w0 sk bR cB dq pj p I M b1 b0 a n c' b3 b2 bc rs ⟨rm s.L (e.take k) s.now,s.last,s.now⟩ D/\av D ar qY [.pointer (some ⟨pj,0,none⟩)]/\Sl rF D (λb=>w3.heap.size <=b/\b<w17.heap.size) b6 e.length b7 (e.map Kpt.c)/\Chg [pj,p,I,M] w D/\w17.heap.size <=D.heap.size,
  ⟨_,0,by omega,rfl,rfl,Ow.nil _ _ _ _,(λg U=>by cases U),c9,dc,eg,c7,Nat.le_refl _⟩,?_⟩
 intro fo a6 c4 b8 fd
 refine aP.of ?_ _
 rintro D ⟨k,G,rfl,rfl,bs,bp,a8,de,bz,b4,f3⟩
 refine ai.of (λcf=>?_) (λcf=>?_) <;> simp only[dTx,dFx]at cf
 ·have bq:k<e.length:=by omega
  have cp:k<(e.map Kpt.c).length:=by rw[List.length_map];exact bq
  obtain⟨cl,-⟩:=fj aC bz cp
  rw[List.getElem_map]at cl
  refine⟨⟨⟨by omega,by omega⟩,bz.isSome cp⟩,_,cl,?_⟩
  have V:=e[k].ok
  have e0:=H.sm _ (cb _ (List.getElem_mem bq))
  have en:i64.wrap ((k:Int)+1)=((k+1:Nat):Int):=by rw[wrap_i64 (by omega) (by omega)];omega
  try dsimp only
  rw[en]
  have cu:e.take (k+1)=e.take k++[e[k]]:=fD bq
  have el:(e.take k).length=k:=by rw[List.length_take];omega
  generalize e[k]=x at*
  refine aC.new (zs:=je.cells) (cs:=x.c.cells) (Cky.len (by rfl)) (Cky.len V) (Cky.one _) D λes f8 e6 b9 ag=>?_
  have a9:=a8.below ag
  have bb:=de.below ag
  refine⟨_,λu q=>(bb.below q).load1 zZ rfl (i:=0) rfl,rfl,rfl,_,λu q=>(a9.below q).cell.load1 fJ rfl (i:=2) rfl,_,λu q=>aC.load0 (b9.below q) (Cky.len V),_,λu q=>(bb.below q).load1 zZ rfl (i:=0) rfl,rfl,rfl,rfl,_,λu q=>(a9.below q).cell.load1 bn rfl (i:=0) rfl,λf7 al=>?_⟩
  have ac:=ah ag al ag.size
  have b5:=a9.below al
  refine az (OK b5.shf V s.now) ?_
  rintro _ ex ⟨rfl,ef,E⟩
  have bj:∀b,w3.heap.size <=b->b ∉ [p,I,M]:=λb ad h=>(cr b ad).1 (List.mem_cons_of_mem _ h)
  have J34:=b5.step E ef
  have dd:=E.arr (bb.below al) (by
   have h1:=J.shf.lts
   simp;omega)
  have dr:=E.arr (b9.below al) (bj es (by omega))
  have ea:=(bs.below ac).chg E λg U=>bj g (by have:=bp g U;omega)
  have ei:=(bz.below ac).chg E λb ad=>bj b ad.1
  have C34:=(b4.step ac).trans (E.mono λk G=>List.mem_cons_of_mem _ G)
  refine⟨_,rfl,_,aC.load0 dr (Cky.len V),?_⟩
  refine az (Pq V e0 ex) ?_
  rintro _ c5 ⟨rfl,cc⟩
  refine⟨_,rfl,λer w38 d6 c2=>?_⟩
  have d1:bW c5 w38:=c2▸au c5 _
  have O:=ah cc d1 cc.size
  have ek:Src tS w38 NoB (some ⟨er,0,none⟩) 1 [ki x.c]:=Src.new1F (gI _) d6 c2 (qk trivial)
  obtain⟨ey,dg,et,dl,ed,d9,Y,d4⟩:=j6 (ty:=bI) lQ bS (by decide) (ea.below O) (λ_ _ h=>h) (cm:=1) ek (by rw[List.length_map,el];simp;omega)
  have fs:=ac.size
  have f0:=E.size
  have f1:=O.size
  have f2:=Y.size
  have an:∀r,j0 a6=some r->w17.heap.size <=r:=λr h=>bp r h
  have em:rm s.L (e.take (k+1)) s.now=z6 (rm s.L (e.take k) s.now) (x.c.plc V) s.now:=by
   unfold rm
   rw[cu,List.foldl_append];rfl
  refine⟨ey,dg,et,dl,ed,e.length-(k+1),by omega,k+1,by omega,rfl,rfl,?_,bp.app (by omega) d4,?_,?_,?_,?_,by omega⟩
  ·rw[cu,List.map_append];exact d9
  ·rw[em]
   exact(J34.below O).row Y λr h=>cr r (by have:=an r h;omega)
  ·exact(dd.below O).grown Y (λdn=>by have:=an _ dn.symm;omega)
  ·exact(ei.below O).chg (R2 Y) λb ad h=>by
    have:=an b (by simpa using h)
    omega
  ·exact(C34.step O).row Y λr h=>.inl (by have:=an r h;have:=a0.size;omega)
 ·have:k=e.length:=by omega
  subst this
  rw[List.take_length]at bs a8
  have cn:=Kr (B:=2300000) (e.map λx=>ki x.c) (λz eq=>by
   obtain⟨x,Z,rfl⟩:=List.mem_map.1 eq
   exact uJ (H.sm _ (cb _ Z)))
  rw[List.length_map]at cn
  have e9:(ut (e.map λx=>ki x.c)).length <=100000*(2300000+2):=Nat.le_trans cn (Nat.mul_le_mul_right _ (by omega))
  have ch:=QN (e.map λx=>ki x.c)
  refine az (JH bs.all [59,32] (by rw[List.length_map];omega) (by rw[<- ch];omega)) ?_
  rintro _ f6 ⟨rfl,ce⟩
  refine⟨_,rfl,?_,Cd.same ⟨p,I,M,b1,b0,a,n,c',b3,b2,bc,rfl,a8.below ce⟩ (b4.step ce)⟩
  rw[ch]
end
def RH:Url:=(Mr [104,116,116,112,58,47,47,104,47,120,47,121]).1
theorem Au:RH.ok:=by show List.length _=16;kernel_rfl
theorem t1:(oO [] (js0 0) RH Au [97,61,49]).2=0:=by kernel_rfl
theorem t2:(oO [] (oO [] (js0 0) RH Au [97,61,49]).1 RH Au [98,61,50,59,32,80,97,116,104,61,47,120]).2=0:=by kernel_rfl
noncomputable def jsA:JS:=(oO [] (oO [] (js0 0) RH Au [97,61,49]).1 RH Au [98,61,50,59,32,80,97,116,104,61,47,120]).1
theorem t3:jsA.L.length=2:=by kernel_rfl
def uh:Url:=(Mr [104,116,116,112,58,47,47,104]).1
theorem t4:(xH jsA ⟨false,uh.host,[47,120,47,122],0⟩).2=[97,61,49,59,32,98,61,50]:=by kernel_rfl
theorem XV:uh.ok:=by show List.length _=16;kernel_rfl
theorem fld (w:World):(Instr.field aQ uh.v 1).run prog w=.ok uh.host.v w:=by kernel_rfl
theorem bld (w:World):(Instr.build aU #[(1,uh.host.v),(2,vS [47,120,47,122])]).run prog w=.ok (⟨false,uh.host,[47,120,47,122],0⟩:Req).v w:=by kernel_rfl
def us:Url:=(Mr [104,116,116,112,115,58,47,47,104,47]).1
def up:Url:=(Mr [104,116,116,112,58,47,47,104,47]).1
theorem UV:us.ok:=by show List.length _=16;kernel_rfl
theorem L0:up.ok:=by show List.length _=16;kernel_rfl
theorem UR:Ex.ok:=by show List.length _=16;kernel_rfl
noncomputable def jn1:JS:=(oO [] (js0 0) us UV [97,61,49,59,32,83,101,99,117,114,101]).1
theorem n18:(oO [] (js0 0) us UV [97,61,49,59,32,83,101,99,117,114,101]).2=0:=by kernel_rfl
theorem n21:(oO [] jn1 up L0 [97,61,50])=(jn1,121):=by kernel_rfl
theorem n23:ju jn1 (-1)=(jn1,122):=by kernel_rfl
theorem n26:oO [] jn1 up L0 []=(jn1,82):=by kernel_rfl
theorem n29:oO [] jn1 Ex UR [97,61,49]=(jn1,41):=by kernel_rfl
theorem n66:(ju jn1 1099511627776).2=0:=by kernel_rfl
theorem n78:(ju (ju jn1 1099511627776).1 1).1.now=1099511627776:=by kernel_rfl
set_option maxRecDepth 100000
theorem OA (a:lU){w K}(h:nA w (.cells sn aQ) λb c=>Cf Bv #[vS a] c λd e=>∃f g,d=rT #[f,vI g]/\nA e (.cells sn aQ) λi j=>∃k,Sv aQ (vA i 0) f j k/\∃l,Ld aQ (vA i 0) k l/\∃m,Sv aQ (vA b 0) l k m/\∃n,Rv aQ (vA b 0) m n/\K n m):Cf pT #[vS a] w (Ret K):=ru func13 [] h
theorem GD {w K}(h:uP pN #[.slice none 0 0] w λa b=>uP ux #[.pointer a] b λc d=>∃e:FP [],(ai (Option.isNone c) (K (.bool false) d) (uV pT #[vS [104,116,116,112,58,47,47,104,47,120,47,121]] d λf g=>uI bE #[.pointer c,f,vS [97,61,49]] g λi j=>ai (i !=(0:Int)) (K (.bool false) j) (uV pT #[vS [104,116,116,112,58,47,47,104,47,120,47,121]] j λk l=>uI bE #[.pointer c,k,vS [98,61,50,59,32,80,97,116,104,61,47,120]] l λm n=>ai (m !=(0:Int)) (K (.bool false) n) (e n))))/\aP 15 (∀f,e f->uV pT #[vS [104,116,116,112,58,47,47,104]] f λg i=>∃j,(Instr.field aQ g 1).run prog i=.ok j i/\∃k,(Instr.build aU #[(1,j),(2,vS [47,120,47,122])]).run prog i=.ok k i/\uS eh #[.pointer c,k] i λl m=>ai (l==[97,61,49,59,32,98,61,50]) (uL eC #[.pointer c] m λn o p q=>K (.bool (((o:Nat):Int)==(2:Int))) q) (K (.bool false) m))):Cf mZ #[] w (Ret K):=ru func11 [(4,[])] h
set_option maxRecDepth 20000
def Cz (wb:World)(pj:Nat)(rs:List Rul)(s:JS)(w:World):Prop:=∃(w0:World) (F:List Nat),Env w0/\yM w0 pj F rs s w/\bW wb w/\∀k∈F,wb.heap.size <=k
section
variable {wb:World} {pj:Nat} {rs:List Rul} {s:JS} {w:World}
theorem Cz.below (J:Cz wb pj rs s w){w':World}(h:bW w w'):Cz wb pj rs s w':=by
 obtain⟨w0,F,D,J,e,q⟩:=J
 exact⟨w0,F,D,J.below h,ah e h e.size,q⟩
theorem Cz.step {w0:World}{F:List Nat}(H:Env w0)(e:bW wb w)(q:∀k∈F,wb.heap.size <=k){w':World}{s':JS}(h:Cd w0 pj F rs s' w w'):Cz wb pj rs s' w':=by
 obtain⟨D,J,G,E⟩:=h
 refine⟨w0,D,H,J,e.trans (G.below e.size q),λk I=>?_⟩
 rcases E k I with h|h
 ·exact q k h
 ·exact Nat.le_trans e.size h
theorem zf {O E:Nat}{rs:List Rul}(H:bW wb w)(M:Env w)(ac:Sl sV w A p O E rs)(Y:rs.length <=1000000)(Z:∀r∈rs,r.2.length <=1000000):
 Cf pN #[.slice p O E] w (Ret λv w'=>∃e:Nat,v=.pointer (some ⟨e,0,none⟩)/\bW w w'/\Cf ux #[.pointer (some ⟨e,0,none⟩)] w' (Ret λv D=>∃pj,v=.pointer (some ⟨pj,0,none⟩)/\Cz wb pj (rs.filter bQ) (js0 0) D/\bW w' D)):=by
 refine(NH ac Y Z M).mono ?_
 rintro U w' ⟨v,rfl,e,ag,a,n,c,al,aj,ad,rfl,S⟩
 have I:=S.hb
 refine⟨_,rfl,e,rfl,I,(Rl S).mono ?_⟩
 rintro U D ⟨v,rfl,pj,F,rfl,J,V,G⟩
 have q:=ah H I H.size
 exact⟨_,rfl,pj,rfl,⟨w,F,M,J,ah q G q.size,λk X=>Nat.le_trans q.size (V k X)⟩,G⟩
theorem HT (J:Cz wb pj rs s w)(H:JI s m)(E:m <=100000){u:Url}(o:u.ok)(I:u.host.name.length <=1000000)(up:u.path.length <=1000000)(t:List UInt8)(G:t.length <=10000000):
 Cf bE #[.pointer (some ⟨pj,0,none⟩),u.v,vS t] w (Ret λv w'=>v=vI (oO rs s u o t).2/\Cz wb pj rs (oO rs s u o t).1 w'):=by
 obtain⟨w0,F,e,J,D,q⟩:=J
 refine(wM e J H E o I up t G).mono ?_
 rintro M w' ⟨v,rfl,rfl,h⟩
 exact⟨_,rfl,rfl,Cz.step e D q h⟩
theorem W6 (J:Cz wb pj rs s w)(G:JI s m)(E:m <=100000){r:Req}(or:r.ok)(H:r.host.name.length <=1000000):
 Cf eh #[.pointer (some ⟨pj,0,none⟩),r.v] w (Ret λv w'=>v=.string (mkS (xH s r).2)/\Cz wb pj rs (xH s r).1 w'):=by
 obtain⟨w0,F,e,J,D,q⟩:=J
 refine(vd e J G E or H).mono ?_
 rintro I w' ⟨v,rfl,rfl,h⟩
 exact⟨_,rfl,rfl,Cz.step e D q h⟩
theorem yJ (J:Cz wb pj rs s w)(e:JI s m)(H:m <=1000000):Cf eC #[.pointer (some ⟨pj,0,none⟩)] w (Ret λv w'=>∃(a:Option Addr) (n c:Nat),v=.slice a n c/\Ow rF af w' NoB a n c (s.L.map Kpt.c)/\ci w.heap.size a/\bW w w'):=by
 obtain⟨w0,F,G,J,E,D⟩:=J
 have h1:=e.few
 have q:=e.last
 exact sH J (by omega) (by omega)
end
theorem qa (t:List UInt8)(X:t.length <=90000000)(w:World):Cf pT #[vS t] w (Ret λv w'=>v=(Mr t).1.v/\bW w w'):=by
 apply OA
 intro Y I G H
 obtain⟨ad,e,Z⟩:=dP (P:=prog) (Below.refl w.heap.size w) G H
 have a2:av I Y aQ Ex.cells:=av.new G H
 refine az (Lh t X I) ?_
 rintro _ ac ⟨rfl,E⟩
 have q:=ah e E e.size
 have o:(Mr t).1.ok:=Ws t
 unfold X7
 refine⟨_,_,rfl,?_⟩
 refine nf.new (zs:=Ex.cells) (cs:=(Mr t).1.cells) (Url.len UR) (Url.len o) (Url.one _) ac λaj al ag U D=>?_
 have O:=ah q D q.size
 refine⟨_,nf.load0 U (Url.len o),?_⟩
 exact nf.fin (K:=λr M=>r=(Mr t).1.v/\bW w M) (cs:=(Mr t).1.cells) (Url.len o) (Url.one _) ((a2.below E).below D) (Url.len UR) O Z λM V=>⟨rfl,V⟩
theorem jA:JI (js0 0) 0:=JI.new (by decide) (by decide) 0
theorem Vk:RH.host.name.length <=1000000:=by show(Mr [104,116,116,112,58,47,47,104,47,120,47,121]).1.host.name.length <=1000000;exact of_decide_eq_true (by kernel_rfl)
theorem OQ:RH.path.length <=1000000:=of_decide_eq_true (by kernel_rfl)
theorem Yq:uh.host.name.length <=1000000:=of_decide_eq_true (by kernel_rfl)
theorem wL (w:World)(Y:Env w):Cf mZ #[] w (Ret λv w'=>v=.bool true/\bW w w'):=by
 apply GD
 refine az (zf (wb:=w) (Below.refl _ w) Y (Sl.nil sV w wu none 0 (Nat.zero_le _)) (by decide) (λr ag=>by cases ag)) ?_
 rintro _ bk ⟨bb,rfl,a0,ac⟩
 refine⟨_,rfl,?_⟩
 refine az ac ?_
 rintro _ an ⟨al,rfl,J,a8⟩
 rw[List.filter_nil]at J
 refine⟨_,rfl,λq=>Cz w al [] jsA q,ai.no rfl ?_,aP.of ?_ _⟩
 ·refine az (qa _ (by decide) an) ?_
  rintro _ bs ⟨rfl,X⟩
  refine⟨_,rfl,?_⟩
  refine az (HT (J.below X) jA (by decide) (u:=RH) Au Vk OQ [97,61,49] (by decide)) ?_
  rintro _ ar ⟨rfl,I⟩
  refine⟨_,rfl,ai.no (by rw[t1];rfl) ?_⟩
  refine az (qa _ (by decide) ar) ?_
  rintro _ bc ⟨rfl,O⟩
  refine⟨_,rfl,?_⟩
  refine az (HT (I.below O) (jA.set RH Au _ OQ) (by decide) (u:=RH) Au Vk OQ [98,61,50,59,32,80,97,116,104,61,47,120] (by decide)) ?_
  rintro _ bj ⟨rfl,H⟩
  exact⟨_,rfl,ai.no (by rw[t2];rfl) H⟩
 ·intro q M
  have e:JI jsA 2:=(jA.set RH Au _ OQ).set RH Au _ OQ
  refine az (qa _ (by decide) q) ?_
  rintro _ G ⟨rfl,U⟩
  refine⟨_,rfl,_,fld G,_,bld G,?_⟩
  refine az (W6 (M.below U) e (by decide) (r:=⟨false,uh.host,[47,120,47,122],0⟩) XV Yq) ?_
  rintro _ bp ⟨rfl,D⟩
  refine⟨_,rfl,ai.yes (by rw[t4];rfl) ?_⟩
  have aj:=e.get (⟨false,uh.host,[47,120,47,122],0⟩:Req)
  refine az (yJ D aj (by decide)) ?_
  rintro _ bq ⟨a,n,c,rfl,ad,a9,V⟩
  refine⟨_,_,_,rfl,?_⟩
  have Z:n=2:=by
   have:=ad.len
   rw[List.length_map,SD e,List.length_map,t3]at this
   exact this
  subst Z
  obtain⟨w0,F,_,_,E,_⟩:=D
  exact⟨rfl,ah E V E.size⟩
end Go.Pk
