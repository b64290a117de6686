/- What the laws lean on: V10, ShT, ShU, ShV, ShW, Col, ShX, AllA; what is used. Its conditions: none. -/
import Derived.Test.YtikdahhdhchlfaaGreatDoorRL
import Derived.RangeFuncNested
import Derived.RangeFuncLeaves
import Derived.Shelf.Abstract
import Derived.Shelf.AbstractIn
import Derived.WalkKit
import Derived.OwnWalkIn
import Derived.TacticsInMore
import Derived.RegionIn
import Derived.LoopNIn
import Derived.LoopIn
set_option linter.unusedVariables false
set_option linter.unusedSimpArgs false
set_option linter.unusedSectionVars false
set_option maxRecDepth 100000
open List (append_assoc append_nil cons_append filter_cons foldl_append getElem_map length length_append length_cons length_map length_nil map_append map_cons map_nil mem_cons_of_mem nil_append take_length take_succ_eq_append_getElem)
open Go.World (drew)
variable {n i j k:Nat}{w u:Go.World}{L M:List Go.Pk.Kpt}{a:Int}{t:Go.TypeId}{c:Go.Pk.Cky}{P:Go.Program}{A:Go.Pk.Bl}
open Go.IntKind (i64)
open Go.Proofs.Tryz
open List (length)
open Option (isSome)
namespace Go.Pk
open Go.RowKit (Below)
open Go.Proofs
theorem Ky {w K}(h:nA w (.map #[] 0) λa b=>nA b (.map #[] 0) λc d=>nA d (.cells #[.map (some a),.map (some c),vI 0] aZ) λe f=>K (.pointer (vA e 0)) f):Cf qk #[] w (Ret K):=ru func58 [] h
theorem xq (a:Option Addr)(b:Value)(c:lU){w K}(h:nA w (.cells (Value.cells b) ah) λd e=>(Option.isSome a=true)/\(Option.isSome a=true)/\∃f,(∀g,bW e g->Ld aC (Option.map (λi=>i.add 0) a) g (.map f))/\∃g,(∀i,bW e i->Ld ah (vA d 0) i g)/\∃i,(∀j,bW e j->Cf jg #[g] j λk l=>k=.returned i/\bW j l)/\∃j k,(∀l,bW e l->(Instr.lookup aC (.map f) i true).run prog l=.ok (.tuple #[j,.bool k]) l)/\∀l,e.heap.size <=l->∀m,bW e m->m.heap[l]? =some (.cells fL aI)->∃n,Sv aI (vA l 0) j m n/\∃o:FP [],(af k (∃p,Ld ah (vA d 0) n p/\uB dZ #[.pointer a,p] n λq r=>true/\true/\true/\true/\(∃s,Ld bg (vA l 26) (drew r) (vI s)/\true/\(∃t,Ld aU (vA l 28) (drew r) (vI t)/\∃u,Sv bg (vA d 26) (vI s) (drew r) u/\true/\∃v,Sv aU (vA d 28) (vI t) u v/\o v)/\∃t,Sv bg (vA d 26) (vI s) (drew r) t/\∃u,Ld aU (vA l 28) t (vI u)/\true/\∃v,Sv aU (vA d 28) (vI u) t v/\o v)/\∃s,Ld aU (vA l 28) (drew r) (vI s)/\∃t,Ld bg (vA l 26) (drew r) (vI t)/\true/\∃u,Sv bg (vA d 26) (vI t) (drew r) u/\true/\∃v,Sv aU (vA d 28) (vI s) u v/\o v) ((Option.isSome a=true)/\(Option.isSome a=true)/\∃p,Ld aU (Option.map (λq=>q.add 2) a) n (vI p)/\(Option.isSome a=true)/\(Option.isSome a=true)/\∃q,Sv aU (Option.map (λr=>r.add 2) a) (vI (i64.wrap (p+1))) n q/\(Option.isSome a=true)/\(Option.isSome a=true)/\∃r,Ld aU (Option.map (λs=>s.add 2) a) q (vI r)/\true/\∃s,Sv aU (vA d 28) (vI r) q s/\o s))/\aQ 24 (∀p,o p->(Option.isSome a=true)/\(Option.isSome a=true)/\∃q,(∀r,bW p r->Ld aC (Option.map (λs=>s.add 0) a) r (.map q))/\∃r,(∀s,bW p s->Ld ah (vA d 0) s r)/\∃s,(∀t,bW p t->Cf jg #[r] t λu v=>u=.returned s/\bW t v)/\∃t,(∀u,bW p u->Ld ah (vA d 0) u t)/\∃u,(∀v,bW p v->(Instr.build aI #[(0,t),(1,vS c)]).run prog v=.ok u v)/\∀v,bW p v->∃x,(Instr.mapUpdate aC (.map q) s u).run prog v=.ok () x/\(Option.isSome a=true)/\(Option.isSome a=true)/\∃y,Ld br (Option.map (λz=>z.add 1) a) x (.map y)/\∃z,(Instr.lookup br (.map y) (vS c) false).run prog x=.ok (vI z) x/\∃A,(Instr.mapUpdate br (.map y) (vS c) (vI (i64.wrap (z+1)))).run prog x=.ok () A/\K (.bool k) A)):Cf j8 #[.pointer a,b,vS c] w (Ret K):=ru func64 [(3000003,[(0,shB),(1,shB),(2,shB),(3,shB),(4,shB),(5,shB),(6,shB),(7,shB),(8,shB),(9,shB),(10,shB)]),(4,[]),(3000015,[(0,shB),(1,shB),(2,shB),(7,shB),(3,shB),(4,shB),(5,shB),(6,shB),(8,shB)])] h
theorem re (a:Option Addr)(b:Int){w K}(h:(Option.isSome a=true)/\(Option.isSome a=true)/\∃c,Ld aC (Option.map (λd=>d.add 0) a) w (.map c)/\∃d e,(Instr.range aC (.map c)).run prog w=.ok (.pointer e) d/\∃f:Nat->FP [.one .slice],(∃g,f g none 0 0 d)/\∀g i j k,aQ 15 (∀l,f g i j k l->((∃m,(Instr.next (.pointer e) false kF).run prog l=.ok (.tuple #[.bool false]) m/\∃n:Nat->FP [shI],(∃o,n o (0:Int) m)/\∀o p,aQ 8 (∀q,n o p q->af (decide (p<(j:Int))) ((bx p (j:Int)/\Option.isSome i=true)/\∃r,Ld ah (av i p 29) q r/\nA q (.cells bz ah) λs t=>∃u,Sv ah (vA s 0) r t u/\∃v,Ld ah (vA s 0) u v/\uB dZ #[.pointer a,v] u λx y=>∃z:Nat,z<o/\n z (i64.wrap (p+1)) y) (K (vI (j:Int)) q)))\/(∃m n o,(Instr.next (.pointer e) false kF).run prog l=.ok (.tuple #[.bool true,n,o]) m/\∃p q,(Instr.entry (.pointer e)).run prog m=.ok (.tuple #[p,q]) m/\nA m (.cells fL aI) λr s=>∃t,Sv aI (vA r 0) q s t/\true/\true/\∃u,Ld bg (vA r 25) t (vI u)/\af (decide (u <=b)) (true/\∃v,Ld ah (vA r 0) t v/\∃x y z A,(Instr.buildSlice aP 1 #[(0,v)]).run prog t=.ok (.slice y z A) x/\∃B C D E,(Builtin.append_ #[aP,aP] aP #[.slice i j k,.slice y z A]).run prog x=.ok (.slice C D E) B/\∃F:Nat,F<g/\f F C D E B) (∃v:Nat,v<g/\f v i j k t))))):Cf fw #[.pointer a,vI b] w (Ret K):=ru func65 [(8,[(5,.one .slice)]),(27,[(31,shI)])] h
theorem xr (a:Option Addr)(b:Value)(c:Int){w K}(h:nA w (.cells (Value.cells b) ah) λd e=>(Option.isSome a=true)/\(Option.isSome a=true)/\∃f,(∀g,bW e g->Ld aC (Option.map (λi=>i.add 0) a) g (.map f))/\∃g,(∀i,bW e i->Ld ah (vA d 0) i g)/\∃i,(∀j,bW e j->Cf jg #[g] j λk l=>k=.returned i/\bW j l)/\∃j k,(∀l,bW e l->(Instr.lookup aC (.map f) i true).run prog l=.ok (.tuple #[j,.bool k]) l)/\∀l,e.heap.size <=l->∀m,bW e m->m.heap[l]? =some (.cells fL aI)->∃n,Sv aI (vA l 0) j m n/\af k (true/\true/\∃o,Sv bg (vA l 27) (vI c) n o/\(Option.isSome a=true)/\(Option.isSome a=true)/\∃p,(∀q,bW o q->Ld aC (Option.map (λr=>r.add 0) a) q (.map p))/\∃q,(∀r,bW o r->Ld ah (vA d 0) r q)/\∃r,(∀s,bW o s->Cf jg #[q] s λt u=>t=.returned r/\bW s u)/\∃s,(∀t,bW o t->Ld aI (vA l 0) t s)/\∀t,bW o t->∃u,(Instr.mapUpdate aC (.map p) r s).run prog t=.ok () u/\K (.bool k) u) (K (.bool k) n)):Cf j9 #[.pointer a,b,vI c] w (Ret K):=ru func74 [(3000003,[(0,shB),(1,shB),(2,shB),(3,shB),(4,shB),(5,shB),(6,shB),(7,shB),(8,shB),(9,shB),(10,shB)]),(3000010,[(0,shB),(1,shB),(2,shB),(3,shB),(4,shB),(5,shB),(6,shB)])] h
theorem Mi (a:Value){w K}(h:nA w (.cells (Value.cells a) ah) λb c=>nA c (.cells IQ cq) λd e=>true/\∃f,Ld ak (vA b 0) e (vS f)/\true/\∃g,Ld ai (vA b 2) e g/\true/\∃i,Ld bF (vA b 20) e (.bool i)/\true/\∃j,Ld ak (vA b 21) e (vS j)/\∃k,(Instr.build cq #[(0,vS f),(1,g),(2,.bool i),(3,vS j)]).run prog e=.ok k e/\∃l,Sv cq (vA d 0) k e l/\∃m,Rv cq (vA d 0) l m/\K m l):Cf jg #[a] w (Ret K):=ru func128 [] h
theorem uJ (a:Option Addr)(b:Value){w K}(h:nA w (.cells (Value.cells b) ah) λc d=>(Option.isSome a=true)/\(Option.isSome a=true)/\∃e,(∀f,bW d f->Ld aC (Option.map (λg=>g.add 0) a) f (.map e))/\∃f,(∀g,bW d g->Ld ah (vA c 0) g f)/\∃g,(∀i,bW d i->Cf jg #[f] i λj k=>j=.returned g/\bW i k)/\∃i j,(∀k,bW d k->(Instr.lookup aC (.map e) g true).run prog k=.ok (.tuple #[i,.bool j]) k)/\∀k,d.heap.size <=k->∀l,bW d l->l.heap[k]? =some (.cells fL aI)->∃m,Sv aI (vA k 0) i l m/\af (!j) (K (.bool false) m) ((Option.isSome a=true)/\(Option.isSome a=true)/\∃n,(∀o,bW m o->Ld aC (Option.map (λp=>p.add 0) a) o (.map n))/\∃o,(∀p,bW m p->Ld ah (vA c 0) p o)/\∃p,(∀q,bW m q->Cf jg #[o] q λr s=>r=.returned p/\bW q s)/\∀q,bW m q->∃r,(Builtin.delete_ #[aC,cq] kF #[.map n,p]).run prog q=.ok (.tuple #[]) r/\(Option.isSome a=true)/\(Option.isSome a=true)/\true/\∃s,(∀t,bW r t->Ld br (Option.map (λu=>u.add 1) a) t (.map s))/\∃t,(∀u,bW r u->Ld ak (vA k 29) u (vS t))/\∃u,(∀v,bW r v->(Instr.lookup br (.map s) (vS t) false).run prog v=.ok (vI u) v)/\∀v,bW r v->∃x,(Instr.mapUpdate br (.map s) (vS t) (vI (i64.wrap (u-1)))).run prog v=.ok () x/\(Option.isSome a=true)/\(Option.isSome a=true)/\∃y,(∀z,bW x z->Ld br (Option.map (λA=>A.add 1) a) z (.map y))/\true/\∃z,(∀A,bW x A->Ld ak (vA k 29) A (vS z))/\∃A,(∀B,bW x B->(Instr.lookup br (.map y) (vS z) false).run prog B=.ok (vI A) B)/\∀B,bW x B->af (A==0) ((Option.isSome a=true)/\(Option.isSome a=true)/\true/\∃C,(∀D,bW B D->Ld br (Option.map (λE=>E.add 1) a) D (.map C))/\∃D,(∀E,bW B E->Ld ak (vA k 29) E (vS D))/\∀E,bW B E->∃F,(Builtin.delete_ #[br,ak] kF #[.map C,vS D]).run prog E=.ok (.tuple #[]) F/\K (.bool true) F) (K (.bool true) B))):Cf dZ #[.pointer a,b] w (Ret K):=ru func129 [(3000003,[(0,shB),(1,shB),(2,shB),(3,shB),(4,shB),(5,shB),(6,shB),(7,shB),(8,shB),(9,shB),(10,shB)]),(3000013,[(0,shB),(1,shB),(2,shB),(3,shB),(4,shB),(5,shB)]),(3000016,[(0,shB),(1,shB),(2,shB),(4,shB),(3,shB),(5,shB),(6,shB),(7,shB)]),(3000020,[(0,shB),(1,shB),(2,shB),(4,shB),(3,shB),(5,shB)])] h
theorem sJ (a:Option Addr)(b:lU){w K}(h:(Option.isSome a=true)/\(Option.isSome a=true)/\∃c,Ld br (Option.map (λd=>d.add 1) a) w (.map c)/\∃d,(Instr.lookup br (.map c) (vS b) false).run prog w=.ok (vI d) w/\K (vI d) w):Cf iS #[.pointer a,vS b] w (Ret K):=ru func130 [] h
theorem rf (a:Option Addr)(b:lU){w K}(h:nA w (.cells #[vS b] ak) λc d=>nA d (.cells bz ah) λe f=>Cf dA #[.pointer a,.func (.func cB) #[] #[.pointer (vA c 0)]] f λg i=>∃j k,g=rT #[j,.bool k]/\∃l,Sv ah (vA e 0) j i l/\∃m,Rv ah (vA e 0) l m/\K (.tuple #[m,.bool k]) l):Cf iy #[.pointer a,vS b] w (Ret K):=ru func131 [] h
theorem xm (a:Option Addr){w K}(h:(Option.isSome a=true)/\(Option.isSome a=true)/\∃b,Ld aC (Option.map (λc=>c.add 0) a) w (.map b)/\∃c,(Builtin.len_ #[aC] aU #[.map b]).run prog w=.ok (vI c) w/\K (vI c) w):Cf j7 #[.pointer a] w (Ret K):=ru func132 [] h
theorem mQ (a:Option Addr){w K}(h:nA w (.cells bz ah) λb c=>Cf dA #[.pointer a,.func (.func bL) #[] #[]] c λd e=>∃f g,d=rT #[f,.bool g]/\∃i,Sv ah (vA b 0) f e i/\∃j,Rv ah (vA b 0) i j/\K (.tuple #[j,.bool g]) i):Cf fi #[.pointer a] w (Ret K):=ru func133 [] h
theorem di (a:Option Nat){w K}(h:nA w (.cells #[.map a] aC) λb c=>K (.func (.func bT) #[] #[.pointer (vA b 0)]) c):Cf dv #[.map a] w (Ret K):=ru func135 [] h
theorem rc (a b:Value){w K}(h:nA w (.cells (Value.cells a) ah) λc d=>nA d (.cells (Value.cells b) ah) λe f=>true/\∃g,Ld aU (vA c 28) f (vI g)/\true/\∃i,Ld aU (vA e 28) f (vI i)/\K (vI (i64.wrap (g-i))) f):Cf ix #[a,b] w (Ret K):=ru func136 [] h
theorem oK (a:Value)(b:Option Addr){w K}(h:nA w (.cells (Value.cells a) aI) λc d=>true/\∃e,Ld ak (vA c 29) d (vS e)/\∃f,Ld ak b d (vS f)/\K (.bool (e==f)) d):Cf cB #[a,.pointer b] w (Ret K):=ru func200 [] h
theorem kL (a:Value){w K}(h:nA w (.cells (Value.cells a) aI) λb c=>K (.bool true) c):Cf bL #[a] w (Ret K):=ru func201 [] h
theorem fJ (a b:Option Addr){w K}(h:nA w (.cells bz ah) λc d=>nA d (.cells fL aI) λe f=>(Option.isSome a=true)/\(Option.isSome a=true)/\∃g,Ld aC (Option.map (λi=>i.add 0) a) f (.map g)/\∃i j,(Instr.range aC (.map g)).run prog f=.ok (.pointer j) i/\∃k:Nat->FP [shB],(∃l,k l false i)/\∀l m,aQ 42 (∀n,k l m n->((∃o,(Instr.next (.pointer j) false kF).run prog n=.ok (.tuple #[.bool false]) o/\true/\∃p,Ld ah (vA e 0) o p/\∃q,Sv ah (vA c 0) p o q/\∃r,Rv ah (vA c 0) q r/\K (.tuple #[r,.bool m]) q)\/(∃o p q,(Instr.next (.pointer j) false kF).run prog n=.ok (.tuple #[.bool true,p,q]) o/\∃r s,(Instr.entry (.pointer j)).run prog o=.ok (.tuple #[r,s]) o/\nA o (.cells fL aI) λt u=>∃v,Sv aI (vA t 0) s u v/\∃x:FP [shB],(af (!m) (x true v) (true/\true/\∃y,Ld bg (vA t 27) v (vI y)/\true/\true/\∃z,Ld bg (vA e 27) v (vI z)/\af (decide (y<z)) (x true v) (true/\true/\∃A,Ld bg (vA t 27) v (vI A)/\true/\true/\∃B,Ld bg (vA e 27) v (vI B)/\af (A==B) (true/\true/\∃C,Ld aU (vA t 28) v (vI C)/\true/\true/\∃D,Ld aU (vA e 28) v (vI D)/\x (decide (C<D)) v) (x false v))))/\∀y,aQ 29 (∀z,x y z->∃A:FP [shB],(∃B,Ld aI (vA t 0) z B/\uB cB #[B,.pointer b] z λC D=>af C (A y D) (A false D))/\∀B,aQ 5 (∀C,A B C->af B (∃D,Ld aI (vA t 0) C D/\∃E,Sv aI (vA e 0) D C E/\∃F:Nat,F<l/\k F true E) (∃D:Nat,D<l/\k D m C))))))):Cf dA #[.pointer a,.func (.func cB) #[] #[.pointer b]] w (Ret K):=ru func199 [(10,[(7,shB)]),(20,[(10,shB)]),(22,[(54,shB)])] h
theorem eT (a:Option Addr){w K}(h:nA w (.cells bz ah) λb c=>nA c (.cells fL aI) λd e=>(Option.isSome a=true)/\(Option.isSome a=true)/\∃f,Ld aC (Option.map (λg=>g.add 0) a) e (.map f)/\∃g i,(Instr.range aC (.map f)).run prog e=.ok (.pointer i) g/\∃j:Nat->FP [shB],(∃k,j k false g)/\∀k l,aQ 42 (∀m,j k l m->((∃n,(Instr.next (.pointer i) false kF).run prog m=.ok (.tuple #[.bool false]) n/\true/\∃o,Ld ah (vA d 0) n o/\∃p,Sv ah (vA b 0) o n p/\∃q,Rv ah (vA b 0) p q/\K (.tuple #[q,.bool l]) p)\/(∃n o p,(Instr.next (.pointer i) false kF).run prog m=.ok (.tuple #[.bool true,o,p]) n/\∃q r,(Instr.entry (.pointer i)).run prog n=.ok (.tuple #[q,r]) n/\nA n (.cells fL aI) λs t=>∃u,Sv aI (vA s 0) r t u/\∃v:FP [shB],(af (!l) (v true u) (true/\true/\∃x,Ld bg (vA s 27) u (vI x)/\true/\true/\∃y,Ld bg (vA d 27) u (vI y)/\af (decide (x<y)) (v true u) (true/\true/\∃z,Ld bg (vA s 27) u (vI z)/\true/\true/\∃A,Ld bg (vA d 27) u (vI A)/\af (z==A) (true/\true/\∃B,Ld aU (vA s 28) u (vI B)/\true/\true/\∃C,Ld aU (vA d 28) u (vI C)/\v (decide (B<C)) u) (v false u))))/\∀x,aQ 29 (∀y,v x y->∃z:FP [shB],(∃A,Ld aI (vA s 0) y A/\uB bL #[A] y λB C=>af B (z x C) (z false C))/\∀A,aQ 5 (∀B,z A B->af A (∃C,Ld aI (vA s 0) B C/\∃D,Sv aI (vA d 0) C B D/\∃E:Nat,E<k/\j E true D) (∃C:Nat,C<k/\j C l B))))))):Cf dA #[.pointer a,.func (.func bL) #[] #[]] w (Ret K):=ru func199 [(10,[(7,shB)]),(20,[(10,shB)]),(22,[(54,shB)])] h
theorem GN {f:FuncId}{args:Array Value}{v:Value}(h:Calls P f args u (Ret λq w'=>q=v/\bW u w')):Calls P f args u λe w'=>e=.returned v/\bW u w':=
 h.mono (by rintro e w' ⟨q,rfl,rfl,D⟩;exact⟨rfl,D⟩)
def ZY:Plc:=⟨[],gO,false,[],rfl⟩
theorem M2 (o:c.ok)(w:World):(Instr.build cq #[(0,vS c.name),(1,c.host.v),(2,.bool c.only),(3,vS c.path)]).run prog w=.ok (c.plc o).v w:=by
 obtain⟨H,val,⟨G,D,a⟩,only,I,M,E,same,q,e,O,seq⟩:=c;obtain⟨U,V,aj,al,an,ar,a0,a8,a9,bb,X,Y,Z,ac,ad,ag,rfl⟩:=fP a o;kernel_rfl
theorem PJ (k:Kpt)(w:World):(Instr.build aI #[(0,k.c.v),(1,vS k.site)]).run prog w=.ok k.v w:=by
 obtain⟨⟨H,val,⟨G,D,a⟩,only,I,M,E,same,q,e,O,seq⟩,s,o⟩:=k;obtain⟨U,V,aj,al,an,ar,a0,a8,a9,bb,X,Y,Z,ac,ad,ag,rfl⟩:=fP a o;kernel_rfl
theorem kh (o:c.ok)(w:World):Cf jg #[c.v] w (Ret λv w'=>v=(c.plc o).v/\bW w w'):=by
 apply Mi;intro M e X H Y q G I;have D:=(H▸ao w _:bW w e)
 have E:=(I▸ao e _:bW e q)
 have a1:au q M ah c.cells:=(au.new X H:au e M ah c.cells).below E;have a2:au q Y cq ZY.cells:=au.new G I;have O:=ae D E D.size;refine⟨rfl,_,a1.load1 ax rfl (i:=0) rfl,rfl,_,aR.load a1 (i:=2) (us:=c.host.cells) (Hst.len o) (λj V=>jp o V),rfl,_,a1.load1 bK rfl (i:=20) (bi o 0),rfl,_,a1.load1 ax rfl (i:=21) (bi o 1),_,M2 o q,?_⟩;exact VA.fin (Plc.len _) (Plc.one _) a2 (Plc.len _) O (by rw[G];exact D.size) λZ U=>⟨rfl,U⟩
structure SS (w0:World)(p ma ms:Nat)(M:List (Plc×Kpt))(S:List (lU×Int))(last:Int)(w:World):Prop where
 ch:Chg [p,ma,ms] w0 w
 cell:au w p aZ [.map (some ma),.map (some ms),vI last]
 mM:ux Plc.v Kpt.v w ma M
 mS:ux evS evN w ms S
 n1:p≠ma
 n2:p≠ms
 n3:ma≠ms
 l1:p<w0.heap.size
 l2:ma<w0.heap.size
 l3:ms<w0.heap.size
section
variable {w0 w:World} {p ma ms:Nat} {M:List (Plc×Kpt)} {S:List (List UInt8×Int)} {last:Int} {L:List Kpt}
theorem SS.of (h:Shf aZ p ma ms L last w):∃M S,SS w p ma ms M S last w/\AL M L/\Gq S L:=by
 obtain⟨E,G,H⟩:=h.lts;obtain⟨M,S,h1,e,q,D⟩:=h.ex;exact⟨M,S,⟨Chg.refl _ _,h.cell,h1,e,h.n1,h.n2,h.n3,E,G,H⟩,q,D⟩
theorem SS.shf (h:SS w0 p ma ms M S last w)(e:AL M L)(q:Gq S L)(D:ShI L last):Shf aZ p ma ms L last w:=⟨h.cell,⟨M,S,h.mM,h.mS,e,q⟩,D,h.n1,h.n2,h.n3⟩
theorem SS.below (h:SS w0 p ma ms M S last w){w':World}(e:bW w w'):SS w0 p ma ms M S last w':=
 ⟨h.ch.step e,h.cell.below e,h.mM.below e,h.mS.below e,h.n1,h.n2,h.n3,h.l1,h.l2,h.l3⟩
theorem SS.size (h:SS w0 p ma ms M S last w):w0.heap.size <=w.heap.size:=h.ch.size
theorem SS.put (h:SS w0 p ma ms M S last w){w':World}{r:Nat}(e:w.grownBy w' (some r))(q:w0.heap.size <=r):SS w0 p ma ms M S last w':=by
 have D:=h.l1;have E:=h.l2;have G:=h.l3;exact⟨h.ch.put e q,h.cell.grown e (bA (by omega)),h.mM.grown e (by omega),h.mS.grown e (by omega),h.n1,h.n2,h.n3,D,E,G⟩
theorem SS.arr {w':World}{k r:Nat}{vs:List Value}(e:au w k t vs)(D:w0.heap.size <=k)(q:w.grownBy w' (some r))(E:r<w0.heap.size):au w' k t vs:=e.grown q (bA (by omega))
theorem SS.upM (h:SS w0 p ma ms M S last w)(k:Plc)(v:Kpt):∃w',(Instr.mapUpdate aC (.map (some ma)) k.v v.v).run prog w=.ok () w'/\SS w0 p ma ms (upG k v M) S last w'/\w.grownBy w' (some ma):=by
 obtain⟨w',D,q,e⟩:=h.mM.up bt Eo Qq k v;exact⟨w',D,⟨h.ch.trans (Chg.grown e (by simp)),h.cell.grown e (bA h.n1),q,h.mS.grown e (Ne.symm h.n3),h.n1,h.n2,h.n3,h.l1,h.l2,h.l3⟩,e⟩
theorem SS.delM (h:SS w0 p ma ms M S last w)(k:Plc):∃w',(Builtin.delete_ #[aC,cq] kF #[.map (some ma),k.v]).run prog w=.ok (.tuple #[]) w'/\SS w0 p ma ms (TZ k M) S last w'/\w.grownBy w' (some ma):=by
 obtain⟨w',D,q,e⟩:=h.mM.del bt Eo k #[aC,cq] kF rfl;exact⟨w',D,⟨h.ch.trans (Chg.grown e (by simp)),h.cell.grown e (bA h.n1),q,h.mS.grown e (Ne.symm h.n3),h.n1,h.n2,h.n3,h.l1,h.l2,h.l3⟩,e⟩
theorem SS.upS (h:SS w0 p ma ms M S last w)(k:lU)(v:Int):∃w',(Instr.mapUpdate br (.map (some ms)) (vS k) (vI v)).run prog w=.ok () w'/\SS w0 p ma ms M (upG k v S) last w'/\w.grownBy w' (some ms):=by
 obtain⟨w',D,q,e⟩:=h.mS.up fI JD Vh k v;exact⟨w',D,⟨h.ch.trans (Chg.grown e (by simp)),h.cell.grown e (bA h.n2),h.mM.grown e h.n3,q,h.n1,h.n2,h.n3,h.l1,h.l2,h.l3⟩,e⟩
theorem SS.delS (h:SS w0 p ma ms M S last w)(k:lU):∃w',(Builtin.delete_ #[br,ak] kF #[.map (some ms),vS k]).run prog w=.ok (.tuple #[]) w'/\SS w0 p ma ms M (TZ k S) last w'/\w.grownBy w' (some ms):=by
 obtain⟨w',D,q,e⟩:=h.mS.del fI JD k #[br,ak] kF rfl;exact⟨w',D,⟨h.ch.trans (Chg.grown e (by simp)),h.cell.grown e (bA h.n2),h.mM.grown e h.n3,q,h.n1,h.n2,h.n3,h.l1,h.l2,h.l3⟩,e⟩
theorem SS.num (h:SS w0 p ma ms M S last w)(n:Int):∃w',(Instr.storeAt aU (.pointer (some ⟨p,2,none⟩)) (vI n)).run prog w=.ok () w'/\SS w0 p ma ms M S n w'/\w.grownBy w' (some p):=by
 obtain⟨w',D,q,e⟩:=h.cell.put fR (i:=2) (v:=vI n) (show 2<3 by decide) rfl rfl;exact⟨w',D,⟨h.ch.trans (Chg.grown e (by simp)),q,h.mM.grown e (Ne.symm h.n1),h.mS.grown e (Ne.symm h.n2),h.n1,h.n2,h.n3,h.l1,h.l2,h.l3⟩,e⟩
theorem vh (h:SS w0 p ma ms M S last w):(Instr.loadAt aC (.pointer (Option.map (λx:Addr=>x.add 0) (some (⟨p,0,none⟩:Addr))))).run prog w=.ok (.map (some ma)) w:=h.cell.load1 bt rfl (i:=0) rfl
theorem yF (h:SS w0 p ma ms M S last w):(Instr.loadAt br (.pointer (Option.map (λx:Addr=>x.add 1) (some (⟨p,0,none⟩:Addr))))).run prog w=.ok (.map (some ms)) w:=h.cell.load1 fI rfl (i:=1) rfl
theorem TA (h:SS w0 p ma ms M S last w):(Instr.loadAt aU (.pointer (Option.map (λx:Addr=>x.add 2) (some (⟨p,0,none⟩:Addr))))).run prog w=.ok (vI last) w:=h.cell.load1 bC rfl (i:=2) rfl
theorem NY (h:SS w0 p ma ms M S last w)(e:AL M L)(q:ShI L last)(k:Plc):(Instr.lookup aC (.map (some ma)) k.v true).run prog w=.ok (.tuple #[((atK L k).getD ky).v,.bool (atK L k).isSome]) w:=by
 have:=h.mM.g.look2 bt Eo yL k;rw[e.look q k]at this;rw[this];cases atK L k<;>rfl
theorem Tz (h:SS w0 p ma ms M S last w)(e:Gq S L)(s:lU):(Instr.lookup br (.map (some ms)) (vS s) false).run prog w=.ok (vI ((jm L s:Nat):Int)) w:=by
 have:=h.mS.g.look1 fI JD fR s;rw[<- e.val s];rw[show(vS s)=evS s from rfl,this];cases dI s S<;>rfl
theorem YL (h:SS w0 p ma ms M S last w)(s:lU):(Instr.lookup br (.map (some ms)) (vS s) false).run prog w=.ok (vI ((dI s S).getD 0)) w:=by
 have:=h.mS.g.look1 fI JD fR s;rw[show(vS s)=evS s from rfl,this];cases dI s S<;>rfl
end
theorem Yc (L:List Kpt)(s:lU)(h:L.length <=4611686018427387904):((jm L s:Nat):Int) <=4611686018427387904:=by
 have:jm L s <=L.length:=List.countP_le_length;omega
def ZN (w:World)(v:Value)(w':World):Prop:=∃p ma ms,v=.pointer (some ⟨p,0,none⟩)/\Shf aZ p ma ms [] 0 w'/\w.heap.size <=p/\w.heap.size <=ma/\w.heap.size <=ms/\bW w w'
theorem Bb (w:World):Cf qk #[] w (Ret (ZN w)):=by
 apply Ky;intro O e Y H U q Z I ad al ac M;have D:=(H▸ao w _:bW w e)
 have E:=(I▸ao e _:bW e q)
 have G:=(M▸ao q _:bW q al)
 have V:ux Plc.v Kpt.v e O []:=ux.new Y H;have X:ux evS evN q U []:=ux.new Z I;have an:=V.lt;have ar:=X.lt;have aj:=E.size;have ag:=D.size;exact⟨ad,O,U,rfl,⟨au.new ac M,⟨[],[],(V.below E).below G,X.below G,AL.nil,Gq.nil⟩,ShI.nil,by omega,by omega,by omega⟩,by omega,by omega,by omega,ae (ae D E D.size) G (Nat.le_trans ag aj)⟩
theorem Mm {p H I:Nat}(h:Shf aZ p H I L a w):Cf j7 #[.pointer (some ⟨p,0,none⟩)] w (Ret λv w'=>v=vI ((L.length:Nat):Int)/\w'=w):=by
 obtain⟨M,S,s,q,U⟩:=SS.of h;apply xm;refine⟨rfl,rfl,_,vh s,((L.length:Nat):Int),?_,rfl,rfl⟩;obtain⟨O,c,D,E,_⟩:=s.mM;have G:=Nw E;have e:=q.perm.length_eq;rw[length_map]at e;rw[<- e,<- G];simp[Builtin.len_,bQ bt,qo D,goInt]
theorem HQ {p q D:Nat}(h:Shf aZ p q D L a w)(t:lU):Cf iS #[.pointer (some ⟨p,0,none⟩),vS t] w (Ret λv w'=>v=vI ((jm L t:Nat):Int)/\w'=w):=by
 obtain⟨E,S,s,G,e⟩:=SS.of h;apply sJ;exact⟨rfl,rfl,_,yF s,_,Tz s e t,rfl,rfl⟩
theorem xQ {p:Plc}(h:atK L p=none):eR L p=L:=by
 unfold eR;exact List.filter_eq_self.2 λk e=>by simpa using py h k e
theorem Px {p:Plc}(h:atK L p=none):H1 L p a=L:=by
 unfold H1;have:(L.map λk=>if k.plc=p then(⟨{ k.c with used:=a },k.site,k.ok⟩:Kpt)else k)=L.map λk=>k:=List.map_congr_left λk e=>by
  rw[if_neg (py h k e)]
 rw[this];simp
def AG (x:Kpt)(now:Int):Kpt:=⟨{ x.c with used:=now },x.site,x.ok⟩
theorem Vv (s:ShI L a){p:Plc}{x:Kpt}(h:atK L p=some x)(e:Int):H1 L p e=L.map λy=>if y.plc=(AG x e).plc then AG x e else y:=by
 obtain⟨E,q⟩:=lD h;have D:(AG x e).plc=p:=q;rw[D];unfold H1;exact List.map_congr_left λy G=>by
  by_cases c:y.plc=p
  ·rw[if_pos c,if_pos c,s.one G E (c.trans q.symm)];rfl
  ·rw[if_neg c,if_neg c]
theorem Wx (L:List Kpt)(p:Plc)(e:Int)(s:lU):jm (H1 L p e) s=jm L s:=by
 unfold jm H1;rw[List.countP_map];exact List.countP_congr λk _=>by
  show decide _=true↔_;simp only[Function.comp_apply,dTx];split<;>rfl
theorem ns (o:c.ok)(j:Nat)(v:Value):c.cells.set (20+j) v=vS c.name::vS c.value::(c.host.cells++c.tail.set j v):=by
 unfold Cky.cells;rw[show 20+j=(18+j)+1+1 by omega,List.set_cons_succ,List.set_cons_succ,List.set_append_right _ _ (by rw[Hst.len o];omega),Hst.len o];congr 4;omega
theorem Sk {k:Kpt}(h:j<29)(v:Value):k.cells.set j v=k.c.cells.set j v++[vS k.site]:=by
 unfold Kpt.cells;rw[List.set_append_left _ _ (by rw[Cky.len k.ok];exact h)]
def XY (p ma ms:Nat)(L:List Kpt)(last:Int)(pl:Plc)(w:World)(v:Value)(w':World):Prop:=v=.bool (atK L pl).isSome/\Shf aZ p ma ms (eR L pl) last w'/\Chg [p,ma,ms] w w'
theorem mf {p M D:Nat}(h:Shf aZ p M D L a w)(ca:L.length <=4611686018427387904)(o:c.ok):
 Cf dZ #[.pointer (some ⟨p,0,none⟩),c.v] w (Ret (XY p M D L a (c.plc o) w)):=by
 obtain⟨b1,S,s,H,I⟩:=SS.of h;have q:=h.inv;apply uJ;intro k3 bq b8 bj;have an:=(bj▸ao w _:bW w bq)
 have a3:au bq k3 ah c.cells:=au.new b8 bj;have ac:=s.below an;refine⟨rfl,rfl,some M,λu e=>vh (ac.below e),c.v,λu e=>aN.load0 (a3.below e) (Cky.len o),(c.plc o).v,λu e=>GN (kh o u),_,_,λu e=>NY (ac.below e) H q _,?_⟩;intro k5 b9 cr a8 ck;have a5:au cr k5 aI ky.cells:=ck;have cp:=ac.below a8;have a4:=a3.below a8;obtain⟨aj,ce,E,ar⟩:=iA.store0 (Kpt.len ((atK L (c.plc o)).getD ky)) (Kpt.one _) a5 (Kpt.len _);refine⟨aj,ce,?_⟩;have Z:w.heap.size <=k5:=Nat.le_trans an.size b9;have c0:w.heap.size <=k3:=by omega
 have O:=cp.put ar Z;have b2:au aj k3 ah c.cells:=a4.grown ar (bA (by have:=a3.lt;omega));have cl:=s.l2;have cn:=s.l3;unfold XY;cases X:atK L (c.plc o)with
 |none=>
  refine af.yes rfl ⟨rfl,?_,O.ch⟩;rw[xQ X];exact O.shf H I q
 |some x=>
  rw[X]at E;have E:au aj k5 aI x.cells:=E;refine af.no rfl ?_;refine⟨rfl,rfl,some M,λu e=>vh (O.below e),c.v,λu e=>aN.load0 (b2.below e) (Cky.len o),(c.plc o).v,λu e=>GN (kh o u),?_⟩;intro c1 a9;obtain⟨bs,b4,ad,b6⟩:=(O.below a9).delM (c.plc o);have a6:au bs k5 aI x.cells:=SS.arr (E.below a9) Z b6 cl;refine⟨bs,b4,rfl,rfl,rfl,some D,λu e=>yF (ad.below e),x.site,λu e=>(a6.below e).load1 ax rfl (i:=29) (uk x),((jm L x.site:Nat):Int),λu e=>Tz (ad.below e) I _,?_⟩;have Y:=Ul q X;have cb:=Y x.site;rw[if_pos rfl]at cb;have cu:=Yc L x.site ca;have cj:i64.wrap (((jm L x.site:Nat):Int)-1)=((jm L x.site:Nat):Int)-1:=wrJ;intro c2 bb;obtain⟨b0,cf,ag,b7⟩:=(ad.below bb).upS x.site (((jm L x.site:Nat):Int)-1);have a7:au b0 k5 aI x.cells:=SS.arr (a6.below bb) Z b7 cn;rw[cj];refine⟨b0,cf,rfl,rfl,some D,λu e=>yF (ag.below e),rfl,x.site,λu e=>(a7.below e).load1 ax rfl (i:=29) (uk x),((jm L x.site:Nat):Int)-1,λu e=>?_,?_⟩
  ·rw[YL (ag.below e),Dc,if_pos rfl];rfl
  intro c3 bc;have U:=ag.below bc;have b3:=a7.below bc;have al:AL (TZ (c.plc o) b1) (eR L (c.plc o)):=by rw[wH (H.nodup q)];exact H.drop _
  have a0:ShI (eR L (c.plc o)) a:=q.filter _;refine af.of (λG=>?_) (λG=>?_)
  ·have V:jm (eR L (c.plc o)) x.site=0:=by
    have:=eq_of_beq G;omega
   refine⟨rfl,rfl,rfl,some D,λu e=>yF (U.below e),x.site,λu e=>(b3.below e).load1 ax rfl (i:=29) (uk x),?_⟩;intro c4 cc;obtain⟨ct,b5,bk,_⟩:=(U.below cc).delS x.site;exact⟨ct,b5,rfl,bk.shf al (I.last Y V _) a0,bk.ch⟩
  ·have V:jm (eR L (c.plc o)) x.site≠0:=by
    have: ¬ (((jm L x.site:Nat):Int)-1=0):=λx=>by rw[x]at G;cases G
    omega
   exact⟨rfl,U.shf al (I.dec Y V) a0,U.ch⟩
def ZD (p ma ms:Nat)(L:List Kpt)(last:Int)(pl:Plc)(now:Int)(w:World)(v:Value)(w':World):Prop:=v=.bool (atK L pl).isSome/\Shf aZ p ma ms (H1 L pl now) last w'/\Chg [p,ma,ms] w w'
theorem Mo {p H ar:Nat}(h:Shf aZ p H ar L a w)(o:c.ok)(q:Int):
 Cf j9 #[.pointer (some ⟨p,0,none⟩),c.v,vI q] w (Ret (ZD p H ar L a (c.plc o) q w)):=by
 obtain⟨b9,S,s,M,Z⟩:=SS.of h;have E:=h.inv;apply xr;intro k3 bb bq an;have ac:=(an▸ao w _:bW w bb)
 have a3:au bb k3 ah c.cells:=au.new bq an;have U:=s.below ac;refine⟨rfl,rfl,some H,λu e=>vh (U.below e),c.v,λu e=>aN.load0 (a3.below e) (Cky.len o),(c.plc o).v,λu e=>GN (kh o u),_,_,λu e=>NY (U.below e) M E _,?_⟩;intro k5 bs b6 al b4;have a5:au b6 k5 aI ky.cells:=b4;have b5:=U.below al;have a4:=a3.below al;obtain⟨X,b2,G,ad⟩:=iA.store0 (Kpt.len ((atK L (c.plc o)).getD ky)) (Kpt.one _) a5 (Kpt.len _);refine⟨X,b2,?_⟩;have aj:w.heap.size <=k5:=Nat.le_trans ac.size bs;have cb:w.heap.size <=k3:=by omega
 have V:=b5.put ad aj;have a0:k3≠k5:=by have:=a3.lt;omega
 have bc:au X k3 ah c.cells:=a4.grown ad (bA a0);unfold ZD;cases D:atK L (c.plc o)with
 |none=>
  refine af.no rfl ⟨rfl,?_,V.ch⟩;rw[Px D];exact V.shf M Z E
 |some x=>
  rw[D]at G;have G:au X k5 aI x.cells:=G;refine af.yes rfl ?_;obtain⟨b7,b0,a6,ag⟩:=G.put iO (i:=27) (v:=vI q) (by rw[Kpt.len];decide) rfl rfl;have a8:=V.put ag aj;have bj:=bc.grown ag (bA a0);have bk:x.cells.set 27 (vI q)=(AG x q).cells:=by
   rw[Sk (by decide),show(27:Nat)=20+7 from rfl,ns x.ok];rfl
  rw[bk]at a6;refine⟨rfl,rfl,b7,b0,rfl,rfl,some H,λu e=>vh (a8.below e),c.v,λu e=>aN.load0 (bj.below e) (Cky.len o),(c.plc o).v,λu e=>GN (kh o u),(AG x q).v,λu e=>iA.load0 (a6.below e) (Kpt.len _),?_⟩;intro cc b1;have I:(AG x q).plc=c.plc o:=(lD D).2;obtain⟨b8,b3,a9,ca⟩:=(a8.below b1).upM (c.plc o) (AG x q);refine⟨b8,b3,rfl,?_,a9.ch⟩;have O:=M.over E (k:=AG x q) (o:=x) (by rw[I];exact D);rw[I]at O;have Y:=Vv E D q;rw[I]at Y;rw[<- Y]at O;exact a9.shf O (Z.perm λt=>Wx L _ q t) (E.use _ _)
theorem ShI.up_to {last last':Int}(h:ShI L last)(q:last <=last'):ShI L last':=
 ⟨h.up,λk e=>⟨(h.lo k e).1,by have:=(h.lo k e).2;omega⟩,h.key,by have:=h.l0;omega⟩
theorem AL.perm' {e:List (Plc×Kpt)}(h:AL e L)(q:L.Perm M):AL e M:=⟨h.perm.trans q,h.own⟩
theorem Uc (L:List Kpt)(p:Plc):atK (eR L p) p=none:=by
 unfold atK eR;rw[List.find?_eq_none];intro k e;simpa using(List.mem_filter.1 e).2
theorem LS {last:Int}(s:ShI L last){p:Plc}{x k:Kpt}(h:atK L p=some x):(eR L p++[k]).Perm (L.map λy=>if y.plc=p then k else y):=by
 obtain⟨q,O⟩:=lD h;clear h;revert s q;induction L with
 |nil=>intro _ q;cases q
 |cons a L V=>
  intro s q;have I:=(List.pairwise_cons.1 s.key).1;have X:ShI L last:=⟨(List.pairwise_cons.1 s.up).2,λk M=>s.lo k (mem_cons_of_mem _ M),(List.pairwise_cons.1 s.key).2,s.l0⟩
  by_cases e:a.plc=p
  ·have G:∀y∈L,y.plc≠p:=λy D c=>I y D (e.trans c.symm);have E:eR (a::L) p=L:=by
    unfold eR;rw[filter_cons,if_neg (by simp[e])];exact List.filter_eq_self.2 λy D=>by simpa using G y D
   have H:(L.map λy=>if y.plc=p then k else y)=L:=by
    have:(L.map λy=>if y.plc=p then k else y)=L.map λy=>y:=List.map_congr_left λy D=>by rw[if_neg (G y D)]
    rw[this];simp
   rw[E,map_cons,if_pos e,H];exact List.perm_append_singleton k L
  ·have U:x∈L:=by
    rcases List.mem_cons.1 q with c|c
    ·exact absurd (c▸O) e
    ·exact c
   have E:eR (a::L) p=a::eR L p:=by
    unfold eR;rw[filter_cons,if_pos (by simpa using e)]
   rw[E,map_cons,if_neg e,cons_append];exact(V X U).cons a
theorem Um (h:L.Perm M)(s:lU):jm L s=jm M s:=h.countP_eq _
def Ci (L:List Kpt)(last:Int)(c:Kpt):Kpt:=match atK L c.plc with
 |some o=>⟨{ c.c with born:=o.c.born,seq:=o.c.seq },c.site,c.ok⟩
 |none=>⟨{ c.c with seq:=last+1 },c.site,c.ok⟩
theorem Ve (s:ShI L a)(c:Kpt):(eR L c.plc++[Ci L a c]).Perm (rb L a c).1:=by
 unfold Ci rb;cases h:atK L c.plc with
 |none=>rw[xQ h]
 |some x=>exact LS s h
theorem Vd (L:List Kpt)(last:Int)(c:Kpt):(Ci L last c).plc=c.plc:=by
 unfold Ci;split<;>rfl
def ZC (p ma ms:Nat)(L:List Kpt)(last:Int)(c:Kpt)(w:World)(v:Value)(w':World):Prop:=v=.bool (atK L c.plc).isSome/\Shf aZ p ma ms (rb L last c).1 (rb L last c).2 w'/\Chg [p,ma,ms] w w'
theorem Mn {p q D:Nat}(h:Shf aZ p q D L a w)(dc:L.length <=4611686018427387904)(d5:a <=4611686018427387904)(c:Kpt):
 Cf j8 #[.pointer (some ⟨p,0,none⟩),c.c.v,vS c.site] w (Ret (ZC p q D L a c w)):=by
 obtain⟨dx,S,s,b1,cb⟩:=SS.of h;have U:=h.inv;have o:=c.ok;apply xq;intro k3 c1 c9 cn;have ce:=(cn▸ao w _:bW w c1)
 have a3:au c1 k3 ah c.c.cells:=au.new c9 cn;have b5:=s.below ce;refine⟨rfl,rfl,some q,λu e=>vh (b5.below e),c.c.v,λu e=>aN.load0 (a3.below e) (Cky.len o),c.plc.v,λu e=>GN (kh o u),_,_,λu e=>NY (b5.below e) b1 U _,?_⟩;intro k5 da dw cl dl;have a5:au dw k5 aI ky.cells:=dl;have dp:=b5.below cl;have a4:=a3.below cl;obtain⟨wx,dk,ad,cf⟩:=iA.store0 (Kpt.len ((atK L c.plc).getD ky)) (Kpt.one _) a5 (Kpt.len _);refine⟨wx,dk,?_⟩;have cj:w.heap.size <=k5:=Nat.le_trans ce.size da;have G:w.heap.size <=k3:=by omega
 have an:=dp.put cf cj;have cp:k3≠k5:=by have:=a3.lt;omega
 have a8:au wx k3 ah c.c.cells:=a4.grown cf (bA cp);have dn:=s.l1;refine eC (λar=>∃X,au ar k3 ah (Ci L a c).c.cells/\Shf aZ p q D (eR L c.plc) X ar/\Chg [p,q,D] w ar/\X=(rb L a c).2) ?_ ?_
 ·cases O:atK L c.plc with
  |some x=>
   rw[O]at ad;have ad:au wx k5 aI x.cells:=ad;have b3:Shf aZ p q D L a wx:=an.shf b1 cb U;refine af.yes rfl ⟨c.c.v,aN.load0 a8 (Cky.len o),?_⟩;refine aA (mf b3 dc o) ?_;rintro _ c0 ⟨rfl,dg,b2⟩;have c4:=an.ch.trans b2;have V:∀k,w.heap.size <=k->k∉[p,q,D]:=λk d4 dd=>by
    have d6:=s.l1;have d7:=s.l2;have d8:=s.l3;simp only[List.mem_cons,List.not_mem_nil,or_false]at dd;omega
   have a9:=b2.arr a8 (V _ G);have c2:=b2.arr ad (V _ cj);have b0:Ci L a c=⟨{ c.c with born:=x.c.born,seq:=x.c.seq },c.site,c.ok⟩:=by unfold Ci;rw[O]
   have Z:(rb L a c).2=a:=by unfold rb;rw[O]
   have c5:x.cells[26]? =some (vI x.c.born):=(ni x (by decide)).trans (bi x.ok 6);have b9:x.cells[28]? =some (vI x.c.seq):=(ni x (by decide)).trans (bi x.ok 8);have ds:∀Y,au Y k3 ah c.c.cells->au Y k5 aI x.cells->Shf aZ p q D (eR L c.plc) a Y->Chg [p,q,D] w Y->
    ∃M,(Instr.storeAt bg (.pointer (some ⟨k3,26,none⟩)) (vI x.c.born)).run prog Y=.ok () M/\(au M k5 aI x.cells)/\
    ∃wc,(Instr.storeAt aU (.pointer (some ⟨k3,28,none⟩)) (vI x.c.seq)).run prog M=.ok () wc/\
     au wc k3 ah (Ci L a c).c.cells/\Shf aZ p q D (eR L c.plc) a wc/\Chg [p,q,D] w wc:=by
    intro Y E bc bk bj;obtain⟨M,H,c3,ac⟩:=E.put iO (i:=26) (v:=vI x.c.born) (by rw[Cky.len o];decide) rfl rfl;obtain⟨wc,I,b8,aj⟩:=c3.put fR (i:=28) (v:=vI x.c.seq) (by rw[List.length_set,Cky.len o];decide) rfl rfl;refine⟨M,H,bc.grown ac (bA (Ne.symm cp)),wc,I,?_,(bk.put ac (V _ G)).put aj (V _ G),(bj.put ac G).put aj G⟩;have bq:(c.c.cells.set 26 (vI x.c.born)).set 28 (vI x.c.seq)=(Ci L a c).c.cells:=by
     rw[b0,show(26:Nat)=20+6 from rfl,ns o];have:=ns (c:= { c.c with born:=x.c.born }) o 8 (vI x.c.seq);exact this
    rw[bq]at b8;exact b8
   refine⟨_,rfl,?_⟩;have ag:=cy c0;have bb:=c2.below ag;obtain⟨M,H,bc,wc,I,E,bk,bj⟩:=ds (drew c0) (a9.below ag) bb (dg.below ag) (c4.step ag);have c6:∃X,au wc k3 ah (Ci L a c).c.cells/\Shf aZ p q D (eR L c.plc) X wc/\Chg [p,q,D] w wc/\X=(rb L a c).2:=⟨a,E,bk,bj,Z.symm⟩
   repeat' (first
    |exact c6
    |exact rfl
    |refine And.intro ?_ ?_
    |refine⟨_,bb.load1 bB rfl (i:=26) c5,?_⟩
    |refine⟨_,bb.load1 bC rfl (i:=28) b9,?_⟩
    |refine⟨_,bc.load1 bC rfl (i:=28) b9,?_⟩
    |refine⟨M,H,?_⟩
    |refine⟨wc,I,?_⟩)
  |none=>
   have b0:Ci L a c=⟨{ c.c with seq:=a+1 },c.site,c.ok⟩:=by unfold Ci;rw[O]
   have Z:(rb L a c).2=a+1:=by unfold rb;rw[O]
   have d2:=U.l0;have b4:i64.wrap (a+1)=a+1:=wrJ;obtain⟨a0,H,cr,ac⟩:=an.num (a+1);have a9:au a0 k3 ah c.c.cells:=SS.arr a8 G ac dn;obtain⟨b7,I,E,aj⟩:=a9.put fR (i:=28) (v:=vI (a+1)) (by rw[Cky.len o];decide) rfl rfl;have ct:=cr.put aj G;have bq:c.c.cells.set 28 (vI (a+1))=(Ci L a c).c.cells:=by
    rw[b0,show(28:Nat)=20+8 from rfl,ns o];rfl
   rw[bq]at E;refine af.no rfl ⟨rfl,rfl,_,TA an,rfl,rfl,a0,by rw[b4];exact H,rfl,rfl,_,TA cr,rfl,b7,I,a+1,E,?_,ct.ch,Z.symm⟩;rw[xQ O];exact ct.shf b1 cb (U.up_to (by omega))
 ·rintro ar ⟨X,E,b3,c8,Z⟩;obtain⟨d0,d1,t,c7,cc⟩:=SS.of b3;have al:=(Ci L a c).ok;have bs:=Vd L a c;refine⟨rfl,rfl,some q,λu e=>vh (t.below e),(Ci L a c).c.v,λu e=>aN.load0 (E.below e) (Cky.len al),c.plc.v,λu e=>?_,(Ci L a c).c.v,λu e=>aN.load0 (E.below e) (Cky.len al),(Ci L a c).v,λu e=>?_,?_⟩
  ·have:=GN (kh al u);rw[show(Ci L a c).c.plc al=c.plc from bs]at this;exact this
  ·have:=PJ (Ci L a c) u;rw[show(Ci L a c).site=c.site by unfold Ci;split<;>rfl]at this;exact this
  intro d9 de;have dr:=t.below de;obtain⟨a0,H,b6,_⟩:=dr.upM c.plc (Ci L a c);have V:atK (eR L c.plc) (Ci L a c).plc=none:=by rw[bs];exact Uc L _
  have ca:=c7.new V;rw[bs]at ca;have d3:jm (eR L c.plc) c.site <=L.length:=Nat.le_trans List.countP_le_length (List.length_filter_le ..);have b4:i64.wrap (((jm (eR L c.plc) c.site:Nat):Int)+1)=((jm (eR L c.plc) c.site:Nat):Int)+1:=wrJ;obtain⟨b7,I,cu,_⟩:=b6.upS c.site (((jm (eR L c.plc) c.site:Nat):Int)+1);refine⟨a0,H,rfl,rfl,some D,yF b6,_,Tz b6 cc _,b7,by rw[b4];exact I,rfl,?_,c8.trans cu.ch⟩;have ck:=Ve U c;subst Z;refine cu.shf (ca.perm' ck) (cc.inc λs=>?_) (U.put c);rw[<- Um ck,Ww];rw[show(Ci L a c).site=c.site by unfold Ci;split<;>rfl]
theorem jS {P:Program}{w0 w w':World}(h:bW w0 w){o:Obj}(q:k=w.heap.size)(D:w'=w.alloc o):bW w w'/\bW w0 w'/\w0.heap.size <=k:=by
 have e:=(D▸ao w _:bW w w')
 exact⟨e,ae h e h.size,by rw[q];exact h.size⟩
structure ZA (tk tc:TypeId)(w:World)(ma k4 k6 r:Nat)(M:List (Plc×Kpt))(of:Kpt->Bool)(seen:List Kpt)(left:List (Plc×Kpt))(o:Option Kpt)(m:Nat)(b:Bool)(w':World):Prop where
 hb:bW w w'
 rng:gC Plc.v Kpt.v w' r ma M left
 hp:(M.map (·.2)).Perm (seen++left.map (·.2))
 fst:uw of seen o
 kb:au w' k6 tk (o.getD ky).cells
 kc:au w' k4 tc mq.cells
 eb:b=o.isSome
 em:m=left.length
def X0 (L:List Kpt)(of:Kpt->Bool)(w:World)(v:Value)(w':World):Prop:=v=.tuple #[((O2 L of).getD ky).c.v,.bool (O2 L of).isSome]/\bW w w'
theorem LP {t:lU}(G:au w n ak [vS t])(k:Kpt):Cf cB #[k.v,.pointer (some ⟨n,0,none⟩)] w (Ret λv w'=>v=.bool (decide (k.site=t))/\bW w w'):=by
 apply oK;intro H D E q;have e:=(q▸ao w _:bW w D)
 have a2:au D H aI k.cells:=au.new E q;refine⟨rfl,_,a2.load1 ax rfl (i:=29) (uk k),_,(G.below e).load1 ax rfl (i:=0) rfl,?_,e⟩;congr 1;rw[Bool.eq_iff_iff];simp
theorem LQ (k:Kpt):Cf bL #[k.v] w (Ret λv w'=>v=.bool true/\bW w w'):=by
 apply kL;intro E q D e;exact⟨rfl,(e▸ao w _:bW w q)⟩
theorem HR {p ma c6:Nat}(h:Shf aZ p ma c6 L a w){t:lU}(ct:au w n ak [vS t]):
 Cf dA #[.pointer (some ⟨p,0,none⟩),.func (.func cB) #[] #[.pointer (some ⟨n,0,none⟩)]] w (Ret (X0 L (λk=>decide (k.site=t)) w)):=by
 obtain⟨ac,S,s,ck,d0⟩:=SS.of h;have bb:=h.inv;apply fJ;intro O dp bc b1 k6 D bj b2;obtain⟨ca,b7,c2⟩:=jS (P:=prog) (Below.refl w.heap.size w) bc b1;obtain⟨ag,Z,c3⟩:=jS (P:=prog) b7 bj b2;have a4:au dp O ah mq.cells:=au.new bc b1;have a6:au D k6 aI ky.cells:=au.new bj b2;have c7:O≠k6:=by have:=a4.lt;omega
 have an:=(s.below ca).below ag;refine⟨rfl,rfl,some ma,vh an,?_⟩;obtain⟨dn,cu,dk,ad⟩:=yp bt an.mM (P:=prog);have c5:w.heap.size <=D.heap.size:=Z.size;have dc:D.heap.size≠ma:=by have:=an.mM.lt;omega
 have b4:O≠D.heap.size:=by have:=(a4.below ag).lt;omega
 have al:k6≠D.heap.size:=by have:=a6.lt;omega
 refine⟨dn,_,cu,λm b w'=>∃seen left o,ZA aI ah w ma O k6 D.heap.size ac (λk=>decide (k.site=t)) seen left o m b w',
  ⟨_,[],ac,none,ae Z ad Z.size,dk,by simp,(λk cp=>by cases cp),a6.below ad,(a4.below ag).below ad,rfl,rfl⟩,?_⟩
 intro m b;refine aQ.of ?_ _;rintro ds ⟨seen,left,o,e⟩;rcases e.rng.step dc kF (P:=prog)with⟨rfl,hn⟩|⟨l1,kk,x,l2,w16,rfl,hn,rng2,hen,hg⟩
 ·refine .inl ⟨ds,hn,rfl,(o.getD ky).c.v,aN.load e.kb (i:=0) (us:=(o.getD ky).c.cells) (Cky.len (o.getD ky).ok) (λj cn=>by rw[Nat.zero_add];exact ni _ cn),?_⟩;have cr:o=O2 L (λk=>decide (k.site=t)):=by
   have bs:=e.hp;rw[map_nil,append_nil]at bs;exact uw.one bb (e.fst.perm (bs.symm.trans ck.perm)) (um bb)
  refine aN.fin (Cky.len (o.getD ky).ok) (Cky.one _) e.kc (Cky.len (by rfl)) e.hb c2 λU cl=>⟨?_,cl⟩
  rw[e.eb,cr];rfl
 ·refine .inr ⟨w16,kk.v,x.v,hn,kk.v,x.v,hen,?_⟩;intro k9 dr bk b3;have B16:=Below.put e.hb hg c5;obtain⟨H,b8,c4⟩:=jS (P:=prog) B16 bk b3;have cb:=(e.kc.grown hg (bA b4)).below H;have cc:=(e.kb.grown hg (bA al)).below H;have b9:au dr k9 aI ky.cells:=au.new bk b3;obtain⟨U,c0,G,M⟩:=iA.store0 (Kpt.len x) (Kpt.one _) b9 (Kpt.len _);have B9x:=Below.put b8 M c4;have c8:O≠k9:=by have:=(e.kc.grown hg (bA b4)).lt;omega
  have c9:k6≠k9:=by have:=(e.kb.grown hg (bA al)).lt;omega
  have dd:D.heap.size≠k9:=by have:=rng2.lt;omega
  have da:ma≠k9:=by have:=s.l2;omega
  have ce:=cb.grown M (bA c8);have E:=cc.grown M (bA c9);have dl:=(rng2.below H).keep (M.block _ (rng2.below H).lt (bA dd)) (M.block _ (rng2.below H).map.lt (bA da));refine⟨U,c0,?_⟩;have b6:x.cells[27]? =some (vI x.c.used):=(ni x (by decide)).trans (bi x.ok 7);have dg:x.cells[28]? =some (vI x.c.seq):=(ni x (by decide)).trans (bi x.ok 8);refine gS (w:=U) (lZ o x) ?_ ?_
  ·cases o with
   |none=>rw[e.eb];exact af.yes rfl ⟨rfl,rfl⟩
   |some y=>
    have E:au U k6 aI y.cells:=E;have b5:y.cells[27]? =some (vI y.c.used):=(ni y (by decide)).trans (bi y.ok 7);have de:y.cells[28]? =some (vI y.c.seq):=(ni y (by decide)).trans (bi y.ok 8);rw[e.eb];refine af.no rfl ⟨rfl,rfl,_,G.load1 bB rfl (i:=27) b6,rfl,rfl,_,E.load1 bB rfl (i:=27) b5,?_⟩;refine af.of (λq=>⟨rfl,?_⟩) (λq=>?_)
    ·have:x.c.used<y.c.used:=by simpa using q
     simp[lZ,this]
    ·have cf: ¬ x.c.used<y.c.used:=by simpa using q
     refine⟨rfl,rfl,_,G.load1 bB rfl (i:=27) b6,rfl,rfl,_,E.load1 bB rfl (i:=27) b5,?_⟩;refine af.of (λq=>?_) (λq=>⟨rfl,?_⟩)
     ·have aj:x.c.used=y.c.used:=by simpa using q
      refine⟨rfl,rfl,_,G.load1 bC rfl (i:=28) dg,rfl,rfl,_,E.load1 bC rfl (i:=28) de,rfl,?_⟩;simp[lZ,aj]
     ·have aj: ¬ x.c.used=y.c.used:=by simpa using q
      simp[lZ,cf,aj]
  ·refine rv (λb w'=>b=(decide (x.site=t)&&lZ o x)/\bW U w') ?_ ?_
   ·refine⟨x.v,iA.load0 G (Kpt.len x),?_⟩;refine aA (LP (ct.below B9x) x) ?_;rintro _ d1 ⟨rfl,a9⟩;refine⟨_,rfl,af.of (λq=>⟨?_,a9⟩) (λq=>⟨?_,a9⟩)⟩
    ·rw[q,Bool.true_and]
    ·rw[q,Bool.false_and]
   ·rintro dx d2 ⟨rfl,I⟩;have ar:=ae B9x I B9x.size;have a8:=E.below I;have a0:=ce.below I;have ch:=G.below I;have Y:=dl.below I;have b0:(ac.map (·.2)).Perm ((seen++[x])++(l1++l2).map (·.2)):=by
     refine e.hp.trans ?_;rw[map_append,map_cons,map_append,append_assoc];exact List.Perm.append_left _ List.perm_middle
    have V:=e.fst.step x;have bq:(l1++l2).length<m:=by rw[e.em];simp
    refine af.of (λq=>?_) (λq=>?_)
    ·obtain⟨dw,c1,cj,X⟩:=iA.store0 (Kpt.len x) (Kpt.one _) a8 (Kpt.len _);rw[show(decide (x.site=t)&&lZ o x)=true from q]at V;refine⟨x.v,iA.load0 ch (Kpt.len x),dw,c1,_,bq,seen++[x],l1++l2,some x,Below.put ar X c3,?_,b0,V,cj,a0.grown X (bA c7),rfl,rfl⟩;exact Y.keep (X.block _ Y.lt (bA (Ne.symm al))) (X.block _ Y.map.lt (bA (by have:=s.l2;omega)))
    ·rw[show(decide (x.site=t)&&lZ o x)=false from q]at V;exact⟨_,bq,seen++[x],l1++l2,o,ar,Y,b0,V,a8,a0,e.eb,rfl⟩
theorem FG {p Z ac:Nat}(h:Shf aZ p Z ac L a w)(t:lU):
 Cf iy #[.pointer (some ⟨p,0,none⟩),vS t] w (Ret (X0 L (λk=>decide (k.site=t)) w)):=by
 apply rf;intro V ad E H X ag G I;obtain⟨O,M,aj⟩:=jS (P:=prog) (Below.refl w.heap.size w) E H;obtain⟨q,e,Y⟩:=jS (P:=prog) M G I;have a3:au ad V ak [vS t]:=au.new E H;have a4:au ag X ah mq.cells:=au.new G I;refine aA (HR ((h.below O).below q) (a3.below q)) ?_;rintro _ al ⟨rfl,D⟩;refine⟨_,_,rfl,?_⟩;exact aN.fin (Cky.len ((O2 L (λk=>decide (k.site=t))).getD ky).ok) (Cky.one _) (a4.below D) (Cky.len (by rfl)) (ae e D e.size) Y λan U=>⟨rfl,U⟩
def qD:Ty Cky where
 k:=29
 pos:=by decide
 rep:=λ_ _ vs c=>vs=c.cells/\c.ok
 len:=λh=>by rw[h.1];exact Cky.len h.2
 one:=fun{_ _ _ x} h v hv=>by rw[h.1]at hv;exact Cky.one x v hv
 keep:=λh _=>h
 mono:=λh _=>h
theorem xV:Flat qD:=λ_ _ _ _ _ _ h=>h
def rj:Ty Kpt where
 k:=30
 pos:=by decide
 rep:=λ_ _ vs k=>vs=k.cells
 len:=fun{_ _ _ x} h=>by rw[h];exact Kpt.len x
 one:=fun{_ _ _ x} h v hv=>by rw[h]at hv;exact Kpt.one x v hv
 keep:=λh _=>h
 mono:=λh _=>h
theorem qn:Flat rj:=λ_ _ _ _ _ _ h=>h
theorem lW (D:Whl P t 29){a:Option Addr}{l c:Nat}{xs:List Cky}(h:Sl qD w A a l c xs)(q:i<xs.length):
 (Instr.loadAt t (.pointer (av a (i:Int) 29))).run P w=.ok xs[i].v w/\xs[i].ok:=by
 obtain⟨vs,h1,e,o⟩:=D.elem (T:=qD) rfl h q;subst e;exact⟨h1,o⟩
theorem ul (D:Whl P t 30){a:Option Addr}{l c:Nat}{xs:List Kpt}(h:Sl rj w A a l c xs)(q:i<xs.length):
 (Instr.loadAt t (.pointer (av a (i:Int) 30))).run P w=.ok xs[i].v w:=by
 obtain⟨vs,h1,e⟩:=D.elem (T:=rj) rfl h q;subst e;exact h1
def Gp (A:Bl)(w:World):Bl:=λb=>A b\/w.heap.size <=b
theorem Ow.orNew {α:Type}{T:Ty α}{w w':World}{a:Option Addr}{n c:Nat}{xs:List α}(h:Ow T t w' NoB a n c xs)(q:bU w.heap.size a):Sl T w' (Gp A w) a n c xs:=
 h.sl (λ_ _ e=>e.elim) λg D=>.inr (q g D)
theorem Sl.orNew {α:Type}{T:Ty α}{w w':World}{a:Option Addr}{n c:Nat}{xs:List α}(h:Sl T w' A a n c xs):Sl T w' (Gp A w) a n c xs:=h.mono λ_ _ e=>.inl e
theorem ZQ {α:Type}{T:Ty α}(I:Flat T){st t ty:TypeId}{bytes:Nat}{z:Value}(Z:P.underlying st=some (.slice t))(ad:TF P t T.k bytes z)(G:0<bytes)
 {w0 w:World} {a:Option Addr} {n c:Nat} {xs:List α} (U:Ow T t w NoB a n c xs) (q:bU w0.heap.size a) (e:bW w0 w) {y:Option Addr} {m cm:Nat} {ys:List α}
 (Y:Sl T w A y m cm ys) (H:(xs.length+ys.length)*bytes <=140737488355328) {cm':Nat} :
 ∃(w2:World) (a':Option Addr) (D c':Nat),(Builtin.append_ #[st,st] ty #[.slice a n c,.slice y m cm']).run P w=.ok (.slice a' D c') w2/\Ow T t w2 NoB a' D c' (xs++ys)/\bU w0.heap.size a'/\bW w0 w2:=by
 obtain⟨ag,a4,ac,E,X,V,O,M⟩:=eU (ty:=ty) Z ad G U (λ_ _ h=>h) (cm:=cm') (Y.flat I) H;exact⟨ag,a4,ac,E,X,V,q.app e.size M,e.grown O e.size q⟩
theorem YC {α:Type}{T:Ty α}(Z:Flat T){st t ty:TypeId}{bytes:Nat}{z:Value}(a8:P.underlying st=some (.slice t))(bc:TF P t T.k bytes z)(X:0<bytes)
 {w0 w w1:World} {a:Option Addr} {n c:Nat} {xs:List α} (aj:Ow T t w NoB a n c xs) (H:bU w0.heap.size a) (E:bW w0 w) {D:Nat} {vs:List Value} {x:α} (ad:D=w.heap.size)
 (M:w1=w.alloc (.cells vs.toArray t)) (a9:T.rep w NoB vs x) {cm:Nat} (Y:(xs.length+1)*bytes <=140737488355328):
 ∃(q:World) (a':Option Addr) (O c':Nat),(Builtin.append_ #[st,st] ty #[.slice a n c,.slice (some ⟨D,0,none⟩) 1 cm]).run P w1=.ok (.slice a' O c') q/\Ow T t q NoB a' O c' (xs++[x])/\bU w0.heap.size a'/\bW w0 q/\
  ∀b,b<w.heap.size->eP a≠some b->q.heap[b]? =w.heap[b]? :=by
 have e:bW w w1:=M▸ao w _;have al:=aj.below e;have a0:Src T w1 NoB (some ⟨D,0,none⟩) 1 [x]:=Src.new1F Z ad M a9;obtain⟨bj,a4,bb,U,ar,an,I,ac⟩:=eU (ty:=ty) a8 bc X al (λ_ _ h=>h) (cm:=cm) a0 (by simpa using Y);have hB:=ae E e E.size;refine⟨bj,a4,bb,U,ar,an,H.app hB.size ac,hB.grown I hB.size H,λb G ag=>?_⟩;rw[I.block b (Nat.lt_of_lt_of_le G e.size) (λV=>ag V.symm),e.block b G]
theorem St (o:c.ok)(w:World):(Instr.buildSlice aP 1 #[(0,c.v)]).run prog w=.ok (.slice (some ⟨w.heap.size,0,none⟩) 1 1) (w.alloc (.cells c.cells.toArray ah)):=by
 obtain⟨H,val,⟨G,D,a⟩,only,I,M,E,same,q,e,O,seq⟩:=c;obtain⟨U,V,aj,al,an,ar,a0,a8,a9,bb,X,Y,Z,ac,ad,ag,rfl⟩:=fP a o;kernel_rfl
theorem Sw (k:Kpt)(w:World):(Instr.buildSlice aa 1 #[(0,k.v)]).run prog w=.ok (.slice (some ⟨w.heap.size,0,none⟩) 1 1) (w.alloc (.cells k.cells.toArray aw)):=by
 obtain⟨⟨H,val,⟨G,D,a⟩,only,I,M,E,same,q,e,O,seq⟩,s,o⟩:=k;obtain⟨U,V,aj,al,an,ar,a0,a8,a9,bb,X,Y,Z,ac,ad,ag,rfl⟩:=fP a o;kernel_rfl
theorem gM:Whl prog aw 30:=⟨⟨_,_,cO⟩,by kernel_rfl⟩
theorem yn {w0 w:World}{a:Option Addr}{n c:Nat}{xs:List Cky}(M:Ow qD ah w NoB a n c xs)(I:bU w0.heap.size a)(H:bW w0 w){x:Cky}(o:x.ok)(O:xs.length <=1000000):
 ∃(G:World) (a1:Option Addr) (D q:Nat),(Instr.buildSlice aP 1 #[(0,x.v)]).run prog w=.ok (.slice a1 D q) G/\
  ∃(e:World) (a':Option Addr) (E c':Nat),(Builtin.append_ #[aP,aP] aP #[.slice a n c,.slice a1 D q]).run prog G=.ok (.slice a' E c') e/\
   Ow qD ah e NoB a' E c' (xs++[x])/\bU w0.heap.size a'/\bW w0 e/\∀b,b<w.heap.size->eP a≠some b->e.heap[b]? =w.heap[b]? :=
 ⟨_,_,_,_,St o w,YC xV gm mg (by decide) M I H rfl rfl ⟨rfl,o⟩ (by omega)⟩
theorem Vc {w0 w:World}{a:Option Addr}{n c:Nat}{xs:List Kpt}(I:Ow rj aw w NoB a n c xs)(H:bU w0.heap.size a)(G:bW w0 w)(x:Kpt)(M:xs.length <=1000000):
 ∃(E:World) (a1:Option Addr) (q e:Nat),(Instr.buildSlice aa 1 #[(0,x.v)]).run prog w=.ok (.slice a1 q e) E/\
  ∃(w2:World) (a':Option Addr) (D c':Nat),(Builtin.append_ #[aa,aa] aa #[.slice a n c,.slice a1 q e]).run prog E=.ok (.slice a' D c') w2/\
   Ow rj aw w2 NoB a' D c' (xs++[x])/\bU w0.heap.size a'/\bW w0 w2:=
 ⟨_,_,_,_,Sw x w,Ch qn ba cO (by decide) I H G rfl rfl rfl (by omega)⟩
theorem Ai {α:Type}{T:Ty α}(e:Flat T){w w':World}(q:k=w.heap.size)(D:w'=w.alloc (.cells #[] t)):Ow T t w' NoB (some ⟨k,0,none⟩) 0 0 ([]:List α):=
 Ow.newF e (l:=[]) q D (gy.nil T w NoB) (Nat.zero_le _)
def AR (L:List Kpt)(ps:List Plc):List Kpt:=ps.foldl eR L
theorem Ng (L:List Kpt)(e:List Plc)(p:Plc):AR L (e++[p])=eR (AR L e) p:=by unfold AR;rw[foldl_append];rfl
theorem DX:∀(e:List Plc) (L:List Kpt),AR L e=L.filter λk=> !decide (k.plc∈e)
 |[],L=>by
  show L=_;rw[List.filter_eq_self.2];intro k _;simp
 |p::e,L=>by
  show AR (eR L p) e=_;rw[DX e];unfold eR;rw[List.filter_filter];exact List.filter_congr λk _=>by
   rw[Bool.eq_iff_iff];simp[and_comm]
theorem Rq (s:ShI L a)(now:Int)(h:M.Perm (L.filter λk=>decide (k.c.exp <=now))):AR L (M.map Kpt.plc)=Ic L now:=by
 rw[DX];unfold Ic;refine List.filter_congr λk q=>?_;rw[Bool.eq_iff_iff];simp only[Bool.not_eq_true',dFx,dTx];constructor
 ·intro D;have: ¬ k.c.exp <=now:=λc=>D (List.mem_map.2 ⟨k,h.mem_iff.2 (List.mem_filter.2 ⟨q,by simpa using c⟩),rfl⟩);omega
 ·intro D G;obtain⟨x,H,E⟩:=List.mem_map.1 G;have e:=List.mem_filter.1 (h.mem_iff.1 H);rw[s.one e.1 q E]at e;have:=e.2;simp at this;omega
theorem PS (e:List Plc)(L:List Kpt):(AR L e).length <=L.length:=by rw[DX];exact List.length_filter_le ..
structure ZL (t:TypeId)(w:World)(p ma ms r:Nat)(M:List (Plc×Kpt))(now:Int)(seen:List Kpt)(left:List (Plc×Kpt))(m:Nat)(a:Option Addr)(l c:Nat)(w':World):Prop where
 hb:bW w w'
 rng:gC Plc.v Kpt.v w' r ma M left
 hp:(M.map (·.2)).Perm (seen++left.map (·.2))
 row:Ow qD t w' NoB a l c ((seen.filter λk=>decide (k.c.exp <=now)).map Kpt.c)
 fr:bU w.heap.size a
 em:m=left.length
theorem HS {p ma c5:Nat}(h:Shf aZ p ma c5 L a w):
 Cf dA #[.pointer (some ⟨p,0,none⟩),.func (.func bL) #[] #[]] w (Ret (X0 L (λ_=>true) w)):=by
 obtain⟨ac,S,s,ck,dx⟩:=SS.of h;have bb:=h.inv;apply eT;intro O dn bc b1 k6 D bj b2;obtain⟨ca,b7,c1⟩:=jS (P:=prog) (Below.refl w.heap.size w) bc b1;obtain⟨ag,Z,c2⟩:=jS (P:=prog) b7 bj b2;have a4:au dn O ah mq.cells:=au.new bc b1;have a6:au D k6 aI ky.cells:=au.new bj b2;have c6:O≠k6:=by have:=a4.lt;omega
 have an:=(s.below ca).below ag;refine⟨rfl,rfl,some ma,vh an,?_⟩;obtain⟨dl,ct,dg,ad⟩:=yp bt an.mM (P:=prog);have c4:w.heap.size <=D.heap.size:=Z.size;have da:D.heap.size≠ma:=by have:=an.mM.lt;omega
 have b4:O≠D.heap.size:=by have:=(a4.below ag).lt;omega
 have al:k6≠D.heap.size:=by have:=a6.lt;omega
 refine⟨dl,_,ct,λm b w'=>∃seen left o,ZA aI ah w ma O k6 D.heap.size ac (λ_=>true) seen left o m b w',
  ⟨_,[],ac,none,ae Z ad Z.size,dg,by simp,(λk cp=>by cases cp),a6.below ad,(a4.below ag).below ad,rfl,rfl⟩,?_⟩
 intro m b;refine aQ.of ?_ _;rintro dr ⟨seen,left,o,e⟩;rcases e.rng.step da kF (P:=prog)with⟨rfl,hn⟩|⟨l1,kk,x,l2,w16,rfl,hn,rng2,hen,hg⟩
 ·refine .inl ⟨dr,hn,rfl,(o.getD ky).c.v,aN.load e.kb (i:=0) (us:=(o.getD ky).c.cells) (Cky.len (o.getD ky).ok) (λj cn=>by rw[Nat.zero_add];exact ni _ cn),?_⟩;have cr:o=O2 L (λ_=>true):=by
   have bs:=e.hp;rw[map_nil,append_nil]at bs;exact uw.one bb (e.fst.perm (bs.symm.trans ck.perm)) (um bb)
  refine aN.fin (Cky.len (o.getD ky).ok) (Cky.one _) e.kc (Cky.len (by rfl)) e.hb c1 λU cl=>⟨?_,cl⟩
  rw[e.eb,cr];rfl
 ·refine .inr ⟨w16,kk.v,x.v,hn,kk.v,x.v,hen,?_⟩;intro k9 dp bk b3;have B16:=Below.put e.hb hg c4;obtain⟨H,b8,c3⟩:=jS (P:=prog) B16 bk b3;have cb:=(e.kc.grown hg (bA b4)).below H;have cc:=(e.kb.grown hg (bA al)).below H;have b9:au dp k9 aI ky.cells:=au.new bk b3;obtain⟨U,cu,G,M⟩:=iA.store0 (Kpt.len x) (Kpt.one _) b9 (Kpt.len _);have B9x:=Below.put b8 M c3;have c7:O≠k9:=by have:=(e.kc.grown hg (bA b4)).lt;omega
  have c8:k6≠k9:=by have:=(e.kb.grown hg (bA al)).lt;omega
  have dc:D.heap.size≠k9:=by have:=rng2.lt;omega
  have c9:ma≠k9:=by have:=s.l2;omega
  have ce:=cb.grown M (bA c7);have E:=cc.grown M (bA c8);have dk:=(rng2.below H).keep (M.block _ (rng2.below H).lt (bA dc)) (M.block _ (rng2.below H).map.lt (bA c9));refine⟨U,cu,?_⟩;have b6:x.cells[27]? =some (vI x.c.used):=(ni x (by decide)).trans (bi x.ok 7);have de:x.cells[28]? =some (vI x.c.seq):=(ni x (by decide)).trans (bi x.ok 8);refine gS (w:=U) (lZ o x) ?_ ?_
  ·cases o with
   |none=>rw[e.eb];exact af.yes rfl ⟨rfl,rfl⟩
   |some y=>
    have E:au U k6 aI y.cells:=E;have b5:y.cells[27]? =some (vI y.c.used):=(ni y (by decide)).trans (bi y.ok 7);have dd:y.cells[28]? =some (vI y.c.seq):=(ni y (by decide)).trans (bi y.ok 8);rw[e.eb];refine af.no rfl ⟨rfl,rfl,_,G.load1 bB rfl (i:=27) b6,rfl,rfl,_,E.load1 bB rfl (i:=27) b5,?_⟩;refine af.of (λq=>⟨rfl,?_⟩) (λq=>?_)
    ·have:x.c.used<y.c.used:=by simpa using q
     simp[lZ,this]
    ·have cf: ¬ x.c.used<y.c.used:=by simpa using q
     refine⟨rfl,rfl,_,G.load1 bB rfl (i:=27) b6,rfl,rfl,_,E.load1 bB rfl (i:=27) b5,?_⟩;refine af.of (λq=>?_) (λq=>⟨rfl,?_⟩)
     ·have aj:x.c.used=y.c.used:=by simpa using q
      refine⟨rfl,rfl,_,G.load1 bC rfl (i:=28) de,rfl,rfl,_,E.load1 bC rfl (i:=28) dd,rfl,?_⟩;simp[lZ,aj]
     ·have aj: ¬ x.c.used=y.c.used:=by simpa using q
      simp[lZ,cf,aj]
  ·refine rv (λb w'=>b=(true&&lZ o x)/\bW U w') ?_ ?_
   ·refine⟨x.v,iA.load0 G (Kpt.len x),?_⟩;refine aA (LQ x) ?_;rintro _ d0 ⟨rfl,a9⟩;refine⟨_,rfl,af.of (λq=>⟨?_,a9⟩) (λq=>⟨?_,a9⟩)⟩
    ·rw[q,Bool.true_and]
    ·rw[q,Bool.false_and]
   ·rintro dw d1 ⟨rfl,I⟩;have ar:=ae B9x I B9x.size;have a8:=E.below I;have a0:=ce.below I;have ch:=G.below I;have Y:=dk.below I;have b0:(ac.map (·.2)).Perm ((seen++[x])++(l1++l2).map (·.2)):=by
     refine e.hp.trans ?_;rw[map_append,map_cons,map_append,append_assoc];exact List.Perm.append_left _ List.perm_middle
    have V:=e.fst.step x;have bq:(l1++l2).length<m:=by rw[e.em];simp
    refine af.of (λq=>?_) (λq=>?_)
    ·obtain⟨ds,c0,cj,X⟩:=iA.store0 (Kpt.len x) (Kpt.one _) a8 (Kpt.len _);rw[show(true&&lZ o x)=true from q]at V;refine⟨x.v,iA.load0 ch (Kpt.len x),ds,c0,_,bq,seen++[x],l1++l2,some x,Below.put ar X c2,?_,b0,V,cj,a0.grown X (bA c6),rfl,rfl⟩;exact Y.keep (X.block _ Y.lt (bA (Ne.symm al))) (X.block _ Y.map.lt (bA (by have:=s.l2;omega)))
    ·rw[show(true&&lZ o x)=false from q]at V;exact⟨_,bq,seen++[x],l1++l2,o,ar,Y,b0,V,a8,a0,e.eb,rfl⟩
theorem uM {p O U:Nat}(h:Shf aZ p O U L a w):
 Cf fi #[.pointer (some ⟨p,0,none⟩)] w (Ret (X0 L (λ_=>true) w)):=by
 apply mQ;intro I V D E;obtain⟨G,e,M⟩:=jS (P:=prog) (Below.refl w.heap.size w) D E;have a4:au V I ah mq.cells:=au.new D E;refine aA (HS (h.below G)) ?_;rintro _ X ⟨rfl,q⟩;refine⟨_,_,rfl,?_⟩;exact aN.fin (Cky.len ((O2 L (λ_=>true)).getD ky).ok) (Cky.one _) (a4.below q) (Cky.len (by rfl)) (ae e q e.size) M λY H=>⟨rfl,H⟩
def ZM (p ma ms:Nat)(L:List Kpt)(last:Int)(now:Int)(w:World)(v:Value)(w':World):Prop:=(∃n:Int,v=vI n)/\Shf aZ p ma ms (Ic L now) last w'/\Chg [p,ma,ms] w w'
theorem sM {p ma G:Nat}{last:Int}(h:Shf aZ p ma G L last w)(dn:L.length <=1000000)(D:Int):
 Cf fw #[.pointer (some ⟨p,0,none⟩),vI D] w (Ret (ZM p ma G L last D w)):=by
 obtain⟨O,S,s,bj,dd⟩:=SS.of h;have cj:=h.inv;have cf:O.length=L.length:=by have:=bj.perm.length_eq;rwa [length_map]at this
 apply re;refine⟨rfl,rfl,some ma,vh s,?_⟩;obtain⟨c8,ct,c5,b6⟩:=yp bt s.mM (P:=prog);have c3:w.heap.size≠ma:=by have:=s.l2;omega
 refine⟨c8,_,ct,λm a l c w'=>∃seen left,ZL ah w p ma G w.heap.size O D seen left m a l c w',
  ⟨_,[],O,b6,c5,by simp,Ow.nil _ _ _ _,bU.none _,rfl⟩,?_⟩
 intro m a5 c1 b8;refine aQ.of ?_ _;rintro wl ⟨seen,left,e⟩;rcases e.rng.step c3 kF (P:=prog)with⟨rfl,hn⟩|⟨I,kk,x,M,w16,rfl,hn,rng2,hen,V⟩
 ·refine .inl ⟨wl,hn,?_⟩;have cr:L.Perm seen:=by
   have:=e.hp;rw[map_nil,append_nil]at this;exact bj.perm.symm.trans this
  generalize bb:(seen.filter λk=>decide (k.c.exp <=D))=E at*;have bc:E.Perm (L.filter λk=>decide (k.c.exp <=D)):=by rw[<- bb];exact(cr.symm.filter _)
  have ad:=e.row;rw[bb]at ad;have Y:=ad.len;rw[length_map]at Y;have c0:Shf aZ p ma G L last wl:=h.below e.hb;have dc:E.length <=L.length:=by rw[bc.length_eq];exact List.length_filter_le ..
  have I:=s.l1;have M:=s.l2;have ds:=s.l3;refine⟨λm i w'=>∃k:Nat,k <=E.length/\i=(k:Int)/\m=E.length-k/\Shf aZ p ma G (AR L ((E.take k).map Kpt.plc)) last w'/\Chg [p,ma,G] wl w',
   ⟨_,0,by omega,rfl,rfl,c0,Chg.refl _ _⟩,?_⟩
  intro m i;refine aQ.of ?_ _;rintro ac ⟨k,dg,rfl,rfl,al,U⟩;refine af.of (λH=>?_) (λH=>?_)<;>simp only[dTx,dFx]at H
  ·have H:k<E.length:=by omega
   have an:Sl qD ac (λb=>w.heap.size <=b) a5 c1 b8 (E.map Kpt.c):=by
    refine(ad.sl (A':=λb=>w.heap.size <=b) (λ_ _ ag=>ag.elim) (λg V=>e.fr g V)).keep ⟨U.size,λb ag de=>U.block b ag (λcl=>?_)⟩;simp only[List.mem_cons,List.not_mem_nil,or_false]at cl;omega
   have bs:k<(E.map Kpt.c).length:=by rw[length_map];exact H
   obtain⟨bq,o⟩:=lW aN an bs;rw[getElem_map]at bq o;refine⟨⟨⟨by omega,by omega⟩,an.isSome bs⟩,_,bq,?_⟩;refine aN.new (zs:=mq.cells) (cs:=E[k].c.cells) rfl (Cky.len o) (Cky.one _) ac λdr d0 dl ce bk=>?_;refine⟨_,aN.load0 ce (Cky.len o),?_⟩;refine aA (mf (al.below bk) (Nat.le_trans (PS _ _) (by omega)) o) ?_;rintro _ dw ⟨rfl,cu,ch⟩;refine⟨_,rfl,E.length-(k+1),by omega,k+1,by omega,by rw[wrJ];omega,rfl,?_,(U.step bk).trans ch⟩;rw[take_succ_eq_append_getElem H,map_append,map_cons,map_nil,Ng];exact cu
  ·have:k=E.length:=by omega
   subst this;rw[take_length,Rq cj D bc]at al;exact⟨⟨_,rfl⟩,al,(Chg.of e.hb).trans U⟩
 ·refine .inr ⟨w16,kk.v,x.v,hn,kk.v,x.v,hen,?_⟩;have B16:=Below.put e.hb V (Nat.le_refl _);have b1:∀g,eP a5=some g->g≠w.heap.size:=λg X q=>by
   have h1:=e.rng;obtain⟨_,_,_,_,_,ar,_⟩:=h1;obtain⟨_,_,_,c4⟩:=e.row;rcases c4 with⟨a0,_⟩|⟨cc,cur,da,a0,b3,_⟩
   ·rw[a0]at X;cases X
   ·rw[a0]at X;cases X;have q:cc=w.heap.size:=q;rw[q,ar]at b3;cases b3
  have c6:=e.row.put b1 V;have b0:(O.map (·.2)).Perm ((seen++[x])++(I++M).map (·.2)):=by
   refine e.hp.trans ?_;rw[map_append,map_cons,map_append,append_assoc];exact List.Perm.append_left _ List.perm_middle
  have Y:(I++M).length<m:=by rw[e.em];simp
  have an:(seen.filter λk=>decide (k.c.exp <=D)).length <=L.length:=by
   have h1:=e.hp.length_eq;rw[length_map,cf,length_append]at h1;have:=List.length_filter_le (λk:Kpt=>decide (k.c.exp <=D)) seen;omega
  refine iA.new (zs:=ky.cells) (cs:=x.cells) (Kpt.len ky) (Kpt.len x) (Kpt.one _) w16 λdp dx dk a9 aj=>?_;have a8:=ae B16 aj B16.size;have Z:=rng2.below aj;have b4:=c6.below aj;refine⟨rfl,rfl,_,a9.load1 bB rfl (i:=25) ((ni x (by decide)).trans (bi x.ok 5)),af.of (λq=>?_) (λq=>?_)⟩<;>simp only[dTx,dFx]at q
  ·refine⟨rfl,x.c.v,aN.load a9 (i:=0) (us:=x.c.cells) (Cky.len x.ok) (λj ck=>by rw[Nat.zero_add];exact ni _ ck),?_⟩;obtain⟨ac,a1,ar,b7,b9,c9,a',c2,c',ca,c7,cb,b5,b2⟩:=yn b4 e.fr a8 x.ok (by rw[length_map];omega);refine⟨ac,a1,ar,b7,b9,c9,a',c2,c',ca,_,Y,seen++[x],I++M,b5,?_,b0,?_,cb,rfl⟩
   ·have cn:eP a5≠some w.heap.size:=λq=>b1 _ q rfl;have cp:eP a5≠some ma:=λq=>by have:=e.fr _ q;have:=s.l2;omega
    exact Z.keep (b2 _ Z.lt cn) (b2 _ Z.map.lt cp)
   ·rw[List.filter_append,filter_cons,if_pos (by simpa using q),List.filter_nil,map_append];exact c7
  ·refine⟨_,Y,seen++[x],I++M,a8,Z,b0,?_,e.fr,rfl⟩;rw[List.filter_append,filter_cons,if_neg (by simpa using q),List.filter_nil,append_nil];exact b4
section
variable {F:Fence} {n:Nat} {P:Program} {ops:Array Oper} {Q:Exit->Act->World->Prop} {a:Act} {w:World} {rest:List Oper} {o:Oper}
theorem jh (H:o.guard=none)(G:∀c,o.op≠.defer c)(E:o.about P w a.eval=none){v:Value}{w':World}(I:(execOp a.eval o).run P w=.ok (.value v) w')(q:wpListIn F n P ops Q rest (a.put o.dst v) w'):wpListIn F n P ops Q (o::rest) a w:=by
 refine wpListIn_plain H λK D=>⟨λf e=>?_,?_⟩
 ·rw[E]at e;cases e
 ·rw[Oper.semAt_plain F _ _ G,I];exact D _ _ q
theorem Nx (H:o.guard=none)(G:∀c,o.op≠.defer c)(E:o.about P w a.eval=none){w':World}(I:(execOp a.eval o).run P w=.ok .skip w')(q:wpListIn F n P ops Q rest (a.put o.dst undef) w'):wpListIn F n P ops Q (o::rest) a w:=by
 refine wpListIn_plain H λK D=>⟨λf e=>?_,?_⟩
 ·rw[E]at e;cases e
 ·rw[Oper.semAt_plain F _ _ G,I];exact D _ _ q
theorem xf (E:o.guard=none){x:Operand}(e:o.op=.load t x){p:Value}(H:a.eval x=p){v:Value}(G:(Instr.loadAt t p).run P w=.ok v w)(q:wpListIn F n P ops Q rest (a.put o.dst v) w):wpListIn F n P ops Q (o::rest) a w:=
 jh E (by rw[e];intro c D;cases D) (by simp[Oper.about,e]) (by simp[execOp,e,H,G,Result.andThen]) q
theorem sj (E:o.guard=none){x y:Operand}(e:o.op=.store t x y){p u:Value}(H:a.eval x=p)(I:a.eval y=u){w':World}(G:(Instr.storeAt t p u).run P w=.ok () w')(q:wpListIn F n P ops Q rest (a.put o.dst undef) w'):wpListIn F n P ops Q (o::rest) a w:=
 Nx E (by rw[e];intro c D;cases D) (by simp[Oper.about,e]) (by simp[execOp,e,H,I,G,Result.andThen]) q
theorem LJ (E:o.guard=none){x:Operand}(e:o.op=.range t x){p:Value}(H:a.eval x=p){v:Value}{w':World}(G:(Instr.range t p).run P w=.ok v w')(q:wpListIn F n P ops Q rest (a.put o.dst v) w'):wpListIn F n P ops Q (o::rest) a w:=
 jh E (by rw[e];intro c D;cases D) (by simp[Oper.about,e]) (by simp[execOp,e,H,G,Result.andThen]) q
theorem Er (E:o.guard=none){x:Operand}(e:o.op=.next x false){p:Value}(H:a.eval x=p){v:Value}{w':World}(G:(Instr.next p false o.type).run P w=.ok v w')(q:wpListIn F n P ops Q rest (a.put o.dst v) w'):wpListIn F n P ops Q (o::rest) a w:=
 jh E (by rw[e];intro c D;cases D) (by simp[Oper.about,e]) (by simp[execOp,e,H,G,Result.andThen]) q
theorem LI (E:o.guard=none){x:Operand}(e:o.op=.entry x){p:Value}(H:a.eval x=p){v:Value}{w':World}(G:(Instr.entry p).run P w=.ok v w')(q:wpListIn F n P ops Q rest (a.put o.dst v) w'):wpListIn F n P ops Q (o::rest) a w:=
 jh E (by rw[e];intro c D;cases D) (by simp[Oper.about,e]) (by simp[execOp,e,H,G,Result.andThen]) q
theorem A1 (E:o.guard=none)(e:o.op=.alloc t){v:Value}{w':World}(G:(Instr.alloc t true (.tuple #[])).run P w=.ok v w')(q:wpListIn F n P ops Q rest (a.put o.dst v) w'):wpListIn F n P ops Q (o::rest) a w:=
 jh E (by rw[e];intro c D;cases D) (by simp[Oper.about,e]) (by simp[execOp,e,G,Result.andThen]) q
end
def Qc (w:World)(b r:Nat):Nat:=
 match w.heap[b]?,w.heap[r]? with
 |some (.map es _),some (.mapIter _ _ seen _)=>(leftOf es seen).size
 |_,_=>0
theorem gC.leftN {α e:Type}[DecidableEq α]{q:α->Value}{D:e->Value}{r m:Nat}{I left:List (α×e)}(h:gC q D w r m I left):Go.Pk.Qc w m r=left.length:=by
 obtain⟨ad,seen,M,O,clock,H,G,V,X,U,Y,Z,ac,E⟩:=h;unfold Go.Pk.Qc;rw[G,H];have:=Nw E;rw[Array.length_toList]at this;exact this
theorem gC.walks {α E:Type}{e:α->Value}{q:E->Value}{w w':World}{r m:Nat}{D left:List (α×E)}(h:gC e q w r m D left)(k:KeepsWalks w w'):gC e q w' r m D left:=by
 obtain⟨U,seen,G,H,clock,O,M,I⟩:=h;exact⟨U,seen,G,H,clock,k.same _ _ O rfl,k.same _ _ M rfl,I⟩
theorem gC.walk {α e:Type}{q:α->Value}{D:e->Value}{r m:Nat}{G left:List (α×e)}(h:gC q D w r m G left):∃o:Obj,w.heap[r]? =some o/\o.isWalk=true:=by
 obtain⟨M,seen,H,I,clock,E,_⟩:=h;exact⟨_,E,rfl⟩
theorem xa {w w':World}(e:bW w w'):w.grownBy w' none:=⟨e.os,e.tape,e.output,e.size,λk q _=>e.block k q⟩
section
open Go.Pk Go.RowKit Go.Shelf
attribute [local go_sem] Oper.semAt_some
theorem H3 (w:World):(Instr.alloc aI true (.tuple #[])).run prog w=.ok (.pointer (some ⟨w.heap.size,0,none⟩)) (w.alloc (.cells ky.cells.toArray aI)):=by
 kernel_rfl
set_option maxRecDepth 100000 in
set_option maxHeartbeats 2000000 in
theorem U4 (F:Fence)(n:Nat)(h7:F.fn 202)(hro:F.round=none)(hn:1 <=n)(l Bs m:Nat)(kvs:List (Plc×Kpt))(J Jx:List Kpt->World->Prop)
 (hY:∀pre x W,J pre W->pre.length<kvs.length->YieldAt F (n-1) prog l #[x.v] W λe W'=>
  (e=.returned (.bool true)/\J (pre++[x]) W'/\KeepsWalks W W')\/(e=.returned (.bool false)/\Jx (pre++[x]) W'))
 (W:World) (hJ:AbidesFrom W.heap.size J) (hBs:W.cell? ⟨Bs,0,none⟩=some (.map (some m))) (hm:ux Plc.v Kpt.v W m kvs) (h0:J [] W):
 CallsIn F n prog 202 #[.func (.yield l) #[] #[],.pointer (some ⟨Bs,0,none⟩)] W λe W'=>(∃v,e=.returned v)/\
  ((∃xs,xs.Perm (kvs.map (·.2))/\J xs W')\/(∃pre,True/\Jx pre W')):=by
 obtain⟨w0,hr0,hrg0,hb0⟩:=yp (P:=prog) bt hm;have hmlt:=hm.lt;refine callsIn_of_wp func202 rfl h7 ?_ hro;simp only[Tryz.ntmps202,List.size_toArray,length_cons,length_nil,Nat.reduceAdd,Nat.reduceSub,Array.replicate_succ,Array.replicate_zero,List.push_toArray,List.append_toArray,nil_append,cons_append];gi_wp2_with (first
  |(refine LJ rfl rfl rfl hr0 ?_)
  |gi_in)
 simp only[Act.put,List.setIfInBounds_toArray,List.set_cons_succ,List.set_cons_zero];gi_loopw [4] (λ_ wr=>∃(left:List (Plc×Kpt)) (ps:List Kpt),gC Plc.v Kpt.v wr W.heap.size m kvs left/\(ps++left.map (·.2)).Perm (kvs.map (·.2))/\J ps wr)
  (λ_ wr=>Qc wr m W.heap.size)
 case atStart=>exact⟨kvs,[],hrg0,List.Perm.refl _,hJ [] W w0 none h0 (xa hb0) (λr e=>by cases e)⟩
 case round=>
  obtain⟨left,ps,hrg,hp,hJs⟩:=hrel;have hlr:=hrg.lt;rcases hrg.step (P:=prog) (by omega) 0 with⟨rfl,hrun⟩|⟨l1,k,v,l2,w2,rfl,hrun,hrg2,hent,hg2⟩
  ·gi_wp2_with (first
    |(refine Er rfl rfl rfl hrun ?_)
    |gi_in)
   go_end0;rw[map_nil,append_nil]at hp;exact⟨⟨_,rfl⟩,.inl ⟨ps,hp,hJs⟩⟩
  ·have hb3:bW w2 (w2.alloc (.cells ky.cells.toArray aI)):=ao w2 _;obtain⟨w3,hst,ha3,hg3⟩:=iA.store0 (P:=prog) (cs:=v.cells) (Kpt.len v) (Kpt.one v) (au.new (t:=aI) (vs:=ky.cells) rfl rfl:au (w2.alloc (.cells ky.cells.toArray aI)) w2.heap.size aI ky.cells) (Kpt.len ky);have hb23:=Below.put hb3 hg3 (Nat.le_refl _);have hld:(Instr.loadAt aI (.pointer (some ⟨w2.heap.size,0,none⟩))).run prog w3=.ok v.v w3:=iA.load0 ha3 (Kpt.len v);have hrg3:=hrg2.below hb23;have hJ2:J ps w2:=hJ ps wr w2 _ hJs hg2 (λr e=>by cases e;exact⟨Nat.le_refl _,hrg.walk⟩);have hJ3:J ps w3:=hJ ps w2 w3 none hJ2 (xa hb23) (λr e=>by cases e);have hlen:ps.length<kvs.length:=by
    have:=hp.length_eq;rw[length_append,length_map,length_map,length_append,length_cons]at this;omega
   obtain⟨fn,tmps,assign,body,hy,hR⟩:=hY ps v w3 hJ3 hlen;have hpp:((ps++[v])++(l1++l2).map (·.2)).Perm (kvs.map (·.2)):=by
    refine List.Perm.trans ?_ hp;rw[append_assoc,map_append,map_append,map_cons];exact List.Perm.append_left ps (by simpa using List.perm_middle.symm)
   gi_wp2_with (first
    |(refine Er rfl rfl rfl hrun ?_)
    |(refine LI rfl rfl rfl hent ?_)
    |(refine A1 rfl rfl (H3 _) ?_)
    |(refine sj rfl rfl rfl rfl hst ?_)
    |(refine xf rfl rfl rfl hld ?_)
    |gi_in)
   refine hR.mono ?_;rintro e W3 (⟨rfl,hJ4,hk4⟩|⟨rfl,hJx4⟩)
   ·gi_wp2;have hrg4:=hrg3.walks hk4;go_roundw
    case rel=>exact⟨l1++l2,ps++[v],hrg4,hpp,hJ4⟩
    case measure=>rw[hrg4.leftN,hrg.leftN];simp
   ·gi_wp2;refine bodyPost_ret (results_none rfl _ _ _) rfl ?_;exact⟨⟨_,rfl⟩,.inr ⟨ps++[v],trivial,hJx4⟩⟩
theorem NC (F:Fence)(n:Nat)(H:F.fn 202)(X:F.round=none)(V:1 <=n)(e m:Nat)(q:List (Plc×Kpt))(w:World)(I:e<w.heap.size)
 (M:w.cell? ⟨e,0,none⟩=some (.map (some m))) (U:ux Plc.v Kpt.v w m q):
 SeqStopsK F n prog 202 #[.pointer (some ⟨e,0,none⟩)] (λx:Kpt=> #[x.v]) KeepsWalks (λxs=>xs.Perm (q.map (·.2))) (λ_=>True) q.length w:=λl J E W D O _ hY G=>
 U4 F n H X V l e m q J E hY W O ((D.cell (p:=⟨e,0,none⟩) I).trans M) (U.below D) G
end
end Go.Pk
