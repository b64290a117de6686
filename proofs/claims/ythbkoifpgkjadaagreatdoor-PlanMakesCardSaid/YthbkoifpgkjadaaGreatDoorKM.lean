/- What the laws lean on: Ed, Ee, Ef, Eg, Eh, Ei, Fs, Ej, Ek, El, Em; what is used. Its conditions: none. -/
import Derived.Test.YthbkoifpgkjadaaGreatDoorKL
import Derived.AtR
import Derived.Orders
import Derived.RangeFuncIn
set_option linter.unusedVariables false
set_option linter.unusedSimpArgs false
set_option linter.unusedSectionVars false
set_option maxRecDepth 100000
variable {P:Go.Program}{n m i k l:Nat}{t:Go.TypeId}{G:Go.Pe.Tr Go.Value}{H:Go.FuncId}{w:Go.World}{I:Option Nat}{K:Type}{N:Array Go.Value}{O:Bool}
open Go.IntKind (i64)
open Go.Proofs.Tryz
namespace Go.Pk
open Go.RowKit (Below)
open Go.Proofs
end Go.Pk
namespace Go.Pe
open RowKit
noncomputable section
def BJ (l:List Value):Tr Value->Nat->Tr Value:=
 List.rec (motive:=λ_=>Tr Value->Nat->Tr Value) (λc _=>c) (λv _ ih c o=>ih (Tr.put (some v) 14 c o) (Nat.succ o)) l
def zt {β:Type}(l:List Value):Tr Value->Nat->(Tr Value->β)->β:=
 List.rec (motive:=λ_=>Tr Value->Nat->(Tr Value->β)->β) (λc _ K=>K c) (λv _ ih c o K=>uR (some v) 14 c o λc=>mK (Nat.succ o) λo=>ih c o K) l
theorem kh {D:Type}(l:List Value)(c:Tr Value)(o:Nat)(K:Tr Value->D):zt l c o K=K (BJ l c o):=by
 induction l generalizing c o with
 |nil=>rfl
 |cons v l y=>
  show uR (some v) 14 c o (λc=>mK (Nat.succ o) λo=>zt l c o K)=_;rw[nz,cw,y];rfl
def CR (m:Mp)(base:Nat)(c:Tr Value)(n:Nat)(cs:Array Value):Prop:=∀i v,c.get i=some v->i<n/\∃v',cs[base+i]? =some v'/\VR m v v'
theorem CR.put {m:Mp}{base:Nat}{c:Tr Value}{n n':Nat}{cs:Array Value}(h:CR m base c n cs){o:Nat}{x D:Value}(M:n <=n')(H:o<n')(E:o+2 <=16384)(J:VR m x D)(I:base+o<cs.size):
 CR m base (Tr.put (some x) 14 c o) n' (cs.setIfInBounds (base+o) D):=by
 intro i v y;rw[Tr.get_put _ _ _ _ E]at y;by_cases e:i=o
 ·rw[if_pos e]at y;cases y;subst e;exact⟨H,D,by simp[Array.getElem?_setIfInBounds,I],J⟩
 ·rw[if_neg e]at y;obtain⟨h1,v',F,G⟩:=h i v y;exact⟨by omega,v',by rw[Array.getElem?_setIfInBounds_ne (by omega)];exact F,G⟩
def yp (cs:Array Value):Nat->List Value->Array Value
 |_,[]=>cs
 |o,v::l=>yp (cs.setIfInBounds o v) (o+1) l
theorem CR.putL {m:Mp}{base:Nat} :∀{l H:List Value} {c:Tr Value} {n n':Nat} {cs:Array Value} {o:Nat},CR m base c n cs->n <=n'->o+l.length <=n'->o+l.length+1 <=16384->VRL m l H->(∀j,j<l.length->base+o+j<cs.size)->
 CR m base (BJ l c o) n' (yp cs (base+o) H)
 |[],_,c,n,n',cs,o,h,F,G,E,.nil,y=>λi v D=>let⟨a,b⟩:=h i v D;⟨by omega,b⟩
 |v::l,_,c,n,n',cs,o,h,F,G,E,.cons D t,y=>by
  simp only[List.length_cons]at G E y;exact CR.putL (o:=o+1) (h.put F (by omega) (by omega) D (by have:=y 0 (by omega);omega)) (Nat.le_refl _) (by omega) (by omega) t (λj J=>by have I:=y (j+1) (by omega);rw[Array.size_setIfInBounds];omega)
theorem kC (l:List Value):∀(cs:Array Value) (o:Nat),(yp cs o l).size=cs.size:=by
 induction l with
 |nil=>intro cs o;rfl
 |cons v l y=>intro cs o;rw[yp,y,Array.size_setIfInBounds]
structure Wr (w w':World)(b:Nat)(cs':Array Value)(te:TypeId)(f:Nat×Nat):Prop where
 os:w'.os=w.os
 tape:w'.tape=w.tape
 output:w'.output=w.output
 size:w'.heap.size=w.heap.size
 at_:w'.heap[b]? =some (.cells cs' te f)
 oth:∀k,k≠b->w'.heap[k]? =w.heap[k]?
theorem lM {b q:Nat}:∀(l:List Value) (i:Nat) {w:World} {cs:Array Value},w.heap[b]? =some (.cells cs t (n,m))->(∀v∈l,MW v=true)->(∀j,j<l.length->q+i+j<cs.size)->
 (∀j,j<l.length-> ¬ (n <=q+i+j/\q+i+j<m))->∃w',(storeCells ⟨b,q,none⟩ l i).run P w=.ok () w'/\Wr w w' b (yp cs (q+i) l) t (n,m)
 |[],i,w,cs,h,_,_,_=>⟨w,by simp[storeCells],rfl,rfl,rfl,rfl,h,λ_ _=>rfl⟩
 |v::l,i,w,cs,h,h1,E,D=>by
  simp only[List.length_cons]at E D;have R:b<w.heap.size:=(Array.getElem?_eq_some_iff.1 h).1;have U:=E 0 (by omega);have G:w.cell? ⟨b,q+i,none⟩=some (cs[q+i]'(by omega)):=by rw[cell_of h];exact Array.getElem?_eq_getElem (by omega)
  have H:w.frozen? ⟨b,q+i,none⟩=false:=by
   have:=D 0 (by omega);simp only[Nat.add_zero]at this;simp only[World.frozen?,h];simpa using this
  have e3:(w.setCell ⟨b,q+i,none⟩ v).heap[b]? =some (.cells (cs.setIfInBounds (q+i) v) t (n,m)):=by
   simp[World.setCell,Array.getElem?_modify,h]
  obtain⟨w',I,y⟩:=lM (q:=q) l (i+1) e3 (λu M=>h1 u (List.mem_cons_of_mem _ M)) (λj J=>by have O:=E (j+1) (by omega);rw[Array.size_setIfInBounds];omega) (λj J=>by have:=D (j+1) (by omega);rw[show q+(i+1)+j=q+i+(j+1) by omega];exact this);refine⟨w',?_,y.os,y.tape,y.output,y.size.trans (by simp[World.setCell]),y.at_,λk F=>(y.oth k F).trans (Below.heap_setCell _ _ _ _ F)⟩;unfold storeCells;simp only[Sem.run_bind,hX,run_store P w _ v _ (one_cell (h1 v List.mem_cons_self)),G,H,Bool.false_eq_true,if_false,Result.andThen_ok];exact I
theorem VRL.one {m:Mp}{l D:List Value}(h:VRL m l D)(E:∀v∈l,MW v=true):∀v∈D,MW v=true:=by
 induction l generalizing D with
 |nil=>cases h;exact λ_ h=>absurd h (by simp)
 |cons x l H=>
  cases h with
  |cons G t=>
   intro v y;rcases List.mem_cons.1 y with rfl|y
   ·exact G.one (E _ List.mem_cons_self)
   ·exact H t (λu F=>E u (List.mem_cons_of_mem _ F)) v y
def Rb (l:List Value):Bool:=List.rec true (λv _ ih=>bif MW v then ih else false) l
theorem Gv {l:List Value}(h:Rb l=true):∀v∈l,MW v=true:=by
 induction l with
 |nil=>exact λ_ h=>absurd h (by simp)
 |cons x l E=>
  have h:(bif MW x then Rb l else false)=true:=h;cases D:MW x with
  |false=>rw[D]at h;cases h
  |true=>
   rw[D]at h;intro v y;rcases List.mem_cons.1 y with rfl|y
   ·exact D
   ·exact E h v y
def L2 (s:StE)(k:Nat)(ao:AO)(K:StE->Option Rs):Option Rs:=match s with
 |⟨h,nx⟩=>bif Nat.ble 64 k&&Nat.ble (k+2) 16384 then uR (some ao) 14 h k λh=>K ⟨h,nx⟩ else none
theorem mz {s:StE}{ao:AO}{K:StE->Option Rs}{r:Rs}(h:L2 s k ao K=some r):∃s',K s'=some r/\64 <=k/\s'.nx=s.nx/\∀j,s'.h.get j=if j=k then some ao else s.h.get j:=by
 cases s with|mk h0 nx0=>
 unfold L2 at h;simp only at h;cases y:(Nat.ble 64 k&&Nat.ble (k+2) 16384)with
 |false=>rw[y]at h;cases h
 |true=>
  rw[y,cond_true,nz]at h;simp only[Bool.and_eq_true,Nat.ble_eq]at y;exact⟨_,h,y.1,rfl,λj=>Tr.get_put (some ao) 14 h0 k y.2 j⟩
def Se (s:StE)(g:Bool)(ao:AO)(K:Nat->StE->Option Rs):Option Rs:=mK (bif g then Nat.succ (2*s.nx)else 2*s.nx) λk=>mK (Nat.succ s.nx) λnx=>
 bif Nat.ble (k+2) 16384 then uR (some ao) 14 s.h k λh=>K k ⟨h,nx⟩ else none
theorem xS {s:StE}{g:Bool}{ao:AO}{K:Nat->StE->Option Rs}{r:Rs}(h:Se s g ao K=some r):∃k s',K k s'=some r/\k=(bif g then 2*s.nx+1 else 2*s.nx)/\s'.nx=s.nx+1/\
 ∀j,s'.h.get j=if j=k then some ao else s.h.get j:=by
 unfold Se at h;rw[cw,cw]at h;refine⟨(bif g then Nat.succ (2*s.nx)else 2*s.nx),?_⟩;cases y:Nat.ble ((bif g then Nat.succ (2*s.nx)else 2*s.nx)+2) 16384 with
 |false=>rw[y]at h;cases h
 |true=>
  rw[y,cond_true,nz]at h;exact⟨_,h,rfl,rfl,λj=>Tr.get_put (some ao) 14 s.h (bif g then Nat.succ (2*s.nx)else 2*s.nx) (Nat.le_of_ble_eq_true y) j⟩
theorem Sim.alloc {m:Mp}{s s':StE}(y:Sim m s w.heap){ao:AO}{o:Obj}(O:k=2*s.nx)(aa:s'.nx=s.nx+1)(D:∀j,s'.h.get j=if j=k then some ao else s.h.get j)
 (R:∀H:Mp,m.le H->OR H ⟨w.heap.size,0,none⟩ ao o):m.le (m.set k ⟨w.heap.size,0,none⟩)/\Sim (m.set k ⟨w.heap.size,0,none⟩) s' (w.heap.push o)/\
  Nxt w (Own m s) { w with heap:=w.heap.push o } (Own (m.set k ⟨w.heap.size,0,none⟩) s'):=by
 have J:m k=none:=y.fresh k (by omega);have E:=Mp.le_set (p:=⟨w.heap.size,0,none⟩) J;have G:∀j,s'.h.get j=if j=k then some ao else if j=k then none else s.h.get j:=λj=>by rw[D];split <;> rfl
 have V:Sim (m.set k ⟨w.heap.size,0,none⟩) s' (w.heap.push o):=y.put (k:=k) (d:=k) (ao:=ao) (p:=⟨w.heap.size,0,none⟩) (o:=o) E (by omega) (by omega) G (Mp.set_at _ _ _) (Mp.set_ne _ _ _) (by simp) (R _ E)
  ⟨by rw[O,Nat.mul_mod_right];rfl,rfl⟩ (λb F Z=>by rw[Array.getElem?_push,if_neg F]) (λj q _ _ M U=>by have:=y.lt M U;show q.blk≠w.heap.size;omega) (by have:=y.low.1;omega) (by simp) (λg D=>by obtain⟨_,Y,h1,I,_⟩:=y.low;rw[D]at h1;cases h1;exact I)
 refine⟨E,V,rfl,rfl,rfl,by simp,?_,λb F _=>by show(w.heap.push o)[b]? =_;rw[Array.getElem?_push,if_neg (by omega)]⟩;exact Sim.put_own (hp:=w.heap) G (Mp.set_at _ _ _) (Mp.set_ne _ _ _) (.inr (Nat.le_refl _))
theorem Sim.turn {m:Mp}{s s':StE}{w w':World}(y:Sim m s w.heap){M ao:AO}{o:Obj}{p:Pl}(E:64 <=k)(Z:s.h.get k=some M)(hp:m k=some p)(an:s'.nx=s.nx)(F:∀j,s'.h.get j=if j=k then some ao else s.h.get j)
 (ac:w'.heap[p.blk]? =some o) (ad:OR m p ao o) (av:w'.heap.size=w.heap.size) (I:∀b,b≠p.blk->w'.heap[b]? =w.heap[b]?) (h1:w'.os=w.os) (O:w'.tape=w.tape) (R:w'.output=w.output):
 Sim m s' w'.heap/\Nxt w (Own m s) w' (Own m s'):=by
 have H:∀j,s'.h.get j=if j=k then some ao else if j=k then none else s.h.get j:=λj=>by rw[F];split <;> rfl
 have D:(s.h.get k).isSome:=by rw[Z];rfl
 have aj:=y.num D;have J:Own m s p.blk:=⟨k,p,E,D,hp,rfl⟩
 refine⟨y.put (k:=k) (d:=k) (ao:=ao) (p:=p) (o:=o) m.le_refl (by omega) (by omega) H hp (λ_ _=>rfl) ac ad (y.odd _ _ hp) (λb U _=>I b U) (λj q V _ Y af e=>V (y.apart j k q p Y D af hp e)) E (by omega)
  (λg F=>by obtain⟨_,ag,G,_,e3⟩:=y.low;rw[F]at G;cases G;exact(e3 k p D hp).2 E),h1,O,R,by omega,
  Sim.put_own (hp:=w.heap) H hp (λ_ _=>rfl) (.inl J),λb _ aa=>I b (λe=>aa (e▸J))⟩
def ct:Value->List Value
 |.agg ⟨l⟩=>l
 |v=>[v]
theorem jl (v:Value):v.cells.toList=ct v:=by cases v <;> rfl
theorem VR.cellsL {m:Mp}{v v':Value}(h:VR m v v'):VRL m (ct v) (ct v'):=by
 cases h with
 |@same v h=>cases v <;> first|exact .cons (.same h) .nil|exact nomatch (show false=true from h)
 |ptr h=>exact .cons (.ptr h) .nil
 |slice h E=>exact .cons (.slice h E) .nil
 |map h=>exact .cons (.map h) .nil
 |agg h=>exact h
 |tuple h=>exact .cons (.tuple h) .nil
 |iface h=>exact .cons (.iface h) .nil
 |func h1 y D=>exact .cons (.func h1 y D) .nil
def Qy (P:Program)(s:StE)(t:TypeId)(a v:Value)(K:StE->Option Rs):Option Rs:=match a with
 |.pointer (some ⟨b,o,none⟩)=>match s.h.get b with
  |some (.cells c n fz te es)=>match Hu c o (ct v).length with
   |some _=>bif Nat.beq (ct v).length (tD P t)&&(vp P t&&(Rb (ct v)&&(Nat.ble fz o&&(Nat.ble (o+(ct v).length) n&&Nat.ble (o+(ct v).length+1) 16384))))then
    zt (ct v) c o λc=>L2 s b (.cells c n fz te es) K else none
   |none=>none
  |_=>none
 |_=>none
theorem Qz {s:StE}{a v:Value}{K:StE->Option Rs}{r:Rs}(h:Qy P s t a v K=some r):
 ∃s',K s'=some r/\∀(m:Mp) (w:World) (E v':Value),Sim m s w.heap->VR m a E->VR m v v'->∃w',(Instr.storeAt t E v').run P w=.ok () w'/\Sim m s' w'.heap/\Nxt w (Own m s) w' (Own m s'):=by
 unfold Qy at h;split at h
 ·rename_i b o;split at h
  ·rename_i c n ad b1 bs U;split at h
   ·rename_i bu a9;cases D:(Nat.beq (ct v).length (tD P t)&&(vp P t&&(Rb (ct v)&&(Nat.ble ad o&&(Nat.ble (o+(ct v).length) n&&Nat.ble (o+(ct v).length+1) 16384)))))with
    |false=>rw[D]at h;cases h
    |true=>
     rw[D,cond_true,kh]at h;simp only[Bool.and_eq_true,Nat.ble_eq]at D;obtain⟨c1,Z,aa,bq,c5,c6⟩:=D;have c1:=Nat.eq_of_beq_eq_true c1;obtain⟨s',an,aj,be,a0⟩:=mz h;refine⟨s',an,λm w E v' Y av bk=>?_⟩;obtain⟨p,hp,_,rfl⟩:=av.ptrI;obtain⟨p',bw,h1,af,ag⟩:=Y.at_ _ _ U;rw[hp]at h1;cases h1;obtain⟨cs,bl,a8,rfl,O,R,V⟩:=ag;have J:=bk.cellsL;have bb:=J.length;have I:∀j,j<(ct v).length->p.base+o+j<cs.size:=λj H=>by
      obtain⟨b0,bp⟩:=mZ a9;have M:=bp j H;rw[List.getElem?_eq_getElem (by omega)]at M;obtain⟨_,b2,F,_⟩:=O _ _ M;have:=(Array.getElem?_eq_some_iff.1 F).1;omega
     obtain⟨w',F,y⟩:=lM (P:=P) (q:=p.base+o) (ct v') 0 af (J.one (Gv aa)) (λj H=>I j (by omega)) (λj H=>by have bt:=I j (by omega);have:=R (o+j) (by omega) (by omega) (by omega);rw[show p.base+o+0+j=p.base+(o+j) by omega];exact this);refine⟨w',?_,Y.turn aj U hp be a0 y.at_ ?_ y.size y.oth y.os y.tape y.output⟩
     ·show(storeVar t ⟨p.blk,p.base+o,none⟩ v').run P w=_;unfold storeVar;have ac:v'.cells.size=tD P t:=by rw[<- Array.length_toList,jl,<- bb,c1]
      simp only[Sem.run_bind,Cy Z,Result.andThen_ok,ac,ne_eq,not_true_eq_false,if_false];rw[jl];exact F
     ·exact⟨_,bl,a8,rfl,CR.putL O (Nat.le_refl _) c5 c6 J I,(λi a b c=>R i a b (by rw[kC]at c;exact c)),λs G=>by rw[kC];exact V.1 s G,λG=>by rw[kC];exact V.2 G⟩
   ·cases h
  ·cases h
 ·cases h
structure FA where
 fn:FuncId
 n:Nat
 tm:Tr Value
 todo:List Item
 ds:List Deferred
 ret:Bool
 kind:CallKind
 rd:Option Nat
structure Cfq where
 fr:FA
 cs:List FA
 st:StE
inductive NA where
 |val (v:Value)
 |enter (f:FuncId) (args:List Value)
 |yield (l:Nat) (args:List Value)
 |defer (t:Target) (args:List Value)
 |recover
inductive TdR (m:Mp):List Item->List Item->Prop
 |nil:TdR m [] []
 |code {c:Code} {l l':List Item} (t:TdR m l l'):TdR m (.code c::l) (.code c::l')
 |inBlock {i:Nat} {l l':List Item} (t:TdR m l l'):TdR m (.inBlock i::l) (.inBlock i::l')
 |inLoop {c:Code} {l l':List Item} (t:TdR m l l'):TdR m (.inLoop c::l) (.inLoop c::l')
 |inScope {c:Code} {l l':List Item} (t:TdR m l l'):TdR m (.inScope c::l) (.inScope c::l')
 |inRegion {o:Array Oper} {x:List Nat} {l l':List Item} (t:TdR m l l'):TdR m (.inRegion o x::l) (.inRegion o x::l')
 |inRange {r r':Nat} {l l':List Item} (h:Nw m r r') (t:TdR m l l'):TdR m (.inRangeFunc r::l) (.inRangeFunc r'::l')
 |endRange {r r':Nat} {l l':List Item} (h:Nw m r r') (t:TdR m l l'):TdR m (.endRangeFunc r::l) (.endRangeFunc r'::l')
 |begin {l l':List Item} (t:TdR m l l'):TdR m (.beginRound::l) (.beginRound::l')
theorem TdR.mono {m E:Mp}(D:m.le E){l l':List Item}(h:TdR m l l'):TdR E l l':=by
 induction h with
 |nil=>exact .nil
 |code _ y=>exact .code y
 |inBlock _ y=>exact .inBlock y
 |inLoop _ y=>exact .inLoop y
 |inScope _ y=>exact .inScope y
 |inRegion _ y=>exact .inRegion y
 |inRange h _ y=>exact .inRange (h.mono D) y
 |endRange h _ y=>exact .endRange (h.mono D) y
 |begin _ y=>exact .begin y
theorem TdR.exitTo {m:Mp}{id:Nat}{l y:List Item}(h:TdR m l y):(∀k,exitTo id l=some k->∃k',Go.exitTo id y=some k'/\TdR m k k')/\(Go.exitTo id l=none->Go.exitTo id y=none):=by
 induction h with
 |nil=>exact⟨λk D=>(nomatch D),λ_=>rfl⟩
 |@inBlock i l y t E=>
  unfold Go.exitTo;by_cases e:(i==id)=true
  ·simp only[e,if_true];exact⟨λk D=>by cases D;exact⟨_,rfl,t⟩,λh=>nomatch h⟩
  ·simp only[e,Bool.false_eq_true,if_false];exact E
 |_=>unfold Go.exitTo;assumption
theorem TdR.gotoIn {m:Mp}{id:Nat}{l y:List Item}(h:TdR m l y):(∀k,gotoIn id l=some k->∃k',Go.gotoIn id y=some k'/\TdR m k k')/\(Go.gotoIn id l=none->Go.gotoIn id y=none):=by
 induction h with
 |nil=>exact⟨λk D=>(nomatch D),λ_=>rfl⟩
 |@inScope c l y t E=>
  unfold Go.gotoIn;cases F:findLabel c id with
  |none=>exact E
  |some rest=>exact⟨λk D=>by cases D;exact⟨_,rfl,.code (.inScope t)⟩,λh=>nomatch h⟩
 |_=>unfold Go.gotoIn;assumption
def RdR (m:Mp)(r r':Option Nat):Prop:=match r with
 |none=>r'=none
 |some l=>∃l',r'=some l'/\Nw m l l'
theorem RdR.mono {m y:Mp}(E:m.le y){r r':Option Nat}(h:RdR m r r'):RdR y r r':=by
 cases r with
 |none=>exact h
 |some l=>obtain⟨F,h1,D⟩:=h;exact⟨F,h1,D.mono E⟩
def Sb:Bool->FrameMode
 |true=>.returning
 |false=>.run
def bF (fn:FuncId)(kind:CallKind)(ro:Option Nat):Frame:= { fn,tmps:= #[],todo:=[],defers:=[],mode:=.run,kind,roundOf:=ro }
def cF (fn:FuncId)(kind:CallKind)(ro:Option Nat)(tmps:Array Value)(td:List Item)(df:List Deferred)(b:Bool):Frame:= { fn,tmps,todo:=td,defers:=df,mode:=Sb b,kind,roundOf:=ro }
inductive FrR (m:Mp):FA->Frame->Prop
 |mk {fn:FuncId} {n:Nat} {tm:Tr Value} {todo td:List Item} {ds df:List Deferred} {ret:Bool} {kind:CallKind} {rd ro:Option Nat} {tmps:Array Value}
  (ht:TmR m n tm tmps) (hk:TdR m todo td) (hd:DsR m ds df) (hr:RdR m rd ro):FrR m ⟨fn,n,tm,todo,ds,ret,kind,rd⟩ (cF fn kind ro tmps td df ret)
theorem FrR.mono {m D:Mp}(y:m.le D){a:FA}{f:Frame}(h:FrR m a f):FrR D a f:=by
 cases h with
 |mk h1 E F G=>exact .mk (h1.mono y) (E.mono y) (F.mono y) (G.mono y)
inductive FsR (m:Mp):List FA->List Frame->Prop
 |nil:FsR m [] []
 |cons {a:FA} {f:Frame} {l:List FA} {l':List Frame} (h:FrR m a f) (t:FsR m l l'):FsR m (a::l) (f::l')
theorem FsR.mono {m y:Mp}(D:m.le y){a:List FA}{f:List Frame}(h:FsR m a f):FsR y a f:=by
 induction h with
 |nil=>exact .nil
 |cons h _ E=>exact .cons (h.mono D) E
def Mv (P:Program)(m:Mp)(w:World)(s:StE)(M:Machine)(cs0:List Frame)(C':Cfq):Prop:=
 ∃m' fr' cs' w',m.le m'/\Steps P M (lone fr' (cs'++cs0) w')/\FrR m' C'.fr fr'/\FsR m' C'.cs cs'/\Sim m' C'.st w'.heap/\Nxt w (Own m s) w' (Own m' C'.st)
def evA (tm:Tr Value):Operand->Option Value
 |.tmp t=>tm.get t
 |.const v=>bif mg v then some v else none
 |.global g=>bif Nat.ble g 31 then some (.pointer (some ⟨2*g,0,none⟩))else none
 |.func f=>some (.func (.func f) #[] #[])
theorem AU {m:Mp}{a:Act}(h:TmR m n G a.tmps){x:Operand}{v:Value}(y:evA G x=some v):VR m v (a.eval x):=by
 cases x with
 |tmp t=>obtain⟨v',h1,F⟩:=h.at_ t v y;show VR m v (a.tmps.getD t undef);unfold undef;rw[h1];exact F
 |const u=>
  have y:(bif mg u then some u else none)=some v:=y;cases D:mg u with
  |false=>rw[D]at y;cases y
  |true=>rw[D]at y;cases y;exact VR.refl D
 |global g=>
  have y:(bif Nat.ble g 31 then some (Value.pointer (some ⟨2*g,0,none⟩))else none)=some v:=y;cases E:Nat.ble g 31 with
  |false=>rw[E]at y;cases y
  |true=>rw[E]at y;cases y;exact VR.ptr (p:=⟨g,0,none⟩) (h.glob g (Nat.le_of_ble_eq_true E))
 |func f=>cases y;exact VR.refl rfl
def yC (n:Nat)(tm:Tr Value)(d:Option Tmp)(v:Value)(K:Tr Value->Option Rs):Option Rs:=match d with
 |none=>K tm
 |some d=>bif Nat.ble (Nat.succ d) n&&Nat.ble (d+2) 16384 then uR (some v) 14 tm d K else none
theorem qN {d:Option Tmp}{v:Value}{K:Tr Value->Option Rs}{r:Rs}(y:yC n G d v K=some r):
 ∃F,K F=some r/\∀(m:Mp) (a:Act) (v':Value),TmR m n G a.tmps->VR m v v'->TmR m n F (a.put d v').tmps:=by
 cases d with
 |none=>exact⟨G,y,λ_ _ _ h _=>h⟩
 |some d=>
  have y:(bif Nat.ble (Nat.succ d) n&&Nat.ble (d+2) 16384 then uR (some v) 14 G d K else none)=some r:=y;cases D:(Nat.ble (Nat.succ d) n&&Nat.ble (d+2) 16384)with
  |false=>rw[D]at y;cases y
  |true=>
   rw[D,cond_true,nz]at y;simp only[Bool.and_eq_true,Nat.ble_eq]at D;refine⟨_,y,λm a v' h J=>⟨by simp[Act.put,h.size],λi u E=>?_,h.glob⟩⟩;rw[Tr.get_put (some v) 14 G d D.2]at E;have O:=h.size;by_cases e:i=d
   ·rw[if_pos e]at E;cases E;subst e;have I:i<a.tmps.size:=by have:=D.1;omega
    exact⟨v',by simp[Act.put,Array.getD_eq_getD_getElem?,I],J⟩
   ·rw[if_neg e]at E;obtain⟨M,h1,H⟩:=h.at_ i u E;exact⟨M,by simp only[Act.put,Array.getD_eq_getD_getElem?,Array.getElem?_setIfInBounds_ne (Ne.symm e)]at h1 ⊢;exact h1,H⟩
def WJ (c:FA)(v:Value)(K:FA->Option Rs):Option Rs:=match c with
 |⟨fn,n,tm,todo,ds,ret,kind,rd⟩=>match todo with
  |.inRegion ops (i::rest)::k=>yC n tm ((ops[i]?).bind (·.dst)) v λtm=>K ⟨fn,n,tm,.inRegion ops rest::k,ds,ret,kind,rd⟩
  |.inRangeFunc l::k=>K ⟨fn,n,tm,.endRangeFunc l::k,ds,ret,kind,rd⟩
  |_=>none
theorem OK {c:FA}{v:Value}{K:FA->Option Rs}{r:Rs}(y:WJ c v K=some r):∃c',K c'=some r/\c'.fn=c.fn/\∀(m:Mp) (f:Frame) (v':Value),FrR m c f->VR m v v'->FrR m c' (f.finish v'):=by
 cases c with
 |mk J n aa ad Y ret kind rd=>
  unfold WJ at y;simp only at y;split at y
  ·rename_i ops i rest k;obtain⟨ac,h1,U⟩:=qN y;refine⟨_,h1,rfl,λm f v' h M=>?_⟩;cases h with
   |@mk _ _ _ _ Z _ D _ _ _ O I G H E F=>
   cases H with
   |@inRegion _ _ _ R t=>
    have e:(cF J kind O I (.inRegion ops (i::rest)::R) D ret).finish v'=cF J kind O ((⟨I,D⟩:Act).put ((ops[i]?).bind (·.dst)) v').tmps (.inRegion ops rest::R) D ret:=by
     unfold Frame.finish cF Act.put;simp only;cases(ops[i]?).bind (·.dst) <;> rfl
    rw[e];exact .mk (U m ⟨I,D⟩ v' G M) (.inRegion t) E F
  ·rename_i l k;refine⟨_,y,rfl,λm f v' h M=>?_⟩;cases h with
   |mk G H E F=>
   cases H with
   |inRange V t=>exact .mk G (.endRange V t) E F
  ·cases y
def Ny (P:Program)(f:FuncId)(args:List Value)(kind:CallKind)(K:FA->Option Rs):Option Rs:=match P.funcs[f]? with
 |some fn=>match fn.body with
  |some c=>bif Nat.ble (args.length+1) 16384 then zt args .nil 0 λtm=>mK (args.length+(fn.ntmps-args.length)) λn=>K ⟨f,n,tm,[.code c],[],false,kind,none⟩ else none
  |none=>none
 |none=>none
theorem xI {f:FuncId}{args:List Value}{kind:CallKind}{K:FA->Option Rs}{r:Rs}(y:Ny P f args kind K=some r):
 ∃A,K A=some r/\A.fn=f/\∀(m:Mp) (args':List Value),Yq m->VRL m args args'->FrR m A (Frame.enter P f args'.toArray kind):=by
 unfold Ny at y;split at y
 ·rename_i I R;split at y
  ·rename_i c O;cases E:Nat.ble (args.length+1) 16384 with
   |false=>rw[E]at y;cases y
   |true=>
    rw[E,cond_true,kh,cw]at y;refine⟨_,y,rfl,λm args' U H=>?_⟩;have ac:=H.length;have e:Frame.enter P f args'.toArray kind=cF f kind none (args'.toArray++Array.replicate (I.ntmps-args'.toArray.size) undef) [.code c] [] false:=by
     simp[Frame.enter,cF,R,O,Sb]
    rw[e];refine .mk ⟨by simp;omega,λi v G=>?_,U⟩ (.code .nil) .nil rfl;have J:CR m 0 (.nil:Tr Value) 0 (Array.replicate args.length undef):=λi v G=>nomatch (show(none:Option Value)=some v from G);have h1:=CR.putL (n':=args.length) J (Nat.zero_le _) (by omega) (by have:=Nat.le_of_ble_eq_true E;omega) H (o:=0) (by intro j aa;simp;omega);obtain⟨F,v',D,M⟩:=h1 i v G;refine⟨v',?_,M⟩;have key:∀(l:List Value) (cs:Array Value) (o:Nat),o+l.length <=cs.size->∀j,(yp cs o l)[j]? =if o <=j/\j<o+l.length then l[j-o]? else cs[j]? :=by
     intro l;induction l with
     |nil=>intro cs o _ j;rw[yp,if_neg (by simp)]
     |cons x l Z=>
      intro cs o Y j;simp only[List.length_cons]at Y;rw[yp,Z _ _ (by rw[Array.size_setIfInBounds];omega)];simp only[List.length_cons];by_cases h1:j=o
      ·subst h1;rw[if_neg (by omega),if_pos (by omega)];simp[Array.getElem?_setIfInBounds];omega
      ·by_cases F:o+1 <=j/\j<o+1+l.length
       ·rw[if_pos F,if_pos (by omega),show j-o=(j-(o+1))+1 by omega];rfl
       ·rw[if_neg F,if_neg (by omega),Array.getElem?_setIfInBounds_ne (Ne.symm h1)]
    simp only[Nat.zero_add,Nat.add_zero]at D;rw[key args' _ 0 (by simp;omega),if_pos (by omega)]at D;simp only[Nat.sub_zero]at D;have V:i<args'.length:=by omega
    simp only[Array.getD_eq_getD_getElem?,Array.getElem?_append,List.size_toArray,V,if_true,List.getElem?_toArray,D];rfl
  ·cases y
 ·cases y
def Q1 (P:Program)(m:Mp)(s:StE)(w:World)(sem:Sem Next)(na:NA)(s':StE):Prop:=match na with
 |.val v=>∃m' v' w',(sem.run P w=.ok (.value v') w'\/(sem.run P w=.ok .skip w'/\v'=undef))/\m.le m'/\VR m' v v'/\Sim m' s' w'.heap/\Nxt w (Own m s) w' (Own m' s')
 |.enter f args=>s'=s/\∃args',VRL m args args'/\sem.run P w=.ok (.enter f args'.toArray) w
 |.yield l args=>s'=s/\∃l' args',Nw m l l'/\VRL m args args'/\sem.run P w=(Instr.yield l' args'.toArray).run P w
 |.defer t args=>s'=s/\∃t' args',TgR m t t'/\VRL m args args'/\sem.run P w=.ok (.defer ⟨t',args'.toArray⟩) w
 |.recover=>s'=s/\sem.run P w=.ok .recover w
abbrev dX:=Operand->Option Value
def evE (tm:dX)(x:Operand):Option Value:=tm x
def EnR (m:Mp)(_:Nat)(tm:dX)(a:Act):Prop:=∀x v,tm x=some v->VR m v (a.eval x)
theorem TmR.en {m:Mp}{a:Act}(h:TmR m n G a.tmps):EnR m n (evA G) a:=λ_ _ y=>AU h y
abbrev OpF:=StE->dX->Oper->(NA->StE->Option Rs)->Option Rs
def xC (P:Program)(opA:OpF):Prop:=∀s tm o K r,opA s tm o K=some r->∃na s',K na s'=some r/\∀m n (a:Act) w,EnR m n tm a->Sim m s w.heap->Q1 P m s w (execOp a.eval o) na s'
def bot (fr:FA):List FA->FuncId
 |[]=>fr.fn
 |c::cs=>bot c cs
theorem dP {a b:FA}(h:a.fn=b.fn)(cs:List FA):bot a cs=bot b cs:=by cases cs with
 |nil=>exact h
 |cons c cs=>rfl
def oG (P:Program)(rec:Cfq->Option Rs):Prop:=∀C r,rec C=some r->∀m fr cs' w,FrR m C.fr fr->FsR m C.cs cs'->Sim m C.st w.heap->∀cs0,∃m' v' w' frE,m.le m'/\VR m' r.1 v'/\Sim m' r.2 w'.heap/\
 Nxt w (Own m C.st) w' (Own m' r.2)/\Steps P (lone fr (cs'++cs0) w) (lone frE cs0 w')/\frE.fn=bot C.fr C.cs/\frE.leaving P w' (.returned v')
abbrev DrF:=(Cfq->Option Rs)->StE->Nat->Tr Value->Array Oper->(Tr Value->StE->Option Rs)->Option Rs
def Aq (P:Program)(drA:DrF):Prop:=∀rec,oG P rec->∀s n tm ops K r,drA rec s n tm ops K=some r->∃tm' s',K tm' s'=some r/\∀m (a:Act) w (b:Frame) k cs id,TmR m n tm a.tmps->Sim m s w.heap->
 ∃m' a' w',m.le m'/\a'.defers=a.defers/\TmR m' n tm' a'.tmps/\Sim m' s' w'.heap/\Nxt w (Own m s) w' (Own m' s')/\Steps P (lone (b.atR a (.code (.region id ops true)::k)) cs w) (lone (b.atR a' k) cs w')
def Yh:CallKind->Bool
 |.normal=>true
 |_=>false
def nQ:Op->Bool
 |.defer _=>true
 |_=>false
def zk (P:Program)(f:FuncId):Bool:=match P.funcs[f]? with
 |some fn=>fn.body.isSome && !(fn.name== "runtime.NumGoroutine")
 |none=>false
theorem qK {f:FuncId}{args:Array Value}(y:zk P f=true)(w:World):(callFunc f args).run P w=.ok (.enter f args) w:=by
 unfold zk at y;split at y
 ·rename_i D E;simp only[Bool.and_eq_true,Bool.not_eq_true']at y;have:D.body.isNone=false:=by cases F:D.body <;> simp_all
  simp only[callFunc,Sem.run_bind,run_program,Result.andThen_ok,E,y.2,Bool.false_eq_true,if_false,this,Sem.run_pure]
 ·cases y
def vL (jump:Option Code)(A:FA)(cs:List FA)(st:StE)(K:Cfq->Option Rs):Option Rs:=match A with
 |⟨fn,n,tm,todo,ds,_,kind,rd⟩=>match rd with
  |none=>match jump with
   |none=>K ⟨⟨fn,n,tm,todo,ds,true,kind,none⟩,cs,st⟩
   |some .ret=>K ⟨⟨fn,n,tm,todo,ds,true,kind,none⟩,cs,st⟩
   |_=>none
  |some l=>match st.h.get l with
   |some (.loop _ _ lf ln ltm ps asv b d)=>match cs with
    |c::rest=>bif Yh kind then L2 st l (.loop (bif jump.isNone then .ready else .done) jump lf ln ltm ps asv b d) λst=>WJ c (.bool jump.isNone) λc=>K ⟨c,rest,st⟩ else none
    |[]=>none
   |_=>none
def Lp (ops:Array Oper)(tm:Tr Value)(g:Option (Nat×Bool)):Option Bool:=match g with
 |none=>some true
 |some (j,want)=>match(ops[j]?).bind (·.dst)with
  |some d=>match tm.get d with
   |some (.bool b)=>some (b==want)
   |some (.tuple _)=>some false
   |_=>none
  |none=>none
def XQ (P:Program)(opA:OpF)(A:FA)(cs:List FA)(st:StE)(ops:Array Oper)(i:Nat)(rest:List Nat)(k:List Item)(K:Cfq->Option Rs):Option Rs:=match A with
 |⟨fn,n,tm,_,ds,_,kind,rd⟩=>match ops[i]? with
  |none=>none
  |some o=>match Lp ops tm o.guard with
   |none=>none
   |some false=>yC n tm o.dst undef λtm=>K ⟨⟨fn,n,tm,.inRegion ops rest::k,ds,false,kind,rd⟩,cs,st⟩
   |some true=>bif nQ o.op&&rd.isSome then none else opA st (evA tm) o λna st=>match na with
    |.val v=>yC n tm o.dst v λtm=>K ⟨⟨fn,n,tm,.inRegion ops rest::k,ds,false,kind,rd⟩,cs,st⟩
    |.enter f args=>Ny P f args .normal λB=>K ⟨B,⟨fn,n,tm,.inRegion ops (i::rest)::k,ds,false,kind,rd⟩::cs,st⟩
    |.yield l args=>match st.h.get l with
     |some (.loop _ _ lf ln ltm ps asv b _)=>match ps.toList,args with
      |[],[]=>K ⟨⟨lf,ln,ltm,[.code asv,.beginRound,.code b],[],false,.normal,some l⟩,⟨fn,n,tm,.inRegion ops (i::rest)::k,ds,false,kind,rd⟩::cs,st⟩
      |[p],[x]=>yC ln ltm (some p) x λltm=>K ⟨⟨lf,ln,ltm,[.code asv,.beginRound,.code b],[],false,.normal,some l⟩,⟨fn,n,tm,.inRegion ops (i::rest)::k,ds,false,kind,rd⟩::cs,st⟩
      |[p,q],[x,y]=>yC ln ltm (some p) x λltm=>yC ln ltm (some q) y λltm=>K ⟨⟨lf,ln,ltm,[.code asv,.beginRound,.code b],[],false,.normal,some l⟩,⟨fn,n,tm,.inRegion ops (i::rest)::k,ds,false,kind,rd⟩::cs,st⟩
      |_,_=>none
     |_=>none
    |.defer t args=>yC n tm o.dst undef λtm=>K ⟨⟨fn,n,tm,.inRegion ops rest::k,⟨t,args.toArray⟩::ds,false,kind,rd⟩,cs,st⟩
    |.recover=>match rd with
     |some _=>none
     |none=>match kind,cs with
      |.normal,_=>yC n tm o.dst .nilIface λtm=>K ⟨⟨fn,n,tm,.inRegion ops rest::k,ds,false,kind,none⟩,cs,st⟩
      |.deferred,_::_=>yC n tm o.dst .nilIface λtm=>K ⟨⟨fn,n,tm,.inRegion ops rest::k,ds,false,kind,none⟩,cs,st⟩
      |_,_=>none
def H6 (P:Program)(drA:DrF)(rec:Cfq->Option Rs)(c:Code)(A:FA)(cs:List FA)(st:StE)(k:List Item)(K:Cfq->Option Rs):Option Rs:=match A with
 |⟨fn,n,tm,todo,ds,_,kind,rd⟩=>match c with
  |.skip=>K ⟨⟨fn,n,tm,k,ds,false,kind,rd⟩,cs,st⟩
  |.label _=>K ⟨⟨fn,n,tm,k,ds,false,kind,rd⟩,cs,st⟩
  |.region _ ops draw=>bif draw then drA rec st n tm ops λtm st=>K ⟨⟨fn,n,tm,k,ds,false,kind,rd⟩,cs,st⟩
   else K ⟨⟨fn,n,tm,.inRegion ops (List.range ops.size)::k,ds,false,kind,rd⟩,cs,st⟩
  |.seq a b=>K ⟨⟨fn,n,tm,.code a::.code b::k,ds,false,kind,rd⟩,cs,st⟩
  |.cond x a b=>match evA tm x with
   |some (.bool t)=>K ⟨⟨fn,n,tm,.code (bif t then a else b)::k,ds,false,kind,rd⟩,cs,st⟩
   |_=>none
  |.block id b=>K ⟨⟨fn,n,tm,.code b::.inBlock id::k,ds,false,kind,rd⟩,cs,st⟩
  |.loop b=>K ⟨⟨fn,n,tm,.code b::.inLoop b::k,ds,false,kind,rd⟩,cs,st⟩
  |.scope b=>K ⟨⟨fn,n,tm,.code b::.inScope b::k,ds,false,kind,rd⟩,cs,st⟩
  |.exit id=>match exitTo id k with
   |some k=>K ⟨⟨fn,n,tm,k,ds,false,kind,rd⟩,cs,st⟩
   |none=>bif rd.isSome then vL (some (.exit id)) ⟨fn,n,tm,todo,ds,false,kind,rd⟩ cs st K else none
  |.goto l=>match gotoIn l k with
   |some k=>K ⟨⟨fn,n,tm,k,ds,false,kind,rd⟩,cs,st⟩
   |none=>none
  |.ret=>vL (some .ret) ⟨fn,n,tm,todo,ds,false,kind,rd⟩ cs st K
  |.rangeFunc f ps asv b=>match evA tm f with
   |some (.func (.func g) ⟨first⟩ ⟨cap⟩)=>bif zk P g then match rd with
    |none=>Se st false (.defs (some [])) λd st=>Se st false (.loop .ready none fn n tm ps asv b d) λl st=>
     Ny P g (first++.func (.yield l) #[] #[]::cap) .normal λB=>K ⟨B,⟨fn,n,tm,.inRangeFunc l::k,⟨.collected d,#[]⟩::ds,false,kind,none⟩::cs,st⟩
    |some l0=>match st.h.get l0 with
     |some (.loop _ _ _ _ _ _ _ _ d)=>Se st false (.loop .ready none fn n tm ps asv b d) λl st=>
      Ny P g (first++.func (.yield l) #[] #[]::cap) .normal λB=>K ⟨B,⟨fn,n,tm,.inRangeFunc l::k,ds,false,kind,some l0⟩::cs,st⟩
     |_=>none
    else none
   |_=>none
  |.refuse _=>none
def Yk (P:Program)(tm:Tr Value)(st:StE)(l:List ResultVar):(List Value->Option Rs)->Option Rs:=
 List.rec (motive:=λ_=>(List Value->Option Rs)->Option Rs) (λK=>K []) (λx _ ih K=>match x with
  |.tmp t=>match tm.get t with
   |some v=>ih λl=>K (v::l)
   |none=>none
  |.cell a t=>match tm.get a with
   |some v=>uJ P st t v λv=>ih λl=>K (v::l)
   |none=>none) l
def Xv:List Value->Value
 |[v]=>v
 |l=>.tuple ⟨l⟩
def Vt (P:Program)(fn:FuncId)(tm:Tr Value)(st:StE)(K:Value->Option Rs):Option Rs:=match P.funcs[fn]? with
 |some f=>Yk P tm st f.results.toList λl=>K (Xv l)
 |none=>none
def Yl (P:Program)(A:FA)(cs:List FA)(st:StE)(K:Cfq->Option Rs):Option Rs:=match A with
 |⟨fn,n,tm,todo,ds,_,kind,rd⟩=>match ds with
  |⟨.collected r,_⟩::ds=>match st.h.get r with
   |some (.defs (some l))=>L2 st r (.defs none) λst=>K ⟨⟨fn,n,tm,todo,l++ds,true,kind,rd⟩,cs,st⟩
   |_=>none
  |⟨.fn (.func g) ⟨cap⟩,⟨args⟩⟩::ds=>bif zk P g then Ny P g (args++cap) .deferred λB=>K ⟨B,⟨fn,n,tm,todo,ds,true,kind,rd⟩::cs,st⟩ else none
  |[]=>match cs with
   |c::rest=>Vt P fn tm st λv=>match kind with
    |.normal=>WJ c v λc=>K ⟨c,rest,st⟩
    |.deferred=>bif c.ret then K ⟨c,rest,st⟩ else none
    |_=>none
   |[]=>none
  |_=>none
def CC (P:Program)(opA:OpF)(drA:DrF)(rec:Cfq->Option Rs)(C:Cfq)(K:Cfq->Option Rs):Option Rs:=match C with
 |⟨⟨fn,n,tm,todo,ds,ret,kind,rd⟩,cs,st⟩=>match ret with
  |true=>Yl P ⟨fn,n,tm,todo,ds,true,kind,rd⟩ cs st K
  |false=>match todo with
   |[]=>vL none ⟨fn,n,tm,[],ds,false,kind,rd⟩ cs st K
   |.code c::k=>H6 P drA rec c ⟨fn,n,tm,.code c::k,ds,false,kind,rd⟩ cs st k K
   |.inRegion ops []::k=>K ⟨⟨fn,n,tm,k,ds,false,kind,rd⟩,cs,st⟩
   |.inRegion ops (i::rest)::k=>XQ P opA ⟨fn,n,tm,.inRegion ops (i::rest)::k,ds,false,kind,rd⟩ cs st ops i rest k K
   |.inBlock _::k=>K ⟨⟨fn,n,tm,k,ds,false,kind,rd⟩,cs,st⟩
   |.inScope _::k=>K ⟨⟨fn,n,tm,k,ds,false,kind,rd⟩,cs,st⟩
   |.inLoop b::k=>K ⟨⟨fn,n,tm,.code b::.inLoop b::k,ds,false,kind,rd⟩,cs,st⟩
   |.beginRound::k=>match rd with
    |some l=>match st.h.get l with
     |some (.loop .ready pend lf ln ltm ps asv b d)=>L2 st l (.loop .busy pend lf ln ltm ps asv b d) λst=>K ⟨⟨fn,n,tm,k,ds,false,kind,some l⟩,cs,st⟩
     |_=>none
    |none=>none
   |.endRangeFunc l::k=>match st.h.get l with
    |some (.loop .busy _ _ _ _ _ _ _ _)=>none
    |some (.loop _ pend lf ln ltm ps asv b d)=>L2 st l (.loop .exhausted pend lf ln ltm ps asv b d) λst=>K ⟨⟨fn,n,tm,(match pend with|none=>k|some c=>.code c::k),ds,false,kind,rd⟩,cs,st⟩
    |_=>none
   |_=>none
def SpE (P:Program)(fr:FA)(cs:List FA)(st:StE)(K:Cfq->Option Rs)(r:Rs):Prop:=∃C',K C'=some r/\bot C'.fr C'.cs=bot fr cs/\
 ∀m f cs' w cs0,FrR m fr f->FsR m cs cs'->Sim m st w.heap->Mv P m w st (lone f (cs'++cs0) w) cs0 C'
theorem vt (B A:FA)(cs:List FA):bot B (A::cs)=bot A cs:=rfl
theorem mq {m:Mp}{st:StE}{D:Machine}{E:List Frame}{fr:FA}{cs:List FA}{y:Frame}{cs':List Frame}(H:Sim m st w.heap)(h:step P D=.next (lone y (cs'++E) w))(G:FrR m fr y)(F:FsR m cs cs'):
 Mv P m w st D E ⟨fr,cs,st⟩:=⟨m,y,cs',w,m.le_refl,.one h,G,F,H,Nxt.refl _ _⟩
theorem Gm {m:Mp}{w w':World}{st st':StE}{D:Machine}{E:List Frame}{fr:FA}{cs:List FA}{y:Frame}{cs':List Frame}(h:step P D=.next (lone y (cs'++E) w'))(H:FrR m fr y)(G:FsR m cs cs')
 (F:Sim m st' w'.heap/\Nxt w (Own m st) w' (Own m st')):Mv P m w st D E ⟨fr,cs,st'⟩:=⟨m,y,cs',w',m.le_refl,.one h,H,G,F.1,F.2⟩
theorem Sim.turnObj {m:Mp}{s s':StE}(D:Sim m s w.heap){E ao:AO}{o:Obj}{p:Pl}(F:64 <=k)(y:s.h.get k=some E)(hp:m k=some p)(I:s'.nx=s.nx)(H:∀j,s'.h.get j=if j=k then some ao else s.h.get j)
 (J:OR m p ao o):Sim m s' (w.putObj p.blk o).heap/\Nxt w (Own m s) (w.putObj p.blk o) (Own m s'):=
 D.turn F y hp I H (World.putObj_heap_same (D.lt (by rw[y];rfl) hp)) J (by simp[World.putObj]) (λb G=>World.putObj_heap_other G) rfl rfl rfl
theorem Bu {y:Option Code}{E:List Item}{M:List Deferred}{kind:CallKind}{cs:List FA}{st:StE}{K:Cfq->Option Rs}{r:Rs}
 (h:vL y ⟨H,n,G,E,M,false,kind,I⟩ cs st K=some r)
 (Z:∀(b:Frame) (a:Act) (D:List Item) (cs:List Frame) (w:World) (m:Mp),TdR m E D->b.roundOf=none->(∀j,y=some j->j=.ret)->step P (lone (b.atR a D) cs w)=.next (lone { b.atR a D with mode:=.returning } cs w))
 (bw:∀(b:Frame) (a:Act) (D:List Item) (c:Frame) (cs:List Frame) (w:World) (m:Mp) (l:Nat) (v:Value) (w':World),TdR m E D->b.roundOf=some l->b.kind=.normal->(Instr.endRound l y).run P w=.ok v w'->step P (lone (b.atR a D) (c::cs) w)=.next (lone (c.finish v) cs w')):
 SpE P ⟨H,n,G,E,M,false,kind,I⟩ cs st K r:=by
 unfold vL at h;simp only at h;cases I with
 |none=>
  have key:(∀j,y=some j->j=.ret)->K ⟨⟨H,n,G,E,M,true,kind,none⟩,cs,st⟩=some r->SpE P ⟨H,n,G,E,M,false,kind,none⟩ cs st K r:=λJ bs=>by
   refine⟨_,bs,dP (by rfl) _,λm f cs' w av U F O=>?_⟩;cases U with
   |mk ag R ad Y=>
    cases Y;exact mq O (Z (bF H kind none) ⟨_,_⟩ _ _ w m R rfl J) (.mk ag R ad rfl) F
  cases y with
  |none=>exact key (λj J=>by cases J) h
  |some j=>cases j <;> first|exact key (λj J=>by cases J;rfl) h|cases h
 |some l=>
  simp only at h;split at h
  ·rename_i s0 b2 aj ln b0 ps aa b d af;cases cs with
   |nil=>cases h
   |cons c rest=>
    simp only at h;cases V:Yh kind with
    |false=>rw[V]at h;cases h
    |true=>
     rw[V,cond_true]at h;obtain⟨st',h,be,bu,bq⟩:=mz h;obtain⟨c',h,bl,bp⟩:=OK h;have bt:kind=.normal:=by cases kind <;> first|rfl|cases V
     refine⟨_,h,dP (by exact bl) _,λm f cs' w av U F O=>?_⟩;cases U with
     |mk ag R ad Y=>
      obtain⟨b1,rfl,p,hp,rfl⟩:=Y;cases F with
      |cons bk F=>
       obtain⟨p',o,h1,a0,a8,an,ac,rfl,a9,bb⟩:=O.at_ _ _ af;rw[hp]at h1;cases h1;have Z:=O.turnObj (w:=w) (ao:=.loop (bif y.isNone then .ready else .done) y aj ln b0 ps aa b d) (o:=.loop ⟨if y.isNone then .ready else .done,y,aj,an,ps,aa,b,ac⟩) be af hp bu bq
        ⟨a8,an,ac,by cases y <;> rfl,a9,bb⟩
       exact Gm (bw (bF H kind (some p.blk)) ⟨_,_⟩ _ _ _ w m p.blk _ _ R rfl bt (run_endRound y a0)) (bp m _ (.bool y.isNone) bk (VR.refl rfl)) F Z
  ·cases h
theorem Pm {E:List Deferred}{kind:CallKind}{cs:List FA}{st:StE}{K:Cfq->Option Rs}{r:Rs}
 (h:vL none ⟨H,n,G,[],E,false,kind,I⟩ cs st K=some r):SpE P ⟨H,n,G,[],E,false,kind,I⟩ cs st K r:=
 Bu h (λb a M cs w m D y _=>by cases D;exact stepR_end y) (λb a M c cs w m l v w' D y F J=>by cases D;exact stepR_round_end y F J)
theorem Pn {k:List Item}{E:List Deferred}{kind:CallKind}{cs:List FA}{st:StE}{K:Cfq->Option Rs}{r:Rs}
 (h:vL (some .ret) ⟨H,n,G,.code .ret::k,E,false,kind,I⟩ cs st K=some r):SpE P ⟨H,n,G,.code .ret::k,E,false,kind,I⟩ cs st K r:=
 Bu h (λb a M cs w m D y _=>by cases D;exact stepR_ret y) (λb a M c cs w m l v w' D y F J=>by cases D;exact stepR_round_ret y F J)
theorem MK {n id:Nat}{k:List Item}{y:List Deferred}{kind:CallKind}{cs:List FA}{st:StE}{K:Cfq->Option Rs}{r:Rs}(O:exitTo id k=none)
 (h:vL (some (.exit id)) ⟨H,n,G,.code (.exit id)::k,y,false,kind,I⟩ cs st K=some r):SpE P ⟨H,n,G,.code (.exit id)::k,y,false,kind,I⟩ cs st K r:=
 Bu h (λb a R cs w m E D F=>nomatch F _ rfl) (λb a R c cs w m l v w' E D J M=>by
  cases E with
  |code t=>exact stepR_round_exit D J (t.exitTo.2 O) M)
theorem Sim.alloc' {m:Mp}{s s':StE}(H:Sim m s w.heap){ao:AO}{o:Obj}(E:k=2*s.nx)(F:s'.nx=s.nx+1)(D:∀j,s'.h.get j=if j=k then some ao else s.h.get j)
 (G:∀y:Mp,m.le y->OR y ⟨w.heap.size,0,none⟩ ao o):m.le (m.set k ⟨w.heap.size,0,none⟩)/\Sim (m.set k ⟨w.heap.size,0,none⟩) s' (w.alloc o).heap/\
  Nxt w (Own m s) (w.alloc o) (Own (m.set k ⟨w.heap.size,0,none⟩) s'):=H.alloc E F D G
theorem VRL.app {m:Mp}{a y b D:List Value}(h:VRL m a y)(k:VRL m b D):VRL m (a++b) (y++D):=by
 induction a generalizing y with
 |nil=>cases h;exact k
 |cons x a E=>cases h with|cons hx t=>exact .cons hx (E t)
theorem E7 {a:Act}{g:Operand}{f:FuncId}{first cap:List Value}(D:a.eval g=.func (.func f) ⟨first⟩ ⟨cap⟩)(y:zk P f=true)(w:World):
 ∃d,(resolve a.eval (rangeCall g l) 0).run P w=.ok d w/\(invoke d.target d.args).run P w=.ok (.enter f (first++.func (.yield l) #[] #[]::cap).toArray) w:=by
 refine⟨{ target:=.fn (.func f) ⟨cap⟩,args:=⟨first⟩++ #[.func (.yield l) #[] #[]] },?_,?_⟩
 ·have e:(#[.const (.func (.yield l) #[] #[])]:Array Operand).map a.eval= #[.func (.yield l) #[] #[]]:=by simp[Act.eval]
  simp only[resolve,D,Deferred.ofValue,e];rfl
 ·show(callFunc f _).run P w=_;rw[qK y];congr 2;apply Array.ext';simp
theorem FnR.func {m:Mp}{g:FuncId}{y:Fn}(h:FnR m (.func g) y):y=.func g:=by cases y <;> simp_all [FnR]
theorem Rx {drA:DrF}(c4:Aq P drA){rec:Cfq->Option Rs}(dd:oG P rec){c:Code}{k:List Item}{bp:List Deferred}{kind:CallKind}{cs:List FA}{st:StE}{K:Cfq->Option Rs}{r:Rs}
 (h:H6 P drA rec c ⟨H,n,G,.code c::k,bp,false,kind,I⟩ cs st k K=some r):SpE P ⟨H,n,G,.code c::k,bp,false,kind,I⟩ cs st K r:=by
 have simple:∀{cf:List Item},K ⟨⟨H,n,G,cf,bp,false,kind,I⟩,cs,st⟩=some r->(∀(m:Mp) (b:Frame) (a:Act) (D:List Item) (cs:List Frame) (w:World),TmR m n G a.tmps->TdR m k D->
  ∃M,TdR m cf M/\step P (lone (b.atR a (.code c::D)) cs w)=.next (lone (b.atR a M) cs w))->SpE P ⟨H,n,G,.code c::k,bp,false,kind,I⟩ cs st K r:=λb2 de=>by
  refine⟨_,b2,dP (by rfl) _,λm f cs' w V ad ac U=>?_⟩;cases ad with
  |mk y ag av af=>
   cases ag with
   |code t=>
    obtain⟨M,h1,F⟩:=de m (bF H kind _) ⟨_,_⟩ _ (cs'++V) w y t;exact mq U F (.mk y h1 av af) ac
 cases c with
 |skip=>exact simple h λm b a D cs w _ y=>⟨D,y,stepR_skip⟩
 |label l=>exact simple h λm b a D cs w _ y=>⟨D,y,stepR_label⟩
 |seq x ch=>exact simple h λm b a D cs w _ y=>⟨_,.code (.code y),stepR_seq⟩
 |block id x=>exact simple h λm b a D cs w _ y=>⟨_,.code (.inBlock y),stepR_block⟩
 |loop x=>exact simple h λm b a D cs w _ y=>⟨_,.code (.inLoop y),stepR_loop⟩
 |scope x=>exact simple h λm b a D cs w _ y=>⟨_,.code (.inScope y),step_lone_go (by simp[stepG,stepG.exec,Frame.atR])⟩
 |cond x ch z=>
  unfold H6 at h;simp only at h;split at h
  ·rename_i t O;refine simple h λm b a D cs w b5 y=>⟨_,.code y,?_⟩
   have bk:=VR.eq rfl (AU b5 O);rw[stepR_cond bk];cases t <;> rfl
  ·cases h
 |exit id=>
  unfold H6 at h;simp only at h;split at h
  ·rename_i k' O;refine simple h λm b a D cs w b5 y=>?_;obtain⟨M,h1,F⟩:=y.exitTo.1 _ O;exact⟨M,F,stepR_exit h1⟩
  ·rename_i O;cases cd:I.isSome with
   |false=>rw[cd]at h;cases h
   |true=>rw[cd,cond_true]at h;exact MK O h
 |goto l=>
  unfold H6 at h;simp only at h;split at h
  ·rename_i k' O;refine simple h λm b a D cs w b5 y=>?_;obtain⟨M,h1,F⟩:=y.gotoIn.1 _ O;exact⟨M,F,stepR_goto h1⟩
  ·cases h
 |ret=>exact Pn h
 |refuse ch=>cases h
 |region id ops cn=>
  cases cn with
  |false=>exact simple h λm b a D cs w _ y=>⟨_,.inRegion y,stepR_region⟩
  |true=>
   obtain⟨d5,st',b2,av⟩:=c4 rec dd _ _ _ _ _ _ h;refine⟨_,b2,dP (by rfl) _,λm f cs' w V ad ac U=>?_⟩;cases ad with
   |mk y ag a8 af=>
    cases ag with
    |code t=>
     obtain⟨bs,a0,w',h1,F,aj,an,bw,cv⟩:=av m ⟨_,_⟩ w (bF H kind _) _ (cs'++V) id y U;refine⟨bs,_,cs',w',h1,cv,?_,ac.mono h1,an,bw⟩;cases a0 with
     |mk d7 dk=>
      simp only at F;subst F;exact .mk aj (t.mono h1) (a8.mono h1) (af.mono h1)
 |rangeFunc f ps R b=>
  unfold H6 at h;simp only at h;split at h
  ·rename_i g first cap O
   cases bq:zk P g with
   |false=>rw[bq]at h;cases h
   |true=>
    rw[bq,cond_true]at h;cases I with
    |none=>
     simp only at h;obtain⟨d,d4,h,av,dc,c9⟩:=xS h;obtain⟨l,dg,h,a9,b3,b1⟩:=xS h;obtain⟨B,h,c2,b0⟩:=xI h;simp only[cond_false]at av a9;refine⟨_,h,(vt _ _ _).trans (dP (by rfl) _),λm fr cs' w V ad ac U=>?_⟩;cases ad with
     |mk y ag a8 af=>
      cases af;rename_i D Y E;cases ag with
      |@code _ _ M t=>
       obtain⟨aa,cap',bk,b7,b6⟩:∃aa cap',(⟨E,Y⟩:Act).eval f=.func (.func g) ⟨aa⟩ ⟨cap'⟩/\VRL m first aa/\VRL m cap cap':=by
        obtain⟨cp,a0,bt,h1,F,aj,an⟩:=(AU (a:=⟨E,Y⟩) y O).funcI;rw[F.func]at h1;exact⟨a0,bt,h1,aj,an⟩
       obtain⟨cc,df,dj⟩:=U.alloc' (o:=.deferred (some [])) av dc c9 (λbs _=>⟨rfl,some [],rfl,[],rfl,.nil⟩);have c3:Nw (m.set d ⟨w.heap.size,0,none⟩) d w.heap.size:=⟨_,Mp.set_at _ _ _,rfl⟩
       obtain⟨J,bl,cb⟩:=df.alloc' (o:=.loop { state:=.ready,pending:=none,fn:=H,tmps:=E,params:=ps,assign:=R,body:=b,defers:=w.heap.size }) a9 b3 b1
        (λbs be=>⟨rfl,E,w.heap.size,rfl,(y.mono cc).mono be,c3.mono be⟩)
       have bb:Nw ((m.set d ⟨w.heap.size,0,none⟩).set l ⟨(w.alloc (.deferred (some []))).heap.size,0,none⟩) l (w.heap.size+1):=⟨_,Mp.set_at _ _ _,by simp only[World.size_alloc]⟩
       have Z:=cc.trans J;obtain⟨cl,b8,b9⟩:=E7 (l:=w.heap.size+1) bk bq ((w.alloc (.deferred (some []))).alloc (.loop { state:=.ready,pending:=none,fn:=H,tmps:=E,params:=ps,assign:=R,body:=b,defers:=w.heap.size }));have b4:=stepR_rangeFunc (P:=P) (b:=bF H kind none) (a:=⟨E,Y⟩) (k:=M) (cs:=cs'++V) (w:=w) (g:=f) (ps:=ps) (assign:=R) (body:=b) (run_enterLoop_outer H E ps R b) b8 b9;refine⟨_,_,_::cs',_,Z,.one b4,b0 _ _ bl.glob ((b7.mono Z).app (.cons (.func bb .nil .nil) (b6.mono Z))),.cons ?_ (ac.mono Z),bl,dj.trans cb⟩;refine FrR.mk (y.mono Z) (.inRange bb (t.mono Z)) (.cons ⟨_,J _ _ (Mp.set_at _ _ _),rfl⟩ .nil (a8.mono Z)) rfl
    |some dl=>
     simp only at h;split at h
     ·rename_i dn dr ds du dv d1 d2 d3 d c8;obtain⟨l,dg,h,a9,b3,b1⟩:=xS h;obtain⟨B,h,c2,b0⟩:=xI h;simp only[cond_false]at a9;refine⟨_,h,(vt _ _ _).trans (dP (by rfl) _),λm fr cs' w V ad ac U=>?_⟩;cases ad with
      |mk y ag a8 af=>
       obtain⟨dm,rfl,p,hp,rfl⟩:=af;rename_i D Y E;cases ag with
       |@code _ _ M t=>
        obtain⟨aa,cap',bk,b7,b6⟩:∃aa cap',(⟨E,Y⟩:Act).eval f=.func (.func g) ⟨aa⟩ ⟨cap'⟩/\VRL m first aa/\VRL m cap cap':=by
         obtain⟨cp,a0,bt,h1,F,aj,an⟩:=(AU (a:=⟨E,Y⟩) y O).funcI;rw[F.func]at h1;exact⟨a0,bt,h1,aj,an⟩
        obtain⟨p',o,h1,F,aj,d6,bu,rfl,an,bw⟩:=U.at_ _ _ c8;rw[hp]at h1;cases h1;obtain⟨J,bl,cb⟩:=U.alloc' (o:=.loop { state:=.ready,pending:=none,fn:=H,tmps:=E,params:=ps,assign:=R,body:=b,defers:=bu }) a9 b3 b1
         (λbs be=>⟨rfl,E,bu,rfl,y.mono be,bw.mono be⟩)
        have bb:Nw (m.set l ⟨w.heap.size,0,none⟩) l w.heap.size:=⟨_,Mp.set_at _ _ _,rfl⟩
        obtain⟨cl,b8,b9⟩:=E7 (l:=w.heap.size) bk bq (w.alloc (.loop { state:=.ready,pending:=none,fn:=H,tmps:=E,params:=ps,assign:=R,body:=b,defers:=bu }));have b4:=stepR_rangeFunc (P:=P) (b:=bF H kind (some p.blk)) (a:=⟨E,Y⟩) (k:=M) (cs:=cs'++V) (w:=w) (g:=f) (ps:=ps) (assign:=R) (body:=b) (run_enterLoop_inner F H E ps R b) b8 b9;refine⟨_,_,_::cs',_,J,.one b4,b0 _ _ bl.glob ((b7.mono J).app (.cons (.func bb .nil .nil) (b6.mono J))),.cons ?_ (ac.mono J),bl,cb⟩;exact FrR.mk (y.mono J) (.inRange bb (t.mono J)) (a8.mono J) ⟨_,rfl,p,J _ _ hp,rfl⟩
     ·cases h
  ·cases h
section
variable {P:Program} {b:Frame} {a:Act} {k:List Item} {cs:List Frame} {w w':World} {ops:Array Oper} {i:Nat} {rest:List Nat} {o:Oper}
theorem MX (E:ops[i]? =some o)(F:Region.wanted o (yielded ops a.tmps)=true)(D:b.roundOf=none\/nQ o.op=false):
 stepG P true { frame:=b.atR a (.inRegion ops (i::rest)::k),callers:=cs,status:=.running,dying:=none } w=stepG.apply P true (b.atR a (.inRegion ops (i::rest)::k)) cs none (execOp a.eval o) w:=by
 rw[stepGR_op E F];congr 1;rcases D with h|h
 ·rw[h];rfl
 ·exact Oper.semAt_eq _ _ _ λc y=>by rw[y]at h;cases h
theorem IY (y:ops[i]? =some o)(v:Value):(b.atR a (.inRegion ops (i::rest)::k)).finish v=b.atR (a.put o.dst v) (.inRegion ops rest::k):=by
 rw[Frame.finish_atR,y];rfl
theorem IZ (y:ops[i]? =some o)(F:Region.wanted o (yielded ops a.tmps)=true)(D:b.roundOf=none\/nQ o.op=false){v:Value}(E:(execOp a.eval o).run P w=.ok (.value v) w'):
 step P (lone (b.atR a (.inRegion ops (i::rest)::k)) cs w)=.next (lone (b.atR (a.put o.dst v) (.inRegion ops rest::k)) cs w'):=
 step_lone_go (by rw[MX y F D,<- IY y];simp[stepG.apply,E])
theorem Tx (y:ops[i]? =some o)(F:Region.wanted o (yielded ops a.tmps)=true)(D:b.roundOf=none\/nQ o.op=false)(E:(execOp a.eval o).run P w=.ok .skip w'):
 step P (lone (b.atR a (.inRegion ops (i::rest)::k)) cs w)=.next (lone (b.atR (a.put o.dst undef) (.inRegion ops rest::k)) cs w'):=
 step_lone_go (by rw[MX y F D,<- IY y];simp[stepG.apply,E])
theorem Tw (D:ops[i]? =some o)(F:Region.wanted o (yielded ops a.tmps)=true)(y:b.roundOf=none\/nQ o.op=false){f:FuncId}{args:Array Value}(E:(execOp a.eval o).run P w=.ok (.enter f args) w'):
 step P (lone (b.atR a (.inRegion ops (i::rest)::k)) cs w)=.next (lone (Frame.enter P f args .normal) (b.atR a (.inRegion ops (i::rest)::k)::cs) w'):=
 step_lone_go (by rw[MX D F y];simp[stepG.apply,E,Frame.atR])
theorem XB (F:ops[i]? =some o)(H:Region.wanted o (yielded ops a.tmps)=true)(E:b.roundOf=none\/nQ o.op=false){l f:Nat}{y D:Code}(G:(execOp a.eval o).run P w=.ok (.round l f N y D) w'):
 step P (lone (b.atR a (.inRegion ops (i::rest)::k)) cs w)=.next (lone (Frame.round l f N y D .normal) (b.atR a (.inRegion ops (i::rest)::k)::cs) w'):=
 step_lone_go (by rw[MX F H E];simp[stepG.apply,G,Frame.atR])
theorem Xz (y:ops[i]? =some o)(F:Region.wanted o (yielded ops a.tmps)=true)(D:b.roundOf=none\/nQ o.op=false){d:Deferred}(E:(execOp a.eval o).run P w=.ok (.defer d) w'):
 step P (lone (b.atR a (.inRegion ops (i::rest)::k)) cs w)=.next (lone (b.atR { a.put o.dst undef with defers:=d::a.defers } (.inRegion ops rest::k)) cs w'):=by
 have e:({ b.atR a (.inRegion ops (i::rest)::k)with defers:=d::a.defers } :Frame).finish undef=b.atR { a.put o.dst undef with defers:=d::a.defers } (.inRegion ops rest::k):=by
  have:({ b.atR a (.inRegion ops (i::rest)::k)with defers:=d::a.defers } :Frame)=b.atR { a with defers:=d::a.defers } (.inRegion ops (i::rest)::k):=rfl;rw[this,IY y];congr 1;cases o.dst <;> rfl
 refine step_lone_go ?_;rw[MX y F D,<- e];simp only[stepG.apply,Sem.runT_eq,E,GStep.bare_after];rfl
theorem XA (D:ops[i]? =some o)(H:Region.wanted o (yielded ops a.tmps)=true)(y:b.roundOf=none)(F:(execOp a.eval o).run P w=.ok .recover w')(G:tryRecover (b.atR a (.inRegion ops (i::rest)::k)) cs=none):
 step P (lone (b.atR a (.inRegion ops (i::rest)::k)) cs w)=.next (lone (b.atR (a.put o.dst .nilIface) (.inRegion ops rest::k)) cs w'):=by
 have E:(b.atR a (.inRegion ops (i::rest)::k)).roundOf=none:=y;refine step_lone_go ?_;rw[MX D H (.inl y),<- IY D];simp only[stepG.apply,Sem.runT_eq,F,GStep.bare_after,E,G];rfl
end
theorem frA {m:Mp}{F E:List Item}{y:List Deferred}{kind:CallKind}{rd D:Option Nat}{a:Act}(O:TmR m n G a.tmps)(J:TdR m F E)(I:DsR m y a.defers)(M:RdR m rd D):
 FrR m ⟨H,n,G,F,y,false,kind,rd⟩ ((bF H kind D).atR a E):=by cases a;exact .mk O J I M
theorem put_defers (a:Act)(d:Option Tmp)(v:Value):(a.put d v).defers=a.defers:=by cases d <;> rfl
theorem nN {m:Mp}{a:Act}(h:TmR m n G a.tmps){ops:Array Oper}{o:Oper}{t:Bool}(y:Lp ops G o.guard=some t):Region.wanted o (yielded ops a.tmps)=t:=by
 unfold Lp at y;unfold Region.wanted;split at y
 ·rename_i e;rw[e];cases y;rfl
 ·rename_i j J e;rw[e];simp only;split at y
  ·rename_i d I;unfold yielded;rw[I];simp only[Option.bind_some];split at y
   ·rename_i D H;obtain⟨v',h1,F⟩:=h.at_ d _ H;have:=VR.eq rfl F;subst this;rw[Array.getD_eq_getD_getElem?]at h1;cases E:a.tmps[d]? with
    |none=>rw[E]at h1;cases h1
    |some x=>rw[E]at h1;cases h1;cases y;cases D <;> cases J <;> rfl
   ·rename_i D H;obtain⟨v',h1,F⟩:=h.at_ d _ H;cases D with|mk D=>
    obtain⟨M,rfl,_⟩:=F.tupleI;rw[Array.getD_eq_getD_getElem?]at h1;cases E:a.tmps[d]? with
    |none=>cases y;rfl
    |some x=>rw[E]at h1;cases h1;cases y;rfl
   ·cases y
  ·cases y
theorem Vp {opA:OpF}(b9:xC P opA){k:List Item}{a0:List Deferred}{kind:CallKind}{cs:List FA}{st:StE}{ops:Array Oper}{rest:List Nat}{K:Cfq->Option Rs}{r:Rs}
 (h:XQ P opA ⟨H,n,G,.inRegion ops (i::rest)::k,a0,false,kind,I⟩ cs st ops i rest k K=some r):SpE P ⟨H,n,G,.inRegion ops (i::rest)::k,a0,false,kind,I⟩ cs st K r:=by
 unfold XQ at h;simp only at h;split at h
 ·cases h
 rename_i o ag;split at h
 ·cases h
 ·rename_i an;obtain⟨bs,h,ad⟩:=qN h;refine⟨_,h,dP (by rfl) _,λm f cs' w R ac O J=>?_⟩;cases ac with
  |mk E Z V F=>
   rename_i be D M y;cases Z with
   |@inRegion _ _ _ af t=>
    have aa:=nN (a:=⟨y,D⟩) E an;have av:=stepR_op_skip (P:=P) (b:=bF H kind M) (a:=⟨y,D⟩) (k:=af) (cs:=cs'++R) (w:=w) (ops:=ops) (i:=i) (rest:=rest) (by rw[ag];exact aa);rw[ag]at av;simp only[Option.bind_some]at av;refine mq J av ?_ O;exact frA (ad m ⟨y,D⟩ undef E (VR.refl rfl)) (.inRegion t) (by rw[put_defers];exact V) F
 rename_i an;cases bw:(nQ o.op&&I.isSome)with
 |true=>rw[bw]at h;cases h
 |false=>
 rw[bw,cond_false]at h;have bb:∀(m:Mp) (M:Option Nat),RdR m I M->(bF H kind M).roundOf=none\/nQ o.op=false:=λm M F=>by
  cases I with
  |none=>cases F;exact .inl rfl
  |some l=>right;cases V:nQ o.op <;> simp_all
 obtain⟨cn,s',h,a9⟩:=b9 _ _ _ _ _ h;cases cn with
 |val v=>
  simp only at h;obtain⟨bs,h,ad⟩:=qN h;refine⟨_,h,dP (by rfl) _,λm f cs' w R ac O J=>?_⟩;cases ac with
  |mk E Z V F=>
   rename_i be D M y;cases Z with
   |@inRegion _ _ _ af t=>
    have aa:=nN (a:=⟨y,D⟩) E an;obtain⟨b0,v',w',U,h1,Y,bl,bu⟩:=a9 m n ⟨y,D⟩ w (TmR.en (a:=⟨y,D⟩) E) J;have av:step P (lone ((bF H kind M).atR ⟨y,D⟩ (.inRegion ops (i::rest)::af)) (cs'++R) w)=.next (lone ((bF H kind M).atR ((⟨y,D⟩:Act).put o.dst v') (.inRegion ops rest::af)) (cs'++R) w'):=by
     rcases U with U|⟨U,rfl⟩
     ·exact IZ ag aa (bb m M F) U
     ·exact Tx ag aa (bb m M F) U
    refine⟨b0,_,cs',w',h1,.one av,?_,O.mono h1,bl,bu⟩;exact frA (ad b0 ⟨y,D⟩ v' (E.mono h1) Y) (.inRegion (t.mono h1)) (by rw[put_defers];exact V.mono h1) (F.mono h1)
 |enter f args=>
  simp only at h;obtain⟨B,h,dd,b4⟩:=xI h;refine⟨_,h,(vt _ _ _).trans (dP (by rfl) _),λm fr cs' w R ac O J=>?_⟩;cases ac with
  |mk E Z V F=>
   rename_i be D M y;cases Z with
   |@inRegion _ _ _ af t=>
    have aa:=nN (a:=⟨y,D⟩) E an;obtain⟨rfl,args',h1,U⟩:=a9 m n ⟨y,D⟩ w (TmR.en (a:=⟨y,D⟩) E) J;exact mq (cs':=_::cs') J (Tw ag aa (bb m M F) U) (b4 m args' J.glob h1) (.cons (.mk E (.inRegion t) V F) O)
 |yield l args=>
  simp only at h;split at h
  ·rename_i dl dm ch ln cl ps b1 b2 dn b6;have key:∀{bk:Tr Value},K ⟨⟨ch,ln,bk,[.code b1,.beginRound,.code b2],[],false,.normal,some l⟩,⟨H,n,G,.inRegion ops (i::rest)::k,a0,false,kind,I⟩::cs,s'⟩=some r->args.length=ps.toList.length->
    (∀(m:Mp) (y:Array Value) (args':List Value),TmR m ln cl y->VRL m args args'->TmR m ln bk ((ps.zip args'.toArray).foldl (λy (t,a)=>y.setIfInBounds t a) y))->
    SpE P ⟨H,n,G,.inRegion ops (i::rest)::k,a0,false,kind,I⟩ cs st K r:=λa8 b7 cf=>by
    refine⟨_,a8,(vt _ _ _).trans (dP (by rfl) _),λm fr cs' w R ac O J=>?_⟩;cases ac with
    |mk E Z V F=>
     rename_i be D M y;cases Z with
     |@inRegion _ _ _ af t=>
      have aa:=nN (a:=⟨y,D⟩) E an;obtain⟨rfl,df,args',b8,h1,U⟩:=a9 m n ⟨y,D⟩ w (TmR.en (a:=⟨y,D⟩) E) J;obtain⟨p,hp,rfl⟩:=b8;obtain⟨p',dk,Y,bl,bu,c2,c3,rfl,b3,dc⟩:=J.at_ _ _ b6;rw[hp]at Y;cases Y;have bq:=run_yield (P:=P) (args:=args'.toArray) bl (by simp only[List.size_toArray];rw[<- h1.length,b7];exact Array.length_toList);rw[bq]at U;refine mq (cs':=_::cs') J (XB ag aa (bb m M F) U) ?_ (.cons (.mk E (.inRegion t) V F) O);exact FrR.mk (cf m c2 args' b3 h1) (.code (.begin (.code .nil))) .nil ⟨_,rfl,p,hp,rfl⟩
   split at h
   ·rename_i aj;refine key h (by rw[aj];rfl) λm y args' h1 Y=>?_;cases Y;cases ps with|mk ps=>cases aj;simpa using h1
   ·rename_i p x aj;obtain⟨bk,h,ad⟩:=qN h;refine key h (by rw[aj];rfl) λm y args' h1 Y=>?_;cases Y with
    |cons bp t=>
     cases t;cases ps with|mk ps=>cases aj;simpa[Act.put]using ad m ⟨y,[]⟩ _ h1 bp
   ·rename_i p q x d3 aj;obtain⟨bk,h,ad⟩:=qN h;obtain⟨dg,h,cc⟩:=qN h;refine key h (by rw[aj];rfl) λm y args' h1 Y=>?_;cases Y with
    |cons bp t=>
     cases t with
     |cons bq t=>
      cases t;cases ps with|mk ps=>cases aj;simpa[Act.put]using cc m ((⟨y,[]⟩:Act).put (some p) _) _ (ad m ⟨y,[]⟩ _ h1 bp) bq
   ·cases h
  ·cases h
 |defer t args=>
  simp only at h;obtain⟨bs,h,ad⟩:=qN h;refine⟨_,h,dP (by rfl) _,λm f cs' w R ac O J=>?_⟩;cases ac with
  |mk E Z V F=>
   rename_i be D M y;cases Z with
   |@inRegion _ _ _ af bt=>
    have aa:=nN (a:=⟨y,D⟩) E an;obtain⟨rfl,cv,args',h1,Y,U⟩:=a9 m n ⟨y,D⟩ w (TmR.en (a:=⟨y,D⟩) E) J;refine mq J (Xz ag aa (bb m M F) U) ?_ O;exact frA (a:= { (⟨y,D⟩:Act).put o.dst undef with defers:=⟨cv,args'.toArray⟩::D }) (ad m ⟨y,D⟩ undef E (VR.refl rfl)) (.inRegion bt) (.cons h1 Y V) F
 |recover=>
  simp only at h;cases I with
  |some l=>cases h
  |none=>
   simp only at h;have key:yC n G o.dst .nilIface (λG=>K ⟨⟨H,n,G,.inRegion ops rest::k,a0,false,kind,none⟩,cs,s'⟩)=some r->
    (∀(f:Frame) (cs':List Frame) (m:Mp) (R:List Frame),f.kind=kind->FsR m cs cs'->tryRecover f (cs'++R)=none)->SpE P ⟨H,n,G,.inRegion ops (i::rest)::k,a0,false,kind,none⟩ cs st K r:=λh cd=>by
    obtain⟨bs,h,ad⟩:=qN h;refine⟨_,h,dP (by rfl) _,λm f cs' w R ac O J=>?_⟩;cases ac with
    |mk E Z V F=>
     cases F;rename_i be D y;cases Z with
     |@inRegion _ _ _ af bt=>
      have aa:=nN (a:=⟨y,D⟩) E an;obtain⟨rfl,U⟩:=a9 m n ⟨y,D⟩ w (TmR.en (a:=⟨y,D⟩) E) J;have cb:tryRecover ((bF H kind none).atR ⟨y,D⟩ (.inRegion ops (i::rest)::af)) (cs'++R)=none:=cd ((bF H kind none).atR ⟨y,D⟩ (.inRegion ops (i::rest)::af)) cs' m R (by rfl) O;have av:=XA (P:=P) (b:=bF H kind none) (w:=w) ag aa (by rfl) U cb;refine mq J av ?_ O;exact frA (ad m ⟨y,D⟩ .nilIface E (VR.refl rfl)) (.inRegion bt) (by rw[put_defers];exact V) rfl
   cases kind with
   |normal=>exact key h λf cs' m R a8 _=>by unfold tryRecover;rw[a8]
   |deferred=>
    cases cs with
    |nil=>cases h
    |cons c rest=>
     refine key h λf cs' m R a8 O=>?_;cases O with
     |cons b5 O=>
      rw[tryRecover_deferred a8];cases b5 with
      |@mk c9 dj dv d2 du c8 c4 cp de dr ds d1 E Z V F=>cases cp <;> rfl
   |_=>cases h
def Rt (tmps:Array Value):ResultVar->Sem Value
 |.tmp t=>pure (tmps.getD t undef)
 |.cell a t=>do loadVar t (<- asAddr (tmps.getD a undef))
theorem UU {a v:Value}(h:(Instr.loadAt t a).run P w=.ok v w):(do loadVar t (<- asAddr a):Sem Value).run P w=.ok v w:=by
 cases a with
 |pointer a=>
  cases a with
  |none=>cases h
  |some a=>exact h
 |_=>cases h
theorem Ku {st:StE}{r:Rs} :∀{l:List ResultVar} {K:List Value->Option Rs},Yk P G st l K=some r->∃vs,K vs=some r/\∀(m:Mp) (n:Nat) (y:Array Value) (w:World),TmR m n G y->Sim m st w.heap->
 ∃D,VRL m vs D/\(l.mapM (Rt y)).run P w=.ok D w
 |[],K,h=>⟨[],h,λm n y w _ _=>⟨[],.nil,rfl⟩⟩
 |.tmp t::l,K,h=>by
  have h:(match G.get t with|some v=>Yk P G st l λl=>K (v::l)|none=>none)=some r:=h;split at h
  ·rename_i v R;obtain⟨vs,O,M⟩:=Ku h;refine⟨_,O,λm n y w E F=>?_⟩;obtain⟨D,h1,H⟩:=M m n y w E F;obtain⟨v',I,J⟩:=E.at_ _ _ R;refine⟨v'::D,.cons J h1,?_⟩;rw[List.mapM_cons];have e:Rt y (.tmp t)=pure v':=by show pure (y.getD t undef)=_;unfold undef;rw[I]
   simp only[e,Sem.run_bind,Sem.run_pure,Result.andThen_ok,H]
  ·cases h
 |.cell a t::l,K,h=>by
  have h:(match G.get a with|some v=>uJ P st t v λv=>Yk P G st l λl=>K (v::l)|none=>none)=some r:=h;split at h
  ·rename_i v R;obtain⟨u,h,Z⟩:=Ac h;obtain⟨vs,O,M⟩:=Ku h;refine⟨_,O,λm n y w E F=>?_⟩;obtain⟨D,h1,H⟩:=M m n y w E F;obtain⟨v',I,J⟩:=E.at_ _ _ R;obtain⟨U,V,Y⟩:=Z m w v' F J;refine⟨U::D,.cons V h1,?_⟩;rw[List.mapM_cons];have e:(Rt y (.cell a t)).run P w=.ok U w:=by
    show(do loadVar t (<- asAddr (y.getD a undef)):Sem Value).run P w=_;unfold undef;rw[I];exact UU Y
   simp only[Sem.run_bind,Sem.run_pure,Result.andThen_ok,H,e]
  ·cases h
theorem Xw {m:Mp}{l D:List Value}(h:VRL m l D):VR m (Xv l) (Xv D):=by
 cases h with
 |nil=>exact .tuple .nil
 |cons y t=>
  cases t with
  |nil=>exact y
  |cons E t=>exact .tuple (.cons y (.cons E t))
theorem Qd {st:StE}{K:Value->Option Rs}{r:Rs}(h:Vt P H G st K=some r):∃v,K v=some r/\∃f,P.funcs[H]? =some f/\∀(m:Mp) (n:Nat) (y:Array Value) (w:World),TmR m n G y->Sim m st w.heap->
 ∃v',VR m v v'/\(results f y).run P w=.ok v' w:=by
 unfold Vt at h;split at h
 ·rename_i f F;obtain⟨vs,J,I⟩:=Ku h;refine⟨_,J,f,F,λm n y w O M=>?_⟩;obtain⟨D,h1,E⟩:=I m n y w O M;refine⟨Xv D,Xw h1,?_⟩;have e:results f y=(do let vs <- f.results.mapM (Rt y);pure (if h:vs.size=1 then vs[0]else .tuple vs)):=by
   unfold results;congr 1
  rw[e,Sem.run_bind,Array.mapM_eq_mapM_toList,Sem.run_map,E];simp only[Result.andThen_ok,Sem.run_pure]
  match D with
  |[]=>rfl
  |[v]=>rfl
  |v::u::vs=>simp[Xv]
 ·cases h
theorem Vu {bq:List Item}{ag:List Deferred}{kind:CallKind}{cs:List FA}{st:StE}{K:Cfq->Option Rs}{r:Rs}
 (h:Yl P ⟨H,n,G,bq,ag,true,kind,I⟩ cs st K=some r):SpE P ⟨H,n,G,bq,ag,true,kind,I⟩ cs st K r:=by
 unfold Yl at h;simp only at h;split at h
 ·rename_i c9 cc ag;split at h
  ·rename_i l bl;obtain⟨st',h,bw,b7,b5⟩:=mz h;refine⟨_,h,dP (by rfl) _,λm f cs' w M ad y D=>?_⟩;cases ad with
   |@mk _ _ _ _ R _ an _ _ _ O F E ac J Z=>
    cases J with
    |@cons _ cb _ U _ af a9 bk a0=>
     obtain⟨p,hp,rfl⟩:=a9;obtain⟨p',o,h1,V,bs,cf,rfl,bt⟩:=D.at_ _ _ bl;rw[hp]at h1;cases h1;obtain⟨aj,rfl,bu⟩:=bt;have b8:=D.turnObj (w:=w) (ao:=.defs none) (o:=.deferred none) bw bl hp b7 b5 ⟨bs,none,rfl,rfl⟩;have b2:∀{l aj d be:List Deferred},DsR m l aj->DsR m d be->DsR m (l++d) (aj++be):=λh k=>by
      induction h with
      |nil=>exact k
      |cons E b1 _ b9=>exact .cons E b1 b9
     have aa:step P (lone (cF H kind O F R (⟨.collected p.blk,U⟩::af) true) (cs'++M) w)=.next (lone (cF H kind O F R (aj++af) true) (cs'++M) (w.putObj p.blk (.deferred none))):=
      step_lone_go (by simp[stepG,unwind,cF,Sb,Sem.runT_eq,run_takeDeferred V,GStep.bare_after])
     exact Gm aa (.mk E ac (b2 bu a0) Z) y b8
  ·cases h
 ·rename_i g cap args ag;cases Y:zk P g with
  |false=>rw[Y]at h;cases h
  |true=>
   rw[Y,cond_true]at h;obtain⟨B,h,cp,b0⟩:=xI h;refine⟨_,h,(vt _ _ _).trans (dP (by rfl) _),λm f cs' w M ad y D=>?_⟩;cases ad with
   |@mk _ _ _ _ R _ an _ _ _ O F E ac J Z=>
    cases J with
    |@cons _ cb _ U _ af a9 bk a0=>
     obtain⟨cl,c',rfl,h1,V⟩:=a9;cases h1.func;cases c' with|mk c'=>
     cases U with|mk U=>
     have b6:(invoke (.fn (.func g) ⟨c'⟩) ⟨U⟩).run P w=.ok (.enter g (U++c').toArray) w:=by
      show(callFunc g _).run P w=_;rw[qK Y];congr 2;apply Array.ext';simp
     have aa:=step_defer (P:=P) (fr:=cF H kind O F R (⟨.fn (.func g) ⟨c'⟩,⟨U⟩⟩::af) true) (cs:=cs'++M) (w:=w) (by simp[cF,Sb]) rfl rfl b6;exact mq (cs':=_::cs') D aa (b0 m _ D.glob (bk.app V)) (.cons (.mk E ac a0 Z) y)
 ·cases cs with
  |nil=>cases h
  |cons c rest=>
   simp only at h;obtain⟨v,h,f,ad,bp⟩:=Qd h;cases kind with
   |normal=>
    simp only at h;obtain⟨c',h,b3,b4⟩:=OK h;refine⟨_,h,dP (by exact b3) _,λm f cs' w M a8 y D=>?_⟩;cases a8 with
    |@mk _ _ _ _ R _ an _ _ _ O F E ac J Z=>
     cases J;cases y with
     |@cons _ c1 _ bb Y y=>
      obtain⟨v',h1,V⟩:=bp m n F w E D;have aa:=step_leave_returned (P:=P) (fr:=cF H .normal O F R [] true) (c:=c1) (cs:=bb++M) ⟨rfl,rfl,rfl,_,ad,V⟩;exact mq D aa (b4 m _ v' Y h1) y
   |deferred=>
    simp only at h;cases av:c.ret with
    |false=>rw[av]at h;cases h
    |true=>
     rw[av,cond_true]at h;refine⟨_,h,rfl,λm f cs' w M a8 y D=>?_⟩;cases a8 with
     |@mk _ _ _ _ R _ an _ _ _ O F E ac J Z=>
      cases J;cases y with
      |@cons _ c1 _ bb Y y=>
       obtain⟨v',h1,V⟩:=bp m n F w E D;have aa:=step_going_returned (P:=P) (fr:=cF H .deferred O F R [] true) (c:=c1) (cs:=bb++M) rfl (v:=v') ⟨rfl,rfl,_,ad,V⟩;refine mq D aa ?_ y;cases Y with
       |@mk cn c2 dd df dc ch cd c4 cv c3 c8 de E ac J Z=>
        cases av;exact .mk E ac J Z
   |_=>cases h
 ·cases h
theorem SJ {opA:OpF}{drA:DrF}(b2:xC P opA)(bu:Aq P drA){rec:Cfq->Option Rs}(b3:oG P rec){C:Cfq}{K:Cfq->Option Rs}{r:Rs}(h:CC P opA drA rec C K=some r):SpE P C.fr C.cs C.st K r:=by
 obtain⟨⟨I,n,bt,bk,bl,ret,kind,rd⟩,cs,st⟩:=C;have simple:∀{bs bk:List Item},K ⟨⟨I,n,bt,bk,bl,false,kind,rd⟩,cs,st⟩=some r->(∀(m:Mp) (b:Frame) (a:Act) (D:List Item) (cs:List Frame) (w:World),TdR m bs D->
  ∃ad,TdR m bk ad/\step P (lone (b.atR a D) cs w)=.next (lone (b.atR a ad) cs w))->SpE P ⟨I,n,bt,bs,bl,false,kind,rd⟩ cs st K r:=λbw Y=>by
  refine⟨_,bw,dP (by rfl) _,λm f cs' w af R M E=>?_⟩;cases R with
  |mk y Z O V=>
   obtain⟨ad,h1,J⟩:=Y m (bF I kind _) ⟨_,_⟩ _ (cs'++af) w Z;exact mq E J (.mk y h1 O V) M
 unfold CC at h;simp only at h;split at h
 ·exact Vu h
 split at h
 ·exact Pm h
 ·exact Rx bu b3 h
 ·exact simple h λm b a D cs w y=>by cases y with|inRegion t=>exact⟨_,t,stepR_region_end⟩
 ·exact Vp b2 h
 ·exact simple h λm b a D cs w y=>by cases y with|inBlock t=>exact⟨_,t,stepR_inBlock⟩
 ·exact simple h λm b a D cs w y=>by cases y with|inScope t=>exact⟨_,t,step_lone_go (by simp[stepG,stepG.exec,Frame.atR])⟩
 ·exact simple h λm b a D cs w y=>by cases y with|inLoop t=>exact⟨_,.code (.inLoop t),stepR_inLoop⟩
 ·split at h
  ·rename_i l;split at h
   ·rename_i F aa ln bb ps G b d U;obtain⟨st',h,a0,a9,a8⟩:=mz h;refine⟨_,h,dP (by rfl) _,λm f cs' w af R M E=>?_⟩;cases R with
    |@mk _ _ _ _ D _ ag _ _ _ bq be y Z O V=>
     obtain⟨b4,rfl,p,hp,rfl⟩:=V;obtain⟨p',o,h1,J,aj,ac,H,rfl,an,av⟩:=E.at_ _ _ U;rw[hp]at h1;cases h1;cases Z with
     |begin t=>
      have Y:=E.turnObj (w:=w) (ao:=.loop .busy F aa ln bb ps G b d) (o:=.loop ⟨.busy,F,aa,ac,ps,G,b,H⟩) a0 U hp a9 a8 ⟨aj,ac,H,rfl,an,av⟩;exact Gm (stepR_beginRound (b:=bF I kind (some p.blk)) (a:=⟨be,ag⟩) rfl (run_beginRound J rfl)) (.mk y t O ⟨_,rfl,p,hp,rfl⟩) M Y
   ·cases h
  ·cases h
 ·split at h
  ·cases h
  ·rename_i l k b5 s0 F aa ln bb ps G b d bp U;obtain⟨st',h,a0,a9,a8⟩:=mz h;refine⟨_,h,dP (by rfl) _,λm f cs' w af R M E=>?_⟩;cases R with
   |@mk _ _ _ _ D _ ag _ _ _ bq be y Z O V=>
    cases Z with
    |@endRange _ b4 _ ad b0 t=>
     obtain⟨p,hp,rfl⟩:=b0;obtain⟨p',o,h1,J,aj,ac,H,rfl,an,av⟩:=E.at_ _ _ U;rw[hp]at h1;cases h1;have Y:=E.turnObj (w:=w) (ao:=.loop .exhausted F aa ln bb ps G b d) (o:=.loop ⟨.exhausted,F,aa,ac,ps,G,b,H⟩) a0 U hp a9 a8 ⟨aj,ac,H,rfl,an,av⟩;have b1:s0≠.busy:=λe=>by first|exact bp e|(subst e;exact bp rfl)
     refine Gm (stepR_endRangeFunc (b:=bF I kind bq) (a:=⟨be,ag⟩) (run_endLoop J b1)) (.mk y ?_ O V) M Y;cases F with
     |none=>exact t
     |some c=>exact .code t
  ·cases h
 ·cases h
def nth {α:Type}(l:List α):Nat->Option α:=
 List.rec (motive:=λ_=>Nat->Option α) (λ_=>none) (λx _ ih i=>Nat.rec (motive:=λ_=>Option α) (some x) (λi _=>ih i) i) l
theorem Tv:∀(l:List K) (i:Nat),nth l i=l[i]?
 |[],_=>by simp[nth]
 |_::_,0=>rfl
 |_::l,i+1=>by rw[List.getElem?_cons_succ];exact Tv l i
abbrev KC:=Cfq->Option Rs
abbrev FT:=FuncId->Nat->Tr Value->List Deferred->CallKind->Option Nat->List FA->StE->List Item->KC->Option Rs
abbrev CoT:=Program->DrF->KC->FT
def Yd (c:Code):CoT:=λP dr rec fn n tm ds kind rd cs st k K=>H6 P dr rec c ⟨fn,n,tm,.code c::k,ds,false,kind,rd⟩ cs st k K
def W5:CoT:=λ_ _ _ fn n tm ds kind rd cs st k K=>K ⟨⟨fn,n,tm,k,ds,false,kind,rd⟩,cs,st⟩
def UM (_:Nat)(ops:Array Oper)(draw:Bool):CoT:=λP dr rec fn n tm ds kind rd cs st k K=>bif draw then dr rec st n tm ops λtm st=>K ⟨⟨fn,n,tm,k,ds,false,kind,rd⟩,cs,st⟩
 else K ⟨⟨fn,n,tm,.inRegion ops (List.range ops.size)::k,ds,false,kind,rd⟩,cs,st⟩
def Z8 (a b:Code):CoT:=λ_ _ _ fn n tm ds kind rd cs st k K=>K ⟨⟨fn,n,tm,.code a::.code b::k,ds,false,kind,rd⟩,cs,st⟩
def YY (x:Operand)(a b:Code):CoT:=λ_ _ _ fn n tm ds kind rd cs st k K=>match evA tm x with
 |some (.bool t)=>K ⟨⟨fn,n,tm,.code (bif t then a else b)::k,ds,false,kind,rd⟩,cs,st⟩
 |_=>none
def WZ (id:Nat)(b:Code):CoT:=λ_ _ _ fn n tm ds kind rd cs st k K=>K ⟨⟨fn,n,tm,.code b::.inBlock id::k,ds,false,kind,rd⟩,cs,st⟩
def Y1 (b:Code):CoT:=λ_ _ _ fn n tm ds kind rd cs st k K=>K ⟨⟨fn,n,tm,.code b::.inLoop b::k,ds,false,kind,rd⟩,cs,st⟩
def W1 (f:Operand)(ps:Array Tmp)(asv b:Code):CoT:=Yd (.rangeFunc f ps asv b)
def YZ (id:Nat):CoT:=Yd (.exit id)
def W4 (b:Code):CoT:=λ_ _ _ fn n tm ds kind rd cs st k K=>K ⟨⟨fn,n,tm,.code b::.inScope b::k,ds,false,kind,rd⟩,cs,st⟩
def W0 (_:Nat):CoT:=W5
def Y0 (l:Nat):CoT:=Yd (.goto l)
def Z7:CoT:=λP dr rec fn n tm ds kind rd cs st k K=>match rd with
 |none=>K ⟨⟨fn,n,tm,.code .ret::k,ds,true,kind,none⟩,cs,st⟩
 |some l=>Yd .ret P dr rec fn n tm ds kind (some l) cs st k K
def Y2 (_:String):CoT:=λ_ _ _ _ _ _ _ _ _ _ _ _ _=>none
def Wx (c:Code):CoT:= @Code.rec (λ_=>CoT) W5 UM (λa b _ _=>Z8 a b) (λx a b _ _=>YY x a b) (λi b _=>WZ i b) (λb _=>Y1 b) (λf ps asv b _ _=>W1 f ps asv b) YZ (λb _=>W4 b) W0 Y0 Z7 Y2 c
theorem Ry (c:Code)(P:Program)(y:DrF)(rec:KC)(E:FuncId)(n:Nat)(F:Tr Value)(D:List Deferred)(kind:CallKind)(rd:Option Nat)(cs:List FA)(st:StE)(k:List Item)(K:KC):
 Wx c P y rec E n F D kind rd cs st k K=H6 P y rec c ⟨E,n,F,.code c::k,D,false,kind,rd⟩ cs st k K:=by
 cases c <;> first
  |rfl
  |(cases rd <;> rfl)
abbrev NT:=Program->FuncId->Nat->Tr Value->List Deferred->CallKind->Option Nat->List FA->Array Oper->Nat->List Nat->List Item->Option Tmp->KC->StE->Option Rs
def qaa (v:Value):NT:=λ_ fn n tm ds kind rd cs ops i rest k d K st=>yC n tm d v λtm=>K ⟨⟨fn,n,tm,.inRegion ops rest::k,ds,false,kind,rd⟩,cs,st⟩
def Xf (f:FuncId)(args:List Value):NT:=λP fn n tm ds kind rd cs ops i rest k d K st=>Ny P f args .normal λB=>K ⟨B,⟨fn,n,tm,.inRegion ops (i::rest)::k,ds,false,kind,rd⟩::cs,st⟩
def PC (l:Nat)(args:List Value):NT:=λP fn n tm ds kind rd cs ops i rest k d K st=>match st.h.get l with
 |some (.loop _ _ lf ln ltm ps asv b _)=>match ps.toList,args with
  |[],[]=>K ⟨⟨lf,ln,ltm,[.code asv,.beginRound,.code b],[],false,.normal,some l⟩,⟨fn,n,tm,.inRegion ops (i::rest)::k,ds,false,kind,rd⟩::cs,st⟩
  |[p],[x]=>yC ln ltm (some p) x λltm=>K ⟨⟨lf,ln,ltm,[.code asv,.beginRound,.code b],[],false,.normal,some l⟩,⟨fn,n,tm,.inRegion ops (i::rest)::k,ds,false,kind,rd⟩::cs,st⟩
  |[p,q],[x,y]=>yC ln ltm (some p) x λltm=>yC ln ltm (some q) y λltm=>K ⟨⟨lf,ln,ltm,[.code asv,.beginRound,.code b],[],false,.normal,some l⟩,⟨fn,n,tm,.inRegion ops (i::rest)::k,ds,false,kind,rd⟩::cs,st⟩
  |_,_=>none
 |_=>none
def Xe (t:Target)(args:List Value):NT:=λP fn n tm ds kind rd cs ops i rest k d K st=>yC n tm d undef λtm=>K ⟨⟨fn,n,tm,.inRegion ops rest::k,⟨t,args.toArray⟩::ds,false,kind,rd⟩,cs,st⟩
def Y6:NT:=λP fn n tm ds kind rd cs ops i rest k d K st=>match rd with
 |some _=>none
 |none=>match kind,cs with
  |.normal,_=>yC n tm d .nilIface λtm=>K ⟨⟨fn,n,tm,.inRegion ops rest::k,ds,false,kind,none⟩,cs,st⟩
  |.deferred,_::_=>yC n tm d .nilIface λtm=>K ⟨⟨fn,n,tm,.inRegion ops rest::k,ds,false,kind,none⟩,cs,st⟩
  |_,_=>none
def naF (na:NA):NT:= @NA.rec (λ_=>NT) qaa Xf PC Xe Y6 na
def goR (op:OpF)(o:Oper):Program->FuncId->Nat->Tr Value->List Deferred->CallKind->Option Nat->List FA->StE->Array Oper->Nat->List Nat->List Item->KC->Option Rs:=
 λP fn n tm ds kind rd cs st ops i rest k K=>bif nQ o.op&&rd.isSome then none else op st (evA tm) o λna st=>naF na P fn n tm ds kind rd cs ops i rest k o.dst K st
def Zp (P:Program)(op:OpF)(fn:FuncId)(n:Nat)(tm:Tr Value)(ds:List Deferred)(kind:CallKind)(rd:Option Nat)(cs:List FA)(st:StE)(ops:Array Oper)(i:Nat)(rest:List Nat)(k:List Item)(K:KC):Option Rs:=match nth ops.toList i with
 |none=>none
 |some o=>match o.guard with
  |none=>goR op o P fn n tm ds kind rd cs st ops i rest k K
  |some g=>match Lp ops tm (some g)with
   |none=>none
   |some false=>yC n tm o.dst undef λtm=>K ⟨⟨fn,n,tm,.inRegion ops rest::k,ds,false,kind,rd⟩,cs,st⟩
   |some true=>goR op o P fn n tm ds kind rd cs st ops i rest k K
theorem Xg (o:Oper)(P:Program)(E:FuncId)(n:Nat)(y:Tr Value)(D:List Deferred)(kind:CallKind)(rd:Option Nat)(cs:List FA)(st:StE)(ops:Array Oper)(i:Nat)(rest:List Nat)(k:List Item)(K:KC)(G:OpF):
 goR G o P E n y D kind rd cs st ops i rest k K=bif nQ o.op&&rd.isSome then none else G st (evA y) o λF st=>match F with
  |.val v=>yC n y o.dst v λy=>K ⟨⟨E,n,y,.inRegion ops rest::k,D,false,kind,rd⟩,cs,st⟩
  |.enter f args=>Ny P f args .normal λB=>K ⟨B,⟨E,n,y,.inRegion ops (i::rest)::k,D,false,kind,rd⟩::cs,st⟩
  |.yield l args=>PC l args P E n y D kind rd cs ops i rest k o.dst K st
  |.defer t args=>yC n y o.dst undef λy=>K ⟨⟨E,n,y,.inRegion ops rest::k,⟨t,args.toArray⟩::D,false,kind,rd⟩,cs,st⟩
  |.recover=>Y6 P E n y D kind rd cs ops i rest k o.dst K st:=by
 unfold goR;have:(λF st=>naF F P E n y D kind rd cs ops i rest k o.dst K st)=λF st=>match F with
  |.val v=>yC n y o.dst v λy=>K ⟨⟨E,n,y,.inRegion ops rest::k,D,false,kind,rd⟩,cs,st⟩
  |.enter f args=>Ny P f args .normal λB=>K ⟨B,⟨E,n,y,.inRegion ops (i::rest)::k,D,false,kind,rd⟩::cs,st⟩
  |.yield l args=>PC l args P E n y D kind rd cs ops i rest k o.dst K st
  |.defer t args=>yC n y o.dst undef λy=>K ⟨⟨E,n,y,.inRegion ops rest::k,⟨t,args.toArray⟩::D,false,kind,rd⟩,cs,st⟩
  |.recover=>Y6 P E n y D kind rd cs ops i rest k o.dst K st:=by
  funext F st;cases F <;> rfl
 rw[this]
theorem Vq (P:Program)(E:OpF)(D:FuncId)(n:Nat)(F:Tr Value)(G:List Item)(y:List Deferred)(kind:CallKind)(rd:Option Nat)(cs:List FA)(st:StE)(ops:Array Oper)(i:Nat)(rest:List Nat)(k:List Item)(K:KC):
 Zp P E D n F y kind rd cs st ops i rest k K=XQ P E ⟨D,n,F,G,y,false,kind,rd⟩ cs st ops i rest k K:=by
 unfold Zp XQ;rw[Tv,Array.getElem?_toList];cases ops[i]? with
 |none=>rfl
 |some o=>
  simp only;rw[Xg];cases H:o.guard with
  |none=>rfl
  |some g=>rfl
abbrev ST:=Program->OpF->DrF->KC->FT
def YT (c:Code):ST:=λP op dr rec fn n tm ds kind rd cs st k K=>Wx c P dr rec fn n tm ds kind rd cs st k K
def WP:ST:=λP op dr rec fn n tm ds kind rd cs st k K=>K ⟨⟨fn,n,tm,k,ds,false,kind,rd⟩,cs,st⟩
def WU (_:Nat):ST:=WP
def WT (_:Code):ST:=WP
def YU (b:Code):ST:=λP op dr rec fn n tm ds kind rd cs st k K=>K ⟨⟨fn,n,tm,.code b::.inLoop b::k,ds,false,kind,rd⟩,cs,st⟩
def UJ (ops:Array Oper)(l:List Nat):ST:=λP op dr rec fn n tm ds kind rd cs st k K=>match l with
 |[]=>K ⟨⟨fn,n,tm,k,ds,false,kind,rd⟩,cs,st⟩
 |i::rest=>Zp P op fn n tm ds kind rd cs st ops i rest k K
def WV (x:Item):ST:=λP op dr rec fn n tm ds kind rd cs st k K=>CC P op dr rec ⟨⟨fn,n,tm,x::k,ds,false,kind,rd⟩,cs,st⟩ K
def UI (l:Nat):ST:=WV (.inRangeFunc l)
def Z3 (l:Nat):ST:=WV (.endRangeFunc l)
def WN:ST:=WV .beginRound
def YR (d:Deferred)(b:Bool)(r:String)(a:Array Value):ST:=WV (.call d b r a)
def Z4 (r:String)(a:Array Value):ST:=WV (.extern r a)
def WY (x:Item):ST:= @Item.rec (λ_=>ST) YT WU YU WT UJ UI Z3 WN YR Z4 x
theorem RY (x:Item)(P:Program)(G:OpF)(F:DrF)(rec:KC)(D:FuncId)(n:Nat)(E:Tr Value)(y:List Deferred)(kind:CallKind)(rd:Option Nat)(cs:List FA)(st:StE)(k:List Item)(K:KC):
 WY x P G F rec D n E y kind rd cs st k K=CC P G F rec ⟨⟨D,n,E,x::k,y,false,kind,rd⟩,cs,st⟩ K:=by
 cases x with
 |code c=>exact Ry c P F rec D n E y kind rd cs st k K
 |inRegion ops l=>
  cases l with
  |nil=>rfl
  |cons i rest=>exact Vq P G D n E [] y kind rd cs st ops i rest k K
 |_=>rfl
abbrev TT:=Program->OpF->DrF->FuncId->Nat->Tr Value->List Deferred->CallKind->Option Nat->List FA->StE->List Item->KC->Option Rs
def qan:TT:=λP op dr fn n tm ds kind rd cs st todo ih=>match todo with
 |[]=>vL none ⟨fn,n,tm,[],ds,false,kind,rd⟩ cs st ih
 |x::k=>WY x P op dr ih fn n tm ds kind rd cs st k ih
def qam:TT:=λP op dr fn n tm ds kind rd cs st todo ih=>match ds with
 |[]=>match cs with
  |[]=>bif Yh kind then Vt P fn tm st λv=>some (v,st)else none
  |c::rest=>Vt P fn tm st λv=>match kind with
   |.normal=>WJ c v λc=>ih ⟨c,rest,st⟩
   |.deferred=>bif c.ret then ih ⟨c,rest,st⟩ else none
   |_=>none
 |d::ds=>Yl P ⟨fn,n,tm,todo,d::ds,true,kind,rd⟩ cs st ih
def tGo (P:Program)(op:OpF)(dr:DrF)(ih:KC)(cs:List FA)(st:StE)(fn:FuncId)(n:Nat)(tm:Tr Value)(todo:List Item)(ds:List Deferred)(ret:Bool)(kind:CallKind)(rd:Option Nat):Option Rs:=
 @Bool.rec (λ_=>TT) qan qam ret P op dr fn n tm ds kind rd cs st todo ih
def ZQ (P:Program)(op:OpF)(dr:DrF)(ih:KC)(C:Cfq):Option Rs:=match C with
 |⟨fr,cs,st⟩=> @FA.rec (λ_=>Option Rs) (tGo P op dr ih cs st) fr
def Ya (C:Cfq):Bool:=match C with
 |⟨⟨_,_,_,_,ds,ret,kind,_⟩,cs,_⟩=>bif ret then(match ds,cs with|[],[]=>Yh kind|_,_=>false)else false
def Vy (P:Program)(opA:OpF)(drA:DrF):Nat->Cfq->Option Rs:=
 Nat.rec (λ_=>none) λ_ ih=>ZQ P opA drA ih
theorem VK (P:Program)(opA:OpF)(drA:DrF)(ih:KC)(D:FuncId)(n:Nat)(E:Tr Value)(F:List Item)(y:List Deferred)(ret:Bool)(kind:CallKind)(rd:Option Nat)(cs:List FA)(st:StE):
 ZQ P opA drA ih ⟨⟨D,n,E,F,y,ret,kind,rd⟩,cs,st⟩=bif Ya ⟨⟨D,n,E,F,y,ret,kind,rd⟩,cs,st⟩ then Vt P D E st (λv=>some (v,st))else CC P opA drA ih ⟨⟨D,n,E,F,y,ret,kind,rd⟩,cs,st⟩ ih:=by
 cases ret with
 |false=>
  cases F with
  |nil=>rfl
  |cons x k=>exact RY x P opA drA ih D n E y kind rd cs st k ih
 |true=>
  cases y with
  |cons d y=>rfl
  |nil=>
   cases cs with
   |nil=>cases kind <;> rfl
   |cons c rest=>rfl
theorem Qh {opA:OpF}{drA:DrF}(Y:xC P opA)(U:Aq P drA):∀k,oG P (Vy P opA drA k)
 |0=>λC r h=>nomatch h
 |k+1=>by
  intro C r h m f cs' w V R O H;have Z:=Qh Y U k;obtain⟨⟨E,n,F,G,D,ret,kind,rd⟩,cs,st⟩:=C;have key:CC P opA drA (Vy P opA drA k) ⟨⟨E,n,F,G,D,ret,kind,rd⟩,cs,st⟩ (Vy P opA drA k)=some r->∃I v' w' J,m.le I/\VR I r.1 v'/\Sim I r.2 w'.heap/\
   Nxt w (Own m st) w' (Own I r.2)/\Steps P (lone f (cs'++H) w) (lone J H w')/\J.fn=bot ⟨E,n,F,G,D,ret,kind,rd⟩ cs/\J.leaving P w' (.returned v'):=λh=>by
   obtain⟨aa,h1,M,aj⟩:=SJ Y U Z h;obtain⟨b3,ad,ac,b7,bk,bt,a8,av,bq,b1⟩:=aj m f cs' w H V R O;obtain⟨b4,b6,b8,af,bl,b0,bs,b2,bu,an,be⟩:=Z aa r h1 b3 ad ac b7 a8 av bq H;exact⟨b4,b6,b8,af,bk.trans bl,b0,bs,b1.trans b2,bt.trans bu,an.trans M,be⟩
  have h:(bif Ya ⟨⟨E,n,F,G,D,ret,kind,rd⟩,cs,st⟩ then Vt P E F st (λv=>some (v,st))else CC P opA drA (Vy P opA drA k) ⟨⟨E,n,F,G,D,ret,kind,rd⟩,cs,st⟩ (Vy P opA drA k))=some r:=(VK ..).symm.trans h;cases y:Ya ⟨⟨E,n,F,G,D,ret,kind,rd⟩,cs,st⟩ with
  |false=>rw[y]at h;exact key h
  |true=>
   rw[y,cond_true]at h;obtain⟨v,h,ag,a9,bp⟩:=Qd h;cases h;unfold Ya at y;cases ret with
   |false=>cases y
   |true=>
    cases D with
    |cons=>cases cs <;> cases y
    |nil=>
     cases cs with
     |cons=>cases y
     |nil=>
      have bb:kind=.normal:=by cases kind <;> first|rfl|cases y
      cases V with
      |@mk _ _ _ _ cf _ b9 _ _ _ cd b5 bw cc a0 cb=>
       cases a0;cases R;obtain⟨v',h1,M⟩:=bp m n b5 w bw O;exact⟨m,v',w,_,m.le_refl,h1,O,Nxt.refl _ _,.refl _ _,rfl,rfl,rfl,bb,ag,a9,M⟩
theorem HY {opA:OpF}{drA:DrF}(Z:xC P opA)(V:Aq P drA){f:FuncId}{args args':List Value}{st:StE}{r:Rs}(h:Ny P f args .normal (λA=>Vy P opA drA k ⟨A,[],st⟩)=some r)
 {m:Mp} (U:VRL m args args') (D:Sim m st w.heap):Calls P f args'.toArray w λe w'=>∃y v',e=.returned v'/\m.le y/\VR y r.1 v'/\Sim y r.2 w'.heap/\Nxt w (Own m st) w' (Own y r.2):=by
 intro E;obtain⟨A,h,R,Y⟩:=xI h;obtain⟨y,v',w',F,h1,G,H,I,J,M,O⟩:=Qh Z V k _ _ h m _ [] w (Y m args' D.glob U) .nil D E;exact⟨.returned v',w',F,⟨y,v',rfl,h1,G,H,I⟩,J,M.trans R,O⟩
def Wf (m:Mp):Prop:=∀k p,m k=some p->p.room.isSome=Nat.beq (k%2) 1/\p.base=0
theorem bi {m:Mp}{y:dX}{a:Act}(h:EnR m n y a){x:Operand}{v:Value}(D:evE y x=some v):VR m v (a.eval x):=h x v D
def iF (P:Program)(tm:dX)(o:Oper)(v:Value):Prop:=∀(m:Mp) (n:Nat) (a:Act),EnR m n tm a->Wf m->∃v',VR m v v'/\∀w,(execOp a.eval o).run P w=.ok (.value v') w
theorem cg {s:Sem Value}{v:Value}{w w':World}(h:s.run P w=.ok v w'):(do pure (Next.value (<- s)):Sem Next).run P w=.ok (.value v) w':=by
 simp[h]
theorem L0 {s:Sem Unit}{w w':World}(h:s.run P w=.ok () w'):(do s;pure Next.skip:Sem Next).run P w=.ok .skip w':=by
 simp[h]
theorem aY {d:TypeDesc}(h:P.underlying t=some d)(w:World):(underlying t).run P w=.ok d w:=by
 simp[underlying,h]
theorem jt {d:TypeInfo}(h:P.info? t=some d)(w:World):(typeInfo t).run P w=.ok d w:=by
 simp[typeInfo,h]
theorem im {d:TypeInfo}(h:P.info? t=some d)(w:World):(sizeOf t).run P w=.ok d.size w:=by
 simp[sizeOf,jt h]
def evK {β:Type}(tm:dX)(x:Operand)(K:Value->Option β):Option β:=match evE tm x with
 |some v=>K v
 |none=>none
theorem cu {E:Type}{y:dX}{x:Operand}{K:Value->Option E}{r:E}(h:evK y x K=some r):∃v,evE y x=some v/\K v=some r:=by
 unfold evK at h;cases D:evE y x with
 |none=>rw[D]at h;cases h
 |some v=>rw[D]at h;exact⟨v,rfl,h⟩
def ev0 (tm:dX)(x:Operand):Value:=match evE tm x with
 |some v=>v
 |none=>.tuple #[]
def Be (tm:dX)(x:Operand):Bool:=match evE tm x with
 |some v=>mg v
 |none=>false
def yE (tm:dX)(l:List Operand):Bool:=List.rec true (λx _ ih=>bif Be tm x then ih else false) l
theorem OL {D:dX}{l:List Operand}(h:yE D l=true){m:Mp}{a:Act}(H:EnR m n D a):∀x∈l,a.eval x=ev0 D x:=by
 induction l with
 |nil=>exact λ_ h=>absurd h (by simp)
 |cons G l I=>
  have h:(bif Be D G then yE D l else false)=true:=h;cases y:Be D G with
  |false=>rw[y]at h;cases h
  |true=>
   rw[y,cond_true]at h;intro x F;rcases List.mem_cons.1 F with rfl|F
   ·unfold Be at y;unfold ev0;cases E:evE D x with
    |none=>rw[E]at y;cases y
    |some v=>rw[E]at y;exact VR.eq y (bi H E)
   ·exact I h x F
def pz (P:Program)(tm:dX)(o:Oper)(l:List Operand)(K:Value->Option Rs):Option Rs:=bif yE tm l then match ZN P (execOp (ev0 tm) o)with
 |some (.value v)=>bif mg v then fW v K else none
 |_=>none else none
theorem jr {E:dX}{o:Oper}{l:List Operand}{K:Value->Option Rs}{r:Rs}(F:∀x∈o.op.operands,x∈l)(G:∀cs b,o.op≠.select cs b)(h:pz P E o l K=some r):∃v,K v=some r/\iF P E o v:=by
 unfold pz at h;cases D:yE E l with
 |false=>rw[D]at h;cases h
 |true=>
  rw[D,cond_true]at h;split at h
  ·rename_i v I;cases y:mg v with
   |false=>rw[y]at h;cases h
   |true=>
    rw[y,cond_true,YP]at h;refine⟨v,h,λm n a H _=>⟨v,VR.refl y,λw=>?_⟩⟩;rw[execOp_congr o G λx J=>OL D H x (F x J)];exact Vx I w
  ·cases h
theorem TB {y:dX}{o:Oper}{x:Operand}{v:Value}(E:evE y x=some v)(h:∀(ρ:Operand->Value) w,(execOp ρ o).run P w=.ok (.value (ρ x)) w):iF P y o v:=
 λm n a D _=>⟨_,bi D E,λw=>h _ w⟩
def sH (P:Program)(tm:dX)(t:TypeId)(x:Operand)(f:Nat)(K:Value->Option Rs):Option Rs:=evK tm x λv=>match v with
 |.pointer (some ⟨b,o,none⟩)=>match P.underlying t with
  |some (.struct fs)=>match fs[f]? with
   |some fd=>bif vp P fd.type && !(Nat.beq (tD P fd.type) 0)then mK (o+fd.offset) λo=>K (.pointer (some ⟨b,o,none⟩))else none
   |none=>none
  |_=>none
 |_=>none
theorem iO (h:vp P t=true):∃i,P.info? t=some i/\tD P t=i.size:=by
 unfold vp at h;cases y:P.info? t with
 |none=>rw[y]at h;cases h
 |some i=>exact⟨i,rfl,by unfold tD;rw[y]⟩
theorem FK {E:dX}{o:Oper}{x:Operand}{f:Nat}{K:Value->Option Rs}{r:Rs}(I:o.op=.fieldAddr t x f)(h:sH P E t x f K=some r):∃v,K v=some r/\iF P E o v:=by
 obtain⟨v,U,h⟩:=cu h;split at h
 ·rename_i b off;split at h
  ·rename_i V O;split at h
   ·rename_i D G;cases y:(vp P D.type && !(Nat.beq (tD P D.type) 0))with
    |false=>rw[y]at h;cases h
    |true=>
     rw[y,cond_true,cw]at h;simp only[Bool.and_eq_true,Bool.not_eq_true']at y;obtain⟨i,H,J⟩:=iO y.1;have F: ¬ i.size=0:=λe=>by rw[J,e]at y;exact nomatch y.2
     refine⟨_,h,λm n a M _=>?_⟩;obtain⟨p,hp,_,R⟩:=(bi M U).ptrI;refine⟨.pointer (some ⟨p.blk,p.base+(off+D.offset),none⟩),.ptr hp,λw=>?_⟩;unfold execOp;rw[I];refine cg ?_;rw[R];simp[Instr.fieldAt,aY O,G,Instr.sureAddr,fieldPlace,im H,F,hX,Nat.add_assoc]
   ·cases h
  ·cases h
 ·cases h
def Kd (j:Int)(n:Nat):Bool:=match j with
 |.ofNat q=>Nat.ble (Nat.succ q) n
 |_=>false
theorem xO {j:Int}(h:Kd j n=true):0 <=j/\j<(n:Int):=by
 cases j with
 |ofNat q=>have:=Nat.le_of_ble_eq_true h;exact⟨by simp,by simp;omega⟩
 |negSucc q=>cases h
def sL (P:Program)(tm:dX)(t:TypeId)(x i:Operand)(K:Value->Option Rs):Option Rs:=evK tm x λv=>evK tm i λj=>match j with
 |.int _ j=>match P.underlying t,v with
  |some (.slice e),.slice (some ⟨b,o,none⟩) n _=>bif Kd j n&&vp P e then mK (o+j.toNat*tD P e) λo=>K (.pointer (some ⟨b,o,none⟩))else none
  |some (.array n e),.pointer (some ⟨b,o,none⟩)=>bif Kd j n&&vp P e then mK (o+j.toNat*tD P e) λo=>K (.pointer (some ⟨b,o,none⟩))else none
  |_,_=>none
 |_=>none
theorem F3 {R:dX}{o:Oper}{x i:Operand}{K:Value->Option Rs}{r:Rs}(M:o.op=.indexAddr t x i)(h:sL P R t x i K=some r):∃v,K v=some r/\iF P R o v:=by
 obtain⟨v,O,h⟩:=cu h;obtain⟨V,J,h⟩:=cu h;split at h
 ·rename_i k j;split at h
  ·rename_i e b off I c G _;cases y:(Kd j I&&vp P e)with
   |false=>rw[y]at h;cases h
   |true=>
    rw[y,cond_true,cw]at h;simp only[Bool.and_eq_true]at y;obtain⟨U,E,F⟩:=iO y.2;refine⟨_,h,λm n a D _=>?_⟩;obtain⟨p,c',hp,_,H,_⟩:=(bi D O).sliceI;refine⟨.pointer (some ⟨p.blk,p.base+(off+j.toNat*tD P e),none⟩),.ptr hp,λw=>?_⟩;unfold execOp;rw[M];refine cg ?_;rw[H,VR.eq rfl (bi D J),F];simp[Instr.indexAt,asIntOf,aY G,im E,(xO y.1).1,(xO y.1).2,hX,Nat.add_assoc]
  ·rename_i I e b off G _;cases y:(Kd j I&&vp P e)with
   |false=>rw[y]at h;cases h
   |true=>
    rw[y,cond_true,cw]at h;simp only[Bool.and_eq_true]at y;obtain⟨U,E,F⟩:=iO y.2;refine⟨_,h,λm n a D _=>?_⟩;obtain⟨p,hp,_,H⟩:=(bi D O).ptrI;refine⟨.pointer (some ⟨p.blk,p.base+(off+j.toNat*tD P e),none⟩),.ptr hp,λw=>?_⟩;unfold execOp;rw[M];refine cg ?_;rw[H,VR.eq rfl (bi D J),F];simp[Instr.indexAt,asIntOf,aY G,im E,Instr.sureAddr,(xO y.1).1,(xO y.1).2,hX,Nat.add_assoc]
  ·cases h
 ·cases h
theorem VRL.drop {m:Mp} :∀{l y:List Value} (k:Nat),VRL m l y->VRL m (l.drop k) (y.drop k)
 |_,_,0,h=>h
 |[],_,k+1,.nil=>.nil
 |_::_,_,k+1,.cons _ t=>VRL.drop k t
theorem VRL.take {m:Mp} :∀{l y:List Value} (k:Nat),VRL m l y->VRL m (l.take k) (y.take k)
 |_,_,0,_=>by rw[List.take_zero,List.take_zero];exact .nil
 |[],_,k+1,.nil=>.nil
 |_::_,_,k+1,.cons h t=>.cons h (VRL.take k t)
def Sm (P:Program)(t:TypeId)(l:List Value)(off:Nat)(K:Value->Option Rs):Option Rs:=bif MD P t then bif V2 P t then bif vp P t then fVL ((l.drop off).take (tD P t)) λl=>K (.agg ⟨l⟩)else none
 else match l[off]? with
  |some v=>K v
  |none=>none
 else none
theorem LN {l:List Value}{K:Value->Option Rs}{r:Rs}(h:Sm P t l n K=some r):∃v,K v=some r/\∀(m:Mp) (y:List Value),VRL m l y->∃v',VR m v v'/\∀w,(part t ⟨y⟩ n).run P w=.ok v' w:=by
 unfold Sm at h;cases E:MD P t with
 |false=>rw[E]at h;cases h
 |true=>
  rw[E,cond_true]at h;cases D:V2 P t with
  |true=>
   rw[D,cond_true]at h;cases F:vp P t with
   |false=>rw[F]at h;cases h
   |true=>
    rw[F,cond_true,vy]at h;refine⟨_,h,λm y G=>⟨.agg ⟨(y.drop n).take (tD P t)⟩,.agg ((G.drop n).take _),λw=>?_⟩⟩;unfold part;simp only[Sem.run_bind,sR E,D,Result.andThen_ok,if_true,Cy F,Sem.run_pure];congr 2;apply Array.ext';simp[List.extract_eq_take_drop]
  |false=>
   rw[D,cond_false]at h;cases H:l[n]? with
   |none=>rw[H]at h;cases h
   |some v=>
    rw[H]at h;refine⟨_,h,λm y G=>?_⟩;obtain⟨v',h1,I⟩:=G.get n H;refine⟨v',I,λw=>?_⟩;unfold part;simp only[Sem.run_bind,sR E,D,Result.andThen_ok,Bool.false_eq_true,if_false];have:(⟨y⟩:Array Value)[n]? =some v':=by simpa using h1
    rw[this];rfl
def Ll (P:Program)(tm:dX)(t:TypeId)(x:Operand)(f:Nat)(K:Value->Option Rs):Option Rs:=evK tm x λv=>match v with
 |.agg ⟨l⟩=>match P.underlying t with
  |some (.struct fs)=>match fs[f]? with
   |some fd=>Sm P fd.type l fd.offset K
   |none=>none
  |_=>none
 |_=>none
theorem OI {y:dX}{o:Oper}{x:Operand}{f:Nat}{K:Value->Option Rs}{r:Rs}(I:o.op=.field t x f)(h:Ll P y t x f K=some r):∃v,K v=some r/\iF P y o v:=by
 obtain⟨v,R,h⟩:=cu h;split at h
 ·rename_i l;split at h
  ·rename_i Z M;split at h
   ·rename_i Y E;obtain⟨u,G,F⟩:=LN h;refine⟨u,G,λm n a J _=>?_⟩;obtain⟨U,O,H⟩:=(bi J R).aggI;obtain⟨V,h1,D⟩:=F m U H;refine⟨V,h1,λw=>?_⟩;unfold execOp;rw[I];refine cg ?_;rw[O];simp[Instr.field,aY M,E,asAgg,D]
   ·cases h
  ·cases h
 ·cases h
def Iz (P:Program)(tm:dX)(o:Oper)(t:TypeId)(x i:Operand)(K:Value->Option Rs):Option Rs:=match P.underlying t with
 |some (.array n e)=>evK tm x λv=>evK tm i λj=>match v,j with
  |.agg ⟨l⟩,.int _ j=>bif Kd j n&&vp P e then Sm P e l (j.toNat*tD P e) K else none
  |_,_=>none
 |_=>pz P tm o [x,i] K
theorem Pa {H:dX}{o:Oper}{x i:Operand}{K:Value->Option Rs}{r:Rs}(D:o.op=.index t x i)(h:Iz P H o t x i K=some r):∃v,K v=some r/\iF P H o v:=by
 unfold Iz at h;split at h
 ·rename_i ac e V;obtain⟨v,Z,h⟩:=cu h;obtain⟨af,M,h⟩:=cu h;split at h
  ·rename_i l k j _;cases y:(Kd j ac&&vp P e)with
   |false=>rw[y]at h;cases h
   |true=>
    rw[y,cond_true]at h;simp only[Bool.and_eq_true]at y;obtain⟨ag,J,U⟩:=iO y.2;obtain⟨u,O,I⟩:=LN h;refine⟨u,O,λm n a F _=>?_⟩;obtain⟨aa,Y,R⟩:=(bi F Z).aggI;obtain⟨ad,h1,E⟩:=I m aa R;refine⟨ad,h1,λw=>?_⟩;unfold execOp;rw[D];refine cg ?_;rw[U]at E;rw[Y,VR.eq rfl (bi F M)];simp[Instr.index,asIntOf,aY V,im J,(xO y.1).1,(xO y.1).2,E]
  ·cases h
 ·exact jr (λaj G=>by rw[D]at G;simpa[Op.operands]using G) (λcs b=>by rw[D];simp) h
def zT (tm:dX)(x:Operand)(i:Nat)(K:Value->Option Rs):Option Rs:=evK tm x λv=>match v with
 |.tuple ⟨l⟩=>match l[i]? with
  |some v=>K v
  |none=>none
 |_=>none
theorem J6 {y:dX}{o:Oper}{x:Operand}{K:Value->Option Rs}{r:Rs}(F:o.op=.extract x i)(h:zT y x i K=some r):∃v,K v=some r/\iF P y o v:=by
 obtain⟨v,J,h⟩:=cu h;split at h
 ·rename_i l;split at h
  ·rename_i u H;refine⟨u,h,λm n a G _=>?_⟩;obtain⟨M,I,E⟩:=(bi G J).tupleI;obtain⟨u',h1,D⟩:=E.get i H;refine⟨u',D,λw=>?_⟩;unfold execOp;rw[F];refine cg ?_;rw[I];have:(⟨M⟩:Array Value)[i]? =some u':=by simpa using h1
   simp[Instr.extract,this]
  ·cases h
 ·cases h
def iQ (P:Program)(tm:dX)(t:TypeId)(x:Operand)(K:Value->Option Rs):Option Rs:=match P.underlying t with
 |some (.interface _)=>none
 |some _=>evK tm x λv=>K (.iface t v)
 |none=>none
theorem xR {y:dX}{o:Oper}{x:Operand}{K:Value->Option Rs}{r:Rs}(D:o.op=.makeInterface t x)(h:iQ P y t x K=some r):∃v,K v=some r/\iF P y o v:=by
 unfold iQ at h;split at h
 ·cases h
 ·rename_i d H F;obtain⟨v,G,h⟩:=cu h;refine⟨_,h,λm n a E _=>⟨_,.iface (bi E G),λw=>?_⟩⟩;unfold execOp;rw[D];refine cg ?_;unfold Instr.makeInterface;rw[Sem.run_bind,aY F];cases d <;> first|rfl|exact absurd rfl (H _)
 ·cases h
def evL {β:Type}(tm:dX)(l:List Operand):(List Value->Option β)->Option β:=List.rec (motive:=λ_=>(List Value->Option β)->Option β) (λK=>K []) (λx _ ih K=>evK tm x λv=>ih λl=>K (v::l)) l
theorem Ig {E:Type}{y:dX}{r:E} :∀{l:List Operand} {K:List Value->Option E},evL y l K=some r->∃vs,K vs=some r/\∀(m:Mp) (n:Nat) (a:Act),EnR m n y a->VRL m vs (l.map a.eval)
 |[],K,h=>⟨[],h,λ_ _ _ _=>.nil⟩
 |x::l,K,h=>by
  have h:(evK y x λv=>evL y l λl=>K (v::l))=some r:=h;obtain⟨v,H,h⟩:=cu h;obtain⟨vs,G,F⟩:=Ig h;exact⟨_,G,λm n a D=>.cons (bi D H) (F m n a D)⟩
def rD (tm:dX)(f:Fn)(a b:List Operand)(K:Value->Option Rs):Option Rs:=match f with
 |.func g=>evL tm a λa=>evL tm b λb=>K (.func (.func g) ⟨a⟩ ⟨b⟩)
 |_=>none
theorem IK {F:dX}{o:Oper}{f:Fn}{x D:Array Operand}{K:Value->Option Rs}{r:Rs}(M:o.op=.makeFunc f x D)(h:rD F f x.toList D.toList K=some r):∃v,K v=some r/\iF P F o v:=by
 unfold rD at h;split at h
 ·rename_i g;obtain⟨a,h,I⟩:=Ig h;obtain⟨b,h,J⟩:=Ig h;refine⟨_,h,λm n y E _=>⟨.func (.func g) ⟨x.toList.map y.eval⟩ ⟨D.toList.map y.eval⟩,.func rfl (I m n y E) (J m n y E),λw=>?_⟩⟩;unfold execOp;rw[M];refine cg ?_;have G:x.map y.eval=⟨x.toList.map y.eval⟩:=by apply Array.ext';simp
  have H:D.map y.eval=⟨D.toList.map y.eval⟩:=by apply Array.ext';simp
  rw[G,H];rfl
 ·cases h
def We (tm:dX)(x:Option Operand)(d:Nat)(K:Nat->Option Rs):Option Rs:=match x with
 |none=>K d
 |some x=>evK tm x λv=>match v with
  |.int _ (.ofNat q)=>K q
  |_=>none
theorem Gn {D:dX}{x:Option Operand}{d:Nat}{K:Nat->Option Rs}{r:Rs}(h:We D x d K=some r):∃q,K q=some r/\∀(m:Mp) (n:Nat) (a:Act),EnR m n D a->(x.map a.eval=none/\q=d)\/∃k,x.map a.eval=some (.int k (.ofNat q)):=by
 unfold We at h;cases x with
 |none=>exact⟨d,h,λ_ _ _ _=>.inl ⟨rfl,rfl⟩⟩
 |some x=>
  obtain⟨v,F,y⟩:=cu h;clear h;split at y
  ·rename_i k q;exact⟨q,y,λm n a E=>.inr ⟨k,by rw[Option.map_some,VR.eq rfl (bi E F)]⟩⟩
  ·cases y
theorem Qj {k:IntKind}{q y:Nat}{code:BoundsCode}(h:q <=y)(w:World):(Instr.sliceBound (.int k (.ofNat q)) y code).run P w=.ok q w:=by
 have h1:(0:Int) <=(Int.ofNat q)/\(Int.ofNat q) <=(y:Int):=⟨by simp,by simp;exact h⟩
 simp only[Instr.sliceBound,asIntOf,Sem.run_bind,Sem.run_pure,Result.andThen_ok,if_pos h1];rfl
theorem LZ {len cap l h:Nat}{D y:Option Value}(G:(D=none/\l=0)\/∃k,D=some (.int k (.ofNat l)))(F:(y=none/\h=len)\/∃k,y=some (.int k (.ofNat h)))(h1:l <=h)(E:h <=cap)(w:World):
 (Instr.sliceBounds O len cap D y none).run P w=.ok (l,h,cap) w:=by
 rcases G with⟨rfl,rfl⟩|⟨k,rfl⟩ <;> rcases F with⟨rfl,rfl⟩|⟨k',rfl⟩ <;> simp only[Instr.sliceBounds,Qj h1,Qj E,Sem.run_bind,Sem.run_pure,Result.andThen_ok,Option.isSome_none,Bool.false_eq_true,if_false]
def Jj (P:Program)(tm:dX)(o:Oper)(t:TypeId)(x:Operand)(lo hi:Option Operand)(K:Value->Option Rs):Option Rs:=bif yE tm (x::(lo.toList++hi.toList))then pz P tm o (x::(lo.toList++hi.toList)) K else evK tm x λv=>
 match P.underlying t,v with
 |some (.slice e),.slice (some ⟨b,off,none⟩) n c=>We tm lo 0 λl=>We tm hi n λh=>
  bif Nat.ble l h&&Nat.ble h c&&vp P e && !(Nat.beq (b%2) 1&&Nat.beq c l) && !(Nat.beq (tD P e) 0)then mK (bif Nat.beq c l then off else off+l*tD P e) λoff=>mK (h-l) λn=>mK (c-l) λc=>K (.slice (some ⟨b,off,none⟩) n c)else none
 |some (.array n e),.pointer (some ⟨b,off,none⟩)=>We tm lo 0 λl=>We tm hi n λh=>
  bif Nat.ble l h&&Nat.ble h n&&vp P e&&Nat.beq (b%2) 0 then mK (bif Nat.beq n l then off else off+l*tD P e) λoff=>mK (h-l) λk=>mK (n-l) λc=>K (.slice (some ⟨b,off,none⟩) k c)else none
 |_,_=>none
theorem Qr {be:dX}{o:Oper}{x:Operand}{aa U:Option Operand}{K:Value->Option Rs}{r:Rs}(V:o.op=.slice t x aa U none)(h:Jj P be o t x aa U K=some r):∃v,K v=some r/\iF P be o v:=by
 unfold Jj at h;cases bp:yE be (x::(aa.toList++U.toList))with
 |true=>
  rw[bp,cond_true]at h;refine jr (λb3 bs=>?_) (λcs b=>by rw[V];simp) h;rw[V]at bs;cases aa <;> cases U <;> simpa[Op.operands]using bs
 |false=>
  rw[bp,cond_false]at h;obtain⟨v,Z,R⟩:=cu h;clear h;split at R
  ·rename_i e b off J c a0;obtain⟨l,h1,av⟩:=Gn R;obtain⟨H,F,aj⟩:=Gn h1;cases G:(Nat.ble l H&&Nat.ble H c&&vp P e && !(Nat.beq (b%2) 1&&Nat.beq c l) && !(Nat.beq (tD P e) 0))with
   |false=>rw[G]at F;cases F
   |true=>
    rw[G,cond_true,cw,cw,cw]at F;simp only[Bool.and_eq_true,Bool.not_eq_true',Nat.ble_eq]at G;obtain⟨⟨⟨⟨ac,ad⟩,af⟩,M⟩,bk⟩:=G;obtain⟨bb,an,Y⟩:=iO af;refine⟨_,F,λm n a I a9=>?_⟩;obtain⟨p,c',hp,_,a8,D⟩:=(bi I Z).sliceI;have bu:c <=c':=by
     cases E:p.room with
     |none=>rw[E]at D;have D:c=c':=D;omega
     |some b2=>rw[E]at D;exact D.1
    have b1:∀w,(execOp a.eval o).run P w=.ok (.value (.slice (some (if c'=l then⟨p.blk,p.base+off,none⟩ else⟨p.blk,p.base+off+l*bb.size,none⟩)) (H-l) (c'-l))) w:=λw=>by
     unfold execOp;rw[V];refine cg ?_;rw[a8];simp only[Instr.sliceAt,Instr.slice,Sem.run_bind,aY a0,Result.andThen_ok,Option.map_none,LZ (av m n a I) (aj m n a I) ac (Nat.le_trans ad bu),im an,Sem.run_pure];congr 3;split <;> simp[hX]
    refine⟨_,?_,b1⟩;rw[Y];cases E:p.room with
    |none=>
     rw[E]at D;have D:c=c':=D;subst D;by_cases y:c=l
     ·subst y;rw[if_pos rfl,Nat.beq_refl];exact .slice hp (by rw[E])
     ·have O:Nat.beq c l=false:=nb y;rw[if_neg y,O,cond_false,Nat.add_assoc];exact .slice hp (by rw[E])
    |some b2=>
     rw[E]at D;have bw:Nat.beq (b%2) 1=true:=by rw[<- (a9 _ _ hp).1,E];rfl
     have y:Nat.beq c l=false:=by cases Z:Nat.beq c l with|false=>rfl|true=>rw[bw,Z]at M;cases M
     have O: ¬ c=l:=λe=>by rw[nbt e]at y;cases y
     have e3: ¬ c'=l:=by omega
     rw[if_neg e3,y,cond_false,Nat.add_assoc];refine .slice hp ?_;rw[E];refine⟨by omega,λbl=>?_⟩;have bl:off+l*bb.size=0:=bl;by_cases bq:l=0
     ·subst bq;rw[Nat.sub_zero];exact D.2 (show off=0 by omega)
     ·exfalso;have bt:l*tD P e=0:=by rw[Y];omega
      rcases Nat.mul_eq_zero.1 bt with ag|ag
      ·exact bq ag
      ·rw[ag]at bk;cases bk
  ·rename_i J e b off a0;obtain⟨l,h1,av⟩:=Gn R;obtain⟨H,F,aj⟩:=Gn h1;cases G:(Nat.ble l H&&Nat.ble H J&&vp P e&&Nat.beq (b%2) 0)with
   |false=>rw[G]at F;cases F
   |true=>
    rw[G,cond_true,cw,cw,cw]at F;simp only[Bool.and_eq_true,Nat.ble_eq]at G;obtain⟨⟨⟨ac,ad⟩,af⟩,M⟩:=G;obtain⟨bb,an,Y⟩:=iO af;refine⟨_,F,λm n a I a9=>?_⟩;obtain⟨p,hp,_,a8⟩:=(bi I Z).ptrI;have b0:p.room=none:=by
     have h1:=(a9 _ _ hp).1;rw[Nat.eq_of_beq_eq_true M]at h1;cases E:p.room with
     |none=>rfl
     |some r=>rw[E]at h1;cases h1
    refine⟨.slice (some ⟨p.blk,p.base+(bif Nat.beq J l then off else off+l*tD P e),none⟩) (H-l) (J-l),.slice hp (by rw[b0]),λw=>?_⟩;unfold execOp;rw[V];refine cg ?_;rw[a8];simp only[Instr.sliceAt,Sem.run_bind,aY a0,Result.andThen_ok,Option.map_none,Instr.sureAddr,LZ (av m n a I) (aj m n a I) ac ad,im an,Sem.run_pure];congr 3;by_cases y:J=l
    ·subst y;rw[if_pos rfl,Nat.beq_refl];rfl
    ·have O:Nat.beq J l=false:=nb y;rw[if_neg y,O,cond_false,Y,hX,Nat.add_assoc]
  ·cases R
def Nd (seg:List Value):Nat->List Value->List Value:=List.rec (motive:=λ_=>Nat->List Value->List Value) (λ_ l=>l) (λv _ ih o l=>ih (Nat.succ o) (l.set o v)) seg
theorem VRL.set {m:Mp} :∀{l D:List Value} {v v':Value} (k:Nat),VRL m l D->VR m v v'->VRL m (l.set k v) (D.set k v')
 |[],_,_,_,_,.nil,_=>.nil
 |_::_,_,_,_,0,.cons _ t,y=>.cons y t
 |_::_,_,_,_,k+1,.cons h t,y=>.cons h (VRL.set k t y)
theorem Qq {m:Mp} :∀{D E:List Value} {l y:List Value} (o:Nat),VRL m D E->VRL m l y->VRL m (Nd D o l) (Nd E o y)
 |[],_,_,_,_,.nil,h=>h
 |_::_,_,_,_,o,.cons F t,h=>Qq (o+1) t (VRL.set o h F)
theorem ET:∀(y:List Value) (k off:Nat) (l:List Value),(y.zipIdx k).foldl (λcs (c,j)=>cs.setIfInBounds (off+j) c) (⟨l⟩:Array Value)=⟨Nd y (off+k) l⟩
 |[],_,_,_=>rfl
 |v::y,k,off,l=>by
  rw[List.zipIdx_cons,List.foldl_cons];have e:(⟨l⟩:Array Value).setIfInBounds (off+k) v=⟨l.set (off+k) v⟩:=by apply Array.ext';simp
  show List.foldl _ ((⟨l⟩:Array Value).setIfInBounds (off+k) v) _=_;rw[e,ET y (k+1) off];rfl
def Im (place:Nat->Option (Nat×Nat))(ps:List (Nat×Value)):List Value->Option (List Value):=List.rec (motive:=λ_=>List Value->Option (List Value)) (λl=>some l) (λp _ ih l=>match place p.1 with
 |none=>none
 |some (off,size)=>bif Nat.beq (ct p.2).length size&&Nat.ble (off+(ct p.2).length) l.length then ih (Nd (ct p.2) off l)else none) ps
inductive PsR (m:Mp):List (Nat×Value)->List (Nat×Value)->Prop
 |nil:PsR m [] []
 |cons {i:Nat} {v v':Value} {l l':List (Nat×Value)} (h:VR m v v') (t:PsR m l l'):PsR m ((i,v)::l) ((i,v')::l')
theorem zU {m:Mp}{place:Nat->Option (Nat×Nat)} :∀{ps H:List (Nat×Value)} {l y z:List Value},Im place ps l=some z->PsR m ps H->VRL m l y->∃F,Instr.fill place ⟨y⟩ H=some ⟨F⟩/\VRL m z F
 |[],_,l,y,z,h,.nil,E=>by cases(Option.some.inj h:l=z);exact⟨y,rfl,E⟩
 |(i,v)::ps,_,l,y,z,h,.cons (v':=v') O t,E=>by
  have h:(match place i with
   |none=>none
   |some (off,size)=>bif Nat.beq (ct v).length size&&Nat.ble (off+(ct v).length) l.length then Im place ps (Nd (ct v) off l)else none)=some z:=h
  cases hp:place i with
  |none=>rw[hp]at h;cases h
  |some q=>
   obtain⟨off,size⟩:=q;rw[hp]at h;simp only at h;cases D:(Nat.beq (ct v).length size&&Nat.ble (off+(ct v).length) l.length)with
   |false=>rw[D]at h;cases h
   |true=>
    rw[D,cond_true]at h;simp only[Bool.and_eq_true,Nat.ble_eq]at D;have G:=O.cellsL;have V:=G.length;have Y:=E.length;obtain⟨F,h1,J⟩:=zU h t (Qq off G E);refine⟨F,?_,J⟩;unfold Instr.fill;rw[hp];have R:v'.cells.size=(ct v').length:=by rw[<- Array.length_toList,jl]
    have U:=Nat.eq_of_beq_eq_true D.1;have M: ¬ ((decide (v'.cells.size≠size) || decide (off+v'.cells.size>(⟨y⟩:Array Value).size))=true):=by
     simp only[ne_eq,Bool.or_eq_true,decide_eq_true_eq,List.size_toArray];omega
    simp only[if_neg M];have I:v'.cells.zipIdx.foldl (λcs (c,j)=>cs.setIfInBounds (off+j) c) (⟨y⟩:Array Value)=⟨Nd (ct v') off y⟩:=by
     have:=ET (ct v') 0 off y;rw[Nat.add_zero]at this;rw[<- this,<- jl];have e3:v'.cells.zipIdx=(v'.cells.toList.zipIdx 0).toArray:=by apply Array.ext';simp[Array.toList_zipIdx]
     rw[e3,List.foldl_toArray]
    rw[I];exact h1
def evP {β:Type}(tm:dX)(l:List (Nat×Operand)):(List (Nat×Value)->Option β)->Option β:=List.rec (motive:=λ_=>(List (Nat×Value)->Option β)->Option β) (λK=>K []) (λx _ ih K=>evK tm x.2 λv=>ih λl=>K ((x.1,v)::l)) l
theorem OC {E:Type}{y:dX}{r:E} :∀{l:List (Nat×Operand)} {K:List (Nat×Value)->Option E},evP y l K=some r->∃vs,K vs=some r/\∀(m:Mp) (n:Nat) (a:Act),EnR m n y a->PsR m vs (l.map λp=>(p.1,a.eval p.2))
 |[],K,h=>⟨[],h,λ_ _ _ _=>.nil⟩
 |(i,x)::l,K,h=>by
  have h:(evK y x λv=>evP y l λl=>K ((i,v)::l))=some r:=h;obtain⟨v,H,h⟩:=cu h;obtain⟨vs,G,F⟩:=OC h;exact⟨_,G,λm n a D=>.cons (bi D H) (F m n a D)⟩
theorem FE {F:Array Field}{i:TypeInfo}{z:Value}{y:List (Nat×Nat)}{ps:Array (Nat×Value)}{cs:Array Value}
 (I:P.info? t=some i) (R:i.zero=some z) (O:P.underlying t=some (.struct F)) (hp:F.toList.mapM (λf=>(P.info? f.type).map λi=>(f.offset,i.size))=some y)
 (H:Instr.fill (y[·]?) z.cells ps.toList=some cs) (w:World):(Instr.build t ps).run P w=.ok (.agg cs) w:=by
 have J:∀(l:List Field) (E:List (Nat×Nat)),l.mapM (λf=>(P.info? f.type).map λi=>(f.offset,i.size))=some E->
  (l.mapM (λf=>do pure (f.offset,<- sizeOf f.type):Field->Sem (Nat×Nat))).run P w=.ok E w:=by
  intro l;induction l with
  |nil=>intro E h;simp at h;subst h;rfl
  |cons f l U=>
   intro E h;rw[List.mapM_cons]at h;cases D:P.info? f.type with
   |none=>simp[D]at h
   |some i=>
    cases G:l.mapM (λf=>(P.info? f.type).map λi=>(f.offset,i.size))with
    |none=>simp[D,G]at h
    |some V=>
     simp[D,G]at h;subst h;rw[List.mapM_cons];simp only[Sem.run_bind,im D,Result.andThen_ok,Sem.run_pure,U _ G]
 have M:(F.mapM (λf=>do pure (f.offset,<- sizeOf f.type):Field->Sem (Nat×Nat))).run P w=.ok y.toArray w:=by
  rw[Array.mapM_eq_mapM_toList,Sem.run_map,J _ _ hp];rfl
 simp only[Instr.build,zeroValue,Sem.run_bind,jt I,Result.andThen_ok,R,Sem.run_pure,aY O,M];have e:(λx:Nat=>y.toArray[x]?)=(y[·]?):=by funext x;simp
 rw[e,H];rfl
def HQ (P:Program)(tm:dX)(t:TypeId)(parts:List (Nat×Operand))(K:Value->Option Rs):Option Rs:=match P.info? t with
 |some i=>match i.zero with
  |some z=>bif pA (ct z)then evP tm parts λps=>match P.underlying t with
   |some (.struct fs)=>match fs.toList.mapM (λf=>(P.info? f.type).map λi=>(f.offset,i.size))with
    |some places=>match Im (places[·]?) ps (ct z)with
     |some l=>fVL l λl=>K (.agg ⟨l⟩)
     |none=>none
    |none=>none
   |some (.array _ e)=>match P.info? e with
    |some ie=>match Im (λj=>some (j*ie.size,ie.size)) ps (ct z)with
     |some l=>fVL l λl=>K (.agg ⟨l⟩)
     |none=>none
    |none=>none
   |_=>none
   else none
  |none=>none
 |none=>none
theorem VRL.refl {m:Mp}{l:List Value}(h:pA l=true):VRL m l l:=by
 have:=VR.refl (m:=m) (v:=.agg ⟨l⟩) (by rw[Bc];exact h);obtain⟨D,h1,y⟩:=this.aggI;cases h1;exact y
theorem zS (z:Value):(⟨ct z⟩:Array Value)=z.cells:=by rw[<- jl]
theorem N1 {U:dX}{o:Oper}{parts:Array (Nat×Operand)}{K:Value->Option Rs}{r:Rs}(M:o.op=.build t parts)(h:HQ P U t parts.toList K=some r):∃v,K v=some r/\iF P U o v:=by
 unfold HQ at h;split at h
 ·rename_i i J;split at h
  ·rename_i z R;cases D:pA (ct z)with
   |false=>rw[D]at h;cases h
   |true=>
    rw[D,cond_true]at h;obtain⟨ps,y,O⟩:=OC h;clear h;split at y
    ·rename_i Z H;split at y
     ·rename_i ad hp;split at y
      ·rename_i l F;rw[vy]at y;refine⟨_,y,λm n a G _=>?_⟩;obtain⟨I,h1,E⟩:=zU F (O m n a G) (VRL.refl D);refine⟨.agg ⟨I⟩,.agg E,λw=>?_⟩;unfold execOp;rw[M];refine cg ?_;refine FE J R H hp ?_ w;rw[zS]at h1;simpa using h1
      ·cases y
     ·cases y
    ·rename_i ac e H;split at y
     ·rename_i aa Y;split at y
      ·rename_i l F;rw[vy]at y;refine⟨_,y,λm n a G _=>?_⟩;obtain⟨I,h1,E⟩:=zU F (O m n a G) (VRL.refl D);refine⟨.agg ⟨I⟩,.agg E,λw=>?_⟩;unfold execOp;rw[M];refine cg ?_;rw[zS]at h1;simp only[Instr.build,zeroValue,Sem.run_bind,jt J,Result.andThen_ok,R,Sem.run_pure,aY H,im Y];have V:(parts.map λp=>(p.1,a.eval p.2)).toList=parts.toList.map λp=>(p.1,a.eval p.2):=by simp
       rw[V,h1];rfl
      ·cases y
     ·cases y
    ·cases y
  ·cases h
 ·cases h
def Uw (P:Program)(t:TypeId)(x y:Value):Option Bool:=match P.underlying t,x,y with
 |some (.pointer _),.pointer (some _),.pointer none=>some false
 |some (.pointer _),.pointer none,.pointer (some _)=>some false
 |some (.pointer e),.pointer (some ⟨b,o,none⟩),.pointer (some ⟨b',o',none⟩)=>bif Nat.beq b b'&&(vp P e && !(Nat.beq (tD P e) 0))then some (Nat.beq o o')else none
 |some (.slice _),.slice (some _) _ _,.slice none _ _=>some false
 |some (.slice _),.slice none _ _,.slice (some _) _ _=>some false
 |some (.map _ _),.map (some _),.map none=>some false
 |some (.map _ _),.map none,.map (some _)=>some false
 |some (.func _ _ _),.func _ _ _,.nilFunc=>some false
 |some (.func _ _ _),.nilFunc,.func _ _ _=>some false
 |some (.interface _),.iface _ _,.nilIface=>some false
 |some (.interface _),.nilIface,.iface _ _=>some false
 |_,_,_=>none
theorem RL {x V:Value}{b:Bool}(h:Uw P t x V=some b){m:Mp}{E F:Value}(G:VR m x E)(H:VR m V F)(w:World):
 (∀y J M,(eqGuard y t J M E F).run P w=.ok () w)/\(∀y,y=.eql\/y=.neq->(binOp y t E F).run P w=.ok (.bool (bif (match y with|.eql=>true|_=>false)then b else !b)) w):=by
 have key:(∀d,(Op.equalIn (d+1) t E F).run P w=.ok b w)->(∀y J M,(eqGuard y t J M E F).run P w=.ok () w)->(binOp .eql t E F=(do pure (.bool (<- Op.equal t E F))))->(binOp .neq t E F=(do pure (.bool (!(<- Op.equal t E F)))))->
  (∀y J M,(eqGuard y t J M E F).run P w=.ok () w)/\(∀y,y=.eql\/y=.neq->(binOp y t E F).run P w=.ok (.bool (bif (match y with|.eql=>true|_=>false)then b else !b)) w):=λh1 ag aj an=>by
  refine⟨ag,λy a8=>?_⟩;have R:(Op.equal t E F).run P w=.ok b w:=h1 9999;rcases a8 with rfl|rfl
  ·rw[aj,Sem.run_bind,R];rfl
  ·rw[an,Sem.run_bind,R];rfl
 unfold Uw at h;split at h
 ·rename_i D;obtain⟨p,_,_,rfl⟩:=G.ptrI;cases VR.eq rfl H;cases h;exact key (λd=>by simp[Op.equalIn,aY D]) (λy _ _=>by cases y <;> rfl) rfl rfl
 ·rename_i D;obtain⟨p,_,_,rfl⟩:=H.ptrI;cases VR.eq rfl G;cases h;exact key (λd=>by simp[Op.equalIn,aY D]) (λy _ _=>by cases y <;> rfl) rfl rfl
 ·rename_i e aa o ac o' D;obtain⟨p,hp,_,rfl⟩:=G.ptrI;obtain⟨p',U,_,rfl⟩:=H.ptrI;cases I:(Nat.beq aa ac&&(vp P e && !(Nat.beq (tD P e) 0)))with
  |false=>rw[I]at h;cases h
  |true=>
   rw[I,cond_true]at h;cases h;simp only[Bool.and_eq_true,Bool.not_eq_true']at I;have:=Nat.eq_of_beq_eq_true I.1;subst this;rw[hp]at U;cases U;obtain⟨i,av,a9⟩:=iO I.2.1;have af: ¬ i.size=0:=λe=>by rw[a9,e]at I;exact nomatch I.2.2
   refine key ?_ (λy _ _=>by cases y <;> rfl) rfl rfl;intro d;simp only[Op.equalIn,Sem.run_bind,aY D,Result.andThen_ok,im av,ne_eq,af,not_false_eq_true,if_true,sameAddr,beq_self_eq_true,Sem.run_pure];congr 1;cases O:Nat.beq o o' with
   |true=>have:=Nat.eq_of_beq_eq_true O;subst this;simp
   |false=>
    have a0:o≠o':=λe=>by rw[nbt e]at O;cases O
    rw[beq_eq_false_iff_ne];intro e;injection e with _ e2 _
    exact a0 (by omega)
 ·rename_i D;rename_i bb n0 c0 be c1;obtain⟨p,c',_,_,rfl,_⟩:=G.sliceI;cases H.slice0;cases h;exact key (λd=>by simp[Op.equalIn,aY D]) (λy _ _=>by cases y <;> rfl) rfl rfl
 ·rename_i D;obtain⟨p,c',_,_,rfl,_⟩:=H.sliceI;cases G.slice0;cases h;exact key (λd=>by simp[Op.equalIn,aY D]) (λy _ _=>by cases y <;> rfl) rfl rfl
 ·rename_i D;obtain⟨p,_,rfl⟩:=G.mapI;cases VR.eq rfl H;cases h;exact key (λd=>by simp[Op.equalIn,aY D]) (λy _ _=>by cases y <;> rfl) rfl rfl
 ·rename_i D;obtain⟨p,_,rfl⟩:=H.mapI;cases VR.eq rfl G;cases h;exact key (λd=>by simp[Op.equalIn,aY D]) (λy _ _=>by cases y <;> rfl) rfl rfl
 ·rename_i f a b D;cases a;cases b;obtain⟨ad,Y,Z,rfl,_⟩:=G.funcI;cases VR.eq rfl H;cases h;exact key (λd=>by simp[Op.equalIn,aY D]) (λy _ _=>by cases y <;> rfl) rfl rfl
 ·rename_i f a b D;cases a;cases b;obtain⟨ad,Y,Z,rfl,_⟩:=H.funcI;cases VR.eq rfl G;cases h;exact key (λd=>by simp[Op.equalIn,aY D]) (λy _ _=>by cases y <;> rfl) rfl rfl
 ·rename_i D;obtain⟨u,rfl,_⟩:=G.ifaceI;cases VR.eq rfl H;cases h;exact key (λd=>by simp[Op.equalIn,aY D]) (λy _ _=>by cases y <;> rfl) rfl rfl
 ·rename_i D;obtain⟨u,rfl,_⟩:=H.ifaceI;cases VR.eq rfl G;cases h;exact key (λd=>by simp[Op.equalIn,aY D]) (λy _ _=>by cases y <;> rfl) rfl rfl
 ·cases h
def ZH:BinOp->Bool
 |.eql|.neq=>true
 |_=>false
def Wt (P:Program)(tm:dX)(o:Oper)(op:BinOp)(t:TypeId)(x y:Operand)(K:Value->Option Rs):Option Rs:=bif yE tm [x,y]then pz P tm o [x,y] K else
 bif ZH op then evK tm x λv=>evK tm y λu=>match Uw P t v u with
  |some b=>UC (bif (match op with|.eql=>true|_=>false)then b else !b) λb=>K (.bool b)
  |none=>none
 else none
theorem Ud {F:dX}{o:Oper}{y:BinOp}{t Y:TypeId}{x G:Operand}{K:Value->Option Rs}{r:Rs}(E:o.op=.binOp y t x G Y)(h:Wt P F o y t x G K=some r):∃v,K v=some r/\iF P F o v:=by
 unfold Wt at h;cases H:yE F [x,G]with
 |true=>
  rw[H,cond_true]at h;exact jr (λz J=>by rw[E]at J;simpa[Op.operands]using J) (λcs b=>by rw[E];simp) h
 |false=>
  rw[H,cond_false]at h;cases heq:ZH y with
  |false=>rw[heq]at h;cases h
  |true=>
   rw[heq,cond_true]at h;obtain⟨v,O,h1⟩:=cu h;obtain⟨u,R,D⟩:=cu h1;clear h h1;split at D
   ·rename_i b M;rw[Lk]at D;refine⟨_,D,λm n a I _=>⟨_,VR.refl rfl,λw=>?_⟩⟩;obtain⟨U,V⟩:=RL M (bi I O) (bi I R) w;unfold execOp;rw[E];refine cg ?_;rw[Sem.run_bind,U];exact V y (by cases y <;> first|exact .inl rfl|exact .inr rfl|cases heq)
   ·cases D
def So (tm:dX)(c a b:Operand)(K:Value->Option Rs):Option Rs:=evK tm c λv=>match v with
 |.bool t=>evK tm (bif t then a else b) K
 |_=>none
theorem Sq {E:dX}{o:Oper}{c a b:Operand}{K:Value->Option Rs}{r:Rs}(F:o.op=.pick c a b)(h:So E c a b K=some r):∃v,K v=some r/\iF P E o v:=by
 obtain⟨v,H,y⟩:=cu h;clear h;split at y
 ·rename_i t;obtain⟨u,G,h⟩:=cu y;refine⟨u,h,λm n I D _=>⟨_,bi D G,λw=>?_⟩⟩;unfold execOp;rw[F];simp only[VR.eq rfl (bi D H),asBool,Sem.run_bind,Sem.run_pure,Result.andThen_ok];cases t <;> rfl
 ·cases y
def vT (tm:dX)(x:Operand)(K:Value->Option Rs):Option Rs:=evK tm x λv=>match v with
 |.pointer (some a)=>K (.pointer (some a))
 |.func (.func f) a b=>K (.func (.func f) a b)
 |_=>none
theorem IV {H:dX}{o:Oper}{x:Operand}{K:Value->Option Rs}{r:Rs}(G:o.op=.nilCheck x)(h:vT H x K=some r):∃v,K v=some r/\iF P H o v:=by
 obtain⟨v,F,E⟩:=cu h;clear h;split at E
 ·rename_i M;refine⟨_,E,λm n J y _=>?_⟩;obtain⟨p,hp,Z,D⟩:=(bi y F).ptrI;refine⟨.pointer (some ⟨p.blk,p.base+M.off,none⟩),by rw[<- D];exact bi y F,λw=>?_⟩;unfold execOp;rw[G];simp only[D];rfl
 ·rename_i f U V;cases U;cases V;refine⟨_,E,λm n J y _=>?_⟩;obtain⟨Y,I,O,D,R,_⟩:=(bi y F).funcI;cases R.func;refine⟨.func (.func f) ⟨I⟩ ⟨O⟩,by rw[<- D];exact bi y F,λw=>?_⟩;unfold execOp;rw[G];simp only[D];rfl
 ·cases E
theorem pX {P:Program}{ρ:Operand->Value}{o:Oper}{b:Builtin}{args:Array Operand}{at_:Array TypeId}(y:o.op=.call { callee:=.builtin b,args,argTypes:=at_ })(w:World):
 ∃cs,(execOp ρ o).run P w=(builtin b at_ o.type cs (args.map ρ)).run P w:=by
 refine⟨args.map fun|.const _=>true|_=>false,?_⟩;unfold execOp;rw[y];show(do let d <- resolve ρ _ o.type;invoke d.target d.args:Sem Next).run P w=_;simp only[resolve,Sem.run_bind,Sem.run_pure,Result.andThen_ok,invoke];rfl
def Ye (P:Program)(tm:dX)(o:Oper)(t:TypeId)(x:Operand)(K:Value->Option Rs):Option Rs:=bif Be tm x then pz P tm o [x] K else evK tm x λv=>match P.underlying t,v with
 |some (.slice _),.slice (some _) n _=>K (.int .i64 (.ofNat n))
 |some (.array n _),_=>K (.int .i64 (.ofNat n))
 |_,_=>none
theorem UP {P:Program}{G:dX}{o:Oper}{t:TypeId}{x:Operand}{K:Value->Option Rs}{r:Rs}(D:o.op=.call { callee:=.builtin .len,args:= #[x],argTypes:= #[t] })(h:Ye P G o t x K=some r):∃v,K v=some r/\iF P G o v:=by
 unfold Ye at h;cases H:Be G x with
 |true=>
  rw[H,cond_true]at h;exact jr (λz J=>by rw[D]at J;simpa[Op.operands,Call.operands]using J) (λcs b=>by rw[D];simp) h
 |false=>
  rw[H,cond_false]at h;obtain⟨v,O,y⟩:=cu h;clear h;split at y
  ·rename_i a n c F;refine⟨_,y,λm k E I _=>⟨_,VR.refl rfl,λw=>?_⟩⟩;obtain⟨p,c',_,_,M,_⟩:=(bi I O).sliceI;obtain⟨cs,e⟩:=pX (P:=P) (ρ:=E.eval) D w;rw[e];simp only[builtin,List.map_toArray,List.map_cons,List.map_nil,M];refine cg ?_;simp[Builtin.len_,aY F,goInt]
  ·rename_i n e F;refine⟨_,y,λm k E I _=>⟨_,VR.refl rfl,λw=>?_⟩⟩;obtain⟨cs,e⟩:=pX (P:=P) (ρ:=E.eval) D w;rw[e];simp only[builtin,List.map_toArray,List.map_cons,List.map_nil];refine cg ?_;simp[Builtin.len_,aY F,goInt]
  ·cases y
def X8 (P:Program)(tm:dX)(o:Oper)(t:TypeId)(x:Operand)(K:Value->Option Rs):Option Rs:=bif Be tm x then pz P tm o [x] K else evK tm x λv=>match P.underlying t,v with
 |some (.slice _),.slice (some ⟨b,_,_⟩) _ c=>bif Nat.beq (b%2) 0 then K (.int .i64 (.ofNat c))else none
 |_,_=>none
theorem AV {m:Mp}(E:Wf m){b:Nat}{p:Pl}(hp:m b=some p)(y:Nat.beq (b%2) 0=true):p.room=none:=by
 have h1:=(E _ _ hp).1;rw[Nat.eq_of_beq_eq_true y]at h1;cases D:p.room with
 |none=>rfl
 |some r=>rw[D]at h1;cases h1
theorem Uh {P:Program}{G:dX}{o:Oper}{t:TypeId}{x:Operand}{K:Value->Option Rs}{r:Rs}(F:o.op=.call { callee:=.builtin .cap,args:= #[x],argTypes:= #[t] })(h:X8 P G o t x K=some r):∃v,K v=some r/\iF P G o v:=by
 unfold X8 at h;cases H:Be G x with
 |true=>
  rw[H,cond_true]at h;exact jr (λz I=>by rw[F]at I;simpa[Op.operands,Call.operands]using I) (λcs b=>by rw[F];simp) h
 |false=>
  rw[H,cond_false]at h;obtain⟨v,V,y⟩:=cu h;clear h;split at y
  ·rename_i e b off Y n c O;cases E:Nat.beq (b%2) 0 with
   |false=>rw[E]at y;cases y
   |true=>
    rw[E,cond_true]at y;refine⟨_,y,λm k J M U=>⟨_,VR.refl rfl,λw=>?_⟩⟩;obtain⟨p,c',hp,_,R,D⟩:=(bi M V).sliceI;rw[AV U hp E]at D;have D:c=c':=D;subst D;obtain⟨cs,e⟩:=pX (P:=P) (ρ:=J.eval) F w;rw[e];simp only[builtin,List.map_toArray,List.map_cons,List.map_nil,R];refine cg ?_;simp[Builtin.cap_,aY O,goInt]
  ·cases y
def Ur (tm:dX)(x:Operand)(K:Value->Option Rs):Option Rs:=evK tm x λv=>match v with
 |.slice none _ _=>K (.pointer none)
 |.slice (some ⟨b,o,none⟩) _ c=>bif Nat.beq c 0 then none else K (.pointer (some ⟨b,o,none⟩))
 |_=>none
theorem RG {P:Program}{M:dX}{o:Oper}{t:Array TypeId}{x:Operand}{K:Value->Option Rs}{r:Rs}(H:o.op=.call { callee:=.builtin .unsafeSliceData,args:= #[x],argTypes:=t })(h:Ur M x K=some r):∃v,K v=some r/\iF P M o v:=by
 obtain⟨v,J,y⟩:=cu h;clear h;split at y
 ·refine⟨_,y,λm k F G _=>⟨_,VR.refl rfl,λw=>?_⟩⟩;obtain⟨cs,e⟩:=pX (P:=P) (ρ:=F.eval) H w;rw[e];simp only[builtin,List.map_toArray,List.map_cons,List.map_nil,(bi G J).slice0];exact cg rfl
 ·rename_i b off n c;cases E:Nat.beq c 0 with
  |true=>rw[E]at y;cases y
  |false=>
   rw[E,cond_false]at y;have R: ¬ c=0:=λe=>by rw[e]at E;cases E
   refine⟨_,y,λm k F G V=>?_⟩;obtain⟨p,c',hp,_,O,D⟩:=(bi G J).sliceI;have U:c <=c':=by
    cases I:p.room with
    |none=>rw[I]at D;have D:c=c':=D;omega
    |some Y=>rw[I]at D;exact D.1
   refine⟨.pointer (some ⟨p.blk,p.base+off,none⟩),.ptr hp,λw=>?_⟩;obtain⟨cs,e⟩:=pX (P:=P) (ρ:=F.eval) H w;rw[e];simp only[builtin,List.map_toArray,List.map_cons,List.map_nil,O];refine cg ?_;have:c'≠0:=by omega
   show Sem.run P (ite (c'≠0) _ _) w=_;rw[if_pos this];rfl
 ·cases y
def I4 (P:Program)(tm:dX)(o:Oper)(K:Value->Option Rs):Option Rs:=match o.op with
 |.move x=>evK tm x K
 |.assign x=>evK tm x K
 |.pick c a b=>So tm c a b K
 |.nilCheck x=>vT tm x K
 |.binOp op t x y _=>Wt P tm o op t x y K
 |.unOp _ _ x=>pz P tm o [x] K
 |.convert _ _ x=>pz P tm o [x] K
 |.fieldAddr t x f=>sH P tm t x f K
 |.field t x f=>Ll P tm t x f K
 |.indexAddr t x i=>sL P tm t x i K
 |.index t x i=>Iz P tm o t x i K
 |.extract x i=>zT tm x i K
 |.slice t x lo hi none=>Jj P tm o t x lo hi K
 |.makeInterface t x=>iQ P tm t x K
 |.makeFunc f a b=>rD tm f a.toList b.toList K
 |.build t ps=>HQ P tm t ps.toList K
 |.typeAssert x _ _ _=>pz P tm o [x] K
 |.call { callee:=.builtin .len,args:=⟨[x]⟩,argTypes:=⟨[t]⟩ } =>Ye P tm o t x K
 |.call { callee:=.builtin .cap,args:=⟨[x]⟩,argTypes:=⟨[t]⟩ } =>X8 P tm o t x K
 |.call { callee:=.builtin .unsafeSliceData,args:=⟨[x]⟩,argTypes:=_ } =>Ur tm x K
 |.call { callee:=.builtin .min,args:=⟨[x,y]⟩,argTypes:=_ } =>pz P tm o [x,y] K
 |.call { callee:=.builtin .max,args:=⟨[x,y]⟩,argTypes:=_ } =>pz P tm o [x,y] K
 |_=>none
theorem LQ {F:dX}{o:Oper}{K:Value->Option Rs}{r:Rs}(h:I4 P F o K=some r):∃v,K v=some r/\iF P F o v:=by
 unfold I4 at h;split at h
 ·rename_i x y;obtain⟨v,E,h⟩:=cu h;exact⟨v,h,TB E fun ρ w=>by unfold execOp;rw[y];rfl⟩
 ·rename_i x y;obtain⟨v,E,h⟩:=cu h;exact⟨v,h,TB E fun ρ w=>by unfold execOp;rw[y];rfl⟩
 ·rename_i y;exact Sq y h
 ·rename_i y;exact IV y h
 ·rename_i y;exact Ud y h
 ·rename_i y;exact jr (λz D=>by rw[y]at D;simpa[Op.operands]using D) (λcs b=>by rw[y];simp) h
 ·rename_i y;exact jr (λz D=>by rw[y]at D;simpa[Op.operands]using D) (λcs b=>by rw[y];simp) h
 ·rename_i y;exact FK y h
 ·rename_i y;exact OI y h
 ·rename_i y;exact F3 y h
 ·rename_i y;exact Pa y h
 ·rename_i y;exact J6 y h
 ·rename_i y;exact Qr y h
 ·rename_i y;exact xR y h
 ·rename_i y;exact IK y h
 ·rename_i y;exact N1 y h
 ·rename_i y;exact jr (λz D=>by rw[y]at D;simpa[Op.operands]using D) (λcs b=>by rw[y];simp) h
 ·rename_i y;exact UP y h
 ·rename_i y;exact Uh y h
 ·rename_i y;exact RG y h
 ·rename_i y;exact jr (λz D=>by rw[y]at D;simpa[Op.operands,Call.operands]using D) (λcs b=>by rw[y];simp) h
 ·rename_i y;exact jr (λz D=>by rw[y]at D;simpa[Op.operands,Call.operands]using D) (λcs b=>by rw[y];simp) h
 ·cases h
end
end Go.Pe
namespace Go.Pk
open Go.RowKit (Below)
open Go.Proofs
end Go.Pk
