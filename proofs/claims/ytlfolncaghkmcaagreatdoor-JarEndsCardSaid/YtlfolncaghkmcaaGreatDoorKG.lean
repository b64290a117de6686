/- What the laws lean on: ShP, MapH, ShQ, ShR, Chg, Idx, RulA, SufP, Row, SufA, SufB, SufC, HdrD; what is used. Its conditions: none. -/
import Derived.Test.YtlfolncaghkmcaaGreatDoorKF
import Derived.Maps.RangeRun
import Derived.Laws.RangeAny
import Derived.WalkMore
import Derived.Lib.OthersKept
import Derived.Shelf.RegionOpenPlain
variable {n m i j k:Nat}{w:Go.World}{t:Go.TypeId}{a:Int}{o:Type}{p:Option Go.Addr}{P:Go.Program}{y:List (List Bool)}{s:List UInt8}{A:Go.Pk.Bl}
open Go.IntKind (i64)
open Go.Proofs.Tryz
set_option linter.unusedVariables false
set_option linter.unusedSimpArgs false
namespace Go.Pk
open Go.RowKit (Below)
open Go.Proofs
structure Plc where
 name:List UInt8
 host:Hst
 only:Bool
 path:List UInt8
 hk:host.ok
instance:DecidableEq Hst:=λa b=>decidable_of_iff (a.kind=b.kind/\a.name=b.name/\a.ad=b.ad) (by cases a;cases b;simp)
instance:DecidableEq Plc:=λa b=>decidable_of_iff (a.name=b.name/\a.host=b.host/\a.only=b.only/\a.path=b.path) (by cases a;cases b;simp)
def Cky.plc (c:Cky)(o:c.ok):Plc:=⟨c.name,c.host,c.only,c.path,o⟩
structure Kpt where
 c:Cky
 site:List UInt8
 ok:c.ok
def Kpt.plc (k:Kpt):Plc:=k.c.plc k.ok
structure ShI (L:List Kpt)(last:Int):Prop where
 up:L.Pairwise λa b=>a.c.seq<b.c.seq
 lo:∀k∈L,1 <=k.c.seq/\k.c.seq <=last
 key:L.Pairwise λa b=>a.plc≠b.plc
 l0:0 <=last
def atK (L:List Kpt)(p:Plc):Option Kpt:=L.find? λk=>decide (k.plc=p)
def nK (L:List Kpt)(last:Int)(c:Kpt):List Kpt×Int:=
 match atK L c.plc with
 |some o=>(L.map λk=>if k.plc=c.plc then⟨{ c.c with born:=o.c.born,seq:=o.c.seq },c.site,c.ok⟩ else k,last)
 |none=>(L++[⟨{ c.c with seq:=last+1 },c.site,c.ok⟩],last+1)
def iI (L:List Kpt)(p:Plc):List Kpt:=L.filter λk=> !decide (k.plc=p)
def z6 (L:List Kpt)(p:Plc)(now:Int):List Kpt:=L.map λk=>if k.plc=p then⟨{ k.c with used:=now },k.site,k.ok⟩ else k
def sO (L:List Kpt)(now:Int):List Kpt:=L.filter λk=>decide (now<k.c.exp)
def np (L:List Kpt)(s:List UInt8):Nat:=L.countP λk=>decide (k.site=s)
def Ao (of:Kpt->Bool):List Kpt->Option Kpt->Option Kpt
 |[],b=>b
 |k::r,b=>Ao of r (if of k=true then(match b with|none=>some k|some x=>if k.c.used<x.c.used then some k else some x)else b)
def QA (L:List Kpt)(of:Kpt->Bool):Option Kpt:=Ao of L none
theorem qq {L:List Kpt}{p:Plc}{k:Kpt}(h:atK L p=some k):k∈L/\k.plc=p:=by
 unfold atK at h
 exact⟨List.mem_of_find?_eq_some h,by simpa using List.find?_some h⟩
theorem r9 {L:List Kpt}{p:Plc}(h:atK L p=none):∀k∈L,k.plc≠p:=λk e=>by
 unfold atK at h
 simpa using List.find?_eq_none.1 h k e
theorem ShI.nil:ShI [] 0:=⟨List.Pairwise.nil,(λk h=>by cases h),List.Pairwise.nil,Int.le_refl _⟩
theorem ShI.filter {L:List Kpt}(h:ShI L a)(p:Kpt->Bool):ShI (L.filter p) a:=
 ⟨h.up.filter p,λk e=>h.lo k (List.mem_filter.1 e).1,h.key.filter p,h.l0⟩
theorem ShI.use {L:List Kpt}{last:Int}(h:ShI L last)(p:Plc)(now:Int):ShI (z6 L p now) last:=by
 have e:∀k:Kpt,(if k.plc=p then(⟨{ k.c with used:=now },k.site,k.ok⟩:Kpt)else k).c.seq=k.c.seq/\(if k.plc=p then(⟨{ k.c with used:=now },k.site,k.ok⟩:Kpt)else k).plc=k.plc:=by
  intro k;split <;> exact⟨rfl,rfl⟩
 unfold z6
 refine⟨?_,?_,?_,h.l0⟩
 ·rw[List.pairwise_map];exact h.up.imp fun{a b} q=>by rw[(e a).1,(e b).1];exact q
 ·intro k D
  obtain⟨x,E,rfl⟩:=List.mem_map.1 D
  rw[(e x).1];exact h.lo x E
 ·rw[List.pairwise_map];exact h.key.imp fun{a b} q=>by rw[(e a).2,(e b).2];exact q
theorem ShI.put {L:List Kpt}{last:Int}(h:ShI L last)(c:Kpt):ShI (nK L last c).1 (nK L last c).2:=by
 unfold nK
 cases E:atK L c.plc with
 |none=>
  have Z:=r9 E
  refine⟨?_,?_,?_,by have:=h.l0;show 0 <=last+1;omega⟩
  ·rw[List.pairwise_append]
   refine⟨h.up,List.pairwise_singleton _ _,λa H b D=>?_⟩
   rw[List.mem_singleton.1 D]
   have:=(h.lo a H).2
   show a.c.seq<last+1
   omega
  ·intro k e
   rcases List.mem_append.1 e with e|e
   ·have:=h.lo k e
    exact⟨this.1,by show k.c.seq <=last+1;omega⟩
   ·rw[List.mem_singleton.1 e]
    have:=h.l0
    exact⟨by show 1 <=last+1;omega,Int.le_refl _⟩
  ·rw[List.pairwise_append]
   refine⟨h.key,List.pairwise_singleton _ _,λa H b D=>?_⟩
   rw[List.mem_singleton.1 D]
   exact Z a H
 |some o=>
  obtain⟨ac,ad⟩:=qq E
  have one:∀k∈L,k.plc=c.plc->k.c.seq=o.c.seq:=λk e G=>by
   have:k=o:=by
    by_cases q:k=o
    ·exact q
    ·exact absurd (G.trans ad.symm) (by
      have:=h.key
      rcases List.mem_iff_getElem.1 e with⟨i,O,rfl⟩
      rcases List.mem_iff_getElem.1 ac with⟨j,U,rfl⟩
      have Y:i≠j:=λx=>q (by subst x;rfl)
      have V:=List.pairwise_iff_getElem.1 h.key
      rcases Nat.lt_or_gt_of_ne Y with M|M
      ·exact V i j O U M
      ·exact λx=>V j i U O M x.symm)
   rw[this]
  have q:∀k∈L,(if k.plc=c.plc then(⟨{ c.c with born:=o.c.born,seq:=o.c.seq },c.site,c.ok⟩:Kpt)else k).c.seq=k.c.seq/\(if k.plc=c.plc then(⟨{ c.c with born:=o.c.born,seq:=o.c.seq },c.site,c.ok⟩:Kpt)else k).plc=k.plc:=by
   intro k e
   split
   ·rename_i G;exact⟨(one k e G).symm,G.symm⟩
   ·exact⟨rfl,rfl⟩
  refine⟨?_,?_,?_,h.l0⟩
  ·rw[List.pairwise_map]
   exact List.Pairwise.imp_of_mem (fun{a b} E D I=>by rw[(q a E).1,(q b D).1];exact I) h.up
  ·intro k e
   obtain⟨x,X,rfl⟩:=List.mem_map.1 e
   rw[(q x X).1];exact h.lo x X
  ·rw[List.pairwise_map]
   exact List.Pairwise.imp_of_mem (fun{a b} E D I=>by rw[(q a E).2,(q b D).2];exact I) h.key
structure HK (M:List (Plc×Kpt))(L:List Kpt):Prop where
 perm:(M.map (·.2)).Perm L
 own:∀q∈M,q.1=q.2.plc
theorem HK.nil:HK [] []:=⟨List.Perm.refl _,λq h=>by cases h⟩
theorem HK.keys {e:List (Plc×Kpt)}{L:List Kpt}(h:HK e L):(e.map (·.1)).Perm (L.map Kpt.plc):=by
 have q:e.map (·.1)=(e.map (·.2)).map Kpt.plc:=by
  rw[List.map_map]
  exact List.map_congr_left λE D=>h.own E D
 rw[q];exact h.perm.map _
theorem HK.nodup {e:List (Plc×Kpt)}{L:List Kpt}(h:HK e L)(s:ShI L a):(e.map (·.1)).Nodup:=by
 rw[h.keys.nodup_iff]
 have:=s.key
 rw[List.Nodup,List.pairwise_map]
 exact this
theorem Nj {α e:Type}[DecidableEq α]{k:α}{v:e} :∀{l:List (α×e)},rz k l=some v->(k,v)∈l
 |[],h=>by cases h
 |(k',D)::l,h=>by
  unfold rz at h
  split at h
  ·rename_i q;subst q;cases h;exact List.mem_cons_self
  ·exact List.mem_cons_of_mem _ (Nj h)
theorem JQ {α D:Type}[DecidableEq α]{k:α}{v:D} :∀{l:List (α×D)},(l.map (·.1)).Nodup->(k,v)∈l->rz k l=some v
 |[],_,h=>by cases h
 |(k',E)::l,q,h=>by
  rw[List.map_cons,List.nodup_cons]at q
  unfold rz
  rcases List.mem_cons.1 h with e|h
  ·cases e;rw[if_pos rfl]
  ·rw[if_neg,JQ q.2 h]
   intro e
   exact q.1 (List.mem_map.2 ⟨(k,v),h,e⟩)
theorem HK.look {e:List (Plc×Kpt)}{L:List Kpt}(h:HK e L)(s:ShI L a)(p:Plc):rz p e=atK L p:=by
 cases D:atK L p with
 |some k=>
  obtain⟨I,O⟩:=qq D
  obtain⟨H,G,q⟩:=List.mem_map.1 (h.perm.mem_iff.2 I)
  refine JQ (h.nodup s) ?_
  have:H=(p,k):=Prod.ext ((h.own H G).trans (by rw[q,O])) q
  rw[<- this];exact G
 |none=>
  cases M:rz p e with
  |none=>rfl
  |some v=>
   have E:=Nj M
   exact absurd (h.own _ E).symm (r9 D v (h.perm.mem_iff.1 (List.mem_map.2 ⟨_,E,rfl⟩)))
theorem HK.drop {q:List (Plc×Kpt)}{L:List Kpt}(h:HK q L)(p:Plc):HK (q.filter λe=> !decide (e.1=p)) (iI L p):=by
 refine⟨?_,λe D=>h.own e (List.mem_filter.1 D).1⟩
 have E:(q.filter λe=> !decide (e.1=p)).map (·.2)=(q.map (·.2)).filter λk=> !decide (k.plc=p):=by
  rw[List.filter_map]
  congr 1
  exact List.filter_congr λe D=>by rw[h.own e D];rfl
 rw[E]
 exact h.perm.filter _
set_option linter.unusedSectionVars false
open Go.ChangeMaps (setBlock)
section
variable {α β:Type} [DecidableEq α]
def Ej (ek:α->Value)(ev:β->Value)(w:World)(r:Nat)(kvs:List (α×β)):Prop:=
 ∃es clock,w.heap[r]? =some (.map es clock)/\KVg ek ev es.toList kvs/\(es.toList.map (·.born)).Nodup/\∀e∈es.toList,e.born<clock
variable {ek:α->Value} {ev:β->Value}
theorem Ej.g {r:Nat}{kvs:List (α×β)}(h:Ej ek ev w r kvs):G8 ek ev w r kvs:=by
 obtain⟨e,c,q,D,_⟩:=h
 exact⟨e,c,q,D⟩
theorem Ej.lt {r:Nat}{e:List (α×β)}(h:Ej ek ev w r e):r<w.heap.size:=h.g.lt
theorem Ej.keep {w w':World}{r:Nat}{kvs:List (α×β)}(h:Ej ek ev w r kvs)(q:w'.heap[r]? =w.heap[r]?):Ej ek ev w' r kvs:=by
 obtain⟨e,c,D,E⟩:=h
 exact⟨e,c,q.trans D,E⟩
theorem Ej.below {w w':World}{r:Nat}{kvs:List (α×β)}(h:Ej ek ev w r kvs)(e:bW w w'):Ej ek ev w' r kvs:=h.keep (e.block r h.lt)
theorem Ej.grown {w w':World}{r:Nat}{kvs:List (α×β)}(h:Ej ek ev w r kvs)(q:w.grownBy w' (some k))(D:r≠k):Ej ek ev w' r kvs:=h.keep (q.block r h.lt λe=>D (Option.some.inj e))
theorem Ej.new {w w':World}{r:Nat}(q:r=w.heap.size)(D:w'=w.alloc (.map #[] 0)):Ej ek ev w' r []:=by
 subst q D
 exact⟨#[],0,heap_alloc_new w _,rfl,List.nodup_nil,λE e=>by cases e⟩
theorem Gb {γ δ:Type}(f:γ->δ):∀(l:List γ) (i:Nat),(l.eraseIdx i).map f=(l.map f).eraseIdx i
 |[],_=>rfl
 |x::l,0=>rfl
 |x::l,i+1=>by
  show f x::(l.eraseIdx i).map f=f x::(l.map f).eraseIdx i
  rw[Gb f l i]
def TU (k:α)(kvs:List (α×β)):List (α×β):=match rM k kvs 0 with
 |some (i,_)=>kvs.eraseIdx i
 |none=>kvs
theorem SW {e:List MapEntry}{q:List (α×β)}(h:KVg ek ev e q)(i:Nat):KVg ek ev (e.eraseIdx i) (q.eraseIdx i):=by
 unfold KVg at h ⊢
 rw[Gb,Gb,h]
theorem Pt {e:List MapEntry}{q:List (α×β)}(h:KVg ek ev e q):e.length=q.length:=by
 have:=congrArg List.length h
 simpa using this
theorem Ec {r:Nat}{e:Array MapEntry}{c:Nat}(h:w.heap[r]? =some (.map e c))(o:Obj):(setObj r o).run P w=.ok () { w with heap:=w.heap.setIfInBounds r o } :=by
 simp only[setObj,Sem.run,h]
theorem C3 {r:Nat}(o:Obj):w.grownBy { w with heap:=w.heap.setIfInBounds r o } (some r):=
 ⟨rfl,rfl,rfl,by simp,λj D q=>by
  have:r≠j:=λe=>q (by rw[e])
  simp[Array.getElem?_setIfInBounds_ne this]⟩
theorem Ej.del {Y X ad:TypeId}(O:P.underlying Y=some (.map X ad))(D:Ff P X ek){r:Nat}{G:List (α×β)}(h:Ej ek ev w r G)(k:α)(Z:Array TypeId)(t:TypeId)(V:Z[0]? =some Y):
 ∃w',(Builtin.delete_ Z t #[.map (some r),ek k]).run P w=.ok (.tuple #[]) w'/\Ej ek ev w' r (TU k G)/\w.grownBy w' (some r):=by
 obtain⟨q,c,e,E,U,H⟩:=h
 have M:r<w.heap.size:=(Array.getElem?_eq_some_iff.1 e).1
 unfold Builtin.delete_ TU
 cases I:rM k G 0 with
 |none=>
  refine⟨_,?_,⟨q,c,?_,E,U,H⟩,C3 (.map q c)⟩
  ·simp only[V,List.getElem?_toArray,List.getElem?_cons_zero,List.getElem?_cons_succ,Sem.run_bind,ft O,Result.andThen_ok,BD e,D.check,D.find ev k _ _ _ E,I,Option.map_none,Ec e,Sem.run_pure]
  ·simp[M]
 |some p=>
  obtain⟨i,v⟩:=p
  refine⟨_,?_,⟨q.eraseIdxIfInBounds i,c,?_,?_,?_,?_⟩,C3 (.map (q.eraseIdxIfInBounds i) c)⟩
  ·simp only[V,List.getElem?_toArray,List.getElem?_cons_zero,List.getElem?_cons_succ,Sem.run_bind,ft O,Result.andThen_ok,BD e,D.check,D.find ev k _ _ _ E,I,Option.map_some,Ec e,Sem.run_pure]
  ·simp[M]
  ·rw[Array.toList_eraseIdxIfInBounds];exact SW E i
  ·rw[Array.toList_eraseIdxIfInBounds,Gb]
   exact U.sublist (List.eraseIdx_sublist _ _)
  ·rw[Array.toList_eraseIdxIfInBounds]
   exact λac ag=>H ac (List.mem_of_mem_eraseIdx ag)
def upG (k:α)(v:β)(kvs:List (α×β)):List (α×β):=match rM k kvs 0 with
 |some (i,_)=>kvs.set i (k,v)
 |none=>kvs++[(k,v)]
theorem AG (k:α):∀(l:List (α×β)) (i j:Nat) (v:β),rM k l i=some (j,v)->i <=j/\l[j-i]? =some (k,v)
 |[],i,j,v,h=>by cases h
 |(k',D)::l,i,j,v,h=>by
  unfold rM at h
  split at h
  ·rename_i e
   subst e
   cases h
   exact⟨Nat.le_refl _,by rw[Nat.sub_self];rfl⟩
  ·obtain⟨h1,q⟩:=AG k l (i+1) j v h
   refine⟨by omega,?_⟩
   rw[show j-i=(j-(i+1))+1 by omega,List.getElem?_cons_succ]
   exact q
theorem Ro {E:List MapEntry}{G:List (α×β)}(h:KVg ek ev E G){k:α}{v X:β}(H:G[i]? =some (k,X))(f:MapEntry->MapEntry)(O:∀q,q.key=ek k->(f q).key=ek k/\(f q).val=ev v):KVg ek ev (E.modify i f) (G.set i (k,v)):=by
 unfold KVg at h ⊢
 apply List.ext_getElem?
 intro j
 have e:=congrArg (λl=>l[j]?) h
 simp only[List.getElem?_map]at e ⊢
 rw[List.getElem?_modify,List.getElem?_set]
 by_cases q:i=j
 ·subst q
  rw[if_pos rfl]
  rw[H]at e
  cases D:E[i]? with
  |none=>rw[D]at e;cases e
  |some x=>
   rw[D]at e
   have V:x.key=ek k:=congrArg Prod.fst (Option.some.inj e)
   obtain⟨I,M⟩:=O x V
   have U:i<G.length:=(List.getElem?_eq_some_iff.1 H).1
   rw[if_pos U]
   simp[I,M]
 ·rw[if_neg q]
  cases D:E[j]? with
  |none=>rw[D]at e;simpa using e
  |some x=>rw[D]at e;simpa[q]using e
theorem Jf (q:List MapEntry)(i:Nat)(f:MapEntry->MapEntry)(D:∀e,(f e).born=e.born):(q.modify i f).map (·.born)=q.map (·.born):=by
 apply List.ext_getElem?
 intro j
 rw[List.getElem?_map,List.getElem?_map,List.getElem?_modify]
 cases q[j]? with
 |none=>rfl
 |some x=>by_cases e:i=j <;> simp[e,D]
theorem VF {q D:List MapEntry}{c:Nat}(h:∀e∈q,e.born<c)(E:D.map (·.born)=q.map (·.born)):∀e∈D,e.born<c:=λe G=>by
 have:e.born∈q.map (·.born):=by rw[<- E];exact List.mem_map.2 ⟨e,G,rfl⟩
 obtain⟨x,H,I⟩:=List.mem_map.1 this
 rw[<- I];exact h x H
theorem stays {v:Value}(h:Instr.sameBits 10000 v v=true)(w:World):(Instr.keyThatStays v v).run P w=.ok v w:=by
 unfold Instr.keyThatStays
 rw[if_pos h];rfl
theorem Ej.up {ac Z ad:TypeId}(X:P.underlying ac=some (.map Z ad))(H:Ff P Z ek)(an:∀k,Instr.sameBits 10000 (ek k) (ek k)=true){r:Nat}{I:List (α×β)}(h:Ej ek ev w r I)(k:α)(v:β):
 ∃w',(Instr.mapUpdate ac (.map (some r)) (ek k) (ev v)).run P w=.ok () w'/\Ej ek ev w' r (upG k v I)/\w.grownBy w' (some r):=by
 obtain⟨D,c,G,E,Y,O⟩:=h
 have V:r<w.heap.size:=(Array.getElem?_eq_some_iff.1 G).1
 unfold Instr.mapUpdate upG
 cases U:rM k I 0 with
 |none=>
  refine⟨_,?_,⟨D.push { key:=ek k,val:=ev v,born:=c },c+1,?_,?_,?_,?_⟩,C3 (.map (D.push { key:=ek k,val:=ev v,born:=c }) (c+1))⟩
  ·simp only[Sem.run_bind,ft X,Result.andThen_ok,BD G,H.check,H.find ev k _ _ _ E,U,Option.map_none,Ec G]
  ·simp[V]
  ·unfold KVg at E ⊢
   simp only[Array.toList_push,List.map_append,List.map_cons,List.map_nil,E]
  ·rw[Array.toList_push,List.map_append,List.nodup_append]
   refine⟨Y,by simp,λa ag b aj=>?_⟩
   obtain⟨e,q,rfl⟩:=List.mem_map.1 ag
   simp only[List.map_cons,List.map_nil,List.mem_singleton]at aj
   have:=O e q
   omega
  ·intro e q
   rw[Array.toList_push]at q
   rcases List.mem_append.1 q with q|q
   ·have:=O e q;omega
   ·rw[List.mem_singleton.1 q];exact Nat.lt_succ_self _
 |some p=>
  obtain⟨i,ar⟩:=p
  obtain⟨_,M⟩:=AG k I 0 i ar U
  rw[Nat.sub_zero]at M
  have al:((D[i]?).map (·.key)).getD (ek k)=ek k:=by
   have:=congrArg (λl=>l[i]?) E
   simp only[List.getElem?_map,M,Array.getElem?_toList]at this
   cases q:D[i]? with
   |none=>rfl
   |some x=>
    rw[q]at this
    exact congrArg Prod.fst (Option.some.inj this)
  refine⟨_,?_,⟨D.modify i (λe=> { e with key:=ek k,val:=ev v }),c,?_,?_,?_,?_⟩,C3 (.map (D.modify i λe=> { e with key:=ek k,val:=ev v }) c)⟩
  ·simp only[Sem.run_bind,ft X,Result.andThen_ok,BD G,H.check,H.find ev k _ _ _ E,U,Option.map_some,al,stays (an k),Ec G]
  ·simp[V]
  ·rw[Array.toList_modify];exact Ro E M _ λe _=>⟨rfl,rfl⟩
  ·rw[Array.toList_modify,Jf D.toList i (λe=> { e with key:=ek k,val:=ev v }) (λe=>rfl)];exact Y
  ·rw[Array.toList_modify];exact VF O (Jf D.toList i (λe=> { e with key:=ek k,val:=ev v }) (λe=>rfl))
def sW (ek:α->Value)(ev:β->Value)(w:World)(r m:Nat)(kvs left:List (α×β)):Prop:=
 ∃since seen c0 es clock,w.heap[r]? =some (.mapIter (some m) since seen c0)/\w.heap[m]? =some (.map es clock)/\KVg ek ev es.toList kvs/\(es.toList.map (·.born)).Nodup/\(∀e∈es.toList,e.born<clock)/\(∀e∈es.toList,e.born<since)/\since <=c0/\since <=clock/\KVg ek ev (leftOf es seen).toList left
theorem sW.map {r m:Nat}{kvs left:List (α×β)}(h:sW ek ev w r m kvs left):Ej ek ev w m kvs:=by
 obtain⟨_,_,_,e,c,_,q,D,E,G,_⟩:=h
 exact⟨e,c,q,D,E,G⟩
theorem sW.keep {w w':World}{r m:Nat}{e left:List (α×β)}(h:sW ek ev w r m e left)(H:w'.heap[r]? =w.heap[r]?)(G:w'.heap[m]? =w.heap[m]?):sW ek ev w' r m e left:=by
 obtain⟨a,b,c,d,q,h1,D,E⟩:=h
 exact⟨a,b,c,d,q,H.trans h1,G.trans D,E⟩
theorem sW.lt {r m:Nat}{e left:List (α×β)}(h:sW ek ev w r m e left):r<w.heap.size:=by
 obtain⟨_,_,_,_,_,h1,_⟩:=h
 exact(Array.getElem?_eq_some_iff.1 h1).1
theorem sW.below {w w':World}{r m:Nat}{q left:List (α×β)}(h:sW ek ev w r m q left)(e:bW w w'):sW ek ev w' r m q left:=h.keep (e.block r h.lt) (e.block m h.map.lt)
theorem Gv {G O H:TypeId}(I:P.underlying G=some (.map O H)){q:List (α×β)}(h:Ej ek ev w m q):
 ∃w',(Instr.range G (.map (some m))).run P w=.ok (.pointer (some ⟨w.heap.size,0,none⟩)) w'/\sW ek ev w' w.heap.size m q q/\bW w w':=by
 obtain⟨es,c,e,E,M,D⟩:=h
 refine⟨w.alloc (.mapIter (some m) c #[] c),?_,⟨c,#[],c,es,c,heap_alloc_new w _,?_,E,M,D,D,Nat.le_refl _,Nat.le_refl _,?_⟩,au w _⟩
 ·unfold Instr.range
  simp only[Sem.run_bind,ft I,Result.andThen_ok,BD e,Sem.run_pure]
  rfl
 ·exact((au w _).block m (Array.getElem?_eq_some_iff.1 e).1).trans e
 ·have:leftOf es #[]=es:=by
   unfold leftOf
   rw[Array.filter_eq_self]
   intro U V
   simp
  rw[this];exact E
theorem filter_one (f:o->Nat):∀(l:List o) (e:o),(l.map f).Nodup->e∈l->∃D E,l=D++e::E/\l.filter (λx=> !decide (f x=f e))=D++E
 |[],e,_,h=>by cases h
 |x::l,e,q,h=>by
  rw[List.map_cons,List.nodup_cons]at q
  rcases List.mem_cons.1 h with rfl|h
  ·refine⟨[],l,rfl,?_⟩
   rw[List.filter_cons,if_neg (by simp),List.nil_append,List.filter_eq_self]
   intro y H
   have:f y≠f e:=λc=>q.1 (List.mem_map.2 ⟨y,H,c⟩)
   simp[this]
  ·obtain⟨D,E,h1,G⟩:=filter_one f l e q.2 h
   refine⟨x::D,E,by rw[h1];rfl,?_⟩
   have:f x≠f e:=λc=>q.1 (List.mem_map.2 ⟨e,h,c.symm⟩)
   rw[List.filter_cons,if_pos (by simp[this]),G];rfl
theorem sW.step {r m:Nat}{bb left:List (α×β)}(h:sW ek ev w r m bb left)(b2:r≠m)(ty:TypeId):
 (left=[]/\(Instr.next (.pointer (some ⟨r,0,none⟩)) false ty).run P w=.ok (.tuple #[.bool false]) w)\/
 ∃U k v V w',left=U++(k,v)::V/\(Instr.next (.pointer (some ⟨r,0,none⟩)) false ty).run P w=.ok (.tuple #[.bool true,ek k,ev v]) w'/\sW ek ev w' r m bb (U++V)/\(Instr.entry (.pointer (some ⟨r,0,none⟩))).run P w'=.ok (.tuple #[ek k,ev v]) w'/\w.grownBy w' (some r):=by
 obtain⟨D,seen,bc,q,clock,aj,ag,b0,M,bq,al,b8,a0,ad⟩:=h
 rcases run_next_at (P:=P) w ty r m D bc seen q clock aj ag al b8 with⟨bp,O⟩|⟨e,Y,H,a9,O⟩
 ·refine .inl ⟨?_,O⟩
  have:=Pt ad
  rw[Array.length_toList,bp]at this
  exact List.eq_nil_of_length_eq_zero this.symm
 ·refine .inr ?_
  have b7:r<w.heap.size:=(Array.getElem?_eq_some_iff.1 aj).1
  have Z:H.heap=w.heap:=by rcases a9 with rfl|rfl <;> rfl
  have bs:=mem_left Y
  have b1:(leftOf q (seen.push e.born)).toList=(leftOf q seen).toList.filter λx=> !decide (x.born=e.born):=by
   unfold leftOf
   rw[Array.toList_filter,Array.toList_filter,List.filter_filter]
   exact List.filter_congr λx cb=>by
    rw[Bool.eq_iff_iff]
    simp[Array.mem_push,and_comm]
  have b4:((leftOf q seen).toList.map (·.born)).Nodup:=by
   unfold leftOf
   rw[Array.toList_filter]
   exact M.sublist ((List.filter_sublist).map _)
  obtain⟨U,V,bj,bk⟩:=filter_one (·.born) _ e b4 Y
  have I:=ad
  unfold KVg at I
  rw[bj,List.map_append,List.map_cons]at I
  obtain⟨b9,X,b5,b6,G⟩:=List.map_eq_append_iff.1 I.symm
  cases X with
  |nil=>cases G
  |cons p X=>
   obtain⟨k,v⟩:=p
   rw[List.map_cons,List.cons.injEq]at G
   have ac:e.key=ek k:=(congrArg Prod.fst G.1).symm
   have a8:e.val=ev v:=(congrArg Prod.snd G.1).symm
   have an:(setBlock H r (.mapIter (some m) D (seen.push e.born) clock)).heap[r]? =some (.mapIter (some m) D (seen.push e.born) clock):=by
    unfold setBlock
    simp[Z,b7]
   have ar:(setBlock H r (.mapIter (some m) D (seen.push e.born) clock)).heap[m]? =some (.map q clock):=by
    unfold setBlock
    simp only[Z]
    rw[Array.getElem?_setIfInBounds_ne b2];exact ag
   refine⟨b9,k,v,X,setBlock H r (.mapIter (some m) D (seen.push e.born) clock),b5,?_,⟨D,seen.push e.born,clock,q,clock,an,ar,b0,M,bq,al,a0,a0,?_⟩,?_,?_⟩
   ·rw[<- ac,<- a8];exact O
   ·unfold KVg
    rw[b1,bk,List.map_append,List.map_append,b6,G.2]
   ·rw[<- ac,<- a8]
    exact run_entry_at _ r m D seen q clock e an ar bs.1 M
   ·rcases a9 with rfl|rfl
    ·exact C3 _
    ·have E:=bD w
     refine⟨E.os,E.tape,E.output,?_,λj bz b3=>?_⟩
     ·have:=E.size
      show _ <=(Array.setIfInBounds _ _ _).size
      rw[Array.size_setIfInBounds];exact this
     ·have:r≠j:=λc=>b3 (by rw[c])
      show(Array.setIfInBounds _ _ _)[j]? =_
      rw[Array.getElem?_setIfInBounds_ne this]
      exact E.block j bz
end
section
variable {α β:Type} [DecidableEq α]
theorem JP {k:α} :∀{l:List (α×β)} {i:Nat},rM k l i=none->∀q∈l,q.1≠k
 |[],_,_,q,e=>by cases e
 |(k',E)::l,i,h,q,e=>by
  unfold rM at h
  split at h
  ·cases h
  ·rename_i D
   rcases List.mem_cons.1 e with rfl|e
   ·exact λx=>D x.symm
   ·exact JP h q e
theorem Fi {k:α} :∀{l:List (α×β)},(l.map (·.1)).Nodup->TU k l=l.filter λe=> !decide (e.1=k):=by
 intro l G
 unfold TU
 cases E:rM k l 0 with
 |none=>
  rw[List.filter_eq_self.2]
  intro e q
  simpa using JP E e q
 |some p=>
  obtain⟨i,v⟩:=p
  obtain⟨_,D⟩:=AG k l 0 i v E
  rw[Nat.sub_zero]at D
  obtain⟨M,I⟩:=List.getElem?_eq_some_iff.1 D
  have H:l=l.take i++(k,v)::l.drop (i+1):=by
   conv=>lhs;rw[<- List.take_append_drop i l,List.drop_eq_getElem_cons M,I]
  show l.eraseIdx i=_
  rw[List.eraseIdx_eq_take_drop_succ]
  conv=>rhs;rw[H]
  rw[H,List.map_append,List.map_cons,List.nodup_append,List.nodup_cons]at G
  obtain⟨V,⟨O,X⟩,U⟩:=G
  rw[List.filter_append,List.filter_cons,if_neg (by simp)]
  congr 1
  ·rw[List.filter_eq_self.2]
   ·intro e q
    have:=U e.1 (List.mem_map.2 ⟨e,q,rfl⟩) k (List.mem_cons_self ..)
    simpa using this
  ·rw[List.filter_eq_self.2]
   intro e q
   have:e.1≠k:=λc=>O (List.mem_map.2 ⟨e,q,c⟩)
   simpa using this
theorem HW {k k':α} :∀{l:List (α×β)},rz k' (l.filter λG=> !decide (G.1=k))=if k'=k then none else rz k' l
 |[]=>by split <;> rfl
 |(x,v)::l=>by
  have E:=HW (k:=k) (k':=k') (l:=l)
  rw[List.filter_cons]
  by_cases D:x=k
  ·subst D
   rw[if_neg (by simp),E]
   by_cases e:k'=x
   ·rw[if_pos e,if_pos e]
   ·rw[if_neg e,if_neg e]
    show _=(if k'=x then _ else _)
    rw[if_neg e]
  ·rw[if_pos (by simpa using D)]
   show(if k'=x then some v else rz k' _)=_
   by_cases e:k'=x
   ·rw[if_pos e]
    rw[if_neg (λc=>D (e.symm.trans c))]
    show _=(if k'=x then some v else _)
    rw[if_pos e]
   ·rw[if_neg e,E]
    by_cases q:k'=k
    ·rw[if_pos q,if_pos q]
    ·rw[if_neg q,if_neg q]
     show _=(if k'=x then some v else _)
     rw[if_neg e]
theorem Oj {k k':α}{v:β} :∀{l:List (α×β)} {i j:Nat} {D:β},rM k l i=some (j,D)->rz k' (l.set (j-i) (k,v))=if k'=k then some v else rz k' l
 |[],_,_,_,h=>by cases h
 |(x,y)::l,i,j,D,h=>by
  unfold rM at h
  split at h
  ·rename_i q
   subst q
   cases h
   rw[Nat.sub_self,List.set_cons_zero]
   show(if k'=k then some v else rz k' l)=if k'=k then some v else(if k'=k then some y else rz k' l)
   split <;> rfl
  ·rename_i q
   have G:=(AG k l (i+1) j D h).1
   have E:=Oj (k':=k') (v:=v) h
   rw[show j-i=(j-(i+1))+1 by omega,List.set_cons_succ]
   show(if k'=x then some y else rz k' _)=if k'=k then some v else(if k'=x then some y else rz k' l)
   by_cases e:k'=x
   ·rw[if_pos e,if_pos e,if_neg (λc=>q (c.symm.trans e))]
   ·rw[if_neg e,if_neg e,E]
theorem IZ {k k':α}{v:β}{l:List (α×β)} :rz k' (upG k v l)=if k'=k then some v else rz k' l:=by
 unfold upG
 cases q:rM k l 0 with
 |none=>
  show rz k' (l++[(k,v)])=_
  rw[Gj]
  by_cases e:k'=k
  ·subst e
   have:rz k' l=none:=by rw[<- FA k' l 0,q];rfl
   rw[this,if_pos rfl];rfl
  ·rw[if_neg e,if_neg e]
   cases rz k' l <;> rfl
 |some p=>
  obtain⟨j,D⟩:=p
  have:=Oj (k':=k') (v:=v) q
  rw[Nat.sub_zero]at this
  exact this
theorem Uv {k:α}{v:β}{l:List (α×β)}{D:β}(h:rM k l 0=some (j,D)):(l.set j (k,v)).map (·.1)=l.map (·.1):=by
 obtain⟨_,e⟩:=AG k l 0 j D h
 rw[Nat.sub_zero]at e
 obtain⟨E,G⟩:=List.getElem?_eq_some_iff.1 e
 rw[List.map_set]
 apply List.ext_getElem?
 intro i
 rw[List.getElem?_set]
 by_cases q:j=i
 ·subst q
  rw[if_pos rfl,if_pos (by simpa using E),List.getElem?_map,e];rfl
 ·rw[if_neg q]
theorem I3 {k:α}{v:β}{l:List (α×β)}(h:(l.map (·.1)).Nodup):((upG k v l).map (·.1)).Nodup:=by
 unfold upG
 cases q:rM k l 0 with
 |none=>
  show((l++[(k,v)]).map (·.1)).Nodup
  rw[List.map_append,List.nodup_append]
  refine⟨h,by simp,λa D b e=>?_⟩
  obtain⟨G,E,rfl⟩:=List.mem_map.1 D
  simp only[List.map_cons,List.map_nil,List.mem_singleton]at e
  rw[e];exact JP q G E
 |some p=>
  obtain⟨j,H⟩:=p
  show((l.set j (k,v)).map (·.1)).Nodup
  rw[Uv q];exact h
theorem Sb {k:α}{l:List (α×β)}(h:(l.map (·.1)).Nodup):((TU k l).map (·.1)).Nodup:=by
 rw[Fi h]
 exact h.sublist ((List.filter_sublist).map _)
theorem Te {k k':α}{l:List (α×β)}(h:(l.map (·.1)).Nodup):rz k' (TU k l)=if k'=k then none else rz k' l:=by
 rw[Fi h];exact HW
end
structure KU (S:List (List UInt8×Int))(L:List Kpt):Prop where
 nd:(S.map (·.1)).Nodup
 look:∀s,rz s S=if np L s=0 then none else some ((np L s:Nat):Int)
theorem KU.nil:KU [] []:=⟨List.nodup_nil,λs=>rfl⟩
theorem KU.val {S:List (List UInt8×Int)}{L:List Kpt}(h:KU S L)(s:List UInt8):(rz s S).getD 0=((np L s:Nat):Int):=by
 rw[h.look s]
 split
 ·rename_i e;rw[e];rfl
 ·rfl
theorem KU.perm {S:List (List UInt8×Int)}{L L':List Kpt}(h:KU S L)(e:∀s,np L' s=np L s):KU S L':=⟨h.nd,λs=>by rw[e,h.look s]⟩
theorem KU.inc {S:List (List UInt8×Int)}{L L':List Kpt}(h:KU S L){t:List UInt8}(q:∀s,np L' s=np L s+if s=t then 1 else 0):KU (upG t (((np L t:Nat):Int)+1) S) L':=by
 refine⟨I3 h.nd,λs=>?_⟩
 rw[IZ,q s]
 by_cases e:s=t
 ·subst e
  rw[if_pos rfl,if_pos rfl,if_neg (by omega)]
  congr 1
 ·rw[if_neg e,if_neg e,h.look s];rfl
theorem KU.dec {S:List (List UInt8×Int)}{L L':List Kpt}(h:KU S L){t:List UInt8}(q:∀s,np L s=np L' s+if s=t then 1 else 0)(D:np L' t≠0):KU (upG t (((np L t:Nat):Int)-1) S) L':=by
 refine⟨I3 h.nd,λs=>?_⟩
 rw[IZ]
 by_cases e:s=t
 ·subst e
  have:=q s
  rw[if_pos rfl]at this
  rw[if_pos rfl,if_neg D,this]
  congr 1;omega
 ·have:=q s
  rw[if_neg e]at this
  rw[if_neg e,h.look s,this];rfl
theorem KU.last {S:List (List UInt8×Int)}{L L':List Kpt}(h:KU S L){t:List UInt8}(D:∀s,np L s=np L' s+if s=t then 1 else 0)(q:np L' t=0)(v:Int):KU (TU t (upG t v S)) L':=by
 refine⟨Sb (I3 h.nd),λs=>?_⟩
 rw[Te (I3 h.nd),IZ]
 by_cases e:s=t
 ·subst e
  rw[if_pos rfl,if_pos q]
 ·have:=D s
  rw[if_neg e]at this
  rw[if_neg e,if_neg e,h.look s,this];rfl
theorem ShI.one {L:List Kpt}{last:Int}(h:ShI L last){a b:Kpt}(H:a∈L)(I:b∈L)(q:a.plc=b.plc):a=b:=by
 rcases List.mem_iff_getElem.1 H with⟨i,D,rfl⟩
 rcases List.mem_iff_getElem.1 I with⟨j,E,rfl⟩
 have G:=List.pairwise_iff_getElem.1 h.key
 rcases Nat.lt_trichotomy i j with e|e|e
 ·exact absurd q (G i j D E e)
 ·subst e;rfl
 ·exact absurd q.symm (G j i E D e)
theorem ShI.seq {L:List Kpt}{last:Int}(h:ShI L last){a b:Kpt}(G:a∈L)(H:b∈L)(I:a.c.seq=b.c.seq):a=b:=by
 rcases List.mem_iff_getElem.1 G with⟨i,q,rfl⟩
 rcases List.mem_iff_getElem.1 H with⟨j,D,rfl⟩
 have E:=List.pairwise_iff_getElem.1 h.up
 rcases Nat.lt_trichotomy i j with e|e|e
 ·have:=E i j q D e;omega
 ·subst e;rfl
 ·have:=E j i D q e;omega
theorem HK.new {e:List (Plc×Kpt)}{L:List Kpt}(h:HK e L){k:Kpt}(H:atK L k.plc=none):HK (upG k.plc k e) (L++[k]):=by
 have G:rz k.plc e=none:=by
  cases I:rz k.plc e with
  |none=>rfl
  |some v=>
   have D:=Nj I
   exact absurd (h.own _ D).symm (r9 H v (h.perm.mem_iff.1 (List.mem_map.2 ⟨_,D,rfl⟩)))
 have E:rM k.plc e 0=none:=by
  have:=FA k.plc e 0
  rw[G]at this
  simpa using this
 unfold upG
 rw[E]
 refine⟨?_,λM q=>?_⟩
 ·show((e++[(k.plc,k)]).map (·.2)).Perm _
  rw[List.map_append]
  exact h.perm.append (List.Perm.refl _)
 ·rcases List.mem_append.1 q with q|q
  ·exact h.own M q
  ·rw[List.mem_singleton.1 q]
theorem HK.over {e:List (Plc×Kpt)}{L:List Kpt}(h:HK e L)(s:ShI L a){k o:Kpt}(ac:atK L k.plc=some o):HK (upG k.plc k e) (L.map λx=>if x.plc=k.plc then k else x):=by
 have V:=h.look s k.plc
 rw[ac]at V
 have ag:=h.nodup s
 cases H:rM k.plc e 0 with
 |none=>
  have:=FA k.plc e 0
  rw[H,V]at this;cases this
 |some p=>
  obtain⟨j,al⟩:=p
  obtain⟨_,E⟩:=AG k.plc e 0 j al H
  rw[Nat.sub_zero]at E
  obtain⟨D,ad⟩:=List.getElem?_eq_some_iff.1 E
  have Y:upG k.plc k e=e.map λq=>if q.1=k.plc then(k.plc,k)else q:=by
   unfold upG
   rw[H]
   show e.set j (k.plc,k)=_
   apply List.ext_getElem?
   intro i
   rw[List.getElem?_set,List.getElem?_map]
   by_cases c:j=i
   ·subst c
    rw[if_pos rfl,if_pos D,E]
    simp
   ·rw[if_neg c]
    cases O:e[i]? with
    |none=>rfl
    |some q=>
     have:q.1≠k.plc:=λx=>by
      obtain⟨I,aj⟩:=List.getElem?_eq_some_iff.1 O
      have X:=List.pairwise_iff_getElem.1 ag
      have h1:(e.map (·.1))[j]'(by simpa using D)=k.plc:=by simp[ad]
      have U:(e.map (·.1))[i]'(by simpa using I)=k.plc:=by simp[aj,x]
      rcases Nat.lt_or_gt_of_ne c with G|G
      ·exact X j i (by simpa using D) (by simpa using I) G (h1.trans U.symm)
      ·exact X i j (by simpa using I) (by simpa using D) G (U.trans h1.symm)
     simp[this]
  rw[Y]
  refine⟨?_,λq M=>?_⟩
  ·have Z:(e.map λq=>if q.1=k.plc then(k.plc,k)else q).map (·.2)=(e.map (·.2)).map λx=>if x.plc=k.plc then k else x:=by
    rw[List.map_map,List.map_map]
    exact List.map_congr_left λq M=>by
     have:=h.own q M
     show(if q.1=k.plc then(k.plc,k)else q).2=if q.2.plc=k.plc then k else q.2
     rw[this]
     split <;> rfl
   rw[Z]
   exact h.perm.map _
  ·obtain⟨x,O,rfl⟩:=List.mem_map.1 M
   split
   ·rfl
   ·exact h.own x O
def before (x y:Kpt):Prop:=x.c.used<y.c.used\/(x.c.used=y.c.used/\x.c.seq <=y.c.seq)
def Ei (of:Kpt->Bool)(L:List Kpt)(o:Option Kpt):Prop:=match o with
 |none=>∀k∈L,of k=false
 |some x=>x∈L/\of x=true/\∀k∈L,of k=true->before x k
theorem Je (x:Kpt):before x x:=.inr ⟨rfl,Int.le_refl _⟩
theorem Ei.perm {of:Kpt->Bool}{L D:List Kpt}{o:Option Kpt}(h:Ei of L o)(q:L.Perm D):Ei of D o:=by
 cases o with
 |none=>exact λk e=>h k (q.mem_iff.2 e)
 |some x=>exact⟨q.mem_iff.1 h.1,h.2.1,λk e=>h.2.2 k (q.mem_iff.2 e)⟩
theorem Ei.one {of:Kpt->Bool}{L:List Kpt}(s:ShI L a){o p:Option Kpt}(h:Ei of L o)(k:Ei of L p):o=p:=by
 cases o with
 |none=>
  cases p with
  |none=>rfl
  |some y=>have:=h y k.1;rw[k.2.1]at this;cases this
 |some x=>
  cases p with
  |none=>have:=k x h.1;rw[h.2.1]at this;cases this
  |some y=>
   have h1:=h.2.2 y k.1 k.2.1
   have e:=k.2.2 x h.1 h.2.1
   have:x=y:=s.seq h.1 k.1 (by unfold before at h1 e;omega)
   rw[this]
def yv (o:Option Kpt)(x:Kpt):Bool:=match o with
 |none=>true
 |some y=>decide (x.c.used<y.c.used) || (decide (x.c.used=y.c.used)&&decide (x.c.seq<y.c.seq))
theorem Ei.step {of:Kpt->Bool}{L:List Kpt}{o:Option Kpt}(h:Ei of L o)(k:Kpt):
 Ei of (L++[k]) (bif of k&&yv o k then some k else o):=by
 cases o with
 |none=>
  have H:(bif of k&&yv none k then some k else none)=(bif of k then some k else none):=by unfold yv;rw[Bool.and_true]
  rw[H]
  cases G:of k with
  |true=>
   refine⟨by simp,G,λy e D=>?_⟩
   rcases List.mem_append.1 e with e|e
   ·have:=h y e;rw[D]at this;cases this
   ·rw[List.mem_singleton.1 e];exact Je _
  |false=>
   intro y e
   rcases List.mem_append.1 e with e|e
   ·exact h y e
   ·rw[List.mem_singleton.1 e];exact G
 |some x=>
  obtain⟨M,I,E⟩:=h
  cases q:(of k&&yv (some x) k)with
  |true=>
   simp only[Bool.and_eq_true,yv,Bool.or_eq_true,dTx]at q
   refine⟨by simp,q.1,λy e D=>?_⟩
   rcases List.mem_append.1 e with e|e
   ·have O:=E y e D
    have U:=q.2
    unfold before at*;omega
   ·rw[List.mem_singleton.1 e];exact Je _
  |false=>
   refine⟨List.mem_append_left _ M,I,λy e D=>?_⟩
   rcases List.mem_append.1 e with e|e
   ·exact E y e D
   ·rw[List.mem_singleton.1 e]at D ⊢
    rw[D,Bool.true_and]at q
    have q: ¬ yv (some x) k=true:=by rw[q];decide
    simp only[yv,Bool.or_eq_true,Bool.and_eq_true,dTx]at q
    unfold before;omega
theorem Wh (of:Kpt->Bool)(k:Kpt):∀(o:Option Kpt),(∀x,o=some x->x.c.seq<k.c.seq)->(bif of k&&yv o k then some k else o)=
 (if of k=true then(match o with|none=>some k|some x=>if k.c.used<x.c.used then some k else some x)else o)
 |none,_=>by cases of k <;> rfl
 |some x,h=>by
  have:=h x rfl
  cases of k with
  |false=>rfl
  |true=>
   by_cases e:k.c.used<x.c.used
   ·simp[yv,e]
   ·have: ¬ k.c.seq<x.c.seq:=by omega
    simp[yv,e,this]
theorem Mh {of:Kpt->Bool} :∀(l pre:List Kpt) (o:Option Kpt),((pre++l).Pairwise λa b=>a.c.seq<b.c.seq)->Ei of pre o->Ei of (pre++l) (Ao of l o)
 |[],pre,o,_,h=>by rw[List.append_nil];exact h
 |k::l,pre,o,e,h=>by
  have q:=Ei.step h k
  rw[Wh of k o λx D=>by
   subst D
   rw[List.pairwise_append]at e
   exact e.2.2 x h.1 k (List.mem_cons_self ..)]at q
  have:=Mh l (pre++[k]) _ (by rw[List.append_assoc];exact e) q
  rw[List.append_assoc]at this
  exact this
theorem DW {of:Kpt->Bool}{L:List Kpt}(s:ShI L a):Ei of L (QA L of):=by
 have:=Mh (of:=of) L [] none (by rw[List.nil_append];exact s.up) (λk e=>by cases e)
 rw[List.nil_append]at this
 exact this
theorem Uc {L:List Kpt}{last:Int}(s:ShI L last){p:Plc}{o:Kpt}(h:atK L p=some o)(t:List UInt8):np L t=np (iI L p) t+if t=o.site then 1 else 0:=by
 obtain⟨q,G⟩:=qq h
 have E:∀k∈L,k.plc=p->k=o:=λk e D=>s.one e q (D.trans G.symm)
 clear h
 revert E s q
 induction L with
 |nil=>intro _ q;cases q
 |cons a L U=>
  intro s q E
  have V:ShI L last:=⟨(List.pairwise_cons.1 s.up).2,λk e=>s.lo k (List.mem_cons_of_mem _ e),(List.pairwise_cons.1 s.key).2,s.l0⟩
  have H:=(List.pairwise_cons.1 s.key).1
  unfold np iI at*
  by_cases D:a=o
  ·subst D
   have M:(L.filter λk=> !decide (k.plc=p))=L:=List.filter_eq_self.2 λk e=>by
    have:=H k e
    rw[G]at this
    simpa using λc=>this c.symm
   rw[List.filter_cons,if_neg (by simp[G]),M,List.countP_cons]
   simp[eq_comm]
  ·have O:o∈L:=(List.mem_cons.1 q).resolve_left λx=>D x.symm
   have I:a.plc≠p:=λx=>D (E a (List.mem_cons_self ..) x)
   have:=U V O λk e=>E k (List.mem_cons_of_mem _ e)
   rw[List.filter_cons,if_pos (by simpa using I),List.countP_cons,List.countP_cons,this]
   omega
theorem VI (L:List Kpt)(k:Kpt)(t:List UInt8):np (L++[k]) t=np L t+if t=k.site then 1 else 0:=by
 unfold np
 rw[List.countP_append,List.countP_cons,List.countP_nil]
 simp[eq_comm]
structure Chg (S:List Nat)(w w':World):Prop where
 os:w'.os=w.os
 tape:w'.tape=w.tape
 output:w'.output=w.output
 size:w.heap.size <=w'.heap.size
 block:∀k,k<w.heap.size->k ∉ S->w'.heap[k]? =w.heap[k]?
theorem Chg.refl (S:List Nat)(w:World):Chg S w w:=⟨rfl,rfl,rfl,Nat.le_refl _,λ_ _ _=>rfl⟩
theorem Chg.trans {S:List Nat}{a b c:World}(h:Chg S a b)(k:Chg S b c):Chg S a c:=
 ⟨k.os.trans h.os,k.tape.trans h.tape,k.output.trans h.output,Nat.le_trans h.size k.size,λi e q=>(k.block i (Nat.lt_of_lt_of_le e h.size) q).trans (h.block i e q)⟩
theorem Chg.of {S:List Nat}{w w':World}(h:bW w w'):Chg S w w':=⟨h.os,h.tape,h.output,h.size,λk e _=>h.block k e⟩
theorem Chg.grown {S:List Nat}{w w':World}{r:Nat}(h:w.grownBy w' (some r))(D:r∈S):Chg S w w':=
 ⟨h.os,h.tape,h.output,h.size,λk q E=>h.block k q λe=>E (by cases e;exact D)⟩
theorem Chg.mono {S e:List Nat}{w w':World}(h:Chg S w w')(G:∀k∈S,k∈e):Chg e w w':=⟨h.os,h.tape,h.output,h.size,λk q E=>h.block k q λD=>E (G k D)⟩
theorem Chg.below {S:List Nat}{B:Nat}{w w':World}(h:Chg S w w')(hB:B <=w.heap.size)(q:∀k∈S,B <=k):Below B w w':=
 ⟨h.os,h.tape,h.output,h.size,λk D=>h.block k (by omega) λe=>by have:=q k e;omega⟩
theorem Chg.none {w w':World}(h:Chg [] w w'):bW w w':=h.below (Nat.le_refl _) λk e=>by cases e
theorem Chg.keep {S:List Nat}{w w':World}(h:Chg S w w'):NP (λb=>b ∉ S) w w':=⟨h.size,λb q e=>h.block b q e⟩
theorem Chg.arr {S:List Nat}{w w':World}(h:Chg S w w'){vs:List Value}(e:av w k t vs)(q:k ∉ S):av w' k t vs:=e.block (h.block k e.lt q)
theorem Chg.step {S:List Nat}{a b c:World}(h:Chg S a b)(k:bW b c):Chg S a c:=h.trans (Chg.of k)
theorem Chg.put {S:List Nat}{a b c:World}{r:Nat}(h:Chg S a b)(k:b.grownBy c (some r))(E:a.heap.size <=r):Chg S a c:=
 ⟨k.os.trans h.os,k.tape.trans h.tape,k.output.trans h.output,Nat.le_trans h.size k.size,λi e D=>(k.block i (Nat.lt_of_lt_of_le e h.size) (λq=>by cases q;omega)).trans (h.block i e D)⟩
section
open Go.Shelf Go.RowKit Go.Lib Go.Pk
variable {P:Program} {ρ:Ren}
abbrev blk:ByteArray:=⟨#[32,9]⟩
theorem VQ {r:Int}(H:128 <=r)(E:Lib.validRune r=true):(∃a b:UInt8,Utf8.encode r=⟨#[a,b]⟩/\b.toNat≠9)\/(3 <=(Utf8.encode r).size/\(Utf8.encode r).size <=4):=by
 have G:Utf8.valid r=true:=by
  unfold Lib.validRune at E;unfold Utf8.valid
  simp at E ⊢;omega
 have e:Utf8.encode r=if r.toNat<0x80 then⟨#[UInt8.ofNat r.toNat]⟩ else if r.toNat<0x800 then⟨#[UInt8.ofNat (0xC0+r.toNat/64),UInt8.ofNat (0x80+r.toNat%64)]⟩
  else if r.toNat<0x10000 then⟨#[UInt8.ofNat (0xE0+r.toNat/4096),UInt8.ofNat (0x80+r.toNat/64%64),UInt8.ofNat (0x80+r.toNat%64)]⟩
  else⟨#[UInt8.ofNat (0xF0+r.toNat/262144),UInt8.ofNat (0x80+r.toNat/4096%64),UInt8.ofNat (0x80+r.toNat/64%64),UInt8.ofNat (0x80+r.toNat%64)]⟩:=by
  unfold Utf8.encode;rw[G];rfl
 rw[if_neg (by omega)]at e
 by_cases q:r.toNat<0x800
 ·rw[if_pos q]at e
  exact .inl ⟨_,_,e,by rw[UInt8.toNat_ofNat'];omega⟩
 rw[if_neg q]at e
 by_cases D:r.toNat<0x10000
 ·rw[if_pos D]at e
  rw[e];exact .inr (show 3 <=3/\3 <=4 by decide)
 ·rw[if_neg D]at e
  rw[e];exact .inr (show 3 <=4/\4 <=4 by decide)
set_option maxHeartbeats 4000000 in
set_option maxRecDepth 1000000 in
theorem Nb (L:Lays.n152 P ρ)(r:Int)(w:World)(h0:128 <=r)(hne:r≠65533)(hv:Lib.validRune r=false):
 Calls P (ρ.f 152) #[.string blk,.int .i32 r] w λe w'=>e=.returned (vI (-1))/\∃n,w'=w.drewN n:=by
 have mixed:=L.mixed
 have t3:=L.t3;have a3:=L.a3;have z3:=L.z3;have v3:=L.v3;have u3:=run_underlying L.t3
 have t4:=L.t4;have a4:=L.a4;have z4:=L.z4;have v4:=L.v4;have u4:=run_underlying L.t4
 have t5:=L.t5;have a5:=L.a5;have z5:=L.z5;have v5:=L.v5;have u5:=run_underlying L.t5
 have t9:=L.t9;have a9:=L.a9;have z9:=L.z9;have v9:=L.v9;have u9:=run_underlying L.t9
 have t21:=L.t21;have a21:=L.a21;have z21:=L.z21;have v21:=L.v21;have u21:=run_underlying L.t21
 have e137:∀args w,(callFunc (ρ.f 137) args).run P w=.ok (.enter (ρ.f 137) args) w:=enters_of L.f137 (by kernel_rfl) rfl
 have e119:∀args w,(callFunc (ρ.f 119) args).run P w=.ok (.enter (ρ.f 119) args) w:=enters_of L.f119 (by kernel_rfl) rfl
 have hr1: ¬ (r<128):=by omega
 have hr2:(r==65533)=false:=beq_eq_false_iff_ne.2 hne
 go_enter L.f152,Body.n152_ntmps ρ
 go_wp2_with (first
  |(go_at_fn (ρ.f 119);refine(Any.utf8_ValidRune { L with } _ _).mono ?_;rintro e w' ⟨rfl,hw⟩;rw[hw,hv])
  |(go_at_fn (ρ.f 137);refine(Any.strings_IndexByte { L with } _ _ _).mono ?_;rintro e w' ⟨rfl,hw⟩;rw[hw]))
 go_ret
 exact⟨rfl,0,rfl⟩
set_option maxHeartbeats 4000000 in
set_option maxRecDepth 1000000 in
theorem K5 (L:Lays.n152 P ρ)(r:Int)(w:World)(h0:128 <=r)(hne:r≠65533)(hv:Lib.validRune r=true)(rs:ByteArray)(hrs:Utf8.encode r=rs)(h3:3 <=rs.size)(h4:rs.size <=4):
 Calls P (ρ.f 152) #[.string blk,.int .i32 r] w λe w'=>e=.returned (vI (-1))/\∃n,w'=w.drewN n:=by
 have mixed:=L.mixed
 have t3:=L.t3;have a3:=L.a3;have z3:=L.z3;have v3:=L.v3;have u3:=run_underlying L.t3
 have t4:=L.t4;have a4:=L.a4;have z4:=L.z4;have v4:=L.v4;have u4:=run_underlying L.t4
 have t5:=L.t5;have a5:=L.a5;have z5:=L.z5;have v5:=L.v5;have u5:=run_underlying L.t5
 have t9:=L.t9;have a9:=L.a9;have z9:=L.z9;have v9:=L.v9;have u9:=run_underlying L.t9
 have t21:=L.t21;have a21:=L.a21;have z21:=L.z21;have v21:=L.v21;have u21:=run_underlying L.t21
 have e137:∀args w,(callFunc (ρ.f 137) args).run P w=.ok (.enter (ρ.f 137) args) w:=enters_of L.f137 (by kernel_rfl) rfl
 have e119:∀args w,(callFunc (ρ.f 119) args).run P w=.ok (.enter (ρ.f 119) args) w:=enters_of L.f119 (by kernel_rfl) rfl
 have hr1: ¬ (r<128):=by omega
 have hr2:(r==65533)=false:=beq_eq_false_iff_ne.2 hne
 have hcv:=λw=>run_convert_int_string (P:=P) w (ρ.t 21) (ρ.t 9) .i32 r (by rw[t21];rfl) t9
 rw[hrs]at hcv
 have hz:blk.size=2:=rfl
 go_enter L.f152,Body.n152_ntmps ρ
 go_wp2_with (first
  |(go_at_fn (ρ.f 119);refine(Any.utf8_ValidRune { L with } _ _).mono ?_;rintro e w' ⟨rfl,hw⟩;rw[hw,hv])
  |(go_at_fn (ρ.f 137);refine(Any.strings_IndexByte { L with } _ _ _).mono ?_;rintro e w' ⟨rfl,hw⟩;rw[hw]))
 go_wp2_with (go_at_fn (ρ.f 137);refine(Any.strings_IndexByte { L with } _ _ _).mono ?_;rintro e w' ⟨rfl,hw⟩;rw[hw])
 go_step3
 go_wp2_with (go_at_fn (ρ.f 137);refine(Any.strings_IndexByte { L with } _ _ _).mono ?_;rintro e w' ⟨rfl,hw⟩;rw[hw])
 go_loopg [9,10,11,12] 1 (λg s9 _ _ _ wx=>s9=vI ((rs.size:Int)-1)/\wx=w)
 case atStart=>exact⟨rfl,rfl⟩
 case round=>
  obtain⟨rfl,rfl⟩:=hrel
  have hn: ¬ ((rs.size:Int)-1<2):=by omega
  have hn': ¬ ((rs.size:Int)-1<(blk.size:Int)):=by rw[hz];omega
  go_wp2
  go_ret
  exact⟨rfl,0,rfl⟩
set_option maxHeartbeats 4000000 in
set_option maxRecDepth 1000000 in
theorem K4 (L:Lays.n152 P ρ)(r:Int)(w:World)(h0:128 <=r)(hne:r≠65533)(hv:Lib.validRune r=true)(a b:UInt8)(hrs:Utf8.encode r=⟨#[a,b]⟩)(hb:b.toNat≠9):
 Calls P (ρ.f 152) #[.string blk,.int .i32 r] w λe w'=>e=.returned (vI (-1))/\∃n,w'=w.drewN n:=by
 have mixed:=L.mixed
 have t3:=L.t3;have a3:=L.a3;have z3:=L.z3;have v3:=L.v3;have u3:=run_underlying L.t3
 have t4:=L.t4;have a4:=L.a4;have z4:=L.z4;have v4:=L.v4;have u4:=run_underlying L.t4
 have t5:=L.t5;have a5:=L.a5;have z5:=L.z5;have v5:=L.v5;have u5:=run_underlying L.t5
 have t9:=L.t9;have a9:=L.a9;have z9:=L.z9;have v9:=L.v9;have u9:=run_underlying L.t9
 have t21:=L.t21;have a21:=L.a21;have z21:=L.z21;have v21:=L.v21;have u21:=run_underlying L.t21
 have e137:∀args w,(callFunc (ρ.f 137) args).run P w=.ok (.enter (ρ.f 137) args) w:=enters_of L.f137 (by kernel_rfl) rfl
 have e119:∀args w,(callFunc (ρ.f 119) args).run P w=.ok (.enter (ρ.f 119) args) w:=enters_of L.f119 (by kernel_rfl) rfl
 have hr1: ¬ (r<128):=by omega
 have hr2:(r==65533)=false:=beq_eq_false_iff_ne.2 hne
 have hcv:=λw=>run_convert_int_string (P:=P) w (ρ.t 21) (ρ.t 9) .i32 r (by rw[t21];rfl) t9
 rw[hrs]at hcv
 have hz:blk.size=2:=rfl
 go_enter L.f152,Body.n152_ntmps ρ
 go_wp2_with (first
  |(go_at_fn (ρ.f 119);refine(Any.utf8_ValidRune { L with } _ _).mono ?_;rintro e w' ⟨rfl,hw⟩;rw[hw,hv])
  |(go_at_fn (ρ.f 137);refine(Any.strings_IndexByte { L with } _ _ _).mono ?_;rintro e w' ⟨rfl,hw⟩;rw[hw]))
 go_wp2_with (go_at_fn (ρ.f 137);refine(Any.strings_IndexByte { L with } _ _ _).mono ?_;rintro e w' ⟨rfl,hw⟩;rw[hw])
 go_step3
 go_wp2_with (go_at_fn (ρ.f 137);refine(Any.strings_IndexByte { L with } _ _ _).mono ?_;rintro e w' ⟨rfl,hw⟩;rw[hw])
 go_loopg [9,10,11,12] 1 (λg s9 _ _ _ wx=>s9=vI 1/\wx=w)
 case atStart=>exact⟨rfl,rfl⟩
 case round=>
  obtain⟨rfl,rfl⟩:=hrel
  have hw2:i64.wrap 2=2:=by decide
  have hix:∀x,Lib.indexByte [] x= -1:=λ_=>rfl
  have hb1:((9:Int)==(b.toNat:Int))=false:=beq_eq_false_iff_ne.2 (by omega)
  go_wp2_with (go_at_fn (ρ.f 137);refine(Any.strings_IndexByte { L with } _ _ _).mono ?_;rintro e w' ⟨rfl,hw⟩;rw[hw])
  go_step3
  go_wp2
  go_quiet_o (fail)
  go_wp2
  go_quiet_o (exact(Any.strings_IndexByte { L with } _ _ _).mono λe w' h=>⟨h.1,_,h.2⟩)
  go_wp2
  change bodyPost P (Body.n152 ρ) (λe w'=>e=Ending.returned (Value.int i64 (-1))/\∃n,w'=wr.drewN n) Exit.ret _ _
  go_ret
  exact⟨rfl,_,rfl⟩
  exfalso
  have hx:((9:Int) !=(b.toNat:Int))=false:=by assumption
  simp at hx
  omega
set_option maxHeartbeats 4000000 in
set_option maxRecDepth 1000000 in
theorem Nd (L:Lays.n152 P ρ)(w:World):
 Calls P (ρ.f 152) #[.string blk,.int .i32 65533] w λe w'=>e=.returned (vI (-1))/\bW w w':=by
 have mixed:=L.mixed
 have t3:=L.t3;have a3:=L.a3;have z3:=L.z3;have v3:=L.v3;have u3:=run_underlying L.t3
 have t4:=L.t4;have a4:=L.a4;have z4:=L.z4;have v4:=L.v4;have u4:=run_underlying L.t4
 have t9:=L.t9;have a9:=L.a9;have z9:=L.z9;have v9:=L.v9;have u9:=run_underlying L.t9
 have t21:=L.t21;have a21:=L.a21;have z21:=L.z21;have v21:=L.v21;have u21:=run_underlying L.t21
 go_enter L.f152,Body.n152_ntmps ρ
 go_wp2
 go_loopg [5,6] 2 (λg _ _ wx=>∃i:Nat,i+g=2/\wx=w.iter blk i)
 case atStart=>exact⟨0,rfl,rfl⟩
 case round=>
  obtain⟨i,hig,rfl⟩:=hrel
  match i,hig with
  |2,hig=>
   have hnx:=run_next_end (P:=P) w blk 2
   go_wp2
   go_ret
   exact⟨rfl,(Below.refl _ _).alloc (Nat.le_refl _) _⟩
  |0,hig=>
   have hnx:∀ty,(Instr.next (.pointer (some ⟨w.heap.size,0,none⟩)) true ty).run P (w.iter blk 0)=.ok (.tuple #[.bool true,vI 0,.int .i32 32]) (w.iter blk 1):=λty=>run_next_ascii (P:=P) w blk 0 ty (by decide) (by decide)
   go_wp2
   go_roundg 1
   case measure=>omega
   case rel=>exact⟨1,rfl,rfl⟩
  |1,hig=>
   have hnx:∀ty,(Instr.next (.pointer (some ⟨w.heap.size,0,none⟩)) true ty).run P (w.iter blk 1)=.ok (.tuple #[.bool true,vI 1,.int .i32 9]) (w.iter blk 2):=λty=>run_next_ascii (P:=P) w blk 1 ty (by decide) (by decide)
   go_wp2
   go_roundg 0
   case measure=>omega
   case rel=>exact⟨2,rfl,rfl⟩
  |n+3,hig=>exact absurd hig (by omega)
theorem Nc (L:Lays.n152 P ρ)(r:Int)(w:World)(D:128 <=r):
 Calls P (ρ.f 152) #[.string blk,.int .i32 r] w λq w'=>q=.returned (vI (-1))/\bW w w':=by
 have H:∀n,bW w (w.drewN n):=λn=>⟨rfl,rfl,rfl,Nat.le_refl _,λ_ _=>rfl⟩
 by_cases E:r=65533
 ·rw[E];exact Nd L w
 cases G:Lib.validRune r with
 |false=>exact(Nb L r w D E G).mono λq w' ⟨h1,n,e⟩=>⟨h1,e▸H n⟩
 |true=>
  rcases VQ D G with⟨a,b,O,U⟩|⟨I,M⟩
  ·exact(K4 L r w D E G a b O U).mono λq w' ⟨h1,n,e⟩=>⟨h1,e▸H n⟩
  ·exact(K5 L r w D E G _ rfl I M).mono λq w' ⟨h1,n,e⟩=>⟨h1,e▸H n⟩
theorem Rf (s:ByteArray)(i:Nat)(h:i<s.size)(I:128 <=(s[i]'h).toNat):
 128 <=(Utf8.decode s i).1/\1 <=(Utf8.decode s i).2/\i+(Utf8.decode s i).2 <=s.size/\∀j,i <=j->(Z:j<i+(Utf8.decode s i).2)->∀D:j<s.size,128 <=(s[j]'D).toNat:=by
 have O:∀k (hk:k<s.size),s.get! k=s[k]'hk:=λk hk=>by
  simp[ByteArray.get!,getElem!_pos,hk];rfl
 unfold Utf8.decode
 have X:(s.get! (i+0)).toNat=(s[i]'h).toNat:=by rw[Nat.add_zero,O i h]
 simp only[X]
 rw[if_neg (by omega)]
 have one:∀j,i <=j->j<i+1->∀D:j<s.size,128 <=(s[j]'D).toNat:=λj h1 q D=>by
  have:j=i:=by omega
  subst this;exact I
 have cont:∀k,(decide (i+k<s.size)&&(s.get! (i+k)).toNat/64==2)=true->∃hk:i+k<s.size,128 <=(s[i+k]'hk).toNat:=λk e=>by
  simp only[Bool.and_eq_true,dTx,beq_iff_eq]at e
  refine⟨e.1,?_⟩
  have:=e.2
  rw[O _ e.1]at this
  omega
 have H:128 <=Utf8.runeError:=by decide
 split
 ·rename_i e
  rw[Bool.and_eq_true]at e
  obtain⟨U,E⟩:=cont 1 e.2
  split
  ·rename_i G
   refine⟨G,show 1 <=2 by decide,by show i+2 <=_;omega,λj h1 q D=>?_⟩
   have q:j<i+2:=q
   have:j=i\/j=i+1:=by omega
   rcases this with rfl|rfl
   ·exact I
   ·exact E
  ·exact⟨H,by decide,by show i+1 <=_;omega,one⟩
 split
 ·rename_i e
  rw[Bool.and_eq_true,Bool.and_eq_true]at e
  obtain⟨U,E⟩:=cont 1 e.1.2
  obtain⟨Y,M⟩:=cont 2 e.2
  split
  ·rename_i G
   rw[Bool.and_eq_true,dTx]at G
   refine⟨by show 128 <=_;omega,show 1 <=3 by decide,by show i+3 <=_;omega,λj h1 q D=>?_⟩
   have q:j<i+3:=q
   have:j=i\/j=i+1\/j=i+2:=by omega
   rcases this with rfl|rfl|rfl
   ·exact I
   ·exact E
   ·exact M
  ·exact⟨H,by decide,by show i+1 <=_;omega,one⟩
 split
 ·rename_i e
  rw[Bool.and_eq_true,Bool.and_eq_true,Bool.and_eq_true]at e
  obtain⟨U,E⟩:=cont 1 e.1.1.2
  obtain⟨Y,M⟩:=cont 2 e.1.2
  obtain⟨ac,V⟩:=cont 3 e.2
  split
  ·rename_i G
   rw[Bool.and_eq_true,dTx]at G
   refine⟨by show 128 <=_;omega,show 1 <=4 by decide,by show i+4 <=_;omega,λj h1 q D=>?_⟩
   have q:j<i+4:=q
   have:j=i\/j=i+1\/j=i+2\/j=i+3:=by omega
   rcases this with rfl|rfl|rfl|rfl
   ·exact I
   ·exact E
   ·exact M
   ·exact V
  ·exact⟨H,by decide,by show i+1 <=_;omega,one⟩
 ·exact⟨H,by decide,by show i+1 <=_;omega,one⟩
set_option maxHeartbeats 8000000 in
set_option maxRecDepth 1000000 in
theorem K3 (L:Lays.n153 P ρ)(s:ByteArray)(w:World)(h8:s.size <=8):
 Calls P (ρ.f 153) #[.string s,.string blk] w λe w'=>e=.returned (vI (Lib.indexAny s.data.toList [32,9]))/\bW w w':=by
 have hemp:blk.toList.isEmpty=false:=by rw[Lib.toList_data];rfl
 have hz:blk.size=2:=rfl
 have h8z:decide ((8:Int)<(s.size:Int))=false:=decide_eq_false (by omega)
 have t3:=L.t3;have a3:=L.a3;have z3:=L.z3;have v3:=L.v3
 have t4:=L.t4;have a4:=L.a4;have z4:=L.z4;have v4:=L.v4
 have t5:=L.t5;have a5:=L.a5;have z5:=L.z5;have v5:=L.v5
 have t9:=L.t9;have a9:=L.a9;have z9:=L.z9;have v9:=L.v9
 have t21:=L.t21;have a21:=L.a21;have z21:=L.z21;have v21:=L.v21
 have e152:∀args w,(callFunc (ρ.f 152) args).run P w=.ok (.enter (ρ.f 152) args) w:=enters_of L.f152 (by kernel_rfl) rfl
 have e226:∀args w,(callFunc (ρ.f 226) args).run P w=.ok (.enter (ρ.f 226) args) w:=enters_of L.f226 (by kernel_rfl) rfl
 have L152:Lays.n152 P ρ:= { L with }
 go_enter L.f153,Body.n153_ntmps ρ
 go_wp2_with (go_at_fn (ρ.f 226);refine(Any.strings_shouldUseASCIISet { L with } _ _).mono ?_;rintro e w' ⟨rfl,hw⟩;rw[hw,h8z])
 go_loopg [9,10] s.size (λg _ _ wx=>∃i:Nat,i+g=s.size/\wx.heap[w.heap.size]? =some (.stringIter s i)/\bW w wx/\Lib.NoAny s.data.toList [32,9] i)
 case atStart=>exact⟨0,by omega,World.iter_heap w s 0,(Below.refl _ _).alloc (Nat.le_refl _) _,Lib.NoAny.zero _ _⟩
 case round=>
  obtain⟨i,hig,hit,hB,hno⟩:=hrel
  have HN:Aside (Lib.NoAny s.data.toList [32,9] i):=hno
  clear hno
  by_cases hi:i<s.size
  ·obtain⟨x,hx⟩:∃x:UInt8,s[i]'hi=x:=⟨_,rfl⟩
   have hxl:s.data.toList[i]? =some x:=by rw[<- hx];exact Lib.data_getElem? s i hi
   by_cases hx128:x.toNat<128
   ·have hnx:=λty=>run_next_ascii_at (P:=P) wr w.heap.size s i ty hit hi (by rw[hx];exact hx128)
    rw[hx]at hnx
    have hit2:=iterAt_heap wr w.heap.size s i (i+1) hit
    have hB2:=below_iterAt hB (Nat.le_refl w.heap.size) s (i+1)
    have Hx:Aside (s.data.toList[i]? =some x):=hxl
    clear hxl hx hit
    have hcon:=Lib.contains_iff_indexByte [32,9] x
    have hback:((x.toNat:Int)).toNat.toUInt8=x:=by simp
    cases hin:([32,9]:List UInt8).contains x
    ·rw[hin]at hcon
     have hlt: ¬ ((0:Int) <=Lib.indexByte [32,9] x):=of_decide_eq_false hcon.symm
     clear hcon
     generalize hgw:wr.iterAt w.heap.size s (i+1)=wi at*
     go_wp2_with (go_at_fn (ρ.f 152);refine(Any.strings_IndexRune_ascii { L with } _ _ _ (by omega) (by omega)).mono ?_;rintro e w' ⟨rfl,hw⟩;rw[hw,hback])
     go_roundg (s.size-(i+1))
     case measure=>omega
     case rel=>exact⟨i+1,by omega,hit2,hB2,HN.out.succ Hx.out hin⟩
    ·rw[hin]at hcon
     have hge:(0:Int) <=Lib.indexByte [32,9] x:=of_decide_eq_true hcon.symm
     clear hcon
     generalize hgw:wr.iterAt w.heap.size s (i+1)=wi at*
     go_wp2_with (go_at_fn (ρ.f 152);refine(Any.strings_IndexRune_ascii { L with } _ _ _ (by omega) (by omega)).mono ?_;rintro e w' ⟨rfl,hw⟩;rw[hw,hback])
     go_ret
     exact⟨by rw[Lib.indexAny_hit HN.out Hx.out hin];rfl,hB2⟩
   ·have hd:=Rf s i hi (by rw[hx];omega)
    have hnx:=λty=>run_next_any_at (P:=P) wr w.heap.size s i ty hit hi
    have hit2:=iterAt_heap wr w.heap.size s i (i+(Utf8.decode s i).2) hit
    have hB2:=below_iterAt hB (Nat.le_refl w.heap.size) s (i+(Utf8.decode s i).2)
    generalize hgw:wr.iterAt w.heap.size s (i+(Utf8.decode s i).2)=wi at*
    generalize Utf8.decode s i=cn at*
    obtain⟨c,n⟩:=cn
    obtain⟨d1,d2,d3,d4⟩:=hd
    simp only at d1 d2 d3 d4 hnx hit2
    have hL:=Nc L152 (c:Int) wi (by omega)
    have HD:Aside (∀j,i <=j->(hj:j<i+n)->∀hs:j<s.size,128 <=(s[j]'hs).toNat):=d4
    clear d4 hx hxl hit
    go_wp2_with (go_at_fn (ρ.f 152);refine hL.mono ?_;rintro e w' ⟨rfl,hw⟩)
    go_roundg (s.size-(i+n))
    case measure=>omega
    case rel=>
     rename_i hw
     refine⟨i+n,by omega,?_,ah hB2 hw hB2.size,?_⟩
     ·rw[hw.block _ (Array.getElem?_eq_some_iff.1 hit2).1];exact hit2
     ·intro j b hj hjb
      by_cases hji:j<i
      ·exact HN.out j b hji hjb
      ·have hjs:j<s.size:=by omega
       have h1:=HD.out j (by omega) hj hjs
       have h2:s.data.toList[j]? =some (s[j]'hjs):=Lib.data_getElem? s j hjs
       rw[h2]at hjb
       rw[Option.some.inj hjb]at h1
       rw[Bool.eq_false_iff]
       intro hc
       simp at hc
       rcases hc with rfl|rfl
       ·exact absurd h1 (by decide)
       ·exact absurd h1 (by decide)
  ·have hnx:=λty=>run_next_end_at (P:=P) wr w.heap.size s i ty hit hi
   go_wp2
   go_ret
   have e:i=s.size:=by omega
   have hno:=HN.out
   rw[e]at hno
   exact⟨by rw[Lib.indexAny_none (by rw[<- Lib.size_eq];exact hno)];rfl,hB⟩
theorem Hm (s:List UInt8)(H:s.length<4294967281)(w:World):
 Cf zP #[vS s,vS [32,9]] w (Ret λv w'=>v=vI (Lib.indexAny s [32,9])/\bW w w'):=by
 have I:(mkS s).size=s.length:=by show s.toArray.size=_;simp
 by_cases G:(mkS s).size <=8
 ·exact(K3 Tryz.lays153 (mkS s) w G).mono λE w' ⟨h1,q⟩=>⟨_,h1,rfl,q⟩
 ·have D:(prog.info? (Tryz.lays153_ren.t 116)).map (λi=>(i.zero,i.size))=some (some (.agg (Array.replicate 256 (.bool false))),256):=by kernel_rfl
  refine(Any.strings_IndexAny_long Tryz.lays153 (zero_of_info D).1 (zero_of_info D).2 (mkS s) blk w (by decide) (by omega) (by rw[I];exact H) (by decide) ?_).mono λE w' ⟨h1,q⟩=>⟨_,h1,rfl,?_⟩
  ·intro j b e
   match j,e with
   |0,e=>cases e;decide
   |1,e=>cases e;decide
  ·rw[q]
   exact((Below.refl _ _).alloc (Nat.le_refl _) _).alloc (by simp) _
end
set_option maxRecDepth 20000
abbrev Rul:=Int×List UInt8
def sR (k:Int):List UInt8:=if k=2 then[42,46]else if k=3 then[33]else[]
def lP (r:Rul):List UInt8:=sR r.1++r.2
def kU (s:List UInt8):List UInt8:=s.takeWhile λc=> !lH c
def sP (u:List UInt8):Rul:=if Lib.hasPrefix u [42,46]=true then(2,u.drop 2)else if Lib.hasPrefix u [33]=true then(3,u.drop 1)else(1,u)
def Hr (k:Int)(o:Option Hst):Rul×Bool×Int:=match o with
 |none=>((0,[]),false,51)
 |some h=>if h.kind=1/\ ¬ (k=3/\(ay h).length<2)then((k,h.name),true,0)else((0,[]),false,51)
def gW (s:List UInt8):Rul×Bool×Int:=
 if cq s=[]\/Lib.hasPrefix (cq s) [47,47]=true then((0,[]),false,0)else Hr (sP (kU (cq s))).1 (dR (sP (kU (cq s))).2)
def qn (r:Rul):List Value:=[vI r.1,vS r.2]
def Li (r:Rul):Value:=.agg (qn r).toArray
def W8 (x:Rul×Bool×Int):Value:=.tuple #[Li x.1,.bool x.2.1,vI x.2.2]
def JY (r q:Rul):Bool:=(r.1==q.1)&&((r.2==q.2)&&true)
theorem Tv (r q:Rul):JY r q=true ↔ r=q:=by
 unfold JY
 rw[Bool.and_eq_true,Bool.and_true,beq_iff_eq,beq_iff_eq]
 exact⟨λh=>Prod.ext h.1 h.2,λh=>by rw[h];exact⟨rfl,rfl⟩⟩
def bQ (r:Rul):Bool:=((gW (lP r)).2.2==0)&&((gW (lP r)).2.1&&JY (gW (lP r)).1 r)
theorem Ur (c:UInt8):([32,9]:List UInt8).contains c=lH c:=by
 unfold lH
 rw[Bool.eq_iff_iff];simp
theorem SP:∀s:List UInt8,(0 <=Lib.indexAny s [32,9]->(Lib.indexAny s [32,9]).toNat <=s.length/\s.take (Lib.indexAny s [32,9]).toNat=kU s)/\(¬ 0 <=Lib.indexAny s [32,9]->kU s=s)
 |[]=>⟨λh=>absurd h (by decide),λ_=>rfl⟩
 |c::s=>by
  have D:=SP s
  unfold Lib.indexAny kU
  rw[Ur,List.takeWhile_cons]
  cases G:lH c with
  |true=>exact⟨λ_=>⟨by simp,by simp⟩,λh=>absurd (show(0:Int) <=0 by decide) h⟩
  |false=>
   simp only[Bool.not_false,if_true,Bool.false_eq_true,if_false]
   have H:=Lib.indexAny_ge [32,9] s
   generalize Lib.indexAny s [32,9]=n at*
   by_cases q:n= -1
   ·subst q
    exact⟨λh=>absurd h (by decide),λ_=>by rw[show s.takeWhile (λc=> !lH c)=s from D.2 (by decide)]⟩
   ·have e:0 <=n:=by omega
    rw[if_neg (by simpa using q)]
    obtain⟨k,rfl⟩:=Int.eq_ofNat_of_zero_le e
    refine⟨λ_=>?_,λh=>absurd (show(0:Int) <=(k:Int)+1 by omega) h⟩
    have E:((k:Int)+1).toNat=k+1:=by omega
    have h1:=D.1 e
    rw[Int.toNat_natCast]at h1
    rw[E,List.take_succ_cons,h1.2]
    exact⟨by simp;omega,rfl⟩
theorem AQ (s:List UInt8):(cq s).length <=s.length:=HF _ _
theorem Az (s:List UInt8):(kU s).length <=s.length:=bN _ _
theorem Uw (s:List UInt8):(sP s).2.length <=s.length:=by
 unfold sP;split
 ·simp
 split
 ·simp
 ·exact Nat.le_refl _
theorem qm {h:Hst}(e:dR s=some h):h.name.length <=253:=by
 unfold dR at e
 split at e
 ·split at e
  ·cases q:v6A ((s.drop 1).take (s.length-2))with
   |none=>rw[q]at e;cases e
   |some a=>rw[q]at e;cases e;exact Nat.zero_le _
  ·cases e
 split at e
 ·cases q:v4V s with
  |none=>rw[q]at e;cases e
  |some a=>rw[q]at e;cases e;exact Nat.zero_le _
 split at e
 ·rename_i h1;cases e;simp only[cN,List.length_map];exact h1.1
 ·cases e
theorem eB:Whl prog aG 2:=⟨⟨_,_,Kz⟩,by kernel_rfl⟩
theorem sU (r:Rul):Ie (qn r):=aR rfl (aR rfl di)
theorem SI:prog.eqGuardType prog.depth aG=false:=by kernel_rfl
theorem VS (r q:Rul):eqV prog 10000 aG (Li r) (Li q)=some (JY r q):=by
 obtain⟨a,b⟩:=r
 obtain⟨c,d⟩:=q
 kernel_rfl
theorem Ml (r q:Rul){x y:Operand}(w:World):((do eqGuard .eql aG x y (Li r) (Li q);binOp .eql aG (Li r) (Li q):Sem Value)).run prog w=.ok (.bool (JY r q)) w:=
 QL SI (VS r q) w
theorem Xg (s p:List UInt8)(w:World):Cf sb #[vS s,vS p] w (Ret λv w'=>v=.bool (Lib.hasPrefix s p)/\w'=w):=
 (Tryz.strings_HasPrefix (mkS s) (mkS p) w).mono λq w' ⟨h1,e⟩=>⟨_,h1,rfl,e⟩
theorem Pa (s p:List UInt8)(w:World):Cf jU #[vS s,vS p] w (Ret λv w'=>v=.tuple #[vS (Lib.trimPrefix s p),.bool (Lib.hasPrefix s p)]/\w'=w):=
 (Tryz.strings_CutPrefix (mkS s) (mkS p) w).mono λq w' ⟨h1,e⟩=>⟨_,h1,rfl,e⟩
theorem De (k:Int)(w:World):Cf BA #[vI k] w (Ret λv w'=>v=vS (sR k)/\w'=w):=by
 apply NC
 unfold H9 sR
 refine ai.of (λh=>⟨by rw[if_pos (eq_of_beq h)],rfl⟩) (λh=>?_)
 rw[if_neg (beq_eq_false_iff_ne.1 h)]
 exact ai.of (λh=>⟨by rw[if_pos (eq_of_beq h)],rfl⟩) (λh=>⟨by rw[if_neg (beq_eq_false_iff_ne.1 h)],rfl⟩)
theorem Lj (u:List UInt8)(w:World):Cf Bw #[vS u] w (Ret λv w'=>v=.tuple #[vI (sP u).1,.string (mkS (sP u).2)]/\w'=w):=by
 apply Kq
 refine⟨λm i w'=>w'=w/\(m=2/\i=0\/m=1/\i=1/\ ¬ Lib.hasPrefix u [42,46]=true\/m=0/\i=2/\ ¬ Lib.hasPrefix u [42,46]=true/\ ¬ Lib.hasPrefix u [33]=true),⟨2,rfl,.inl ⟨rfl,rfl⟩⟩,?_⟩
 intro m i
 refine aP.of ?_ _
 rintro w' ⟨E,h⟩
 rw[E];clear E
 rcases h with⟨rfl,rfl⟩|⟨rfl,rfl,h1⟩|⟨rfl,rfl,h1,G⟩
 ·refine ai.yes (by decide) ⟨2,by kernel_rfl,?_⟩
  refine az (De 2 w) ?_
  rintro _ D ⟨rfl,e⟩
  rw[e];clear e
  refine⟨_,rfl,?_⟩
  refine az (Pa u (sR 2) w) ?_
  rintro _ D ⟨rfl,e⟩
  rw[e];clear e
  refine⟨_,_,rfl,?_⟩
  show ai (Lib.hasPrefix u [42,46]) _ _
  refine ai.of (λh=>⟨?_,rfl⟩) (λh=>⟨1,by decide,rfl,.inr (.inl ⟨rfl,rfl,by rw[h];decide⟩)⟩)
  have q:Lib.trimPrefix u (sR 2)=u.drop 2:=by exact if_pos h
  unfold sP;rw[if_pos h,q]
 ·refine ai.yes (by decide) ⟨3,by kernel_rfl,?_⟩
  refine az (De 3 w) ?_
  rintro _ D ⟨rfl,e⟩
  rw[e];clear e
  refine⟨_,rfl,?_⟩
  refine az (Pa u (sR 3) w) ?_
  rintro _ D ⟨rfl,e⟩
  rw[e];clear e
  refine⟨_,_,rfl,?_⟩
  show ai (Lib.hasPrefix u [33]) _ _
  refine ai.of (λh=>⟨?_,rfl⟩) (λh=>⟨0,by decide,rfl,.inr (.inr ⟨rfl,rfl,h1,by rw[h];decide⟩)⟩)
  have q:Lib.trimPrefix u (sR 3)=u.drop 1:=by exact if_pos h
  unfold sP;rw[if_neg h1,if_pos h,q]
 ·exact ai.no (by decide) ⟨by unfold sP;rw[if_neg h1,if_neg G],rfl⟩
theorem Ov (r:Rul)(O:r.2.length <=4611686018427387904)(w:World):Cf Fp #[Li r] w (Ret λv w'=>v=vS (lP r)/\bW w w'):=by
 obtain⟨k,n⟩:=r
 apply NB
 intro U E I D
 have q:=(D▸au w _:bW w E)
 have h1:av E U aG (qn (k,n)):=av.new I D
 have X:(sR k).length <=2:=by unfold sR;split;decide;split;decide;decide
 refine⟨rfl,k,λu e=>(h1.below e).load1 br rfl rfl,sR k,λu e=>?_,rfl,n,λu e=>(h1.below e).load1 ax rfl rfl,fits (by simp at O;omega),?_⟩
 ·refine fZ ?_ e
  exact(De k u).mono λV w' ⟨v,h1,G,H⟩=>⟨v,h1,G,H▸Below.refl _ _⟩
 rintro _ rfl Y M
 exact⟨rfl,ah q M q.size⟩
def DM (s:List UInt8)(w:World)(v:Value)(w':World):Prop:=v=W8 (gW s)/\bW w w'
theorem sS (r:Rul){w w':World}{vs:List Value}(D:av w' n aG vs)(O:vs.length=2)(H:bW w w')(M:w.heap.size <=n){b:Bool}{K:Value->World->Prop}
 (G:∀wx,bW w wx->K (W8 (r,b,a)) wx):
 ∃(wx:World),(Instr.storeAt aG (.pointer (some ⟨n,0,none⟩)) (Li r)).run prog w'=.ok () wx/\
  ∃(e:Int) (q:List UInt8),(aI aG (.pointer (some ⟨n,0,none⟩))).run prog wx=.ok (.agg #[vI e,vS q]) wx/\
   K (.tuple #[.agg #[vI e,vS q],.bool b,vI a]) wx:=by
 obtain⟨wx,U,E,I⟩:=eB.store0 (cs:=qn r) rfl (sU r) D O
 exact⟨wx,U,r.1,r.2,av.res (eB.load0 E rfl),G wx (Below.put H I M)⟩
theorem Ou (s:List UInt8)(cl:s.length <=2000000000)(w:World)(bz:Env w):Cf Fo #[vS s] w (Ret (DM s w)):=by
 apply NA
 intro k2 an b9 b1
 have bj:=(b1▸au w _:bW w an)
 have b5:av an k2 aG (qn (0,[])):=av.new b9 b1
 have ag:w.heap.size <=k2:=by omega
 have cr:=AQ s
 refine az (yt s (by omega) an) ?_
 rintro _ M ⟨rfl,bp⟩
 have Z:=ah bj bp bj.size
 have bb:=b5.below bp
 refine⟨_,rfl,?_⟩
 have hV:gW s=if cq s=[]\/Lib.hasPrefix (cq s) [47,47]=true then((0,[]),false,0)else Hr (sP (kU (cq s))).1 (dR (sP (kU (cq s))).2):=rfl
 generalize cq s=t at*
 refine iY (w:=M) (¬ (t=[]\/Lib.hasPrefix t [47,47]=true)) ?_ (λb7=>?_)
 ·refine eJ (w:=M) (decide (t=[]\/Lib.hasPrefix t [47,47]=true)) ?_ ?_
  ·refine ai.of (λh=>⟨rfl,by rw[decide_eq_true (.inl (eq_of_beq h))]⟩) (λh=>?_)
   refine az (Xg t [47,47] M) ?_
   rintro _ V ⟨rfl,cf⟩
   refine⟨_,rfl,cf,?_⟩
   rw[Bool.eq_iff_iff,dTx]
   exact⟨.inr,λe=>e.elim (λe=>absurd e (beq_eq_false_iff_ne.1 h)) id⟩
  ·refine ai.of (λh=>?_) (λh=>⟨rfl,of_decide_eq_false h⟩)
   exact sS (0,[]) bb rfl Z ag λb4 O=>⟨by rw[hV,if_pos (of_decide_eq_true h)],O⟩
 ·rw[if_neg b7]at hV
  have al:=SP t
  have cn:=Az t
  refine⟨λu w'=>u=kU t/\bW M w',?_,?_⟩
  ·refine az (Hm t (by omega) M) ?_
   rintro _ V ⟨rfl,I⟩
   refine⟨_,rfl,ai.of (λh=>?_) (λh=>?_)⟩
   ·have h:=of_decide_eq_true h
    refine⟨⟨h,by have:=(al.1 h).1;omega⟩,?_⟩
    rintro _ rfl
    exact⟨(al.1 h).2,I⟩
   ·exact⟨(al.2 (of_decide_eq_false h)).symm,I⟩
  ·intro u
   refine aP.of ?_ _
   rintro V ⟨rfl,I⟩
   have ac:=ah Z I Z.size
   have b6:=bb.below I
   refine az (Lj (kU t) V) ?_
   rintro _ ct ⟨rfl,b2⟩
   rw[b2];clear b2
   have cb:=Uw (kU t)
   refine⟨_,_,rfl,?_⟩
   generalize sP (kU t)=ch at*
   obtain⟨k,n⟩:=ch
   refine az (BE n (by simp at cb;omega) V (bz.step ac)) ?_
   rintro _ cj ⟨rfl,bq⟩
   have bk:=ah ac bq ac.size
   rw[lS]
   refine⟨_,_,rfl,?_⟩
   have U:=rf λx e=>mg (s:=n) e
   refine aO.new (zs:=nG.cells) (cs:=((dR n).getD nG).cells) rfl (Hst.len U) (Hst.one _) cj λcp ar ck G bs=>?_
   have H:=ah bk bs bk.size
   have bc:=(b6.below bq).below bs
   simp only at hV
   refine cw (λw'=>∃h:Hst,dR n=some h/\gW s=((k,h.name),true,0)/\bW ar w') ?_ ?_
   ·refine qs (λb w'=>b=decide (gW s=((0,[]),false,51))/\bW ar w'/\(b=false->∃h:Hst,dR n=some h/\gW s=((k,h.name),true,0))) ?_ ?_
    ·cases aj:dR n with
     |none=>
      rw[aj]at hV
      exact ai.yes rfl ⟨by rw[hV];rfl,Below.refl _ _,λe=>by cases e⟩
     |some h=>
      rw[aj]at hV G U
      have hV:gW s=if h.kind=1/\ ¬ (k=3/\(ay h).length<2)then((k,h.name),true,0)else((0,[]),false,51):=hV
      have a0: ¬ (h.kind=1/\ ¬ (k=3/\(ay h).length<2))->(true:Bool)=decide (gW s=((0,[]),false,51)):=λe=>by rw[hV,if_neg e];rfl
      have a9:(h.kind=1/\ ¬ (k=3/\(ay h).length<2))->(false:Bool)=decide (gW s=((0,[]),false,51))/\(∃h':Hst,some h=some h'/\gW s=((k,h'.name),true,0)):=λe=>by
       rw[hV,if_pos e];exact⟨(decide_eq_false (by intro e;have:=congrArg (λz=>z.2.1) e;cases this)).symm,h,rfl,rfl⟩
      refine ai.no rfl ⟨rfl,_,G.load1 br rfl rfl,ai.of (λq=>⟨a0 λe=>?_,Below.refl _ _,λe=>by cases e⟩) (λq=>?_)⟩
      ·have q:(h.kind !=1)=true:=q
       rw[e.1]at q;simp at q
      have q:(h.kind !=1)=false:=q
      have q:h.kind=1:=by simpa using q
      refine ai.of (λE=>?_) (λE=>?_)
      ·have E:k=3:=eq_of_beq E
       refine⟨_,aO.load0 G (Hst.len U),?_⟩
       have cc:h.name.length <=1000000000:=by have:=qm aj;omega
       refine az (sG U cc ar (bz.step H)) ?_
       rintro _ b3 ⟨a,l,c,rfl,ce,-,D⟩
       refine⟨_,_,_,rfl,?_⟩
       have b0:=ce.len
       simp only[Option.getD_some]at b0
       rw[b0]
       by_cases a8:(ay h).length<2
       ·try dsimp only
        rw[decide_eq_true (show(((ay h).length:Nat):Int)<2 by omega)]
        exact⟨a0 λe=>e.2 ⟨E,a8⟩,D,λe=>by cases e⟩
       ·try dsimp only
        rw[decide_eq_false (show ¬ (((ay h).length:Nat):Int)<2 by omega)]
        have g:=a9 ⟨q,λe=>a8 e.2⟩
        exact⟨g.1,D,λ_=>g.2⟩
      ·have g:=a9 ⟨q,λe=>by rw[e.1]at E;cases E⟩
       exact⟨g.1,Below.refl _ _,λ_=>g.2⟩
    ·rintro b b3 ⟨O,D,b8⟩
     refine ai.of (λc=>?_) (λc=>?_)
     ·rw[c,eq_comm,dTx]at O
      exact sS (0,[]) (bc.below D) rfl (ah H D H.size) ag λb4 ad=>⟨by rw[O],ad⟩
     ·obtain⟨h,X,Y⟩:=b8 c
      exact⟨h,X,Y,D⟩
   ·rintro b3 ⟨h,X,Y,D⟩
    rw[X]at G
    refine⟨rfl,_,(G.below D).load1 ax rfl rfl,?_⟩
    exact sS (k,h.name) (bc.below D) rfl (ah H D H.size) ag λb4 ad=>⟨by rw[Y],ad⟩
abbrev Pth:=List (List UInt8)
def cC (r:Rul):Pth:=(bY 46 [] r.2).reverse
def KS (p:Pth):List Pth->Nat->Option Nat
 |[],_=>none
 |q::l,i=>if p=q then some i else KS p l (i+1)
theorem AK {p:Pth} :∀{l:List Pth} {i:Nat},KS p l i=none ↔ p ∉ l
 |[],i=>by simp[KS]
 |q::l,i=>by
  unfold KS
  by_cases h:p=q
  ·simp[h]
  ·rw[if_neg h,AK];simp[h]
theorem AL {p:Pth} :∀{l:List Pth} {i j:Nat},KS p l i=some j->i <=j/\l[j-i]? =some p
 |[],i,j,h=>by cases h
 |D::l,i,j,h=>by
  unfold KS at h
  split at h
  ·rename_i e;cases h
   exact⟨Nat.le_refl _,by rw[Nat.sub_self,e];rfl⟩
  ·obtain⟨h1,q⟩:=AL h
   exact⟨by omega,by rw[show j-i=(j-(i+1))+1 by omega];exact q⟩
theorem I1 (p q:Pth):∀(l:List Pth) (i:Nat),KS p (l++[q]) i=(KS p l i).or (if p=q then some (i+l.length)else none)
 |[],i=>by
  show(if p=q then some i else none)=_
  split <;> rfl
 |x::l,i=>by
  show(if p=x then some i else KS p (l++[q]) (i+1))=(if p=x then some i else KS p l (i+1)).or _
  split
  ·rfl
  ·rw[I1 p q l (i+1)]
   congr 2
   simp;omega
abbrev xj:=Int×List UInt8
structure RK (ps:List Pth)(kvs:List (xj×Int)):Prop where
 root:ps[0]? =some []
 first:∀(i:Nat) p,ps[i]? =some p->KS p ps 0=some i
 closed:∀p l,p++[l]∈ps->p∈ps
 edge:∀(n:Nat) (l:List UInt8),rz ((n:Int),l) kvs=match ps[n]? with
  |some p=>(KS (p++[l]) ps 0).map λi=>(i:Int)
  |none=>none
theorem UP:RK [[]] [] where
 root:=rfl
 first:=by
  intro i p h
  match i,h with
  |0,h=>cases h;rfl
 closed:=by intro p l h;simp at h
 edge:=by
  intro n l
  match n with
  |0=>rfl
  |n+1=>rfl
theorem RK.pos {e:List Pth}{D:List (xj×Int)}(t:RK e D){p:Pth}(h:p∈e):∃i,KS p e 0=some i/\e[i]? =some p:=by
 cases q:KS p e 0 with
 |none=>exact absurd h (AK.1 q)
 |some i=>exact⟨i,rfl,by simpa using(AL q).2⟩
theorem RK.grow {e:List Pth}{V:List (xj×Int)}(t:RK e V){p:Pth}{l:List UInt8}(D:e[n]? =some p)(U:p++[l] ∉ e):RK (e++[p++[l]]) (V++[(((n:Int),l),(e.length:Int))]) where
 root:=by
  have:=t.root
  rw[List.getElem?_append_left (by have:=(List.getElem?_eq_some_iff.1 this).1;exact this)];exact this
 first:=by
  intro i q h
  rw[I1]
  by_cases X:i<e.length
  ·rw[List.getElem?_append_left X]at h
   rw[t.first i q h];rfl
  ·rw[List.getElem?_append_right (by omega)]at h
   have G:i=e.length:=by
    have:=(List.getElem?_eq_some_iff.1 h).1
    simp at this;omega
   subst G
   rw[Nat.sub_self]at h
   cases h
   rw[AK.2 U,if_pos rfl];simp
 closed:=by
  intro q x h
  rw[List.mem_append]at h ⊢
  rcases h with h|h
  ·exact .inl (t.closed q x h)
  ·rw[List.mem_singleton]at h
   have:=List.append_inj_left' h rfl
   subst this
   exact .inl (List.mem_of_getElem? D)
 edge:=by
  intro m x
  rw[Gj,t.edge m x]
  by_cases O:m<e.length
  ·rw[List.getElem?_append_left O]
   obtain⟨q,I⟩:∃q,e[m]? =some q:=⟨_,List.getElem?_eq_getElem O⟩
   rw[I]
   simp only
   rw[I1]
   have M:(((m:Int),x)=((n:Int),l)) ↔ (q++[x]=p++[l]):=by
    constructor
    ·intro h
     have h1:m=n:=by have:=congrArg Prod.fst h;simp at this;omega
     have H:x=l:=congrArg Prod.snd h
     subst h1 H
     rw[I]at D
     rw[Option.some.inj D]
    ·intro h
     have h1:=List.append_inj_left' h rfl
     have H:=List.append_inj_right' h rfl
     subst h1
     have:=(t.first m q I).symm.trans (t.first n q D)
     rw[Option.some.inj this,List.singleton_inj.1 H]
   cases Z:KS (q++[x]) e 0 with
   |some i=>rfl
   |none=>
    by_cases E:q++[x]=p++[l]
    ·rw[if_pos (M.2 E),if_pos E];simp
    ·rw[if_neg (λh=>E (M.1 h)),if_neg E];rfl
  ·have Y:n<e.length:=(List.getElem?_eq_some_iff.1 D).1
   rw[List.getElem?_eq_none (l:=e) (by omega)]
   rw[if_neg (λh=>by have:=congrArg Prod.fst h;simp at this;omega)]
   by_cases G:m=e.length
   ·subst G
    rw[List.getElem?_append_right (Nat.le_refl _),Nat.sub_self]
    simp only[List.getElem?_cons_zero]
    have h1:KS (p++[l]++[x]) (e++[p++[l]]) 0=none:=by
     rw[AK,List.mem_append,List.mem_singleton]
     rintro(h|h)
     ·exact U (t.closed _ _ h)
     ·have:=congrArg List.length h;simp at this
    rw[h1];rfl
   ·rw[List.getElem?_append_right (by omega),List.getElem?_eq_none (l:=[p++[l]]) (by simp;omega)];rfl
def marks (rs:List Rul)(p:Pth):List Bool:=(List.range 4).map fun(k:Nat)=>rs.any λr=>decide (r.1=(k:Int)/\cC r=p)
theorem Gk (rs:List Rul)(p:Pth):(marks rs p).length=4:=by simp[marks]
theorem JT (rs:List Rul)(p:Pth)(k:Nat)(h:k<4):(marks rs p)[k]? =some (rs.any λr=>decide (r.1=(k:Int)/\cC r=p)):=by
 unfold marks
 rw[List.getElem?_map,List.getElem?_range h];rfl
structure Tab (ps:List Pth)(es:List (List Bool))(rs:List Rul):Prop where
 len:es.length=ps.length
 mark:∀(i:Nat) p,ps[i]? =some p->es[i]? =some (marks rs p)
 rules:∀r∈rs,cC r∈ps
theorem Wl:Tab [[]] [[false,false,false,false]] [] where
 len:=rfl
 mark:=by
  intro i p h
  match i,h with
  |0,h=>cases h;rfl
 rules:=by intro r h;cases h
theorem Tab.grow {e:List Pth}{rs:List Rul}(t:Tab e y rs){D:Pth}(H:D ∉ e):Tab (e++[D]) (y++[[false,false,false,false]]) rs where
 len:=by rw[List.length_append,List.length_append,t.len];rfl
 mark:=by
  intro i p h
  by_cases E:i<e.length
  ·rw[List.getElem?_append_left E]at h
   rw[List.getElem?_append_left (by rw[t.len];exact E)]
   exact t.mark i p h
  ·rw[List.getElem?_append_right (by omega)]at h
   have G:i=e.length:=by
    have:=(List.getElem?_eq_some_iff.1 h).1
    simp at this;omega
   subst G
   rw[Nat.sub_self]at h
   cases h
   rw[List.getElem?_append_right (by rw[t.len];exact Nat.le_refl _),t.len,Nat.sub_self]
   show some _=some _
   congr 1
   have:∀k:Nat,(rs.any λr=>decide (r.1=(k:Int)/\cC r=D))=false:=λk=>by
    rw[List.any_eq_false]
    intro r q
    simp only[dTx]
    rintro⟨-,he⟩
    exact H (he▸t.rules r q)
   unfold marks
   simp only[List.range_succ,List.range_zero,List.map_append,List.map_nil,List.map_cons,List.nil_append,this];rfl
 rules:=λr q=>List.mem_append_left _ (t.rules r q)
theorem Tab.rule {q:List Pth}{X:List (xj×Int)}{rs:List Rul}(T:RK q X)(t:Tab q y rs){r:Rul}(H:r.1=(k:Int))(D:q[n]? =some (cC r))(M:k<4):
 Tab q (y.set n ((marks rs (cC r)).set k true)) (rs++[r]) where
 len:=by rw[List.length_set,t.len]
 mark:=by
  intro i p h
  have U:n<q.length:=(List.getElem?_eq_some_iff.1 D).1
  by_cases E:n=i
  ·subst E
   have V:p=cC r:=by rw[D]at h;exact(Option.some.inj h).symm
   subst V
   rw[List.getElem?_set_self (by rw[t.len];exact U)]
   congr 1
   apply List.ext_getElem?
   intro j
   by_cases G:j<4
   ·rw[JT _ _ _ G,List.getElem?_set,Gk]
    by_cases I:k=j
    ·subst I
     rw[if_pos rfl,if_pos M,List.any_append]
     simp[H]
    ·rw[if_neg I,JT _ _ _ G,List.any_append]
     have: ¬ r.1=(j:Int):=by rw[H];omega
     simp[this]
   ·rw[List.getElem?_eq_none (by simp[Gk];omega),List.getElem?_eq_none (by rw[Gk];omega)]
  ·rw[List.getElem?_set_ne E,t.mark i p h]
   congr 1
   unfold marks
   apply List.map_congr_left
   intro k' _
   rw[List.any_append]
   have:cC r≠p:=by
    intro O
    subst O
    have:=(T.first i _ h).symm.trans (T.first n _ D)
    exact E (Option.some.inj this).symm
   simp[this]
 rules:=by
  intro x e
  rcases List.mem_append.1 e with e|e
  ·exact t.rules x e
  ·rw[List.mem_singleton]at e;subst e;exact List.mem_of_getElem? D
structure Top (d:Nat)(S:Nat->Prop)(m:Nat):Prop where
 is:m=d\/S m
 ge:d <=m
 le:∀x,S x->x <=m
theorem Top.eq {d:Nat}{S:Nat->Prop}(h:Top d S m)(h':Top d S n):m=n:=by
 have a:m <=n:=by rcases h.is with e|e;rw[e];exact h'.ge;exact h'.le _ e
 have b:n <=m:=by rcases h'.is with e|e;rw[e];exact h.ge;exact h.le _ e
 omega
theorem Top.congr {d:Nat}{S e:Nat->Prop}(h:Top d S m)(q:∀x,S x ↔ e x):Top d e m:=⟨h.is.imp id (q m).1,h.ge,λx D=>h.le x ((q x).2 D)⟩
theorem Top.zero (d:Nat):Top d (λ_=>False) d:=⟨.inl rfl,Nat.le_refl _,λ_ h=>h.elim⟩
theorem Top.max {d:Nat}{S:Nat->Prop}(h:Top d S m)(x:Nat):Top d (λy=>S y\/y=x) (max m x):=by
 by_cases c:m <=x
 ·rw[Nat.max_eq_right c]
  exact⟨.inr (.inr rfl),Nat.le_trans h.ge c,λy e=>e.elim (λe=>Nat.le_trans (h.le y e) c) (λe=>by omega)⟩
 ·rw[Nat.max_eq_left (by omega)]
  exact⟨h.is.imp id .inl,h.ge,λy e=>e.elim (h.le y) (λe=>by omega)⟩
def yr (rs:List Rul)(R:Pth)(n1 n2 x:Nat):Prop:=∃r∈rs,cC r=R.take (cC r).length/\(r.1=1/\(cC r).length <=n1/\(cC r).length=x\/r.1=2/\(cC r).length <=n2/\(cC r).length+1=x)
def sM (rs:List Rul)(R:Pth)(n x:Nat):Prop:=∃r∈rs,cC r=R.take (cC r).length/\r.1=3/\(cC r).length <=n/\(cC r).length-1=x
theorem XI (g i k j:Nat):aw (aw (some ⟨g,0,none⟩) (i:Int) k) (j:Int) 1=some ⟨g,i*k+j,none⟩:=by
 rw[qZ,qZ];simp
theorem Uy {α:Type}(l:List α)(p k j:Nat)(v:α)(E:j<k)(G:p+k <=l.length):l.take (p+j)++[v]++l.drop (p+j+1)=l.take p++(((l.drop p).take k).set j v)++l.drop (p+k):=by
 have q:l=l.take p++((l.drop p).take k++l.drop (p+k)):=by
  rw[<- List.drop_drop,List.take_append_drop,List.take_append_drop]
 generalize hA:l.take p=A at*
 generalize hB:(l.drop p).take k=B at*
 generalize D:l.drop (p+k)=C at*
 have e:A.length=p:=by rw[<- hA];simp;omega
 have H:B.length=k:=by rw[<- hB];simp;omega
 clear hA hB D
 subst q
 have t1:(A++(B++C)).take (p+j)=A++B.take j:=by
  rw[List.take_append,List.take_of_length_le (by omega),e,show p+j-p=j by omega,List.take_append_of_le_length (by omega)]
 have t2:(A++(B++C)).drop (p+j+1)=B.drop (j+1)++C:=by
  rw[List.drop_append,List.drop_of_length_le (by omega),List.nil_append,e,show p+j+1-p=j+1 by omega,List.drop_append_of_le_length (by omega)]
 rw[t1,t2,List.set_eq_take_append_cons_drop,if_pos (by omega)]
 simp
theorem Sl.loadC {α:Type}{T:Ty α}{u:TypeId}{d:TypeDesc}(O:P.underlying u=some d)(H:El d=false){a:Option Addr}{n c:Nat}{xs:List α}(h:Sl T w A a n c xs)(M:T.k=k)(q:i<xs.length)(I:j<k)
 {v:Value} (U:∀vs,T.rep w A vs xs[i]->vs[j]? =some v):(Instr.loadAt u (.pointer (aw (aw a (i:Int) k) (j:Int) 1))).run P w=.ok v w:=by
 subst M
 rcases h.2.2.2 with e|⟨b,off,D,X,V,e⟩
 ·subst e;cases q
 ·obtain⟨vs,E,G⟩:=e.elem q
  rw[D,qZ,qZ]
  show(do loadVar u (<- Instr.sureAddr (.pointer (some _)))).run P w=_
  rw[Sem.run_bind,oN]
  refine qb O H ?_
  have:=G j I
  rw[U vs E]at this
  simpa using this
theorem Ow.store1 {α:Type}{T:Ty α}{t u:TypeId}{bytes:Nat}{z:Value}(bs:TF P u 1 bytes z){a:Option Addr}{n c:Nat}{xs:List α}(bb:Ow T t w A a n c xs)(hA:∀g,j0 a=some g-> ¬ A g)
 (a8:T.k=k) (G:i<xs.length) (ar:j<k) {v:Value} (h1:v.oneCell'=true) (H:v.cells= #[v]) {x:α} (bp:∀vs,T.rep w A vs xs[i]->T.rep w A (vs.set j v) x):
 ∃w',(Instr.storeAt u (.pointer (aw (aw a (i:Int) k) (j:Int) 1)) v).run P w=.ok () w'/\Ow T t w' A a n c (xs.set i x)/\w.grownBy w' (j0 a):=by
 subst a8
 obtain⟨b0,bk,ac,_,_⟩:=bs.info
 obtain⟨a9,X,al,bc⟩:=bb
 rcases bc with⟨_,_,rfl⟩|⟨g,cur,M,rfl,V,U,an,Y⟩
 ·cases G
 ·subst a9
  have O:i*T.k+T.k <=xs.length*T.k:=by
   have:=Nat.mul_le_mul_right T.k (show i+1 <=xs.length from G)
   rwa [Nat.add_mul,Nat.one_mul]at this
  have bz:xs.length*T.k <=cur.size:=by rw[an];exact Nat.mul_le_mul_right _ X
  have q:=Y.rep i G
  have ad:=bp _ q
  have I:=T.len ad
  rw[XI]
  have Z:=run_storeVar_row (P:=P) bk (o:=i*T.k+j) V U (v:=v) (by rw[H,ac];rfl) (by rw[ac];omega) (λx q=>by rw[H]at q;simp at q;rw[q];exact h1)
  have bj:(cur.toList.take (i*T.k+j)++v.cells.toList++cur.toList.drop (i*T.k+j+v.cells.size))=cur.toList.take (i*T.k)++(((cur.toList.take (xs.length*T.k)).drop (i*T.k)).take T.k).set j v++cur.toList.drop (i*T.k+T.k):=by
   rw[H]
   have e:=Uy cur.toList (i*T.k) T.k j v ar (by simp;omega)
   have E:((cur.toList.take (xs.length*T.k)).drop (i*T.k)).take T.k=(cur.toList.drop (i*T.k)).take T.k:=by
    rw[List.drop_take,List.take_take];congr 1;omega
   rw[E];exact e
  rw[bj]at Z
  generalize (((cur.toList.take (xs.length*T.k)).drop (i*T.k)).take T.k).set j v=D at*
  refine⟨_,Z,?_,qV w g _⟩
  refine⟨by simp,X,al,.inr ⟨g,_,M,rfl,setRow_heap w g cur _ t M V,?_,?_,?_⟩⟩
  ·intro bq a0
   refine U bq ?_
   simp at a0;omega
  ·simp;omega
  ·have aj:=(Y.set G ad).keep (jR (qV w g (cur.toList.take (i*T.k)++D++cur.toList.drop (i*T.k+T.k)).toArray) λb O e=>hA g rfl (by cases e;exact O))
   have e:((cur.toList.take (i*T.k)++D++cur.toList.drop (i*T.k+T.k)).toArray).toList.take (xs.length*T.k)=
    (cur.toList.take (xs.length*T.k)).take (i*T.k)++D++(cur.toList.take (xs.length*T.k)).drop (i*T.k+D.length):=by
    simp only[]
    have ag:(cur.toList.take (xs.length*T.k)).take (i*T.k)=cur.toList.take (i*T.k):=by rw[List.take_take];congr 1;omega
    rw[ag,List.take_append,List.drop_take]
    have E:(cur.toList.take (i*T.k)++D).length=i*T.k+T.k:=by simp[I];omega
    rw[E,List.take_of_length_le (by rw[E];omega)]
    congr 2
    ·rw[I]
    ·rw[I]
   rw[e];exact aj
def ekE (e:xj):Value:=.agg #[vI e.1,vS e.2]
def evI (n:Int):Value:=vI n
def tB4:Ty (List Bool) where
 k:=4
 pos:=by decide
 rep:=λ_ _ vs x=>vs=x.map Value.bool/\x.length=4
 len:=λh=>by rw[h.1,List.length_map,h.2]
 one:=fun{_ _ _ x} h v hv=>by rw[h.1]at hv;obtain⟨b,_,rfl⟩:=List.mem_map.1 hv;rfl
 keep:=λh _=>h
 mono:=λh _=>h
theorem Sx:Flat tB4:=λ_ _ _ _ _ _ h=>h
def sV:Ty Rul where
 k:=2
 pos:=by decide
 rep:=λ_ _ vs r=>vs=qn r
 len:=λh=>by rw[h];rfl
 one:=fun{_ _ _ x} h v hv=>by rw[h]at hv;exact(aR rfl (aR rfl di):Ie (qn x)) v hv
 keep:=λh _=>h
 mono:=λh _=>h
structure xV (w0:World)(t te:TypeId)(kt km:Nat)(a:Option Addr)(n c:Nat)(ps:List Pth)(kvs:List (xj×Int))(es:List (List Bool))(rs:List Rul)(w:World):Prop where
 h1:av w kt t [.map (some km),.slice a n c]
 h2:G8 ekE evI w km kvs
 h3:Ow tB4 te w NoB a n c es
 T:RK ps kvs
 t:Tab ps es rs
 hb:bW w0 w
 ne:km≠kt
 og:∀g,j0 a=some g->g≠kt/\g≠km/\w0.heap.size <=g
 kt0:w0.heap.size <=kt
 km0:w0.heap.size <=km
theorem xV.below {w0:World}{t G:TypeId}{q e:Nat}{a:Option Addr}{n c:Nat}{E:List Pth}{D:List (xj×Int)}{rs:List Rul}{w w':World}(S:xV w0 t G q e a n c E D y rs w)(h:bW w w'):xV w0 t G q e a n c E D y rs w':=
 ⟨S.h1.below h,S.h2.below h,S.h3.below h,S.T,S.t,ah S.hb h S.hb.size,S.ne,S.og,S.kt0,S.km0⟩
theorem Gr {α:Type}{T:Ty α}{w w':World}{a:Option Addr}{n c:Nat}{xs:List α}(h:Ow T t w NoB a n c xs){r:Option Nat}(D:w.grownBy w' r)(E:∀g,j0 a=some g->r≠some g):Ow T t w' NoB a n c xs:=
 h.keep (jR D λb e q=>by
  rcases e with e|e
  ·exact e
  ·exact E b e.symm q.symm)
theorem JR {e:xj->Value}{q:Int->Value}{w w':World}{r:Nat}{kvs:List (xj×Int)}(h:G8 e q w r kvs){k:Option Nat}(E:w.grownBy w' k)(G:k≠some r):G8 e q w' r kvs:=h.keep (E.block r h.lt λD=>G D.symm)
structure WD (w0:World)(t te ts tr:TypeId)(kt km k3:Nat)(rs:List Rul)(r:Rul)(aL:Option Addr)(nL cL:Nat)(L:List (List UInt8))(N:Nat)(p:Pth)(node:Nat)(w:World):Prop where
 ex:∃a n c ps kvs es,xV w0 t te kt km a n c ps kvs es rs w/\KS p ps 0=some node/\ps.length <=N/\(∀g,j0 a=some g->g≠k3/\j0 aL≠some g)
 hL:Ow tS ts w NoB aL nL cL L
 h3:av w k3 tr (qn r)
 s1:kt≠k3
 s2:km≠k3
 s3:j0 aL≠some kt
 s4:j0 aL≠some km
theorem WD.below {w0:World}{t I O M:TypeId}{G E D:Nat}{rs:List Rul}{r:Rul}{e:Option Addr}{H q:Nat}{L:List (List UInt8)}{N:Nat}{p:Pth}{node:Nat}{w w':World}(S:WD w0 t I O M G E D rs r e H q L N p node w)(h:bW w w'):WD w0 t I O M G E D rs r e H q L N p node w':=by
 obtain⟨a,n,c,ac,Z,U,h1,V,X,Y⟩:=S.ex
 exact⟨⟨a,n,c,ac,Z,U,h1.below h,V,X,Y⟩,S.hL.below h,S.h3.below h,S.s1,S.s2,S.s3,S.s4⟩
theorem Wq:∃e,prog.underlying j5=some (.struct e):=⟨_,rfl⟩
theorem DU:Ff prog j5 ekE:=by
 obtain⟨E,h⟩:=Wq
 refine Ff.struct h (λa b=>?_) (λb k w=>?_)
 ·obtain⟨a1,a2⟩:=a
  obtain⟨e,q⟩:=b
  have D:eqV prog 10000 j5 (ekE (a1,a2)) (ekE (e,q))=some ((a1==e)&&((a2==q)&&true)):=by kernel_rfl
  rw[D]
  congr 1
  rw[Bool.eq_iff_iff];simp
 ·obtain⟨a1,a2⟩:=k
  kernel_rfl
theorem NK:Whl prog j5 2:=⟨⟨_,_,LY⟩,by kernel_rfl⟩
def Vo (w0:World)(kt km:Nat)(rs:List Rul)(N:Nat)(v:Value)(w':World):Prop:=
 v=.tuple #[]/\∃a n c ps kvs es,xV w0 cB dq kt km a n c ps kvs es rs w'/\ps.length <=N
theorem NI {w0:World}(e6:Env w0){M V:Nat}{a:Option Addr}{n c:Nat}{b3:List Pth}{b0:List (xj×Int)}{rs:List Rul}(S:xV w0 cB dq M V a n c b3 b0 y rs w)(r:Rul)
 (e9:∃k:Nat,r.1=(k:Int)/\k<4) (fs:r.2.length <=253) {N:Nat} (e2:b3.length <=N) (gc:N <=1000000000):
 Cf vx #[.pointer (some ⟨M,0,none⟩),Li r] w (Ret (Vo w0 M V (rs++[r]) (N+300))):=by
 obtain⟨gy,G⟩:=r
 obtain⟨I,ds,dr⟩:=e9
 simp only at ds fs
 subst ds
 apply Eu
 intro k3 c1 fb d8
 have dk:=(d8▸au w _:bW w c1)
 have b6:av c1 k3 aG (qn ((I:Int),G)):=av.new fb d8
 have gq:=S.h1.lt
 have gr:=S.h2.lt
 have ch:=S.below dk
 refine⟨rfl,_,b6.load1 ax rfl rfl,?_⟩
 refine az (sI G 46 (by omega) c1 (e6.step ch.hb)) ?_
 rintro _ w4 ⟨a9,gx,ck,rfl,d5,cp,dl⟩
 have ge:(bY 46 [] G).length <=300:=by have:=jQ 46 G [];omega
 have dd:cC ((I:Int),G)=(bY 46 [] G).reverse:=rfl
 generalize bY 46 [] G=L at*
 have fo:=d5.len
 subst fo
 refine⟨_,_,_,rfl,?_⟩
 have gp:=dk.size
 have c4:=ch.below dl
 have eb:WD w0 cB dq ao aG M V k3 rs ((I:Int),G) a9 L.length ck L (N+0) [] 0 w4:=by
  refine⟨⟨a,n,c,b3,b0,y,c4,?_,e2,λg e=>⟨?_,?_⟩⟩,d5,b6.below dl,by omega,by omega,λa8=>?_,λa8=>?_⟩
  ·exact S.T.first 0 [] S.T.root
  ·have:=S.h3.lt g e;omega
  ·intro a8;have:=cp g a8;have:=S.h3.lt g e;omega
  ·have:=cp _ a8;omega
  ·have:=cp _ a8;omega
 have eg:i64.wrap (((L.length:Nat):Int)-1)=((L.length:Nat):Int)-1:=wrap_i64 (by omega) (by omega)
 try dsimp only
 rw[eg]
 clear ch c4 S
 refine⟨λm ea i w'=>∃(k node:Nat),k <=L.length/\i=((L.length:Nat):Int)-1-(k:Int)/\m=L.length-k/\ea=(node:Int)/\WD w0 cB dq ao aG M V k3 rs ((I:Int),G) a9 L.length ck L (N+k) ((cC ((I:Int),G)).take k) node w',⟨_,0,0,by omega,by omega,rfl,rfl,eb⟩,?_⟩
 intro m ea i
 refine aP.of ?_ _
 rintro gb ⟨k,node,gn,rfl,rfl,rfl,Y⟩
 refine ai.of (λh=>?_) (λh=>?_) <;> simp only[ge_iff_le,dTx,dFx]at h
 ·have fm:k<L.length:=by omega
  have ek:((L.length:Nat):Int)-1-(k:Int)=((L.length-1-k:Nat):Int):=by omega
  rw[ek]
  refine⟨⟨⟨by omega,by omega⟩,Y.hL.all.isSome (by omega)⟩,_,Y.hL.all.text ax (by omega),?_⟩
  have dg:(cC ((I:Int),G)).take (k+1)=(cC ((I:Int),G)).take k++[L[L.length-1-k]'(by omega)]:=by
   rw[dd,List.take_succ_eq_append_getElem (by simpa using fm),List.getElem_reverse]
  generalize L[L.length-1-k]'(by omega)=X at*
  refine NK.new (zs:=[vI 0,vS []]) (cs:=[vI (node:Int),vS X]) rfl rfl (aR rfl (aR rfl di)) gb λk7 cc gm b7 dn=>?_
  have cf:=Y.below dn
  simp only[Ad]
  obtain⟨a5,b1,b4,aj,b9,a0,ac,cu,e3,bs⟩:=cf.ex
  have ar:=(AL cu).2
  rw[Nat.sub_zero]at ar
  have ag:=ac.T.edge node X
  rw[ar]at ag
  simp only at ag
  have gs:=b7.lt
  have gu:=ac.h2.lt
  have gw:=ac.h1.lt
  have d0:k7≠V/\k7≠M/\k7≠k3:=by
   have:=Y.h3.lt
   obtain⟨_,_,_,_,_,_,O,_⟩:=Y.ex
   have:=O.h1.lt
   have:=O.h2.lt
   omega
  have fp:∀g,j0 a5=some g->g≠k7:=λg e=>by
   obtain⟨a6,f8,ef,f9,f5,el,O,_⟩:=Y.ex
   have c6:=O.h1.below dn
   have b5:=ac.h1
   unfold av at c6 b5
   rw[c6]at b5
   simp only[Option.some.injEq,Obj.cells.injEq,and_true,true_and]at b5
   have ei:a6=a5:=by
    have:=congrArg (λx:Array Value=>x[1]?) b5
    simp at this
    exact this.1
   subst ei
   have:=O.h3.lt g e
   omega
  have go:∀g,j0 a9=some g->g≠k7:=λg e=>by have:=Y.hL.lt g e;omega
  have f7:∀u,bW cc u->(Instr.loadAt fg (.pointer (some ⟨M,0,none⟩))).run prog u=.ok (.map (some V)) u:=λu D=>(ac.h1.below D).load1 eI rfl rfl
  have f6:∀u,bW cc u->(Instr.loadAt j5 (.pointer (some ⟨k7,0,none⟩))).run prog u=.ok (.agg #[vI (node:Int),vS X]) u:=λu D=>NK.load0 (b7.below D) rfl
  refine⟨λce=>∃an:Nat,WD w0 cB dq ao aG M V k3 rs ((I:Int),G) a9 L.length ck L (N+(k+1)) ((cC ((I:Int),G)).take (k+1)) an ce/\(∃a n c b3 b0 y,xV w0 cB dq M V a n c b3 b0 y rs ce/\rz ((node:Int),X) b0=some (an:Int))/\av ce k7 j5 [vI (node:Int),vS X],?_,?_⟩
  ·refine⟨rfl,rfl,_,f7,_,_,f6,?_⟩
   cases bz:KS ((cC ((I:Int),G)).take k++[X]) aj 0 with
   |some an=>
    rw[bz]at ag
    refine⟨(an:Int),true,λu D=>?_,?_⟩
    ·have:=(ac.h2.below D).look2 (P:=prog) eI DU fk ((node:Int),X)
     rw[ag]at this;exact this
    intro c3 U
    refine ai.no rfl ?_
    rw[dg]
    have al:=cf.below U
    exact⟨an,⟨⟨a5,b1,b4,aj,b9,a0,ac.below U,bz,by omega,bs⟩,al.hL,al.h3,al.s1,al.s2,al.s3,al.s4⟩,⟨a5,b1,b4,aj,b9,a0,ac.below U,ag⟩,b7.below U⟩
   |none=>
    rw[bz]at ag
    have d4:=AK.1 bz
    refine⟨0,false,λu D=>?_,?_⟩
    ·have:=(ac.h2.below D).look2 (P:=prog) eI DU fk ((node:Int),X)
     rw[ag]at this;exact this
    intro c3 U
    have cj:=ac.below U
    have al:=cf.below U
    have c8:=b7.below U
    refine ai.yes rfl ⟨rfl,rfl,_,λu D=>(cj.h1.below D).load1 eI rfl rfl,_,_,λu D=>NK.load0 (c8.below D) rfl,rfl,rfl,_,_,_,λu D=>(cj.h1.below D).load1 qf rfl rfl,?_⟩
    intro g0 c0
    have E:=cj.below c0
    have Z:=al.below c0
    have et:=c8.below c0
    have d3:=E.h3.len
    have gl:=E.t.len
    obtain⟨c2,f1,d1,bj⟩:=E.h2.put (P:=prog) eI DU (k:=((node:Int),X)) ag (((b1:Nat):Int))
    refine⟨c2,f1,?_⟩
    have cl:=E.h1.grown bj (bw E.ne.symm)
    have er:=Gr E.h3 bj λg e q=>(E.og g e).2.1 (Option.some.inj q).symm
    have dc:=Gr Z.hL bj λg e q=>Z.s4 (by rw[e,<- q])
    have de:=Z.h3.grown bj (bw Z.s2.symm)
    have ev:=et.grown bj (bw d0.1)
    have c9:=Below.put E.hb bj E.km0
    refine⟨rfl,rfl,_,_,_,cl.load1 qf rfl rfl,?_⟩
    intro f4 wb fd d9
    have ad:=(d9▸au c2 _:bW c2 wb)
    have cn:=ah c9 ad c9.size
    have f3:Src tB4 wb NoB (some ⟨f4,0,none⟩) 1 [[false,false,false,false]]:=Src.new1F Sx fd d9 ⟨rfl,rfl⟩
    obtain⟨wc,bb,b2,bq,fv,es,bk,e7⟩:=j6 (P:=prog) (ty:=gE) qf OO (by decide) (er.below ad) (λ_ _ h=>h) (cm:=1) f3 (by simp;omega)
    refine⟨wc,bb,b2,bq,fv,rfl,rfl,?_⟩
    have gt:=cl.lt
    have gv:=d1.lt
    have gz:=ad.size
    have cb:∀x,(∀g,j0 a5=some g->g≠x)->some x≠j0 a5:=λx h q=>h x q.symm rfl
    have em:=(cl.below ad).grown bk (cb M λg e=>(E.og g e).1)
    have d2:=JR (d1.below ad) bk (cb V λg e=>(E.og g e).2.1).symm
    have e1:=Gr (dc.below ad) bk λg e q=>(bs g q).2 e
    have e4:=(de.below ad).grown bk (cb k3 λg e=>(bs g e).1)
    have ew:=(ev.below ad).grown bk (cb k7 fp)
    have e0:bW w0 wc:=cn.grown bk cn.size λx q=>(E.og x q).2.2
    obtain⟨wd,f2,en,bp⟩:=em.put (P:=prog) KB (i:=1) (v:=.slice bb b2 bq) (show 1<2 by decide) rfl rfl
    refine⟨wd,f2,?_⟩
    have bc:∀g,j0 bb=some g->g≠M/\g≠V/\w0.heap.size <=g/\g≠k3/\j0 a9≠some g:=λg e=>by
     rcases e7 g e with q|q
     ·have:=E.og g q
      have c7:=bs g q
      exact⟨this.1,this.2.1,this.2.2,c7.1,c7.2⟩
     ·have:=cn.size
      have:=(de.below ad).lt
      have b6:∀x,j0 a9=some x->x<wb.heap.size:=(dc.below ad).lt
      exact⟨by omega,by omega,by omega,by omega,λa8=>by have:=b6 g a8;omega⟩
    have ee:=E.T.grow ar d4
    have ga:=E.t.grow d4
    have fn:((b1:Nat):Int)=((aj.length:Nat):Int):=by omega
    rw[fn]at d2
    have c5:xV w0 cB dq M V bb b2 bq _ _ _ rs wd:=⟨en,JR d2 bp (bw E.ne.symm),Gr es bp λg e q=>(bc g e).1 (Option.some.inj q).symm,ee,ga,Below.put e0 bp E.kt0,E.ne,λg e=>⟨(bc g e).1,(bc g e).2.1,(bc g e).2.2.1⟩,E.kt0,E.km0⟩
    have fr:KS ((cC ((I:Int),G)).take k++[X]) (aj++[(cC ((I:Int),G)).take k++[X]]) 0=some aj.length:=by
     rw[I1,bz,if_pos rfl];simp
    rw[dg]
    refine⟨aj.length,⟨⟨bb,b2,bq,_,_,_,c5,fr,by simp;omega,λg e=>⟨(bc g e).2.2.2.1,(bc g e).2.2.2.2⟩⟩,Gr e1 bp λg e q=>Z.s3 (by rw[e,<- q]),e4.grown bp (bw Z.s1.symm),Z.s1,Z.s2,Z.s3,Z.s4⟩,⟨bb,b2,bq,_,_,_,c5,?_⟩,ew.grown bp (bw d0.2.1)⟩
    rw[Gj,ag,if_pos rfl];rfl
  ·refine aP.of ?_ _
   rintro ce ⟨an,ed,⟨a6,f8,ef,f9,f5,el,H,fl⟩,ey⟩
   refine⟨rfl,rfl,_,λu D=>(H.h1.below D).load1 eI rfl rfl,_,_,λu D=>NK.load0 (ey.below D) rfl,(an:Int),λu D=>?_,λc3 U=>?_⟩
   ·have:=(H.h2.below D).look1 (P:=prog) eI DU fk ((node:Int),X)
    rw[fl]at this;exact this
   ·exact⟨L.length-(k+1),by omega,k+1,an,by omega,by rw[wrap_i64 (by omega) (by omega)];omega,rfl,rfl,ed.below U⟩
 ·have:k=L.length:=by omega
  subst this
  have e5:(cC ((I:Int),G)).take L.length=cC ((I:Int),G):=by rw[List.take_of_length_le];rw[dd];simp
  rw[e5]at Y
  simp only[Ad]
  obtain⟨a5,b1,b4,aj,b9,a0,O,cu,e3,bs⟩:=Y.ex
  have ar:=(AL cu).2
  rw[Nat.sub_zero]at ar
  have ct:node<a0.length:=by rw[O.t.len];exact(List.getElem?_eq_some_iff.1 ar).1
  have d3:=O.h3.len
  subst d3
  have d7:=O.h3.all.isSome ct
  have d6:=O.t.mark node _ ar
  refine⟨rfl,rfl,_,_,_,λu D=>(O.h1.below D).load1 qf rfl rfl,trivial,_,λu D=>(Y.h3.below D).load1 br rfl rfl,⟨⟨by omega,by omega⟩,d7⟩,⟨⟨by omega,by omega⟩,?_⟩,?_⟩
  ·cases a5 with
   |none=>cases d7
   |some x=>rfl
  intro c3 U
  have H:=O.below U
  obtain⟨cc,f0,eq,cr⟩:=H.h3.store1 (P:=prog) jY (λ_ _ h=>h) (k:=4) rfl (i:=node) (j:=I) ct dr (v:=.bool true) (x:=(marks rs (cC ((I:Int),G))).set I true) rfl rfl (by
   intro vs b8
   rw[List.getElem?_eq_getElem ct]at d6
   have b8:vs=a0[node].map Value.bool/\a0[node].length=4:=b8
   rw[Option.some.inj d6]at b8
   exact⟨by rw[b8.1,List.map_set],by rw[List.length_set,Gk]⟩)
  refine⟨cc,f0,rfl,a5,a0.length,b4,aj,b9,_,⟨H.h1.grown cr (λq=>(H.og M q.symm).1 rfl),JR H.h2 cr (λq=>(H.og V q).2.1 rfl),eq,H.T,H.t.rule H.T rfl ar dr,H.hb.grown cr H.hb.size (λx q=>(H.og x q).2.2),H.ne,H.og,H.kt0,H.km0⟩,by omega⟩
theorem Tg (s:List UInt8):cN (cN s)=cN s:=by
 have h:∀n,n<256->EE (EE (UInt8.ofNat n))=EE (UInt8.ofNat n):=by decide+kernel
 unfold cN
 rw[List.map_map]
 apply List.map_congr_left
 intro c _
 have:=h c.toNat (by have:=c.toNat_lt;omega)
 rw[UInt8.ofNat_toNat]at this
 exact this
theorem W9 (s:List UInt8):(cN s).head?=some 91 ↔ s.head?=some 91:=by
 cases s with
 |nil=>simp[cN]
 |cons c r=>
  have h:∀n,n<256->(EE (UInt8.ofNat n)=91 ↔ UInt8.ofNat n=91):=by decide+kernel
  have:=h c.toNat (by have:=c.toNat_lt;omega)
  rw[UInt8.ofNat_toNat]at this
  simpa[cN]using this
theorem SN {h:Hst}(e:dR s=some h)(O:h.kind=1):h=⟨1,cN s,ad0⟩/\dR (cN s)=some h/\(cN s).length <=253:=by
 have M:=e
 unfold dR at e
 split at e
 ·split at e
  ·have:=zZc e;omega
  ·cases e
 rename_i G
 split at e
 ·cases E:v4V s with
  |none=>rw[E]at e;cases e
  |some a=>
   rw[E]at e
   have:h.kind=2:=by rw[<- Option.some.inj e]
   omega
 rename_i H
 split at e
 ·rename_i q
  have D:=Option.some.inj e
  refine⟨D.symm,?_,by simpa[cN]using q.1⟩
  unfold dR
  rw[if_neg (λI=>G ((W9 s).1 I)),Tg,if_neg H,if_pos ⟨by simpa[cN]using q.1,q.2⟩,D]
 ·cases e
def DZ (r:Rul):Hst:=⟨1,r.2,ad0⟩
theorem gQ (r:Rul):(DZ r).ok:=rfl
theorem Rn (u:List UInt8):(sP u).1=1\/(sP u).1=2\/(sP u).1=3:=by
 unfold sP
 split
 ·exact .inr (.inl rfl)
 split
 ·exact .inr (.inr rfl)
 ·exact .inl rfl
structure A4 (r:Rul):Prop where
 kind:r.1=1\/r.1=2\/r.1=3
 len:r.2.length <=253
 host:dR r.2=some (DZ r)
theorem Ea {r:Rul}(h:bQ r=true):A4 r:=by
 unfold bQ at h
 rw[Bool.and_eq_true,Bool.and_eq_true,beq_iff_eq,Tv]at h
 obtain⟨h1,e,q⟩:=h
 generalize lP r=s at*
 unfold gW at h1 e q
 split at h1
 ·rename_i D;rw[if_pos D]at e;cases e
 ·rename_i D
  rw[if_neg D]at e q
  have V:=Rn (kU (cq s))
  generalize sP (kU (cq s))=X at*
  obtain⟨k,n⟩:=X
  unfold Hr at h1 e q
  cases E:dR n with
  |none=>simp only[E]at e;cases e
  |some g=>
   simp only[E]at h1 e q
   split at e
   ·rename_i I
    rw[if_pos I]at q
    obtain⟨H,O,U⟩:=SN E I.1
    have M:r.1=k:=by rw[<- q]
    have G:r.2=cN n:=by rw[<- q,H]
    refine⟨by rw[M];exact V,by rw[G];exact U,?_⟩
    unfold DZ
    rw[G,O,H]
   ·cases e
theorem A4.right {r:Rul}(h:A4 r):dO (DZ r)=true:=by
 unfold dO
 have:pZ (DZ r)=r.2:=by unfold pZ DZ;rw[if_pos rfl]
 rw[this,h.host]
 exact(fC (gQ r) (gQ r)).2 rfl
theorem A4.labels {r:Rul}(h:A4 r):ay (DZ r)=bY 46 [] r.2:=by
 unfold ay
 rw[if_pos ⟨rfl,h.right⟩];rfl
theorem A4.ne {r:Rul}(h:A4 r):(ay (DZ r)).length≠0:=by
 rw[h.labels]
 have:=List.length_pos_iff.2 (j7 46 r.2 [])
 omega
theorem A4.revl {r:Rul}(h:A4 r):cC r=(ay (DZ r)).reverse:=by rw[h.labels];rfl
theorem zV {r:Rul} :0<(cC r).length:=by
 unfold Go.Pk.cC
 rw[List.length_reverse]
 exact List.length_pos_iff.2 (j7 46 r.2 [])
def xw (R:Pth)(m:Nat)(r:Rul):Nat:=
 if cC r=R.take (cC r).length then(if r.1=1 then max m (cC r).length else if r.1=2/\(cC r).length<R.length then max m ((cC r).length+1)else m)else m
def Ew (R:Pth)(m:Nat)(r:Rul):Nat:=if cC r=R.take (cC r).length/\r.1=3 then max m ((cC r).length-1)else m
def FY (rs:List Rul)(R:Pth):Nat:=rs.foldl (xw R) 1
def FM (rs:List Rul)(R:Pth):Nat:=rs.foldl (Ew R) 0
def uK (rs:List Rul)(R:Pth):Nat:=if R=[]then 0 else if 0<FM rs R then FM rs R else FY rs R
theorem yC {r:Rul}{R:Pth}(h:cC r=R.take (cC r).length):(cC r).length <=R.length:=by
 have:=congrArg List.length h
 rw[List.length_take]at this;omega
theorem Qj (rs:List Rul)(R:Pth):Top 1 (yr rs R R.length (R.length-1)) (FY rs R):=by
 suffices ∀(rs:List Rul) (S:Nat->Prop) (m:Nat),Top 1 S m->Top 1 (λx=>S x\/yr rs R R.length (R.length-1) x) (rs.foldl (xw R) m) by
  exact(this rs _ 1 (Top.zero 1)).congr λx=>by simp
 intro rs
 induction rs with
 |nil=>exact λS m h=>h.congr λx=>by unfold yr;simp
 |cons r rs H=>
  intro S m h
  rw[List.foldl_cons]
  have G:∀x,yr (r::rs) R R.length (R.length-1) x ↔ yr [r] R R.length (R.length-1) x\/yr rs R R.length (R.length-1) x:=λx=>by
   unfold yr;simp
  have h1:Top 1 (λx=>S x\/yr [r] R R.length (R.length-1) x) (xw R m r):=by
   have M:=zV (r:=r)
   unfold xw
   by_cases c:cC r=R.take (cC r).length
   ·have E:=yC c
    rw[if_pos c]
    by_cases q:r.1=1
    ·rw[if_pos q]
     refine(h.max _).congr λx=>or_congr Iff.rfl ?_
     unfold yr
     constructor
     ·rintro rfl;exact⟨r,by simp,c,.inl ⟨q,E,rfl⟩⟩
     ·rintro⟨r',hr',c',h'⟩
      rw[List.mem_singleton]at hr';subst hr'
      rcases h' with⟨_,_,h'⟩|⟨e,_⟩
      ·exact h'.symm
      ·rw[q]at e;exact absurd e (by decide)
    ·rw[if_neg q]
     by_cases e:r.1=2/\(cC r).length<R.length
     ·rw[if_pos e]
      refine(h.max _).congr λx=>or_congr Iff.rfl ?_
      unfold yr
      constructor
      ·rintro rfl;exact⟨r,by simp,c,.inr ⟨e.1,by omega,rfl⟩⟩
      ·rintro⟨r',hr',c',h'⟩
       rw[List.mem_singleton]at hr';subst hr'
       rcases h' with⟨D,_⟩|⟨_,_,h'⟩
       ·exact absurd D q
       ·exact h'.symm
     ·rw[if_neg e]
      refine h.congr λx=>?_
      have: ¬ yr [r] R R.length (R.length-1) x:=by
       rintro⟨r',hr',c',h'⟩
       rw[List.mem_singleton]at hr';subst hr'
       rcases h' with⟨D,_⟩|⟨D,I,_⟩
       ·exact q D
       ·exact e ⟨D,by omega⟩
      simp[this]
   ·rw[if_neg c]
    refine h.congr λx=>?_
    have: ¬ yr [r] R R.length (R.length-1) x:=by
     rintro⟨r',hr',c',-⟩
     rw[List.mem_singleton]at hr';subst hr'
     exact c c'
    simp[this]
  exact(H _ _ h1).congr λx=>by rw[G,or_assoc]
theorem Qi (rs:List Rul)(R:Pth):Top 0 (sM rs R R.length) (FM rs R):=by
 suffices ∀(rs:List Rul) (S:Nat->Prop) (m:Nat),Top 0 S m->Top 0 (λx=>S x\/sM rs R R.length x) (rs.foldl (Ew R) m) by
  exact(this rs _ 0 (Top.zero 0)).congr λx=>by simp
 intro rs
 induction rs with
 |nil=>exact λS m h=>h.congr λx=>by unfold sM;simp
 |cons r rs q=>
  intro S m h
  rw[List.foldl_cons]
  have e:∀x,sM (r::rs) R R.length x ↔ sM [r] R R.length x\/sM rs R R.length x:=λx=>by
   unfold sM;simp
  have h1:Top 0 (λx=>S x\/sM [r] R R.length x) (Ew R m r):=by
   unfold Ew
   by_cases c:cC r=R.take (cC r).length/\r.1=3
   ·rw[if_pos c]
    refine(h.max _).congr λx=>or_congr Iff.rfl ?_
    unfold sM
    constructor
    ·rintro rfl;exact⟨r,by simp,c.1,c.2,yC c.1,rfl⟩
    ·rintro⟨r',hr',c',c3,c4,h'⟩
     rw[List.mem_singleton]at hr';subst hr'
     exact h'.symm
   ·rw[if_neg c]
    refine h.congr λx=>?_
    have: ¬ sM [r] R R.length x:=by
     rintro⟨r',hr',c',c3,c4,h'⟩
     rw[List.mem_singleton]at hr';subst hr'
     exact c ⟨c',c3⟩
    simp[this]
  exact(q _ _ h1).congr λx=>by rw[e,or_assoc]
theorem RK.take {E:List Pth}{H:List (xj×Int)}(t:RK E H):∀(j:Nat) (p:Pth),p∈E->p.length <=j->∀k,p.take k∈E
 |0,p,q,G,k=>by
  have:p=[]:=List.length_eq_zero_iff.1 (by omega)
  subst this;rw[List.take_nil];exact q
 |j+1,p,q,G,k=>by
  by_cases D:p.length <=k
  ·rw[List.take_of_length_le D];exact q
  ·obtain⟨e,l,rfl⟩:∃e l,p=e++[l]:=by
    rcases List.eq_nil_or_concat p with h|⟨e,l,h⟩
    ·subst h;simp at D
    ·exact⟨e,l,by simpa using h⟩
   rw[List.length_append,List.length_singleton]at G D
   have:=RK.take t j e (t.closed _ _ q) (by omega) k
   rw[List.take_append_of_le_length (by omega)];exact this
theorem Tk {E:List Pth}{I:List (xj×Int)}{rs:List Rul}(T:RK E I)(t:Tab E y rs){R:Pth}(O:k<R.length)(H:R.take (k+1) ∉ E):
 (∀x,yr rs R k k x ↔ yr rs R R.length (R.length-1) x)/\(∀x,sM rs R k x ↔ sM rs R R.length x):=by
 have G:∀r∈rs,cC r=R.take (cC r).length->(cC r).length <=k:=λr q c=>by
  refine Decidable.byContradiction λM=>H ?_
  have:=T.take _ _ (t.rules r q) (Nat.le_refl _) (k+1)
  rw[c,List.take_take,Nat.min_eq_left (by omega)]at this
  exact this
 refine⟨λx=>?_,λx=>?_⟩
 ·constructor
  ·rintro⟨r,q,c,h⟩
   refine⟨r,q,c,?_⟩
   rcases h with⟨h1,D,e⟩|⟨h1,D,e⟩
   ·exact .inl ⟨h1,by omega,e⟩
   ·exact .inr ⟨h1,by omega,e⟩
  ·rintro⟨r,q,c,h⟩
   have:=G r q c
   refine⟨r,q,c,?_⟩
   rcases h with⟨h1,D,e⟩|⟨h1,D,e⟩
   ·exact .inl ⟨h1,this,e⟩
   ·exact .inr ⟨h1,this,e⟩
 ·constructor
  ·rintro⟨r,q,c,h1,D,e⟩;exact⟨r,q,c,h1,by omega,e⟩
  ·rintro⟨r,q,c,h1,D,e⟩;exact⟨r,q,c,h1,G r q c,e⟩
theorem MK {rs:List Rul}{R:Pth}(q:k <=R.length):(rs.any λr=>decide (r.1=(n:Int)/\cC r=R.take k))=true ↔ ∃r∈rs,r.1=(n:Int)/\cC r=R.take (cC r).length/\(cC r).length=k:=by
 rw[List.any_eq_true]
 constructor
 ·rintro⟨r,hr,h⟩
  rw[dTx]at h
  have e:(cC r).length=k:=by rw[h.2,List.length_take];omega
  exact⟨r,hr,h.1,by rw[e];exact h.2,e⟩
 ·rintro⟨r,hr,h1,h2,h3⟩
  exact⟨r,hr,decide_eq_true ⟨h1,by rw[h3]at h2;exact h2⟩⟩
theorem Tl {rs:List Rul}{R:Pth}(H:k <=R.length)(h:Top 1 (yr rs R k (k-1)) m)(I:m <=k+1):
 Top 1 (yr rs R k k) (if(rs.any λr=>decide (r.1=((2:Nat):Int)/\cC r=R.take k))=true then k+1 else m):=by
 have E:∀x,yr rs R k k x ↔ (yr rs R k (k-1) x\/(x=k+1/\(rs.any λr=>decide (r.1=((2:Nat):Int)/\cC r=R.take k))=true)):=λx=>by
  rw[MK H]
  constructor
  ·rintro⟨r,hr,c,h⟩
   rcases h with h|⟨h1,D,e⟩
   ·exact .inl ⟨r,hr,c,.inl h⟩
   ·by_cases G:(cC r).length=k
    ·exact .inr ⟨by omega,r,hr,h1,c,G⟩
    ·exact .inl ⟨r,hr,c,.inr ⟨h1,by omega,e⟩⟩
  ·rintro(⟨r,hr,c,h⟩|⟨rfl,r,hr,h1,c,D⟩)
   ·refine⟨r,hr,c,?_⟩
    rcases h with h|⟨h1,D,e⟩
    ·exact .inl h
    ·exact .inr ⟨h1,by omega,e⟩
   ·exact⟨r,hr,c,.inr ⟨h1,by omega,by omega⟩⟩
 split
 ·rename_i q
  have:=h.max (k+1)
  rw[Nat.max_eq_right I]at this
  exact this.congr λx=>by rw[E x,and_iff_left q]
 ·rename_i q
  exact h.congr λx=>by rw[E x];exact⟨.inl,λh=>h.elim id λh=>absurd h.2 q⟩
theorem Tj {rs:List Rul}{R:Pth}(I:k<R.length)(h:Top 1 (yr rs R k k) m)(H:m <=k+1):
 Top 1 (yr rs R (k+1) k) (if(rs.any λr=>decide (r.1=((1:Nat):Int)/\cC r=R.take (k+1)))=true then k+1 else m):=by
 have E:∀x,yr rs R (k+1) k x ↔ (yr rs R k k x\/(x=k+1/\(rs.any λr=>decide (r.1=((1:Nat):Int)/\cC r=R.take (k+1)))=true)):=λx=>by
  rw[MK (by omega)]
  constructor
  ·rintro⟨r,hr,c,h⟩
   rcases h with⟨h1,e,q⟩|h
   ·by_cases G:(cC r).length=k+1
    ·exact .inr ⟨by omega,r,hr,h1,c,G⟩
    ·exact .inl ⟨r,hr,c,.inl ⟨h1,by omega,q⟩⟩
   ·exact .inl ⟨r,hr,c,.inr h⟩
  ·rintro(⟨r,hr,c,h⟩|⟨rfl,r,hr,h1,c,e⟩)
   ·refine⟨r,hr,c,?_⟩
    rcases h with⟨h1,e,q⟩|h
    ·exact .inl ⟨h1,by omega,q⟩
    ·exact .inr h
   ·exact⟨r,hr,c,.inl ⟨h1,by omega,e⟩⟩
 split
 ·rename_i D
  have:=h.max (k+1)
  rw[Nat.max_eq_right H]at this
  exact this.congr λx=>by rw[E x,and_iff_left D]
 ·rename_i D
  exact h.congr λx=>by rw[E x];exact⟨.inl,λh=>h.elim id λh=>absurd h.2 D⟩
theorem Ph {rs:List Rul}{R:Pth}(G:k<R.length)(h:Top 0 (sM rs R k) m)(E:m <=k):
 Top 0 (sM rs R (k+1)) (if(rs.any λr=>decide (r.1=((3:Nat):Int)/\cC r=R.take (k+1)))=true then k else m):=by
 have q:∀x,sM rs R (k+1) x ↔ (sM rs R k x\/(x=k/\(rs.any λr=>decide (r.1=((3:Nat):Int)/\cC r=R.take (k+1)))=true)):=λx=>by
  rw[MK (by omega)]
  constructor
  ·rintro⟨r,hr,c,h1,h2,h3⟩
   by_cases D:(cC r).length=k+1
   ·exact .inr ⟨by omega,r,hr,h1,c,D⟩
   ·exact .inl ⟨r,hr,c,h1,by omega,h3⟩
  ·rintro(⟨r,hr,c,h1,h2,h3⟩|⟨rfl,r,hr,h1,c,h2⟩)
   ·exact⟨r,hr,c,h1,by omega,h3⟩
   ·exact⟨r,hr,c,h1,by omega,by omega⟩
 split
 ·rename_i e
  have:=h.max k
  rw[Nat.max_eq_right E]at this
  exact this.congr λx=>by rw[q x,and_iff_left e]
 ·rename_i e
  exact h.congr λx=>by rw[q x];exact⟨.inl,λh=>h.elim id λh=>absurd h.2 e⟩
def vf (rs:List Rul)(h:Hst):Bool:=decide (0<(ay h).length)&&(uK rs (ay h).reverse==(ay h).length)
def Vn (w:World)(rs:List Rul)(v:Value)(w':World):Prop:=∃kt km a n c ps kvs es,v=.pointer (some ⟨kt,0,none⟩)/\xV w cB dq kt km a n c ps kvs es (rs.filter bQ) w'
theorem UB (w:World):(Instr.makeSlice gE (vI 1) (vI 1)).run prog w=.ok (.slice (some ⟨w.heap.size,0,none⟩) 1 1) (w.alloc (.cells #[.bool false,.bool false,.bool false,.bool false] dq)):=by kernel_rfl
theorem xh {a:Option Addr}{n c:Nat}{rs:List Rul}(h:Sl sV w A a n c rs)(E:i<rs.length):(Instr.loadAt aG (.pointer (aw a (i:Int) 2))).run prog w=.ok (Li rs[i]) w:=by
 obtain⟨I,H,G,_,_⟩:=Kz.info
 have e:(prog.underlying aG).map El=some true:=by kernel_rfl
 cases D:prog.underlying aG with
 |none=>rw[D]at e;cases e
 |some d=>
  rw[D]at e
  simp only[Option.map_some,Option.some.injEq]at e
  obtain⟨vs,h1,q⟩:=h.loadA D e H (k:=2) rfl G (i:=(i:Int)) (by simpa using E)
  have q:vs=qn rs[i]:=q
  rw[q]at h1;exact h1
theorem NH {b2 an:Nat}{rs:List Rul}(bp:Sl sV w A p b2 an rs)(c6:rs.length <=1000000)(cn:∀r∈rs,r.2.length <=1000000)(bk:Env w):
 Cf pN #[.slice p b2 an] w (Ret (Vn w rs)):=by
 apply LM
 intro Z q cj b0
 have X:=(b0▸au w _:bW w q)
 have ad:G8 ekE evI q Z []:=G8.new cj b0
 refine⟨_,_,_,_,UB q,?_⟩
 generalize Y:q.alloc (.cells #[.bool false,.bool false,.bool false,.bool false] dq)=G
 have U:=(Y▸au q _:bW q G)
 have a8:=ah X U X.size
 have b3:Ow tB4 dq G NoB (some ⟨q.heap.size,0,none⟩) 1 1 [[false,false,false,false]]:=
  Ow.newF (T:=tB4) (l:=[.bool false,.bool false,.bool false,.bool false]) (xs:=[[false,false,false,false]]) (w:=q) Sx rfl Y.symm (kK.one ⟨rfl,rfl⟩) (by decide)
 intro b1 w12 ch bz
 have V:=(bz▸au G _:bW G w12)
 have cc:=ah a8 V a8.size
 have de:=ad.lt
 have dg:=U.size
 have dk:=X.size
 have dl:G.heap.size=q.heap.size+1:=by rw[<- Y];simp
 have b8:xV w cB dq b1 Z (some ⟨q.heap.size,0,none⟩) 1 1 [[]] [] [[false,false,false,false]] [] w12:=
  ⟨av.new ch bz,(ad.below U).below V,b3.below V,UP,Wl,cc,by omega,λg cf=>by
   simp[j0]at cf
   omega,by omega,by omega⟩
 clear ad b3
 have ck:=bp.len
 subst ck
 refine⟨λm i w'=>∃k:Nat,k <=rs.length/\i=(k:Int)/\m=rs.length-k/\∃a n c M ac O,xV w cB dq b1 Z a n c M ac O ((rs.take k).filter bQ) w'/\M.length <=1+300*k,⟨_,0,by omega,rfl,rfl,_,_,_,_,_,_,b8,by decide⟩,?_⟩
 intro m i
 refine aP.of ?_ _
 rintro cu ⟨k,c3,rfl,rfl,a,n,c,M,ac,O,H,cl⟩
 refine ai.of (λh=>?_) (λh=>?_) <;> simp only[dTx,dFx]at h
 ·have I:k<rs.length:=by omega
  have bq:=bp.below H.hb
  have c7:=cn _ (List.getElem_mem I)
  refine⟨⟨⟨by omega,h⟩,bq.isSome I⟩,_,_,xh bq I,?_⟩
  have bs:(rs.take (k+1)).filter bQ=(rs.take k).filter bQ++(if bQ rs[k]=true then[rs[k]]else[]):=by
   rw[List.take_succ_eq_append_getElem I,List.filter_append]
   congr 1
   rw[List.filter_cons,List.filter_nil]
  generalize rs[k]=r at*
  refine eB.new (zs:=qn (0,[])) (cs:=qn r) rfl rfl (sU r) cu λdc c0 c4 ar ce=>?_
  refine⟨_,_,eB.load0 ar rfl,?_⟩
  have b5:=H.below ce
  refine az (Ov r (by omega) c0) ?_
  rintro _ c1 ⟨rfl,bb⟩
  have aj:=b5.below bb
  have c8:(lP r).length <=1000002:=by
   have:(sR r.1).length <=2:=by unfold sR;split;decide;split;decide;decide
   unfold lP;simp;omega
  refine⟨_,rfl,?_⟩
  refine az (Ou (lP r) (by omega) c1 (bk.step aj.hb)) ?_
  rintro _ c2 ⟨rfl,bc⟩
  have b6:=aj.below bc
  refine⟨_,_,_,_,rfl,?_⟩
  have a9:bQ r=(((gW (lP r)).2.2==0)&&((gW (lP r)).2.1&&JY (gW (lP r)).1 r)):=rfl
  generalize gW (lP r)=x at*
  obtain⟨ag,b,D⟩:=x
  simp only at a9
  refine eB.new (zs:=qn (0,[])) (cs:=qn ag) rfl rfl (sU ag) c2 λdd b4 c5 cb bj=>?_
  have al:=b6.below bj
  have a0:=((ar.below bb).below bc).below bj
  refine eJ (w:=b4) (bQ r) ?_ ?_
  ·rw[a9]
   refine ai.of (λe=>?_) (λe=>⟨rfl,by simp only at e;rw[e];rfl⟩)
   refine ai.of (λE=>?_) (λE=>⟨rfl,by simp only at e E;rw[e,E];rfl⟩)
   refine⟨_,_,eB.load0 cb rfl,_,_,eB.load0 a0 rfl,_,Ml ag r b4,rfl,?_⟩
   simp only at e E;rw[e,E];rfl
  ·refine ai.of (λe=>?_) (λe=>?_)
   ·have g:=Ea e
    refine⟨_,_,eB.load0 a0 rfl,?_⟩
    refine az (NI bk al r ?_ g.len cl (by omega)) ?_
    ·rcases g.kind with D|D|D
     ·exact⟨1,D,by decide⟩
     ·exact⟨2,D,by decide⟩
     ·exact⟨3,D,by decide⟩
    rintro _ dn ⟨rfl,a',cr,c',ct,cp,b9,b7,c9⟩
    refine⟨rfl,rs.length-(k+1),by omega,k+1,by omega,by rw[wrap_i64 (by omega) (by omega)];omega,rfl,a',cr,c',ct,cp,b9,?_,by omega⟩
    rw[bs,if_pos e];exact b7
   ·refine⟨rs.length-(k+1),by omega,k+1,by omega,by rw[wrap_i64 (by omega) (by omega)];omega,rfl,a,n,c,M,ac,O,?_,by omega⟩
    rw[bs,if_neg (by rw[e];decide),List.append_nil];exact al
 ·have:k=rs.length:=by omega
  subst this
  rw[List.take_length]at H
  exact⟨_,_,_,_,_,_,_,_,rfl,H⟩
theorem Co {w0:World}(dc:Env w0){c0 d6:Nat}{a:Option Addr}{n c:Nat}{ps:List Pth}{d7:List (xj×Int)}{rs:List Rul}(S:xV w0 cB dq c0 d6 a n c ps d7 y rs w){h:Hst}(c3:h.ok)(ds:h.name.length <=1000000000):
 Cf qy #[.pointer (some ⟨c0,0,none⟩),h.v] w (Ret λv w'=>v=vI ((uK rs (ay h).reverse:Nat):Int)/\bW w w'):=by
 apply BU
 intro d5 b5 dk cr
 have bp:=(cr▸au w _:bW w b5)
 have c8:av b5 d5 ak h.cells:=av.new dk cr
 refine⟨_,aO.load0 c8 (Hst.len c3),?_⟩
 refine az (sG c3 ds b5 (dc.step (S.below bp).hb)) ?_
 rintro _ c4 ⟨ea,ef,eb,rfl,ck,-,c9⟩
 have b8:=ah bp c9 bp.size
 have ed:=lI h
 generalize ay h=L at*
 have d1:=ck.len
 subst d1
 have O:L.reverse.length=L.length:=List.length_reverse
 refine⟨_,_,_,rfl,_,run_min_int2 _ _ _ _ _ _ _,?_⟩
 have d0:=S.h3.len
 subst d0
 have ce:=S.t.len
 refine⟨λm e w'=>∃D q:Nat,m=(D:Int)/\e=(q:Int)/\(if 0<q then q else D)=uK rs L.reverse/\bW w w',?_,?_⟩
 ·refine⟨λm E b4 bk i w'=>∃k node D q:Nat,k <=L.length/\i=(k:Int)+1/\m=L.length-k/\E=(node:Int)/\b4=(D:Int)/\bk=(q:Int)/\KS (L.reverse.take k) ps 0=some node/\(L=[]->D=0)/\(L≠[]->Top 1 (yr rs L.reverse k (k-1)) D)/\D <=k+1/\Top 0 (sM rs L.reverse k) q/\q <=k/\bW c4 w',?_,?_⟩
  ·refine⟨_,0,0,(if L=[]then 0 else 1),0,by omega,rfl,rfl,rfl,?_,rfl,S.T.first 0 [] S.T.root,λe=>if_pos e,λe=>?_,?_,?_,Nat.le_refl _,Below.refl _ _⟩
   ·by_cases e:L=[]
    ·subst e;rfl
    ·rw[if_neg e,if_neg (by have:=List.length_pos_iff.2 e;omega)];rfl
   ·rw[if_neg e]
    exact(Top.zero 1).congr λx=>⟨λh=>h.elim,λ⟨r,_,_,h⟩=>by have:=zV (r:=r);omega⟩
   ·split <;> omega
   ·exact(Top.zero 0).congr λx=>⟨λh=>h.elim,λ⟨r,_,_,h⟩=>by have:=zV (r:=r);omega⟩
  intro m E b4 bk i
  refine aP.of ?_ _
  rintro b6 ⟨k,node,D,q,dg,rfl,rfl,rfl,rfl,rfl,d4,ch,cf,dn,bs,cc,aj⟩
  have I:=ah b8 aj b8.size
  have G:=S.below I
  have cl:=ck.below aj
  simp only[Ad]
  refine ai.of (λY=>?_) (λY=>?_) <;> simp only[dTx,dFx]at Y
  ·have V:k<L.length:=by omega
   have bz:L≠[]:=λe=>by rw[e]at V;cases V
   have a9:=(AL d4).2
   rw[Nat.sub_zero]at a9
   have b0:node<y.length:=by rw[ce];exact(List.getElem?_eq_some_iff.1 a9).1
   have b3:∀(E:Nat) (p:Pth) (cj:E<y.length),ps[E]? =some p->∀(j:Nat),j<4->∀(vs:List Value),tB4.rep b6 wu vs y[E]->vs[j]? =some (.bool (rs.any λr=>decide (r.1=(j:Int)/\cC r=p))):=λE p cj d3 j de vs b1=>by
    have cn:=S.t.mark E p d3
    rw[List.getElem?_eq_getElem cj]at cn
    have b1:vs=y[E].map Value.bool/\y[E].length=4:=b1
    rw[b1.1,Option.some.inj cn,List.getElem?_map,JT _ _ _ de];rfl
   have an:=G.h3.all.isSome b0
   have bq:∀x:Int,Option.isSome (aw a x 4)=true:=λx=>by
    cases a with
    |none=>cases an
    |some x=>rfl
   have b7:=Tl (rs:=rs) (R:=L.reverse) (k:=k) (by rw[O];exact dg) (cf bz) dn
   have dr:(if(rs.any λr=>decide (r.1=((2:Nat):Int)/\cC r=L.reverse.take k))=true then k+1 else D) <=k+1:=by split <;> omega
   refine⟨λZ w'=>w'=b6/\Z=(((if(rs.any λr=>decide (r.1=((2:Nat):Int)/\cC r=L.reverse.take k))=true then k+1 else D):Nat):Int),?_,?_⟩
   ·refine⟨rfl,rfl,_,_,_,G.h1.load1 qf rfl rfl,⟨⟨by omega,by omega⟩,an⟩,⟨⟨by decide,by decide⟩,bq _⟩,_,G.h3.all.loadC (P:=prog) bA rfl (k:=4) rfl (i:=node) (j:=2) b0 (by decide) (b3 node _ b0 a9 2 (by decide)),?_⟩
    exact ai.of (λc=>⟨rfl,by rw[if_pos c];rfl⟩) (λc=>⟨rfl,by rw[if_neg (by rw[c];decide)]⟩)
   intro Z
   refine aP.of ?_ _
   rintro eg ⟨ct,rfl⟩
   rw[ct];clear ct
   generalize (if(rs.any λr=>decide (r.1=((2:Nat):Int)/\cC r=L.reverse.take k))=true then k+1 else D)=mm2 at*
   have c7:i64.wrap (((L.length:Nat):Int)-((k:Int)+1))=((L.length-1-k:Nat):Int):=by rw[wrap_i64 (by omega) (by omega)];omega
   try dsimp only
   rw[c7]
   have b9:L.reverse.take (k+1)=L.reverse.take k++[L[L.length-1-k]'(by omega)]:=by
    rw[List.take_succ_eq_append_getElem (by simpa using V),List.getElem_reverse]
   refine⟨rfl,rfl,_,λu M=>(G.h1.below M).load1 eI rfl rfl,⟨⟨by omega,by omega⟩,cl.all.isSome (by omega)⟩,_,λu M=>(cl.below M).all.text ax (i:=L.length-1-k) (show L.length-1-k<L.length by omega),?_⟩
   generalize L[L.length-1-k]'(by omega)=a0 at*
   have U:=G.T.edge node a0
   rw[a9]at U
   simp only at U
   cases X:KS (L.reverse.take k++[a0]) ps 0 with
   |none=>
    rw[X]at U
    refine⟨0,false,λu M=>?_,λwq ar=>ai.yes rfl ⟨mm2,q,rfl,rfl,?_,ah I ar I.size⟩⟩
    ·have:=(G.h2.below M).look2 (P:=prog) eI DU fk ((node:Int),a0)
     rw[U]at this;exact this
    ·have d2:L.reverse.take (k+1) ∉ ps:=by rw[b9];exact AK.1 X
     obtain⟨d8,d9⟩:=Tk S.T S.t (R:=L.reverse) (k:=k) (by rw[O];exact V) d2
     have bb:mm2=FY rs L.reverse:=Top.eq (b7.congr d8) (Qj rs L.reverse)
     have bc:q=FM rs L.reverse:=Top.eq (bs.congr d9) (Qi rs L.reverse)
     unfold uK
     rw[if_neg (λb2=>bz (List.reverse_eq_nil_iff.1 b2)),bb,bc]
   |some H=>
    rw[X]at U
    refine⟨(H:Int),true,λu M=>?_,λwq ar=>ai.no rfl ?_⟩
    ·have:=(G.h2.below M).look2 (P:=prog) eI DU fk ((node:Int),a0)
     rw[U]at this;exact this
    have ac:=(AL X).2
    rw[Nat.sub_zero]at ac
    have al:H<y.length:=by rw[ce];exact(List.getElem?_eq_some_iff.1 ac).1
    have ad:=G.below ar
    rw[<- b9]at ac X
    have c6:=Tj (rs:=rs) (R:=L.reverse) (k:=k) (by rw[O];exact V) b7 dr
    have c5:=Ph (rs:=rs) (R:=L.reverse) (k:=k) (by rw[O];exact V) bs cc
    have ee:(if(rs.any λr=>decide (r.1=((1:Nat):Int)/\cC r=L.reverse.take (k+1)))=true then k+1 else mm2) <=k+1:=by split <;> omega
    have dd:(if(rs.any λr=>decide (r.1=((3:Nat):Int)/\cC r=L.reverse.take (k+1)))=true then k else q) <=k+1:=by split <;> omega
    refine⟨λZ w'=>w'=wq/\Z=(((if(rs.any λr=>decide (r.1=((1:Nat):Int)/\cC r=L.reverse.take (k+1)))=true then k+1 else mm2):Nat):Int),?_,?_⟩
    ·refine⟨rfl,rfl,_,_,_,ad.h1.load1 qf rfl rfl,⟨⟨by omega,by omega⟩,an⟩,⟨⟨by decide,by decide⟩,bq _⟩,_,ad.h3.all.loadC (P:=prog) bA rfl (k:=4) rfl (i:=H) (j:=1) al (by decide) (b3 H _ al ac 1 (by decide)),?_⟩
     exact ai.of (λc=>⟨rfl,by rw[if_pos c];rfl⟩) (λc=>⟨rfl,by rw[if_neg (by rw[c];decide)]⟩)
    intro Z
    refine aP.of ?_ _
    rintro ei ⟨cu,rfl⟩
    rw[cu];clear cu
    have next:∀ag:Nat,ag=(if(rs.any λr=>decide (r.1=((3:Nat):Int)/\cC r=L.reverse.take (k+1)))=true then k else q)->∃c1:Nat,c1<L.length-k/\∃k' c2 a8 bj:Nat,k' <=L.length/\i64.wrap ((k:Int)+1+1)=(k':Int)+1/\c1=L.length-k'/\(H:Int)=(c2:Int)/\(((if(rs.any λr=>decide (r.1=((1:Nat):Int)/\cC r=L.reverse.take (k+1)))=true then k+1 else mm2):Nat):Int)=(a8:Int)/\(ag:Int)=(bj:Int)/\KS (L.reverse.take k') ps 0=some c2/\(L=[]->a8=0)/\(L≠[]->Top 1 (yr rs L.reverse k' (k'-1)) a8)/\a8 <=k'+1/\Top 0 (sM rs L.reverse k') bj/\bj <=k'/\bW c4 wq:=λag cb=>by
     refine⟨L.length-(k+1),by omega,k+1,H,_,ag,by omega,by rw[wrap_i64 (by omega) (by omega)];omega,rfl,rfl,rfl,rfl,X,λe=>absurd e bz,λ_=>c6,by omega,by rw[cb];exact c5,by rw[cb];exact dd,ah aj ar aj.size⟩
    refine⟨rfl,rfl,_,_,_,ad.h1.load1 qf rfl rfl,⟨⟨by omega,by omega⟩,an⟩,⟨⟨by decide,by decide⟩,bq _⟩,_,ad.h3.all.loadC (P:=prog) bA rfl (k:=4) rfl (i:=H) (j:=3) al (by decide) (b3 H _ al ac 3 (by decide)),?_⟩
    refine ai.of (λc=>?_) (λc=>?_)
    ·have e:i64.wrap ((k:Int)+1-1)=(k:Int):=by rw[wrap_i64 (by omega) (by omega)];omega
     try dsimp only
     rw[e]
     exact next k (by rw[if_pos c])
    ·exact next q (by rw[if_neg (by rw[c];decide)])
  ·have:k=L.length:=by omega
   subst this
   refine⟨D,q,rfl,rfl,?_,I⟩
   by_cases e:L=[]
   ·subst e
    have:=ch rfl
    simp only[List.length_nil]at cc
    have:q=0:=by omega
    subst this
    unfold uK
    simp[ch rfl]
   ·have dl:=cf e
    have bb:D=FY rs L.reverse:=Top.eq dl (by have:=Qj rs L.reverse;rw[O]at this;exact this)
    have bc:q=FM rs L.reverse:=Top.eq bs (by have:=Qi rs L.reverse;rw[O]at this;exact this)
    unfold uK
    rw[if_neg (λb2=>e (List.reverse_eq_nil_iff.1 b2)),bb,bc]
 ·intro b4 bk
  refine aP.of ?_ _
  rintro b6 ⟨D,q,rfl,rfl,cp,I⟩
  refine ai.of (λY=>⟨?_,I⟩) (λY=>⟨?_,I⟩) <;> simp only[gt_iff_lt,dTx,dFx]at Y
  ·rw[<- cp,if_pos (by omega)]
  ·rw[<- cp,if_neg (by omega)]
theorem Cn {w0:World}(M:Env w0){V ag:Nat}{a:Option Addr}{n c:Nat}{al:List Pth}{aj:List (xj×Int)}{rs:List Rul}(S:xV w0 cB dq V ag a n c al aj y rs w){h:Hst}(q:h.ok)(O:h.name.length <=1000000000):
 Cf lN #[.pointer (some ⟨V,0,none⟩),h.v] w (Ret λv w'=>v=.bool (vf rs h)/\bW w w'):=by
 apply BS
 intro ad E Y U
 have D:=(U▸au w _:bW w E)
 have G:av E ad ak h.cells:=av.new Y U
 refine⟨_,aO.load0 G (Hst.len q),?_⟩
 refine az (sG q O E (M.step (S.below D).hb)) ?_
 rintro _ a8 ⟨an,a0,ar,rfl,ac,-,H⟩
 have e:=ah D H D.size
 refine⟨_,_,_,rfl,?_⟩
 have Z:=ac.len
 subst Z
 unfold vf
 refine ai.of (λI=>?_) (λI=>⟨?_,e⟩) <;> simp only[gt_iff_lt,dTx,dFx]at I
 ·refine⟨_,aO.load0 (G.below H) (Hst.len q),?_⟩
  refine az (Co M (S.below e) q O) ?_
  rintro _ a9 ⟨rfl,X⟩
  refine⟨_,rfl,?_,ah e X e.size⟩
  try dsimp only
  rw[decide_eq_true (show 0<(ay h).length by omega),Bool.true_and]
  congr 1
  rw[Bool.eq_iff_iff,beq_iff_eq,beq_iff_eq];omega
 ·try dsimp only
  rw[decide_eq_false (show ¬ 0<(ay h).length by omega),Bool.false_and]
def nmL:List (List UInt8):=[[],[78,111,110,101],[76,97,120],[83,116,114,105,99,116]]
def nmV:Value:=.agg (nmL.map λs=>vS s).toArray
def K7 (v:List UInt8):Nat->Int
 |0=>0
 |k+1=>if cN (nmL[k]?.getD [])=cN v then(k:Int)else K7 v k
theorem Rp (v:List UInt8):K7 v 4=Dn v:=by
 have D:cN (nmL[0]?.getD [])=[]:=rfl
 have E:cN (nmL[1]?.getD [])=[110,111,110,101]:=by decide
 have G:cN (nmL[2]?.getD [])=[108,97,120]:=by decide
 have H:cN (nmL[3]?.getD [])=[115,116,114,105,99,116]:=by decide
 unfold K7 K7 K7 K7 K7 Dn
 rw[D,E,G,H]
 generalize cN v=x
 by_cases h1:x=[110,111,110,101]
 ·subst h1;rfl
 ·by_cases e:x=[108,97,120]
  ·subst e;rfl
  ·by_cases q:x=[115,116,114,105,99,116]
   ·subst q;rfl
   ·rw[if_neg (Ne.symm q),if_neg (Ne.symm e),if_neg (Ne.symm h1),if_neg h1,if_neg e,if_neg q]
    split <;> rfl
def nameOf (l:List UInt8):List UInt8×List UInt8:=if xI l then(dE l,du l)else([],dE l)
def cW (h:Hdr)(x:List UInt8):Hdr:=if(du x).length <=1024 then jS h (cN (dE x)) (du x)else h
def bB (s:List UInt8):Hdr×Int:=
 if s.any jP=true then(iJ,81)
 else if(nameOf ((bY 59 [] s).headD [])).1++(nameOf ((bY 59 [] s).headD [])).2=[]then(iJ,82)
 else if 4096<(nameOf ((bY 59 [] s).headD [])).1.length+(nameOf ((bY 59 [] s).headD [])).2.length then(iJ,83)
 else(((bY 59 [] s).drop 1).foldl cW { iJ with name:=(nameOf ((bY 59 [] s).headD [])).1,value:=(nameOf ((bY 59 [] s).headD [])).2 },0)
theorem sp (s:List UInt8):(dE s).length <=s.length:=Nat.le_trans (HF _ _) (bN _ _)
theorem so (s:List UInt8):(du s).length <=s.length:=by
 have h1:=HF lH ((s.dropWhile (· !=61)).drop 1)
 have e:=(List.dropWhile_sublist (· !=(61:UInt8)) (l:=s)).length_le
 rw[List.length_drop]at h1
 unfold du cq;omega
theorem VY (h:Hdr):∀c∈h.v.cells.toList,c.oneCell'=true:=by
 intro c e
 simp only[Hdr.v,Value.cells,Hdr.cells,List.mem_cons,List.mem_nil_iff,or_false]at e
 rcases e with rfl|rfl|rfl|rfl|rfl|rfl|rfl|rfl|rfl|rfl|rfl <;> rfl
theorem za (h:Hdr){vs:List Value}(D:av w k aq vs)(H:vs.length=11):
 ∃e,(Instr.storeAt aq (.pointer (some ⟨k,0,none⟩)) h.v).run prog w=.ok () e/\av e k aq h.cells/\w.grownBy e (some k):=by
 obtain⟨e,G,q,E⟩:=D.store (P:=prog) GH (i:=0) (v:=h.v) rfl (by omega) (VY h)
 refine⟨e,G,?_,E⟩
 rw[List.take_zero,List.nil_append,List.drop_eq_nil_of_le (by omega),List.append_nil]at q
 exact q
theorem fX (h:Hdr)(q:av w k aq h.cells):(Instr.loadAt aq (.pointer (some ⟨k,0,none⟩))).run prog w=.ok h.v w:=by
 obtain⟨H,E,D,_,_⟩:=GH.info
 cases e:prog.underlying aq with
 |none=>
  have:(prog.underlying aq).map El=some true:=by kernel_rfl
  rw[e]at this;cases this
 |some d=>
  have:(prog.underlying aq).map El=some true:=by kernel_rfl
  rw[e]at this
  simp only[Option.map_some,Option.some.injEq]at this
  exact q.loadA e this E (us:=h.cells) (i:=0) (by rw[D];rfl) (λj G=>by rw[Nat.zero_add])
theorem pa (h:Hdr){w w':World}{vs:List Value}(Y:av w' n aq vs)(aj:vs.length=11)(G:bW w w')(ag:w.heap.size <=n){K:Value->World->Prop}
 (ac:∀wx,bW w wx->K (.tuple #[h.v,vI a]) wx):
 ∃(wx:World),(Instr.storeAt aq (.pointer (some ⟨n,0,none⟩)) h.v).run prog w'=.ok () wx/\
  ∃(O:List UInt8) (U:List UInt8) (V:List UInt8) (X:List UInt8) (e:Bool) (I:Int) (q:Bool) (M:Int) (D:Bool) (E:Bool) (H:Int),
   (aI aq (.pointer (some ⟨n,0,none⟩))).run prog wx=.ok (.agg #[vS O,vS U,vS V,vS X,.bool e,vI I,.bool q,vI M,.bool D,.bool E,vI H]) wx/\
   K (.tuple #[.agg #[vS O,vS U,vS V,vS X,.bool e,vI I,.bool q,vI M,.bool D,.bool E,vI H],vI a]) wx:=by
 obtain⟨wx,al,Z,ad⟩:=za h Y aj
 exact⟨wx,al,h.name,h.value,h.domain,h.path,h.hasE,h.exp,h.hasA,h.age,h.sec,h.http,h.same,av.res (fX h Z),ac wx (G.grown ad G.size λx a=>by cases a;exact ag)⟩
theorem zb (w:World):Cf uv #[] w (Ret λv w'=>v=nmV/\bW w w'):=by
 apply IA
 intro k D U q
 have hB:=(q▸au w _:bW w D)
 have M:av D k kQ (List.replicate 4 (vS [])):=av.new U q
 obtain⟨E,V,H,O⟩:=M.store (P:=prog) EJ (i:=0) (v:=nmV) rfl (by decide) (by
  intro c e
  simp only[nmV,Value.cells]at e
  obtain⟨s,_,rfl⟩:=List.mem_map.1 (by simpa using e)
  rfl)
 have I:av E k kQ (nmL.map λs=>vS s):=H
 obtain⟨ac,Y,X,_,_⟩:=EJ.info
 refine⟨E,V,_,_,_,_,av.res (I.loadA LZ rfl Y (us:=nmL.map λs=>vS s) (i:=0) (by rw[X];rfl) (λj Z=>by rw[Nat.zero_add])),rfl,hB.grown O hB.size λx G=>by cases G;omega⟩
theorem Qr (w:World):∀k:Nat,k<4->(Instr.index kQ nmV (vI (k:Int))).run prog w=.ok (vS (nmL[k]?.getD [])) w
 |0,_=>by kernel_rfl
 |1,_=>by kernel_rfl
 |2,_=>by kernel_rfl
 |3,_=>by kernel_rfl
 |n+4,h=>by omega
def PY (k:Nat)(h:Hdr)(w:World)(v:Value)(w':World):Prop:=v=.tuple #[]/\av w' k aq h.cells/\w.grownBy w' (some k)
theorem tL {h:Hdr}{w w':World}(e:av w' k aq h.cells)(q:w.grownBy w' (some k)):PY k h w (.tuple #[]) w':=⟨rfl,e,q⟩
theorem Fw (k:Nat)(h:Hdr)(key value:List UInt8)(b9:value.length <=100000)(w:World)(O:av w k aq h.cells):
 Cf vv #[.pointer (some ⟨k,0,none⟩),vS key,vS value] w (Ret (PY k (jS h key value) w)):=by
 apply Er
 simp only[Ad]
 have e:Option.isSome (some (⟨k,0,none⟩:Addr))=true:=rfl
 have b2:=Rh w (some k)
 have b7:∀b:Bool,(Value.bool b).cells= #[Value.bool b]:=λ_=>rfl
 refine ai.of (λh1=>?_) (λh1=>?_)
 ·rw[beq_iff_eq]at h1
  refine az (KX value (by omega) w) ?_
  rintro _ bz ⟨rfl,U⟩
  have X:=O.below U
  have aj:=nC U (some k)
  unfold jS
  rw[if_pos h1]
  unfold ug
  by_cases a0:we (qh value)
  ·rw[if_pos a0,if_pos a0]
   refine⟨_,_,rfl,ai.yes rfl ⟨e,e,?_⟩⟩
   obtain⟨q,G,D,E⟩:=X.put (P:=prog) jY (i:=4) (v:=.bool true) (by simp[Hdr.cells]) rfl rfl
   refine⟨q,G,e,e,?_⟩
   obtain⟨Y,an,ag,al⟩:=D.put (P:=prog) eF (i:=5) (v:=vI (rJ (qh value))) (by simp[Hdr.cells]) rfl rfl
   exact⟨Y,an,tL ag (gF (gF aj E) al)⟩
  ·rw[if_neg a0,if_neg a0]
   exact⟨_,_,rfl,ai.no rfl (tL X aj)⟩
 rw[beq_eq_false_iff_ne]at h1
 refine ai.of (λI=>?_) (λI=>?_)
 ·rw[beq_iff_eq]at I
  refine az (M3 value (by omega) w) ?_
  rintro _ bz ⟨rfl,U⟩
  have X:=O.below U
  have aj:=nC U (some k)
  unfold jS
  rw[if_neg h1,if_pos I]
  unfold IP
  cases Ce value with
  |none=>exact⟨_,_,rfl,ai.no rfl (tL X aj)⟩
  |some n=>
   refine⟨_,_,rfl,ai.yes rfl ⟨e,e,?_⟩⟩
   obtain⟨q,G,D,E⟩:=X.put (P:=prog) jY (i:=6) (v:=.bool true) (by simp[Hdr.cells]) rfl rfl
   refine⟨q,G,e,e,?_⟩
   obtain⟨Y,an,ag,al⟩:=D.put (P:=prog) eF (i:=7) (v:=vI n) (by simp[Hdr.cells]) rfl rfl
   exact⟨Y,an,tL ag (gF (gF aj E) al)⟩
 rw[beq_eq_false_iff_ne]at I
 refine ai.of (λM=>?_) (λM=>?_)
 ·rw[beq_iff_eq]at M
  refine(Tryz.strings_TrimPrefix (mkS value) (mkS [46]) w).mono ?_
  rintro _ _ ⟨rfl,rfl⟩
  have a8:Lib.trimPrefix (mkS value).data.toList (mkS [46]).data.toList=if value.head?=some 46 then value.drop 1 else value:=(yw value 46).2
  rw[a8]
  refine⟨(if value.head?=some 46 then value.drop 1 else value),rfl,?_⟩
  refine az (pQ _ (by split <;> (try rw[List.length_drop]) <;> omega) _) ?_
  rintro _ bz ⟨rfl,U⟩
  refine⟨_,rfl,e,e,?_⟩
  have X:=O.below U
  obtain⟨q,G,D,E⟩:=X.put (P:=prog) bS (i:=2) (v:=vS (cN (if value.head?=some 46 then value.drop 1 else value))) (by simp[Hdr.cells]) rfl rfl
  refine⟨q,G,tL ?_ (gF (nC U (some k)) E)⟩
  unfold jS
  rw[if_neg h1,if_neg I,if_pos M];exact D
 rw[beq_eq_false_iff_ne]at M
 refine ai.of (λV=>?_) (λV=>?_)
 ·rw[beq_iff_eq]at V
  refine⟨e,e,?_⟩
  obtain⟨q,G,D,E⟩:=O.put (P:=prog) bS (i:=3) (v:=vS []) (by simp[Hdr.cells]) rfl rfl
  refine⟨q,G,?_⟩
  refine(Tryz.strings_HasPrefix (mkS value) (mkS [47]) q).mono ?_
  rintro _ _ ⟨rfl,rfl⟩
  have a8:Lib.hasPrefix (mkS value).data.toList (mkS [47]).data.toList=decide (value.head?=some 47):=(yw value 47).1
  rw[a8]
  refine⟨_,rfl,?_⟩
  unfold jS
  rw[if_neg h1,if_neg I,if_neg M,if_pos V]
  refine ai.of (λH=>?_) (λH=>?_) <;> simp only[dTx,dFx]at H
  ·refine⟨e,e,?_⟩
   obtain⟨Y,an,ag,al⟩:=D.put (P:=prog) bS (i:=3) (v:=vS value) (by simp[Hdr.cells]) rfl rfl
   refine⟨Y,an,tL ?_ (gF E al)⟩
   rw[if_pos H];exact ag
  ·rw[if_neg H];exact tL D E
 rw[beq_eq_false_iff_ne]at V
 refine ai.of (λH=>?_) (λH=>?_)
 ·rw[beq_iff_eq]at H
  refine⟨e,e,?_⟩
  obtain⟨q,G,D,E⟩:=O.put (P:=prog) jY (i:=8) (v:=.bool true) (by simp[Hdr.cells]) rfl rfl
  refine⟨q,G,tL ?_ E⟩
  unfold jS
  rw[if_neg h1,if_neg I,if_neg M,if_neg V,if_pos H];exact D
 rw[beq_eq_false_iff_ne]at H
 refine ai.of (λZ=>?_) (λZ=>?_)
 ·rw[beq_iff_eq]at Z
  refine⟨e,e,?_⟩
  obtain⟨q,G,D,E⟩:=O.put (P:=prog) jY (i:=9) (v:=.bool true) (by simp[Hdr.cells]) rfl rfl
  refine⟨q,G,tL ?_ E⟩
  unfold jS
  rw[if_neg h1,if_neg I,if_neg M,if_neg V,if_neg H,if_pos Z];exact D
 rw[beq_eq_false_iff_ne]at Z
 unfold jS
 rw[if_neg h1,if_neg I,if_neg M,if_neg V,if_neg H,if_neg Z]
 refine ai.of (λac=>?_) (λac=>?_)
 ·rw[beq_iff_eq]at ac
  rw[if_pos ac]
  refine⟨e,e,?_⟩
  obtain⟨q,G,D,E⟩:=O.put (P:=prog) fk (i:=10) (v:=vI 0) (by simp[Hdr.cells]) rfl rfl
  refine⟨q,G,?_⟩
  refine az (zb q) ?_
  rintro _ Y ⟨rfl,bj⟩
  refine⟨_,_,_,_,rfl,?_⟩
  refine⟨λm i w'=>∃j:Nat,j <=4/\i=(j:Int)/\m=4-j/\av w' k aq ({ h with same:=K7 value j } :Hdr).cells/\w.grownBy w' (some k),
   ⟨_,0,by omega,rfl,rfl,D.below bj,gF E (nC bj _)⟩,?_⟩
  intro m i
  refine aP.of ?_ _
  rintro b0 ⟨j,b8,rfl,rfl,a9,bp⟩
  refine ai.of (λbb=>?_) (λbb=>?_) <;> simp only[dTx,dFx]at bb
  ·have bs:j<4:=by omega
   have b1:i64.wrap ((j:Int)+1)=((j+1:Nat):Int):=by rw[wrap_i64 (by omega) (by omega)];omega
   try dsimp only
   rw[b1]
   have cb:(nmL[j]?.getD []).length <=6:=by
    have:∀j,j<4->(nmL[j]?.getD []).length <=6:=by decide
    exact this j bs
   refine⟨_,Qr b0 j bs,?_⟩
   refine az (Gn _ value (by omega) (by omega) b0) ?_
   rintro _ cc ⟨rfl,bk⟩
   have bc:=a9.below bk
   have bq:=gF bp (nC bk (some k))
   refine⟨_,rfl,?_⟩
   have ar:K7 value (j+1)=if cN (nmL[j]?.getD [])=cN value then(j:Int)else K7 value j:=rfl
   refine ai.of (λad=>?_) (λad=>?_)
   ·rw[beq_iff_eq]at ad
    rw[if_pos ad]at ar
    refine⟨e,e,?_⟩
    obtain⟨b6,b5,b3,b4⟩:=bc.put (P:=prog) fk (i:=10) (v:=vI (j:Int)) (by simp[Hdr.cells]) rfl rfl
    refine⟨b6,b5,4-(j+1),by omega,j+1,by omega,rfl,rfl,?_,gF bq b4⟩
    rw[ar];exact b3
   ·rw[beq_eq_false_iff_ne]at ad
    rw[if_neg ad]at ar
    refine⟨4-(j+1),by omega,j+1,by omega,rfl,rfl,?_,bq⟩
    rw[ar];exact bc
  ·have:j=4:=by omega
   subst this
   rw[Rp]at a9
   exact tL a9 bp
 ·rw[beq_eq_false_iff_ne]at ac
  rw[if_neg ac]
  exact tL O b2
end Go.Pk
