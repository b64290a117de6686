/- What the laws lean on: ShP, MapH, ShQ, ShR, Chg, Idx, RulA, SufP, Row, SufA, SufB, SufC, HdrD; what is used. Its conditions: none. -/
import Derived.Test.YtlfolncaghkmcaaGreatDoorKF
import Derived.Maps.RangeRun
import Derived.Shelf.Strings.IndexAny
import Derived.Laws.RangeAny
import Derived.WalkMore
import Derived.Lib.OthersKept
import Derived.Shelf.RegionOpenPlain
open Go.IntKind (i64)
open Go.Proofs.Tryz (prog)
set_option linter.unusedVariables false
set_option linter.unusedSimpArgs false
namespace Go.Pk
structure Plc where
 name : List UInt8
 host : Hst
 only : Bool
 path : List UInt8
 hk : host.ok
instance : DecidableEq Hst := fun a b => decidable_of_iff (a.kind = b.kind /\ a.name = b.name /\ a.ad = b.ad) (by cases a; cases b; simp)
instance : DecidableEq Plc := fun a b => decidable_of_iff (a.name = b.name /\ a.host = b.host /\ a.only = b.only /\ a.path = b.path) (by cases a; cases b; simp)
def Cky.plc (c : Cky) (o : c.ok) : Plc := ⟨c.name, c.host, c.only, c.path, o⟩
structure Kpt where
 c : Cky
 site : List UInt8
 ok : c.ok
def Kpt.plc (k : Kpt) : Plc := k.c.plc k.ok
structure ShI (L : List Kpt) (last : Int) : Prop where
 up : L.Pairwise fun a b => a.c.seq < b.c.seq
 lo : ∀ k ∈ L, 1 <= k.c.seq /\ k.c.seq <= last
 key : L.Pairwise fun a b => a.plc ≠ b.plc
 l0 : 0 <= last
def atK (L : List Kpt) (p : Plc) : Option Kpt := L.find? fun k => decide (k.plc = p)
def putK (L : List Kpt) (last : Int) (c : Kpt) : List Kpt × Int :=
 match atK L c.plc with
 | some o => (L.map fun k => if k.plc = c.plc then ⟨{ c.c with born := o.c.born, seq := o.c.seq }, c.site, c.ok⟩ else k, last)
 | none => (L ++ [⟨{ c.c with seq := last + 1 }, c.site, c.ok⟩], last + 1)
def dropK (L : List Kpt) (p : Plc) : List Kpt := L.filter fun k => !decide (k.plc = p)
def useK (L : List Kpt) (p : Plc) (now : Int) : List Kpt := L.map fun k => if k.plc = p then ⟨{ k.c with used := now }, k.site, k.ok⟩ else k
def expK (L : List Kpt) (now : Int) : List Kpt := L.filter fun k => decide (now < k.c.exp)
def cntK (L : List Kpt) (s : List UInt8) : Nat := L.countP fun k => decide (k.site = s)
def oldS (of : Kpt -> Bool) : List Kpt -> Option Kpt -> Option Kpt
 | [], b => b
 | k :: r, b => oldS of r (if of k = true then (match b with | none => some k | some x => if k.c.used < x.c.used then some k else some x) else b)
def oldK (L : List Kpt) (of : Kpt -> Bool) : Option Kpt := oldS of L none
theorem qgf {L : List Kpt} {p : Plc} {k : Kpt} (h : atK L p = some k) : k ∈ L /\ k.plc = p := by
 unfold atK at h
 exact ⟨List.mem_of_find?_eq_some h, by simpa using List.find?_some h⟩
theorem qhD {L : List Kpt} {p : Plc} (h : atK L p = none) : ∀ k ∈ L, k.plc ≠ p := fun k hk => by
 unfold atK at h
 simpa using List.find?_eq_none.1 h k hk
theorem ShI.nil : ShI [] 0 := ⟨List.Pairwise.nil, (fun k h => by cases h), List.Pairwise.nil, Int.le_refl _⟩
theorem ShI.filter {L : List Kpt} {last : Int} (h : ShI L last) (p : Kpt -> Bool) : ShI (L.filter p) last :=
 ⟨h.up.filter p, fun k hk => h.lo k (List.mem_filter.1 hk).1, h.key.filter p, h.l0⟩
theorem ShI.use {L : List Kpt} {last : Int} (h : ShI L last) (p : Plc) (now : Int) : ShI (useK L p now) last := by
 have e : ∀ k : Kpt, (if k.plc = p then (⟨{ k.c with used := now }, k.site, k.ok⟩ : Kpt) else k).c.seq = k.c.seq /\ (if k.plc = p then (⟨{ k.c with used := now }, k.site, k.ok⟩ : Kpt) else k).plc = k.plc := by
   intro k; split <;> exact ⟨rfl, rfl⟩
 unfold useK
 refine ⟨?_, ?_, ?_, h.l0⟩
 · rw [List.pairwise_map]; exact h.up.imp fun {a b} hab => by rw [(e a).1, (e b).1]; exact hab
 · intro k hk
   obtain ⟨x, hx, rfl⟩ := List.mem_map.1 hk
   rw [(e x).1]; exact h.lo x hx
 · rw [List.pairwise_map]; exact h.key.imp fun {a b} hab => by rw [(e a).2, (e b).2]; exact hab
theorem ShI.put {L : List Kpt} {last : Int} (h : ShI L last) (c : Kpt) : ShI (putK L last c).1 (putK L last c).2 := by
 unfold putK
 cases ha : atK L c.plc with
 | none =>
   have hn := qhD ha
   refine ⟨?_, ?_, ?_, by have := h.l0; show 0 <= last + 1; omega⟩
   · rw [List.pairwise_append]
     refine ⟨h.up, List.pairwise_singleton _ _, fun a ha' b hb => ?_⟩
     rw [List.mem_singleton.1 hb]
     have := (h.lo a ha').2
     show a.c.seq < last + 1
     omega
   · intro k hk
     rcases List.mem_append.1 hk with hk | hk
     · have := h.lo k hk
       exact ⟨this.1, by show k.c.seq <= last + 1; omega⟩
     · rw [List.mem_singleton.1 hk]
       have := h.l0
       exact ⟨by show 1 <= last + 1; omega, Int.le_refl _⟩
   · rw [List.pairwise_append]
     refine ⟨h.key, List.pairwise_singleton _ _, fun a ha' b hb => ?_⟩
     rw [List.mem_singleton.1 hb]
     exact hn a ha'
 | some o =>
   obtain ⟨ho, hp⟩ := qgf ha
   have one : ∀ k ∈ L, k.plc = c.plc -> k.c.seq = o.c.seq := fun k hk hkp => by
     have : k = o := by
       by_cases e : k = o
       · exact e
       · exact absurd (hkp.trans hp.symm) (by
           have := h.key
           rcases List.mem_iff_getElem.1 hk with ⟨i, hi, rfl⟩
           rcases List.mem_iff_getElem.1 ho with ⟨j, hj, rfl⟩
           have hij : i ≠ j := fun x => e (by subst x; rfl)
           have hpw := List.pairwise_iff_getElem.1 h.key
           rcases Nat.lt_or_gt_of_ne hij with hl | hl
           · exact hpw i j hi hj hl
           · exact fun x => hpw j i hj hi hl x.symm)
     rw [this]
   have e : ∀ k ∈ L, (if k.plc = c.plc then (⟨{ c.c with born := o.c.born, seq := o.c.seq }, c.site, c.ok⟩ : Kpt) else k).c.seq = k.c.seq /\ (if k.plc = c.plc then (⟨{ c.c with born := o.c.born, seq := o.c.seq }, c.site, c.ok⟩ : Kpt) else k).plc = k.plc := by
     intro k hk
     split
     · rename_i hkp; exact ⟨(one k hk hkp).symm, hkp.symm⟩
     · exact ⟨rfl, rfl⟩
   refine ⟨?_, ?_, ?_, h.l0⟩
   · rw [List.pairwise_map]
     exact List.Pairwise.imp_of_mem (fun {a b} ha hb hab => by rw [(e a ha).1, (e b hb).1]; exact hab) h.up
   · intro k hk
     obtain ⟨x, hx, rfl⟩ := List.mem_map.1 hk
     rw [(e x hx).1]; exact h.lo x hx
   · rw [List.pairwise_map]
     exact List.Pairwise.imp_of_mem (fun {a b} ha hb hab => by rw [(e a ha).2, (e b hb).2]; exact hab) h.key
structure MRep (M : List (Plc × Kpt)) (L : List Kpt) : Prop where
 perm : (M.map (·.2)).Perm L
 own : ∀ q ∈ M, q.1 = q.2.plc
theorem MRep.nil : MRep [] [] := ⟨List.Perm.refl _, fun q h => by cases h⟩
theorem MRep.keys {M : List (Plc × Kpt)} {L : List Kpt} (h : MRep M L) : (M.map (·.1)).Perm (L.map Kpt.plc) := by
 have e : M.map (·.1) = (M.map (·.2)).map Kpt.plc := by
   rw [List.map_map]
   exact List.map_congr_left fun q hq => h.own q hq
 rw [e]; exact h.perm.map _
theorem MRep.nodup {M : List (Plc × Kpt)} {L : List Kpt} {last : Int} (h : MRep M L) (s : ShI L last) : (M.map (·.1)).Nodup := by
 rw [h.keys.nodup_iff]
 have := s.key
 rw [List.Nodup, List.pairwise_map]
 exact this
theorem look_mem {α β : Type} [DecidableEq α] {k : α} {v : β} : ∀ {l : List (α × β)}, qfL k l = some v -> (k, v) ∈ l
 | [], h => by cases h
 | (k', v') :: l, h => by
   unfold qfL at h
   split at h
   · rename_i e; subst e; cases h; exact List.mem_cons_self
   · exact List.mem_cons_of_mem _ (look_mem h)
theorem look_of_mem {α β : Type} [DecidableEq α] {k : α} {v : β} : ∀ {l : List (α × β)}, (l.map (·.1)).Nodup -> (k, v) ∈ l -> qfL k l = some v
 | [], _, h => by cases h
 | (k', v') :: l, hn, h => by
   rw [List.map_cons, List.nodup_cons] at hn
   unfold qfL
   rcases List.mem_cons.1 h with e | h
   · cases e; rw [if_pos rfl]
   · rw [if_neg, look_of_mem hn.2 h]
     intro e
     exact hn.1 (List.mem_map.2 ⟨(k, v), h, e⟩)
theorem MRep.look {M : List (Plc × Kpt)} {L : List Kpt} {last : Int} (h : MRep M L) (s : ShI L last) (p : Plc) : qfL p M = atK L p := by
 cases ha : atK L p with
 | some k =>
   obtain ⟨hk, hp⟩ := qgf ha
   obtain ⟨q, hq, e⟩ := List.mem_map.1 (h.perm.mem_iff.2 hk)
   refine look_of_mem (h.nodup s) ?_
   have : q = (p, k) := Prod.ext ((h.own q hq).trans (by rw [e, hp])) e
   rw [<- this]; exact hq
 | none =>
   cases hl : qfL p M with
   | none => rfl
   | some v =>
     have hm := look_mem hl
     exact absurd (h.own _ hm).symm (qhD ha v (h.perm.mem_iff.1 (List.mem_map.2 ⟨_, hm, rfl⟩)))
theorem MRep.drop {M : List (Plc × Kpt)} {L : List Kpt} (h : MRep M L) (p : Plc) : MRep (M.filter fun q => !decide (q.1 = p)) (dropK L p) := by
 refine ⟨?_, fun q hq => h.own q (List.mem_filter.1 hq).1⟩
 have e : (M.filter fun q => !decide (q.1 = p)).map (·.2) = (M.map (·.2)).filter fun k => !decide (k.plc = p) := by
   rw [List.filter_map]
   congr 1
   exact List.filter_congr fun q hq => by rw [h.own q hq]; rfl
 rw [e]
 exact h.perm.filter _
end Go.Pk
set_option linter.unusedSectionVars false
namespace Go.Pk
open Go.RowKit (Below)
open Go.ChangeMaps (setBlock)
section
variable {α β : Type} [DecidableEq α]
def MapS (ek : α -> Value) (ev : β -> Value) (w : World) (r : Nat) (kvs : List (α × β)) : Prop :=
 ∃ es clock, w.heap[r]? = some (.map es clock) /\ KVg ek ev es.toList kvs /\ (es.toList.map (·.born)).Nodup /\ ∀ e ∈ es.toList, e.born < clock
variable {ek : α -> Value} {ev : β -> Value}
theorem MapS.g {w : World} {r : Nat} {kvs : List (α × β)} (h : MapS ek ev w r kvs) : MapG ek ev w r kvs := by
 obtain ⟨es, c, hh, hk, _⟩ := h
 exact ⟨es, c, hh, hk⟩
theorem MapS.lt {w : World} {r : Nat} {kvs : List (α × β)} (h : MapS ek ev w r kvs) : r < w.heap.size := h.g.lt
theorem MapS.keep {w w' : World} {r : Nat} {kvs : List (α × β)} (h : MapS ek ev w r kvs) (hb : w'.heap[r]? = w.heap[r]?) : MapS ek ev w' r kvs := by
 obtain ⟨es, c, hh, hk⟩ := h
 exact ⟨es, c, hb.trans hh, hk⟩
theorem MapS.below {w w' : World} {r : Nat} {kvs : List (α × β)} (h : MapS ek ev w r kvs) (hb : Below w.heap.size w w') : MapS ek ev w' r kvs := h.keep (hb.block r h.lt)
theorem MapS.grown {w w' : World} {r : Nat} {kvs : List (α × β)} (h : MapS ek ev w r kvs) {k : Nat} (hg : w.grownBy w' (some k)) (hne : r ≠ k) : MapS ek ev w' r kvs := h.keep (hg.block r h.lt fun e => hne (Option.some.inj e))
theorem MapS.new {w w' : World} {r : Nat} (hr : r = w.heap.size) (hw : w' = w.alloc (.map #[] 0)) : MapS ek ev w' r [] := by
 subst hr hw
 exact ⟨#[], 0, heap_alloc_new w _, rfl, List.nodup_nil, fun e he => by cases he⟩
theorem qp5 {γ δ : Type} (f : γ -> δ) : ∀ (l : List γ) (i : Nat), (l.eraseIdx i).map f = (l.map f).eraseIdx i
 | [], _ => rfl
 | x :: l, 0 => rfl
 | x :: l, i + 1 => by
   show f x :: (l.eraseIdx i).map f = f x :: (l.map f).eraseIdx i
   rw [qp5 f l i]
def delK (k : α) (kvs : List (α × β)) : List (α × β) := match qfZ k kvs 0 with
 | some (i, _) => kvs.eraseIdx i
 | none => kvs
theorem qAv {es : List MapEntry} {kvs : List (α × β)} (h : KVg ek ev es kvs) (i : Nat) : KVg ek ev (es.eraseIdx i) (kvs.eraseIdx i) := by
 unfold KVg at h ⊢
 rw [qp5, qp5, h]
theorem qxJ {es : List MapEntry} {kvs : List (α × β)} (h : KVg ek ev es kvs) : es.length = kvs.length := by
 have := congrArg List.length h
 simpa using this
theorem qov {P : Program} {w : World} {r : Nat} {es : Array MapEntry} {c : Nat} (h : w.heap[r]? = some (.map es c)) (o : Obj) : (setObj r o).run P w = .ok () { w with heap := w.heap.setIfInBounds r o } := by
 simp only [setObj, Sem.run, h]
theorem qnp {w : World} {r : Nat} (o : Obj) : w.grownBy { w with heap := w.heap.setIfInBounds r o } (some r) :=
 ⟨rfl, rfl, rfl, by simp, fun j hj hne => by
   have : r ≠ j := fun e => hne (by rw [e])
   simp [Array.getElem?_setIfInBounds_ne this]⟩
theorem MapS.del {P : Program} {mt kt et : TypeId} (hm : P.underlying mt = some (.map kt et)) (hk : qpk P kt ek) {w : World} {r : Nat} {kvs : List (α × β)} (h : MapS ek ev w r kvs) (k : α) (ts : Array TypeId) (t : TypeId) (ht : ts[0]? = some mt) :
   ∃ w', (Builtin.delete_ ts t #[.map (some r), ek k]).run P w = .ok (.tuple #[]) w' /\ MapS ek ev w' r (delK k kvs) /\ w.grownBy w' (some r) := by
 obtain ⟨es, c, hh, hkv, hn, hc⟩ := h
 have hlt : r < w.heap.size := (Array.getElem?_eq_some_iff.1 hh).1
 unfold Builtin.delete_ delK
 cases hi : qfZ k kvs 0 with
 | none =>
   refine ⟨_, ?_, ⟨es, c, ?_, hkv, hn, hc⟩, qnp (.map es c)⟩
   · simp only [ht, List.getElem?_toArray, List.getElem?_cons_zero, List.getElem?_cons_succ, Sem.run_bind, jE hm, Result.andThen_ok, qme hh, hk.check, hk.find ev k _ _ _ hkv, hi, Option.map_none, qov hh, Sem.run_pure]
   · simp [hlt]
 | some p =>
   obtain ⟨i, v⟩ := p
   refine ⟨_, ?_, ⟨es.eraseIdxIfInBounds i, c, ?_, ?_, ?_, ?_⟩, qnp (.map (es.eraseIdxIfInBounds i) c)⟩
   · simp only [ht, List.getElem?_toArray, List.getElem?_cons_zero, List.getElem?_cons_succ, Sem.run_bind, jE hm, Result.andThen_ok, qme hh, hk.check, hk.find ev k _ _ _ hkv, hi, Option.map_some, qov hh, Sem.run_pure]
   · simp [hlt]
   · rw [Array.toList_eraseIdxIfInBounds]; exact qAv hkv i
   · rw [Array.toList_eraseIdxIfInBounds, qp5]
     exact hn.sublist (List.eraseIdx_sublist _ _)
   · rw [Array.toList_eraseIdxIfInBounds]
     exact fun e he => hc e (List.mem_of_mem_eraseIdx he)
def upG (k : α) (v : β) (kvs : List (α × β)) : List (α × β) := match qfZ k kvs 0 with
 | some (i, _) => kvs.set i (k, v)
 | none => kvs ++ [(k, v)]
theorem qlx (k : α) : ∀ (l : List (α × β)) (i j : Nat) (v : β), qfZ k l i = some (j, v) -> i <= j /\ l[j - i]? = some (k, v)
 | [], i, j, v, h => by cases h
 | (k', v') :: l, i, j, v, h => by
   unfold qfZ at h
   split at h
   · rename_i e
     subst e
     cases h
     exact ⟨Nat.le_refl _, by rw [Nat.sub_self]; rfl⟩
   · obtain ⟨h1, h2⟩ := qlx k l (i + 1) j v h
     refine ⟨by omega, ?_⟩
     rw [show j - i = (j - (i + 1)) + 1 by omega, List.getElem?_cons_succ]
     exact h2
theorem qzk {es : List MapEntry} {kvs : List (α × β)} (h : KVg ek ev es kvs) {i : Nat} {k : α} {v v' : β} (hi : kvs[i]? = some (k, v')) (f : MapEntry -> MapEntry) (hf : ∀ e, e.key = ek k -> (f e).key = ek k /\ (f e).val = ev v) : KVg ek ev (es.modify i f) (kvs.set i (k, v)) := by
 unfold KVg at h ⊢
 apply List.ext_getElem?
 intro j
 have hj := congrArg (fun l => l[j]?) h
 simp only [List.getElem?_map] at hj ⊢
 rw [List.getElem?_modify, List.getElem?_set]
 by_cases e : i = j
 · subst e
   rw [if_pos rfl]
   rw [hi] at hj
   cases he : es[i]? with
   | none => rw [he] at hj; cases hj
   | some x =>
     rw [he] at hj
     have hx : x.key = ek k := congrArg Prod.fst (Option.some.inj hj)
     obtain ⟨f1, f2⟩ := hf x hx
     have hlt : i < kvs.length := (List.getElem?_eq_some_iff.1 hi).1
     rw [if_pos hlt]
     simp [f1, f2]
 · rw [if_neg e]
   cases he : es[j]? with
   | none => rw [he] at hj; simpa using hj
   | some x => rw [he] at hj; simpa [e] using hj
theorem qsD (es : List MapEntry) (i : Nat) (f : MapEntry -> MapEntry) (hf : ∀ e, (f e).born = e.born) : (es.modify i f).map (·.born) = es.map (·.born) := by
 apply List.ext_getElem?
 intro j
 rw [List.getElem?_map, List.getElem?_map, List.getElem?_modify]
 cases es[j]? with
 | none => rfl
 | some x => by_cases e : i = j <;> simp [e, hf]
theorem qCy {es es' : List MapEntry} {c : Nat} (h : ∀ e ∈ es, e.born < c) (he : es'.map (·.born) = es.map (·.born)) : ∀ e ∈ es', e.born < c := fun e hm => by
 have : e.born ∈ es.map (·.born) := by rw [<- he]; exact List.mem_map.2 ⟨e, hm, rfl⟩
 obtain ⟨x, hx, hxe⟩ := List.mem_map.1 this
 rw [<- hxe]; exact h x hx
theorem stays {P : Program} {v : Value} (h : Instr.sameBits 10000 v v = true) (w : World) : (Instr.keyThatStays v v).run P w = .ok v w := by
 unfold Instr.keyThatStays
 rw [if_pos h]; rfl
theorem MapS.up {P : Program} {mt kt et : TypeId} (hm : P.underlying mt = some (.map kt et)) (hk : qpk P kt ek) (hs : ∀ k, Instr.sameBits 10000 (ek k) (ek k) = true) {w : World} {r : Nat} {kvs : List (α × β)} (h : MapS ek ev w r kvs) (k : α) (v : β) :
   ∃ w', (Instr.mapUpdate mt (.map (some r)) (ek k) (ev v)).run P w = .ok () w' /\ MapS ek ev w' r (upG k v kvs) /\ w.grownBy w' (some r) := by
 obtain ⟨es, c, hh, hkv, hn, hc⟩ := h
 have hlt : r < w.heap.size := (Array.getElem?_eq_some_iff.1 hh).1
 unfold Instr.mapUpdate upG
 cases hi : qfZ k kvs 0 with
 | none =>
   refine ⟨_, ?_, ⟨es.push { key := ek k, val := ev v, born := c }, c + 1, ?_, ?_, ?_, ?_⟩, qnp (.map (es.push { key := ek k, val := ev v, born := c }) (c + 1))⟩
   · simp only [Sem.run_bind, jE hm, Result.andThen_ok, qme hh, hk.check, hk.find ev k _ _ _ hkv, hi, Option.map_none, qov hh]
   · simp [hlt]
   · unfold KVg at hkv ⊢
     simp only [Array.toList_push, List.map_append, List.map_cons, List.map_nil, hkv]
   · rw [Array.toList_push, List.map_append, List.nodup_append]
     refine ⟨hn, by simp, fun a ha b hb => ?_⟩
     obtain ⟨e, he, rfl⟩ := List.mem_map.1 ha
     simp only [List.map_cons, List.map_nil, List.mem_singleton] at hb
     have := hc e he
     omega
   · intro e he
     rw [Array.toList_push] at he
     rcases List.mem_append.1 he with he | he
     · have := hc e he; omega
     · rw [List.mem_singleton.1 he]; exact Nat.lt_succ_self _
 | some p =>
   obtain ⟨i, v'⟩ := p
   obtain ⟨_, hat⟩ := qlx k kvs 0 i v' hi
   rw [Nat.sub_zero] at hat
   have hkey : ((es[i]?).map (·.key)).getD (ek k) = ek k := by
     have := congrArg (fun l => l[i]?) hkv
     simp only [List.getElem?_map, hat, Array.getElem?_toList] at this
     cases he : es[i]? with
     | none => rfl
     | some x =>
       rw [he] at this
       exact congrArg Prod.fst (Option.some.inj this)
   refine ⟨_, ?_, ⟨es.modify i (fun e => { e with key := ek k, val := ev v }), c, ?_, ?_, ?_, ?_⟩, qnp (.map (es.modify i fun e => { e with key := ek k, val := ev v }) c)⟩
   · simp only [Sem.run_bind, jE hm, Result.andThen_ok, qme hh, hk.check, hk.find ev k _ _ _ hkv, hi, Option.map_some, hkey, stays (hs k), qov hh]
   · simp [hlt]
   · rw [Array.toList_modify]; exact qzk hkv hat _ fun e _ => ⟨rfl, rfl⟩
   · rw [Array.toList_modify, qsD es.toList i (fun e => { e with key := ek k, val := ev v }) (fun e => rfl)]; exact hn
   · rw [Array.toList_modify]; exact qCy hc (qsD es.toList i (fun e => { e with key := ek k, val := ev v }) (fun e => rfl))
def qgZ (ek : α -> Value) (ev : β -> Value) (w : World) (r m : Nat) (kvs left : List (α × β)) : Prop :=
 ∃ since seen c0 es clock, w.heap[r]? = some (.mapIter (some m) since seen c0) /\ w.heap[m]? = some (.map es clock) /\ KVg ek ev es.toList kvs /\ (es.toList.map (·.born)).Nodup /\ (∀ e ∈ es.toList, e.born < clock) /\ (∀ e ∈ es.toList, e.born < since) /\ since <= c0 /\ since <= clock /\ KVg ek ev (leftOf es seen).toList left
theorem qgZ.map {w : World} {r m : Nat} {kvs left : List (α × β)} (h : qgZ ek ev w r m kvs left) : MapS ek ev w m kvs := by
 obtain ⟨_, _, _, es, c, _, h2, h3, h4, h5, _⟩ := h
 exact ⟨es, c, h2, h3, h4, h5⟩
theorem qgZ.keep {w w' : World} {r m : Nat} {kvs left : List (α × β)} (h : qgZ ek ev w r m kvs left) (hr : w'.heap[r]? = w.heap[r]?) (hm : w'.heap[m]? = w.heap[m]?) : qgZ ek ev w' r m kvs left := by
 obtain ⟨a, b, c, d, e, h1, h2, h3⟩ := h
 exact ⟨a, b, c, d, e, hr.trans h1, hm.trans h2, h3⟩
theorem qgZ.lt {w : World} {r m : Nat} {kvs left : List (α × β)} (h : qgZ ek ev w r m kvs left) : r < w.heap.size := by
 obtain ⟨_, _, _, _, _, h1, _⟩ := h
 exact (Array.getElem?_eq_some_iff.1 h1).1
theorem qgZ.below {w w' : World} {r m : Nat} {kvs left : List (α × β)} (h : qgZ ek ev w r m kvs left) (hb : Below w.heap.size w w') : qgZ ek ev w' r m kvs left := h.keep (hb.block r h.lt) (hb.block m h.map.lt)
theorem qqn {P : Program} {mt kt et : TypeId} (hm : P.underlying mt = some (.map kt et)) {w : World} {m : Nat} {kvs : List (α × β)} (h : MapS ek ev w m kvs) :
   ∃ w', (Instr.range mt (.map (some m))).run P w = .ok (.pointer (some ⟨w.heap.size, 0, none⟩)) w' /\ qgZ ek ev w' w.heap.size m kvs kvs /\ Below w.heap.size w w' := by
 obtain ⟨es, c, hh, hkv, hn, hc⟩ := h
 refine ⟨w.alloc (.mapIter (some m) c #[] c), ?_, ⟨c, #[], c, es, c, heap_alloc_new w _, ?_, hkv, hn, hc, hc, Nat.le_refl _, Nat.le_refl _, ?_⟩, qj w _⟩
 · unfold Instr.range
   simp only [Sem.run_bind, jE hm, Result.andThen_ok, qme hh, Sem.run_pure]
   rfl
 · exact ((qj w _).block m (Array.getElem?_eq_some_iff.1 hh).1).trans hh
 · have : leftOf es #[] = es := by
     unfold leftOf
     rw [Array.filter_eq_self]
     intro e he
     simp
   rw [this]; exact hkv
theorem filter_one {γ : Type} (f : γ -> Nat) : ∀ (l : List γ) (e : γ), (l.map f).Nodup -> e ∈ l -> ∃ l1 l2, l = l1 ++ e :: l2 /\ l.filter (fun x => !decide (f x = f e)) = l1 ++ l2
 | [], e, _, h => by cases h
 | x :: l, e, hn, h => by
   rw [List.map_cons, List.nodup_cons] at hn
   rcases List.mem_cons.1 h with rfl | h
   · refine ⟨[], l, rfl, ?_⟩
     rw [List.filter_cons, if_neg (by simp), List.nil_append, List.filter_eq_self]
     intro y hy
     have : f y ≠ f e := fun c => hn.1 (List.mem_map.2 ⟨y, hy, c⟩)
     simp [this]
   · obtain ⟨l1, l2, h1, h2⟩ := filter_one f l e hn.2 h
     refine ⟨x :: l1, l2, by rw [h1]; rfl, ?_⟩
     have : f x ≠ f e := fun c => hn.1 (List.mem_map.2 ⟨e, h, c.symm⟩)
     rw [List.filter_cons, if_pos (by simp [this]), h2]; rfl
theorem qgZ.step {P : Program} {w : World} {r m : Nat} {kvs left : List (α × β)} (h : qgZ ek ev w r m kvs left) (hne : r ≠ m) (ty : TypeId) :
   (left = [] /\ (Instr.next (.pointer (some ⟨r, 0, none⟩)) false ty).run P w = .ok (.tuple #[.bool false]) w) \/
   ∃ l1 k v l2 w', left = l1 ++ (k, v) :: l2 /\ (Instr.next (.pointer (some ⟨r, 0, none⟩)) false ty).run P w = .ok (.tuple #[.bool true, ek k, ev v]) w' /\ qgZ ek ev w' r m kvs (l1 ++ l2) /\ (Instr.entry (.pointer (some ⟨r, 0, none⟩))).run P w' = .ok (.tuple #[ek k, ev v]) w' /\ w.grownBy w' (some r) := by
 obtain ⟨since, seen, c0, es, clock, hr, hm, hkv, hn, hc, hs, hsc, hsk, hl⟩ := h
 rcases run_next_at (P := P) w ty r m since c0 seen es clock hr hm hs hsc with ⟨h0, hrun⟩ | ⟨e, he, w1, hw1, hrun⟩
 · refine .inl ⟨?_, hrun⟩
   have := qxJ hl
   rw [Array.length_toList, h0] at this
   exact List.eq_nil_of_length_eq_zero this.symm
 · refine .inr ?_
   have hrl : r < w.heap.size := (Array.getElem?_eq_some_iff.1 hr).1
   have hhp : w1.heap = w.heap := by rcases hw1 with rfl | rfl <;> rfl
   have hel := mem_left he
   -- what is left
   have hleft : (leftOf es (seen.push e.born)).toList = (leftOf es seen).toList.filter fun x => !decide (x.born = e.born) := by
     unfold leftOf
     rw [Array.toList_filter, Array.toList_filter, List.filter_filter]
     exact List.filter_congr fun x hx => by
       rw [Bool.eq_iff_iff]
       simp [Array.mem_push, and_comm]
   have hnl : ((leftOf es seen).toList.map (·.born)).Nodup := by
     unfold leftOf
     rw [Array.toList_filter]
     exact hn.sublist ((List.filter_sublist).map _)
   obtain ⟨l1, l2, e1, e2⟩ := filter_one (·.born) _ e hnl he
   -- the keys and values of it
   have hkl := hl
   unfold KVg at hkl
   rw [e1, List.map_append, List.map_cons] at hkl
   obtain ⟨q1, q2, hq, hq1, hq2⟩ := List.map_eq_append_iff.1 hkl.symm
   cases q2 with
   | nil => cases hq2
   | cons p q2 =>
     obtain ⟨k, v⟩ := p
     rw [List.map_cons, List.cons.injEq] at hq2
     have hkey : e.key = ek k := (congrArg Prod.fst hq2.1).symm
     have hval : e.val = ev v := (congrArg Prod.snd hq2.1).symm
     have hset : (setBlock w1 r (.mapIter (some m) since (seen.push e.born) clock)).heap[r]? = some (.mapIter (some m) since (seen.push e.born) clock) := by
       unfold setBlock
       simp [hhp, hrl]
     have hset2 : (setBlock w1 r (.mapIter (some m) since (seen.push e.born) clock)).heap[m]? = some (.map es clock) := by
       unfold setBlock
       simp only [hhp]
       rw [Array.getElem?_setIfInBounds_ne hne]; exact hm
     refine ⟨q1, k, v, q2, setBlock w1 r (.mapIter (some m) since (seen.push e.born) clock), hq, ?_, ⟨since, seen.push e.born, clock, es, clock, hset, hset2, hkv, hn, hc, hs, hsk, hsk, ?_⟩, ?_, ?_⟩
     · rw [<- hkey, <- hval]; exact hrun
     · unfold KVg
       rw [hleft, e2, List.map_append, List.map_append, hq1, hq2.2]
     · rw [<- hkey, <- hval]
       exact run_entry_at _ r m since seen es clock e hset hset2 hel.1 hn
     · rcases hw1 with rfl | rfl
       · exact qnp _
       · have hd := qT w
         refine ⟨hd.os, hd.tape, hd.output, ?_, fun j hj hnj => ?_⟩
         · have := hd.size
           show _ <= (Array.setIfInBounds _ _ _).size
           rw [Array.size_setIfInBounds]; exact this
         · have : r ≠ j := fun c => hnj (by rw [c])
           show (Array.setIfInBounds _ _ _)[j]? = _
           rw [Array.getElem?_setIfInBounds_ne this]
           exact hd.block j hj
end
end Go.Pk
namespace Go.Pk
section
variable {α β : Type} [DecidableEq α]
theorem look_none {k : α} : ∀ {l : List (α × β)} {i : Nat}, qfZ k l i = none -> ∀ q ∈ l, q.1 ≠ k
 | [], _, _, q, hq => by cases hq
 | (k', v') :: l, i, h, q, hq => by
   unfold qfZ at h
   split at h
   · cases h
   · rename_i e
     rcases List.mem_cons.1 hq with rfl | hq
     · exact fun x => e x.symm
     · exact look_none h q hq
theorem qpp {k : α} : ∀ {l : List (α × β)}, (l.map (·.1)).Nodup -> delK k l = l.filter fun q => !decide (q.1 = k) := by
 intro l hn
 unfold delK
 cases hi : qfZ k l 0 with
 | none =>
   rw [List.filter_eq_self.2]
   intro q hq
   simpa using look_none hi q hq
 | some p =>
   obtain ⟨i, v⟩ := p
   obtain ⟨_, hat⟩ := qlx k l 0 i v hi
   rw [Nat.sub_zero] at hat
   obtain ⟨hlt, he⟩ := List.getElem?_eq_some_iff.1 hat
   have hs : l = l.take i ++ (k, v) :: l.drop (i + 1) := by
     conv => lhs; rw [<- List.take_append_drop i l, List.drop_eq_getElem_cons hlt, he]
   show l.eraseIdx i = _
   rw [List.eraseIdx_eq_take_drop_succ]
   conv => rhs; rw [hs]
   rw [hs, List.map_append, List.map_cons, List.nodup_append, List.nodup_cons] at hn
   obtain ⟨n1, ⟨n2, n3⟩, n4⟩ := hn
   rw [List.filter_append, List.filter_cons, if_neg (by simp)]
   congr 1
   · rw [List.filter_eq_self.2]
     · intro q hq
       have := n4 q.1 (List.mem_map.2 ⟨q, hq, rfl⟩) k (List.mem_cons_self ..)
       simpa using this
   · rw [List.filter_eq_self.2]
     intro q hq
     have : q.1 ≠ k := fun c => n2 (List.mem_map.2 ⟨q, hq, c⟩)
     simpa using this
theorem qrE {k k' : α} : ∀ {l : List (α × β)}, qfL k' (l.filter fun q => !decide (q.1 = k)) = if k' = k then none else qfL k' l
 | [] => by split <;> rfl
 | (x, v) :: l => by
   have ih := qrE (k := k) (k' := k') (l := l)
   rw [List.filter_cons]
   by_cases e : x = k
   · subst e
     rw [if_neg (by simp), ih]
     by_cases e2 : k' = x
     · rw [if_pos e2, if_pos e2]
     · rw [if_neg e2, if_neg e2]
       show _ = (if k' = x then _ else _)
       rw [if_neg e2]
   · rw [if_pos (by simpa using e)]
     show (if k' = x then some v else qfL k' _) = _
     by_cases e2 : k' = x
     · rw [if_pos e2]
       rw [if_neg (fun c => e (e2.symm.trans c))]
       show _ = (if k' = x then some v else _)
       rw [if_pos e2]
     · rw [if_neg e2, ih]
       by_cases e3 : k' = k
       · rw [if_pos e3, if_pos e3]
       · rw [if_neg e3, if_neg e3]
         show _ = (if k' = x then some v else _)
         rw [if_neg e2]
theorem qwN {k k' : α} {v : β} : ∀ {l : List (α × β)} {i j : Nat} {v0 : β}, qfZ k l i = some (j, v0) -> qfL k' (l.set (j - i) (k, v)) = if k' = k then some v else qfL k' l
 | [], _, _, _, h => by cases h
 | (x, y) :: l, i, j, v0, h => by
   unfold qfZ at h
   split at h
   · rename_i e
     subst e
     cases h
     rw [Nat.sub_self, List.set_cons_zero]
     show (if k' = k then some v else qfL k' l) = if k' = k then some v else (if k' = k then some y else qfL k' l)
     split <;> rfl
   · rename_i e
     have hle := (qlx k l (i + 1) j v0 h).1
     have ih := qwN (k' := k') (v := v) h
     rw [show j - i = (j - (i + 1)) + 1 by omega, List.set_cons_succ]
     show (if k' = x then some y else qfL k' _) = if k' = k then some v else (if k' = x then some y else qfL k' l)
     by_cases e2 : k' = x
     · rw [if_pos e2, if_pos e2, if_neg (fun c => e (c.symm.trans e2))]
     · rw [if_neg e2, if_neg e2, ih]
theorem qsq {k k' : α} {v : β} {l : List (α × β)} : qfL k' (upG k v l) = if k' = k then some v else qfL k' l := by
 unfold upG
 cases hi : qfZ k l 0 with
 | none =>
   show qfL k' (l ++ [(k, v)]) = _
   rw [lookG_app]
   by_cases e : k' = k
   · subst e
     have : qfL k' l = none := by rw [<- qpD k' l 0, hi]; rfl
     rw [this, if_pos rfl]; rfl
   · rw [if_neg e, if_neg e]
     cases qfL k' l <;> rfl
 | some p =>
   obtain ⟨j, v0⟩ := p
   have := qwN (k' := k') (v := v) hi
   rw [Nat.sub_zero] at this
   exact this
theorem qBx {k : α} {v : β} {l : List (α × β)} {j : Nat} {v0 : β} (h : qfZ k l 0 = some (j, v0)) : (l.set j (k, v)).map (·.1) = l.map (·.1) := by
 obtain ⟨_, hat⟩ := qlx k l 0 j v0 h
 rw [Nat.sub_zero] at hat
 obtain ⟨hlt, he⟩ := List.getElem?_eq_some_iff.1 hat
 rw [List.map_set]
 apply List.ext_getElem?
 intro i
 rw [List.getElem?_set]
 by_cases e : j = i
 · subst e
   rw [if_pos rfl, if_pos (by simpa using hlt), List.getElem?_map, hat]; rfl
 · rw [if_neg e]
theorem qss {k : α} {v : β} {l : List (α × β)} (h : (l.map (·.1)).Nodup) : ((upG k v l).map (·.1)).Nodup := by
 unfold upG
 cases hi : qfZ k l 0 with
 | none =>
   show ((l ++ [(k, v)]).map (·.1)).Nodup
   rw [List.map_append, List.nodup_append]
   refine ⟨h, by simp, fun a ha b hb => ?_⟩
   obtain ⟨q, hq, rfl⟩ := List.mem_map.1 ha
   simp only [List.map_cons, List.map_nil, List.mem_singleton] at hb
   rw [hb]; exact look_none hi q hq
 | some p =>
   obtain ⟨j, v0⟩ := p
   show ((l.set j (k, v)).map (·.1)).Nodup
   rw [qBx hi]; exact h
theorem qzY {k : α} {l : List (α × β)} (h : (l.map (·.1)).Nodup) : ((delK k l).map (·.1)).Nodup := by
 rw [qpp h]
 exact h.sublist ((List.filter_sublist).map _)
theorem qAC {k k' : α} {l : List (α × β)} (h : (l.map (·.1)).Nodup) : qfL k' (delK k l) = if k' = k then none else qfL k' l := by
 rw [qpp h]; exact qrE
end
structure SRep (S : List (List UInt8 × Int)) (L : List Kpt) : Prop where
 nd : (S.map (·.1)).Nodup
 look : ∀ s, qfL s S = if cntK L s = 0 then none else some ((cntK L s : Nat) : Int)
theorem SRep.nil : SRep [] [] := ⟨List.nodup_nil, fun s => rfl⟩
theorem SRep.val {S : List (List UInt8 × Int)} {L : List Kpt} (h : SRep S L) (s : List UInt8) : (qfL s S).getD 0 = ((cntK L s : Nat) : Int) := by
 rw [h.look s]
 split
 · rename_i e; rw [e]; rfl
 · rfl
theorem SRep.perm {S : List (List UInt8 × Int)} {L L' : List Kpt} (h : SRep S L) (hp : ∀ s, cntK L' s = cntK L s) : SRep S L' := ⟨h.nd, fun s => by rw [hp, h.look s]⟩
theorem SRep.inc {S : List (List UInt8 × Int)} {L L' : List Kpt} (h : SRep S L) {t : List UInt8} (hc : ∀ s, cntK L' s = cntK L s + if s = t then 1 else 0) : SRep (upG t (((cntK L t : Nat) : Int) + 1) S) L' := by
 refine ⟨qss h.nd, fun s => ?_⟩
 rw [qsq, hc s]
 by_cases e : s = t
 · subst e
   rw [if_pos rfl, if_pos rfl, if_neg (by omega)]
   congr 1
 · rw [if_neg e, if_neg e, h.look s]; rfl
theorem SRep.dec {S : List (List UInt8 × Int)} {L L' : List Kpt} (h : SRep S L) {t : List UInt8} (hc : ∀ s, cntK L s = cntK L' s + if s = t then 1 else 0) (h0 : cntK L' t ≠ 0) : SRep (upG t (((cntK L t : Nat) : Int) - 1) S) L' := by
 refine ⟨qss h.nd, fun s => ?_⟩
 rw [qsq]
 by_cases e : s = t
 · subst e
   have := hc s
   rw [if_pos rfl] at this
   rw [if_pos rfl, if_neg h0, this]
   congr 1; omega
 · have := hc s
   rw [if_neg e] at this
   rw [if_neg e, h.look s, this]; rfl
theorem SRep.last {S : List (List UInt8 × Int)} {L L' : List Kpt} (h : SRep S L) {t : List UInt8} (hc : ∀ s, cntK L s = cntK L' s + if s = t then 1 else 0) (h0 : cntK L' t = 0) (v : Int) : SRep (delK t (upG t v S)) L' := by
 refine ⟨qzY (qss h.nd), fun s => ?_⟩
 rw [qAC (qss h.nd), qsq]
 by_cases e : s = t
 · subst e
   rw [if_pos rfl, if_pos h0]
 · have := hc s
   rw [if_neg e] at this
   rw [if_neg e, if_neg e, h.look s, this]; rfl
end Go.Pk
namespace Go.Pk
theorem ShI.one {L : List Kpt} {last : Int} (h : ShI L last) {a b : Kpt} (ha : a ∈ L) (hb : b ∈ L) (e : a.plc = b.plc) : a = b := by
 rcases List.mem_iff_getElem.1 ha with ⟨i, hi, rfl⟩
 rcases List.mem_iff_getElem.1 hb with ⟨j, hj, rfl⟩
 have hpw := List.pairwise_iff_getElem.1 h.key
 rcases Nat.lt_trichotomy i j with hl | hl | hl
 · exact absurd e (hpw i j hi hj hl)
 · subst hl; rfl
 · exact absurd e.symm (hpw j i hj hi hl)
theorem ShI.seq {L : List Kpt} {last : Int} (h : ShI L last) {a b : Kpt} (ha : a ∈ L) (hb : b ∈ L) (e : a.c.seq = b.c.seq) : a = b := by
 rcases List.mem_iff_getElem.1 ha with ⟨i, hi, rfl⟩
 rcases List.mem_iff_getElem.1 hb with ⟨j, hj, rfl⟩
 have hpw := List.pairwise_iff_getElem.1 h.up
 rcases Nat.lt_trichotomy i j with hl | hl | hl
 · have := hpw i j hi hj hl; omega
 · subst hl; rfl
 · have := hpw j i hj hi hl; omega
theorem MRep.new {M : List (Plc × Kpt)} {L : List Kpt} (h : MRep M L) {k : Kpt} (hno : atK L k.plc = none) : MRep (upG k.plc k M) (L ++ [k]) := by
 have hl : qfL k.plc M = none := by
   cases hx : qfL k.plc M with
   | none => rfl
   | some v =>
     have hm := look_mem hx
     exact absurd (h.own _ hm).symm (qhD hno v (h.perm.mem_iff.1 (List.mem_map.2 ⟨_, hm, rfl⟩)))
 have hi : qfZ k.plc M 0 = none := by
   have := qpD k.plc M 0
   rw [hl] at this
   simpa using this
 unfold upG
 rw [hi]
 refine ⟨?_, fun q hq => ?_⟩
 · show ((M ++ [(k.plc, k)]).map (·.2)).Perm _
   rw [List.map_append]
   exact h.perm.append (List.Perm.refl _)
 · rcases List.mem_append.1 hq with hq | hq
   · exact h.own q hq
   · rw [List.mem_singleton.1 hq]
theorem MRep.over {M : List (Plc × Kpt)} {L : List Kpt} {last : Int} (h : MRep M L) (s : ShI L last) {k o : Kpt} (hat : atK L k.plc = some o) : MRep (upG k.plc k M) (L.map fun x => if x.plc = k.plc then k else x) := by
 have hl := h.look s k.plc
 rw [hat] at hl
 have hn := h.nodup s
 cases hi : qfZ k.plc M 0 with
 | none =>
   have := qpD k.plc M 0
   rw [hi, hl] at this; cases this
 | some p =>
   obtain ⟨j, v0⟩ := p
   obtain ⟨_, hat2⟩ := qlx k.plc M 0 j v0 hi
   rw [Nat.sub_zero] at hat2
   obtain ⟨hlt, he⟩ := List.getElem?_eq_some_iff.1 hat2
   have e : upG k.plc k M = M.map fun q => if q.1 = k.plc then (k.plc, k) else q := by
     unfold upG
     rw [hi]
     show M.set j (k.plc, k) = _
     apply List.ext_getElem?
     intro i
     rw [List.getElem?_set, List.getElem?_map]
     by_cases c : j = i
     · subst c
       rw [if_pos rfl, if_pos hlt, hat2]
       simp
     · rw [if_neg c]
       cases hx : M[i]? with
       | none => rfl
       | some q =>
         have : q.1 ≠ k.plc := fun x => by
           obtain ⟨hli, hxe⟩ := List.getElem?_eq_some_iff.1 hx
           have hp := List.pairwise_iff_getElem.1 hn
           have h1 : (M.map (·.1))[j]'(by simpa using hlt) = k.plc := by simp [he]
           have h2 : (M.map (·.1))[i]'(by simpa using hli) = k.plc := by simp [hxe, x]
           rcases Nat.lt_or_gt_of_ne c with hc | hc
           · exact hp j i (by simpa using hlt) (by simpa using hli) hc (h1.trans h2.symm)
           · exact hp i j (by simpa using hli) (by simpa using hlt) hc (h2.trans h1.symm)
         simp [this]
   rw [e]
   refine ⟨?_, fun q hq => ?_⟩
   · have e2 : (M.map fun q => if q.1 = k.plc then (k.plc, k) else q).map (·.2) = (M.map (·.2)).map fun x => if x.plc = k.plc then k else x := by
       rw [List.map_map, List.map_map]
       exact List.map_congr_left fun q hq => by
         have := h.own q hq
         show (if q.1 = k.plc then (k.plc, k) else q).2 = if q.2.plc = k.plc then k else q.2
         rw [this]
         split <;> rfl
     rw [e2]
     exact h.perm.map _
   · obtain ⟨x, hx, rfl⟩ := List.mem_map.1 hq
     split
     · rfl
     · exact h.own x hx
def before (x y : Kpt) : Prop := x.c.used < y.c.used \/ (x.c.used = y.c.used /\ x.c.seq <= y.c.seq)
def qoz (of : Kpt -> Bool) (L : List Kpt) (o : Option Kpt) : Prop := match o with
 | none => ∀ k ∈ L, of k = false
 | some x => x ∈ L /\ of x = true /\ ∀ k ∈ L, of k = true -> before x k
theorem qsC (x : Kpt) : before x x := .inr ⟨rfl, Int.le_refl _⟩
theorem qoz.perm {of : Kpt -> Bool} {L L' : List Kpt} {o : Option Kpt} (h : qoz of L o) (hp : L.Perm L') : qoz of L' o := by
 cases o with
 | none => exact fun k hk => h k (hp.mem_iff.2 hk)
 | some x => exact ⟨hp.mem_iff.1 h.1, h.2.1, fun k hk => h.2.2 k (hp.mem_iff.2 hk)⟩
theorem qoz.one {of : Kpt -> Bool} {L : List Kpt} {last : Int} (s : ShI L last) {o p : Option Kpt} (h : qoz of L o) (k : qoz of L p) : o = p := by
 cases o with
 | none =>
   cases p with
   | none => rfl
   | some y => have := h y k.1; rw [k.2.1] at this; cases this
 | some x =>
   cases p with
   | none => have := k x h.1; rw [h.2.1] at this; cases this
   | some y =>
     have h1 := h.2.2 y k.1 k.2.1
     have h2 := k.2.2 x h.1 h.2.1
     have : x = y := s.seq h.1 k.1 (by unfold before at h1 h2; omega)
     rw [this]
def older (o : Option Kpt) (x : Kpt) : Bool := match o with
 | none => true
 | some y => decide (x.c.used < y.c.used) || (decide (x.c.used = y.c.used) && decide (x.c.seq < y.c.seq))
theorem qoz.step {of : Kpt -> Bool} {L : List Kpt} {o : Option Kpt} (h : qoz of L o) (k : Kpt) :
   qoz of (L ++ [k]) (bif of k && older o k then some k else o) := by
 cases o with
 | none =>
   have e : (bif of k && older none k then some k else none) = (bif of k then some k else none) := by unfold older; rw [Bool.and_true]
   rw [e]
   cases hk : of k with
   | true =>
     refine ⟨by simp, hk, fun y hy hyo => ?_⟩
     rcases List.mem_append.1 hy with hy | hy
     · have := h y hy; rw [hyo] at this; cases this
     · rw [List.mem_singleton.1 hy]; exact qsC _
   | false =>
     intro y hy
     rcases List.mem_append.1 hy with hy | hy
     · exact h y hy
     · rw [List.mem_singleton.1 hy]; exact hk
 | some x =>
   obtain ⟨hx, ho, hb⟩ := h
   cases hc : (of k && older (some x) k) with
   | true =>
     simp only [Bool.and_eq_true, older, Bool.or_eq_true, dTx] at hc
     refine ⟨by simp, hc.1, fun y hy hyo => ?_⟩
     rcases List.mem_append.1 hy with hy | hy
     · have h2 := hb y hy hyo
       have h3 := hc.2
       unfold before at *; omega
     · rw [List.mem_singleton.1 hy]; exact qsC _
   | false =>
     refine ⟨List.mem_append_left _ hx, ho, fun y hy hyo => ?_⟩
     rcases List.mem_append.1 hy with hy | hy
     · exact hb y hy hyo
     · rw [List.mem_singleton.1 hy] at hyo ⊢
       rw [hyo, Bool.true_and] at hc
       have hc : ¬ older (some x) k = true := by rw [hc]; decide
       simp only [older, Bool.or_eq_true, Bool.and_eq_true, dTx] at hc
       unfold before; omega
theorem qC3 (of : Kpt -> Bool) (k : Kpt) : ∀ (o : Option Kpt), (∀ x, o = some x -> x.c.seq < k.c.seq) -> (bif of k && older o k then some k else o) =
   (if of k = true then (match o with | none => some k | some x => if k.c.used < x.c.used then some k else some x) else o)
 | none, _ => by cases of k <;> rfl
 | some x, h => by
   have := h x rfl
   cases of k with
   | false => rfl
   | true =>
     by_cases c2 : k.c.used < x.c.used
     · simp [older, c2]
     · have : ¬ k.c.seq < x.c.seq := by omega
       simp [older, c2, this]
theorem qu9 {of : Kpt -> Bool} : ∀ (l pre : List Kpt) (o : Option Kpt), ((pre ++ l).Pairwise fun a b => a.c.seq < b.c.seq) -> qoz of pre o -> qoz of (pre ++ l) (oldS of l o)
 | [], pre, o, _, h => by rw [List.append_nil]; exact h
 | k :: l, pre, o, hp, h => by
   have hs := qoz.step h k
   rw [qC3 of k o fun x e => by
     subst e
     rw [List.pairwise_append] at hp
     exact hp.2.2 x h.1 k (List.mem_cons_self ..)] at hs
   have := qu9 l (pre ++ [k]) _ (by rw [List.append_assoc]; exact hp) hs
   rw [List.append_assoc] at this
   exact this
theorem qou {of : Kpt -> Bool} {L : List Kpt} {last : Int} (s : ShI L last) : qoz of L (oldK L of) := by
 have := qu9 (of := of) L [] none (by rw [List.nil_append]; exact s.up) (fun k hk => by cases hk)
 rw [List.nil_append] at this
 exact this
theorem qBh {L : List Kpt} {last : Int} (s : ShI L last) {p : Plc} {o : Kpt} (h : atK L p = some o) (t : List UInt8) : cntK L t = cntK (dropK L p) t + if t = o.site then 1 else 0 := by
 obtain ⟨ho, hp⟩ := qgf h
 have hone : ∀ k ∈ L, k.plc = p -> k = o := fun k hk e => s.one hk ho (e.trans hp.symm)
 clear h
 revert hone s ho
 induction L with
 | nil => intro _ ho; cases ho
 | cons a L ih =>
   intro s ho hone
   have sL : ShI L last := ⟨(List.pairwise_cons.1 s.up).2, fun k hk => s.lo k (List.mem_cons_of_mem _ hk), (List.pairwise_cons.1 s.key).2, s.l0⟩
   have hak := (List.pairwise_cons.1 s.key).1
   unfold cntK dropK at *
   by_cases e : a = o
   · subst e
     have hd : (L.filter fun k => !decide (k.plc = p)) = L := List.filter_eq_self.2 fun k hk => by
       have := hak k hk
       rw [hp] at this
       simpa using fun c => this c.symm
     rw [List.filter_cons, if_neg (by simp [hp]), hd, List.countP_cons]
     simp [eq_comm]
   · have ho' : o ∈ L := (List.mem_cons.1 ho).resolve_left fun x => e x.symm
     have hap : a.plc ≠ p := fun x => e (hone a (List.mem_cons_self ..) x)
     have := ih sL ho' fun k hk => hone k (List.mem_cons_of_mem _ hk)
     rw [List.filter_cons, if_pos (by simpa using hap), List.countP_cons, List.countP_cons, this]
     omega
theorem qCB (L : List Kpt) (k : Kpt) (t : List UInt8) : cntK (L ++ [k]) t = cntK L t + if t = k.site then 1 else 0 := by
 unfold cntK
 rw [List.countP_append, List.countP_cons, List.countP_nil]
 simp [eq_comm]
end Go.Pk
namespace Go.Pk
open Go.RowKit (Below)
structure Chg (S : List Nat) (w w' : World) : Prop where
 os : w'.os = w.os
 tape : w'.tape = w.tape
 output : w'.output = w.output
 size : w.heap.size <= w'.heap.size
 block : ∀ k, k < w.heap.size -> k ∉ S -> w'.heap[k]? = w.heap[k]?
theorem Chg.refl (S : List Nat) (w : World) : Chg S w w := ⟨rfl, rfl, rfl, Nat.le_refl _, fun _ _ _ => rfl⟩
theorem Chg.trans {S : List Nat} {a b c : World} (h : Chg S a b) (k : Chg S b c) : Chg S a c :=
 ⟨k.os.trans h.os, k.tape.trans h.tape, k.output.trans h.output, Nat.le_trans h.size k.size, fun i hi hs => (k.block i (Nat.lt_of_lt_of_le hi h.size) hs).trans (h.block i hi hs)⟩
theorem Chg.of {S : List Nat} {w w' : World} (h : Below w.heap.size w w') : Chg S w w' := ⟨h.os, h.tape, h.output, h.size, fun k hk _ => h.block k hk⟩
theorem Chg.grown {S : List Nat} {w w' : World} {r : Nat} (h : w.grownBy w' (some r)) (hr : r ∈ S) : Chg S w w' :=
 ⟨h.os, h.tape, h.output, h.size, fun k hk hs => h.block k hk fun e => hs (by cases e; exact hr)⟩
theorem Chg.mono {S S' : List Nat} {w w' : World} (h : Chg S w w') (hs : ∀ k ∈ S, k ∈ S') : Chg S' w w' := ⟨h.os, h.tape, h.output, h.size, fun k hk hn => h.block k hk fun hm => hn (hs k hm)⟩
theorem Chg.below {S : List Nat} {B : Nat} {w w' : World} (h : Chg S w w') (hB : B <= w.heap.size) (hs : ∀ k ∈ S, B <= k) : Below B w w' :=
 ⟨h.os, h.tape, h.output, h.size, fun k hk => h.block k (by omega) fun hm => by have := hs k hm; omega⟩
theorem Chg.none {w w' : World} (h : Chg [] w w') : Below w.heap.size w w' := h.below (Nat.le_refl _) fun k hk => by cases hk
theorem Chg.keep {S : List Nat} {w w' : World} (h : Chg S w w') : Keep (fun b => b ∉ S) w w' := ⟨h.size, fun b hb ha => h.block b hb ha⟩
theorem Chg.arr {S : List Nat} {w w' : World} (h : Chg S w w') {k : Nat} {t : TypeId} {vs : List Value} (ha : qk w k t vs) (hk : k ∉ S) : qk w' k t vs := ha.block (h.block k ha.lt hk)
theorem Chg.step {S : List Nat} {a b c : World} (h : Chg S a b) (k : Below b.heap.size b c) : Chg S a c := h.trans (Chg.of k)
theorem Chg.put {S : List Nat} {a b c : World} {r : Nat} (h : Chg S a b) (k : b.grownBy c (some r)) (hr : a.heap.size <= r) : Chg S a c :=
   ⟨k.os.trans h.os, k.tape.trans h.tape, k.output.trans h.output, Nat.le_trans h.size k.size, fun i hi hs => (k.block i (Nat.lt_of_lt_of_le hi h.size) (fun e => by cases e; omega)).trans (h.block i hi hs)⟩
end Go.Pk
namespace Go.Proofs.YtlfolncaghkmcaaGreatDoor
open Go.Shelf Go.RowKit Go.Lib Go.Pk
variable {P : Program} {ρ : Ren}
abbrev blk : ByteArray := ⟨#[32, 9]⟩
theorem qCI {r : Int} (h0 : 128 <= r) (hv : Lib.validRune r = true) : (∃ a b : UInt8, Utf8.encode r = ⟨#[a, b]⟩ /\ b.toNat ≠ 9) \/ (3 <= (Utf8.encode r).size /\ (Utf8.encode r).size <= 4) := by
 have hu : Utf8.valid r = true := by
   unfold Lib.validRune at hv; unfold Utf8.valid
   simp at hv ⊢; omega
 have e : Utf8.encode r = if r.toNat < 0x80 then ⟨#[UInt8.ofNat r.toNat]⟩ else if r.toNat < 0x800 then ⟨#[UInt8.ofNat (0xC0 + r.toNat / 64), UInt8.ofNat (0x80 + r.toNat % 64)]⟩
     else if r.toNat < 0x10000 then ⟨#[UInt8.ofNat (0xE0 + r.toNat / 4096), UInt8.ofNat (0x80 + r.toNat / 64 % 64), UInt8.ofNat (0x80 + r.toNat % 64)]⟩
     else ⟨#[UInt8.ofNat (0xF0 + r.toNat / 262144), UInt8.ofNat (0x80 + r.toNat / 4096 % 64), UInt8.ofNat (0x80 + r.toNat / 64 % 64), UInt8.ofNat (0x80 + r.toNat % 64)]⟩ := by
   unfold Utf8.encode; rw [hu]; rfl
 rw [if_neg (by omega)] at e
 by_cases c1 : r.toNat < 0x800
 · rw [if_pos c1] at e
   exact .inl ⟨_, _, e, by rw [UInt8.toNat_ofNat']; omega⟩
 rw [if_neg c1] at e
 by_cases c2 : r.toNat < 0x10000
 · rw [if_pos c2] at e
   rw [e]; exact .inr (show 3 <= 3 /\ 3 <= 4 by decide)
 · rw [if_neg c2] at e
   rw [e]; exact .inr (show 3 <= 4 /\ 4 <= 4 by decide)
set_option maxHeartbeats 4000000 in
set_option maxRecDepth 1000000 in
theorem qvT (L : Lays.n152 P ρ) (r : Int) (w : World) (h0 : 128 <= r) (hne : r ≠ 65533) (hv : Lib.validRune r = false) :
   Calls P (ρ.f 152) #[.string blk, .int .i32 r] w fun e w' => e = .returned (.int .i64 (-1)) /\ ∃ n, w' = w.drewN n := by
 have mixed := L.mixed
 have t3 := L.t3; have a3 := L.a3; have z3 := L.z3; have v3 := L.v3; have u3 := run_underlying L.t3
 have t4 := L.t4; have a4 := L.a4; have z4 := L.z4; have v4 := L.v4; have u4 := run_underlying L.t4
 have t5 := L.t5; have a5 := L.a5; have z5 := L.z5; have v5 := L.v5; have u5 := run_underlying L.t5
 have t9 := L.t9; have a9 := L.a9; have z9 := L.z9; have v9 := L.v9; have u9 := run_underlying L.t9
 have t21 := L.t21; have a21 := L.a21; have z21 := L.z21; have v21 := L.v21; have u21 := run_underlying L.t21
 have e137 : ∀ args w, (callFunc (ρ.f 137) args).run P w = .ok (.enter (ρ.f 137) args) w := enters_of L.f137 (by kernel_rfl) rfl
 have e119 : ∀ args w, (callFunc (ρ.f 119) args).run P w = .ok (.enter (ρ.f 119) args) w := enters_of L.f119 (by kernel_rfl) rfl
 have hr1 : ¬ (r < 128) := by omega
 have hr2 : (r == 65533) = false := beq_eq_false_iff_ne.2 hne
 go_enter L.f152, Body.n152_ntmps ρ
 go_wp2_with (first
   | (go_at_fn (ρ.f 119); refine (Any.utf8_ValidRune { L with } _ _).mono ?_; rintro e w' ⟨rfl, hw⟩; rw [hw, hv])
   | (go_at_fn (ρ.f 137); refine (Any.strings_IndexByte { L with } _ _ _).mono ?_; rintro e w' ⟨rfl, hw⟩; rw [hw]))
 go_ret
 exact ⟨rfl, 0, rfl⟩
set_option maxHeartbeats 4000000 in
set_option maxRecDepth 1000000 in
theorem qug (L : Lays.n152 P ρ) (r : Int) (w : World) (h0 : 128 <= r) (hne : r ≠ 65533) (hv : Lib.validRune r = true) (rs : ByteArray) (hrs : Utf8.encode r = rs) (h3 : 3 <= rs.size) (h4 : rs.size <= 4) :
   Calls P (ρ.f 152) #[.string blk, .int .i32 r] w fun e w' => e = .returned (.int .i64 (-1)) /\ ∃ n, w' = w.drewN n := by
 have mixed := L.mixed
 have t3 := L.t3; have a3 := L.a3; have z3 := L.z3; have v3 := L.v3; have u3 := run_underlying L.t3
 have t4 := L.t4; have a4 := L.a4; have z4 := L.z4; have v4 := L.v4; have u4 := run_underlying L.t4
 have t5 := L.t5; have a5 := L.a5; have z5 := L.z5; have v5 := L.v5; have u5 := run_underlying L.t5
 have t9 := L.t9; have a9 := L.a9; have z9 := L.z9; have v9 := L.v9; have u9 := run_underlying L.t9
 have t21 := L.t21; have a21 := L.a21; have z21 := L.z21; have v21 := L.v21; have u21 := run_underlying L.t21
 have e137 : ∀ args w, (callFunc (ρ.f 137) args).run P w = .ok (.enter (ρ.f 137) args) w := enters_of L.f137 (by kernel_rfl) rfl
 have e119 : ∀ args w, (callFunc (ρ.f 119) args).run P w = .ok (.enter (ρ.f 119) args) w := enters_of L.f119 (by kernel_rfl) rfl
 have hr1 : ¬ (r < 128) := by omega
 have hr2 : (r == 65533) = false := beq_eq_false_iff_ne.2 hne
 have hcv := fun w => run_convert_int_string (P := P) w (ρ.t 21) (ρ.t 9) .i32 r (by rw [t21]; rfl) t9
 rw [hrs] at hcv
 have hz : blk.size = 2 := rfl
 go_enter L.f152, Body.n152_ntmps ρ
 go_wp2_with (first
   | (go_at_fn (ρ.f 119); refine (Any.utf8_ValidRune { L with } _ _).mono ?_; rintro e w' ⟨rfl, hw⟩; rw [hw, hv])
   | (go_at_fn (ρ.f 137); refine (Any.strings_IndexByte { L with } _ _ _).mono ?_; rintro e w' ⟨rfl, hw⟩; rw [hw]))
 go_wp2_with (go_at_fn (ρ.f 137); refine (Any.strings_IndexByte { L with } _ _ _).mono ?_; rintro e w' ⟨rfl, hw⟩; rw [hw])
 go_step3
 go_wp2_with (go_at_fn (ρ.f 137); refine (Any.strings_IndexByte { L with } _ _ _).mono ?_; rintro e w' ⟨rfl, hw⟩; rw [hw])
 go_loopg [9, 10, 11, 12] 1 (fun g s9 _ _ _ wx => s9 = .int .i64 ((rs.size : Int) - 1) /\ wx = w)
 case atStart => exact ⟨rfl, rfl⟩
 case round =>
   obtain ⟨rfl, rfl⟩ := hrel
   have hn : ¬ ((rs.size : Int) - 1 < 2) := by omega
   have hn' : ¬ ((rs.size : Int) - 1 < (blk.size : Int)) := by rw [hz]; omega
   go_wp2
   go_ret
   exact ⟨rfl, 0, rfl⟩
set_option maxHeartbeats 4000000 in
set_option maxRecDepth 1000000 in
theorem quf (L : Lays.n152 P ρ) (r : Int) (w : World) (h0 : 128 <= r) (hne : r ≠ 65533) (hv : Lib.validRune r = true) (a b : UInt8) (hrs : Utf8.encode r = ⟨#[a, b]⟩) (hb : b.toNat ≠ 9) :
   Calls P (ρ.f 152) #[.string blk, .int .i32 r] w fun e w' => e = .returned (.int .i64 (-1)) /\ ∃ n, w' = w.drewN n := by
 have mixed := L.mixed
 have t3 := L.t3; have a3 := L.a3; have z3 := L.z3; have v3 := L.v3; have u3 := run_underlying L.t3
 have t4 := L.t4; have a4 := L.a4; have z4 := L.z4; have v4 := L.v4; have u4 := run_underlying L.t4
 have t5 := L.t5; have a5 := L.a5; have z5 := L.z5; have v5 := L.v5; have u5 := run_underlying L.t5
 have t9 := L.t9; have a9 := L.a9; have z9 := L.z9; have v9 := L.v9; have u9 := run_underlying L.t9
 have t21 := L.t21; have a21 := L.a21; have z21 := L.z21; have v21 := L.v21; have u21 := run_underlying L.t21
 have e137 : ∀ args w, (callFunc (ρ.f 137) args).run P w = .ok (.enter (ρ.f 137) args) w := enters_of L.f137 (by kernel_rfl) rfl
 have e119 : ∀ args w, (callFunc (ρ.f 119) args).run P w = .ok (.enter (ρ.f 119) args) w := enters_of L.f119 (by kernel_rfl) rfl
 have hr1 : ¬ (r < 128) := by omega
 have hr2 : (r == 65533) = false := beq_eq_false_iff_ne.2 hne
 have hcv := fun w => run_convert_int_string (P := P) w (ρ.t 21) (ρ.t 9) .i32 r (by rw [t21]; rfl) t9
 rw [hrs] at hcv
 have hz : blk.size = 2 := rfl
 go_enter L.f152, Body.n152_ntmps ρ
 go_wp2_with (first
   | (go_at_fn (ρ.f 119); refine (Any.utf8_ValidRune { L with } _ _).mono ?_; rintro e w' ⟨rfl, hw⟩; rw [hw, hv])
   | (go_at_fn (ρ.f 137); refine (Any.strings_IndexByte { L with } _ _ _).mono ?_; rintro e w' ⟨rfl, hw⟩; rw [hw]))
 go_wp2_with (go_at_fn (ρ.f 137); refine (Any.strings_IndexByte { L with } _ _ _).mono ?_; rintro e w' ⟨rfl, hw⟩; rw [hw])
 go_step3
 go_wp2_with (go_at_fn (ρ.f 137); refine (Any.strings_IndexByte { L with } _ _ _).mono ?_; rintro e w' ⟨rfl, hw⟩; rw [hw])
 go_loopg [9, 10, 11, 12] 1 (fun g s9 _ _ _ wx => s9 = .int .i64 1 /\ wx = w)
 case atStart => exact ⟨rfl, rfl⟩
 case round =>
   obtain ⟨rfl, rfl⟩ := hrel
   have hw2 : i64.wrap 2 = 2 := by decide
   have hix : ∀ x, Lib.indexByte [] x = -1 := fun _ => rfl
   have hb1 : ((9 : Int) == (b.toNat : Int)) = false := beq_eq_false_iff_ne.2 (by omega)
   go_wp2_with (go_at_fn (ρ.f 137); refine (Any.strings_IndexByte { L with } _ _ _).mono ?_; rintro e w' ⟨rfl, hw⟩; rw [hw])
   go_step3
   go_wp2
   go_quiet_o (fail)
   go_wp2
   go_quiet_o (exact (Any.strings_IndexByte { L with } _ _ _).mono fun e w' h => ⟨h.1, _, h.2⟩)
   go_wp2
   change bodyPost P (Body.n152 ρ) (fun e w' => e = Ending.returned (Value.int i64 (-1)) /\ ∃ n, w' = wr.drewN n) Exit.ret _ _
   go_ret
   exact ⟨rfl, _, rfl⟩
   exfalso
   have hx : ((9 : Int) != (b.toNat : Int)) = false := by assumption
   simp at hx
   omega
set_option maxHeartbeats 4000000 in
set_option maxRecDepth 1000000 in
theorem qvV (L : Lays.n152 P ρ) (w : World) :
   Calls P (ρ.f 152) #[.string blk, .int .i32 65533] w fun e w' => e = .returned (.int .i64 (-1)) /\ Below w.heap.size w w' := by
 have mixed := L.mixed
 have t3 := L.t3; have a3 := L.a3; have z3 := L.z3; have v3 := L.v3; have u3 := run_underlying L.t3
 have t4 := L.t4; have a4 := L.a4; have z4 := L.z4; have v4 := L.v4; have u4 := run_underlying L.t4
 have t9 := L.t9; have a9 := L.a9; have z9 := L.z9; have v9 := L.v9; have u9 := run_underlying L.t9
 have t21 := L.t21; have a21 := L.a21; have z21 := L.z21; have v21 := L.v21; have u21 := run_underlying L.t21
 go_enter L.f152, Body.n152_ntmps ρ
 go_wp2
 go_loopg [5, 6] 2 (fun g _ _ wx => ∃ i : Nat, i + g = 2 /\ wx = w.iter blk i)
 case atStart => exact ⟨0, rfl, rfl⟩
 case round =>
   obtain ⟨i, hig, rfl⟩ := hrel
   match i, hig with
   | 2, hig =>
     have hnx := run_next_end (P := P) w blk 2
     go_wp2
     go_ret
     exact ⟨rfl, (Below.refl _ _).alloc (Nat.le_refl _) _⟩
   | 0, hig =>
     have hnx : ∀ ty, (Instr.next (.pointer (some ⟨w.heap.size, 0, none⟩)) true ty).run P (w.iter blk 0) = .ok (.tuple #[.bool true, .int .i64 0, .int .i32 32]) (w.iter blk 1) := fun ty => run_next_ascii (P := P) w blk 0 ty (by decide) (by decide)
     go_wp2
     go_roundg 1
     case measure => omega
     case rel => exact ⟨1, rfl, rfl⟩
   | 1, hig =>
     have hnx : ∀ ty, (Instr.next (.pointer (some ⟨w.heap.size, 0, none⟩)) true ty).run P (w.iter blk 1) = .ok (.tuple #[.bool true, .int .i64 1, .int .i32 9]) (w.iter blk 2) := fun ty => run_next_ascii (P := P) w blk 1 ty (by decide) (by decide)
     go_wp2
     go_roundg 0
     case measure => omega
     case rel => exact ⟨2, rfl, rfl⟩
   | n + 3, hig => exact absurd hig (by omega)
theorem qvU (L : Lays.n152 P ρ) (r : Int) (w : World) (h0 : 128 <= r) :
   Calls P (ρ.f 152) #[.string blk, .int .i32 r] w fun e w' => e = .returned (.int .i64 (-1)) /\ Below w.heap.size w w' := by
 have dn : ∀ n, Below w.heap.size w (w.drewN n) := fun n => ⟨rfl, rfl, rfl, Nat.le_refl _, fun _ _ => rfl⟩
 by_cases he : r = 65533
 · rw [he]; exact qvV L w
 cases hv : Lib.validRune r with
 | false => exact (qvT L r w h0 he hv).mono fun e w' ⟨h1, n, h2⟩ => ⟨h1, h2 ▸ dn n⟩
 | true =>
   rcases qCI h0 hv with ⟨a, b, hab, hb⟩ | ⟨h3, h4⟩
   · exact (quf L r w h0 he hv a b hab hb).mono fun e w' ⟨h1, n, h2⟩ => ⟨h1, h2 ▸ dn n⟩
   · exact (qug L r w h0 he hv _ rfl h3 h4).mono fun e w' ⟨h1, n, h2⟩ => ⟨h1, h2 ▸ dn n⟩
theorem qzc (s : ByteArray) (i : Nat) (h : i < s.size) (hb : 128 <= (s[i]'h).toNat) :
   128 <= (Utf8.decode s i).1 /\ 1 <= (Utf8.decode s i).2 /\ i + (Utf8.decode s i).2 <= s.size /\ ∀ j, i <= j -> (hj : j < i + (Utf8.decode s i).2) -> ∀ hs : j < s.size, 128 <= (s[j]'hs).toNat := by
 have hg : ∀ k (hk : k < s.size), s.get! k = s[k]'hk := fun k hk => by
   simp [ByteArray.get!, getElem!_pos, hk]; rfl
 unfold Utf8.decode
 have e0 : (s.get! (i + 0)).toNat = (s[i]'h).toNat := by rw [Nat.add_zero, hg i h]
 simp only [e0]
 rw [if_neg (by omega)]
 have one : ∀ j, i <= j -> j < i + 1 -> ∀ hs : j < s.size, 128 <= (s[j]'hs).toNat := fun j h1 h2 hs => by
   have : j = i := by omega
   subst this; exact hb
 have cont : ∀ k, (decide (i + k < s.size) && (s.get! (i + k)).toNat / 64 == 2) = true -> ∃ hk : i + k < s.size, 128 <= (s[i + k]'hk).toNat := fun k hc => by
   simp only [Bool.and_eq_true, dTx, beq_iff_eq] at hc
   refine ⟨hc.1, ?_⟩
   have := hc.2
   rw [hg _ hc.1] at this
   omega
 have bad : 128 <= Utf8.runeError := by decide
 split
 · rename_i hc
   rw [Bool.and_eq_true] at hc
   obtain ⟨k1, b1⟩ := cont 1 hc.2
   split
   · rename_i hc2
     refine ⟨hc2, show 1 <= 2 by decide, by show i + 2 <= _; omega, fun j h1 h2 hs => ?_⟩
     have h2 : j < i + 2 := h2
     have : j = i \/ j = i + 1 := by omega
     rcases this with rfl | rfl
     · exact hb
     · exact b1
   · exact ⟨bad, by decide, by show i + 1 <= _; omega, one⟩
 split
 · rename_i hc
   rw [Bool.and_eq_true, Bool.and_eq_true] at hc
   obtain ⟨k1, b1⟩ := cont 1 hc.1.2
   obtain ⟨k2, b2⟩ := cont 2 hc.2
   split
   · rename_i hc2
     rw [Bool.and_eq_true, dTx] at hc2
     refine ⟨by show 128 <= _; omega, show 1 <= 3 by decide, by show i + 3 <= _; omega, fun j h1 h2 hs => ?_⟩
     have h2 : j < i + 3 := h2
     have : j = i \/ j = i + 1 \/ j = i + 2 := by omega
     rcases this with rfl | rfl | rfl
     · exact hb
     · exact b1
     · exact b2
   · exact ⟨bad, by decide, by show i + 1 <= _; omega, one⟩
 split
 · rename_i hc
   rw [Bool.and_eq_true, Bool.and_eq_true, Bool.and_eq_true] at hc
   obtain ⟨k1, b1⟩ := cont 1 hc.1.1.2
   obtain ⟨k2, b2⟩ := cont 2 hc.1.2
   obtain ⟨k3, b3⟩ := cont 3 hc.2
   split
   · rename_i hc2
     rw [Bool.and_eq_true, dTx] at hc2
     refine ⟨by show 128 <= _; omega, show 1 <= 4 by decide, by show i + 4 <= _; omega, fun j h1 h2 hs => ?_⟩
     have h2 : j < i + 4 := h2
     have : j = i \/ j = i + 1 \/ j = i + 2 \/ j = i + 3 := by omega
     rcases this with rfl | rfl | rfl | rfl
     · exact hb
     · exact b1
     · exact b2
     · exact b3
   · exact ⟨bad, by decide, by show i + 1 <= _; omega, one⟩
 · exact ⟨bad, by decide, by show i + 1 <= _; omega, one⟩
set_option maxHeartbeats 8000000 in
set_option maxRecDepth 1000000 in
theorem que (L : Lays.n153 P ρ) (s : ByteArray) (w : World) (h8 : s.size <= 8) :
   Calls P (ρ.f 153) #[.string s, .string blk] w fun e w' => e = .returned (.int .i64 (Lib.indexAny s.data.toList [32, 9])) /\ Below w.heap.size w w' := by
 have hemp : blk.toList.isEmpty = false := by rw [Lib.toList_data]; rfl
 have hz : blk.size = 2 := rfl
 have h8z : decide ((8 : Int) < (s.size : Int)) = false := decide_eq_false (by omega)
 have t3 := L.t3; have a3 := L.a3; have z3 := L.z3; have v3 := L.v3
 have t4 := L.t4; have a4 := L.a4; have z4 := L.z4; have v4 := L.v4
 have t5 := L.t5; have a5 := L.a5; have z5 := L.z5; have v5 := L.v5
 have t9 := L.t9; have a9 := L.a9; have z9 := L.z9; have v9 := L.v9
 have t21 := L.t21; have a21 := L.a21; have z21 := L.z21; have v21 := L.v21
 have e152 : ∀ args w, (callFunc (ρ.f 152) args).run P w = .ok (.enter (ρ.f 152) args) w := enters_of L.f152 (by kernel_rfl) rfl
 have e226 : ∀ args w, (callFunc (ρ.f 226) args).run P w = .ok (.enter (ρ.f 226) args) w := enters_of L.f226 (by kernel_rfl) rfl
 have L152 : Lays.n152 P ρ := { L with }
 go_enter L.f153, Body.n153_ntmps ρ
 go_wp2_with (go_at_fn (ρ.f 226); refine (Any.strings_shouldUseASCIISet { L with } _ _).mono ?_; rintro e w' ⟨rfl, hw⟩; rw [hw, h8z])
 go_loopg [9, 10] s.size (fun g _ _ wx => ∃ i : Nat, i + g = s.size /\ wx.heap[w.heap.size]? = some (.stringIter s i) /\ Below w.heap.size w wx /\ Lib.NoAny s.data.toList [32, 9] i)
 case atStart => exact ⟨0, by omega, World.iter_heap w s 0, (Below.refl _ _).alloc (Nat.le_refl _) _, Lib.NoAny.zero _ _⟩
 case round =>
   obtain ⟨i, hig, hit, hB, hno⟩ := hrel
   have HN : Aside (Lib.NoAny s.data.toList [32, 9] i) := hno
   clear hno
   by_cases hi : i < s.size
   · obtain ⟨x, hx⟩ : ∃ x : UInt8, s[i]'hi = x := ⟨_, rfl⟩
     have hxl : s.data.toList[i]? = some x := by rw [<- hx]; exact Lib.data_getElem? s i hi
     by_cases hx128 : x.toNat < 128
     · have hnx := fun ty => run_next_ascii_at (P := P) wr w.heap.size s i ty hit hi (by rw [hx]; exact hx128)
       rw [hx] at hnx
       have hit2 := iterAt_heap wr w.heap.size s i (i + 1) hit
       have hB2 := below_iterAt hB (Nat.le_refl w.heap.size) s (i + 1)
       have Hx : Aside (s.data.toList[i]? = some x) := hxl
       clear hxl hx hit
       have hcon := Lib.contains_iff_indexByte [32, 9] x
       have hback : ((x.toNat : Int)).toNat.toUInt8 = x := by simp
       cases hin : ([32, 9] : List UInt8).contains x
       · rw [hin] at hcon
         have hlt : ¬ ((0 : Int) <= Lib.indexByte [32, 9] x) := of_decide_eq_false hcon.symm
         clear hcon
         generalize hgw : wr.iterAt w.heap.size s (i + 1) = wi at *
         go_wp2_with (go_at_fn (ρ.f 152); refine (Any.strings_IndexRune_ascii { L with } _ _ _ (by omega) (by omega)).mono ?_; rintro e w' ⟨rfl, hw⟩; rw [hw, hback])
         go_roundg (s.size - (i + 1))
         case measure => omega
         case rel => exact ⟨i + 1, by omega, hit2, hB2, HN.out.succ Hx.out hin⟩
       · rw [hin] at hcon
         have hge : (0 : Int) <= Lib.indexByte [32, 9] x := of_decide_eq_true hcon.symm
         clear hcon
         generalize hgw : wr.iterAt w.heap.size s (i + 1) = wi at *
         go_wp2_with (go_at_fn (ρ.f 152); refine (Any.strings_IndexRune_ascii { L with } _ _ _ (by omega) (by omega)).mono ?_; rintro e w' ⟨rfl, hw⟩; rw [hw, hback])
         go_ret
         exact ⟨by rw [Lib.indexAny_hit HN.out Hx.out hin]; rfl, hB2⟩
     · have hd := qzc s i hi (by rw [hx]; omega)
       have hnx := fun ty => run_next_any_at (P := P) wr w.heap.size s i ty hit hi
       have hit2 := iterAt_heap wr w.heap.size s i (i + (Utf8.decode s i).2) hit
       have hB2 := below_iterAt hB (Nat.le_refl w.heap.size) s (i + (Utf8.decode s i).2)
       generalize hgw : wr.iterAt w.heap.size s (i + (Utf8.decode s i).2) = wi at *
       generalize Utf8.decode s i = cn at *
       obtain ⟨c, n⟩ := cn
       obtain ⟨d1, d2, d3, d4⟩ := hd
       simp only at d1 d2 d3 d4 hnx hit2
       have hL := qvU L152 (c : Int) wi (by omega)
       have HD : Aside (∀ j, i <= j -> (hj : j < i + n) -> ∀ hs : j < s.size, 128 <= (s[j]'hs).toNat) := d4
       clear d4 hx hxl hit
       go_wp2_with (go_at_fn (ρ.f 152); refine hL.mono ?_; rintro e w' ⟨rfl, hw⟩)
       go_roundg (s.size - (i + n))
       case measure => omega
       case rel =>
         rename_i hw
         refine ⟨i + n, by omega, ?_, qd hB2 hw hB2.size, ?_⟩
         · rw [hw.block _ (Array.getElem?_eq_some_iff.1 hit2).1]; exact hit2
         · intro j b hj hjb
           by_cases hji : j < i
           · exact HN.out j b hji hjb
           · have hjs : j < s.size := by omega
             have h1 := HD.out j (by omega) hj hjs
             have h2 : s.data.toList[j]? = some (s[j]'hjs) := Lib.data_getElem? s j hjs
             rw [h2] at hjb
             rw [Option.some.inj hjb] at h1
             rw [Bool.eq_false_iff]
             intro hc
             simp at hc
             rcases hc with rfl | rfl
             · exact absurd h1 (by decide)
             · exact absurd h1 (by decide)
   · have hnx := fun ty => run_next_end_at (P := P) wr w.heap.size s i ty hit hi
     go_wp2
     go_ret
     have e : i = s.size := by omega
     have hno := HN.out
     rw [e] at hno
     exact ⟨by rw [Lib.indexAny_none (by rw [<- Lib.size_eq]; exact hno)]; rfl, hB⟩
theorem qq9 (s : List UInt8) (hs : s.length < 4294967281) (w : World) :
   Calls prog qkR #[.string (mkS s), .string (mkS [32, 9])] w (Ret fun v w' => v = .int .i64 (Lib.indexAny s [32, 9]) /\ Below w.heap.size w w') := by
 have hsz : (mkS s).size = s.length := by show s.toArray.size = _; simp
 by_cases h8 : (mkS s).size <= 8
 · exact (que Tryz.lays153 (mkS s) w h8).mono fun e w' ⟨h1, h2⟩ => ⟨_, h1, rfl, h2⟩
 · have hi : (prog.info? (Tryz.lays153_ren.t 116)).map (fun i => (i.zero, i.size)) = some (some (.agg (Array.replicate 256 (.bool false))), 256) := by kernel_rfl
   refine (Any.strings_IndexAny_long Tryz.lays153 (zero_of_info hi).1 (zero_of_info hi).2 (mkS s) blk w (by decide) (by omega) (by rw [hsz]; exact hs) (by decide) ?_).mono fun e w' ⟨h1, h2⟩ => ⟨_, h1, rfl, ?_⟩
   · intro j b hb
     match j, hb with
     | 0, hb => cases hb; decide
     | 1, hb => cases hb; decide
   · rw [h2]
     exact ((Below.refl _ _).alloc (Nat.le_refl _) _).alloc (by simp) _
end Go.Proofs.YtlfolncaghkmcaaGreatDoor
set_option maxRecDepth 20000
namespace Go.Pk
open Go.RowKit (Below)
abbrev Rul := Int × List UInt8
def markL (k : Int) : List UInt8 := if k = 2 then [42, 46] else if k = 3 then [33] else []
def ruleX (r : Rul) : List UInt8 := markL r.1 ++ r.2
def qdp (s : List UInt8) : List UInt8 := s.takeWhile fun c => !isBl c
def qhN (u : List UInt8) : Rul := if Lib.hasPrefix u [42, 46] = true then (2, u.drop 2) else if Lib.hasPrefix u [33] = true then (3, u.drop 1) else (1, u)
def qtc (k : Int) (o : Option Hst) : Rul × Bool × Int := match o with
 | none => ((0, []), false, 51)
 | some h => if h.kind = 1 /\ ¬ (k = 3 /\ (labelsV h).length < 2) then ((k, h.name), true, 0) else ((0, []), false, 51)
def qbx (s : List UInt8) : Rul × Bool × Int :=
 if zo s = [] \/ Lib.hasPrefix (zo s) [47, 47] = true then ((0, []), false, 0) else qtc (qhN (qdp (zo s))).1 (jl (qhN (qdp (zo s))).2)
def rulC (r : Rul) : List Value := [.int .i64 r.1, .string (mkS r.2)]
def rulV (r : Rul) : Value := .agg (rulC r).toArray
def qDx (x : Rul × Bool × Int) : Value := .tuple #[rulV x.1, .bool x.2.1, .int .i64 x.2.2]
def quq (r q : Rul) : Bool := (r.1 == q.1) && ((r.2 == q.2) && true)
theorem qAQ (r q : Rul) : quq r q = true ↔ r = q := by
 unfold quq
 rw [Bool.and_eq_true, Bool.and_true, beq_iff_eq, beq_iff_eq]
 exact ⟨fun h => Prod.ext h.1 h.2, fun h => by rw [h]; exact ⟨rfl, rfl⟩⟩
def rulR (r : Rul) : Bool := ((qbx (ruleX r)).2.2 == 0) && ((qbx (ruleX r)).2.1 && quq (qbx (ruleX r)).1 r)
theorem qBt (c : UInt8) : ([32, 9] : List UInt8).contains c = isBl c := by
 unfold isBl
 rw [Bool.eq_iff_iff]; simp
theorem qAt : ∀ s : List UInt8, (0 <= Lib.indexAny s [32, 9] -> (Lib.indexAny s [32, 9]).toNat <= s.length /\ s.take (Lib.indexAny s [32, 9]).toNat = qdp s) /\ (¬ 0 <= Lib.indexAny s [32, 9] -> qdp s = s)
 | [] => ⟨fun h => absurd h (by decide), fun _ => rfl⟩
 | c :: s => by
   have ih := qAt s
   unfold Lib.indexAny qdp
   rw [qBt, List.takeWhile_cons]
   cases hb : isBl c with
   | true => exact ⟨fun _ => ⟨by simp, by simp⟩, fun h => absurd (show (0 : Int) <= 0 by decide) h⟩
   | false =>
     simp only [Bool.not_false, if_true, Bool.false_eq_true, if_false]
     have hge := Lib.indexAny_ge [32, 9] s
     generalize Lib.indexAny s [32, 9] = n at *
     by_cases hn : n = -1
     · subst hn
       exact ⟨fun h => absurd h (by decide), fun _ => by rw [show s.takeWhile (fun c => !isBl c) = s from ih.2 (by decide)]⟩
     · have h0 : 0 <= n := by omega
       rw [if_neg (by simpa using hn)]
       obtain ⟨k, rfl⟩ := Int.eq_ofNat_of_zero_le h0
       refine ⟨fun _ => ?_, fun h => absurd (show (0 : Int) <= (k : Int) + 1 by omega) h⟩
       have e : ((k : Int) + 1).toNat = k + 1 := by omega
       have h1 := ih.1 h0
       rw [Int.toNat_natCast] at h1
       rw [e, List.take_succ_cons, h1.2]
       exact ⟨by simp; omega, rfl⟩
theorem qnZ (s : List UInt8) : (zo s).length <= s.length := qro _ _
theorem qm7 (s : List UInt8) : (qdp s).length <= s.length := zd _ _
theorem qBy (s : List UInt8) : (qhN s).2.length <= s.length := by
 unfold qhN; split
 · simp
 split
 · simp
 · exact Nat.le_refl _
theorem qgT {s : List UInt8} {h : Hst} (e : jl s = some h) : h.name.length <= 253 := by
 unfold jl at e
 split at e
 · split at e
   · cases hv : v6A ((s.drop 1).take (s.length - 2)) with
     | none => rw [hv] at e; cases e
     | some a => rw [hv] at e; cases e; exact Nat.zero_le _
   · cases e
 split at e
 · cases hv : v4V s with
   | none => rw [hv] at e; cases e
   | some a => rw [hv] at e; cases e; exact Nat.zero_le _
 split at e
 · rename_i h1; cases e; simp only [lowL, List.length_map]; exact h1.1
 · cases e
end Go.Pk
namespace Go.Proofs.YtlfolncaghkmcaaGreatDoor
open Go.Pk
open Go.RowKit (Below)
theorem jY : Whl prog qp 2 := ⟨⟨_, _, qtP⟩, by kernel_rfl⟩
theorem qic (r : Rul) : One1 (rulC r) := qx rfl (qx rfl zT)
theorem qAm : prog.eqGuardType prog.depth qp = false := by kernel_rfl
theorem qCK (r q : Rul) : eqV prog 10000 qp (rulV r) (rulV q) = some (quq r q) := by
 obtain ⟨a, b⟩ := r
 obtain ⟨c, d⟩ := q
 kernel_rfl
theorem qwU (r q : Rul) {x y : Operand} (w : World) : ((do eqGuard .eql qp x y (rulV r) (rulV q); binOp .eql qp (rulV r) (rulV q) : Sem Value)).run prog w = .ok (.bool (quq r q)) w :=
 qyM qAm (qCK r q) w
theorem qDD (s p : List UInt8) (w : World) : Calls prog qgj #[.string (mkS s), .string (mkS p)] w (Ret fun v w' => v = .bool (Lib.hasPrefix s p) /\ w' = w) :=
 (Tryz.strings_HasPrefix (mkS s) (mkS p) w).mono fun e w' ⟨h1, h2⟩ => ⟨_, h1, rfl, h2⟩
theorem qxt (s p : List UInt8) (w : World) : Calls prog qa6 #[.string (mkS s), .string (mkS p)] w (Ret fun v w' => v = .tuple #[.string (mkS (Lib.trimPrefix s p)), .bool (Lib.hasPrefix s p)] /\ w' = w) :=
 (Tryz.strings_CutPrefix (mkS s) (mkS p) w).mono fun e w' ⟨h1, h2⟩ => ⟨_, h1, rfl, h2⟩
theorem qnL (k : Int) (w : World) : Calls prog qma #[.int .i64 k] w (Ret fun v w' => v = .string (mkS (markL k)) /\ w' = w) := by
 apply qwd
 unfold qrR markL
 refine BCase.of (fun h => ⟨by rw [if_pos (eq_of_beq h)], rfl⟩) (fun h => ?_)
 rw [if_neg (beq_eq_false_iff_ne.1 h)]
 exact BCase.of (fun h => ⟨by rw [if_pos (eq_of_beq h)], rfl⟩) (fun h => ⟨by rw [if_neg (beq_eq_false_iff_ne.1 h)], rfl⟩)
theorem qur (u : List UInt8) (w : World) : Calls prog ql9 #[.string (mkS u)] w (Ret fun v w' => v = .tuple #[.int .i64 (qhN u).1, .string (mkS (qhN u).2)] /\ w' = w) := by
 apply qtH
 unfold qph
 refine ⟨fun m i w' => w' = w /\ (m = 2 /\ i = 0 \/ m = 1 /\ i = 1 /\ ¬ Lib.hasPrefix u [42, 46] = true \/ m = 0 /\ i = 2 /\ ¬ Lib.hasPrefix u [42, 46] = true /\ ¬ Lib.hasPrefix u [33] = true), ⟨2, rfl, .inl ⟨rfl, rfl⟩⟩, ?_⟩
 intro m i
 refine AllJ.of ?_ _
 rintro w' ⟨hw', h⟩
 rw [hw']; clear hw'
 rcases h with ⟨rfl, rfl⟩ | ⟨rfl, rfl, h1⟩ | ⟨rfl, rfl, h1, h2⟩
 · refine BCase.yes (by decide) ⟨2, by kernel_rfl, ?_⟩
   refine callK (qnL 2 w) ?_
   rintro _ w1 ⟨rfl, hw1⟩
   rw [hw1]; clear hw1
   refine ⟨_, rfl, ?_⟩
   refine callK (qxt u (markL 2) w) ?_
   rintro _ w1 ⟨rfl, hw1⟩
   rw [hw1]; clear hw1
   refine ⟨_, _, rfl, ?_⟩
   show BCase (Lib.hasPrefix u [42, 46]) _ _
   refine BCase.of (fun h => ⟨?_, rfl⟩) (fun h => ⟨1, by decide, rfl, .inr (.inl ⟨rfl, rfl, by rw [h]; decide⟩)⟩)
   have e : Lib.trimPrefix u (markL 2) = u.drop 2 := by exact if_pos h
   unfold qhN; rw [if_pos h, e]
 · refine BCase.yes (by decide) ⟨3, by kernel_rfl, ?_⟩
   refine callK (qnL 3 w) ?_
   rintro _ w1 ⟨rfl, hw1⟩
   rw [hw1]; clear hw1
   refine ⟨_, rfl, ?_⟩
   refine callK (qxt u (markL 3) w) ?_
   rintro _ w1 ⟨rfl, hw1⟩
   rw [hw1]; clear hw1
   refine ⟨_, _, rfl, ?_⟩
   show BCase (Lib.hasPrefix u [33]) _ _
   refine BCase.of (fun h => ⟨?_, rfl⟩) (fun h => ⟨0, by decide, rfl, .inr (.inr ⟨rfl, rfl, h1, by rw [h]; decide⟩)⟩)
   have e : Lib.trimPrefix u (markL 3) = u.drop 1 := by exact if_pos h
   unfold qhN; rw [if_neg h1, if_pos h, e]
 · exact BCase.no (by decide) ⟨by unfold qhN; rw [if_neg h1, if_neg h2], rfl⟩
theorem qwW (r : Rul) (hr : r.2.length <= 4611686018427387904) (w : World) : Calls prog qpu #[rulV r] w (Ret fun v w' => v = .string (mkS (ruleX r)) /\ Below w.heap.size w w') := by
 obtain ⟨k, n⟩ := r
 apply qwc
 unfold qrQ
 intro k1 w1 hk1 hw1
 have hB1 := (hw1 ▸ qj w _ : Below w.heap.size w w1)
 have h1 : qk w1 k1 qp (rulC (k, n)) := qk.new hk1 hw1
 have hm : (markL k).length <= 2 := by unfold markL; split; decide; split; decide; decide
 refine ⟨rfl, k, fun u hu => (h1.below hu).load1 qK rfl rfl, markL k, fun u hu => ?_, rfl, n, fun u hu => (h1.below hu).load1 un_string rfl rfl, fits (by simp at hr; omega), ?_⟩
 · refine qaF ?_ hu
   exact (qnL k u).mono fun e w' ⟨v, h1, h2, h3⟩ => ⟨v, h1, h2, h3 ▸ Below.refl _ _⟩
 rintro _ rfl wq hq
 exact ⟨rfl, qd hB1 hq hB1.size⟩
def qpV (s : List UInt8) (w : World) (v : Value) (w' : World) : Prop := v = qDx (qbx s) /\ Below w.heap.size w w'
theorem qib (r : Rul) {w w' : World} {k2 : Nat} {vs : List Value} (h2 : qk w' k2 qp vs) (hl : vs.length = 2) (hb : Below w.heap.size w w') (hk : w.heap.size <= k2) {b : Bool} {e : Int} {K : Value -> World -> Prop}
   (hK : ∀ wx, Below w.heap.size w wx -> K (qDx (r, b, e)) wx) :
   ∃ (wx : World), (Instr.storeAt qp (.pointer (some ⟨k2, 0, none⟩)) (rulV r)).run prog w' = .ok () wx /\
     ∃ (n0 : Int) (s1 : List UInt8), (qs qp (.pointer (some ⟨k2, 0, none⟩))).run prog wx = .ok (.agg #[.int .i64 n0, .string (mkS s1)]) wx /\
       K (.tuple #[.agg #[.int .i64 n0, .string (mkS s1)], .bool b, .int .i64 e]) wx := by
 obtain ⟨wx, hs, h3, hg⟩ := jY.store0 (cs := rulC r) rfl (qic r) h2 hl
 exact ⟨wx, hs, r.1, r.2, qk.res (jY.load0 h3 rfl), hK wx (Below.put hb hg hk)⟩
theorem qwV (s : List UInt8) (hs : s.length <= 2000000000) (w : World) (he : Env w) : Calls prog qpt #[.string (mkS s)] w (Ret (qpV s w)) := by
 apply qwb
 unfold qrP
 intro k2 w2 hk2 hw2
 have hB2 := (hw2 ▸ qj w _ : Below w.heap.size w w2)
 have h2 : qk w2 k2 qp (rulC (0, [])) := qk.new hk2 hw2
 have hk2w : w.heap.size <= k2 := by omega
 have tl := qnZ s
 refine callK (qjO s (by omega) w2) ?_
 rintro _ w3 ⟨rfl, hb3⟩
 have hB3 := qd hB2 hb3 hB2.size
 have h23 := h2.below hb3
 refine ⟨_, rfl, ?_⟩
 have hV : qbx s = if zo s = [] \/ Lib.hasPrefix (zo s) [47, 47] = true then ((0, []), false, 0) else qtc (qhN (qdp (zo s))).1 (jl (qhN (qdp (zo s))).2) := rfl
 generalize zo s = t at *
 refine factJ (w := w3) (¬ (t = [] \/ Lib.hasPrefix t [47, 47] = true)) ?_ (fun hc => ?_)
 · refine j3 (w := w3) (decide (t = [] \/ Lib.hasPrefix t [47, 47] = true)) ?_ ?_
   · refine BCase.of (fun h => ⟨rfl, by rw [decide_eq_true (.inl (eq_of_beq h))]⟩) (fun h => ?_)
     refine callK (qDD t [47, 47] w3) ?_
     rintro _ w4 ⟨rfl, hw4⟩
     refine ⟨_, rfl, hw4, ?_⟩
     rw [Bool.eq_iff_iff, dTx]
     exact ⟨.inr, fun hx => hx.elim (fun hx => absurd hx (beq_eq_false_iff_ne.1 h)) id⟩
   · refine BCase.of (fun h => ?_) (fun h => ⟨rfl, of_decide_eq_false h⟩)
     exact qib (0, []) h23 rfl hB3 hk2w fun wx hb => ⟨by rw [hV, if_pos (of_decide_eq_true h)], hb⟩
 · rw [if_neg hc] at hV
   have hu := qAt t
   have hul := qm7 t
   refine ⟨fun u w' => u = qdp t /\ Below w3.heap.size w3 w', ?_, ?_⟩
   · refine callK (qq9 t (by omega) w3) ?_
     rintro _ w4 ⟨rfl, hb4⟩
     refine ⟨_, rfl, BCase.of (fun h => ?_) (fun h => ?_)⟩
     · have h := of_decide_eq_true h
       refine ⟨⟨h, by have := (hu.1 h).1; omega⟩, ?_⟩
       rintro _ rfl
       exact ⟨(hu.1 h).2, hb4⟩
     · exact ⟨(hu.2 (of_decide_eq_false h)).symm, hb4⟩
   · intro u
     refine AllJ.of ?_ _
     rintro w4 ⟨rfl, hb4⟩
     have hB4 := qd hB3 hb4 hB3.size
     have h24 := h23.below hb4
     refine callK (qur (qdp t) w4) ?_
     rintro _ w5 ⟨rfl, hw5⟩
     rw [hw5]; clear hw5
     have hkl := qBy (qdp t)
     refine ⟨_, _, rfl, ?_⟩
     generalize qhN (qdp t) = kn at *
     obtain ⟨k, n⟩ := kn
     refine callK (qmh n (by simp at hkl; omega) w4 (he.step hB4)) ?_
     rintro _ w6 ⟨rfl, hb6⟩
     have hB6 := qd hB4 hb6 hB4.size
     rw [qdq]
     refine ⟨_, _, rfl, ?_⟩
     have hok := qgX fun x hx => qdN (s := n) hx
     refine qv.new (zs := hst0.cells) (cs := ((jl n).getD hst0).cells) rfl (Hst.len hok) (Hst.one _) w6 fun k8 w8 hk8 h8 hb8 => ?_
     have hB8 := qd hB6 hb8 hB6.size
     have h28 := (h24.below hb6).below hb8
     simp only at hV
     refine worldJ (fun w' => ∃ h : Hst, jl n = some h /\ qbx s = ((k, h.name), true, 0) /\ Below w8.heap.size w8 w') ?_ ?_
     · refine qgN (fun b w' => b = decide (qbx s = ((0, []), false, 51)) /\ Below w8.heap.size w8 w' /\ (b = false -> ∃ h : Hst, jl n = some h /\ qbx s = ((k, h.name), true, 0))) ?_ ?_
       · cases hn : jl n with
         | none =>
           rw [hn] at hV
           exact BCase.yes rfl ⟨by rw [hV]; rfl, Below.refl _ _, fun hx => by cases hx⟩
         | some h =>
           rw [hn] at hV h8 hok
           have hV : qbx s = if h.kind = 1 /\ ¬ (k = 3 /\ (labelsV h).length < 2) then ((k, h.name), true, 0) else ((0, []), false, 51) := hV
           have bad : ¬ (h.kind = 1 /\ ¬ (k = 3 /\ (labelsV h).length < 2)) -> (true : Bool) = decide (qbx s = ((0, []), false, 51)) := fun hx => by rw [hV, if_neg hx]; rfl
           have good : (h.kind = 1 /\ ¬ (k = 3 /\ (labelsV h).length < 2)) -> (false : Bool) = decide (qbx s = ((0, []), false, 51)) /\ (∃ h' : Hst, some h = some h' /\ qbx s = ((k, h'.name), true, 0)) := fun hx => by
             rw [hV, if_pos hx]; exact ⟨(decide_eq_false (by intro hx; have := congrArg (fun z => z.2.1) hx; cases this)).symm, h, rfl, rfl⟩
           refine BCase.no rfl ⟨rfl, _, h8.load1 qK rfl rfl, BCase.of (fun c1 => ⟨bad fun hx => ?_, Below.refl _ _, fun hx => by cases hx⟩) (fun c1 => ?_)⟩
           · have c1 : (h.kind != 1) = true := c1
             rw [hx.1] at c1; simp at c1
           have c1 : (h.kind != 1) = false := c1
           have c1 : h.kind = 1 := by simpa using c1
           refine BCase.of (fun c2 => ?_) (fun c2 => ?_)
           · have c2 : k = 3 := eq_of_beq c2
             refine ⟨_, qv.load0 h8 (Hst.len hok), ?_⟩
             have hnl : h.name.length <= 1000000000 := by have := qgT hn; omega
             refine callK (qgU hok hnl w8 (he.step hB8)) ?_
             rintro _ w9 ⟨a, l, c, rfl, ho, -, hb9⟩
             refine ⟨_, _, _, rfl, ?_⟩
             have ho1 := ho.len
             simp only [Option.getD_some] at ho1
             rw [ho1]
             by_cases c3 : (labelsV h).length < 2
             · rw [decide_eq_true (show (((labelsV h).length : Nat) : Int) < 2 by omega)]
               exact ⟨bad fun hx => hx.2 ⟨c2, c3⟩, hb9, fun hx => by cases hx⟩
             · rw [decide_eq_false (show ¬ (((labelsV h).length : Nat) : Int) < 2 by omega)]
               have g := good ⟨c1, fun hx => c3 hx.2⟩
               exact ⟨g.1, hb9, fun _ => g.2⟩
           · have g := good ⟨c1, fun hx => by rw [hx.1] at c2; cases c2⟩
             exact ⟨g.1, Below.refl _ _, fun _ => g.2⟩
       · rintro b w9 ⟨hb, hb9, hg⟩
         refine BCase.of (fun c => ?_) (fun c => ?_)
         · rw [c, eq_comm, dTx] at hb
           exact qib (0, []) (h28.below hb9) rfl (qd hB8 hb9 hB8.size) hk2w fun wx hb' => ⟨by rw [hb], hb'⟩
         · obtain ⟨h, e1, e2⟩ := hg c
           exact ⟨h, e1, e2, hb9⟩
     · rintro w9 ⟨h, e1, e2, hb9⟩
       rw [e1] at h8
       refine ⟨rfl, _, (h8.below hb9).load1 un_string rfl rfl, ?_⟩
       exact qib (k, h.name) (h28.below hb9) rfl (qd hB8 hb9 hB8.size) hk2w fun wx hb' => ⟨by rw [e2], hb'⟩
end Go.Proofs.YtlfolncaghkmcaaGreatDoor
namespace Go.Pk
open Go.RowKit (Below)
abbrev Pth := List (List UInt8)
def revl (r : Rul) : Pth := (cutC 46 [] r.2).reverse
def posP (p : Pth) : List Pth -> Nat -> Option Nat
 | [], _ => none
 | q :: l, i => if p = q then some i else posP p l (i + 1)
theorem qlB {p : Pth} : ∀ {l : List Pth} {i : Nat}, posP p l i = none ↔ p ∉ l
 | [], i => by simp [posP]
 | q :: l, i => by
   unfold posP
   by_cases h : p = q
   · simp [h]
   · rw [if_neg h, qlB]; simp [h]
theorem qlC {p : Pth} : ∀ {l : List Pth} {i j : Nat}, posP p l i = some j -> i <= j /\ l[j - i]? = some p
 | [], i, j, h => by cases h
 | q :: l, i, j, h => by
   unfold posP at h
   split at h
   · rename_i e; cases h
     exact ⟨Nat.le_refl _, by rw [Nat.sub_self, e]; rfl⟩
   · obtain ⟨h1, h2⟩ := qlC h
     exact ⟨by omega, by rw [show j - i = (j - (i + 1)) + 1 by omega]; exact h2⟩
theorem posP_app (p q : Pth) : ∀ (l : List Pth) (i : Nat), posP p (l ++ [q]) i = (posP p l i).or (if p = q then some (i + l.length) else none)
 | [], i => by
   show (if p = q then some i else none) = _
   split <;> rfl
 | x :: l, i => by
   show (if p = x then some i else posP p (l ++ [q]) (i + 1)) = (if p = x then some i else posP p l (i + 1)).or _
   split
   · rfl
   · rw [posP_app p q l (i + 1)]
     congr 2
     simp; omega
abbrev qjj := Int × List UInt8
structure Trie (ps : List Pth) (kvs : List (qjj × Int)) : Prop where
 root : ps[0]? = some []
 first : ∀ (i : Nat) p, ps[i]? = some p -> posP p ps 0 = some i
 closed : ∀ p l, p ++ [l] ∈ ps -> p ∈ ps
 edge : ∀ (n : Nat) (l : List UInt8), qfL ((n : Int), l) kvs = match ps[n]? with
   | some p => (posP (p ++ [l]) ps 0).map fun i => (i : Int)
   | none => none
theorem qBO : Trie [[]] [] where
 root := rfl
 first := by
   intro i p h
   match i, h with
   | 0, h => cases h; rfl
 closed := by intro p l h; simp at h
 edge := by
   intro n l
   match n with
   | 0 => rfl
   | n + 1 => rfl
theorem Trie.pos {ps : List Pth} {kvs : List (qjj × Int)} (t : Trie ps kvs) {p : Pth} (h : p ∈ ps) : ∃ i, posP p ps 0 = some i /\ ps[i]? = some p := by
 cases hp : posP p ps 0 with
 | none => exact absurd h (qlB.1 hp)
 | some i => exact ⟨i, rfl, by simpa using (qlC hp).2⟩
theorem Trie.grow {ps : List Pth} {kvs : List (qjj × Int)} (t : Trie ps kvs) {n : Nat} {p : Pth} {l : List UInt8} (hn : ps[n]? = some p) (hno : p ++ [l] ∉ ps) : Trie (ps ++ [p ++ [l]]) (kvs ++ [(((n : Int), l), (ps.length : Int))]) where
 root := by
   have := t.root
   rw [List.getElem?_append_left (by have := (List.getElem?_eq_some_iff.1 this).1; exact this)]; exact this
 first := by
   intro i q h
   rw [posP_app]
   by_cases hi : i < ps.length
   · rw [List.getElem?_append_left hi] at h
     rw [t.first i q h]; rfl
   · rw [List.getElem?_append_right (by omega)] at h
     have h0 : i = ps.length := by
       have := (List.getElem?_eq_some_iff.1 h).1
       simp at this; omega
     subst h0
     rw [Nat.sub_self] at h
     cases h
     rw [qlB.2 hno, if_pos rfl]; simp
 closed := by
   intro q x h
   rw [List.mem_append] at h ⊢
   rcases h with h | h
   · exact .inl (t.closed q x h)
   · rw [List.mem_singleton] at h
     have := List.append_inj_left' h rfl
     subst this
     exact .inl (List.mem_of_getElem? hn)
 edge := by
   intro m x
   rw [lookG_app, t.edge m x]
   by_cases hm : m < ps.length
   · rw [List.getElem?_append_left hm]
     obtain ⟨q, hq⟩ : ∃ q, ps[m]? = some q := ⟨_, List.getElem?_eq_getElem hm⟩
     rw [hq]
     simp only
     rw [posP_app]
     have e : (((m : Int), x) = ((n : Int), l)) ↔ (q ++ [x] = p ++ [l]) := by
       constructor
       · intro h
         have h1 : m = n := by have := congrArg Prod.fst h; simp at this; omega
         have h2 : x = l := congrArg Prod.snd h
         subst h1 h2
         rw [hq] at hn
         rw [Option.some.inj hn]
       · intro h
         have h1 := List.append_inj_left' h rfl
         have h2 := List.append_inj_right' h rfl
         subst h1
         have := (t.first m q hq).symm.trans (t.first n q hn)
         rw [Option.some.inj this, List.singleton_inj.1 h2]
     cases hp : posP (q ++ [x]) ps 0 with
     | some i => rfl
     | none =>
       by_cases he : q ++ [x] = p ++ [l]
       · rw [if_pos (e.2 he), if_pos he]; simp
       · rw [if_neg (fun h => he (e.1 h)), if_neg he]; rfl
   · have hnl : n < ps.length := (List.getElem?_eq_some_iff.1 hn).1
     rw [List.getElem?_eq_none (l := ps) (by omega)]
     rw [if_neg (fun h => by have := congrArg Prod.fst h; simp at this; omega)]
     by_cases h0 : m = ps.length
     · subst h0
       rw [List.getElem?_append_right (Nat.le_refl _), Nat.sub_self]
       simp only [List.getElem?_cons_zero]
       have h1 : posP (p ++ [l] ++ [x]) (ps ++ [p ++ [l]]) 0 = none := by
         rw [qlB, List.mem_append, List.mem_singleton]
         rintro (h | h)
         · exact hno (t.closed _ _ h)
         · have := congrArg List.length h; simp at this
       rw [h1]; rfl
     · rw [List.getElem?_append_right (by omega), List.getElem?_eq_none (l := [p ++ [l]]) (by simp; omega)]; rfl
def marks (rs : List Rul) (p : Pth) : List Bool := (List.range 4).map fun (k : Nat) => rs.any fun r => decide (r.1 = (k : Int) /\ revl r = p)
theorem qqc (rs : List Rul) (p : Pth) : (marks rs p).length = 4 := by simp [marks]
theorem qtb (rs : List Rul) (p : Pth) (k : Nat) (h : k < 4) : (marks rs p)[k]? = some (rs.any fun r => decide (r.1 = (k : Int) /\ revl r = p)) := by
 unfold marks
 rw [List.getElem?_map, List.getElem?_range h]; rfl
structure Tab (ps : List Pth) (es : List (List Bool)) (rs : List Rul) : Prop where
 len : es.length = ps.length
 mark : ∀ (i : Nat) p, ps[i]? = some p -> es[i]? = some (marks rs p)
 rules : ∀ r ∈ rs, revl r ∈ ps
theorem qC6 : Tab [[]] [[false, false, false, false]] [] where
 len := rfl
 mark := by
   intro i p h
   match i, h with
   | 0, h => cases h; rfl
 rules := by intro r h; cases h
theorem Tab.grow {ps : List Pth} {es : List (List Bool)} {rs : List Rul} (t : Tab ps es rs) {q : Pth} (hq : q ∉ ps) : Tab (ps ++ [q]) (es ++ [[false, false, false, false]]) rs where
 len := by rw [List.length_append, List.length_append, t.len]; rfl
 mark := by
   intro i p h
   by_cases hi : i < ps.length
   · rw [List.getElem?_append_left hi] at h
     rw [List.getElem?_append_left (by rw [t.len]; exact hi)]
     exact t.mark i p h
   · rw [List.getElem?_append_right (by omega)] at h
     have h0 : i = ps.length := by
       have := (List.getElem?_eq_some_iff.1 h).1
       simp at this; omega
     subst h0
     rw [Nat.sub_self] at h
     cases h
     rw [List.getElem?_append_right (by rw [t.len]; exact Nat.le_refl _), t.len, Nat.sub_self]
     show some _ = some _
     congr 1
     have : ∀ k : Nat, (rs.any fun r => decide (r.1 = (k : Int) /\ revl r = q)) = false := fun k => by
       rw [List.any_eq_false]
       intro r hr
       simp only [dTx]
       rintro ⟨-, he⟩
       exact hq (he ▸ t.rules r hr)
     unfold marks
     simp only [List.range_succ, List.range_zero, List.map_append, List.map_nil, List.map_cons, List.nil_append, this]; rfl
 rules := fun r hr => List.mem_append_left _ (t.rules r hr)
theorem Tab.rule {ps : List Pth} {kvs : List (qjj × Int)} {es : List (List Bool)} {rs : List Rul} (T : Trie ps kvs) (t : Tab ps es rs) {r : Rul} {n : Nat} {k : Nat} (hk : r.1 = (k : Int)) (hn : ps[n]? = some (revl r)) (h4 : k < 4) :
   Tab ps (es.set n ((marks rs (revl r)).set k true)) (rs ++ [r]) where
 len := by rw [List.length_set, t.len]
 mark := by
   intro i p h
   have hnl : n < ps.length := (List.getElem?_eq_some_iff.1 hn).1
   by_cases hi : n = i
   · subst hi
     have hp : p = revl r := by rw [hn] at h; exact (Option.some.inj h).symm
     subst hp
     rw [List.getElem?_set_self (by rw [t.len]; exact hnl)]
     congr 1
     apply List.ext_getElem?
     intro j
     by_cases hj : j < 4
     · rw [qtb _ _ _ hj, List.getElem?_set, qqc]
       by_cases hkj : k = j
       · subst hkj
         rw [if_pos rfl, if_pos h4, List.any_append]
         simp [hk]
       · rw [if_neg hkj, qtb _ _ _ hj, List.any_append]
         have : ¬ r.1 = (j : Int) := by rw [hk]; omega
         simp [this]
     · rw [List.getElem?_eq_none (by simp [qqc]; omega), List.getElem?_eq_none (by rw [qqc]; omega)]
   · rw [List.getElem?_set_ne hi, t.mark i p h]
     congr 1
     unfold marks
     apply List.map_congr_left
     intro k' _
     rw [List.any_append]
     have : revl r ≠ p := by
       intro he
       subst he
       have := (T.first i _ h).symm.trans (T.first n _ hn)
       exact hi (Option.some.inj this).symm
     simp [this]
 rules := by
   intro x hx
   rcases List.mem_append.1 hx with hx | hx
   · exact t.rules x hx
   · rw [List.mem_singleton] at hx; subst hx; exact List.mem_of_getElem? hn
structure Top (d : Nat) (S : Nat -> Prop) (m : Nat) : Prop where
 is : m = d \/ S m
 ge : d <= m
 le : ∀ x, S x -> x <= m
theorem Top.eq {d : Nat} {S : Nat -> Prop} {m m' : Nat} (h : Top d S m) (h' : Top d S m') : m = m' := by
 have a : m <= m' := by rcases h.is with e | e; rw [e]; exact h'.ge; exact h'.le _ e
 have b : m' <= m := by rcases h'.is with e | e; rw [e]; exact h.ge; exact h.le _ e
 omega
theorem Top.congr {d : Nat} {S S' : Nat -> Prop} {m : Nat} (h : Top d S m) (e : ∀ x, S x ↔ S' x) : Top d S' m := ⟨h.is.imp id (e m).1, h.ge, fun x hx => h.le x ((e x).2 hx)⟩
theorem Top.zero (d : Nat) : Top d (fun _ => False) d := ⟨.inl rfl, Nat.le_refl _, fun _ h => h.elim⟩
theorem Top.max {d : Nat} {S : Nat -> Prop} {m : Nat} (h : Top d S m) (x : Nat) : Top d (fun y => S y \/ y = x) (max m x) := by
 by_cases c : m <= x
 · rw [Nat.max_eq_right c]
   exact ⟨.inr (.inr rfl), Nat.le_trans h.ge c, fun y hy => hy.elim (fun hy => Nat.le_trans (h.le y hy) c) (fun hy => by omega)⟩
 · rw [Nat.max_eq_left (by omega)]
   exact ⟨h.is.imp id .inl, h.ge, fun y hy => hy.elim (h.le y) (fun hy => by omega)⟩
def qjN (rs : List Rul) (R : Pth) (n1 n2 x : Nat) : Prop := ∃ r ∈ rs, revl r = R.take (revl r).length /\ (r.1 = 1 /\ (revl r).length <= n1 /\ (revl r).length = x \/ r.1 = 2 /\ (revl r).length <= n2 /\ (revl r).length + 1 = x)
def qgW (rs : List Rul) (R : Pth) (n x : Nat) : Prop := ∃ r ∈ rs, revl r = R.take (revl r).length /\ r.1 = 3 /\ (revl r).length <= n /\ (revl r).length - 1 = x
end Go.Pk
namespace Go.Pk
open Go.RowKit (Below)
theorem qDN (g i k j : Nat) : ql (ql (some ⟨g, 0, none⟩) (i : Int) k) (j : Int) 1 = some ⟨g, i * k + j, none⟩ := by
 rw [qfR, qfR]; simp
theorem qBA {α : Type} (l : List α) (p k j : Nat) (v : α) (hj : j < k) (hl : p + k <= l.length) : l.take (p + j) ++ [v] ++ l.drop (p + j + 1) = l.take p ++ (((l.drop p).take k).set j v) ++ l.drop (p + k) := by
 have e1 : l = l.take p ++ ((l.drop p).take k ++ l.drop (p + k)) := by
   rw [<- List.drop_drop, List.take_append_drop, List.take_append_drop]
 generalize hA : l.take p = A at *
 generalize hB : (l.drop p).take k = B at *
 generalize hC : l.drop (p + k) = C at *
 have lA : A.length = p := by rw [<- hA]; simp; omega
 have lB : B.length = k := by rw [<- hB]; simp; omega
 clear hA hB hC
 subst e1
 have t1 : (A ++ (B ++ C)).take (p + j) = A ++ B.take j := by
   rw [List.take_append, List.take_of_length_le (by omega), lA, show p + j - p = j by omega, List.take_append_of_le_length (by omega)]
 have t2 : (A ++ (B ++ C)).drop (p + j + 1) = B.drop (j + 1) ++ C := by
   rw [List.drop_append, List.drop_of_length_le (by omega), List.nil_append, lA, show p + j + 1 - p = j + 1 by omega, List.drop_append_of_le_length (by omega)]
 rw [t1, t2, List.set_eq_take_append_cons_drop, if_pos (by omega)]
 simp
theorem Sl.loadC {α : Type} {T : Ty α} {P : Program} {u : TypeId} {d : TypeDesc} (hu : P.underlying u = some d) (ha : aggD d = false) {w : World} {A : Bl} {a : Option Addr} {n c : Nat} {xs : List α} (h : Sl T w A a n c xs) {i j k : Nat} (hk : T.k = k) (hi : i < xs.length) (hj : j < k)
   {v : Value} (hv : ∀ vs, T.rep w A vs xs[i] -> vs[j]? = some v) : (Instr.loadAt u (.pointer (ql (ql a (i : Int) k) (j : Int) 1))).run P w = .ok v w := by
 subst hk
 rcases h.2.2.2 with h4 | ⟨b, off, e, hb, hab, h4⟩
 · subst h4; cases hi
 · obtain ⟨vs, h5, h6⟩ := h4.elem hi
   rw [e, qfR, qfR]
   show (do loadVar u (<- Instr.sureAddr (.pointer (some _)))).run P w = _
   rw [Sem.run_bind, qea]
   refine loadVar_one hu ha ?_
   have := h6 j hj
   rw [hv vs h5] at this
   simpa using this
theorem Ow.store1 {α : Type} {T : Ty α} {P : Program} {t u : TypeId} {bytes : Nat} {z : Value} (tf : TF P u 1 bytes z) {w : World} {A : Bl} {a : Option Addr} {n c : Nat} {xs : List α} (ho : Ow T t w A a n c xs) (hA : ∀ g, ownB a = some g -> ¬ A g)
   {i j k : Nat} (hk : T.k = k) (hi : i < xs.length) (hj : j < k) {v : Value} (h1 : v.oneCell' = true) (hc : v.cells = #[v]) {x : α} (hv : ∀ vs, T.rep w A vs xs[i] -> T.rep w A (vs.set j v) x) :
   ∃ w', (Instr.storeAt u (.pointer (ql (ql a (i : Int) k) (j : Int) 1)) v).run P w = .ok () w' /\ Ow T t w' A a n c (xs.set i x) /\ w.grownBy w' (ownB a) := by
 subst hk
 obtain ⟨ti, hti, hsz, _, _⟩ := tf.info
 obtain ⟨hn, hnc, hcm, ho4⟩ := ho
 rcases ho4 with ⟨_, _, rfl⟩ | ⟨g, cur, fr, rfl, hg, hf, hcs, hrep⟩
 · cases hi
 · subst hn
   have hb : i * T.k + T.k <= xs.length * T.k := by
     have := Nat.mul_le_mul_right T.k (show i + 1 <= xs.length from hi)
     rwa [Nat.add_mul, Nat.one_mul] at this
   have hb2 : xs.length * T.k <= cur.size := by rw [hcs]; exact Nat.mul_le_mul_right _ hnc
   have hx := hrep.rep i hi
   have hvs := hv _ hx
   have hvl := T.len hvs
   rw [qDN]
   have hst := qjA (P := P) hti (o := i * T.k + j) hg hf (v := v) (by rw [hc, hsz]; rfl) (by rw [hsz]; omega) (fun x hx => by rw [hc] at hx; simp at hx; rw [hx]; exact h1)
   have hrow : (cur.toList.take (i * T.k + j) ++ v.cells.toList ++ cur.toList.drop (i * T.k + j + v.cells.size)) = cur.toList.take (i * T.k) ++ (((cur.toList.take (xs.length * T.k)).drop (i * T.k)).take T.k).set j v ++ cur.toList.drop (i * T.k + T.k) := by
     rw [hc]
     have e := qBA cur.toList (i * T.k) T.k j v hj (by simp; omega)
     have e2 : ((cur.toList.take (xs.length * T.k)).drop (i * T.k)).take T.k = (cur.toList.drop (i * T.k)).take T.k := by
       rw [List.drop_take, List.take_take]; congr 1; omega
     rw [e2]; exact e
   rw [hrow] at hst
   generalize (((cur.toList.take (xs.length * T.k)).drop (i * T.k)).take T.k).set j v = vs' at *
   refine ⟨_, hst, ?_, qe8 w g _⟩
   refine ⟨by simp, hnc, hcm, .inr ⟨g, _, fr, rfl, setRow_heap w g cur _ t fr hg, ?_, ?_, ?_⟩⟩
   · intro j' hj'
     refine hf j' ?_
     simp at hj'; omega
   · simp; omega
   · have h2 := (hrep.set hi hvs).keep (qbI (qe8 w g (cur.toList.take (i * T.k) ++ vs' ++ cur.toList.drop (i * T.k + T.k)).toArray) fun b hb e => hA g rfl (by cases e; exact hb))
     have e : ((cur.toList.take (i * T.k) ++ vs' ++ cur.toList.drop (i * T.k + T.k)).toArray).toList.take (xs.length * T.k) =
         (cur.toList.take (xs.length * T.k)).take (i * T.k) ++ vs' ++ (cur.toList.take (xs.length * T.k)).drop (i * T.k + vs'.length) := by
       simp only []
       have e1 : (cur.toList.take (xs.length * T.k)).take (i * T.k) = cur.toList.take (i * T.k) := by rw [List.take_take]; congr 1; omega
       rw [e1, List.take_append, List.drop_take]
       have e2 : (cur.toList.take (i * T.k) ++ vs').length = i * T.k + T.k := by simp [hvl]; omega
       rw [e2, List.take_of_length_le (by rw [e2]; omega)]
       congr 2
       · rw [hvl]
       · rw [hvl]
     rw [e]; exact h2
end Go.Pk
namespace Go.Pk
open Go.RowKit (Below)
def ekE (e : qjj) : Value := .agg #[.int .i64 e.1, .string (mkS e.2)]
def evI (n : Int) : Value := .int .i64 n
def tB4 : Ty (List Bool) where
 k := 4
 pos := by decide
 rep := fun _ _ vs x => vs = x.map Value.bool /\ x.length = 4
 len := fun h => by rw [h.1, List.length_map, h.2]
 one := fun {_ _ _ x} h v hv => by rw [h.1] at hv; obtain ⟨b, _, rfl⟩ := List.mem_map.1 hv; rfl
 keep := fun h _ => h
 mono := fun h _ => h
theorem qAd : Flat tB4 := fun _ _ _ _ _ _ h => h
def tRul : Ty Rul where
 k := 2
 pos := by decide
 rep := fun _ _ vs r => vs = rulC r
 len := fun h => by rw [h]; rfl
 one := fun {_ _ _ x} h v hv => by rw [h] at hv; exact (qx rfl (qx rfl zT) : One1 (rulC x)) v hv
 keep := fun h _ => h
 mono := fun h _ => h
structure qjH (w0 : World) (t te : TypeId) (kt km : Nat) (a : Option Addr) (n c : Nat) (ps : List Pth) (kvs : List (qjj × Int)) (es : List (List Bool)) (rs : List Rul) (w : World) : Prop where
 h1 : qk w kt t [.map (some km), .slice a n c]
 h2 : MapG ekE evI w km kvs
 h3 : Ow tB4 te w NoB a n c es
 T : Trie ps kvs
 t : Tab ps es rs
 hb : Below w0.heap.size w0 w
 ne : km ≠ kt
 og : ∀ g, ownB a = some g -> g ≠ kt /\ g ≠ km /\ w0.heap.size <= g
 kt0 : w0.heap.size <= kt
 km0 : w0.heap.size <= km
theorem qjH.below {w0 : World} {t te : TypeId} {kt km : Nat} {a : Option Addr} {n c : Nat} {ps : List Pth} {kvs : List (qjj × Int)} {es : List (List Bool)} {rs : List Rul} {w w' : World} (S : qjH w0 t te kt km a n c ps kvs es rs w) (h : Below w.heap.size w w') : qjH w0 t te kt km a n c ps kvs es rs w' :=
 ⟨S.h1.below h, S.h2.below h, S.h3.below h, S.T, S.t, qd S.hb h S.hb.size, S.ne, S.og, S.kt0, S.km0⟩
theorem qqk {α : Type} {T : Ty α} {t : TypeId} {w w' : World} {a : Option Addr} {n c : Nat} {xs : List α} (h : Ow T t w NoB a n c xs) {r : Option Nat} (hg : w.grownBy w' r) (hne : ∀ g, ownB a = some g -> r ≠ some g) : Ow T t w' NoB a n c xs :=
 h.keep (qbI hg fun b hb e => by
   rcases hb with hb | hb
   · exact hb
   · exact hne b hb.symm e.symm)
theorem qta {ek : qjj -> Value} {ev : Int -> Value} {w w' : World} {r : Nat} {kvs : List (qjj × Int)} (h : MapG ek ev w r kvs) {k : Option Nat} (hg : w.grownBy w' k) (hne : k ≠ some r) : MapG ek ev w' r kvs := h.keep (hg.block r h.lt fun e => hne e.symm)
structure PutS (w0 : World) (t te ts tr : TypeId) (kt km k3 : Nat) (rs : List Rul) (r : Rul) (aL : Option Addr) (nL cL : Nat) (L : List (List UInt8)) (N : Nat) (p : Pth) (node : Nat) (w : World) : Prop where
 ex : ∃ a n c ps kvs es, qjH w0 t te kt km a n c ps kvs es rs w /\ posP p ps 0 = some node /\ ps.length <= N /\ (∀ g, ownB a = some g -> g ≠ k3 /\ ownB aL ≠ some g)
 hL : Ow tS ts w NoB aL nL cL L
 h3 : qk w k3 tr (rulC r)
 s1 : kt ≠ k3
 s2 : km ≠ k3
 s3 : ownB aL ≠ some kt
 s4 : ownB aL ≠ some km
theorem PutS.below {w0 : World} {t te ts tr : TypeId} {kt km k3 : Nat} {rs : List Rul} {r : Rul} {aL : Option Addr} {nL cL : Nat} {L : List (List UInt8)} {N : Nat} {p : Pth} {node : Nat} {w w' : World} (S : PutS w0 t te ts tr kt km k3 rs r aL nL cL L N p node w) (h : Below w.heap.size w w') : PutS w0 t te ts tr kt km k3 rs r aL nL cL L N p node w' := by
 obtain ⟨a, n, c, ps, kvs, es, h1, h2, h3, h4⟩ := S.ex
 exact ⟨⟨a, n, c, ps, kvs, es, h1.below h, h2, h3, h4⟩, S.hL.below h, S.h3.below h, S.s1, S.s2, S.s3, S.s4⟩
end Go.Pk
namespace Go.Proofs.YtlfolncaghkmcaaGreatDoor
open Go.Pk
open Go.RowKit (Below)
theorem qDb : ∃ fs, prog.underlying qbu = some (.struct fs) := ⟨_, rfl⟩
theorem qos : qpk prog qbu ekE := by
 obtain ⟨fs, h⟩ := qDb
 refine qpk.struct h (fun a b => ?_) (fun b k w => ?_)
 · obtain ⟨a1, a2⟩ := a
   obtain ⟨b1, b2⟩ := b
   have e : eqV prog 10000 qbu (ekE (a1, a2)) (ekE (b1, b2)) = some ((a1 == b1) && ((a2 == b2) && true)) := by kernel_rfl
   rw [e]
   congr 1
   rw [Bool.eq_iff_iff]; simp
 · obtain ⟨a1, a2⟩ := k
   kernel_rfl
theorem qwl : Whl prog qbu 2 := ⟨⟨_, _, quT⟩, by kernel_rfl⟩
def qCl (w0 : World) (kt km : Nat) (rs : List Rul) (N : Nat) (v : Value) (w' : World) : Prop :=
 v = .tuple #[] /\ ∃ a n c ps kvs es, qjH w0 zj zF kt km a n c ps kvs es rs w' /\ ps.length <= N
theorem qwj {w0 : World} (he : Env w0) {kt km : Nat} {a : Option Addr} {n c : Nat} {ps : List Pth} {kvs : List (qjj × Int)} {es : List (List Bool)} {rs : List Rul} {w : World} (S : qjH w0 zj zF kt km a n c ps kvs es rs w) (r : Rul)
   (hk : ∃ k : Nat, r.1 = (k : Int) /\ k < 4) (hr : r.2.length <= 253) {N : Nat} (hN : ps.length <= N) (hN2 : N <= 1000000000) :
   Calls prog qiE #[.pointer (some ⟨kt, 0, none⟩), rulV r] w (Ret (qCl w0 kt km (rs ++ [r]) (N + 300))) := by
 obtain ⟨rk, rn⟩ := r
 obtain ⟨kk, hkk, hk4⟩ := hk
 simp only at hkk hr
 subst hkk
 apply qoJ
 unfold qkG
 intro k3 w3 hk3 hw3
 have hb3 := (hw3 ▸ qj w _ : Below w.heap.size w w3)
 have h3 : qk w3 k3 qp (rulC ((kk : Int), rn)) := qk.new hk3 hw3
 have lt1 := S.h1.lt
 have lt2 := S.h2.lt
 have S3 := S.below hb3
 refine ⟨rfl, _, h3.load1 un_string rfl rfl, ?_⟩
 refine callK (qgV rn 46 (by omega) w3 (he.step S3.hb)) ?_
 rintro _ w4 ⟨aL, nL, cL, rfl, hoL, hfL, hb4⟩
 have hcc : (cutC 46 [] rn).length <= 300 := by have := qbH 46 rn []; omega
 have hR : revl ((kk : Int), rn) = (cutC 46 [] rn).reverse := rfl
 generalize cutC 46 [] rn = L at *
 have hnL := hoL.len
 subst hnL
 refine ⟨_, _, _, rfl, ?_⟩
 have hs3 := hb3.size
 have S4 := S3.below hb4
 have P0 : PutS w0 zj zF qh qp kt km k3 rs ((kk : Int), rn) aL L.length cL L (N + 0) [] 0 w4 := by
   refine ⟨⟨a, n, c, ps, kvs, es, S4, ?_, hN, fun g hg => ⟨?_, ?_⟩⟩, hoL, h3.below hb4, by omega, by omega, fun hx => ?_, fun hx => ?_⟩
   · exact S.T.first 0 [] S.T.root
   · have := S.h3.lt g hg; omega
   · intro hx; have := hfL g hx; have := S.h3.lt g hg; omega
   · have := hfL _ hx; omega
   · have := hfL _ hx; omega
 have e0 : i64.wrap (((L.length : Nat) : Int) - 1) = ((L.length : Nat) : Int) - 1 := wrap_i64 (by omega) (by omega)
 rw [e0]
 clear S3 S4 S
 refine ⟨fun m nd i w' => ∃ (k node : Nat), k <= L.length /\ i = ((L.length : Nat) : Int) - 1 - (k : Int) /\ m = L.length - k /\ nd = (node : Int) /\ PutS w0 zj zF qh qp kt km k3 rs ((kk : Int), rn) aL L.length cL L (N + k) ((revl ((kk : Int), rn)).take k) node w', ⟨_, 0, 0, by omega, by omega, rfl, rfl, P0⟩, ?_⟩
 intro m nd i
 refine AllJ.of ?_ _
 rintro w5 ⟨k, node, hkl, rfl, rfl, rfl, P5⟩
 refine BCase.of (fun h => ?_) (fun h => ?_) <;> simp only [ge_iff_le, dTx, dFx] at h
 · have hlt : k < L.length := by omega
   have ei : ((L.length : Nat) : Int) - 1 - (k : Int) = ((L.length - 1 - k : Nat) : Int) := by omega
   rw [ei]
   refine ⟨⟨⟨by omega, by omega⟩, P5.hL.all.isSome (by omega)⟩, _, P5.hL.all.text un_string (by omega), ?_⟩
   have hRk : (revl ((kk : Int), rn)).take (k + 1) = (revl ((kk : Int), rn)).take k ++ [L[L.length - 1 - k]'(by omega)] := by
     rw [hR, List.take_succ_eq_append_getElem (by simpa using hlt), List.getElem_reverse]
   generalize L[L.length - 1 - k]'(by omega) = lab at *
   refine qwl.new (zs := [.int .i64 0, .string (mkS [])]) (cs := [.int .i64 (node : Int), .string (mkS lab)]) rfl rfl (qx rfl (qx rfl zT)) w5 fun k7 w7 hk7 h7 hb7 => ?_
   have P7 := P5.below hb7
   simp only [qlP]
   obtain ⟨a5, n5, c5, ps5, kvs5, es5, S7, hp5, hN5, hog5⟩ := P7.ex
   have pn := (qlC hp5).2
   rw [Nat.sub_zero] at pn
   have hedge := S7.T.edge node lab
   rw [pn] at hedge
   simp only at hedge
   have lt7 := h7.lt
   have ltm := S7.h2.lt
   have ltt := S7.h1.lt
   have hkk7 : k7 ≠ km /\ k7 ≠ kt /\ k7 ≠ k3 := by
     have := P5.h3.lt
     obtain ⟨_, _, _, _, _, _, S5, _⟩ := P5.ex
     have := S5.h1.lt
     have := S5.h2.lt
     omega
   have hog7 : ∀ g, ownB a5 = some g -> g ≠ k7 := fun g hg => by
     obtain ⟨a6, n6, c6, ps6, kvs6, es6, S5, _⟩ := P5.ex
     have e1 := S5.h1.below hb7
     have e2 := S7.h1
     unfold qk at e1 e2
     rw [e1] at e2
     simp only [Option.some.injEq, Obj.cells.injEq, and_true, true_and] at e2
     have e3 : a6 = a5 := by
       have := congrArg (fun x : Array Value => x[1]?) e2
       simp at this
       exact this.1
     subst e3
     have := S5.h3.lt g hg
     omega
   have hol7 : ∀ g, ownB aL = some g -> g ≠ k7 := fun g hg => by have := P5.hL.lt g hg; omega
   have luk : ∀ u, Below w7.heap.size w7 u -> (Instr.loadAt jw (.pointer (some ⟨kt, 0, none⟩))).run prog u = .ok (.map (some km)) u := fun u hu => (S7.h1.below hu).load1 z8 rfl rfl
   have led : ∀ u, Below w7.heap.size w7 u -> (Instr.loadAt qbu (.pointer (some ⟨k7, 0, none⟩))).run prog u = .ok (.agg #[.int .i64 (node : Int), .string (mkS lab)]) u := fun u hu => qwl.load0 (h7.below hu) rfl
   refine ⟨fun wj => ∃ i2 : Nat, PutS w0 zj zF qh qp kt km k3 rs ((kk : Int), rn) aL L.length cL L (N + (k + 1)) ((revl ((kk : Int), rn)).take (k + 1)) i2 wj /\ (∃ a n c ps kvs es, qjH w0 zj zF kt km a n c ps kvs es rs wj /\ qfL ((node : Int), lab) kvs = some (i2 : Int)) /\ qk wj k7 qbu [.int .i64 (node : Int), .string (mkS lab)], ?_, ?_⟩
   · refine ⟨rfl, rfl, _, luk, _, _, led, ?_⟩
     cases hq : posP ((revl ((kk : Int), rn)).take k ++ [lab]) ps5 0 with
     | some i2 =>
       rw [hq] at hedge
       refine ⟨(i2 : Int), true, fun u hu => ?_, ?_⟩
       · have := (S7.h2.below hu).look2 (P := prog) z8 qos qab ((node : Int), lab)
         rw [hedge] at this; exact this
       intro wq hwq
       refine BCase.no rfl ?_
       rw [hRk]
       have P8 := P7.below hwq
       exact ⟨i2, ⟨⟨a5, n5, c5, ps5, kvs5, es5, S7.below hwq, hq, by omega, hog5⟩, P8.hL, P8.h3, P8.s1, P8.s2, P8.s3, P8.s4⟩, ⟨a5, n5, c5, ps5, kvs5, es5, S7.below hwq, hedge⟩, h7.below hwq⟩
     | none =>
       rw [hq] at hedge
       have hno := qlB.1 hq
       refine ⟨0, false, fun u hu => ?_, ?_⟩
       · have := (S7.h2.below hu).look2 (P := prog) z8 qos qab ((node : Int), lab)
         rw [hedge] at this; exact this
       intro wq hwq
       have S8 := S7.below hwq
       have P8 := P7.below hwq
       have h78 := h7.below hwq
       refine BCase.yes rfl ⟨rfl, rfl, _, fun u hu => (S8.h1.below hu).load1 z8 rfl rfl, _, _, fun u hu => qwl.load0 (h78.below hu) rfl, rfl, rfl, _, _, _, fun u hu => (S8.h1.below hu).load1 qeQ rfl rfl, ?_⟩
       intro wr hwr
       have S9 := S8.below hwr
       have P9 := P8.below hwr
       have h79 := h78.below hwr
       have hn5 := S9.h3.len
       have hesl := S9.t.len
       -- the way
       obtain ⟨wa, hsa, hma, hga⟩ := S9.h2.put (P := prog) z8 qos (k := ((node : Int), lab)) hedge (((n5 : Nat) : Int))
       refine ⟨wa, hsa, ?_⟩
       have h1a := S9.h1.grown hga (qP S9.ne.symm)
       have h3a := qqk S9.h3 hga fun g hg e => (S9.og g hg).2.1 (Option.some.inj e).symm
       have hLa := qqk P9.hL hga fun g hg e => P9.s4 (by rw [hg, <- e])
       have hRa := P9.h3.grown hga (qP P9.s2.symm)
       have h7a := h79.grown hga (qP hkk7.1)
       have hBa := Below.put S9.hb hga S9.km0
       refine ⟨rfl, rfl, _, _, _, h1a.load1 qeQ rfl rfl, ?_⟩
       intro kb wb hkb hwb
       have hbb := (hwb ▸ qj wa _ : Below wa.heap.size wa wb)
       have hBb := qd hBa hbb hBa.size
       have hsrc : Src tB4 wb NoB (some ⟨kb, 0, none⟩) 1 [[false, false, false, false]] := Src.new1F qAd hkb hwb ⟨rfl, rfl⟩
       obtain ⟨wc, ac, nc, cc, hrc, h3c, hgc, hfc⟩ := qdb (P := prog) (ty := jR) qeQ qxd (by decide) (h3a.below hbb) (fun _ _ h => h) (cm := 1) hsrc (by simp; omega)
       refine ⟨wc, ac, nc, cc, hrc, rfl, rfl, ?_⟩
       have ltka := h1a.lt
       have ltma := hma.lt
       have sza := hbb.size
       have nog : ∀ x, (∀ g, ownB a5 = some g -> g ≠ x) -> some x ≠ ownB a5 := fun x h e => h x e.symm rfl
       have h1c := (h1a.below hbb).grown hgc (nog kt fun g hg => (S9.og g hg).1)
       have hmc := qta (hma.below hbb) hgc (nog km fun g hg => (S9.og g hg).2.1).symm
       have hLc := qqk (hLa.below hbb) hgc fun g hg e => (hog5 g e).2 hg
       have hRc := (hRa.below hbb).grown hgc (nog k3 fun g hg => (hog5 g hg).1)
       have h7c := (h7a.below hbb).grown hgc (nog k7 hog7)
       have hBc : Below w0.heap.size w0 wc := hBb.grown hgc hBb.size fun x e => (S9.og x e).2.2
       obtain ⟨wd, hsd, h1d, hgd⟩ := h1c.put (P := prog) qtR (i := 1) (v := .slice ac nc cc) (show 1 < 2 by decide) rfl rfl
       refine ⟨wd, hsd, ?_⟩
       have hacn : ∀ g, ownB ac = some g -> g ≠ kt /\ g ≠ km /\ w0.heap.size <= g /\ g ≠ k3 /\ ownB aL ≠ some g := fun g hg => by
         rcases hfc g hg with e | e
         · have := S9.og g e
           have h2 := hog5 g e
           exact ⟨this.1, this.2.1, this.2.2, h2.1, h2.2⟩
         · have := hBb.size
           have := (hRa.below hbb).lt
           have h3 : ∀ x, ownB aL = some x -> x < wb.heap.size := (hLa.below hbb).lt
           exact ⟨by omega, by omega, by omega, by omega, fun hx => by have := h3 g hx; omega⟩
       have Td := S9.T.grow pn hno
       have td := S9.t.grow hno
       have hn9 : ((n5 : Nat) : Int) = ((ps5.length : Nat) : Int) := by omega
       rw [hn9] at hmc
       have Sd : qjH w0 zj zF kt km ac nc cc _ _ _ rs wd := ⟨h1d, qta hmc hgd (qP S9.ne.symm), qqk h3c hgd fun g hg e => (hacn g hg).1 (Option.some.inj e).symm, Td, td, Below.put hBc hgd S9.kt0, S9.ne, fun g hg => ⟨(hacn g hg).1, (hacn g hg).2.1, (hacn g hg).2.2.1⟩, S9.kt0, S9.km0⟩
       have hpd : posP ((revl ((kk : Int), rn)).take k ++ [lab]) (ps5 ++ [(revl ((kk : Int), rn)).take k ++ [lab]]) 0 = some ps5.length := by
         rw [posP_app, hq, if_pos rfl]; simp
       rw [hRk]
       refine ⟨ps5.length, ⟨⟨ac, nc, cc, _, _, _, Sd, hpd, by simp; omega, fun g hg => ⟨(hacn g hg).2.2.2.1, (hacn g hg).2.2.2.2⟩⟩, qqk hLc hgd fun g hg e => P9.s3 (by rw [hg, <- e]), hRc.grown hgd (qP P9.s1.symm), P9.s1, P9.s2, P9.s3, P9.s4⟩, ⟨ac, nc, cc, _, _, _, Sd, ?_⟩, h7c.grown hgd (qP hkk7.2.1)⟩
       rw [lookG_app, hedge, if_pos rfl]; rfl
   · refine AllJ.of ?_ _
     rintro wj ⟨i2, Pj, ⟨a6, n6, c6, ps6, kvs6, es6, S6, hl6⟩, h7j⟩
     refine ⟨rfl, rfl, _, fun u hu => (S6.h1.below hu).load1 z8 rfl rfl, _, _, fun u hu => qwl.load0 (h7j.below hu) rfl, (i2 : Int), fun u hu => ?_, fun wq hwq => ?_⟩
     · have := (S6.h2.below hu).look1 (P := prog) z8 qos qab ((node : Int), lab)
       rw [hl6] at this; exact this
     · exact ⟨L.length - (k + 1), by omega, k + 1, i2, by omega, by rw [wrap_i64 (by omega) (by omega)]; omega, rfl, rfl, Pj.below hwq⟩
 · have : k = L.length := by omega
   subst this
   have hRl : (revl ((kk : Int), rn)).take L.length = revl ((kk : Int), rn) := by rw [List.take_of_length_le]; rw [hR]; simp
   rw [hRl] at P5
   simp only [qlP]
   obtain ⟨a5, n5, c5, ps5, kvs5, es5, S5, hp5, hN5, hog5⟩ := P5.ex
   have pn := (qlC hp5).2
   rw [Nat.sub_zero] at pn
   have hnl : node < es5.length := by rw [S5.t.len]; exact (List.getElem?_eq_some_iff.1 pn).1
   have hn5 := S5.h3.len
   subst hn5
   have hsome := S5.h3.all.isSome hnl
   have hrow := S5.t.mark node _ pn
   refine ⟨rfl, rfl, _, _, _, fun u hu => (S5.h1.below hu).load1 qeQ rfl rfl, trivial, _, fun u hu => (P5.h3.below hu).load1 qK rfl rfl, ⟨⟨by omega, by omega⟩, hsome⟩, ⟨⟨by omega, by omega⟩, ?_⟩, ?_⟩
   · cases a5 with
     | none => cases hsome
     | some x => rfl
   intro wq hwq
   have S6 := S5.below hwq
   obtain ⟨w7, hs7, h37, hg7⟩ := S6.h3.store1 (P := prog) qcr (fun _ _ h => h) (k := 4) rfl (i := node) (j := kk) hnl hk4 (v := .bool true) (x := (marks rs (revl ((kk : Int), rn))).set kk true) rfl rfl (by
     intro vs hvs
     rw [List.getElem?_eq_getElem hnl] at hrow
     have hvs : vs = es5[node].map Value.bool /\ es5[node].length = 4 := hvs
     rw [Option.some.inj hrow] at hvs
     exact ⟨by rw [hvs.1, List.map_set], by rw [List.length_set, qqc]⟩)
   refine ⟨w7, hs7, rfl, a5, es5.length, c5, ps5, kvs5, _, ⟨S6.h1.grown hg7 (fun e => (S6.og kt e.symm).1 rfl), qta S6.h2 hg7 (fun e => (S6.og km e).2.1 rfl), h37, S6.T, S6.t.rule S6.T rfl pn hk4, S6.hb.grown hg7 S6.hb.size (fun x e => (S6.og x e).2.2), S6.ne, S6.og, S6.kt0, S6.km0⟩, by omega⟩
end Go.Proofs.YtlfolncaghkmcaaGreatDoor
namespace Go.Pk
open Go.RowKit (Below)
theorem qAE (s : List UInt8) : lowL (lowL s) = lowL s := by
 have h : ∀ n, n < 256 -> lowC (lowC (UInt8.ofNat n)) = lowC (UInt8.ofNat n) := by decide +kernel
 unfold lowL
 rw [List.map_map]
 apply List.map_congr_left
 intro c _
 have := h c.toNat (by have := c.toNat_lt; omega)
 rw [UInt8.ofNat_toNat] at this
 exact this
theorem qDy (s : List UInt8) : (lowL s).head? = some 91 ↔ s.head? = some 91 := by
 cases s with
 | nil => simp [lowL]
 | cons c r =>
   have h : ∀ n, n < 256 -> (lowC (UInt8.ofNat n) = 91 ↔ UInt8.ofNat n = 91) := by decide +kernel
   have := h c.toNat (by have := c.toNat_lt; omega)
   rw [UInt8.ofNat_toNat] at this
   simpa [lowL] using this
theorem qAr {s : List UInt8} {h : Hst} (e : jl s = some h) (hk : h.kind = 1) : h = ⟨1, lowL s, ad0⟩ /\ jl (lowL s) = some h /\ (lowL s).length <= 253 := by
 have e0 := e
 unfold jl at e
 split at e
 · split at e
   · have := qxh e; omega
   · cases e
 rename_i h91
 split at e
 · cases h4 : v4V s with
   | none => rw [h4] at e; cases e
   | some a =>
     rw [h4] at e
     have : h.kind = 2 := by rw [<- Option.some.inj e]
     omega
 rename_i hd
 split at e
 · rename_i hc
   have e1 := Option.some.inj e
   refine ⟨e1.symm, ?_, by simpa [lowL] using hc.1⟩
   unfold jl
   rw [if_neg (fun hx => h91 ((qDy s).1 hx)), qAE, if_neg hd, if_pos ⟨by simpa [lowL] using hc.1, hc.2⟩, e1]
 · cases e
def rulH (r : Rul) : Hst := ⟨1, r.2, ad0⟩
theorem qbz (r : Rul) : (rulH r).ok := rfl
theorem qzj (u : List UInt8) : (qhN u).1 = 1 \/ (qhN u).1 = 2 \/ (qhN u).1 = 3 := by
 unfold qhN
 split
 · exact .inr (.inl rfl)
 split
 · exact .inr (.inr rfl)
 · exact .inl rfl
structure qm2 (r : Rul) : Prop where
 kind : r.1 = 1 \/ r.1 = 2 \/ r.1 = 3
 len : r.2.length <= 253
 host : jl r.2 = some (rulH r)
theorem qqp {r : Rul} (h : rulR r = true) : qm2 r := by
 unfold rulR at h
 rw [Bool.and_eq_true, Bool.and_eq_true, beq_iff_eq, qAQ] at h
 obtain ⟨h1, h2, h3⟩ := h
 generalize ruleX r = s at *
 unfold qbx at h1 h2 h3
 split at h1
 · rename_i hc; rw [if_pos hc] at h2; cases h2
 · rename_i hc
   rw [if_neg hc] at h2 h3
   have hk := qzj (qdp (zo s))
   generalize qhN (qdp (zo s)) = kn at *
   obtain ⟨k, n⟩ := kn
   unfold qtc at h1 h2 h3
   cases hv : jl n with
   | none => simp only [hv] at h2; cases h2
   | some g =>
     simp only [hv] at h1 h2 h3
     split at h2
     · rename_i hg
       rw [if_pos hg] at h3
       obtain ⟨g1, g2, g3⟩ := qAr hv hg.1
       have e1 : r.1 = k := by rw [<- h3]
       have e2 : r.2 = lowL n := by rw [<- h3, g1]
       refine ⟨by rw [e1]; exact hk, by rw [e2]; exact g3, ?_⟩
       unfold rulH
       rw [e2, g2, g1]
     · cases h2
theorem qm2.right {r : Rul} (h : qm2 r) : jh (rulH r) = true := by
 unfold jh
 have : qfV (rulH r) = r.2 := by unfold qfV rulH; rw [if_pos rfl]
 rw [this, h.host]
 exact (qaD (qbz r) (qbz r)).2 rfl
theorem qm2.labels {r : Rul} (h : qm2 r) : labelsV (rulH r) = cutC 46 [] r.2 := by
 unfold labelsV
 rw [if_pos ⟨rfl, h.right⟩]; rfl
theorem qm2.ne {r : Rul} (h : qm2 r) : (labelsV (rulH r)).length ≠ 0 := by
 rw [h.labels]
 have := List.length_pos_iff.2 (qcw 46 r.2 [])
 omega
theorem qm2.revl {r : Rul} (h : qm2 r) : revl r = (labelsV (rulH r)).reverse := by rw [h.labels]; rfl
theorem qmq {r : Rul} : 0 < (revl r).length := by
 unfold Go.Pk.revl
 rw [List.length_reverse]
 exact List.length_pos_iff.2 (qcw 46 r.2 [])
def stepM (R : Pth) (m : Nat) (r : Rul) : Nat :=
 if revl r = R.take (revl r).length then (if r.1 = 1 then max m (revl r).length else if r.1 = 2 /\ (revl r).length < R.length then max m ((revl r).length + 1) else m) else m
def stepE (R : Pth) (m : Nat) (r : Rul) : Nat := if revl r = R.take (revl r).length /\ r.1 = 3 then max m ((revl r).length - 1) else m
def docM (rs : List Rul) (R : Pth) : Nat := rs.foldl (stepM R) 1
def docE (rs : List Rul) (R : Pth) : Nat := rs.foldl (stepE R) 0
def sufV (rs : List Rul) (R : Pth) : Nat := if R = [] then 0 else if 0 < docE rs R then docE rs R else docM rs R
theorem qkX {r : Rul} {R : Pth} (h : revl r = R.take (revl r).length) : (revl r).length <= R.length := by
 have := congrArg List.length h
 rw [List.length_take] at this; omega
theorem qys (rs : List Rul) (R : Pth) : Top 1 (qjN rs R R.length (R.length - 1)) (docM rs R) := by
 suffices ∀ (rs : List Rul) (S : Nat -> Prop) (m : Nat), Top 1 S m -> Top 1 (fun x => S x \/ qjN rs R R.length (R.length - 1) x) (rs.foldl (stepM R) m) by
   exact (this rs _ 1 (Top.zero 1)).congr fun x => by simp
 intro rs
 induction rs with
 | nil => exact fun S m h => h.congr fun x => by unfold qjN; simp
 | cons r rs ih =>
   intro S m h
   rw [List.foldl_cons]
   have hsplit : ∀ x, qjN (r :: rs) R R.length (R.length - 1) x ↔ qjN [r] R R.length (R.length - 1) x \/ qjN rs R R.length (R.length - 1) x := fun x => by
     unfold qjN; simp
   have h1 : Top 1 (fun x => S x \/ qjN [r] R R.length (R.length - 1) x) (stepM R m r) := by
     have hl := qmq (r := r)
     unfold stepM
     by_cases c : revl r = R.take (revl r).length
     · have hle := qkX c
       rw [if_pos c]
       by_cases c1 : r.1 = 1
       · rw [if_pos c1]
         refine (h.max _).congr fun x => or_congr Iff.rfl ?_
         unfold qjN
         constructor
         · rintro rfl; exact ⟨r, by simp, c, .inl ⟨c1, hle, rfl⟩⟩
         · rintro ⟨r', hr', c', h'⟩
           rw [List.mem_singleton] at hr'; subst hr'
           rcases h' with ⟨_, _, h'⟩ | ⟨c2, _⟩
           · exact h'.symm
           · rw [c1] at c2; exact absurd c2 (by decide)
       · rw [if_neg c1]
         by_cases c2 : r.1 = 2 /\ (revl r).length < R.length
         · rw [if_pos c2]
           refine (h.max _).congr fun x => or_congr Iff.rfl ?_
           unfold qjN
           constructor
           · rintro rfl; exact ⟨r, by simp, c, .inr ⟨c2.1, by omega, rfl⟩⟩
           · rintro ⟨r', hr', c', h'⟩
             rw [List.mem_singleton] at hr'; subst hr'
             rcases h' with ⟨c3, _⟩ | ⟨_, _, h'⟩
             · exact absurd c3 c1
             · exact h'.symm
         · rw [if_neg c2]
           refine h.congr fun x => ?_
           have : ¬ qjN [r] R R.length (R.length - 1) x := by
             rintro ⟨r', hr', c', h'⟩
             rw [List.mem_singleton] at hr'; subst hr'
             rcases h' with ⟨c3, _⟩ | ⟨c3, c4, _⟩
             · exact c1 c3
             · exact c2 ⟨c3, by omega⟩
           simp [this]
     · rw [if_neg c]
       refine h.congr fun x => ?_
       have : ¬ qjN [r] R R.length (R.length - 1) x := by
         rintro ⟨r', hr', c', -⟩
         rw [List.mem_singleton] at hr'; subst hr'
         exact c c'
       simp [this]
   exact (ih _ _ h1).congr fun x => by rw [hsplit, or_assoc]
theorem qyr (rs : List Rul) (R : Pth) : Top 0 (qgW rs R R.length) (docE rs R) := by
 suffices ∀ (rs : List Rul) (S : Nat -> Prop) (m : Nat), Top 0 S m -> Top 0 (fun x => S x \/ qgW rs R R.length x) (rs.foldl (stepE R) m) by
   exact (this rs _ 0 (Top.zero 0)).congr fun x => by simp
 intro rs
 induction rs with
 | nil => exact fun S m h => h.congr fun x => by unfold qgW; simp
 | cons r rs ih =>
   intro S m h
   rw [List.foldl_cons]
   have hsplit : ∀ x, qgW (r :: rs) R R.length x ↔ qgW [r] R R.length x \/ qgW rs R R.length x := fun x => by
     unfold qgW; simp
   have h1 : Top 0 (fun x => S x \/ qgW [r] R R.length x) (stepE R m r) := by
     unfold stepE
     by_cases c : revl r = R.take (revl r).length /\ r.1 = 3
     · rw [if_pos c]
       refine (h.max _).congr fun x => or_congr Iff.rfl ?_
       unfold qgW
       constructor
       · rintro rfl; exact ⟨r, by simp, c.1, c.2, qkX c.1, rfl⟩
       · rintro ⟨r', hr', c', c3, c4, h'⟩
         rw [List.mem_singleton] at hr'; subst hr'
         exact h'.symm
     · rw [if_neg c]
       refine h.congr fun x => ?_
       have : ¬ qgW [r] R R.length x := by
         rintro ⟨r', hr', c', c3, c4, h'⟩
         rw [List.mem_singleton] at hr'; subst hr'
         exact c ⟨c', c3⟩
       simp [this]
   exact (ih _ _ h1).congr fun x => by rw [hsplit, or_assoc]
theorem Trie.take {ps : List Pth} {kvs : List (qjj × Int)} (t : Trie ps kvs) : ∀ (j : Nat) (p : Pth), p ∈ ps -> p.length <= j -> ∀ k, p.take k ∈ ps
 | 0, p, hp, hl, k => by
   have : p = [] := List.length_eq_zero_iff.1 (by omega)
   subst this; rw [List.take_nil]; exact hp
 | j + 1, p, hp, hl, k => by
   by_cases hk : p.length <= k
   · rw [List.take_of_length_le hk]; exact hp
   · obtain ⟨q, l, rfl⟩ : ∃ q l, p = q ++ [l] := by
       rcases List.eq_nil_or_concat p with h | ⟨q, l, h⟩
       · subst h; simp at hk
       · exact ⟨q, l, by simpa using h⟩
     rw [List.length_append, List.length_singleton] at hl hk
     have := Trie.take t j q (t.closed _ _ hp) (by omega) k
     rw [List.take_append_of_le_length (by omega)]; exact this
theorem qAH {ps : List Pth} {kvs : List (qjj × Int)} {es : List (List Bool)} {rs : List Rul} (T : Trie ps kvs) (t : Tab ps es rs) {R : Pth} {k : Nat} (hk : k < R.length) (hno : R.take (k + 1) ∉ ps) :
   (∀ x, qjN rs R k k x ↔ qjN rs R R.length (R.length - 1) x) /\ (∀ x, qgW rs R k x ↔ qgW rs R R.length x) := by
 have hle : ∀ r ∈ rs, revl r = R.take (revl r).length -> (revl r).length <= k := fun r hr c => by
   refine Decidable.byContradiction fun hc => hno ?_
   have := T.take _ _ (t.rules r hr) (Nat.le_refl _) (k + 1)
   rw [c, List.take_take, Nat.min_eq_left (by omega)] at this
   exact this
 refine ⟨fun x => ?_, fun x => ?_⟩
 · constructor
   · rintro ⟨r, hr, c, h⟩
     refine ⟨r, hr, c, ?_⟩
     rcases h with ⟨h1, h2, h3⟩ | ⟨h1, h2, h3⟩
     · exact .inl ⟨h1, by omega, h3⟩
     · exact .inr ⟨h1, by omega, h3⟩
   · rintro ⟨r, hr, c, h⟩
     have := hle r hr c
     refine ⟨r, hr, c, ?_⟩
     rcases h with ⟨h1, h2, h3⟩ | ⟨h1, h2, h3⟩
     · exact .inl ⟨h1, this, h3⟩
     · exact .inr ⟨h1, this, h3⟩
 · constructor
   · rintro ⟨r, hr, c, h1, h2, h3⟩; exact ⟨r, hr, c, h1, by omega, h3⟩
   · rintro ⟨r, hr, c, h1, h2, h3⟩; exact ⟨r, hr, c, h1, hle r hr c, h3⟩
theorem qvw {rs : List Rul} {R : Pth} {k kk : Nat} (hk : k <= R.length) : (rs.any fun r => decide (r.1 = (kk : Int) /\ revl r = R.take k)) = true ↔ ∃ r ∈ rs, r.1 = (kk : Int) /\ revl r = R.take (revl r).length /\ (revl r).length = k := by
 rw [List.any_eq_true]
 constructor
 · rintro ⟨r, hr, h⟩
   rw [dTx] at h
   have hl : (revl r).length = k := by rw [h.2, List.length_take]; omega
   exact ⟨r, hr, h.1, by rw [hl]; exact h.2, hl⟩
 · rintro ⟨r, hr, h1, h2, h3⟩
   exact ⟨r, hr, decide_eq_true ⟨h1, by rw [h3] at h2; exact h2⟩⟩
theorem qAI {rs : List Rul} {R : Pth} {k m : Nat} (hk : k <= R.length) (h : Top 1 (qjN rs R k (k - 1)) m) (hm : m <= k + 1) :
   Top 1 (qjN rs R k k) (if (rs.any fun r => decide (r.1 = ((2 : Nat) : Int) /\ revl r = R.take k)) = true then k + 1 else m) := by
 have hx : ∀ x, qjN rs R k k x ↔ (qjN rs R k (k - 1) x \/ (x = k + 1 /\ (rs.any fun r => decide (r.1 = ((2 : Nat) : Int) /\ revl r = R.take k)) = true)) := fun x => by
   rw [qvw hk]
   constructor
   · rintro ⟨r, hr, c, h⟩
     rcases h with h | ⟨h1, h2, h3⟩
     · exact .inl ⟨r, hr, c, .inl h⟩
     · by_cases e : (revl r).length = k
       · exact .inr ⟨by omega, r, hr, h1, c, e⟩
       · exact .inl ⟨r, hr, c, .inr ⟨h1, by omega, h3⟩⟩
   · rintro (⟨r, hr, c, h⟩ | ⟨rfl, r, hr, h1, c, h2⟩)
     · refine ⟨r, hr, c, ?_⟩
       rcases h with h | ⟨h1, h2, h3⟩
       · exact .inl h
       · exact .inr ⟨h1, by omega, h3⟩
     · exact ⟨r, hr, c, .inr ⟨h1, by omega, by omega⟩⟩
 split
 · rename_i hm2
   have := h.max (k + 1)
   rw [Nat.max_eq_right hm] at this
   exact this.congr fun x => by rw [hx x, and_iff_left hm2]
 · rename_i hm2
   exact h.congr fun x => by rw [hx x]; exact ⟨.inl, fun h => h.elim id fun h => absurd h.2 hm2⟩
theorem qAG {rs : List Rul} {R : Pth} {k m : Nat} (hk : k < R.length) (h : Top 1 (qjN rs R k k) m) (hm : m <= k + 1) :
   Top 1 (qjN rs R (k + 1) k) (if (rs.any fun r => decide (r.1 = ((1 : Nat) : Int) /\ revl r = R.take (k + 1))) = true then k + 1 else m) := by
 have hx : ∀ x, qjN rs R (k + 1) k x ↔ (qjN rs R k k x \/ (x = k + 1 /\ (rs.any fun r => decide (r.1 = ((1 : Nat) : Int) /\ revl r = R.take (k + 1))) = true)) := fun x => by
   rw [qvw (by omega)]
   constructor
   · rintro ⟨r, hr, c, h⟩
     rcases h with ⟨h1, h2, h3⟩ | h
     · by_cases e : (revl r).length = k + 1
       · exact .inr ⟨by omega, r, hr, h1, c, e⟩
       · exact .inl ⟨r, hr, c, .inl ⟨h1, by omega, h3⟩⟩
     · exact .inl ⟨r, hr, c, .inr h⟩
   · rintro (⟨r, hr, c, h⟩ | ⟨rfl, r, hr, h1, c, h2⟩)
     · refine ⟨r, hr, c, ?_⟩
       rcases h with ⟨h1, h2, h3⟩ | h
       · exact .inl ⟨h1, by omega, h3⟩
       · exact .inr h
     · exact ⟨r, hr, c, .inl ⟨h1, by omega, h2⟩⟩
 split
 · rename_i hm2
   have := h.max (k + 1)
   rw [Nat.max_eq_right hm] at this
   exact this.congr fun x => by rw [hx x, and_iff_left hm2]
 · rename_i hm2
   exact h.congr fun x => by rw [hx x]; exact ⟨.inl, fun h => h.elim id fun h => absurd h.2 hm2⟩
theorem qxC {rs : List Rul} {R : Pth} {k m : Nat} (hk : k < R.length) (h : Top 0 (qgW rs R k) m) (hm : m <= k) :
   Top 0 (qgW rs R (k + 1)) (if (rs.any fun r => decide (r.1 = ((3 : Nat) : Int) /\ revl r = R.take (k + 1))) = true then k else m) := by
 have hx : ∀ x, qgW rs R (k + 1) x ↔ (qgW rs R k x \/ (x = k /\ (rs.any fun r => decide (r.1 = ((3 : Nat) : Int) /\ revl r = R.take (k + 1))) = true)) := fun x => by
   rw [qvw (by omega)]
   constructor
   · rintro ⟨r, hr, c, h1, h2, h3⟩
     by_cases e : (revl r).length = k + 1
     · exact .inr ⟨by omega, r, hr, h1, c, e⟩
     · exact .inl ⟨r, hr, c, h1, by omega, h3⟩
   · rintro (⟨r, hr, c, h1, h2, h3⟩ | ⟨rfl, r, hr, h1, c, h2⟩)
     · exact ⟨r, hr, c, h1, by omega, h3⟩
     · exact ⟨r, hr, c, h1, by omega, by omega⟩
 split
 · rename_i hm2
   have := h.max k
   rw [Nat.max_eq_right hm] at this
   exact this.congr fun x => by rw [hx x, and_iff_left hm2]
 · rename_i hm2
   exact h.congr fun x => by rw [hx x]; exact ⟨.inl, fun h => h.elim id fun h => absurd h.2 hm2⟩
end Go.Pk
namespace Go.Pk
open Go.RowKit (Below)
def pubB (rs : List Rul) (h : Hst) : Bool := decide (0 < (labelsV h).length) && (sufV rs (labelsV h).reverse == (labelsV h).length)
end Go.Pk
namespace Go.Proofs.YtlfolncaghkmcaaGreatDoor
open Go.Pk
open Go.RowKit (Below)
def qCk (w : World) (rs : List Rul) (v : Value) (w' : World) : Prop := ∃ kt km a n c ps kvs es, v = .pointer (some ⟨kt, 0, none⟩) /\ qjH w zj zF kt km a n c ps kvs es (rs.filter rulR) w'
theorem qBD (w : World) : (Instr.makeSlice jR (.int .i64 (1 : Int)) (.int .i64 (1 : Int))).run prog w = .ok (.slice (some ⟨w.heap.size, 0, none⟩) 1 1) (w.alloc (.cells #[.bool false, .bool false, .bool false, .bool false] zF)) := by kernel_rfl
theorem qkU {w : World} {A : Bl} {a : Option Addr} {n c : Nat} {rs : List Rul} (h : Sl tRul w A a n c rs) {i : Nat} (hi : i < rs.length) : (Instr.loadAt qp (.pointer (ql a (i : Int) 2))).run prog w = .ok (rulV rs[i]) w := by
 obtain ⟨ti, hti, hsz, _, _⟩ := qtP.info
 have hag : (prog.underlying qp).map aggD = some true := by kernel_rfl
 cases hu : prog.underlying qp with
 | none => rw [hu] at hag; cases hag
 | some d =>
   rw [hu] at hag
   simp only [Option.map_some, Option.some.injEq] at hag
   obtain ⟨vs, h1, h2⟩ := h.loadA hu hag hti (k := 2) rfl hsz (i := (i : Int)) (by simpa using hi)
   have h2 : vs = rulC rs[i] := h2
   rw [h2] at h1; exact h1
theorem qwi {A : Bl} {a0 : Option Addr} {l0 c0 : Nat} {rs : List Rul} {w : World} (hs : Sl tRul w A a0 l0 c0 rs) (hl : rs.length <= 1000000) (hr : ∀ r ∈ rs, r.2.length <= 1000000) (he : Env w) :
   Calls prog qe3 #[.slice a0 l0 c0] w (Ret (qCk w rs)) := by
 apply quL
 unfold qqV
 intro k9 w9 hk9 hw9
 have hb9 := (hw9 ▸ qj w _ : Below w.heap.size w w9)
 have m9 : MapG ekE evI w9 k9 [] := MapG.new hk9 hw9
 refine ⟨_, _, _, _, qBD w9, ?_⟩
 generalize hw10 : w9.alloc (.cells #[.bool false, .bool false, .bool false, .bool false] zF) = w10
 have hb10 := (hw10 ▸ qj w9 _ : Below w9.heap.size w9 w10)
 have hB10 := qd hb9 hb10 hb9.size
 have o10 : Ow tB4 zF w10 NoB (some ⟨w9.heap.size, 0, none⟩) 1 1 [[false, false, false, false]] :=
   Ow.newF (T := tB4) (l := [.bool false, .bool false, .bool false, .bool false]) (xs := [[false, false, false, false]]) (w := w9) qAd rfl hw10.symm (RepL.one ⟨rfl, rfl⟩) (by decide)
 intro k12 w12 hk12 hw12
 have hb12 := (hw12 ▸ qj w10 _ : Below w10.heap.size w10 w12)
 have hB12 := qd hB10 hb12 hB10.size
 have lt9 := m9.lt
 have s10 := hb10.size
 have s9 := hb9.size
 have sz10 : w10.heap.size = w9.heap.size + 1 := by rw [<- hw10]; simp
 have T0 : qjH w zj zF k12 k9 (some ⟨w9.heap.size, 0, none⟩) 1 1 [[]] [] [[false, false, false, false]] [] w12 :=
   ⟨qk.new hk12 hw12, (m9.below hb10).below hb12, o10.below hb12, qBO, qC6, hB12, by omega, fun g hg => by
     simp [ownB] at hg
     omega, by omega, by omega⟩
 clear m9 o10
 have hn := hs.len
 subst hn
 refine ⟨fun m i w' => ∃ k : Nat, k <= rs.length /\ i = (k : Int) /\ m = rs.length - k /\ ∃ a n c ps kvs es, qjH w zj zF k12 k9 a n c ps kvs es ((rs.take k).filter rulR) w' /\ ps.length <= 1 + 300 * k, ⟨_, 0, by omega, rfl, rfl, _, _, _, _, _, _, T0, by decide⟩, ?_⟩
 intro m i
 refine AllJ.of ?_ _
 rintro w1 ⟨k, hk, rfl, rfl, a, n, c, ps, kvs, es, S1, hps⟩
 refine BCase.of (fun h => ?_) (fun h => ?_) <;> simp only [dTx, dFx] at h
 · have hlt : k < rs.length := by omega
   have hs1 := hs.below S1.hb
   have hlen := hr _ (List.getElem_mem hlt)
   refine ⟨⟨⟨by omega, h⟩, hs1.isSome hlt⟩, _, _, qkU hs1 hlt, ?_⟩
   have htake : (rs.take (k + 1)).filter rulR = (rs.take k).filter rulR ++ (if rulR rs[k] = true then [rs[k]] else []) := by
     rw [List.take_succ_eq_append_getElem hlt, List.filter_append]
     congr 1
     rw [List.filter_cons, List.filter_nil]
   generalize rs[k] = r at *
   refine jY.new (zs := rulC (0, [])) (cs := rulC r) rfl rfl (qic r) w1 fun k5 w5 hk5 h5 hb5 => ?_
   refine ⟨_, _, jY.load0 h5 rfl, ?_⟩
   have S5 := S1.below hb5
   refine callK (qwW r (by omega) w5) ?_
   rintro _ w6 ⟨rfl, hb6⟩
   have S6 := S5.below hb6
   have hm : (ruleX r).length <= 1000002 := by
     have : (markL r.1).length <= 2 := by unfold markL; split; decide; split; decide; decide
     unfold ruleX; simp; omega
   refine ⟨_, rfl, ?_⟩
   refine callK (qwV (ruleX r) (by omega) w6 (he.step S6.hb)) ?_
   rintro _ w7 ⟨rfl, hb7⟩
   have S7 := S6.below hb7
   refine ⟨_, _, _, _, rfl, ?_⟩
   have hR : rulR r = (((qbx (ruleX r)).2.2 == 0) && ((qbx (ruleX r)).2.1 && quq (qbx (ruleX r)).1 r)) := rfl
   generalize qbx (ruleX r) = x at *
   obtain ⟨q, b, e⟩ := x
   simp only at hR
   refine jY.new (zs := rulC (0, [])) (cs := rulC q) rfl rfl (qic q) w7 fun k8 w8 hk8 h8 hb8 => ?_
   have S8 := S7.below hb8
   have h58 := ((h5.below hb6).below hb7).below hb8
   refine j3 (w := w8) (rulR r) ?_ ?_
   · rw [hR]
     refine BCase.of (fun c1 => ?_) (fun c1 => ⟨rfl, by simp only at c1; rw [c1]; rfl⟩)
     refine BCase.of (fun c2 => ?_) (fun c2 => ⟨rfl, by simp only at c1 c2; rw [c1, c2]; rfl⟩)
     refine ⟨_, _, jY.load0 h8 rfl, _, _, jY.load0 h58 rfl, _, qwU q r w8, rfl, ?_⟩
     simp only at c1 c2; rw [c1, c2]; rfl
   · refine BCase.of (fun c1 => ?_) (fun c1 => ?_)
     · have g := qqp c1
       refine ⟨_, _, jY.load0 h58 rfl, ?_⟩
       refine callK (qwj he S8 r ?_ g.len hps (by omega)) ?_
       · rcases g.kind with e | e | e
         · exact ⟨1, e, by decide⟩
         · exact ⟨2, e, by decide⟩
         · exact ⟨3, e, by decide⟩
       rintro _ w9' ⟨rfl, a', n', c', ps', kvs', es', S9, hps'⟩
       refine ⟨rfl, rs.length - (k + 1), by omega, k + 1, by omega, by rw [wrap_i64 (by omega) (by omega)]; omega, rfl, a', n', c', ps', kvs', es', ?_, by omega⟩
       rw [htake, if_pos c1]; exact S9
     · refine ⟨rs.length - (k + 1), by omega, k + 1, by omega, by rw [wrap_i64 (by omega) (by omega)]; omega, rfl, a, n, c, ps, kvs, es, ?_, by omega⟩
       rw [htake, if_neg (by rw [c1]; decide), List.append_nil]; exact S8
 · have : k = rs.length := by omega
   subst this
   rw [List.take_length] at S1
   exact ⟨_, _, _, _, _, _, _, _, rfl, S1⟩
theorem qmI {w0 : World} (he : Env w0) {kt km : Nat} {a : Option Addr} {n c : Nat} {ps : List Pth} {kvs : List (qjj × Int)} {es : List (List Bool)} {rs : List Rul} {w : World} (S : qjH w0 zj zF kt km a n c ps kvs es rs w) {h : Hst} (oh : h.ok) (hn : h.name.length <= 1000000000) :
   Calls prog qe4 #[.pointer (some ⟨kt, 0, none⟩), h.v] w (Ret fun v w' => v = .int .i64 ((sufV rs (labelsV h).reverse : Nat) : Int) /\ Below w.heap.size w w') := by
 apply qmw
 unfold qiZ
 intro k3 w3 hk3 hw3
 have hB3 := (hw3 ▸ qj w _ : Below w.heap.size w w3)
 have h3 : qk w3 k3 qf h.cells := qk.new hk3 hw3
 refine ⟨_, qv.load0 h3 (Hst.len oh), ?_⟩
 refine callK (qgU oh hn w3 (he.step (S.below hB3).hb)) ?_
 rintro _ w4 ⟨aL, lL, cL, rfl, ho, -, hb4⟩
 have hB4 := qd hB3 hb4 hB3.size
 have hll := qdf h
 generalize labelsV h = L at *
 have hnL := ho.len
 subst hnL
 have hRlen : L.reverse.length = L.length := List.length_reverse
 refine ⟨_, _, _, rfl, _, run_min_int2 _ _ _ _ _ _ _, ?_⟩
 have hn5 := S.h3.len
 subst hn5
 have hel := S.t.len
 refine ⟨fun m e w' => ∃ mm ee : Nat, m = (mm : Int) /\ e = (ee : Int) /\ (if 0 < ee then ee else mm) = sufV rs L.reverse /\ Below w.heap.size w w', ?_, ?_⟩
 · refine ⟨fun m nd mo ex i w' => ∃ k node mm ee : Nat, k <= L.length /\ i = (k : Int) + 1 /\ m = L.length - k /\ nd = (node : Int) /\ mo = (mm : Int) /\ ex = (ee : Int) /\ posP (L.reverse.take k) ps 0 = some node /\ (L = [] -> mm = 0) /\ (L ≠ [] -> Top 1 (qjN rs L.reverse k (k - 1)) mm) /\ mm <= k + 1 /\ Top 0 (qgW rs L.reverse k) ee /\ ee <= k /\ Below w4.heap.size w4 w', ?_, ?_⟩
   · refine ⟨_, 0, 0, (if L = [] then 0 else 1), 0, by omega, rfl, rfl, rfl, ?_, rfl, S.T.first 0 [] S.T.root, fun e => if_pos e, fun e => ?_, ?_, ?_, Nat.le_refl _, Below.refl _ _⟩
     · by_cases e : L = []
       · subst e; rfl
       · rw [if_neg e, if_neg (by have := List.length_pos_iff.2 e; omega)]; rfl
     · rw [if_neg e]
       exact (Top.zero 1).congr fun x => ⟨fun h => h.elim, fun ⟨r, _, _, h⟩ => by have := qmq (r := r); omega⟩
     · split <;> omega
     · exact (Top.zero 0).congr fun x => ⟨fun h => h.elim, fun ⟨r, _, _, h⟩ => by have := qmq (r := r); omega⟩
   intro m nd mo ex i
   refine AllJ.of ?_ _
   rintro w5 ⟨k, node, mm, ee, hk, rfl, rfl, rfl, rfl, rfl, hpos, hmz, hmt, hmm, het, hee, hb5⟩
   have hB5 := qd hB4 hb5 hB4.size
   have S5 := S.below hB5
   have ho5 := ho.below hb5
   simp only [qlP]
   refine BCase.of (fun hc => ?_) (fun hc => ?_) <;> simp only [dTx, dFx] at hc
   · have hlt : k < L.length := by omega
     have hne : L ≠ [] := fun e => by rw [e] at hlt; cases hlt
     have pn := (qlC hpos).2
     rw [Nat.sub_zero] at pn
     have hnl : node < es.length := by rw [hel]; exact (List.getElem?_eq_some_iff.1 pn).1
     have mget : ∀ (nd : Nat) (p : Pth) (hnd : nd < es.length), ps[nd]? = some p -> ∀ (j : Nat), j < 4 -> ∀ (vs : List Value), tB4.rep w5 AllB vs es[nd] -> vs[j]? = some (.bool (rs.any fun r => decide (r.1 = (j : Int) /\ revl r = p))) := fun nd p hnd hp j hj vs hvs => by
       have hrow := S.t.mark nd p hp
       rw [List.getElem?_eq_getElem hnd] at hrow
       have hvs : vs = es[nd].map Value.bool /\ es[nd].length = 4 := hvs
       rw [hvs.1, Option.some.inj hrow, List.getElem?_map, qtb _ _ _ hj]; rfl
     have hsome := S5.h3.all.isSome hnl
     have hel2 : ∀ x : Int, Option.isSome (ql a x 4) = true := fun x => by
       cases a with
       | none => cases hsome
       | some x => rfl
     have T2 := qAI (rs := rs) (R := L.reverse) (k := k) (by rw [hRlen]; exact hk) (hmt hne) hmm
     have hmm2 : (if (rs.any fun r => decide (r.1 = ((2 : Nat) : Int) /\ revl r = L.reverse.take k)) = true then k + 1 else mm) <= k + 1 := by split <;> omega
     refine ⟨fun n7 w' => w' = w5 /\ n7 = (((if (rs.any fun r => decide (r.1 = ((2 : Nat) : Int) /\ revl r = L.reverse.take k)) = true then k + 1 else mm) : Nat) : Int), ?_, ?_⟩
     · refine ⟨rfl, rfl, _, _, _, S5.h1.load1 qeQ rfl rfl, ⟨⟨by omega, by omega⟩, hsome⟩, ⟨⟨by decide, by decide⟩, hel2 _⟩, _, S5.h3.all.loadC (P := prog) un_bool rfl (k := 4) rfl (i := node) (j := 2) hnl (by decide) (mget node _ hnl pn 2 (by decide)), ?_⟩
       exact BCase.of (fun c => ⟨rfl, by rw [if_pos c]; rfl⟩) (fun c => ⟨rfl, by rw [if_neg (by rw [c]; decide)]⟩)
     intro n7
     refine AllJ.of ?_ _
     rintro w6 ⟨hw6, rfl⟩
     rw [hw6]; clear hw6
     generalize (if (rs.any fun r => decide (r.1 = ((2 : Nat) : Int) /\ revl r = L.reverse.take k)) = true then k + 1 else mm) = mm2 at *
     have ei : i64.wrap (((L.length : Nat) : Int) - ((k : Int) + 1)) = ((L.length - 1 - k : Nat) : Int) := by rw [wrap_i64 (by omega) (by omega)]; omega
     rw [ei]
     have hRk : L.reverse.take (k + 1) = L.reverse.take k ++ [L[L.length - 1 - k]'(by omega)] := by
       rw [List.take_succ_eq_append_getElem (by simpa using hlt), List.getElem_reverse]
     refine ⟨rfl, rfl, _, fun u hu => (S5.h1.below hu).load1 z8 rfl rfl, ⟨⟨by omega, by omega⟩, ho5.all.isSome (by omega)⟩, _, fun u hu => (ho5.below hu).all.text un_string (i := L.length - 1 - k) (show L.length - 1 - k < L.length by omega), ?_⟩
     generalize L[L.length - 1 - k]'(by omega) = lab at *
     have hedge := S5.T.edge node lab
     rw [pn] at hedge
     simp only at hedge
     cases hq : posP (L.reverse.take k ++ [lab]) ps 0 with
     | none =>
       rw [hq] at hedge
       refine ⟨0, false, fun u hu => ?_, fun wq hwq => BCase.yes rfl ⟨mm2, ee, rfl, rfl, ?_, qd hB5 hwq hB5.size⟩⟩
       · have := (S5.h2.below hu).look2 (P := prog) z8 qos qab ((node : Int), lab)
         rw [hedge] at this; exact this
       · have hno : L.reverse.take (k + 1) ∉ ps := by rw [hRk]; exact qlB.1 hq
         obtain ⟨s1, s2⟩ := qAH S.T S.t (R := L.reverse) (k := k) (by rw [hRlen]; exact hlt) hno
         have e1 : mm2 = docM rs L.reverse := Top.eq (T2.congr s1) (qys rs L.reverse)
         have e2 : ee = docE rs L.reverse := Top.eq (het.congr s2) (qyr rs L.reverse)
         unfold sufV
         rw [if_neg (fun hx => hne (List.reverse_eq_nil_iff.1 hx)), e1, e2]
     | some i2 =>
       rw [hq] at hedge
       refine ⟨(i2 : Int), true, fun u hu => ?_, fun wq hwq => BCase.no rfl ?_⟩
       · have := (S5.h2.below hu).look2 (P := prog) z8 qos qab ((node : Int), lab)
         rw [hedge] at this; exact this
       have pn2 := (qlC hq).2
       rw [Nat.sub_zero] at pn2
       have hnl2 : i2 < es.length := by rw [hel]; exact (List.getElem?_eq_some_iff.1 pn2).1
       have S6 := S5.below hwq
       rw [<- hRk] at pn2 hq
       have T3 := qAG (rs := rs) (R := L.reverse) (k := k) (by rw [hRlen]; exact hlt) T2 hmm2
       have E3 := qxC (rs := rs) (R := L.reverse) (k := k) (by rw [hRlen]; exact hlt) het hee
       have hmm3 : (if (rs.any fun r => decide (r.1 = ((1 : Nat) : Int) /\ revl r = L.reverse.take (k + 1))) = true then k + 1 else mm2) <= k + 1 := by split <;> omega
       have hee3 : (if (rs.any fun r => decide (r.1 = ((3 : Nat) : Int) /\ revl r = L.reverse.take (k + 1))) = true then k else ee) <= k + 1 := by split <;> omega
       refine ⟨fun n7 w' => w' = wq /\ n7 = (((if (rs.any fun r => decide (r.1 = ((1 : Nat) : Int) /\ revl r = L.reverse.take (k + 1))) = true then k + 1 else mm2) : Nat) : Int), ?_, ?_⟩
       · refine ⟨rfl, rfl, _, _, _, S6.h1.load1 qeQ rfl rfl, ⟨⟨by omega, by omega⟩, hsome⟩, ⟨⟨by decide, by decide⟩, hel2 _⟩, _, S6.h3.all.loadC (P := prog) un_bool rfl (k := 4) rfl (i := i2) (j := 1) hnl2 (by decide) (mget i2 _ hnl2 pn2 1 (by decide)), ?_⟩
         exact BCase.of (fun c => ⟨rfl, by rw [if_pos c]; rfl⟩) (fun c => ⟨rfl, by rw [if_neg (by rw [c]; decide)]⟩)
       intro n7
       refine AllJ.of ?_ _
       rintro w7 ⟨hw7, rfl⟩
       rw [hw7]; clear hw7
       have next : ∀ ee2 : Nat, ee2 = (if (rs.any fun r => decide (r.1 = ((3 : Nat) : Int) /\ revl r = L.reverse.take (k + 1))) = true then k else ee) -> ∃ m' : Nat, m' < L.length - k /\ ∃ k' node' mm' ee' : Nat, k' <= L.length /\ i64.wrap ((k : Int) + 1 + 1) = (k' : Int) + 1 /\ m' = L.length - k' /\ (i2 : Int) = (node' : Int) /\ (((if (rs.any fun r => decide (r.1 = ((1 : Nat) : Int) /\ revl r = L.reverse.take (k + 1))) = true then k + 1 else mm2) : Nat) : Int) = (mm' : Int) /\ (ee2 : Int) = (ee' : Int) /\ posP (L.reverse.take k') ps 0 = some node' /\ (L = [] -> mm' = 0) /\ (L ≠ [] -> Top 1 (qjN rs L.reverse k' (k' - 1)) mm') /\ mm' <= k' + 1 /\ Top 0 (qgW rs L.reverse k') ee' /\ ee' <= k' /\ Below w4.heap.size w4 wq := fun ee2 he2 => by
         refine ⟨L.length - (k + 1), by omega, k + 1, i2, _, ee2, by omega, by rw [wrap_i64 (by omega) (by omega)]; omega, rfl, rfl, rfl, rfl, hq, fun e => absurd e hne, fun _ => T3, by omega, by rw [he2]; exact E3, by rw [he2]; exact hee3, qd hb5 hwq hb5.size⟩
       refine ⟨rfl, rfl, _, _, _, S6.h1.load1 qeQ rfl rfl, ⟨⟨by omega, by omega⟩, hsome⟩, ⟨⟨by decide, by decide⟩, hel2 _⟩, _, S6.h3.all.loadC (P := prog) un_bool rfl (k := 4) rfl (i := i2) (j := 3) hnl2 (by decide) (mget i2 _ hnl2 pn2 3 (by decide)), ?_⟩
       refine BCase.of (fun c => ?_) (fun c => ?_)
       · have e : i64.wrap ((k : Int) + 1 - 1) = (k : Int) := by rw [wrap_i64 (by omega) (by omega)]; omega
         rw [e]
         exact next k (by rw [if_pos c])
       · exact next ee (by rw [if_neg (by rw [c]; decide)])
   · have : k = L.length := by omega
     subst this
     refine ⟨mm, ee, rfl, rfl, ?_, hB5⟩
     by_cases e : L = []
     · subst e
       have := hmz rfl
       simp only [List.length_nil] at hee
       have : ee = 0 := by omega
       subst this
       unfold sufV
       simp [hmz rfl]
     · have hm := hmt e
       have e1 : mm = docM rs L.reverse := Top.eq hm (by have := qys rs L.reverse; rw [hRlen] at this; exact this)
       have e2 : ee = docE rs L.reverse := Top.eq het (by have := qyr rs L.reverse; rw [hRlen] at this; exact this)
       unfold sufV
       rw [if_neg (fun hx => e (List.reverse_eq_nil_iff.1 hx)), e1, e2]
 · intro mo ex
   refine AllJ.of ?_ _
   rintro w5 ⟨mm, ee, rfl, rfl, hv, hB5⟩
   refine BCase.of (fun hc => ⟨?_, hB5⟩) (fun hc => ⟨?_, hB5⟩) <;> simp only [gt_iff_lt, dTx, dFx] at hc
   · rw [<- hv, if_pos (by omega)]
   · rw [<- hv, if_neg (by omega)]
theorem qmH {w0 : World} (he : Env w0) {kt km : Nat} {a : Option Addr} {n c : Nat} {ps : List Pth} {kvs : List (qjj × Int)} {es : List (List Bool)} {rs : List Rul} {w : World} (S : qjH w0 zj zF kt km a n c ps kvs es rs w) {h : Hst} (oh : h.ok) (hn : h.name.length <= 1000000000) :
   Calls prog qcm #[.pointer (some ⟨kt, 0, none⟩), h.v] w (Ret fun v w' => v = .bool (pubB rs h) /\ Below w.heap.size w w') := by
 apply qmu
 unfold qiX
 intro k3 w3 hk3 hw3
 have hB3 := (hw3 ▸ qj w _ : Below w.heap.size w w3)
 have h3 : qk w3 k3 qf h.cells := qk.new hk3 hw3
 refine ⟨_, qv.load0 h3 (Hst.len oh), ?_⟩
 refine callK (qgU oh hn w3 (he.step (S.below hB3).hb)) ?_
 rintro _ w4 ⟨aL, lL, cL, rfl, ho, -, hb4⟩
 have hB4 := qd hB3 hb4 hB3.size
 refine ⟨_, _, _, rfl, ?_⟩
 have hnL := ho.len
 subst hnL
 unfold pubB
 refine BCase.of (fun hc => ?_) (fun hc => ⟨?_, hB4⟩) <;> simp only [gt_iff_lt, dTx, dFx] at hc
 · refine ⟨_, qv.load0 (h3.below hb4) (Hst.len oh), ?_⟩
   refine callK (qmI he (S.below hB4) oh hn) ?_
   rintro _ w5 ⟨rfl, hb5⟩
   refine ⟨_, rfl, ?_, qd hB4 hb5 hB4.size⟩
   rw [decide_eq_true (show 0 < (labelsV h).length by omega), Bool.true_and]
   congr 1
   rw [Bool.eq_iff_iff, beq_iff_eq, beq_iff_eq]; omega
 · rw [decide_eq_false (show ¬ 0 < (labelsV h).length by omega), Bool.false_and]
end Go.Proofs.YtlfolncaghkmcaaGreatDoor
namespace Go.Pk
open Go.RowKit (Below)
def nmL : List (List UInt8) := [[], [78, 111, 110, 101], [76, 97, 120], [83, 116, 114, 105, 99, 116]]
def nmV : Value := .agg (nmL.map fun s => Value.string (mkS s)).toArray
def quh (v : List UInt8) : Nat -> Int
 | 0 => 0
 | k + 1 => if lowL (nmL[k]?.getD []) = lowL v then (k : Int) else quh v k
theorem qzl (v : List UInt8) : quh v 4 = qpQ v := by
 have e0 : lowL (nmL[0]?.getD []) = [] := rfl
 have e1 : lowL (nmL[1]?.getD []) = [110, 111, 110, 101] := by decide
 have e2 : lowL (nmL[2]?.getD []) = [108, 97, 120] := by decide
 have e3 : lowL (nmL[3]?.getD []) = [115, 116, 114, 105, 99, 116] := by decide
 unfold quh quh quh quh quh qpQ
 rw [e0, e1, e2, e3]
 generalize lowL v = x
 by_cases h1 : x = [110, 111, 110, 101]
 · subst h1; rfl
 · by_cases h2 : x = [108, 97, 120]
   · subst h2; rfl
   · by_cases h3 : x = [115, 116, 114, 105, 99, 116]
     · subst h3; rfl
     · rw [if_neg (Ne.symm h3), if_neg (Ne.symm h2), if_neg (Ne.symm h1), if_neg h1, if_neg h2, if_neg h3]
       split <;> rfl
def nameOf (l : List UInt8) : List UInt8 × List UInt8 := if qld l then (jm l, jg l) else ([], jm l)
def zU (h : Hdr) (x : List UInt8) : Hdr := if (jg x).length <= 1024 then qcv h (lowL (jm x)) (jg x) else h
def qR (s : List UInt8) : Hdr × Int :=
 if s.any qcn = true then (hdr0, 81)
 else if (nameOf ((cutC 59 [] s).headD [])).1 ++ (nameOf ((cutC 59 [] s).headD [])).2 = [] then (hdr0, 82)
 else if 4096 < (nameOf ((cutC 59 [] s).headD [])).1.length + (nameOf ((cutC 59 [] s).headD [])).2.length then (hdr0, 83)
 else (((cutC 59 [] s).drop 1).foldl zU { hdr0 with name := (nameOf ((cutC 59 [] s).headD [])).1, value := (nameOf ((cutC 59 [] s).headD [])).2 }, 0)
theorem qhR (s : List UInt8) : (jm s).length <= s.length := Nat.le_trans (qro _ _) (zd _ _)
theorem qhQ (s : List UInt8) : (jg s).length <= s.length := by
 have h1 := qro isBl ((s.dropWhile (· != 61)).drop 1)
 have h2 := (List.dropWhile_sublist (· != (61 : UInt8)) (l := s)).length_le
 rw [List.length_drop] at h1
 unfold jg zo; omega
theorem qCP (h : Hdr) : ∀ c ∈ h.v.cells.toList, c.oneCell' = true := by
 intro c hc
 simp only [Hdr.v, Value.cells, Hdr.cells, List.mem_cons, List.mem_nil_iff, or_false] at hc
 rcases hc with rfl | rfl | rfl | rfl | rfl | rfl | rfl | rfl | rfl | rfl | rfl <;> rfl
end Go.Pk
namespace Go.Proofs.YtlfolncaghkmcaaGreatDoor
open Go.Pk
open Go.RowKit (Below)
theorem qls (h : Hdr) {w : World} {k : Nat} {vs : List Value} (ha : qk w k qi vs) (hl : vs.length = 11) :
   ∃ wx, (Instr.storeAt qi (.pointer (some ⟨k, 0, none⟩)) h.v).run prog w = .ok () wx /\ qk wx k qi h.cells /\ w.grownBy wx (some k) := by
 obtain ⟨wx, hs, h2, hg⟩ := ha.store (P := prog) qqz (i := 0) (v := h.v) rfl (by omega) (qCP h)
 refine ⟨wx, hs, ?_, hg⟩
 rw [List.take_zero, List.nil_append, List.drop_eq_nil_of_le (by omega), List.append_nil] at h2
 exact h2
theorem qaK (h : Hdr) {w : World} {k : Nat} (ha : qk w k qi h.cells) : (Instr.loadAt qi (.pointer (some ⟨k, 0, none⟩))).run prog w = .ok h.v w := by
 obtain ⟨ti, hti, hsz, _, _⟩ := qqz.info
 cases hu : prog.underlying qi with
 | none => have : (prog.underlying qi).map aggD = some true := by kernel_rfl
           rw [hu] at this; cases this
 | some d =>
   have : (prog.underlying qi).map aggD = some true := by kernel_rfl
   rw [hu] at this
   simp only [Option.map_some, Option.some.injEq] at this
   exact ha.loadA hu this hti (us := h.cells) (i := 0) (by rw [hsz]; rfl) (fun j hj => by rw [Nat.zero_add])
theorem qfU (h : Hdr) {w w' : World} {k2 : Nat} {vs : List Value} (h2 : qk w' k2 qi vs) (hl : vs.length = 11) (hb : Below w.heap.size w w') (hk : w.heap.size <= k2) {e : Int} {K : Value -> World -> Prop}
   (hK : ∀ wx, Below w.heap.size w wx -> K (.tuple #[h.v, .int .i64 e]) wx) :
   ∃ (wx : World), (Instr.storeAt qi (.pointer (some ⟨k2, 0, none⟩)) h.v).run prog w' = .ok () wx /\
     ∃ (s0 : List UInt8) (s1 : List UInt8) (s2 : List UInt8) (s3 : List UInt8) (b4 : Bool) (n5 : Int) (b6 : Bool) (n7 : Int) (b8 : Bool) (b9 : Bool) (n10 : Int),
       (qs qi (.pointer (some ⟨k2, 0, none⟩))).run prog wx = .ok (.agg #[.string (mkS s0), .string (mkS s1), .string (mkS s2), .string (mkS s3), .bool b4, .int .i64 n5, .bool b6, .int .i64 n7, .bool b8, .bool b9, .int .i64 n10]) wx /\
       K (.tuple #[.agg #[.string (mkS s0), .string (mkS s1), .string (mkS s2), .string (mkS s3), .bool b4, .int .i64 n5, .bool b6, .int .i64 n7, .bool b8, .bool b9, .int .i64 n10], .int .i64 e]) wx := by
 obtain ⟨wx, hs, h3, hg⟩ := qls h h2 hl
 exact ⟨wx, hs, h.name, h.value, h.domain, h.path, h.hasE, h.exp, h.hasA, h.age, h.sec, h.http, h.same, qk.res (qaK h h3), hK wx (hb.grown hg hb.size fun x e => by cases e; exact hk)⟩
theorem qkd (w : World) : Calls prog qhT #[] w (Ret fun v w' => v = nmV /\ Below w.heap.size w w') := by
 apply qr9
 unfold qn9
 intro k w1 hk hw
 have hB := (hw ▸ qj w _ : Below w.heap.size w w1)
 have ha : qk w1 k qb9 (List.replicate 4 (Value.string (mkS []))) := qk.new hk hw
 obtain ⟨wx, hs, h2, hg⟩ := ha.store (P := prog) qoU (i := 0) (v := nmV) rfl (by decide) (by
   intro c hc
   simp only [nmV, Value.cells] at hc
   obtain ⟨s, _, rfl⟩ := List.mem_map.1 (by simpa using hc)
   rfl)
 have h3 : qk wx k qb9 (nmL.map fun s => Value.string (mkS s)) := h2
 obtain ⟨ti, hti, hsz, _, _⟩ := qoU.info
 refine ⟨wx, hs, _, _, _, _, qk.res (h3.loadA quU rfl hti (us := nmL.map fun s => Value.string (mkS s)) (i := 0) (by rw [hsz]; rfl) (fun j hj => by rw [Nat.zero_add])), rfl, hB.grown hg hB.size fun x e => by cases e; omega⟩
theorem qyy (w : World) : ∀ k : Nat, k < 4 -> (Instr.index qb9 nmV (.int .i64 (k : Int))).run prog w = .ok (.string (mkS (nmL[k]?.getD []))) w
 | 0, _ => by kernel_rfl
 | 1, _ => by kernel_rfl
 | 2, _ => by kernel_rfl
 | 3, _ => by kernel_rfl
 | n + 4, h => by omega
def qye (k : Nat) (h : Hdr) (w : World) (v : Value) (w' : World) : Prop := v = .tuple #[] /\ qk w' k qi h.cells /\ w.grownBy w' (some k)
theorem qg9 {k : Nat} {h : Hdr} {w w' : World} (ha : qk w' k qi h.cells) (hg : w.grownBy w' (some k)) : qye k h w (.tuple #[]) w' := ⟨rfl, ha, hg⟩
theorem qpz (k : Nat) (h : Hdr) (key value : List UInt8) (hl : value.length <= 100000) (w : World) (ha : qk w k qi h.cells) :
   Calls prog qiB #[.pointer (some ⟨k, 0, none⟩), .string (mkS key), .string (mkS value)] w (Ret (qye k (qcv h key value) w)) := by
 apply qoG
 unfold qkD
 simp only [qlP]
 have h0 : Option.isSome (some (⟨k, 0, none⟩ : Addr)) = true := rfl
 have g0 := qze w (some k)
 have bb : ∀ b : Bool, (Value.bool b).cells = #[Value.bool b] := fun _ => rfl
 refine BCase.of (fun h1 => ?_) (fun h1 => ?_)
 · rw [beq_iff_eq] at h1
   refine callK (qua value (by omega) w) ?_
   rintro _ w1 ⟨rfl, hb1⟩
   have ha1 := ha.below hb1
   have hg1 := qdn hb1 (some k)
   unfold qcv
   rw [if_pos h1]
   unfold qiT
   by_cases hc : qjw (qf2 value)
   · rw [if_pos hc, if_pos hc]
     refine ⟨_, _, rfl, BCase.yes rfl ⟨h0, h0, ?_⟩⟩
     obtain ⟨w2, hs2, ha2, hg2⟩ := ha1.put (P := prog) qcr (i := 4) (v := .bool true) (by simp [Hdr.cells]) rfl rfl
     refine ⟨w2, hs2, h0, h0, ?_⟩
     obtain ⟨w3, hs3, ha3, hg3⟩ := ha2.put (P := prog) j8 (i := 5) (v := .int .i64 (qgh (qf2 value))) (by simp [Hdr.cells]) rfl rfl
     exact ⟨w3, hs3, qg9 ha3 (jW (jW hg1 hg2) hg3)⟩
   · rw [if_neg hc, if_neg hc]
     exact ⟨_, _, rfl, BCase.no rfl (qg9 ha1 hg1)⟩
 rw [beq_eq_false_iff_ne] at h1
 refine BCase.of (fun h2 => ?_) (fun h2 => ?_)
 · rw [beq_iff_eq] at h2
   refine callK (qvL value (by omega) w) ?_
   rintro _ w1 ⟨rfl, hb1⟩
   have ha1 := ha.below hb1
   have hg1 := qdn hb1 (some k)
   unfold qcv
   rw [if_neg h1, if_pos h2]
   unfold ageT
   cases ageV value with
   | none => exact ⟨_, _, rfl, BCase.no rfl (qg9 ha1 hg1)⟩
   | some n =>
     refine ⟨_, _, rfl, BCase.yes rfl ⟨h0, h0, ?_⟩⟩
     obtain ⟨w2, hs2, ha2, hg2⟩ := ha1.put (P := prog) qcr (i := 6) (v := .bool true) (by simp [Hdr.cells]) rfl rfl
     refine ⟨w2, hs2, h0, h0, ?_⟩
     obtain ⟨w3, hs3, ha3, hg3⟩ := ha2.put (P := prog) j8 (i := 7) (v := .int .i64 n) (by simp [Hdr.cells]) rfl rfl
     exact ⟨w3, hs3, qg9 ha3 (jW (jW hg1 hg2) hg3)⟩
 rw [beq_eq_false_iff_ne] at h2
 refine BCase.of (fun h3 => ?_) (fun h3 => ?_)
 · rw [beq_iff_eq] at h3
   refine (Tryz.strings_TrimPrefix (mkS value) (mkS [46]) w).mono ?_
   rintro _ _ ⟨rfl, rfl⟩
   have e : Lib.trimPrefix (mkS value).data.toList (mkS [46]).data.toList = if value.head? = some 46 then value.drop 1 else value := (qkW value 46).2
   rw [e]
   refine ⟨(if value.head? = some 46 then value.drop 1 else value), rfl, ?_⟩
   refine callK (octet_Lower_ok _ (by split <;> (try rw [List.length_drop]) <;> omega) _) ?_
   rintro _ w1 ⟨rfl, hb1⟩
   refine ⟨_, rfl, h0, h0, ?_⟩
   have ha1 := ha.below hb1
   obtain ⟨w2, hs2, ha2, hg2⟩ := ha1.put (P := prog) ze (i := 2) (v := .string (mkS (lowL (if value.head? = some 46 then value.drop 1 else value)))) (by simp [Hdr.cells]) rfl rfl
   refine ⟨w2, hs2, qg9 ?_ (jW (qdn hb1 (some k)) hg2)⟩
   unfold qcv
   rw [if_neg h1, if_neg h2, if_pos h3]; exact ha2
 rw [beq_eq_false_iff_ne] at h3
 refine BCase.of (fun h4 => ?_) (fun h4 => ?_)
 · rw [beq_iff_eq] at h4
   refine ⟨h0, h0, ?_⟩
   obtain ⟨w2, hs2, ha2, hg2⟩ := ha.put (P := prog) ze (i := 3) (v := .string (mkS [])) (by simp [Hdr.cells]) rfl rfl
   refine ⟨w2, hs2, ?_⟩
   refine (Tryz.strings_HasPrefix (mkS value) (mkS [47]) w2).mono ?_
   rintro _ _ ⟨rfl, rfl⟩
   have e : Lib.hasPrefix (mkS value).data.toList (mkS [47]).data.toList = decide (value.head? = some 47) := (qkW value 47).1
   rw [e]
   refine ⟨_, rfl, ?_⟩
   unfold qcv
   rw [if_neg h1, if_neg h2, if_neg h3, if_pos h4]
   refine BCase.of (fun h5 => ?_) (fun h5 => ?_) <;> simp only [dTx, dFx] at h5
   · refine ⟨h0, h0, ?_⟩
     obtain ⟨w3, hs3, ha3, hg3⟩ := ha2.put (P := prog) ze (i := 3) (v := .string (mkS value)) (by simp [Hdr.cells]) rfl rfl
     refine ⟨w3, hs3, qg9 ?_ (jW hg2 hg3)⟩
     rw [if_pos h5]; exact ha3
   · rw [if_neg h5]; exact qg9 ha2 hg2
 rw [beq_eq_false_iff_ne] at h4
 refine BCase.of (fun h5 => ?_) (fun h5 => ?_)
 · rw [beq_iff_eq] at h5
   refine ⟨h0, h0, ?_⟩
   obtain ⟨w2, hs2, ha2, hg2⟩ := ha.put (P := prog) qcr (i := 8) (v := .bool true) (by simp [Hdr.cells]) rfl rfl
   refine ⟨w2, hs2, qg9 ?_ hg2⟩
   unfold qcv
   rw [if_neg h1, if_neg h2, if_neg h3, if_neg h4, if_pos h5]; exact ha2
 rw [beq_eq_false_iff_ne] at h5
 refine BCase.of (fun h6 => ?_) (fun h6 => ?_)
 · rw [beq_iff_eq] at h6
   refine ⟨h0, h0, ?_⟩
   obtain ⟨w2, hs2, ha2, hg2⟩ := ha.put (P := prog) qcr (i := 9) (v := .bool true) (by simp [Hdr.cells]) rfl rfl
   refine ⟨w2, hs2, qg9 ?_ hg2⟩
   unfold qcv
   rw [if_neg h1, if_neg h2, if_neg h3, if_neg h4, if_neg h5, if_pos h6]; exact ha2
 rw [beq_eq_false_iff_ne] at h6
 unfold qcv
 rw [if_neg h1, if_neg h2, if_neg h3, if_neg h4, if_neg h5, if_neg h6]
 refine BCase.of (fun h7 => ?_) (fun h7 => ?_)
 · rw [beq_iff_eq] at h7
   rw [if_pos h7]
   refine ⟨h0, h0, ?_⟩
   obtain ⟨w2, hs2, ha2, hg2⟩ := ha.put (P := prog) qab (i := 10) (v := .int .i64 0) (by simp [Hdr.cells]) rfl rfl
   refine ⟨w2, hs2, ?_⟩
   refine callK (qkd w2) ?_
   rintro _ w3 ⟨rfl, hb3⟩
   refine ⟨_, _, _, _, rfl, ?_⟩
   refine ⟨fun m i w' => ∃ j : Nat, j <= 4 /\ i = (j : Int) /\ m = 4 - j /\ qk w' k qi ({ h with same := quh value j } : Hdr).cells /\ w.grownBy w' (some k),
     ⟨_, 0, by omega, rfl, rfl, ha2.below hb3, jW hg2 (qdn hb3 _)⟩, ?_⟩
   intro m i
   refine AllJ.of ?_ _
   rintro w4 ⟨j, hj, rfl, rfl, ha4, hg4⟩
   refine BCase.of (fun h8 => ?_) (fun h8 => ?_) <;> simp only [dTx, dFx] at h8
   · have hj4 : j < 4 := by omega
     have ew : i64.wrap ((j : Int) + 1) = ((j + 1 : Nat) : Int) := by rw [wrap_i64 (by omega) (by omega)]; omega
     rw [ew]
     have hnl : (nmL[j]?.getD []).length <= 6 := by
       have : ∀ j, j < 4 -> (nmL[j]?.getD []).length <= 6 := by decide
       exact this j hj4
     refine ⟨_, qyy w4 j hj4, ?_⟩
     refine callK (qqg _ value (by omega) (by omega) w4) ?_
     rintro _ w5 ⟨rfl, hb5⟩
     have ha5 := ha4.below hb5
     have hg5 := jW hg4 (qdn hb5 (some k))
     refine ⟨_, rfl, ?_⟩
     have el : quh value (j + 1) = if lowL (nmL[j]?.getD []) = lowL value then (j : Int) else quh value j := rfl
     refine BCase.of (fun h9 => ?_) (fun h9 => ?_)
     · rw [beq_iff_eq] at h9
       rw [if_pos h9] at el
       refine ⟨h0, h0, ?_⟩
       obtain ⟨w6, hs6, ha6, hg6⟩ := ha5.put (P := prog) qab (i := 10) (v := .int .i64 (j : Int)) (by simp [Hdr.cells]) rfl rfl
       refine ⟨w6, hs6, 4 - (j + 1), by omega, j + 1, by omega, rfl, rfl, ?_, jW hg5 hg6⟩
       rw [el]; exact ha6
     · rw [beq_eq_false_iff_ne] at h9
       rw [if_neg h9] at el
       refine ⟨4 - (j + 1), by omega, j + 1, by omega, rfl, rfl, ?_, hg5⟩
       rw [el]; exact ha5
   · have : j = 4 := by omega
     subst this
     rw [qzl] at ha4
     exact qg9 ha4 hg4
 · rw [beq_eq_false_iff_ne] at h7
   rw [if_neg h7]
   exact qg9 ha g0
end Go.Proofs.YtlfolncaghkmcaaGreatDoor
