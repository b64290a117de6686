/- Maps with texts as keys: what a map's entries stand for, a lookK-up, a store. Its conditions: none. -/
import Derived.Test.YtdamklkdjknnpaaR
set_option linter.unusedVariables false
set_option linter.unusedSimpArgs false
namespace Go.Pk
open Go.RowKit (Below)

/-- the entries of a map, as keys and numbers -/
def KV (es : List MapEntry) (kvs : List (List UInt8 × Int)) : Prop := es.map (fun e => (e.key, e.val)) = kvs.map fun p => (Value.string (mkS p.1), Value.int .i64 p.2)
def MapAt (w : World) (r : Nat) (kvs : List (List UInt8 × Int)) : Prop := ∃ es clock, w.heap[r]? = some (.map es clock) ∧ KV es.toList kvs
def lookK (k : List UInt8) : List (List UInt8 × Int) → Option Int
  | [] => none
  | (k', v) :: l => if k = k' then some v else lookK k l
def lookI (k : List UInt8) : List (List UInt8 × Int) → Nat → Option (Nat × Int)
  | [], _ => none
  | (k', v) :: l, i => if k = k' then some (i, v) else lookI k l (i + 1)
theorem look_lookI (k : List UInt8) : ∀ (l : List (List UInt8 × Int)) (i : Nat), (lookI k l i).map (·.2) = lookK k l
  | [], _ => rfl
  | (k', v) :: l, i => by
    unfold lookI lookK
    split
    · rfl
    · exact look_lookI k l (i + 1)
theorem mkS_beq (a b : List UInt8) : (mkS a == mkS b) = (a == b) := by
  show ((mkS a).data == (mkS b).data) = _
  simp [mkS]
theorem mkS_inj {a b : List UInt8} : (mkS a == mkS b) = decide (a = b) := by
  rw [mkS_beq, Bool.eq_iff_iff]; simp
theorem findNow_str (k : List UInt8) : ∀ (es : List MapEntry) (kvs : List (List UInt8 × Int)) (i : Nat), KV es kvs →
    Instr.findNow .string (.string (mkS k)) es i = some ((lookI k kvs i).map fun p => (p.1, Value.int .i64 p.2))
  | [], kvs, i, h => by
    have : kvs = [] := by
      unfold KV at h; simp at h; exact h
    subst this; rfl
  | e :: es, [], i, h => by unfold KV at h; simp at h
  | e :: es, (k', v) :: kvs, i, h => by
    unfold KV at h
    simp only [List.map_cons, List.cons.injEq, Prod.mk.injEq] at h
    obtain ⟨⟨hk, hv⟩, ht⟩ := h
    unfold Instr.findNow lookI
    rw [hk]
    simp only [Instr.sameNow, mkS_inj]
    by_cases e1 : k = k'
    · simp [e1, hv]
    · simp only [e1, decide_false, if_false]
      exact findNow_str k es kvs (i + 1) ht
theorem findKey_str {P : Program} {kt : TypeId} (hk : P.underlying kt = some .string) {k : List UInt8} {es : List MapEntry} {kvs : List (List UInt8 × Int)} (h : KV es kvs) (w : World) :
    (Instr.findKey kt (.string (mkS k)) es).run P w = .ok ((lookI k kvs 0).map fun p => (p.1, Value.int .i64 p.2)) w := by
  unfold Instr.findKey
  rw [Sem.run_bind, run_und hk, Result.andThen_ok, findNow_str k es kvs 0 h]
  rfl
theorem checkKey_str {P : Program} {kt : TypeId} (hk : P.underlying kt = some .string) (b : Bool) (s : ByteArray) (w : World) : (Instr.checkKey b 10000 kt (.string s)).run P w = .ok () w := by
  show (Instr.checkKey b (9999 + 1) kt (.string s)).run P w = _
  unfold Instr.checkKey
  rw [Sem.run_bind, run_und hk, Result.andThen_ok]
  rfl
theorem run_getMap {P : Program} {w : World} {r : Nat} {es : Array MapEntry} {c : Nat} (h : w.heap[r]? = some (.map es c)) : (getObj r).run P w = .ok (.map es c) w := by
  simp only [getObj, Sem.run, h]
theorem lookup_ok {P : Program} {mt kt et : TypeId} {z : Value} (hm : P.underlying mt = some (.map kt et)) (hk : P.underlying kt = some .string) (he : TF P et 1 8 (.int .i64 0)) {w : World} {r : Nat} {kvs : List (List UInt8 × Int)} (h : MapAt w r kvs) (k : List UInt8) :
    (Instr.lookup mt (.map (some r)) (.string (mkS k)) true).run P w = .ok (.tuple #[.int .i64 ((lookK k kvs).getD 0), .bool (lookK k kvs).isSome]) w := by
  obtain ⟨es, c, hh, hkv⟩ := h
  obtain ⟨i, hi, _, _, hz⟩ := he.info
  unfold Instr.lookup
  simp only [Sem.run_bind, run_und hm, Result.andThen_ok, run_getMap hh, Sem.run_pure, checkKey_str hk, findKey_str hk hkv]
  rw [← look_lookI k kvs 0]
  cases lookI k kvs 0 with
  | none => simp [zeroValue, run_info hi, hz]
  | some p => simp
theorem lookup_plain {P : Program} {mt kt et : TypeId} {z : Value} (hm : P.underlying mt = some (.map kt et)) (hk : P.underlying kt = some .string) (he : TF P et 1 8 (.int .i64 0)) {w : World} {r : Nat} {kvs : List (List UInt8 × Int)} (h : MapAt w r kvs) (k : List UInt8) :
    (Instr.lookup mt (.map (some r)) (.string (mkS k)) false).run P w = .ok (.int .i64 ((lookK k kvs).getD 0)) w := by
  obtain ⟨es, c, hh, hkv⟩ := h
  obtain ⟨i, hi, _, _, hz⟩ := he.info
  unfold Instr.lookup
  simp only [Sem.run_bind, run_und hm, Result.andThen_ok, run_getMap hh, Sem.run_pure, checkKey_str hk, findKey_str hk hkv]
  rw [← look_lookI k kvs 0]
  cases lookI k kvs 0 with
  | none => simp [zeroValue, run_info hi, hz]
  | some p => simp
theorem MapAt.below {w w' : World} {r : Nat} {kvs : List (List UInt8 × Int)} (h : MapAt w r kvs) (hb : Below w.heap.size w w') : MapAt w' r kvs := by
  obtain ⟨es, c, hh, hkv⟩ := h
  exact ⟨es, c, (hb.block r (Array.getElem?_eq_some_iff.1 hh).1).trans hh, hkv⟩
theorem MapAt.keep {w w' : World} {r : Nat} {kvs : List (List UInt8 × Int)} (h : MapAt w r kvs) (hb : w'.heap[r]? = w.heap[r]?) : MapAt w' r kvs := by
  obtain ⟨es, c, hh, hkv⟩ := h
  exact ⟨es, c, hb.trans hh, hkv⟩
theorem MapAt.new {w w' : World} {r : Nat} (hr : r = w.heap.size) (hw : w' = w.alloc (.map #[] 0)) : MapAt w' r [] := by
  subst hr hw
  exact ⟨#[], 0, heap_alloc_new w _, rfl⟩
/-- a store of a key that isn't there -/
theorem mapUpdate_new {P : Program} {mt kt et : TypeId} (hm : P.underlying mt = some (.map kt et)) (hk : P.underlying kt = some .string) {w : World} {r : Nat} {kvs : List (List UInt8 × Int)} (h : MapAt w r kvs) {k : List UInt8} (hno : lookK k kvs = none) (v : Int) :
    ∃ w', (Instr.mapUpdate mt (.map (some r)) (.string (mkS k)) (.int .i64 v)).run P w = .ok () w' ∧ MapAt w' r (kvs ++ [(k, v)]) ∧ w.grownBy w' (some r) := by
  obtain ⟨es, c, hh, hkv⟩ := h
  have hlt : r < w.heap.size := (Array.getElem?_eq_some_iff.1 hh).1
  have hnone : lookI k kvs 0 = none := by
    have := look_lookI k kvs 0
    rw [hno] at this
    simpa using this
  refine ⟨{ w with heap := w.heap.setIfInBounds r (.map (es.push { key := .string (mkS k), val := .int .i64 v, born := c }) (c + 1)) }, ?_, ⟨es.push { key := .string (mkS k), val := .int .i64 v, born := c }, c + 1, by simp [hlt], ?_⟩, ⟨rfl, rfl, rfl, by simp, fun j hj hne => ?_⟩⟩
  · unfold Instr.mapUpdate
    simp only [Sem.run_bind, run_und hm, Result.andThen_ok, run_getMap hh, checkKey_str hk, findKey_str hk hkv, hnone, Option.map_none]
    simp only [setObj, Sem.run, hh]
  · unfold KV at hkv ⊢
    simp only [Array.toList_push, List.map_append, List.map_cons, List.map_nil, hkv]
  · have : r ≠ j := fun e => hne (by rw [e])
    simp [Array.getElem?_setIfInBounds_ne this]
end Go.Pk
