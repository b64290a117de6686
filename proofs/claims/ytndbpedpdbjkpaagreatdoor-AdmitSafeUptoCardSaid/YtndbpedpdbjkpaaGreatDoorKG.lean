/- What the laws lean on: UrlA, UrlB, MatA, Idx, RulA, MapG, SufP, Row, SufA, SufB, SufC, HdrD, HdrE; what is used. Its conditions: none. -/
import Derived.Test.YtndbpedpdbjkpaaGreatDoorKF
import Derived.Lib.LastIndexByte
import Derived.Shelf.Strings.IndexAny
import Derived.Laws.RangeAny
import Derived.WalkMore
import Derived.Lib.OthersKept
import Derived.Shelf.RegionOpenPlain
open Go.IntKind (i64)
open Go.Proofs.Tryz (prog)
set_option linter.unusedVariables false
set_option linter.unusedSimpArgs false
set_option maxRecDepth 20000
namespace Go.Pk
open Go.RowKit (Below)
def qie (c : UInt8) : Bool := !(decide (((c.toNat : Nat) : Int) < 33) || (decide (((c.toNat : Nat) : Int) > 126) || (c == 63 || c == 35)))
def pathB (s : List UInt8) : Bool := decide (s.head? = some 47) && (decide (s.length <= 2048) && s.all qie)
structure Url where
 sec : Bool
 host : Hst
 port : Int
 path : List UInt8
def Url.cells (u : Url) : List Value := .bool u.sec :: (u.host.cells ++ [.int .i64 u.port, .string (mkS u.path)])
def Url.v (u : Url) : Value := .agg u.cells.toArray
def url0 : Url := ⟨false, hst0, 0, []⟩
def Url.ok (u : Url) : Prop := u.host.ok
theorem Url.len {u : Url} (o : u.ok) : u.cells.length = 21 := by unfold Url.cells; rw [List.length_cons, List.length_append, Hst.len o]; rfl
theorem Url.one (u : Url) : One1 u.cells := jf rfl (qpC (Hst.one _) (jf rfl (jf rfl qjT)))
theorem qdj {u : Url} (o : u.ok) {j : Nat} (h : j < 18) : u.cells[1 + j]? = u.host.cells[j]? := by
 unfold Url.cells
 rw [Nat.add_comm, List.getElem?_cons_succ, List.getElem?_append_left (by rw [Hst.len o]; exact h)]
theorem qg0 {u : Url} (o : u.ok) : u.cells[19]? = some (.int .i64 u.port) := by
 unfold Url.cells
 rw [List.getElem?_cons_succ, List.getElem?_append_right (by rw [Hst.len o]; exact Nat.le_refl _), Hst.len o]; rfl
theorem qcE {u : Url} (o : u.ok) : u.cells[20]? = some (.string (mkS u.path)) := by
 unfold Url.cells
 rw [List.getElem?_cons_succ, List.getElem?_append_right (by rw [Hst.len o]; decide), Hst.len o]; rfl
theorem qs6 (u : Url) (b : Bool) : u.cells.set 0 (.bool b) = ({ u with sec := b } : Url).cells := rfl
theorem qo1 {u : Url} (o : u.ok) (n : Int) : u.cells.set 19 (.int .i64 n) = ({ u with port := n } : Url).cells := by
 unfold Url.cells
 rw [List.set_cons_succ, List.set_append_right _ _ (by rw [Hst.len o]; exact Nat.le_refl _), Hst.len o]; rfl
theorem qlv {u : Url} (o : u.ok) (p : List UInt8) : u.cells.set 20 (.string (mkS p)) = ({ u with path := p } : Url).cells := by
 unfold Url.cells
 rw [List.set_cons_succ, List.set_append_right _ _ (by rw [Hst.len o]; decide), Hst.len o]; rfl
theorem qsT {u : Url} (o : u.ok) (h : Hst) : u.cells.take 1 ++ h.cells ++ u.cells.drop (1 + 18) = ({ u with host := h } : Url).cells := by
 unfold Url.cells
 rw [show 1 + 18 = 18 + 1 from rfl, List.drop_succ_cons, List.drop_append_of_le_length (by rw [Hst.len o]; exact Nat.le_refl _), List.drop_of_length_le (by rw [Hst.len o]; exact Nat.le_refl _)]; rfl
def uRight (u : Url) : Bool := zd u.host && (decide (u.port >= 1) && (decide (u.port <= 65535) && pathB u.path))
def findL (p s : List UInt8) : Nat := (s.takeWhile fun c => !p.contains c).length
theorem qiB (p s : List UInt8) : findL p s <= s.length := jz _ _
def urlH (s : List UInt8) : Option (List UInt8 × Bool) :=
 if lowL (s.take 7) = [104, 116, 116, 112, 58, 47, 47] then some (s.drop 7, false) else if lowL (s.take 8) = [104, 116, 116, 112, 115, 58, 47, 47] then some (s.drop 8, true) else none
def placeE (p : List UInt8) : Nat := if p.head? = some 91 then min (findL [93] p + 1) p.length else findL [58] p
theorem qsr (p : List UInt8) : placeE p <= p.length := by
 unfold placeE
 split
 · omega
 · exact qiB _ _
def qiq (p : List UInt8) : Option Hst := if p.drop (placeE p) ≠ [] /\ (p.drop (placeE p)).head? ≠ some 58 then none else hostV (p.take (placeE p))
def qoH (sec : Bool) (b : List UInt8) : Option Int := if b = [] then some (if sec then 443 else 80) else if numP (b.drop 1) /\ 1 <= decV (b.drop 1) /\ decV (b.drop 1) <= 65535 then some (decV (b.drop 1)) else none
def qlD (r : List UInt8) : List UInt8 := if r.take (findL [63, 35] r) = [] then [47] else r.take (findL [63, 35] r)
def urlR (r : List UInt8) (sec : Bool) : Url × Int :=
 match qiq (r.take (findL [47, 63, 35] r)) with
 | none => (url0, 31)
 | some h => match qoH sec ((r.take (findL [47, 63, 35] r)).drop (placeE (r.take (findL [47, 63, 35] r)))) with
   | none => (url0, 42)
   | some n => if pathB (qlD (r.drop (findL [47, 63, 35] r))) = true then (⟨sec, h, n, qlD (r.drop (findL [47, 63, 35] r))⟩, 0) else (url0, 43)
def urlV (s : List UInt8) : Url × Int := match urlH s with
 | none => (url0, 41)
 | some (r, b) => urlR r b
theorem hostW_ok {p : List UInt8} {h : Hst} (e : qiq p = some h) : h.ok := by
 unfold qiq at e
 split at e
 · cases e
 · exact jG e
theorem qum (r : List UInt8) (b : Bool) : (urlR r b).1.ok := by
 unfold urlR
 split
 · rfl
 · rename_i h hh
   split
   · rfl
   · split
     · exact hostW_ok hh
     · rfl
theorem urlV_ok (s : List UInt8) : (urlV s).1.ok := by
 unfold urlV
 split
 · rfl
 · exact qum _ _
theorem qqr {s : List UInt8} {k : Nat} (hlt : k < s.length) (h : qie s[k] = false) : pathB s = false := by
 have : s.all qie = false := by
   rw [Bool.eq_false_iff]; intro hx; rw [List.all_eq_true.1 hx _ (List.getElem_mem hlt)] at h; cases h
 unfold pathB; rw [this, Bool.and_false, Bool.and_false]
end Go.Pk
namespace Go.Proofs.YtndbpedpdbjkpaaGreatDoor
open Go.Pk
open Go.RowKit (Below)
theorem qna (c : UInt8) (H : Prop) (hH : H) {Y N : Prop} (hy : qie c = true -> Y) (hn : qie c = false -> N) :
   BCase (decide (((c.toNat : Nat) : Int) < 33)) N (H /\ BCase (decide (((c.toNat : Nat) : Int) > 126)) N (H /\ BCase (((c.toNat : Nat) : Int) == (63 : Int)) N (H /\ BCase (((c.toNat : Nat) : Int) == (35 : Int)) N Y))) := by
 have e63 := qau c 63
 have e35 := qau c 35
 rw [show (((63 : UInt8).toNat : Nat) : Int) = 63 from rfl] at e63
 rw [show (((35 : UInt8).toNat : Nat) : Int) = 35 from rfl] at e35
 rw [e63, e35]
 refine BCase.of (fun h => hn ?_) (fun h => ⟨hH, BCase.of (fun h2 => hn ?_) (fun h2 => ⟨hH, BCase.of (fun h3 => hn ?_) (fun h3 => ⟨hH, BCase.of (fun h4 => hn ?_) (fun h4 => hy ?_)⟩)⟩)⟩)
 · unfold qie; rw [h]; rfl
 · unfold qie; rw [h, h2]; rfl
 · unfold qie; rw [h, h2, h3]; rfl
 · unfold qie; rw [h, h2, h3, h4]; rfl
 · unfold qie; rw [h, h2, h3, h4]; rfl
theorem qpJ (c : UInt8) {Y N : Prop} (hy : qie c = true -> Y) (hn : qie c = false -> N) :
   BCase (decide (((c.toNat : Nat) : Int) < 33)) N (BCase (decide (((c.toNat : Nat) : Int) > 126)) N (BCase (((c.toNat : Nat) : Int) == (63 : Int)) N (BCase (((c.toNat : Nat) : Int) == (35 : Int)) N Y))) := by
 have := qna c True trivial hy hn
 simpa only [true_and] using this
theorem qas : Whl prog qg 21 := ⟨⟨_, _, qri⟩, by kernel_rfl⟩
theorem qpV (s : List UInt8) (w : World) : Calls prog qjL #[.string (mkS s)] w (Ret fun v w' => v = .bool (pathB s) /\ Below w.heap.size w w') := by
 apply qoU
 unfold qkZ
 refine factJ (w := w) (s.head? = some 47 /\ s.length <= 2048) ?_ ?_
 · refine BCase.of (fun h => ⟨?_, Below.refl _ _⟩) (fun h => ?_)
   · have : s = [] := by simpa using h
     subst this; rfl
   have hne : s ≠ [] := by simpa using h
   have hl : 0 < s.length := List.length_pos_iff.2 hne
   have hh : s.head? = some s[0] := by rw [List.head?_eq_getElem?, List.getElem?_eq_getElem hl]
   refine BCase.of (fun h => ⟨?_, Below.refl _ _⟩) (fun h2 => ⟨⟨by decide, by omega⟩, ?_⟩)
   · unfold pathB; rw [decide_eq_false (p := s.length <= 2048) (by simp at h; omega), Bool.false_and, Bool.and_false]
   have hb := zJ (s := s) (k := 0) hl
   rw [show ((0 : Nat) : Int) = 0 from rfl] at hb
   have hu := qau s[0] 47
   rw [show (((47 : UInt8).toNat : Nat) : Int) = 47 from rfl] at hu
   simp only [bne, hb, hu]
   refine BCase.of (fun h3 => ⟨?_, Below.refl _ _⟩) (fun h3 => ⟨trivial, ?_, by simp at h2; omega⟩)
   · unfold pathB; rw [hh, decide_eq_false (p := some s[0] = some 47) (by simpa using h3), Bool.false_and]
   · rw [hh]; simpa using h3
 · rintro ⟨hh, hl⟩
   have hp : pathB s = s.all qie := by unfold pathB; rw [decide_eq_true hh, decide_eq_true hl, Bool.true_and, Bool.true_and]
   obtain ⟨w2, a, n, c, hr, ho, hb2, hf⟩ := qgX (P := prog) un_string zQ un_uint8 w s (by omega) NoB
   have hnn := ho.len
   subst hnn
   refine ⟨w2, a, _, c, hr, ?_⟩
   refine ⟨fun m i w' => ∃ k : Nat, k <= s.length /\ i = (k : Int) /\ m = s.length - k /\ (s.take k).all qie = true /\ w' = w2, ⟨_, 0, by omega, rfl, rfl, rfl, rfl⟩, ?_⟩
   intro m i
   refine AllJ.of ?_ _
   rintro w' ⟨k, hk, rfl, rfl, hno, hw'⟩
   rw [hw']; clear hw'
   refine BCase.of (fun h => ?_) (fun h => ?_) <;> simp only [dTx, dFx] at h
   · have hlt : k < s.length := by omega
     obtain ⟨v, hv, hrep⟩ := ho.all.load1 (i := (k : Int)) un_uint8 rfl rfl (by simpa using hlt)
     have := qnk hrep
     subst this
     simp only [Int.toNat_natCast] at hv
     refine ⟨⟨⟨by omega, h⟩, ho.all.isSome hlt⟩, _, hv, qpJ _ (fun hc => ?_) (fun hc => ⟨by rw [qqr hlt hc], hb2⟩)⟩
     exact ⟨s.length - (k + 1), by omega, k + 1, by omega, by rw [wrap_i64 (by omega) (by omega)]; omega, rfl, by rw [List.take_succ_eq_append_getElem hlt, List.all_append, hno]; simp [hc], rfl⟩
   · have : k = s.length := by omega
     subst this
     rw [List.take_length] at hno
     exact ⟨by rw [hp, hno], hb2⟩
theorem qfl (s : List UInt8) (hs : s.length <= 9223372036854775800) (w : World) : Calls prog qbH #[.string (mkS s)] w (Ret fun v w' => v = .bool (pathB s) /\ w' = w) := by
 apply qmK
 unfold qjv
 refine ⟨fun m i w' => ∃ k : Nat, k <= s.length /\ i = (k : Int) /\ m = s.length - k /\ (s.take k).all qie = true /\ w' = w, ⟨_, 0, by omega, rfl, rfl, rfl, rfl⟩, ?_⟩
 intro m i
 refine AllJ.of ?_ _
 rintro w' ⟨k, hk, rfl, rfl, hno, hw'⟩
 rw [hw']; clear hw'
 refine BCase.of (fun h => ?_) (fun h => ?_) <;> simp only [dTx, dFx] at h
 · have hlt : k < s.length := by omega
   rw [zJ hlt]
   have hin : (0 <= (k : Int) /\ (k : Int) < ((s.length : Nat) : Int)) := ⟨by omega, h⟩
   refine ⟨hin, qna _ _ hin (fun hc => ?_) (fun hc => ⟨by rw [qqr hlt hc], rfl⟩)⟩
   exact ⟨s.length - (k + 1), by omega, k + 1, by omega, by rw [wrap_i64 (by omega) (by omega)]; omega, rfl, by rw [List.take_succ_eq_append_getElem hlt, List.all_append, hno]; simp [hc], rfl⟩
 · have : k = s.length := by omega
   subst this
   rw [List.take_length] at hno
   unfold pathB
   rw [hno, Bool.and_true]
   refine BCase.of (fun h2 => ?_) (fun h2 => ⟨?_, rfl⟩) <;> simp only [ge_iff_le, dTx, dFx] at h2
   · refine BCase.of (fun h3 => ?_) (fun h3 => ⟨?_, rfl⟩) <;> simp only [dTx, dFx] at h3
     · have hl : 0 < s.length := by omega
       have hb := zJ (s := s) (k := 0) hl
       rw [show ((0 : Nat) : Int) = 0 from rfl] at hb
       have hu := qau s[0] 47
       rw [show (((47 : UInt8).toNat : Nat) : Int) = 47 from rfl] at hu
       refine ⟨⟨by decide, by omega⟩, ?_, rfl⟩
       rw [hb, hu, decide_eq_true (p := s.length <= 2048) (by omega), Bool.and_true, List.head?_eq_getElem?, List.getElem?_eq_getElem hl]
       congr 1
       rw [Bool.eq_iff_iff]; simp
     · rw [decide_eq_false (p := s.length <= 2048) (by omega), Bool.and_false]
   · have : s = [] := List.length_eq_zero_iff.1 (by omega)
     subst this; rfl
theorem ref04_find_ok (s p : List UInt8) (hs : s.length <= 9223372036854775800) (hp : p.length <= 9223372036854775800) (w : World) : Calls prog qa3 #[.string (mkS s), .string (mkS p)] w (Ret fun v w' => v = .int .i64 ((findL p s : Nat) : Int) /\ Below w.heap.size w w') := by
 apply qmo
 unfold qjm
 refine ⟨fun m i w' => ∃ k : Nat, k <= s.length /\ i = (k : Int) /\ m = s.length - k /\ k <= findL p s /\ Below w.heap.size w w', ⟨_, 0, by omega, rfl, rfl, Nat.zero_le _, Below.refl _ _⟩, ?_⟩
 intro m i
 refine AllJ.of ?_ _
 rintro w1 ⟨k, hk, rfl, hm, hno, hb1⟩
 refine BCase.of (fun h => ?_) (fun h => ?_) <;> simp only [dTx, dFx] at h
 · have hlt : k < s.length := by omega
   have ht := qes (fun c => !p.contains c) s k hlt hno
   refine ⟨fun m i w' => ∃ j : Nat, j <= p.length /\ i = (j : Int) /\ m = p.length - j /\ (p.take j).contains s[k] = false /\ Below w.heap.size w w', ⟨_, 0, by omega, rfl, rfl, rfl, hb1⟩, ?_⟩
   intro m2 i2
   refine AllJ.of ?_ _
   rintro w2 ⟨j, hj, rfl, hm2, hj2, hb2⟩
   refine BCase.of (fun h2 => ?_) (fun h2 => ?_) <;> simp only [dTx, dFx] at h2
   · have hlj : j < p.length := by omega
     rw [zJ hlt, zJ hlj, qau]
     refine ⟨⟨by omega, h⟩, ⟨by omega, h2⟩, fun wq hq => ?_⟩
     have hB := qb hb2 hq hb2.size
     refine BCase.of (fun h3 => ⟨?_, hB⟩) (fun h3 => ?_)
     · have hc : p.contains s[k] = true := by rw [List.contains_iff_mem, eq_of_beq h3]; exact List.getElem_mem hlj
       have : ¬ k < (s.takeWhile fun c => !p.contains c).length := fun hk => by have := ht.2 hk; rw [hc] at this; cases this
       have e : findL p s = k := by unfold findL at hno ⊢; omega
       rw [e]
     · refine ⟨p.length - (j + 1), by omega, j + 1, by omega, by rw [wrap_i64 (by omega) (by omega)]; omega, rfl, ?_, hB⟩
       rw [List.take_succ_eq_append_getElem hlj]
       simp only [List.contains_eq_mem, dFx, List.mem_append, List.mem_singleton] at hj2 ⊢
       rintro (hx | hx)
       · exact hj2 hx
       · rw [hx] at h3; simp at h3
   · have : j = p.length := by omega
     subst this
     rw [List.take_length] at hj2
     have : k < findL p s := ht.1 (by rw [hj2]; rfl)
     exact ⟨s.length - (k + 1), by omega, k + 1, by omega, by rw [wrap_i64 (by omega) (by omega)]; omega, rfl, by omega, hb2⟩
 · have := qiB p s
   have e : findL p s = s.length := by omega
   exact ⟨by rw [e], hb1⟩
theorem qpp {u : Url} (o : u.ok) (hn : u.host.name.length <= 1000000000) (w : World) (he : Env w) : Calls prog qic #[u.v] w (Ret fun v w' => v = .bool (uRight u) /\ Below w.heap.size w w') := by
 apply qn4
 unfold qj2
 intro k1 w1 hk1 hw1
 have hB1 := (hw1 ▸ qf w _ : Below w.heap.size w w1)
 have h1 : qm w1 k1 qg u.cells := qm.new hk1 hw1
 refine ⟨rfl, _, qs.load h1 (i := 1) (us := u.host.cells) (Hst.len o) (fun j hj => qdj o hj), ?_⟩
 refine callK (qfA o hn w1 (he.step hB1)) ?_
 rintro _ w2 ⟨rfl, hb2⟩
 have hB2 := qb hB1 hb2 hB1.size
 have h2 := h1.below hb2
 refine ⟨_, rfl, ?_⟩
 unfold uRight
 refine BCase.of (fun c1 => ?_) (fun c1 => ⟨by rw [c1]; rfl, hB2⟩)
 refine ⟨rfl, _, h2.load1 qN rfl (qg0 o), BCase.of (fun c2 => ?_) (fun c2 => ⟨by rw [c1, c2]; rfl, hB2⟩)⟩
 refine ⟨rfl, _, h2.load1 qN rfl (qg0 o), BCase.of (fun c3 => ?_) (fun c3 => ⟨by rw [c1, c2, c3]; rfl, hB2⟩)⟩
 refine ⟨rfl, _, h2.load1 un_string rfl (qcE o), ?_⟩
 refine callK (qpV _ w2) ?_
 rintro _ w3 ⟨rfl, hb3⟩
 exact ⟨_, rfl, by rw [c1, c2, c3]; rfl, qb hB2 hb3 hB2.size⟩
end Go.Proofs.YtndbpedpdbjkpaaGreatDoor
namespace Go.Pk
open Go.RowKit (Below)
structure StU (w0 : World) (t : TypeId) (k2 k4 : Nat) (u : Url) (w : World) : Prop where
 h4 : qm w k4 t u.cells
 h2 : qm w k2 t url0.cells
 hb : Below w0.heap.size w0 w
 hne : k2 ≠ k4
 hk4 : w0.heap.size <= k4
 hk2 : w0.heap.size <= k2
 ho : u.ok
theorem StU.below {w0 : World} {t : TypeId} {k2 k4 : Nat} {u : Url} {w w' : World} (S : StU w0 t k2 k4 u w) (hb : Below w.heap.size w w') : StU w0 t k2 k4 u w' :=
 ⟨S.h4.below hb, S.h2.below hb, qb S.hb hb S.hb.size, S.hne, S.hk4, S.hk2, S.ho⟩
theorem StU.put {P : Program} {x : TypeId} {bytes : Nat} {z : Value} (tf : TF P x 1 bytes z) {w0 : World} {t : TypeId} {k2 k4 : Nat} {u u' : Url} {w : World} (S : StU w0 t k2 k4 u w)
   {i : Nat} {v : Value} (hi : i < 21) (h1 : v.oneCell' = true) (hc : v.cells = #[v]) (e : u.cells.set i v = u'.cells) (o : u'.ok) :
   ∃ wx, (Instr.storeAt x (.pointer (some ⟨k4, i, none⟩)) v).run P w = .ok () wx /\ StU w0 t k2 k4 u' wx := by
 obtain ⟨wx, hs, ha, hg⟩ := S.h4.put tf (i := i) (v := v) (by rw [Url.len S.ho]; exact hi) h1 hc
 exact ⟨wx, hs, e ▸ ha, S.h2.grown hg (qP S.hne), Below.put S.hb hg S.hk4, S.hne, S.hk4, S.hk2, o⟩
theorem StU.putH {P : Program} {x : TypeId} (wh : Whl P x 18) {w0 : World} {t : TypeId} {k2 k4 : Nat} {u : Url} {w : World} (S : StU w0 t k2 k4 u w) {h : Hst} (o : h.ok) :
   ∃ wx, (Instr.storeAt x (.pointer (some ⟨k4, 1, none⟩)) h.v).run P w = .ok () wx /\ StU w0 t k2 k4 { u with host := h } wx := by
 obtain ⟨wx, hs, ha, hg⟩ := wh.store (Hst.len o) (Hst.one h) S.h4 (i := 1) (by rw [Url.len S.ho]; decide)
 rw [qsT S.ho] at ha
 exact ⟨wx, hs, ha, S.h2.grown hg (qP S.hne), Below.put S.hb hg S.hk4, S.hne, S.hk4, S.hk2, o⟩
def urlT (x : Url × Int) : Value := .tuple #[x.1.v, .int .i64 x.2]
theorem low7 {s p : List UInt8} (h : lowL s = p) : s.length = p.length := by rw [<- h]; simp [lowL]
end Go.Pk
namespace Go.Proofs.YtndbpedpdbjkpaaGreatDoor
open Go.Pk
open Go.RowKit (Below)
def qlK (s : List UInt8) (w : World) (v : Value) (w' : World) : Prop := v = urlT (urlV s) /\ Below w.heap.size w w'
theorem qm1 (s : List UInt8) (hs : s.length <= 90000000) (w : World) : Calls prog qfL #[.string (mkS s)] w (Ret (qlK s w)) := by
 apply qlg
 unfold qhw
 intro k2 w2 hk2 hw2
 have hB2 := (hw2 ▸ qf w _ : Below w.heap.size w w2)
 have h2 : qm w2 k2 qg url0.cells := qm.new hk2 hw2
 refine qas.new (zs := url0.cells) (cs := ({ url0 with port := 80 } : Url).cells) rfl rfl (Url.one _) w2 fun k4 w4 hk4 h4 hb4 => ?_
 have hlt := h2.lt
 have S0 : StU w qg k2 k4 { url0 with port := 80 } w4 := ⟨h4, h2.below hb4, qb hB2 hb4 hB2.size, by omega, by have := hB2.size; omega, by omega, rfl⟩
 clear hB2 h2 h4 hb4 hlt hk2 hw2 hk4
 -- an error
 have bad : ∀ {wx : World} {u : Url} {e : Int}, StU w qg k2 k4 u wx -> urlV s = (url0, e) ->
     ∃ wy, (Instr.storeAt qg (.pointer (some ⟨k2, 0, none⟩)) (.agg z7)).run prog wx = .ok () wy /\ ∃ vr : Value, (qC qg (.pointer (some ⟨k2, 0, none⟩))).run prog wy = .ok vr wy /\ qlK s w (.tuple #[vr, .int .i64 e]) wy := fun {wx u e} S he =>
   qas.fin (K := fun vr wy => qlK s w (.tuple #[vr, .int .i64 e]) wy) (cs := url0.cells) rfl (Url.one _) S.h2 rfl S.hb S.hk2 fun wy hb => ⟨by rw [he]; rfl, hb⟩
 have bp : ∀ b : Bool, (Value.bool b).cells = #[Value.bool b] := fun _ => rfl
 refine ⟨fun r w' => ∃ b, urlH s = some (r, b) /\ StU w qg k2 k4 { url0 with sec := b, port := if b then 443 else 80 } w', ?_, ?_⟩
 · refine qhz (fun b w' => b = decide (lowL (s.take 7) = [104, 116, 116, 112, 58, 47, 47]) /\ StU w qg k2 k4 { url0 with port := 80 } w') ?_ ?_
   · refine BCase.of (fun h => ⟨⟨by decide, by simpa using h⟩, ?_⟩) (fun h => ⟨?_, S0⟩)
     · rintro _ rfl
       refine callK (ref01_Lower_ok _ (by simp; omega) w4) ?_
       rintro _ w5 ⟨rfl, hb5⟩
       refine ⟨_, rfl, ?_, S0.below hb5⟩
       rw [Bool.eq_iff_iff, beq_iff_eq, dTx]; rfl
     · rw [eq_comm, dFx]
       intro hc
       have := low7 hc
       simp at this h; omega
   · rintro b w5 ⟨rfl, S5⟩
     refine BCase.of (fun h => ?_) (fun h => ?_)
     · rw [dTx] at h
       have hl := low7 h
       refine ⟨⟨by decide, by simp at hl; omega⟩, ?_⟩
       rintro _ rfl
       exact ⟨false, by unfold urlH; rw [if_pos h]; rfl, S5⟩
     · have h7 : ¬ lowL (s.take 7) = [104, 116, 116, 112, 58, 47, 47] := of_decide_eq_false h
       clear h
       refine qhz (fun b w' => b = decide (lowL (s.take 8) = [104, 116, 116, 112, 115, 58, 47, 47]) /\ StU w qg k2 k4 { url0 with port := 80 } w') ?_ ?_
       · refine BCase.of (fun h => ⟨⟨by decide, by simpa using h⟩, ?_⟩) (fun h => ⟨?_, S5⟩)
         · rintro _ rfl
           refine callK (ref01_Lower_ok _ (by simp; omega) w5) ?_
           rintro _ w6 ⟨rfl, hb6⟩
           refine ⟨_, rfl, ?_, S5.below hb6⟩
           rw [Bool.eq_iff_iff, beq_iff_eq, dTx]; rfl
         · rw [eq_comm, dFx]
           intro hc
           have := low7 hc
           simp at this h; omega
       · rintro b w6 ⟨rfl, S6⟩
         refine BCase.of (fun h => ?_) (fun h => ?_)
         · rw [dTx] at h
           have hl := low7 h
           refine ⟨⟨by decide, by simp at hl; omega⟩, ?_⟩
           rintro _ rfl
           obtain ⟨w7, hs7, S7⟩ := S6.put (P := prog) qca (i := 0) (v := .bool true) (by decide) rfl rfl (qs6 _ true) rfl
           refine ⟨rfl, w7, hs7, rfl, ?_⟩
           obtain ⟨w8, hs8, S8⟩ := S7.put (P := prog) qbr (i := 19) (v := .int .i64 443) (by decide) rfl rfl (qo1 S7.ho 443) rfl
           exact ⟨w8, hs8, true, by unfold urlH; rw [if_neg h7, if_pos h]; rfl, S8⟩
         · exact bad S6 (by unfold urlV urlH; rw [if_neg h7, if_neg (of_decide_eq_false h)])
 · intro r
   refine AllJ.of ?_ _
   rintro w5 ⟨sec, hH, S5⟩
   have hrl : r.length <= s.length := by
     unfold urlH at hH
     split at hH
     · cases hH; simp
     split at hH
     · cases hH; simp
     · cases hH
   have hV : urlV s = urlR r sec := by unfold urlV; rw [hH]
   rw [hV] at bad
   have fin : ∀ {wx : World} {u : Url}, StU w qg k2 k4 u wx -> urlR r sec = (u, 0) -> ∃ v : Value, (Instr.loadAt qg (.pointer (some ⟨k4, 0, none⟩))).run prog wx = .ok v wx /\
     ∃ wy, (Instr.storeAt qg (.pointer (some ⟨k2, 0, none⟩)) v).run prog wx = .ok () wy /\ ∃ vr : Value, (qC qg (.pointer (some ⟨k2, 0, none⟩))).run prog wy = .ok vr wy /\ qlK s w (.tuple #[vr, .int .i64 0]) wy := fun {wx u} S he =>
     ⟨u.v, qas.load0 S.h4 (Url.len S.ho), qas.fin (K := fun vr wy => qlK s w (.tuple #[vr, .int .i64 0]) wy) (cs := u.cells) (Url.len S.ho) (Url.one _) S.h2 rfl S.hb S.hk2 fun wy hb => ⟨by rw [hV, he]; rfl, hb⟩⟩
   clear hH S0
   refine callK (ref04_find_ok r [47, 63, 35] (by omega) (by decide) w5) ?_
   rintro _ w6 ⟨rfl, hb6⟩
   have S6 := S5.below hb6
   have hat := qiB [47, 63, 35] r
   refine ⟨_, rfl, ⟨by omega, by omega⟩, ?_⟩
   rw [Int.toNat_natCast]
   have hR : urlR r sec = match qiq (r.take (findL [47, 63, 35] r)) with
     | none => (url0, 31)
     | some h => match qoH sec ((r.take (findL [47, 63, 35] r)).drop (placeE (r.take (findL [47, 63, 35] r)))) with
       | none => (url0, 42)
       | some n => if pathB (qlD (r.drop (findL [47, 63, 35] r))) = true then (⟨sec, h, n, qlD (r.drop (findL [47, 63, 35] r))⟩, 0) else (url0, 43) := rfl
   have hpl : (r.take (findL [47, 63, 35] r)).length <= s.length := by simp; omega
   intro p hp
   rw [<- hp] at hR hpl
   clear hp
   refine callK (ref04_find_ok p [58] (by omega) (by decide) w6) ?_
   rintro _ w7 ⟨rfl, hb7⟩
   have S7 := S6.below hb7
   refine ⟨_, rfl, ?_⟩
   refine ⟨fun n w' => n = ((placeE p : Nat) : Int) /\ StU w qg k2 k4 { url0 with sec := sec, port := if sec then 443 else 80 } w', ?_, ?_⟩
   · refine qav (w := w7) (decide (p.head? = some 91)) ?_ ?_
     · refine BCase.of (fun h => ⟨⟨by decide, by simpa using h⟩, rfl, ?_⟩) (fun h => ⟨rfl, ?_⟩)
       · have hl : 0 < p.length := by simpa using h
         have hb := zJ (s := p) (k := 0) hl
         rw [show ((0 : Nat) : Int) = 0 from rfl] at hb
         have hu := qau p[0] 91
         rw [show (((91 : UInt8).toNat : Nat) : Int) = 91 from rfl] at hu
         rw [hb, hu, List.head?_eq_getElem?, List.getElem?_eq_getElem hl, Bool.eq_iff_iff]; simp
       · have : p = [] := by
           simp only [gt_iff_lt, dFx] at h
           exact List.length_eq_zero_iff.1 (by omega)
         subst this; rfl
     · refine BCase.of (fun h => ?_) (fun h => ⟨?_, S7⟩)
       · refine callK (ref04_find_ok p [93] (by omega) (by decide) w7) ?_
         rintro _ w8 ⟨rfl, hb8⟩
         have hf := qiB [93] p
         refine ⟨_, rfl, _, run_min_int2 _ _ _ _ _ _ _, ?_, S7.below hb8⟩
         unfold placeE
         rw [if_pos (of_decide_eq_true h), wrap_i64 (by omega) (by omega)]
         omega
       · unfold placeE; rw [if_neg (of_decide_eq_false h)]
   · intro n
     refine AllJ.of ?_ _
     rintro w8 ⟨rfl, S8⟩
     have hpe := qsr p
     refine ⟨⟨by omega, by omega⟩, ?_⟩
     rw [Int.toNat_natCast]
     have hW : qiq p = if p.drop (placeE p) ≠ [] /\ (p.drop (placeE p)).head? ≠ some 58 then none else hostV (p.take (placeE p)) := rfl
     have hcl : (p.take (placeE p)).length <= s.length := by simp; omega
     intro c hc
     rw [<- hc] at hW hcl
     clear hc
     refine callK (ref03_Parse_ok c (by omega) w8) ?_
     rintro _ w9 ⟨rfl, hb9⟩
     have S9 := S8.below hb9
     have hok := qcr fun x hx => jG (s := c) hx
     rw [qat]
     refine ⟨_, _, rfl, ?_⟩
     refine qs.new (zs := hst0.cells) (cs := ((hostV c).getD hst0).cells) rfl (Hst.len hok) (Hst.one _) w9 fun k9 w10 hk9 h9 hb10 => ?_
     have S10 := S9.below hb10
     refine ⟨⟨by omega, by omega⟩, ?_⟩
     have hbl : (p.drop (placeE p)).length <= s.length := by simp; omega
     intro q hq
     rw [<- hq] at hR hW hbl
     clear hq
     -- the host
     refine worldJ (fun w' => w' = w10 /\ ∃ h, hostV c = some h /\ qiq p = some h) ?_ ?_
     · refine qav (w := w10) (decide (qiq p = none)) ?_ ?_
       · have hc : ∀ (c1 : hostV c = none), qiq p = none := fun c1 => by rw [hW, c1]; split <;> rfl
         refine BCase.of (fun h => ⟨rfl, ?_⟩) (fun h => BCase.of (fun h2 => ⟨⟨by decide, by simpa using h2⟩, rfl, ?_⟩) (fun h2 => ⟨rfl, ?_⟩))
         · have : hostV c = none := by
             cases hv : hostV c with
             | none => rfl
             | some x => rw [hv] at h; cases h
           rw [decide_eq_true (hc this)]
         all_goals
           have hv : hostV c ≠ none := fun hv => by rw [hv] at h; cases h
         · have hl : 0 < q.length := by simpa using h2
           have hb := zJ (s := q) (k := 0) hl
           rw [show ((0 : Nat) : Int) = 0 from rfl] at hb
           have hu := qau q[0] 58
           rw [show (((58 : UInt8).toNat : Nat) : Int) = 58 from rfl] at hu
           have hne : q ≠ [] := List.length_pos_iff.1 hl
           have hh : q.head? = some q[0] := by rw [List.head?_eq_getElem?, List.getElem?_eq_getElem hl]
           have e : ((qA q 0) != (58 : Int)) = !(q[0] == 58) := by rw [hb]; show (!_) = _; rw [hu]
           rw [e, hW, hh]
           by_cases c : q[0] = 58
           · rw [if_neg (by rintro ⟨-, hx⟩; exact hx (by rw [c])), decide_eq_false hv, c]; rfl
           · rw [if_pos ⟨hne, fun hx => c (Option.some.inj hx)⟩, beq_eq_false_iff_ne.2 c]; rfl
         · have : q = [] := by
             simp only [gt_iff_lt, dFx] at h2
             exact List.length_eq_zero_iff.1 (by omega)
           rw [hW, if_neg (fun hx => hx.1 this), decide_eq_false hv]
       · refine BCase.of (fun h => ?_) (fun h => ⟨rfl, ?_⟩)
         · exact bad S10 (by rw [hR, of_decide_eq_true h])
         · have hn := of_decide_eq_false h
           cases hw : qiq p with
           | none => exact absurd hw hn
           | some x =>
             refine ⟨x, ?_, rfl⟩
             rw [hW] at hw
             split at hw
             · cases hw
             · exact hw
     · rintro w11 ⟨rfl, h, hv, hw⟩
       rw [hw] at hR
       rw [hv] at h9 hok
       simp only [Option.getD_some] at h9 hok
       refine ⟨_, qs.load0 h9 (Hst.len hok), rfl, ?_⟩
       obtain ⟨w12, hs12, S12⟩ := S10.putH (P := prog) qs hok
       refine ⟨w12, hs12, ?_⟩
       -- the port
       refine worldJ (fun w' => ∃ n, qoH sec q = some n /\ StU w qg k2 k4 ⟨sec, h, n, []⟩ w') ?_ ?_
       · refine BCase.of (fun c1 => ?_) (fun c1 => ?_)
         · have hl : 0 < q.length := by simpa using c1
           refine ⟨⟨by decide, by omega⟩, ?_⟩
           intro d hd
           rw [show Int.toNat 1 = 1 from rfl] at hd
           have hdl : d.length <= q.length := by rw [hd]; simp
           have hP : qoH sec q = if numP d /\ 1 <= decV d /\ decV d <= 65535 then some (decV d) else none := by unfold qoH; rw [if_neg (List.length_pos_iff.1 hl), <- hd]
           refine callK (qgK d (by omega) w12) ?_
           rintro _ w13 ⟨rfl, hw13⟩
           rw [hw13]; clear hw13
           by_cases c2 : numP d
           · rw [if_pos c2]
             refine ⟨_, _, rfl, ?_⟩
             refine qav (w := w12) (decide (¬ (1 <= decV d /\ decV d <= 65535))) ?_ ?_
             · refine BCase.no rfl (BCase.of (fun c3 => ⟨rfl, ?_⟩) (fun c3 => ⟨rfl, ?_⟩))
               · rw [eq_comm, dTx]; simp at c3; omega
               · rw [Bool.eq_iff_iff, dTx, dTx]; simp at c3; omega
             · refine BCase.of (fun c3 => ?_) (fun c3 => ⟨rfl, ?_⟩)
               · rw [dTx] at c3
                 exact bad S12 (by rw [hR, hP, if_neg (fun hx => c3 hx.2)])
               · have c4 : 1 <= decV d /\ decV d <= 65535 := Decidable.not_not.1 (of_decide_eq_false c3)
                 obtain ⟨w14, hs14, S14⟩ := S12.put (P := prog) qbr (i := 19) (v := .int .i64 (decV d)) (by decide) rfl rfl (qo1 S12.ho _) S12.ho
                 exact ⟨w14, hs14, decV d, by rw [hP, if_pos ⟨c2, c4⟩], S14⟩
           · rw [if_neg c2]
             refine ⟨_, _, rfl, ?_⟩
             refine qav (w := w12) true (BCase.yes rfl ⟨rfl, rfl⟩) (BCase.yes rfl ?_)
             exact bad S12 (by rw [hR, hP, if_neg (fun hx => c2 hx.1)])
         · have : q = [] := by
             simp only [gt_iff_lt, dFx] at c1
             exact List.length_eq_zero_iff.1 (by omega)
           exact ⟨_, by unfold qoH; rw [if_pos this], S12⟩
       · rintro w13 ⟨n, hn, S13⟩
         rw [hn] at hR
         refine ⟨⟨by omega, by omega⟩, ?_⟩
         have hxl : (r.drop (findL [47, 63, 35] r)).length <= s.length := by simp; omega
         intro x hx
         rw [<- hx] at hR hxl
         clear hx
         refine ⟨rfl, ?_⟩
         obtain ⟨w14, hs14, S14⟩ := S13.put (P := prog) zl (i := 20) (v := .string (mkS x)) (by decide) rfl rfl (qlv S13.ho _) S13.ho
         refine ⟨w14, hs14, rfl, rfl, ?_⟩
         have S15 : StU w qg k2 k4 ⟨sec, h, n, x⟩ (World.drew w14) := S14.below (zV w14)
         have ld := S15.h4.load1 (P := prog) un_string rfl (qcE S15.ho)
         have hfl := qiB [63, 35] x
         have hW2 : qlD x = if x.take (findL [63, 35] x) = [] then [47] else x.take (findL [63, 35] x) := rfl
         refine ⟨⟨_, ld, _, ld, ?_⟩, _, ld, ⟨_, ld, ?_⟩, ?_⟩
         all_goals
           refine callK (ref04_find_ok x [63, 35] (by omega) (by decide) _) ?_
           rintro _ w16 ⟨rfl, hb16⟩
           have S16 := S15.below hb16
           refine ⟨_, rfl, ?_⟩
           try refine ⟨_, S16.h4.load1 (P := prog) un_string rfl (qcE S16.ho), ?_⟩
           refine ⟨⟨by omega, by show ((findL [63, 35] x : Nat) : Int) <= ((x.length : Nat) : Int); omega⟩, ?_⟩
           rw [Int.toNat_natCast]
           rintro _ rfl
           have hyl : (x.take (findL [63, 35] x)).length <= s.length := by simp; omega
           obtain ⟨w17, hs17, S17⟩ := S16.put (P := prog) zl (i := 20) (v := .string (mkS (x.take (findL [63, 35] x)))) (by decide) rfl rfl (qlv S16.ho _) S16.ho
           refine ⟨rfl, w17, hs17, ?_⟩
           refine worldJ (fun w' => StU w qg k2 k4 ⟨sec, h, n, qlD x⟩ w') ?_ ?_
           · refine ⟨rfl, _, S17.h4.load1 (P := prog) un_string rfl (qcE S17.ho), BCase.of (fun c => ⟨rfl, ?_⟩) (fun c => ?_)⟩
             · obtain ⟨w18, hs18, S18⟩ := S17.put (P := prog) zl (i := 20) (v := .string (mkS [47])) (by decide) rfl rfl (qlv S17.ho _) S17.ho
               have e : qlD x = [47] := by rw [hW2, if_pos (eq_of_beq c)]
               rw [e]
               exact ⟨w18, hs18, S18⟩
             · have e : qlD x = x.take (findL [63, 35] x) := by rw [hW2, if_neg (beq_eq_false_iff_ne.1 c)]
               rw [e]; exact S17
           · intro w18 S18
             have hpw : (qlD x).length <= s.length + 1 := by
               rw [hW2]
               split
               · simp
               · omega
             refine ⟨rfl, _, S18.h4.load1 (P := prog) un_string rfl (qcE S18.ho), ?_⟩
             refine callK (qfl _ (by show (qlD x).length <= _; omega) w18) ?_
             rintro _ w19 ⟨rfl, hw19⟩
             rw [hw19]; clear hw19
             refine ⟨_, rfl, BCase.of (fun c => ?_) (fun c => ?_)⟩
             · exact bad S18 (by rw [hR]; exact if_neg (by rw [Bool.not_eq_true'] at c; rw [show pathB (qlD x) = false from c]; decide))
             · exact fin S18 (by rw [hR]; exact if_pos (by rw [Bool.not_eq_false'] at c; exact c))
end Go.Proofs.YtndbpedpdbjkpaaGreatDoor
namespace Go.Pk
open Go.RowKit (Below)
def domB (h d : Hst) : Bool := zd h && (zd d && (j8 h d || qag h d))
theorem qkf {h : Hst} (hl : (qi h).length ≠ 0) : zd h = true := by
 unfold qi at hl
 split at hl
 · rename_i c; exact c.2
 · exact absurd rfl hl
theorem dom_same {h d : Hst} (oh : h.ok) (od : d.ok) : ((j8 h d && zd h) || qag h d) = domB h d := by
 unfold domB
 by_cases hu : qag h d = true
 · have hd0 : ¬ ((qi d).length = 0 \/ (qi h).length <= (qi d).length) := fun hc => by unfold qag at hu; rw [if_pos hc] at hu; cases hu
   rw [hu, qkf (h := h) (by omega), qkf (h := d) (by omega)]; simp
 · have hu' : qag h d = false := by simpa using hu
   rw [hu', Bool.or_false, Bool.or_false]
   by_cases he : j8 h d = true
   · have := (j7 oh od).1 he
     subst this
     rw [he]; cases zd h <;> rfl
   · have he' : j8 h d = false := by simpa using he
     rw [he']; cases zd h <;> cases zd d <;> rfl
def lastK (s : List UInt8) : Nat -> Nat
 | 0 => 0
 | k + 1 => if s[k]? = some 47 then k else lastK s k
theorem qjl (s : List UInt8) : ∀ k, lastK s k <= k
 | 0 => Nat.le_refl _
 | k + 1 => by
   have := qjl s k
   unfold lastK; split <;> omega
def defV (s : List UInt8) : List UInt8 := if lastK s s.length = 0 \/ s.head? ≠ some 47 then [47] else s.take (lastK s s.length)
theorem qsA (s : List UInt8) : ∀ k, k <= s.length -> (0 < Lib.lastIdx (mkS s) 47 k ↔ lastK s k ≠ 0) /\ (0 < Lib.lastIdx (mkS s) 47 k -> Lib.lastIdx (mkS s) 47 k = (lastK s k : Nat))
 | 0, _ => ⟨by simp [Lib.lastIdx, lastK], by simp [Lib.lastIdx]⟩
 | k + 1, h => by
   have e : (mkS s).data[k]! = s[k]'(by omega) := by
     have : (mkS s).data = s.toArray := rfl
     rw [this, getElem!_pos s.toArray k (by simp; omega)]; simp
   have ih := qsA s k (by omega)
   unfold Lib.lastIdx lastK
   rw [e, List.getElem?_eq_getElem (by omega)]
   by_cases c : s[k]'(by omega) = 47
   · rw [if_pos (by rw [c]; rfl), if_pos (by rw [c])]
     exact ⟨by omega, fun _ => rfl⟩
   · rw [if_neg (fun hx => c (UInt8.toNat_inj.1 (by rw [show (UInt8.toNat 47) = 47 from rfl]; omega))), if_neg (fun hx => c (Option.some.inj hx))]
     exact ih
structure Cky where
 name : List UInt8
 value : List UInt8
 host : Hst
 only : Bool
 path : List UInt8
 sec : Bool
 http : Bool
 same : Int
 exp : Int
 born : Int
 used : Int
 seq : Int
def Cky.tail (c : Cky) : List Value := [.bool c.only, .string (mkS c.path), .bool c.sec, .bool c.http, .int .i64 c.same, .int .i64 c.exp, .int .i64 c.born, .int .i64 c.used, .int .i64 c.seq]
def Cky.cells (c : Cky) : List Value := .string (mkS c.name) :: .string (mkS c.value) :: (c.host.cells ++ c.tail)
def Cky.v (c : Cky) : Value := .agg c.cells.toArray
def cky0 : Cky := ⟨[], [], hst0, false, [], false, false, 0, 0, 0, 0, 0⟩
def Cky.ok (c : Cky) : Prop := c.host.ok
theorem Cky.len {c : Cky} (o : c.ok) : c.cells.length = 29 := by unfold Cky.cells; rw [List.length_cons, List.length_cons, List.length_append, Hst.len o]; rfl
theorem Cky.one (c : Cky) : One1 c.cells := jf rfl (jf rfl (qpC (Hst.one _) (jf rfl (jf rfl (jf rfl (jf rfl (jf rfl (jf rfl (jf rfl (jf rfl (jf rfl qjT)))))))))))
end Go.Pk
namespace Go.Proofs.YtndbpedpdbjkpaaGreatDoor
open Go.Pk
open Go.RowKit (Below)
theorem qlc {h d : Hst} (oh : h.ok) (od : d.ok) (hn : h.name.length <= 1000000000) (dn : d.name.length <= 1000000000) (w : World) (he : Env w) : Calls prog qeS #[h.v, d.v] w (Ret fun v w' => v = .bool (domB h d) /\ Below w.heap.size w w') := by
 rw [<- dom_same oh od]
 apply qkF
 unfold qgx
 intro k2 w2 hk2 hw2
 have hB2 := (hw2 ▸ qf w _ : Below w.heap.size w w2)
 have h2 : qm w2 k2 qc h.cells := qm.new hk2 hw2
 intro k3 w3 hk3 hw3
 have hb3 := (hw3 ▸ qf w2 _ : Below w2.heap.size w2 w3)
 have hB3 := qb hB2 hb3 hB2.size
 have h3 : qm w3 k3 qc d.cells := qm.new hk3 hw3
 have h23 := h2.below hb3
 have und : ∀ wx, Below w3.heap.size w3 wx -> ∃ v13 : Value, (Instr.loadAt qc (.pointer (some ⟨k2, 0, none⟩))).run prog wx = .ok v13 wx /\ ∃ v14 : Value, (Instr.loadAt qc (.pointer (some ⟨k3, 0, none⟩))).run prog wx = .ok v14 wx /\
     Calls prog qdp #[v13, v14] wx fun e15 w15 => ∃ (b15 : Bool), e15 = .returned (.bool b15) /\ ((.bool b15 : Value) = .bool (qag h d) /\ Below w.heap.size w w15) := fun wx hbx => by
   refine ⟨_, qs.load0 (h23.below hbx) (Hst.len oh), _, qs.load0 (h3.below hbx) (Hst.len od), ?_⟩
   have hBx := qb hB3 hbx hB3.size
   refine callK (qow oh od hn dn wx (he.step hBx)) ?_
   rintro _ w4 ⟨rfl, hb4⟩
   exact ⟨_, rfl, rfl, qb hBx hb4 hBx.size⟩
 refine ⟨_, qs.load0 h23 (Hst.len oh), _, qs.load0 h3 (Hst.len od), _, qdn oh od w3, ?_⟩
 refine BCase.of (fun c1 => ?_) (fun c1 => ?_)
 · refine ⟨_, qs.load0 h23 (Hst.len oh), ?_⟩
   refine callK (qfA oh hn w3 (he.step hB3)) ?_
   rintro _ w4 ⟨rfl, hb4⟩
   refine ⟨_, rfl, BCase.of (fun c2 => ⟨by rw [c1, c2]; rfl, qb hB3 hb4 hB3.size⟩) (fun c2 => ?_)⟩
   rw [c1, c2]
   exact und w4 hb4
 · rw [c1]
   exact und w3 (Below.refl _ _)
theorem qkx (s : List UInt8) (hs : s.length < 4611686018427387904) (w : World) : Calls prog qd5 #[.string (mkS s)] w (Ret fun v w' => v = .string (mkS (defV s)) /\ w' = w) := by
 apply qjD
 unfold qf0
 refine (Tryz.strings_LastIndexByte (mkS s) 47 (show s.toArray.size < _ by simpa using hs) w).mono ?_
 rintro _ w' ⟨rfl, hw⟩
 rw [hw]; clear hw
 refine ⟨_, rfl, ?_⟩
 have hK := qsA s s.length (Nat.le_refl _)
 have e : Lib.lastIndexByte (mkS s) 47 = Lib.lastIdx (mkS s) 47 s.length := by unfold Lib.lastIndexByte; rw [show (mkS s).size = s.length from by show s.toArray.size = _; simp]
 rw [e]
 generalize Lib.lastIdx (mkS s) 47 s.length = n at *
 have hle := qjl s s.length
 refine qav (w := w) (decide (¬ (lastK s s.length = 0 \/ s.head? ≠ some 47))) ?_ ?_
 · refine BCase.of (fun h => ?_) (fun h => ⟨rfl, ?_⟩) <;> simp only [gt_iff_lt, dTx, dFx] at h
   · have h0 := hK.1.1 h
     have hl : 0 < s.length := by omega
     have hb := zJ (s := s) (k := 0) hl
     rw [show ((0 : Nat) : Int) = 0 from rfl] at hb
     have hu := qau s[0] 47
     rw [show (((47 : UInt8).toNat : Nat) : Int) = 47 from rfl] at hu
     refine ⟨⟨by decide, by omega⟩, rfl, ?_⟩
     rw [hb, hu, List.head?_eq_getElem?, List.getElem?_eq_getElem hl, Bool.eq_iff_iff]
     simp [h0]
   · have h0 : lastK s s.length = 0 := Decidable.byContradiction fun hc => h (hK.1.2 hc)
     rw [eq_comm, dFx]
     exact fun hc => hc (.inl h0)
 · refine BCase.of (fun h => ?_) (fun h => ⟨?_, rfl⟩)
   · have h := of_decide_eq_true h
     have hn := hK.2 (hK.1.2 fun hc => h (.inl hc))
     subst hn
     refine ⟨⟨by omega, by omega⟩, ?_⟩
     rintro _ rfl
     exact ⟨by unfold defV; rw [if_neg h]; rfl, rfl⟩
   · have h := of_decide_eq_false h
     unfold defV; rw [if_pos (Decidable.not_not.1 h)]
theorem qS : Whl prog qa 29 := ⟨⟨_, _, qnU⟩, by kernel_rfl⟩
end Go.Proofs.YtndbpedpdbjkpaaGreatDoor
namespace Go.Proofs.YtndbpedpdbjkpaaGreatDoor
open Go.Shelf Go.RowKit Go.Lib Go.Pk
variable {P : Program} {ρ : Ren}
abbrev blk : ByteArray := ⟨#[32, 9]⟩
theorem qua {r : Int} (h0 : 128 <= r) (hv : Lib.validRune r = true) : (∃ a b : UInt8, Utf8.encode r = ⟨#[a, b]⟩ /\ b.toNat ≠ 9) \/ (3 <= (Utf8.encode r).size /\ (Utf8.encode r).size <= 4) := by
 have hu : Utf8.valid r = true := by
   unfold Lib.validRune at hv; unfold Utf8.valid
   simp at hv ⊢; omega
 have e : Utf8.encode r = if r.toNat < 0x80 then ⟨#[UInt8.ofNat r.toNat]⟩ else if r.toNat < 0x800 then ⟨#[UInt8.ofNat (0xC0 + r.toNat / 64), UInt8.ofNat (0x80 + r.toNat % 64)]⟩
     else if r.toNat < 0x10000 then ⟨#[UInt8.ofNat (0xE0 + r.toNat / 4096), UInt8.ofNat (0x80 + r.toNat / 64 % 64), UInt8.ofNat (0x80 + r.toNat % 64)]⟩
     else ⟨#[UInt8.ofNat (0xF0 + r.toNat / 262144), UInt8.ofNat (0x80 + r.toNat / 4096 % 64), UInt8.ofNat (0x80 + r.toNat / 64 % 64), UInt8.ofNat (0x80 + r.toNat % 64)]⟩ := by
   unfold Utf8.encode; rw [hu]; rfl
 rw [if_neg (by omega)] at e
 by_cases c1 : r.toNat < 0x800
 · rw [if_pos c1] at e
   exact .inl ⟨_, _, e, by rw [UInt8.toNat_ofNat']; omega⟩
 rw [if_neg c1] at e
 by_cases c2 : r.toNat < 0x10000
 · rw [if_pos c2] at e
   rw [e]; exact .inr (show 3 <= 3 /\ 3 <= 4 by decide)
 · rw [if_neg c2] at e
   rw [e]; exact .inr (show 3 <= 4 /\ 4 <= 4 by decide)
set_option maxHeartbeats 4000000 in
set_option maxRecDepth 1000000 in
theorem qor (L : Lays.n152 P ρ) (r : Int) (w : World) (h0 : 128 <= r) (hne : r ≠ 65533) (hv : Lib.validRune r = false) :
   Calls P (ρ.f 152) #[.string blk, .int .i32 r] w fun e w' => e = .returned (.int .i64 (-1)) /\ ∃ n, w' = w.drewN n := by
 have mixed := L.mixed
 have t3 := L.t3; have a3 := L.a3; have z3 := L.z3; have v3 := L.v3; have u3 := run_underlying L.t3
 have t4 := L.t4; have a4 := L.a4; have z4 := L.z4; have v4 := L.v4; have u4 := run_underlying L.t4
 have t5 := L.t5; have a5 := L.a5; have z5 := L.z5; have v5 := L.v5; have u5 := run_underlying L.t5
 have t9 := L.t9; have a9 := L.a9; have z9 := L.z9; have v9 := L.v9; have u9 := run_underlying L.t9
 have t21 := L.t21; have a21 := L.a21; have z21 := L.z21; have v21 := L.v21; have u21 := run_underlying L.t21
 have e137 : ∀ args w, (callFunc (ρ.f 137) args).run P w = .ok (.enter (ρ.f 137) args) w := enters_of L.f137 (by kernel_rfl) rfl
 have e119 : ∀ args w, (callFunc (ρ.f 119) args).run P w = .ok (.enter (ρ.f 119) args) w := enters_of L.f119 (by kernel_rfl) rfl
 have hr1 : ¬ (r < 128) := by omega
 have hr2 : (r == 65533) = false := beq_eq_false_iff_ne.2 hne
 go_enter L.f152, Body.n152_ntmps ρ
 go_wp2_with (first
   | (go_at_fn (ρ.f 119); refine (Any.utf8_ValidRune { L with } _ _).mono ?_; rintro e w' ⟨rfl, hw⟩; rw [hw, hv])
   | (go_at_fn (ρ.f 137); refine (Any.strings_IndexByte { L with } _ _ _).mono ?_; rintro e w' ⟨rfl, hw⟩; rw [hw]))
 go_ret
 exact ⟨rfl, 0, rfl⟩
set_option maxHeartbeats 4000000 in
set_option maxRecDepth 1000000 in
theorem qm2 (L : Lays.n152 P ρ) (r : Int) (w : World) (h0 : 128 <= r) (hne : r ≠ 65533) (hv : Lib.validRune r = true) (rs : ByteArray) (hrs : Utf8.encode r = rs) (h3 : 3 <= rs.size) (h4 : rs.size <= 4) :
   Calls P (ρ.f 152) #[.string blk, .int .i32 r] w fun e w' => e = .returned (.int .i64 (-1)) /\ ∃ n, w' = w.drewN n := by
 have mixed := L.mixed
 have t3 := L.t3; have a3 := L.a3; have z3 := L.z3; have v3 := L.v3; have u3 := run_underlying L.t3
 have t4 := L.t4; have a4 := L.a4; have z4 := L.z4; have v4 := L.v4; have u4 := run_underlying L.t4
 have t5 := L.t5; have a5 := L.a5; have z5 := L.z5; have v5 := L.v5; have u5 := run_underlying L.t5
 have t9 := L.t9; have a9 := L.a9; have z9 := L.z9; have v9 := L.v9; have u9 := run_underlying L.t9
 have t21 := L.t21; have a21 := L.a21; have z21 := L.z21; have v21 := L.v21; have u21 := run_underlying L.t21
 have e137 : ∀ args w, (callFunc (ρ.f 137) args).run P w = .ok (.enter (ρ.f 137) args) w := enters_of L.f137 (by kernel_rfl) rfl
 have e119 : ∀ args w, (callFunc (ρ.f 119) args).run P w = .ok (.enter (ρ.f 119) args) w := enters_of L.f119 (by kernel_rfl) rfl
 have hr1 : ¬ (r < 128) := by omega
 have hr2 : (r == 65533) = false := beq_eq_false_iff_ne.2 hne
 have hcv := fun w => run_convert_int_string (P := P) w (ρ.t 21) (ρ.t 9) .i32 r (by rw [t21]; rfl) t9
 rw [hrs] at hcv
 have hz : blk.size = 2 := rfl
 go_enter L.f152, Body.n152_ntmps ρ
 go_wp2_with (first
   | (go_at_fn (ρ.f 119); refine (Any.utf8_ValidRune { L with } _ _).mono ?_; rintro e w' ⟨rfl, hw⟩; rw [hw, hv])
   | (go_at_fn (ρ.f 137); refine (Any.strings_IndexByte { L with } _ _ _).mono ?_; rintro e w' ⟨rfl, hw⟩; rw [hw]))
 go_wp2_with (go_at_fn (ρ.f 137); refine (Any.strings_IndexByte { L with } _ _ _).mono ?_; rintro e w' ⟨rfl, hw⟩; rw [hw])
 go_step3
 go_wp2_with (go_at_fn (ρ.f 137); refine (Any.strings_IndexByte { L with } _ _ _).mono ?_; rintro e w' ⟨rfl, hw⟩; rw [hw])
 go_loopg [9, 10, 11, 12] 1 (fun g s9 _ _ _ wx => s9 = .int .i64 ((rs.size : Int) - 1) /\ wx = w)
 case atStart => exact ⟨rfl, rfl⟩
 case round =>
   obtain ⟨rfl, rfl⟩ := hrel
   have hn : ¬ ((rs.size : Int) - 1 < 2) := by omega
   have hn' : ¬ ((rs.size : Int) - 1 < (blk.size : Int)) := by rw [hz]; omega
   go_wp2
   go_ret
   exact ⟨rfl, 0, rfl⟩
set_option maxHeartbeats 4000000 in
set_option maxRecDepth 1000000 in
theorem qmX (L : Lays.n152 P ρ) (r : Int) (w : World) (h0 : 128 <= r) (hne : r ≠ 65533) (hv : Lib.validRune r = true) (a b : UInt8) (hrs : Utf8.encode r = ⟨#[a, b]⟩) (hb : b.toNat ≠ 9) :
   Calls P (ρ.f 152) #[.string blk, .int .i32 r] w fun e w' => e = .returned (.int .i64 (-1)) /\ ∃ n, w' = w.drewN n := by
 have mixed := L.mixed
 have t3 := L.t3; have a3 := L.a3; have z3 := L.z3; have v3 := L.v3; have u3 := run_underlying L.t3
 have t4 := L.t4; have a4 := L.a4; have z4 := L.z4; have v4 := L.v4; have u4 := run_underlying L.t4
 have t5 := L.t5; have a5 := L.a5; have z5 := L.z5; have v5 := L.v5; have u5 := run_underlying L.t5
 have t9 := L.t9; have a9 := L.a9; have z9 := L.z9; have v9 := L.v9; have u9 := run_underlying L.t9
 have t21 := L.t21; have a21 := L.a21; have z21 := L.z21; have v21 := L.v21; have u21 := run_underlying L.t21
 have e137 : ∀ args w, (callFunc (ρ.f 137) args).run P w = .ok (.enter (ρ.f 137) args) w := enters_of L.f137 (by kernel_rfl) rfl
 have e119 : ∀ args w, (callFunc (ρ.f 119) args).run P w = .ok (.enter (ρ.f 119) args) w := enters_of L.f119 (by kernel_rfl) rfl
 have hr1 : ¬ (r < 128) := by omega
 have hr2 : (r == 65533) = false := beq_eq_false_iff_ne.2 hne
 have hcv := fun w => run_convert_int_string (P := P) w (ρ.t 21) (ρ.t 9) .i32 r (by rw [t21]; rfl) t9
 rw [hrs] at hcv
 have hz : blk.size = 2 := rfl
 go_enter L.f152, Body.n152_ntmps ρ
 go_wp2_with (first
   | (go_at_fn (ρ.f 119); refine (Any.utf8_ValidRune { L with } _ _).mono ?_; rintro e w' ⟨rfl, hw⟩; rw [hw, hv])
   | (go_at_fn (ρ.f 137); refine (Any.strings_IndexByte { L with } _ _ _).mono ?_; rintro e w' ⟨rfl, hw⟩; rw [hw]))
 go_wp2_with (go_at_fn (ρ.f 137); refine (Any.strings_IndexByte { L with } _ _ _).mono ?_; rintro e w' ⟨rfl, hw⟩; rw [hw])
 go_step3
 go_wp2_with (go_at_fn (ρ.f 137); refine (Any.strings_IndexByte { L with } _ _ _).mono ?_; rintro e w' ⟨rfl, hw⟩; rw [hw])
 go_loopg [9, 10, 11, 12] 1 (fun g s9 _ _ _ wx => s9 = .int .i64 1 /\ wx = w)
 case atStart => exact ⟨rfl, rfl⟩
 case round =>
   obtain ⟨rfl, rfl⟩ := hrel
   have hw2 : i64.wrap 2 = 2 := by decide
   have hix : ∀ x, Lib.indexByte [] x = -1 := fun _ => rfl
   have hb1 : ((9 : Int) == (b.toNat : Int)) = false := beq_eq_false_iff_ne.2 (by omega)
   go_wp2_with (go_at_fn (ρ.f 137); refine (Any.strings_IndexByte { L with } _ _ _).mono ?_; rintro e w' ⟨rfl, hw⟩; rw [hw])
   go_step3
   go_wp2
   go_quiet_o (fail)
   go_wp2
   go_quiet_o (exact (Any.strings_IndexByte { L with } _ _ _).mono fun e w' h => ⟨h.1, _, h.2⟩)
   go_wp2
   change bodyPost P (Body.n152 ρ) (fun e w' => e = Ending.returned (Value.int i64 (-1)) /\ ∃ n, w' = wr.drewN n) Exit.ret _ _
   go_ret
   exact ⟨rfl, _, rfl⟩
   exfalso
   have hx : ((9 : Int) != (b.toNat : Int)) = false := by assumption
   simp at hx
   omega
set_option maxHeartbeats 4000000 in
set_option maxRecDepth 1000000 in
theorem qoq (L : Lays.n152 P ρ) (w : World) :
   Calls P (ρ.f 152) #[.string blk, .int .i32 65533] w fun e w' => e = .returned (.int .i64 (-1)) /\ Below w.heap.size w w' := by
 have mixed := L.mixed
 have t3 := L.t3; have a3 := L.a3; have z3 := L.z3; have v3 := L.v3; have u3 := run_underlying L.t3
 have t4 := L.t4; have a4 := L.a4; have z4 := L.z4; have v4 := L.v4; have u4 := run_underlying L.t4
 have t9 := L.t9; have a9 := L.a9; have z9 := L.z9; have v9 := L.v9; have u9 := run_underlying L.t9
 have t21 := L.t21; have a21 := L.a21; have z21 := L.z21; have v21 := L.v21; have u21 := run_underlying L.t21
 go_enter L.f152, Body.n152_ntmps ρ
 go_wp2
 go_loopg [5, 6] 2 (fun g _ _ wx => ∃ i : Nat, i + g = 2 /\ wx = w.iter blk i)
 case atStart => exact ⟨0, rfl, rfl⟩
 case round =>
   obtain ⟨i, hig, rfl⟩ := hrel
   match i, hig with
   | 2, hig =>
     have hnx := run_next_end (P := P) w blk 2
     go_wp2
     go_ret
     exact ⟨rfl, (Below.refl _ _).alloc (Nat.le_refl _) _⟩
   | 0, hig =>
     have hnx : ∀ ty, (Instr.next (.pointer (some ⟨w.heap.size, 0, none⟩)) true ty).run P (w.iter blk 0) = .ok (.tuple #[.bool true, .int .i64 0, .int .i32 32]) (w.iter blk 1) := fun ty => run_next_ascii (P := P) w blk 0 ty (by decide) (by decide)
     go_wp2
     go_roundg 1
     case measure => omega
     case rel => exact ⟨1, rfl, rfl⟩
   | 1, hig =>
     have hnx : ∀ ty, (Instr.next (.pointer (some ⟨w.heap.size, 0, none⟩)) true ty).run P (w.iter blk 1) = .ok (.tuple #[.bool true, .int .i64 1, .int .i32 9]) (w.iter blk 2) := fun ty => run_next_ascii (P := P) w blk 1 ty (by decide) (by decide)
     go_wp2
     go_roundg 0
     case measure => omega
     case rel => exact ⟨2, rfl, rfl⟩
   | n + 3, hig => exact absurd hig (by omega)
theorem qod (L : Lays.n152 P ρ) (r : Int) (w : World) (h0 : 128 <= r) :
   Calls P (ρ.f 152) #[.string blk, .int .i32 r] w fun e w' => e = .returned (.int .i64 (-1)) /\ Below w.heap.size w w' := by
 have dn : ∀ n, Below w.heap.size w (w.drewN n) := fun n => ⟨rfl, rfl, rfl, Nat.le_refl _, fun _ _ => rfl⟩
 by_cases he : r = 65533
 · rw [he]; exact qoq L w
 cases hv : Lib.validRune r with
 | false => exact (qor L r w h0 he hv).mono fun e w' ⟨h1, n, h2⟩ => ⟨h1, h2 ▸ dn n⟩
 | true =>
   rcases qua h0 hv with ⟨a, b, hab, hb⟩ | ⟨h3, h4⟩
   · exact (qmX L r w h0 he hv a b hab hb).mono fun e w' ⟨h1, n, h2⟩ => ⟨h1, h2 ▸ dn n⟩
   · exact (qm2 L r w h0 he hv _ rfl h3 h4).mono fun e w' ⟨h1, n, h2⟩ => ⟨h1, h2 ▸ dn n⟩
theorem qrp (s : ByteArray) (i : Nat) (h : i < s.size) (hb : 128 <= (s[i]'h).toNat) :
   128 <= (Utf8.decode s i).1 /\ 1 <= (Utf8.decode s i).2 /\ i + (Utf8.decode s i).2 <= s.size /\ ∀ j, i <= j -> (hj : j < i + (Utf8.decode s i).2) -> ∀ hs : j < s.size, 128 <= (s[j]'hs).toNat := by
 have hg : ∀ k (hk : k < s.size), s.get! k = s[k]'hk := fun k hk => by
   simp [ByteArray.get!, getElem!_pos, hk]; rfl
 unfold Utf8.decode
 have e0 : (s.get! (i + 0)).toNat = (s[i]'h).toNat := by rw [Nat.add_zero, hg i h]
 simp only [e0]
 rw [if_neg (by omega)]
 have one : ∀ j, i <= j -> j < i + 1 -> ∀ hs : j < s.size, 128 <= (s[j]'hs).toNat := fun j h1 h2 hs => by
   have : j = i := by omega
   subst this; exact hb
 have cont : ∀ k, (decide (i + k < s.size) && (s.get! (i + k)).toNat / 64 == 2) = true -> ∃ hk : i + k < s.size, 128 <= (s[i + k]'hk).toNat := fun k hc => by
   simp only [Bool.and_eq_true, dTx, beq_iff_eq] at hc
   refine ⟨hc.1, ?_⟩
   have := hc.2
   rw [hg _ hc.1] at this
   omega
 have bad : 128 <= Utf8.runeError := by decide
 split
 · rename_i hc
   rw [Bool.and_eq_true] at hc
   obtain ⟨k1, b1⟩ := cont 1 hc.2
   split
   · rename_i hc2
     refine ⟨hc2, show 1 <= 2 by decide, by show i + 2 <= _; omega, fun j h1 h2 hs => ?_⟩
     have h2 : j < i + 2 := h2
     have : j = i \/ j = i + 1 := by omega
     rcases this with rfl | rfl
     · exact hb
     · exact b1
   · exact ⟨bad, by decide, by show i + 1 <= _; omega, one⟩
 split
 · rename_i hc
   rw [Bool.and_eq_true, Bool.and_eq_true] at hc
   obtain ⟨k1, b1⟩ := cont 1 hc.1.2
   obtain ⟨k2, b2⟩ := cont 2 hc.2
   split
   · rename_i hc2
     rw [Bool.and_eq_true, dTx] at hc2
     refine ⟨by show 128 <= _; omega, show 1 <= 3 by decide, by show i + 3 <= _; omega, fun j h1 h2 hs => ?_⟩
     have h2 : j < i + 3 := h2
     have : j = i \/ j = i + 1 \/ j = i + 2 := by omega
     rcases this with rfl | rfl | rfl
     · exact hb
     · exact b1
     · exact b2
   · exact ⟨bad, by decide, by show i + 1 <= _; omega, one⟩
 split
 · rename_i hc
   rw [Bool.and_eq_true, Bool.and_eq_true, Bool.and_eq_true] at hc
   obtain ⟨k1, b1⟩ := cont 1 hc.1.1.2
   obtain ⟨k2, b2⟩ := cont 2 hc.1.2
   obtain ⟨k3, b3⟩ := cont 3 hc.2
   split
   · rename_i hc2
     rw [Bool.and_eq_true, dTx] at hc2
     refine ⟨by show 128 <= _; omega, show 1 <= 4 by decide, by show i + 4 <= _; omega, fun j h1 h2 hs => ?_⟩
     have h2 : j < i + 4 := h2
     have : j = i \/ j = i + 1 \/ j = i + 2 \/ j = i + 3 := by omega
     rcases this with rfl | rfl | rfl | rfl
     · exact hb
     · exact b1
     · exact b2
     · exact b3
   · exact ⟨bad, by decide, by show i + 1 <= _; omega, one⟩
 · exact ⟨bad, by decide, by show i + 1 <= _; omega, one⟩
set_option maxHeartbeats 8000000 in
set_option maxRecDepth 1000000 in
theorem qmD (L : Lays.n153 P ρ) (s : ByteArray) (w : World) (h8 : s.size <= 8) :
   Calls P (ρ.f 153) #[.string s, .string blk] w fun e w' => e = .returned (.int .i64 (Lib.indexAny s.data.toList [32, 9])) /\ Below w.heap.size w w' := by
 have hemp : blk.toList.isEmpty = false := by rw [Lib.toList_data]; rfl
 have hz : blk.size = 2 := rfl
 have h8z : decide ((8 : Int) < (s.size : Int)) = false := decide_eq_false (by omega)
 have t3 := L.t3; have a3 := L.a3; have z3 := L.z3; have v3 := L.v3
 have t4 := L.t4; have a4 := L.a4; have z4 := L.z4; have v4 := L.v4
 have t5 := L.t5; have a5 := L.a5; have z5 := L.z5; have v5 := L.v5
 have t9 := L.t9; have a9 := L.a9; have z9 := L.z9; have v9 := L.v9
 have t21 := L.t21; have a21 := L.a21; have z21 := L.z21; have v21 := L.v21
 have e152 : ∀ args w, (callFunc (ρ.f 152) args).run P w = .ok (.enter (ρ.f 152) args) w := enters_of L.f152 (by kernel_rfl) rfl
 have e226 : ∀ args w, (callFunc (ρ.f 226) args).run P w = .ok (.enter (ρ.f 226) args) w := enters_of L.f226 (by kernel_rfl) rfl
 have L152 : Lays.n152 P ρ := { L with }
 go_enter L.f153, Body.n153_ntmps ρ
 go_wp2_with (go_at_fn (ρ.f 226); refine (Any.strings_shouldUseASCIISet { L with } _ _).mono ?_; rintro e w' ⟨rfl, hw⟩; rw [hw, h8z])
 go_loopg [9, 10] s.size (fun g _ _ wx => ∃ i : Nat, i + g = s.size /\ wx.heap[w.heap.size]? = some (.stringIter s i) /\ Below w.heap.size w wx /\ Lib.NoAny s.data.toList [32, 9] i)
 case atStart => exact ⟨0, by omega, World.iter_heap w s 0, (Below.refl _ _).alloc (Nat.le_refl _) _, Lib.NoAny.zero _ _⟩
 case round =>
   obtain ⟨i, hig, hit, hB, hno⟩ := hrel
   have HN : Aside (Lib.NoAny s.data.toList [32, 9] i) := hno
   clear hno
   by_cases hi : i < s.size
   · obtain ⟨x, hx⟩ : ∃ x : UInt8, s[i]'hi = x := ⟨_, rfl⟩
     have hxl : s.data.toList[i]? = some x := by rw [<- hx]; exact Lib.data_getElem? s i hi
     by_cases hx128 : x.toNat < 128
     · have hnx := fun ty => run_next_ascii_at (P := P) wr w.heap.size s i ty hit hi (by rw [hx]; exact hx128)
       rw [hx] at hnx
       have hit2 := iterAt_heap wr w.heap.size s i (i + 1) hit
       have hB2 := below_iterAt hB (Nat.le_refl w.heap.size) s (i + 1)
       have Hx : Aside (s.data.toList[i]? = some x) := hxl
       clear hxl hx hit
       have hcon := Lib.contains_iff_indexByte [32, 9] x
       have hback : ((x.toNat : Int)).toNat.toUInt8 = x := by simp
       cases hin : ([32, 9] : List UInt8).contains x
       · rw [hin] at hcon
         have hlt : ¬ ((0 : Int) <= Lib.indexByte [32, 9] x) := of_decide_eq_false hcon.symm
         clear hcon
         generalize hgw : wr.iterAt w.heap.size s (i + 1) = wi at *
         go_wp2_with (go_at_fn (ρ.f 152); refine (Any.strings_IndexRune_ascii { L with } _ _ _ (by omega) (by omega)).mono ?_; rintro e w' ⟨rfl, hw⟩; rw [hw, hback])
         go_roundg (s.size - (i + 1))
         case measure => omega
         case rel => exact ⟨i + 1, by omega, hit2, hB2, HN.out.succ Hx.out hin⟩
       · rw [hin] at hcon
         have hge : (0 : Int) <= Lib.indexByte [32, 9] x := of_decide_eq_true hcon.symm
         clear hcon
         generalize hgw : wr.iterAt w.heap.size s (i + 1) = wi at *
         go_wp2_with (go_at_fn (ρ.f 152); refine (Any.strings_IndexRune_ascii { L with } _ _ _ (by omega) (by omega)).mono ?_; rintro e w' ⟨rfl, hw⟩; rw [hw, hback])
         go_ret
         exact ⟨by rw [Lib.indexAny_hit HN.out Hx.out hin]; rfl, hB2⟩
     · have hd := qrp s i hi (by rw [hx]; omega)
       have hnx := fun ty => run_next_any_at (P := P) wr w.heap.size s i ty hit hi
       have hit2 := iterAt_heap wr w.heap.size s i (i + (Utf8.decode s i).2) hit
       have hB2 := below_iterAt hB (Nat.le_refl w.heap.size) s (i + (Utf8.decode s i).2)
       generalize hgw : wr.iterAt w.heap.size s (i + (Utf8.decode s i).2) = wi at *
       generalize Utf8.decode s i = cn at *
       obtain ⟨c, n⟩ := cn
       obtain ⟨d1, d2, d3, d4⟩ := hd
       simp only at d1 d2 d3 d4 hnx hit2
       have hL := qod L152 (c : Int) wi (by omega)
       have HD : Aside (∀ j, i <= j -> (hj : j < i + n) -> ∀ hs : j < s.size, 128 <= (s[j]'hs).toNat) := d4
       clear d4 hx hxl hit
       go_wp2_with (go_at_fn (ρ.f 152); refine hL.mono ?_; rintro e w' ⟨rfl, hw⟩)
       go_roundg (s.size - (i + n))
       case measure => omega
       case rel =>
         rename_i hw
         refine ⟨i + n, by omega, ?_, qb hB2 hw hB2.size, ?_⟩
         · rw [hw.block _ (Array.getElem?_eq_some_iff.1 hit2).1]; exact hit2
         · intro j b hj hjb
           by_cases hji : j < i
           · exact HN.out j b hji hjb
           · have hjs : j < s.size := by omega
             have h1 := HD.out j (by omega) hj hjs
             have h2 : s.data.toList[j]? = some (s[j]'hjs) := Lib.data_getElem? s j hjs
             rw [h2] at hjb
             rw [Option.some.inj hjb] at h1
             rw [Bool.eq_false_iff]
             intro hc
             simp at hc
             rcases hc with rfl | rfl
             · exact absurd h1 (by decide)
             · exact absurd h1 (by decide)
   · have hnx := fun ty => run_next_end_at (P := P) wr w.heap.size s i ty hit hi
     go_wp2
     go_ret
     have e : i = s.size := by omega
     have hno := HN.out
     rw [e] at hno
     exact ⟨by rw [Lib.indexAny_none (by rw [<- Lib.size_eq]; exact hno)]; rfl, hB⟩
theorem qjC (s : List UInt8) (hs : s.length < 4294967281) (w : World) :
   Calls prog qet #[.string (mkS s), .string (mkS [32, 9])] w (Ret fun v w' => v = .int .i64 (Lib.indexAny s [32, 9]) /\ Below w.heap.size w w') := by
 have hsz : (mkS s).size = s.length := by show s.toArray.size = _; simp
 by_cases h8 : (mkS s).size <= 8
 · exact (qmD Tryz.lays153 (mkS s) w h8).mono fun e w' ⟨h1, h2⟩ => ⟨_, h1, rfl, h2⟩
 · have hi : (prog.info? (Tryz.lays153_ren.t 116)).map (fun i => (i.zero, i.size)) = some (some (.agg (Array.replicate 256 (.bool false))), 256) := by kernel_rfl
   refine (Any.strings_IndexAny_long Tryz.lays153 (zero_of_info hi).1 (zero_of_info hi).2 (mkS s) blk w (by decide) (by omega) (by rw [hsz]; exact hs) (by decide) ?_).mono fun e w' ⟨h1, h2⟩ => ⟨_, h1, rfl, ?_⟩
   · intro j b hb
     match j, hb with
     | 0, hb => cases hb; decide
     | 1, hb => cases hb; decide
   · rw [h2]
     exact ((Below.refl _ _).alloc (Nat.le_refl _) _).alloc (by simp) _
end Go.Proofs.YtndbpedpdbjkpaaGreatDoor
namespace Go.Pk
open Go.RowKit (Below)
abbrev Rul := Int × List UInt8
def markL (k : Int) : List UInt8 := if k = 2 then [42, 46] else if k = 3 then [33] else []
def ruleX (r : Rul) : List UInt8 := markL r.1 ++ r.2
def qaB (s : List UInt8) : List UInt8 := s.takeWhile fun c => !isBl c
def qcF (u : List UInt8) : Rul := if Lib.hasPrefix u [42, 46] = true then (2, u.drop 2) else if Lib.hasPrefix u [33] = true then (3, u.drop 1) else (1, u)
def qox (k : Int) (o : Option Hst) : Rul × Bool × Int := match o with
 | none => ((0, []), false, 51)
 | some h => if h.kind = 1 /\ ¬ (k = 3 /\ (qi h).length < 2) then ((k, h.name), true, 0) else ((0, []), false, 51)
def jB (s : List UInt8) : Rul × Bool × Int :=
 if zt s = [] \/ Lib.hasPrefix (zt s) [47, 47] = true then ((0, []), false, 0) else qox (qcF (qaB (zt s))).1 (hostV (qcF (qaB (zt s))).2)
def rulC (r : Rul) : List Value := [.int .i64 r.1, .string (mkS r.2)]
def rulV (r : Rul) : Value := .agg (rulC r).toArray
def quK (x : Rul × Bool × Int) : Value := .tuple #[rulV x.1, .bool x.2.1, .int .i64 x.2.2]
def qnJ (r q : Rul) : Bool := (r.1 == q.1) && ((r.2 == q.2) && true)
theorem qrL (r q : Rul) : qnJ r q = true ↔ r = q := by
 unfold qnJ
 rw [Bool.and_eq_true, Bool.and_true, beq_iff_eq, beq_iff_eq]
 exact ⟨fun h => Prod.ext h.1 h.2, fun h => by rw [h]; exact ⟨rfl, rfl⟩⟩
def rulR (r : Rul) : Bool := ((jB (ruleX r)).2.2 == 0) && ((jB (ruleX r)).2.1 && qnJ (jB (ruleX r)).1 r)
theorem qtf (c : UInt8) : ([32, 9] : List UInt8).contains c = isBl c := by
 unfold isBl
 rw [Bool.eq_iff_iff]; simp
theorem qr7 : ∀ s : List UInt8, (0 <= Lib.indexAny s [32, 9] -> (Lib.indexAny s [32, 9]).toNat <= s.length /\ s.take (Lib.indexAny s [32, 9]).toNat = qaB s) /\ (¬ 0 <= Lib.indexAny s [32, 9] -> qaB s = s)
 | [] => ⟨fun h => absurd h (by decide), fun _ => rfl⟩
 | c :: s => by
   have ih := qr7 s
   unfold Lib.indexAny qaB
   rw [qtf, List.takeWhile_cons]
   cases hb : isBl c with
   | true => exact ⟨fun _ => ⟨by simp, by simp⟩, fun h => absurd (show (0 : Int) <= 0 by decide) h⟩
   | false =>
     simp only [Bool.not_false, if_true, Bool.false_eq_true, if_false]
     have hge := Lib.indexAny_ge [32, 9] s
     generalize Lib.indexAny s [32, 9] = n at *
     by_cases hn : n = -1
     · subst hn
       exact ⟨fun h => absurd h (by decide), fun _ => by rw [show s.takeWhile (fun c => !isBl c) = s from ih.2 (by decide)]⟩
     · have h0 : 0 <= n := by omega
       rw [if_neg (by simpa using hn)]
       obtain ⟨k, rfl⟩ := Int.eq_ofNat_of_zero_le h0
       refine ⟨fun _ => ?_, fun h => absurd (show (0 : Int) <= (k : Int) + 1 by omega) h⟩
       have e : ((k : Int) + 1).toNat = k + 1 := by omega
       have h1 := ih.1 h0
       rw [Int.toNat_natCast] at h1
       rw [e, List.take_succ_cons, h1.2]
       exact ⟨by simp; omega, rfl⟩
theorem qiz (s : List UInt8) : (zt s).length <= s.length := qjV _ _
theorem qiT (s : List UInt8) : (qaB s).length <= s.length := jz _ _
theorem qta (s : List UInt8) : (qcF s).2.length <= s.length := by
 unfold qcF; split
 · simp
 split
 · simp
 · exact Nat.le_refl _
theorem qah {s : List UInt8} {h : Hst} (e : hostV s = some h) : h.name.length <= 253 := by
 unfold hostV at e
 split at e
 · split at e
   · cases hv : v6A ((s.drop 1).take (s.length - 2)) with
     | none => rw [hv] at e; cases e
     | some a => rw [hv] at e; cases e; exact Nat.zero_le _
   · cases e
 split at e
 · cases hv : v4V s with
   | none => rw [hv] at e; cases e
   | some a => rw [hv] at e; cases e; exact Nat.zero_le _
 split at e
 · rename_i h1; cases e; simp only [lowL, List.length_map]; exact h1.1
 · cases e
end Go.Pk
namespace Go.Proofs.YtndbpedpdbjkpaaGreatDoor
open Go.Pk
open Go.RowKit (Below)
theorem zx : Whl prog ql 2 := ⟨⟨_, _, qlr⟩, by kernel_rfl⟩
theorem qbI (r : Rul) : One1 (rulC r) := jf rfl (jf rfl qjT)
theorem qrD : prog.eqGuardType prog.depth ql = false := by kernel_rfl
theorem qus (r q : Rul) : eqV prog 10000 ql (rulV r) (rulV q) = some (qnJ r q) := by
 obtain ⟨a, b⟩ := r
 obtain ⟨c, d⟩ := q
 kernel_rfl
theorem qqV (r q : Rul) {x y : Operand} (w : World) : ((do eqGuard .eql ql x y (rulV r) (rulV q); binOp .eql ql (rulV r) (rulV q) : Sem Value)).run prog w = .ok (.bool (qnJ r q)) w :=
 qqz qrD (qus r q) w
theorem quT (s p : List UInt8) (w : World) : Calls prog qbg #[.string (mkS s), .string (mkS p)] w (Ret fun v w' => v = .bool (Lib.hasPrefix s p) /\ w' = w) :=
 (Tryz.strings_HasPrefix (mkS s) (mkS p) w).mono fun e w' ⟨h1, h2⟩ => ⟨_, h1, rfl, h2⟩
theorem qr3 (s p : List UInt8) (w : World) : Calls prog jj #[.string (mkS s), .string (mkS p)] w (Ret fun v w' => v = .tuple #[.string (mkS (Lib.trimPrefix s p)), .bool (Lib.hasPrefix s p)] /\ w' = w) :=
 (Tryz.strings_CutPrefix (mkS s) (mkS p) w).mono fun e w' ⟨h1, h2⟩ => ⟨_, h1, rfl, h2⟩
theorem qgj (k : Int) (w : World) : Calls prog qfv #[.int .i64 k] w (Ret fun v w' => v = .string (mkS (markL k)) /\ w' = w) := by
 apply qnV
 unfold qj5 markL
 refine BCase.of (fun h => ⟨by rw [if_pos (eq_of_beq h)], rfl⟩) (fun h => ?_)
 rw [if_neg (beq_eq_false_iff_ne.1 h)]
 exact BCase.of (fun h => ⟨by rw [if_pos (eq_of_beq h)], rfl⟩) (fun h => ⟨by rw [if_neg (beq_eq_false_iff_ne.1 h)], rfl⟩)
theorem qmF (u : List UInt8) (w : World) : Calls prog qfx #[.string (mkS u)] w (Ret fun v w' => v = .tuple #[.int .i64 (qcF u).1, .string (mkS (qcF u).2)] /\ w' = w) := by
 apply qlR
 unfold qhP
 refine ⟨fun m i w' => w' = w /\ (m = 2 /\ i = 0 \/ m = 1 /\ i = 1 /\ ¬ Lib.hasPrefix u [42, 46] = true \/ m = 0 /\ i = 2 /\ ¬ Lib.hasPrefix u [42, 46] = true /\ ¬ Lib.hasPrefix u [33] = true), ⟨2, rfl, .inl ⟨rfl, rfl⟩⟩, ?_⟩
 intro m i
 refine AllJ.of ?_ _
 rintro w' ⟨hw', h⟩
 rw [hw']; clear hw'
 rcases h with ⟨rfl, rfl⟩ | ⟨rfl, rfl, h1⟩ | ⟨rfl, rfl, h1, h2⟩
 · refine BCase.yes (by decide) ⟨2, by kernel_rfl, ?_⟩
   refine callK (qgj 2 w) ?_
   rintro _ w1 ⟨rfl, hw1⟩
   rw [hw1]; clear hw1
   refine ⟨_, rfl, ?_⟩
   refine callK (qr3 u (markL 2) w) ?_
   rintro _ w1 ⟨rfl, hw1⟩
   rw [hw1]; clear hw1
   refine ⟨_, _, rfl, ?_⟩
   show BCase (Lib.hasPrefix u [42, 46]) _ _
   refine BCase.of (fun h => ⟨?_, rfl⟩) (fun h => ⟨1, by decide, rfl, .inr (.inl ⟨rfl, rfl, by rw [h]; decide⟩)⟩)
   have e : Lib.trimPrefix u (markL 2) = u.drop 2 := by exact if_pos h
   unfold qcF; rw [if_pos h, e]
 · refine BCase.yes (by decide) ⟨3, by kernel_rfl, ?_⟩
   refine callK (qgj 3 w) ?_
   rintro _ w1 ⟨rfl, hw1⟩
   rw [hw1]; clear hw1
   refine ⟨_, rfl, ?_⟩
   refine callK (qr3 u (markL 3) w) ?_
   rintro _ w1 ⟨rfl, hw1⟩
   rw [hw1]; clear hw1
   refine ⟨_, _, rfl, ?_⟩
   show BCase (Lib.hasPrefix u [33]) _ _
   refine BCase.of (fun h => ⟨?_, rfl⟩) (fun h => ⟨0, by decide, rfl, .inr (.inr ⟨rfl, rfl, h1, by rw [h]; decide⟩)⟩)
   have e : Lib.trimPrefix u (markL 3) = u.drop 1 := by exact if_pos h
   unfold qcF; rw [if_neg h1, if_pos h, e]
 · exact BCase.no (by decide) ⟨by unfold qcF; rw [if_neg h1, if_neg h2], rfl⟩
theorem qpc (r : Rul) (hr : r.2.length <= 4611686018427387904) (w : World) : Calls prog qh0 #[rulV r] w (Ret fun v w' => v = .string (mkS (ruleX r)) /\ Below w.heap.size w w') := by
 obtain ⟨k, n⟩ := r
 apply qnt
 unfold qka
 intro k1 w1 hk1 hw1
 have hB1 := (hw1 ▸ qf w _ : Below w.heap.size w w1)
 have h1 : qm w1 k1 ql (rulC (k, n)) := qm.new hk1 hw1
 have hm : (markL k).length <= 2 := by unfold markL; split; decide; split; decide; decide
 refine ⟨rfl, k, fun u hu => (h1.below hu).load1 qN rfl rfl, markL k, fun u hu => ?_, rfl, n, fun u hu => (h1.below hu).load1 un_string rfl rfl, fits (by simp at hr; omega), ?_⟩
 · refine zj ?_ hu
   exact (qgj k u).mono fun e w' ⟨v, h1, h2, h3⟩ => ⟨v, h1, h2, h3 ▸ Below.refl _ _⟩
 rintro _ rfl wq hq
 exact ⟨rfl, qb hB1 hq hB1.size⟩
def qkM (s : List UInt8) (w : World) (v : Value) (w' : World) : Prop := v = quK (jB s) /\ Below w.heap.size w w'
theorem qdz (r : Rul) {w w' : World} {k2 : Nat} {vs : List Value} (h2 : qm w' k2 ql vs) (hl : vs.length = 2) (hb : Below w.heap.size w w') (hk : w.heap.size <= k2) {b : Bool} {e : Int} {K : Value -> World -> Prop}
   (hK : ∀ wx, Below w.heap.size w wx -> K (quK (r, b, e)) wx) :
   ∃ (wx : World), (Instr.storeAt ql (.pointer (some ⟨k2, 0, none⟩)) (rulV r)).run prog w' = .ok () wx /\
     ∃ (n0 : Int) (s1 : List UInt8), (qC ql (.pointer (some ⟨k2, 0, none⟩))).run prog wx = .ok (.agg #[.int .i64 n0, .string (mkS s1)]) wx /\
       K (.tuple #[.agg #[.int .i64 n0, .string (mkS s1)], .bool b, .int .i64 e]) wx := by
 obtain ⟨wx, hs, h3, hg⟩ := zx.store0 (cs := rulC r) rfl (qbI r) h2 hl
 exact ⟨wx, hs, r.1, r.2, qm.res (zx.load0 h3 rfl), hK wx (Below.put hb hg hk)⟩
theorem qoY (s : List UInt8) (hs : s.length <= 2000000000) (w : World) (he : Env w) : Calls prog qif #[.string (mkS s)] w (Ret (qkM s w)) := by
 apply qoj
 unfold qj7
 intro k2 w2 hk2 hw2
 have hB2 := (hw2 ▸ qf w _ : Below w.heap.size w w2)
 have h2 : qm w2 k2 ql (rulC (0, [])) := qm.new hk2 hw2
 have hk2w : w.heap.size <= k2 := by omega
 have tl := qiz s
 refine callK (qdG s (by omega) w2) ?_
 rintro _ w3 ⟨rfl, hb3⟩
 have hB3 := qb hB2 hb3 hB2.size
 have h23 := h2.below hb3
 refine ⟨_, rfl, ?_⟩
 have hV : jB s = if zt s = [] \/ Lib.hasPrefix (zt s) [47, 47] = true then ((0, []), false, 0) else qox (qcF (qaB (zt s))).1 (hostV (qcF (qaB (zt s))).2) := rfl
 generalize zt s = t at *
 refine factJ (w := w3) (¬ (t = [] \/ Lib.hasPrefix t [47, 47] = true)) ?_ (fun hc => ?_)
 · refine qav (w := w3) (decide (t = [] \/ Lib.hasPrefix t [47, 47] = true)) ?_ ?_
   · refine BCase.of (fun h => ⟨rfl, by rw [decide_eq_true (.inl (eq_of_beq h))]⟩) (fun h => ?_)
     refine callK (quT t [47, 47] w3) ?_
     rintro _ w4 ⟨rfl, hw4⟩
     refine ⟨_, rfl, hw4, ?_⟩
     rw [Bool.eq_iff_iff, dTx]
     exact ⟨.inr, fun hx => hx.elim (fun hx => absurd hx (beq_eq_false_iff_ne.1 h)) id⟩
   · refine BCase.of (fun h => ?_) (fun h => ⟨rfl, of_decide_eq_false h⟩)
     exact qdz (0, []) h23 rfl hB3 hk2w fun wx hb => ⟨by rw [hV, if_pos (of_decide_eq_true h)], hb⟩
 · rw [if_neg hc] at hV
   have hu := qr7 t
   have hul := qiT t
   refine ⟨fun u w' => u = qaB t /\ Below w3.heap.size w3 w', ?_, ?_⟩
   · refine callK (qjC t (by omega) w3) ?_
     rintro _ w4 ⟨rfl, hb4⟩
     refine ⟨_, rfl, BCase.of (fun h => ?_) (fun h => ?_)⟩
     · have h := of_decide_eq_true h
       refine ⟨⟨h, by have := (hu.1 h).1; omega⟩, ?_⟩
       rintro _ rfl
       exact ⟨(hu.1 h).2, hb4⟩
     · exact ⟨(hu.2 (of_decide_eq_false h)).symm, hb4⟩
   · intro u
     refine AllJ.of ?_ _
     rintro w4 ⟨rfl, hb4⟩
     have hB4 := qb hB3 hb4 hB3.size
     have h24 := h23.below hb4
     refine callK (qmF (qaB t) w4) ?_
     rintro _ w5 ⟨rfl, hw5⟩
     rw [hw5]; clear hw5
     have hkl := qta (qaB t)
     refine ⟨_, _, rfl, ?_⟩
     generalize qcF (qaB t) = kn at *
     obtain ⟨k, n⟩ := kn
     refine callK (qfG n (by simp at hkl; omega) w4 (he.step hB4)) ?_
     rintro _ w6 ⟨rfl, hb6⟩
     have hB6 := qb hB4 hb6 hB4.size
     rw [qat]
     refine ⟨_, _, rfl, ?_⟩
     have hok := qcr fun x hx => jG (s := n) hx
     refine qs.new (zs := hst0.cells) (cs := ((hostV n).getD hst0).cells) rfl (Hst.len hok) (Hst.one _) w6 fun k8 w8 hk8 h8 hb8 => ?_
     have hB8 := qb hB6 hb8 hB6.size
     have h28 := (h24.below hb6).below hb8
     simp only at hV
     refine worldJ (fun w' => ∃ h : Hst, hostV n = some h /\ jB s = ((k, h.name), true, 0) /\ Below w8.heap.size w8 w') ?_ ?_
     · refine qhz (fun b w' => b = decide (jB s = ((0, []), false, 51)) /\ Below w8.heap.size w8 w' /\ (b = false -> ∃ h : Hst, hostV n = some h /\ jB s = ((k, h.name), true, 0))) ?_ ?_
       · cases hn : hostV n with
         | none =>
           rw [hn] at hV
           exact BCase.yes rfl ⟨by rw [hV]; rfl, Below.refl _ _, fun hx => by cases hx⟩
         | some h =>
           rw [hn] at hV h8 hok
           have hV : jB s = if h.kind = 1 /\ ¬ (k = 3 /\ (qi h).length < 2) then ((k, h.name), true, 0) else ((0, []), false, 51) := hV
           have bad : ¬ (h.kind = 1 /\ ¬ (k = 3 /\ (qi h).length < 2)) -> (true : Bool) = decide (jB s = ((0, []), false, 51)) := fun hx => by rw [hV, if_neg hx]; rfl
           have good : (h.kind = 1 /\ ¬ (k = 3 /\ (qi h).length < 2)) -> (false : Bool) = decide (jB s = ((0, []), false, 51)) /\ (∃ h' : Hst, some h = some h' /\ jB s = ((k, h'.name), true, 0)) := fun hx => by
             rw [hV, if_pos hx]; exact ⟨(decide_eq_false (by intro hx; have := congrArg (fun z => z.2.1) hx; cases this)).symm, h, rfl, rfl⟩
           refine BCase.no rfl ⟨rfl, _, h8.load1 qN rfl rfl, BCase.of (fun c1 => ⟨bad fun hx => ?_, Below.refl _ _, fun hx => by cases hx⟩) (fun c1 => ?_)⟩
           · have c1 : (h.kind != 1) = true := c1
             rw [hx.1] at c1; simp at c1
           have c1 : (h.kind != 1) = false := c1
           have c1 : h.kind = 1 := by simpa using c1
           refine BCase.of (fun c2 => ?_) (fun c2 => ?_)
           · have c2 : k = 3 := eq_of_beq c2
             refine ⟨_, qs.load0 h8 (Hst.len hok), ?_⟩
             have hnl : h.name.length <= 1000000000 := by have := qah hn; omega
             refine callK (qbv hok hnl w8 (he.step hB8)) ?_
             rintro _ w9 ⟨a, l, c, rfl, ho, -, hb9⟩
             refine ⟨_, _, _, rfl, ?_⟩
             have ho1 := ho.len
             simp only [Option.getD_some] at ho1
             rw [ho1]
             by_cases c3 : (qi h).length < 2
             · rw [decide_eq_true (show (((qi h).length : Nat) : Int) < 2 by omega)]
               exact ⟨bad fun hx => hx.2 ⟨c2, c3⟩, hb9, fun hx => by cases hx⟩
             · rw [decide_eq_false (show ¬ (((qi h).length : Nat) : Int) < 2 by omega)]
               have g := good ⟨c1, fun hx => c3 hx.2⟩
               exact ⟨g.1, hb9, fun _ => g.2⟩
           · have g := good ⟨c1, fun hx => by rw [hx.1] at c2; cases c2⟩
             exact ⟨g.1, Below.refl _ _, fun _ => g.2⟩
       · rintro b w9 ⟨hb, hb9, hg⟩
         refine BCase.of (fun c => ?_) (fun c => ?_)
         · rw [c, eq_comm, dTx] at hb
           exact qdz (0, []) (h28.below hb9) rfl (qb hB8 hb9 hB8.size) hk2w fun wx hb' => ⟨by rw [hb], hb'⟩
         · obtain ⟨h, e1, e2⟩ := hg c
           exact ⟨h, e1, e2, hb9⟩
     · rintro w9 ⟨h, e1, e2, hb9⟩
       rw [e1] at h8
       refine ⟨rfl, _, (h8.below hb9).load1 un_string rfl rfl, ?_⟩
       exact qdz (k, h.name) (h28.below hb9) rfl (qb hB8 hb9 hB8.size) hk2w fun wx hb' => ⟨by rw [e2], hb'⟩
end Go.Proofs.YtndbpedpdbjkpaaGreatDoor
set_option linter.unusedSectionVars false
namespace Go.Pk
open Go.RowKit (Below)
section
variable {α β : Type} [DecidableEq α]
def KVg (ek : α -> Value) (ev : β -> Value) (es : List MapEntry) (kvs : List (α × β)) : Prop := es.map (fun e => (e.key, e.val)) = kvs.map fun p => (ek p.1, ev p.2)
def MapG (ek : α -> Value) (ev : β -> Value) (w : World) (r : Nat) (kvs : List (α × β)) : Prop := ∃ es clock, w.heap[r]? = some (.map es clock) /\ KVg ek ev es.toList kvs
def qjQ (k : α) : List (α × β) -> Option β
 | [] => none
 | (k', v) :: l => if k = k' then some v else qjQ k l
def qiW (k : α) : List (α × β) -> Nat -> Option (Nat × β)
 | [], _ => none
 | (k', v) :: l, i => if k = k' then some (i, v) else qiW k l (i + 1)
theorem qnG (k : α) : ∀ (l : List (α × β)) (i : Nat), (qiW k l i).map (·.2) = qjQ k l
 | [], _ => rfl
 | (k', v) :: l, i => by
   unfold qiW qjQ
   split
   · rfl
   · exact qnG k l (i + 1)
theorem lookG_app (k : α) (v : β) (k' : α) : ∀ l : List (α × β), qjQ k' (l ++ [(k, v)]) = (qjQ k' l).or (if k' = k then some v else none)
 | [] => by
   show (if k' = k then some v else none) = _
   rfl
 | (x, y) :: l => by
   show (if k' = x then some y else qjQ k' (l ++ [(k, v)])) = (if k' = x then some y else qjQ k' l).or _
   split
   · rfl
   · exact lookG_app k v k' l
structure qpD (P : Program) (kt : TypeId) (ek : α -> Value) : Prop where
 check : ∀ (b : Bool) (k : α) (w : World), (Instr.checkKey b 10000 kt (ek k)).run P w = .ok () w
 find : ∀ {β : Type} (ev : β -> Value) (k : α) (es : List MapEntry) (kvs : List (α × β)) (w : World), KVg ek ev es kvs -> (Instr.findKey kt (ek k) es).run P w = .ok ((qiW k kvs 0).map fun p => (p.1, ev p.2)) w
theorem qpD.struct {P : Program} {kt : TypeId} {fs : Array Field} (hu : P.underlying kt = some (.struct fs)) {ek : α -> Value} (heq : ∀ a b, eqV P 10000 kt (ek a) (ek b) = some (decide (a = b)))
   (check : ∀ (b : Bool) (k : α) (w : World), (Instr.checkKey b 10000 kt (ek k)).run P w = .ok () w) : qpD P kt ek where
 check := check
 find := by
   intro β ev k es kvs w h
   have ask : ∀ (es : List MapEntry) (kvs : List (α × β)) (i : Nat), KVg ek ev es kvs -> (Instr.findAsking kt (ek k) es i).run P w = .ok ((qiW k kvs i).map fun p => (p.1, ev p.2)) w := by
     intro es
     induction es with
     | nil =>
       intro kvs i h
       have : kvs = [] := by unfold KVg at h; simp at h; exact h
       subst this; rfl
     | cons e es ih =>
       intro kvs i h
       cases kvs with
       | nil => unfold KVg at h; simp at h
       | cons p kvs =>
         obtain ⟨k', v⟩ := p
         unfold KVg at h
         simp only [List.map_cons, List.cons.injEq, Prod.mk.injEq] at h
         obtain ⟨⟨hk, hv⟩, ht⟩ := h
         unfold Instr.findAsking qiW
         rw [hk]
         have he : (Op.equal kt (ek k) (ek k')).run P w = .ok (decide (k = k')) w := qrE 10000 kt _ _ _ w (heq k k')
         rw [Sem.run_bind, he, Result.andThen_ok]
         by_cases e1 : k = k'
         · simp [e1, hv]
         · simp only [e1, decide_false, if_false]
           exact ih kvs (i + 1) ht
   unfold Instr.findKey
   rw [Sem.run_bind, zz hu, Result.andThen_ok]
   cases es with
   | nil =>
     have : kvs = [] := by unfold KVg at h; simp at h; exact h
     subst this; rfl
   | cons e es => exact ask (e :: es) kvs 0 h
variable {ek : α -> Value} {ev : β -> Value}
theorem MapG.below {w w' : World} {r : Nat} {kvs : List (α × β)} (h : MapG ek ev w r kvs) (hb : Below w.heap.size w w') : MapG ek ev w' r kvs := by
 obtain ⟨es, c, hh, hkv⟩ := h
 exact ⟨es, c, (hb.block r (Array.getElem?_eq_some_iff.1 hh).1).trans hh, hkv⟩
theorem MapG.lt {w : World} {r : Nat} {kvs : List (α × β)} (h : MapG ek ev w r kvs) : r < w.heap.size := by
 obtain ⟨es, c, hh, hkv⟩ := h
 exact (Array.getElem?_eq_some_iff.1 hh).1
theorem MapG.keep {w w' : World} {r : Nat} {kvs : List (α × β)} (h : MapG ek ev w r kvs) (hb : w'.heap[r]? = w.heap[r]?) : MapG ek ev w' r kvs := by
 obtain ⟨es, c, hh, hkv⟩ := h
 exact ⟨es, c, hb.trans hh, hkv⟩
theorem MapG.grown {w w' : World} {r : Nat} {kvs : List (α × β)} (h : MapG ek ev w r kvs) {k : Nat} (hg : w.grownBy w' (some k)) (hne : r ≠ k) : MapG ek ev w' r kvs := h.keep (hg.block r h.lt fun e => hne (Option.some.inj e))
theorem MapG.new {w w' : World} {r : Nat} (hr : r = w.heap.size) (hw : w' = w.alloc (.map #[] 0)) : MapG ek ev w' r [] := by
 subst hr hw
 exact ⟨#[], 0, heap_alloc_new w _, rfl⟩
theorem qp0 {P : Program} {w : World} {r : Nat} {es : Array MapEntry} {c : Nat} (h : w.heap[r]? = some (.map es c)) : (getObj r).run P w = .ok (.map es c) w := by
 simp only [getObj, Sem.run, h]
theorem MapG.look2 {P : Program} {mt kt et : TypeId} {n bytes : Nat} {z : Value} (hm : P.underlying mt = some (.map kt et)) (hk : qpD P kt ek) (he : TF P et n bytes z) {w : World} {r : Nat} {kvs : List (α × β)} (h : MapG ek ev w r kvs) (k : α) :
   (Instr.lookup mt (.map (some r)) (ek k) true).run P w = .ok (.tuple #[((qjQ k kvs).map ev).getD z, .bool (qjQ k kvs).isSome]) w := by
 obtain ⟨es, c, hh, hkv⟩ := h
 obtain ⟨i, hi, _, _, hz⟩ := he.info
 unfold Instr.lookup
 simp only [Sem.run_bind, zz hm, Result.andThen_ok, qp0 hh, Sem.run_pure, hk.check, hk.find ev k _ _ _ hkv]
 rw [<- qnG k kvs 0]
 cases qiW k kvs 0 with
 | none => simp [zeroValue, qfo hi, hz]
 | some p => simp
theorem MapG.look1 {P : Program} {mt kt et : TypeId} {n bytes : Nat} {z : Value} (hm : P.underlying mt = some (.map kt et)) (hk : qpD P kt ek) (he : TF P et n bytes z) {w : World} {r : Nat} {kvs : List (α × β)} (h : MapG ek ev w r kvs) (k : α) :
   (Instr.lookup mt (.map (some r)) (ek k) false).run P w = .ok (((qjQ k kvs).map ev).getD z) w := by
 obtain ⟨es, c, hh, hkv⟩ := h
 obtain ⟨i, hi, _, _, hz⟩ := he.info
 unfold Instr.lookup
 simp only [Sem.run_bind, zz hm, Result.andThen_ok, qp0 hh, Sem.run_pure, hk.check, hk.find ev k _ _ _ hkv]
 rw [<- qnG k kvs 0]
 cases qiW k kvs 0 with
 | none => simp [zeroValue, qfo hi, hz]
 | some p => simp
theorem MapG.put {P : Program} {mt kt et : TypeId} (hm : P.underlying mt = some (.map kt et)) (hk : qpD P kt ek) {w : World} {r : Nat} {kvs : List (α × β)} (h : MapG ek ev w r kvs) {k : α} (hno : qjQ k kvs = none) (v : β) :
   ∃ w', (Instr.mapUpdate mt (.map (some r)) (ek k) (ev v)).run P w = .ok () w' /\ MapG ek ev w' r (kvs ++ [(k, v)]) /\ w.grownBy w' (some r) := by
 obtain ⟨es, c, hh, hkv⟩ := h
 have hlt : r < w.heap.size := (Array.getElem?_eq_some_iff.1 hh).1
 have hnone : qiW k kvs 0 = none := by
   have := qnG k kvs 0
   rw [hno] at this
   simpa using this
 refine ⟨{ w with heap := w.heap.setIfInBounds r (.map (es.push { key := ek k, val := ev v, born := c }) (c + 1)) }, ?_, ⟨es.push { key := ek k, val := ev v, born := c }, c + 1, by simp [hlt], ?_⟩, ⟨rfl, rfl, rfl, by simp, fun j hj hne => ?_⟩⟩
 · unfold Instr.mapUpdate
   simp only [Sem.run_bind, zz hm, Result.andThen_ok, qp0 hh, hk.check, hk.find ev k _ _ _ hkv, hnone, Option.map_none]
   simp only [setObj, Sem.run, hh]
 · unfold KVg at hkv ⊢
   simp only [Array.toList_push, List.map_append, List.map_cons, List.map_nil, hkv]
 · have : r ≠ j := fun e => hne (by rw [e])
   simp [Array.getElem?_setIfInBounds_ne this]
end
end Go.Pk
namespace Go.Pk
open Go.RowKit (Below)
abbrev Pth := List (List UInt8)
def revl (r : Rul) : Pth := (cutC 46 [] r.2).reverse
def posP (p : Pth) : List Pth -> Nat -> Option Nat
 | [], _ => none
 | q :: l, i => if p = q then some i else posP p l (i + 1)
theorem qfh {p : Pth} : ∀ {l : List Pth} {i : Nat}, posP p l i = none ↔ p ∉ l
 | [], i => by simp [posP]
 | q :: l, i => by
   unfold posP
   by_cases h : p = q
   · simp [h]
   · rw [if_neg h, qfh]; simp [h]
theorem qe2 {p : Pth} : ∀ {l : List Pth} {i j : Nat}, posP p l i = some j -> i <= j /\ l[j - i]? = some p
 | [], i, j, h => by cases h
 | q :: l, i, j, h => by
   unfold posP at h
   split at h
   · rename_i e; cases h
     exact ⟨Nat.le_refl _, by rw [Nat.sub_self, e]; rfl⟩
   · obtain ⟨h1, h2⟩ := qe2 h
     exact ⟨by omega, by rw [show j - i = (j - (i + 1)) + 1 by omega]; exact h2⟩
theorem posP_app (p q : Pth) : ∀ (l : List Pth) (i : Nat), posP p (l ++ [q]) i = (posP p l i).or (if p = q then some (i + l.length) else none)
 | [], i => by
   show (if p = q then some i else none) = _
   split <;> rfl
 | x :: l, i => by
   show (if p = x then some i else posP p (l ++ [q]) (i + 1)) = (if p = x then some i else posP p l (i + 1)).or _
   split
   · rfl
   · rw [posP_app p q l (i + 1)]
     congr 2
     simp; omega
abbrev qeH := Int × List UInt8
structure Trie (ps : List Pth) (kvs : List (qeH × Int)) : Prop where
 root : ps[0]? = some []
 first : ∀ (i : Nat) p, ps[i]? = some p -> posP p ps 0 = some i
 closed : ∀ p l, p ++ [l] ∈ ps -> p ∈ ps
 edge : ∀ (n : Nat) (l : List UInt8), qjQ ((n : Int), l) kvs = match ps[n]? with
   | some p => (posP (p ++ [l]) ps 0).map fun i => (i : Int)
   | none => none
theorem qtc : Trie [[]] [] where
 root := rfl
 first := by
   intro i p h
   match i, h with
   | 0, h => cases h; rfl
 closed := by intro p l h; simp at h
 edge := by
   intro n l
   match n with
   | 0 => rfl
   | n + 1 => rfl
theorem Trie.pos {ps : List Pth} {kvs : List (qeH × Int)} (t : Trie ps kvs) {p : Pth} (h : p ∈ ps) : ∃ i, posP p ps 0 = some i /\ ps[i]? = some p := by
 cases hp : posP p ps 0 with
 | none => exact absurd h (qfh.1 hp)
 | some i => exact ⟨i, rfl, by simpa using (qe2 hp).2⟩
theorem Trie.grow {ps : List Pth} {kvs : List (qeH × Int)} (t : Trie ps kvs) {n : Nat} {p : Pth} {l : List UInt8} (hn : ps[n]? = some p) (hno : p ++ [l] ∉ ps) : Trie (ps ++ [p ++ [l]]) (kvs ++ [(((n : Int), l), (ps.length : Int))]) where
 root := by
   have := t.root
   rw [List.getElem?_append_left (by have := (List.getElem?_eq_some_iff.1 this).1; exact this)]; exact this
 first := by
   intro i q h
   rw [posP_app]
   by_cases hi : i < ps.length
   · rw [List.getElem?_append_left hi] at h
     rw [t.first i q h]; rfl
   · rw [List.getElem?_append_right (by omega)] at h
     have h0 : i = ps.length := by
       have := (List.getElem?_eq_some_iff.1 h).1
       simp at this; omega
     subst h0
     rw [Nat.sub_self] at h
     cases h
     rw [qfh.2 hno, if_pos rfl]; simp
 closed := by
   intro q x h
   rw [List.mem_append] at h ⊢
   rcases h with h | h
   · exact .inl (t.closed q x h)
   · rw [List.mem_singleton] at h
     have := List.append_inj_left' h rfl
     subst this
     exact .inl (List.mem_of_getElem? hn)
 edge := by
   intro m x
   rw [lookG_app, t.edge m x]
   by_cases hm : m < ps.length
   · rw [List.getElem?_append_left hm]
     obtain ⟨q, hq⟩ : ∃ q, ps[m]? = some q := ⟨_, List.getElem?_eq_getElem hm⟩
     rw [hq]
     simp only
     rw [posP_app]
     have e : (((m : Int), x) = ((n : Int), l)) ↔ (q ++ [x] = p ++ [l]) := by
       constructor
       · intro h
         have h1 : m = n := by have := congrArg Prod.fst h; simp at this; omega
         have h2 : x = l := congrArg Prod.snd h
         subst h1 h2
         rw [hq] at hn
         rw [Option.some.inj hn]
       · intro h
         have h1 := List.append_inj_left' h rfl
         have h2 := List.append_inj_right' h rfl
         subst h1
         have := (t.first m q hq).symm.trans (t.first n q hn)
         rw [Option.some.inj this, List.singleton_inj.1 h2]
     cases hp : posP (q ++ [x]) ps 0 with
     | some i => rfl
     | none =>
       by_cases he : q ++ [x] = p ++ [l]
       · rw [if_pos (e.2 he), if_pos he]; simp
       · rw [if_neg (fun h => he (e.1 h)), if_neg he]; rfl
   · have hnl : n < ps.length := (List.getElem?_eq_some_iff.1 hn).1
     rw [List.getElem?_eq_none (l := ps) (by omega)]
     rw [if_neg (fun h => by have := congrArg Prod.fst h; simp at this; omega)]
     by_cases h0 : m = ps.length
     · subst h0
       rw [List.getElem?_append_right (Nat.le_refl _), Nat.sub_self]
       simp only [List.getElem?_cons_zero]
       have h1 : posP (p ++ [l] ++ [x]) (ps ++ [p ++ [l]]) 0 = none := by
         rw [qfh, List.mem_append, List.mem_singleton]
         rintro (h | h)
         · exact hno (t.closed _ _ h)
         · have := congrArg List.length h; simp at this
       rw [h1]; rfl
     · rw [List.getElem?_append_right (by omega), List.getElem?_eq_none (l := [p ++ [l]]) (by simp; omega)]; rfl
def marks (rs : List Rul) (p : Pth) : List Bool := (List.range 4).map fun (k : Nat) => rs.any fun r => decide (r.1 = (k : Int) /\ revl r = p)
theorem qiJ (rs : List Rul) (p : Pth) : (marks rs p).length = 4 := by simp [marks]
theorem qlX (rs : List Rul) (p : Pth) (k : Nat) (h : k < 4) : (marks rs p)[k]? = some (rs.any fun r => decide (r.1 = (k : Int) /\ revl r = p)) := by
 unfold marks
 rw [List.getElem?_map, List.getElem?_range h]; rfl
structure Tab (ps : List Pth) (es : List (List Bool)) (rs : List Rul) : Prop where
 len : es.length = ps.length
 mark : ∀ (i : Nat) p, ps[i]? = some p -> es[i]? = some (marks rs p)
 rules : ∀ r ∈ rs, revl r ∈ ps
theorem qux : Tab [[]] [[false, false, false, false]] [] where
 len := rfl
 mark := by
   intro i p h
   match i, h with
   | 0, h => cases h; rfl
 rules := by intro r h; cases h
theorem Tab.grow {ps : List Pth} {es : List (List Bool)} {rs : List Rul} (t : Tab ps es rs) {q : Pth} (hq : q ∉ ps) : Tab (ps ++ [q]) (es ++ [[false, false, false, false]]) rs where
 len := by rw [List.length_append, List.length_append, t.len]; rfl
 mark := by
   intro i p h
   by_cases hi : i < ps.length
   · rw [List.getElem?_append_left hi] at h
     rw [List.getElem?_append_left (by rw [t.len]; exact hi)]
     exact t.mark i p h
   · rw [List.getElem?_append_right (by omega)] at h
     have h0 : i = ps.length := by
       have := (List.getElem?_eq_some_iff.1 h).1
       simp at this; omega
     subst h0
     rw [Nat.sub_self] at h
     cases h
     rw [List.getElem?_append_right (by rw [t.len]; exact Nat.le_refl _), t.len, Nat.sub_self]
     show some _ = some _
     congr 1
     have : ∀ k : Nat, (rs.any fun r => decide (r.1 = (k : Int) /\ revl r = q)) = false := fun k => by
       rw [List.any_eq_false]
       intro r hr
       simp only [dTx]
       rintro ⟨-, he⟩
       exact hq (he ▸ t.rules r hr)
     unfold marks
     simp only [List.range_succ, List.range_zero, List.map_append, List.map_nil, List.map_cons, List.nil_append, this]; rfl
 rules := fun r hr => List.mem_append_left _ (t.rules r hr)
theorem Tab.rule {ps : List Pth} {kvs : List (qeH × Int)} {es : List (List Bool)} {rs : List Rul} (T : Trie ps kvs) (t : Tab ps es rs) {r : Rul} {n : Nat} {k : Nat} (hk : r.1 = (k : Int)) (hn : ps[n]? = some (revl r)) (h4 : k < 4) :
   Tab ps (es.set n ((marks rs (revl r)).set k true)) (rs ++ [r]) where
 len := by rw [List.length_set, t.len]
 mark := by
   intro i p h
   have hnl : n < ps.length := (List.getElem?_eq_some_iff.1 hn).1
   by_cases hi : n = i
   · subst hi
     have hp : p = revl r := by rw [hn] at h; exact (Option.some.inj h).symm
     subst hp
     rw [List.getElem?_set_self (by rw [t.len]; exact hnl)]
     congr 1
     apply List.ext_getElem?
     intro j
     by_cases hj : j < 4
     · rw [qlX _ _ _ hj, List.getElem?_set, qiJ]
       by_cases hkj : k = j
       · subst hkj
         rw [if_pos rfl, if_pos h4, List.any_append]
         simp [hk]
       · rw [if_neg hkj, qlX _ _ _ hj, List.any_append]
         have : ¬ r.1 = (j : Int) := by rw [hk]; omega
         simp [this]
     · rw [List.getElem?_eq_none (by simp [qiJ]; omega), List.getElem?_eq_none (by rw [qiJ]; omega)]
   · rw [List.getElem?_set_ne hi, t.mark i p h]
     congr 1
     unfold marks
     apply List.map_congr_left
     intro k' _
     rw [List.any_append]
     have : revl r ≠ p := by
       intro he
       subst he
       have := (T.first i _ h).symm.trans (T.first n _ hn)
       exact hi (Option.some.inj this).symm
     simp [this]
 rules := by
   intro x hx
   rcases List.mem_append.1 hx with hx | hx
   · exact t.rules x hx
   · rw [List.mem_singleton] at hx; subst hx; exact List.mem_of_getElem? hn
structure Top (d : Nat) (S : Nat -> Prop) (m : Nat) : Prop where
 is : m = d \/ S m
 ge : d <= m
 le : ∀ x, S x -> x <= m
theorem Top.eq {d : Nat} {S : Nat -> Prop} {m m' : Nat} (h : Top d S m) (h' : Top d S m') : m = m' := by
 have a : m <= m' := by rcases h.is with e | e; rw [e]; exact h'.ge; exact h'.le _ e
 have b : m' <= m := by rcases h'.is with e | e; rw [e]; exact h.ge; exact h.le _ e
 omega
theorem Top.congr {d : Nat} {S S' : Nat -> Prop} {m : Nat} (h : Top d S m) (e : ∀ x, S x ↔ S' x) : Top d S' m := ⟨h.is.imp id (e m).1, h.ge, fun x hx => h.le x ((e x).2 hx)⟩
theorem Top.zero (d : Nat) : Top d (fun _ => False) d := ⟨.inl rfl, Nat.le_refl _, fun _ h => h.elim⟩
theorem Top.max {d : Nat} {S : Nat -> Prop} {m : Nat} (h : Top d S m) (x : Nat) : Top d (fun y => S y \/ y = x) (max m x) := by
 by_cases c : m <= x
 · rw [Nat.max_eq_right c]
   exact ⟨.inr (.inr rfl), Nat.le_trans h.ge c, fun y hy => hy.elim (fun hy => Nat.le_trans (h.le y hy) c) (fun hy => by omega)⟩
 · rw [Nat.max_eq_left (by omega)]
   exact ⟨h.is.imp id .inl, h.ge, fun y hy => hy.elim (h.le y) (fun hy => by omega)⟩
def qdN (rs : List Rul) (R : Pth) (n1 n2 x : Nat) : Prop := ∃ r ∈ rs, revl r = R.take (revl r).length /\ (r.1 = 1 /\ (revl r).length <= n1 /\ (revl r).length = x \/ r.1 = 2 /\ (revl r).length <= n2 /\ (revl r).length + 1 = x)
def qbA (rs : List Rul) (R : Pth) (n x : Nat) : Prop := ∃ r ∈ rs, revl r = R.take (revl r).length /\ r.1 = 3 /\ (revl r).length <= n /\ (revl r).length - 1 = x
end Go.Pk
namespace Go.Pk
open Go.RowKit (Below)
theorem qu5 (g i k j : Nat) : qn (qn (some ⟨g, 0, none⟩) (i : Int) k) (j : Int) 1 = some ⟨g, i * k + j, none⟩ := by
 rw [qdA, qdA]; simp
theorem qtj {α : Type} (l : List α) (p k j : Nat) (v : α) (hj : j < k) (hl : p + k <= l.length) : l.take (p + j) ++ [v] ++ l.drop (p + j + 1) = l.take p ++ (((l.drop p).take k).set j v) ++ l.drop (p + k) := by
 have e1 : l = l.take p ++ ((l.drop p).take k ++ l.drop (p + k)) := by
   rw [<- List.drop_drop, List.take_append_drop, List.take_append_drop]
 generalize hA : l.take p = A at *
 generalize hB : (l.drop p).take k = B at *
 generalize hC : l.drop (p + k) = C at *
 have lA : A.length = p := by rw [<- hA]; simp; omega
 have lB : B.length = k := by rw [<- hB]; simp; omega
 clear hA hB hC
 subst e1
 have t1 : (A ++ (B ++ C)).take (p + j) = A ++ B.take j := by
   rw [List.take_append, List.take_of_length_le (by omega), lA, show p + j - p = j by omega, List.take_append_of_le_length (by omega)]
 have t2 : (A ++ (B ++ C)).drop (p + j + 1) = B.drop (j + 1) ++ C := by
   rw [List.drop_append, List.drop_of_length_le (by omega), List.nil_append, lA, show p + j + 1 - p = j + 1 by omega, List.drop_append_of_le_length (by omega)]
 rw [t1, t2, List.set_eq_take_append_cons_drop, if_pos (by omega)]
 simp
theorem Sl.loadC {α : Type} {T : Ty α} {P : Program} {u : TypeId} {d : TypeDesc} (hu : P.underlying u = some d) (ha : aggD d = false) {w : World} {A : Bl} {a : Option Addr} {n c : Nat} {xs : List α} (h : Sl T w A a n c xs) {i j k : Nat} (hk : T.k = k) (hi : i < xs.length) (hj : j < k)
   {v : Value} (hv : ∀ vs, T.rep w A vs xs[i] -> vs[j]? = some v) : (Instr.loadAt u (.pointer (qn (qn a (i : Int) k) (j : Int) 1))).run P w = .ok v w := by
 subst hk
 rcases h.2.2.2 with h4 | ⟨b, off, e, hb, hab, h4⟩
 · subst h4; cases hi
 · obtain ⟨vs, h5, h6⟩ := h4.elem hi
   rw [e, qdA, qdA]
   show (do loadVar u (<- Instr.sureAddr (.pointer (some _)))).run P w = _
   rw [Sem.run_bind, qcu]
   refine loadVar_one hu ha ?_
   have := h6 j hj
   rw [hv vs h5] at this
   simpa using this
theorem Ow.store1 {α : Type} {T : Ty α} {P : Program} {t u : TypeId} {bytes : Nat} {z : Value} (tf : TF P u 1 bytes z) {w : World} {A : Bl} {a : Option Addr} {n c : Nat} {xs : List α} (ho : Ow T t w A a n c xs) (hA : ∀ g, ownB a = some g -> ¬ A g)
   {i j k : Nat} (hk : T.k = k) (hi : i < xs.length) (hj : j < k) {v : Value} (h1 : v.oneCell' = true) (hc : v.cells = #[v]) {x : α} (hv : ∀ vs, T.rep w A vs xs[i] -> T.rep w A (vs.set j v) x) :
   ∃ w', (Instr.storeAt u (.pointer (qn (qn a (i : Int) k) (j : Int) 1)) v).run P w = .ok () w' /\ Ow T t w' A a n c (xs.set i x) /\ w.grownBy w' (ownB a) := by
 subst hk
 obtain ⟨ti, hti, hsz, _, _⟩ := tf.info
 obtain ⟨hn, hnc, hcm, ho4⟩ := ho
 rcases ho4 with ⟨_, _, rfl⟩ | ⟨g, cur, fr, rfl, hg, hf, hcs, hrep⟩
 · cases hi
 · subst hn
   have hb : i * T.k + T.k <= xs.length * T.k := by
     have := Nat.mul_le_mul_right T.k (show i + 1 <= xs.length from hi)
     rwa [Nat.add_mul, Nat.one_mul] at this
   have hb2 : xs.length * T.k <= cur.size := by rw [hcs]; exact Nat.mul_le_mul_right _ hnc
   have hx := hrep.rep i hi
   have hvs := hv _ hx
   have hvl := T.len hvs
   rw [qu5]
   have hst := qdy (P := P) hti (o := i * T.k + j) hg hf (v := v) (by rw [hc, hsz]; rfl) (by rw [hsz]; omega) (fun x hx => by rw [hc] at hx; simp at hx; rw [hx]; exact h1)
   have hrow : (cur.toList.take (i * T.k + j) ++ v.cells.toList ++ cur.toList.drop (i * T.k + j + v.cells.size)) = cur.toList.take (i * T.k) ++ (((cur.toList.take (xs.length * T.k)).drop (i * T.k)).take T.k).set j v ++ cur.toList.drop (i * T.k + T.k) := by
     rw [hc]
     have e := qtj cur.toList (i * T.k) T.k j v hj (by simp; omega)
     have e2 : ((cur.toList.take (xs.length * T.k)).drop (i * T.k)).take T.k = (cur.toList.drop (i * T.k)).take T.k := by
       rw [List.drop_take, List.take_take]; congr 1; omega
     rw [e2]; exact e
   rw [hrow] at hst
   generalize (((cur.toList.take (xs.length * T.k)).drop (i * T.k)).take T.k).set j v = vs' at *
   refine ⟨_, hst, ?_, qa4 w g _⟩
   refine ⟨by simp, hnc, hcm, .inr ⟨g, _, fr, rfl, setRow_heap w g cur _ t fr hg, ?_, ?_, ?_⟩⟩
   · intro j' hj'
     refine hf j' ?_
     simp at hj'; omega
   · simp; omega
   · have h2 := (hrep.set hi hvs).keep (qby (qa4 w g (cur.toList.take (i * T.k) ++ vs' ++ cur.toList.drop (i * T.k + T.k)).toArray) fun b hb e => hA g rfl (by cases e; exact hb))
     have e : ((cur.toList.take (i * T.k) ++ vs' ++ cur.toList.drop (i * T.k + T.k)).toArray).toList.take (xs.length * T.k) =
         (cur.toList.take (xs.length * T.k)).take (i * T.k) ++ vs' ++ (cur.toList.take (xs.length * T.k)).drop (i * T.k + vs'.length) := by
       simp only []
       have e1 : (cur.toList.take (xs.length * T.k)).take (i * T.k) = cur.toList.take (i * T.k) := by rw [List.take_take]; congr 1; omega
       rw [e1, List.take_append, List.drop_take]
       have e2 : (cur.toList.take (i * T.k) ++ vs').length = i * T.k + T.k := by simp [hvl]; omega
       rw [e2, List.take_of_length_le (by rw [e2]; omega)]
       congr 2
       · rw [hvl]
       · rw [hvl]
     rw [e]; exact h2
end Go.Pk
namespace Go.Pk
open Go.RowKit (Below)
def ekE (e : qeH) : Value := .agg #[.int .i64 e.1, .string (mkS e.2)]
def evI (n : Int) : Value := .int .i64 n
def tB4 : Ty (List Bool) where
 k := 4
 pos := by decide
 rep := fun _ _ vs x => vs = x.map Value.bool /\ x.length = 4
 len := fun h => by rw [h.1, List.length_map, h.2]
 one := fun {_ _ _ x} h v hv => by rw [h.1] at hv; obtain ⟨b, _, rfl⟩ := List.mem_map.1 hv; rfl
 keep := fun h _ => h
 mono := fun h _ => h
theorem qr9 : Flat tB4 := fun _ _ _ _ _ _ h => h
def tRul : Ty Rul where
 k := 2
 pos := by decide
 rep := fun _ _ vs r => vs = rulC r
 len := fun h => by rw [h]; rfl
 one := fun {_ _ _ x} h v hv => by rw [h] at hv; exact (jf rfl (jf rfl qjT) : One1 (rulC x)) v hv
 keep := fun h _ => h
 mono := fun h _ => h
structure qbF (w0 : World) (t te : TypeId) (kt km : Nat) (a : Option Addr) (n c : Nat) (ps : List Pth) (kvs : List (qeH × Int)) (es : List (List Bool)) (rs : List Rul) (w : World) : Prop where
 h1 : qm w kt t [.map (some km), .slice a n c]
 h2 : MapG ekE evI w km kvs
 h3 : Ow tB4 te w NoB a n c es
 T : Trie ps kvs
 t : Tab ps es rs
 hb : Below w0.heap.size w0 w
 ne : km ≠ kt
 og : ∀ g, ownB a = some g -> g ≠ kt /\ g ≠ km /\ w0.heap.size <= g
 kt0 : w0.heap.size <= kt
 km0 : w0.heap.size <= km
theorem qbF.below {w0 : World} {t te : TypeId} {kt km : Nat} {a : Option Addr} {n c : Nat} {ps : List Pth} {kvs : List (qeH × Int)} {es : List (List Bool)} {rs : List Rul} {w w' : World} (S : qbF w0 t te kt km a n c ps kvs es rs w) (h : Below w.heap.size w w') : qbF w0 t te kt km a n c ps kvs es rs w' :=
 ⟨S.h1.below h, S.h2.below h, S.h3.below h, S.T, S.t, qb S.hb h S.hb.size, S.ne, S.og, S.kt0, S.km0⟩
theorem qje {α : Type} {T : Ty α} {t : TypeId} {w w' : World} {a : Option Addr} {n c : Nat} {xs : List α} (h : Ow T t w NoB a n c xs) {r : Option Nat} (hg : w.grownBy w' r) (hne : ∀ g, ownB a = some g -> r ≠ some g) : Ow T t w' NoB a n c xs :=
 h.keep (qby hg fun b hb e => by
   rcases hb with hb | hb
   · exact hb
   · exact hne b hb.symm e.symm)
theorem ql1 {ek : qeH -> Value} {ev : Int -> Value} {w w' : World} {r : Nat} {kvs : List (qeH × Int)} (h : MapG ek ev w r kvs) {k : Option Nat} (hg : w.grownBy w' k) (hne : k ≠ some r) : MapG ek ev w' r kvs := h.keep (hg.block r h.lt fun e => hne e.symm)
structure PutS (w0 : World) (t te ts tr : TypeId) (kt km k3 : Nat) (rs : List Rul) (r : Rul) (aL : Option Addr) (nL cL : Nat) (L : List (List UInt8)) (N : Nat) (p : Pth) (node : Nat) (w : World) : Prop where
 ex : ∃ a n c ps kvs es, qbF w0 t te kt km a n c ps kvs es rs w /\ posP p ps 0 = some node /\ ps.length <= N /\ (∀ g, ownB a = some g -> g ≠ k3 /\ ownB aL ≠ some g)
 hL : Ow tS ts w NoB aL nL cL L
 h3 : qm w k3 tr (rulC r)
 s1 : kt ≠ k3
 s2 : km ≠ k3
 s3 : ownB aL ≠ some kt
 s4 : ownB aL ≠ some km
theorem PutS.below {w0 : World} {t te ts tr : TypeId} {kt km k3 : Nat} {rs : List Rul} {r : Rul} {aL : Option Addr} {nL cL : Nat} {L : List (List UInt8)} {N : Nat} {p : Pth} {node : Nat} {w w' : World} (S : PutS w0 t te ts tr kt km k3 rs r aL nL cL L N p node w) (h : Below w.heap.size w w') : PutS w0 t te ts tr kt km k3 rs r aL nL cL L N p node w' := by
 obtain ⟨a, n, c, ps, kvs, es, h1, h2, h3, h4⟩ := S.ex
 exact ⟨⟨a, n, c, ps, kvs, es, h1.below h, h2, h3, h4⟩, S.hL.below h, S.h3.below h, S.s1, S.s2, S.s3, S.s4⟩
end Go.Pk
namespace Go.Proofs.YtndbpedpdbjkpaaGreatDoor
open Go.Pk
open Go.RowKit (Below)
theorem quc : ∃ fs, prog.underlying zP = some (.struct fs) := ⟨_, rfl⟩
theorem qg1 : qpD prog zP ekE := by
 obtain ⟨fs, h⟩ := quc
 refine qpD.struct h (fun a b => ?_) (fun b k w => ?_)
 · obtain ⟨a1, a2⟩ := a
   obtain ⟨b1, b2⟩ := b
   have e : eqV prog 10000 zP (ekE (a1, a2)) (ekE (b1, b2)) = some ((a1 == b1) && ((a2 == b2) && true)) := by kernel_rfl
   rw [e]
   congr 1
   rw [Bool.eq_iff_iff]; simp
 · obtain ⟨a1, a2⟩ := k
   kernel_rfl
theorem qnI : Whl prog zP 2 := ⟨⟨_, _, qmx⟩, by kernel_rfl⟩
def qt9 (w0 : World) (kt km : Nat) (rs : List Rul) (N : Nat) (v : Value) (w' : World) : Prop :=
 v = .tuple #[] /\ ∃ a n c ps kvs es, qbF w0 qq qt kt km a n c ps kvs es rs w' /\ ps.length <= N
theorem qog {w0 : World} (he : Env w0) {kt km : Nat} {a : Option Addr} {n c : Nat} {ps : List Pth} {kvs : List (qeH × Int)} {es : List (List Bool)} {rs : List Rul} {w : World} (S : qbF w0 qq qt kt km a n c ps kvs es rs w) (r : Rul)
   (hk : ∃ k : Nat, r.1 = (k : Int) /\ k < 4) (hr : r.2.length <= 253) {N : Nat} (hN : ps.length <= N) (hN2 : N <= 1000000000) :
   Calls prog qcS #[.pointer (some ⟨kt, 0, none⟩), rulV r] w (Ret (qt9 w0 kt km (rs ++ [r]) (N + 300))) := by
 obtain ⟨rk, rn⟩ := r
 obtain ⟨kk, hkk, hk4⟩ := hk
 simp only at hkk hr
 subst hkk
 apply qhh
 unfold qd6
 intro k3 w3 hk3 hw3
 have hb3 := (hw3 ▸ qf w _ : Below w.heap.size w w3)
 have h3 : qm w3 k3 ql (rulC ((kk : Int), rn)) := qm.new hk3 hw3
 have lt1 := S.h1.lt
 have lt2 := S.h2.lt
 have S3 := S.below hb3
 refine ⟨rfl, _, h3.load1 un_string rfl rfl, ?_⟩
 refine callK (qbx rn 46 (by omega) w3 (he.step S3.hb)) ?_
 rintro _ w4 ⟨aL, nL, cL, rfl, hoL, hfL, hb4⟩
 have hcc : (cutC 46 [] rn).length <= 300 := by have := j0 46 rn []; omega
 have hR : revl ((kk : Int), rn) = (cutC 46 [] rn).reverse := rfl
 generalize cutC 46 [] rn = L at *
 have hnL := hoL.len
 subst hnL
 refine ⟨_, _, _, rfl, ?_⟩
 have hs3 := hb3.size
 have S4 := S3.below hb4
 have P0 : PutS w0 qq qt qe ql kt km k3 rs ((kk : Int), rn) aL L.length cL L (N + 0) [] 0 w4 := by
   refine ⟨⟨a, n, c, ps, kvs, es, S4, ?_, hN, fun g hg => ⟨?_, ?_⟩⟩, hoL, h3.below hb4, by omega, by omega, fun hx => ?_, fun hx => ?_⟩
   · exact S.T.first 0 [] S.T.root
   · have := S.h3.lt g hg; omega
   · intro hx; have := hfL g hx; have := S.h3.lt g hg; omega
   · have := hfL _ hx; omega
   · have := hfL _ hx; omega
 have e0 : i64.wrap (((L.length : Nat) : Int) - 1) = ((L.length : Nat) : Int) - 1 := wrap_i64 (by omega) (by omega)
 rw [e0]
 clear S3 S4 S
 refine ⟨fun m nd i w' => ∃ (k node : Nat), k <= L.length /\ i = ((L.length : Nat) : Int) - 1 - (k : Int) /\ m = L.length - k /\ nd = (node : Int) /\ PutS w0 qq qt qe ql kt km k3 rs ((kk : Int), rn) aL L.length cL L (N + k) ((revl ((kk : Int), rn)).take k) node w', ⟨_, 0, 0, by omega, by omega, rfl, rfl, P0⟩, ?_⟩
 intro m nd i
 refine AllJ.of ?_ _
 rintro w5 ⟨k, node, hkl, rfl, rfl, rfl, P5⟩
 refine BCase.of (fun h => ?_) (fun h => ?_) <;> simp only [ge_iff_le, dTx, dFx] at h
 · have hlt : k < L.length := by omega
   have ei : ((L.length : Nat) : Int) - 1 - (k : Int) = ((L.length - 1 - k : Nat) : Int) := by omega
   rw [ei]
   refine ⟨⟨⟨by omega, by omega⟩, P5.hL.all.isSome (by omega)⟩, _, P5.hL.all.text un_string (by omega), ?_⟩
   have hRk : (revl ((kk : Int), rn)).take (k + 1) = (revl ((kk : Int), rn)).take k ++ [L[L.length - 1 - k]'(by omega)] := by
     rw [hR, List.take_succ_eq_append_getElem (by simpa using hlt), List.getElem_reverse]
   generalize L[L.length - 1 - k]'(by omega) = lab at *
   refine qnI.new (zs := [.int .i64 0, .string (mkS [])]) (cs := [.int .i64 (node : Int), .string (mkS lab)]) rfl rfl (jf rfl (jf rfl qjT)) w5 fun k7 w7 hk7 h7 hb7 => ?_
   have P7 := P5.below hb7
   simp only [qjG]
   obtain ⟨a5, n5, c5, ps5, kvs5, es5, S7, hp5, hN5, hog5⟩ := P7.ex
   have pn := (qe2 hp5).2
   rw [Nat.sub_zero] at pn
   have hedge := S7.T.edge node lab
   rw [pn] at hedge
   simp only at hedge
   have lt7 := h7.lt
   have ltm := S7.h2.lt
   have ltt := S7.h1.lt
   have hkk7 : k7 ≠ km /\ k7 ≠ kt /\ k7 ≠ k3 := by
     have := P5.h3.lt
     obtain ⟨_, _, _, _, _, _, S5, _⟩ := P5.ex
     have := S5.h1.lt
     have := S5.h2.lt
     omega
   have hog7 : ∀ g, ownB a5 = some g -> g ≠ k7 := fun g hg => by
     obtain ⟨a6, n6, c6, ps6, kvs6, es6, S5, _⟩ := P5.ex
     have e1 := S5.h1.below hb7
     have e2 := S7.h1
     unfold qm at e1 e2
     rw [e1] at e2
     simp only [Option.some.injEq, Obj.cells.injEq, and_true, true_and] at e2
     have e3 : a6 = a5 := by
       have := congrArg (fun x : Array Value => x[1]?) e2
       simp at this
       exact this.1
     subst e3
     have := S5.h3.lt g hg
     omega
   have hol7 : ∀ g, ownB aL = some g -> g ≠ k7 := fun g hg => by have := P5.hL.lt g hg; omega
   have luk : ∀ u, Below w7.heap.size w7 u -> (Instr.loadAt qX (.pointer (some ⟨kt, 0, none⟩))).run prog u = .ok (.map (some km)) u := fun u hu => (S7.h1.below hu).load1 qU rfl rfl
   have led : ∀ u, Below w7.heap.size w7 u -> (Instr.loadAt zP (.pointer (some ⟨k7, 0, none⟩))).run prog u = .ok (.agg #[.int .i64 (node : Int), .string (mkS lab)]) u := fun u hu => qnI.load0 (h7.below hu) rfl
   refine ⟨fun wj => ∃ i2 : Nat, PutS w0 qq qt qe ql kt km k3 rs ((kk : Int), rn) aL L.length cL L (N + (k + 1)) ((revl ((kk : Int), rn)).take (k + 1)) i2 wj /\ (∃ a n c ps kvs es, qbF w0 qq qt kt km a n c ps kvs es rs wj /\ qjQ ((node : Int), lab) kvs = some (i2 : Int)) /\ qm wj k7 zP [.int .i64 (node : Int), .string (mkS lab)], ?_, ?_⟩
   · refine ⟨rfl, rfl, _, luk, _, _, led, ?_⟩
     cases hq : posP ((revl ((kk : Int), rn)).take k ++ [lab]) ps5 0 with
     | some i2 =>
       rw [hq] at hedge
       refine ⟨(i2 : Int), true, fun u hu => ?_, ?_⟩
       · have := (S7.h2.below hu).look2 (P := prog) qU qg1 qbr ((node : Int), lab)
         rw [hedge] at this; exact this
       intro wq hwq
       refine BCase.no rfl ?_
       rw [hRk]
       have P8 := P7.below hwq
       exact ⟨i2, ⟨⟨a5, n5, c5, ps5, kvs5, es5, S7.below hwq, hq, by omega, hog5⟩, P8.hL, P8.h3, P8.s1, P8.s2, P8.s3, P8.s4⟩, ⟨a5, n5, c5, ps5, kvs5, es5, S7.below hwq, hedge⟩, h7.below hwq⟩
     | none =>
       rw [hq] at hedge
       have hno := qfh.1 hq
       refine ⟨0, false, fun u hu => ?_, ?_⟩
       · have := (S7.h2.below hu).look2 (P := prog) qU qg1 qbr ((node : Int), lab)
         rw [hedge] at this; exact this
       intro wq hwq
       have S8 := S7.below hwq
       have P8 := P7.below hwq
       have h78 := h7.below hwq
       refine BCase.yes rfl ⟨rfl, rfl, _, fun u hu => (S8.h1.below hu).load1 qU rfl rfl, _, _, fun u hu => qnI.load0 (h78.below hu) rfl, rfl, rfl, _, _, _, fun u hu => (S8.h1.below hu).load1 qai rfl rfl, ?_⟩
       intro wr hwr
       have S9 := S8.below hwr
       have P9 := P8.below hwr
       have h79 := h78.below hwr
       have hn5 := S9.h3.len
       have hesl := S9.t.len
       -- the way
       obtain ⟨wa, hsa, hma, hga⟩ := S9.h2.put (P := prog) qU qg1 (k := ((node : Int), lab)) hedge (((n5 : Nat) : Int))
       refine ⟨wa, hsa, ?_⟩
       have h1a := S9.h1.grown hga (qP S9.ne.symm)
       have h3a := qje S9.h3 hga fun g hg e => (S9.og g hg).2.1 (Option.some.inj e).symm
       have hLa := qje P9.hL hga fun g hg e => P9.s4 (by rw [hg, <- e])
       have hRa := P9.h3.grown hga (qP P9.s2.symm)
       have h7a := h79.grown hga (qP hkk7.1)
       have hBa := Below.put S9.hb hga S9.km0
       refine ⟨rfl, rfl, _, _, _, h1a.load1 qai rfl rfl, ?_⟩
       intro kb wb hkb hwb
       have hbb := (hwb ▸ qf wa _ : Below wa.heap.size wa wb)
       have hBb := qb hBa hbb hBa.size
       have hsrc : Src tB4 wb NoB (some ⟨kb, 0, none⟩) 1 [[false, false, false, false]] := Src.new1F qr9 hkb hwb ⟨rfl, rfl⟩
       obtain ⟨wc, ac, nc, cc, hrc, h3c, hgc, hfc⟩ := qjR (P := prog) (ty := zh) qai qoP (by decide) (h3a.below hbb) (fun _ _ h => h) (cm := 1) hsrc (by simp; omega)
       refine ⟨wc, ac, nc, cc, hrc, rfl, rfl, ?_⟩
       have ltka := h1a.lt
       have ltma := hma.lt
       have sza := hbb.size
       have nog : ∀ x, (∀ g, ownB a5 = some g -> g ≠ x) -> some x ≠ ownB a5 := fun x h e => h x e.symm rfl
       have h1c := (h1a.below hbb).grown hgc (nog kt fun g hg => (S9.og g hg).1)
       have hmc := ql1 (hma.below hbb) hgc (nog km fun g hg => (S9.og g hg).2.1).symm
       have hLc := qje (hLa.below hbb) hgc fun g hg e => (hog5 g e).2 hg
       have hRc := (hRa.below hbb).grown hgc (nog k3 fun g hg => (hog5 g hg).1)
       have h7c := (h7a.below hbb).grown hgc (nog k7 hog7)
       have hBc : Below w0.heap.size w0 wc := hBb.grown hgc hBb.size fun x e => (S9.og x e).2.2
       obtain ⟨wd, hsd, h1d, hgd⟩ := h1c.put (P := prog) qk6 (i := 1) (v := .slice ac nc cc) (show 1 < 2 by decide) rfl rfl
       refine ⟨wd, hsd, ?_⟩
       have hacn : ∀ g, ownB ac = some g -> g ≠ kt /\ g ≠ km /\ w0.heap.size <= g /\ g ≠ k3 /\ ownB aL ≠ some g := fun g hg => by
         rcases hfc g hg with e | e
         · have := S9.og g e
           have h2 := hog5 g e
           exact ⟨this.1, this.2.1, this.2.2, h2.1, h2.2⟩
         · have := hBb.size
           have := (hRa.below hbb).lt
           have h3 : ∀ x, ownB aL = some x -> x < wb.heap.size := (hLa.below hbb).lt
           exact ⟨by omega, by omega, by omega, by omega, fun hx => by have := h3 g hx; omega⟩
       have Td := S9.T.grow pn hno
       have td := S9.t.grow hno
       have hn9 : ((n5 : Nat) : Int) = ((ps5.length : Nat) : Int) := by omega
       rw [hn9] at hmc
       have Sd : qbF w0 qq qt kt km ac nc cc _ _ _ rs wd := ⟨h1d, ql1 hmc hgd (qP S9.ne.symm), qje h3c hgd fun g hg e => (hacn g hg).1 (Option.some.inj e).symm, Td, td, Below.put hBc hgd S9.kt0, S9.ne, fun g hg => ⟨(hacn g hg).1, (hacn g hg).2.1, (hacn g hg).2.2.1⟩, S9.kt0, S9.km0⟩
       have hpd : posP ((revl ((kk : Int), rn)).take k ++ [lab]) (ps5 ++ [(revl ((kk : Int), rn)).take k ++ [lab]]) 0 = some ps5.length := by
         rw [posP_app, hq, if_pos rfl]; simp
       rw [hRk]
       refine ⟨ps5.length, ⟨⟨ac, nc, cc, _, _, _, Sd, hpd, by simp; omega, fun g hg => ⟨(hacn g hg).2.2.2.1, (hacn g hg).2.2.2.2⟩⟩, qje hLc hgd fun g hg e => P9.s3 (by rw [hg, <- e]), hRc.grown hgd (qP P9.s1.symm), P9.s1, P9.s2, P9.s3, P9.s4⟩, ⟨ac, nc, cc, _, _, _, Sd, ?_⟩, h7c.grown hgd (qP hkk7.2.1)⟩
       rw [lookG_app, hedge, if_pos rfl]; rfl
   · refine AllJ.of ?_ _
     rintro wj ⟨i2, Pj, ⟨a6, n6, c6, ps6, kvs6, es6, S6, hl6⟩, h7j⟩
     refine ⟨rfl, rfl, _, fun u hu => (S6.h1.below hu).load1 qU rfl rfl, _, _, fun u hu => qnI.load0 (h7j.below hu) rfl, (i2 : Int), fun u hu => ?_, fun wq hwq => ?_⟩
     · have := (S6.h2.below hu).look1 (P := prog) qU qg1 qbr ((node : Int), lab)
       rw [hl6] at this; exact this
     · exact ⟨L.length - (k + 1), by omega, k + 1, i2, by omega, by rw [wrap_i64 (by omega) (by omega)]; omega, rfl, rfl, Pj.below hwq⟩
 · have : k = L.length := by omega
   subst this
   have hRl : (revl ((kk : Int), rn)).take L.length = revl ((kk : Int), rn) := by rw [List.take_of_length_le]; rw [hR]; simp
   rw [hRl] at P5
   simp only [qjG]
   obtain ⟨a5, n5, c5, ps5, kvs5, es5, S5, hp5, hN5, hog5⟩ := P5.ex
   have pn := (qe2 hp5).2
   rw [Nat.sub_zero] at pn
   have hnl : node < es5.length := by rw [S5.t.len]; exact (List.getElem?_eq_some_iff.1 pn).1
   have hn5 := S5.h3.len
   subst hn5
   have hsome := S5.h3.all.isSome hnl
   have hrow := S5.t.mark node _ pn
   refine ⟨rfl, rfl, _, _, _, fun u hu => (S5.h1.below hu).load1 qai rfl rfl, trivial, _, fun u hu => (P5.h3.below hu).load1 qN rfl rfl, ⟨⟨by omega, by omega⟩, hsome⟩, ⟨⟨by omega, by omega⟩, ?_⟩, ?_⟩
   · cases a5 with
     | none => cases hsome
     | some x => rfl
   intro wq hwq
   have S6 := S5.below hwq
   obtain ⟨w7, hs7, h37, hg7⟩ := S6.h3.store1 (P := prog) qca (fun _ _ h => h) (k := 4) rfl (i := node) (j := kk) hnl hk4 (v := .bool true) (x := (marks rs (revl ((kk : Int), rn))).set kk true) rfl rfl (by
     intro vs hvs
     rw [List.getElem?_eq_getElem hnl] at hrow
     have hvs : vs = es5[node].map Value.bool /\ es5[node].length = 4 := hvs
     rw [Option.some.inj hrow] at hvs
     exact ⟨by rw [hvs.1, List.map_set], by rw [List.length_set, qiJ]⟩)
   refine ⟨w7, hs7, rfl, a5, es5.length, c5, ps5, kvs5, _, ⟨S6.h1.grown hg7 (fun e => (S6.og kt e.symm).1 rfl), ql1 S6.h2 hg7 (fun e => (S6.og km e).2.1 rfl), h37, S6.T, S6.t.rule S6.T rfl pn hk4, S6.hb.grown hg7 S6.hb.size (fun x e => (S6.og x e).2.2), S6.ne, S6.og, S6.kt0, S6.km0⟩, by omega⟩
end Go.Proofs.YtndbpedpdbjkpaaGreatDoor
namespace Go.Pk
open Go.RowKit (Below)
theorem qrN (s : List UInt8) : lowL (lowL s) = lowL s := by
 have h : ∀ n, n < 256 -> lowC (lowC (UInt8.ofNat n)) = lowC (UInt8.ofNat n) := by decide +kernel
 unfold lowL
 rw [List.map_map]
 apply List.map_congr_left
 intro c _
 have := h c.toNat (by have := c.toNat_lt; omega)
 rw [UInt8.ofNat_toNat] at this
 exact this
theorem qrt (s : List UInt8) : (lowL s).head? = some 91 ↔ s.head? = some 91 := by
 cases s with
 | nil => simp [lowL]
 | cons c r =>
   have h : ∀ n, n < 256 -> (lowC (UInt8.ofNat n) = 91 ↔ UInt8.ofNat n = 91) := by decide +kernel
   have := h c.toNat (by have := c.toNat_lt; omega)
   rw [UInt8.ofNat_toNat] at this
   simpa [lowL] using this
theorem qry {s : List UInt8} {h : Hst} (e : hostV s = some h) (hk : h.kind = 1) : h = ⟨1, lowL s, ad0⟩ /\ hostV (lowL s) = some h /\ (lowL s).length <= 253 := by
 have e0 := e
 unfold hostV at e
 split at e
 · split at e
   · have := qgL e; omega
   · cases e
 rename_i h91
 split at e
 · cases h4 : v4V s with
   | none => rw [h4] at e; cases e
   | some a =>
     rw [h4] at e
     have : h.kind = 2 := by rw [<- Option.some.inj e]
     omega
 rename_i hd
 split at e
 · rename_i hc
   have e1 := Option.some.inj e
   refine ⟨e1.symm, ?_, by simpa [lowL] using hc.1⟩
   unfold hostV
   rw [if_neg (fun hx => h91 ((qrt s).1 hx)), qrN, if_neg hd, if_pos ⟨by simpa [lowL] using hc.1, hc.2⟩, e1]
 · cases e
def rulH (r : Rul) : Hst := ⟨1, r.2, ad0⟩
theorem jX (r : Rul) : (rulH r).ok := rfl
theorem qqW (u : List UInt8) : (qcF u).1 = 1 \/ (qcF u).1 = 2 \/ (qcF u).1 = 3 := by
 unfold qcF
 split
 · exact .inr (.inl rfl)
 split
 · exact .inr (.inr rfl)
 · exact .inl rfl
structure qhY (r : Rul) : Prop where
 kind : r.1 = 1 \/ r.1 = 2 \/ r.1 = 3
 len : r.2.length <= 253
 host : hostV r.2 = some (rulH r)
theorem qkO {r : Rul} (h : rulR r = true) : qhY r := by
 unfold rulR at h
 rw [Bool.and_eq_true, Bool.and_eq_true, beq_iff_eq, qrL] at h
 obtain ⟨h1, h2, h3⟩ := h
 generalize ruleX r = s at *
 unfold jB at h1 h2 h3
 split at h1
 · rename_i hc; rw [if_pos hc] at h2; cases h2
 · rename_i hc
   rw [if_neg hc] at h2 h3
   have hk := qqW (qaB (zt s))
   generalize qcF (qaB (zt s)) = kn at *
   obtain ⟨k, n⟩ := kn
   unfold qox at h1 h2 h3
   cases hv : hostV n with
   | none => simp only [hv] at h2; cases h2
   | some g =>
     simp only [hv] at h1 h2 h3
     split at h2
     · rename_i hg
       rw [if_pos hg] at h3
       obtain ⟨g1, g2, g3⟩ := qry hv hg.1
       have e1 : r.1 = k := by rw [<- h3]
       have e2 : r.2 = lowL n := by rw [<- h3, g1]
       refine ⟨by rw [e1]; exact hk, by rw [e2]; exact g3, ?_⟩
       unfold rulH
       rw [e2, g2, g1]
     · cases h2
theorem qhY.right {r : Rul} (h : qhY r) : zd (rulH r) = true := by
 unfold zd
 have : qax (rulH r) = r.2 := by unfold qax rulH; rw [if_pos rfl]
 rw [this, h.host]
 exact (j7 (jX r) (jX r)).2 rfl
theorem qhY.labels {r : Rul} (h : qhY r) : qi (rulH r) = cutC 46 [] r.2 := by
 unfold qi
 rw [if_pos ⟨rfl, h.right⟩]; rfl
theorem qhY.ne {r : Rul} (h : qhY r) : (qi (rulH r)).length ≠ 0 := by
 rw [h.labels]
 have := List.length_pos_iff.2 (jD 46 r.2 [])
 omega
theorem qhY.revl {r : Rul} (h : qhY r) : revl r = (qi (rulH r)).reverse := by rw [h.labels]; rfl
theorem qg6 {r : Rul} : 0 < (revl r).length := by
 unfold Go.Pk.revl
 rw [List.length_reverse]
 exact List.length_pos_iff.2 (jD 46 r.2 [])
def qhd (R : Pth) (m : Nat) (r : Rul) : Nat :=
 if revl r = R.take (revl r).length then (if r.1 = 1 then max m (revl r).length else if r.1 = 2 /\ (revl r).length < R.length then max m ((revl r).length + 1) else m) else m
def qmW (R : Pth) (m : Nat) (r : Rul) : Nat := if revl r = R.take (revl r).length /\ r.1 = 3 then max m ((revl r).length - 1) else m
def docM (rs : List Rul) (R : Pth) : Nat := rs.foldl (qhd R) 1
def docE (rs : List Rul) (R : Pth) : Nat := rs.foldl (qmW R) 0
def sufV (rs : List Rul) (R : Pth) : Nat := if R = [] then 0 else if 0 < docE rs R then docE rs R else docM rs R
theorem qi8 {r : Rul} {R : Pth} (h : revl r = R.take (revl r).length) : (revl r).length <= R.length := by
 have := congrArg List.length h
 rw [List.length_take] at this; omega
theorem qqx (rs : List Rul) (R : Pth) : Top 1 (qdN rs R R.length (R.length - 1)) (docM rs R) := by
 suffices ∀ (rs : List Rul) (S : Nat -> Prop) (m : Nat), Top 1 S m -> Top 1 (fun x => S x \/ qdN rs R R.length (R.length - 1) x) (rs.foldl (qhd R) m) by
   exact (this rs _ 1 (Top.zero 1)).congr fun x => by simp
 intro rs
 induction rs with
 | nil => exact fun S m h => h.congr fun x => by unfold qdN; simp
 | cons r rs ih =>
   intro S m h
   rw [List.foldl_cons]
   have hsplit : ∀ x, qdN (r :: rs) R R.length (R.length - 1) x ↔ qdN [r] R R.length (R.length - 1) x \/ qdN rs R R.length (R.length - 1) x := fun x => by
     unfold qdN; simp
   have h1 : Top 1 (fun x => S x \/ qdN [r] R R.length (R.length - 1) x) (qhd R m r) := by
     have hl := qg6 (r := r)
     unfold qhd
     by_cases c : revl r = R.take (revl r).length
     · have hle := qi8 c
       rw [if_pos c]
       by_cases c1 : r.1 = 1
       · rw [if_pos c1]
         refine (h.max _).congr fun x => or_congr Iff.rfl ?_
         unfold qdN
         constructor
         · rintro rfl; exact ⟨r, by simp, c, .inl ⟨c1, hle, rfl⟩⟩
         · rintro ⟨r', hr', c', h'⟩
           rw [List.mem_singleton] at hr'; subst hr'
           rcases h' with ⟨_, _, h'⟩ | ⟨c2, _⟩
           · exact h'.symm
           · rw [c1] at c2; exact absurd c2 (by decide)
       · rw [if_neg c1]
         by_cases c2 : r.1 = 2 /\ (revl r).length < R.length
         · rw [if_pos c2]
           refine (h.max _).congr fun x => or_congr Iff.rfl ?_
           unfold qdN
           constructor
           · rintro rfl; exact ⟨r, by simp, c, .inr ⟨c2.1, by omega, rfl⟩⟩
           · rintro ⟨r', hr', c', h'⟩
             rw [List.mem_singleton] at hr'; subst hr'
             rcases h' with ⟨c3, _⟩ | ⟨_, _, h'⟩
             · exact absurd c3 c1
             · exact h'.symm
         · rw [if_neg c2]
           refine h.congr fun x => ?_
           have : ¬ qdN [r] R R.length (R.length - 1) x := by
             rintro ⟨r', hr', c', h'⟩
             rw [List.mem_singleton] at hr'; subst hr'
             rcases h' with ⟨c3, _⟩ | ⟨c3, c4, _⟩
             · exact c1 c3
             · exact c2 ⟨c3, by omega⟩
           simp [this]
     · rw [if_neg c]
       refine h.congr fun x => ?_
       have : ¬ qdN [r] R R.length (R.length - 1) x := by
         rintro ⟨r', hr', c', -⟩
         rw [List.mem_singleton] at hr'; subst hr'
         exact c c'
       simp [this]
   exact (ih _ _ h1).congr fun x => by rw [hsplit, or_assoc]
theorem qqP (rs : List Rul) (R : Pth) : Top 0 (qbA rs R R.length) (docE rs R) := by
 suffices ∀ (rs : List Rul) (S : Nat -> Prop) (m : Nat), Top 0 S m -> Top 0 (fun x => S x \/ qbA rs R R.length x) (rs.foldl (qmW R) m) by
   exact (this rs _ 0 (Top.zero 0)).congr fun x => by simp
 intro rs
 induction rs with
 | nil => exact fun S m h => h.congr fun x => by unfold qbA; simp
 | cons r rs ih =>
   intro S m h
   rw [List.foldl_cons]
   have hsplit : ∀ x, qbA (r :: rs) R R.length x ↔ qbA [r] R R.length x \/ qbA rs R R.length x := fun x => by
     unfold qbA; simp
   have h1 : Top 0 (fun x => S x \/ qbA [r] R R.length x) (qmW R m r) := by
     unfold qmW
     by_cases c : revl r = R.take (revl r).length /\ r.1 = 3
     · rw [if_pos c]
       refine (h.max _).congr fun x => or_congr Iff.rfl ?_
       unfold qbA
       constructor
       · rintro rfl; exact ⟨r, by simp, c.1, c.2, qi8 c.1, rfl⟩
       · rintro ⟨r', hr', c', c3, c4, h'⟩
         rw [List.mem_singleton] at hr'; subst hr'
         exact h'.symm
     · rw [if_neg c]
       refine h.congr fun x => ?_
       have : ¬ qbA [r] R R.length x := by
         rintro ⟨r', hr', c', c3, c4, h'⟩
         rw [List.mem_singleton] at hr'; subst hr'
         exact c ⟨c', c3⟩
       simp [this]
   exact (ih _ _ h1).congr fun x => by rw [hsplit, or_assoc]
theorem Trie.take {ps : List Pth} {kvs : List (qeH × Int)} (t : Trie ps kvs) : ∀ (j : Nat) (p : Pth), p ∈ ps -> p.length <= j -> ∀ k, p.take k ∈ ps
 | 0, p, hp, hl, k => by
   have : p = [] := List.length_eq_zero_iff.1 (by omega)
   subst this; rw [List.take_nil]; exact hp
 | j + 1, p, hp, hl, k => by
   by_cases hk : p.length <= k
   · rw [List.take_of_length_le hk]; exact hp
   · obtain ⟨q, l, rfl⟩ : ∃ q l, p = q ++ [l] := by
       rcases List.eq_nil_or_concat p with h | ⟨q, l, h⟩
       · subst h; simp at hk
       · exact ⟨q, l, by simpa using h⟩
     rw [List.length_append, List.length_singleton] at hl hk
     have := Trie.take t j q (t.closed _ _ hp) (by omega) k
     rw [List.take_append_of_le_length (by omega)]; exact this
theorem qsx {ps : List Pth} {kvs : List (qeH × Int)} {es : List (List Bool)} {rs : List Rul} (T : Trie ps kvs) (t : Tab ps es rs) {R : Pth} {k : Nat} (hk : k < R.length) (hno : R.take (k + 1) ∉ ps) :
   (∀ x, qdN rs R k k x ↔ qdN rs R R.length (R.length - 1) x) /\ (∀ x, qbA rs R k x ↔ qbA rs R R.length x) := by
 have hle : ∀ r ∈ rs, revl r = R.take (revl r).length -> (revl r).length <= k := fun r hr c => by
   refine Decidable.byContradiction fun hc => hno ?_
   have := T.take _ _ (t.rules r hr) (Nat.le_refl _) (k + 1)
   rw [c, List.take_take, Nat.min_eq_left (by omega)] at this
   exact this
 refine ⟨fun x => ?_, fun x => ?_⟩
 · constructor
   · rintro ⟨r, hr, c, h⟩
     refine ⟨r, hr, c, ?_⟩
     rcases h with ⟨h1, h2, h3⟩ | ⟨h1, h2, h3⟩
     · exact .inl ⟨h1, by omega, h3⟩
     · exact .inr ⟨h1, by omega, h3⟩
   · rintro ⟨r, hr, c, h⟩
     have := hle r hr c
     refine ⟨r, hr, c, ?_⟩
     rcases h with ⟨h1, h2, h3⟩ | ⟨h1, h2, h3⟩
     · exact .inl ⟨h1, this, h3⟩
     · exact .inr ⟨h1, this, h3⟩
 · constructor
   · rintro ⟨r, hr, c, h1, h2, h3⟩; exact ⟨r, hr, c, h1, by omega, h3⟩
   · rintro ⟨r, hr, c, h1, h2, h3⟩; exact ⟨r, hr, c, h1, hle r hr c, h3⟩
theorem qou {rs : List Rul} {R : Pth} {k kk : Nat} (hk : k <= R.length) : (rs.any fun r => decide (r.1 = (kk : Int) /\ revl r = R.take k)) = true ↔ ∃ r ∈ rs, r.1 = (kk : Int) /\ revl r = R.take (revl r).length /\ (revl r).length = k := by
 rw [List.any_eq_true]
 constructor
 · rintro ⟨r, hr, h⟩
   rw [dTx] at h
   have hl : (revl r).length = k := by rw [h.2, List.length_take]; omega
   exact ⟨r, hr, h.1, by rw [hl]; exact h.2, hl⟩
 · rintro ⟨r, hr, h1, h2, h3⟩
   exact ⟨r, hr, decide_eq_true ⟨h1, by rw [h3] at h2; exact h2⟩⟩
theorem qrH {rs : List Rul} {R : Pth} {k m : Nat} (hk : k <= R.length) (h : Top 1 (qdN rs R k (k - 1)) m) (hm : m <= k + 1) :
   Top 1 (qdN rs R k k) (if (rs.any fun r => decide (r.1 = ((2 : Nat) : Int) /\ revl r = R.take k)) = true then k + 1 else m) := by
 have hx : ∀ x, qdN rs R k k x ↔ (qdN rs R k (k - 1) x \/ (x = k + 1 /\ (rs.any fun r => decide (r.1 = ((2 : Nat) : Int) /\ revl r = R.take k)) = true)) := fun x => by
   rw [qou hk]
   constructor
   · rintro ⟨r, hr, c, h⟩
     rcases h with h | ⟨h1, h2, h3⟩
     · exact .inl ⟨r, hr, c, .inl h⟩
     · by_cases e : (revl r).length = k
       · exact .inr ⟨by omega, r, hr, h1, c, e⟩
       · exact .inl ⟨r, hr, c, .inr ⟨h1, by omega, h3⟩⟩
   · rintro (⟨r, hr, c, h⟩ | ⟨rfl, r, hr, h1, c, h2⟩)
     · refine ⟨r, hr, c, ?_⟩
       rcases h with h | ⟨h1, h2, h3⟩
       · exact .inl h
       · exact .inr ⟨h1, by omega, h3⟩
     · exact ⟨r, hr, c, .inr ⟨h1, by omega, by omega⟩⟩
 split
 · rename_i hm2
   have := h.max (k + 1)
   rw [Nat.max_eq_right hm] at this
   exact this.congr fun x => by rw [hx x, and_iff_left hm2]
 · rename_i hm2
   exact h.congr fun x => by rw [hx x]; exact ⟨.inl, fun h => h.elim id fun h => absurd h.2 hm2⟩
theorem qrr {rs : List Rul} {R : Pth} {k m : Nat} (hk : k < R.length) (h : Top 1 (qdN rs R k k) m) (hm : m <= k + 1) :
   Top 1 (qdN rs R (k + 1) k) (if (rs.any fun r => decide (r.1 = ((1 : Nat) : Int) /\ revl r = R.take (k + 1))) = true then k + 1 else m) := by
 have hx : ∀ x, qdN rs R (k + 1) k x ↔ (qdN rs R k k x \/ (x = k + 1 /\ (rs.any fun r => decide (r.1 = ((1 : Nat) : Int) /\ revl r = R.take (k + 1))) = true)) := fun x => by
   rw [qou (by omega)]
   constructor
   · rintro ⟨r, hr, c, h⟩
     rcases h with ⟨h1, h2, h3⟩ | h
     · by_cases e : (revl r).length = k + 1
       · exact .inr ⟨by omega, r, hr, h1, c, e⟩
       · exact .inl ⟨r, hr, c, .inl ⟨h1, by omega, h3⟩⟩
     · exact .inl ⟨r, hr, c, .inr h⟩
   · rintro (⟨r, hr, c, h⟩ | ⟨rfl, r, hr, h1, c, h2⟩)
     · refine ⟨r, hr, c, ?_⟩
       rcases h with ⟨h1, h2, h3⟩ | h
       · exact .inl ⟨h1, by omega, h3⟩
       · exact .inr h
     · exact ⟨r, hr, c, .inl ⟨h1, by omega, h2⟩⟩
 split
 · rename_i hm2
   have := h.max (k + 1)
   rw [Nat.max_eq_right hm] at this
   exact this.congr fun x => by rw [hx x, and_iff_left hm2]
 · rename_i hm2
   exact h.congr fun x => by rw [hx x]; exact ⟨.inl, fun h => h.elim id fun h => absurd h.2 hm2⟩
theorem qpW {rs : List Rul} {R : Pth} {k m : Nat} (hk : k < R.length) (h : Top 0 (qbA rs R k) m) (hm : m <= k) :
   Top 0 (qbA rs R (k + 1)) (if (rs.any fun r => decide (r.1 = ((3 : Nat) : Int) /\ revl r = R.take (k + 1))) = true then k else m) := by
 have hx : ∀ x, qbA rs R (k + 1) x ↔ (qbA rs R k x \/ (x = k /\ (rs.any fun r => decide (r.1 = ((3 : Nat) : Int) /\ revl r = R.take (k + 1))) = true)) := fun x => by
   rw [qou (by omega)]
   constructor
   · rintro ⟨r, hr, c, h1, h2, h3⟩
     by_cases e : (revl r).length = k + 1
     · exact .inr ⟨by omega, r, hr, h1, c, e⟩
     · exact .inl ⟨r, hr, c, h1, by omega, h3⟩
   · rintro (⟨r, hr, c, h1, h2, h3⟩ | ⟨rfl, r, hr, h1, c, h2⟩)
     · exact ⟨r, hr, c, h1, by omega, h3⟩
     · exact ⟨r, hr, c, h1, by omega, by omega⟩
 split
 · rename_i hm2
   have := h.max k
   rw [Nat.max_eq_right hm] at this
   exact this.congr fun x => by rw [hx x, and_iff_left hm2]
 · rename_i hm2
   exact h.congr fun x => by rw [hx x]; exact ⟨.inl, fun h => h.elim id fun h => absurd h.2 hm2⟩
end Go.Pk
namespace Go.Pk
open Go.RowKit (Below)
def pubB (rs : List Rul) (h : Hst) : Bool := decide (0 < (qi h).length) && (sufV rs (qi h).reverse == (qi h).length)
end Go.Pk
namespace Go.Proofs.YtndbpedpdbjkpaaGreatDoor
open Go.Pk
open Go.RowKit (Below)
def qup (w : World) (rs : List Rul) (v : Value) (w' : World) : Prop := ∃ kt km a n c ps kvs es, v = .pointer (some ⟨kt, 0, none⟩) /\ qbF w qq qt kt km a n c ps kvs es (rs.filter rulR) w'
theorem qs1 (w : World) : (Instr.makeSlice zh (.int .i64 (1 : Int)) (.int .i64 (1 : Int))).run prog w = .ok (.slice (some ⟨w.heap.size, 0, none⟩) 1 1) (w.alloc (.cells #[.bool false, .bool false, .bool false, .bool false] qt)) := by kernel_rfl
theorem qdP {w : World} {A : Bl} {a : Option Addr} {n c : Nat} {rs : List Rul} (h : Sl tRul w A a n c rs) {i : Nat} (hi : i < rs.length) : (Instr.loadAt ql (.pointer (qn a (i : Int) 2))).run prog w = .ok (rulV rs[i]) w := by
 obtain ⟨ti, hti, hsz, _, _⟩ := qlr.info
 have hag : (prog.underlying ql).map aggD = some true := by kernel_rfl
 cases hu : prog.underlying ql with
 | none => rw [hu] at hag; cases hag
 | some d =>
   rw [hu] at hag
   simp only [Option.map_some, Option.some.injEq] at hag
   obtain ⟨vs, h1, h2⟩ := h.loadA hu hag hti (k := 2) rfl hsz (i := (i : Int)) (by simpa using hi)
   have h2 : vs = rulC rs[i] := h2
   rw [h2] at h1; exact h1
theorem qbh {A : Bl} {a0 : Option Addr} {l0 c0 : Nat} {rs : List Rul} {w : World} (hs : Sl tRul w A a0 l0 c0 rs) (hl : rs.length <= 1000000) (hr : ∀ r ∈ rs, r.2.length <= 1000000) (he : Env w) :
   Calls prog qp #[.slice a0 l0 c0] w (Ret (qup w rs)) := by
 apply qmt
 unfold qjy
 intro k9 w9 hk9 hw9
 have hb9 := (hw9 ▸ qf w _ : Below w.heap.size w w9)
 have m9 : MapG ekE evI w9 k9 [] := MapG.new hk9 hw9
 refine ⟨_, _, _, _, qs1 w9, ?_⟩
 generalize hw10 : w9.alloc (.cells #[.bool false, .bool false, .bool false, .bool false] qt) = w10
 have hb10 := (hw10 ▸ qf w9 _ : Below w9.heap.size w9 w10)
 have hB10 := qb hb9 hb10 hb9.size
 have o10 : Ow tB4 qt w10 NoB (some ⟨w9.heap.size, 0, none⟩) 1 1 [[false, false, false, false]] :=
   Ow.newF (T := tB4) (l := [.bool false, .bool false, .bool false, .bool false]) (xs := [[false, false, false, false]]) (w := w9) qr9 rfl hw10.symm (RepL.one ⟨rfl, rfl⟩) (by decide)
 intro k12 w12 hk12 hw12
 have hb12 := (hw12 ▸ qf w10 _ : Below w10.heap.size w10 w12)
 have hB12 := qb hB10 hb12 hB10.size
 have lt9 := m9.lt
 have s10 := hb10.size
 have s9 := hb9.size
 have sz10 : w10.heap.size = w9.heap.size + 1 := by rw [<- hw10]; simp
 have T0 : qbF w qq qt k12 k9 (some ⟨w9.heap.size, 0, none⟩) 1 1 [[]] [] [[false, false, false, false]] [] w12 :=
   ⟨qm.new hk12 hw12, (m9.below hb10).below hb12, o10.below hb12, qtc, qux, hB12, by omega, fun g hg => by
     simp [ownB] at hg
     omega, by omega, by omega⟩
 clear m9 o10
 have hn := hs.len
 subst hn
 refine ⟨fun m i w' => ∃ k : Nat, k <= rs.length /\ i = (k : Int) /\ m = rs.length - k /\ ∃ a n c ps kvs es, qbF w qq qt k12 k9 a n c ps kvs es ((rs.take k).filter rulR) w' /\ ps.length <= 1 + 300 * k, ⟨_, 0, by omega, rfl, rfl, _, _, _, _, _, _, T0, by decide⟩, ?_⟩
 intro m i
 refine AllJ.of ?_ _
 rintro w1 ⟨k, hk, rfl, rfl, a, n, c, ps, kvs, es, S1, hps⟩
 refine BCase.of (fun h => ?_) (fun h => ?_) <;> simp only [dTx, dFx] at h
 · have hlt : k < rs.length := by omega
   have hs1 := hs.below S1.hb
   have hlen := hr _ (List.getElem_mem hlt)
   refine ⟨⟨⟨by omega, h⟩, hs1.isSome hlt⟩, _, _, qdP hs1 hlt, ?_⟩
   have htake : (rs.take (k + 1)).filter rulR = (rs.take k).filter rulR ++ (if rulR rs[k] = true then [rs[k]] else []) := by
     rw [List.take_succ_eq_append_getElem hlt, List.filter_append]
     congr 1
     rw [List.filter_cons, List.filter_nil]
   generalize rs[k] = r at *
   refine zx.new (zs := rulC (0, [])) (cs := rulC r) rfl rfl (qbI r) w1 fun k5 w5 hk5 h5 hb5 => ?_
   refine ⟨_, _, zx.load0 h5 rfl, ?_⟩
   have S5 := S1.below hb5
   refine callK (qpc r (by omega) w5) ?_
   rintro _ w6 ⟨rfl, hb6⟩
   have S6 := S5.below hb6
   have hm : (ruleX r).length <= 1000002 := by
     have : (markL r.1).length <= 2 := by unfold markL; split; decide; split; decide; decide
     unfold ruleX; simp; omega
   refine ⟨_, rfl, ?_⟩
   refine callK (qoY (ruleX r) (by omega) w6 (he.step S6.hb)) ?_
   rintro _ w7 ⟨rfl, hb7⟩
   have S7 := S6.below hb7
   refine ⟨_, _, _, _, rfl, ?_⟩
   have hR : rulR r = (((jB (ruleX r)).2.2 == 0) && ((jB (ruleX r)).2.1 && qnJ (jB (ruleX r)).1 r)) := rfl
   generalize jB (ruleX r) = x at *
   obtain ⟨q, b, e⟩ := x
   simp only at hR
   refine zx.new (zs := rulC (0, [])) (cs := rulC q) rfl rfl (qbI q) w7 fun k8 w8 hk8 h8 hb8 => ?_
   have S8 := S7.below hb8
   have h58 := ((h5.below hb6).below hb7).below hb8
   refine qav (w := w8) (rulR r) ?_ ?_
   · rw [hR]
     refine BCase.of (fun c1 => ?_) (fun c1 => ⟨rfl, by simp only at c1; rw [c1]; rfl⟩)
     refine BCase.of (fun c2 => ?_) (fun c2 => ⟨rfl, by simp only at c1 c2; rw [c1, c2]; rfl⟩)
     refine ⟨_, _, zx.load0 h8 rfl, _, _, zx.load0 h58 rfl, _, qqV q r w8, rfl, ?_⟩
     simp only at c1 c2; rw [c1, c2]; rfl
   · refine BCase.of (fun c1 => ?_) (fun c1 => ?_)
     · have g := qkO c1
       refine ⟨_, _, zx.load0 h58 rfl, ?_⟩
       refine callK (qog he S8 r ?_ g.len hps (by omega)) ?_
       · rcases g.kind with e | e | e
         · exact ⟨1, e, by decide⟩
         · exact ⟨2, e, by decide⟩
         · exact ⟨3, e, by decide⟩
       rintro _ w9' ⟨rfl, a', n', c', ps', kvs', es', S9, hps'⟩
       refine ⟨rfl, rs.length - (k + 1), by omega, k + 1, by omega, by rw [wrap_i64 (by omega) (by omega)]; omega, rfl, a', n', c', ps', kvs', es', ?_, by omega⟩
       rw [htake, if_pos c1]; exact S9
     · refine ⟨rs.length - (k + 1), by omega, k + 1, by omega, by rw [wrap_i64 (by omega) (by omega)]; omega, rfl, a, n, c, ps, kvs, es, ?_, by omega⟩
       rw [htake, if_neg (by rw [c1]; decide), List.append_nil]; exact S8
 · have : k = rs.length := by omega
   subst this
   rw [List.take_length] at S1
   exact ⟨_, _, _, _, _, _, _, _, rfl, S1⟩
theorem qkw {w0 : World} (he : Env w0) {kt km : Nat} {a : Option Addr} {n c : Nat} {ps : List Pth} {kvs : List (qeH × Int)} {es : List (List Bool)} {rs : List Rul} {w : World} (S : qbF w0 qq qt kt km a n c ps kvs es rs w) {h : Hst} (oh : h.ok) (hn : h.name.length <= 1000000000) :
   Calls prog qbP #[.pointer (some ⟨kt, 0, none⟩), h.v] w (Ret fun v w' => v = .int .i64 ((sufV rs (qi h).reverse : Nat) : Int) /\ Below w.heap.size w w') := by
 apply qfS
 unfold qcW
 intro k3 w3 hk3 hw3
 have hB3 := (hw3 ▸ qf w _ : Below w.heap.size w w3)
 have h3 : qm w3 k3 qc h.cells := qm.new hk3 hw3
 refine ⟨_, qs.load0 h3 (Hst.len oh), ?_⟩
 refine callK (qbv oh hn w3 (he.step (S.below hB3).hb)) ?_
 rintro _ w4 ⟨aL, lL, cL, rfl, ho, -, hb4⟩
 have hB4 := qb hB3 hb4 hB3.size
 have hll := qfD h
 generalize qi h = L at *
 have hnL := ho.len
 subst hnL
 have hRlen : L.reverse.length = L.length := List.length_reverse
 refine ⟨_, _, _, rfl, _, run_min_int2 _ _ _ _ _ _ _, ?_⟩
 have hn5 := S.h3.len
 subst hn5
 have hel := S.t.len
 refine ⟨fun m e w' => ∃ mm ee : Nat, m = (mm : Int) /\ e = (ee : Int) /\ (if 0 < ee then ee else mm) = sufV rs L.reverse /\ Below w.heap.size w w', ?_, ?_⟩
 · refine ⟨fun m nd mo ex i w' => ∃ k node mm ee : Nat, k <= L.length /\ i = (k : Int) + 1 /\ m = L.length - k /\ nd = (node : Int) /\ mo = (mm : Int) /\ ex = (ee : Int) /\ posP (L.reverse.take k) ps 0 = some node /\ (L = [] -> mm = 0) /\ (L ≠ [] -> Top 1 (qdN rs L.reverse k (k - 1)) mm) /\ mm <= k + 1 /\ Top 0 (qbA rs L.reverse k) ee /\ ee <= k /\ Below w4.heap.size w4 w', ?_, ?_⟩
   · refine ⟨_, 0, 0, (if L = [] then 0 else 1), 0, by omega, rfl, rfl, rfl, ?_, rfl, S.T.first 0 [] S.T.root, fun e => if_pos e, fun e => ?_, ?_, ?_, Nat.le_refl _, Below.refl _ _⟩
     · by_cases e : L = []
       · subst e; rfl
       · rw [if_neg e, if_neg (by have := List.length_pos_iff.2 e; omega)]; rfl
     · rw [if_neg e]
       exact (Top.zero 1).congr fun x => ⟨fun h => h.elim, fun ⟨r, _, _, h⟩ => by have := qg6 (r := r); omega⟩
     · split <;> omega
     · exact (Top.zero 0).congr fun x => ⟨fun h => h.elim, fun ⟨r, _, _, h⟩ => by have := qg6 (r := r); omega⟩
   intro m nd mo ex i
   refine AllJ.of ?_ _
   rintro w5 ⟨k, node, mm, ee, hk, rfl, rfl, rfl, rfl, rfl, hpos, hmz, hmt, hmm, het, hee, hb5⟩
   have hB5 := qb hB4 hb5 hB4.size
   have S5 := S.below hB5
   have ho5 := ho.below hb5
   simp only [qjG]
   refine BCase.of (fun hc => ?_) (fun hc => ?_) <;> simp only [dTx, dFx] at hc
   · have hlt : k < L.length := by omega
     have hne : L ≠ [] := fun e => by rw [e] at hlt; cases hlt
     have pn := (qe2 hpos).2
     rw [Nat.sub_zero] at pn
     have hnl : node < es.length := by rw [hel]; exact (List.getElem?_eq_some_iff.1 pn).1
     have mget : ∀ (nd : Nat) (p : Pth) (hnd : nd < es.length), ps[nd]? = some p -> ∀ (j : Nat), j < 4 -> ∀ (vs : List Value), tB4.rep w5 AllB vs es[nd] -> vs[j]? = some (.bool (rs.any fun r => decide (r.1 = (j : Int) /\ revl r = p))) := fun nd p hnd hp j hj vs hvs => by
       have hrow := S.t.mark nd p hp
       rw [List.getElem?_eq_getElem hnd] at hrow
       have hvs : vs = es[nd].map Value.bool /\ es[nd].length = 4 := hvs
       rw [hvs.1, Option.some.inj hrow, List.getElem?_map, qlX _ _ _ hj]; rfl
     have hsome := S5.h3.all.isSome hnl
     have hel2 : ∀ x : Int, Option.isSome (qn a x 4) = true := fun x => by
       cases a with
       | none => cases hsome
       | some x => rfl
     have T2 := qrH (rs := rs) (R := L.reverse) (k := k) (by rw [hRlen]; exact hk) (hmt hne) hmm
     have hmm2 : (if (rs.any fun r => decide (r.1 = ((2 : Nat) : Int) /\ revl r = L.reverse.take k)) = true then k + 1 else mm) <= k + 1 := by split <;> omega
     refine ⟨fun n7 w' => w' = w5 /\ n7 = (((if (rs.any fun r => decide (r.1 = ((2 : Nat) : Int) /\ revl r = L.reverse.take k)) = true then k + 1 else mm) : Nat) : Int), ?_, ?_⟩
     · refine ⟨rfl, rfl, _, _, _, S5.h1.load1 qai rfl rfl, ⟨⟨by omega, by omega⟩, hsome⟩, ⟨⟨by decide, by decide⟩, hel2 _⟩, _, S5.h3.all.loadC (P := prog) un_bool rfl (k := 4) rfl (i := node) (j := 2) hnl (by decide) (mget node _ hnl pn 2 (by decide)), ?_⟩
       exact BCase.of (fun c => ⟨rfl, by rw [if_pos c]; rfl⟩) (fun c => ⟨rfl, by rw [if_neg (by rw [c]; decide)]⟩)
     intro n7
     refine AllJ.of ?_ _
     rintro w6 ⟨hw6, rfl⟩
     rw [hw6]; clear hw6
     generalize (if (rs.any fun r => decide (r.1 = ((2 : Nat) : Int) /\ revl r = L.reverse.take k)) = true then k + 1 else mm) = mm2 at *
     have ei : i64.wrap (((L.length : Nat) : Int) - ((k : Int) + 1)) = ((L.length - 1 - k : Nat) : Int) := by rw [wrap_i64 (by omega) (by omega)]; omega
     rw [ei]
     have hRk : L.reverse.take (k + 1) = L.reverse.take k ++ [L[L.length - 1 - k]'(by omega)] := by
       rw [List.take_succ_eq_append_getElem (by simpa using hlt), List.getElem_reverse]
     refine ⟨rfl, rfl, _, fun u hu => (S5.h1.below hu).load1 qU rfl rfl, ⟨⟨by omega, by omega⟩, ho5.all.isSome (by omega)⟩, _, fun u hu => (ho5.below hu).all.text un_string (i := L.length - 1 - k) (show L.length - 1 - k < L.length by omega), ?_⟩
     generalize L[L.length - 1 - k]'(by omega) = lab at *
     have hedge := S5.T.edge node lab
     rw [pn] at hedge
     simp only at hedge
     cases hq : posP (L.reverse.take k ++ [lab]) ps 0 with
     | none =>
       rw [hq] at hedge
       refine ⟨0, false, fun u hu => ?_, fun wq hwq => BCase.yes rfl ⟨mm2, ee, rfl, rfl, ?_, qb hB5 hwq hB5.size⟩⟩
       · have := (S5.h2.below hu).look2 (P := prog) qU qg1 qbr ((node : Int), lab)
         rw [hedge] at this; exact this
       · have hno : L.reverse.take (k + 1) ∉ ps := by rw [hRk]; exact qfh.1 hq
         obtain ⟨s1, s2⟩ := qsx S.T S.t (R := L.reverse) (k := k) (by rw [hRlen]; exact hlt) hno
         have e1 : mm2 = docM rs L.reverse := Top.eq (T2.congr s1) (qqx rs L.reverse)
         have e2 : ee = docE rs L.reverse := Top.eq (het.congr s2) (qqP rs L.reverse)
         unfold sufV
         rw [if_neg (fun hx => hne (List.reverse_eq_nil_iff.1 hx)), e1, e2]
     | some i2 =>
       rw [hq] at hedge
       refine ⟨(i2 : Int), true, fun u hu => ?_, fun wq hwq => BCase.no rfl ?_⟩
       · have := (S5.h2.below hu).look2 (P := prog) qU qg1 qbr ((node : Int), lab)
         rw [hedge] at this; exact this
       have pn2 := (qe2 hq).2
       rw [Nat.sub_zero] at pn2
       have hnl2 : i2 < es.length := by rw [hel]; exact (List.getElem?_eq_some_iff.1 pn2).1
       have S6 := S5.below hwq
       rw [<- hRk] at pn2 hq
       have T3 := qrr (rs := rs) (R := L.reverse) (k := k) (by rw [hRlen]; exact hlt) T2 hmm2
       have E3 := qpW (rs := rs) (R := L.reverse) (k := k) (by rw [hRlen]; exact hlt) het hee
       have hmm3 : (if (rs.any fun r => decide (r.1 = ((1 : Nat) : Int) /\ revl r = L.reverse.take (k + 1))) = true then k + 1 else mm2) <= k + 1 := by split <;> omega
       have hee3 : (if (rs.any fun r => decide (r.1 = ((3 : Nat) : Int) /\ revl r = L.reverse.take (k + 1))) = true then k else ee) <= k + 1 := by split <;> omega
       refine ⟨fun n7 w' => w' = wq /\ n7 = (((if (rs.any fun r => decide (r.1 = ((1 : Nat) : Int) /\ revl r = L.reverse.take (k + 1))) = true then k + 1 else mm2) : Nat) : Int), ?_, ?_⟩
       · refine ⟨rfl, rfl, _, _, _, S6.h1.load1 qai rfl rfl, ⟨⟨by omega, by omega⟩, hsome⟩, ⟨⟨by decide, by decide⟩, hel2 _⟩, _, S6.h3.all.loadC (P := prog) un_bool rfl (k := 4) rfl (i := i2) (j := 1) hnl2 (by decide) (mget i2 _ hnl2 pn2 1 (by decide)), ?_⟩
         exact BCase.of (fun c => ⟨rfl, by rw [if_pos c]; rfl⟩) (fun c => ⟨rfl, by rw [if_neg (by rw [c]; decide)]⟩)
       intro n7
       refine AllJ.of ?_ _
       rintro w7 ⟨hw7, rfl⟩
       rw [hw7]; clear hw7
       have next : ∀ ee2 : Nat, ee2 = (if (rs.any fun r => decide (r.1 = ((3 : Nat) : Int) /\ revl r = L.reverse.take (k + 1))) = true then k else ee) -> ∃ m' : Nat, m' < L.length - k /\ ∃ k' node' mm' ee' : Nat, k' <= L.length /\ i64.wrap ((k : Int) + 1 + 1) = (k' : Int) + 1 /\ m' = L.length - k' /\ (i2 : Int) = (node' : Int) /\ (((if (rs.any fun r => decide (r.1 = ((1 : Nat) : Int) /\ revl r = L.reverse.take (k + 1))) = true then k + 1 else mm2) : Nat) : Int) = (mm' : Int) /\ (ee2 : Int) = (ee' : Int) /\ posP (L.reverse.take k') ps 0 = some node' /\ (L = [] -> mm' = 0) /\ (L ≠ [] -> Top 1 (qdN rs L.reverse k' (k' - 1)) mm') /\ mm' <= k' + 1 /\ Top 0 (qbA rs L.reverse k') ee' /\ ee' <= k' /\ Below w4.heap.size w4 wq := fun ee2 he2 => by
         refine ⟨L.length - (k + 1), by omega, k + 1, i2, _, ee2, by omega, by rw [wrap_i64 (by omega) (by omega)]; omega, rfl, rfl, rfl, rfl, hq, fun e => absurd e hne, fun _ => T3, by omega, by rw [he2]; exact E3, by rw [he2]; exact hee3, qb hb5 hwq hb5.size⟩
       refine ⟨rfl, rfl, _, _, _, S6.h1.load1 qai rfl rfl, ⟨⟨by omega, by omega⟩, hsome⟩, ⟨⟨by decide, by decide⟩, hel2 _⟩, _, S6.h3.all.loadC (P := prog) un_bool rfl (k := 4) rfl (i := i2) (j := 3) hnl2 (by decide) (mget i2 _ hnl2 pn2 3 (by decide)), ?_⟩
       refine BCase.of (fun c => ?_) (fun c => ?_)
       · have e : i64.wrap ((k : Int) + 1 - 1) = (k : Int) := by rw [wrap_i64 (by omega) (by omega)]; omega
         rw [e]
         exact next k (by rw [if_pos c])
       · exact next ee (by rw [if_neg (by rw [c]; decide)])
   · have : k = L.length := by omega
     subst this
     refine ⟨mm, ee, rfl, rfl, ?_, hB5⟩
     by_cases e : L = []
     · subst e
       have := hmz rfl
       simp only [List.length_nil] at hee
       have : ee = 0 := by omega
       subst this
       unfold sufV
       simp [hmz rfl]
     · have hm := hmt e
       have e1 : mm = docM rs L.reverse := Top.eq hm (by have := qqx rs L.reverse; rw [hRlen] at this; exact this)
       have e2 : ee = docE rs L.reverse := Top.eq het (by have := qqP rs L.reverse; rw [hRlen] at this; exact this)
       unfold sufV
       rw [if_neg (fun hx => e (List.reverse_eq_nil_iff.1 hx)), e1, e2]
 · intro mo ex
   refine AllJ.of ?_ _
   rintro w5 ⟨mm, ee, rfl, rfl, hv, hB5⟩
   refine BCase.of (fun hc => ⟨?_, hB5⟩) (fun hc => ⟨?_, hB5⟩) <;> simp only [gt_iff_lt, dTx, dFx] at hc
   · rw [<- hv, if_pos (by omega)]
   · rw [<- hv, if_neg (by omega)]
theorem qfW {w0 : World} (he : Env w0) {kt km : Nat} {a : Option Addr} {n c : Nat} {ps : List Pth} {kvs : List (qeH × Int)} {es : List (List Bool)} {rs : List Rul} {w : World} (S : qbF w0 qq qt kt km a n c ps kvs es rs w) {h : Hst} (oh : h.ok) (hn : h.name.length <= 1000000000) :
   Calls prog jm #[.pointer (some ⟨kt, 0, none⟩), h.v] w (Ret fun v w' => v = .bool (pubB rs h) /\ Below w.heap.size w w') := by
 apply qfR
 unfold qcY
 intro k3 w3 hk3 hw3
 have hB3 := (hw3 ▸ qf w _ : Below w.heap.size w w3)
 have h3 : qm w3 k3 qc h.cells := qm.new hk3 hw3
 refine ⟨_, qs.load0 h3 (Hst.len oh), ?_⟩
 refine callK (qbv oh hn w3 (he.step (S.below hB3).hb)) ?_
 rintro _ w4 ⟨aL, lL, cL, rfl, ho, -, hb4⟩
 have hB4 := qb hB3 hb4 hB3.size
 refine ⟨_, _, _, rfl, ?_⟩
 have hnL := ho.len
 subst hnL
 unfold pubB
 refine BCase.of (fun hc => ?_) (fun hc => ⟨?_, hB4⟩) <;> simp only [gt_iff_lt, dTx, dFx] at hc
 · refine ⟨_, qs.load0 (h3.below hb4) (Hst.len oh), ?_⟩
   refine callK (qkw he (S.below hB4) oh hn) ?_
   rintro _ w5 ⟨rfl, hb5⟩
   refine ⟨_, rfl, ?_, qb hB4 hb5 hB4.size⟩
   rw [decide_eq_true (show 0 < (qi h).length by omega), Bool.true_and]
   congr 1
   rw [Bool.eq_iff_iff, beq_iff_eq, beq_iff_eq]; omega
 · rw [decide_eq_false (show ¬ 0 < (qi h).length by omega), Bool.false_and]
end Go.Proofs.YtndbpedpdbjkpaaGreatDoor
namespace Go.Pk
open Go.RowKit (Below)
def nmL : List (List UInt8) := [[], [78, 111, 110, 101], [76, 97, 120], [83, 116, 114, 105, 99, 116]]
def nmV : Value := .agg (nmL.map fun s => Value.string (mkS s)).toArray
def qmv (v : List UInt8) : Nat -> Int
 | 0 => 0
 | k + 1 => if lowL (nmL[k]?.getD []) = lowL v then (k : Int) else qmv v k
theorem qq6 (v : List UInt8) : qmv v 4 = qoh v := by
 have e0 : lowL (nmL[0]?.getD []) = [] := rfl
 have e1 : lowL (nmL[1]?.getD []) = [110, 111, 110, 101] := by decide
 have e2 : lowL (nmL[2]?.getD []) = [108, 97, 120] := by decide
 have e3 : lowL (nmL[3]?.getD []) = [115, 116, 114, 105, 99, 116] := by decide
 unfold qmv qmv qmv qmv qmv qoh
 rw [e0, e1, e2, e3]
 generalize lowL v = x
 by_cases h1 : x = [110, 111, 110, 101]
 · subst h1; rfl
 · by_cases h2 : x = [108, 97, 120]
   · subst h2; rfl
   · by_cases h3 : x = [115, 116, 114, 105, 99, 116]
     · subst h3; rfl
     · rw [if_neg (Ne.symm h3), if_neg (Ne.symm h2), if_neg (Ne.symm h1), if_neg h1, if_neg h2, if_neg h3]
       split <;> rfl
def nameOf (l : List UInt8) : List UInt8 × List UInt8 := if qnR l then (qcg l, qbW l) else ([], qcg l)
def qbE (h : Hdr) (x : List UInt8) : Hdr := if (qbW x).length <= 1024 then qdZ h (lowL (qcg x)) (qbW x) else h
def qM (s : List UInt8) : Hdr × Int :=
 if s.any qcM = true then (hdr0, 81)
 else if (nameOf ((cutC 59 [] s).headD [])).1 ++ (nameOf ((cutC 59 [] s).headD [])).2 = [] then (hdr0, 82)
 else if 4096 < (nameOf ((cutC 59 [] s).headD [])).1.length + (nameOf ((cutC 59 [] s).headD [])).2.length then (hdr0, 83)
 else (((cutC 59 [] s).drop 1).foldl qbE { hdr0 with name := (nameOf ((cutC 59 [] s).headD [])).1, value := (nameOf ((cutC 59 [] s).headD [])).2 }, 0)
theorem qiH (s : List UInt8) : (qcg s).length <= s.length := Nat.le_trans (qjV _ _) (jz _ _)
theorem qiP (s : List UInt8) : (qbW s).length <= s.length := by
 have h1 := qjV isBl ((s.dropWhile (· != 61)).drop 1)
 have h2 := (List.dropWhile_sublist (· != (61 : UInt8)) (l := s)).length_le
 rw [List.length_drop] at h1
 unfold qbW zt; omega
theorem qtJ (h : Hdr) : ∀ c ∈ h.v.cells.toList, c.oneCell' = true := by
 intro c hc
 simp only [Hdr.v, Value.cells, Hdr.cells, List.mem_cons, List.mem_nil_iff, or_false] at hc
 rcases hc with rfl | rfl | rfl | rfl | rfl | rfl | rfl | rfl | rfl | rfl | rfl <;> rfl
end Go.Pk
namespace Go.Proofs.YtndbpedpdbjkpaaGreatDoor
open Go.Pk
open Go.RowKit (Below)
theorem qbR (h : Hdr) {w : World} {k : Nat} {vs : List Value} (ha : qm w k qd vs) (hl : vs.length = 11) :
   ∃ wx, (Instr.storeAt qd (.pointer (some ⟨k, 0, none⟩)) h.v).run prog w = .ok () wx /\ qm wx k qd h.cells /\ w.grownBy wx (some k) := by
 obtain ⟨wx, hs, h2, hg⟩ := ha.store (P := prog) qjk (i := 0) (v := h.v) rfl (by omega) (qtJ h)
 refine ⟨wx, hs, ?_, hg⟩
 rw [List.take_zero, List.nil_append, List.drop_eq_nil_of_le (by omega), List.append_nil] at h2
 exact h2
theorem zo (h : Hdr) {w : World} {k : Nat} (ha : qm w k qd h.cells) : (Instr.loadAt qd (.pointer (some ⟨k, 0, none⟩))).run prog w = .ok h.v w := by
 obtain ⟨ti, hti, hsz, _, _⟩ := qjk.info
 cases hu : prog.underlying qd with
 | none => have : (prog.underlying qd).map aggD = some true := by kernel_rfl
           rw [hu] at this; cases this
 | some d =>
   have : (prog.underlying qd).map aggD = some true := by kernel_rfl
   rw [hu] at this
   simp only [Option.map_some, Option.some.injEq] at this
   exact ha.loadA hu this hti (us := h.cells) (i := 0) (by rw [hsz]; rfl) (fun j hj => by rw [Nat.zero_add])
theorem qgC (h : Hdr) {w w' : World} {k2 : Nat} {vs : List Value} (h2 : qm w' k2 qd vs) (hl : vs.length = 11) (hb : Below w.heap.size w w') (hk : w.heap.size <= k2) {e : Int} {K : Value -> World -> Prop}
   (hK : ∀ wx, Below w.heap.size w wx -> K (.tuple #[h.v, .int .i64 e]) wx) :
   ∃ (wx : World), (Instr.storeAt qd (.pointer (some ⟨k2, 0, none⟩)) h.v).run prog w' = .ok () wx /\
     ∃ (s0 : List UInt8) (s1 : List UInt8) (s2 : List UInt8) (s3 : List UInt8) (b4 : Bool) (n5 : Int) (b6 : Bool) (n7 : Int) (b8 : Bool) (b9 : Bool) (n10 : Int),
       (qC qd (.pointer (some ⟨k2, 0, none⟩))).run prog wx = .ok (.agg #[.string (mkS s0), .string (mkS s1), .string (mkS s2), .string (mkS s3), .bool b4, .int .i64 n5, .bool b6, .int .i64 n7, .bool b8, .bool b9, .int .i64 n10]) wx /\
       K (.tuple #[.agg #[.string (mkS s0), .string (mkS s1), .string (mkS s2), .string (mkS s3), .bool b4, .int .i64 n5, .bool b6, .int .i64 n7, .bool b8, .bool b9, .int .i64 n10], .int .i64 e]) wx := by
 obtain ⟨wx, hs, h3, hg⟩ := qbR h h2 hl
 exact ⟨wx, hs, h.name, h.value, h.domain, h.path, h.hasE, h.exp, h.hasA, h.age, h.sec, h.http, h.same, qm.res (zo h h3), hK wx (hb.grown hg hb.size fun x e => by cases e; exact hk)⟩
theorem qel (w : World) : Calls prog qci #[] w (Ret fun v w' => v = nmV /\ Below w.heap.size w w') := by
 apply qkn
 unfold qgN
 intro k w1 hk hw
 have hB := (hw ▸ qf w _ : Below w.heap.size w w1)
 have ha : qm w1 k je (List.replicate 4 (Value.string (mkS []))) := qm.new hk hw
 obtain ⟨wx, hs, h2, hg⟩ := ha.store (P := prog) qhx (i := 0) (v := nmV) rfl (by decide) (by
   intro c hc
   simp only [nmV, Value.cells] at hc
   obtain ⟨s, _, rfl⟩ := List.mem_map.1 (by simpa using hc)
   rfl)
 have h3 : qm wx k je (nmL.map fun s => Value.string (mkS s)) := h2
 obtain ⟨ti, hti, hsz, _, _⟩ := qhx.info
 refine ⟨wx, hs, _, _, _, _, qm.res (h3.loadA qmZ rfl hti (us := nmL.map fun s => Value.string (mkS s)) (i := 0) (by rw [hsz]; rfl) (fun j hj => by rw [Nat.zero_add])), rfl, hB.grown hg hB.size fun x e => by cases e; omega⟩
theorem qqH (w : World) : ∀ k : Nat, k < 4 -> (Instr.index je nmV (.int .i64 (k : Int))).run prog w = .ok (.string (mkS (nmL[k]?.getD []))) w
 | 0, _ => by kernel_rfl
 | 1, _ => by kernel_rfl
 | 2, _ => by kernel_rfl
 | 3, _ => by kernel_rfl
 | n + 4, h => by omega
def qqv (k : Nat) (h : Hdr) (w : World) (v : Value) (w' : World) : Prop := v = .tuple #[] /\ qm w' k qd h.cells /\ w.grownBy w' (some k)
theorem qbV {k : Nat} {h : Hdr} {w w' : World} (ha : qm w' k qd h.cells) (hg : w.grownBy w' (some k)) : qqv k h w (.tuple #[]) w' := ⟨rfl, ha, hg⟩
theorem qh5 (k : Nat) (h : Hdr) (key value : List UInt8) (hl : value.length <= 100000) (w : World) (ha : qm w k qd h.cells) :
   Calls prog qcQ #[.pointer (some ⟨k, 0, none⟩), .string (mkS key), .string (mkS value)] w (Ret (qqv k (qdZ h key value) w)) := by
 apply qhg
 unfold qdY
 simp only [qjG]
 have h0 : Option.isSome (some (⟨k, 0, none⟩ : Addr)) = true := rfl
 have g0 := qq1 w (some k)
 have bb : ∀ b : Bool, (Value.bool b).cells = #[Value.bool b] := fun _ => rfl
 refine BCase.of (fun h1 => ?_) (fun h1 => ?_)
 · rw [beq_iff_eq] at h1
   refine callK (qmu value (by omega) w) ?_
   rintro _ w1 ⟨rfl, hb1⟩
   have ha1 := ha.below hb1
   have hg1 := jI hb1 (some k)
   unfold qdZ
   rw [if_pos h1]
   unfold qjP
   by_cases hc : qhi (qdo value)
   · rw [if_pos hc, if_pos hc]
     refine ⟨_, _, rfl, BCase.yes rfl ⟨h0, h0, ?_⟩⟩
     obtain ⟨w2, hs2, ha2, hg2⟩ := ha1.put (P := prog) qca (i := 4) (v := .bool true) (by simp [Hdr.cells]) rfl rfl
     refine ⟨w2, hs2, h0, h0, ?_⟩
     obtain ⟨w3, hs3, ha3, hg3⟩ := ha2.put (P := prog) qew (i := 5) (v := .int .i64 (qcb (qdo value))) (by simp [Hdr.cells]) rfl rfl
     exact ⟨w3, hs3, qbV ha3 (zf (zf hg1 hg2) hg3)⟩
   · rw [if_neg hc, if_neg hc]
     exact ⟨_, _, rfl, BCase.no rfl (qbV ha1 hg1)⟩
 rw [beq_eq_false_iff_ne] at h1
 refine BCase.of (fun h2 => ?_) (fun h2 => ?_)
 · rw [beq_iff_eq] at h2
   refine callK (qot value (by omega) w) ?_
   rintro _ w1 ⟨rfl, hb1⟩
   have ha1 := ha.below hb1
   have hg1 := jI hb1 (some k)
   unfold qdZ
   rw [if_neg h1, if_pos h2]
   unfold ageT
   cases ageV value with
   | none => exact ⟨_, _, rfl, BCase.no rfl (qbV ha1 hg1)⟩
   | some n =>
     refine ⟨_, _, rfl, BCase.yes rfl ⟨h0, h0, ?_⟩⟩
     obtain ⟨w2, hs2, ha2, hg2⟩ := ha1.put (P := prog) qca (i := 6) (v := .bool true) (by simp [Hdr.cells]) rfl rfl
     refine ⟨w2, hs2, h0, h0, ?_⟩
     obtain ⟨w3, hs3, ha3, hg3⟩ := ha2.put (P := prog) qew (i := 7) (v := .int .i64 n) (by simp [Hdr.cells]) rfl rfl
     exact ⟨w3, hs3, qbV ha3 (zf (zf hg1 hg2) hg3)⟩
 rw [beq_eq_false_iff_ne] at h2
 refine BCase.of (fun h3 => ?_) (fun h3 => ?_)
 · rw [beq_iff_eq] at h3
   refine (Tryz.strings_TrimPrefix (mkS value) (mkS [46]) w).mono ?_
   rintro _ _ ⟨rfl, rfl⟩
   have e : Lib.trimPrefix (mkS value).data.toList (mkS [46]).data.toList = if value.head? = some 46 then value.drop 1 else value := (qfq value 46).2
   rw [e]
   refine ⟨(if value.head? = some 46 then value.drop 1 else value), rfl, ?_⟩
   refine callK (octet_Lower_ok _ (by split <;> (try rw [List.length_drop]) <;> omega) _) ?_
   rintro _ w1 ⟨rfl, hb1⟩
   refine ⟨_, rfl, h0, h0, ?_⟩
   have ha1 := ha.below hb1
   obtain ⟨w2, hs2, ha2, hg2⟩ := ha1.put (P := prog) zl (i := 2) (v := .string (mkS (lowL (if value.head? = some 46 then value.drop 1 else value)))) (by simp [Hdr.cells]) rfl rfl
   refine ⟨w2, hs2, qbV ?_ (zf (jI hb1 (some k)) hg2)⟩
   unfold qdZ
   rw [if_neg h1, if_neg h2, if_pos h3]; exact ha2
 rw [beq_eq_false_iff_ne] at h3
 refine BCase.of (fun h4 => ?_) (fun h4 => ?_)
 · rw [beq_iff_eq] at h4
   refine ⟨h0, h0, ?_⟩
   obtain ⟨w2, hs2, ha2, hg2⟩ := ha.put (P := prog) zl (i := 3) (v := .string (mkS [])) (by simp [Hdr.cells]) rfl rfl
   refine ⟨w2, hs2, ?_⟩
   refine (Tryz.strings_HasPrefix (mkS value) (mkS [47]) w2).mono ?_
   rintro _ _ ⟨rfl, rfl⟩
   have e : Lib.hasPrefix (mkS value).data.toList (mkS [47]).data.toList = decide (value.head? = some 47) := (qfq value 47).1
   rw [e]
   refine ⟨_, rfl, ?_⟩
   unfold qdZ
   rw [if_neg h1, if_neg h2, if_neg h3, if_pos h4]
   refine BCase.of (fun h5 => ?_) (fun h5 => ?_) <;> simp only [dTx, dFx] at h5
   · refine ⟨h0, h0, ?_⟩
     obtain ⟨w3, hs3, ha3, hg3⟩ := ha2.put (P := prog) zl (i := 3) (v := .string (mkS value)) (by simp [Hdr.cells]) rfl rfl
     refine ⟨w3, hs3, qbV ?_ (zf hg2 hg3)⟩
     rw [if_pos h5]; exact ha3
   · rw [if_neg h5]; exact qbV ha2 hg2
 rw [beq_eq_false_iff_ne] at h4
 refine BCase.of (fun h5 => ?_) (fun h5 => ?_)
 · rw [beq_iff_eq] at h5
   refine ⟨h0, h0, ?_⟩
   obtain ⟨w2, hs2, ha2, hg2⟩ := ha.put (P := prog) qca (i := 8) (v := .bool true) (by simp [Hdr.cells]) rfl rfl
   refine ⟨w2, hs2, qbV ?_ hg2⟩
   unfold qdZ
   rw [if_neg h1, if_neg h2, if_neg h3, if_neg h4, if_pos h5]; exact ha2
 rw [beq_eq_false_iff_ne] at h5
 refine BCase.of (fun h6 => ?_) (fun h6 => ?_)
 · rw [beq_iff_eq] at h6
   refine ⟨h0, h0, ?_⟩
   obtain ⟨w2, hs2, ha2, hg2⟩ := ha.put (P := prog) qca (i := 9) (v := .bool true) (by simp [Hdr.cells]) rfl rfl
   refine ⟨w2, hs2, qbV ?_ hg2⟩
   unfold qdZ
   rw [if_neg h1, if_neg h2, if_neg h3, if_neg h4, if_neg h5, if_pos h6]; exact ha2
 rw [beq_eq_false_iff_ne] at h6
 unfold qdZ
 rw [if_neg h1, if_neg h2, if_neg h3, if_neg h4, if_neg h5, if_neg h6]
 refine BCase.of (fun h7 => ?_) (fun h7 => ?_)
 · rw [beq_iff_eq] at h7
   rw [if_pos h7]
   refine ⟨h0, h0, ?_⟩
   obtain ⟨w2, hs2, ha2, hg2⟩ := ha.put (P := prog) qbr (i := 10) (v := .int .i64 0) (by simp [Hdr.cells]) rfl rfl
   refine ⟨w2, hs2, ?_⟩
   refine callK (qel w2) ?_
   rintro _ w3 ⟨rfl, hb3⟩
   refine ⟨_, _, _, _, rfl, ?_⟩
   refine ⟨fun m i w' => ∃ j : Nat, j <= 4 /\ i = (j : Int) /\ m = 4 - j /\ qm w' k qd ({ h with same := qmv value j } : Hdr).cells /\ w.grownBy w' (some k),
     ⟨_, 0, by omega, rfl, rfl, ha2.below hb3, zf hg2 (jI hb3 _)⟩, ?_⟩
   intro m i
   refine AllJ.of ?_ _
   rintro w4 ⟨j, hj, rfl, rfl, ha4, hg4⟩
   refine BCase.of (fun h8 => ?_) (fun h8 => ?_) <;> simp only [dTx, dFx] at h8
   · have hj4 : j < 4 := by omega
     have ew : i64.wrap ((j : Int) + 1) = ((j + 1 : Nat) : Int) := by rw [wrap_i64 (by omega) (by omega)]; omega
     rw [ew]
     have hnl : (nmL[j]?.getD []).length <= 6 := by
       have : ∀ j, j < 4 -> (nmL[j]?.getD []).length <= 6 := by decide
       exact this j hj4
     refine ⟨_, qqH w4 j hj4, ?_⟩
     refine callK (qjj _ value (by omega) (by omega) w4) ?_
     rintro _ w5 ⟨rfl, hb5⟩
     have ha5 := ha4.below hb5
     have hg5 := zf hg4 (jI hb5 (some k))
     refine ⟨_, rfl, ?_⟩
     have el : qmv value (j + 1) = if lowL (nmL[j]?.getD []) = lowL value then (j : Int) else qmv value j := rfl
     refine BCase.of (fun h9 => ?_) (fun h9 => ?_)
     · rw [beq_iff_eq] at h9
       rw [if_pos h9] at el
       refine ⟨h0, h0, ?_⟩
       obtain ⟨w6, hs6, ha6, hg6⟩ := ha5.put (P := prog) qbr (i := 10) (v := .int .i64 (j : Int)) (by simp [Hdr.cells]) rfl rfl
       refine ⟨w6, hs6, 4 - (j + 1), by omega, j + 1, by omega, rfl, rfl, ?_, zf hg5 hg6⟩
       rw [el]; exact ha6
     · rw [beq_eq_false_iff_ne] at h9
       rw [if_neg h9] at el
       refine ⟨4 - (j + 1), by omega, j + 1, by omega, rfl, rfl, ?_, hg5⟩
       rw [el]; exact ha5
   · have : j = 4 := by omega
     subst this
     rw [qq6] at ha4
     exact qbV ha4 hg4
 · rw [beq_eq_false_iff_ne] at h7
   rw [if_neg h7]
   exact qbV ha g0
end Go.Proofs.YtndbpedpdbjkpaaGreatDoor
namespace Go.Proofs.YtndbpedpdbjkpaaGreatDoor
open Go.Pk
open Go.RowKit (Below)
def qiV (s : List UInt8) (w : World) (v : Value) (w' : World) : Prop := v = .tuple #[(qM s).1.v, .int .i64 (qM s).2] /\ Below w.heap.size w w'
theorem qlG (s : List UInt8) : (cutC 59 [] s).length ≠ 0 /\ ∀ h : 0 < (cutC 59 [] s).length, (cutC 59 [] s)[0] = (cutC 59 [] s).headD [] := by
 have h := jD 59 s []
 cases hc : cutC 59 [] s with
 | nil => exact absurd hc h
 | cons x l => exact ⟨by simp, fun _ => rfl⟩
theorem qfd {w : World} {A : Bl} {a : Option Addr} {n c : Nat} {xs : List (List UInt8)} (h : Sl tS w A a n c xs) {i : Nat} (hi : i < xs.length) : (Instr.loadAt qe (.pointer (qn a (i : Int) 1))).run prog w = .ok (.string (mkS xs[i])) w := by
 obtain ⟨v, hv, hrep⟩ := h.load1 (i := (i : Int)) un_string rfl rfl (by simpa using hi)
 obtain ⟨rfl, -⟩ := qfw hrep
 simpa using hv
theorem ql4 (s : List UInt8) (hs : s.length <= 2000000000) (w : World) (he : Env w) : Calls prog qeM #[.string (mkS s)] w (Ret (qiV s w)) := by
 apply qkG
 unfold qgV
 intro k2 w2 hk2 hw2
 have hB2 := (hw2 ▸ qf w _ : Below w.heap.size w w2)
 have ha2 : qm w2 k2 qd hdr0.cells := qm.new hk2 hw2
 have hk2w : w.heap.size <= k2 := by omega
 have hs2 : w2.heap.size = w.heap.size + 1 := by rw [hw2]; simp
 refine callK (qjZ s (by omega) w2) ?_
 rintro _ w3 ⟨rfl, hb3⟩
 have hB3 := qb hB2 hb3 hB2.size
 have ha3 := ha2.below hb3
 refine ⟨_, rfl, ?_⟩
 have post : ∀ {h : Hdr} {e : Int}, qM s = (h, e) -> ∀ wx, Below w.heap.size w wx -> qiV s w (.tuple #[h.v, .int .i64 e]) wx := fun hp wx hb => ⟨by rw [hp], hb⟩
 refine BCase.of (fun h1 => ?_) (fun h1 => ?_)
 · exact qgC hdr0 ha3 rfl hB3 hk2w (post (by unfold qM; rw [if_pos h1]))
 have h1' : ¬ s.any qcM = true := by rw [h1]; decide
 refine callK (qbx s 59 (by omega) w3 (he.step hB3)) ?_
 rintro _ w4 ⟨a, n, c, rfl, ho4, hf4, hb4⟩
 have hB4 := qb hB3 hb4 hB3.size
 have ha4 := ha3.below hb4
 refine ⟨_, _, _, rfl, ?_⟩
 intro k5 w5 hk5 hw5
 have hb5 := (hw5 ▸ qf w4 _ : Below w4.heap.size w4 w5)
 have hB5 := qb hB4 hb5 hB4.size
 have ha5 := ha4.below hb5
 have hh5 : qm w5 k5 qd hdr0.cells := qm.new hk5 hw5
 have ho5 := ho4.below hb5
 have hlt2 := ha4.lt
 have hne : k2 ≠ k5 := by omega
 have hk5w : w.heap.size <= k5 := by have := hB4.size; omega
 have hog : ∀ g, ownB a = some g -> g ≠ k5 := fun g hg e => by have := ho4.lt g hg; omega
 have hn := ho5.len
 obtain ⟨hl0, hhead⟩ := qlG s
 have hlens : ∀ x ∈ cutC 59 [] s, x.length <= s.length := fun x hx => by simpa using qdf 59 s [] x hx
 have hpar : qM s = if (nameOf ((cutC 59 [] s).headD [])).1 ++ (nameOf ((cutC 59 [] s).headD [])).2 = [] then (hdr0, 82)
   else if 4096 < (nameOf ((cutC 59 [] s).headD [])).1.length + (nameOf ((cutC 59 [] s).headD [])).2.length then (hdr0, 83)
   else (((cutC 59 [] s).drop 1).foldl qbE { hdr0 with name := (nameOf ((cutC 59 [] s).headD [])).1, value := (nameOf ((cutC 59 [] s).headD [])).2 }, 0) := by
   unfold qM; rw [if_neg h1']
 have hcl := j0 59 s []
 generalize cutC 59 [] s = L at *
 have hl1 : 0 < L.length := by omega
 subst hn
 have l0 := qfd ho5.all hl1
 rw [hhead hl1] at l0
 have hx0 := hlens _ (List.getElem_mem hl1)
 rw [hhead hl1] at hx0
 generalize L.headD [] = x0 at *
 refine ⟨⟨⟨by decide, by omega⟩, ho5.all.isSome hl1⟩, x0, l0, ?_⟩
 refine callK (qhF x0 (by omega) w5 (he.step hB5)) ?_
 rintro _ w6 ⟨rfl, hb6⟩
 have hB6 := qb hB5 hb6 hB5.size
 refine ⟨_, _, _, rfl, ?_⟩
 have hp1 := qiH x0
 have hp2 := qiP x0
 refine ⟨fun a b w' => w' = w6 /\ a = (nameOf x0).1 /\ b = (nameOf x0).2, ?_, ?_⟩
 · unfold nameOf
   cases qnR x0
   · exact BCase.yes rfl ⟨rfl, rfl, rfl⟩
   · exact BCase.no rfl ⟨rfl, rfl, rfl⟩
 intro nm vl
 refine AllJ.of ?_ _
 rintro w6' ⟨hw6, hnm, hvl⟩
 subst hw6
 have hnl : nm.length <= s.length /\ vl.length <= s.length := by
   rw [hnm, hvl]; unfold nameOf
   split
   · exact ⟨by simp only; omega, by simp only; omega⟩
   · exact ⟨by simp, by simp only; omega⟩
 rw [<- hnm, <- hvl] at hpar
 refine ⟨fits (by omega), ?_⟩
 rintro _ rfl
 have ha6 := ha5.below hb6
 have hh6 := hh5.below hb6
 have ho6 := ho5.below hb6
 refine BCase.of (fun h2 => ?_) (fun h2 => ?_)
 · rw [beq_iff_eq] at h2
   rw [if_pos h2] at hpar
   exact qgC hdr0 ha6 rfl hB6 hk2w (post hpar)
 rw [beq_eq_false_iff_ne] at h2
 rw [if_neg h2] at hpar
 rw [wrap_i64 (by omega) (by omega)]
 refine BCase.of (fun h3 => ?_) (fun h3 => ?_) <;> simp only [gt_iff_lt, dTx, dFx] at h3
 · rw [if_pos (by omega)] at hpar
   exact qgC hdr0 ha6 rfl hB6 hk2w (post hpar)
 rw [if_neg (by omega)] at hpar
 refine ⟨rfl, ?_⟩
 obtain ⟨w7, hs7, hh7, hg7⟩ := hh6.put (P := prog) zl (i := 0) (v := .string (mkS nm)) (by simp [Hdr.cells]) rfl rfl
 refine ⟨w7, hs7, rfl, ?_⟩
 obtain ⟨w8, hs8, hh8, hg8⟩ := hh7.put (P := prog) zl (i := 1) (v := .string (mkS vl)) (by simp [Hdr.cells]) rfl rfl
 have hgg := zf hg7 hg8
 have hh8' : qm w8 k5 qd ({ hdr0 with name := nm, value := vl } : Hdr).cells := hh8
 have hk5r : ∀ x, some k5 = some x -> w.heap.size <= x := fun x e => by cases e; exact hk5w
 refine ⟨w8, hs8, ⟨by decide, by omega⟩, ?_⟩
 have keepO : ∀ {u u' : World}, Ow tS qe u NoB a L.length c L -> u.grownBy u' (some k5) -> Ow tS qe u' NoB a L.length c L := fun ho hg => ho.keep (qby hg fun b hb e => by
   rcases hb with hb | hb
   · exact hb
   · exact hog b hb.symm (Option.some.inj e))
 have e1 : Int.toNat (1 : Int) = 1 := rfl
 rw [e1]
 refine ⟨fun m i w' => ∃ j : Nat, j <= (L.drop 1).length /\ i = (j : Int) /\ m = (L.drop 1).length - j /\ qm w' k5 qd (((L.drop 1).take j).foldl qbE { hdr0 with name := nm, value := vl }).cells /\
     qm w' k2 qd hdr0.cells /\ Ow tS qe w' NoB a L.length c L /\ Below w.heap.size w w',
   ⟨_, 0, by omega, rfl, rfl, hh8', ha6.grown hgg (fun e => hne (Option.some.inj e)), keepO ho6 hgg, hB6.grown hgg hB6.size hk5r⟩, ?_⟩
 intro m i
 refine AllJ.of ?_ _
 rintro w9 ⟨j, hj, rfl, rfl, hh9, ha9, ho9, hB9⟩
 have hdl : (L.drop 1).length = L.length - 1 := List.length_drop ..
 refine BCase.of (fun h4 => ?_) (fun h4 => ?_) <;> simp only [dTx, dFx] at h4
 · have hjl : j < (L.drop 1).length := by omega
   have hsl := ho9.all.from 1 hl1 (k := 1) rfl
   have ew : i64.wrap ((j : Int) + 1) = ((j + 1 : Nat) : Int) := by rw [wrap_i64 (by omega) (by omega)]; omega
   rw [ew]
   have hnext : ((L.drop 1).take (j + 1)).foldl qbE { hdr0 with name := nm, value := vl } = qbE (((L.drop 1).take j).foldl qbE { hdr0 with name := nm, value := vl }) (L.drop 1)[j] := by
     rw [List.take_succ_eq_append_getElem hjl, List.foldl_append]; rfl
   have hxl := hlens _ (List.mem_of_mem_drop (List.getElem_mem hjl))
   refine ⟨⟨⟨by omega, h4⟩, hsl.isSome hjl⟩, _, qfd hsl hjl, ?_⟩
   generalize (L.drop 1)[j] = x at *
   generalize ((L.drop 1).take j).foldl qbE { hdr0 with name := nm, value := vl } = H at *
   have hq1 := qiH x
   have hq2 := qiP x
   refine callK (qhF x (by omega) w9 (he.step hB9)) ?_
   rintro _ w10 ⟨rfl, hb10⟩
   have hB10 := qb hB9 hb10 hB9.size
   refine ⟨_, _, _, rfl, ?_⟩
   refine BCase.of (fun h5 => ?_) (fun h5 => ?_) <;> simp only [dTx, dFx] at h5
   · refine callK (octet_Lower_ok _ (by omega) w10) ?_
     rintro _ w11 ⟨rfl, hb11⟩
     have hB11 := qb hB10 hb11 hB10.size
     refine ⟨_, rfl, ?_⟩
     refine callK (qh5 k5 H _ (qbW x) (by omega) w11 ((hh9.below hb10).below hb11)) ?_
     rintro _ w12 ⟨rfl, hh12, hg12⟩
     refine ⟨rfl, (L.drop 1).length - (j + 1), by omega, j + 1, by omega, rfl, rfl, ?_, ((ha9.below hb10).below hb11).grown hg12 (fun e => hne (Option.some.inj e)), keepO ((ho9.below hb10).below hb11) hg12, hB11.grown hg12 hB11.size hk5r⟩
     rw [hnext]; unfold qbE
     rw [if_pos (by omega)]; exact hh12
   · refine ⟨(L.drop 1).length - (j + 1), by omega, j + 1, by omega, rfl, rfl, ?_, ha9.below hb10, ho9.below hb10, hB10⟩
     rw [hnext]; unfold qbE
     rw [if_neg (by omega)]; exact hh9.below hb10
 · have : j = (L.drop 1).length := by omega
   subst this
   rw [List.take_length] at hh9
   refine ⟨_, _, _, _, _, _, _, _, _, _, _, zo _ hh9, ?_⟩
   exact qgC _ ha9 rfl hB9 hk2w (post hpar)
end Go.Proofs.YtndbpedpdbjkpaaGreatDoor
