/- What the law alone leans on: Open, Names, AddrF, V4, MatA, HdrH, AdmA, V5, AdmD, AdmE, AdmX, OpenA, AdmJ, AdmK, AdmL, V5_11, AdmN; what is used. Its conditions: none. -/
import Derived.Test.YtndbpedpdbjkpaaGreatDoorKI
import Derived.ProofKit
import Derived.OpenShut
import Derived.Stop.LaidErr
import Derived.Lib.LaidTab
import Derived.Deep.DeepHandedRow
import Derived.Test.YtndbpedpdbjkpaaGreatDoorRows
import Derived.Lib.ItoaLen
import Derived.Lib.LastIndexByte
import Derived.ChangeArms
import Derived.ChangeSame
import Derived.Deep.Slices
open Go.IntKind (i64)
open Go.Proofs.Tryz (prog)
set_option linter.unusedVariables false
set_option linter.unusedSimpArgs false
namespace Go.Pk
def qhe {α : Type} (P : Program) (T : Ty α) (t : TypeId) : Prop :=
 ∀ (H : Type) (enc : TypeId × Value -> H) (w : World) (fuel : Nat) (cs : List Value) (x : DataW H × List MemPlace), DataW.trod enc P w 0 (fun _ => true) true fuel t cs = some x -> ∃ a, T.rep w AllB cs a
theorem qaE {P : Program} {k : IntKind} {t : TypeId} (ht : P.underlying t = some (.int k)) : qhe P (tInt k fun n => (Lit.int k n).wf = true) t := fun H enc w fuel cs x h => by
 obtain ⟨n, e, _, hw⟩ := DataW.trod_int ht h
 exact ⟨n, e, hw⟩
theorem qaG {P : Program} {t : TypeId} (ht : P.underlying t = some .string) : qhe P (tStr fun s => s.length <= maxLen) t := fun H enc w fuel cs x h => by
 obtain ⟨s, e, _, hs⟩ := DataW.trod_string ht h
 exact ⟨toL s, e, hs⟩
end Go.Pk
namespace Go.Proofs.YtndbpedpdbjkpaaGreatDoor
open Go.Pk
abbrev qd4 : Nat := 11
abbrev zr : Nat := 38
abbrev qT : Nat := 41
abbrev zG : Nat := 44
abbrev qO : Nat := 90
abbrev jw : Nat := 70
theorem qaQ : prog.underlying jw = some (.slice ql) := by kernel_rfl
end Go.Proofs.YtndbpedpdbjkpaaGreatDoor
set_option maxRecDepth 20000
namespace Go.Pk
theorem jA {n : Nat} (h : n < 10) : decL n = [UInt8.ofNat (48 + n)] := Lib.decDigits_one h
theorem jC {n : Nat} (h : ¬ n < 10) : decL n = decL (n / 10) ++ [UInt8.ofNat (48 + n % 10)] := by
 show Lib.decDigits n = _
 rw [Lib.decDigits, dif_neg h]
theorem qfg {a : List UInt8} (h : a.length = 16) : a.drop 12 = [a[12]'(by omega), a[13]'(by omega), a[14]'(by omega), a[15]'(by omega)] := by
 rw [List.drop_eq_getElem_cons (by omega), List.drop_eq_getElem_cons (by omega), List.drop_eq_getElem_cons (by omega), List.drop_eq_getElem_cons (by omega), List.drop_eq_nil_of_le (by omega)]
theorem text4_parts {a : List UInt8} (h : a.length = 16) : text4V a = decL (a[12]'(by omega)).toNat ++ ([46] : List UInt8) ++ decL (a[13]'(by omega)).toNat ++ ([46] : List UInt8) ++ decL (a[14]'(by omega)).toNat ++ ([46] : List UInt8) ++ decL (a[15]'(by omega)).toNat := by
 unfold text4V
 rw [qfg h]
 simp [Lib.join_cons, Lib.joinTail]
end Go.Pk

set_option maxRecDepth 100000
namespace Go.Proofs.YtndbpedpdbjkpaaGreatDoor
open Go.Pk
open Go.RowKit (Below)
--  cracknel/cracknelref09.Domain
def zE (s0 : List UInt8) (w : World) (K : Value -> World -> Prop) : Prop :=
 Calls prog qO #[.string (mkS s0), .string (mkS [95, 95, 115, 101, 99, 117, 114, 101, 45])] w fun e4 w4 => ∃ b4, e4 = .returned (.bool b4) /\
 BCase b4
 (K (.int .i64 (1 : Int)) w4)
 (Calls prog qO #[.string (mkS s0), .string (mkS [95, 95, 104, 111, 115, 116, 45])] w4 fun e6 w6 => ∃ b6, e6 = .returned (.bool b6) /\
 BCase b6
 (K (.int .i64 (2 : Int)) w6)
 (K (.int .i64 (0 : Int)) w6))
theorem j6 (s0 : List UInt8) {w : World} {K : Value -> World -> Prop} (h : zE s0 w K) : Calls prog qT #[.string (mkS s0)] w (Ret K) :=
 qo (c := qr Tryz.f41) (by kernel_rfl) Tryz.func41 (by kernel_rfl) [] [.string (mkS s0)] (of_decide_eq_true (by kernel_rfl)) _ (by kernel_rfl) h

--  cracknel/cracknelref06.Public
def jy (s0 : List UInt8) (w : World) (K : Value -> World -> Prop) : Prop :=
 ∃ I : Nat -> FP [.one (.int .i64), .one (.int .i64)],
 (∃ m, I m (0 : Int) (0 : Int) w) /\
 ∀ m n3 n4, AllJ 11 (∀ wl, I m n3 n4 wl ->
 BCase (decide (n4 < ((List.length s0 : Nat) : Int)))
 (((0 <= n4 /\ n4 < ((List.length s0 : Nat) : Int))) /\
 BCase ((qA s0 n4) == (47 : Int))
 (∃ m' : Nat, m' < m /\ I m' n4 (i64.wrap (n4 + (1 : Int))) wl)
 (∃ m' : Nat, m' < m /\ I m' n3 (i64.wrap (n4 + (1 : Int))) wl))
 (BCase (n3 == (0 : Int))
 (K (.string (mkS [47])) wl)
 (((0 <= (0 : Int) /\ (0 : Int) < ((List.length s0 : Nat) : Int))) /\
 BCase ((qA s0 (0 : Int)) != (47 : Int))
 (K (.string (mkS [47])) wl)
 (((0 <= n3 /\ n3 <= (((List.length s0) : Nat) : Int))) /\
 ∀ s25, s25 = (List.take (Int.toNat n3) s0) ->
 K (.string (mkS s25)) wl))))
theorem qaX (s0 : List UInt8) {w : World} {K : Value -> World -> Prop} (h : jy s0 w K) : Calls prog zG #[.string (mkS s0)] w (Ret K) :=
 qo (c := qr Tryz.f44) (by kernel_rfl) Tryz.func44 (by kernel_rfl) [(8, [(3, .one (.int .i64)), (4, .one (.int .i64))])] [.string (mkS s0)] (of_decide_eq_true (by kernel_rfl)) _ (by kernel_rfl) h

--  cracknel/rule.Line
def zL (s0 : List UInt8) (s1 : List UInt8) (w : World) (K : Value -> World -> Prop) : Prop :=
 BCase (decide (((List.length s0 : Nat) : Int) >= ((List.length s1 : Nat) : Int)))
 (((0 <= ((List.length s1 : Nat) : Int) /\ ((List.length s1 : Nat) : Int) <= (((List.length s0) : Nat) : Int))) /\
 ∀ s14, s14 = (List.take (Int.toNat ((List.length s1 : Nat) : Int)) s0) ->
 Calls prog jg #[.string (mkS s14)] w fun e15 w15 => ∃ s15, e15 = .returned (.string (mkS s15)) /\
 K (.bool (s15 == s1)) w15)
 (K (.bool false) w)
theorem j4 (s0 : List UInt8) (s1 : List UInt8) {w : World} {K : Value -> World -> Prop} (h : zL s0 s1 w K) : Calls prog qO #[.string (mkS s0), .string (mkS s1)] w (Ret K) :=
 qo (c := qr Tryz.f90) (by kernel_rfl) Tryz.func90 (by kernel_rfl) [] [.string (mkS s0), .string (mkS s1)] (of_decide_eq_true (by kernel_rfl)) _ (by kernel_rfl) h

--  cracknel/cracknelref06.Suffix
end Go.Proofs.YtndbpedpdbjkpaaGreatDoor
set_option maxRecDepth 20000
namespace Go.Pk
open Go.RowKit (Below)
theorem qi5 {c : Cky} (o : c.ok) {j : Nat} (h : j < 18) : c.cells[2 + j]? = c.host.cells[j]? := by
 unfold Cky.cells
 rw [show 2 + j = j + 1 + 1 by omega, List.getElem?_cons_succ, List.getElem?_cons_succ, List.getElem?_append_left (by rw [Hst.len o]; exact h)]
theorem jo {c : Cky} (o : c.ok) (j : Nat) : c.cells[20 + j]? = c.tail[j]? := by
 unfold Cky.cells
 rw [show 20 + j = (18 + j) + 1 + 1 by omega, List.getElem?_cons_succ, List.getElem?_cons_succ, List.getElem?_append_right (by rw [Hst.len o]; omega), Hst.len o]
 congr 1; omega
end Go.Pk
namespace Go.Proofs.YtndbpedpdbjkpaaGreatDoor
open Go.Pk
open Go.RowKit (Below)
theorem qbl (s : List UInt8) (hs : s.length <= 9223372036854775800) (w : World) : Calls prog zG #[.string (mkS s)] w (Ret fun v w' => v = .string (mkS (defV s)) /\ w' = w) := by
 apply qaX
 unfold jy
 refine ⟨fun m l i w' => ∃ k : Nat, k <= s.length /\ i = (k : Int) /\ m = s.length - k /\ l = ((lastK s k : Nat) : Int) /\ w' = w, ⟨_, 0, by omega, rfl, rfl, rfl, rfl⟩, ?_⟩
 intro m l i
 refine AllJ.of ?_ _
 rintro w' ⟨k, hk, rfl, rfl, rfl, hw'⟩
 rw [hw']; clear hw'
 refine BCase.of (fun h => ?_) (fun h => ?_) <;> simp only [dTx, dFx] at h
 · have hlt : k < s.length := by omega
   have hu := qau s[k] 47
   rw [show (((47 : UInt8).toNat : Nat) : Int) = 47 from rfl] at hu
   rw [zJ hlt, hu]
   have hst : lastK s (k + 1) = if s[k]? = some 47 then k else lastK s k := rfl
   rw [List.getElem?_eq_getElem hlt] at hst
   refine ⟨⟨by omega, h⟩, BCase.of (fun c => ?_) (fun c => ?_)⟩
   · rw [if_pos (by rw [eq_of_beq c])] at hst
     exact ⟨s.length - (k + 1), by omega, k + 1, by omega, by rw [wrap_i64 (by omega) (by omega)]; omega, rfl, by rw [hst], rfl⟩
   · rw [if_neg (fun hx => by rw [Option.some.inj hx] at c; simp at c)] at hst
     exact ⟨s.length - (k + 1), by omega, k + 1, by omega, by rw [wrap_i64 (by omega) (by omega)]; omega, rfl, by rw [hst], rfl⟩
 · have : k = s.length := by omega
   subst this
   have hle := qjl s s.length
   unfold defV
   refine BCase.of (fun c => ⟨?_, rfl⟩) (fun c => ?_)
   · have c : lastK s s.length = 0 := by have := eq_of_beq c; omega
     rw [if_pos (.inl c)]
   · have c : lastK s s.length ≠ 0 := by have := beq_eq_false_iff_ne.1 c; omega
     have hl : 0 < s.length := by omega
     have hb := zJ (s := s) (k := 0) hl
     rw [show ((0 : Nat) : Int) = 0 from rfl] at hb
     have hu := qau s[0] 47
     rw [show (((47 : UInt8).toNat : Nat) : Int) = 47 from rfl] at hu
     have e : ((qA s 0) != (47 : Int)) = !(s[0] == 47) := by rw [hb]; show (!_) = _; rw [hu]
     have hh : s.head? = some s[0] := by rw [List.head?_eq_getElem?, List.getElem?_eq_getElem hl]
     rw [e, hh]
     refine ⟨⟨by decide, by omega⟩, BCase.of (fun c2 => ⟨?_, rfl⟩) (fun c2 => ⟨⟨by omega, by omega⟩, ?_⟩)⟩
     · rw [if_pos (.inr (fun hx => by rw [Option.some.inj hx] at c2; simp at c2))]
     · rintro _ rfl
       have c3 : s[0] = 47 := by simpa using c2
       exact ⟨by rw [if_neg (by rintro (hx | hx); exact c hx; exact hx (by rw [c3]))]; rfl, rfl⟩
end Go.Proofs.YtndbpedpdbjkpaaGreatDoor
namespace Go.Proofs.YtndbpedpdbjkpaaGreatDoor
open Go.Pk
open Go.RowKit (Below)
theorem qpo (h g : Hdr) {x y : Operand} (w : World) : ((do eqGuard .neq qd x y h.v g.v; binOp .neq qd h.v g.v : Sem Value)).run prog w = .ok (.bool (!qpv h g)) w :=
 qpq qjn (qoD h g) w
end Go.Proofs.YtndbpedpdbjkpaaGreatDoor
namespace Go.Pk
open Go.RowKit (Below)
theorem qfK {rs : List Rul} {u : Url} (o : u.ok) (h : Hdr) (now : Int) : (takV rs u h now).1.ok := by
 unfold takV
 split
 · rfl
 split
 · rfl
 · exact qjA o _
end Go.Pk
namespace Go.Proofs.YtndbpedpdbjkpaaGreatDoor
open Go.Pk
open Go.RowKit (Below)
theorem zD (s p : List UInt8) (hp : p.length <= 1000) (w : World) : Calls prog qO #[.string (mkS s), .string (mkS p)] w (Ret fun v w' => v = .bool (decide (lowL (s.take p.length) = p)) /\ Below w.heap.size w w') := by
 apply j4
 unfold zL
 refine BCase.of (fun c => ?_) (fun c => ⟨?_, Below.refl _ _⟩)
 · refine ⟨⟨by omega, by simpa using c⟩, ?_⟩
   rintro _ rfl
   rw [Int.toNat_natCast]
   refine callK (ref01_Lower_ok _ (by rw [List.length_take]; omega) w) ?_
   rintro _ w2 ⟨rfl, hb2⟩
   refine ⟨_, rfl, ?_, hb2⟩
   congr 1
   rw [Bool.eq_iff_iff]; simp
 · rw [decide_eq_false]
   intro e
   have := congrArg List.length e
   simp [lowL] at this c; omega
theorem jU (s : List UInt8) (w : World) : Calls prog qT #[.string (mkS s)] w (Ret fun v w' => v = .int .i64 (jF s) /\ Below w.heap.size w w') := by
 apply j6
 unfold zE
 refine callK (zD s pSec (by decide) w) ?_
 rintro _ w1 ⟨rfl, hB1⟩
 refine ⟨_, rfl, BCase.of (fun c => ⟨?_, hB1⟩) (fun c => ?_)⟩
 · have c : lowL (s.take 9) = pSec := of_decide_eq_true c
   unfold jF; rw [if_pos c]
 have c : ¬ lowL (s.take 9) = pSec := of_decide_eq_false c
 refine callK (zD s pHos (by decide) w1) ?_
 rintro _ w2 ⟨rfl, hb2⟩
 have hB2 := qb hB1 hb2 hB1.size
 refine ⟨_, rfl, BCase.of (fun c2 => ⟨?_, hB2⟩) (fun c2 => ⟨?_, hB2⟩)⟩
 · have c2 : lowL (s.take 7) = pHos := of_decide_eq_true c2
   unfold jF; rw [if_neg c, if_pos c2]
 · have c2 : ¬ lowL (s.take 7) = pHos := of_decide_eq_false c2
   unfold jF; rw [if_neg c, if_neg c2]
end Go.Proofs.YtndbpedpdbjkpaaGreatDoor
set_option maxRecDepth 100000
namespace Go.Proofs.YtndbpedpdbjkpaaGreatDoor
open Go.Pk
open Go.RowKit (Below)
--  cracknel/cracknellaw10.both
def zU (a0 : Option Addr) (l0 c0 : Nat) (a1 : Option Addr) (l1 c1 : Nat) (w : World) (K : Value -> World -> Prop) : Prop :=
 ∃ I : Nat -> FP [.one (.int .i64)],
 (∃ m, I m (0 : Int) w) /\
 ∀ m n11, AllJ 10 (∀ wl, I m n11 wl ->
 BCase (decide (n11 < ((l0 : Nat) : Int)))
 (((0 <= n11 /\ n11 < ((l0 : Nat) : Int)) /\ Option.isSome a0 = true) /\
 ∃ n14_0 s14_1, Ld ql (qn a0 n11 2) wl (.agg #[.int .i64 n14_0, .string (mkS s14_1)]) /\
 ∀ k6 w6, k6 = wl.heap.size -> w6 = wl.alloc (.cells #[.int .i64 (0 : Int), .string (mkS [])] ql) ->
 ∃ wx, Sv ql (some ⟨k6, 0, none⟩) (.agg #[.int .i64 n14_0, .string (mkS s14_1)]) w6 wx /\
 (true = true) /\
 ∃ s16, Ld qe (some ⟨k6, 1, none⟩) wx (.string (mkS s16)) /\
 BCase (decide (((List.length s16 : Nat) : Int) > (300 : Int)))
 (K (.bool false) wx)
 (∃ m' : Nat, m' < m /\ I m' (i64.wrap (n11 + (1 : Int))) wx))
 (∃ I_1 : Nat -> FP [.one (.int .i64)],
 (∃ m_1, I_1 m_1 (0 : Int) wl) /\
 ∀ m_1 n22, AllJ 9 (∀ wl_1, I_1 m_1 n22 wl_1 ->
 BCase (decide (n22 < ((l1 : Nat) : Int)))
 (((0 <= n22 /\ n22 < ((l1 : Nat) : Int)) /\ Option.isSome a1 = true) /\
 ∃ s25, Ld qe (qn a1 n22 1) wl_1 (.string (mkS s25)) /\
 BCase (decide (((List.length s25 : Nat) : Int) > (2500 : Int)))
 (K (.bool false) wl_1)
 (∃ m'_1 : Nat, m'_1 < m_1 /\ I_1 m'_1 (i64.wrap (n22 + (1 : Int))) wl_1))
 (K (.bool (decide (((l0 : Nat) : Int) <= (30 : Int)))) wl_1))))
theorem qac (a0 : Option Addr) (l0 c0 : Nat) (a1 : Option Addr) (l1 c1 : Nat) {w : World} {K : Value -> World -> Prop} (h : zU a0 l0 c0 a1 l1 c1 w K) : Calls prog zr #[.slice a0 l0 c0, .slice a1 l1 c1] w (Ret K) :=
 qo (c := qr Tryz.f38) (by kernel_rfl) Tryz.func38 (by kernel_rfl) [(6, [(11, .one (.int .i64))]), (29, [(22, .one (.int .i64))])] [.slice a0 l0 c0, .slice a1 l1 c1] (of_decide_eq_true (by kernel_rfl)) _ (by kernel_rfl) h

--  cracknel/cracknellaw10.admitAlive
end Go.Proofs.YtndbpedpdbjkpaaGreatDoor
set_option maxRecDepth 20000
namespace Go.Pk
open Go.RowKit (Below)
def fewB (rs : List Rul) (ts : List (List UInt8)) : Bool := rs.all (fun r => decide (r.2.length <= 300)) && (ts.all (fun t => decide (t.length <= 2500)) && decide (rs.length <= 30))
end Go.Pk
namespace Go.Proofs.YtndbpedpdbjkpaaGreatDoor
open Go.Pk
open Go.RowKit (Below)
theorem qaD {A : Bl} {a0 : Option Addr} {l0 c0 : Nat} {rs : List Rul} {a1 : Option Addr} {l1 c1 : Nat} {ts : List (List UInt8)} {w : World} (hs : Sl tRul w A a0 l0 c0 rs) (ht : Sl tS w A a1 l1 c1 ts) (hl : rs.length <= 9223372036854775807) (hl2 : ts.length <= 9223372036854775807) :
   Calls prog zr #[.slice a0 l0 c0, .slice a1 l1 c1] w (Ret fun v w' => v = .bool (fewB rs ts) /\ Below w.heap.size w w') := by
 apply qac
 unfold zU
 have hn := hs.len
 have hn1 := ht.len
 subst hn hn1
 unfold fewB
 refine ⟨fun m i w' => ∃ k : Nat, k <= rs.length /\ i = (k : Int) /\ m = rs.length - k /\ (rs.take k).all (fun r => decide (r.2.length <= 300)) = true /\ Below w.heap.size w w', ⟨_, 0, by omega, rfl, rfl, rfl, Below.refl _ _⟩, ?_⟩
 intro m i
 refine AllJ.of ?_ _
 rintro w1 ⟨k, hk, rfl, rfl, hno, hB1⟩
 refine BCase.of (fun hi => ?_) (fun hi => ?_) <;> simp only [dTx, dFx] at hi
 · have hlt : k < rs.length := by omega
   have hs1 := hs.below hB1
   refine ⟨⟨⟨by omega, hi⟩, hs1.isSome hlt⟩, _, _, qdP hs1 hlt, ?_⟩
   refine zx.new (zs := rulC (0, [])) (cs := rulC rs[k]) rfl rfl (qbI _) w1 fun k6 w6 hk6 h6 hb6 => ?_
   have hB6 := qb hB1 hb6 hB1.size
   refine ⟨rfl, _, h6.load1 un_string rfl rfl, BCase.of (fun c => ⟨?_, hB6⟩) (fun c => ?_)⟩ <;> simp only [gt_iff_lt, dTx, dFx] at c
   · have : rs.all (fun r => decide (r.2.length <= 300)) = false := by
       rw [Bool.eq_false_iff]
       intro hx
       have := List.all_eq_true.1 hx _ (List.getElem_mem hlt)
       rw [dTx] at this; omega
     rw [this, Bool.false_and]
   · refine ⟨rs.length - (k + 1), by omega, k + 1, by omega, by rw [wrap_i64 (by omega) (by omega)]; omega, rfl, ?_, hB6⟩
     rw [List.take_succ_eq_append_getElem hlt, List.all_append, hno]
     simp; omega
 · have : k = rs.length := by omega
   subst this
   rw [List.take_length] at hno
   rw [hno, Bool.true_and]
   refine ⟨fun m i w' => ∃ k : Nat, k <= ts.length /\ i = (k : Int) /\ m = ts.length - k /\ (ts.take k).all (fun t => decide (t.length <= 2500)) = true /\ w' = w1, ⟨_, 0, by omega, rfl, rfl, rfl, rfl⟩, ?_⟩
   intro m i
   refine AllJ.of ?_ _
   rintro w2 ⟨k, hk, rfl, rfl, hno2, hw2⟩
   rw [hw2]; clear hw2
   have ht1 := ht.below hB1
   refine BCase.of (fun hi => ?_) (fun hi => ?_) <;> simp only [dTx, dFx] at hi
   · have hlt : k < ts.length := by omega
     refine ⟨⟨⟨by omega, hi⟩, ht1.isSome hlt⟩, _, ht1.text un_string hlt, BCase.of (fun c => ⟨?_, hB1⟩) (fun c => ?_)⟩ <;> simp only [gt_iff_lt, dTx, dFx] at c
     · have : ts.all (fun t => decide (t.length <= 2500)) = false := by
         rw [Bool.eq_false_iff]
         intro hx
         have := List.all_eq_true.1 hx _ (List.getElem_mem hlt)
         rw [dTx] at this; omega
       rw [this, Bool.false_and]
     · refine ⟨ts.length - (k + 1), by omega, k + 1, by omega, by rw [wrap_i64 (by omega) (by omega)]; omega, rfl, ?_, rfl⟩
       rw [List.take_succ_eq_append_getElem hlt, List.all_append, hno2]
       simp; omega
   · have : k = ts.length := by omega
     subst this
     rw [List.take_length] at hno2
     rw [hno2, Bool.true_and]
     refine ⟨?_, hB1⟩
     congr 1
     rw [Bool.eq_iff_iff, dTx, dTx]; omega
theorem qdQ {w w' : World} {k : Nat} {ts : List (List UInt8)} (hk : k = w.heap.size) (hw : w' = w.alloc (.cells (ts.map fun s => Value.string (mkS s)).toArray qe)) (hm : ts.length <= maxLen) : Sl tS w' AllB (some ⟨k, 0, none⟩) ts.length ts.length ts :=
 (Ow.newF (T := tS) (A := NoB) (jY _) hk hw (qbD fun _ _ => trivial) hm).all
end Go.Proofs.YtndbpedpdbjkpaaGreatDoor
namespace Go.Pk
open Go.RowKit (Below)
theorem qbF.base {w0 w1 : World} {t te : TypeId} {kt km : Nat} {a : Option Addr} {n c : Nat} {ps : List Pth} {kvs : List (qeH × Int)} {es : List (List Bool)} {rs : List Rul} {w : World} (S : qbF w1 t te kt km a n c ps kvs es rs w) (h : Below w0.heap.size w0 w1) : qbF w0 t te kt km a n c ps kvs es rs w :=
 ⟨S.h1, S.h2, S.h3, S.T, S.t, qb h S.hb h.size, S.ne, fun g hg => ⟨(S.og g hg).1, (S.og g hg).2.1, Nat.le_trans h.size (S.og g hg).2.2⟩, Nat.le_trans h.size S.kt0, Nat.le_trans h.size S.km0⟩
def TabP (w0 : World) (t te : TypeId) (rs : List Rul) (p : Option Addr) (w : World) : Prop := ∃ kt km a n c ps kvs es, p = some ⟨kt, 0, none⟩ /\ qbF w0 t te kt km a n c ps kvs es rs w
theorem TabP.below {w0 : World} {t te : TypeId} {rs : List Rul} {p : Option Addr} {w w' : World} (h : TabP w0 t te rs p w) (hb : Below w.heap.size w w') : TabP w0 t te rs p w' := by
 obtain ⟨kt, km, a, n, c, ps, kvs, es, e, S⟩ := h
 exact ⟨kt, km, a, n, c, ps, kvs, es, e, S.below hb⟩
structure StA (wb : World) (tt te tc : TypeId) (rs : List Rul) (t : Option (Option Addr)) (k : Option Nat) (w : World) : Prop where
 hb : Below wb.heap.size wb w
 ht : ∀ p, t = some p -> TabP wb tt te rs p w
 hk : ∀ x, k = some x -> qm w x tc cky0.cells /\ wb.heap.size <= x
theorem StA.below {wb : World} {tt te tc : TypeId} {rs : List Rul} {t : Option (Option Addr)} {k : Option Nat} {w w' : World} (S : StA wb tt te tc rs t k w) (hb : Below w.heap.size w w') : StA wb tt te tc rs t k w' :=
 ⟨qb S.hb hb S.hb.size, fun p e => (S.ht p e).below hb, fun x e => ⟨(S.hk x e).1.below hb, (S.hk x e).2⟩⟩
end Go.Pk
namespace Go.Proofs.YtndbpedpdbjkpaaGreatDoor
open Go.Pk
open Go.RowKit (Below)
structure AdC (wb : World) (a0 : Option Addr) (l0 c0 : Nat) (rs : List Rul) (k7 k8 : Nat) (u : Url) (h : Hdr) : Prop where
 he : Env wb
 hs : Sl tRul wb AllB a0 l0 c0 rs
 hl : rs.length <= 1000000
 hr : ∀ r ∈ rs, r.2.length <= 1000000
 hU : qm wb k7 qg u.cells
 hH : qm wb k8 qd h.cells
 ou : u.ok
 un : u.host.name.length <= 80000000
 up : u.path.length <= 1000000000
 ho : qda h
section
variable {wb : World} {a0 : Option Addr} {l0 c0 : Nat} {rs : List Rul} {k7 k8 : Nat} {u : Url} {h : Hdr} {t : Option (Option Addr)} {k : Option Nat} {w : World}
theorem ad_u (C : AdC wb a0 l0 c0 rs k7 k8 u h) (S : StA wb qq qt qa (rs.filter rulR) t k w) : (Instr.loadAt qg (.pointer (some ⟨k7, 0, none⟩))).run prog w = .ok u.v w := qas.load0 (C.hU.below S.hb) (Url.len C.ou)
theorem ad_h (C : AdC wb a0 l0 c0 rs k7 k8 u h) (S : StA wb qq qt qa (rs.filter rulR) t k w) : (Instr.loadAt qd (.pointer (some ⟨k8, 0, none⟩))).run prog w = .ok h.v w := zo h (C.hH.below S.hb)
theorem ad_new (C : AdC wb a0 l0 c0 rs k7 k8 u h) (S : StA wb qq qt qa (rs.filter rulR) none k w) {R : Option Addr -> World -> Prop} (H : ∀ p w', StA wb qq qt qa (rs.filter rulR) (some p) k w' -> R p w') :
   Calls prog qp #[.slice a0 l0 c0] w fun e w' => ∃ p : Option Addr, e = .returned (.pointer p) /\ R p w' := by
 refine callK (qbh (C.hs.below S.hb) C.hl C.hr (C.he.step S.hb)) ?_
 rintro _ w' ⟨kt, km, a, n, c, ps, kvs, es, rfl, T⟩
 refine ⟨_, rfl, H _ w' ?_⟩
 have S' := S.below T.hb
 exact ⟨S'.hb, fun p e => by cases e; exact ⟨kt, km, a, n, c, ps, kvs, es, rfl, T.base S.hb⟩, S'.hk⟩
theorem ad_take (C : AdC wb a0 l0 c0 rs k7 k8 u h) {p : Option Addr} (S : StA wb qq qt qa (rs.filter rulR) (some p) k w) {now : Int} {R : Value -> Int -> World -> Prop} (H : ∀ w', StA wb qq qt qa (rs.filter rulR) (some p) k w' -> R (takV (rs.filter rulR) u h now).1.v (takV (rs.filter rulR) u h now).2 w') :
   Calls prog qh #[.pointer p, u.v, h.v, .int .i64 now] w fun e w' => ∃ (v : Value) (n : Int), e = .returned (.tuple #[v, .int .i64 n]) /\ R v n w' := by
 obtain ⟨kt, km, a, n, c, ps, kvs, es, e, T⟩ := S.ht p rfl
 subst e
 refine callK (jv C.he T C.ou (by have := C.un; omega) C.up h C.ho now) ?_
 rintro _ w' ⟨rfl, hb⟩
 exact ⟨_, _, rfl, H w' (S.below hb)⟩
theorem ad_al (S : StA wb qq qt qa rs t none w) {R : Nat -> World -> Prop} (H : ∀ x w', StA wb qq qt qa rs t (some x) w' -> R x w') :
   ∀ (x : Nat) (w' : World), x = w.heap.size -> w' = w.alloc (.cells qj qa) -> R x w' := fun x w' hx hw => by
 have hb := (hw ▸ qf w _ : Below w.heap.size w w')
 have S' := S.below hb
 refine H x w' ⟨S'.hb, S'.ht, fun y e => ?_⟩
 cases e
 exact ⟨qm.new hx hw, by have := S.hb.size; omega⟩
theorem ad_st {x : Nat} (S : StA wb qq qt qa rs t (some x) w) {c : Cky} (o : c.ok) {R : World -> Prop} (H : ∀ wx, Below wb.heap.size wb wx -> qm wx x qa c.cells -> R wx) :
   ∃ wx : World, (Instr.storeAt qa (.pointer (some ⟨x, 0, none⟩)) c.v).run prog w = .ok () wx /\ R wx := by
 obtain ⟨h1, h2⟩ := S.hk x rfl
 obtain ⟨wx, hs, ha, hg⟩ := qS.store0 (Cky.len o) (Cky.one c) h1 rfl
 exact ⟨wx, hs, H wx (Below.put S.hb hg h2) ha⟩
end
end Go.Proofs.YtndbpedpdbjkpaaGreatDoor
namespace Go.Pk
open Go.RowKit (Below)
theorem qcR {rs : List Rul} {ts : List (List UInt8)} (h : fewB rs ts = true) : (∀ r ∈ rs, r.2.length <= 300) /\ (∀ t ∈ ts, t.length <= 2500) /\ rs.length <= 30 := by
 unfold fewB at h
 rw [Bool.and_eq_true, Bool.and_eq_true, List.all_eq_true, List.all_eq_true, dTx] at h
 exact ⟨fun r hr => of_decide_eq_true (h.1 r hr), fun t ht => of_decide_eq_true (h.2.1 t ht), h.2.2⟩
theorem qfO {s : List UInt8} (h : pathB s = true) : s.length <= 2048 := by
 unfold pathB at h
 rw [Bool.and_eq_true, Bool.and_eq_true, dTx, dTx] at h
 exact h.2.1
theorem qdb (r : List UInt8) (b : Bool) : (urlR r b).1.host.name.length <= 253 /\ (urlR r b).1.path.length <= 2048 := by
 unfold urlR
 split
 · exact ⟨by decide, by decide⟩
 · rename_i h hh
   split
   · exact ⟨by decide, by decide⟩
   · split
     · rename_i hp
       refine ⟨?_, qfO hp⟩
       unfold qiq at hh
       split at hh
       · cases hh
       · exact qah hh
     · exact ⟨by decide, by decide⟩
theorem qc6 (s : List UInt8) : (urlV s).1.host.name.length <= 253 /\ (urlV s).1.path.length <= 2048 := by
 unfold urlV
 split
 · exact ⟨by decide, by decide⟩
 · exact qdb _ _
theorem qeO : qda hdr0 := ⟨by decide, by decide, by decide, by decide, by decide, by decide⟩
theorem qb7 {s : List UInt8} (h : (qM s).2 ≠ 0) : (qM s).1 = hdr0 := by
 unfold qM at h ⊢
 split
 · rfl
 split
 · rfl
 split
 · rfl
 · rename_i h1 h2 h3
   rw [if_neg h1, if_neg h2, if_neg h3] at h
   exact absurd rfl h
theorem qdk (s : List UInt8) : qda (qM s).1 := by
 by_cases h : (qM s).2 = 0
 · exact qih (parse_good (s := s) (Prod.ext rfl h))
 · rw [qb7 h]; exact qeO
end Go.Pk
namespace Go.Pk
open Go.ChangeShapes Go.WideShapes
theorem qbJ {H : Type} {enc : TypeId × Value -> H} {P : Program} {w : World} {fuel : Nat} {t : TypeId} {fs : Array Field} {cs : List Value} {x : DataW H × List MemPlace} (ht : P.underlying t = some (.struct fs))
   (h : DataW.trod enc P w 0 (fun _ => true) true fuel t cs = some x) :
   ∃ n, cs.length = P.cellsOf t /\ ∀ (i : Nat) (u : TypeId) (o k : Nat), (∃ f : Field, fs[i]? = some f /\ f.type = u /\ f.offset = o) -> P.cellsOf u = k -> ∃ y, DataW.trod enc P w 0 (fun _ => true) true n u ((cs.drop o).take k) = some y := by
 obtain ⟨xs, n, _, _, hl, hlen, hf⟩ := DataW.trod_struct ht h
 refine ⟨n, hl, ?_⟩
 rintro i _ _ _ ⟨f, hi, rfl, rfl⟩ rfl
 have hlt : i < xs.length := by rw [hlen]; exact (Array.getElem?_eq_some_iff.1 hi).1
 exact ⟨xs[i], by rw [hf i f hi, List.getElem?_eq_getElem hlt]⟩
theorem qaw {α : Type} (cs : List α) (a b : Nat) : cs.drop a = (cs.drop a).take b ++ cs.drop (a + b) := by
 rw [<- List.drop_drop, List.take_append_drop]
theorem qd1 {α : Type} (cs : List α) (n : Nat) (h : cs.length = n) : cs.drop n = [] := List.drop_of_length_le (by omega)
end Go.Pk
namespace Go.Proofs.YtndbpedpdbjkpaaGreatDoor
open Go.Pk
open Go.ChangeShapes Go.WideShapes
theorem qc0 {H : Type} {enc : TypeId × Value -> H} {w : World} {fuel : Nat} {cs : List Value} {x : DataW H × List MemPlace} (h : DataW.trod enc prog w 0 (fun _ => true) true fuel ql cs = some x) : ∃ r : Rul, cs = rulC r := by
 obtain ⟨n, hl, hf⟩ := qbJ Tryz.underlying59 h
 have hl2 : cs.length = 2 := hl.trans (by kernel_rfl)
 obtain ⟨y0, h0⟩ := hf 0 qx 0 1 ⟨_, rfl, rfl, rfl⟩ (by kernel_rfl)
 obtain ⟨y1, h1⟩ := hf 1 qe 1 1 ⟨_, rfl, rfl, rfl⟩ (by kernel_rfl)
 obtain ⟨k, e0, _⟩ := qaE qN H enc w n _ _ h0
 obtain ⟨s, e1, _⟩ := qaG un_string H enc w n _ _ h1
 refine ⟨(k, s), ?_⟩
 have s0 := qaw cs 0 1
 have s1 := qaw cs 1 1
 rw [e0, List.drop_zero] at s0
 rw [e1, qd1 cs (1 + 1) hl2, List.append_nil] at s1
 rw [s0, s1]; rfl
theorem qc5 {H : Type} {enc : TypeId × Value -> H} {w : World} {n b off : Nat} (m : Nat)
   (hx : ∀ i, i < m -> ∃ cs, (∀ j, j < 2 -> w.cell? ⟨b, off + (i * 2 + j), none⟩ = cs[j]?) /\ ∃ y, DataW.trod enc prog w 0 (fun _ => true) true n ql cs = some y) :
   ∃ rs : List Rul, rs.length = m /\ At tRul w AllB b off rs := by
 induction m with
 | zero => exact ⟨[], rfl, [], RepL.nil _ _ _, fun j hj => by cases hj⟩
 | succ m ih =>
   obtain ⟨rs, hl, l, hr, hc⟩ := ih fun i hi => hx i (by omega)
   obtain ⟨cs, hcell, y, hy⟩ := hx m (by omega)
   obtain ⟨r, rfl⟩ := qc0 hy
   refine ⟨rs ++ [r], by rw [List.length_append, hl]; rfl, l ++ rulC r, hr.append (RepL.one (T := tRul) rfl), fun j hj => ?_⟩
   have hll : l.length = m * 2 := by rw [hr.len, hl]; rfl
   rw [List.length_append, hll, show (rulC r).length = 2 from rfl] at hj
   by_cases hlt : j < l.length
   · rw [List.getElem?_append_left hlt]; exact hc j hlt
   · rw [List.getElem?_append_right (by omega), <- hcell (j - l.length) (by omega), hll, show off + (m * 2 + (j - m * 2)) = off + j by omega]
theorem qcq {H : Type} {enc : TypeId × Value -> H} {w : World} {fuel : Nat} {v : Value} {x : DataW H × List MemPlace} (h : DataW.trod enc prog w 0 (fun _ => true) true fuel jw [v] = some x) :
   ∃ (a : Option Addr) (len cap : Nat) (rs : List Rul), v = .slice a len cap /\ Sl tRul w AllB a len cap rs /\ rs.length <= 9223372036854775807 := by
 rcases Go.Deep.open_slice qaQ h with ⟨e, _⟩ | ⟨a, len, cap, m, n, D, Pl, e, _, hlc, hcm, hm, _, hx⟩
 · obtain rfl : v = _ := by injection e
   exact ⟨none, 0, 0, [], rfl, Sl.nil _ _ _ _ _ (Nat.zero_le _), Nat.zero_le _⟩
 · obtain rfl : v = _ := by injection e
   have hmax : maxLen <= 9223372036854775807 := by unfold maxLen; decide
   rw [if_pos rfl] at hm
   subst hm
   rw [show prog.cellsOf ql = 2 by kernel_rfl] at hx
   by_cases h0 : len = 0
   · subst h0
     exact ⟨_, _, _, [], rfl, ⟨rfl, hlc, hcm, .inl rfl⟩, Nat.zero_le _⟩
   · obtain ⟨b, off, spot⟩ := a
     obtain ⟨c0, hc0, _⟩ := hx 0 (by omega)
     have hb := World.cells?_block hc0 (by decide)
     obtain ⟨_, hl0, hcc⟩ := World.cells?_some hc0
     have h00 := hcc 0 (by decide)
     rw [List.getElem?_eq_getElem (by omega)] at h00
     have hspot : spot = none := by simpa [Addr.add] using World.cell?_spot h00
     subst hspot
     obtain ⟨rs, hrl, hat⟩ := qc5 (b := b) (off := off) len fun i hi => by
       obtain ⟨cs, hcs, hy⟩ := hx i (by omega)
       obtain ⟨_, hl2, hce⟩ := World.cells?_some hcs
       refine ⟨cs, fun j hj => ?_, _, hy⟩
       rw [<- hce j hj, jZ, jZ, Nat.add_assoc]
     exact ⟨_, _, _, rs, rfl, ⟨hrl.symm, hlc, hcm, .inr ⟨b, off, rfl, (by rw [Nat.zero_mul, jZ] at hb; exact hb), trivial, hat⟩⟩, by omega⟩
end Go.Proofs.YtndbpedpdbjkpaaGreatDoor
namespace Go.Pk
open Go.RowKit (Below)
theorem qb5 (h : Hst) : j8 h h = true := by
 have ha : ∀ l : List UInt8, adEq l l = true := fun l => by
   induction l with
   | nil => rfl
   | cons a l ih => simp [adEq, ih]
 unfold j8; rw [ha]; simp
end Go.Pk
namespace Go.Pk
theorem qc7 (d : UInt8) : ∀ (r : List (List UInt8)) (x : List UInt8), (∀ c ∈ x, c ≠ d) -> (∀ y ∈ r, ∀ c ∈ y, c ≠ d) -> cutC d [] (Lib.join (x :: r) [d]) = x :: r
 | [], x, hx, _ => by rw [Lib.join_one, qgy d x [] hx]; rfl
 | y :: r, x, hx, hr => by
   have ih := qc7 d r y (hr y List.mem_cons_self) (fun z hz => hr z (List.mem_cons_of_mem _ hz))
   have e : Lib.join (x :: y :: r) [d] = x ++ d :: Lib.join (y :: r) [d] := by
     rw [Lib.join_cons, Lib.join_cons]
     simp [Lib.joinTail]
   rw [e, qjo d x [] _ hx, ih]; rfl
theorem qsy {s : List UInt8} (h : ∀ c ∈ s, lowC c = c) : lowL s = s := by
 induction s with
 | nil => rfl
 | cons c s ih =>
   show lowC c :: lowL s = c :: s
   rw [h c List.mem_cons_self, ih fun x hx => h x (List.mem_cons_of_mem _ hx)]
theorem u8n (c : UInt8) : c.toNat < 256 := by have := c.toNat_lt; omega
theorem qdT : ∀ n, n < 256 -> zy (decL n) = true /\ (decL n).length <= 18 /\ ¬ ((decL n).head? = some 48 /\ 1 < (decL n).length) /\ ipB (decL n) = UInt8.ofNat n /\ decV (decL n) = (n : Int) := by
 intro n hn
 obtain ⟨h1, h2, h3⟩ := qey n
 have hl : (decL n).length <= 21 := zS (by omega)
 refine ⟨?_, ?_, ?_, ?_, h3⟩
 · unfold zy
   rw [Bool.and_eq_true]
   refine ⟨?_, List.all_eq_true.2 h1⟩
   cases hd : decL n with
   | nil => exact absurd hd h2
   | cons a b => rfl
 · by_cases c : n < 10
   · rw [jA c]; simp
   · rw [jC c]
     by_cases c2 : n / 10 < 10
     · rw [jA c2]; simp
     · rw [jC c2, jA (show n / 10 / 10 < 10 by omega)]; simp
 · rintro ⟨g1, g2⟩
   by_cases c : n < 10
   · rw [jA c] at g2; exact absurd g2 (by simp)
   · have nz : ∀ k, k < 10 -> 0 < k -> UInt8.ofNat (48 + k) ≠ 48 := by decide
     rw [jC c] at g1
     by_cases c2 : n / 10 < 10
     · rw [jA c2] at g1
       exact nz (n / 10) c2 (by omega) (Option.some.inj g1)
     · rw [jC c2, jA (show n / 10 / 10 < 10 by omega)] at g1
       exact nz (n / 10 / 10) (by omega) (by omega) (Option.some.inj g1)
 · unfold ipB; rw [show decV (decL n) = (n : Int) from h3]; rfl
theorem qps {c : UInt8} (h : j9 c = true) : c ≠ 46 /\ lowC c = c /\ c ≠ 91 := by
 have hall : ∀ n, n < 256 -> j9 (UInt8.ofNat n) = true -> UInt8.ofNat n ≠ 46 /\ lowC (UInt8.ofNat n) = UInt8.ofNat n /\ UInt8.ofNat n ≠ 91 := by decide +kernel
 have := hall c.toNat (by have := c.toNat_lt; omega)
 rw [UInt8.ofNat_toNat] at this
 exact this h
theorem qgp {a : List UInt8} (h : a.length = 16) : cutC 46 [] (text4V a) = (a.drop 12).map fun c => decL c.toNat := by
 unfold text4V
 rw [qfg h]
 have hd : ∀ c : UInt8, ∀ x ∈ decL c.toNat, x ≠ 46 := fun c x hx => (qps ((qey c.toNat).1 x hx)).1
 exact qc7 46 _ _ (hd _) (by
   intro y hy
   simp only [List.map_cons, List.map_nil, List.mem_cons, List.not_mem_nil, or_false] at hy
   rcases hy with rfl | rfl | rfl <;> exact hd _)
theorem qpz {a : List UInt8} (h : a.length = 16) (hz : a.take 12 = List.replicate 12 0) : v4V (text4V a) = some a := by
 unfold v4V
 rw [qgp h]
 rw [if_pos]
 · congr 1
   rw [List.map_map]
   have e : (ipB ∘ fun c : UInt8 => decL c.toNat) = id := funext fun c => by
     show ipB (decL c.toNat) = c
     rw [(qdT c.toNat (u8n c)).2.2.2.1, UInt8.ofNat_toNat]
   rw [e, List.map_id, <- hz, List.take_append_drop]
 · refine ⟨by rw [List.length_map, List.length_drop, h], fun x hx => ?_⟩
   obtain ⟨c, hc, rfl⟩ := List.mem_map.1 hx
   obtain ⟨f1, f2, f3, f4, f5⟩ := qdT c.toNat (u8n c)
   exact ⟨⟨f1, f2, f3⟩, by rw [f5]; have := u8n c; omega⟩
theorem ql6 {a : List UInt8} (h : a.length = 16) : (∀ c ∈ text4V a, lowC c = c /\ c ≠ 91) := by
 intro c hc
 rw [text4_parts h] at hc
 have hd : ∀ {n : Nat}, c ∈ decL n -> lowC c = c /\ c ≠ 91 := fun hx => (qps ((qey _).1 c hx)).2
 have h46 : c ∈ ([46] : List UInt8) -> lowC c = c /\ c ≠ 91 := fun hx => by rw [List.mem_singleton.1 hx]; decide
 simp only [List.mem_append] at hc
 rcases hc with (((((hc | hc) | hc) | hc) | hc) | hc) | hc
 · exact hd hc
 · exact h46 hc
 · exact hd hc
 · exact h46 hc
 · exact hd hc
 · exact h46 hc
 · exact hd hc
theorem qjI {a : List UInt8} (h : a.length = 16) : zy (qid (cutC 46 [] (text4V a))) = true := by
 rw [qgp h, qfg h]
 exact (qdT _ (u8n _)).1
theorem qr6 {a : List UInt8} (h : a.length = 16) (hz : a.take 12 = List.replicate 12 0) : hostV (text4V a) = some ⟨2, [], a⟩ := by
 have hl := ql6 h
 unfold hostV
 rw [if_neg, qsy fun c hc => (hl c hc).1, if_pos (qjI h), qpz h hz]
 · rfl
 · intro e
   cases ht : text4V a with
   | nil => rw [ht] at e; cases e
   | cons x r =>
     rw [ht] at e
     obtain rfl : x = 91 := Option.some.inj e
     exact (hl 91 (by rw [ht]; exact List.mem_cons_self)).2 rfl
theorem qfc : ∀ d, d < 16 -> qeP (hexC d) = true /\ hexN (hexC d) = d /\ hexC d ≠ 58 := by decide
theorem hexL_facts (n : Nat) : (∀ c ∈ hexL n, qeP c = true /\ c ≠ 58) /\ hexL n ≠ [] /\ grpN (hexL n) = n := by
 induction n using Nat.strongRecOn with
 | _ n ih =>
   by_cases h : n < 16
   · rw [qdK h]
     obtain ⟨h1, h2, h3⟩ := qfc n h
     refine ⟨fun c hc => by rw [List.mem_singleton.1 hc]; exact ⟨h1, h3⟩, by simp, ?_⟩
     show 0 * 16 + hexN (hexC n) = n
     rw [h2]; omega
   · obtain ⟨i1, i2, i3⟩ := ih (n / 16) (by omega)
     obtain ⟨h1, h2, h3⟩ := qfc (n % 16) (by omega)
     rw [hexL_more h]
     refine ⟨fun c hc => ?_, by simp, ?_⟩
     · rcases List.mem_append.1 hc with hc | hc
       · exact i1 c hc
       · rw [List.mem_singleton.1 hc]; exact ⟨h1, h3⟩
     · unfold grpN at i3 ⊢
       rw [List.foldl_append, i3]
       show n / 16 * 16 + hexN (hexC (n % 16)) = n
       rw [h2]; omega
theorem qol {n : Nat} (h : n < 65536) : jL (hexL n) = true := by
 obtain ⟨h1, h2, _⟩ := hexL_facts n
 unfold jL
 have hl := qcp h
 have h0 : 1 <= (hexL n).length := by
   cases hd : hexL n with
   | nil => exact absurd hd h2
   | cons a b => simp
 rw [decide_eq_true h0, decide_eq_true hl, List.all_eq_true.2 fun c hc => (h1 c hc).1]; rfl
theorem qdr {l : List Nat} : rowP (wrL l) = l.map hexL := by
 cases l with
 | nil => rfl
 | cons n l =>
   unfold rowP
   rw [if_neg]
   · unfold wrL
     exact qc7 58 _ _ (fun c hc => ((hexL_facts n).1 c hc).2) (fun y hy c hc => by
       obtain ⟨m, _, rfl⟩ := List.mem_map.1 hy
       exact ((hexL_facts m).1 c hc).2)
   · unfold wrL
     rw [List.map_cons, Lib.join_cons]
     intro e
     exact (hexL_facts n).2.1 (List.append_eq_nil_iff.1 e).1
theorem row_all {l : List Nat} (h : ∀ x ∈ l, x < 65536) : (rowP (wrL l)).all jL = true := by
 rw [qdr]
 exact List.all_eq_true.2 fun y hy => by
   obtain ⟨m, hm, rfl⟩ := List.mem_map.1 hy
   exact qol (h m hm)
theorem qis {l : List Nat} : (rowP (wrL l)).map grpN = l := by
 rw [qdr, List.map_map]
 have e : (grpN ∘ hexL) = id := funext fun n => (hexL_facts n).2.2
 rw [e, List.map_id]
theorem qnP {l : List Nat} (h : ∀ x ∈ l, x < 65536) (hl : l.length = 8) : v6V (wrL l) = some l := by
 have hr : cutC 58 [] (wrL l) = rowP (wrL l) := by
   unfold rowP
   rw [if_neg]
   intro e
   have := qdr (l := l)
   rw [e] at this
   have := congrArg List.length this
   rw [List.length_map, hl] at this
   exact absurd this (by decide)
 have h8 : e8 (wrL l) = true := by
   unfold e8
   rw [hr, row_all h, qdr, List.length_map, hl]; rfl
 rw [qur h8, hr, qis]
theorem qpH (A B : List UInt8) : at2 (A ++ [58, 58] ++ B) A.length := by
 unfold at2
 rw [List.append_assoc]
 refine ⟨by rw [List.getElem?_append_right (Nat.le_refl _), Nat.sub_self]; rfl, ?_⟩
 rw [List.getElem?_append_right (by omega), show A.length + 1 - A.length = 1 by omega]; rfl
theorem qrS {l : List Nat} {p n : Nat} (h : ∀ x ∈ l, x < 65536) (hl : l.length = 8) (hp : p + n <= 8) (hn : 1 <= n) (hz : ∀ j, j < n -> l.getD (p + j) 1 = 0) :
   v6V (wrL (l.take p) ++ [58, 58] ++ wrL (l.drop (p + n))) = some l := by
 have hA := row_all (l := l.take p) fun x hx => h x (List.mem_of_mem_take hx)
 have hB := row_all (l := l.drop (p + n)) fun x hx => h x (List.mem_of_mem_drop hx)
 have t1 : (wrL (l.take p) ++ [58, 58] ++ wrL (l.drop (p + n))).take (wrL (l.take p)).length = wrL (l.take p) := by rw [List.append_assoc, List.take_left']; rfl
 have t2 : (wrL (l.take p) ++ [58, 58] ++ wrL (l.drop (p + n))).drop ((wrL (l.take p)).length + 2) = wrL (l.drop (p + n)) := by
   rw [List.drop_left' (by rw [List.length_append]; rfl)]
 have hat := qpH (wrL (l.take p)) (wrL (l.drop (p + n)))
 rw [qtg hat, t1, t2, if_pos]
 · congr 1
   unfold v6L
   rw [qis, qis, qdr, qdr, List.length_map, List.length_map, List.length_take, List.length_drop, hl]
   have hmid : (l.drop p).take n = List.replicate n 0 := by
     rw [List.eq_replicate_iff]
     refine ⟨by rw [List.length_take, List.length_drop, hl]; omega, fun x hx => ?_⟩
     obtain ⟨j, hj, rfl⟩ := List.mem_iff_getElem.1 hx
     rw [List.length_take, List.length_drop, hl] at hj
     have := hz j (by omega)
     rw [List.getD_eq_getElem?_getD, List.getElem?_eq_getElem (by omega)] at this
     rw [List.getElem_take, List.getElem_drop]
     exact this
   rw [show 8 - min p 8 - (8 - (p + n)) = n by omega, <- hmid]
   conv => rhs; rw [<- List.take_append_drop p l]
   rw [List.append_assoc, <- List.drop_drop, List.take_append_drop]
 · refine ⟨⟨hA, hB⟩, ?_⟩
   rw [qdr, qdr, List.length_map, List.length_map, List.length_take, List.length_drop, hl]; omega
 · intro j hj hc
   have := late hc hj hat
   rw [t1, hA] at this
   cases this
theorem qsE (a : List UInt8) (k : Nat) (h : (zsA a).getD k false = true) : (gL a).getD k 1 = 0 := by
 unfold zsA at h
 rw [List.getD_eq_getElem?_getD, List.getElem?_map] at h
 rw [List.getD_eq_getElem?_getD]
 cases hk : (gL a)[k]? with
 | none => rw [hk] at h; cases h
 | some v => rw [hk] at h; exact eq_of_beq h
theorem qpK (a : List UInt8) : v6V (qaJ a) = some (gL a) := by
 unfold qaJ
 split
 · exact qnP (qeo a) rfl
 · rename_i h
   obtain ⟨h1, h2, _⟩ := qc3 (qit a)
   have h3 := h2 (by omega)
   refine qrS (qeo a) rfl h1 (by omega) fun j hj => qsE a _ ?_
   unfold allZ at h3
   exact List.all_eq_true.1 h3 j (List.mem_range.2 hj)
theorem qp3 {a : List UInt8} (h : a.length = 16) : qdH (gL a) = a := by
 obtain ⟨x0, x1, x2, x3, x4, x5, x6, x7, x8, x9, x10, x11, x12, x13, x14, x15, rfl⟩ := qi4 a h
 have e : ∀ x y : UInt8, [UInt8.ofNat ((x.toNat * 256 + y.toNat) / 256), UInt8.ofNat ((x.toNat * 256 + y.toNat) % 256)] = [x, y] := fun x y => by
   have h1 := u8n x; have h2 := u8n y
   rw [show (x.toNat * 256 + y.toNat) / 256 = x.toNat by omega, show (x.toNat * 256 + y.toNat) % 256 = y.toNat by omega, UInt8.ofNat_toNat, UInt8.ofNat_toNat]
 show [_, _] ++ ([_, _] ++ ([_, _] ++ ([_, _] ++ ([_, _] ++ ([_, _] ++ ([_, _] ++ ([_, _] ++ []))))))) = _
 have f := fun x y => e x y
 exact (by
   rw [show grpA [x0, x1, x2, x3, x4, x5, x6, x7, x8, x9, x10, x11, x12, x13, x14, x15] 0 = x0.toNat * 256 + x1.toNat from rfl, show grpA [x0, x1, x2, x3, x4, x5, x6, x7, x8, x9, x10, x11, x12, x13, x14, x15] 1 = x2.toNat * 256 + x3.toNat from rfl,
     show grpA [x0, x1, x2, x3, x4, x5, x6, x7, x8, x9, x10, x11, x12, x13, x14, x15] 2 = x4.toNat * 256 + x5.toNat from rfl, show grpA [x0, x1, x2, x3, x4, x5, x6, x7, x8, x9, x10, x11, x12, x13, x14, x15] 3 = x6.toNat * 256 + x7.toNat from rfl,
     show grpA [x0, x1, x2, x3, x4, x5, x6, x7, x8, x9, x10, x11, x12, x13, x14, x15] 4 = x8.toNat * 256 + x9.toNat from rfl, show grpA [x0, x1, x2, x3, x4, x5, x6, x7, x8, x9, x10, x11, x12, x13, x14, x15] 5 = x10.toNat * 256 + x11.toNat from rfl,
     show grpA [x0, x1, x2, x3, x4, x5, x6, x7, x8, x9, x10, x11, x12, x13, x14, x15] 6 = x12.toNat * 256 + x13.toNat from rfl, show grpA [x0, x1, x2, x3, x4, x5, x6, x7, x8, x9, x10, x11, x12, x13, x14, x15] 7 = x14.toNat * 256 + x15.toNat from rfl,
     e, e, e, e, e, e, e, e]; rfl)
theorem qsn {a : List UInt8} (h : a.length = 16) : hostV ([91] ++ qaJ a ++ [93]) = some ⟨3, [], a⟩ := by
 have h1 : (([91] : List UInt8) ++ qaJ a ++ [93]).head? = some 91 := rfl
 have h2 : (([91] : List UInt8) ++ qaJ a ++ [93]).getLast? = some 93 := by rw [List.getLast?_append]; rfl
 unfold hostV
 rw [if_pos h1, if_pos h2]
 have e : (([91] ++ qaJ a ++ [93]).drop 1).take (([91] ++ qaJ a ++ [93]).length - 2) = qaJ a := by
   rw [List.append_assoc, List.singleton_append, List.drop_succ_cons, List.drop_zero]
   rw [List.take_left']
   simp
 rw [e]
 unfold v6A
 rw [qpK, Option.map_some, Option.map_some, qp3 h]
theorem qjB {s : List UInt8} {h : Hst} (e : hostV s = some h) : hostV (qax h) = some h := by
 have ho := jG e
 unfold hostV at e
 split at e
 · split at e
   · cases hv : v6A ((s.drop 1).take (s.length - 2)) with
     | none => rw [hv] at e; cases e
     | some a => rw [hv] at e; cases e; exact qsn ho
   · cases e
 rename_i h1
 split at e
 · cases hv : v4V s with
   | none => rw [hv] at e; cases e
   | some a =>
     rw [hv] at e; cases e
     refine qr6 ho ?_
     unfold v4V at hv
     split at hv
     · rw [<- Option.some.inj hv, List.take_left']; rfl
     · cases hv
 rename_i h2
 split at e
 · rename_i h3
   cases e
   show hostV (lowL s) = _
   unfold hostV
   rw [qp5, if_neg (fun hx => h1 ((qrt s).1 hx)), if_neg h2, if_pos ⟨by rw [qlH]; exact h3.1, h3.2⟩]
 · cases e
theorem qio {s : List UInt8} {h : Hst} (e : hostV s = some h) : zd h = true := by
 unfold zd
 rw [qjB e]
 exact qb5 h
theorem qj0 {s : List UInt8} (e : (urlV s).2 = 0) : uRight (urlV s).1 = true := by
 unfold urlV at e ⊢
 cases hx : urlH s with
 | none => rw [hx] at e; cases e
 | some x =>
   obtain ⟨r, b⟩ := x
   rw [hx] at e
   simp only at e ⊢
   unfold urlR at e ⊢
   split
   · rename_i hh; simp only [hh] at e; cases e
   · rename_i g hh
     simp only [hh] at e
     split
     · rename_i hp; simp only [hp] at e; cases e
     · rename_i n hp
       simp only [hp] at e
       split
       · rename_i hq
         unfold uRight
         have hg : zd g = true := by
           unfold qiq at hh
           split at hh
           · cases hh
           · exact qio hh
         have hn : 1 <= n /\ n <= 65535 := by
           unfold qoH at hp
           split at hp
           · rw [<- Option.some.inj hp]; split <;> decide
           · split at hp
             · rename_i hc; rw [<- Option.some.inj hp]; exact hc.2
             · cases hp
         simp only [hg, hq, Bool.true_and, Bool.and_true, Bool.and_eq_true, dTx]
         exact hn
       · rename_i hq; rw [if_neg hq] at e; cases e
end Go.Pk
namespace Go.Pk
open Go.RowKit (Below)
theorem okB2_good {s t : List UInt8} (h : okB2 s t = true) : uRight (urlV s).1 = true /\ Good (qM t).1 := by
 unfold okB2 at h
 rw [Bool.and_eq_true, beq_iff_eq, beq_iff_eq] at h
 exact ⟨qj0 h.1, parse_good (s := t) (Prod.ext rfl h.2)⟩
end Go.Pk
namespace Go.Proofs.YtndbpedpdbjkpaaGreatDoor
open Go.Pk
open Go.RowKit (Below)
section
variable {C : Cky} {x : Nat} {w : World}
theorem qoA (oc : C.ok) (h : qm w x qa C.cells) : (Instr.loadAt qe (.pointer (Option.map (fun x : Addr => x.add 0) (some (⟨x, 0, none⟩ : Addr))))).run prog w = .ok (.string (mkS C.name)) w := h.load1 un_string rfl (i := 0) rfl
theorem qpN (oc : C.ok) (h : qm w x qa C.cells) : (Instr.loadAt qc (.pointer (Option.map (fun x : Addr => x.add 2) (some (⟨x, 0, none⟩ : Addr))))).run prog w = .ok C.host.v w := qs.load h (i := 2) (us := C.host.cells) (Hst.len oc) (fun j hj => qi5 oc hj)
theorem qnY (oc : C.ok) (h : qm w x qa C.cells) : (Instr.loadAt qy (.pointer (Option.map (fun x : Addr => x.add 20) (some (⟨x, 0, none⟩ : Addr))))).run prog w = .ok (.bool C.only) w := h.load1 un_bool rfl (i := 20) (jo oc 0)
theorem qij (oc : C.ok) (h : qm w x qa C.cells) : (Instr.loadAt qe (.pointer (Option.map (fun x : Addr => x.add 21) (some (⟨x, 0, none⟩ : Addr))))).run prog w = .ok (.string (mkS C.path)) w := h.load1 un_string rfl (i := 21) (jo oc 1)
theorem qnf (oc : C.ok) (h : qm w x qa C.cells) : (Instr.loadAt qy (.pointer (Option.map (fun x : Addr => x.add 22) (some (⟨x, 0, none⟩ : Addr))))).run prog w = .ok (.bool C.sec) w := h.load1 un_bool rfl (i := 22) (jo oc 2)
theorem qng (oc : C.ok) (h : qm w x qa C.cells) : (Instr.loadAt qZ (.pointer (Option.map (fun x : Addr => x.add 25) (some (⟨x, 0, none⟩ : Addr))))).run prog w = .ok (.int .i64 C.exp) w := h.load1 un_int64 rfl (i := 25) (jo oc 5)
theorem qlf {u : Url} {k : Nat} (ou : u.ok) (h : qm w k qg u.cells) : (Instr.loadAt qc (.pointer (some ⟨k, 1, none⟩))).run prog w = .ok u.host.v w := qs.load h (i := 1) (us := u.host.cells) (Hst.len ou) (fun j hj => by
 unfold Url.cells
 rw [Nat.add_comm, List.getElem?_cons_succ, List.getElem?_append_left (by rw [Hst.len ou]; exact hj)])
theorem que {u : Url} {k : Nat} (ou : u.ok) (h : qm w k qg u.cells) : (Instr.loadAt qe (.pointer (some ⟨k, 20, none⟩))).run prog w = .ok (.string (mkS u.path)) w := h.load1 un_string rfl (i := 20) (by
 unfold Url.cells
 rw [show 20 = (18 + 1) + 1 from rfl, List.getElem?_cons_succ, List.getElem?_append_right (by rw [Hst.len ou]; omega), Hst.len ou]; rfl)
end
end Go.Proofs.YtndbpedpdbjkpaaGreatDoor
set_option maxRecDepth 100000
namespace Go.Proofs.YtndbpedpdbjkpaaGreatDoor
open Go.Pk
open Go.RowKit (Below)
--  cracknel/cracknellaw10.AdmitFreely
def qdD (a0 : Option Addr) (l0 c0 : Nat) (s1 : List UInt8) (s2 : List UInt8) (w : World) (K : Value -> World -> Prop) : Prop :=
 Calls prog zT #[] w fun e12 w12 => ∃ b12, e12 = .returned (.bool b12) /\
 BCase (!b12)
 (K (.bool false) w12)
 (((((List.length s2 + List.length [61, 49] : Nat) : Int) <= i64.max)) /\
 ∀ s17, s17 = (s2 ++ [61, 49]) ->
 Calls prog qae #[.string (mkS s1), .string (mkS s17)] w12 fun e18 w18 => ∃ v18_0 s18_1_0 s18_1_1 s18_1_2 s18_1_3 b18_1_4 n18_1_5 b18_1_6 n18_1_7 b18_1_8 b18_1_9 n18_1_10 b18_2, e18 = .returned (.tuple #[v18_0, (hV s18_1_0 s18_1_1 s18_1_2 s18_1_3 b18_1_4 n18_1_5 b18_1_6 n18_1_7 b18_1_8 b18_1_9 n18_1_10), .bool b18_2]) /\
 ∀ k7 w7, k7 = w18.heap.size -> w7 = w18.alloc (.cells z7 qg) ->
 ∀ k8 w8, k8 = w7.heap.size -> w8 = w7.alloc (.cells #[.string (mkS []), .string (mkS []), .string (mkS []), .string (mkS []), .bool false, .int .i64 (0 : Int), .bool false, .int .i64 (0 : Int), .bool false, .bool false, .int .i64 (0 : Int)] qd) ->
 ∃ wx, Sv qg (some ⟨k7, 0, none⟩) v18_0 w8 wx /\
 ∃ wx_1, Sv qd (some ⟨k8, 0, none⟩) (hV s18_1_0 s18_1_1 s18_1_2 s18_1_3 b18_1_4 n18_1_5 b18_1_6 n18_1_7 b18_1_8 b18_1_9 n18_1_10) wx wx_1 /\
 ∃ J : FP [],
 (∀ k25 w25, k25 = wx_1.heap.size -> w25 = wx_1.alloc (.cells #[.string (mkS s1), .string (mkS s2)] qe) ->
 Calls prog zr #[.slice a0 l0 c0, .slice (some ⟨k25, 0, none⟩) 2 2] w25 fun e26 w26 => ∃ b26, e26 = .returned (.bool b26) /\
 BCase (!b26)
 (K (.bool true) w26)
 (BCase (!b18_2)
 (K (.bool true) w26)
 (∃ s33_0 s33_1 s33_2 s33_3 b33_4 n33_5 b33_6 n33_7 b33_8 b33_9 n33_10, Ld qd (some ⟨k8, 0, none⟩) w26 (hV s33_0 s33_1 s33_2 s33_3 b33_4 n33_5 b33_6 n33_7 b33_8 b33_9 n33_10) /\
 (true = true) /\
 ∃ s35, Ld qe (some ⟨k8, 0, none⟩) w26 (.string (mkS s35)) /\
 (true = true) /\
 ∃ s37, Ld qe (some ⟨k8, 1, none⟩) w26 (.string (mkS s37)) /\
 ∃ b39, ((do eqGuard .neq qd (.tmp 33) (.tmp 38) (hV s33_0 s33_1 s33_2 s33_3 b33_4 n33_5 b33_6 n33_7 b33_8 b33_9 n33_10) (hV s35 s37 [] [] false (0 : Int) false (0 : Int) false false (0 : Int)); binOp .neq qd (hV s33_0 s33_1 s33_2 s33_3 b33_4 n33_5 b33_6 n33_7 b33_8 b33_9 n33_10) (hV s35 s37 [] [] false (0 : Int) false (0 : Int) false false (0 : Int)) : Sem Value)).run prog w26 = .ok (.bool b39) w26 /\
 BCase b39
 (K (.bool true) w26)
 ((true = true) /\
 ∃ s43, Ld qe (some ⟨k8, 0, none⟩) w26 (.string (mkS s43)) /\
 Calls prog qT #[.string (mkS s43)] w26 fun e44 w44 => ∃ n44, e44 = .returned (.int .i64 n44) /\
 BCase (decide (n44 > (0 : Int)))
 (K (.bool true) w44)
 ((true = true) /\
 ∃ s49, Ld qe (some ⟨k8, 0, none⟩) w44 (.string (mkS s49)) /\
 BCase (s49 == [])
 (K (.bool true) w44)
 (J w44)))))) /\
 AllJ 31 (∀ wj, J wj ->
 ∃ J_1 : FP [.one (.ptr), .one (.int .i64)],
 ((Calls prog qp #[.slice a0 l0 c0] (World.drew wj) fun e54 w54 => ∃ p54, e54 = .returned (.pointer p54) /\
 (∃ v55, Ld qg (some ⟨k7, 0, none⟩) w54 v55 /\
 (∃ s56_0 s56_1 s56_2 s56_3 b56_4 n56_5 b56_6 n56_7 b56_8 b56_9 n56_10, Ld qd (some ⟨k8, 0, none⟩) w54 (hV s56_0 s56_1 s56_2 s56_3 b56_4 n56_5 b56_6 n56_7 b56_8 b56_9 n56_10) /\
 (Calls prog qh #[.pointer p54, v55, (hV s56_0 s56_1 s56_2 s56_3 b56_4 n56_5 b56_6 n56_7 b56_8 b56_9 n56_10), .int .i64 (7 : Int)] w54 fun e57 w57 => ∃ v57_0 n57_1, e57 = .returned (.tuple #[v57_0, .int .i64 n57_1]) /\
 ∀ k10 w10, k10 = w57.heap.size -> w10 = w57.alloc (.cells qj qa) ->
 ∃ wx_2, Sv qa (some ⟨k10, 0, none⟩) v57_0 w10 wx_2 /\
 J_1 (some ⟨k10, 0, none⟩) n57_1 wx_2) /\
 ∀ k10_1 w10_1, k10_1 = w54.heap.size -> w10_1 = w54.alloc (.cells qj qa) ->
 Calls prog qh #[.pointer p54, v55, (hV s56_0 s56_1 s56_2 s56_3 b56_4 n56_5 b56_6 n56_7 b56_8 b56_9 n56_10), .int .i64 (7 : Int)] w10_1 fun e57_1 w57_1 => ∃ v57_0_1 n57_1_1, e57_1 = .returned (.tuple #[v57_0_1, .int .i64 n57_1_1]) /\
 ∃ wx_3, Sv qa (some ⟨k10_1, 0, none⟩) v57_0_1 w57_1 wx_3 /\
 J_1 (some ⟨k10_1, 0, none⟩) n57_1_1 wx_3) /\
 ∀ k10_2 w10_2, k10_2 = w54.heap.size -> w10_2 = w54.alloc (.cells qj qa) ->
 ∃ s56_0_1 s56_1_1 s56_2_1 s56_3_1 b56_4_1 n56_5_1 b56_6_1 n56_7_1 b56_8_1 b56_9_1 n56_10_1, Ld qd (some ⟨k8, 0, none⟩) w10_2 (hV s56_0_1 s56_1_1 s56_2_1 s56_3_1 b56_4_1 n56_5_1 b56_6_1 n56_7_1 b56_8_1 b56_9_1 n56_10_1) /\
 Calls prog qh #[.pointer p54, v55, (hV s56_0_1 s56_1_1 s56_2_1 s56_3_1 b56_4_1 n56_5_1 b56_6_1 n56_7_1 b56_8_1 b56_9_1 n56_10_1), .int .i64 (7 : Int)] w10_2 fun e57_2 w57_2 => ∃ v57_0_2 n57_1_2, e57_2 = .returned (.tuple #[v57_0_2, .int .i64 n57_1_2]) /\
 ∃ wx_4, Sv qa (some ⟨k10_2, 0, none⟩) v57_0_2 w57_2 wx_4 /\
 J_1 (some ⟨k10_2, 0, none⟩) n57_1_2 wx_4) /\
 (∃ s56_0_2 s56_1_2 s56_2_2 s56_3_2 b56_4_2 n56_5_2 b56_6_2 n56_7_2 b56_8_2 b56_9_2 n56_10_2, Ld qd (some ⟨k8, 0, none⟩) w54 (hV s56_0_2 s56_1_2 s56_2_2 s56_3_2 b56_4_2 n56_5_2 b56_6_2 n56_7_2 b56_8_2 b56_9_2 n56_10_2) /\
 (∃ v55_1, Ld qg (some ⟨k7, 0, none⟩) w54 v55_1 /\
 (Calls prog qh #[.pointer p54, v55_1, (hV s56_0_2 s56_1_2 s56_2_2 s56_3_2 b56_4_2 n56_5_2 b56_6_2 n56_7_2 b56_8_2 b56_9_2 n56_10_2), .int .i64 (7 : Int)] w54 fun e57_3 w57_3 => ∃ v57_0_3 n57_1_3, e57_3 = .returned (.tuple #[v57_0_3, .int .i64 n57_1_3]) /\
 ∀ k10_3 w10_3, k10_3 = w57_3.heap.size -> w10_3 = w57_3.alloc (.cells qj qa) ->
 ∃ wx_5, Sv qa (some ⟨k10_3, 0, none⟩) v57_0_3 w10_3 wx_5 /\
 J_1 (some ⟨k10_3, 0, none⟩) n57_1_3 wx_5) /\
 ∀ k10_4 w10_4, k10_4 = w54.heap.size -> w10_4 = w54.alloc (.cells qj qa) ->
 Calls prog qh #[.pointer p54, v55_1, (hV s56_0_2 s56_1_2 s56_2_2 s56_3_2 b56_4_2 n56_5_2 b56_6_2 n56_7_2 b56_8_2 b56_9_2 n56_10_2), .int .i64 (7 : Int)] w10_4 fun e57_4 w57_4 => ∃ v57_0_4 n57_1_4, e57_4 = .returned (.tuple #[v57_0_4, .int .i64 n57_1_4]) /\
 ∃ wx_6, Sv qa (some ⟨k10_4, 0, none⟩) v57_0_4 w57_4 wx_6 /\
 J_1 (some ⟨k10_4, 0, none⟩) n57_1_4 wx_6) /\
 ∀ k10_5 w10_5, k10_5 = w54.heap.size -> w10_5 = w54.alloc (.cells qj qa) ->
 ∃ v55_2, Ld qg (some ⟨k7, 0, none⟩) w10_5 v55_2 /\
 Calls prog qh #[.pointer p54, v55_2, (hV s56_0_2 s56_1_2 s56_2_2 s56_3_2 b56_4_2 n56_5_2 b56_6_2 n56_7_2 b56_8_2 b56_9_2 n56_10_2), .int .i64 (7 : Int)] w10_5 fun e57_5 w57_5 => ∃ v57_0_5 n57_1_5, e57_5 = .returned (.tuple #[v57_0_5, .int .i64 n57_1_5]) /\
 ∃ wx_7, Sv qa (some ⟨k10_5, 0, none⟩) v57_0_5 w57_5 wx_7 /\
 J_1 (some ⟨k10_5, 0, none⟩) n57_1_5 wx_7) /\
 ∀ k10_6 w10_6, k10_6 = w54.heap.size -> w10_6 = w54.alloc (.cells qj qa) ->
 (∃ v55_3, Ld qg (some ⟨k7, 0, none⟩) w10_6 v55_3 /\
 ∃ s56_0_3 s56_1_3 s56_2_3 s56_3_3 b56_4_3 n56_5_3 b56_6_3 n56_7_3 b56_8_3 b56_9_3 n56_10_3, Ld qd (some ⟨k8, 0, none⟩) w10_6 (hV s56_0_3 s56_1_3 s56_2_3 s56_3_3 b56_4_3 n56_5_3 b56_6_3 n56_7_3 b56_8_3 b56_9_3 n56_10_3) /\
 Calls prog qh #[.pointer p54, v55_3, (hV s56_0_3 s56_1_3 s56_2_3 s56_3_3 b56_4_3 n56_5_3 b56_6_3 n56_7_3 b56_8_3 b56_9_3 n56_10_3), .int .i64 (7 : Int)] w10_6 fun e57_6 w57_6 => ∃ v57_0_6 n57_1_6, e57_6 = .returned (.tuple #[v57_0_6, .int .i64 n57_1_6]) /\
 ∃ wx_8, Sv qa (some ⟨k10_6, 0, none⟩) v57_0_6 w57_6 wx_8 /\
 J_1 (some ⟨k10_6, 0, none⟩) n57_1_6 wx_8) /\
 ∃ s56_0_4 s56_1_4 s56_2_4 s56_3_4 b56_4_4 n56_5_4 b56_6_4 n56_7_4 b56_8_4 b56_9_4 n56_10_4, Ld qd (some ⟨k8, 0, none⟩) w10_6 (hV s56_0_4 s56_1_4 s56_2_4 s56_3_4 b56_4_4 n56_5_4 b56_6_4 n56_7_4 b56_8_4 b56_9_4 n56_10_4) /\
 ∃ v55_4, Ld qg (some ⟨k7, 0, none⟩) w10_6 v55_4 /\
 Calls prog qh #[.pointer p54, v55_4, (hV s56_0_4 s56_1_4 s56_2_4 s56_3_4 b56_4_4 n56_5_4 b56_6_4 n56_7_4 b56_8_4 b56_9_4 n56_10_4), .int .i64 (7 : Int)] w10_6 fun e57_7 w57_7 => ∃ v57_0_7 n57_1_7, e57_7 = .returned (.tuple #[v57_0_7, .int .i64 n57_1_7]) /\
 ∃ wx_9, Sv qa (some ⟨k10_6, 0, none⟩) v57_0_7 w57_7 wx_9 /\
 J_1 (some ⟨k10_6, 0, none⟩) n57_1_7 wx_9) /\
 (∃ v55_5, Ld qg (some ⟨k7, 0, none⟩) (World.drew wj) v55_5 /\
 (Calls prog qp #[.slice a0 l0 c0] (World.drew wj) fun e54_1 w54_1 => ∃ p54_1, e54_1 = .returned (.pointer p54_1) /\
 (∃ s56_0_5 s56_1_5 s56_2_5 s56_3_5 b56_4_5 n56_5_5 b56_6_5 n56_7_5 b56_8_5 b56_9_5 n56_10_5, Ld qd (some ⟨k8, 0, none⟩) w54_1 (hV s56_0_5 s56_1_5 s56_2_5 s56_3_5 b56_4_5 n56_5_5 b56_6_5 n56_7_5 b56_8_5 b56_9_5 n56_10_5) /\
 (Calls prog qh #[.pointer p54_1, v55_5, (hV s56_0_5 s56_1_5 s56_2_5 s56_3_5 b56_4_5 n56_5_5 b56_6_5 n56_7_5 b56_8_5 b56_9_5 n56_10_5), .int .i64 (7 : Int)] w54_1 fun e57_8 w57_8 => ∃ v57_0_8 n57_1_8, e57_8 = .returned (.tuple #[v57_0_8, .int .i64 n57_1_8]) /\
 ∀ k10_7 w10_7, k10_7 = w57_8.heap.size -> w10_7 = w57_8.alloc (.cells qj qa) ->
 ∃ wx_10, Sv qa (some ⟨k10_7, 0, none⟩) v57_0_8 w10_7 wx_10 /\
 J_1 (some ⟨k10_7, 0, none⟩) n57_1_8 wx_10) /\
 ∀ k10_8 w10_8, k10_8 = w54_1.heap.size -> w10_8 = w54_1.alloc (.cells qj qa) ->
 Calls prog qh #[.pointer p54_1, v55_5, (hV s56_0_5 s56_1_5 s56_2_5 s56_3_5 b56_4_5 n56_5_5 b56_6_5 n56_7_5 b56_8_5 b56_9_5 n56_10_5), .int .i64 (7 : Int)] w10_8 fun e57_9 w57_9 => ∃ v57_0_9 n57_1_9, e57_9 = .returned (.tuple #[v57_0_9, .int .i64 n57_1_9]) /\
 ∃ wx_11, Sv qa (some ⟨k10_8, 0, none⟩) v57_0_9 w57_9 wx_11 /\
 J_1 (some ⟨k10_8, 0, none⟩) n57_1_9 wx_11) /\
 ∀ k10_9 w10_9, k10_9 = w54_1.heap.size -> w10_9 = w54_1.alloc (.cells qj qa) ->
 ∃ s56_0_6 s56_1_6 s56_2_6 s56_3_6 b56_4_6 n56_5_6 b56_6_6 n56_7_6 b56_8_6 b56_9_6 n56_10_6, Ld qd (some ⟨k8, 0, none⟩) w10_9 (hV s56_0_6 s56_1_6 s56_2_6 s56_3_6 b56_4_6 n56_5_6 b56_6_6 n56_7_6 b56_8_6 b56_9_6 n56_10_6) /\
 Calls prog qh #[.pointer p54_1, v55_5, (hV s56_0_6 s56_1_6 s56_2_6 s56_3_6 b56_4_6 n56_5_6 b56_6_6 n56_7_6 b56_8_6 b56_9_6 n56_10_6), .int .i64 (7 : Int)] w10_9 fun e57_10 w57_10 => ∃ v57_0_10 n57_1_10, e57_10 = .returned (.tuple #[v57_0_10, .int .i64 n57_1_10]) /\
 ∃ wx_12, Sv qa (some ⟨k10_9, 0, none⟩) v57_0_10 w57_10 wx_12 /\
 J_1 (some ⟨k10_9, 0, none⟩) n57_1_10 wx_12) /\
 (∃ s56_0_7 s56_1_7 s56_2_7 s56_3_7 b56_4_7 n56_5_7 b56_6_7 n56_7_7 b56_8_7 b56_9_7 n56_10_7, Ld qd (some ⟨k8, 0, none⟩) (World.drew wj) (hV s56_0_7 s56_1_7 s56_2_7 s56_3_7 b56_4_7 n56_5_7 b56_6_7 n56_7_7 b56_8_7 b56_9_7 n56_10_7) /\
 (Calls prog qp #[.slice a0 l0 c0] (World.drew wj) fun e54_2 w54_2 => ∃ p54_2, e54_2 = .returned (.pointer p54_2) /\
 (Calls prog qh #[.pointer p54_2, v55_5, (hV s56_0_7 s56_1_7 s56_2_7 s56_3_7 b56_4_7 n56_5_7 b56_6_7 n56_7_7 b56_8_7 b56_9_7 n56_10_7), .int .i64 (7 : Int)] w54_2 fun e57_11 w57_11 => ∃ v57_0_11 n57_1_11, e57_11 = .returned (.tuple #[v57_0_11, .int .i64 n57_1_11]) /\
 ∀ k10_10 w10_10, k10_10 = w57_11.heap.size -> w10_10 = w57_11.alloc (.cells qj qa) ->
 ∃ wx_13, Sv qa (some ⟨k10_10, 0, none⟩) v57_0_11 w10_10 wx_13 /\
 J_1 (some ⟨k10_10, 0, none⟩) n57_1_11 wx_13) /\
 ∀ k10_11 w10_11, k10_11 = w54_2.heap.size -> w10_11 = w54_2.alloc (.cells qj qa) ->
 Calls prog qh #[.pointer p54_2, v55_5, (hV s56_0_7 s56_1_7 s56_2_7 s56_3_7 b56_4_7 n56_5_7 b56_6_7 n56_7_7 b56_8_7 b56_9_7 n56_10_7), .int .i64 (7 : Int)] w10_11 fun e57_12 w57_12 => ∃ v57_0_12 n57_1_12, e57_12 = .returned (.tuple #[v57_0_12, .int .i64 n57_1_12]) /\
 ∃ wx_14, Sv qa (some ⟨k10_11, 0, none⟩) v57_0_12 w57_12 wx_14 /\
 J_1 (some ⟨k10_11, 0, none⟩) n57_1_12 wx_14) /\
 ∀ k10_12 w10_12, k10_12 = (World.drew wj).heap.size -> w10_12 = (World.drew wj).alloc (.cells qj qa) ->
 Calls prog qp #[.slice a0 l0 c0] w10_12 fun e54_3 w54_3 => ∃ p54_3, e54_3 = .returned (.pointer p54_3) /\
 Calls prog qh #[.pointer p54_3, v55_5, (hV s56_0_7 s56_1_7 s56_2_7 s56_3_7 b56_4_7 n56_5_7 b56_6_7 n56_7_7 b56_8_7 b56_9_7 n56_10_7), .int .i64 (7 : Int)] w54_3 fun e57_13 w57_13 => ∃ v57_0_13 n57_1_13, e57_13 = .returned (.tuple #[v57_0_13, .int .i64 n57_1_13]) /\
 ∃ wx_15, Sv qa (some ⟨k10_12, 0, none⟩) v57_0_13 w57_13 wx_15 /\
 J_1 (some ⟨k10_12, 0, none⟩) n57_1_13 wx_15) /\
 ∀ k10_13 w10_13, k10_13 = (World.drew wj).heap.size -> w10_13 = (World.drew wj).alloc (.cells qj qa) ->
 (Calls prog qp #[.slice a0 l0 c0] w10_13 fun e54_4 w54_4 => ∃ p54_4, e54_4 = .returned (.pointer p54_4) /\
 ∃ s56_0_8 s56_1_8 s56_2_8 s56_3_8 b56_4_8 n56_5_8 b56_6_8 n56_7_8 b56_8_8 b56_9_8 n56_10_8, Ld qd (some ⟨k8, 0, none⟩) w54_4 (hV s56_0_8 s56_1_8 s56_2_8 s56_3_8 b56_4_8 n56_5_8 b56_6_8 n56_7_8 b56_8_8 b56_9_8 n56_10_8) /\
 Calls prog qh #[.pointer p54_4, v55_5, (hV s56_0_8 s56_1_8 s56_2_8 s56_3_8 b56_4_8 n56_5_8 b56_6_8 n56_7_8 b56_8_8 b56_9_8 n56_10_8), .int .i64 (7 : Int)] w54_4 fun e57_14 w57_14 => ∃ v57_0_14 n57_1_14, e57_14 = .returned (.tuple #[v57_0_14, .int .i64 n57_1_14]) /\
 ∃ wx_16, Sv qa (some ⟨k10_13, 0, none⟩) v57_0_14 w57_14 wx_16 /\
 J_1 (some ⟨k10_13, 0, none⟩) n57_1_14 wx_16) /\
 ∃ s56_0_9 s56_1_9 s56_2_9 s56_3_9 b56_4_9 n56_5_9 b56_6_9 n56_7_9 b56_8_9 b56_9_9 n56_10_9, Ld qd (some ⟨k8, 0, none⟩) w10_13 (hV s56_0_9 s56_1_9 s56_2_9 s56_3_9 b56_4_9 n56_5_9 b56_6_9 n56_7_9 b56_8_9 b56_9_9 n56_10_9) /\
 Calls prog qp #[.slice a0 l0 c0] w10_13 fun e54_5 w54_5 => ∃ p54_5, e54_5 = .returned (.pointer p54_5) /\
 Calls prog qh #[.pointer p54_5, v55_5, (hV s56_0_9 s56_1_9 s56_2_9 s56_3_9 b56_4_9 n56_5_9 b56_6_9 n56_7_9 b56_8_9 b56_9_9 n56_10_9), .int .i64 (7 : Int)] w54_5 fun e57_15 w57_15 => ∃ v57_0_15 n57_1_15, e57_15 = .returned (.tuple #[v57_0_15, .int .i64 n57_1_15]) /\
 ∃ wx_17, Sv qa (some ⟨k10_13, 0, none⟩) v57_0_15 w57_15 wx_17 /\
 J_1 (some ⟨k10_13, 0, none⟩) n57_1_15 wx_17) /\
 (∃ s56_0_10 s56_1_10 s56_2_10 s56_3_10 b56_4_10 n56_5_10 b56_6_10 n56_7_10 b56_8_10 b56_9_10 n56_10_10, Ld qd (some ⟨k8, 0, none⟩) (World.drew wj) (hV s56_0_10 s56_1_10 s56_2_10 s56_3_10 b56_4_10 n56_5_10 b56_6_10 n56_7_10 b56_8_10 b56_9_10 n56_10_10) /\
 (Calls prog qp #[.slice a0 l0 c0] (World.drew wj) fun e54_6 w54_6 => ∃ p54_6, e54_6 = .returned (.pointer p54_6) /\
 (∃ v55_6, Ld qg (some ⟨k7, 0, none⟩) w54_6 v55_6 /\
 (Calls prog qh #[.pointer p54_6, v55_6, (hV s56_0_10 s56_1_10 s56_2_10 s56_3_10 b56_4_10 n56_5_10 b56_6_10 n56_7_10 b56_8_10 b56_9_10 n56_10_10), .int .i64 (7 : Int)] w54_6 fun e57_16 w57_16 => ∃ v57_0_16 n57_1_16, e57_16 = .returned (.tuple #[v57_0_16, .int .i64 n57_1_16]) /\
 ∀ k10_14 w10_14, k10_14 = w57_16.heap.size -> w10_14 = w57_16.alloc (.cells qj qa) ->
 ∃ wx_18, Sv qa (some ⟨k10_14, 0, none⟩) v57_0_16 w10_14 wx_18 /\
 J_1 (some ⟨k10_14, 0, none⟩) n57_1_16 wx_18) /\
 ∀ k10_15 w10_15, k10_15 = w54_6.heap.size -> w10_15 = w54_6.alloc (.cells qj qa) ->
 Calls prog qh #[.pointer p54_6, v55_6, (hV s56_0_10 s56_1_10 s56_2_10 s56_3_10 b56_4_10 n56_5_10 b56_6_10 n56_7_10 b56_8_10 b56_9_10 n56_10_10), .int .i64 (7 : Int)] w10_15 fun e57_17 w57_17 => ∃ v57_0_17 n57_1_17, e57_17 = .returned (.tuple #[v57_0_17, .int .i64 n57_1_17]) /\
 ∃ wx_19, Sv qa (some ⟨k10_15, 0, none⟩) v57_0_17 w57_17 wx_19 /\
 J_1 (some ⟨k10_15, 0, none⟩) n57_1_17 wx_19) /\
 ∀ k10_16 w10_16, k10_16 = w54_6.heap.size -> w10_16 = w54_6.alloc (.cells qj qa) ->
 ∃ v55_7, Ld qg (some ⟨k7, 0, none⟩) w10_16 v55_7 /\
 Calls prog qh #[.pointer p54_6, v55_7, (hV s56_0_10 s56_1_10 s56_2_10 s56_3_10 b56_4_10 n56_5_10 b56_6_10 n56_7_10 b56_8_10 b56_9_10 n56_10_10), .int .i64 (7 : Int)] w10_16 fun e57_18 w57_18 => ∃ v57_0_18 n57_1_18, e57_18 = .returned (.tuple #[v57_0_18, .int .i64 n57_1_18]) /\
 ∃ wx_20, Sv qa (some ⟨k10_16, 0, none⟩) v57_0_18 w57_18 wx_20 /\
 J_1 (some ⟨k10_16, 0, none⟩) n57_1_18 wx_20) /\
 (∃ v55_8, Ld qg (some ⟨k7, 0, none⟩) (World.drew wj) v55_8 /\
 (Calls prog qp #[.slice a0 l0 c0] (World.drew wj) fun e54_7 w54_7 => ∃ p54_7, e54_7 = .returned (.pointer p54_7) /\
 (Calls prog qh #[.pointer p54_7, v55_8, (hV s56_0_10 s56_1_10 s56_2_10 s56_3_10 b56_4_10 n56_5_10 b56_6_10 n56_7_10 b56_8_10 b56_9_10 n56_10_10), .int .i64 (7 : Int)] w54_7 fun e57_19 w57_19 => ∃ v57_0_19 n57_1_19, e57_19 = .returned (.tuple #[v57_0_19, .int .i64 n57_1_19]) /\
 ∀ k10_17 w10_17, k10_17 = w57_19.heap.size -> w10_17 = w57_19.alloc (.cells qj qa) ->
 ∃ wx_21, Sv qa (some ⟨k10_17, 0, none⟩) v57_0_19 w10_17 wx_21 /\
 J_1 (some ⟨k10_17, 0, none⟩) n57_1_19 wx_21) /\
 ∀ k10_18 w10_18, k10_18 = w54_7.heap.size -> w10_18 = w54_7.alloc (.cells qj qa) ->
 Calls prog qh #[.pointer p54_7, v55_8, (hV s56_0_10 s56_1_10 s56_2_10 s56_3_10 b56_4_10 n56_5_10 b56_6_10 n56_7_10 b56_8_10 b56_9_10 n56_10_10), .int .i64 (7 : Int)] w10_18 fun e57_20 w57_20 => ∃ v57_0_20 n57_1_20, e57_20 = .returned (.tuple #[v57_0_20, .int .i64 n57_1_20]) /\
 ∃ wx_22, Sv qa (some ⟨k10_18, 0, none⟩) v57_0_20 w57_20 wx_22 /\
 J_1 (some ⟨k10_18, 0, none⟩) n57_1_20 wx_22) /\
 ∀ k10_19 w10_19, k10_19 = (World.drew wj).heap.size -> w10_19 = (World.drew wj).alloc (.cells qj qa) ->
 Calls prog qp #[.slice a0 l0 c0] w10_19 fun e54_8 w54_8 => ∃ p54_8, e54_8 = .returned (.pointer p54_8) /\
 Calls prog qh #[.pointer p54_8, v55_8, (hV s56_0_10 s56_1_10 s56_2_10 s56_3_10 b56_4_10 n56_5_10 b56_6_10 n56_7_10 b56_8_10 b56_9_10 n56_10_10), .int .i64 (7 : Int)] w54_8 fun e57_21 w57_21 => ∃ v57_0_21 n57_1_21, e57_21 = .returned (.tuple #[v57_0_21, .int .i64 n57_1_21]) /\
 ∃ wx_23, Sv qa (some ⟨k10_19, 0, none⟩) v57_0_21 w57_21 wx_23 /\
 J_1 (some ⟨k10_19, 0, none⟩) n57_1_21 wx_23) /\
 ∀ k10_20 w10_20, k10_20 = (World.drew wj).heap.size -> w10_20 = (World.drew wj).alloc (.cells qj qa) ->
 (Calls prog qp #[.slice a0 l0 c0] w10_20 fun e54_9 w54_9 => ∃ p54_9, e54_9 = .returned (.pointer p54_9) /\
 ∃ v55_9, Ld qg (some ⟨k7, 0, none⟩) w54_9 v55_9 /\
 Calls prog qh #[.pointer p54_9, v55_9, (hV s56_0_10 s56_1_10 s56_2_10 s56_3_10 b56_4_10 n56_5_10 b56_6_10 n56_7_10 b56_8_10 b56_9_10 n56_10_10), .int .i64 (7 : Int)] w54_9 fun e57_22 w57_22 => ∃ v57_0_22 n57_1_22, e57_22 = .returned (.tuple #[v57_0_22, .int .i64 n57_1_22]) /\
 ∃ wx_24, Sv qa (some ⟨k10_20, 0, none⟩) v57_0_22 w57_22 wx_24 /\
 J_1 (some ⟨k10_20, 0, none⟩) n57_1_22 wx_24) /\
 ∃ v55_10, Ld qg (some ⟨k7, 0, none⟩) w10_20 v55_10 /\
 Calls prog qp #[.slice a0 l0 c0] w10_20 fun e54_10 w54_10 => ∃ p54_10, e54_10 = .returned (.pointer p54_10) /\
 Calls prog qh #[.pointer p54_10, v55_10, (hV s56_0_10 s56_1_10 s56_2_10 s56_3_10 b56_4_10 n56_5_10 b56_6_10 n56_7_10 b56_8_10 b56_9_10 n56_10_10), .int .i64 (7 : Int)] w54_10 fun e57_23 w57_23 => ∃ v57_0_23 n57_1_23, e57_23 = .returned (.tuple #[v57_0_23, .int .i64 n57_1_23]) /\
 ∃ wx_25, Sv qa (some ⟨k10_20, 0, none⟩) v57_0_23 w57_23 wx_25 /\
 J_1 (some ⟨k10_20, 0, none⟩) n57_1_23 wx_25) /\
 ∀ k10_21 w10_21, k10_21 = (World.drew wj).heap.size -> w10_21 = (World.drew wj).alloc (.cells qj qa) ->
 (Calls prog qp #[.slice a0 l0 c0] w10_21 fun e54_11 w54_11 => ∃ p54_11, e54_11 = .returned (.pointer p54_11) /\
 (∃ v55_11, Ld qg (some ⟨k7, 0, none⟩) w54_11 v55_11 /\
 ∃ s56_0_11 s56_1_11 s56_2_11 s56_3_11 b56_4_11 n56_5_11 b56_6_11 n56_7_11 b56_8_11 b56_9_11 n56_10_11, Ld qd (some ⟨k8, 0, none⟩) w54_11 (hV s56_0_11 s56_1_11 s56_2_11 s56_3_11 b56_4_11 n56_5_11 b56_6_11 n56_7_11 b56_8_11 b56_9_11 n56_10_11) /\
 Calls prog qh #[.pointer p54_11, v55_11, (hV s56_0_11 s56_1_11 s56_2_11 s56_3_11 b56_4_11 n56_5_11 b56_6_11 n56_7_11 b56_8_11 b56_9_11 n56_10_11), .int .i64 (7 : Int)] w54_11 fun e57_24 w57_24 => ∃ v57_0_24 n57_1_24, e57_24 = .returned (.tuple #[v57_0_24, .int .i64 n57_1_24]) /\
 ∃ wx_26, Sv qa (some ⟨k10_21, 0, none⟩) v57_0_24 w57_24 wx_26 /\
 J_1 (some ⟨k10_21, 0, none⟩) n57_1_24 wx_26) /\
 ∃ s56_0_12 s56_1_12 s56_2_12 s56_3_12 b56_4_12 n56_5_12 b56_6_12 n56_7_12 b56_8_12 b56_9_12 n56_10_12, Ld qd (some ⟨k8, 0, none⟩) w54_11 (hV s56_0_12 s56_1_12 s56_2_12 s56_3_12 b56_4_12 n56_5_12 b56_6_12 n56_7_12 b56_8_12 b56_9_12 n56_10_12) /\
 ∃ v55_12, Ld qg (some ⟨k7, 0, none⟩) w54_11 v55_12 /\
 Calls prog qh #[.pointer p54_11, v55_12, (hV s56_0_12 s56_1_12 s56_2_12 s56_3_12 b56_4_12 n56_5_12 b56_6_12 n56_7_12 b56_8_12 b56_9_12 n56_10_12), .int .i64 (7 : Int)] w54_11 fun e57_25 w57_25 => ∃ v57_0_25 n57_1_25, e57_25 = .returned (.tuple #[v57_0_25, .int .i64 n57_1_25]) /\
 ∃ wx_27, Sv qa (some ⟨k10_21, 0, none⟩) v57_0_25 w57_25 wx_27 /\
 J_1 (some ⟨k10_21, 0, none⟩) n57_1_25 wx_27) /\
 (∃ v55_13, Ld qg (some ⟨k7, 0, none⟩) w10_21 v55_13 /\
 (Calls prog qp #[.slice a0 l0 c0] w10_21 fun e54_12 w54_12 => ∃ p54_12, e54_12 = .returned (.pointer p54_12) /\
 ∃ s56_0_13 s56_1_13 s56_2_13 s56_3_13 b56_4_13 n56_5_13 b56_6_13 n56_7_13 b56_8_13 b56_9_13 n56_10_13, Ld qd (some ⟨k8, 0, none⟩) w54_12 (hV s56_0_13 s56_1_13 s56_2_13 s56_3_13 b56_4_13 n56_5_13 b56_6_13 n56_7_13 b56_8_13 b56_9_13 n56_10_13) /\
 Calls prog qh #[.pointer p54_12, v55_13, (hV s56_0_13 s56_1_13 s56_2_13 s56_3_13 b56_4_13 n56_5_13 b56_6_13 n56_7_13 b56_8_13 b56_9_13 n56_10_13), .int .i64 (7 : Int)] w54_12 fun e57_26 w57_26 => ∃ v57_0_26 n57_1_26, e57_26 = .returned (.tuple #[v57_0_26, .int .i64 n57_1_26]) /\
 ∃ wx_28, Sv qa (some ⟨k10_21, 0, none⟩) v57_0_26 w57_26 wx_28 /\
 J_1 (some ⟨k10_21, 0, none⟩) n57_1_26 wx_28) /\
 ∃ s56_0_14 s56_1_14 s56_2_14 s56_3_14 b56_4_14 n56_5_14 b56_6_14 n56_7_14 b56_8_14 b56_9_14 n56_10_14, Ld qd (some ⟨k8, 0, none⟩) w10_21 (hV s56_0_14 s56_1_14 s56_2_14 s56_3_14 b56_4_14 n56_5_14 b56_6_14 n56_7_14 b56_8_14 b56_9_14 n56_10_14) /\
 Calls prog qp #[.slice a0 l0 c0] w10_21 fun e54_13 w54_13 => ∃ p54_13, e54_13 = .returned (.pointer p54_13) /\
 Calls prog qh #[.pointer p54_13, v55_13, (hV s56_0_14 s56_1_14 s56_2_14 s56_3_14 b56_4_14 n56_5_14 b56_6_14 n56_7_14 b56_8_14 b56_9_14 n56_10_14), .int .i64 (7 : Int)] w54_13 fun e57_27 w57_27 => ∃ v57_0_27 n57_1_27, e57_27 = .returned (.tuple #[v57_0_27, .int .i64 n57_1_27]) /\
 ∃ wx_29, Sv qa (some ⟨k10_21, 0, none⟩) v57_0_27 w57_27 wx_29 /\
 J_1 (some ⟨k10_21, 0, none⟩) n57_1_27 wx_29) /\
 ∃ s56_0_15 s56_1_15 s56_2_15 s56_3_15 b56_4_15 n56_5_15 b56_6_15 n56_7_15 b56_8_15 b56_9_15 n56_10_15, Ld qd (some ⟨k8, 0, none⟩) w10_21 (hV s56_0_15 s56_1_15 s56_2_15 s56_3_15 b56_4_15 n56_5_15 b56_6_15 n56_7_15 b56_8_15 b56_9_15 n56_10_15) /\
 (Calls prog qp #[.slice a0 l0 c0] w10_21 fun e54_14 w54_14 => ∃ p54_14, e54_14 = .returned (.pointer p54_14) /\
 ∃ v55_14, Ld qg (some ⟨k7, 0, none⟩) w54_14 v55_14 /\
 Calls prog qh #[.pointer p54_14, v55_14, (hV s56_0_15 s56_1_15 s56_2_15 s56_3_15 b56_4_15 n56_5_15 b56_6_15 n56_7_15 b56_8_15 b56_9_15 n56_10_15), .int .i64 (7 : Int)] w54_14 fun e57_28 w57_28 => ∃ v57_0_28 n57_1_28, e57_28 = .returned (.tuple #[v57_0_28, .int .i64 n57_1_28]) /\
 ∃ wx_30, Sv qa (some ⟨k10_21, 0, none⟩) v57_0_28 w57_28 wx_30 /\
 J_1 (some ⟨k10_21, 0, none⟩) n57_1_28 wx_30) /\
 ∃ v55_15, Ld qg (some ⟨k7, 0, none⟩) w10_21 v55_15 /\
 Calls prog qp #[.slice a0 l0 c0] w10_21 fun e54_15 w54_15 => ∃ p54_15, e54_15 = .returned (.pointer p54_15) /\
 Calls prog qh #[.pointer p54_15, v55_15, (hV s56_0_15 s56_1_15 s56_2_15 s56_3_15 b56_4_15 n56_5_15 b56_6_15 n56_7_15 b56_8_15 b56_9_15 n56_10_15), .int .i64 (7 : Int)] w54_15 fun e57_29 w57_29 => ∃ v57_0_29 n57_1_29, e57_29 = .returned (.tuple #[v57_0_29, .int .i64 n57_1_29]) /\
 ∃ wx_31, Sv qa (some ⟨k10_21, 0, none⟩) v57_0_29 w57_29 wx_31 /\
 J_1 (some ⟨k10_21, 0, none⟩) n57_1_29 wx_31) /\
 ∀ p10 n11, AllJ 8 (∀ wj_1, J_1 p10 n11 wj_1 ->
 BCase (n11 == (0 : Int))
 ((Option.isSome p10 = true) /\
 ∃ b64, (∀ u64, Below wj_1.heap.size wj_1 u64 -> Ld qy (Option.map (fun x => x.add 20) p10) u64 (.bool b64)) /\
 BCase b64
 ((Option.isSome p10 = true) /\
 ∃ v68, (∀ u68, Below wj_1.heap.size wj_1 u68 -> Ld qc (Option.map (fun x => x.add 2) p10) u68 v68) /\
 (true = true) /\
 ∃ v70, (∀ u70, Below wj_1.heap.size wj_1 u70 -> Ld qc (some ⟨k7, 1, none⟩) u70 v70) /\
 ∃ b71, (∀ u71, Below wj_1.heap.size wj_1 u71 -> ((do eqGuard .eql qc (.tmp 68) (.tmp 70) v68 v70; binOp .eql qc v68 v70 : Sem Value)).run prog u71 = .ok (.bool b71) u71) /\
 BCase b71
 ((Option.isSome p10 = true) /\
 ∃ n75, (∀ u75, Below wj_1.heap.size wj_1 u75 -> Ld qZ (Option.map (fun x => x.add 25) p10) u75 (.int .i64 n75)) /\
 BCase (n75 == (9223372036854775807 : Int))
 ((Option.isSome p10 = true) /\
 ∃ s80, (∀ u80, Below wj_1.heap.size wj_1 u80 -> Ld qe (Option.map (fun x => x.add 21) p10) u80 (.string (mkS s80))) /\
 (true = true) /\
 ∃ s82, (∀ u82, Below wj_1.heap.size wj_1 u82 -> Ld qe (some ⟨k7, 20, none⟩) u82 (.string (mkS s82))) /\
 ∃ s83, (∀ u83, Below wj_1.heap.size wj_1 u83 -> Calls prog zG #[.string (mkS s82)] u83 fun e83 w83 => e83 = .returned (.string (mkS s83)) /\ Below wj_1.heap.size u83 w83) /\
 BCase (s80 == s83)
 ((Option.isSome p10 = true) /\
 ∃ b88, (∀ u88, Below wj_1.heap.size wj_1 u88 -> Ld qy (Option.map (fun x => x.add 22) p10) u88 (.bool b88)) /\
 BCase (!b88)
 ((Option.isSome p10 = true) /\
 ∃ s93, (∀ u93, Below wj_1.heap.size wj_1 u93 -> Ld qe (Option.map (fun x => x.add 0) p10) u93 (.string (mkS s93))) /\
 (true = true) /\
 ∃ s95, (∀ u95, Below wj_1.heap.size wj_1 u95 -> Ld qe (some ⟨k8, 0, none⟩) u95 (.string (mkS s95))) /\
 ∀ wq, Below wj_1.heap.size wj_1 wq ->
 K (.bool (s93 == s95)) wq)
 (∀ wq_1, Below wj_1.heap.size wj_1 wq_1 ->
 K (.bool false) wq_1))
 (∀ wq_2, Below wj_1.heap.size wj_1 wq_2 ->
 K (.bool false) wq_2))
 (∀ wq_3, Below wj_1.heap.size wj_1 wq_3 ->
 K (.bool false) wq_3))
 (∀ wq_4, Below wj_1.heap.size wj_1 wq_4 ->
 K (.bool false) wq_4))
 (∀ wq_5, Below wj_1.heap.size wj_1 wq_5 ->
 K (.bool false) wq_5))
 (∀ wq_6, Below wj_1.heap.size wj_1 wq_6 ->
 K (.bool false) wq_6))))
theorem qgi (a0 : Option Addr) (l0 c0 : Nat) (s1 : List UInt8) (s2 : List UInt8) {w : World} {K : Value -> World -> Prop} (h : qdD a0 l0 c0 s1 s2 w K) : Calls prog qd4 #[.slice a0 l0 c0, .string (mkS s1), .string (mkS s2)] w (Ret K) :=
 qo (c := qr Tryz.f11) (by kernel_rfl) Tryz.func11 (by kernel_rfl) [(12, []), (20, [(10, .one (.ptr)), (11, .one (.int .i64))])] [.slice a0 l0 c0, .string (mkS s1), .string (mkS s2)] (of_decide_eq_true (by kernel_rfl)) _ (by kernel_rfl) h
end Go.Proofs.YtndbpedpdbjkpaaGreatDoor
set_option maxRecDepth 20000
namespace Go.Pk
open Go.RowKit (Below)
theorem qsY (s : List UInt8) : 0 <= jF s := by
 unfold jF; split
 · decide
 · split <;> decide
def qlJ (n v : List UInt8) : Hdr := ⟨n, v, [], [], false, 0, false, 0, false, false, 0⟩
def qtW (u : Url) (n v : List UInt8) : Cky := ⟨n, v, u.host, true, defV u.path, false, false, 0, 9223372036854775807, 7, 7, 0⟩
theorem qs2 {rs : List Rul} {u : Url} {n v : List UInt8} (hu : uRight u = true) (hg : Good (qlJ n v)) (hp : ¬ jF n > 0) (hn : n ≠ []) : takV rs u (qlJ n v) 7 = (qtW u n v, 0) := by
 have p0 : jF n = 0 := by have := qsY n; omega
 have hd : domV rs u.host (qlJ n v).domain = (u.host, true, 0) := by unfold domV; exact if_pos rfl
 refine qtG (qnT hu (right_of_good hg) (by decide) (by decide)) ?_ ?_
 · rw [hd]
   have hb : qen (qlJ n v) true = false := by
     unfold qen qdC
     rw [show (qlJ n v).name = n from rfl, if_neg hn, p0]; rfl
   unfold errV
   rw [if_neg (fun e => e rfl), if_neg (show ¬ ((qlJ n v).sec && !u.sec) = true by show ¬ (false && !u.sec) = true; simp), if_neg (show ¬ (decide ((qlJ n v).same = 1) && !(qlJ n v).sec) = true by show ¬ (decide ((0 : Int) = 1) && !false) = true; decide), if_neg (by rw [hb]; decide)]
 · rw [hd]; rfl
end Go.Pk
namespace Go.Proofs.YtndbpedpdbjkpaaGreatDoor
open Go.Pk
open Go.RowKit (Below)
set_option maxHeartbeats 4000000 in
theorem qhj {a0 : Option Addr} {l0 c0 : Nat} {rs : List Rul} {w : World} (hs : Sl tRul w AllB a0 l0 c0 rs) (hl : rs.length <= 9223372036854775807) (s t : List UInt8) (hsl : s.length <= 9000000) (htl : t.length <= 9000000) (he : Env w) :
   Calls prog qd4 #[.slice a0 l0 c0, .string (mkS s), .string (mkS t)] w (Ret (Says w)) := by
 apply qgi
 unfold qdD
 refine callK (qb0 w he) ?_
 rintro _ w5 ⟨rfl, hB5⟩
 refine ⟨_, rfl, BCase.no rfl ⟨fits (by simp; omega), ?_⟩⟩
 intro t2 ht2
 have t2l : t2.length <= 10000000 := by rw [ht2, List.length_append]; simp; omega
 clear ht2
 refine callK (qaC s t2 (by omega) t2l w5) ?_
 rintro _ w8 ⟨rfl, hb8⟩
 have hB8 := qb hB5 hb8 hB5.size
 refine ⟨_, _, _, _, _, _, _, _, _, _, _, _, _, rfl, ?_⟩
 have ou := urlV_ok s
 obtain ⟨un, up⟩ := qc6 s
 have ho := qdk t2
 have hgd : okB2 s t2 = true -> uRight (urlV s).1 = true /\ Go.Pk.Good (qM t2).1 := okB2_good
 generalize (urlV s).1 = u at *
 generalize (qM t2).1 = h at *
 intro k9 w9 hk9 hw9
 have hb9 := (hw9 ▸ qf w8 _ : Below w8.heap.size w8 w9)
 have h9 : qm w9 k9 qg url0.cells := qm.new hk9 hw9
 intro k10 w10 hk10 hw10
 have hb10 := (hw10 ▸ qf w9 _ : Below w9.heap.size w9 w10)
 have h10 : qm w10 k10 qd hdr0.cells := qm.new hk10 hw10
 have lt9 := h9.lt
 have hb810 := qb hb9 hb10 hb9.size
 have sz9 := hb9.size
 obtain ⟨w11, hs11, h911, hg11⟩ := qas.store0 (P := prog) (cs := u.cells) (Url.len ou) (Url.one u) (h9.below hb10) rfl
 have hb811 : Below w8.heap.size w8 w11 := Below.put hb810 hg11 (by omega)
 refine ⟨w11, hs11, ?_⟩
 obtain ⟨w12, hs12, h1012, hg12⟩ := qbR h (h10.grown hg11 (qP (by omega))) rfl
 have hb812 : Below w8.heap.size w8 w12 := Below.put hb811 hg12 (by omega)
 have h912 := h911.grown hg12 (qP (by omega))
 refine ⟨w12, hs12, ?_⟩
 have hB12 := qb hB8 hb812 hB8.size
 refine ⟨fun w' => (fewB rs [s, t] = true /\ okB2 s t2 = true /\ h = qlJ h.name h.value /\ ¬ jF h.name > 0 /\ h.name ≠ []) /\ Below w12.heap.size w12 w', ?_, ?_⟩
 · intro k6 w6 hk6 hw6
   have hb6 := (hw6 ▸ qf w12 _ : Below w12.heap.size w12 w6)
   have hB6 := qb hB12 hb6 hB12.size
   have ht6 := qdQ (ts := [s, t]) hk6 hw6 (show 2 <= maxLen by decide)
   refine callK (qaD (hs.below hB6) ht6 hl (show 2 <= 9223372036854775807 by decide)) ?_
   rintro _ w7 ⟨rfl, hb7⟩
   have hb127 := qb hb6 hb7 hb6.size
   have hB7 := qb hB12 hb127 hB12.size
   refine ⟨_, rfl, BCase.of (fun c => ⟨rfl, hB7⟩) (fun c => BCase.of (fun c2 => ⟨rfl, hB7⟩) (fun c2 => ?_))⟩
   have hh := h1012.below hb127
   refine ⟨_, _, _, _, _, _, _, _, _, _, _, zo h hh, rfl, h.name, hh.load1 un_string rfl (i := 0) rfl, rfl, h.value, hh.load1 un_string rfl (i := 1) rfl, _, qpo h (qlJ h.name h.value) w7, BCase.of (fun c3 => ⟨rfl, hB7⟩) (fun c3 => ?_)⟩
   have c3 : h = qlJ h.name h.value := by
     rw [Bool.not_eq_false', qcP] at c3; exact c3
   refine ⟨rfl, h.name, hh.load1 un_string rfl (i := 0) rfl, ?_⟩
   refine callK (jU h.name w7) ?_
   rintro _ w14 ⟨rfl, hb14⟩
   have hb1214 := qb hb127 hb14 hb127.size
   have hB14 := qb hB12 hb1214 hB12.size
   refine ⟨_, rfl, BCase.of (fun c4 => ⟨rfl, hB14⟩) (fun c4 => ⟨rfl, h.name, (hh.below hb14).load1 un_string rfl (i := 0) rfl, BCase.of (fun c5 => ⟨rfl, hB14⟩) (fun c5 => ⟨⟨by simpa using c, by simpa using c2, c3, of_decide_eq_false c4, beq_eq_false_iff_ne.1 c5⟩, hb1214⟩)⟩)⟩
 refine AllJ.of ?_ _
 rintro wj ⟨⟨c, c2, c3, c4, c5⟩, hbj⟩
 have hBj := qb hB12 hbj hB12.size
 obtain ⟨f1, f2, f3⟩ := qcR c
 obtain ⟨hu, hg⟩ := hgd c2
 have C : AdC wj a0 l0 c0 rs k9 k10 u h := ⟨he.step hBj, hs.below hBj, by omega, fun r hr => by have := f1 r hr; omega, h912.below hbj, h1012.below hbj, ou, by omega, by omega, ho⟩
 have S : StA wj qq qt qa (rs.filter rulR) none none (World.drew wj) := ⟨zV wj, (fun p e => by cases e), (fun x e => by cases e)⟩
 have oc := qfK (rs := rs.filter rulR) ou h 7
 refine ⟨fun p n w' => ∃ x, p = some ⟨x, 0, none⟩ /\ n = (takV (rs.filter rulR) u h 7).2 /\ qm w' x qa (takV (rs.filter rulR) u h 7).1.cells /\ Below wj.heap.size wj w', ?_, ?_⟩
 · clear hs11 hs12 hg11 hg12 h911 h912 h1012 h9 h10 hw9 hw10 hb9 hb10 hb810 hb811 hb812 hs he hB5 hB8 hB12 hb8 hbj hBj hgd hg hu c3 c4 c5
   repeat' (first
     | exact ⟨_, rfl, rfl, by assumption, by assumption⟩
     | refine And.intro ?_ ?_
     | (refine ad_al (by assumption) ?_; intro x wx hS)
     | (refine ad_st (by assumption) oc ?_; intro wx hb hc)
     | (refine ad_new C (by assumption) ?_; intro p wp hS)
     | (refine ad_take C (by assumption) ?_; intro wt hS)
     | refine Exists.intro _ (And.intro (ad_u C (by assumption)) ?_)
     | refine ⟨_, _, _, _, _, _, _, _, _, _, _, ad_h C (by assumption), ?_⟩)
 intro p n
 refine AllJ.of ?_ _
 rintro w13 ⟨x, rfl, rfl, hx, hb13⟩
 have hB13 := qb hBj hb13 hBj.size
 have hU := C.hU.below hb13
 have hH := C.hH.below hb13
 have ht : takV (rs.filter rulR) u h 7 = (qtW u h.name h.value, 0) := by
   rw [c3] at hg
   conv => lhs; rw [c3]
   exact qs2 hu hg c4 c5
 rw [ht] at hx oc
 rw [ht]
 generalize hD : qtW u h.name h.value = D at hx oc
 have d1 : D.only = true := by rw [<- hD]; rfl
 have d2 : D.host = u.host := by rw [<- hD]; rfl
 have d3 : D.exp = 9223372036854775807 := by rw [<- hD]; rfl
 have d4 : D.path = defV u.path := by rw [<- hD]; rfl
 have d5 : D.sec = false := by rw [<- hD]; rfl
 have d6 : D.name = h.name := by rw [<- hD]; rfl
 refine BCase.yes rfl ⟨rfl, _, fun v hv => qnY oc (hx.below hv), BCase.yes d1 ⟨rfl, _, fun v hv => qpN oc (hx.below hv), rfl, _, fun v hv => qlf ou (hU.below hv), _, fun v hv => qdn oc ou v, BCase.yes (by rw [d2]; exact qb5 _) ?_⟩⟩
 refine ⟨rfl, _, fun v hv => qng oc (hx.below hv), BCase.yes (by rw [d3]; rfl) ⟨rfl, _, fun v hv => qij oc (hx.below hv), rfl, _, fun v hv => que ou (hU.below hv), defV u.path, fun v hv => zj ((qbl u.path (by omega) v).mono ?_) hv, BCase.yes (by rw [d4]; exact beq_self_eq_true _) ?_⟩⟩
 · rintro _ v' ⟨_, rfl, rfl, rfl⟩
   exact ⟨_, rfl, rfl, Below.refl _ _⟩
 · refine ⟨rfl, _, fun v hv => qnf oc (hx.below hv), BCase.yes (by rw [d5]; rfl) ⟨rfl, _, fun v hv => qoA oc (hx.below hv), rfl, h.name, fun v hv => (hH.below hv).load1 un_string rfl (i := 0) rfl, fun wq hq => ⟨by rw [d6, beq_self_eq_true], qb hB13 hq hB13.size⟩⟩⟩
end Go.Proofs.YtndbpedpdbjkpaaGreatDoor
