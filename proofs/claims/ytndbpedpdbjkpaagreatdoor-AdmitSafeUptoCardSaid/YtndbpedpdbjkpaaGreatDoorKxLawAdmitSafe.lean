/- What the law alone leans on: Open, Names, V3, AddrF, AddrG, AddrI, HostC, HostD, V4, MatA, RulA, RulB, SufB, SufD, AdmA, V5, AdmD, AdmE, AdmX, OpenA, OpenB, AdmJ, V5_9, AdmL; what is used. Its conditions: none. -/
import Derived.Test.YtndbpedpdbjkpaaGreatDoorKI
import Derived.ProofKit
import Derived.OpenShut
import Derived.Stop.LaidErr
import Derived.Lib.LaidTab
import Derived.Deep.DeepHandedRow
import Derived.Test.YtndbpedpdbjkpaaGreatDoorRows
import Derived.Lib.ItoaLen
import Derived.Lib.LastIndexByte
import Derived.Lib.Bytes2
import Derived.ChangeArms
import Derived.ChangeSame
import Derived.Deep.Slices
open Go.IntKind (i64)
open Go.Proofs.Tryz (prog)
set_option linter.unusedVariables false
set_option linter.unusedSimpArgs false
namespace Go.Pk
def qhe {α : Type} (P : Program) (T : Ty α) (t : TypeId) : Prop :=
 ∀ (H : Type) (enc : TypeId × Value -> H) (w : World) (fuel : Nat) (cs : List Value) (x : DataW H × List MemPlace), DataW.trod enc P w 0 (fun _ => true) true fuel t cs = some x -> ∃ a, T.rep w AllB cs a
theorem qaE {P : Program} {k : IntKind} {t : TypeId} (ht : P.underlying t = some (.int k)) : qhe P (tInt k fun n => (Lit.int k n).wf = true) t := fun H enc w fuel cs x h => by
 obtain ⟨n, e, _, hw⟩ := DataW.trod_int ht h
 exact ⟨n, e, hw⟩
theorem qaG {P : Program} {t : TypeId} (ht : P.underlying t = some .string) : qhe P (tStr fun s => s.length <= maxLen) t := fun H enc w fuel cs x h => by
 obtain ⟨s, e, _, hs⟩ := DataW.trod_string ht h
 exact ⟨toL s, e, hs⟩
theorem qct {P : Program} {w : World} {r : Reach} {base : Nat} {t : TypeId} {v : Value} {d : TypeDesc} (ht : P.underlying t = some d) (ha : aggD d = true) (h : Value.okWide P w r base t v) : ∃ cs : List Value, v = .agg cs.toArray := by
 unfold Value.okWide at h
 rw [ht] at h
 cases d <;> first | (obtain ⟨cs, rfl, _⟩ := h; exact ⟨cs.toList, by simp⟩) | (cases ha; done)
end Go.Pk
namespace Go.Proofs.YtndbpedpdbjkpaaGreatDoor
open Go.Pk
abbrev qe5 : Nat := 9
abbrev qL : Nat := 25
abbrev ze : Nat := 27
abbrev zr : Nat := 38
abbrev qT : Nat := 41
abbrev zg : Nat := 42
abbrev zM : Nat := 60
abbrev qB : Nat := 61
abbrev qO : Nat := 90
abbrev zX : Nat := 91
abbrev zp : Nat := 108
abbrev zm : Nat := 109
abbrev jq : Nat := 156
abbrev qu : Nat := 176
abbrev qV : Nat := 177
abbrev qF : Nat := 178
abbrev jS : Nat := 216
abbrev jN : Nat := 217
abbrev zq : Nat := 237
abbrev qW : Nat := 263
abbrev jw : Nat := 70
abbrev qaI : Nat := 71
theorem qaQ : prog.underlying jw = some (.slice ql) := by kernel_rfl
end Go.Proofs.YtndbpedpdbjkpaaGreatDoor
set_option maxRecDepth 100000
namespace Go.Proofs.YtndbpedpdbjkpaaGreatDoor
open Go.Pk
open Go.RowKit (Below)
--  cracknel/cracknelref03.Right
def jc (v0 : Value) (w : World) (K : Value -> World -> Prop) : Prop :=
 ∀ k1 w1, k1 = w.heap.size -> w1 = w.alloc (.cells (Value.cells v0) qc) ->
 ∃ v6, Ld qc (some ⟨k1, 0, none⟩) w1 v6 /\
 Calls prog zM #[v6] w1 fun e7 w7 => ∃ s7, e7 = .returned (.string (mkS s7)) /\
 Calls prog jh #[.string (mkS s7)] w7 fun e8 w8 => ∃ v8_0 n8_1, e8 = .returned (.tuple #[v8_0, .int .i64 n8_1]) /\
 ∀ k3 w3, k3 = w8.heap.size -> w3 = w8.alloc (.cells qK qc) ->
 ∃ wx, Sv qc (some ⟨k3, 0, none⟩) v8_0 w3 wx /\
 BCase (n8_1 == (0 : Int))
 (∃ v14, Ld qc (some ⟨k3, 0, none⟩) wx v14 /\
 ∃ v15, Ld qc (some ⟨k1, 0, none⟩) wx v15 /\
 ∃ b16, ((do eqGuard .eql qc (.tmp 14) (.tmp 15) v14 v15; binOp .eql qc v14 v15 : Sem Value)).run prog wx = .ok (.bool b16) wx /\
 K (.bool b16) wx)
 (K (.bool false) wx)
theorem qam (v0 : Value) {w : World} {K : Value -> World -> Prop} (h : jc v0 w K) : Calls prog qL #[v0] w (Ret K) :=
 qo (c := qr Tryz.f25) (by kernel_rfl) Tryz.func25 (by kernel_rfl) [] [v0] (of_decide_eq_true (by kernel_rfl)) _ (by kernel_rfl) h

--  cracknel/cracknelref03.Under
def jd (v0 : Value) (v1 : Value) (w : World) (K : Value -> World -> Prop) : Prop :=
 ∀ k2 w2, k2 = w.heap.size -> w2 = w.alloc (.cells (Value.cells v0) qc) ->
 ∀ k3 w3, k3 = w2.heap.size -> w3 = w2.alloc (.cells (Value.cells v1) qc) ->
 ∃ J : FP [],
 (∃ v6, Ld qc (some ⟨k2, 0, none⟩) w3 v6 /\
 Calls prog qB #[v6] w3 fun e7 w7 => ∃ a7 l7 c7, e7 = .returned (.slice a7 l7 c7) /\
 BCase (((l7 : Nat) : Int) == (0 : Int))
 (K (.bool false) w7)
 (∃ v11, Ld qc (some ⟨k3, 0, none⟩) w7 v11 /\
 Calls prog qB #[v11] w7 fun e12 w12 => ∃ a12 l12 c12, e12 = .returned (.slice a12 l12 c12) /\
 BCase (((l12 : Nat) : Int) == (0 : Int))
 (K (.bool false) w12)
 (J w12))) /\
 AllJ 11 (∀ wj, J wj ->
 (true = true) /\
 ∃ s17, Ld qe (some ⟨k3, 1, none⟩) wj (.string (mkS s17)) /\
 ((((List.length [46] + List.length s17 : Nat) : Int) <= i64.max)) /\
 ∀ s18, s18 = ([46] ++ s17) ->
 (true = true) /\
 ∃ s20, Ld qe (some ⟨k2, 1, none⟩) wj (.string (mkS s20)) /\
 BCase (decide (((List.length s20 : Nat) : Int) > ((List.length s18 : Nat) : Int)))
 ((true = true) /\
 ∃ s27, Ld qe (some ⟨k2, 1, none⟩) wj (.string (mkS s27)) /\
 (true = true) /\
 ∃ s29, Ld qe (some ⟨k2, 1, none⟩) wj (.string (mkS s29)) /\
 ((0 <= (i64.wrap (((List.length s29 : Nat) : Int) - ((List.length s18 : Nat) : Int))) /\ (i64.wrap (((List.length s29 : Nat) : Int) - ((List.length s18 : Nat) : Int))) <= (((List.length s27) : Nat) : Int))) /\
 ∀ s34, s34 = (List.drop (Int.toNat (i64.wrap (((List.length s29 : Nat) : Int) - ((List.length s18 : Nat) : Int)))) s27) ->
 K (.bool (s34 == s18)) wj)
 (K (.bool false) wj))
theorem qal (v0 : Value) (v1 : Value) {w : World} {K : Value -> World -> Prop} (h : jd v0 v1 w K) : Calls prog ze #[v0, v1] w (Ret K) :=
 qo (c := qr Tryz.f27) (by kernel_rfl) Tryz.func27 (by kernel_rfl) [(2, [])] [v0, v1] (of_decide_eq_true (by kernel_rfl)) _ (by kernel_rfl) h

--  cracknel/cracknelref03.Text
def js (v0 : Value) (w : World) (K : Value -> World -> Prop) : Prop :=
 ∀ k1 w1, k1 = w.heap.size -> w1 = w.alloc (.cells (Value.cells v0) qc) ->
 (true = true) /\
 ∃ n4, Ld qx (some ⟨k1, 0, none⟩) w1 (.int .i64 n4) /\
 BCase (n4 == (1 : Int))
 ((true = true) /\
 ∃ s7, Ld qe (some ⟨k1, 1, none⟩) w1 (.string (mkS s7)) /\
 K (.string (mkS s7)) w1)
 ((true = true) /\
 ∃ n9, Ld qx (some ⟨k1, 0, none⟩) w1 (.int .i64 n9) /\
 BCase (n9 == (2 : Int))
 ((true = true) /\
 ∃ v12, Ld qk (some ⟨k1, 2, none⟩) w1 v12 /\
 Calls prog zp #[v12] w1 fun e13 w13 => ∃ s13, e13 = .returned (.string (mkS s13)) /\
 K (.string (mkS s13)) w13)
 ((true = true) /\
 ∃ n15, Ld qx (some ⟨k1, 0, none⟩) w1 (.int .i64 n15) /\
 BCase (n15 == (3 : Int))
 ((true = true) /\
 ∃ v18, Ld qk (some ⟨k1, 2, none⟩) w1 v18 /\
 Calls prog zm #[v18] w1 fun e19 w19 => ∃ s19, e19 = .returned (.string (mkS s19)) /\
 ((((List.length [91] + List.length s19 : Nat) : Int) <= i64.max)) /\
 ∀ s20, s20 = ([91] ++ s19) ->
 ((((List.length s20 + List.length [93] : Nat) : Int) <= i64.max)) /\
 ∀ s21, s21 = (s20 ++ [93]) ->
 K (.string (mkS s21)) w19)
 (K (.string (mkS [])) w1)))
theorem qaN (v0 : Value) {w : World} {K : Value -> World -> Prop} (h : js v0 w K) : Calls prog zM #[v0] w (Ret K) :=
 qo (c := qr Tryz.f60) (by kernel_rfl) Tryz.func60 (by kernel_rfl) [] [v0] (of_decide_eq_true (by kernel_rfl)) _ (by kernel_rfl) h

--  cracknel/cracknelref03.Labels
def zH (v0 : Value) (w : World) (K : Value -> World -> Prop) : Prop :=
 ∀ k1 w1, k1 = w.heap.size -> w1 = w.alloc (.cells (Value.cells v0) qc) ->
 ∃ J : FP [],
 ((true = true) /\
 ∃ n4, Ld qx (some ⟨k1, 0, none⟩) w1 (.int .i64 n4) /\
 BCase (n4 != (1 : Int))
 (K (.slice none 0 0) w1)
 (∃ v7, Ld qc (some ⟨k1, 0, none⟩) w1 v7 /\
 Calls prog qL #[v7] w1 fun e8 w8 => ∃ b8, e8 = .returned (.bool b8) /\
 BCase (!b8)
 (K (.slice none 0 0) w8)
 (J w8))) /\
 AllJ 9 (∀ wj, J wj ->
 (true = true) /\
 ∃ s12, Ld qe (some ⟨k1, 1, none⟩) wj (.string (mkS s12)) /\
 Calls prog zO #[.string (mkS s12), .int .u8 (46 : Int)] wj fun e13 w13 => ∃ a13 l13 c13, e13 = .returned (.slice a13 l13 c13) /\
 K (.slice a13 l13 c13) w13)
theorem j5 (v0 : Value) {w : World} {K : Value -> World -> Prop} (h : zH v0 w K) : Calls prog qB #[v0] w (Ret K) :=
 qo (c := qr Tryz.f61) (by kernel_rfl) Tryz.func61 (by kernel_rfl) [(2, [])] [v0] (of_decide_eq_true (by kernel_rfl)) _ (by kernel_rfl) h

--  cracknel/cracknelref03.Parse
def zZ (v0 : Value) (w : World) (K : Value -> World -> Prop) : Prop :=
 ∀ k1 w1, k1 = w.heap.size -> w1 = w.alloc (.cells (Value.cells v0) qk) ->
 ((0 <= (12 : Int) /\ (12 : Int) < ((16 : Nat) : Int)) /\ true = true) /\
 ∃ n4, (∀ u4, Below w1.heap.size w1 u4 -> Ld qw (qn (some ⟨k1, 0, none⟩) (12 : Int) 1) u4 (.int .u8 n4)) /\
 ∃ s6, (∀ u6, Below w1.heap.size w1 u6 -> Calls prog qu #[.int .i64 (i64.wrap n4)] u6 fun e6 w6 => e6 = .returned (.string (mkS s6)) /\ Below w1.heap.size u6 w6) /\
 ((((List.length s6 + List.length [46] : Nat) : Int) <= i64.max)) /\
 ∀ s7, s7 = (s6 ++ [46]) ->
 ((0 <= (13 : Int) /\ (13 : Int) < ((16 : Nat) : Int)) /\ true = true) /\
 ∃ n9, (∀ u9, Below w1.heap.size w1 u9 -> Ld qw (qn (some ⟨k1, 0, none⟩) (13 : Int) 1) u9 (.int .u8 n9)) /\
 ∃ s11, (∀ u11, Below w1.heap.size w1 u11 -> Calls prog qu #[.int .i64 (i64.wrap n9)] u11 fun e11 w11 => e11 = .returned (.string (mkS s11)) /\ Below w1.heap.size u11 w11) /\
 ((((List.length s7 + List.length s11 : Nat) : Int) <= i64.max)) /\
 ∀ s12, s12 = (s7 ++ s11) ->
 ((((List.length s12 + List.length [46] : Nat) : Int) <= i64.max)) /\
 ∀ s13, s13 = (s12 ++ [46]) ->
 ((0 <= (14 : Int) /\ (14 : Int) < ((16 : Nat) : Int)) /\ true = true) /\
 ∃ n15, (∀ u15, Below w1.heap.size w1 u15 -> Ld qw (qn (some ⟨k1, 0, none⟩) (14 : Int) 1) u15 (.int .u8 n15)) /\
 ∃ s17, (∀ u17, Below w1.heap.size w1 u17 -> Calls prog qu #[.int .i64 (i64.wrap n15)] u17 fun e17 w17 => e17 = .returned (.string (mkS s17)) /\ Below w1.heap.size u17 w17) /\
 ((((List.length s13 + List.length s17 : Nat) : Int) <= i64.max)) /\
 ∀ s18, s18 = (s13 ++ s17) ->
 ((((List.length s18 + List.length [46] : Nat) : Int) <= i64.max)) /\
 ∀ s19, s19 = (s18 ++ [46]) ->
 ((0 <= (15 : Int) /\ (15 : Int) < ((16 : Nat) : Int)) /\ true = true) /\
 ∃ n21, (∀ u21, Below w1.heap.size w1 u21 -> Ld qw (qn (some ⟨k1, 0, none⟩) (15 : Int) 1) u21 (.int .u8 n21)) /\
 ∃ s23, (∀ u23, Below w1.heap.size w1 u23 -> Calls prog qu #[.int .i64 (i64.wrap n21)] u23 fun e23 w23 => e23 = .returned (.string (mkS s23)) /\ Below w1.heap.size u23 w23) /\
 ((((List.length s19 + List.length s23 : Nat) : Int) <= i64.max)) /\
 ∀ s24, s24 = (s19 ++ s23) ->
 ∀ wq, Below w1.heap.size w1 wq ->
 K (.string (mkS s24)) wq
theorem qan (v0 : Value) {w : World} {K : Value -> World -> Prop} (h : zZ v0 w K) : Calls prog zp #[v0] w (Ret K) :=
 qo (c := qr Tryz.f108) (by kernel_rfl) Tryz.func108 (by kernel_rfl) [] [v0] (of_decide_eq_true (by kernel_rfl)) _ (by kernel_rfl) h

--  cracknel/cracknelref02.Text6
def zW (v0 : Value) (w : World) (K : Value -> World -> Prop) : Prop :=
 ∀ k1 w1, k1 = w.heap.size -> w1 = w.alloc (.cells (Value.cells v0) qk) ->
 ∃ I : Nat -> FP [.one (.int .i64)],
 (∃ m, I m (8 : Int) w1) /\
 ∀ m n3, AllJ 40 (∀ wl, I m n3 wl ->
 BCase (decide (n3 >= (2 : Int)))
 (∃ I_1 : Nat -> FP [.one (.int .i64)],
 (∃ m_1, I_1 m_1 (0 : Int) wl) /\
 ∀ m_1 n4, AllJ 35 (∀ wl_1, I_1 m_1 n4 wl_1 ->
 BCase (decide ((i64.wrap (n4 + n3)) <= (8 : Int)))
 (∃ I_2 : Nat -> FP [.one (.bool), .one (.int .i64)],
 (∃ m_2, I_2 m_2 true n4 wl_1) /\
 ∀ m_2 b5 n6, AllJ 14 (∀ wl_2, I_2 m_2 b5 n6 wl_2 ->
 BCase (decide (n6 < (i64.wrap (n4 + n3))))
 (BCase b5
 (∃ v27, Ld qk (some ⟨k1, 0, none⟩) wl_2 v27 /\
 Calls prog qV #[v27, .int .i64 n6] wl_2 fun e29 w29 => ∃ n29, e29 = .returned (.int .i64 n29) /\
 ∃ m'_2 : Nat, m'_2 < m_2 /\ I_2 m'_2 (n29 == (0 : Int)) (i64.wrap (n6 + (1 : Int))) w29)
 (∃ m'_2 : Nat, m'_2 < m_2 /\ I_2 m'_2 false (i64.wrap (n6 + (1 : Int))) wl_2))
 (BCase b5
 (∃ v33, (∀ u33, Below wl_2.heap.size wl_2 u33 -> Ld qk (some ⟨k1, 0, none⟩) u33 v33) /\
 ∃ s35, (∀ u35, Below wl_2.heap.size wl_2 u35 -> Calls prog qF #[v33, .int .i64 (0 : Int), .int .i64 n4] u35 fun e35 w35 => e35 = .returned (.string (mkS s35)) /\ Below wl_2.heap.size u35 w35) /\
 ((((List.length s35 + List.length [58, 58] : Nat) : Int) <= i64.max)) /\
 ∀ s36, s36 = (s35 ++ [58, 58]) ->
 ∃ v37, (∀ u37, Below wl_2.heap.size wl_2 u37 -> Ld qk (some ⟨k1, 0, none⟩) u37 v37) /\
 ∃ s41, (∀ u41, Below wl_2.heap.size wl_2 u41 -> Calls prog qF #[v37, .int .i64 (i64.wrap (n4 + n3)), .int .i64 (8 : Int)] u41 fun e41 w41 => e41 = .returned (.string (mkS s41)) /\ Below wl_2.heap.size u41 w41) /\
 ((((List.length s36 + List.length s41 : Nat) : Int) <= i64.max)) /\
 ∀ s42, s42 = (s36 ++ s41) ->
 ∀ wq, Below wl_2.heap.size wl_2 wq ->
 K (.string (mkS s42)) wq)
 (∃ m'_1 : Nat, m'_1 < m_1 /\ I_1 m'_1 (i64.wrap (n4 + (1 : Int))) wl_2))))
 (∃ m' : Nat, m' < m /\ I m' (i64.wrap (n3 - (1 : Int))) wl_1)))
 (∃ v43, Ld qk (some ⟨k1, 0, none⟩) wl v43 /\
 Calls prog qF #[v43, .int .i64 (0 : Int), .int .i64 (8 : Int)] wl fun e44 w44 => ∃ s44, e44 = .returned (.string (mkS s44)) /\
 K (.string (mkS s44)) w44))
theorem qak (v0 : Value) {w : World} {K : Value -> World -> Prop} (h : zW v0 w K) : Calls prog zm #[v0] w (Ret K) :=
 qo (c := qr Tryz.f109) (by kernel_rfl) Tryz.func109 (by kernel_rfl) [(6, [(3, .one (.int .i64))]), (18, [(4, .one (.int .i64))]), (33, [(5, .one (.bool)), (6, .one (.int .i64))])] [v0] (of_decide_eq_true (by kernel_rfl)) _ (by kernel_rfl) h

--  cracknel/cracknelref02.V6
def zu (n0 : Int) (w : World) (K : Value -> World -> Prop) : Prop :=
 BCase (decide (n0 < (10 : Int)))
 (∀ k8 w8, k8 = w.heap.size -> w8 = w.alloc (.cells #[.int .u8 (IntKind.u8.wrap (i64.wrap ((48 : Int) + n0)))] qw) ->
 ∃ s9, (convert qE qe (.slice (some ⟨k8, 0, none⟩) 1 1)).run prog w8 = .ok (.string (mkS s9)) w8 /\
 K (.string (mkS s9)) w8)
 (((10 : Int) ≠ 0) /\
 ∀ q11, q11 = (i64.wrap (Int.tdiv n0 (10 : Int))) ->
 ((10 : Int) ≠ 0) /\
 ∀ q14, q14 = (Int.tmod n0 (10 : Int)) ->
 (Calls prog qu #[.int .i64 q11] (World.drew w) fun e12 w12 => ∃ s12, e12 = .returned (.string (mkS s12)) /\
 ∀ k17 w17, k17 = w12.heap.size -> w17 = w12.alloc (.cells #[.int .u8 (IntKind.u8.wrap (i64.wrap ((48 : Int) + q14)))] qw) ->
 ∃ s18, (convert qE qe (.slice (some ⟨k17, 0, none⟩) 1 1)).run prog w17 = .ok (.string (mkS s18)) w17 /\
 ((((List.length s12 + List.length s18 : Nat) : Int) <= i64.max)) /\
 ∀ s19, s19 = (s12 ++ s18) ->
 K (.string (mkS s19)) w17) /\
 ∀ k17_1 w17_1, k17_1 = (World.drew w).heap.size -> w17_1 = (World.drew w).alloc (.cells #[.int .u8 (IntKind.u8.wrap (i64.wrap ((48 : Int) + q14)))] qw) ->
 (Calls prog qu #[.int .i64 q11] w17_1 fun e12_1 w12_1 => ∃ s12_1, e12_1 = .returned (.string (mkS s12_1)) /\
 ∃ s18_1, (convert qE qe (.slice (some ⟨k17_1, 0, none⟩) 1 1)).run prog w12_1 = .ok (.string (mkS s18_1)) w12_1 /\
 ((((List.length s12_1 + List.length s18_1 : Nat) : Int) <= i64.max)) /\
 ∀ s19_1, s19_1 = (s12_1 ++ s18_1) ->
 K (.string (mkS s19_1)) w12_1) /\
 ∃ s18_2, (convert qE qe (.slice (some ⟨k17_1, 0, none⟩) 1 1)).run prog w17_1 = .ok (.string (mkS s18_2)) w17_1 /\
 Calls prog qu #[.int .i64 q11] w17_1 fun e12_2 w12_2 => ∃ s12_2, e12_2 = .returned (.string (mkS s12_2)) /\
 ((((List.length s12_2 + List.length s18_2 : Nat) : Int) <= i64.max)) /\
 ∀ s19_2, s19_2 = (s12_2 ++ s18_2) ->
 K (.string (mkS s19_2)) w12_2)
theorem jE (n0 : Int) {w : World} {K : Value -> World -> Prop} (h : zu n0 w K) : Calls prog qu #[.int .i64 n0] w (Ret K) :=
 qo (c := qr Tryz.f176) (by kernel_rfl) Tryz.func176 (by kernel_rfl) [] [.int .i64 n0] (of_decide_eq_true (by kernel_rfl)) _ (by kernel_rfl) h

--  cracknel/cracknelref02.Group
def z6 (v0 : Value) (n1 : Int) (w : World) (K : Value -> World -> Prop) : Prop :=
 ∀ k2 w2, k2 = w.heap.size -> w2 = w.alloc (.cells (Value.cells v0) qk) ->
 ((0 <= (i64.wrap ((2 : Int) * n1)) /\ (i64.wrap ((2 : Int) * n1)) < ((16 : Nat) : Int)) /\ true = true) /\
 ∃ n8, (∀ u8, Below w2.heap.size w2 u8 -> Ld qw (qn (some ⟨k2, 0, none⟩) (i64.wrap ((2 : Int) * n1)) 1) u8 (.int .u8 n8)) /\
 ((0 <= (i64.wrap ((i64.wrap ((2 : Int) * n1)) + (1 : Int))) /\ (i64.wrap ((i64.wrap ((2 : Int) * n1)) + (1 : Int))) < ((16 : Nat) : Int)) /\ true = true) /\
 ∃ n15, (∀ u15, Below w2.heap.size w2 u15 -> Ld qw (qn (some ⟨k2, 0, none⟩) (i64.wrap ((i64.wrap ((2 : Int) * n1)) + (1 : Int))) 1) u15 (.int .u8 n15)) /\
 ∀ wq, Below w2.heap.size w2 wq ->
 K (.int .i64 (i64.wrap ((i64.wrap ((i64.wrap n8) * (256 : Int))) + (i64.wrap n15)))) wq
theorem qar (v0 : Value) (n1 : Int) {w : World} {K : Value -> World -> Prop} (h : z6 v0 n1 w K) : Calls prog qV #[v0, .int .i64 n1] w (Ret K) :=
 qo (c := qr Tryz.f177) (by kernel_rfl) Tryz.func177 (by kernel_rfl) [] [v0, .int .i64 n1] (of_decide_eq_true (by kernel_rfl)) _ (by kernel_rfl) h

--  cracknel/cracknelref02.part
def jr (v0 : Value) (n1 : Int) (n2 : Int) (w : World) (K : Value -> World -> Prop) : Prop :=
 ∀ k3 w3, k3 = w.heap.size -> w3 = w.alloc (.cells (Value.cells v0) qk) ->
 ∃ I : Nat -> FP [.one (.str), .one (.int .i64)],
 (∃ m, I m [] n1 w3) /\
 ∀ m s7 n8, AllJ 16 (∀ wl, I m s7 n8 wl ->
 BCase (decide (n8 < n2))
 (∃ J : FP [.one (.str)],
 (BCase (decide (n8 > n1))
 (((((List.length s7 + List.length [58] : Nat) : Int) <= i64.max)) /\
 ∀ s19, s19 = (s7 ++ [58]) ->
 J s19 wl)
 (J s7 wl)) /\
 ∀ s7_1, AllJ 5 (∀ wj, J s7_1 wj ->
 ∃ v21, Ld qk (some ⟨k3, 0, none⟩) wj v21 /\
 Calls prog qV #[v21, .int .i64 n8] wj fun e23 w23 => ∃ n23, e23 = .returned (.int .i64 n23) /\
 Calls prog zq #[.int .i64 n23] w23 fun e24 w24 => ∃ s24, e24 = .returned (.string (mkS s24)) /\
 ((((List.length s7_1 + List.length s24 : Nat) : Int) <= i64.max)) /\
 ∀ s25, s25 = (s7_1 ++ s24) ->
 ∃ m' : Nat, m' < m /\ I m' s25 (i64.wrap (n8 + (1 : Int))) w24))
 (K (.string (mkS s7)) wl))
theorem qaP (v0 : Value) (n1 : Int) (n2 : Int) {w : World} {K : Value -> World -> Prop} (h : jr v0 n1 n2 w K) : Calls prog qF #[v0, .int .i64 n1, .int .i64 n2] w (Ret K) :=
 qo (c := qr Tryz.f178) (by kernel_rfl) Tryz.func178 (by kernel_rfl) [(8, [(7, .one (.str)), (8, .one (.int .i64))]), (17, [(7, .one (.str))])] [v0, .int .i64 n1, .int .i64 n2] (of_decide_eq_true (by kernel_rfl)) _ (by kernel_rfl) h

--  cracknel/cracknelref02.eight
def jQ (n0 : Int) (w : World) (K : Value -> World -> Prop) : Prop :=
 BCase (decide (n0 < (16 : Int)))
 ((((0 <= (i64.wrap (n0 + (1 : Int))) /\ (i64.wrap (n0 + (1 : Int))) <= (((List.length [48, 49, 50, 51, 52, 53, 54, 55, 56, 57, 97, 98, 99, 100, 101, 102]) : Nat) : Int)) /\ 0 <= n0 /\ n0 <= ((Int.toNat (i64.wrap (n0 + (1 : Int))) : Nat) : Int))) /\
 ∀ s8, s8 = (List.drop (Int.toNat n0) (List.take (Int.toNat (i64.wrap (n0 + (1 : Int)))) [48, 49, 50, 51, 52, 53, 54, 55, 56, 57, 97, 98, 99, 100, 101, 102])) ->
 K (.string (mkS s8)) w)
 (((16 : Int) ≠ 0) /\
 ∀ q10, q10 = (i64.wrap (Int.tdiv n0 (16 : Int))) ->
 ∃ s11, (∀ u11, Below w.heap.size w u11 -> Calls prog zq #[.int .i64 q10] u11 fun e11 w11 => e11 = .returned (.string (mkS s11)) /\ Below w.heap.size u11 w11) /\
 ((16 : Int) ≠ 0) /\
 ∀ q13, q13 = (Int.tmod n0 (16 : Int)) ->
 ((16 : Int) ≠ 0) /\
 ∀ q15, q15 = (Int.tmod n0 (16 : Int)) ->
 (((0 <= (i64.wrap (q15 + (1 : Int))) /\ (i64.wrap (q15 + (1 : Int))) <= (((List.length [48, 49, 50, 51, 52, 53, 54, 55, 56, 57, 97, 98, 99, 100, 101, 102]) : Nat) : Int)) /\ 0 <= q13 /\ q13 <= ((Int.toNat (i64.wrap (q15 + (1 : Int))) : Nat) : Int))) /\
 ∀ s17, s17 = (List.drop (Int.toNat q13) (List.take (Int.toNat (i64.wrap (q15 + (1 : Int)))) [48, 49, 50, 51, 52, 53, 54, 55, 56, 57, 97, 98, 99, 100, 101, 102])) ->
 ((((List.length s11 + List.length s17 : Nat) : Int) <= i64.max)) /\
 ∀ s18, s18 = (s11 ++ s17) ->
 ∀ wq, Below w.heap.size w wq ->
 K (.string (mkS s18)) wq)
theorem qbe (n0 : Int) {w : World} {K : Value -> World -> Prop} (h : jQ n0 w K) : Calls prog zq #[.int .i64 n0] w (Ret K) :=
 qo (c := qr Tryz.f237) (by kernel_rfl) Tryz.func237 (by kernel_rfl) [] [.int .i64 n0] (of_decide_eq_true (by kernel_rfl)) _ (by kernel_rfl) h

--  cracknel/cracknelref02.digit
end Go.Proofs.YtndbpedpdbjkpaaGreatDoor
set_option maxRecDepth 20000
namespace Go.Pk
theorem jA {n : Nat} (h : n < 10) : decL n = [UInt8.ofNat (48 + n)] := Lib.decDigits_one h
theorem jC {n : Nat} (h : ¬ n < 10) : decL n = decL (n / 10) ++ [UInt8.ofNat (48 + n % 10)] := by
 show Lib.decDigits n = _
 rw [Lib.decDigits, dif_neg h]
theorem qfg {a : List UInt8} (h : a.length = 16) : a.drop 12 = [a[12]'(by omega), a[13]'(by omega), a[14]'(by omega), a[15]'(by omega)] := by
 rw [List.drop_eq_getElem_cons (by omega), List.drop_eq_getElem_cons (by omega), List.drop_eq_getElem_cons (by omega), List.drop_eq_getElem_cons (by omega), List.drop_eq_nil_of_le (by omega)]
theorem text4_parts {a : List UInt8} (h : a.length = 16) : text4V a = decL (a[12]'(by omega)).toNat ++ ([46] : List UInt8) ++ decL (a[13]'(by omega)).toNat ++ ([46] : List UInt8) ++ decL (a[14]'(by omega)).toNat ++ ([46] : List UInt8) ++ decL (a[15]'(by omega)).toNat := by
 unfold text4V
 rw [qfg h]
 simp [Lib.join_cons, Lib.joinTail]
end Go.Pk
namespace Go.Proofs.YtndbpedpdbjkpaaGreatDoor
open Go.Pk
open Go.RowKit (Below)
theorem zk {w w8 : World} {k8 : Nat} {d : Nat} (hd : d < 10) {x : Int} (hx : x = (d : Int)) (hk : k8 = w.heap.size) (hw : w8 = w.alloc (.cells #[.int .u8 (IntKind.u8.wrap (i64.wrap ((48 : Int) + x)))] qw)) :
   ∀ u, Below w8.heap.size w8 u -> (convert qE qe (.slice (some ⟨k8, 0, none⟩) 1 1)).run prog u = .ok (.string (mkS [UInt8.ofNat (48 + d)])) u := by
 intro u hu
 have e : IntKind.u8.wrap (i64.wrap ((48 : Int) + x)) = (((UInt8.ofNat (48 + d)).toNat : Nat) : Int) := by
   rw [hx, wrap_i64 (by omega) (by omega), qcc (by omega) (by omega), qkg (by omega)]; omega
 rw [e] at hw
 have ho : Ow tU8 qw w8 NoB (some ⟨k8, 0, none⟩) 1 1 [UInt8.ofNat (48 + d)] := Ow.newF qgA hk hw (RepL.one (qgz rfl)) (show 1 <= maxLen by decide)
 exact qeX zQ un_string un_uint8 (ho.below hu).all
theorem qI : ∀ (n : Nat) (h : n <= 9223372036854775807) (w : World), Calls prog qu #[.int .i64 (n : Int)] w (Ret fun v w' => v = .string (mkS (decL n)) /\ Below w.heap.size w w')
 | n, hn, w => by
   apply jE
   unfold zu
   refine BCase.of (fun h => ?_) (fun h => ?_) <;> simp only [dTx, dFx] at h
   · intro k8 w8 hk8 hw8
     refine ⟨_, zk (d := n) (by omega) rfl hk8 hw8 w8 (Below.refl _ _), ?_⟩
     rw [jA (by omega)]
     exact ⟨rfl, hw8 ▸ qf _ _⟩
   · have hlt : n / 10 < n := by omega
     refine ⟨by decide, ?_⟩
     rintro _ rfl
     refine ⟨by decide, ?_⟩
     rintro _ rfl
     have e1 : i64.wrap (Int.tdiv (n : Int) 10) = ((n / 10 : Nat) : Int) := by rw [tdiv_pos (by omega), wrap_i64 (by omega) (by omega)]; omega
     have e2 : Int.tmod (n : Int) 10 = ((n % 10 : Nat) : Int) := by rw [tmod_pos (by omega)]; omega
     rw [e1, e2, jC (by omega)]
     have hd : Below w.heap.size w (World.drew w) := qcT rfl rfl rfl (Nat.le_refl _) (fun _ _ => rfl)
     have hl := zS (n := n / 10) (by omega)
     refine ⟨?_, ?_⟩
     · refine callK (qI (n / 10) (by omega) (World.drew w)) ?_
       rintro _ w1 ⟨rfl, hb1⟩
       refine ⟨_, rfl, ?_⟩
       intro k8 w8 hk8 hw8
       refine ⟨_, zk (d := n % 10) (by omega) rfl hk8 hw8 w8 (Below.refl _ _), fits (by simp; omega), ?_⟩
       rintro _ rfl
       have hB1 := qb hd hb1 hd.size
       exact ⟨rfl, qb hB1 (hw8 ▸ qf _ _) hB1.size⟩
     · intro k8 w8 hk8 hw8
       have hb8 : Below (World.drew w).heap.size (World.drew w) w8 := hw8 ▸ qf _ _
       have hB8 := qb hd hb8 hd.size
       refine ⟨?_, _, zk (d := n % 10) (by omega) rfl hk8 hw8 w8 (Below.refl _ _), ?_⟩
       · refine callK (qI (n / 10) (by omega) w8) ?_
         rintro _ w1 ⟨rfl, hb1⟩
         refine ⟨_, rfl, _, zk (d := n % 10) (by omega) rfl hk8 hw8 w1 hb1, fits (by simp; omega), ?_⟩
         rintro _ rfl
         exact ⟨rfl, qb hB8 hb1 hB8.size⟩
       · refine callK (qI (n / 10) (by omega) w8) ?_
         rintro _ w1 ⟨rfl, hb1⟩
         refine ⟨_, rfl, fits (by simp; omega), ?_⟩
         rintro _ rfl
         exact ⟨rfl, qb hB8 hb1 hB8.size⟩
 termination_by n => n
theorem qaM (a : List UInt8) (ha : a.length = 16) (w : World) : Calls prog zp #[adV a] w (Ret fun v w' => v = .string (mkS (text4V a)) /\ Below w.heap.size w w') := by
 apply qan
 unfold zZ
 intro k1 w1 hk1 hw1
 have hB1 := (hw1 ▸ qf w _ : Below w.heap.size w w1)
 have h1 : qm w1 k1 qk (adC a) := qm.new hk1 hw1
 have ld : ∀ (i : Nat) (hi : i < a.length) (u : World), Below w1.heap.size w1 u -> (Instr.loadAt qw (.pointer (qn (some ⟨k1, 0, none⟩) (i : Int) 1))).run prog u = .ok (.int .u8 ((a[i].toNat : Nat) : Int)) u := fun i hi u hu => by
   rw [z8, Nat.zero_add]
   exact (h1.below hu).load1 un_uint8 rfl (qcO hi)
 have dc : ∀ (c : UInt8) (u : World), Below w1.heap.size w1 u -> Calls prog qu #[.int .i64 (i64.wrap ((c.toNat : Nat) : Int))] u fun e w' => e = .returned (.string (mkS (decL c.toNat))) /\ Below w1.heap.size u w' := fun c u hu => by
   have := qbc c
   rw [wrap_i64 (by omega) (by omega)]
   exact zj (qI c.toNat (by omega) u) hu
 have l12 := zS (n := a[12].toNat) (by have := qbc a[12]; omega)
 have l13 := zS (n := a[13].toNat) (by have := qbc a[13]; omega)
 have l14 := zS (n := a[14].toNat) (by have := qbc a[14]; omega)
 have l15 := zS (n := a[15].toNat) (by have := qbc a[15]; omega)
 refine ⟨⟨⟨by decide, by decide⟩, rfl⟩, _, ld 12 (by omega), _, dc _, fits (by simp; omega), ?_⟩
 rintro _ rfl
 refine ⟨⟨⟨by decide, by decide⟩, rfl⟩, _, ld 13 (by omega), _, dc _, fits (by simp; omega), ?_⟩
 rintro _ rfl
 refine ⟨fits (by simp; omega), ?_⟩
 rintro _ rfl
 refine ⟨⟨⟨by decide, by decide⟩, rfl⟩, _, ld 14 (by omega), _, dc _, fits (by simp; omega), ?_⟩
 rintro _ rfl
 refine ⟨fits (by simp; omega), ?_⟩
 rintro _ rfl
 refine ⟨⟨⟨by decide, by decide⟩, rfl⟩, _, ld 15 (by omega), _, dc _, fits (by simp; omega), ?_⟩
 rintro _ rfl
 intro wq hwq
 rw [text4_parts ha]
 exact ⟨by simp only [List.append_assoc], qb hB1 hwq hB1.size⟩
end Go.Proofs.YtndbpedpdbjkpaaGreatDoor
namespace Go.Pk
theorem hex16_all : ∀ d : Nat, d < 16 -> (([48, 49, 50, 51, 52, 53, 54, 55, 56, 57, 97, 98, 99, 100, 101, 102] : List UInt8).take (d + 1)).drop d = [hexC d] := by decide
end Go.Pk
namespace Go.Proofs.YtndbpedpdbjkpaaGreatDoor
open Go.Pk
open Go.RowKit (Below)
theorem jP : ∀ (n : Nat) (h : n < 65536) (w : World), Calls prog zq #[.int .i64 (n : Int)] w (Ret fun v w' => v = .string (mkS (hexL n)) /\ Below w.heap.size w w')
 | n, hn, w => by
   apply qbe
   unfold jQ
   refine BCase.of (fun h => ?_) (fun h => ?_) <;> simp only [dTx, dFx] at h
   · have e : i64.wrap ((n : Int) + 1) = ((n + 1 : Nat) : Int) := by rw [wrap_i64 (by omega) (by omega)]; omega
     rw [e]
     refine ⟨⟨⟨by omega, by simp; omega⟩, by omega, by omega⟩, ?_⟩
     rintro _ rfl
     simp only [Int.toNat_natCast]
     rw [hex16_all n (by omega), qdK (by omega)]
     exact ⟨rfl, Below.refl _ _⟩
   · have hlt : n / 16 < n := by omega
     have e1 : i64.wrap (Int.tdiv (n : Int) 16) = ((n / 16 : Nat) : Int) := by rw [tdiv_pos (by omega), wrap_i64 (by omega) (by omega)]; omega
     have e2 : Int.tmod (n : Int) 16 = ((n % 16 : Nat) : Int) := by rw [tmod_pos (by omega)]; omega
     refine ⟨by decide, ?_⟩
     rintro _ rfl
     rw [e1, e2]
     have hl := qcp (n := n / 16) (by omega)
     refine ⟨_, fun u hu => zj (jP (n / 16) (by omega) u) hu, by decide, ?_⟩
     rintro _ rfl
     refine ⟨by decide, ?_⟩
     rintro _ rfl
     have e : i64.wrap (((n % 16 : Nat) : Int) + 1) = ((n % 16 + 1 : Nat) : Int) := by rw [wrap_i64 (by omega) (by omega)]; omega
     rw [e]
     refine ⟨⟨⟨by omega, by simp; omega⟩, by omega, by omega⟩, ?_⟩
     rintro _ rfl
     simp only [Int.toNat_natCast]
     rw [hex16_all (n % 16) (by omega)]
     refine ⟨fits (by simp; omega), ?_⟩
     rintro _ rfl
     intro wq hwq
     rw [hexL_more (n := n) (by omega)]
     exact ⟨rfl, hwq⟩
 termination_by n => n
end Go.Proofs.YtndbpedpdbjkpaaGreatDoor
namespace Go.Pk
theorem qbX (zs : List Bool) (p l : Nat) : allZ zs p (l + 1) = (allZ zs p l && zs.getD (p + l) false) := by
 unfold allZ; rw [List.range_succ, List.all_append]; simp
theorem qh7 (a : List UInt8) {k : Nat} (h : k < 8) : (zsA a).getD k false = (grpA a k == 0) := by
 unfold zsA
 rw [List.getD_eq_getElem?_getD, List.getElem?_map, List.getElem?_eq_getElem (by rw [qdq]; exact h), qhX]; rfl
theorem qbZ (sep : List UInt8) (r : List (List UInt8)) (y : List UInt8) : Lib.joinTail sep (r ++ [y]) = Lib.joinTail sep r ++ (sep ++ y) := by simp [Lib.joinTail]
theorem qfi (l : List Nat) (x : Nat) : wrL (l ++ [x]) = if l = [] then hexL x else wrL l ++ [58] ++ hexL x := by
 unfold wrL
 cases l with
 | nil => simp [Lib.join_one]
 | cons y r =>
   rw [if_neg (by simp), List.map_append, List.map_cons, List.cons_append, List.map_cons, List.map_nil, Lib.join_cons, Lib.join_cons, qbZ]
   simp
end Go.Pk
namespace Go.Proofs.YtndbpedpdbjkpaaGreatDoor
open Go.Pk
open Go.RowKit (Below)
theorem zY (a : List UInt8) (ha : a.length = 16) (k : Nat) (hk : k < 8) (w : World) : Calls prog qV #[adV a, .int .i64 (k : Int)] w (Ret fun v w' => v = .int .i64 ((grpA a k : Nat) : Int) /\ Below w.heap.size w w') := by
 apply qar
 unfold z6
 intro k1 w1 hk1 hw1
 have hB1 := (hw1 ▸ qf w _ : Below w.heap.size w w1)
 have h1 : qm w1 k1 qk (adC a) := qm.new hk1 hw1
 have e1 : i64.wrap (2 * (k : Int)) = ((2 * k : Nat) : Int) := by rw [wrap_i64 (by omega) (by omega)]; omega
 have e2 : i64.wrap (((2 * k : Nat) : Int) + 1) = ((2 * k + 1 : Nat) : Int) := by rw [wrap_i64 (by omega) (by omega)]; omega
 rw [e1, e2, z8, z8, Nat.zero_add, Nat.zero_add]
 refine ⟨⟨⟨by omega, by omega⟩, rfl⟩, _, fun u hu => (h1.below hu).load1 un_uint8 rfl (qcO (a := a) (i := 2 * k) (by omega)), ⟨⟨by omega, by omega⟩, rfl⟩, _, fun u hu => (h1.below hu).load1 un_uint8 rfl (qcO (a := a) (i := 2 * k + 1) (by omega)), fun wq hwq => ⟨?_, qb hB1 hwq hB1.size⟩⟩
 have u1 := qbc (a[2 * k]'(by omega))
 have u2 := qbc (a[2 * k + 1]'(by omega))
 have hval : (a[2 * k]'(by omega)).toNat * 256 + (a[2 * k + 1]'(by omega)).toNat = grpA a k := by
   unfold grpA
   rw [List.getD_eq_getElem?_getD, List.getD_eq_getElem?_getD, List.getElem?_eq_getElem (by omega), List.getElem?_eq_getElem (by omega)]; rfl
 rw [<- hval, wrap_i64 (n := (((a[2 * k]'(by omega)).toNat : Nat) : Int)) (by omega) (by omega), wrap_i64 (n := (((a[2 * k + 1]'(by omega)).toNat : Nat) : Int)) (by omega) (by omega), wrap_i64 (n := _ * _) (by omega) (by omega), wrap_i64 (by omega) (by omega)]
 congr 1
theorem zn (a : List UInt8) (ha : a.length = 16) (p q : Nat) (hpq : p <= q) (hq : q <= 8) (w : World) : Calls prog qF #[adV a, .int .i64 (p : Int), .int .i64 (q : Int)] w
   (Ret fun v w' => v = .string (mkS (wrL (((gL a).drop p).take (q - p)))) /\ Below w.heap.size w w') := by
 apply qaP
 unfold jr
 intro k1 w1 hk1 hw1
 have hB1 := (hw1 ▸ qf w _ : Below w.heap.size w w1)
 have h1 : qm w1 k1 qk (adC a) := qm.new hk1 hw1
 have hgl := qdq a
 have hbx : ∀ j, ∀ x ∈ ((gL a).drop p).take j, x < 65536 := fun j x hx => qeo a x (List.mem_of_mem_drop (List.mem_of_mem_take hx))
 refine ⟨fun m s i w' => ∃ j : Nat, j <= q - p /\ i = ((p + j : Nat) : Int) /\ m = q - p - j /\ s = wrL (((gL a).drop p).take j) /\ Below w1.heap.size w1 w', ⟨_, 0, by omega, rfl, rfl, rfl, Below.refl _ _⟩, ?_⟩
 intro m s i
 refine AllJ.of ?_ _
 rintro w2 ⟨j, hj, rfl, rfl, rfl, hB2⟩
 have hl := qbz (hbx j)
 rw [List.length_take, List.length_drop] at hl
 refine BCase.of (fun h => ?_) (fun h => ?_) <;> simp only [dTx, dFx] at h
 · have hlt : p + j < q := by omega
   refine strJ (B := fun J => BCase _ (_ /\ ∀ s19, s19 = (_ ++ [58]) -> J s19 w2) (J _ w2)) (if j = 0 then [] else wrL (((gL a).drop p).take j) ++ [58]) (BCase.of (fun hx => ⟨fits (by simp; omega), ?_⟩) (fun hx => ⟨rfl, ?_⟩)) ?_
   · rintro _ rfl
     simp only [gt_iff_lt, dTx] at hx
     exact ⟨rfl, by rw [if_neg (by omega)]⟩
   · simp only [gt_iff_lt, dFx] at hx
     have : j = 0 := by omega
     subst this
     rw [if_pos rfl]; rfl
   · refine ⟨_, qR.load0 (h1.below hB2) (by rw [zF, ha]), ?_⟩
     refine callK (zY a ha (p + j) (by omega) w2) ?_
     rintro _ w3 ⟨rfl, hb3⟩
     have hB3 := qb hB2 hb3 hB2.size
     refine ⟨_, rfl, ?_⟩
     refine callK (jP (grpA a (p + j)) (qfr _ _) w3) ?_
     rintro _ w4 ⟨rfl, hb4⟩
     have hB4 := qb hB3 hb4 hB3.size
     have hl4 := qcp (qfr a (p + j))
     refine ⟨_, rfl, fits (by split <;> simp <;> omega), ?_⟩
     rintro _ rfl
     refine ⟨q - p - (j + 1), by omega, j + 1, by omega, by rw [wrap_i64 (by omega) (by omega)]; omega, rfl, ?_, hB4⟩
     have hjd : j < ((gL a).drop p).length := by rw [List.length_drop]; omega
     rw [List.take_succ_eq_append_getElem hjd, qfi, List.getElem_drop, qhX]
     by_cases hj0 : j = 0
     · subst hj0; rfl
     · rw [if_neg hj0, if_neg]
       intro e
       have := congrArg List.length e
       rw [List.length_take] at this; simp at this; omega
 · have : j = q - p := by omega
   subst this
   exact ⟨rfl, qb hB1 hB2 hB1.size⟩
theorem qaK (a : List UInt8) (ha : a.length = 16) (w : World) : Calls prog zm #[adV a] w (Ret fun v w' => v = .string (mkS (qaJ a)) /\ Below w.heap.size w w') := by
 apply qak
 unfold zW
 intro k1 w1 hk1 hw1
 have hB1 := (hw1 ▸ qf w _ : Below w.heap.size w w1)
 have h1 : qm w1 k1 qk (adC a) := qm.new hk1 hw1
 have ha16 : (adC a).length = 16 := by rw [zF, ha]
 have hgl := qdq a
 obtain ⟨z1, z2, z3⟩ := qc3 (qit a)
 have ht : qaJ a = if (zc (zsA a)).2 < 2 then wrL (gL a) else wrL ((gL a).take (zc (zsA a)).1) ++ [58, 58] ++ wrL ((gL a).drop ((zc (zsA a)).1 + (zc (zsA a)).2)) := rfl
 refine ⟨fun m i w' => ∃ L : Nat, 1 <= L /\ L <= 8 /\ i = (L : Int) /\ m = L /\ (∀ L' A, L < L' -> A + L' <= 8 -> allZ (zsA a) A L' = false) /\ Below w1.heap.size w1 w', ⟨_, 8, by omega, by omega, rfl, rfl, fun L' A h1 h2 => by omega, Below.refl _ _⟩, ?_⟩
 intro m i
 refine AllJ.of ?_ _
 rintro w2 ⟨L, hL1, hL8, rfl, hm, hlong, hB2⟩
 obtain rfl : L = m := hm.symm
 refine BCase.of (fun h => ?_) (fun h => ?_) <;> simp only [ge_iff_le, dTx, dFx] at h
 · have hL2 : 2 <= L := by omega
   refine ⟨fun m i w' => ∃ A : Nat, A + L <= 9 /\ i = (A : Int) /\ m = 9 - A /\ (∀ A', A' < A -> allZ (zsA a) A' L = false) /\ Below w1.heap.size w1 w', ⟨_, 0, by omega, rfl, rfl, fun A' h => by omega, hB2⟩, ?_⟩
   intro m i
   refine AllJ.of ?_ _
   rintro w3 ⟨A, hA, rfl, rfl, hearly, hB3⟩
   have eAL : i64.wrap ((A : Int) + (L : Int)) = ((A + L : Nat) : Int) := by rw [wrap_i64 (by omega) (by omega)]; omega
   rw [eAL]
   refine BCase.of (fun h2 => ?_) (fun h2 => ?_) <;> simp only [dTx, dFx] at h2
   · have hAL : A + L <= 8 := by omega
     refine ⟨fun m b i w' => ∃ j : Nat, j <= L /\ i = ((A + j : Nat) : Int) /\ m = L - j /\ b = allZ (zsA a) A j /\ Below w1.heap.size w1 w', ⟨_, 0, by omega, rfl, rfl, rfl, hB3⟩, ?_⟩
     intro m b i
     refine AllJ.of ?_ _
     rintro w4 ⟨j, hj, rfl, rfl, rfl, hB4⟩
     have ew : i64.wrap (((A + j : Nat) : Int) + 1) = ((A + (j + 1) : Nat) : Int) := by rw [wrap_i64 (by omega) (by omega)]; omega
     rw [ew]
     refine BCase.of (fun h3 => ?_) (fun h3 => ?_) <;> simp only [dTx, dFx] at h3
     · have hjL : j < L := by omega
       refine BCase.of (fun h4 => ?_) (fun h4 => ?_)
       · refine ⟨_, qR.load0 (h1.below hB4) ha16, ?_⟩
         refine callK (zY a ha (A + j) (by omega) w4) ?_
         rintro _ w5 ⟨rfl, hb5⟩
         refine ⟨_, rfl, L - (j + 1), by omega, j + 1, by omega, rfl, rfl, ?_, qb hB4 hb5 hB4.size⟩
         rw [qbX, h4, Bool.true_and, qh7 a (by omega), Bool.eq_iff_iff]
         simp
       · exact ⟨L - (j + 1), by omega, j + 1, by omega, rfl, rfl, by rw [qbX, h4, Bool.false_and], hB4⟩
     · have : j = L := by omega
       subst this
       refine BCase.of (fun h4 => ?_) (fun h4 => ?_)
       · have hu := z3 j A hL2 hAL h4
         have hAz : j = (zc (zsA a)).2 /\ A = (zc (zsA a)).1 := by
           rcases hu with hu | ⟨hu1, hu2⟩
           · exfalso
             have := z2 (by omega)
             rw [hlong _ _ hu z1] at this; cases this
           · refine ⟨hu1, ?_⟩
             rcases Nat.lt_or_ge (zc (zsA a)).1 A with hc | hc
             · exfalso
               have := z2 (by omega)
               rw [<- hu1, hearly _ hc] at this; cases this
             · omega
         have l1 := qbz (l := (gL a).take A) fun x hx => qeo a x (List.mem_of_mem_take hx)
         have l2 := qbz (l := (gL a).drop (A + j)) fun x hx => qeo a x (List.mem_of_mem_drop hx)
         rw [List.length_take] at l1
         rw [List.length_drop] at l2
         have hp1 : ∀ u, Below w4.heap.size w4 u -> Calls prog qF #[adV a, .int .i64 (0 : Int), .int .i64 (A : Int)] u fun e w' => e = .returned (.string (mkS (wrL ((gL a).take A)))) /\ Below w4.heap.size u w' := fun u hu => by
           have := zn a ha 0 A (by omega) (by omega) u
           rw [List.drop_zero, Nat.sub_zero] at this
           exact zj this hu
         have hp2 : ∀ u, Below w4.heap.size w4 u -> Calls prog qF #[adV a, .int .i64 ((A + j : Nat) : Int), .int .i64 (8 : Int)] u fun e w' => e = .returned (.string (mkS (wrL ((gL a).drop (A + j))))) /\ Below w4.heap.size u w' := fun u hu => by
           have := zn a ha (A + j) 8 (by omega) (by omega) u
           rw [List.take_of_length_le (by rw [List.length_drop]; omega)] at this
           exact zj this hu
         refine ⟨_, fun u hu => qR.load0 ((h1.below hB4).below hu) ha16, _, hp1, fits (by simp; omega), ?_⟩
         rintro _ rfl
         refine ⟨_, fun u hu => qR.load0 ((h1.below hB4).below hu) ha16, _, hp2, fits (by simp; omega), ?_⟩
         rintro _ rfl
         intro wq hwq
         have hq := qb hB4 hwq hB4.size
         refine ⟨?_, qb hB1 hq hB1.size⟩
         rw [ht, if_neg (by omega), <- hAz.1, <- hAz.2]
       · refine ⟨9 - (A + 1), by omega, A + 1, by omega, by rw [wrap_i64 (by omega) (by omega)]; omega, rfl, fun A' hA' => ?_, hB4⟩
         by_cases e : A' = A
         · subst e; exact h4
         · exact hearly A' (by omega)
   · refine ⟨L - 1, by omega, L - 1, by omega, by omega, by rw [wrap_i64 (by omega) (by omega)]; omega, rfl, fun L' A' hl ha' => ?_, hB3⟩
     by_cases e : L' = L
     · subst e; exact hearly A' (by omega)
     · exact hlong L' A' (by omega) ha'
 · refine ⟨_, qR.load0 (h1.below hB2) ha16, ?_⟩
   have := zn a ha 0 8 (by omega) (by omega) w2
   rw [List.drop_zero, List.take_of_length_le (by omega)] at this
   refine callK this ?_
   rintro _ w5 ⟨rfl, hb5⟩
   have hq := qb hB2 hb5 hB2.size
   refine ⟨_, rfl, ?_, qb hB1 hq hB1.size⟩
   rw [ht, if_pos]
   refine Decidable.byContradiction fun hc => ?_
   have := z2 (by omega)
   rw [hlong _ _ (by omega) z1] at this; cases this
end Go.Proofs.YtndbpedpdbjkpaaGreatDoor
namespace Go.Proofs.YtndbpedpdbjkpaaGreatDoor
open Go.Pk
open Go.RowKit (Below)
theorem qba {h : Hst} (o : h.ok) (w : World) : Calls prog zM #[h.v] w (Ret fun v w' => v = .string (mkS (qax h)) /\ Below w.heap.size w w') := by
 apply qaN
 unfold js
 intro k1 w1 hk1 hw1
 have hB1 := (hw1 ▸ qf w _ : Below w.heap.size w w1)
 have h1 : qm w1 k1 qc h.cells := qm.new hk1 hw1
 refine ⟨rfl, _, h1.load1 qN rfl rfl, ?_⟩
 unfold qax
 refine BCase.of (fun c1 => ?_) (fun c1 => ?_) <;> simp only [beq_iff_eq, beq_eq_false_iff_ne, ne_eq] at c1
 · rw [if_pos c1]
   exact ⟨rfl, _, h1.load1 un_string rfl rfl, rfl, hB1⟩
 rw [if_neg c1]
 refine ⟨rfl, _, h1.load1 qN rfl rfl, ?_⟩
 refine BCase.of (fun c2 => ?_) (fun c2 => ?_) <;> simp only [beq_iff_eq, beq_eq_false_iff_ne, ne_eq] at c2
 · rw [if_pos c2]
   refine ⟨rfl, _, qhV o h1, ?_⟩
   refine callK (qaM h.ad o w1) ?_
   rintro _ w2 ⟨rfl, hb2⟩
   exact ⟨_, rfl, rfl, qb hB1 hb2 hB1.size⟩
 rw [if_neg c2]
 refine ⟨rfl, _, h1.load1 qN rfl rfl, ?_⟩
 refine BCase.of (fun c3 => ?_) (fun c3 => ?_) <;> simp only [beq_iff_eq, beq_eq_false_iff_ne, ne_eq] at c3
 · rw [if_pos c3]
   refine ⟨rfl, _, qhV o h1, ?_⟩
   refine callK (qaK h.ad o w1) ?_
   rintro _ w2 ⟨rfl, hb2⟩
   have h6 := qe8 h.ad
   refine ⟨_, rfl, fits (by simp; omega), ?_⟩
   rintro _ rfl
   refine ⟨fits (by simp; omega), ?_⟩
   rintro _ rfl
   exact ⟨rfl, qb hB1 hb2 hB1.size⟩
 · rw [if_neg c3]
   exact ⟨rfl, hB1⟩
theorem zi {h : Hst} (o : h.ok) (hn : h.name.length <= 80000000) (w : World) : Calls prog qL #[h.v] w (Ret fun v w' => v = .bool (zd h) /\ Below w.heap.size w w') := by
 apply qam
 unfold jc
 have hxl := qgE o
 intro k1 w1 hk1 hw1
 have hB1 := (hw1 ▸ qf w _ : Below w.heap.size w w1)
 have h1 : qm w1 k1 qc h.cells := qm.new hk1 hw1
 refine ⟨_, qs.load0 h1 (Hst.len o), ?_⟩
 refine callK (qba o w1) ?_
 rintro _ w2 ⟨rfl, hb2⟩
 have hB2 := qb hB1 hb2 hB1.size
 refine ⟨_, rfl, ?_⟩
 refine callK (ref03_Parse_ok (qax h) (by omega) w2) ?_
 rintro _ w3 ⟨rfl, hb3⟩
 have hB3 := qb hB2 hb3 hB2.size
 refine ⟨_, _, by rw [qat], ?_⟩
 have hok : ((hostV (qax h)).getD hst0).ok := qcr fun x hx => jG hx
 refine qs.new (zs := hst0.cells) (cs := ((hostV (qax h)).getD hst0).cells) rfl (Hst.len hok) (Hst.one _) w3 fun k4 w4 hk4 h4 hb4 => ?_
 have hB4 := qb hB3 hb4 hB3.size
 have h14 := ((h1.below hb2).below hb3).below hb4
 unfold zd
 cases hv : hostV (qax h) with
 | none => exact BCase.no rfl ⟨rfl, hB4⟩
 | some g =>
   rw [hv] at h4 hok
   exact BCase.yes rfl ⟨_, qs.load0 h4 (Hst.len hok), _, qs.load0 h14 (Hst.len o), _, qdn hok o w4, rfl, hB4⟩
theorem qJ {h : Hst} (o : h.ok) (hn : h.name.length <= 80000000) (w : World) : Calls prog qB #[h.v] w (Ret (qeW h w)) := by
 apply j5
 unfold zH
 intro k1 w1 hk1 hw1
 have hB1 := (hw1 ▸ qf w _ : Below w.heap.size w w1)
 have h1 : qm w1 k1 qc h.cells := qm.new hk1 hw1
 have none_end : ∀ {wx : World}, ¬ (h.kind = 1 /\ zd h = true) -> Below w.heap.size w wx -> qeW h w (.slice none 0 0) wx := fun hc hb => ⟨none, 0, 0, rfl, by unfold qi; rw [if_neg hc]; exact Ow.nil _ _ _ _, qb9.none _, hb⟩
 refine worldJ (fun w' => (h.kind = 1 /\ zd h = true) /\ Below w1.heap.size w1 w') ⟨rfl, _, h1.load1 qN rfl rfl, ?_⟩ ?_
 · refine BCase.of (fun c => none_end (fun hc => ?_) hB1) (fun c => ?_)
   · rw [hc.1] at c; simp at c
   · have hk : h.kind = 1 := by simpa using c
     refine ⟨_, qs.load0 h1 (Hst.len o), ?_⟩
     refine callK (zi o hn w1) ?_
     rintro _ w2 ⟨rfl, hb2⟩
     refine ⟨_, rfl, BCase.of (fun c2 => none_end (fun hc => ?_) (qb hB1 hb2 hB1.size)) (fun c2 => ⟨⟨hk, by simpa using c2⟩, hb2⟩)⟩
     rw [hc.2] at c2; cases c2
 · rintro w2 ⟨hc, hb2⟩
   have hB2 := qb hB1 hb2 hB1.size
   refine ⟨rfl, _, (h1.below hb2).load1 un_string rfl rfl, ?_⟩
   refine callK (ja h.name 46 (by omega) w2) ?_
   rintro _ w3 ⟨a, n, c, rfl, ho, hf, hb3⟩
   exact ⟨_, _, _, rfl, _, _, _, rfl, by unfold qi; rw [if_pos hc]; exact ho, hf.mono hB2.size, qb hB2 hb3 hB2.size⟩
end Go.Proofs.YtndbpedpdbjkpaaGreatDoor
namespace Go.Pk
def qcV (h d : Hst) : Bool := if (qi h).length = 0 \/ (qi d).length = 0 then false else decide (d.name.length + 1 < h.name.length) && (h.name.drop (h.name.length - (d.name.length + 1)) == 46 :: d.name)
theorem zC {d : Hst} (o : d.ok) (hk : d.kind = 1) (hr : zd d = true) : d = ⟨1, d.name, ad0⟩ /\ lowL d.name = d.name /\ (cutC 46 [] d.name).all labelB = true /\ d.name.length <= 253 /\ zy (qid (cutC 46 [] d.name)) = false /\ hostV d.name = some d := by
 have hx : qax d = d.name := by unfold qax; rw [if_pos hk]
 unfold zd at hr
 rw [hx] at hr
 cases hv : hostV d.name with
 | none => rw [hv] at hr; cases hr
 | some g =>
   rw [hv] at hr
   obtain rfl := (j7 (jG hv) o).1 hr
   have hv' := hv
   unfold hostV at hv'
   split at hv'
   · split at hv'
     · have := qgL hv'; omega
     · cases hv'
   split at hv'
   · cases h4 : v4V g.name with
     | none => rw [h4] at hv'; cases hv'
     | some a =>
       rw [h4] at hv'
       have : g.kind = 2 := by rw [<- Option.some.inj hv']
       omega
   rename_i hd
   split at hv'
   · rename_i hc
     have e := Option.some.inj hv'
     have e2 : lowL g.name = g.name := congrArg Hst.name e
     rw [e2] at hc e hd
     exact ⟨e.symm, e2, hc.2, hc.1, by simpa using hd, rfl⟩
   · cases hv'
theorem za {d : Hst} (o : d.ok) (h : (qi d).length ≠ 0) : (d.kind = 1 /\ zd d = true) /\ qi d = cutC 46 [] d.name := by
 unfold qi at h ⊢
 split at h
 · rename_i hc; exact ⟨hc, by rw [if_pos hc]⟩
 · exact absurd rfl h
theorem qdg (c : UInt8) (A B : List (List UInt8)) (hA : A ≠ []) (hB : B ≠ []) : Lib.join (A ++ B) [c] = Lib.join A [c] ++ c :: Lib.join B [c] := by
 cases A with
 | nil => exact absurd rfl hA
 | cons x A =>
   cases B with
   | nil => exact absurd rfl hB
   | cons y B =>
     rw [List.cons_append, Lib.join_cons, Lib.join_cons, Lib.join_cons]
     unfold Lib.joinTail
     simp
theorem qbu {h d : Hst} (oh : h.ok) (od : d.ok) : qag h d = qcV h d := by
 unfold qag qcV
 by_cases hd0 : (qi d).length = 0
 · rw [if_pos (.inl hd0), if_pos (.inr hd0)]
 by_cases hh0 : (qi h).length = 0
 · rw [if_pos (.inr (by omega)), if_pos (.inl hh0)]
 rw [if_neg (show ¬ ((qi h).length = 0 \/ (qi d).length = 0) from fun h => h.elim hh0 hd0)]
 obtain ⟨⟨dk, dr⟩, dl⟩ := za od hd0
 obtain ⟨⟨hk, hr⟩, hl⟩ := za oh hh0
 obtain ⟨d1, -, d3, -, -, -⟩ := zC od dk dr
 obtain ⟨h1, -, h3, -, -, -⟩ := zC oh hk hr
 have hjh := jn 46 h.name []
 have hjd := jn 46 d.name []
 rw [List.nil_append] at hjh hjd
 rw [dl, hl]
 have hne := jD 46 h.name []
 have hpos : 0 < (cutC 46 [] h.name).length := List.length_pos_iff.2 hne
 have dpos : 0 < (cutC 46 [] d.name).length := List.length_pos_iff.2 (jD 46 d.name [])
 have eqn : ∀ x : List UInt8, j8 ⟨1, x, ad0⟩ d = (x == d.name) := fun x => by
   rw [Bool.eq_iff_iff, j7 (show (⟨1, x, ad0⟩ : Hst).ok from rfl) od, beq_iff_eq]
   constructor
   · intro e; exact congrArg Hst.name e
   · intro e; rw [d1]; simp [e]
 rw [eqn, Bool.eq_iff_iff]
 by_cases hlt : (cutC 46 [] h.name).length <= (cutC 46 [] d.name).length
 · rw [if_pos (show (cutC 46 [] d.name).length = 0 \/ (cutC 46 [] h.name).length <= (cutC 46 [] d.name).length from .inr hlt)]
   refine ⟨(fun h => by cases h), fun hx => ?_⟩
   rw [Bool.and_eq_true, dTx, beq_iff_eq] at hx
   exfalso
   have hs : h.name = h.name.take (h.name.length - (d.name.length + 1)) ++ 46 :: d.name := by rw [<- hx.2, List.take_append_drop]
   have hc := congrArg (fun s => (cutC 46 [] s).length) hs
   simp only [zw, List.length_append] at hc
   have : 0 < (cutC 46 [] (h.name.take (h.name.length - (d.name.length + 1)))).length := List.length_pos_iff.2 (jD 46 _ [])
   omega
 · rw [if_neg (show ¬ ((cutC 46 [] d.name).length = 0 \/ (cutC 46 [] h.name).length <= (cutC 46 [] d.name).length) from fun h => h.elim (fun h => by omega) hlt), beq_iff_eq, Bool.and_eq_true, dTx, beq_iff_eq]
   unfold qi0
   constructor
   · intro hj
     have hA : (cutC 46 [] h.name).take ((cutC 46 [] h.name).length - (cutC 46 [] d.name).length) ≠ [] := by
       intro e
       have := congrArg List.length e
       rw [List.length_take, List.length_nil] at this; omega
     have hB : (cutC 46 [] h.name).drop ((cutC 46 [] h.name).length - (cutC 46 [] d.name).length) ≠ [] := by
       intro e
       have := congrArg List.length e
       rw [List.length_drop, List.length_nil] at this; omega
     have ha := qdg 46 _ _ hA hB
     rw [List.take_append_drop, hjh, hj] at ha
     have hp : Lib.join ((cutC 46 [] h.name).take ((cutC 46 [] h.name).length - (cutC 46 [] d.name).length)) [46] ≠ [] := by
       cases hc : (cutC 46 [] h.name).take ((cutC 46 [] h.name).length - (cutC 46 [] d.name).length) with
       | nil => exact absurd hc hA
       | cons x A =>
         rw [Lib.join_cons]
         intro e
         have hx : x ∈ cutC 46 [] h.name := List.mem_of_mem_take (by rw [hc]; exact List.mem_cons_self)
         have := List.all_eq_true.1 h3 x hx
         rw [(List.append_eq_nil_iff.1 e).1] at this
         cases this
     generalize Lib.join ((cutC 46 [] h.name).take ((cutC 46 [] h.name).length - (cutC 46 [] d.name).length)) [46] = p at *
     have hpl : 0 < p.length := List.length_pos_iff.2 hp
     have hlen := congrArg List.length ha
     rw [List.length_append, List.length_cons] at hlen
     refine ⟨by omega, ?_⟩
     rw [show h.name.length - (d.name.length + 1) = p.length by omega, ha]
     simp
   · rintro ⟨hl', hdr⟩
     have hs : h.name = h.name.take (h.name.length - (d.name.length + 1)) ++ 46 :: d.name := by rw [<- hdr, List.take_append_drop]
     have hc : cutC 46 [] h.name = cutC 46 [] (h.name.take (h.name.length - (d.name.length + 1))) ++ cutC 46 [] d.name := by
       conv => lhs; rw [hs]
       exact zw 46 _ _ _
     rw [hc, List.length_append, Nat.add_sub_cancel, List.drop_left]
     exact hjd
end Go.Pk
namespace Go.Proofs.YtndbpedpdbjkpaaGreatDoor
open Go.Pk
open Go.RowKit (Below)
theorem jH {h d : Hst} (oh : h.ok) (od : d.ok) (hn : h.name.length <= 80000000) (dn : d.name.length <= 80000000) (w : World) : Calls prog ze #[h.v, d.v] w (Ret fun v w' => v = .bool (qag h d) /\ Below w.heap.size w w') := by
 rw [qbu oh od]
 apply qal
 unfold jd
 intro k2 w2 hk2 hw2
 have hB2 := (hw2 ▸ qf w _ : Below w.heap.size w w2)
 have h2 : qm w2 k2 qc h.cells := qm.new hk2 hw2
 intro k3 w3 hk3 hw3
 have hb3 := (hw3 ▸ qf w2 _ : Below w2.heap.size w2 w3)
 have hB3 := qb hB2 hb3 hB2.size
 have h3 : qm w3 k3 qc d.cells := qm.new hk3 hw3
 have h23 := h2.below hb3
 have u : qcV h d = if (qi h).length = 0 \/ (qi d).length = 0 then false else decide (d.name.length + 1 < h.name.length) && (h.name.drop (h.name.length - (d.name.length + 1)) == 46 :: d.name) := rfl
 refine worldJ (fun w' => ¬ ((qi h).length = 0 \/ (qi d).length = 0) /\ Below w3.heap.size w3 w') ?_ ?_
 · refine ⟨_, qs.load0 h23 (Hst.len oh), ?_⟩
   refine callK (qJ oh hn w3) ?_
   rintro _ w4 ⟨a, l, c, rfl, ho, -, hb4⟩
   have hB4 := qb hB3 hb4 hB3.size
   refine ⟨_, _, _, rfl, ?_⟩
   rw [ho.len]
   refine BCase.of (fun c1 => ⟨?_, hB4⟩) (fun c1 => ?_)
   · rw [u, if_pos (.inl (by simp at c1; simp [c1]))]
   refine ⟨_, qs.load0 (h3.below hb4) (Hst.len od), ?_⟩
   refine callK (qJ od dn w4) ?_
   rintro _ w5 ⟨a5, l5, c5, rfl, ho5, -, hb5⟩
   have hB5 := qb hB4 hb5 hB4.size
   refine ⟨_, _, _, rfl, ?_⟩
   rw [ho5.len]
   refine BCase.of (fun c2 => ⟨?_, hB5⟩) (fun c2 => ⟨?_, qb hb4 hb5 hb4.size⟩)
   · rw [u, if_pos (.inr (by simp at c2; simp [c2]))]
   · simp at c1 c2
     rintro (hx | hx)
     · exact c1 (List.length_eq_zero_iff.1 hx)
     · exact c2 (List.length_eq_zero_iff.1 hx)
 · rintro w4 ⟨hc, hb4⟩
   have hB4 := qb hB3 hb4 hB3.size
   have l2 := (h23.below hb4).load1 (P := prog) (i := 1) (v := .string (mkS h.name)) un_string rfl rfl
   refine ⟨rfl, _, (h3.below hb4).load1 un_string rfl rfl, fits (by simp; omega), ?_⟩
   rintro _ rfl
   refine ⟨rfl, _, l2, ?_⟩
   rw [u, if_neg hc]
   refine BCase.of (fun c1 => ?_) (fun c1 => ⟨?_, hB4⟩)
   · have hl : d.name.length + 1 < h.name.length := by simp at c1; omega
     have e : i64.wrap (((h.name.length : Nat) : Int) - ((([46] ++ d.name).length : Nat) : Int)) = ((h.name.length - (d.name.length + 1) : Nat) : Int) := by
       rw [wrap_i64 (by simp; omega) (by simp; omega)]; simp; omega
     refine ⟨rfl, _, l2, rfl, _, l2, ?_⟩
     rw [e]
     simp only [Int.toNat_natCast]
     refine ⟨⟨by omega, by omega⟩, ?_⟩
     rintro _ rfl
     rw [decide_eq_true hl, Bool.true_and]
     exact ⟨rfl, hB4⟩
   · have : ¬ d.name.length + 1 < h.name.length := by simp at c1; omega
     rw [decide_eq_false this, Bool.false_and]
end Go.Proofs.YtndbpedpdbjkpaaGreatDoor
set_option maxRecDepth 100000
namespace Go.Proofs.YtndbpedpdbjkpaaGreatDoor
open Go.Pk
open Go.RowKit (Below)
--  cracknel/cracknelref09.Domain
def zE (s0 : List UInt8) (w : World) (K : Value -> World -> Prop) : Prop :=
 Calls prog qO #[.string (mkS s0), .string (mkS [95, 95, 115, 101, 99, 117, 114, 101, 45])] w fun e4 w4 => ∃ b4, e4 = .returned (.bool b4) /\
 BCase b4
 (K (.int .i64 (1 : Int)) w4)
 (Calls prog qO #[.string (mkS s0), .string (mkS [95, 95, 104, 111, 115, 116, 45])] w4 fun e6 w6 => ∃ b6, e6 = .returned (.bool b6) /\
 BCase b6
 (K (.int .i64 (2 : Int)) w6)
 (K (.int .i64 (0 : Int)) w6))
theorem j6 (s0 : List UInt8) {w : World} {K : Value -> World -> Prop} (h : zE s0 w K) : Calls prog qT #[.string (mkS s0)] w (Ret K) :=
 qo (c := qr Tryz.f41) (by kernel_rfl) Tryz.func41 (by kernel_rfl) [] [.string (mkS s0)] (of_decide_eq_true (by kernel_rfl)) _ (by kernel_rfl) h

--  cracknel/cracknelref06.Public
def jR (a0 : Option Addr) (l0 c0 : Nat) (v1 : Value) (w : World) (K : Value -> World -> Prop) : Prop :=
 ∀ k3 w3, k3 = w.heap.size -> w3 = w.alloc (.cells (Value.cells v1) qc) ->
 ∃ v6, Ld qc (some ⟨k3, 0, none⟩) w3 v6 /\
 Calls prog qB #[v6] w3 fun e7 w7 => ∃ a7 l7 c7, e7 = .returned (.slice a7 l7 c7) /\
 BCase (decide (((l7 : Nat) : Int) > (0 : Int)))
 (∃ v13, Ld qc (some ⟨k3, 0, none⟩) w7 v13 /\
 Calls prog zX #[.slice a0 l0 c0, v13] w7 fun e14 w14 => ∃ n14, e14 = .returned (.int .i64 n14) /\
 K (.bool (n14 == ((l7 : Nat) : Int))) w14)
 (K (.bool false) w7)
theorem qbm (a0 : Option Addr) (l0 c0 : Nat) (v1 : Value) {w : World} {K : Value -> World -> Prop} (h : jR a0 l0 c0 v1 w K) : Calls prog zg #[.slice a0 l0 c0, v1] w (Ret K) :=
 qo (c := qr Tryz.f42) (by kernel_rfl) Tryz.func42 (by kernel_rfl) [] [.slice a0 l0 c0, v1] (of_decide_eq_true (by kernel_rfl)) _ (by kernel_rfl) h

--  cracknel/cracknelref09.Sends
def zL (s0 : List UInt8) (s1 : List UInt8) (w : World) (K : Value -> World -> Prop) : Prop :=
 BCase (decide (((List.length s0 : Nat) : Int) >= ((List.length s1 : Nat) : Int)))
 (((0 <= ((List.length s1 : Nat) : Int) /\ ((List.length s1 : Nat) : Int) <= (((List.length s0) : Nat) : Int))) /\
 ∀ s14, s14 = (List.take (Int.toNat ((List.length s1 : Nat) : Int)) s0) ->
 Calls prog jg #[.string (mkS s14)] w fun e15 w15 => ∃ s15, e15 = .returned (.string (mkS s15)) /\
 K (.bool (s15 == s1)) w15)
 (K (.bool false) w)
theorem j4 (s0 : List UInt8) (s1 : List UInt8) {w : World} {K : Value -> World -> Prop} (h : zL s0 s1 w K) : Calls prog qO #[.string (mkS s0), .string (mkS s1)] w (Ret K) :=
 qo (c := qr Tryz.f90) (by kernel_rfl) Tryz.func90 (by kernel_rfl) [] [.string (mkS s0), .string (mkS s1)] (of_decide_eq_true (by kernel_rfl)) _ (by kernel_rfl) h

--  cracknel/cracknelref06.Suffix
def jM (a0 : Option Addr) (l0 c0 : Nat) (v1 : Value) (w : World) (K : Value -> World -> Prop) : Prop :=
 ∀ k3 w3, k3 = w.heap.size -> w3 = w.alloc (.cells (Value.cells v1) qc) ->
 ∃ v12, Ld qc (some ⟨k3, 0, none⟩) w3 v12 /\
 Calls prog qB #[v12] w3 fun e13 w13 => ∃ a13 l13 c13, e13 = .returned (.slice a13 l13 c13) /\
 BCase (((l13 : Nat) : Int) == (0 : Int))
 (K (.int .i64 (0 : Int)) w13)
 (∃ I : Nat -> FP [.one (.int .i64), .one (.int .i64), .one (.int .i64)],
 (∃ m, I m (1 : Int) (0 : Int) (0 : Int) w13) /\
 ∀ m n5 n6 n18, AllJ 60 (∀ wl, I m n5 n6 n18 wl ->
 BCase (decide (n18 < ((l0 : Nat) : Int)))
 (((0 <= n18 /\ n18 < ((l0 : Nat) : Int)) /\ Option.isSome a0 = true) /\
 ∃ n21_0 s21_1, Ld ql (qn a0 n18 2) wl (.agg #[.int .i64 n21_0, .string (mkS s21_1)]) /\
 ∀ k8 w8, k8 = wl.heap.size -> w8 = wl.alloc (.cells #[.int .i64 (0 : Int), .string (mkS [])] ql) ->
 ∃ wx, Sv ql (some ⟨k8, 0, none⟩) (.agg #[.int .i64 n21_0, .string (mkS s21_1)]) w8 wx /\
 ∃ n22_0 s22_1, Ld ql (some ⟨k8, 0, none⟩) wx (.agg #[.int .i64 n22_0, .string (mkS s22_1)]) /\
 Calls prog jq #[.agg #[.int .i64 n22_0, .string (mkS s22_1)]] wx fun e23 w23 => ∃ b23, e23 = .returned (.bool b23) /\
 BCase (!b23)
 (∃ m' : Nat, m' < m /\ I m' n5 n6 (i64.wrap (n18 + (1 : Int))) w23)
 ((true = true) /\
 ∃ s26, Ld qe (some ⟨k8, 1, none⟩) w23 (.string (mkS s26)) /\
 Calls prog zO #[.string (mkS s26), .int .u8 (46 : Int)] w23 fun e27 w27 => ∃ a27 l27 c27, e27 = .returned (.slice a27 l27 c27) /\
 (true = true) /\
 ∃ s30, Ld qe (some ⟨k8, 1, none⟩) w27 (.string (mkS s30)) /\
 ∀ k10 w10, k10 = w27.heap.size -> w10 = w27.alloc (.cells qK qc) ->
 ∃ wx_1, Sv qc (some ⟨k10, 0, none⟩) (.agg #[.int .i64 (1 : Int), .string (mkS s30), .int .u8 (0 : Int), .int .u8 (0 : Int), .int .u8 (0 : Int), .int .u8 (0 : Int), .int .u8 (0 : Int), .int .u8 (0 : Int), .int .u8 (0 : Int), .int .u8 (0 : Int), .int .u8 (0 : Int), .int .u8 (0 : Int), .int .u8 (0 : Int), .int .u8 (0 : Int), .int .u8 (0 : Int), .int .u8 (0 : Int), .int .u8 (0 : Int), .int .u8 (0 : Int)]) w10 wx_1 /\
 ∃ v32, Ld qc (some ⟨k3, 0, none⟩) wx_1 v32 /\
 ∃ v33, Ld qc (some ⟨k10, 0, none⟩) wx_1 v33 /\
 Calls prog ze #[v32, v33] wx_1 fun e34 w34 => ∃ b34, e34 = .returned (.bool b34) /\
 ∃ J : FP [.one (.int .i64)],
 (∃ J_1 : FP [.one (.bool)],
 ((true = true) /\
 ∃ n36, Ld qx (some ⟨k8, 0, none⟩) w34 (.int .i64 n36) /\
 BCase (n36 == (1 : Int))
 (BCase b34
 (J_1 true w34)
 (∃ v41, Ld qc (some ⟨k3, 0, none⟩) w34 v41 /\
 ∃ v42, Ld qc (some ⟨k10, 0, none⟩) w34 v42 /\
 ∃ b43, ((do eqGuard .eql qc (.tmp 41) (.tmp 42) v41 v42; binOp .eql qc v41 v42 : Sem Value)).run prog w34 = .ok (.bool b43) w34 /\
 J_1 b43 w34))
 (J_1 false w34)) /\
 ∀ b45, AllJ 10 (∀ wj, J_1 b45 wj ->
 BCase b45
 (∃ n48, (Builtin.max_ #[qx, qx] qx #[.int .i64 n5, .int .i64 ((l27 : Nat) : Int)]).run prog wj = .ok (.int .i64 n48) wj /\
 J n48 wj)
 (J n5 wj))) /\
 ∀ n5_1, AllJ 14 (∀ wj_1, J n5_1 wj_1 ->
 ∃ J_2 : FP [.one (.int .i64)],
 (∃ J_3 : FP [.one (.bool)],
 ((true = true) /\
 ∃ n50, Ld qx (some ⟨k8, 0, none⟩) wj_1 (.int .i64 n50) /\
 BCase (n50 == (2 : Int))
 (J_3 b34 wj_1)
 (J_3 false wj_1)) /\
 ∀ b54, AllJ 5 (∀ wj_2, J_3 b54 wj_2 ->
 BCase b54
 (∃ n58, (Builtin.max_ #[qx, qx] qx #[.int .i64 n5_1, .int .i64 (i64.wrap (((l27 : Nat) : Int) + (1 : Int)))]).run prog wj_2 = .ok (.int .i64 n58) wj_2 /\
 J_2 n58 wj_2)
 (J_2 n5_1 wj_2))) /\
 ∀ n5_2, AllJ 10 (∀ wj_3, J_2 n5_2 wj_3 ->
 ∃ J_4 : FP [.one (.bool)],
 ((true = true) /\
 ∃ n60, Ld qx (some ⟨k8, 0, none⟩) wj_3 (.int .i64 n60) /\
 BCase (n60 == (3 : Int))
 (BCase b34
 (J_4 true wj_3)
 (∃ v65, Ld qc (some ⟨k3, 0, none⟩) wj_3 v65 /\
 ∃ v66, Ld qc (some ⟨k10, 0, none⟩) wj_3 v66 /\
 ∃ b67, ((do eqGuard .eql qc (.tmp 65) (.tmp 66) v65 v66; binOp .eql qc v65 v66 : Sem Value)).run prog wj_3 = .ok (.bool b67) wj_3 /\
 J_4 b67 wj_3))
 (J_4 false wj_3)) /\
 ∀ b69, AllJ 10 (∀ wj_4, J_4 b69 wj_4 ->
 BCase b69
 (∃ n73, (Builtin.max_ #[qx, qx] qx #[.int .i64 n6, .int .i64 (i64.wrap (((l27 : Nat) : Int) - (1 : Int)))]).run prog wj_4 = .ok (.int .i64 n73) wj_4 /\
 ∃ m' : Nat, m' < m /\ I m' n5_2 n73 (i64.wrap (n18 + (1 : Int))) wj_4)
 (∃ m' : Nat, m' < m /\ I m' n5_2 n6 (i64.wrap (n18 + (1 : Int))) wj_4))))))
 (BCase (decide (n6 > (0 : Int)))
 (K (.int .i64 n6) wl)
 (K (.int .i64 n5) wl))))
theorem qbo (a0 : Option Addr) (l0 c0 : Nat) (v1 : Value) {w : World} {K : Value -> World -> Prop} (h : jM a0 l0 c0 v1 w K) : Calls prog zX #[.slice a0 l0 c0, v1] w (Ret K) :=
 qo (c := qr Tryz.f91) (by kernel_rfl) Tryz.func91 (by kernel_rfl) [(18, [(5, .one (.int .i64)), (6, .one (.int .i64)), (18, .one (.int .i64))]), (41, [(5, .one (.int .i64))]), (42, [(45, .one (.bool))]), (47, [(5, .one (.int .i64))]), (48, [(54, .one (.bool))]), (53, [(69, .one (.bool))])] [.slice a0 l0 c0, v1] (of_decide_eq_true (by kernel_rfl)) _ (by kernel_rfl) h

--  cracknel/cracknelref09.Path
def qad (n0_0 : Int) (s0_1 : List UInt8) (w : World) (K : Value -> World -> Prop) : Prop :=
 ∀ k1 w1, k1 = w.heap.size -> w1 = w.alloc (.cells #[.int .i64 n0_0, .string (mkS s0_1)] ql) ->
 ∃ n7_0 s7_1, Ld ql (some ⟨k1, 0, none⟩) w1 (.agg #[.int .i64 n7_0, .string (mkS s7_1)]) /\
 Calls prog jN #[.agg #[.int .i64 n7_0, .string (mkS s7_1)]] w1 fun e8 w8 => ∃ s8, e8 = .returned (.string (mkS s8)) /\
 Calls prog jS #[.string (mkS s8)] w8 fun e9 w9 => ∃ n9_0_0 s9_0_1 b9_1 n9_2, e9 = .returned (.tuple #[.agg #[.int .i64 n9_0_0, .string (mkS s9_0_1)], .bool b9_1, .int .i64 n9_2]) /\
 ∀ k3 w3, k3 = w9.heap.size -> w3 = w9.alloc (.cells #[.int .i64 (0 : Int), .string (mkS [])] ql) ->
 ∃ wx, Sv ql (some ⟨k3, 0, none⟩) (.agg #[.int .i64 n9_0_0, .string (mkS s9_0_1)]) w3 wx /\
 BCase (n9_2 == (0 : Int))
 (BCase b9_1
 (∃ n19_0 s19_1, Ld ql (some ⟨k3, 0, none⟩) wx (.agg #[.int .i64 n19_0, .string (mkS s19_1)]) /\
 ∃ n20_0 s20_1, Ld ql (some ⟨k1, 0, none⟩) wx (.agg #[.int .i64 n20_0, .string (mkS s20_1)]) /\
 ∃ b21, ((do eqGuard .eql ql (.tmp 19) (.tmp 20) (.agg #[.int .i64 n19_0, .string (mkS s19_1)]) (.agg #[.int .i64 n20_0, .string (mkS s20_1)]); binOp .eql ql (.agg #[.int .i64 n19_0, .string (mkS s19_1)]) (.agg #[.int .i64 n20_0, .string (mkS s20_1)]) : Sem Value)).run prog wx = .ok (.bool b21) wx /\
 K (.bool b21) wx)
 (K (.bool false) wx))
 (K (.bool false) wx)
theorem qbO (n0_0 : Int) (s0_1 : List UInt8) {w : World} {K : Value -> World -> Prop} (h : qad n0_0 s0_1 w K) : Calls prog jq #[.agg #[.int .i64 n0_0, .string (mkS s0_1)]] w (Ret K) :=
 qo (c := qr Tryz.f156) (by kernel_rfl) Tryz.func156 (by kernel_rfl) [] [.agg #[.int .i64 n0_0, .string (mkS s0_1)]] (of_decide_eq_true (by kernel_rfl)) _ (by kernel_rfl) h

--  cracknel/url.Path
def qaH (s0 : List UInt8) (w : World) (K : Value -> World -> Prop) : Prop :=
 ∀ k2 w2, k2 = w.heap.size -> w2 = w.alloc (.cells #[.int .i64 (0 : Int), .string (mkS [])] ql) ->
 Calls prog qa6 #[.string (mkS s0)] w2 fun e10 w10 => ∃ s10, e10 = .returned (.string (mkS s10)) /\
 ∃ J : FP [],
 (∃ J_1 : FP [.one (.bool)],
 (BCase (s10 == [])
 (J_1 true w10)
 (Calls prog qW #[.string (mkS s10), .string (mkS [47, 47])] w10 fun e15 w15 => ∃ b15, e15 = .returned (.bool b15) /\
 J_1 b15 w15)) /\
 ∀ b16, AllJ 5 (∀ wj, J_1 b16 wj ->
 BCase b16
 (∃ wx, Sv ql (some ⟨k2, 0, none⟩) (.agg #[.int .i64 (0 : Int), .string (mkS [])]) wj wx /\
 ∃ nr0_0 sr0_1, (qC ql (.pointer (some ⟨k2, 0, none⟩))).run prog wx = .ok (.agg #[.int .i64 nr0_0, .string (mkS sr0_1)]) wx /\
 K (.tuple #[.agg #[.int .i64 nr0_0, .string (mkS sr0_1)], .bool false, .int .i64 (0 : Int)]) wx)
 (J wj))) /\
 AllJ 9 (∀ wj_1, J wj_1 ->
 ∃ I : Nat -> FP [.one (.str), .one (.int .i64)],
 (∃ m, I m s10 (0 : Int) wj_1) /\
 ∀ m s0_1 n5, AllJ 19 (∀ wl, I m s0_1 n5 wl ->
 BCase (decide (n5 < ((List.length s0_1 : Nat) : Int)))
 (∃ J_2 : FP [.one (.bool)],
 (((0 <= n5 /\ n5 < ((List.length s0_1 : Nat) : Int))) /\
 BCase ((qA s0_1 n5) == (32 : Int))
 (J_2 true wl)
 (((0 <= n5 /\ n5 < ((List.length s0_1 : Nat) : Int))) /\
 J_2 ((qA s0_1 n5) == (9 : Int)) wl)) /\
 ∀ b33, AllJ 9 (∀ wj_2, J_2 b33 wj_2 ->
 BCase b33
 (((0 <= n5 /\ n5 <= (((List.length s0_1) : Nat) : Int))) /\
 ∀ s36, s36 = (List.take (Int.toNat n5) s0_1) ->
 ∃ m' : Nat, m' < m /\ I m' s36 (i64.wrap (n5 + (1 : Int))) wj_2)
 (∃ m' : Nat, m' < m /\ I m' s0_1 (i64.wrap (n5 + (1 : Int))) wj_2)))
 (∀ k6 w6, k6 = wl.heap.size -> w6 = wl.alloc (.cells #[.int .i64 (0 : Int), .string (mkS [])] ql) ->
 ∃ wx_1, Sv ql (some ⟨k6, 0, none⟩) (.agg #[.int .i64 (1 : Int), .string (mkS [])]) w6 wx_1 /\
 ∃ J_3 : FP [.one (.str)],
 (Calls prog qW #[.string (mkS s0_1), .string (mkS [33])] wx_1 fun e39 w39 => ∃ b39, e39 = .returned (.bool b39) /\
 BCase b39
 ((true = true) /\
 ∃ wx_2, Sv qx (some ⟨k6, 0, none⟩) (.int .i64 (3 : Int)) w39 wx_2 /\
 ((0 <= (1 : Int) /\ (1 : Int) <= (((List.length s0_1) : Nat) : Int))) /\
 ∀ s42, s42 = (List.drop (Int.toNat (1 : Int)) s0_1) ->
 J_3 s42 wx_2)
 (Calls prog qW #[.string (mkS s0_1), .string (mkS [42, 46])] w39 fun e44 w44 => ∃ b44, e44 = .returned (.bool b44) /\
 BCase b44
 ((true = true) /\
 ∃ wx_3, Sv qx (some ⟨k6, 0, none⟩) (.int .i64 (2 : Int)) w44 wx_3 /\
 ((0 <= (2 : Int) /\ (2 : Int) <= (((List.length s0_1) : Nat) : Int))) /\
 ∀ s47, s47 = (List.drop (Int.toNat (2 : Int)) s0_1) ->
 J_3 s47 wx_3)
 (J_3 s0_1 w44))) /\
 ∀ s0_2, AllJ 10 (∀ wj_3, J_3 s0_2 wj_3 ->
 Calls prog jh #[.string (mkS s0_2)] wj_3 fun e50 w50 => ∃ v50_0 n50_1, e50 = .returned (.tuple #[v50_0, .int .i64 n50_1]) /\
 ∀ k7 w7, k7 = w50.heap.size -> w7 = w50.alloc (.cells qK qc) ->
 ∃ wx_4, Sv qc (some ⟨k7, 0, none⟩) v50_0 w7 wx_4 /\
 ∃ J_4 : FP [],
 (∃ J_5 : FP [.one (.bool)],
 (BCase (n50_1 != (0 : Int))
 (J_5 true wx_4)
 ((true = true) /\
 ∃ n57, Ld qx (some ⟨k7, 0, none⟩) wx_4 (.int .i64 n57) /\
 BCase (n57 != (1 : Int))
 (J_5 true wx_4)
 ((true = true) /\
 ∃ n62, Ld qx (some ⟨k6, 0, none⟩) wx_4 (.int .i64 n62) /\
 BCase (n62 == (3 : Int))
 (∃ v65, Ld qc (some ⟨k7, 0, none⟩) wx_4 v65 /\
 Calls prog qB #[v65] wx_4 fun e66 w66 => ∃ a66 l66 c66, e66 = .returned (.slice a66 l66 c66) /\
 J_5 (decide (((l66 : Nat) : Int) < (2 : Int))) w66)
 (J_5 false wx_4)))) /\
 ∀ b70, AllJ 17 (∀ wj_4, J_5 b70 wj_4 ->
 BCase b70
 (∃ wx_5, Sv ql (some ⟨k2, 0, none⟩) (.agg #[.int .i64 (0 : Int), .string (mkS [])]) wj_4 wx_5 /\
 ∃ nr0_0_1 sr0_1_1, (qC ql (.pointer (some ⟨k2, 0, none⟩))).run prog wx_5 = .ok (.agg #[.int .i64 nr0_0_1, .string (mkS sr0_1_1)]) wx_5 /\
 K (.tuple #[.agg #[.int .i64 nr0_0_1, .string (mkS sr0_1_1)], .bool false, .int .i64 (51 : Int)]) wx_5)
 (J_4 wj_4))) /\
 AllJ 21 (∀ wj_5, J_4 wj_5 ->
 (true = true) /\
 ∃ s73, Ld qe (some ⟨k7, 1, none⟩) wj_5 (.string (mkS s73)) /\
 (true = true) /\
 ∃ wx_6, Sv qe (some ⟨k6, 1, none⟩) (.string (mkS s73)) wj_5 wx_6 /\
 ∃ n75_0 s75_1, Ld ql (some ⟨k6, 0, none⟩) wx_6 (.agg #[.int .i64 n75_0, .string (mkS s75_1)]) /\
 ∃ wx_7, Sv ql (some ⟨k2, 0, none⟩) (.agg #[.int .i64 n75_0, .string (mkS s75_1)]) wx_6 wx_7 /\
 ∃ nr0_0_2 sr0_1_2, (qC ql (.pointer (some ⟨k2, 0, none⟩))).run prog wx_7 = .ok (.agg #[.int .i64 nr0_0_2, .string (mkS sr0_1_2)]) wx_7 /\
 K (.tuple #[.agg #[.int .i64 nr0_0_2, .string (mkS sr0_1_2)], .bool true, .int .i64 (0 : Int)]) wx_7)))))
theorem qco (s0 : List UInt8) {w : World} {K : Value -> World -> Prop} (h : qaH s0 w K) : Calls prog jS #[.string (mkS s0)] w (Ret K) :=
 qo (c := qr Tryz.f216) (by kernel_rfl) Tryz.func216 (by kernel_rfl) [(4, []), (5, [(16, .one (.bool))]), (16, [(0, .one (.str)), (5, .one (.int .i64))]), (25, [(33, .one (.bool))]), (33, [(0, .one (.str))]), (49, []), (50, [(70, .one (.bool))])] [.string (mkS s0)] (of_decide_eq_true (by kernel_rfl)) _ (by kernel_rfl) h

--  cracknel/cracknelref05.Text
def qaz (n0_0 : Int) (s0_1 : List UInt8) (w : World) (K : Value -> World -> Prop) : Prop :=
 ∀ k1 w1, k1 = w.heap.size -> w1 = w.alloc (.cells #[.int .i64 n0_0, .string (mkS s0_1)] ql) ->
 (true = true) /\
 ∃ n4, Ld qx (some ⟨k1, 0, none⟩) w1 (.int .i64 n4) /\
 BCase (n4 == (2 : Int))
 ((true = true) /\
 ∃ s7, Ld qe (some ⟨k1, 1, none⟩) w1 (.string (mkS s7)) /\
 ((((List.length [42, 46] + List.length s7 : Nat) : Int) <= i64.max)) /\
 ∀ s8, s8 = ([42, 46] ++ s7) ->
 K (.string (mkS s8)) w1)
 ((true = true) /\
 ∃ n10, Ld qx (some ⟨k1, 0, none⟩) w1 (.int .i64 n10) /\
 BCase (n10 == (3 : Int))
 ((true = true) /\
 ∃ s13, Ld qe (some ⟨k1, 1, none⟩) w1 (.string (mkS s13)) /\
 ((((List.length [33] + List.length s13 : Nat) : Int) <= i64.max)) /\
 ∀ s14, s14 = ([33] ++ s13) ->
 K (.string (mkS s14)) w1)
 ((true = true) /\
 ∃ s16, Ld qe (some ⟨k1, 1, none⟩) w1 (.string (mkS s16)) /\
 K (.string (mkS s16)) w1))
theorem qch (n0_0 : Int) (s0_1 : List UInt8) {w : World} {K : Value -> World -> Prop} (h : qaz n0_0 s0_1 w K) : Calls prog jN #[.agg #[.int .i64 n0_0, .string (mkS s0_1)]] w (Ret K) :=
 qo (c := qr Tryz.f217) (by kernel_rfl) Tryz.func217 (by kernel_rfl) [] [.agg #[.int .i64 n0_0, .string (mkS s0_1)]] (of_decide_eq_true (by kernel_rfl)) _ (by kernel_rfl) h

--  cracknel/cracknelref05.begins
def jV (s0 : List UInt8) (s1 : List UInt8) (w : World) (K : Value -> World -> Prop) : Prop :=
 BCase (decide (((List.length s0 : Nat) : Int) >= ((List.length s1 : Nat) : Int)))
 (((0 <= ((List.length s1 : Nat) : Int) /\ ((List.length s1 : Nat) : Int) <= (((List.length s0) : Nat) : Int))) /\
 ∀ s14, s14 = (List.take (Int.toNat ((List.length s1 : Nat) : Int)) s0) ->
 K (.bool (s14 == s1)) w)
 (K (.bool false) w)
theorem qbj (s0 : List UInt8) (s1 : List UInt8) {w : World} {K : Value -> World -> Prop} (h : jV s0 s1 w K) : Calls prog qW #[.string (mkS s0), .string (mkS s1)] w (Ret K) :=
 qo (c := qr Tryz.f263) (by kernel_rfl) Tryz.func263 (by kernel_rfl) [] [.string (mkS s0), .string (mkS s1)] (of_decide_eq_true (by kernel_rfl)) _ (by kernel_rfl) h
end Go.Proofs.YtndbpedpdbjkpaaGreatDoor
set_option maxRecDepth 20000
namespace Go.Pk
open Go.RowKit (Below)
theorem qi5 {c : Cky} (o : c.ok) {j : Nat} (h : j < 18) : c.cells[2 + j]? = c.host.cells[j]? := by
 unfold Cky.cells
 rw [show 2 + j = j + 1 + 1 by omega, List.getElem?_cons_succ, List.getElem?_cons_succ, List.getElem?_append_left (by rw [Hst.len o]; exact h)]
theorem jo {c : Cky} (o : c.ok) (j : Nat) : c.cells[20 + j]? = c.tail[j]? := by
 unfold Cky.cells
 rw [show 20 + j = (18 + j) + 1 + 1 by omega, List.getElem?_cons_succ, List.getElem?_cons_succ, List.getElem?_append_right (by rw [Hst.len o]; omega), Hst.len o]
 congr 1; omega
end Go.Pk

namespace Go.Pk
open Go.RowKit (Below)
theorem qmc (s : List UInt8) (a b : UInt8) (h : Lib.hasPrefix s [a, b] = true) : s.head? = some a := by
 cases s with
 | nil => cases h
 | cons x r =>
   unfold Lib.hasPrefix at h
   simp [List.isPrefixOf] at h
   rw [h.1]; rfl
theorem qge (u : List UInt8) : qcF u = if Lib.hasPrefix u [33] = true then (3, u.drop 1) else if Lib.hasPrefix u [42, 46] = true then (2, u.drop 2) else (1, u) := by
 unfold qcF
 by_cases h1 : Lib.hasPrefix u [42, 46] = true
 · rw [if_pos h1]
   have h2 := qmc _ _ _ h1
   have h3 : Lib.hasPrefix u [33] = false := by rw [(qfq u 33).1, h2]; decide
   rw [if_neg (by rw [h3]; decide), if_pos h1]
 · rw [if_neg h1]
   by_cases h2 : Lib.hasPrefix u [33] = true
   · rw [if_pos h2, if_pos h2]
   · rw [if_neg h2, if_neg h2, if_neg h1]
end Go.Pk
namespace Go.Proofs.YtndbpedpdbjkpaaGreatDoor
open Go.Pk
open Go.RowKit (Below)
theorem zI (s p : List UInt8) (w : World) : Calls prog qW #[.string (mkS s), .string (mkS p)] w (Ret fun v w' => v = .bool (Lib.hasPrefix s p) /\ w' = w) := by
 apply qbj
 unfold jV
 rw [<- Lib.hasPrefix_of_take]
 refine BCase.of (fun h => ?_) (fun h => ⟨?_, rfl⟩) <;> simp only [ge_iff_le, dTx, dFx] at h
 · refine ⟨⟨by omega, h⟩, ?_⟩
   rintro _ rfl
   rw [Int.toNat_natCast, decide_eq_true (p := p.length <= s.length) (by omega), Bool.true_and]
   exact ⟨rfl, rfl⟩
 · rw [decide_eq_false (p := p.length <= s.length) (by omega), Bool.false_and]
theorem qcD (r : Rul) (hr : r.2.length <= 4611686018427387904) (w : World) : Calls prog jN #[rulV r] w (Ret fun v w' => v = .string (mkS (ruleX r)) /\ Below w.heap.size w w') := by
 obtain ⟨k, n⟩ := r
 apply qch
 unfold qaz
 intro k1 w1 hk1 hw1
 have hB1 := (hw1 ▸ qf w _ : Below w.heap.size w w1)
 have h1 : qm w1 k1 ql (rulC (k, n)) := qm.new hk1 hw1
 have lk := h1.load1 (P := prog) (i := 0) qN rfl rfl
 have ln := h1.load1 (P := prog) (i := 1) un_string rfl rfl
 simp at hr
 refine ⟨rfl, _, lk, BCase.of (fun c => ?_) (fun c => ?_)⟩
 · refine ⟨rfl, _, ln, fits (by simp; omega), ?_⟩
   rintro _ rfl
   exact ⟨by unfold ruleX markL; rw [if_pos (eq_of_beq c)], hB1⟩
 refine ⟨rfl, _, lk, BCase.of (fun c2 => ?_) (fun c2 => ?_)⟩
 · refine ⟨rfl, _, ln, fits (by simp; omega), ?_⟩
   rintro _ rfl
   exact ⟨by unfold ruleX markL; rw [if_neg (beq_eq_false_iff_ne.1 c), if_pos (eq_of_beq c2)], hB1⟩
 · exact ⟨rfl, _, ln, by unfold ruleX markL; rw [if_neg (beq_eq_false_iff_ne.1 c), if_neg (beq_eq_false_iff_ne.1 c2)]; rfl, hB1⟩
end Go.Proofs.YtndbpedpdbjkpaaGreatDoor
namespace Go.Pk
open Go.RowKit (Below)
theorem qkY {t : List UInt8} (h : t.all (fun c => !isBl c) = true) : qaB t = t := by
 unfold qaB
 induction t with
 | nil => rfl
 | cons c t ih =>
   rw [List.all_cons, Bool.and_eq_true] at h
   rw [List.takeWhile_cons, h.1, if_pos rfl, ih h.2]
theorem qkc {t : List UInt8} {k : Nat} (hk : k < t.length) (h : (t.take k).all (fun c => !isBl c) = true) (hb : isBl t[k] = true) : t.take k = qaB t := by
 unfold qaB
 conv => rhs; rw [<- List.take_append_drop k t]
 rw [List.takeWhile_append_of_pos (by intro x hx; exact List.all_eq_true.1 h x hx), List.drop_eq_getElem_cons hk, List.takeWhile_cons, hb]
 simp
end Go.Pk
namespace Go.Proofs.YtndbpedpdbjkpaaGreatDoor
open Go.Pk
open Go.RowKit (Below)
theorem qcH (s : List UInt8) (hs : s.length <= 90000000) (w : World) : Calls prog jS #[.string (mkS s)] w (Ret (qkM s w)) := by
 apply qco
 unfold qaH
 intro k2 w2 hk2 hw2
 have hB2 := (hw2 ▸ qf w _ : Below w.heap.size w w2)
 have h2 : qm w2 k2 ql (rulC (0, [])) := qm.new hk2 hw2
 have hk2w : w.heap.size <= k2 := by omega
 have tl := qiz s
 refine callK (ref01_Trim_ok s (by omega) w2) ?_
 rintro _ w3 ⟨rfl, hw3⟩
 rw [hw3]; clear hw3
 refine ⟨_, rfl, ?_⟩
 have hV : jB s = if zt s = [] \/ Lib.hasPrefix (zt s) [47, 47] = true then ((0, []), false, 0) else qox (qcF (qaB (zt s))).1 (hostV (qcF (qaB (zt s))).2) := rfl
 generalize zt s = t at *
 refine factJ (w := w2) (¬ (t = [] \/ Lib.hasPrefix t [47, 47] = true)) ?_ (fun hc => ?_)
 · refine qav (w := w2) (decide (t = [] \/ Lib.hasPrefix t [47, 47] = true)) ?_ ?_
   · refine BCase.of (fun h => ⟨rfl, by rw [decide_eq_true (.inl (eq_of_beq h))]⟩) (fun h => ?_)
     refine callK (zI t [47, 47] w2) ?_
     rintro _ w4 ⟨rfl, hw4⟩
     refine ⟨_, rfl, hw4, ?_⟩
     rw [Bool.eq_iff_iff, dTx]
     exact ⟨.inr, fun hx => hx.elim (fun hx => absurd hx (beq_eq_false_iff_ne.1 h)) id⟩
   · refine BCase.of (fun h => ?_) (fun h => ⟨rfl, of_decide_eq_false h⟩)
     exact qdz (0, []) h2 rfl hB2 hk2w fun wx hb => ⟨by rw [hV, if_pos (of_decide_eq_true h)], hb⟩
 · rw [if_neg hc] at hV
   have hul := qiT t
   refine ⟨fun m c i w' => w' = w2 /\ ((c = t /\ ∃ k : Nat, k <= t.length /\ i = (k : Int) /\ m = t.length + 1 - k /\ (t.take k).all (fun c => !isBl c) = true) \/ (c = qaB t /\ i = ((qaB t).length : Int) + 1 /\ m = 0)), ⟨_, rfl, .inl ⟨rfl, 0, by omega, rfl, rfl, rfl⟩⟩, ?_⟩
   intro m c i
   refine AllJ.of ?_ _
   rintro w' ⟨hw', hst⟩
   rw [hw']; clear hw'
   refine BCase.of (fun h => ?_) (fun h => ?_) <;> simp only [dTx, dFx] at h
   · rcases hst with ⟨hct, k, hk, rfl, rfl, hno⟩ | ⟨rfl, rfl, rfl⟩
     · rw [hct] at h ⊢
       clear hct
       have hlt : k < t.length := by omega
       have hin : (0 <= (k : Int) /\ (k : Int) < ((t.length : Nat) : Int)) := ⟨by omega, h⟩
       have e32 := qau t[k] 32
       have e9 := qau t[k] 9
       rw [show (((32 : UInt8).toNat : Nat) : Int) = 32 from rfl] at e32
       rw [show (((9 : UInt8).toNat : Nat) : Int) = 9 from rfl] at e9
       rw [zJ hlt, e32, e9]
       refine qav (w := w2) (isBl t[k]) ?_ ?_
       · refine ⟨hin, BCase.of (fun h2 => ⟨rfl, ?_⟩) (fun h2 => ⟨hin, rfl, ?_⟩)⟩
         · unfold isBl; rw [h2]; rfl
         · unfold isBl; rw [h2, Bool.false_or]
       · refine BCase.of (fun h2 => ⟨⟨by omega, by omega⟩, ?_⟩) (fun h2 => ?_)
         · rintro _ rfl
           rw [Int.toNat_natCast, qkc hlt hno h2]
           have e := congrArg List.length (qkc hlt hno h2)
           rw [List.length_take] at e
           exact ⟨0, by omega, rfl, .inr ⟨rfl, by rw [wrap_i64 (by omega) (by omega)]; omega, rfl⟩⟩
         · exact ⟨t.length + 1 - (k + 1), by omega, rfl, .inl ⟨rfl, k + 1, by omega, by rw [wrap_i64 (by omega) (by omega)]; omega, rfl, by rw [List.take_succ_eq_append_getElem hlt, List.all_append, hno]; simp [h2]⟩⟩
     · exfalso; omega
   · have hcc : c = qaB t := by
       rcases hst with ⟨rfl, k, hk, rfl, rfl, hno⟩ | ⟨hx, -, -⟩
       · have : k = c.length := by omega
         subst this
         rw [List.take_length] at hno
         exact (qkY hno).symm
       · exact hx
     rw [hcc]
     rw [qge] at hV
     clear hst hcc h
     generalize qaB t = u at *
     intro k6 w6 hk6 hw6
     have hb6 := (hw6 ▸ qf w2 _ : Below w2.heap.size w2 w6)
     have hB6 := qb hB2 hb6 hB2.size
     obtain ⟨w7, hs7, h67, hg7⟩ := zx.store0 (P := prog) (cs := rulC (1, [])) rfl (qbI _) (qm.new hk6 hw6 : qm w6 k6 ql (rulC (0, []))) rfl
     have hlt2 := h2.lt
     have hne : k2 ≠ k6 := by omega
     have hk6w : w.heap.size <= k6 := by have := hB2.size; omega
     have h27 := (h2.below hb6).grown hg7 (qP hne)
     have hB7 := Below.put hB6 hg7 hk6w
     refine ⟨w7, hs7, ?_⟩
     refine ⟨fun n w' => ∃ k, jB s = qox k (hostV n) /\ n.length <= u.length /\ qm w' k6 ql (rulC (k, [])) /\ qm w' k2 ql (rulC (0, [])) /\ Below w.heap.size w w', ?_, ?_⟩
     · refine callK (zI u [33] w7) ?_
       rintro _ w8 ⟨rfl, hw8⟩
       rw [hw8]; clear hw8
       refine ⟨_, rfl, BCase.of (fun c1 => ?_) (fun c1 => ?_)⟩
       · rw [if_pos c1] at hV
         obtain ⟨w9, hs9, h69, hg9⟩ := h67.put (P := prog) qbr (i := 0) (v := .int .i64 3) (by decide) rfl rfl
         have hl : 1 <= u.length := by have := Lib.hasPrefix_le c1; simpa using this
         refine ⟨rfl, w9, hs9, ⟨by decide, by omega⟩, ?_⟩
         rintro _ rfl
         exact ⟨3, hV, by simp, h69, h27.grown hg9 (qP hne), Below.put hB7 hg9 hk6w⟩
       rw [if_neg (by rw [c1]; decide)] at hV
       refine callK (zI u [42, 46] w7) ?_
       rintro _ w8 ⟨rfl, hw8⟩
       rw [hw8]; clear hw8
       refine ⟨_, rfl, BCase.of (fun c2 => ?_) (fun c2 => ?_)⟩
       · rw [if_pos c2] at hV
         obtain ⟨w9, hs9, h69, hg9⟩ := h67.put (P := prog) qbr (i := 0) (v := .int .i64 2) (by decide) rfl rfl
         have hl : 2 <= u.length := by have := Lib.hasPrefix_le c2; simpa using this
         refine ⟨rfl, w9, hs9, ⟨by decide, by omega⟩, ?_⟩
         rintro _ rfl
         exact ⟨2, hV, by simp, h69, h27.grown hg9 (qP hne), Below.put hB7 hg9 hk6w⟩
       · rw [if_neg (by rw [c2]; decide)] at hV
         exact ⟨1, hV, Nat.le_refl _, h67, h27, hB7⟩
     · intro n
       refine AllJ.of ?_ _
       rintro w8 ⟨k, hV, hnl, h68, h28, hB8⟩
       refine callK (ref03_Parse_ok n (by omega) w8) ?_
       rintro _ w9 ⟨rfl, hb9⟩
       have hB9 := qb hB8 hb9 hB8.size
       rw [qat]
       refine ⟨_, _, rfl, ?_⟩
       have hok := qcr fun x hx => jG (s := n) hx
       refine qs.new (zs := hst0.cells) (cs := ((hostV n).getD hst0).cells) rfl (Hst.len hok) (Hst.one _) w9 fun k10 w10 hk10 h10 hb10 => ?_
       have hB10 := qb hB9 hb10 hB9.size
       have h2A := (h28.below hb9).below hb10
       have h6A := (h68.below hb9).below hb10
       refine worldJ (fun w' => ∃ h : Hst, hostV n = some h /\ jB s = ((k, h.name), true, 0) /\ Below w10.heap.size w10 w') ?_ ?_
       · refine qhz (fun b w' => b = decide (jB s = ((0, []), false, 51)) /\ Below w10.heap.size w10 w' /\ (b = false -> ∃ h : Hst, hostV n = some h /\ jB s = ((k, h.name), true, 0))) ?_ ?_
         · cases hn : hostV n with
           | none =>
             rw [hn] at hV
             exact BCase.yes rfl ⟨by rw [hV]; rfl, Below.refl _ _, fun hx => by cases hx⟩
           | some h =>
             rw [hn] at hV h10 hok
             have hV : jB s = if h.kind = 1 /\ ¬ (k = 3 /\ (qi h).length < 2) then ((k, h.name), true, 0) else ((0, []), false, 51) := hV
             have bad : ¬ (h.kind = 1 /\ ¬ (k = 3 /\ (qi h).length < 2)) -> (true : Bool) = decide (jB s = ((0, []), false, 51)) := fun hx => by rw [hV, if_neg hx]; rfl
             have good : (h.kind = 1 /\ ¬ (k = 3 /\ (qi h).length < 2)) -> (false : Bool) = decide (jB s = ((0, []), false, 51)) /\ (∃ h' : Hst, some h = some h' /\ jB s = ((k, h'.name), true, 0)) := fun hx => by
               rw [hV, if_pos hx]; exact ⟨(decide_eq_false (by intro hx; have := congrArg (fun z => z.2.1) hx; cases this)).symm, h, rfl, rfl⟩
             refine BCase.no rfl ⟨rfl, _, h10.load1 qN rfl rfl, BCase.of (fun c1 => ⟨bad fun hx => ?_, Below.refl _ _, fun hx => by cases hx⟩) (fun c1 => ?_)⟩
             · have c1 : (h.kind != 1) = true := c1
               rw [hx.1] at c1; simp at c1
             have c1 : (h.kind != 1) = false := c1
             have c1 : h.kind = 1 := by simpa using c1
             refine ⟨rfl, _, h6A.load1 qN rfl rfl, BCase.of (fun c2 => ?_) (fun c2 => ?_)⟩
             · have c2 : k = 3 := eq_of_beq c2
               refine ⟨_, qs.load0 h10 (Hst.len hok), ?_⟩
               have hnl : h.name.length <= 80000000 := by have := qah hn; omega
               refine callK (qJ hok hnl w10) ?_
               rintro _ w11 ⟨a, l, c, rfl, ho, -, hb11⟩
               refine ⟨_, _, _, rfl, ?_⟩
               have ho1 := ho.len
               simp only [Option.getD_some] at ho1
               rw [ho1]
               by_cases c3 : (qi h).length < 2
               · rw [decide_eq_true (show (((qi h).length : Nat) : Int) < 2 by omega)]
                 exact ⟨bad fun hx => hx.2 ⟨c2, c3⟩, hb11, fun hx => by cases hx⟩
               · rw [decide_eq_false (show ¬ (((qi h).length : Nat) : Int) < 2 by omega)]
                 have g := good ⟨c1, fun hx => c3 hx.2⟩
                 exact ⟨g.1, hb11, fun _ => g.2⟩
             · have g := good ⟨c1, fun hx => by rw [hx.1] at c2; cases c2⟩
               exact ⟨g.1, Below.refl _ _, fun _ => g.2⟩
         · rintro b w11 ⟨hb, hb11, hg⟩
           refine BCase.of (fun c => ?_) (fun c => ?_)
           · rw [c, eq_comm, dTx] at hb
             exact qdz (0, []) (h2A.below hb11) rfl (qb hB10 hb11 hB10.size) hk2w fun wx hb' => ⟨by rw [hb], hb'⟩
           · obtain ⟨h, e1, e2⟩ := hg c
             exact ⟨h, e1, e2, hb11⟩
       · rintro w11 ⟨h, e1, e2, hb11⟩
         rw [e1] at h10
         refine ⟨rfl, _, (h10.below hb11).load1 un_string rfl rfl, rfl, ?_⟩
         obtain ⟨w12, hs12, h612, hg12⟩ := (h6A.below hb11).put (P := prog) zl (i := 1) (v := .string (mkS h.name)) (show 1 < 2 by decide) rfl rfl
         have h612 : qm w12 k6 ql (rulC (k, h.name)) := h612
         refine ⟨w12, hs12, _, _, zx.load0 h612 rfl, ?_⟩
         exact qdz (k, h.name) ((h2A.below hb11).grown hg12 (qP hne)) rfl (Below.put (qb hB10 hb11 hB10.size) hg12 hk6w) hk2w fun wx hb' => ⟨by rw [e2], hb'⟩
theorem qcn (r : Rul) (hr : r.2.length <= 80000000) (w : World) : Calls prog jq #[rulV r] w (Ret fun v w' => v = .bool (rulR r) /\ Below w.heap.size w w') := by
 obtain ⟨k, n⟩ := r
 apply qbO
 unfold qad
 intro k1 w1 hk1 hw1
 have hB1 := (hw1 ▸ qf w _ : Below w.heap.size w w1)
 have h1 : qm w1 k1 ql (rulC (k, n)) := qm.new hk1 hw1
 simp only at hr
 refine ⟨_, _, zx.load0 h1 rfl, ?_⟩
 refine callK (qcD (k, n) (by simp only; omega) w1) ?_
 rintro _ w2 ⟨rfl, hb2⟩
 have hB2 := qb hB1 hb2 hB1.size
 refine ⟨_, rfl, ?_⟩
 have hm : (markL k).length <= 2 := by unfold markL; split; decide; split; decide; decide
 refine callK (qcH (ruleX (k, n)) (by unfold ruleX; simp; omega) w2) ?_
 rintro _ w3 ⟨rfl, hb3⟩
 have hB3 := qb hB2 hb3 hB2.size
 refine ⟨_, _, _, _, rfl, ?_⟩
 intro k4 w4 hk4 hw4
 have hb4 := (hw4 ▸ qf w3 _ : Below w3.heap.size w3 w4)
 have hB4 := qb hB3 hb4 hB3.size
 have hR : rulR (k, n) = (((jB (ruleX (k, n))).2.2 == 0) && ((jB (ruleX (k, n))).2.1 && qnJ (jB (ruleX (k, n))).1 (k, n))) := rfl
 generalize jB (ruleX (k, n)) = x at *
 obtain ⟨r, b, e⟩ := x
 obtain ⟨w5, hs5, h45, hg5⟩ := zx.store0 (P := prog) (cs := rulC r) rfl (qbI _) (qm.new hk4 hw4 : qm w4 k4 ql (rulC (0, []))) rfl
 have hlt1 := ((h1.below hb2).below hb3).lt
 have h15 := (((h1.below hb2).below hb3).below hb4).grown hg5 (qP (by omega))
 have hB5 := Below.put hB4 hg5 (by have := hB3.size; omega)
 refine ⟨w5, hs5, BCase.of (fun c1 => ?_) (fun c1 => ⟨by rw [hR]; simp only at c1 ⊢; rw [c1]; rfl, hB5⟩)⟩
 refine BCase.of (fun c2 => ?_) (fun c2 => ⟨by rw [hR]; simp only at c1 c2 ⊢; rw [c1, c2]; rfl, hB5⟩)
 refine ⟨_, _, zx.load0 h45 rfl, _, _, zx.load0 h15 rfl, _, qqV r (k, n) w5, ?_, hB5⟩
 rw [hR]; simp only at c1 c2 ⊢; rw [c1, c2]; rfl
end Go.Proofs.YtndbpedpdbjkpaaGreatDoor
namespace Go.Pk
open Go.RowKit (Below)
theorem qgT {h d : Hst} (oh : h.ok) (od : d.ok) (rh : (qi h).length ≠ 0) (rd : (qi d).length ≠ 0) :
   qag h d = true ↔ (qi d).length < (qi h).length /\ (qi d).reverse = (qi h).reverse.take (qi d).length := by
 rw [qbu oh od]
 unfold qcV
 rw [if_neg (fun hx => hx.elim rh rd), Bool.and_eq_true, dTx, beq_iff_eq]
 obtain ⟨⟨hk, hr⟩, hl⟩ := za oh rh
 obtain ⟨⟨dk, dr⟩, dl⟩ := za od rd
 obtain ⟨-, -, h3, -, -, -⟩ := zC oh hk hr
 have key : (qi d).reverse = (qi h).reverse.take (qi d).length /\ (qi d).length < (qi h).length ↔ ∃ A, A ≠ [] /\ qi h = A ++ qi d := by
   constructor
   · rintro ⟨h1, h2⟩
     rw [List.take_reverse] at h1
     have h1 := List.reverse_inj.1 h1
     refine ⟨(qi h).take ((qi h).length - (qi d).length), ?_, ?_⟩
     · intro e
       have := congrArg List.length e
       rw [List.length_take, List.length_nil] at this; omega
     · conv => rhs; rhs; rw [h1]
       rw [List.take_append_drop]
   · rintro ⟨A, hA, e⟩
     have hp := List.length_pos_iff.2 hA
     rw [e]
     refine ⟨?_, by simp; omega⟩
     rw [List.reverse_append, List.take_append_of_le_length (by simp), List.take_of_length_le (by simp)]
 rw [and_comm (a := (qi d).length < _), key, hl, dl]
 constructor
 · rintro ⟨h1, h2⟩
   have hs : h.name = h.name.take (h.name.length - (d.name.length + 1)) ++ 46 :: d.name := by rw [<- h2, List.take_append_drop]
   refine ⟨cutC 46 [] (h.name.take (h.name.length - (d.name.length + 1))), jD 46 _ [], ?_⟩
   conv => lhs; rw [hs]
   exact zw 46 _ _ _
 · rintro ⟨A, hA, e⟩
   have hj := jn 46 h.name []
   have hjd := jn 46 d.name []
   rw [List.nil_append] at hj hjd
   rw [e, qdg 46 A _ hA (jD 46 d.name []), hjd] at hj
   have hp : 0 < (Lib.join A [46]).length := by
     cases A with
     | nil => exact absurd rfl hA
     | cons x A =>
       rw [Lib.join_cons, List.length_append]
       have hx : x ∈ cutC 46 [] h.name := by rw [e]; simp
       have := List.all_eq_true.1 h3 x hx
       unfold labelB at this
       rw [Bool.and_eq_true, Bool.and_eq_true, dTx] at this
       have := this.1.1
       omega
   rw [<- hj]
   refine ⟨by simp; omega, ?_⟩
   rw [List.length_append, List.length_cons, Nat.add_sub_cancel, List.drop_left]
theorem qoM {h d : Hst} (oh : h.ok) (od : d.ok) (rh : (qi h).length ≠ 0) (rd : (qi d).length ≠ 0) : j8 h d = true ↔ qi h = qi d := by
 rw [j7 oh od]
 refine ⟨fun e => by rw [e], fun e => ?_⟩
 obtain ⟨⟨hk, hr⟩, hl⟩ := za oh rh
 obtain ⟨⟨dk, dr⟩, dl⟩ := za od rd
 obtain ⟨h1, -⟩ := zC oh hk hr
 obtain ⟨d1, -⟩ := zC od dk dr
 rw [hl, dl] at e
 have hj := jn 46 h.name []
 have hjd := jn 46 d.name []
 rw [List.nil_append] at hj hjd
 rw [h1, d1, <- hj, <- hjd, e]
end Go.Pk
namespace Go.Pk
open Go.RowKit (Below)
theorem qgG {h : Hst} (oh : h.ok) {r : Rul} (g : qhY r) (hl : (qi h).length ≠ 0) : qag h (rulH r) = true ↔ (revl r).length < (qi h).reverse.length /\ revl r = (qi h).reverse.take (revl r).length := by
 have e : (qi (rulH r)).length = (revl r).length := by rw [g.revl, List.length_reverse]
 rw [qgT oh (jX r) hl g.ne, <- g.revl, e, List.length_reverse]
theorem qlP {h : Hst} (oh : h.ok) {r : Rul} (g : qhY r) (hl : (qi h).length ≠ 0) : j8 h (rulH r) = true ↔ revl r = (qi h).reverse := by
 rw [qoM oh (jX r) hl g.ne, g.revl]
 exact ⟨fun e => by rw [e], fun e => (List.reverse_inj.1 e).symm⟩
theorem qk9 {R : Pth} {r : Rul} : revl r = R.take (revl r).length ↔ ((revl r).length < R.length /\ revl r = R.take (revl r).length) \/ revl r = R := by
 constructor
 · intro h
   by_cases c : (revl r).length < R.length
   · exact .inl ⟨c, h⟩
   · refine .inr ?_
     have := qi8 h
     rw [List.take_of_length_le (by omega)] at h; exact h
 · rintro (h | h)
   · exact h.2
   · rw [h, List.take_length]
end Go.Pk
namespace Go.Proofs.YtndbpedpdbjkpaaGreatDoor
open Go.Pk
open Go.RowKit (Below)
theorem qbS {A : Bl} {a0 : Option Addr} {l0 c0 : Nat} {rs : List Rul} {w : World} (hs : Sl tRul w A a0 l0 c0 rs) (hl : rs.length <= 1000000) (hr : ∀ r ∈ rs, r.2.length <= 80000000) {h : Hst} (oh : h.ok) (hn : h.name.length <= 80000000) :
   Calls prog zX #[.slice a0 l0 c0, h.v] w (Ret fun v w' => v = .int .i64 ((sufV (rs.filter rulR) (qi h).reverse : Nat) : Int) /\ Below w.heap.size w w') := by
 apply qbo
 unfold jM
 intro k3 w3 hk3 hw3
 have hB3 := (hw3 ▸ qf w _ : Below w.heap.size w w3)
 have h3 : qm w3 k3 qc h.cells := qm.new hk3 hw3
 refine ⟨_, qs.load0 h3 (Hst.len oh), ?_⟩
 refine callK (qJ oh hn w3) ?_
 rintro _ w4 ⟨aL, lL, cL, rfl, ho, -, hb4⟩
 have hB4 := qb hB3 hb4 hB3.size
 have hnL := ho.len
 subst hnL
 refine ⟨_, _, _, rfl, BCase.of (fun hc => ⟨?_, hB4⟩) (fun hc => ?_)⟩
 · have : qi h = [] := List.length_eq_zero_iff.1 (by have := eq_of_beq hc; omega)
   rw [this]; rfl
 have hl0 : (qi h).length ≠ 0 := by have := beq_eq_false_iff_ne.1 hc; omega
 have hRne : (qi h).reverse ≠ [] := fun e => hl0 (by rw [List.reverse_eq_nil_iff.1 e]; rfl)
 have h34 := h3.below hb4
 have hn0 := hs.len
 subst hn0
 refine ⟨fun m mo ex i w' => ∃ k : Nat, k <= rs.length /\ i = (k : Int) /\ m = rs.length - k /\ mo = ((docM ((rs.take k).filter rulR) (qi h).reverse : Nat) : Int) /\ ex = ((docE ((rs.take k).filter rulR) (qi h).reverse : Nat) : Int) /\ Below w4.heap.size w4 w', ⟨_, 0, by omega, rfl, rfl, rfl, rfl, Below.refl _ _⟩, ?_⟩
 intro m mo ex i
 refine AllJ.of ?_ _
 rintro w5 ⟨k, hk, rfl, rfl, rfl, rfl, hb5⟩
 have hB5 := qb hB4 hb5 hB4.size
 refine BCase.of (fun hi => ?_) (fun hi => ?_) <;> simp only [dTx, dFx] at hi
 · have hlt : k < rs.length := by omega
   have hs5 := hs.below hB5
   have hlen := hr _ (List.getElem_mem hlt)
   refine ⟨⟨⟨by omega, hi⟩, hs5.isSome hlt⟩, _, _, qdP hs5 hlt, ?_⟩
   have htake : (rs.take (k + 1)).filter rulR = (rs.take k).filter rulR ++ (if rulR rs[k] = true then [rs[k]] else []) := by
     rw [List.take_succ_eq_append_getElem hlt, List.filter_append]
     congr 1
     rw [List.filter_cons, List.filter_nil]
   generalize rs[k] = r at *
   refine zx.new (zs := rulC (0, [])) (cs := rulC r) rfl rfl (qbI r) w5 fun k8 w8 hk8 h8 hb8 => ?_
   have hB8 := qb hB5 hb8 hB5.size
   have hb58 := qb hb5 hb8 hb5.size
   refine ⟨_, _, zx.load0 h8 rfl, ?_⟩
   refine callK (qcn r hlen w8) ?_
   rintro _ w9 ⟨rfl, hb9⟩
   have hb59 := qb hb58 hb9 hb58.size
   have h89 := h8.below hb9
   refine ⟨_, rfl, BCase.of (fun c1 => ?_) (fun c1 => ?_)⟩
   · rw [Bool.not_eq_true'] at c1
     rw [if_neg (by rw [c1]; decide), List.append_nil] at htake
     exact ⟨rs.length - (k + 1), by omega, k + 1, by omega, by rw [wrap_i64 (by omega) (by omega)]; omega, rfl, by rw [htake], by rw [htake], hb59⟩
   rw [Bool.not_eq_false'] at c1
   rw [if_pos c1] at htake
   have g := qkO c1
   have hM : docM ((rs.take (k + 1)).filter rulR) (qi h).reverse = qhd (qi h).reverse (docM ((rs.take k).filter rulR) (qi h).reverse) r := by
     rw [htake]; unfold docM; rw [List.foldl_append]; rfl
   have hE : docE ((rs.take (k + 1)).filter rulR) (qi h).reverse = qmW (qi h).reverse (docE ((rs.take k).filter rulR) (qi h).reverse) r := by
     rw [htake]; unfold docE; rw [List.foldl_append]; rfl
   generalize docM ((rs.take k).filter rulR) (qi h).reverse = mm at *
   generalize docE ((rs.take k).filter rulR) (qi h).reverse = ee at *
   have hu := qgG oh g hl0
   have hq := qlP oh g hl0
   have hp := qk9 (R := (qi h).reverse) (r := r)
   have hrl : (revl r).length = (cutC 46 [] r.2).length := by unfold revl; rw [List.length_reverse]
   have hrl0 := qg6 (r := r)
   refine ⟨rfl, _, h89.load1 un_string rfl rfl, ?_⟩
   refine callK (ja r.2 46 (by omega) w9) ?_
   rintro _ w10 ⟨a10, n10, c10, rfl, ho10, -, hb10⟩
   have hb510 := qb hb59 hb10 hb59.size
   have hn10 := ho10.len
   rw [<- hrl] at hn10
   subst hn10
   have hcl : (revl r).length <= 254 := by rw [hrl]; have := j0 46 r.2 []; have := g.len; omega
   refine ⟨_, _, _, rfl, rfl, _, (h89.below hb10).load1 un_string rfl rfl, ?_⟩
   refine qs.new (zs := hst0.cells) (cs := (rulH r).cells) rfl rfl (Hst.one _) w10 fun k11 w11 hk11 h11 hb11 => ?_
   have hb511 := qb hb510 hb11 hb510.size
   refine ⟨_, qs.load0 (h34.below hb511) (Hst.len oh), _, qs.load0 h11 (Hst.len (jX r)), ?_⟩
   refine callK (jH oh (jX r) hn (show r.2.length <= 80000000 by have := g.len; omega) w11) ?_
   rintro _ w12 ⟨rfl, hb12⟩
   have hb512 := qb hb511 hb12 hb511.size
   have h8A := (((h89.below hb10).below hb11).below hb12)
   have h3A := h34.below hb512
   have h11A := h11.below hb12
   refine ⟨_, rfl, ?_⟩
   have lk := h8A.load1 (P := prog) (i := 0) qN rfl rfl
   generalize hub : qag h (rulH r) = ub at *
   -- a name
   refine ⟨fun n w' => w' = w12 /\ n = (((if r.1 = 1 /\ revl r = (qi h).reverse.take (revl r).length then max mm (revl r).length else mm) : Nat) : Int), ?_, ?_⟩
   · refine qav (w := w12) (decide (r.1 = 1 /\ revl r = (qi h).reverse.take (revl r).length)) ?_ ?_
     · refine ⟨rfl, _, lk, BCase.of (fun c2 => ?_) (fun c2 => ⟨rfl, (decide_eq_false (fun hx => beq_eq_false_iff_ne.1 c2 hx.1)).symm⟩)⟩
       have c2 := eq_of_beq c2
       refine BCase.of (fun c3 => ⟨rfl, (decide_eq_true ⟨c2, hp.2 (.inl (hu.1 c3))⟩).symm⟩) (fun c3 => ?_)
       refine ⟨_, qs.load0 h3A (Hst.len oh), _, qs.load0 h11A (Hst.len (jX r)), _, qdn oh (jX r) w12, rfl, ?_⟩
       rw [Bool.eq_iff_iff, dTx, hq, hp]
       exact ⟨fun e => ⟨c2, .inr e⟩, fun e => e.2.elim (fun e => by rw [hu.2 e] at c3; cases c3) id⟩
     · refine BCase.of (fun c2 => ?_) (fun c2 => ⟨rfl, by rw [if_neg (of_decide_eq_false c2)]⟩)
       refine ⟨_, run_max_int2 _ _ _ _ _ _ _, rfl, ?_⟩
       rw [if_pos (of_decide_eq_true c2)]
       split <;> omega
   intro n5
   refine AllJ.of ?_ _
   rintro w13 ⟨hw13, rfl⟩
   rw [hw13]; clear hw13
   -- all below a name
   refine ⟨fun n w' => w' = w12 /\ n = ((qhd (qi h).reverse mm r : Nat) : Int), ?_, ?_⟩
   · have hst : qhd (qi h).reverse mm r = if r.1 = 2 /\ ub = true then max (if r.1 = 1 /\ revl r = (qi h).reverse.take (revl r).length then max mm (revl r).length else mm) ((revl r).length + 1) else (if r.1 = 1 /\ revl r = (qi h).reverse.take (revl r).length then max mm (revl r).length else mm) := by
       unfold qhd
       by_cases c2 : r.1 = 1
       · have n2 : ¬ (r.1 = 2 /\ ub = true) := fun hx => by rw [c2] at hx; exact absurd hx.1 (by decide)
         rw [if_neg n2]
         by_cases c3 : revl r = (qi h).reverse.take (revl r).length
         · rw [if_pos c3, if_pos c2, if_pos ⟨c2, c3⟩]
         · rw [if_neg c3, if_neg (show ¬ (r.1 = 1 /\ revl r = (qi h).reverse.take (revl r).length) from fun hx => c3 hx.2)]
       · rw [if_neg (show ¬ (r.1 = 1 /\ revl r = (qi h).reverse.take (revl r).length) from fun hx => c2 hx.1)]
         by_cases c3 : r.1 = 2 /\ ub = true
         · have := hu.1 c3.2
           rw [if_pos c3, if_pos this.2, if_neg c2, if_pos ⟨c3.1, this.1⟩]
         · rw [if_neg c3]
           by_cases c5 : revl r = (qi h).reverse.take (revl r).length
           · rw [if_pos c5, if_neg c2, if_neg (fun hx => c3 ⟨hx.1, hu.2 ⟨hx.2, c5⟩⟩)]
           · rw [if_neg c5]
     rw [hst]
     generalize (if r.1 = 1 /\ revl r = (qi h).reverse.take (revl r).length then max mm (revl r).length else mm) = m1
     refine qav (w := w12) (decide (r.1 = 2 /\ ub = true)) ?_ ?_
     · refine ⟨rfl, _, lk, BCase.of (fun c2 => ⟨rfl, ?_⟩) (fun c2 => ⟨rfl, (decide_eq_false (fun hx => beq_eq_false_iff_ne.1 c2 hx.1)).symm⟩)⟩
       rw [Bool.eq_iff_iff, dTx]
       exact ⟨fun e => ⟨eq_of_beq c2, e⟩, fun e => e.2⟩
     · refine BCase.of (fun c2 => ?_) (fun c2 => ⟨rfl, by rw [if_neg (of_decide_eq_false c2)]⟩)
       refine ⟨_, run_max_int2 _ _ _ _ _ _ _, rfl, ?_⟩
       rw [if_pos (of_decide_eq_true c2), wrap_i64 (by omega) (by omega)]
       split <;> omega
   intro n5
   refine AllJ.of ?_ _
   rintro w13 ⟨hw13, rfl⟩
   rw [hw13]; clear hw13
   -- an exception
   refine qav (w := w12) (decide (revl r = (qi h).reverse.take (revl r).length /\ r.1 = 3)) ?_ ?_
   · refine ⟨rfl, _, lk, BCase.of (fun c2 => ?_) (fun c2 => ⟨rfl, (decide_eq_false (fun hx => beq_eq_false_iff_ne.1 c2 hx.2)).symm⟩)⟩
     have c2 := eq_of_beq c2
     refine BCase.of (fun c3 => ⟨rfl, (decide_eq_true ⟨hp.2 (.inl (hu.1 c3)), c2⟩).symm⟩) (fun c3 => ?_)
     refine ⟨_, qs.load0 h3A (Hst.len oh), _, qs.load0 h11A (Hst.len (jX r)), _, qdn oh (jX r) w12, rfl, ?_⟩
     rw [Bool.eq_iff_iff, dTx, hq, hp]
     exact ⟨fun e => ⟨.inr e, c2⟩, fun e => e.1.elim (fun e => by rw [hu.2 e] at c3; cases c3) id⟩
   · have hst : qmW (qi h).reverse ee r = if revl r = (qi h).reverse.take (revl r).length /\ r.1 = 3 then max ee ((revl r).length - 1) else ee := rfl
     refine BCase.of (fun c2 => ?_) (fun c2 => ?_)
     · rw [if_pos (of_decide_eq_true c2)] at hst
       refine ⟨_, run_max_int2 _ _ _ _ _ _ _, rs.length - (k + 1), by omega, k + 1, by omega, by rw [wrap_i64 (by omega) (by omega)]; omega, rfl, by rw [hM], ?_, hb512⟩
       rw [hE, hst, wrap_i64 (by omega) (by omega)]
       split <;> omega
     · rw [if_neg (of_decide_eq_false c2)] at hst
       exact ⟨rs.length - (k + 1), by omega, k + 1, by omega, by rw [wrap_i64 (by omega) (by omega)]; omega, rfl, by rw [hM], by rw [hE, hst], hb512⟩
 · have : k = rs.length := by omega
   subst this
   rw [List.take_length]
   unfold sufV
   rw [if_neg hRne]
   refine BCase.of (fun hc => ⟨?_, hB5⟩) (fun hc => ⟨?_, hB5⟩) <;> simp only [gt_iff_lt, dTx, dFx] at hc
   · rw [if_pos (by omega)]
   · rw [if_neg (by omega)]
theorem qbT {A : Bl} {a0 : Option Addr} {l0 c0 : Nat} {rs : List Rul} {w : World} (hs : Sl tRul w A a0 l0 c0 rs) (hl : rs.length <= 1000000) (hr : ∀ r ∈ rs, r.2.length <= 80000000) {h : Hst} (oh : h.ok) (hn : h.name.length <= 80000000) :
   Calls prog zg #[.slice a0 l0 c0, h.v] w (Ret fun v w' => v = .bool (pubB (rs.filter rulR) h) /\ Below w.heap.size w w') := by
 apply qbm
 unfold jR
 intro k3 w3 hk3 hw3
 have hB3 := (hw3 ▸ qf w _ : Below w.heap.size w w3)
 have h3 : qm w3 k3 qc h.cells := qm.new hk3 hw3
 refine ⟨_, qs.load0 h3 (Hst.len oh), ?_⟩
 refine callK (qJ oh hn w3) ?_
 rintro _ w4 ⟨aL, lL, cL, rfl, ho, -, hb4⟩
 have hB4 := qb hB3 hb4 hB3.size
 refine ⟨_, _, _, rfl, ?_⟩
 have hnL := ho.len
 subst hnL
 unfold pubB
 refine BCase.of (fun hc => ?_) (fun hc => ⟨?_, hB4⟩) <;> simp only [gt_iff_lt, dTx, dFx] at hc
 · refine ⟨_, qs.load0 (h3.below hb4) (Hst.len oh), ?_⟩
   refine callK (qbS (hs.below hB4) hl hr oh hn) ?_
   rintro _ w5 ⟨rfl, hb5⟩
   refine ⟨_, rfl, ?_, qb hB4 hb5 hB4.size⟩
   rw [decide_eq_true (show 0 < (qi h).length by omega), Bool.true_and]
   congr 1
   rw [Bool.eq_iff_iff, beq_iff_eq, beq_iff_eq]; omega
 · rw [decide_eq_false (show ¬ 0 < (qi h).length by omega), Bool.false_and]
end Go.Proofs.YtndbpedpdbjkpaaGreatDoor
namespace Go.Pk
open Go.RowKit (Below)
theorem qfK {rs : List Rul} {u : Url} (o : u.ok) (h : Hdr) (now : Int) : (takV rs u h now).1.ok := by
 unfold takV
 split
 · rfl
 split
 · rfl
 · exact qjA o _
theorem qmg {rs : List Rul} {u : Hst} (t : List UInt8) (hu : u.name.length <= 80000000) : (domV rs u t).1.name.length <= 80000000 := by
 unfold domV
 split
 · exact hu
 split
 · decide
 · rename_i d hd
   have := qah hd
   split
   · simp; omega
   split <;> (simp; omega)
end Go.Pk
namespace Go.Proofs.YtndbpedpdbjkpaaGreatDoor
open Go.Pk
open Go.RowKit (Below)
theorem zD (s p : List UInt8) (hp : p.length <= 1000) (w : World) : Calls prog qO #[.string (mkS s), .string (mkS p)] w (Ret fun v w' => v = .bool (decide (lowL (s.take p.length) = p)) /\ Below w.heap.size w w') := by
 apply j4
 unfold zL
 refine BCase.of (fun c => ?_) (fun c => ⟨?_, Below.refl _ _⟩)
 · refine ⟨⟨by omega, by simpa using c⟩, ?_⟩
   rintro _ rfl
   rw [Int.toNat_natCast]
   refine callK (ref01_Lower_ok _ (by rw [List.length_take]; omega) w) ?_
   rintro _ w2 ⟨rfl, hb2⟩
   refine ⟨_, rfl, ?_, hb2⟩
   congr 1
   rw [Bool.eq_iff_iff]; simp
 · rw [decide_eq_false]
   intro e
   have := congrArg List.length e
   simp [lowL] at this c; omega
theorem jU (s : List UInt8) (w : World) : Calls prog qT #[.string (mkS s)] w (Ret fun v w' => v = .int .i64 (jF s) /\ Below w.heap.size w w') := by
 apply j6
 unfold zE
 refine callK (zD s pSec (by decide) w) ?_
 rintro _ w1 ⟨rfl, hB1⟩
 refine ⟨_, rfl, BCase.of (fun c => ⟨?_, hB1⟩) (fun c => ?_)⟩
 · have c : lowL (s.take 9) = pSec := of_decide_eq_true c
   unfold jF; rw [if_pos c]
 have c : ¬ lowL (s.take 9) = pSec := of_decide_eq_false c
 refine callK (zD s pHos (by decide) w1) ?_
 rintro _ w2 ⟨rfl, hb2⟩
 have hB2 := qb hB1 hb2 hB1.size
 refine ⟨_, rfl, BCase.of (fun c2 => ⟨?_, hB2⟩) (fun c2 => ⟨?_, hB2⟩)⟩
 · have c2 : lowL (s.take 7) = pHos := of_decide_eq_true c2
   unfold jF; rw [if_neg c, if_pos c2]
 · have c2 : ¬ lowL (s.take 7) = pHos := of_decide_eq_false c2
   unfold jF; rw [if_neg c, if_neg c2]
end Go.Proofs.YtndbpedpdbjkpaaGreatDoor
set_option maxRecDepth 100000
namespace Go.Proofs.YtndbpedpdbjkpaaGreatDoor
open Go.Pk
open Go.RowKit (Below)
--  cracknel/cracknellaw10.both
def zU (a0 : Option Addr) (l0 c0 : Nat) (a1 : Option Addr) (l1 c1 : Nat) (w : World) (K : Value -> World -> Prop) : Prop :=
 ∃ I : Nat -> FP [.one (.int .i64)],
 (∃ m, I m (0 : Int) w) /\
 ∀ m n11, AllJ 10 (∀ wl, I m n11 wl ->
 BCase (decide (n11 < ((l0 : Nat) : Int)))
 (((0 <= n11 /\ n11 < ((l0 : Nat) : Int)) /\ Option.isSome a0 = true) /\
 ∃ n14_0 s14_1, Ld ql (qn a0 n11 2) wl (.agg #[.int .i64 n14_0, .string (mkS s14_1)]) /\
 ∀ k6 w6, k6 = wl.heap.size -> w6 = wl.alloc (.cells #[.int .i64 (0 : Int), .string (mkS [])] ql) ->
 ∃ wx, Sv ql (some ⟨k6, 0, none⟩) (.agg #[.int .i64 n14_0, .string (mkS s14_1)]) w6 wx /\
 (true = true) /\
 ∃ s16, Ld qe (some ⟨k6, 1, none⟩) wx (.string (mkS s16)) /\
 BCase (decide (((List.length s16 : Nat) : Int) > (300 : Int)))
 (K (.bool false) wx)
 (∃ m' : Nat, m' < m /\ I m' (i64.wrap (n11 + (1 : Int))) wx))
 (∃ I_1 : Nat -> FP [.one (.int .i64)],
 (∃ m_1, I_1 m_1 (0 : Int) wl) /\
 ∀ m_1 n22, AllJ 9 (∀ wl_1, I_1 m_1 n22 wl_1 ->
 BCase (decide (n22 < ((l1 : Nat) : Int)))
 (((0 <= n22 /\ n22 < ((l1 : Nat) : Int)) /\ Option.isSome a1 = true) /\
 ∃ s25, Ld qe (qn a1 n22 1) wl_1 (.string (mkS s25)) /\
 BCase (decide (((List.length s25 : Nat) : Int) > (2500 : Int)))
 (K (.bool false) wl_1)
 (∃ m'_1 : Nat, m'_1 < m_1 /\ I_1 m'_1 (i64.wrap (n22 + (1 : Int))) wl_1))
 (K (.bool (decide (((l0 : Nat) : Int) <= (30 : Int)))) wl_1))))
theorem qac (a0 : Option Addr) (l0 c0 : Nat) (a1 : Option Addr) (l1 c1 : Nat) {w : World} {K : Value -> World -> Prop} (h : zU a0 l0 c0 a1 l1 c1 w K) : Calls prog zr #[.slice a0 l0 c0, .slice a1 l1 c1] w (Ret K) :=
 qo (c := qr Tryz.f38) (by kernel_rfl) Tryz.func38 (by kernel_rfl) [(6, [(11, .one (.int .i64))]), (29, [(22, .one (.int .i64))])] [.slice a0 l0 c0, .slice a1 l1 c1] (of_decide_eq_true (by kernel_rfl)) _ (by kernel_rfl) h

--  cracknel/cracknellaw10.admitAlive
end Go.Proofs.YtndbpedpdbjkpaaGreatDoor
set_option maxRecDepth 20000
namespace Go.Pk
open Go.RowKit (Below)
def fewB (rs : List Rul) (ts : List (List UInt8)) : Bool := rs.all (fun r => decide (r.2.length <= 300)) && (ts.all (fun t => decide (t.length <= 2500)) && decide (rs.length <= 30))
end Go.Pk
namespace Go.Proofs.YtndbpedpdbjkpaaGreatDoor
open Go.Pk
open Go.RowKit (Below)
theorem qaD {A : Bl} {a0 : Option Addr} {l0 c0 : Nat} {rs : List Rul} {a1 : Option Addr} {l1 c1 : Nat} {ts : List (List UInt8)} {w : World} (hs : Sl tRul w A a0 l0 c0 rs) (ht : Sl tS w A a1 l1 c1 ts) (hl : rs.length <= 9223372036854775807) (hl2 : ts.length <= 9223372036854775807) :
   Calls prog zr #[.slice a0 l0 c0, .slice a1 l1 c1] w (Ret fun v w' => v = .bool (fewB rs ts) /\ Below w.heap.size w w') := by
 apply qac
 unfold zU
 have hn := hs.len
 have hn1 := ht.len
 subst hn hn1
 unfold fewB
 refine ⟨fun m i w' => ∃ k : Nat, k <= rs.length /\ i = (k : Int) /\ m = rs.length - k /\ (rs.take k).all (fun r => decide (r.2.length <= 300)) = true /\ Below w.heap.size w w', ⟨_, 0, by omega, rfl, rfl, rfl, Below.refl _ _⟩, ?_⟩
 intro m i
 refine AllJ.of ?_ _
 rintro w1 ⟨k, hk, rfl, rfl, hno, hB1⟩
 refine BCase.of (fun hi => ?_) (fun hi => ?_) <;> simp only [dTx, dFx] at hi
 · have hlt : k < rs.length := by omega
   have hs1 := hs.below hB1
   refine ⟨⟨⟨by omega, hi⟩, hs1.isSome hlt⟩, _, _, qdP hs1 hlt, ?_⟩
   refine zx.new (zs := rulC (0, [])) (cs := rulC rs[k]) rfl rfl (qbI _) w1 fun k6 w6 hk6 h6 hb6 => ?_
   have hB6 := qb hB1 hb6 hB1.size
   refine ⟨rfl, _, h6.load1 un_string rfl rfl, BCase.of (fun c => ⟨?_, hB6⟩) (fun c => ?_)⟩ <;> simp only [gt_iff_lt, dTx, dFx] at c
   · have : rs.all (fun r => decide (r.2.length <= 300)) = false := by
       rw [Bool.eq_false_iff]
       intro hx
       have := List.all_eq_true.1 hx _ (List.getElem_mem hlt)
       rw [dTx] at this; omega
     rw [this, Bool.false_and]
   · refine ⟨rs.length - (k + 1), by omega, k + 1, by omega, by rw [wrap_i64 (by omega) (by omega)]; omega, rfl, ?_, hB6⟩
     rw [List.take_succ_eq_append_getElem hlt, List.all_append, hno]
     simp; omega
 · have : k = rs.length := by omega
   subst this
   rw [List.take_length] at hno
   rw [hno, Bool.true_and]
   refine ⟨fun m i w' => ∃ k : Nat, k <= ts.length /\ i = (k : Int) /\ m = ts.length - k /\ (ts.take k).all (fun t => decide (t.length <= 2500)) = true /\ w' = w1, ⟨_, 0, by omega, rfl, rfl, rfl, rfl⟩, ?_⟩
   intro m i
   refine AllJ.of ?_ _
   rintro w2 ⟨k, hk, rfl, rfl, hno2, hw2⟩
   rw [hw2]; clear hw2
   have ht1 := ht.below hB1
   refine BCase.of (fun hi => ?_) (fun hi => ?_) <;> simp only [dTx, dFx] at hi
   · have hlt : k < ts.length := by omega
     refine ⟨⟨⟨by omega, hi⟩, ht1.isSome hlt⟩, _, ht1.text un_string hlt, BCase.of (fun c => ⟨?_, hB1⟩) (fun c => ?_)⟩ <;> simp only [gt_iff_lt, dTx, dFx] at c
     · have : ts.all (fun t => decide (t.length <= 2500)) = false := by
         rw [Bool.eq_false_iff]
         intro hx
         have := List.all_eq_true.1 hx _ (List.getElem_mem hlt)
         rw [dTx] at this; omega
       rw [this, Bool.false_and]
     · refine ⟨ts.length - (k + 1), by omega, k + 1, by omega, by rw [wrap_i64 (by omega) (by omega)]; omega, rfl, ?_, rfl⟩
       rw [List.take_succ_eq_append_getElem hlt, List.all_append, hno2]
       simp; omega
   · have : k = ts.length := by omega
     subst this
     rw [List.take_length] at hno2
     rw [hno2, Bool.true_and]
     refine ⟨?_, hB1⟩
     congr 1
     rw [Bool.eq_iff_iff, dTx, dTx]; omega
theorem qdQ {w w' : World} {k : Nat} {ts : List (List UInt8)} (hk : k = w.heap.size) (hw : w' = w.alloc (.cells (ts.map fun s => Value.string (mkS s)).toArray qe)) (hm : ts.length <= maxLen) : Sl tS w' AllB (some ⟨k, 0, none⟩) ts.length ts.length ts :=
 (Ow.newF (T := tS) (A := NoB) (jY _) hk hw (qbD fun _ _ => trivial) hm).all
end Go.Proofs.YtndbpedpdbjkpaaGreatDoor
namespace Go.Pk
open Go.RowKit (Below)
theorem qbF.base {w0 w1 : World} {t te : TypeId} {kt km : Nat} {a : Option Addr} {n c : Nat} {ps : List Pth} {kvs : List (qeH × Int)} {es : List (List Bool)} {rs : List Rul} {w : World} (S : qbF w1 t te kt km a n c ps kvs es rs w) (h : Below w0.heap.size w0 w1) : qbF w0 t te kt km a n c ps kvs es rs w :=
 ⟨S.h1, S.h2, S.h3, S.T, S.t, qb h S.hb h.size, S.ne, fun g hg => ⟨(S.og g hg).1, (S.og g hg).2.1, Nat.le_trans h.size (S.og g hg).2.2⟩, Nat.le_trans h.size S.kt0, Nat.le_trans h.size S.km0⟩
def TabP (w0 : World) (t te : TypeId) (rs : List Rul) (p : Option Addr) (w : World) : Prop := ∃ kt km a n c ps kvs es, p = some ⟨kt, 0, none⟩ /\ qbF w0 t te kt km a n c ps kvs es rs w
theorem TabP.below {w0 : World} {t te : TypeId} {rs : List Rul} {p : Option Addr} {w w' : World} (h : TabP w0 t te rs p w) (hb : Below w.heap.size w w') : TabP w0 t te rs p w' := by
 obtain ⟨kt, km, a, n, c, ps, kvs, es, e, S⟩ := h
 exact ⟨kt, km, a, n, c, ps, kvs, es, e, S.below hb⟩
structure StA (wb : World) (tt te tc : TypeId) (rs : List Rul) (t : Option (Option Addr)) (k : Option Nat) (w : World) : Prop where
 hb : Below wb.heap.size wb w
 ht : ∀ p, t = some p -> TabP wb tt te rs p w
 hk : ∀ x, k = some x -> qm w x tc cky0.cells /\ wb.heap.size <= x
theorem StA.below {wb : World} {tt te tc : TypeId} {rs : List Rul} {t : Option (Option Addr)} {k : Option Nat} {w w' : World} (S : StA wb tt te tc rs t k w) (hb : Below w.heap.size w w') : StA wb tt te tc rs t k w' :=
 ⟨qb S.hb hb S.hb.size, fun p e => (S.ht p e).below hb, fun x e => ⟨(S.hk x e).1.below hb, (S.hk x e).2⟩⟩
end Go.Pk
namespace Go.Proofs.YtndbpedpdbjkpaaGreatDoor
open Go.Pk
open Go.RowKit (Below)
structure AdC (wb : World) (a0 : Option Addr) (l0 c0 : Nat) (rs : List Rul) (k7 k8 : Nat) (u : Url) (h : Hdr) : Prop where
 he : Env wb
 hs : Sl tRul wb AllB a0 l0 c0 rs
 hl : rs.length <= 1000000
 hr : ∀ r ∈ rs, r.2.length <= 1000000
 hU : qm wb k7 qg u.cells
 hH : qm wb k8 qd h.cells
 ou : u.ok
 un : u.host.name.length <= 80000000
 up : u.path.length <= 1000000000
 ho : qda h
section
variable {wb : World} {a0 : Option Addr} {l0 c0 : Nat} {rs : List Rul} {k7 k8 : Nat} {u : Url} {h : Hdr} {t : Option (Option Addr)} {k : Option Nat} {w : World}
theorem ad_u (C : AdC wb a0 l0 c0 rs k7 k8 u h) (S : StA wb qq qt qa (rs.filter rulR) t k w) : (Instr.loadAt qg (.pointer (some ⟨k7, 0, none⟩))).run prog w = .ok u.v w := qas.load0 (C.hU.below S.hb) (Url.len C.ou)
theorem ad_h (C : AdC wb a0 l0 c0 rs k7 k8 u h) (S : StA wb qq qt qa (rs.filter rulR) t k w) : (Instr.loadAt qd (.pointer (some ⟨k8, 0, none⟩))).run prog w = .ok h.v w := zo h (C.hH.below S.hb)
theorem ad_new (C : AdC wb a0 l0 c0 rs k7 k8 u h) (S : StA wb qq qt qa (rs.filter rulR) none k w) {R : Option Addr -> World -> Prop} (H : ∀ p w', StA wb qq qt qa (rs.filter rulR) (some p) k w' -> R p w') :
   Calls prog qp #[.slice a0 l0 c0] w fun e w' => ∃ p : Option Addr, e = .returned (.pointer p) /\ R p w' := by
 refine callK (qbh (C.hs.below S.hb) C.hl C.hr (C.he.step S.hb)) ?_
 rintro _ w' ⟨kt, km, a, n, c, ps, kvs, es, rfl, T⟩
 refine ⟨_, rfl, H _ w' ?_⟩
 have S' := S.below T.hb
 exact ⟨S'.hb, fun p e => by cases e; exact ⟨kt, km, a, n, c, ps, kvs, es, rfl, T.base S.hb⟩, S'.hk⟩
theorem ad_take (C : AdC wb a0 l0 c0 rs k7 k8 u h) {p : Option Addr} (S : StA wb qq qt qa (rs.filter rulR) (some p) k w) {now : Int} {R : Value -> Int -> World -> Prop} (H : ∀ w', StA wb qq qt qa (rs.filter rulR) (some p) k w' -> R (takV (rs.filter rulR) u h now).1.v (takV (rs.filter rulR) u h now).2 w') :
   Calls prog qh #[.pointer p, u.v, h.v, .int .i64 now] w fun e w' => ∃ (v : Value) (n : Int), e = .returned (.tuple #[v, .int .i64 n]) /\ R v n w' := by
 obtain ⟨kt, km, a, n, c, ps, kvs, es, e, T⟩ := S.ht p rfl
 subst e
 refine callK (jv C.he T C.ou (by have := C.un; omega) C.up h C.ho now) ?_
 rintro _ w' ⟨rfl, hb⟩
 exact ⟨_, _, rfl, H w' (S.below hb)⟩
theorem ad_al (S : StA wb qq qt qa rs t none w) {R : Nat -> World -> Prop} (H : ∀ x w', StA wb qq qt qa rs t (some x) w' -> R x w') :
   ∀ (x : Nat) (w' : World), x = w.heap.size -> w' = w.alloc (.cells qj qa) -> R x w' := fun x w' hx hw => by
 have hb := (hw ▸ qf w _ : Below w.heap.size w w')
 have S' := S.below hb
 refine H x w' ⟨S'.hb, S'.ht, fun y e => ?_⟩
 cases e
 exact ⟨qm.new hx hw, by have := S.hb.size; omega⟩
theorem ad_st {x : Nat} (S : StA wb qq qt qa rs t (some x) w) {c : Cky} (o : c.ok) {R : World -> Prop} (H : ∀ wx, Below wb.heap.size wb wx -> qm wx x qa c.cells -> R wx) :
   ∃ wx : World, (Instr.storeAt qa (.pointer (some ⟨x, 0, none⟩)) c.v).run prog w = .ok () wx /\ R wx := by
 obtain ⟨h1, h2⟩ := S.hk x rfl
 obtain ⟨wx, hs, ha, hg⟩ := qS.store0 (Cky.len o) (Cky.one c) h1 rfl
 exact ⟨wx, hs, H wx (Below.put S.hb hg h2) ha⟩
end
end Go.Proofs.YtndbpedpdbjkpaaGreatDoor
namespace Go.Pk
open Go.RowKit (Below)
theorem qcR {rs : List Rul} {ts : List (List UInt8)} (h : fewB rs ts = true) : (∀ r ∈ rs, r.2.length <= 300) /\ (∀ t ∈ ts, t.length <= 2500) /\ rs.length <= 30 := by
 unfold fewB at h
 rw [Bool.and_eq_true, Bool.and_eq_true, List.all_eq_true, List.all_eq_true, dTx] at h
 exact ⟨fun r hr => of_decide_eq_true (h.1 r hr), fun t ht => of_decide_eq_true (h.2.1 t ht), h.2.2⟩
theorem qfO {s : List UInt8} (h : pathB s = true) : s.length <= 2048 := by
 unfold pathB at h
 rw [Bool.and_eq_true, Bool.and_eq_true, dTx, dTx] at h
 exact h.2.1
theorem qdb (r : List UInt8) (b : Bool) : (urlR r b).1.host.name.length <= 253 /\ (urlR r b).1.path.length <= 2048 := by
 unfold urlR
 split
 · exact ⟨by decide, by decide⟩
 · rename_i h hh
   split
   · exact ⟨by decide, by decide⟩
   · split
     · rename_i hp
       refine ⟨?_, qfO hp⟩
       unfold qiq at hh
       split at hh
       · cases hh
       · exact qah hh
     · exact ⟨by decide, by decide⟩
theorem qc6 (s : List UInt8) : (urlV s).1.host.name.length <= 253 /\ (urlV s).1.path.length <= 2048 := by
 unfold urlV
 split
 · exact ⟨by decide, by decide⟩
 · exact qdb _ _
theorem qeO : qda hdr0 := ⟨by decide, by decide, by decide, by decide, by decide, by decide⟩
theorem qb7 {s : List UInt8} (h : (qM s).2 ≠ 0) : (qM s).1 = hdr0 := by
 unfold qM at h ⊢
 split
 · rfl
 split
 · rfl
 split
 · rfl
 · rename_i h1 h2 h3
   rw [if_neg h1, if_neg h2, if_neg h3] at h
   exact absurd rfl h
theorem qdk (s : List UInt8) : qda (qM s).1 := by
 by_cases h : (qM s).2 = 0
 · exact qih (parse_good (s := s) (Prod.ext rfl h))
 · rw [qb7 h]; exact qeO
end Go.Pk
namespace Go.Pk
open Go.ChangeShapes Go.WideShapes
theorem qbJ {H : Type} {enc : TypeId × Value -> H} {P : Program} {w : World} {fuel : Nat} {t : TypeId} {fs : Array Field} {cs : List Value} {x : DataW H × List MemPlace} (ht : P.underlying t = some (.struct fs))
   (h : DataW.trod enc P w 0 (fun _ => true) true fuel t cs = some x) :
   ∃ n, cs.length = P.cellsOf t /\ ∀ (i : Nat) (u : TypeId) (o k : Nat), (∃ f : Field, fs[i]? = some f /\ f.type = u /\ f.offset = o) -> P.cellsOf u = k -> ∃ y, DataW.trod enc P w 0 (fun _ => true) true n u ((cs.drop o).take k) = some y := by
 obtain ⟨xs, n, _, _, hl, hlen, hf⟩ := DataW.trod_struct ht h
 refine ⟨n, hl, ?_⟩
 rintro i _ _ _ ⟨f, hi, rfl, rfl⟩ rfl
 have hlt : i < xs.length := by rw [hlen]; exact (Array.getElem?_eq_some_iff.1 hi).1
 exact ⟨xs[i], by rw [hf i f hi, List.getElem?_eq_getElem hlt]⟩
theorem qaw {α : Type} (cs : List α) (a b : Nat) : cs.drop a = (cs.drop a).take b ++ cs.drop (a + b) := by
 rw [<- List.drop_drop, List.take_append_drop]
theorem qd1 {α : Type} (cs : List α) (n : Nat) (h : cs.length = n) : cs.drop n = [] := List.drop_of_length_le (by omega)
end Go.Pk
namespace Go.Proofs.YtndbpedpdbjkpaaGreatDoor
open Go.Pk
open Go.ChangeShapes Go.WideShapes
theorem qc0 {H : Type} {enc : TypeId × Value -> H} {w : World} {fuel : Nat} {cs : List Value} {x : DataW H × List MemPlace} (h : DataW.trod enc prog w 0 (fun _ => true) true fuel ql cs = some x) : ∃ r : Rul, cs = rulC r := by
 obtain ⟨n, hl, hf⟩ := qbJ Tryz.underlying59 h
 have hl2 : cs.length = 2 := hl.trans (by kernel_rfl)
 obtain ⟨y0, h0⟩ := hf 0 qx 0 1 ⟨_, rfl, rfl, rfl⟩ (by kernel_rfl)
 obtain ⟨y1, h1⟩ := hf 1 qe 1 1 ⟨_, rfl, rfl, rfl⟩ (by kernel_rfl)
 obtain ⟨k, e0, _⟩ := qaE qN H enc w n _ _ h0
 obtain ⟨s, e1, _⟩ := qaG un_string H enc w n _ _ h1
 refine ⟨(k, s), ?_⟩
 have s0 := qaw cs 0 1
 have s1 := qaw cs 1 1
 rw [e0, List.drop_zero] at s0
 rw [e1, qd1 cs (1 + 1) hl2, List.append_nil] at s1
 rw [s0, s1]; rfl
theorem qc5 {H : Type} {enc : TypeId × Value -> H} {w : World} {n b off : Nat} (m : Nat)
   (hx : ∀ i, i < m -> ∃ cs, (∀ j, j < 2 -> w.cell? ⟨b, off + (i * 2 + j), none⟩ = cs[j]?) /\ ∃ y, DataW.trod enc prog w 0 (fun _ => true) true n ql cs = some y) :
   ∃ rs : List Rul, rs.length = m /\ At tRul w AllB b off rs := by
 induction m with
 | zero => exact ⟨[], rfl, [], RepL.nil _ _ _, fun j hj => by cases hj⟩
 | succ m ih =>
   obtain ⟨rs, hl, l, hr, hc⟩ := ih fun i hi => hx i (by omega)
   obtain ⟨cs, hcell, y, hy⟩ := hx m (by omega)
   obtain ⟨r, rfl⟩ := qc0 hy
   refine ⟨rs ++ [r], by rw [List.length_append, hl]; rfl, l ++ rulC r, hr.append (RepL.one (T := tRul) rfl), fun j hj => ?_⟩
   have hll : l.length = m * 2 := by rw [hr.len, hl]; rfl
   rw [List.length_append, hll, show (rulC r).length = 2 from rfl] at hj
   by_cases hlt : j < l.length
   · rw [List.getElem?_append_left hlt]; exact hc j hlt
   · rw [List.getElem?_append_right (by omega), <- hcell (j - l.length) (by omega), hll, show off + (m * 2 + (j - m * 2)) = off + j by omega]
theorem qcq {H : Type} {enc : TypeId × Value -> H} {w : World} {fuel : Nat} {v : Value} {x : DataW H × List MemPlace} (h : DataW.trod enc prog w 0 (fun _ => true) true fuel jw [v] = some x) :
   ∃ (a : Option Addr) (len cap : Nat) (rs : List Rul), v = .slice a len cap /\ Sl tRul w AllB a len cap rs /\ rs.length <= 9223372036854775807 := by
 rcases Go.Deep.open_slice qaQ h with ⟨e, _⟩ | ⟨a, len, cap, m, n, D, Pl, e, _, hlc, hcm, hm, _, hx⟩
 · obtain rfl : v = _ := by injection e
   exact ⟨none, 0, 0, [], rfl, Sl.nil _ _ _ _ _ (Nat.zero_le _), Nat.zero_le _⟩
 · obtain rfl : v = _ := by injection e
   have hmax : maxLen <= 9223372036854775807 := by unfold maxLen; decide
   rw [if_pos rfl] at hm
   subst hm
   rw [show prog.cellsOf ql = 2 by kernel_rfl] at hx
   by_cases h0 : len = 0
   · subst h0
     exact ⟨_, _, _, [], rfl, ⟨rfl, hlc, hcm, .inl rfl⟩, Nat.zero_le _⟩
   · obtain ⟨b, off, spot⟩ := a
     obtain ⟨c0, hc0, _⟩ := hx 0 (by omega)
     have hb := World.cells?_block hc0 (by decide)
     obtain ⟨_, hl0, hcc⟩ := World.cells?_some hc0
     have h00 := hcc 0 (by decide)
     rw [List.getElem?_eq_getElem (by omega)] at h00
     have hspot : spot = none := by simpa [Addr.add] using World.cell?_spot h00
     subst hspot
     obtain ⟨rs, hrl, hat⟩ := qc5 (b := b) (off := off) len fun i hi => by
       obtain ⟨cs, hcs, hy⟩ := hx i (by omega)
       obtain ⟨_, hl2, hce⟩ := World.cells?_some hcs
       refine ⟨cs, fun j hj => ?_, _, hy⟩
       rw [<- hce j hj, jZ, jZ, Nat.add_assoc]
     exact ⟨_, _, _, rs, rfl, ⟨hrl.symm, hlc, hcm, .inr ⟨b, off, rfl, (by rw [Nat.zero_mul, jZ] at hb; exact hb), trivial, hat⟩⟩, by omega⟩
end Go.Proofs.YtndbpedpdbjkpaaGreatDoor
namespace Go.Pk
open Go.ChangeShapes Go.WideShapes
theorem qfa {H : Type} {enc : TypeId × Value -> H} {P : Program} {w : World} {fuel : Nat} {t e : TypeId} {cs : List Value} {d : DataW H} {ps : List MemPlace} (ht : P.underlying t = some (.array 2 e)) (he : P.underlying e = some .string) (hk : P.cellsOf e = 1) (hc : P.cellsOf t = 2)
   (h : DataW.trod enc P w 0 (fun _ => true) true fuel t cs = some (d, ps)) : ∃ s r : List UInt8, cs = [.string (mkS s), .string (mkS r)] /\ d = .agg [.lit (.string s), .lit (.string r)] := by
 obtain ⟨xs, m, _, hx, hl, hn, hf⟩ := DataW.trod_array ht h
 rw [hc] at hl
 match cs, hl, xs, hn with
 | [c0, c1], _, [x0, x1], _ =>
   have h0 := hf 0 (by decide)
   have h1 := hf 1 (by decide)
   rw [hk] at h0 h1
   obtain ⟨s, e0, f0, _⟩ := DataW.trod_string he (show DataW.trod enc P w 0 (fun _ => true) true m e [c0] = some x0 from h0)
   obtain ⟨r, e1, f1, _⟩ := DataW.trod_string he (show DataW.trod enc P w 0 (fun _ => true) true m e [c1] = some x1 from h1)
   refine ⟨toL s, toL r, ?_, ?_⟩
   · rw [List.cons.inj e0 |>.1, List.cons.inj e1 |>.1]; rfl
   · have := congrArg Prod.fst hx
     rw [f0, f1] at this
     exact this
end Go.Pk
namespace Go.Pk
open Go.RowKit (Below)
theorem qb5 (h : Hst) : j8 h h = true := by
 have ha : ∀ l : List UInt8, adEq l l = true := fun l => by
   induction l with
   | nil => rfl
   | cons a l ih => simp [adEq, ih]
 unfold j8; rw [ha]; simp
theorem qeg (rs : List Rul) (u : Url) (h : Hdr) (now : Int) : ((takV rs u h now).2 ≠ 0 /\ (takV rs u h now).1 = cky0) \/
   ((takV rs u h now).2 = 0 /\ givV u h now = 0 /\ errV u h (domV rs u.host h.domain) = 0 /\ (takV rs u h now).1 = ckyV u h (domV rs u.host h.domain) now) := by
 unfold takV
 split
 · rename_i h1; exact .inl ⟨h1, rfl⟩
 · rename_i h1
   split
   · rename_i h2; exact .inl ⟨h2, rfl⟩
   · rename_i h2; exact .inr ⟨rfl, by simpa using h1, by simpa using h2, rfl⟩
theorem qiC {u : Url} {h : Hdr} {now : Int} (g : givV u h now = 0) : uRight u = true /\ qaT h = true /\ 0 <= now /\ now <= 1099511627776 := by
 unfold givV at g
 split at g
 · cases g
 split at g
 · cases g
 split at g
 · cases g
 split at g
 · cases g
 · rename_i h1 h2 h3 h4
   exact ⟨by simpa using h1, by simpa using h2, by omega, by omega⟩
theorem qdm {u : Url} {h : Hdr} {d : Hst × Bool × Int} (e : errV u h d = 0) : d.2.2 = 0 /\ (h.sec && !u.sec) = false /\ (decide (h.same = 1) && !h.sec) = false /\ qen h d.2.1 = false := by
 unfold errV at e
 split at e
 · exact absurd e (by assumption)
 split at e
 · cases e
 split at e
 · cases e
 split at e
 · cases e
 · rename_i h1 h2 h3 h4
   exact ⟨by simpa using h1, by simpa using h2, by simpa using h3, by simpa using h4⟩
theorem qh1 {u : Url} (h : uRight u = true) : zd u.host = true /\ pathB u.path = true := by
 unfold uRight at h
 simp only [Bool.and_eq_true] at h
 exact ⟨h.1, h.2.2.2⟩
theorem qk1 {rs : List Rul} {u : Hst} {t : List UInt8} (hu : zd u = true) (e : (domV rs u t).2.2 = 0) :
   ((domV rs u t).2.1 = true -> j8 (domV rs u t).1 u = true) /\ (pubB rs (domV rs u t).1 = true -> (domV rs u t).2.1 = true) /\ domB u (domV rs u t).1 = true := by
 unfold domV at e ⊢
 split
 · refine ⟨fun _ => qb5 u, fun _ => rfl, ?_⟩
   unfold domB; rw [hu, qb5]; rfl
 · rename_i ht
   rw [if_neg ht] at e
   cases hd : hostV t with
   | none => rw [hd] at e; cases e
   | some d =>
     rw [hd] at e
     simp only at e ⊢
     split
     · rename_i h1; rw [if_pos h1] at e; cases e
     · rename_i h1
       rw [if_neg h1] at e
       split
       · rename_i h2; rw [if_pos h2] at e; cases e
       · rename_i h2
         refine ⟨fun hp => ?_, fun hp => hp, by simpa using h2⟩
         have hp : pubB rs d = true := hp
         rw [hp, Bool.true_and] at h1
         simpa using h1
theorem qu3 {u : Url} {h : Hdr} {d : Hst × Bool × Int} {now : Int} (e : errV u h d = 0) : ((ckyV u h d now).sec && !u.sec) = false := (qdm e).2.1
theorem qu8 {u : Url} {h : Hdr} {d : Hst × Bool × Int} {now : Int} (e : errV u h d = 0) : (((ckyV u h d now).same == 1) && !(ckyV u h d now).sec) = false := by
 have := (qdm e).2.2.1
 rw [<- this]; rfl
theorem quz {u : Url} {h : Hdr} {d : Hst × Bool × Int} {now : Int} (e : errV u h d = 0) (hn : h.name ≠ []) (p : jF (ckyV u h d now).name = 1) : (ckyV u h d now).sec = true := by
 have hb := (qdm e).2.2.2
 have p : jF h.name = 1 := p
 unfold qen qdC at hb
 rw [if_neg hn, if_pos p] at hb
 exact (show h.sec = true by cases hs : h.sec <;> simp_all)
theorem quP {u : Url} {h : Hdr} {d : Hst × Bool × Int} {now : Int} (e : errV u h d = 0) (hn : h.name ≠ []) (p : jF (ckyV u h d now).name = 2) :
   (ckyV u h d now).sec = true /\ (ckyV u h d now).only = true /\ (ckyV u h d now).path = [47] := by
 have hb := (qdm e).2.2.2
 have p : jF h.name = 2 := p
 unfold qen qdC at hb
 rw [if_neg hn, p, if_neg (by decide), if_pos rfl] at hb
 simp only [Bool.or_eq_false_iff, Bool.not_eq_false'] at hb
 have hp : h.path = [47] := eq_of_beq hb.2.2
 refine ⟨hb.1, hb.2.1, ?_⟩
 show (if h.path = [] then defV u.path else h.path) = [47]
 rw [hp, if_neg (by decide)]
theorem qtp : jF [] = 0 := by decide
theorem qo0 {s : List UInt8} (h : jF s ≠ 0) : s ≠ [] := fun e => h (by rw [e]; exact qtp)
theorem qu2 {u : Url} {h : Hdr} {d : Hst × Bool × Int} {now : Int} (e : errV u h d = 0) (hn : h.name = []) (hp : jF h.value ≠ 0) : (ckyV u h d now).sec = true := by
 have hb := (qdm e).2.2.2
 unfold qen qdC at hb
 rw [if_pos hn] at hb
 by_cases p1 : jF h.value = 1
 · rw [if_pos p1] at hb; exact (show h.sec = true by cases hs : h.sec <;> simp_all)
 · have p2 : jF h.value = 2 := by
     unfold jF at hp p1 ⊢
     split at p1
     · exact absurd rfl p1
     · rename_i h1
       rw [if_neg h1] at hp ⊢
       split at hp
       · rename_i h2; rw [if_pos h2]
       · exact absurd rfl hp
   rw [if_neg p1, if_pos p2] at hb
   simp only [Bool.or_eq_false_iff, Bool.not_eq_false'] at hb
   exact hb.1
end Go.Pk
set_option maxRecDepth 100000
namespace Go.Proofs.YtndbpedpdbjkpaaGreatDoor
open Go.Pk
open Go.RowKit (Below)
--  cracknel/cracknellaw10.AdmitSafe
def qev (a0 : Option Addr) (l0 c0 : Nat) (s1_0 : List UInt8) (s1_1 : List UInt8) (n2 : Int) (w : World) (K : Value -> World -> Prop) : Prop :=
 ∀ k4 w4, k4 = w.heap.size -> w4 = w.alloc (.cells #[.string (mkS s1_0), .string (mkS s1_1)] qaI) ->
 Calls prog zT #[] w4 fun e12 w12 => ∃ b12, e12 = .returned (.bool b12) /\
 BCase (!b12)
 (K (.bool false) w12)
 (((0 <= (0 : Int) /\ (0 : Int) < ((2 : Nat) : Int)) /\ true = true) /\
 ∃ s16, Ld qe (qn (some ⟨k4, 0, none⟩) (0 : Int) 1) w12 (.string (mkS s16)) /\
 ((0 <= (1 : Int) /\ (1 : Int) < ((2 : Nat) : Int)) /\ true = true) /\
 ∃ s18, Ld qe (qn (some ⟨k4, 0, none⟩) (1 : Int) 1) w12 (.string (mkS s18)) /\
 Calls prog qae #[.string (mkS s16), .string (mkS s18)] w12 fun e19 w19 => ∃ v19_0 s19_1_0 s19_1_1 s19_1_2 s19_1_3 b19_1_4 n19_1_5 b19_1_6 n19_1_7 b19_1_8 b19_1_9 n19_1_10 b19_2, e19 = .returned (.tuple #[v19_0, (hV s19_1_0 s19_1_1 s19_1_2 s19_1_3 b19_1_4 n19_1_5 b19_1_6 n19_1_7 b19_1_8 b19_1_9 n19_1_10), .bool b19_2]) /\
 ∀ k7 w7, k7 = w19.heap.size -> w7 = w19.alloc (.cells z7 qg) ->
 ∀ k8 w8, k8 = w7.heap.size -> w8 = w7.alloc (.cells #[.string (mkS []), .string (mkS []), .string (mkS []), .string (mkS []), .bool false, .int .i64 (0 : Int), .bool false, .int .i64 (0 : Int), .bool false, .bool false, .int .i64 (0 : Int)] qd) ->
 ∃ wx, Sv qg (some ⟨k7, 0, none⟩) v19_0 w8 wx /\
 ∃ wx_1, Sv qd (some ⟨k8, 0, none⟩) (hV s19_1_0 s19_1_1 s19_1_2 s19_1_3 b19_1_4 n19_1_5 b19_1_6 n19_1_7 b19_1_8 b19_1_9 n19_1_10) wx wx_1 /\
 ∃ J : FP [],
 (((0 <= (0 : Int) /\ (0 : Int) < ((2 : Nat) : Int)) /\ true = true) /\
 ∃ s25, Ld qe (qn (some ⟨k4, 0, none⟩) (0 : Int) 1) wx_1 (.string (mkS s25)) /\
 ((0 <= (1 : Int) /\ (1 : Int) < ((2 : Nat) : Int)) /\ true = true) /\
 ∃ s27, Ld qe (qn (some ⟨k4, 0, none⟩) (1 : Int) 1) wx_1 (.string (mkS s27)) /\
 ∀ k28 w28, k28 = wx_1.heap.size -> w28 = wx_1.alloc (.cells #[.string (mkS s25), .string (mkS s27)] qe) ->
 Calls prog zr #[.slice a0 l0 c0, .slice (some ⟨k28, 0, none⟩) 2 2] w28 fun e29 w29 => ∃ b29, e29 = .returned (.bool b29) /\
 BCase (!b29)
 (K (.bool true) w29)
 (BCase (!b19_2)
 (K (.bool true) w29)
 (J w29))) /\
 AllJ 13 (∀ wj, J wj ->
 ∃ J_1 : FP [.one (.ptr), .one (.int .i64)],
 ((Calls prog qp #[.slice a0 l0 c0] (World.drew wj) fun e37 w37 => ∃ p37, e37 = .returned (.pointer p37) /\
 (∃ v38, Ld qg (some ⟨k7, 0, none⟩) w37 v38 /\
 (∃ s39_0 s39_1 s39_2 s39_3 b39_4 n39_5 b39_6 n39_7 b39_8 b39_9 n39_10, Ld qd (some ⟨k8, 0, none⟩) w37 (hV s39_0 s39_1 s39_2 s39_3 b39_4 n39_5 b39_6 n39_7 b39_8 b39_9 n39_10) /\
 (Calls prog qh #[.pointer p37, v38, (hV s39_0 s39_1 s39_2 s39_3 b39_4 n39_5 b39_6 n39_7 b39_8 b39_9 n39_10), .int .i64 n2] w37 fun e41 w41 => ∃ v41_0 n41_1, e41 = .returned (.tuple #[v41_0, .int .i64 n41_1]) /\
 ∀ k10 w10, k10 = w41.heap.size -> w10 = w41.alloc (.cells qj qa) ->
 ∃ wx_2, Sv qa (some ⟨k10, 0, none⟩) v41_0 w10 wx_2 /\
 J_1 (some ⟨k10, 0, none⟩) n41_1 wx_2) /\
 ∀ k10_1 w10_1, k10_1 = w37.heap.size -> w10_1 = w37.alloc (.cells qj qa) ->
 Calls prog qh #[.pointer p37, v38, (hV s39_0 s39_1 s39_2 s39_3 b39_4 n39_5 b39_6 n39_7 b39_8 b39_9 n39_10), .int .i64 n2] w10_1 fun e41_1 w41_1 => ∃ v41_0_1 n41_1_1, e41_1 = .returned (.tuple #[v41_0_1, .int .i64 n41_1_1]) /\
 ∃ wx_3, Sv qa (some ⟨k10_1, 0, none⟩) v41_0_1 w41_1 wx_3 /\
 J_1 (some ⟨k10_1, 0, none⟩) n41_1_1 wx_3) /\
 ∀ k10_2 w10_2, k10_2 = w37.heap.size -> w10_2 = w37.alloc (.cells qj qa) ->
 ∃ s39_0_1 s39_1_1 s39_2_1 s39_3_1 b39_4_1 n39_5_1 b39_6_1 n39_7_1 b39_8_1 b39_9_1 n39_10_1, Ld qd (some ⟨k8, 0, none⟩) w10_2 (hV s39_0_1 s39_1_1 s39_2_1 s39_3_1 b39_4_1 n39_5_1 b39_6_1 n39_7_1 b39_8_1 b39_9_1 n39_10_1) /\
 Calls prog qh #[.pointer p37, v38, (hV s39_0_1 s39_1_1 s39_2_1 s39_3_1 b39_4_1 n39_5_1 b39_6_1 n39_7_1 b39_8_1 b39_9_1 n39_10_1), .int .i64 n2] w10_2 fun e41_2 w41_2 => ∃ v41_0_2 n41_1_2, e41_2 = .returned (.tuple #[v41_0_2, .int .i64 n41_1_2]) /\
 ∃ wx_4, Sv qa (some ⟨k10_2, 0, none⟩) v41_0_2 w41_2 wx_4 /\
 J_1 (some ⟨k10_2, 0, none⟩) n41_1_2 wx_4) /\
 (∃ s39_0_2 s39_1_2 s39_2_2 s39_3_2 b39_4_2 n39_5_2 b39_6_2 n39_7_2 b39_8_2 b39_9_2 n39_10_2, Ld qd (some ⟨k8, 0, none⟩) w37 (hV s39_0_2 s39_1_2 s39_2_2 s39_3_2 b39_4_2 n39_5_2 b39_6_2 n39_7_2 b39_8_2 b39_9_2 n39_10_2) /\
 (∃ v38_1, Ld qg (some ⟨k7, 0, none⟩) w37 v38_1 /\
 (Calls prog qh #[.pointer p37, v38_1, (hV s39_0_2 s39_1_2 s39_2_2 s39_3_2 b39_4_2 n39_5_2 b39_6_2 n39_7_2 b39_8_2 b39_9_2 n39_10_2), .int .i64 n2] w37 fun e41_3 w41_3 => ∃ v41_0_3 n41_1_3, e41_3 = .returned (.tuple #[v41_0_3, .int .i64 n41_1_3]) /\
 ∀ k10_3 w10_3, k10_3 = w41_3.heap.size -> w10_3 = w41_3.alloc (.cells qj qa) ->
 ∃ wx_5, Sv qa (some ⟨k10_3, 0, none⟩) v41_0_3 w10_3 wx_5 /\
 J_1 (some ⟨k10_3, 0, none⟩) n41_1_3 wx_5) /\
 ∀ k10_4 w10_4, k10_4 = w37.heap.size -> w10_4 = w37.alloc (.cells qj qa) ->
 Calls prog qh #[.pointer p37, v38_1, (hV s39_0_2 s39_1_2 s39_2_2 s39_3_2 b39_4_2 n39_5_2 b39_6_2 n39_7_2 b39_8_2 b39_9_2 n39_10_2), .int .i64 n2] w10_4 fun e41_4 w41_4 => ∃ v41_0_4 n41_1_4, e41_4 = .returned (.tuple #[v41_0_4, .int .i64 n41_1_4]) /\
 ∃ wx_6, Sv qa (some ⟨k10_4, 0, none⟩) v41_0_4 w41_4 wx_6 /\
 J_1 (some ⟨k10_4, 0, none⟩) n41_1_4 wx_6) /\
 ∀ k10_5 w10_5, k10_5 = w37.heap.size -> w10_5 = w37.alloc (.cells qj qa) ->
 ∃ v38_2, Ld qg (some ⟨k7, 0, none⟩) w10_5 v38_2 /\
 Calls prog qh #[.pointer p37, v38_2, (hV s39_0_2 s39_1_2 s39_2_2 s39_3_2 b39_4_2 n39_5_2 b39_6_2 n39_7_2 b39_8_2 b39_9_2 n39_10_2), .int .i64 n2] w10_5 fun e41_5 w41_5 => ∃ v41_0_5 n41_1_5, e41_5 = .returned (.tuple #[v41_0_5, .int .i64 n41_1_5]) /\
 ∃ wx_7, Sv qa (some ⟨k10_5, 0, none⟩) v41_0_5 w41_5 wx_7 /\
 J_1 (some ⟨k10_5, 0, none⟩) n41_1_5 wx_7) /\
 ∀ k10_6 w10_6, k10_6 = w37.heap.size -> w10_6 = w37.alloc (.cells qj qa) ->
 (∃ v38_3, Ld qg (some ⟨k7, 0, none⟩) w10_6 v38_3 /\
 ∃ s39_0_3 s39_1_3 s39_2_3 s39_3_3 b39_4_3 n39_5_3 b39_6_3 n39_7_3 b39_8_3 b39_9_3 n39_10_3, Ld qd (some ⟨k8, 0, none⟩) w10_6 (hV s39_0_3 s39_1_3 s39_2_3 s39_3_3 b39_4_3 n39_5_3 b39_6_3 n39_7_3 b39_8_3 b39_9_3 n39_10_3) /\
 Calls prog qh #[.pointer p37, v38_3, (hV s39_0_3 s39_1_3 s39_2_3 s39_3_3 b39_4_3 n39_5_3 b39_6_3 n39_7_3 b39_8_3 b39_9_3 n39_10_3), .int .i64 n2] w10_6 fun e41_6 w41_6 => ∃ v41_0_6 n41_1_6, e41_6 = .returned (.tuple #[v41_0_6, .int .i64 n41_1_6]) /\
 ∃ wx_8, Sv qa (some ⟨k10_6, 0, none⟩) v41_0_6 w41_6 wx_8 /\
 J_1 (some ⟨k10_6, 0, none⟩) n41_1_6 wx_8) /\
 ∃ s39_0_4 s39_1_4 s39_2_4 s39_3_4 b39_4_4 n39_5_4 b39_6_4 n39_7_4 b39_8_4 b39_9_4 n39_10_4, Ld qd (some ⟨k8, 0, none⟩) w10_6 (hV s39_0_4 s39_1_4 s39_2_4 s39_3_4 b39_4_4 n39_5_4 b39_6_4 n39_7_4 b39_8_4 b39_9_4 n39_10_4) /\
 ∃ v38_4, Ld qg (some ⟨k7, 0, none⟩) w10_6 v38_4 /\
 Calls prog qh #[.pointer p37, v38_4, (hV s39_0_4 s39_1_4 s39_2_4 s39_3_4 b39_4_4 n39_5_4 b39_6_4 n39_7_4 b39_8_4 b39_9_4 n39_10_4), .int .i64 n2] w10_6 fun e41_7 w41_7 => ∃ v41_0_7 n41_1_7, e41_7 = .returned (.tuple #[v41_0_7, .int .i64 n41_1_7]) /\
 ∃ wx_9, Sv qa (some ⟨k10_6, 0, none⟩) v41_0_7 w41_7 wx_9 /\
 J_1 (some ⟨k10_6, 0, none⟩) n41_1_7 wx_9) /\
 (∃ v38_5, Ld qg (some ⟨k7, 0, none⟩) (World.drew wj) v38_5 /\
 (Calls prog qp #[.slice a0 l0 c0] (World.drew wj) fun e37_1 w37_1 => ∃ p37_1, e37_1 = .returned (.pointer p37_1) /\
 (∃ s39_0_5 s39_1_5 s39_2_5 s39_3_5 b39_4_5 n39_5_5 b39_6_5 n39_7_5 b39_8_5 b39_9_5 n39_10_5, Ld qd (some ⟨k8, 0, none⟩) w37_1 (hV s39_0_5 s39_1_5 s39_2_5 s39_3_5 b39_4_5 n39_5_5 b39_6_5 n39_7_5 b39_8_5 b39_9_5 n39_10_5) /\
 (Calls prog qh #[.pointer p37_1, v38_5, (hV s39_0_5 s39_1_5 s39_2_5 s39_3_5 b39_4_5 n39_5_5 b39_6_5 n39_7_5 b39_8_5 b39_9_5 n39_10_5), .int .i64 n2] w37_1 fun e41_8 w41_8 => ∃ v41_0_8 n41_1_8, e41_8 = .returned (.tuple #[v41_0_8, .int .i64 n41_1_8]) /\
 ∀ k10_7 w10_7, k10_7 = w41_8.heap.size -> w10_7 = w41_8.alloc (.cells qj qa) ->
 ∃ wx_10, Sv qa (some ⟨k10_7, 0, none⟩) v41_0_8 w10_7 wx_10 /\
 J_1 (some ⟨k10_7, 0, none⟩) n41_1_8 wx_10) /\
 ∀ k10_8 w10_8, k10_8 = w37_1.heap.size -> w10_8 = w37_1.alloc (.cells qj qa) ->
 Calls prog qh #[.pointer p37_1, v38_5, (hV s39_0_5 s39_1_5 s39_2_5 s39_3_5 b39_4_5 n39_5_5 b39_6_5 n39_7_5 b39_8_5 b39_9_5 n39_10_5), .int .i64 n2] w10_8 fun e41_9 w41_9 => ∃ v41_0_9 n41_1_9, e41_9 = .returned (.tuple #[v41_0_9, .int .i64 n41_1_9]) /\
 ∃ wx_11, Sv qa (some ⟨k10_8, 0, none⟩) v41_0_9 w41_9 wx_11 /\
 J_1 (some ⟨k10_8, 0, none⟩) n41_1_9 wx_11) /\
 ∀ k10_9 w10_9, k10_9 = w37_1.heap.size -> w10_9 = w37_1.alloc (.cells qj qa) ->
 ∃ s39_0_6 s39_1_6 s39_2_6 s39_3_6 b39_4_6 n39_5_6 b39_6_6 n39_7_6 b39_8_6 b39_9_6 n39_10_6, Ld qd (some ⟨k8, 0, none⟩) w10_9 (hV s39_0_6 s39_1_6 s39_2_6 s39_3_6 b39_4_6 n39_5_6 b39_6_6 n39_7_6 b39_8_6 b39_9_6 n39_10_6) /\
 Calls prog qh #[.pointer p37_1, v38_5, (hV s39_0_6 s39_1_6 s39_2_6 s39_3_6 b39_4_6 n39_5_6 b39_6_6 n39_7_6 b39_8_6 b39_9_6 n39_10_6), .int .i64 n2] w10_9 fun e41_10 w41_10 => ∃ v41_0_10 n41_1_10, e41_10 = .returned (.tuple #[v41_0_10, .int .i64 n41_1_10]) /\
 ∃ wx_12, Sv qa (some ⟨k10_9, 0, none⟩) v41_0_10 w41_10 wx_12 /\
 J_1 (some ⟨k10_9, 0, none⟩) n41_1_10 wx_12) /\
 (∃ s39_0_7 s39_1_7 s39_2_7 s39_3_7 b39_4_7 n39_5_7 b39_6_7 n39_7_7 b39_8_7 b39_9_7 n39_10_7, Ld qd (some ⟨k8, 0, none⟩) (World.drew wj) (hV s39_0_7 s39_1_7 s39_2_7 s39_3_7 b39_4_7 n39_5_7 b39_6_7 n39_7_7 b39_8_7 b39_9_7 n39_10_7) /\
 (Calls prog qp #[.slice a0 l0 c0] (World.drew wj) fun e37_2 w37_2 => ∃ p37_2, e37_2 = .returned (.pointer p37_2) /\
 (Calls prog qh #[.pointer p37_2, v38_5, (hV s39_0_7 s39_1_7 s39_2_7 s39_3_7 b39_4_7 n39_5_7 b39_6_7 n39_7_7 b39_8_7 b39_9_7 n39_10_7), .int .i64 n2] w37_2 fun e41_11 w41_11 => ∃ v41_0_11 n41_1_11, e41_11 = .returned (.tuple #[v41_0_11, .int .i64 n41_1_11]) /\
 ∀ k10_10 w10_10, k10_10 = w41_11.heap.size -> w10_10 = w41_11.alloc (.cells qj qa) ->
 ∃ wx_13, Sv qa (some ⟨k10_10, 0, none⟩) v41_0_11 w10_10 wx_13 /\
 J_1 (some ⟨k10_10, 0, none⟩) n41_1_11 wx_13) /\
 ∀ k10_11 w10_11, k10_11 = w37_2.heap.size -> w10_11 = w37_2.alloc (.cells qj qa) ->
 Calls prog qh #[.pointer p37_2, v38_5, (hV s39_0_7 s39_1_7 s39_2_7 s39_3_7 b39_4_7 n39_5_7 b39_6_7 n39_7_7 b39_8_7 b39_9_7 n39_10_7), .int .i64 n2] w10_11 fun e41_12 w41_12 => ∃ v41_0_12 n41_1_12, e41_12 = .returned (.tuple #[v41_0_12, .int .i64 n41_1_12]) /\
 ∃ wx_14, Sv qa (some ⟨k10_11, 0, none⟩) v41_0_12 w41_12 wx_14 /\
 J_1 (some ⟨k10_11, 0, none⟩) n41_1_12 wx_14) /\
 ∀ k10_12 w10_12, k10_12 = (World.drew wj).heap.size -> w10_12 = (World.drew wj).alloc (.cells qj qa) ->
 Calls prog qp #[.slice a0 l0 c0] w10_12 fun e37_3 w37_3 => ∃ p37_3, e37_3 = .returned (.pointer p37_3) /\
 Calls prog qh #[.pointer p37_3, v38_5, (hV s39_0_7 s39_1_7 s39_2_7 s39_3_7 b39_4_7 n39_5_7 b39_6_7 n39_7_7 b39_8_7 b39_9_7 n39_10_7), .int .i64 n2] w37_3 fun e41_13 w41_13 => ∃ v41_0_13 n41_1_13, e41_13 = .returned (.tuple #[v41_0_13, .int .i64 n41_1_13]) /\
 ∃ wx_15, Sv qa (some ⟨k10_12, 0, none⟩) v41_0_13 w41_13 wx_15 /\
 J_1 (some ⟨k10_12, 0, none⟩) n41_1_13 wx_15) /\
 ∀ k10_13 w10_13, k10_13 = (World.drew wj).heap.size -> w10_13 = (World.drew wj).alloc (.cells qj qa) ->
 (Calls prog qp #[.slice a0 l0 c0] w10_13 fun e37_4 w37_4 => ∃ p37_4, e37_4 = .returned (.pointer p37_4) /\
 ∃ s39_0_8 s39_1_8 s39_2_8 s39_3_8 b39_4_8 n39_5_8 b39_6_8 n39_7_8 b39_8_8 b39_9_8 n39_10_8, Ld qd (some ⟨k8, 0, none⟩) w37_4 (hV s39_0_8 s39_1_8 s39_2_8 s39_3_8 b39_4_8 n39_5_8 b39_6_8 n39_7_8 b39_8_8 b39_9_8 n39_10_8) /\
 Calls prog qh #[.pointer p37_4, v38_5, (hV s39_0_8 s39_1_8 s39_2_8 s39_3_8 b39_4_8 n39_5_8 b39_6_8 n39_7_8 b39_8_8 b39_9_8 n39_10_8), .int .i64 n2] w37_4 fun e41_14 w41_14 => ∃ v41_0_14 n41_1_14, e41_14 = .returned (.tuple #[v41_0_14, .int .i64 n41_1_14]) /\
 ∃ wx_16, Sv qa (some ⟨k10_13, 0, none⟩) v41_0_14 w41_14 wx_16 /\
 J_1 (some ⟨k10_13, 0, none⟩) n41_1_14 wx_16) /\
 ∃ s39_0_9 s39_1_9 s39_2_9 s39_3_9 b39_4_9 n39_5_9 b39_6_9 n39_7_9 b39_8_9 b39_9_9 n39_10_9, Ld qd (some ⟨k8, 0, none⟩) w10_13 (hV s39_0_9 s39_1_9 s39_2_9 s39_3_9 b39_4_9 n39_5_9 b39_6_9 n39_7_9 b39_8_9 b39_9_9 n39_10_9) /\
 Calls prog qp #[.slice a0 l0 c0] w10_13 fun e37_5 w37_5 => ∃ p37_5, e37_5 = .returned (.pointer p37_5) /\
 Calls prog qh #[.pointer p37_5, v38_5, (hV s39_0_9 s39_1_9 s39_2_9 s39_3_9 b39_4_9 n39_5_9 b39_6_9 n39_7_9 b39_8_9 b39_9_9 n39_10_9), .int .i64 n2] w37_5 fun e41_15 w41_15 => ∃ v41_0_15 n41_1_15, e41_15 = .returned (.tuple #[v41_0_15, .int .i64 n41_1_15]) /\
 ∃ wx_17, Sv qa (some ⟨k10_13, 0, none⟩) v41_0_15 w41_15 wx_17 /\
 J_1 (some ⟨k10_13, 0, none⟩) n41_1_15 wx_17) /\
 (∃ s39_0_10 s39_1_10 s39_2_10 s39_3_10 b39_4_10 n39_5_10 b39_6_10 n39_7_10 b39_8_10 b39_9_10 n39_10_10, Ld qd (some ⟨k8, 0, none⟩) (World.drew wj) (hV s39_0_10 s39_1_10 s39_2_10 s39_3_10 b39_4_10 n39_5_10 b39_6_10 n39_7_10 b39_8_10 b39_9_10 n39_10_10) /\
 (Calls prog qp #[.slice a0 l0 c0] (World.drew wj) fun e37_6 w37_6 => ∃ p37_6, e37_6 = .returned (.pointer p37_6) /\
 (∃ v38_6, Ld qg (some ⟨k7, 0, none⟩) w37_6 v38_6 /\
 (Calls prog qh #[.pointer p37_6, v38_6, (hV s39_0_10 s39_1_10 s39_2_10 s39_3_10 b39_4_10 n39_5_10 b39_6_10 n39_7_10 b39_8_10 b39_9_10 n39_10_10), .int .i64 n2] w37_6 fun e41_16 w41_16 => ∃ v41_0_16 n41_1_16, e41_16 = .returned (.tuple #[v41_0_16, .int .i64 n41_1_16]) /\
 ∀ k10_14 w10_14, k10_14 = w41_16.heap.size -> w10_14 = w41_16.alloc (.cells qj qa) ->
 ∃ wx_18, Sv qa (some ⟨k10_14, 0, none⟩) v41_0_16 w10_14 wx_18 /\
 J_1 (some ⟨k10_14, 0, none⟩) n41_1_16 wx_18) /\
 ∀ k10_15 w10_15, k10_15 = w37_6.heap.size -> w10_15 = w37_6.alloc (.cells qj qa) ->
 Calls prog qh #[.pointer p37_6, v38_6, (hV s39_0_10 s39_1_10 s39_2_10 s39_3_10 b39_4_10 n39_5_10 b39_6_10 n39_7_10 b39_8_10 b39_9_10 n39_10_10), .int .i64 n2] w10_15 fun e41_17 w41_17 => ∃ v41_0_17 n41_1_17, e41_17 = .returned (.tuple #[v41_0_17, .int .i64 n41_1_17]) /\
 ∃ wx_19, Sv qa (some ⟨k10_15, 0, none⟩) v41_0_17 w41_17 wx_19 /\
 J_1 (some ⟨k10_15, 0, none⟩) n41_1_17 wx_19) /\
 ∀ k10_16 w10_16, k10_16 = w37_6.heap.size -> w10_16 = w37_6.alloc (.cells qj qa) ->
 ∃ v38_7, Ld qg (some ⟨k7, 0, none⟩) w10_16 v38_7 /\
 Calls prog qh #[.pointer p37_6, v38_7, (hV s39_0_10 s39_1_10 s39_2_10 s39_3_10 b39_4_10 n39_5_10 b39_6_10 n39_7_10 b39_8_10 b39_9_10 n39_10_10), .int .i64 n2] w10_16 fun e41_18 w41_18 => ∃ v41_0_18 n41_1_18, e41_18 = .returned (.tuple #[v41_0_18, .int .i64 n41_1_18]) /\
 ∃ wx_20, Sv qa (some ⟨k10_16, 0, none⟩) v41_0_18 w41_18 wx_20 /\
 J_1 (some ⟨k10_16, 0, none⟩) n41_1_18 wx_20) /\
 (∃ v38_8, Ld qg (some ⟨k7, 0, none⟩) (World.drew wj) v38_8 /\
 (Calls prog qp #[.slice a0 l0 c0] (World.drew wj) fun e37_7 w37_7 => ∃ p37_7, e37_7 = .returned (.pointer p37_7) /\
 (Calls prog qh #[.pointer p37_7, v38_8, (hV s39_0_10 s39_1_10 s39_2_10 s39_3_10 b39_4_10 n39_5_10 b39_6_10 n39_7_10 b39_8_10 b39_9_10 n39_10_10), .int .i64 n2] w37_7 fun e41_19 w41_19 => ∃ v41_0_19 n41_1_19, e41_19 = .returned (.tuple #[v41_0_19, .int .i64 n41_1_19]) /\
 ∀ k10_17 w10_17, k10_17 = w41_19.heap.size -> w10_17 = w41_19.alloc (.cells qj qa) ->
 ∃ wx_21, Sv qa (some ⟨k10_17, 0, none⟩) v41_0_19 w10_17 wx_21 /\
 J_1 (some ⟨k10_17, 0, none⟩) n41_1_19 wx_21) /\
 ∀ k10_18 w10_18, k10_18 = w37_7.heap.size -> w10_18 = w37_7.alloc (.cells qj qa) ->
 Calls prog qh #[.pointer p37_7, v38_8, (hV s39_0_10 s39_1_10 s39_2_10 s39_3_10 b39_4_10 n39_5_10 b39_6_10 n39_7_10 b39_8_10 b39_9_10 n39_10_10), .int .i64 n2] w10_18 fun e41_20 w41_20 => ∃ v41_0_20 n41_1_20, e41_20 = .returned (.tuple #[v41_0_20, .int .i64 n41_1_20]) /\
 ∃ wx_22, Sv qa (some ⟨k10_18, 0, none⟩) v41_0_20 w41_20 wx_22 /\
 J_1 (some ⟨k10_18, 0, none⟩) n41_1_20 wx_22) /\
 ∀ k10_19 w10_19, k10_19 = (World.drew wj).heap.size -> w10_19 = (World.drew wj).alloc (.cells qj qa) ->
 Calls prog qp #[.slice a0 l0 c0] w10_19 fun e37_8 w37_8 => ∃ p37_8, e37_8 = .returned (.pointer p37_8) /\
 Calls prog qh #[.pointer p37_8, v38_8, (hV s39_0_10 s39_1_10 s39_2_10 s39_3_10 b39_4_10 n39_5_10 b39_6_10 n39_7_10 b39_8_10 b39_9_10 n39_10_10), .int .i64 n2] w37_8 fun e41_21 w41_21 => ∃ v41_0_21 n41_1_21, e41_21 = .returned (.tuple #[v41_0_21, .int .i64 n41_1_21]) /\
 ∃ wx_23, Sv qa (some ⟨k10_19, 0, none⟩) v41_0_21 w41_21 wx_23 /\
 J_1 (some ⟨k10_19, 0, none⟩) n41_1_21 wx_23) /\
 ∀ k10_20 w10_20, k10_20 = (World.drew wj).heap.size -> w10_20 = (World.drew wj).alloc (.cells qj qa) ->
 (Calls prog qp #[.slice a0 l0 c0] w10_20 fun e37_9 w37_9 => ∃ p37_9, e37_9 = .returned (.pointer p37_9) /\
 ∃ v38_9, Ld qg (some ⟨k7, 0, none⟩) w37_9 v38_9 /\
 Calls prog qh #[.pointer p37_9, v38_9, (hV s39_0_10 s39_1_10 s39_2_10 s39_3_10 b39_4_10 n39_5_10 b39_6_10 n39_7_10 b39_8_10 b39_9_10 n39_10_10), .int .i64 n2] w37_9 fun e41_22 w41_22 => ∃ v41_0_22 n41_1_22, e41_22 = .returned (.tuple #[v41_0_22, .int .i64 n41_1_22]) /\
 ∃ wx_24, Sv qa (some ⟨k10_20, 0, none⟩) v41_0_22 w41_22 wx_24 /\
 J_1 (some ⟨k10_20, 0, none⟩) n41_1_22 wx_24) /\
 ∃ v38_10, Ld qg (some ⟨k7, 0, none⟩) w10_20 v38_10 /\
 Calls prog qp #[.slice a0 l0 c0] w10_20 fun e37_10 w37_10 => ∃ p37_10, e37_10 = .returned (.pointer p37_10) /\
 Calls prog qh #[.pointer p37_10, v38_10, (hV s39_0_10 s39_1_10 s39_2_10 s39_3_10 b39_4_10 n39_5_10 b39_6_10 n39_7_10 b39_8_10 b39_9_10 n39_10_10), .int .i64 n2] w37_10 fun e41_23 w41_23 => ∃ v41_0_23 n41_1_23, e41_23 = .returned (.tuple #[v41_0_23, .int .i64 n41_1_23]) /\
 ∃ wx_25, Sv qa (some ⟨k10_20, 0, none⟩) v41_0_23 w41_23 wx_25 /\
 J_1 (some ⟨k10_20, 0, none⟩) n41_1_23 wx_25) /\
 ∀ k10_21 w10_21, k10_21 = (World.drew wj).heap.size -> w10_21 = (World.drew wj).alloc (.cells qj qa) ->
 (Calls prog qp #[.slice a0 l0 c0] w10_21 fun e37_11 w37_11 => ∃ p37_11, e37_11 = .returned (.pointer p37_11) /\
 (∃ v38_11, Ld qg (some ⟨k7, 0, none⟩) w37_11 v38_11 /\
 ∃ s39_0_11 s39_1_11 s39_2_11 s39_3_11 b39_4_11 n39_5_11 b39_6_11 n39_7_11 b39_8_11 b39_9_11 n39_10_11, Ld qd (some ⟨k8, 0, none⟩) w37_11 (hV s39_0_11 s39_1_11 s39_2_11 s39_3_11 b39_4_11 n39_5_11 b39_6_11 n39_7_11 b39_8_11 b39_9_11 n39_10_11) /\
 Calls prog qh #[.pointer p37_11, v38_11, (hV s39_0_11 s39_1_11 s39_2_11 s39_3_11 b39_4_11 n39_5_11 b39_6_11 n39_7_11 b39_8_11 b39_9_11 n39_10_11), .int .i64 n2] w37_11 fun e41_24 w41_24 => ∃ v41_0_24 n41_1_24, e41_24 = .returned (.tuple #[v41_0_24, .int .i64 n41_1_24]) /\
 ∃ wx_26, Sv qa (some ⟨k10_21, 0, none⟩) v41_0_24 w41_24 wx_26 /\
 J_1 (some ⟨k10_21, 0, none⟩) n41_1_24 wx_26) /\
 ∃ s39_0_12 s39_1_12 s39_2_12 s39_3_12 b39_4_12 n39_5_12 b39_6_12 n39_7_12 b39_8_12 b39_9_12 n39_10_12, Ld qd (some ⟨k8, 0, none⟩) w37_11 (hV s39_0_12 s39_1_12 s39_2_12 s39_3_12 b39_4_12 n39_5_12 b39_6_12 n39_7_12 b39_8_12 b39_9_12 n39_10_12) /\
 ∃ v38_12, Ld qg (some ⟨k7, 0, none⟩) w37_11 v38_12 /\
 Calls prog qh #[.pointer p37_11, v38_12, (hV s39_0_12 s39_1_12 s39_2_12 s39_3_12 b39_4_12 n39_5_12 b39_6_12 n39_7_12 b39_8_12 b39_9_12 n39_10_12), .int .i64 n2] w37_11 fun e41_25 w41_25 => ∃ v41_0_25 n41_1_25, e41_25 = .returned (.tuple #[v41_0_25, .int .i64 n41_1_25]) /\
 ∃ wx_27, Sv qa (some ⟨k10_21, 0, none⟩) v41_0_25 w41_25 wx_27 /\
 J_1 (some ⟨k10_21, 0, none⟩) n41_1_25 wx_27) /\
 (∃ v38_13, Ld qg (some ⟨k7, 0, none⟩) w10_21 v38_13 /\
 (Calls prog qp #[.slice a0 l0 c0] w10_21 fun e37_12 w37_12 => ∃ p37_12, e37_12 = .returned (.pointer p37_12) /\
 ∃ s39_0_13 s39_1_13 s39_2_13 s39_3_13 b39_4_13 n39_5_13 b39_6_13 n39_7_13 b39_8_13 b39_9_13 n39_10_13, Ld qd (some ⟨k8, 0, none⟩) w37_12 (hV s39_0_13 s39_1_13 s39_2_13 s39_3_13 b39_4_13 n39_5_13 b39_6_13 n39_7_13 b39_8_13 b39_9_13 n39_10_13) /\
 Calls prog qh #[.pointer p37_12, v38_13, (hV s39_0_13 s39_1_13 s39_2_13 s39_3_13 b39_4_13 n39_5_13 b39_6_13 n39_7_13 b39_8_13 b39_9_13 n39_10_13), .int .i64 n2] w37_12 fun e41_26 w41_26 => ∃ v41_0_26 n41_1_26, e41_26 = .returned (.tuple #[v41_0_26, .int .i64 n41_1_26]) /\
 ∃ wx_28, Sv qa (some ⟨k10_21, 0, none⟩) v41_0_26 w41_26 wx_28 /\
 J_1 (some ⟨k10_21, 0, none⟩) n41_1_26 wx_28) /\
 ∃ s39_0_14 s39_1_14 s39_2_14 s39_3_14 b39_4_14 n39_5_14 b39_6_14 n39_7_14 b39_8_14 b39_9_14 n39_10_14, Ld qd (some ⟨k8, 0, none⟩) w10_21 (hV s39_0_14 s39_1_14 s39_2_14 s39_3_14 b39_4_14 n39_5_14 b39_6_14 n39_7_14 b39_8_14 b39_9_14 n39_10_14) /\
 Calls prog qp #[.slice a0 l0 c0] w10_21 fun e37_13 w37_13 => ∃ p37_13, e37_13 = .returned (.pointer p37_13) /\
 Calls prog qh #[.pointer p37_13, v38_13, (hV s39_0_14 s39_1_14 s39_2_14 s39_3_14 b39_4_14 n39_5_14 b39_6_14 n39_7_14 b39_8_14 b39_9_14 n39_10_14), .int .i64 n2] w37_13 fun e41_27 w41_27 => ∃ v41_0_27 n41_1_27, e41_27 = .returned (.tuple #[v41_0_27, .int .i64 n41_1_27]) /\
 ∃ wx_29, Sv qa (some ⟨k10_21, 0, none⟩) v41_0_27 w41_27 wx_29 /\
 J_1 (some ⟨k10_21, 0, none⟩) n41_1_27 wx_29) /\
 ∃ s39_0_15 s39_1_15 s39_2_15 s39_3_15 b39_4_15 n39_5_15 b39_6_15 n39_7_15 b39_8_15 b39_9_15 n39_10_15, Ld qd (some ⟨k8, 0, none⟩) w10_21 (hV s39_0_15 s39_1_15 s39_2_15 s39_3_15 b39_4_15 n39_5_15 b39_6_15 n39_7_15 b39_8_15 b39_9_15 n39_10_15) /\
 (Calls prog qp #[.slice a0 l0 c0] w10_21 fun e37_14 w37_14 => ∃ p37_14, e37_14 = .returned (.pointer p37_14) /\
 ∃ v38_14, Ld qg (some ⟨k7, 0, none⟩) w37_14 v38_14 /\
 Calls prog qh #[.pointer p37_14, v38_14, (hV s39_0_15 s39_1_15 s39_2_15 s39_3_15 b39_4_15 n39_5_15 b39_6_15 n39_7_15 b39_8_15 b39_9_15 n39_10_15), .int .i64 n2] w37_14 fun e41_28 w41_28 => ∃ v41_0_28 n41_1_28, e41_28 = .returned (.tuple #[v41_0_28, .int .i64 n41_1_28]) /\
 ∃ wx_30, Sv qa (some ⟨k10_21, 0, none⟩) v41_0_28 w41_28 wx_30 /\
 J_1 (some ⟨k10_21, 0, none⟩) n41_1_28 wx_30) /\
 ∃ v38_15, Ld qg (some ⟨k7, 0, none⟩) w10_21 v38_15 /\
 Calls prog qp #[.slice a0 l0 c0] w10_21 fun e37_15 w37_15 => ∃ p37_15, e37_15 = .returned (.pointer p37_15) /\
 Calls prog qh #[.pointer p37_15, v38_15, (hV s39_0_15 s39_1_15 s39_2_15 s39_3_15 b39_4_15 n39_5_15 b39_6_15 n39_7_15 b39_8_15 b39_9_15 n39_10_15), .int .i64 n2] w37_15 fun e41_29 w41_29 => ∃ v41_0_29 n41_1_29, e41_29 = .returned (.tuple #[v41_0_29, .int .i64 n41_1_29]) /\
 ∃ wx_31, Sv qa (some ⟨k10_21, 0, none⟩) v41_0_29 w41_29 wx_31 /\
 J_1 (some ⟨k10_21, 0, none⟩) n41_1_29 wx_31) /\
 ∀ p10 n11, AllJ 9 (∀ wj_1, J_1 p10 n11 wj_1 ->
 BCase (n11 != (0 : Int))
 (∃ v46, Ld qa p10 wj_1 v46 /\
 ∃ b48, ((do eqGuard .eql qa (.tmp 46) (.tmp 47) v46 (.agg qj); binOp .eql qa v46 (.agg qj) : Sem Value)).run prog wj_1 = .ok (.bool b48) wj_1 /\
 K (.bool b48) wj_1)
 (∃ J_2 : FP [],
 ((Option.isSome p10 = true) /\
 ∃ b50, Ld qy (Option.map (fun x => x.add 22) p10) wj_1 (.bool b50) /\
 BCase b50
 ((true = true) /\
 ∃ b53, Ld qy (some ⟨k7, 0, none⟩) wj_1 (.bool b53) /\
 BCase (!b53)
 (K (.bool false) wj_1)
 ((Option.isSome p10 = true) /\
 ∃ n58, Ld qx (Option.map (fun x => x.add 24) p10) wj_1 (.int .i64 n58) /\
 BCase (n58 == (1 : Int))
 ((Option.isSome p10 = true) /\
 ∃ b62, Ld qy (Option.map (fun x => x.add 22) p10) wj_1 (.bool b62) /\
 BCase (!b62)
 (K (.bool false) wj_1)
 ((Option.isSome p10 = true) /\
 ∃ v69, Ld qc (Option.map (fun x => x.add 2) p10) wj_1 v69 /\
 Calls prog zg #[.slice a0 l0 c0, v69] wj_1 fun e70 w70 => ∃ b70, e70 = .returned (.bool b70) /\
 BCase b70
 ((Option.isSome p10 = true) /\
 ∃ b73, Ld qy (Option.map (fun x => x.add 20) p10) w70 (.bool b73) /\
 BCase (!b73)
 (K (.bool false) w70)
 ((Option.isSome p10 = true) /\
 ∃ b79, Ld qy (Option.map (fun x => x.add 20) p10) w70 (.bool b79) /\
 BCase b79
 ((Option.isSome p10 = true) /\
 ∃ v82, Ld qc (Option.map (fun x => x.add 2) p10) w70 v82 /\
 (true = true) /\
 ∃ v84, Ld qc (some ⟨k7, 1, none⟩) w70 v84 /\
 ∃ b85, ((do eqGuard .neq qc (.tmp 82) (.tmp 84) v82 v84; binOp .neq qc v82 v84 : Sem Value)).run prog w70 = .ok (.bool b85) w70 /\
 BCase b85
 (K (.bool false) w70)
 (J_2 w70))
 (J_2 w70)))
 ((Option.isSome p10 = true) /\
 ∃ b79_1, Ld qy (Option.map (fun x => x.add 20) p10) w70 (.bool b79_1) /\
 BCase b79_1
 ((Option.isSome p10 = true) /\
 ∃ v82_1, Ld qc (Option.map (fun x => x.add 2) p10) w70 v82_1 /\
 (true = true) /\
 ∃ v84_1, Ld qc (some ⟨k7, 1, none⟩) w70 v84_1 /\
 ∃ b85_1, ((do eqGuard .neq qc (.tmp 82) (.tmp 84) v82_1 v84_1; binOp .neq qc v82_1 v84_1 : Sem Value)).run prog w70 = .ok (.bool b85_1) w70 /\
 BCase b85_1
 (K (.bool false) w70)
 (J_2 w70))
 (J_2 w70))))
 ((Option.isSome p10 = true) /\
 ∃ v69_1, Ld qc (Option.map (fun x => x.add 2) p10) wj_1 v69_1 /\
 Calls prog zg #[.slice a0 l0 c0, v69_1] wj_1 fun e70_1 w70_1 => ∃ b70_1, e70_1 = .returned (.bool b70_1) /\
 BCase b70_1
 ((Option.isSome p10 = true) /\
 ∃ b73_1, Ld qy (Option.map (fun x => x.add 20) p10) w70_1 (.bool b73_1) /\
 BCase (!b73_1)
 (K (.bool false) w70_1)
 ((Option.isSome p10 = true) /\
 ∃ b79_2, Ld qy (Option.map (fun x => x.add 20) p10) w70_1 (.bool b79_2) /\
 BCase b79_2
 ((Option.isSome p10 = true) /\
 ∃ v82_2, Ld qc (Option.map (fun x => x.add 2) p10) w70_1 v82_2 /\
 (true = true) /\
 ∃ v84_2, Ld qc (some ⟨k7, 1, none⟩) w70_1 v84_2 /\
 ∃ b85_2, ((do eqGuard .neq qc (.tmp 82) (.tmp 84) v82_2 v84_2; binOp .neq qc v82_2 v84_2 : Sem Value)).run prog w70_1 = .ok (.bool b85_2) w70_1 /\
 BCase b85_2
 (K (.bool false) w70_1)
 (J_2 w70_1))
 (J_2 w70_1)))
 ((Option.isSome p10 = true) /\
 ∃ b79_3, Ld qy (Option.map (fun x => x.add 20) p10) w70_1 (.bool b79_3) /\
 BCase b79_3
 ((Option.isSome p10 = true) /\
 ∃ v82_3, Ld qc (Option.map (fun x => x.add 2) p10) w70_1 v82_3 /\
 (true = true) /\
 ∃ v84_3, Ld qc (some ⟨k7, 1, none⟩) w70_1 v84_3 /\
 ∃ b85_3, ((do eqGuard .neq qc (.tmp 82) (.tmp 84) v82_3 v84_3; binOp .neq qc v82_3 v84_3 : Sem Value)).run prog w70_1 = .ok (.bool b85_3) w70_1 /\
 BCase b85_3
 (K (.bool false) w70_1)
 (J_2 w70_1))
 (J_2 w70_1)))))
 ((Option.isSome p10 = true) /\
 ∃ n58_1, Ld qx (Option.map (fun x => x.add 24) p10) wj_1 (.int .i64 n58_1) /\
 BCase (n58_1 == (1 : Int))
 ((Option.isSome p10 = true) /\
 ∃ b62_1, Ld qy (Option.map (fun x => x.add 22) p10) wj_1 (.bool b62_1) /\
 BCase (!b62_1)
 (K (.bool false) wj_1)
 ((Option.isSome p10 = true) /\
 ∃ v69_2, Ld qc (Option.map (fun x => x.add 2) p10) wj_1 v69_2 /\
 Calls prog zg #[.slice a0 l0 c0, v69_2] wj_1 fun e70_2 w70_2 => ∃ b70_2, e70_2 = .returned (.bool b70_2) /\
 BCase b70_2
 ((Option.isSome p10 = true) /\
 ∃ b73_2, Ld qy (Option.map (fun x => x.add 20) p10) w70_2 (.bool b73_2) /\
 BCase (!b73_2)
 (K (.bool false) w70_2)
 ((Option.isSome p10 = true) /\
 ∃ b79_4, Ld qy (Option.map (fun x => x.add 20) p10) w70_2 (.bool b79_4) /\
 BCase b79_4
 ((Option.isSome p10 = true) /\
 ∃ v82_4, Ld qc (Option.map (fun x => x.add 2) p10) w70_2 v82_4 /\
 (true = true) /\
 ∃ v84_4, Ld qc (some ⟨k7, 1, none⟩) w70_2 v84_4 /\
 ∃ b85_4, ((do eqGuard .neq qc (.tmp 82) (.tmp 84) v82_4 v84_4; binOp .neq qc v82_4 v84_4 : Sem Value)).run prog w70_2 = .ok (.bool b85_4) w70_2 /\
 BCase b85_4
 (K (.bool false) w70_2)
 (J_2 w70_2))
 (J_2 w70_2)))
 ((Option.isSome p10 = true) /\
 ∃ b79_5, Ld qy (Option.map (fun x => x.add 20) p10) w70_2 (.bool b79_5) /\
 BCase b79_5
 ((Option.isSome p10 = true) /\
 ∃ v82_5, Ld qc (Option.map (fun x => x.add 2) p10) w70_2 v82_5 /\
 (true = true) /\
 ∃ v84_5, Ld qc (some ⟨k7, 1, none⟩) w70_2 v84_5 /\
 ∃ b85_5, ((do eqGuard .neq qc (.tmp 82) (.tmp 84) v82_5 v84_5; binOp .neq qc v82_5 v84_5 : Sem Value)).run prog w70_2 = .ok (.bool b85_5) w70_2 /\
 BCase b85_5
 (K (.bool false) w70_2)
 (J_2 w70_2))
 (J_2 w70_2))))
 ((Option.isSome p10 = true) /\
 ∃ v69_3, Ld qc (Option.map (fun x => x.add 2) p10) wj_1 v69_3 /\
 Calls prog zg #[.slice a0 l0 c0, v69_3] wj_1 fun e70_3 w70_3 => ∃ b70_3, e70_3 = .returned (.bool b70_3) /\
 BCase b70_3
 ((Option.isSome p10 = true) /\
 ∃ b73_3, Ld qy (Option.map (fun x => x.add 20) p10) w70_3 (.bool b73_3) /\
 BCase (!b73_3)
 (K (.bool false) w70_3)
 ((Option.isSome p10 = true) /\
 ∃ b79_6, Ld qy (Option.map (fun x => x.add 20) p10) w70_3 (.bool b79_6) /\
 BCase b79_6
 ((Option.isSome p10 = true) /\
 ∃ v82_6, Ld qc (Option.map (fun x => x.add 2) p10) w70_3 v82_6 /\
 (true = true) /\
 ∃ v84_6, Ld qc (some ⟨k7, 1, none⟩) w70_3 v84_6 /\
 ∃ b85_6, ((do eqGuard .neq qc (.tmp 82) (.tmp 84) v82_6 v84_6; binOp .neq qc v82_6 v84_6 : Sem Value)).run prog w70_3 = .ok (.bool b85_6) w70_3 /\
 BCase b85_6
 (K (.bool false) w70_3)
 (J_2 w70_3))
 (J_2 w70_3)))
 ((Option.isSome p10 = true) /\
 ∃ b79_7, Ld qy (Option.map (fun x => x.add 20) p10) w70_3 (.bool b79_7) /\
 BCase b79_7
 ((Option.isSome p10 = true) /\
 ∃ v82_7, Ld qc (Option.map (fun x => x.add 2) p10) w70_3 v82_7 /\
 (true = true) /\
 ∃ v84_7, Ld qc (some ⟨k7, 1, none⟩) w70_3 v84_7 /\
 ∃ b85_7, ((do eqGuard .neq qc (.tmp 82) (.tmp 84) v82_7 v84_7; binOp .neq qc v82_7 v84_7 : Sem Value)).run prog w70_3 = .ok (.bool b85_7) w70_3 /\
 BCase b85_7
 (K (.bool false) w70_3)
 (J_2 w70_3))
 (J_2 w70_3))))) /\
 AllJ 40 (∀ wj_2, J_2 wj_2 ->
 (Option.isSome p10 = true) /\
 ∃ s89, Ld qe (Option.map (fun x => x.add 0) p10) wj_2 (.string (mkS s89)) /\
 Calls prog qT #[.string (mkS s89)] wj_2 fun e90 w90 => ∃ n90, e90 = .returned (.int .i64 n90) /\
 BCase (n90 == (1 : Int))
 ((Option.isSome p10 = true) /\
 ∃ b94, Ld qy (Option.map (fun x => x.add 22) p10) w90 (.bool b94) /\
 K (.bool b94) w90)
 (BCase (n90 == (2 : Int))
 ((Option.isSome p10 = true) /\
 ∃ b98, Ld qy (Option.map (fun x => x.add 22) p10) w90 (.bool b98) /\
 BCase b98
 ((Option.isSome p10 = true) /\
 ∃ b101, Ld qy (Option.map (fun x => x.add 20) p10) w90 (.bool b101) /\
 BCase b101
 ((Option.isSome p10 = true) /\
 ∃ s105, Ld qe (Option.map (fun x => x.add 21) p10) w90 (.string (mkS s105)) /\
 K (.bool (s105 == [47])) w90)
 (K (.bool false) w90))
 (K (.bool false) w90))
 ((Option.isSome p10 = true) /\
 ∃ s109, Ld qe (Option.map (fun x => x.add 0) p10) w90 (.string (mkS s109)) /\
 BCase (!(s109 == []))
 (K (.bool true) w90)
 ((Option.isSome p10 = true) /\
 ∃ s113, Ld qe (Option.map (fun x => x.add 1) p10) w90 (.string (mkS s113)) /\
 Calls prog qT #[.string (mkS s113)] w90 fun e114 w114 => ∃ n114, e114 = .returned (.int .i64 n114) /\
 BCase (n114 == (0 : Int))
 (K (.bool true) w114)
 ((Option.isSome p10 = true) /\
 ∃ b119, Ld qy (Option.map (fun x => x.add 22) p10) w114 (.bool b119) /\
 K (.bool b119) w114)))))))))
theorem qh3 (a0 : Option Addr) (l0 c0 : Nat) (s1_0 : List UInt8) (s1_1 : List UInt8) (n2 : Int) {w : World} {K : Value -> World -> Prop} (h : qev a0 l0 c0 s1_0 s1_1 n2 w K) : Calls prog qe5 #[.slice a0 l0 c0, .agg #[.string (mkS s1_0), .string (mkS s1_1)], .int .i64 n2] w (Ret K) :=
 qo (c := qr Tryz.f9) (by kernel_rfl) Tryz.func9 (by kernel_rfl) [(12, []), (20, [(10, .one (.ptr)), (11, .one (.int .i64))]), (30, [])] [.slice a0 l0 c0, .agg #[.string (mkS s1_0), .string (mkS s1_1)], .int .i64 n2] (of_decide_eq_true (by kernel_rfl)) _ (by kernel_rfl) h
end Go.Proofs.YtndbpedpdbjkpaaGreatDoor
set_option maxRecDepth 20000
namespace Go.Pk
open Go.RowKit (Below)
theorem qlb {rs : List Rul} {u : Url} {h : Hdr} (now : Int) (hu : u.host.name.length <= 80000000) : (takV rs u h now).1.host.name.length <= 80000000 := by
 rcases qeg rs u h now with ⟨_, e⟩ | ⟨_, _, _, e⟩
 · rw [e]; decide
 · rw [e]; exact qmg _ hu
structure SafP (rs : List Rul) (u : Url) (C : Cky) : Prop where
 f1 : C.sec = true -> u.sec = true
 f2 : (C.same == (1 : Int)) = true -> C.sec = true
 f3 : pubB rs C.host = true -> C.only = true
 f4 : C.only = true -> j8 C.host u.host = true
 f5 : (jF C.name == (1 : Int)) = true -> C.sec = true
 f6 : (jF C.name == (2 : Int)) = true -> C.sec = true /\ C.only = true /\ C.path = [47]
 f7 : (!(C.name == [])) = false -> (jF C.value == (0 : Int)) = false -> C.sec = true
theorem safP {rs : List Rul} {u : Url} {h : Hdr} {now : Int} (e : (takV rs u h now).2 = 0) : SafP rs u (takV rs u h now).1 := by
 rcases qeg rs u h now with ⟨h1, _⟩ | ⟨_, g, er, hc⟩
 · exact absurd e h1
 obtain ⟨hu, _⟩ := qiC g
 obtain ⟨d1, d2, _⟩ := qk1 (t := h.domain) (qh1 hu).1 (qdm er).1
 rw [hc]
 refine ⟨fun hs => ?_, fun hs => ?_, d2, d1, fun hp => ?_, fun hp => ?_, fun hn hp => ?_⟩
 · have := qu3 (now := now) er
   rw [hs, Bool.true_and] at this
   simpa using this
 · have := qu8 (now := now) er
   rw [hs, Bool.true_and] at this
   simpa using this
 · have hp := eq_of_beq hp
   exact quz er (qo0 (s := h.name) (by show jF h.name ≠ 0; rw [show jF h.name = 1 from hp]; decide)) hp
 · have hp := eq_of_beq hp
   exact quP er (qo0 (s := h.name) (by show jF h.name ≠ 0; rw [show jF h.name = 2 from hp]; decide)) hp
 · have hn : h.name = [] := by
     have : (h.name == []) = true := by
       have hn : (!(h.name == [])) = false := hn
       simpa using hn
     exact eq_of_beq this
   exact qu2 er hn (beq_eq_false_iff_ne.1 hp)
end Go.Pk
namespace Go.Proofs.YtndbpedpdbjkpaaGreatDoor
open Go.Pk
open Go.RowKit (Below)
section
variable {C : Cky} {x : Nat} {w : World}
theorem qoA (oc : C.ok) (h : qm w x qa C.cells) : (Instr.loadAt qe (.pointer (Option.map (fun x : Addr => x.add 0) (some (⟨x, 0, none⟩ : Addr))))).run prog w = .ok (.string (mkS C.name)) w := h.load1 un_string rfl (i := 0) rfl
theorem qsM (oc : C.ok) (h : qm w x qa C.cells) : (Instr.loadAt qe (.pointer (Option.map (fun x : Addr => x.add 1) (some (⟨x, 0, none⟩ : Addr))))).run prog w = .ok (.string (mkS C.value)) w := h.load1 un_string rfl (i := 1) rfl
theorem qpN (oc : C.ok) (h : qm w x qa C.cells) : (Instr.loadAt qc (.pointer (Option.map (fun x : Addr => x.add 2) (some (⟨x, 0, none⟩ : Addr))))).run prog w = .ok C.host.v w := qs.load h (i := 2) (us := C.host.cells) (Hst.len oc) (fun j hj => qi5 oc hj)
theorem qnY (oc : C.ok) (h : qm w x qa C.cells) : (Instr.loadAt qy (.pointer (Option.map (fun x : Addr => x.add 20) (some (⟨x, 0, none⟩ : Addr))))).run prog w = .ok (.bool C.only) w := h.load1 un_bool rfl (i := 20) (jo oc 0)
theorem qij (oc : C.ok) (h : qm w x qa C.cells) : (Instr.loadAt qe (.pointer (Option.map (fun x : Addr => x.add 21) (some (⟨x, 0, none⟩ : Addr))))).run prog w = .ok (.string (mkS C.path)) w := h.load1 un_string rfl (i := 21) (jo oc 1)
theorem qnf (oc : C.ok) (h : qm w x qa C.cells) : (Instr.loadAt qy (.pointer (Option.map (fun x : Addr => x.add 22) (some (⟨x, 0, none⟩ : Addr))))).run prog w = .ok (.bool C.sec) w := h.load1 un_bool rfl (i := 22) (jo oc 2)
theorem qtN (oc : C.ok) (h : qm w x qa C.cells) : (Instr.loadAt qx (.pointer (Option.map (fun x : Addr => x.add 24) (some (⟨x, 0, none⟩ : Addr))))).run prog w = .ok (.int .i64 C.same) w := h.load1 qN rfl (i := 24) (jo oc 4)
theorem qlf {u : Url} {k : Nat} (ou : u.ok) (h : qm w k qg u.cells) : (Instr.loadAt qc (.pointer (some ⟨k, 1, none⟩))).run prog w = .ok u.host.v w := qs.load h (i := 1) (us := u.host.cells) (Hst.len ou) (fun j hj => by
 unfold Url.cells
 rw [Nat.add_comm, List.getElem?_cons_succ, List.getElem?_append_left (by rw [Hst.len ou]; exact hj)])
end
structure SafC (wa w12 : World) (a0 : Option Addr) (l0 c0 : Nat) (rs : List Rul) (k7 x : Nat) (u : Url) (C : Cky) (w13 : World) : Prop where
 hs : Sl tRul w13 AllB a0 l0 c0 rs
 hl : rs.length <= 1000000
 hr : ∀ r ∈ rs, r.2.length <= 80000000
 hU : qm w13 k7 qg u.cells
 hC : qm w13 x qa C.cells
 ou : u.ok
 oc : C.ok
 cn : C.host.name.length <= 80000000
section
variable {wa w12 w13 wx : World} {a0 : Option Addr} {l0 c0 : Nat} {rs : List Rul} {k7 x : Nat} {u : Url} {C : Cky}
theorem qt5 (S : SafC wa w12 a0 l0 c0 rs k7 x u C w13) (hb : Below w13.heap.size w13 wx) {R : Bool -> World -> Prop} (H : ∀ wy, Below w13.heap.size w13 wy -> R (pubB (rs.filter rulR) C.host) wy) :
   Calls prog zg #[.slice a0 l0 c0, C.host.v] wx fun e w' => ∃ b : Bool, e = .returned (.bool b) /\ R b w' := by
 refine callK (qbT (S.hs.below hb) S.hl S.hr S.oc S.cn) ?_
 rintro _ w' ⟨rfl, hb'⟩
 exact ⟨_, rfl, H w' (qb hb hb' hb.size)⟩
theorem qrz (s : List UInt8) (hb : Below w13.heap.size w13 wx) {R : Int -> World -> Prop} (H : ∀ wy, Below w13.heap.size w13 wy -> R (jF s) wy) :
   Calls prog qT #[.string (mkS s)] wx fun e w' => ∃ n : Int, e = .returned (.int .i64 n) /\ R n w' := by
 refine callK (jU s wx) ?_
 rintro _ w' ⟨rfl, hb'⟩
 exact ⟨_, rfl, H w' (qb hb hb' hb.size)⟩
end
set_option maxHeartbeats 4000000 in
theorem qjf {a0 : Option Addr} {l0 c0 : Nat} {rs : List Rul} {w : World} (hs : Sl tRul w AllB a0 l0 c0 rs) (hl : rs.length <= 9223372036854775807) (s t : List UInt8) (hsl : s.length <= 9000000) (htl : t.length <= 9000000) (now : Int) (he : Env w) :
   Calls prog qe5 #[.slice a0 l0 c0, .agg #[.string (mkS s), .string (mkS t)], .int .i64 now] w (Ret (Says w)) := by
 apply qh3
 unfold qev
 intro k4 w4 hk4 hw4
 have hB4 := (hw4 ▸ qf w _ : Below w.heap.size w w4)
 have h4 : qm w4 k4 qaI [.string (mkS s), .string (mkS t)] := qm.new hk4 hw4
 refine callK (qb0 w4 (he.step hB4)) ?_
 rintro _ w5 ⟨rfl, hb5⟩
 have hB5 := qb hB4 hb5 hB4.size
 have h5 := h4.below hb5
 refine ⟨_, rfl, BCase.no rfl ?_⟩
 have e0 : qn (some (⟨k4, 0, none⟩ : Addr)) (0 : Int) 1 = some ⟨k4, 0, none⟩ := z8 k4 0 0
 have e1 : qn (some (⟨k4, 0, none⟩ : Addr)) (1 : Int) 1 = some ⟨k4, 1, none⟩ := z8 k4 0 1
 rw [e0, e1]
 refine ⟨⟨by decide, rfl⟩, _, h5.load1 un_string rfl rfl, ⟨by decide, rfl⟩, _, h5.load1 un_string rfl rfl, ?_⟩
 refine callK (qaC s t (by omega) (by omega) w5) ?_
 rintro _ w8 ⟨rfl, hb8⟩
 have hB8 := qb hB5 hb8 hB5.size
 have h8 := h5.below hb8
 refine ⟨_, _, _, _, _, _, _, _, _, _, _, _, _, rfl, ?_⟩
 have ou := urlV_ok s
 obtain ⟨un, up⟩ := qc6 s
 have ho := qdk t
 generalize (urlV s).1 = u at *
 generalize (qM t).1 = h at *
 intro k9 w9 hk9 hw9
 have hb9 := (hw9 ▸ qf w8 _ : Below w8.heap.size w8 w9)
 have h9 : qm w9 k9 qg url0.cells := qm.new hk9 hw9
 intro k10 w10 hk10 hw10
 have hb10 := (hw10 ▸ qf w9 _ : Below w9.heap.size w9 w10)
 have h10 : qm w10 k10 qd hdr0.cells := qm.new hk10 hw10
 have lt9 := h9.lt
 have hb810 := qb hb9 hb10 hb9.size
 have sz9 := hb9.size
 obtain ⟨w11, hs11, h911, hg11⟩ := qas.store0 (P := prog) (cs := u.cells) (Url.len ou) (Url.one u) (h9.below hb10) rfl
 have hb811 : Below w8.heap.size w8 w11 := Below.put hb810 hg11 (by omega)
 refine ⟨w11, hs11, ?_⟩
 obtain ⟨w12, hs12, h1012, hg12⟩ := qbR h (h10.grown hg11 (qP (by omega))) rfl
 have hb812 : Below w8.heap.size w8 w12 := Below.put hb811 hg12 (by omega)
 have h912 := h911.grown hg12 (qP (by omega))
 refine ⟨w12, hs12, ?_⟩
 have hB12 := qb hB8 hb812 hB8.size
 have h412 := h8.below hb812
 refine ⟨fun w' => (fewB rs [s, t] = true /\ okB2 s t = true) /\ Below w12.heap.size w12 w', ?_, ?_⟩
 · refine ⟨⟨by decide, rfl⟩, _, h412.load1 un_string rfl rfl, ⟨by decide, rfl⟩, _, h412.load1 un_string rfl rfl, ?_⟩
   intro k6 w6 hk6 hw6
   have hb6 := (hw6 ▸ qf w12 _ : Below w12.heap.size w12 w6)
   have hB6 := qb hB12 hb6 hB12.size
   have ht6 := qdQ (ts := [s, t]) hk6 hw6 (show 2 <= maxLen by decide)
   refine callK (qaD (hs.below hB6) ht6 hl (show 2 <= 9223372036854775807 by decide)) ?_
   rintro _ w7 ⟨rfl, hb7⟩
   have hb127 := qb hb6 hb7 hb6.size
   have hB7 := qb hB12 hb127 hB12.size
   refine ⟨_, rfl, BCase.of (fun c => ⟨rfl, hB7⟩) (fun c => BCase.of (fun c2 => ⟨rfl, hB7⟩) (fun c2 => ⟨⟨by simpa using c, by simpa using c2⟩, hb127⟩))⟩
 refine AllJ.of ?_ _
 rintro wj ⟨⟨c, c2⟩, hbj⟩
 have hBj := qb hB12 hbj hB12.size
 obtain ⟨f1, f2, f3⟩ := qcR c
 have C : AdC wj a0 l0 c0 rs k9 k10 u h := ⟨he.step hBj, hs.below hBj, by omega, fun r hr => by have := f1 r hr; omega, h912.below hbj, h1012.below hbj, ou, by omega, by omega, ho⟩
 have S : StA wj qq qt qa (rs.filter rulR) none none (World.drew wj) := ⟨zV wj, (fun p e => by cases e), (fun x e => by cases e)⟩
 have oc := qfK (rs := rs.filter rulR) ou h now
 have cn := qlb (rs := rs.filter rulR) (h := h) now (show u.host.name.length <= 80000000 by omega)
 have sp : (takV (rs.filter rulR) u h now).2 = 0 -> SafP (rs.filter rulR) u (takV (rs.filter rulR) u h now).1 := safP
 have sz := qeg (rs.filter rulR) u h now
 refine ⟨fun p n w' => ∃ x, p = some ⟨x, 0, none⟩ /\ n = (takV (rs.filter rulR) u h now).2 /\ qm w' x qa (takV (rs.filter rulR) u h now).1.cells /\ Below wj.heap.size wj w', ?_, ?_⟩
 · clear hs11 hs12 hg11 hg12 h911 h912 h1012 h9 h10 hw9 hw10 hb9 hb10 hb810 hb811 hb812 hs he hB4 hB5 hB8 hB12 hb5 hb8 h4 h5 h8 hw4 hbj hBj h412 sp sz cn
   repeat' (first
     | exact ⟨_, rfl, rfl, by assumption, by assumption⟩
     | refine And.intro ?_ ?_
     | (refine ad_al (by assumption) ?_; intro x wx hS)
     | (refine ad_st (by assumption) oc ?_; intro wx hb hc)
     | (refine ad_new C (by assumption) ?_; intro p wp hS)
     | (refine ad_take C (by assumption) ?_; intro wt hS)
     | refine Exists.intro _ (And.intro (ad_u C (by assumption)) ?_)
     | refine ⟨_, _, _, _, _, _, _, _, _, _, _, ad_h C (by assumption), ?_⟩)
 intro p n
 refine AllJ.of ?_ _
 rintro w13 ⟨x, rfl, rfl, hx, hb13⟩
 have hB13 := qb hBj hb13 hBj.size
 have T : SafC w wj a0 l0 c0 rs k9 x u (takV (rs.filter rulR) u h now).1 w13 := ⟨hs.below hB13, by omega, fun r hr => by have := f1 r hr; omega, (C.hU.below hb13), hx, ou, oc, cn⟩
 clear S hs11 hs12 hg11 hg12 h911 h912 h1012 h9 h10 hw9 hw10 hb9 hb10 hb810 hb811 hb812 hs he hB4 hB5 hB8 hB12 hb5 hb8 h4 h5 h8 hw4 hbj h412 C hBj
 refine BCase.of (fun c3 => ?_) (fun c3 => ?_)
 · have c3 : (takV (rs.filter rulR) u h now).2 ≠ 0 := by simpa using c3
   rcases sz with ⟨_, e⟩ | ⟨e, _⟩
   · rw [e] at hx
     exact ⟨_, qS.load0 hx (Cky.len rfl), _, qqt (c := cky0) (d := cky0) rfl rfl w13, by rw [qe0 (show cky0.ok from rfl)], hB13⟩
   · exact absurd e c3
 · have c3 : (takV (rs.filter rulR) u h now).2 = 0 := by simpa using c3
   have P := sp c3
   clear sp sz
   generalize (takV (rs.filter rulR) u h now).1 = D at *
   obtain ⟨p1, p2, p3, p4, p5, p6, p7⟩ := P
   have b0 := Below.refl w13.heap.size w13
   refine ⟨fun w' => Below w13.heap.size w13 w', ?_, ?_⟩
   · have lU : ∀ {wx : World}, Below w13.heap.size w13 wx -> (Instr.loadAt qy (.pointer (some ⟨k9, 0, none⟩))).run prog wx = .ok (.bool u.sec) wx := fun hb => (T.hU.below hb).load1 un_bool rfl (i := 0) rfl
     have lE : ∀ {wx : World} {x y : Operand}, ((do eqGuard .neq qc x y D.host.v u.host.v; binOp .neq qc D.host.v u.host.v : Sem Value)).run prog wx = .ok (.bool (!j8 D.host u.host)) wx := fun {wx x y} => qo3 oc ou wx
     repeat' (first
       | assumption
       | exact rfl
       | refine And.intro rfl ?_
       | refine ⟨_, qnf oc (T.hC.below (by assumption)), ?_⟩
       | refine ⟨_, qnY oc (T.hC.below (by assumption)), ?_⟩
       | refine ⟨_, qtN oc (T.hC.below (by assumption)), ?_⟩
       | refine ⟨_, qpN oc (T.hC.below (by assumption)), ?_⟩
       | refine ⟨_, lU (by assumption), ?_⟩
       | refine ⟨_, qlf ou (T.hU.below (by assumption)), ?_⟩
       | refine ⟨_, lE, ?_⟩
       | (refine qt5 T (by assumption) ?_; intro wy hby)
       | refine BCase.no (by rw [p1 (by assumption)]; rfl) ?_
       | refine BCase.no (by rw [p2 (by assumption)]; rfl) ?_
       | refine BCase.no (by rw [p3 (by assumption)]; rfl) ?_
       | refine BCase.no (by rw [p4 (by assumption)]; rfl) ?_
       | refine BCase.of (fun c => ?_) (fun c => ?_))
   · refine AllJ.of ?_ _
     intro w14 hb14
     have hB14 := qb hB13 hb14 hB13.size
     refine ⟨rfl, _, qoA oc (T.hC.below hb14), qrz D.name hb14 fun w15 hb15 => ?_⟩
     have hB15 := qb hB13 hb15 hB13.size
     refine BCase.of (fun q => ?_) (fun q => ?_)
     · exact ⟨rfl, _, qnf oc (T.hC.below hb15), by rw [p5 q], hB15⟩
     refine BCase.of (fun q2 => ?_) (fun q2 => ?_)
     · obtain ⟨g1, g2, g3⟩ := p6 q2
       exact ⟨rfl, _, qnf oc (T.hC.below hb15), BCase.yes g1 ⟨rfl, _, qnY oc (T.hC.below hb15), BCase.yes g2 ⟨rfl, _, qij oc (T.hC.below hb15), by rw [g3]; rfl, hB15⟩⟩⟩
     refine ⟨rfl, _, qoA oc (T.hC.below hb15), BCase.of (fun q3 => ⟨rfl, hB15⟩) (fun q3 => ?_)⟩
     refine ⟨rfl, _, qsM oc (T.hC.below hb15), qrz D.value hb15 fun w16 hb16 => ?_⟩
     have hB16 := qb hB13 hb16 hB13.size
     refine BCase.of (fun q4 => ⟨rfl, hB16⟩) (fun q4 => ?_)
     exact ⟨rfl, _, qnf oc (T.hC.below hb16), by rw [p7 q3 q4], hB16⟩
end Go.Proofs.YtndbpedpdbjkpaaGreatDoor
