/- What the law alone leans on: Open, Names, V3, V1, DateC, DateN, AddrF, AddrG, AddrI, HostC, HostD, V4, UrlA, MatA, RulA, RulB, SufB, SufD, HdrH, DateU, HdrN, AdmA, AdmB, AdmC, V5, AdmD, AdmE, AdmX, V5_7, AdmF, OpenA, OpenB; what is used. Its conditions: none. -/
import Derived.Test.YtndbpedpdbjkpaaGreatDoorKI
import Derived.ProofKit
import Derived.OpenShut
import Derived.Stop.LaidErr
import Derived.Lib.LaidTab
import Derived.Deep.DeepHandedRow
import Derived.Test.YtndbpedpdbjkpaaGreatDoorRows
import Derived.Lib.ItoaLen
import Derived.Lib.LastIndexByte
import Derived.Lib.Bytes2
import Derived.ChangeArms
import Derived.ChangeSame
import Derived.Deep.Slices
open Go.IntKind (i64)
open Go.Proofs.Tryz (prog)
set_option linter.unusedVariables false
set_option linter.unusedSimpArgs false
namespace Go.Pk
def qhe {α : Type} (P : Program) (T : Ty α) (t : TypeId) : Prop :=
 ∀ (H : Type) (enc : TypeId × Value -> H) (w : World) (fuel : Nat) (cs : List Value) (x : DataW H × List MemPlace), DataW.trod enc P w 0 (fun _ => true) true fuel t cs = some x -> ∃ a, T.rep w AllB cs a
theorem qaE {P : Program} {k : IntKind} {t : TypeId} (ht : P.underlying t = some (.int k)) : qhe P (tInt k fun n => (Lit.int k n).wf = true) t := fun H enc w fuel cs x h => by
 obtain ⟨n, e, _, hw⟩ := DataW.trod_int ht h
 exact ⟨n, e, hw⟩
theorem qaG {P : Program} {t : TypeId} (ht : P.underlying t = some .string) : qhe P (tStr fun s => s.length <= maxLen) t := fun H enc w fuel cs x h => by
 obtain ⟨s, e, _, hs⟩ := DataW.trod_string ht h
 exact ⟨toL s, e, hs⟩
theorem qct {P : Program} {w : World} {r : Reach} {base : Nat} {t : TypeId} {v : Value} {d : TypeDesc} (ht : P.underlying t = some d) (ha : aggD d = true) (h : Value.okWide P w r base t v) : ∃ cs : List Value, v = .agg cs.toArray := by
 unfold Value.okWide at h
 rw [ht] at h
 cases d <;> first | (obtain ⟨cs, rfl, _⟩ := h; exact ⟨cs.toList, by simp⟩) | (cases ha; done)
end Go.Pk
namespace Go.Proofs.YtndbpedpdbjkpaaGreatDoor
open Go.Pk
abbrev qep : Nat := 7
abbrev qL : Nat := 25
abbrev ze : Nat := 27
abbrev zv : Nat := 28
abbrev zr : Nat := 38
abbrev qbY : Nat := 39
abbrev qT : Nat := 41
abbrev zg : Nat := 42
abbrev zG : Nat := 44
abbrev zM : Nat := 60
abbrev qB : Nat := 61
abbrev qbd : Nat := 87
abbrev qbN : Nat := 88
abbrev qO : Nat := 90
abbrev zX : Nat := 91
abbrev zp : Nat := 108
abbrev zm : Nat := 109
abbrev qbM : Nat := 154
abbrev qaj : Nat := 155
abbrev jq : Nat := 156
abbrev qu : Nat := 176
abbrev qV : Nat := 177
abbrev qF : Nat := 178
abbrev qbf : Nat := 214
abbrev qz : Nat := 215
abbrev jS : Nat := 216
abbrev jN : Nat := 217
abbrev zq : Nat := 237
abbrev qW : Nat := 263
abbrev jw : Nat := 70
abbrev qaI : Nat := 71
theorem qaQ : prog.underlying jw = some (.slice ql) := by kernel_rfl
end Go.Proofs.YtndbpedpdbjkpaaGreatDoor
set_option maxRecDepth 100000
namespace Go.Proofs.YtndbpedpdbjkpaaGreatDoor
open Go.Pk
open Go.RowKit (Below)
--  cracknel/cracknelref03.Right
def jc (v0 : Value) (w : World) (K : Value -> World -> Prop) : Prop :=
 ∀ k1 w1, k1 = w.heap.size -> w1 = w.alloc (.cells (Value.cells v0) qc) ->
 ∃ v6, Ld qc (some ⟨k1, 0, none⟩) w1 v6 /\
 Calls prog zM #[v6] w1 fun e7 w7 => ∃ s7, e7 = .returned (.string (mkS s7)) /\
 Calls prog jh #[.string (mkS s7)] w7 fun e8 w8 => ∃ v8_0 n8_1, e8 = .returned (.tuple #[v8_0, .int .i64 n8_1]) /\
 ∀ k3 w3, k3 = w8.heap.size -> w3 = w8.alloc (.cells qK qc) ->
 ∃ wx, Sv qc (some ⟨k3, 0, none⟩) v8_0 w3 wx /\
 BCase (n8_1 == (0 : Int))
 (∃ v14, Ld qc (some ⟨k3, 0, none⟩) wx v14 /\
 ∃ v15, Ld qc (some ⟨k1, 0, none⟩) wx v15 /\
 ∃ b16, ((do eqGuard .eql qc (.tmp 14) (.tmp 15) v14 v15; binOp .eql qc v14 v15 : Sem Value)).run prog wx = .ok (.bool b16) wx /\
 K (.bool b16) wx)
 (K (.bool false) wx)
theorem qam (v0 : Value) {w : World} {K : Value -> World -> Prop} (h : jc v0 w K) : Calls prog qL #[v0] w (Ret K) :=
 qo (c := qr Tryz.f25) (by kernel_rfl) Tryz.func25 (by kernel_rfl) [] [v0] (of_decide_eq_true (by kernel_rfl)) _ (by kernel_rfl) h

--  cracknel/cracknelref03.Under
def jd (v0 : Value) (v1 : Value) (w : World) (K : Value -> World -> Prop) : Prop :=
 ∀ k2 w2, k2 = w.heap.size -> w2 = w.alloc (.cells (Value.cells v0) qc) ->
 ∀ k3 w3, k3 = w2.heap.size -> w3 = w2.alloc (.cells (Value.cells v1) qc) ->
 ∃ J : FP [],
 (∃ v6, Ld qc (some ⟨k2, 0, none⟩) w3 v6 /\
 Calls prog qB #[v6] w3 fun e7 w7 => ∃ a7 l7 c7, e7 = .returned (.slice a7 l7 c7) /\
 BCase (((l7 : Nat) : Int) == (0 : Int))
 (K (.bool false) w7)
 (∃ v11, Ld qc (some ⟨k3, 0, none⟩) w7 v11 /\
 Calls prog qB #[v11] w7 fun e12 w12 => ∃ a12 l12 c12, e12 = .returned (.slice a12 l12 c12) /\
 BCase (((l12 : Nat) : Int) == (0 : Int))
 (K (.bool false) w12)
 (J w12))) /\
 AllJ 11 (∀ wj, J wj ->
 (true = true) /\
 ∃ s17, Ld qe (some ⟨k3, 1, none⟩) wj (.string (mkS s17)) /\
 ((((List.length [46] + List.length s17 : Nat) : Int) <= i64.max)) /\
 ∀ s18, s18 = ([46] ++ s17) ->
 (true = true) /\
 ∃ s20, Ld qe (some ⟨k2, 1, none⟩) wj (.string (mkS s20)) /\
 BCase (decide (((List.length s20 : Nat) : Int) > ((List.length s18 : Nat) : Int)))
 ((true = true) /\
 ∃ s27, Ld qe (some ⟨k2, 1, none⟩) wj (.string (mkS s27)) /\
 (true = true) /\
 ∃ s29, Ld qe (some ⟨k2, 1, none⟩) wj (.string (mkS s29)) /\
 ((0 <= (i64.wrap (((List.length s29 : Nat) : Int) - ((List.length s18 : Nat) : Int))) /\ (i64.wrap (((List.length s29 : Nat) : Int) - ((List.length s18 : Nat) : Int))) <= (((List.length s27) : Nat) : Int))) /\
 ∀ s34, s34 = (List.drop (Int.toNat (i64.wrap (((List.length s29 : Nat) : Int) - ((List.length s18 : Nat) : Int)))) s27) ->
 K (.bool (s34 == s18)) wj)
 (K (.bool false) wj))
theorem qal (v0 : Value) (v1 : Value) {w : World} {K : Value -> World -> Prop} (h : jd v0 v1 w K) : Calls prog ze #[v0, v1] w (Ret K) :=
 qo (c := qr Tryz.f27) (by kernel_rfl) Tryz.func27 (by kernel_rfl) [(2, [])] [v0, v1] (of_decide_eq_true (by kernel_rfl)) _ (by kernel_rfl) h

--  cracknel/cracknelref03.Text
def js (v0 : Value) (w : World) (K : Value -> World -> Prop) : Prop :=
 ∀ k1 w1, k1 = w.heap.size -> w1 = w.alloc (.cells (Value.cells v0) qc) ->
 (true = true) /\
 ∃ n4, Ld qx (some ⟨k1, 0, none⟩) w1 (.int .i64 n4) /\
 BCase (n4 == (1 : Int))
 ((true = true) /\
 ∃ s7, Ld qe (some ⟨k1, 1, none⟩) w1 (.string (mkS s7)) /\
 K (.string (mkS s7)) w1)
 ((true = true) /\
 ∃ n9, Ld qx (some ⟨k1, 0, none⟩) w1 (.int .i64 n9) /\
 BCase (n9 == (2 : Int))
 ((true = true) /\
 ∃ v12, Ld qk (some ⟨k1, 2, none⟩) w1 v12 /\
 Calls prog zp #[v12] w1 fun e13 w13 => ∃ s13, e13 = .returned (.string (mkS s13)) /\
 K (.string (mkS s13)) w13)
 ((true = true) /\
 ∃ n15, Ld qx (some ⟨k1, 0, none⟩) w1 (.int .i64 n15) /\
 BCase (n15 == (3 : Int))
 ((true = true) /\
 ∃ v18, Ld qk (some ⟨k1, 2, none⟩) w1 v18 /\
 Calls prog zm #[v18] w1 fun e19 w19 => ∃ s19, e19 = .returned (.string (mkS s19)) /\
 ((((List.length [91] + List.length s19 : Nat) : Int) <= i64.max)) /\
 ∀ s20, s20 = ([91] ++ s19) ->
 ((((List.length s20 + List.length [93] : Nat) : Int) <= i64.max)) /\
 ∀ s21, s21 = (s20 ++ [93]) ->
 K (.string (mkS s21)) w19)
 (K (.string (mkS [])) w1)))
theorem qaN (v0 : Value) {w : World} {K : Value -> World -> Prop} (h : js v0 w K) : Calls prog zM #[v0] w (Ret K) :=
 qo (c := qr Tryz.f60) (by kernel_rfl) Tryz.func60 (by kernel_rfl) [] [v0] (of_decide_eq_true (by kernel_rfl)) _ (by kernel_rfl) h

--  cracknel/cracknelref03.Labels
def zH (v0 : Value) (w : World) (K : Value -> World -> Prop) : Prop :=
 ∀ k1 w1, k1 = w.heap.size -> w1 = w.alloc (.cells (Value.cells v0) qc) ->
 ∃ J : FP [],
 ((true = true) /\
 ∃ n4, Ld qx (some ⟨k1, 0, none⟩) w1 (.int .i64 n4) /\
 BCase (n4 != (1 : Int))
 (K (.slice none 0 0) w1)
 (∃ v7, Ld qc (some ⟨k1, 0, none⟩) w1 v7 /\
 Calls prog qL #[v7] w1 fun e8 w8 => ∃ b8, e8 = .returned (.bool b8) /\
 BCase (!b8)
 (K (.slice none 0 0) w8)
 (J w8))) /\
 AllJ 9 (∀ wj, J wj ->
 (true = true) /\
 ∃ s12, Ld qe (some ⟨k1, 1, none⟩) wj (.string (mkS s12)) /\
 Calls prog zO #[.string (mkS s12), .int .u8 (46 : Int)] wj fun e13 w13 => ∃ a13 l13 c13, e13 = .returned (.slice a13 l13 c13) /\
 K (.slice a13 l13 c13) w13)
theorem j5 (v0 : Value) {w : World} {K : Value -> World -> Prop} (h : zH v0 w K) : Calls prog qB #[v0] w (Ret K) :=
 qo (c := qr Tryz.f61) (by kernel_rfl) Tryz.func61 (by kernel_rfl) [(2, [])] [v0] (of_decide_eq_true (by kernel_rfl)) _ (by kernel_rfl) h

--  cracknel/cracknelref03.Parse
def zZ (v0 : Value) (w : World) (K : Value -> World -> Prop) : Prop :=
 ∀ k1 w1, k1 = w.heap.size -> w1 = w.alloc (.cells (Value.cells v0) qk) ->
 ((0 <= (12 : Int) /\ (12 : Int) < ((16 : Nat) : Int)) /\ true = true) /\
 ∃ n4, (∀ u4, Below w1.heap.size w1 u4 -> Ld qw (qn (some ⟨k1, 0, none⟩) (12 : Int) 1) u4 (.int .u8 n4)) /\
 ∃ s6, (∀ u6, Below w1.heap.size w1 u6 -> Calls prog qu #[.int .i64 (i64.wrap n4)] u6 fun e6 w6 => e6 = .returned (.string (mkS s6)) /\ Below w1.heap.size u6 w6) /\
 ((((List.length s6 + List.length [46] : Nat) : Int) <= i64.max)) /\
 ∀ s7, s7 = (s6 ++ [46]) ->
 ((0 <= (13 : Int) /\ (13 : Int) < ((16 : Nat) : Int)) /\ true = true) /\
 ∃ n9, (∀ u9, Below w1.heap.size w1 u9 -> Ld qw (qn (some ⟨k1, 0, none⟩) (13 : Int) 1) u9 (.int .u8 n9)) /\
 ∃ s11, (∀ u11, Below w1.heap.size w1 u11 -> Calls prog qu #[.int .i64 (i64.wrap n9)] u11 fun e11 w11 => e11 = .returned (.string (mkS s11)) /\ Below w1.heap.size u11 w11) /\
 ((((List.length s7 + List.length s11 : Nat) : Int) <= i64.max)) /\
 ∀ s12, s12 = (s7 ++ s11) ->
 ((((List.length s12 + List.length [46] : Nat) : Int) <= i64.max)) /\
 ∀ s13, s13 = (s12 ++ [46]) ->
 ((0 <= (14 : Int) /\ (14 : Int) < ((16 : Nat) : Int)) /\ true = true) /\
 ∃ n15, (∀ u15, Below w1.heap.size w1 u15 -> Ld qw (qn (some ⟨k1, 0, none⟩) (14 : Int) 1) u15 (.int .u8 n15)) /\
 ∃ s17, (∀ u17, Below w1.heap.size w1 u17 -> Calls prog qu #[.int .i64 (i64.wrap n15)] u17 fun e17 w17 => e17 = .returned (.string (mkS s17)) /\ Below w1.heap.size u17 w17) /\
 ((((List.length s13 + List.length s17 : Nat) : Int) <= i64.max)) /\
 ∀ s18, s18 = (s13 ++ s17) ->
 ((((List.length s18 + List.length [46] : Nat) : Int) <= i64.max)) /\
 ∀ s19, s19 = (s18 ++ [46]) ->
 ((0 <= (15 : Int) /\ (15 : Int) < ((16 : Nat) : Int)) /\ true = true) /\
 ∃ n21, (∀ u21, Below w1.heap.size w1 u21 -> Ld qw (qn (some ⟨k1, 0, none⟩) (15 : Int) 1) u21 (.int .u8 n21)) /\
 ∃ s23, (∀ u23, Below w1.heap.size w1 u23 -> Calls prog qu #[.int .i64 (i64.wrap n21)] u23 fun e23 w23 => e23 = .returned (.string (mkS s23)) /\ Below w1.heap.size u23 w23) /\
 ((((List.length s19 + List.length s23 : Nat) : Int) <= i64.max)) /\
 ∀ s24, s24 = (s19 ++ s23) ->
 ∀ wq, Below w1.heap.size w1 wq ->
 K (.string (mkS s24)) wq
theorem qan (v0 : Value) {w : World} {K : Value -> World -> Prop} (h : zZ v0 w K) : Calls prog zp #[v0] w (Ret K) :=
 qo (c := qr Tryz.f108) (by kernel_rfl) Tryz.func108 (by kernel_rfl) [] [v0] (of_decide_eq_true (by kernel_rfl)) _ (by kernel_rfl) h

--  cracknel/cracknelref02.Text6
def zW (v0 : Value) (w : World) (K : Value -> World -> Prop) : Prop :=
 ∀ k1 w1, k1 = w.heap.size -> w1 = w.alloc (.cells (Value.cells v0) qk) ->
 ∃ I : Nat -> FP [.one (.int .i64)],
 (∃ m, I m (8 : Int) w1) /\
 ∀ m n3, AllJ 40 (∀ wl, I m n3 wl ->
 BCase (decide (n3 >= (2 : Int)))
 (∃ I_1 : Nat -> FP [.one (.int .i64)],
 (∃ m_1, I_1 m_1 (0 : Int) wl) /\
 ∀ m_1 n4, AllJ 35 (∀ wl_1, I_1 m_1 n4 wl_1 ->
 BCase (decide ((i64.wrap (n4 + n3)) <= (8 : Int)))
 (∃ I_2 : Nat -> FP [.one (.bool), .one (.int .i64)],
 (∃ m_2, I_2 m_2 true n4 wl_1) /\
 ∀ m_2 b5 n6, AllJ 14 (∀ wl_2, I_2 m_2 b5 n6 wl_2 ->
 BCase (decide (n6 < (i64.wrap (n4 + n3))))
 (BCase b5
 (∃ v27, Ld qk (some ⟨k1, 0, none⟩) wl_2 v27 /\
 Calls prog qV #[v27, .int .i64 n6] wl_2 fun e29 w29 => ∃ n29, e29 = .returned (.int .i64 n29) /\
 ∃ m'_2 : Nat, m'_2 < m_2 /\ I_2 m'_2 (n29 == (0 : Int)) (i64.wrap (n6 + (1 : Int))) w29)
 (∃ m'_2 : Nat, m'_2 < m_2 /\ I_2 m'_2 false (i64.wrap (n6 + (1 : Int))) wl_2))
 (BCase b5
 (∃ v33, (∀ u33, Below wl_2.heap.size wl_2 u33 -> Ld qk (some ⟨k1, 0, none⟩) u33 v33) /\
 ∃ s35, (∀ u35, Below wl_2.heap.size wl_2 u35 -> Calls prog qF #[v33, .int .i64 (0 : Int), .int .i64 n4] u35 fun e35 w35 => e35 = .returned (.string (mkS s35)) /\ Below wl_2.heap.size u35 w35) /\
 ((((List.length s35 + List.length [58, 58] : Nat) : Int) <= i64.max)) /\
 ∀ s36, s36 = (s35 ++ [58, 58]) ->
 ∃ v37, (∀ u37, Below wl_2.heap.size wl_2 u37 -> Ld qk (some ⟨k1, 0, none⟩) u37 v37) /\
 ∃ s41, (∀ u41, Below wl_2.heap.size wl_2 u41 -> Calls prog qF #[v37, .int .i64 (i64.wrap (n4 + n3)), .int .i64 (8 : Int)] u41 fun e41 w41 => e41 = .returned (.string (mkS s41)) /\ Below wl_2.heap.size u41 w41) /\
 ((((List.length s36 + List.length s41 : Nat) : Int) <= i64.max)) /\
 ∀ s42, s42 = (s36 ++ s41) ->
 ∀ wq, Below wl_2.heap.size wl_2 wq ->
 K (.string (mkS s42)) wq)
 (∃ m'_1 : Nat, m'_1 < m_1 /\ I_1 m'_1 (i64.wrap (n4 + (1 : Int))) wl_2))))
 (∃ m' : Nat, m' < m /\ I m' (i64.wrap (n3 - (1 : Int))) wl_1)))
 (∃ v43, Ld qk (some ⟨k1, 0, none⟩) wl v43 /\
 Calls prog qF #[v43, .int .i64 (0 : Int), .int .i64 (8 : Int)] wl fun e44 w44 => ∃ s44, e44 = .returned (.string (mkS s44)) /\
 K (.string (mkS s44)) w44))
theorem qak (v0 : Value) {w : World} {K : Value -> World -> Prop} (h : zW v0 w K) : Calls prog zm #[v0] w (Ret K) :=
 qo (c := qr Tryz.f109) (by kernel_rfl) Tryz.func109 (by kernel_rfl) [(6, [(3, .one (.int .i64))]), (18, [(4, .one (.int .i64))]), (33, [(5, .one (.bool)), (6, .one (.int .i64))])] [v0] (of_decide_eq_true (by kernel_rfl)) _ (by kernel_rfl) h

--  cracknel/cracknelref02.V6
def zu (n0 : Int) (w : World) (K : Value -> World -> Prop) : Prop :=
 BCase (decide (n0 < (10 : Int)))
 (∀ k8 w8, k8 = w.heap.size -> w8 = w.alloc (.cells #[.int .u8 (IntKind.u8.wrap (i64.wrap ((48 : Int) + n0)))] qw) ->
 ∃ s9, (convert qE qe (.slice (some ⟨k8, 0, none⟩) 1 1)).run prog w8 = .ok (.string (mkS s9)) w8 /\
 K (.string (mkS s9)) w8)
 (((10 : Int) ≠ 0) /\
 ∀ q11, q11 = (i64.wrap (Int.tdiv n0 (10 : Int))) ->
 ((10 : Int) ≠ 0) /\
 ∀ q14, q14 = (Int.tmod n0 (10 : Int)) ->
 (Calls prog qu #[.int .i64 q11] (World.drew w) fun e12 w12 => ∃ s12, e12 = .returned (.string (mkS s12)) /\
 ∀ k17 w17, k17 = w12.heap.size -> w17 = w12.alloc (.cells #[.int .u8 (IntKind.u8.wrap (i64.wrap ((48 : Int) + q14)))] qw) ->
 ∃ s18, (convert qE qe (.slice (some ⟨k17, 0, none⟩) 1 1)).run prog w17 = .ok (.string (mkS s18)) w17 /\
 ((((List.length s12 + List.length s18 : Nat) : Int) <= i64.max)) /\
 ∀ s19, s19 = (s12 ++ s18) ->
 K (.string (mkS s19)) w17) /\
 ∀ k17_1 w17_1, k17_1 = (World.drew w).heap.size -> w17_1 = (World.drew w).alloc (.cells #[.int .u8 (IntKind.u8.wrap (i64.wrap ((48 : Int) + q14)))] qw) ->
 (Calls prog qu #[.int .i64 q11] w17_1 fun e12_1 w12_1 => ∃ s12_1, e12_1 = .returned (.string (mkS s12_1)) /\
 ∃ s18_1, (convert qE qe (.slice (some ⟨k17_1, 0, none⟩) 1 1)).run prog w12_1 = .ok (.string (mkS s18_1)) w12_1 /\
 ((((List.length s12_1 + List.length s18_1 : Nat) : Int) <= i64.max)) /\
 ∀ s19_1, s19_1 = (s12_1 ++ s18_1) ->
 K (.string (mkS s19_1)) w12_1) /\
 ∃ s18_2, (convert qE qe (.slice (some ⟨k17_1, 0, none⟩) 1 1)).run prog w17_1 = .ok (.string (mkS s18_2)) w17_1 /\
 Calls prog qu #[.int .i64 q11] w17_1 fun e12_2 w12_2 => ∃ s12_2, e12_2 = .returned (.string (mkS s12_2)) /\
 ((((List.length s12_2 + List.length s18_2 : Nat) : Int) <= i64.max)) /\
 ∀ s19_2, s19_2 = (s12_2 ++ s18_2) ->
 K (.string (mkS s19_2)) w12_2)
theorem jE (n0 : Int) {w : World} {K : Value -> World -> Prop} (h : zu n0 w K) : Calls prog qu #[.int .i64 n0] w (Ret K) :=
 qo (c := qr Tryz.f176) (by kernel_rfl) Tryz.func176 (by kernel_rfl) [] [.int .i64 n0] (of_decide_eq_true (by kernel_rfl)) _ (by kernel_rfl) h

--  cracknel/cracknelref02.Group
def z6 (v0 : Value) (n1 : Int) (w : World) (K : Value -> World -> Prop) : Prop :=
 ∀ k2 w2, k2 = w.heap.size -> w2 = w.alloc (.cells (Value.cells v0) qk) ->
 ((0 <= (i64.wrap ((2 : Int) * n1)) /\ (i64.wrap ((2 : Int) * n1)) < ((16 : Nat) : Int)) /\ true = true) /\
 ∃ n8, (∀ u8, Below w2.heap.size w2 u8 -> Ld qw (qn (some ⟨k2, 0, none⟩) (i64.wrap ((2 : Int) * n1)) 1) u8 (.int .u8 n8)) /\
 ((0 <= (i64.wrap ((i64.wrap ((2 : Int) * n1)) + (1 : Int))) /\ (i64.wrap ((i64.wrap ((2 : Int) * n1)) + (1 : Int))) < ((16 : Nat) : Int)) /\ true = true) /\
 ∃ n15, (∀ u15, Below w2.heap.size w2 u15 -> Ld qw (qn (some ⟨k2, 0, none⟩) (i64.wrap ((i64.wrap ((2 : Int) * n1)) + (1 : Int))) 1) u15 (.int .u8 n15)) /\
 ∀ wq, Below w2.heap.size w2 wq ->
 K (.int .i64 (i64.wrap ((i64.wrap ((i64.wrap n8) * (256 : Int))) + (i64.wrap n15)))) wq
theorem qar (v0 : Value) (n1 : Int) {w : World} {K : Value -> World -> Prop} (h : z6 v0 n1 w K) : Calls prog qV #[v0, .int .i64 n1] w (Ret K) :=
 qo (c := qr Tryz.f177) (by kernel_rfl) Tryz.func177 (by kernel_rfl) [] [v0, .int .i64 n1] (of_decide_eq_true (by kernel_rfl)) _ (by kernel_rfl) h

--  cracknel/cracknelref02.part
def jr (v0 : Value) (n1 : Int) (n2 : Int) (w : World) (K : Value -> World -> Prop) : Prop :=
 ∀ k3 w3, k3 = w.heap.size -> w3 = w.alloc (.cells (Value.cells v0) qk) ->
 ∃ I : Nat -> FP [.one (.str), .one (.int .i64)],
 (∃ m, I m [] n1 w3) /\
 ∀ m s7 n8, AllJ 16 (∀ wl, I m s7 n8 wl ->
 BCase (decide (n8 < n2))
 (∃ J : FP [.one (.str)],
 (BCase (decide (n8 > n1))
 (((((List.length s7 + List.length [58] : Nat) : Int) <= i64.max)) /\
 ∀ s19, s19 = (s7 ++ [58]) ->
 J s19 wl)
 (J s7 wl)) /\
 ∀ s7_1, AllJ 5 (∀ wj, J s7_1 wj ->
 ∃ v21, Ld qk (some ⟨k3, 0, none⟩) wj v21 /\
 Calls prog qV #[v21, .int .i64 n8] wj fun e23 w23 => ∃ n23, e23 = .returned (.int .i64 n23) /\
 Calls prog zq #[.int .i64 n23] w23 fun e24 w24 => ∃ s24, e24 = .returned (.string (mkS s24)) /\
 ((((List.length s7_1 + List.length s24 : Nat) : Int) <= i64.max)) /\
 ∀ s25, s25 = (s7_1 ++ s24) ->
 ∃ m' : Nat, m' < m /\ I m' s25 (i64.wrap (n8 + (1 : Int))) w24))
 (K (.string (mkS s7)) wl))
theorem qaP (v0 : Value) (n1 : Int) (n2 : Int) {w : World} {K : Value -> World -> Prop} (h : jr v0 n1 n2 w K) : Calls prog qF #[v0, .int .i64 n1, .int .i64 n2] w (Ret K) :=
 qo (c := qr Tryz.f178) (by kernel_rfl) Tryz.func178 (by kernel_rfl) [(8, [(7, .one (.str)), (8, .one (.int .i64))]), (17, [(7, .one (.str))])] [v0, .int .i64 n1, .int .i64 n2] (of_decide_eq_true (by kernel_rfl)) _ (by kernel_rfl) h

--  cracknel/cracknelref02.eight
def jQ (n0 : Int) (w : World) (K : Value -> World -> Prop) : Prop :=
 BCase (decide (n0 < (16 : Int)))
 ((((0 <= (i64.wrap (n0 + (1 : Int))) /\ (i64.wrap (n0 + (1 : Int))) <= (((List.length [48, 49, 50, 51, 52, 53, 54, 55, 56, 57, 97, 98, 99, 100, 101, 102]) : Nat) : Int)) /\ 0 <= n0 /\ n0 <= ((Int.toNat (i64.wrap (n0 + (1 : Int))) : Nat) : Int))) /\
 ∀ s8, s8 = (List.drop (Int.toNat n0) (List.take (Int.toNat (i64.wrap (n0 + (1 : Int)))) [48, 49, 50, 51, 52, 53, 54, 55, 56, 57, 97, 98, 99, 100, 101, 102])) ->
 K (.string (mkS s8)) w)
 (((16 : Int) ≠ 0) /\
 ∀ q10, q10 = (i64.wrap (Int.tdiv n0 (16 : Int))) ->
 ∃ s11, (∀ u11, Below w.heap.size w u11 -> Calls prog zq #[.int .i64 q10] u11 fun e11 w11 => e11 = .returned (.string (mkS s11)) /\ Below w.heap.size u11 w11) /\
 ((16 : Int) ≠ 0) /\
 ∀ q13, q13 = (Int.tmod n0 (16 : Int)) ->
 ((16 : Int) ≠ 0) /\
 ∀ q15, q15 = (Int.tmod n0 (16 : Int)) ->
 (((0 <= (i64.wrap (q15 + (1 : Int))) /\ (i64.wrap (q15 + (1 : Int))) <= (((List.length [48, 49, 50, 51, 52, 53, 54, 55, 56, 57, 97, 98, 99, 100, 101, 102]) : Nat) : Int)) /\ 0 <= q13 /\ q13 <= ((Int.toNat (i64.wrap (q15 + (1 : Int))) : Nat) : Int))) /\
 ∀ s17, s17 = (List.drop (Int.toNat q13) (List.take (Int.toNat (i64.wrap (q15 + (1 : Int)))) [48, 49, 50, 51, 52, 53, 54, 55, 56, 57, 97, 98, 99, 100, 101, 102])) ->
 ((((List.length s11 + List.length s17 : Nat) : Int) <= i64.max)) /\
 ∀ s18, s18 = (s11 ++ s17) ->
 ∀ wq, Below w.heap.size w wq ->
 K (.string (mkS s18)) wq)
theorem qbe (n0 : Int) {w : World} {K : Value -> World -> Prop} (h : jQ n0 w K) : Calls prog zq #[.int .i64 n0] w (Ret K) :=
 qo (c := qr Tryz.f237) (by kernel_rfl) Tryz.func237 (by kernel_rfl) [] [.int .i64 n0] (of_decide_eq_true (by kernel_rfl)) _ (by kernel_rfl) h

--  cracknel/cracknelref02.digit
end Go.Proofs.YtndbpedpdbjkpaaGreatDoor
namespace Go.Proofs.YtndbpedpdbjkpaaGreatDoor
open Go.Pk
open Go.RowKit (Below)
--  cracknel/octet.Digits
def qcK (s0_0 : List UInt8) (s0_1 : List UInt8) (s0_2 : List UInt8) (s0_3 : List UInt8) (b0_4 : Bool) (n0_5 : Int) (b0_6 : Bool) (n0_7 : Int) (b0_8 : Bool) (b0_9 : Bool) (n0_10 : Int) (w : World) (K : Value -> World -> Prop) : Prop :=
 ∀ k1 w1, k1 = w.heap.size -> w1 = w.alloc (.cells #[.string (mkS s0_0), .string (mkS s0_1), .string (mkS s0_2), .string (mkS s0_3), .bool b0_4, .int .i64 n0_5, .bool b0_6, .int .i64 n0_7, .bool b0_8, .bool b0_9, .int .i64 n0_10] qd) ->
 (true = true) /\
 ∃ s8, Ld qe (some ⟨k1, 0, none⟩) w1 (.string (mkS s8)) /\
 ((((List.length s8 + List.length [61] : Nat) : Int) <= i64.max)) /\
 ∀ s9, s9 = (s8 ++ [61]) ->
 (true = true) /\
 ∃ s11, Ld qe (some ⟨k1, 1, none⟩) w1 (.string (mkS s11)) /\
 ((((List.length s9 + List.length s11 : Nat) : Int) <= i64.max)) /\
 ∀ s12, s12 = (s9 ++ s11) ->
 ∃ J : FP [.one (.str)],
 ((true = true) /\
 ∃ b14, Ld qy (some ⟨k1, 4, none⟩) w1 (.bool b14) /\
 BCase b14
 ((true = true) /\
 ∃ n17, Ld qZ (some ⟨k1, 5, none⟩) w1 (.int .i64 n17) /\
 Calls prog qbM #[.int .i64 n17] w1 fun e18 w18 => ∃ s18, e18 = .returned (.string (mkS s18)) /\
 ((((List.length [59, 32, 69, 120, 112, 105, 114, 101, 115, 61] + List.length s18 : Nat) : Int) <= i64.max)) /\
 ∀ s19, s19 = ([59, 32, 69, 120, 112, 105, 114, 101, 115, 61] ++ s18) ->
 ((((List.length s12 + List.length s19 : Nat) : Int) <= i64.max)) /\
 ∀ s20, s20 = (s12 ++ s19) ->
 J s20 w18)
 (J s12 w1)) /\
 ∀ s4, AllJ 8 (∀ wj, J s4 wj ->
 ∃ J_1 : FP [.one (.str)],
 ((true = true) /\
 ∃ b22, Ld qy (some ⟨k1, 6, none⟩) wj (.bool b22) /\
 BCase b22
 ((true = true) /\
 ∃ n24, Ld qZ (some ⟨k1, 7, none⟩) wj (.int .i64 n24) /\
 BCase (decide (n24 < (0 : Int)))
 (K (.tuple #[.string (mkS []), .bool false]) wj)
 ((true = true) /\
 ∃ n28, Ld qZ (some ⟨k1, 7, none⟩) wj (.int .i64 n28) /\
 Calls prog qaj #[.int .i64 n28] wj fun e29 w29 => ∃ s29, e29 = .returned (.string (mkS s29)) /\
 ((((List.length [59, 32, 77, 97, 120, 45, 65, 103, 101, 61] + List.length s29 : Nat) : Int) <= i64.max)) /\
 ∀ s30, s30 = ([59, 32, 77, 97, 120, 45, 65, 103, 101, 61] ++ s29) ->
 ((((List.length s4 + List.length s30 : Nat) : Int) <= i64.max)) /\
 ∀ s31, s31 = (s4 ++ s30) ->
 J_1 s31 w29))
 (J_1 s4 wj)) /\
 ∀ s4_1, AllJ 13 (∀ wj_1, J_1 s4_1 wj_1 ->
 ∃ J_2 : FP [.one (.str)],
 ((true = true) /\
 ∃ s33, Ld qe (some ⟨k1, 2, none⟩) wj_1 (.string (mkS s33)) /\
 BCase (!(s33 == []))
 (((((List.length s4_1 + List.length [59, 32, 68, 111, 109, 97, 105, 110, 61] : Nat) : Int) <= i64.max)) /\
 ∀ s36, s36 = (s4_1 ++ [59, 32, 68, 111, 109, 97, 105, 110, 61]) ->
 ∃ J_3 : FP [.one (.str)],
 ((true = true) /\
 ∃ s38, Ld qe (some ⟨k1, 2, none⟩) wj_1 (.string (mkS s38)) /\
 ((0 <= (0 : Int) /\ (0 : Int) < ((List.length s38 : Nat) : Int))) /\
 BCase ((qA s38 (0 : Int)) == (46 : Int))
 (((((List.length s36 + List.length [46] : Nat) : Int) <= i64.max)) /\
 ∀ s54, s54 = (s36 ++ [46]) ->
 J_3 s54 wj_1)
 ((true = true) /\
 ∃ s43, Ld qe (some ⟨k1, 2, none⟩) wj_1 (.string (mkS s43)) /\
 ((0 <= (0 : Int) /\ (0 : Int) < ((List.length s43 : Nat) : Int))) /\
 BCase ((qA s43 (0 : Int)) == (32 : Int))
 (((((List.length s36 + List.length [46] : Nat) : Int) <= i64.max)) /\
 ∀ s54_1, s54_1 = (s36 ++ [46]) ->
 J_3 s54_1 wj_1)
 ((true = true) /\
 ∃ s49, Ld qe (some ⟨k1, 2, none⟩) wj_1 (.string (mkS s49)) /\
 ((0 <= (0 : Int) /\ (0 : Int) < ((List.length s49 : Nat) : Int))) /\
 BCase ((qA s49 (0 : Int)) == (9 : Int))
 (((((List.length s36 + List.length [46] : Nat) : Int) <= i64.max)) /\
 ∀ s54_2, s54_2 = (s36 ++ [46]) ->
 J_3 s54_2 wj_1)
 (J_3 s36 wj_1)))) /\
 ∀ s4_2, AllJ 18 (∀ wj_2, J_3 s4_2 wj_2 ->
 (true = true) /\
 ∃ s57, Ld qe (some ⟨k1, 2, none⟩) wj_2 (.string (mkS s57)) /\
 ((((List.length s4_2 + List.length s57 : Nat) : Int) <= i64.max)) /\
 ∀ s58, s58 = (s4_2 ++ s57) ->
 J_2 s58 wj_2))
 (J_2 s4_1 wj_1)) /\
 ∀ s4_3, AllJ 27 (∀ wj_3, J_2 s4_3 wj_3 ->
 ∃ J_4 : FP [.one (.str)],
 ((true = true) /\
 ∃ s60, Ld qe (some ⟨k1, 3, none⟩) wj_3 (.string (mkS s60)) /\
 BCase (!(s60 == []))
 ((true = true) /\
 ∃ s64, Ld qe (some ⟨k1, 3, none⟩) wj_3 (.string (mkS s64)) /\
 ((((List.length [59, 32, 80, 97, 116, 104, 61] + List.length s64 : Nat) : Int) <= i64.max)) /\
 ∀ s65, s65 = ([59, 32, 80, 97, 116, 104, 61] ++ s64) ->
 ((((List.length s4_3 + List.length s65 : Nat) : Int) <= i64.max)) /\
 ∀ s66, s66 = (s4_3 ++ s65) ->
 J_4 s66 wj_3)
 (J_4 s4_3 wj_3)) /\
 ∀ s4_4, AllJ 8 (∀ wj_4, J_4 s4_4 wj_4 ->
 ∃ J_5 : FP [.one (.str)],
 ((true = true) /\
 ∃ b68, Ld qy (some ⟨k1, 8, none⟩) wj_4 (.bool b68) /\
 BCase b68
 (((((List.length s4_4 + List.length [59, 32, 83, 101, 99, 117, 114, 101] : Nat) : Int) <= i64.max)) /\
 ∀ s70, s70 = (s4_4 ++ [59, 32, 83, 101, 99, 117, 114, 101]) ->
 J_5 s70 wj_4)
 (J_5 s4_4 wj_4)) /\
 ∀ s4_5, AllJ 4 (∀ wj_5, J_5 s4_5 wj_5 ->
 ∃ J_6 : FP [.one (.str)],
 ((true = true) /\
 ∃ b72, Ld qy (some ⟨k1, 9, none⟩) wj_5 (.bool b72) /\
 BCase b72
 (((((List.length s4_5 + List.length [59, 32, 72, 116, 116, 112, 79, 110, 108, 121] : Nat) : Int) <= i64.max)) /\
 ∀ s74, s74 = (s4_5 ++ [59, 32, 72, 116, 116, 112, 79, 110, 108, 121]) ->
 J_6 s74 wj_5)
 (J_6 s4_5 wj_5)) /\
 ∀ s4_6, AllJ 4 (∀ wj_6, J_6 s4_6 wj_6 ->
 ∃ J_7 : FP [.one (.str)],
 ((true = true) /\
 ∃ n76, Ld qx (some ⟨k1, 10, none⟩) wj_6 (.int .i64 n76) /\
 BCase (n76 == (1 : Int))
 (((((List.length s4_6 + List.length [59, 32, 83, 97, 109, 101, 83, 105, 116, 101, 61, 78, 111, 110, 101] : Nat) : Int) <= i64.max)) /\
 ∀ s79, s79 = (s4_6 ++ [59, 32, 83, 97, 109, 101, 83, 105, 116, 101, 61, 78, 111, 110, 101]) ->
 J_7 s79 wj_6)
 (J_7 s4_6 wj_6)) /\
 ∀ s4_7, AllJ 5 (∀ wj_7, J_7 s4_7 wj_7 ->
 ∃ J_8 : FP [.one (.str)],
 ((true = true) /\
 ∃ n81, Ld qx (some ⟨k1, 10, none⟩) wj_7 (.int .i64 n81) /\
 BCase (n81 == (2 : Int))
 (((((List.length s4_7 + List.length [59, 32, 83, 97, 109, 101, 83, 105, 116, 101, 61, 76, 97, 120] : Nat) : Int) <= i64.max)) /\
 ∀ s84, s84 = (s4_7 ++ [59, 32, 83, 97, 109, 101, 83, 105, 116, 101, 61, 76, 97, 120]) ->
 J_8 s84 wj_7)
 (J_8 s4_7 wj_7)) /\
 ∀ s4_8, AllJ 5 (∀ wj_8, J_8 s4_8 wj_8 ->
 ∃ J_9 : FP [.one (.str)],
 ((true = true) /\
 ∃ n86, Ld qx (some ⟨k1, 10, none⟩) wj_8 (.int .i64 n86) /\
 BCase (n86 == (3 : Int))
 (((((List.length s4_8 + List.length [59, 32, 83, 97, 109, 101, 83, 105, 116, 101, 61, 83, 116, 114, 105, 99, 116] : Nat) : Int) <= i64.max)) /\
 ∀ s89, s89 = (s4_8 ++ [59, 32, 83, 97, 109, 101, 83, 105, 116, 101, 61, 83, 116, 114, 105, 99, 116]) ->
 J_9 s89 wj_8)
 (J_9 s4_8 wj_8)) /\
 ∀ s4_9, AllJ 5 (∀ wj_9, J_9 s4_9 wj_9 ->
 Calls prog qcy #[.string (mkS s4_9)] wj_9 fun e92 w92 => ∃ s92_0_0 s92_0_1 s92_0_2 s92_0_3 b92_0_4 n92_0_5 b92_0_6 n92_0_7 b92_0_8 b92_0_9 n92_0_10 n92_1, e92 = .returned (.tuple #[(hV s92_0_0 s92_0_1 s92_0_2 s92_0_3 b92_0_4 n92_0_5 b92_0_6 n92_0_7 b92_0_8 b92_0_9 n92_0_10), .int .i64 n92_1]) /\
 ∀ k5 w5, k5 = w92.heap.size -> w5 = w92.alloc (.cells #[.string (mkS []), .string (mkS []), .string (mkS []), .string (mkS []), .bool false, .int .i64 (0 : Int), .bool false, .int .i64 (0 : Int), .bool false, .bool false, .int .i64 (0 : Int)] qd) ->
 ∃ wx, Sv qd (some ⟨k5, 0, none⟩) (hV s92_0_0 s92_0_1 s92_0_2 s92_0_3 b92_0_4 n92_0_5 b92_0_6 n92_0_7 b92_0_8 b92_0_9 n92_0_10) w5 wx /\
 BCase (n92_1 != (0 : Int))
 (K (.tuple #[.string (mkS []), .bool false]) wx)
 (∃ s98_0 s98_1 s98_2 s98_3 b98_4 n98_5 b98_6 n98_7 b98_8 b98_9 n98_10, Ld qd (some ⟨k5, 0, none⟩) wx (hV s98_0 s98_1 s98_2 s98_3 b98_4 n98_5 b98_6 n98_7 b98_8 b98_9 n98_10) /\
 ∃ s99_0 s99_1 s99_2 s99_3 b99_4 n99_5 b99_6 n99_7 b99_8 b99_9 n99_10, Ld qd (some ⟨k1, 0, none⟩) wx (hV s99_0 s99_1 s99_2 s99_3 b99_4 n99_5 b99_6 n99_7 b99_8 b99_9 n99_10) /\
 ∃ b100, ((do eqGuard .neq qd (.tmp 98) (.tmp 99) (hV s98_0 s98_1 s98_2 s98_3 b98_4 n98_5 b98_6 n98_7 b98_8 b98_9 n98_10) (hV s99_0 s99_1 s99_2 s99_3 b99_4 n99_5 b99_6 n99_7 b99_8 b99_9 n99_10); binOp .neq qd (hV s98_0 s98_1 s98_2 s98_3 b98_4 n98_5 b98_6 n98_7 b98_8 b98_9 n98_10) (hV s99_0 s99_1 s99_2 s99_3 b99_4 n99_5 b99_6 n99_7 b99_8 b99_9 n99_10) : Sem Value)).run prog wx = .ok (.bool b100) wx /\
 BCase b100
 (K (.tuple #[.string (mkS []), .bool false]) wx)
 (K (.tuple #[.string (mkS s4_9), .bool true]) wx)))))))))))
theorem qeG (s0_0 : List UInt8) (s0_1 : List UInt8) (s0_2 : List UInt8) (s0_3 : List UInt8) (b0_4 : Bool) (n0_5 : Int) (b0_6 : Bool) (n0_7 : Int) (b0_8 : Bool) (b0_9 : Bool) (n0_10 : Int) {w : World} {K : Value -> World -> Prop} (h : qcK s0_0 s0_1 s0_2 s0_3 b0_4 n0_5 b0_6 n0_7 b0_8 b0_9 n0_10 w K) : Calls prog qbN #[.agg #[.string (mkS s0_0), .string (mkS s0_1), .string (mkS s0_2), .string (mkS s0_3), .bool b0_4, .int .i64 n0_5, .bool b0_6, .int .i64 n0_7, .bool b0_8, .bool b0_9, .int .i64 n0_10]] w (Ret K) :=
 qo (c := qr Tryz.f88) (by kernel_rfl) Tryz.func88 (by kernel_rfl) [(4, [(4, .one (.str))]), (10, [(4, .one (.str))]), (24, [(4, .one (.str))]), (30, [(4, .one (.str))]), (38, [(4, .one (.str))]), (44, [(4, .one (.str))]), (50, [(4, .one (.str))]), (56, [(4, .one (.str))]), (62, [(4, .one (.str))]), (68, [(4, .one (.str))])] [.agg #[.string (mkS s0_0), .string (mkS s0_1), .string (mkS s0_2), .string (mkS s0_3), .bool b0_4, .int .i64 n0_5, .bool b0_6, .int .i64 n0_7, .bool b0_8, .bool b0_9, .int .i64 n0_10]] (of_decide_eq_true (by kernel_rfl)) _ (by kernel_rfl) h

--  cracknel/octet.Lower
def qcI (n0 : Int) (w : World) (K : Value -> World -> Prop) : Prop :=
 ((86400 : Int) ≠ 0) /\
 ∀ q13, q13 = (Int.tmod n0 (86400 : Int)) ->
 ∃ J : FP [.one (.int .i64)],
 (BCase (decide (q13 < (0 : Int)))
 (J (i64.wrap (q13 + (86400 : Int))) w)
 (J q13 w)) /\
 ∀ n3, AllJ 4 (∀ wj, J n3 wj ->
 ((86400 : Int) ≠ 0) /\
 ∀ q19, q19 = (i64.wrap (Int.tdiv n0 (86400 : Int))) ->
 ∃ J_1 : FP [.one (.int .i64)],
 (BCase (decide (n0 < (0 : Int)))
 (((86400 : Int) ≠ 0) /\
 ∀ q24, q24 = (Int.tmod n0 (86400 : Int)) ->
 BCase (q24 != (0 : Int))
 (J_1 (i64.wrap (q19 - (1 : Int))) wj)
 (J_1 q19 wj))
 (J_1 q19 wj)) /\
 ∀ n4, AllJ 9 (∀ wj_1, J_1 n4 wj_1 ->
 Calls prog qbf #[.int .i64 n4] wj_1 fun e31 w31 => ∃ n31_0 n31_1 n31_2 b31_3, e31 = .returned (.tuple #[.int .i64 n31_0, .int .i64 n31_1, .int .i64 n31_2, .bool b31_3]) /\
 BCase (!b31_3)
 (K (.string (mkS [])) w31)
 (((7 : Int) ≠ 0) /\
 ∀ q39, q39 = (Int.tmod n4 (7 : Int)) ->
 ∃ J_2 : FP [.one (.int .i64)],
 (BCase (decide (q39 < (0 : Int)))
 (J_2 (i64.wrap (q39 + (7 : Int))) w31)
 (J_2 q39 w31)) /\
 ∀ n9, AllJ 4 (∀ wj_2, J_2 n9 wj_2 ->
 (∀ k45 w45, k45 = (World.drew wj_2).heap.size -> w45 = (World.drew wj_2).alloc (.cells #[.string (mkS [84, 104, 117]), .string (mkS [70, 114, 105]), .string (mkS [83, 97, 116]), .string (mkS [83, 117, 110]), .string (mkS [77, 111, 110]), .string (mkS [84, 117, 101]), .string (mkS [87, 101, 100])] qe) ->
 ((0 <= n9 /\ n9 < ((7 : Nat) : Int)) /\ true = true) /\
 (∃ s48, Ld qe (qn (some ⟨k45, 0, none⟩) n9 1) w45 (.string (mkS s48)) /\
 ((((List.length s48 + List.length [44, 32] : Nat) : Int) <= i64.max)) /\
 ∀ s49, s49 = (s48 ++ [44, 32]) ->
 Calls prog qz #[.int .i64 n31_2] w45 fun e51 w51 => ∃ s51, e51 = .returned (.string (mkS s51)) /\
 ((((List.length s49 + List.length s51 : Nat) : Int) <= i64.max)) /\
 ∀ s52, s52 = (s49 ++ s51) ->
 ((((List.length s52 + List.length [32] : Nat) : Int) <= i64.max)) /\
 ∀ s53, s53 = (s52 ++ [32]) ->
 ∀ k55 w55, k55 = w51.heap.size -> w55 = w51.alloc (.cells #[.string (mkS [74, 97, 110]), .string (mkS [70, 101, 98]), .string (mkS [77, 97, 114]), .string (mkS [65, 112, 114]), .string (mkS [77, 97, 121]), .string (mkS [74, 117, 110]), .string (mkS [74, 117, 108]), .string (mkS [65, 117, 103]), .string (mkS [83, 101, 112]), .string (mkS [79, 99, 116]), .string (mkS [78, 111, 118]), .string (mkS [68, 101, 99])] qe) ->
 ((0 <= (i64.wrap (n31_1 - (1 : Int))) /\ (i64.wrap (n31_1 - (1 : Int))) < ((12 : Nat) : Int)) /\ true = true) /\
 ∃ s59, Ld qe (qn (some ⟨k55, 0, none⟩) (i64.wrap (n31_1 - (1 : Int))) 1) w55 (.string (mkS s59)) /\
 ((((List.length s53 + List.length s59 : Nat) : Int) <= i64.max)) /\
 ∀ s60, s60 = (s53 ++ s59) ->
 ((((List.length s60 + List.length [32] : Nat) : Int) <= i64.max)) /\
 ∀ s62, s62 = (s60 ++ [32]) ->
 ((100 : Int) ≠ 0) /\
 ∀ q64, q64 = (i64.wrap (Int.tdiv n31_0 (100 : Int))) ->
 Calls prog qz #[.int .i64 q64] w55 fun e65 w65 => ∃ s65, e65 = .returned (.string (mkS s65)) /\
 ((((List.length s62 + List.length s65 : Nat) : Int) <= i64.max)) /\
 ∀ s66, s66 = (s62 ++ s65) ->
 ((100 : Int) ≠ 0) /\
 ∀ q68, q68 = (Int.tmod n31_0 (100 : Int)) ->
 Calls prog qz #[.int .i64 q68] w65 fun e69 w69 => ∃ s69, e69 = .returned (.string (mkS s69)) /\
 ((((List.length s66 + List.length s69 : Nat) : Int) <= i64.max)) /\
 ∀ s70, s70 = (s66 ++ s69) ->
 ((((List.length s70 + List.length [32] : Nat) : Int) <= i64.max)) /\
 ∀ s71, s71 = (s70 ++ [32]) ->
 ((3600 : Int) ≠ 0) /\
 ∀ q73, q73 = (i64.wrap (Int.tdiv n3 (3600 : Int))) ->
 Calls prog qz #[.int .i64 q73] w69 fun e74 w74 => ∃ s74, e74 = .returned (.string (mkS s74)) /\
 ((((List.length s71 + List.length s74 : Nat) : Int) <= i64.max)) /\
 ∀ s75, s75 = (s71 ++ s74) ->
 ((((List.length s75 + List.length [58] : Nat) : Int) <= i64.max)) /\
 ∀ s76, s76 = (s75 ++ [58]) ->
 ((60 : Int) ≠ 0) /\
 ∀ q78, q78 = (i64.wrap (Int.tdiv n3 (60 : Int))) ->
 ((60 : Int) ≠ 0) /\
 ∀ q79, q79 = (Int.tmod q78 (60 : Int)) ->
 Calls prog qz #[.int .i64 q79] w74 fun e80 w80 => ∃ s80, e80 = .returned (.string (mkS s80)) /\
 ((((List.length s76 + List.length s80 : Nat) : Int) <= i64.max)) /\
 ∀ s81, s81 = (s76 ++ s80) ->
 ((((List.length s81 + List.length [58] : Nat) : Int) <= i64.max)) /\
 ∀ s82, s82 = (s81 ++ [58]) ->
 ((60 : Int) ≠ 0) /\
 ∀ q84, q84 = (Int.tmod n3 (60 : Int)) ->
 Calls prog qz #[.int .i64 q84] w80 fun e85 w85 => ∃ s85, e85 = .returned (.string (mkS s85)) /\
 ((((List.length s82 + List.length s85 : Nat) : Int) <= i64.max)) /\
 ∀ s86, s86 = (s82 ++ s85) ->
 ((((List.length s86 + List.length [32, 71, 77, 84] : Nat) : Int) <= i64.max)) /\
 ∀ s87, s87 = (s86 ++ [32, 71, 77, 84]) ->
 K (.string (mkS s87)) w85) /\
 Calls prog qz #[.int .i64 n31_2] w45 fun e51_1 w51_1 => ∃ s51_1, e51_1 = .returned (.string (mkS s51_1)) /\
 ∃ s48_1, Ld qe (qn (some ⟨k45, 0, none⟩) n9 1) w51_1 (.string (mkS s48_1)) /\
 ((((List.length s48_1 + List.length [44, 32] : Nat) : Int) <= i64.max)) /\
 ∀ s49_1, s49_1 = (s48_1 ++ [44, 32]) ->
 ((((List.length s49_1 + List.length s51_1 : Nat) : Int) <= i64.max)) /\
 ∀ s52_1, s52_1 = (s49_1 ++ s51_1) ->
 ((((List.length s52_1 + List.length [32] : Nat) : Int) <= i64.max)) /\
 ∀ s53_1, s53_1 = (s52_1 ++ [32]) ->
 ∀ k55_1 w55_1, k55_1 = w51_1.heap.size -> w55_1 = w51_1.alloc (.cells #[.string (mkS [74, 97, 110]), .string (mkS [70, 101, 98]), .string (mkS [77, 97, 114]), .string (mkS [65, 112, 114]), .string (mkS [77, 97, 121]), .string (mkS [74, 117, 110]), .string (mkS [74, 117, 108]), .string (mkS [65, 117, 103]), .string (mkS [83, 101, 112]), .string (mkS [79, 99, 116]), .string (mkS [78, 111, 118]), .string (mkS [68, 101, 99])] qe) ->
 ((0 <= (i64.wrap (n31_1 - (1 : Int))) /\ (i64.wrap (n31_1 - (1 : Int))) < ((12 : Nat) : Int)) /\ true = true) /\
 ∃ s59_1, Ld qe (qn (some ⟨k55_1, 0, none⟩) (i64.wrap (n31_1 - (1 : Int))) 1) w55_1 (.string (mkS s59_1)) /\
 ((((List.length s53_1 + List.length s59_1 : Nat) : Int) <= i64.max)) /\
 ∀ s60_1, s60_1 = (s53_1 ++ s59_1) ->
 ((((List.length s60_1 + List.length [32] : Nat) : Int) <= i64.max)) /\
 ∀ s62_1, s62_1 = (s60_1 ++ [32]) ->
 ((100 : Int) ≠ 0) /\
 ∀ q64_1, q64_1 = (i64.wrap (Int.tdiv n31_0 (100 : Int))) ->
 Calls prog qz #[.int .i64 q64_1] w55_1 fun e65_1 w65_1 => ∃ s65_1, e65_1 = .returned (.string (mkS s65_1)) /\
 ((((List.length s62_1 + List.length s65_1 : Nat) : Int) <= i64.max)) /\
 ∀ s66_1, s66_1 = (s62_1 ++ s65_1) ->
 ((100 : Int) ≠ 0) /\
 ∀ q68_1, q68_1 = (Int.tmod n31_0 (100 : Int)) ->
 Calls prog qz #[.int .i64 q68_1] w65_1 fun e69_1 w69_1 => ∃ s69_1, e69_1 = .returned (.string (mkS s69_1)) /\
 ((((List.length s66_1 + List.length s69_1 : Nat) : Int) <= i64.max)) /\
 ∀ s70_1, s70_1 = (s66_1 ++ s69_1) ->
 ((((List.length s70_1 + List.length [32] : Nat) : Int) <= i64.max)) /\
 ∀ s71_1, s71_1 = (s70_1 ++ [32]) ->
 ((3600 : Int) ≠ 0) /\
 ∀ q73_1, q73_1 = (i64.wrap (Int.tdiv n3 (3600 : Int))) ->
 Calls prog qz #[.int .i64 q73_1] w69_1 fun e74_1 w74_1 => ∃ s74_1, e74_1 = .returned (.string (mkS s74_1)) /\
 ((((List.length s71_1 + List.length s74_1 : Nat) : Int) <= i64.max)) /\
 ∀ s75_1, s75_1 = (s71_1 ++ s74_1) ->
 ((((List.length s75_1 + List.length [58] : Nat) : Int) <= i64.max)) /\
 ∀ s76_1, s76_1 = (s75_1 ++ [58]) ->
 ((60 : Int) ≠ 0) /\
 ∀ q78_1, q78_1 = (i64.wrap (Int.tdiv n3 (60 : Int))) ->
 ((60 : Int) ≠ 0) /\
 ∀ q79_1, q79_1 = (Int.tmod q78_1 (60 : Int)) ->
 Calls prog qz #[.int .i64 q79_1] w74_1 fun e80_1 w80_1 => ∃ s80_1, e80_1 = .returned (.string (mkS s80_1)) /\
 ((((List.length s76_1 + List.length s80_1 : Nat) : Int) <= i64.max)) /\
 ∀ s81_1, s81_1 = (s76_1 ++ s80_1) ->
 ((((List.length s81_1 + List.length [58] : Nat) : Int) <= i64.max)) /\
 ∀ s82_1, s82_1 = (s81_1 ++ [58]) ->
 ((60 : Int) ≠ 0) /\
 ∀ q84_1, q84_1 = (Int.tmod n3 (60 : Int)) ->
 Calls prog qz #[.int .i64 q84_1] w80_1 fun e85_1 w85_1 => ∃ s85_1, e85_1 = .returned (.string (mkS s85_1)) /\
 ((((List.length s82_1 + List.length s85_1 : Nat) : Int) <= i64.max)) /\
 ∀ s86_1, s86_1 = (s82_1 ++ s85_1) ->
 ((((List.length s86_1 + List.length [32, 71, 77, 84] : Nat) : Int) <= i64.max)) /\
 ∀ s87_1, s87_1 = (s86_1 ++ [32, 71, 77, 84]) ->
 K (.string (mkS s87_1)) w85_1) /\
 Calls prog qz #[.int .i64 n31_2] (World.drew wj_2) fun e51_2 w51_2 => ∃ s51_2, e51_2 = .returned (.string (mkS s51_2)) /\
 ∀ k45_1 w45_1, k45_1 = w51_2.heap.size -> w45_1 = w51_2.alloc (.cells #[.string (mkS [84, 104, 117]), .string (mkS [70, 114, 105]), .string (mkS [83, 97, 116]), .string (mkS [83, 117, 110]), .string (mkS [77, 111, 110]), .string (mkS [84, 117, 101]), .string (mkS [87, 101, 100])] qe) ->
 ((0 <= n9 /\ n9 < ((7 : Nat) : Int)) /\ true = true) /\
 ∃ s48_2, Ld qe (qn (some ⟨k45_1, 0, none⟩) n9 1) w45_1 (.string (mkS s48_2)) /\
 ((((List.length s48_2 + List.length [44, 32] : Nat) : Int) <= i64.max)) /\
 ∀ s49_2, s49_2 = (s48_2 ++ [44, 32]) ->
 ((((List.length s49_2 + List.length s51_2 : Nat) : Int) <= i64.max)) /\
 ∀ s52_2, s52_2 = (s49_2 ++ s51_2) ->
 ((((List.length s52_2 + List.length [32] : Nat) : Int) <= i64.max)) /\
 ∀ s53_2, s53_2 = (s52_2 ++ [32]) ->
 ∀ k55_2 w55_2, k55_2 = w45_1.heap.size -> w55_2 = w45_1.alloc (.cells #[.string (mkS [74, 97, 110]), .string (mkS [70, 101, 98]), .string (mkS [77, 97, 114]), .string (mkS [65, 112, 114]), .string (mkS [77, 97, 121]), .string (mkS [74, 117, 110]), .string (mkS [74, 117, 108]), .string (mkS [65, 117, 103]), .string (mkS [83, 101, 112]), .string (mkS [79, 99, 116]), .string (mkS [78, 111, 118]), .string (mkS [68, 101, 99])] qe) ->
 ((0 <= (i64.wrap (n31_1 - (1 : Int))) /\ (i64.wrap (n31_1 - (1 : Int))) < ((12 : Nat) : Int)) /\ true = true) /\
 ∃ s59_2, Ld qe (qn (some ⟨k55_2, 0, none⟩) (i64.wrap (n31_1 - (1 : Int))) 1) w55_2 (.string (mkS s59_2)) /\
 ((((List.length s53_2 + List.length s59_2 : Nat) : Int) <= i64.max)) /\
 ∀ s60_2, s60_2 = (s53_2 ++ s59_2) ->
 ((((List.length s60_2 + List.length [32] : Nat) : Int) <= i64.max)) /\
 ∀ s62_2, s62_2 = (s60_2 ++ [32]) ->
 ((100 : Int) ≠ 0) /\
 ∀ q64_2, q64_2 = (i64.wrap (Int.tdiv n31_0 (100 : Int))) ->
 Calls prog qz #[.int .i64 q64_2] w55_2 fun e65_2 w65_2 => ∃ s65_2, e65_2 = .returned (.string (mkS s65_2)) /\
 ((((List.length s62_2 + List.length s65_2 : Nat) : Int) <= i64.max)) /\
 ∀ s66_2, s66_2 = (s62_2 ++ s65_2) ->
 ((100 : Int) ≠ 0) /\
 ∀ q68_2, q68_2 = (Int.tmod n31_0 (100 : Int)) ->
 Calls prog qz #[.int .i64 q68_2] w65_2 fun e69_2 w69_2 => ∃ s69_2, e69_2 = .returned (.string (mkS s69_2)) /\
 ((((List.length s66_2 + List.length s69_2 : Nat) : Int) <= i64.max)) /\
 ∀ s70_2, s70_2 = (s66_2 ++ s69_2) ->
 ((((List.length s70_2 + List.length [32] : Nat) : Int) <= i64.max)) /\
 ∀ s71_2, s71_2 = (s70_2 ++ [32]) ->
 ((3600 : Int) ≠ 0) /\
 ∀ q73_2, q73_2 = (i64.wrap (Int.tdiv n3 (3600 : Int))) ->
 Calls prog qz #[.int .i64 q73_2] w69_2 fun e74_2 w74_2 => ∃ s74_2, e74_2 = .returned (.string (mkS s74_2)) /\
 ((((List.length s71_2 + List.length s74_2 : Nat) : Int) <= i64.max)) /\
 ∀ s75_2, s75_2 = (s71_2 ++ s74_2) ->
 ((((List.length s75_2 + List.length [58] : Nat) : Int) <= i64.max)) /\
 ∀ s76_2, s76_2 = (s75_2 ++ [58]) ->
 ((60 : Int) ≠ 0) /\
 ∀ q78_2, q78_2 = (i64.wrap (Int.tdiv n3 (60 : Int))) ->
 ((60 : Int) ≠ 0) /\
 ∀ q79_2, q79_2 = (Int.tmod q78_2 (60 : Int)) ->
 Calls prog qz #[.int .i64 q79_2] w74_2 fun e80_2 w80_2 => ∃ s80_2, e80_2 = .returned (.string (mkS s80_2)) /\
 ((((List.length s76_2 + List.length s80_2 : Nat) : Int) <= i64.max)) /\
 ∀ s81_2, s81_2 = (s76_2 ++ s80_2) ->
 ((((List.length s81_2 + List.length [58] : Nat) : Int) <= i64.max)) /\
 ∀ s82_2, s82_2 = (s81_2 ++ [58]) ->
 ((60 : Int) ≠ 0) /\
 ∀ q84_2, q84_2 = (Int.tmod n3 (60 : Int)) ->
 Calls prog qz #[.int .i64 q84_2] w80_2 fun e85_2 w85_2 => ∃ s85_2, e85_2 = .returned (.string (mkS s85_2)) /\
 ((((List.length s82_2 + List.length s85_2 : Nat) : Int) <= i64.max)) /\
 ∀ s86_2, s86_2 = (s82_2 ++ s85_2) ->
 ((((List.length s86_2 + List.length [32, 71, 77, 84] : Nat) : Int) <= i64.max)) /\
 ∀ s87_2, s87_2 = (s86_2 ++ [32, 71, 77, 84]) ->
 K (.string (mkS s87_2)) w85_2))))
theorem qeN (n0 : Int) {w : World} {K : Value -> World -> Prop} (h : qcI n0 w K) : Calls prog qbM #[.int .i64 n0] w (Ret K) :=
 qo (c := qr Tryz.f154) (by kernel_rfl) Tryz.func154 (by kernel_rfl) [(4, [(3, .one (.int .i64))]), (12, [(4, .one (.int .i64))]), (30, [(9, .one (.int .i64))])] [.int .i64 n0] (of_decide_eq_true (by kernel_rfl)) _ (by kernel_rfl) h

--  cracknel/cracknelref08.decimal
def qbk (n0 : Int) (w : World) (K : Value -> World -> Prop) : Prop :=
 ∃ I : Nat -> FP [.one (.int .i64), .one (.str)],
 (∃ m, I m n0 [] w) /\
 ∀ m n0_1 s3, AllJ 12 (∀ wl, I m n0_1 s3 wl ->
 BCase (decide (n0_1 > (9 : Int)))
 (((10 : Int) ≠ 0) /\
 ∀ q7, q7 = (Int.tmod n0_1 (10 : Int)) ->
 ∀ k10 w10, k10 = wl.heap.size -> w10 = wl.alloc (.cells #[.int .u8 (IntKind.u8.wrap (i64.wrap ((48 : Int) + q7)))] qw) ->
 ∃ s11, (convert qE qe (.slice (some ⟨k10, 0, none⟩) 1 1)).run prog w10 = .ok (.string (mkS s11)) w10 /\
 ((((List.length s11 + List.length s3 : Nat) : Int) <= i64.max)) /\
 ∀ s13, s13 = (s11 ++ s3) ->
 ((10 : Int) ≠ 0) /\
 ∀ q15, q15 = (i64.wrap (Int.tdiv n0_1 (10 : Int))) ->
 ∃ m' : Nat, m' < m /\ I m' q15 s13 w10)
 (∀ k19 w19, k19 = wl.heap.size -> w19 = wl.alloc (.cells #[.int .u8 (IntKind.u8.wrap (i64.wrap ((48 : Int) + n0_1)))] qw) ->
 ∃ s20, (convert qE qe (.slice (some ⟨k19, 0, none⟩) 1 1)).run prog w19 = .ok (.string (mkS s20)) w19 /\
 ((((List.length s20 + List.length s3 : Nat) : Int) <= i64.max)) /\
 ∀ s22, s22 = (s20 ++ s3) ->
 K (.string (mkS s22)) w19))
theorem qc4 (n0 : Int) {w : World} {K : Value -> World -> Prop} (h : qbk n0 w K) : Calls prog qaj #[.int .i64 n0] w (Ret K) :=
 qo (c := qr Tryz.f155) (by kernel_rfl) Tryz.func155 (by kernel_rfl) [(6, [(0, .one (.int .i64)), (3, .one (.str))])] [.int .i64 n0] (of_decide_eq_true (by kernel_rfl)) _ (by kernel_rfl) h

--  cracknel/octet.Number
def qcj (n0 : Int) (w : World) (K : Value -> World -> Prop) : Prop :=
 Calls prog qbL #[.int .i64 (1601 : Int), .int .i64 (1 : Int), .int .i64 (1 : Int)] w fun e14 w14 => ∃ n14_0 b14_1, e14 = .returned (.tuple #[.int .i64 n14_0, .bool b14_1]) /\
 Calls prog qbL #[.int .i64 (9999 : Int), .int .i64 (12 : Int), .int .i64 (31 : Int)] w14 fun e18 w18 => ∃ n18_0 b18_1, e18 = .returned (.tuple #[.int .i64 n18_0, .bool b18_1]) /\
 ∃ J : FP [],
 (BCase (decide (n0 < n14_0))
 (K (.tuple #[.int .i64 (0 : Int), .int .i64 (0 : Int), .int .i64 (0 : Int), .bool false]) w18)
 (BCase (decide (n0 > n18_0))
 (K (.tuple #[.int .i64 (0 : Int), .int .i64 (0 : Int), .int .i64 (0 : Int), .bool false]) w18)
 (J w18))) /\
 AllJ 12 (∀ wj, J wj ->
 ∃ I : Nat -> FP [.one (.int .i64), .one (.int .i64)],
 (∃ m, I m (1601 : Int) (i64.wrap (n0 - n14_0)) wj) /\
 ∀ m n10 n11, AllJ 10 (∀ wl, I m n10 n11 wl ->
 Calls prog qa5 #[.int .i64 n10] wl fun e34 w34 => ∃ n34, e34 = .returned (.int .i64 n34) /\
 BCase (decide (n11 >= n34))
 (Calls prog qa5 #[.int .i64 n10] w34 fun e38 w38 => ∃ n38, e38 = .returned (.int .i64 n38) /\
 ∃ m' : Nat, m' < m /\ I m' (i64.wrap (n10 + (1 : Int))) (i64.wrap (n11 - n38)) w38)
 (∃ I_1 : Nat -> FP [.one (.int .i64), .one (.int .i64)],
 (∃ m_1, I_1 m_1 n11 (1 : Int) w34) /\
 ∀ m_1 n11_1 n12, AllJ 12 (∀ wl_1, I_1 m_1 n11_1 n12 wl_1 ->
 Calls prog qaf #[.int .i64 n10, .int .i64 n12] wl_1 fun e45 w45 => ∃ n45, e45 = .returned (.int .i64 n45) /\
 BCase (decide (n11_1 >= n45))
 (Calls prog qaf #[.int .i64 n10, .int .i64 n12] w45 fun e50 w50 => ∃ n50, e50 = .returned (.int .i64 n50) /\
 ∃ m'_1 : Nat, m'_1 < m_1 /\ I_1 m'_1 (i64.wrap (n11_1 - n50)) (i64.wrap (n12 + (1 : Int))) w50)
 (K (.tuple #[.int .i64 n10, .int .i64 n12, .int .i64 (i64.wrap (n11_1 + (1 : Int))), .bool true]) w45)))))
theorem qed (n0 : Int) {w : World} {K : Value -> World -> Prop} (h : qcj n0 w K) : Calls prog qbf #[.int .i64 n0] w (Ret K) :=
 qo (c := qr Tryz.f214) (by kernel_rfl) Tryz.func214 (by kernel_rfl) [(6, []), (20, [(10, .one (.int .i64)), (11, .one (.int .i64))]), (35, [(11, .one (.int .i64)), (12, .one (.int .i64))])] [.int .i64 n0] (of_decide_eq_true (by kernel_rfl)) _ (by kernel_rfl) h

--  cracknel/cracknelref07.two
def qdu (n0 : Int) (w : World) (K : Value -> World -> Prop) : Prop :=
 ((10 : Int) ≠ 0) /\
 ∀ q4, q4 = (i64.wrap (Int.tdiv n0 (10 : Int))) ->
 ((10 : Int) ≠ 0) /\
 ∀ q5, q5 = (Int.tmod q4 (10 : Int)) ->
 ((10 : Int) ≠ 0) /\
 ∀ q9, q9 = (Int.tmod n0 (10 : Int)) ->
 ∀ k12 w12, k12 = w.heap.size -> w12 = w.alloc (.cells #[.int .u8 (IntKind.u8.wrap (i64.wrap ((48 : Int) + q5))), .int .u8 (IntKind.u8.wrap (i64.wrap ((48 : Int) + q9)))] qw) ->
 ∃ s13, (convert qE qe (.slice (some ⟨k12, 0, none⟩) 2 2)).run prog w12 = .ok (.string (mkS s13)) w12 /\
 K (.string (mkS s13)) w12
theorem qfM (n0 : Int) {w : World} {K : Value -> World -> Prop} (h : qdu n0 w K) : Calls prog qz #[.int .i64 n0] w (Ret K) :=
 qo (c := qr Tryz.f215) (by kernel_rfl) Tryz.func215 (by kernel_rfl) [] [.int .i64 n0] (of_decide_eq_true (by kernel_rfl)) _ (by kernel_rfl) h

--  cracknel/cracknelref07.Length
end Go.Proofs.YtndbpedpdbjkpaaGreatDoor
set_option maxRecDepth 20000
namespace Go.Proofs.YtndbpedpdbjkpaaGreatDoor
open Go.Pk
open Go.RowKit (Below)
theorem qeU (n : Int) (w : World) (hn : -9223372036854775808 <= n /\ n <= 9223372036854775807) : Calls prog qbf #[.int .i64 n] w (Ret fun v w' => v = civV n /\ w' = w) := by
 apply qed
 unfold qcj
 refine callK (qcL _ _ _ w) ?_
 rintro _ w ⟨rfl, rfl⟩
 refine ⟨_, _, rfl, ?_⟩
 refine callK (qcL _ _ _ w) ?_
 rintro _ w ⟨rfl, rfl⟩
 refine ⟨_, _, rfl, ?_⟩
 rw [if_pos qjW.1, if_pos qg2.1, qjW.2, qg2.2]
 refine ⟨fun w' => w' = w /\ -134774 <= n /\ n <= 2932896, ?_, ?_⟩
 · refine BCase.of (fun h => ?_) (fun h => ?_) <;> simp only [dTx, dFx] at h
   · exact ⟨(qcB (.inl h)).symm, rfl⟩
   · refine BCase.of (fun h2 => ?_) (fun h2 => ?_) <;> simp only [dTx, dFx] at h2
     · exact ⟨(qcB (.inr h2)).symm, rfl⟩
     · exact ⟨rfl, by omega, by omega⟩
 · refine AllJ.of ?_ _
   rintro w ⟨rfl, h1, h2⟩
   have e1601 : dY 1601 = 584388 := by decide
   have e10000 : dY 10000 = 3652059 := by decide
   refine ⟨fun m y r w' => w' = w /\ 1601 <= y /\ y <= 9999 /\ r = n + 719162 - dY y /\ 0 <= r /\ m = r.toNat, ⟨_, rfl, by omega, by omega, by rw [wrap_i64 (by omega) (by omega)]; omega, by rw [wrap_i64 (by omega) (by omega)]; omega, rfl⟩, ?_⟩
   intro q y r
   refine AllJ.of ?_ _
   rintro w ⟨rfl, hy1, hy2, hr, hr0, rfl⟩
   have hyl := qlA y
   have hyd := qo9 (y := y) hy1 (by omega)
   refine callK (qb4 y _) ?_
   rintro _ w ⟨rfl, rfl⟩
   refine ⟨_, rfl, ?_⟩
   refine BCase.of (fun h => ?_) (fun h => ?_) <;> simp only [ge_iff_le, dTx, dFx] at h
   · refine callK (qb4 y _) ?_
     rintro _ w ⟨rfl, rfl⟩
     have hs := qia (y := y) (by omega)
     have hy3 : y + 1 <= 9999 := by
       apply Int.le_of_not_gt
       intro hc
       have : y = 9999 := by omega
       subst this
       have e9 : dY (9999 + 1) = 3652059 := by decide
       omega
     refine ⟨_, rfl, (r - lenY y).toNat, by omega, rfl, ?_, ?_, ?_, ?_, ?_⟩
     · rw [wrap_i64 (by omega) (by omega)]; omega
     · rw [wrap_i64 (by omega) (by omega)]; omega
     · rw [wrap_i64 (by omega) (by omega), wrap_i64 (by omega) (by omega), hs]; omega
     · rw [wrap_i64 (by omega) (by omega)]; omega
     · rw [wrap_i64 (by omega) (by omega)]
   · refine ⟨fun q r' m w' => w' = w /\ 1 <= m /\ m <= 12 /\ r' = r - cM y m /\ 0 <= r' /\ q = r'.toNat, ⟨_, rfl, by omega, by omega, by simp [cM], hr0, rfl⟩, ?_⟩
     intro q r' m
     refine AllJ.of ?_ _
     rintro w ⟨rfl, hm1, hm2, hr', hr0', rfl⟩
     have hml := qeL y m
     have hmc := qre (y := y) hm1 hm2
     refine callK (qaY y m _) ?_
     rintro _ w ⟨rfl, rfl⟩
     refine ⟨_, rfl, ?_⟩
     refine BCase.of (fun h5 => ?_) (fun h5 => ?_) <;> simp only [ge_iff_le, dTx, dFx] at h5
     · refine callK (qaY y m _) ?_
       rintro _ w ⟨rfl, rfl⟩
       have hs := qjF (y := y) hm1 hm2
       have hm3 : m + 1 <= 12 := by
         apply Int.le_of_not_gt
         intro hc
         have : m = 12 := by omega
         subst this
         have e9 : cM y (12 + 1) = lenY y := qqT y
         omega
       refine ⟨_, rfl, (r' - lenM y m).toNat, by omega, rfl, ?_, ?_, ?_, ?_, ?_⟩
       · rw [wrap_i64 (by omega) (by omega)]; omega
       · rw [wrap_i64 (by omega) (by omega)]; omega
       · rw [wrap_i64 (by omega) (by omega), wrap_i64 (by omega) (by omega), hs]; omega
       · rw [wrap_i64 (by omega) (by omega)]; omega
       · rw [wrap_i64 (by omega) (by omega)]
     · refine ⟨?_, rfl⟩
       have hdt : zK y m (r' + 1) := ⟨hy1, hy2, hm1, hm2, by omega, by omega⟩
       have hdd : zR y m (r' + 1) = n := by unfold zR; omega
       rw [wrap_i64 (by omega) (by omega), <- hdd, qim hdt]
end Go.Proofs.YtndbpedpdbjkpaaGreatDoor
namespace Go.Proofs.YtndbpedpdbjkpaaGreatDoor
open Go.Pk
open Go.RowKit (Below)
theorem ref07_two_ok (n : Int) (h0 : 0 <= n) (h1 : n <= 9999) (w : World) : Calls prog qz #[.int .i64 n] w (Ret fun v w' => v = .string (mkS (twoL n)) /\ Below w.heap.size w w') := by
 apply qfM
 unfold qdu
 refine ⟨by decide, ?_⟩
 rintro _ rfl
 refine ⟨by decide, ?_⟩
 rintro _ rfl
 refine ⟨by decide, ?_⟩
 rintro _ rfl k w1 hk hw
 rw [tdiv_pos h0, wrap_i64 (n := n / 10) (by omega) (by omega), tmod_pos (by omega), tmod_pos h0] at hw
 have ha := qdx (n / 10)
 have hb := qdx n
 rw [wrap_i64 (n := 48 + n / 10 % 10) (by omega) (by omega), wrap_i64 (n := 48 + n % 10) (by omega) (by omega), qcc (n := 48 + n / 10 % 10) (by omega) (by omega), qcc (n := 48 + n % 10) (by omega) (by omega)] at hw
 have ho : Ow tU8 qw w1 NoB (some ⟨k, 0, none⟩) 2 2 (twoL n) := by
   refine Ow.newF qgA (xs := twoL n) (l := [.int .u8 (48 + n / 10 % 10), .int .u8 (48 + n % 10)]) hk hw ?_ (show 2 <= maxLen by decide)
   exact RepL.append (xs := [dig1 (n / 10)]) (ys := [dig1 n]) (l := [_]) (m := [_]) (RepL.one (qgz (by rw [ha.2]; omega))) (RepL.one (qgz (by rw [hb.2]; omega)))
 exact ⟨_, qeX zQ un_string un_uint8 ho.all, rfl, hw ▸ qf _ _⟩
end Go.Proofs.YtndbpedpdbjkpaaGreatDoor
namespace Go.Pk
theorem jA {n : Nat} (h : n < 10) : decL n = [UInt8.ofNat (48 + n)] := Lib.decDigits_one h
theorem jC {n : Nat} (h : ¬ n < 10) : decL n = decL (n / 10) ++ [UInt8.ofNat (48 + n % 10)] := by
 show Lib.decDigits n = _
 rw [Lib.decDigits, dif_neg h]
theorem qfg {a : List UInt8} (h : a.length = 16) : a.drop 12 = [a[12]'(by omega), a[13]'(by omega), a[14]'(by omega), a[15]'(by omega)] := by
 rw [List.drop_eq_getElem_cons (by omega), List.drop_eq_getElem_cons (by omega), List.drop_eq_getElem_cons (by omega), List.drop_eq_getElem_cons (by omega), List.drop_eq_nil_of_le (by omega)]
theorem text4_parts {a : List UInt8} (h : a.length = 16) : text4V a = decL (a[12]'(by omega)).toNat ++ ([46] : List UInt8) ++ decL (a[13]'(by omega)).toNat ++ ([46] : List UInt8) ++ decL (a[14]'(by omega)).toNat ++ ([46] : List UInt8) ++ decL (a[15]'(by omega)).toNat := by
 unfold text4V
 rw [qfg h]
 simp [Lib.join_cons, Lib.joinTail]
end Go.Pk
namespace Go.Proofs.YtndbpedpdbjkpaaGreatDoor
open Go.Pk
open Go.RowKit (Below)
theorem zk {w w8 : World} {k8 : Nat} {d : Nat} (hd : d < 10) {x : Int} (hx : x = (d : Int)) (hk : k8 = w.heap.size) (hw : w8 = w.alloc (.cells #[.int .u8 (IntKind.u8.wrap (i64.wrap ((48 : Int) + x)))] qw)) :
   ∀ u, Below w8.heap.size w8 u -> (convert qE qe (.slice (some ⟨k8, 0, none⟩) 1 1)).run prog u = .ok (.string (mkS [UInt8.ofNat (48 + d)])) u := by
 intro u hu
 have e : IntKind.u8.wrap (i64.wrap ((48 : Int) + x)) = (((UInt8.ofNat (48 + d)).toNat : Nat) : Int) := by
   rw [hx, wrap_i64 (by omega) (by omega), qcc (by omega) (by omega), qkg (by omega)]; omega
 rw [e] at hw
 have ho : Ow tU8 qw w8 NoB (some ⟨k8, 0, none⟩) 1 1 [UInt8.ofNat (48 + d)] := Ow.newF qgA hk hw (RepL.one (qgz rfl)) (show 1 <= maxLen by decide)
 exact qeX zQ un_string un_uint8 (ho.below hu).all
theorem qI : ∀ (n : Nat) (h : n <= 9223372036854775807) (w : World), Calls prog qu #[.int .i64 (n : Int)] w (Ret fun v w' => v = .string (mkS (decL n)) /\ Below w.heap.size w w')
 | n, hn, w => by
   apply jE
   unfold zu
   refine BCase.of (fun h => ?_) (fun h => ?_) <;> simp only [dTx, dFx] at h
   · intro k8 w8 hk8 hw8
     refine ⟨_, zk (d := n) (by omega) rfl hk8 hw8 w8 (Below.refl _ _), ?_⟩
     rw [jA (by omega)]
     exact ⟨rfl, hw8 ▸ qf _ _⟩
   · have hlt : n / 10 < n := by omega
     refine ⟨by decide, ?_⟩
     rintro _ rfl
     refine ⟨by decide, ?_⟩
     rintro _ rfl
     have e1 : i64.wrap (Int.tdiv (n : Int) 10) = ((n / 10 : Nat) : Int) := by rw [tdiv_pos (by omega), wrap_i64 (by omega) (by omega)]; omega
     have e2 : Int.tmod (n : Int) 10 = ((n % 10 : Nat) : Int) := by rw [tmod_pos (by omega)]; omega
     rw [e1, e2, jC (by omega)]
     have hd : Below w.heap.size w (World.drew w) := qcT rfl rfl rfl (Nat.le_refl _) (fun _ _ => rfl)
     have hl := zS (n := n / 10) (by omega)
     refine ⟨?_, ?_⟩
     · refine callK (qI (n / 10) (by omega) (World.drew w)) ?_
       rintro _ w1 ⟨rfl, hb1⟩
       refine ⟨_, rfl, ?_⟩
       intro k8 w8 hk8 hw8
       refine ⟨_, zk (d := n % 10) (by omega) rfl hk8 hw8 w8 (Below.refl _ _), fits (by simp; omega), ?_⟩
       rintro _ rfl
       have hB1 := qb hd hb1 hd.size
       exact ⟨rfl, qb hB1 (hw8 ▸ qf _ _) hB1.size⟩
     · intro k8 w8 hk8 hw8
       have hb8 : Below (World.drew w).heap.size (World.drew w) w8 := hw8 ▸ qf _ _
       have hB8 := qb hd hb8 hd.size
       refine ⟨?_, _, zk (d := n % 10) (by omega) rfl hk8 hw8 w8 (Below.refl _ _), ?_⟩
       · refine callK (qI (n / 10) (by omega) w8) ?_
         rintro _ w1 ⟨rfl, hb1⟩
         refine ⟨_, rfl, _, zk (d := n % 10) (by omega) rfl hk8 hw8 w1 hb1, fits (by simp; omega), ?_⟩
         rintro _ rfl
         exact ⟨rfl, qb hB8 hb1 hB8.size⟩
       · refine callK (qI (n / 10) (by omega) w8) ?_
         rintro _ w1 ⟨rfl, hb1⟩
         refine ⟨_, rfl, fits (by simp; omega), ?_⟩
         rintro _ rfl
         exact ⟨rfl, qb hB8 hb1 hB8.size⟩
 termination_by n => n
theorem qaM (a : List UInt8) (ha : a.length = 16) (w : World) : Calls prog zp #[adV a] w (Ret fun v w' => v = .string (mkS (text4V a)) /\ Below w.heap.size w w') := by
 apply qan
 unfold zZ
 intro k1 w1 hk1 hw1
 have hB1 := (hw1 ▸ qf w _ : Below w.heap.size w w1)
 have h1 : qm w1 k1 qk (adC a) := qm.new hk1 hw1
 have ld : ∀ (i : Nat) (hi : i < a.length) (u : World), Below w1.heap.size w1 u -> (Instr.loadAt qw (.pointer (qn (some ⟨k1, 0, none⟩) (i : Int) 1))).run prog u = .ok (.int .u8 ((a[i].toNat : Nat) : Int)) u := fun i hi u hu => by
   rw [z8, Nat.zero_add]
   exact (h1.below hu).load1 un_uint8 rfl (qcO hi)
 have dc : ∀ (c : UInt8) (u : World), Below w1.heap.size w1 u -> Calls prog qu #[.int .i64 (i64.wrap ((c.toNat : Nat) : Int))] u fun e w' => e = .returned (.string (mkS (decL c.toNat))) /\ Below w1.heap.size u w' := fun c u hu => by
   have := qbc c
   rw [wrap_i64 (by omega) (by omega)]
   exact zj (qI c.toNat (by omega) u) hu
 have l12 := zS (n := a[12].toNat) (by have := qbc a[12]; omega)
 have l13 := zS (n := a[13].toNat) (by have := qbc a[13]; omega)
 have l14 := zS (n := a[14].toNat) (by have := qbc a[14]; omega)
 have l15 := zS (n := a[15].toNat) (by have := qbc a[15]; omega)
 refine ⟨⟨⟨by decide, by decide⟩, rfl⟩, _, ld 12 (by omega), _, dc _, fits (by simp; omega), ?_⟩
 rintro _ rfl
 refine ⟨⟨⟨by decide, by decide⟩, rfl⟩, _, ld 13 (by omega), _, dc _, fits (by simp; omega), ?_⟩
 rintro _ rfl
 refine ⟨fits (by simp; omega), ?_⟩
 rintro _ rfl
 refine ⟨⟨⟨by decide, by decide⟩, rfl⟩, _, ld 14 (by omega), _, dc _, fits (by simp; omega), ?_⟩
 rintro _ rfl
 refine ⟨fits (by simp; omega), ?_⟩
 rintro _ rfl
 refine ⟨⟨⟨by decide, by decide⟩, rfl⟩, _, ld 15 (by omega), _, dc _, fits (by simp; omega), ?_⟩
 rintro _ rfl
 intro wq hwq
 rw [text4_parts ha]
 exact ⟨by simp only [List.append_assoc], qb hB1 hwq hB1.size⟩
end Go.Proofs.YtndbpedpdbjkpaaGreatDoor
namespace Go.Pk
theorem hex16_all : ∀ d : Nat, d < 16 -> (([48, 49, 50, 51, 52, 53, 54, 55, 56, 57, 97, 98, 99, 100, 101, 102] : List UInt8).take (d + 1)).drop d = [hexC d] := by decide
end Go.Pk
namespace Go.Proofs.YtndbpedpdbjkpaaGreatDoor
open Go.Pk
open Go.RowKit (Below)
theorem jP : ∀ (n : Nat) (h : n < 65536) (w : World), Calls prog zq #[.int .i64 (n : Int)] w (Ret fun v w' => v = .string (mkS (hexL n)) /\ Below w.heap.size w w')
 | n, hn, w => by
   apply qbe
   unfold jQ
   refine BCase.of (fun h => ?_) (fun h => ?_) <;> simp only [dTx, dFx] at h
   · have e : i64.wrap ((n : Int) + 1) = ((n + 1 : Nat) : Int) := by rw [wrap_i64 (by omega) (by omega)]; omega
     rw [e]
     refine ⟨⟨⟨by omega, by simp; omega⟩, by omega, by omega⟩, ?_⟩
     rintro _ rfl
     simp only [Int.toNat_natCast]
     rw [hex16_all n (by omega), qdK (by omega)]
     exact ⟨rfl, Below.refl _ _⟩
   · have hlt : n / 16 < n := by omega
     have e1 : i64.wrap (Int.tdiv (n : Int) 16) = ((n / 16 : Nat) : Int) := by rw [tdiv_pos (by omega), wrap_i64 (by omega) (by omega)]; omega
     have e2 : Int.tmod (n : Int) 16 = ((n % 16 : Nat) : Int) := by rw [tmod_pos (by omega)]; omega
     refine ⟨by decide, ?_⟩
     rintro _ rfl
     rw [e1, e2]
     have hl := qcp (n := n / 16) (by omega)
     refine ⟨_, fun u hu => zj (jP (n / 16) (by omega) u) hu, by decide, ?_⟩
     rintro _ rfl
     refine ⟨by decide, ?_⟩
     rintro _ rfl
     have e : i64.wrap (((n % 16 : Nat) : Int) + 1) = ((n % 16 + 1 : Nat) : Int) := by rw [wrap_i64 (by omega) (by omega)]; omega
     rw [e]
     refine ⟨⟨⟨by omega, by simp; omega⟩, by omega, by omega⟩, ?_⟩
     rintro _ rfl
     simp only [Int.toNat_natCast]
     rw [hex16_all (n % 16) (by omega)]
     refine ⟨fits (by simp; omega), ?_⟩
     rintro _ rfl
     intro wq hwq
     rw [hexL_more (n := n) (by omega)]
     exact ⟨rfl, hwq⟩
 termination_by n => n
end Go.Proofs.YtndbpedpdbjkpaaGreatDoor
namespace Go.Pk
theorem qbX (zs : List Bool) (p l : Nat) : allZ zs p (l + 1) = (allZ zs p l && zs.getD (p + l) false) := by
 unfold allZ; rw [List.range_succ, List.all_append]; simp
theorem qh7 (a : List UInt8) {k : Nat} (h : k < 8) : (zsA a).getD k false = (grpA a k == 0) := by
 unfold zsA
 rw [List.getD_eq_getElem?_getD, List.getElem?_map, List.getElem?_eq_getElem (by rw [qdq]; exact h), qhX]; rfl
theorem qbZ (sep : List UInt8) (r : List (List UInt8)) (y : List UInt8) : Lib.joinTail sep (r ++ [y]) = Lib.joinTail sep r ++ (sep ++ y) := by simp [Lib.joinTail]
theorem qfi (l : List Nat) (x : Nat) : wrL (l ++ [x]) = if l = [] then hexL x else wrL l ++ [58] ++ hexL x := by
 unfold wrL
 cases l with
 | nil => simp [Lib.join_one]
 | cons y r =>
   rw [if_neg (by simp), List.map_append, List.map_cons, List.cons_append, List.map_cons, List.map_nil, Lib.join_cons, Lib.join_cons, qbZ]
   simp
end Go.Pk
namespace Go.Proofs.YtndbpedpdbjkpaaGreatDoor
open Go.Pk
open Go.RowKit (Below)
theorem zY (a : List UInt8) (ha : a.length = 16) (k : Nat) (hk : k < 8) (w : World) : Calls prog qV #[adV a, .int .i64 (k : Int)] w (Ret fun v w' => v = .int .i64 ((grpA a k : Nat) : Int) /\ Below w.heap.size w w') := by
 apply qar
 unfold z6
 intro k1 w1 hk1 hw1
 have hB1 := (hw1 ▸ qf w _ : Below w.heap.size w w1)
 have h1 : qm w1 k1 qk (adC a) := qm.new hk1 hw1
 have e1 : i64.wrap (2 * (k : Int)) = ((2 * k : Nat) : Int) := by rw [wrap_i64 (by omega) (by omega)]; omega
 have e2 : i64.wrap (((2 * k : Nat) : Int) + 1) = ((2 * k + 1 : Nat) : Int) := by rw [wrap_i64 (by omega) (by omega)]; omega
 rw [e1, e2, z8, z8, Nat.zero_add, Nat.zero_add]
 refine ⟨⟨⟨by omega, by omega⟩, rfl⟩, _, fun u hu => (h1.below hu).load1 un_uint8 rfl (qcO (a := a) (i := 2 * k) (by omega)), ⟨⟨by omega, by omega⟩, rfl⟩, _, fun u hu => (h1.below hu).load1 un_uint8 rfl (qcO (a := a) (i := 2 * k + 1) (by omega)), fun wq hwq => ⟨?_, qb hB1 hwq hB1.size⟩⟩
 have u1 := qbc (a[2 * k]'(by omega))
 have u2 := qbc (a[2 * k + 1]'(by omega))
 have hval : (a[2 * k]'(by omega)).toNat * 256 + (a[2 * k + 1]'(by omega)).toNat = grpA a k := by
   unfold grpA
   rw [List.getD_eq_getElem?_getD, List.getD_eq_getElem?_getD, List.getElem?_eq_getElem (by omega), List.getElem?_eq_getElem (by omega)]; rfl
 rw [<- hval, wrap_i64 (n := (((a[2 * k]'(by omega)).toNat : Nat) : Int)) (by omega) (by omega), wrap_i64 (n := (((a[2 * k + 1]'(by omega)).toNat : Nat) : Int)) (by omega) (by omega), wrap_i64 (n := _ * _) (by omega) (by omega), wrap_i64 (by omega) (by omega)]
 congr 1
theorem zn (a : List UInt8) (ha : a.length = 16) (p q : Nat) (hpq : p <= q) (hq : q <= 8) (w : World) : Calls prog qF #[adV a, .int .i64 (p : Int), .int .i64 (q : Int)] w
   (Ret fun v w' => v = .string (mkS (wrL (((gL a).drop p).take (q - p)))) /\ Below w.heap.size w w') := by
 apply qaP
 unfold jr
 intro k1 w1 hk1 hw1
 have hB1 := (hw1 ▸ qf w _ : Below w.heap.size w w1)
 have h1 : qm w1 k1 qk (adC a) := qm.new hk1 hw1
 have hgl := qdq a
 have hbx : ∀ j, ∀ x ∈ ((gL a).drop p).take j, x < 65536 := fun j x hx => qeo a x (List.mem_of_mem_drop (List.mem_of_mem_take hx))
 refine ⟨fun m s i w' => ∃ j : Nat, j <= q - p /\ i = ((p + j : Nat) : Int) /\ m = q - p - j /\ s = wrL (((gL a).drop p).take j) /\ Below w1.heap.size w1 w', ⟨_, 0, by omega, rfl, rfl, rfl, Below.refl _ _⟩, ?_⟩
 intro m s i
 refine AllJ.of ?_ _
 rintro w2 ⟨j, hj, rfl, rfl, rfl, hB2⟩
 have hl := qbz (hbx j)
 rw [List.length_take, List.length_drop] at hl
 refine BCase.of (fun h => ?_) (fun h => ?_) <;> simp only [dTx, dFx] at h
 · have hlt : p + j < q := by omega
   refine strJ (B := fun J => BCase _ (_ /\ ∀ s19, s19 = (_ ++ [58]) -> J s19 w2) (J _ w2)) (if j = 0 then [] else wrL (((gL a).drop p).take j) ++ [58]) (BCase.of (fun hx => ⟨fits (by simp; omega), ?_⟩) (fun hx => ⟨rfl, ?_⟩)) ?_
   · rintro _ rfl
     simp only [gt_iff_lt, dTx] at hx
     exact ⟨rfl, by rw [if_neg (by omega)]⟩
   · simp only [gt_iff_lt, dFx] at hx
     have : j = 0 := by omega
     subst this
     rw [if_pos rfl]; rfl
   · refine ⟨_, qR.load0 (h1.below hB2) (by rw [zF, ha]), ?_⟩
     refine callK (zY a ha (p + j) (by omega) w2) ?_
     rintro _ w3 ⟨rfl, hb3⟩
     have hB3 := qb hB2 hb3 hB2.size
     refine ⟨_, rfl, ?_⟩
     refine callK (jP (grpA a (p + j)) (qfr _ _) w3) ?_
     rintro _ w4 ⟨rfl, hb4⟩
     have hB4 := qb hB3 hb4 hB3.size
     have hl4 := qcp (qfr a (p + j))
     refine ⟨_, rfl, fits (by split <;> simp <;> omega), ?_⟩
     rintro _ rfl
     refine ⟨q - p - (j + 1), by omega, j + 1, by omega, by rw [wrap_i64 (by omega) (by omega)]; omega, rfl, ?_, hB4⟩
     have hjd : j < ((gL a).drop p).length := by rw [List.length_drop]; omega
     rw [List.take_succ_eq_append_getElem hjd, qfi, List.getElem_drop, qhX]
     by_cases hj0 : j = 0
     · subst hj0; rfl
     · rw [if_neg hj0, if_neg]
       intro e
       have := congrArg List.length e
       rw [List.length_take] at this; simp at this; omega
 · have : j = q - p := by omega
   subst this
   exact ⟨rfl, qb hB1 hB2 hB1.size⟩
theorem qaK (a : List UInt8) (ha : a.length = 16) (w : World) : Calls prog zm #[adV a] w (Ret fun v w' => v = .string (mkS (qaJ a)) /\ Below w.heap.size w w') := by
 apply qak
 unfold zW
 intro k1 w1 hk1 hw1
 have hB1 := (hw1 ▸ qf w _ : Below w.heap.size w w1)
 have h1 : qm w1 k1 qk (adC a) := qm.new hk1 hw1
 have ha16 : (adC a).length = 16 := by rw [zF, ha]
 have hgl := qdq a
 obtain ⟨z1, z2, z3⟩ := qc3 (qit a)
 have ht : qaJ a = if (zc (zsA a)).2 < 2 then wrL (gL a) else wrL ((gL a).take (zc (zsA a)).1) ++ [58, 58] ++ wrL ((gL a).drop ((zc (zsA a)).1 + (zc (zsA a)).2)) := rfl
 refine ⟨fun m i w' => ∃ L : Nat, 1 <= L /\ L <= 8 /\ i = (L : Int) /\ m = L /\ (∀ L' A, L < L' -> A + L' <= 8 -> allZ (zsA a) A L' = false) /\ Below w1.heap.size w1 w', ⟨_, 8, by omega, by omega, rfl, rfl, fun L' A h1 h2 => by omega, Below.refl _ _⟩, ?_⟩
 intro m i
 refine AllJ.of ?_ _
 rintro w2 ⟨L, hL1, hL8, rfl, hm, hlong, hB2⟩
 obtain rfl : L = m := hm.symm
 refine BCase.of (fun h => ?_) (fun h => ?_) <;> simp only [ge_iff_le, dTx, dFx] at h
 · have hL2 : 2 <= L := by omega
   refine ⟨fun m i w' => ∃ A : Nat, A + L <= 9 /\ i = (A : Int) /\ m = 9 - A /\ (∀ A', A' < A -> allZ (zsA a) A' L = false) /\ Below w1.heap.size w1 w', ⟨_, 0, by omega, rfl, rfl, fun A' h => by omega, hB2⟩, ?_⟩
   intro m i
   refine AllJ.of ?_ _
   rintro w3 ⟨A, hA, rfl, rfl, hearly, hB3⟩
   have eAL : i64.wrap ((A : Int) + (L : Int)) = ((A + L : Nat) : Int) := by rw [wrap_i64 (by omega) (by omega)]; omega
   rw [eAL]
   refine BCase.of (fun h2 => ?_) (fun h2 => ?_) <;> simp only [dTx, dFx] at h2
   · have hAL : A + L <= 8 := by omega
     refine ⟨fun m b i w' => ∃ j : Nat, j <= L /\ i = ((A + j : Nat) : Int) /\ m = L - j /\ b = allZ (zsA a) A j /\ Below w1.heap.size w1 w', ⟨_, 0, by omega, rfl, rfl, rfl, hB3⟩, ?_⟩
     intro m b i
     refine AllJ.of ?_ _
     rintro w4 ⟨j, hj, rfl, rfl, rfl, hB4⟩
     have ew : i64.wrap (((A + j : Nat) : Int) + 1) = ((A + (j + 1) : Nat) : Int) := by rw [wrap_i64 (by omega) (by omega)]; omega
     rw [ew]
     refine BCase.of (fun h3 => ?_) (fun h3 => ?_) <;> simp only [dTx, dFx] at h3
     · have hjL : j < L := by omega
       refine BCase.of (fun h4 => ?_) (fun h4 => ?_)
       · refine ⟨_, qR.load0 (h1.below hB4) ha16, ?_⟩
         refine callK (zY a ha (A + j) (by omega) w4) ?_
         rintro _ w5 ⟨rfl, hb5⟩
         refine ⟨_, rfl, L - (j + 1), by omega, j + 1, by omega, rfl, rfl, ?_, qb hB4 hb5 hB4.size⟩
         rw [qbX, h4, Bool.true_and, qh7 a (by omega), Bool.eq_iff_iff]
         simp
       · exact ⟨L - (j + 1), by omega, j + 1, by omega, rfl, rfl, by rw [qbX, h4, Bool.false_and], hB4⟩
     · have : j = L := by omega
       subst this
       refine BCase.of (fun h4 => ?_) (fun h4 => ?_)
       · have hu := z3 j A hL2 hAL h4
         have hAz : j = (zc (zsA a)).2 /\ A = (zc (zsA a)).1 := by
           rcases hu with hu | ⟨hu1, hu2⟩
           · exfalso
             have := z2 (by omega)
             rw [hlong _ _ hu z1] at this; cases this
           · refine ⟨hu1, ?_⟩
             rcases Nat.lt_or_ge (zc (zsA a)).1 A with hc | hc
             · exfalso
               have := z2 (by omega)
               rw [<- hu1, hearly _ hc] at this; cases this
             · omega
         have l1 := qbz (l := (gL a).take A) fun x hx => qeo a x (List.mem_of_mem_take hx)
         have l2 := qbz (l := (gL a).drop (A + j)) fun x hx => qeo a x (List.mem_of_mem_drop hx)
         rw [List.length_take] at l1
         rw [List.length_drop] at l2
         have hp1 : ∀ u, Below w4.heap.size w4 u -> Calls prog qF #[adV a, .int .i64 (0 : Int), .int .i64 (A : Int)] u fun e w' => e = .returned (.string (mkS (wrL ((gL a).take A)))) /\ Below w4.heap.size u w' := fun u hu => by
           have := zn a ha 0 A (by omega) (by omega) u
           rw [List.drop_zero, Nat.sub_zero] at this
           exact zj this hu
         have hp2 : ∀ u, Below w4.heap.size w4 u -> Calls prog qF #[adV a, .int .i64 ((A + j : Nat) : Int), .int .i64 (8 : Int)] u fun e w' => e = .returned (.string (mkS (wrL ((gL a).drop (A + j))))) /\ Below w4.heap.size u w' := fun u hu => by
           have := zn a ha (A + j) 8 (by omega) (by omega) u
           rw [List.take_of_length_le (by rw [List.length_drop]; omega)] at this
           exact zj this hu
         refine ⟨_, fun u hu => qR.load0 ((h1.below hB4).below hu) ha16, _, hp1, fits (by simp; omega), ?_⟩
         rintro _ rfl
         refine ⟨_, fun u hu => qR.load0 ((h1.below hB4).below hu) ha16, _, hp2, fits (by simp; omega), ?_⟩
         rintro _ rfl
         intro wq hwq
         have hq := qb hB4 hwq hB4.size
         refine ⟨?_, qb hB1 hq hB1.size⟩
         rw [ht, if_neg (by omega), <- hAz.1, <- hAz.2]
       · refine ⟨9 - (A + 1), by omega, A + 1, by omega, by rw [wrap_i64 (by omega) (by omega)]; omega, rfl, fun A' hA' => ?_, hB4⟩
         by_cases e : A' = A
         · subst e; exact h4
         · exact hearly A' (by omega)
   · refine ⟨L - 1, by omega, L - 1, by omega, by omega, by rw [wrap_i64 (by omega) (by omega)]; omega, rfl, fun L' A' hl ha' => ?_, hB3⟩
     by_cases e : L' = L
     · subst e; exact hearly A' (by omega)
     · exact hlong L' A' (by omega) ha'
 · refine ⟨_, qR.load0 (h1.below hB2) ha16, ?_⟩
   have := zn a ha 0 8 (by omega) (by omega) w2
   rw [List.drop_zero, List.take_of_length_le (by omega)] at this
   refine callK this ?_
   rintro _ w5 ⟨rfl, hb5⟩
   have hq := qb hB2 hb5 hB2.size
   refine ⟨_, rfl, ?_, qb hB1 hq hB1.size⟩
   rw [ht, if_pos]
   refine Decidable.byContradiction fun hc => ?_
   have := z2 (by omega)
   rw [hlong _ _ (by omega) z1] at this; cases this
end Go.Proofs.YtndbpedpdbjkpaaGreatDoor
namespace Go.Proofs.YtndbpedpdbjkpaaGreatDoor
open Go.Pk
open Go.RowKit (Below)
theorem qba {h : Hst} (o : h.ok) (w : World) : Calls prog zM #[h.v] w (Ret fun v w' => v = .string (mkS (qax h)) /\ Below w.heap.size w w') := by
 apply qaN
 unfold js
 intro k1 w1 hk1 hw1
 have hB1 := (hw1 ▸ qf w _ : Below w.heap.size w w1)
 have h1 : qm w1 k1 qc h.cells := qm.new hk1 hw1
 refine ⟨rfl, _, h1.load1 qN rfl rfl, ?_⟩
 unfold qax
 refine BCase.of (fun c1 => ?_) (fun c1 => ?_) <;> simp only [beq_iff_eq, beq_eq_false_iff_ne, ne_eq] at c1
 · rw [if_pos c1]
   exact ⟨rfl, _, h1.load1 un_string rfl rfl, rfl, hB1⟩
 rw [if_neg c1]
 refine ⟨rfl, _, h1.load1 qN rfl rfl, ?_⟩
 refine BCase.of (fun c2 => ?_) (fun c2 => ?_) <;> simp only [beq_iff_eq, beq_eq_false_iff_ne, ne_eq] at c2
 · rw [if_pos c2]
   refine ⟨rfl, _, qhV o h1, ?_⟩
   refine callK (qaM h.ad o w1) ?_
   rintro _ w2 ⟨rfl, hb2⟩
   exact ⟨_, rfl, rfl, qb hB1 hb2 hB1.size⟩
 rw [if_neg c2]
 refine ⟨rfl, _, h1.load1 qN rfl rfl, ?_⟩
 refine BCase.of (fun c3 => ?_) (fun c3 => ?_) <;> simp only [beq_iff_eq, beq_eq_false_iff_ne, ne_eq] at c3
 · rw [if_pos c3]
   refine ⟨rfl, _, qhV o h1, ?_⟩
   refine callK (qaK h.ad o w1) ?_
   rintro _ w2 ⟨rfl, hb2⟩
   have h6 := qe8 h.ad
   refine ⟨_, rfl, fits (by simp; omega), ?_⟩
   rintro _ rfl
   refine ⟨fits (by simp; omega), ?_⟩
   rintro _ rfl
   exact ⟨rfl, qb hB1 hb2 hB1.size⟩
 · rw [if_neg c3]
   exact ⟨rfl, hB1⟩
theorem zi {h : Hst} (o : h.ok) (hn : h.name.length <= 80000000) (w : World) : Calls prog qL #[h.v] w (Ret fun v w' => v = .bool (zd h) /\ Below w.heap.size w w') := by
 apply qam
 unfold jc
 have hxl := qgE o
 intro k1 w1 hk1 hw1
 have hB1 := (hw1 ▸ qf w _ : Below w.heap.size w w1)
 have h1 : qm w1 k1 qc h.cells := qm.new hk1 hw1
 refine ⟨_, qs.load0 h1 (Hst.len o), ?_⟩
 refine callK (qba o w1) ?_
 rintro _ w2 ⟨rfl, hb2⟩
 have hB2 := qb hB1 hb2 hB1.size
 refine ⟨_, rfl, ?_⟩
 refine callK (ref03_Parse_ok (qax h) (by omega) w2) ?_
 rintro _ w3 ⟨rfl, hb3⟩
 have hB3 := qb hB2 hb3 hB2.size
 refine ⟨_, _, by rw [qat], ?_⟩
 have hok : ((hostV (qax h)).getD hst0).ok := qcr fun x hx => jG hx
 refine qs.new (zs := hst0.cells) (cs := ((hostV (qax h)).getD hst0).cells) rfl (Hst.len hok) (Hst.one _) w3 fun k4 w4 hk4 h4 hb4 => ?_
 have hB4 := qb hB3 hb4 hB3.size
 have h14 := ((h1.below hb2).below hb3).below hb4
 unfold zd
 cases hv : hostV (qax h) with
 | none => exact BCase.no rfl ⟨rfl, hB4⟩
 | some g =>
   rw [hv] at h4 hok
   exact BCase.yes rfl ⟨_, qs.load0 h4 (Hst.len hok), _, qs.load0 h14 (Hst.len o), _, qdn hok o w4, rfl, hB4⟩
theorem qJ {h : Hst} (o : h.ok) (hn : h.name.length <= 80000000) (w : World) : Calls prog qB #[h.v] w (Ret (qeW h w)) := by
 apply j5
 unfold zH
 intro k1 w1 hk1 hw1
 have hB1 := (hw1 ▸ qf w _ : Below w.heap.size w w1)
 have h1 : qm w1 k1 qc h.cells := qm.new hk1 hw1
 have none_end : ∀ {wx : World}, ¬ (h.kind = 1 /\ zd h = true) -> Below w.heap.size w wx -> qeW h w (.slice none 0 0) wx := fun hc hb => ⟨none, 0, 0, rfl, by unfold qi; rw [if_neg hc]; exact Ow.nil _ _ _ _, qb9.none _, hb⟩
 refine worldJ (fun w' => (h.kind = 1 /\ zd h = true) /\ Below w1.heap.size w1 w') ⟨rfl, _, h1.load1 qN rfl rfl, ?_⟩ ?_
 · refine BCase.of (fun c => none_end (fun hc => ?_) hB1) (fun c => ?_)
   · rw [hc.1] at c; simp at c
   · have hk : h.kind = 1 := by simpa using c
     refine ⟨_, qs.load0 h1 (Hst.len o), ?_⟩
     refine callK (zi o hn w1) ?_
     rintro _ w2 ⟨rfl, hb2⟩
     refine ⟨_, rfl, BCase.of (fun c2 => none_end (fun hc => ?_) (qb hB1 hb2 hB1.size)) (fun c2 => ⟨⟨hk, by simpa using c2⟩, hb2⟩)⟩
     rw [hc.2] at c2; cases c2
 · rintro w2 ⟨hc, hb2⟩
   have hB2 := qb hB1 hb2 hB1.size
   refine ⟨rfl, _, (h1.below hb2).load1 un_string rfl rfl, ?_⟩
   refine callK (ja h.name 46 (by omega) w2) ?_
   rintro _ w3 ⟨a, n, c, rfl, ho, hf, hb3⟩
   exact ⟨_, _, _, rfl, _, _, _, rfl, by unfold qi; rw [if_pos hc]; exact ho, hf.mono hB2.size, qb hB2 hb3 hB2.size⟩
end Go.Proofs.YtndbpedpdbjkpaaGreatDoor
namespace Go.Pk
def qcV (h d : Hst) : Bool := if (qi h).length = 0 \/ (qi d).length = 0 then false else decide (d.name.length + 1 < h.name.length) && (h.name.drop (h.name.length - (d.name.length + 1)) == 46 :: d.name)
theorem zC {d : Hst} (o : d.ok) (hk : d.kind = 1) (hr : zd d = true) : d = ⟨1, d.name, ad0⟩ /\ lowL d.name = d.name /\ (cutC 46 [] d.name).all labelB = true /\ d.name.length <= 253 /\ zy (qid (cutC 46 [] d.name)) = false /\ hostV d.name = some d := by
 have hx : qax d = d.name := by unfold qax; rw [if_pos hk]
 unfold zd at hr
 rw [hx] at hr
 cases hv : hostV d.name with
 | none => rw [hv] at hr; cases hr
 | some g =>
   rw [hv] at hr
   obtain rfl := (j7 (jG hv) o).1 hr
   have hv' := hv
   unfold hostV at hv'
   split at hv'
   · split at hv'
     · have := qgL hv'; omega
     · cases hv'
   split at hv'
   · cases h4 : v4V g.name with
     | none => rw [h4] at hv'; cases hv'
     | some a =>
       rw [h4] at hv'
       have : g.kind = 2 := by rw [<- Option.some.inj hv']
       omega
   rename_i hd
   split at hv'
   · rename_i hc
     have e := Option.some.inj hv'
     have e2 : lowL g.name = g.name := congrArg Hst.name e
     rw [e2] at hc e hd
     exact ⟨e.symm, e2, hc.2, hc.1, by simpa using hd, rfl⟩
   · cases hv'
theorem za {d : Hst} (o : d.ok) (h : (qi d).length ≠ 0) : (d.kind = 1 /\ zd d = true) /\ qi d = cutC 46 [] d.name := by
 unfold qi at h ⊢
 split at h
 · rename_i hc; exact ⟨hc, by rw [if_pos hc]⟩
 · exact absurd rfl h
theorem qdg (c : UInt8) (A B : List (List UInt8)) (hA : A ≠ []) (hB : B ≠ []) : Lib.join (A ++ B) [c] = Lib.join A [c] ++ c :: Lib.join B [c] := by
 cases A with
 | nil => exact absurd rfl hA
 | cons x A =>
   cases B with
   | nil => exact absurd rfl hB
   | cons y B =>
     rw [List.cons_append, Lib.join_cons, Lib.join_cons, Lib.join_cons]
     unfold Lib.joinTail
     simp
theorem qbu {h d : Hst} (oh : h.ok) (od : d.ok) : qag h d = qcV h d := by
 unfold qag qcV
 by_cases hd0 : (qi d).length = 0
 · rw [if_pos (.inl hd0), if_pos (.inr hd0)]
 by_cases hh0 : (qi h).length = 0
 · rw [if_pos (.inr (by omega)), if_pos (.inl hh0)]
 rw [if_neg (show ¬ ((qi h).length = 0 \/ (qi d).length = 0) from fun h => h.elim hh0 hd0)]
 obtain ⟨⟨dk, dr⟩, dl⟩ := za od hd0
 obtain ⟨⟨hk, hr⟩, hl⟩ := za oh hh0
 obtain ⟨d1, -, d3, -, -, -⟩ := zC od dk dr
 obtain ⟨h1, -, h3, -, -, -⟩ := zC oh hk hr
 have hjh := jn 46 h.name []
 have hjd := jn 46 d.name []
 rw [List.nil_append] at hjh hjd
 rw [dl, hl]
 have hne := jD 46 h.name []
 have hpos : 0 < (cutC 46 [] h.name).length := List.length_pos_iff.2 hne
 have dpos : 0 < (cutC 46 [] d.name).length := List.length_pos_iff.2 (jD 46 d.name [])
 have eqn : ∀ x : List UInt8, j8 ⟨1, x, ad0⟩ d = (x == d.name) := fun x => by
   rw [Bool.eq_iff_iff, j7 (show (⟨1, x, ad0⟩ : Hst).ok from rfl) od, beq_iff_eq]
   constructor
   · intro e; exact congrArg Hst.name e
   · intro e; rw [d1]; simp [e]
 rw [eqn, Bool.eq_iff_iff]
 by_cases hlt : (cutC 46 [] h.name).length <= (cutC 46 [] d.name).length
 · rw [if_pos (show (cutC 46 [] d.name).length = 0 \/ (cutC 46 [] h.name).length <= (cutC 46 [] d.name).length from .inr hlt)]
   refine ⟨(fun h => by cases h), fun hx => ?_⟩
   rw [Bool.and_eq_true, dTx, beq_iff_eq] at hx
   exfalso
   have hs : h.name = h.name.take (h.name.length - (d.name.length + 1)) ++ 46 :: d.name := by rw [<- hx.2, List.take_append_drop]
   have hc := congrArg (fun s => (cutC 46 [] s).length) hs
   simp only [zw, List.length_append] at hc
   have : 0 < (cutC 46 [] (h.name.take (h.name.length - (d.name.length + 1)))).length := List.length_pos_iff.2 (jD 46 _ [])
   omega
 · rw [if_neg (show ¬ ((cutC 46 [] d.name).length = 0 \/ (cutC 46 [] h.name).length <= (cutC 46 [] d.name).length) from fun h => h.elim (fun h => by omega) hlt), beq_iff_eq, Bool.and_eq_true, dTx, beq_iff_eq]
   unfold qi0
   constructor
   · intro hj
     have hA : (cutC 46 [] h.name).take ((cutC 46 [] h.name).length - (cutC 46 [] d.name).length) ≠ [] := by
       intro e
       have := congrArg List.length e
       rw [List.length_take, List.length_nil] at this; omega
     have hB : (cutC 46 [] h.name).drop ((cutC 46 [] h.name).length - (cutC 46 [] d.name).length) ≠ [] := by
       intro e
       have := congrArg List.length e
       rw [List.length_drop, List.length_nil] at this; omega
     have ha := qdg 46 _ _ hA hB
     rw [List.take_append_drop, hjh, hj] at ha
     have hp : Lib.join ((cutC 46 [] h.name).take ((cutC 46 [] h.name).length - (cutC 46 [] d.name).length)) [46] ≠ [] := by
       cases hc : (cutC 46 [] h.name).take ((cutC 46 [] h.name).length - (cutC 46 [] d.name).length) with
       | nil => exact absurd hc hA
       | cons x A =>
         rw [Lib.join_cons]
         intro e
         have hx : x ∈ cutC 46 [] h.name := List.mem_of_mem_take (by rw [hc]; exact List.mem_cons_self)
         have := List.all_eq_true.1 h3 x hx
         rw [(List.append_eq_nil_iff.1 e).1] at this
         cases this
     generalize Lib.join ((cutC 46 [] h.name).take ((cutC 46 [] h.name).length - (cutC 46 [] d.name).length)) [46] = p at *
     have hpl : 0 < p.length := List.length_pos_iff.2 hp
     have hlen := congrArg List.length ha
     rw [List.length_append, List.length_cons] at hlen
     refine ⟨by omega, ?_⟩
     rw [show h.name.length - (d.name.length + 1) = p.length by omega, ha]
     simp
   · rintro ⟨hl', hdr⟩
     have hs : h.name = h.name.take (h.name.length - (d.name.length + 1)) ++ 46 :: d.name := by rw [<- hdr, List.take_append_drop]
     have hc : cutC 46 [] h.name = cutC 46 [] (h.name.take (h.name.length - (d.name.length + 1))) ++ cutC 46 [] d.name := by
       conv => lhs; rw [hs]
       exact zw 46 _ _ _
     rw [hc, List.length_append, Nat.add_sub_cancel, List.drop_left]
     exact hjd
end Go.Pk
namespace Go.Proofs.YtndbpedpdbjkpaaGreatDoor
open Go.Pk
open Go.RowKit (Below)
theorem jH {h d : Hst} (oh : h.ok) (od : d.ok) (hn : h.name.length <= 80000000) (dn : d.name.length <= 80000000) (w : World) : Calls prog ze #[h.v, d.v] w (Ret fun v w' => v = .bool (qag h d) /\ Below w.heap.size w w') := by
 rw [qbu oh od]
 apply qal
 unfold jd
 intro k2 w2 hk2 hw2
 have hB2 := (hw2 ▸ qf w _ : Below w.heap.size w w2)
 have h2 : qm w2 k2 qc h.cells := qm.new hk2 hw2
 intro k3 w3 hk3 hw3
 have hb3 := (hw3 ▸ qf w2 _ : Below w2.heap.size w2 w3)
 have hB3 := qb hB2 hb3 hB2.size
 have h3 : qm w3 k3 qc d.cells := qm.new hk3 hw3
 have h23 := h2.below hb3
 have u : qcV h d = if (qi h).length = 0 \/ (qi d).length = 0 then false else decide (d.name.length + 1 < h.name.length) && (h.name.drop (h.name.length - (d.name.length + 1)) == 46 :: d.name) := rfl
 refine worldJ (fun w' => ¬ ((qi h).length = 0 \/ (qi d).length = 0) /\ Below w3.heap.size w3 w') ?_ ?_
 · refine ⟨_, qs.load0 h23 (Hst.len oh), ?_⟩
   refine callK (qJ oh hn w3) ?_
   rintro _ w4 ⟨a, l, c, rfl, ho, -, hb4⟩
   have hB4 := qb hB3 hb4 hB3.size
   refine ⟨_, _, _, rfl, ?_⟩
   rw [ho.len]
   refine BCase.of (fun c1 => ⟨?_, hB4⟩) (fun c1 => ?_)
   · rw [u, if_pos (.inl (by simp at c1; simp [c1]))]
   refine ⟨_, qs.load0 (h3.below hb4) (Hst.len od), ?_⟩
   refine callK (qJ od dn w4) ?_
   rintro _ w5 ⟨a5, l5, c5, rfl, ho5, -, hb5⟩
   have hB5 := qb hB4 hb5 hB4.size
   refine ⟨_, _, _, rfl, ?_⟩
   rw [ho5.len]
   refine BCase.of (fun c2 => ⟨?_, hB5⟩) (fun c2 => ⟨?_, qb hb4 hb5 hb4.size⟩)
   · rw [u, if_pos (.inr (by simp at c2; simp [c2]))]
   · simp at c1 c2
     rintro (hx | hx)
     · exact c1 (List.length_eq_zero_iff.1 hx)
     · exact c2 (List.length_eq_zero_iff.1 hx)
 · rintro w4 ⟨hc, hb4⟩
   have hB4 := qb hB3 hb4 hB3.size
   have l2 := (h23.below hb4).load1 (P := prog) (i := 1) (v := .string (mkS h.name)) un_string rfl rfl
   refine ⟨rfl, _, (h3.below hb4).load1 un_string rfl rfl, fits (by simp; omega), ?_⟩
   rintro _ rfl
   refine ⟨rfl, _, l2, ?_⟩
   rw [u, if_neg hc]
   refine BCase.of (fun c1 => ?_) (fun c1 => ⟨?_, hB4⟩)
   · have hl : d.name.length + 1 < h.name.length := by simp at c1; omega
     have e : i64.wrap (((h.name.length : Nat) : Int) - ((([46] ++ d.name).length : Nat) : Int)) = ((h.name.length - (d.name.length + 1) : Nat) : Int) := by
       rw [wrap_i64 (by simp; omega) (by simp; omega)]; simp; omega
     refine ⟨rfl, _, l2, rfl, _, l2, ?_⟩
     rw [e]
     simp only [Int.toNat_natCast]
     refine ⟨⟨by omega, by omega⟩, ?_⟩
     rintro _ rfl
     rw [decide_eq_true hl, Bool.true_and]
     exact ⟨rfl, hB4⟩
   · have : ¬ d.name.length + 1 < h.name.length := by simp at c1; omega
     rw [decide_eq_false this, Bool.false_and]
end Go.Proofs.YtndbpedpdbjkpaaGreatDoor
set_option maxRecDepth 100000
namespace Go.Proofs.YtndbpedpdbjkpaaGreatDoor
open Go.Pk
open Go.RowKit (Below)
--  cracknel/cracknelref09.Domain
def jO (v0 : Value) (v1 : Value) (w : World) (K : Value -> World -> Prop) : Prop :=
 ∀ k2 w2, k2 = w.heap.size -> w2 = w.alloc (.cells (Value.cells v0) qc) ->
 ∀ k3 w3, k3 = w2.heap.size -> w3 = w2.alloc (.cells (Value.cells v1) qc) ->
 ∃ J : FP [],
 (∃ v5, Ld qc (some ⟨k2, 0, none⟩) w3 v5 /\
 Calls prog qL #[v5] w3 fun e6 w6 => ∃ b6, e6 = .returned (.bool b6) /\
 BCase (!b6)
 (K (.bool false) w6)
 (∃ v9, Ld qc (some ⟨k3, 0, none⟩) w6 v9 /\
 Calls prog qL #[v9] w6 fun e10 w10 => ∃ b10, e10 = .returned (.bool b10) /\
 BCase (!b10)
 (K (.bool false) w10)
 (J w10))) /\
 AllJ 9 (∀ wj, J wj ->
 ∃ v13, Ld qc (some ⟨k2, 0, none⟩) wj v13 /\
 ∃ v14, Ld qc (some ⟨k3, 0, none⟩) wj v14 /\
 ∃ b15, ((do eqGuard .eql qc (.tmp 13) (.tmp 14) v13 v14; binOp .eql qc v13 v14 : Sem Value)).run prog wj = .ok (.bool b15) wj /\
 BCase b15
 (K (.bool true) wj)
 (∃ v17, Ld qc (some ⟨k2, 0, none⟩) wj v17 /\
 ∃ v18, Ld qc (some ⟨k3, 0, none⟩) wj v18 /\
 Calls prog ze #[v17, v18] wj fun e19 w19 => ∃ b19, e19 = .returned (.bool b19) /\
 K (.bool b19) w19))
theorem qbn (v0 : Value) (v1 : Value) {w : World} {K : Value -> World -> Prop} (h : jO v0 v1 w K) : Calls prog zv #[v0, v1] w (Ret K) :=
 qo (c := qr Tryz.f28) (by kernel_rfl) Tryz.func28 (by kernel_rfl) [(2, [])] [v0, v1] (of_decide_eq_true (by kernel_rfl)) _ (by kernel_rfl) h

--  cracknel/suffix.New
def qcN (a0 : Option Addr) (l0 c0 : Nat) (v1 : Value) (s2_0 : List UInt8) (s2_1 : List UInt8) (s2_2 : List UInt8) (s2_3 : List UInt8) (b2_4 : Bool) (n2_5 : Int) (b2_6 : Bool) (n2_7 : Int) (b2_8 : Bool) (b2_9 : Bool) (n2_10 : Int) (n3 : Int) (w : World) (K : Value -> World -> Prop) : Prop :=
 ∀ k5 w5, k5 = w.heap.size -> w5 = w.alloc (.cells (Value.cells v1) qg) ->
 ∀ k6 w6, k6 = w5.heap.size -> w6 = w5.alloc (.cells #[.string (mkS s2_0), .string (mkS s2_1), .string (mkS s2_2), .string (mkS s2_3), .bool b2_4, .int .i64 n2_5, .bool b2_6, .int .i64 n2_7, .bool b2_8, .bool b2_9, .int .i64 n2_10] qd) ->
 ∀ k8 w8, k8 = w6.heap.size -> w8 = w6.alloc (.cells qj qa) ->
 ∀ k10 w10, k10 = w8.heap.size -> w10 = w8.alloc (.cells qj qa) ->
 ∃ wx, Sv qa (some ⟨k10, 0, none⟩) (.agg qj) w10 wx /\
 ∃ v20, Ld qg (some ⟨k5, 0, none⟩) wx v20 /\
 Calls prog qbd #[v20] wx fun e21 w21 => ∃ b21, e21 = .returned (.bool b21) /\
 BCase (!b21)
 (∃ v23, Ld qa (some ⟨k10, 0, none⟩) w21 v23 /\
 ∃ wx_1, Sv qa (some ⟨k8, 0, none⟩) v23 w21 wx_1 /\
 ∃ vr0, (qC qa (.pointer (some ⟨k8, 0, none⟩))).run prog wx_1 = .ok vr0 wx_1 /\
 K (.tuple #[vr0, .int .i64 (41 : Int)]) wx_1)
 (∃ s25_0 s25_1 s25_2 s25_3 b25_4 n25_5 b25_6 n25_7 b25_8 b25_9 n25_10, Ld qd (some ⟨k6, 0, none⟩) w21 (hV s25_0 s25_1 s25_2 s25_3 b25_4 n25_5 b25_6 n25_7 b25_8 b25_9 n25_10) /\
 Calls prog qbN #[(hV s25_0 s25_1 s25_2 s25_3 b25_4 n25_5 b25_6 n25_7 b25_8 b25_9 n25_10)] w21 fun e26 w26 => ∃ s26_0 b26_1, e26 = .returned (.tuple #[.string (mkS s26_0), .bool b26_1]) /\
 BCase (!b26_1)
 (∃ v31, Ld qa (some ⟨k10, 0, none⟩) w26 v31 /\
 ∃ wx_2, Sv qa (some ⟨k8, 0, none⟩) v31 w26 wx_2 /\
 ∃ vr0_1, (qC qa (.pointer (some ⟨k8, 0, none⟩))).run prog wx_2 = .ok vr0_1 wx_2 /\
 K (.tuple #[vr0_1, .int .i64 (82 : Int)]) wx_2)
 (∃ J : FP [],
 (∃ J_1 : FP [.one (.bool)],
 (BCase (decide (n3 < (0 : Int)))
 (J_1 true w26)
 (J_1 (decide (n3 > (1099511627776 : Int))) w26)) /\
 ∀ b37, AllJ 5 (∀ wj, J_1 b37 wj ->
 BCase b37
 (∃ v38, Ld qa (some ⟨k10, 0, none⟩) wj v38 /\
 ∃ wx_3, Sv qa (some ⟨k8, 0, none⟩) v38 wj wx_3 /\
 ∃ vr0_2, (qC qa (.pointer (some ⟨k8, 0, none⟩))).run prog wx_3 = .ok vr0_2 wx_3 /\
 K (.tuple #[vr0_2, .int .i64 (122 : Int)]) wx_3)
 (J wj))) /\
 AllJ 8 (∀ wj_1, J wj_1 ->
 (true = true) /\
 ∃ s40, Ld qe (some ⟨k6, 0, none⟩) wj_1 (.string (mkS s40)) /\
 (true = true) /\
 ∃ s42, Ld qe (some ⟨k6, 1, none⟩) wj_1 (.string (mkS s42)) /\
 (true = true) /\
 ∃ v44, Ld qc (some ⟨k5, 1, none⟩) wj_1 v44 /\
 (true = true) /\
 ∃ s46, Ld qe (some ⟨k6, 3, none⟩) wj_1 (.string (mkS s46)) /\
 (true = true) /\
 ∃ b48, Ld qy (some ⟨k6, 8, none⟩) wj_1 (.bool b48) /\
 (true = true) /\
 ∃ b50, Ld qy (some ⟨k6, 9, none⟩) wj_1 (.bool b50) /\
 (true = true) /\
 ∃ n52, Ld qx (some ⟨k6, 10, none⟩) wj_1 (.int .i64 n52) /\
 ∃ v55, (Instr.build qa #[(0, .string (mkS s40)), (1, .string (mkS s42)), (2, v44), (3, .bool true), (4, .string (mkS s46)), (5, .bool b48), (6, .bool b50), (7, .int .i64 n52), (8, .int .i64 (9223372036854775807 : Int)), (9, .int .i64 n3), (10, .int .i64 n3)]).run prog wj_1 = .ok v55 wj_1 /\
 ∀ k13 w13, k13 = wj_1.heap.size -> w13 = wj_1.alloc (.cells qj qa) ->
 ∃ wx_4, Sv qa (some ⟨k13, 0, none⟩) v55 w13 wx_4 /\
 ∃ J_2 : FP [],
 ((true = true) /\
 ∃ s57, Ld qe (some ⟨k6, 2, none⟩) wx_4 (.string (mkS s57)) /\
 BCase (!(s57 == []))
 ((true = true) /\
 ∃ s61, Ld qe (some ⟨k6, 2, none⟩) wx_4 (.string (mkS s61)) /\
 Calls prog jh #[.string (mkS s61)] wx_4 fun e62 w62 => ∃ v62_0 n62_1, e62 = .returned (.tuple #[v62_0, .int .i64 n62_1]) /\
 ∀ k14 w14, k14 = w62.heap.size -> w14 = w62.alloc (.cells qK qc) ->
 ∃ wx_5, Sv qc (some ⟨k14, 0, none⟩) v62_0 w14 wx_5 /\
 BCase (n62_1 != (0 : Int))
 (∃ v67, Ld qa (some ⟨k10, 0, none⟩) wx_5 v67 /\
 ∃ wx_6, Sv qa (some ⟨k8, 0, none⟩) v67 wx_5 wx_6 /\
 ∃ vr0_3, (qC qa (.pointer (some ⟨k8, 0, none⟩))).run prog wx_6 = .ok vr0_3 wx_6 /\
 K (.tuple #[vr0_3, .int .i64 (101 : Int)]) wx_6)
 (∃ v69, Ld qc (some ⟨k14, 0, none⟩) wx_5 v69 /\
 Calls prog zg #[.slice a0 l0 c0, v69] wx_5 fun e70 w70 => ∃ b70, e70 = .returned (.bool b70) /\
 ∃ J_3 : FP [],
 (∃ J_4 : FP [.one (.bool)],
 (BCase b70
 (∃ v73, Ld qc (some ⟨k14, 0, none⟩) w70 v73 /\
 (true = true) /\
 ∃ v75, Ld qc (some ⟨k5, 1, none⟩) w70 v75 /\
 ∃ b76, ((do eqGuard .neq qc (.tmp 73) (.tmp 75) v73 v75; binOp .neq qc v73 v75 : Sem Value)).run prog w70 = .ok (.bool b76) w70 /\
 J_4 b76 w70)
 (J_4 false w70)) /\
 ∀ b77, AllJ 6 (∀ wj_2, J_4 b77 wj_2 ->
 BCase b77
 (∃ v78, Ld qa (some ⟨k10, 0, none⟩) wj_2 v78 /\
 ∃ wx_7, Sv qa (some ⟨k8, 0, none⟩) v78 wj_2 wx_7 /\
 ∃ vr0_4, (qC qa (.pointer (some ⟨k8, 0, none⟩))).run prog wx_7 = .ok vr0_4 wx_7 /\
 K (.tuple #[vr0_4, .int .i64 (102 : Int)]) wx_7)
 (J_3 wj_2))) /\
 AllJ 9 (∀ wj_3, J_3 wj_3 ->
 (true = true) /\
 ∃ v80, Ld qc (some ⟨k5, 1, none⟩) wj_3 v80 /\
 ∃ v81, Ld qc (some ⟨k14, 0, none⟩) wj_3 v81 /\
 Calls prog zv #[v80, v81] wj_3 fun e82 w82 => ∃ b82, e82 = .returned (.bool b82) /\
 BCase (!b82)
 (∃ v84, Ld qa (some ⟨k10, 0, none⟩) w82 v84 /\
 ∃ wx_8, Sv qa (some ⟨k8, 0, none⟩) v84 w82 wx_8 /\
 ∃ vr0_5, (qC qa (.pointer (some ⟨k8, 0, none⟩))).run prog wx_8 = .ok vr0_5 wx_8 /\
 K (.tuple #[vr0_5, .int .i64 (103 : Int)]) wx_8)
 (BCase (!b70)
 (∃ v87, Ld qc (some ⟨k14, 0, none⟩) w82 v87 /\
 (true = true) /\
 ∃ wx_9, Sv qc (some ⟨k13, 2, none⟩) v87 w82 wx_9 /\
 (true = true) /\
 ∃ wx_10, Sv qy (some ⟨k13, 20, none⟩) (.bool false) wx_9 wx_10 /\
 J_2 wx_10)
 (J_2 w82)))))
 (J_2 wx_4)) /\
 AllJ 38 (∀ wj_4, J_2 wj_4 ->
 ∃ J_5 : FP [],
 ((true = true) /\
 ∃ s91, Ld qe (some ⟨k13, 21, none⟩) wj_4 (.string (mkS s91)) /\
 BCase (s91 == [])
 ((true = true) /\
 ∃ s94, Ld qe (some ⟨k5, 20, none⟩) wj_4 (.string (mkS s94)) /\
 Calls prog zG #[.string (mkS s94)] wj_4 fun e95 w95 => ∃ s95, e95 = .returned (.string (mkS s95)) /\
 (true = true) /\
 ∃ wx_11, Sv qe (some ⟨k13, 21, none⟩) (.string (mkS s95)) w95 wx_11 /\
 J_5 wx_11)
 (J_5 wj_4)) /\
 AllJ 7 (∀ wj_5, J_5 wj_5 ->
 ∃ J_6 : FP [],
 (∃ J_7 : FP [.one (.bool)],
 ((true = true) /\
 ∃ b98, Ld qy (some ⟨k6, 8, none⟩) wj_5 (.bool b98) /\
 BCase b98
 ((true = true) /\
 ∃ b101, Ld qy (some ⟨k5, 0, none⟩) wj_5 (.bool b101) /\
 J_7 (!b101) wj_5)
 (J_7 false wj_5)) /\
 ∀ b103, AllJ 6 (∀ wj_6, J_7 b103 wj_6 ->
 BCase b103
 (∃ v104, Ld qa (some ⟨k10, 0, none⟩) wj_6 v104 /\
 ∃ wx_12, Sv qa (some ⟨k8, 0, none⟩) v104 wj_6 wx_12 /\
 ∃ vr0_6, (qC qa (.pointer (some ⟨k8, 0, none⟩))).run prog wx_12 = .ok vr0_6 wx_12 /\
 K (.tuple #[vr0_6, .int .i64 (104 : Int)]) wx_12)
 (J_6 wj_6))) /\
 AllJ 9 (∀ wj_7, J_6 wj_7 ->
 ∃ J_8 : FP [],
 (∃ J_9 : FP [.one (.bool)],
 ((true = true) /\
 ∃ n106, Ld qx (some ⟨k6, 10, none⟩) wj_7 (.int .i64 n106) /\
 BCase (n106 == (1 : Int))
 ((true = true) /\
 ∃ b110, Ld qy (some ⟨k6, 8, none⟩) wj_7 (.bool b110) /\
 J_9 (!b110) wj_7)
 (J_9 false wj_7)) /\
 ∀ b112, AllJ 7 (∀ wj_8, J_9 b112 wj_8 ->
 BCase b112
 (∃ v113, Ld qa (some ⟨k10, 0, none⟩) wj_8 v113 /\
 ∃ wx_13, Sv qa (some ⟨k8, 0, none⟩) v113 wj_8 wx_13 /\
 ∃ vr0_7, (qC qa (.pointer (some ⟨k8, 0, none⟩))).run prog wx_13 = .ok vr0_7 wx_13 /\
 K (.tuple #[vr0_7, .int .i64 (105 : Int)]) wx_13)
 (J_8 wj_8))) /\
 AllJ 10 (∀ wj_9, J_8 wj_9 ->
 (true = true) /\
 ∃ s115, Ld qe (some ⟨k6, 0, none⟩) wj_9 (.string (mkS s115)) /\
 ∃ J_10 : FP [.one (.str)],
 (BCase (s115 == [])
 ((true = true) /\
 ∃ s119, Ld qe (some ⟨k6, 1, none⟩) wj_9 (.string (mkS s119)) /\
 J_10 s119 wj_9)
 (J_10 s115 wj_9)) /\
 ∀ s17, AllJ 4 (∀ wj_10, J_10 s17 wj_10 ->
 Calls prog qT #[.string (mkS s17)] wj_10 fun e121 w121 => ∃ n121, e121 = .returned (.int .i64 n121) /\
 ∃ J_11 : FP [],
 (∃ J_12 : FP [.one (.bool)],
 (BCase (n121 == (1 : Int))
 ((true = true) /\
 ∃ b126, Ld qy (some ⟨k6, 8, none⟩) w121 (.bool b126) /\
 BCase (!b126)
 (J_12 true w121)
 (BCase (n121 == (2 : Int))
 ((true = true) /\
 ∃ b134, Ld qy (some ⟨k6, 8, none⟩) w121 (.bool b134) /\
 BCase (!b134)
 (J_12 true w121)
 ((true = true) /\
 ∃ b138, Ld qy (some ⟨k13, 20, none⟩) w121 (.bool b138) /\
 BCase (!b138)
 (J_12 true w121)
 ((true = true) /\
 ∃ s143, Ld qe (some ⟨k6, 3, none⟩) w121 (.string (mkS s143)) /\
 J_12 (!(s143 == [47])) w121)))
 (J_12 false w121)))
 (BCase (n121 == (2 : Int))
 ((true = true) /\
 ∃ b134_1, Ld qy (some ⟨k6, 8, none⟩) w121 (.bool b134_1) /\
 BCase (!b134_1)
 (J_12 true w121)
 ((true = true) /\
 ∃ b138_1, Ld qy (some ⟨k13, 20, none⟩) w121 (.bool b138_1) /\
 BCase (!b138_1)
 (J_12 true w121)
 ((true = true) /\
 ∃ s143_1, Ld qe (some ⟨k6, 3, none⟩) w121 (.string (mkS s143_1)) /\
 J_12 (!(s143_1 == [47])) w121)))
 (J_12 false w121))) /\
 ∀ b147, AllJ 25 (∀ wj_11, J_12 b147 wj_11 ->
 BCase b147
 (∃ v148, Ld qa (some ⟨k10, 0, none⟩) wj_11 v148 /\
 ∃ wx_14, Sv qa (some ⟨k8, 0, none⟩) v148 wj_11 wx_14 /\
 ∃ vr0_8, (qC qa (.pointer (some ⟨k8, 0, none⟩))).run prog wx_14 = .ok vr0_8 wx_14 /\
 K (.tuple #[vr0_8, .int .i64 (106 : Int)]) wx_14)
 (J_11 wj_11))) /\
 AllJ 28 (∀ wj_12, J_11 wj_12 ->
 ∃ J_13 : FP [],
 ((true = true) /\
 ∃ b150, Ld qy (some ⟨k6, 4, none⟩) wj_12 (.bool b150) /\
 BCase b150
 ((true = true) /\
 ∃ n152, Ld qZ (some ⟨k6, 5, none⟩) wj_12 (.int .i64 n152) /\
 ∃ n155, (Builtin.min_ #[qZ, qZ] qZ #[.int .i64 n152, .int .i64 (i64.wrap (n3 + (34560000 : Int)))]).run prog wj_12 = .ok (.int .i64 n155) wj_12 /\
 (true = true) /\
 ∃ wx_15, Sv qZ (some ⟨k13, 25, none⟩) (.int .i64 n155) wj_12 wx_15 /\
 J_13 wx_15)
 (J_13 wj_12)) /\
 AllJ 8 (∀ wj_13, J_13 wj_13 ->
 (true = true) /\
 ∃ b158, Ld qy (some ⟨k6, 6, none⟩) wj_13 (.bool b158) /\
 BCase b158
 ((true = true) /\
 ∃ n161, Ld qZ (some ⟨k6, 7, none⟩) wj_13 (.int .i64 n161) /\
 (true = true) /\
 ∃ wx_16, Sv qZ (some ⟨k13, 25, none⟩) (.int .i64 (i64.wrap (n3 + n161))) wj_13 wx_16 /\
 ∃ v164, Ld qa (some ⟨k13, 0, none⟩) wx_16 v164 /\
 ∃ wx_17, Sv qa (some ⟨k8, 0, none⟩) v164 wx_16 wx_17 /\
 ∃ vr0_9, (qC qa (.pointer (some ⟨k8, 0, none⟩))).run prog wx_17 = .ok vr0_9 wx_17 /\
 K (.tuple #[vr0_9, .int .i64 (0 : Int)]) wx_17)
 (∃ v164_1, Ld qa (some ⟨k13, 0, none⟩) wj_13 v164_1 /\
 ∃ wx_18, Sv qa (some ⟨k8, 0, none⟩) v164_1 wj_13 wx_18 /\
 ∃ vr0_10, (qC qa (.pointer (some ⟨k8, 0, none⟩))).run prog wx_18 = .ok vr0_10 wx_18 /\
 K (.tuple #[vr0_10, .int .i64 (0 : Int)]) wx_18)))))))))))
theorem qeD (a0 : Option Addr) (l0 c0 : Nat) (v1 : Value) (s2_0 : List UInt8) (s2_1 : List UInt8) (s2_2 : List UInt8) (s2_3 : List UInt8) (b2_4 : Bool) (n2_5 : Int) (b2_6 : Bool) (n2_7 : Int) (b2_8 : Bool) (b2_9 : Bool) (n2_10 : Int) (n3 : Int) {w : World} {K : Value -> World -> Prop} (h : qcN a0 l0 c0 v1 s2_0 s2_1 s2_2 s2_3 b2_4 n2_5 b2_6 n2_7 b2_8 b2_9 n2_10 n3 w K) : Calls prog qbY #[.slice a0 l0 c0, v1, .agg #[.string (mkS s2_0), .string (mkS s2_1), .string (mkS s2_2), .string (mkS s2_3), .bool b2_4, .int .i64 n2_5, .bool b2_6, .int .i64 n2_7, .bool b2_8, .bool b2_9, .int .i64 n2_10], .int .i64 n3] w (Ret K) :=
 qo (c := qr Tryz.f39) (by kernel_rfl) Tryz.func39 (by kernel_rfl) [(22, []), (23, [(37, .one (.bool))]), (32, []), (48, []), (49, [(77, .one (.bool))]), (72, []), (78, []), (79, [(103, .one (.bool))]), (86, []), (87, [(112, .one (.bool))]), (96, [(17, .one (.str))]), (104, []), (105, [(147, .one (.bool))]), (112, [])] [.slice a0 l0 c0, v1, .agg #[.string (mkS s2_0), .string (mkS s2_1), .string (mkS s2_2), .string (mkS s2_3), .bool b2_4, .int .i64 n2_5, .bool b2_6, .int .i64 n2_7, .bool b2_8, .bool b2_9, .int .i64 n2_10], .int .i64 n3] (of_decide_eq_true (by kernel_rfl)) _ (by kernel_rfl) h

--  cracknel/admit.Prefix
def zE (s0 : List UInt8) (w : World) (K : Value -> World -> Prop) : Prop :=
 Calls prog qO #[.string (mkS s0), .string (mkS [95, 95, 115, 101, 99, 117, 114, 101, 45])] w fun e4 w4 => ∃ b4, e4 = .returned (.bool b4) /\
 BCase b4
 (K (.int .i64 (1 : Int)) w4)
 (Calls prog qO #[.string (mkS s0), .string (mkS [95, 95, 104, 111, 115, 116, 45])] w4 fun e6 w6 => ∃ b6, e6 = .returned (.bool b6) /\
 BCase b6
 (K (.int .i64 (2 : Int)) w6)
 (K (.int .i64 (0 : Int)) w6))
theorem j6 (s0 : List UInt8) {w : World} {K : Value -> World -> Prop} (h : zE s0 w K) : Calls prog qT #[.string (mkS s0)] w (Ret K) :=
 qo (c := qr Tryz.f41) (by kernel_rfl) Tryz.func41 (by kernel_rfl) [] [.string (mkS s0)] (of_decide_eq_true (by kernel_rfl)) _ (by kernel_rfl) h

--  cracknel/cracknelref06.Public
def jR (a0 : Option Addr) (l0 c0 : Nat) (v1 : Value) (w : World) (K : Value -> World -> Prop) : Prop :=
 ∀ k3 w3, k3 = w.heap.size -> w3 = w.alloc (.cells (Value.cells v1) qc) ->
 ∃ v6, Ld qc (some ⟨k3, 0, none⟩) w3 v6 /\
 Calls prog qB #[v6] w3 fun e7 w7 => ∃ a7 l7 c7, e7 = .returned (.slice a7 l7 c7) /\
 BCase (decide (((l7 : Nat) : Int) > (0 : Int)))
 (∃ v13, Ld qc (some ⟨k3, 0, none⟩) w7 v13 /\
 Calls prog zX #[.slice a0 l0 c0, v13] w7 fun e14 w14 => ∃ n14, e14 = .returned (.int .i64 n14) /\
 K (.bool (n14 == ((l7 : Nat) : Int))) w14)
 (K (.bool false) w7)
theorem qbm (a0 : Option Addr) (l0 c0 : Nat) (v1 : Value) {w : World} {K : Value -> World -> Prop} (h : jR a0 l0 c0 v1 w K) : Calls prog zg #[.slice a0 l0 c0, v1] w (Ret K) :=
 qo (c := qr Tryz.f42) (by kernel_rfl) Tryz.func42 (by kernel_rfl) [] [.slice a0 l0 c0, v1] (of_decide_eq_true (by kernel_rfl)) _ (by kernel_rfl) h

--  cracknel/cracknelref09.Sends
def jy (s0 : List UInt8) (w : World) (K : Value -> World -> Prop) : Prop :=
 ∃ I : Nat -> FP [.one (.int .i64), .one (.int .i64)],
 (∃ m, I m (0 : Int) (0 : Int) w) /\
 ∀ m n3 n4, AllJ 11 (∀ wl, I m n3 n4 wl ->
 BCase (decide (n4 < ((List.length s0 : Nat) : Int)))
 (((0 <= n4 /\ n4 < ((List.length s0 : Nat) : Int))) /\
 BCase ((qA s0 n4) == (47 : Int))
 (∃ m' : Nat, m' < m /\ I m' n4 (i64.wrap (n4 + (1 : Int))) wl)
 (∃ m' : Nat, m' < m /\ I m' n3 (i64.wrap (n4 + (1 : Int))) wl))
 (BCase (n3 == (0 : Int))
 (K (.string (mkS [47])) wl)
 (((0 <= (0 : Int) /\ (0 : Int) < ((List.length s0 : Nat) : Int))) /\
 BCase ((qA s0 (0 : Int)) != (47 : Int))
 (K (.string (mkS [47])) wl)
 (((0 <= n3 /\ n3 <= (((List.length s0) : Nat) : Int))) /\
 ∀ s25, s25 = (List.take (Int.toNat n3) s0) ->
 K (.string (mkS s25)) wl))))
theorem qaX (s0 : List UInt8) {w : World} {K : Value -> World -> Prop} (h : jy s0 w K) : Calls prog zG #[.string (mkS s0)] w (Ret K) :=
 qo (c := qr Tryz.f44) (by kernel_rfl) Tryz.func44 (by kernel_rfl) [(8, [(3, .one (.int .i64)), (4, .one (.int .i64))])] [.string (mkS s0)] (of_decide_eq_true (by kernel_rfl)) _ (by kernel_rfl) h

--  cracknel/rule.Line
def qcl (v0 : Value) (w : World) (K : Value -> World -> Prop) : Prop :=
 ∀ k1 w1, k1 = w.heap.size -> w1 = w.alloc (.cells (Value.cells v0) qg) ->
 (true = true) /\
 ∃ v4, Ld qc (some ⟨k1, 1, none⟩) w1 v4 /\
 Calls prog qL #[v4] w1 fun e5 w5 => ∃ b5, e5 = .returned (.bool b5) /\
 BCase b5
 ((true = true) /\
 ∃ n8, Ld qx (some ⟨k1, 19, none⟩) w5 (.int .i64 n8) /\
 BCase (decide (n8 >= (1 : Int)))
 ((true = true) /\
 ∃ n13, Ld qx (some ⟨k1, 19, none⟩) w5 (.int .i64 n13) /\
 BCase (decide (n13 <= (65535 : Int)))
 ((true = true) /\
 ∃ s18, Ld qe (some ⟨k1, 20, none⟩) w5 (.string (mkS s18)) /\
 Calls prog qbH #[.string (mkS s18)] w5 fun e19 w19 => ∃ b19, e19 = .returned (.bool b19) /\
 K (.bool b19) w19)
 (K (.bool false) w5))
 (K (.bool false) w5))
 (K (.bool false) w5)
theorem qd9 (v0 : Value) {w : World} {K : Value -> World -> Prop} (h : qcl v0 w K) : Calls prog qbd #[v0] w (Ret K) :=
 qo (c := qr Tryz.f87) (by kernel_rfl) Tryz.func87 (by kernel_rfl) [] [v0] (of_decide_eq_true (by kernel_rfl)) _ (by kernel_rfl) h

--  cracknel/cracknelref10.begins
def zL (s0 : List UInt8) (s1 : List UInt8) (w : World) (K : Value -> World -> Prop) : Prop :=
 BCase (decide (((List.length s0 : Nat) : Int) >= ((List.length s1 : Nat) : Int)))
 (((0 <= ((List.length s1 : Nat) : Int) /\ ((List.length s1 : Nat) : Int) <= (((List.length s0) : Nat) : Int))) /\
 ∀ s14, s14 = (List.take (Int.toNat ((List.length s1 : Nat) : Int)) s0) ->
 Calls prog jg #[.string (mkS s14)] w fun e15 w15 => ∃ s15, e15 = .returned (.string (mkS s15)) /\
 K (.bool (s15 == s1)) w15)
 (K (.bool false) w)
theorem j4 (s0 : List UInt8) (s1 : List UInt8) {w : World} {K : Value -> World -> Prop} (h : zL s0 s1 w K) : Calls prog qO #[.string (mkS s0), .string (mkS s1)] w (Ret K) :=
 qo (c := qr Tryz.f90) (by kernel_rfl) Tryz.func90 (by kernel_rfl) [] [.string (mkS s0), .string (mkS s1)] (of_decide_eq_true (by kernel_rfl)) _ (by kernel_rfl) h

--  cracknel/cracknelref06.Suffix
def jM (a0 : Option Addr) (l0 c0 : Nat) (v1 : Value) (w : World) (K : Value -> World -> Prop) : Prop :=
 ∀ k3 w3, k3 = w.heap.size -> w3 = w.alloc (.cells (Value.cells v1) qc) ->
 ∃ v12, Ld qc (some ⟨k3, 0, none⟩) w3 v12 /\
 Calls prog qB #[v12] w3 fun e13 w13 => ∃ a13 l13 c13, e13 = .returned (.slice a13 l13 c13) /\
 BCase (((l13 : Nat) : Int) == (0 : Int))
 (K (.int .i64 (0 : Int)) w13)
 (∃ I : Nat -> FP [.one (.int .i64), .one (.int .i64), .one (.int .i64)],
 (∃ m, I m (1 : Int) (0 : Int) (0 : Int) w13) /\
 ∀ m n5 n6 n18, AllJ 60 (∀ wl, I m n5 n6 n18 wl ->
 BCase (decide (n18 < ((l0 : Nat) : Int)))
 (((0 <= n18 /\ n18 < ((l0 : Nat) : Int)) /\ Option.isSome a0 = true) /\
 ∃ n21_0 s21_1, Ld ql (qn a0 n18 2) wl (.agg #[.int .i64 n21_0, .string (mkS s21_1)]) /\
 ∀ k8 w8, k8 = wl.heap.size -> w8 = wl.alloc (.cells #[.int .i64 (0 : Int), .string (mkS [])] ql) ->
 ∃ wx, Sv ql (some ⟨k8, 0, none⟩) (.agg #[.int .i64 n21_0, .string (mkS s21_1)]) w8 wx /\
 ∃ n22_0 s22_1, Ld ql (some ⟨k8, 0, none⟩) wx (.agg #[.int .i64 n22_0, .string (mkS s22_1)]) /\
 Calls prog jq #[.agg #[.int .i64 n22_0, .string (mkS s22_1)]] wx fun e23 w23 => ∃ b23, e23 = .returned (.bool b23) /\
 BCase (!b23)
 (∃ m' : Nat, m' < m /\ I m' n5 n6 (i64.wrap (n18 + (1 : Int))) w23)
 ((true = true) /\
 ∃ s26, Ld qe (some ⟨k8, 1, none⟩) w23 (.string (mkS s26)) /\
 Calls prog zO #[.string (mkS s26), .int .u8 (46 : Int)] w23 fun e27 w27 => ∃ a27 l27 c27, e27 = .returned (.slice a27 l27 c27) /\
 (true = true) /\
 ∃ s30, Ld qe (some ⟨k8, 1, none⟩) w27 (.string (mkS s30)) /\
 ∀ k10 w10, k10 = w27.heap.size -> w10 = w27.alloc (.cells qK qc) ->
 ∃ wx_1, Sv qc (some ⟨k10, 0, none⟩) (.agg #[.int .i64 (1 : Int), .string (mkS s30), .int .u8 (0 : Int), .int .u8 (0 : Int), .int .u8 (0 : Int), .int .u8 (0 : Int), .int .u8 (0 : Int), .int .u8 (0 : Int), .int .u8 (0 : Int), .int .u8 (0 : Int), .int .u8 (0 : Int), .int .u8 (0 : Int), .int .u8 (0 : Int), .int .u8 (0 : Int), .int .u8 (0 : Int), .int .u8 (0 : Int), .int .u8 (0 : Int), .int .u8 (0 : Int)]) w10 wx_1 /\
 ∃ v32, Ld qc (some ⟨k3, 0, none⟩) wx_1 v32 /\
 ∃ v33, Ld qc (some ⟨k10, 0, none⟩) wx_1 v33 /\
 Calls prog ze #[v32, v33] wx_1 fun e34 w34 => ∃ b34, e34 = .returned (.bool b34) /\
 ∃ J : FP [.one (.int .i64)],
 (∃ J_1 : FP [.one (.bool)],
 ((true = true) /\
 ∃ n36, Ld qx (some ⟨k8, 0, none⟩) w34 (.int .i64 n36) /\
 BCase (n36 == (1 : Int))
 (BCase b34
 (J_1 true w34)
 (∃ v41, Ld qc (some ⟨k3, 0, none⟩) w34 v41 /\
 ∃ v42, Ld qc (some ⟨k10, 0, none⟩) w34 v42 /\
 ∃ b43, ((do eqGuard .eql qc (.tmp 41) (.tmp 42) v41 v42; binOp .eql qc v41 v42 : Sem Value)).run prog w34 = .ok (.bool b43) w34 /\
 J_1 b43 w34))
 (J_1 false w34)) /\
 ∀ b45, AllJ 10 (∀ wj, J_1 b45 wj ->
 BCase b45
 (∃ n48, (Builtin.max_ #[qx, qx] qx #[.int .i64 n5, .int .i64 ((l27 : Nat) : Int)]).run prog wj = .ok (.int .i64 n48) wj /\
 J n48 wj)
 (J n5 wj))) /\
 ∀ n5_1, AllJ 14 (∀ wj_1, J n5_1 wj_1 ->
 ∃ J_2 : FP [.one (.int .i64)],
 (∃ J_3 : FP [.one (.bool)],
 ((true = true) /\
 ∃ n50, Ld qx (some ⟨k8, 0, none⟩) wj_1 (.int .i64 n50) /\
 BCase (n50 == (2 : Int))
 (J_3 b34 wj_1)
 (J_3 false wj_1)) /\
 ∀ b54, AllJ 5 (∀ wj_2, J_3 b54 wj_2 ->
 BCase b54
 (∃ n58, (Builtin.max_ #[qx, qx] qx #[.int .i64 n5_1, .int .i64 (i64.wrap (((l27 : Nat) : Int) + (1 : Int)))]).run prog wj_2 = .ok (.int .i64 n58) wj_2 /\
 J_2 n58 wj_2)
 (J_2 n5_1 wj_2))) /\
 ∀ n5_2, AllJ 10 (∀ wj_3, J_2 n5_2 wj_3 ->
 ∃ J_4 : FP [.one (.bool)],
 ((true = true) /\
 ∃ n60, Ld qx (some ⟨k8, 0, none⟩) wj_3 (.int .i64 n60) /\
 BCase (n60 == (3 : Int))
 (BCase b34
 (J_4 true wj_3)
 (∃ v65, Ld qc (some ⟨k3, 0, none⟩) wj_3 v65 /\
 ∃ v66, Ld qc (some ⟨k10, 0, none⟩) wj_3 v66 /\
 ∃ b67, ((do eqGuard .eql qc (.tmp 65) (.tmp 66) v65 v66; binOp .eql qc v65 v66 : Sem Value)).run prog wj_3 = .ok (.bool b67) wj_3 /\
 J_4 b67 wj_3))
 (J_4 false wj_3)) /\
 ∀ b69, AllJ 10 (∀ wj_4, J_4 b69 wj_4 ->
 BCase b69
 (∃ n73, (Builtin.max_ #[qx, qx] qx #[.int .i64 n6, .int .i64 (i64.wrap (((l27 : Nat) : Int) - (1 : Int)))]).run prog wj_4 = .ok (.int .i64 n73) wj_4 /\
 ∃ m' : Nat, m' < m /\ I m' n5_2 n73 (i64.wrap (n18 + (1 : Int))) wj_4)
 (∃ m' : Nat, m' < m /\ I m' n5_2 n6 (i64.wrap (n18 + (1 : Int))) wj_4))))))
 (BCase (decide (n6 > (0 : Int)))
 (K (.int .i64 n6) wl)
 (K (.int .i64 n5) wl))))
theorem qbo (a0 : Option Addr) (l0 c0 : Nat) (v1 : Value) {w : World} {K : Value -> World -> Prop} (h : jM a0 l0 c0 v1 w K) : Calls prog zX #[.slice a0 l0 c0, v1] w (Ret K) :=
 qo (c := qr Tryz.f91) (by kernel_rfl) Tryz.func91 (by kernel_rfl) [(18, [(5, .one (.int .i64)), (6, .one (.int .i64)), (18, .one (.int .i64))]), (41, [(5, .one (.int .i64))]), (42, [(45, .one (.bool))]), (47, [(5, .one (.int .i64))]), (48, [(54, .one (.bool))]), (53, [(69, .one (.bool))])] [.slice a0 l0 c0, v1] (of_decide_eq_true (by kernel_rfl)) _ (by kernel_rfl) h

--  cracknel/cracknelref09.Path
def qad (n0_0 : Int) (s0_1 : List UInt8) (w : World) (K : Value -> World -> Prop) : Prop :=
 ∀ k1 w1, k1 = w.heap.size -> w1 = w.alloc (.cells #[.int .i64 n0_0, .string (mkS s0_1)] ql) ->
 ∃ n7_0 s7_1, Ld ql (some ⟨k1, 0, none⟩) w1 (.agg #[.int .i64 n7_0, .string (mkS s7_1)]) /\
 Calls prog jN #[.agg #[.int .i64 n7_0, .string (mkS s7_1)]] w1 fun e8 w8 => ∃ s8, e8 = .returned (.string (mkS s8)) /\
 Calls prog jS #[.string (mkS s8)] w8 fun e9 w9 => ∃ n9_0_0 s9_0_1 b9_1 n9_2, e9 = .returned (.tuple #[.agg #[.int .i64 n9_0_0, .string (mkS s9_0_1)], .bool b9_1, .int .i64 n9_2]) /\
 ∀ k3 w3, k3 = w9.heap.size -> w3 = w9.alloc (.cells #[.int .i64 (0 : Int), .string (mkS [])] ql) ->
 ∃ wx, Sv ql (some ⟨k3, 0, none⟩) (.agg #[.int .i64 n9_0_0, .string (mkS s9_0_1)]) w3 wx /\
 BCase (n9_2 == (0 : Int))
 (BCase b9_1
 (∃ n19_0 s19_1, Ld ql (some ⟨k3, 0, none⟩) wx (.agg #[.int .i64 n19_0, .string (mkS s19_1)]) /\
 ∃ n20_0 s20_1, Ld ql (some ⟨k1, 0, none⟩) wx (.agg #[.int .i64 n20_0, .string (mkS s20_1)]) /\
 ∃ b21, ((do eqGuard .eql ql (.tmp 19) (.tmp 20) (.agg #[.int .i64 n19_0, .string (mkS s19_1)]) (.agg #[.int .i64 n20_0, .string (mkS s20_1)]); binOp .eql ql (.agg #[.int .i64 n19_0, .string (mkS s19_1)]) (.agg #[.int .i64 n20_0, .string (mkS s20_1)]) : Sem Value)).run prog wx = .ok (.bool b21) wx /\
 K (.bool b21) wx)
 (K (.bool false) wx))
 (K (.bool false) wx)
theorem qbO (n0_0 : Int) (s0_1 : List UInt8) {w : World} {K : Value -> World -> Prop} (h : qad n0_0 s0_1 w K) : Calls prog jq #[.agg #[.int .i64 n0_0, .string (mkS s0_1)]] w (Ret K) :=
 qo (c := qr Tryz.f156) (by kernel_rfl) Tryz.func156 (by kernel_rfl) [] [.agg #[.int .i64 n0_0, .string (mkS s0_1)]] (of_decide_eq_true (by kernel_rfl)) _ (by kernel_rfl) h

--  cracknel/url.Path
def qaH (s0 : List UInt8) (w : World) (K : Value -> World -> Prop) : Prop :=
 ∀ k2 w2, k2 = w.heap.size -> w2 = w.alloc (.cells #[.int .i64 (0 : Int), .string (mkS [])] ql) ->
 Calls prog qa6 #[.string (mkS s0)] w2 fun e10 w10 => ∃ s10, e10 = .returned (.string (mkS s10)) /\
 ∃ J : FP [],
 (∃ J_1 : FP [.one (.bool)],
 (BCase (s10 == [])
 (J_1 true w10)
 (Calls prog qW #[.string (mkS s10), .string (mkS [47, 47])] w10 fun e15 w15 => ∃ b15, e15 = .returned (.bool b15) /\
 J_1 b15 w15)) /\
 ∀ b16, AllJ 5 (∀ wj, J_1 b16 wj ->
 BCase b16
 (∃ wx, Sv ql (some ⟨k2, 0, none⟩) (.agg #[.int .i64 (0 : Int), .string (mkS [])]) wj wx /\
 ∃ nr0_0 sr0_1, (qC ql (.pointer (some ⟨k2, 0, none⟩))).run prog wx = .ok (.agg #[.int .i64 nr0_0, .string (mkS sr0_1)]) wx /\
 K (.tuple #[.agg #[.int .i64 nr0_0, .string (mkS sr0_1)], .bool false, .int .i64 (0 : Int)]) wx)
 (J wj))) /\
 AllJ 9 (∀ wj_1, J wj_1 ->
 ∃ I : Nat -> FP [.one (.str), .one (.int .i64)],
 (∃ m, I m s10 (0 : Int) wj_1) /\
 ∀ m s0_1 n5, AllJ 19 (∀ wl, I m s0_1 n5 wl ->
 BCase (decide (n5 < ((List.length s0_1 : Nat) : Int)))
 (∃ J_2 : FP [.one (.bool)],
 (((0 <= n5 /\ n5 < ((List.length s0_1 : Nat) : Int))) /\
 BCase ((qA s0_1 n5) == (32 : Int))
 (J_2 true wl)
 (((0 <= n5 /\ n5 < ((List.length s0_1 : Nat) : Int))) /\
 J_2 ((qA s0_1 n5) == (9 : Int)) wl)) /\
 ∀ b33, AllJ 9 (∀ wj_2, J_2 b33 wj_2 ->
 BCase b33
 (((0 <= n5 /\ n5 <= (((List.length s0_1) : Nat) : Int))) /\
 ∀ s36, s36 = (List.take (Int.toNat n5) s0_1) ->
 ∃ m' : Nat, m' < m /\ I m' s36 (i64.wrap (n5 + (1 : Int))) wj_2)
 (∃ m' : Nat, m' < m /\ I m' s0_1 (i64.wrap (n5 + (1 : Int))) wj_2)))
 (∀ k6 w6, k6 = wl.heap.size -> w6 = wl.alloc (.cells #[.int .i64 (0 : Int), .string (mkS [])] ql) ->
 ∃ wx_1, Sv ql (some ⟨k6, 0, none⟩) (.agg #[.int .i64 (1 : Int), .string (mkS [])]) w6 wx_1 /\
 ∃ J_3 : FP [.one (.str)],
 (Calls prog qW #[.string (mkS s0_1), .string (mkS [33])] wx_1 fun e39 w39 => ∃ b39, e39 = .returned (.bool b39) /\
 BCase b39
 ((true = true) /\
 ∃ wx_2, Sv qx (some ⟨k6, 0, none⟩) (.int .i64 (3 : Int)) w39 wx_2 /\
 ((0 <= (1 : Int) /\ (1 : Int) <= (((List.length s0_1) : Nat) : Int))) /\
 ∀ s42, s42 = (List.drop (Int.toNat (1 : Int)) s0_1) ->
 J_3 s42 wx_2)
 (Calls prog qW #[.string (mkS s0_1), .string (mkS [42, 46])] w39 fun e44 w44 => ∃ b44, e44 = .returned (.bool b44) /\
 BCase b44
 ((true = true) /\
 ∃ wx_3, Sv qx (some ⟨k6, 0, none⟩) (.int .i64 (2 : Int)) w44 wx_3 /\
 ((0 <= (2 : Int) /\ (2 : Int) <= (((List.length s0_1) : Nat) : Int))) /\
 ∀ s47, s47 = (List.drop (Int.toNat (2 : Int)) s0_1) ->
 J_3 s47 wx_3)
 (J_3 s0_1 w44))) /\
 ∀ s0_2, AllJ 10 (∀ wj_3, J_3 s0_2 wj_3 ->
 Calls prog jh #[.string (mkS s0_2)] wj_3 fun e50 w50 => ∃ v50_0 n50_1, e50 = .returned (.tuple #[v50_0, .int .i64 n50_1]) /\
 ∀ k7 w7, k7 = w50.heap.size -> w7 = w50.alloc (.cells qK qc) ->
 ∃ wx_4, Sv qc (some ⟨k7, 0, none⟩) v50_0 w7 wx_4 /\
 ∃ J_4 : FP [],
 (∃ J_5 : FP [.one (.bool)],
 (BCase (n50_1 != (0 : Int))
 (J_5 true wx_4)
 ((true = true) /\
 ∃ n57, Ld qx (some ⟨k7, 0, none⟩) wx_4 (.int .i64 n57) /\
 BCase (n57 != (1 : Int))
 (J_5 true wx_4)
 ((true = true) /\
 ∃ n62, Ld qx (some ⟨k6, 0, none⟩) wx_4 (.int .i64 n62) /\
 BCase (n62 == (3 : Int))
 (∃ v65, Ld qc (some ⟨k7, 0, none⟩) wx_4 v65 /\
 Calls prog qB #[v65] wx_4 fun e66 w66 => ∃ a66 l66 c66, e66 = .returned (.slice a66 l66 c66) /\
 J_5 (decide (((l66 : Nat) : Int) < (2 : Int))) w66)
 (J_5 false wx_4)))) /\
 ∀ b70, AllJ 17 (∀ wj_4, J_5 b70 wj_4 ->
 BCase b70
 (∃ wx_5, Sv ql (some ⟨k2, 0, none⟩) (.agg #[.int .i64 (0 : Int), .string (mkS [])]) wj_4 wx_5 /\
 ∃ nr0_0_1 sr0_1_1, (qC ql (.pointer (some ⟨k2, 0, none⟩))).run prog wx_5 = .ok (.agg #[.int .i64 nr0_0_1, .string (mkS sr0_1_1)]) wx_5 /\
 K (.tuple #[.agg #[.int .i64 nr0_0_1, .string (mkS sr0_1_1)], .bool false, .int .i64 (51 : Int)]) wx_5)
 (J_4 wj_4))) /\
 AllJ 21 (∀ wj_5, J_4 wj_5 ->
 (true = true) /\
 ∃ s73, Ld qe (some ⟨k7, 1, none⟩) wj_5 (.string (mkS s73)) /\
 (true = true) /\
 ∃ wx_6, Sv qe (some ⟨k6, 1, none⟩) (.string (mkS s73)) wj_5 wx_6 /\
 ∃ n75_0 s75_1, Ld ql (some ⟨k6, 0, none⟩) wx_6 (.agg #[.int .i64 n75_0, .string (mkS s75_1)]) /\
 ∃ wx_7, Sv ql (some ⟨k2, 0, none⟩) (.agg #[.int .i64 n75_0, .string (mkS s75_1)]) wx_6 wx_7 /\
 ∃ nr0_0_2 sr0_1_2, (qC ql (.pointer (some ⟨k2, 0, none⟩))).run prog wx_7 = .ok (.agg #[.int .i64 nr0_0_2, .string (mkS sr0_1_2)]) wx_7 /\
 K (.tuple #[.agg #[.int .i64 nr0_0_2, .string (mkS sr0_1_2)], .bool true, .int .i64 (0 : Int)]) wx_7)))))
theorem qco (s0 : List UInt8) {w : World} {K : Value -> World -> Prop} (h : qaH s0 w K) : Calls prog jS #[.string (mkS s0)] w (Ret K) :=
 qo (c := qr Tryz.f216) (by kernel_rfl) Tryz.func216 (by kernel_rfl) [(4, []), (5, [(16, .one (.bool))]), (16, [(0, .one (.str)), (5, .one (.int .i64))]), (25, [(33, .one (.bool))]), (33, [(0, .one (.str))]), (49, []), (50, [(70, .one (.bool))])] [.string (mkS s0)] (of_decide_eq_true (by kernel_rfl)) _ (by kernel_rfl) h

--  cracknel/cracknelref05.Text
def qaz (n0_0 : Int) (s0_1 : List UInt8) (w : World) (K : Value -> World -> Prop) : Prop :=
 ∀ k1 w1, k1 = w.heap.size -> w1 = w.alloc (.cells #[.int .i64 n0_0, .string (mkS s0_1)] ql) ->
 (true = true) /\
 ∃ n4, Ld qx (some ⟨k1, 0, none⟩) w1 (.int .i64 n4) /\
 BCase (n4 == (2 : Int))
 ((true = true) /\
 ∃ s7, Ld qe (some ⟨k1, 1, none⟩) w1 (.string (mkS s7)) /\
 ((((List.length [42, 46] + List.length s7 : Nat) : Int) <= i64.max)) /\
 ∀ s8, s8 = ([42, 46] ++ s7) ->
 K (.string (mkS s8)) w1)
 ((true = true) /\
 ∃ n10, Ld qx (some ⟨k1, 0, none⟩) w1 (.int .i64 n10) /\
 BCase (n10 == (3 : Int))
 ((true = true) /\
 ∃ s13, Ld qe (some ⟨k1, 1, none⟩) w1 (.string (mkS s13)) /\
 ((((List.length [33] + List.length s13 : Nat) : Int) <= i64.max)) /\
 ∀ s14, s14 = ([33] ++ s13) ->
 K (.string (mkS s14)) w1)
 ((true = true) /\
 ∃ s16, Ld qe (some ⟨k1, 1, none⟩) w1 (.string (mkS s16)) /\
 K (.string (mkS s16)) w1))
theorem qch (n0_0 : Int) (s0_1 : List UInt8) {w : World} {K : Value -> World -> Prop} (h : qaz n0_0 s0_1 w K) : Calls prog jN #[.agg #[.int .i64 n0_0, .string (mkS s0_1)]] w (Ret K) :=
 qo (c := qr Tryz.f217) (by kernel_rfl) Tryz.func217 (by kernel_rfl) [] [.agg #[.int .i64 n0_0, .string (mkS s0_1)]] (of_decide_eq_true (by kernel_rfl)) _ (by kernel_rfl) h

--  cracknel/cracknelref05.begins
def jV (s0 : List UInt8) (s1 : List UInt8) (w : World) (K : Value -> World -> Prop) : Prop :=
 BCase (decide (((List.length s0 : Nat) : Int) >= ((List.length s1 : Nat) : Int)))
 (((0 <= ((List.length s1 : Nat) : Int) /\ ((List.length s1 : Nat) : Int) <= (((List.length s0) : Nat) : Int))) /\
 ∀ s14, s14 = (List.take (Int.toNat ((List.length s1 : Nat) : Int)) s0) ->
 K (.bool (s14 == s1)) w)
 (K (.bool false) w)
theorem qbj (s0 : List UInt8) (s1 : List UInt8) {w : World} {K : Value -> World -> Prop} (h : jV s0 s1 w K) : Calls prog qW #[.string (mkS s0), .string (mkS s1)] w (Ret K) :=
 qo (c := qr Tryz.f263) (by kernel_rfl) Tryz.func263 (by kernel_rfl) [] [.string (mkS s0), .string (mkS s1)] (of_decide_eq_true (by kernel_rfl)) _ (by kernel_rfl) h
end Go.Proofs.YtndbpedpdbjkpaaGreatDoor
set_option maxRecDepth 20000
namespace Go.Proofs.YtndbpedpdbjkpaaGreatDoor
open Go.Pk
open Go.RowKit (Below)
theorem qeY {u : Url} (o : u.ok) (hn : u.host.name.length <= 80000000) (hp : u.path.length <= 9223372036854775800) (w : World) : Calls prog qbd #[u.v] w (Ret fun v w' => v = .bool (uRight u) /\ Below w.heap.size w w') := by
 apply qd9
 unfold qcl
 intro k1 w1 hk1 hw1
 have hB1 := (hw1 ▸ qf w _ : Below w.heap.size w w1)
 have h1 : qm w1 k1 qg u.cells := qm.new hk1 hw1
 refine ⟨rfl, _, qs.load h1 (i := 1) (us := u.host.cells) (Hst.len o) (fun j hj => qdj o hj), ?_⟩
 refine callK (zi o hn w1) ?_
 rintro _ w2 ⟨rfl, hb2⟩
 have hB2 := qb hB1 hb2 hB1.size
 have h2 := h1.below hb2
 refine ⟨_, rfl, ?_⟩
 unfold uRight
 refine BCase.of (fun c1 => ?_) (fun c1 => ⟨by rw [c1]; rfl, hB2⟩)
 refine ⟨rfl, _, h2.load1 qN rfl (qg0 o), BCase.of (fun c2 => ?_) (fun c2 => ⟨by rw [c1, c2]; rfl, hB2⟩)⟩
 refine ⟨rfl, _, h2.load1 qN rfl (qg0 o), BCase.of (fun c3 => ?_) (fun c3 => ⟨by rw [c1, c2, c3]; rfl, hB2⟩)⟩
 refine ⟨rfl, _, h2.load1 un_string rfl (qcE o), ?_⟩
 refine callK (qfl _ hp w2) ?_
 rintro _ w3 ⟨rfl, hw3⟩
 rw [hw3]
 exact ⟨_, rfl, by rw [c1, c2, c3]; rfl, hB2⟩
end Go.Proofs.YtndbpedpdbjkpaaGreatDoor
namespace Go.Pk
open Go.RowKit (Below)
theorem jo {c : Cky} (o : c.ok) (j : Nat) : c.cells[20 + j]? = c.tail[j]? := by
 unfold Cky.cells
 rw [show 20 + j = (18 + j) + 1 + 1 by omega, List.getElem?_cons_succ, List.getElem?_cons_succ, List.getElem?_append_right (by rw [Hst.len o]; omega), Hst.len o]
 congr 1; omega
end Go.Pk
namespace Go.Proofs.YtndbpedpdbjkpaaGreatDoor
open Go.Pk
open Go.RowKit (Below)
theorem qbK {h d : Hst} (oh : h.ok) (od : d.ok) (hn : h.name.length <= 80000000) (dn : d.name.length <= 80000000) (w : World) : Calls prog zv #[h.v, d.v] w (Ret fun v w' => v = .bool (domB h d) /\ Below w.heap.size w w') := by
 apply qbn
 unfold jO
 intro k2 w2 hk2 hw2
 have hB2 := (hw2 ▸ qf w _ : Below w.heap.size w w2)
 have h2 : qm w2 k2 qc h.cells := qm.new hk2 hw2
 intro k3 w3 hk3 hw3
 have hb3 := (hw3 ▸ qf w2 _ : Below w2.heap.size w2 w3)
 have hB3 := qb hB2 hb3 hB2.size
 have h3 : qm w3 k3 qc d.cells := qm.new hk3 hw3
 have h23 := h2.below hb3
 unfold domB
 refine worldJ (fun w' => zd h = true /\ zd d = true /\ Below w3.heap.size w3 w') ?_ ?_
 · refine ⟨_, qs.load0 h23 (Hst.len oh), ?_⟩
   refine callK (zi oh hn w3) ?_
   rintro _ w4 ⟨rfl, hb4⟩
   have hB4 := qb hB3 hb4 hB3.size
   refine ⟨_, rfl, BCase.of (fun c => ⟨?_, hB4⟩) (fun c => ?_)⟩
   · rw [Bool.not_eq_true'] at c; rw [c]; rfl
   rw [Bool.not_eq_false'] at c
   refine ⟨_, qs.load0 (h3.below hb4) (Hst.len od), ?_⟩
   refine callK (zi od dn w4) ?_
   rintro _ w5 ⟨rfl, hb5⟩
   refine ⟨_, rfl, BCase.of (fun c2 => ⟨?_, qb hB4 hb5 hB4.size⟩) (fun c2 => ⟨c, ?_, qb hb4 hb5 hb4.size⟩)⟩
   · rw [Bool.not_eq_true'] at c2; rw [c, c2]; rfl
   · rwa [Bool.not_eq_false'] at c2
 · rintro w4 ⟨r1, r2, hb4⟩
   have hB4 := qb hB3 hb4 hB3.size
   rw [r1, r2, Bool.true_and, Bool.true_and]
   refine ⟨_, qs.load0 (h23.below hb4) (Hst.len oh), _, qs.load0 (h3.below hb4) (Hst.len od), _, qdn oh od w4, ?_⟩
   refine BCase.of (fun c1 => ⟨by rw [c1]; rfl, hB4⟩) (fun c1 => ?_)
   refine ⟨_, qs.load0 (h23.below hb4) (Hst.len oh), _, qs.load0 (h3.below hb4) (Hst.len od), ?_⟩
   refine callK (jH oh od hn dn w4) ?_
   rintro _ w5 ⟨rfl, hb5⟩
   exact ⟨_, rfl, by rw [c1]; rfl, qb hB4 hb5 hB4.size⟩
theorem qbl (s : List UInt8) (hs : s.length <= 9223372036854775800) (w : World) : Calls prog zG #[.string (mkS s)] w (Ret fun v w' => v = .string (mkS (defV s)) /\ w' = w) := by
 apply qaX
 unfold jy
 refine ⟨fun m l i w' => ∃ k : Nat, k <= s.length /\ i = (k : Int) /\ m = s.length - k /\ l = ((lastK s k : Nat) : Int) /\ w' = w, ⟨_, 0, by omega, rfl, rfl, rfl, rfl⟩, ?_⟩
 intro m l i
 refine AllJ.of ?_ _
 rintro w' ⟨k, hk, rfl, rfl, rfl, hw'⟩
 rw [hw']; clear hw'
 refine BCase.of (fun h => ?_) (fun h => ?_) <;> simp only [dTx, dFx] at h
 · have hlt : k < s.length := by omega
   have hu := qau s[k] 47
   rw [show (((47 : UInt8).toNat : Nat) : Int) = 47 from rfl] at hu
   rw [zJ hlt, hu]
   have hst : lastK s (k + 1) = if s[k]? = some 47 then k else lastK s k := rfl
   rw [List.getElem?_eq_getElem hlt] at hst
   refine ⟨⟨by omega, h⟩, BCase.of (fun c => ?_) (fun c => ?_)⟩
   · rw [if_pos (by rw [eq_of_beq c])] at hst
     exact ⟨s.length - (k + 1), by omega, k + 1, by omega, by rw [wrap_i64 (by omega) (by omega)]; omega, rfl, by rw [hst], rfl⟩
   · rw [if_neg (fun hx => by rw [Option.some.inj hx] at c; simp at c)] at hst
     exact ⟨s.length - (k + 1), by omega, k + 1, by omega, by rw [wrap_i64 (by omega) (by omega)]; omega, rfl, by rw [hst], rfl⟩
 · have : k = s.length := by omega
   subst this
   have hle := qjl s s.length
   unfold defV
   refine BCase.of (fun c => ⟨?_, rfl⟩) (fun c => ?_)
   · have c : lastK s s.length = 0 := by have := eq_of_beq c; omega
     rw [if_pos (.inl c)]
   · have c : lastK s s.length ≠ 0 := by have := beq_eq_false_iff_ne.1 c; omega
     have hl : 0 < s.length := by omega
     have hb := zJ (s := s) (k := 0) hl
     rw [show ((0 : Nat) : Int) = 0 from rfl] at hb
     have hu := qau s[0] 47
     rw [show (((47 : UInt8).toNat : Nat) : Int) = 47 from rfl] at hu
     have e : ((qA s 0) != (47 : Int)) = !(s[0] == 47) := by rw [hb]; show (!_) = _; rw [hu]
     have hh : s.head? = some s[0] := by rw [List.head?_eq_getElem?, List.getElem?_eq_getElem hl]
     rw [e, hh]
     refine ⟨⟨by decide, by omega⟩, BCase.of (fun c2 => ⟨?_, rfl⟩) (fun c2 => ⟨⟨by omega, by omega⟩, ?_⟩)⟩
     · rw [if_pos (.inr (fun hx => by rw [Option.some.inj hx] at c2; simp at c2))]
     · rintro _ rfl
       have c3 : s[0] = 47 := by simpa using c2
       exact ⟨by rw [if_neg (by rintro (hx | hx); exact c hx; exact hx (by rw [c3]))]; rfl, rfl⟩
end Go.Proofs.YtndbpedpdbjkpaaGreatDoor
namespace Go.Pk
open Go.RowKit (Below)
theorem qmc (s : List UInt8) (a b : UInt8) (h : Lib.hasPrefix s [a, b] = true) : s.head? = some a := by
 cases s with
 | nil => cases h
 | cons x r =>
   unfold Lib.hasPrefix at h
   simp [List.isPrefixOf] at h
   rw [h.1]; rfl
theorem qge (u : List UInt8) : qcF u = if Lib.hasPrefix u [33] = true then (3, u.drop 1) else if Lib.hasPrefix u [42, 46] = true then (2, u.drop 2) else (1, u) := by
 unfold qcF
 by_cases h1 : Lib.hasPrefix u [42, 46] = true
 · rw [if_pos h1]
   have h2 := qmc _ _ _ h1
   have h3 : Lib.hasPrefix u [33] = false := by rw [(qfq u 33).1, h2]; decide
   rw [if_neg (by rw [h3]; decide), if_pos h1]
 · rw [if_neg h1]
   by_cases h2 : Lib.hasPrefix u [33] = true
   · rw [if_pos h2, if_pos h2]
   · rw [if_neg h2, if_neg h2, if_neg h1]
end Go.Pk
namespace Go.Proofs.YtndbpedpdbjkpaaGreatDoor
open Go.Pk
open Go.RowKit (Below)
theorem zI (s p : List UInt8) (w : World) : Calls prog qW #[.string (mkS s), .string (mkS p)] w (Ret fun v w' => v = .bool (Lib.hasPrefix s p) /\ w' = w) := by
 apply qbj
 unfold jV
 rw [<- Lib.hasPrefix_of_take]
 refine BCase.of (fun h => ?_) (fun h => ⟨?_, rfl⟩) <;> simp only [ge_iff_le, dTx, dFx] at h
 · refine ⟨⟨by omega, h⟩, ?_⟩
   rintro _ rfl
   rw [Int.toNat_natCast, decide_eq_true (p := p.length <= s.length) (by omega), Bool.true_and]
   exact ⟨rfl, rfl⟩
 · rw [decide_eq_false (p := p.length <= s.length) (by omega), Bool.false_and]
theorem qcD (r : Rul) (hr : r.2.length <= 4611686018427387904) (w : World) : Calls prog jN #[rulV r] w (Ret fun v w' => v = .string (mkS (ruleX r)) /\ Below w.heap.size w w') := by
 obtain ⟨k, n⟩ := r
 apply qch
 unfold qaz
 intro k1 w1 hk1 hw1
 have hB1 := (hw1 ▸ qf w _ : Below w.heap.size w w1)
 have h1 : qm w1 k1 ql (rulC (k, n)) := qm.new hk1 hw1
 have lk := h1.load1 (P := prog) (i := 0) qN rfl rfl
 have ln := h1.load1 (P := prog) (i := 1) un_string rfl rfl
 simp at hr
 refine ⟨rfl, _, lk, BCase.of (fun c => ?_) (fun c => ?_)⟩
 · refine ⟨rfl, _, ln, fits (by simp; omega), ?_⟩
   rintro _ rfl
   exact ⟨by unfold ruleX markL; rw [if_pos (eq_of_beq c)], hB1⟩
 refine ⟨rfl, _, lk, BCase.of (fun c2 => ?_) (fun c2 => ?_)⟩
 · refine ⟨rfl, _, ln, fits (by simp; omega), ?_⟩
   rintro _ rfl
   exact ⟨by unfold ruleX markL; rw [if_neg (beq_eq_false_iff_ne.1 c), if_pos (eq_of_beq c2)], hB1⟩
 · exact ⟨rfl, _, ln, by unfold ruleX markL; rw [if_neg (beq_eq_false_iff_ne.1 c), if_neg (beq_eq_false_iff_ne.1 c2)]; rfl, hB1⟩
end Go.Proofs.YtndbpedpdbjkpaaGreatDoor
namespace Go.Pk
open Go.RowKit (Below)
theorem qkY {t : List UInt8} (h : t.all (fun c => !isBl c) = true) : qaB t = t := by
 unfold qaB
 induction t with
 | nil => rfl
 | cons c t ih =>
   rw [List.all_cons, Bool.and_eq_true] at h
   rw [List.takeWhile_cons, h.1, if_pos rfl, ih h.2]
theorem qkc {t : List UInt8} {k : Nat} (hk : k < t.length) (h : (t.take k).all (fun c => !isBl c) = true) (hb : isBl t[k] = true) : t.take k = qaB t := by
 unfold qaB
 conv => rhs; rw [<- List.take_append_drop k t]
 rw [List.takeWhile_append_of_pos (by intro x hx; exact List.all_eq_true.1 h x hx), List.drop_eq_getElem_cons hk, List.takeWhile_cons, hb]
 simp
end Go.Pk
namespace Go.Proofs.YtndbpedpdbjkpaaGreatDoor
open Go.Pk
open Go.RowKit (Below)
theorem qcH (s : List UInt8) (hs : s.length <= 90000000) (w : World) : Calls prog jS #[.string (mkS s)] w (Ret (qkM s w)) := by
 apply qco
 unfold qaH
 intro k2 w2 hk2 hw2
 have hB2 := (hw2 ▸ qf w _ : Below w.heap.size w w2)
 have h2 : qm w2 k2 ql (rulC (0, [])) := qm.new hk2 hw2
 have hk2w : w.heap.size <= k2 := by omega
 have tl := qiz s
 refine callK (ref01_Trim_ok s (by omega) w2) ?_
 rintro _ w3 ⟨rfl, hw3⟩
 rw [hw3]; clear hw3
 refine ⟨_, rfl, ?_⟩
 have hV : jB s = if zt s = [] \/ Lib.hasPrefix (zt s) [47, 47] = true then ((0, []), false, 0) else qox (qcF (qaB (zt s))).1 (hostV (qcF (qaB (zt s))).2) := rfl
 generalize zt s = t at *
 refine factJ (w := w2) (¬ (t = [] \/ Lib.hasPrefix t [47, 47] = true)) ?_ (fun hc => ?_)
 · refine qav (w := w2) (decide (t = [] \/ Lib.hasPrefix t [47, 47] = true)) ?_ ?_
   · refine BCase.of (fun h => ⟨rfl, by rw [decide_eq_true (.inl (eq_of_beq h))]⟩) (fun h => ?_)
     refine callK (zI t [47, 47] w2) ?_
     rintro _ w4 ⟨rfl, hw4⟩
     refine ⟨_, rfl, hw4, ?_⟩
     rw [Bool.eq_iff_iff, dTx]
     exact ⟨.inr, fun hx => hx.elim (fun hx => absurd hx (beq_eq_false_iff_ne.1 h)) id⟩
   · refine BCase.of (fun h => ?_) (fun h => ⟨rfl, of_decide_eq_false h⟩)
     exact qdz (0, []) h2 rfl hB2 hk2w fun wx hb => ⟨by rw [hV, if_pos (of_decide_eq_true h)], hb⟩
 · rw [if_neg hc] at hV
   have hul := qiT t
   refine ⟨fun m c i w' => w' = w2 /\ ((c = t /\ ∃ k : Nat, k <= t.length /\ i = (k : Int) /\ m = t.length + 1 - k /\ (t.take k).all (fun c => !isBl c) = true) \/ (c = qaB t /\ i = ((qaB t).length : Int) + 1 /\ m = 0)), ⟨_, rfl, .inl ⟨rfl, 0, by omega, rfl, rfl, rfl⟩⟩, ?_⟩
   intro m c i
   refine AllJ.of ?_ _
   rintro w' ⟨hw', hst⟩
   rw [hw']; clear hw'
   refine BCase.of (fun h => ?_) (fun h => ?_) <;> simp only [dTx, dFx] at h
   · rcases hst with ⟨hct, k, hk, rfl, rfl, hno⟩ | ⟨rfl, rfl, rfl⟩
     · rw [hct] at h ⊢
       clear hct
       have hlt : k < t.length := by omega
       have hin : (0 <= (k : Int) /\ (k : Int) < ((t.length : Nat) : Int)) := ⟨by omega, h⟩
       have e32 := qau t[k] 32
       have e9 := qau t[k] 9
       rw [show (((32 : UInt8).toNat : Nat) : Int) = 32 from rfl] at e32
       rw [show (((9 : UInt8).toNat : Nat) : Int) = 9 from rfl] at e9
       rw [zJ hlt, e32, e9]
       refine qav (w := w2) (isBl t[k]) ?_ ?_
       · refine ⟨hin, BCase.of (fun h2 => ⟨rfl, ?_⟩) (fun h2 => ⟨hin, rfl, ?_⟩)⟩
         · unfold isBl; rw [h2]; rfl
         · unfold isBl; rw [h2, Bool.false_or]
       · refine BCase.of (fun h2 => ⟨⟨by omega, by omega⟩, ?_⟩) (fun h2 => ?_)
         · rintro _ rfl
           rw [Int.toNat_natCast, qkc hlt hno h2]
           have e := congrArg List.length (qkc hlt hno h2)
           rw [List.length_take] at e
           exact ⟨0, by omega, rfl, .inr ⟨rfl, by rw [wrap_i64 (by omega) (by omega)]; omega, rfl⟩⟩
         · exact ⟨t.length + 1 - (k + 1), by omega, rfl, .inl ⟨rfl, k + 1, by omega, by rw [wrap_i64 (by omega) (by omega)]; omega, rfl, by rw [List.take_succ_eq_append_getElem hlt, List.all_append, hno]; simp [h2]⟩⟩
     · exfalso; omega
   · have hcc : c = qaB t := by
       rcases hst with ⟨rfl, k, hk, rfl, rfl, hno⟩ | ⟨hx, -, -⟩
       · have : k = c.length := by omega
         subst this
         rw [List.take_length] at hno
         exact (qkY hno).symm
       · exact hx
     rw [hcc]
     rw [qge] at hV
     clear hst hcc h
     generalize qaB t = u at *
     intro k6 w6 hk6 hw6
     have hb6 := (hw6 ▸ qf w2 _ : Below w2.heap.size w2 w6)
     have hB6 := qb hB2 hb6 hB2.size
     obtain ⟨w7, hs7, h67, hg7⟩ := zx.store0 (P := prog) (cs := rulC (1, [])) rfl (qbI _) (qm.new hk6 hw6 : qm w6 k6 ql (rulC (0, []))) rfl
     have hlt2 := h2.lt
     have hne : k2 ≠ k6 := by omega
     have hk6w : w.heap.size <= k6 := by have := hB2.size; omega
     have h27 := (h2.below hb6).grown hg7 (qP hne)
     have hB7 := Below.put hB6 hg7 hk6w
     refine ⟨w7, hs7, ?_⟩
     refine ⟨fun n w' => ∃ k, jB s = qox k (hostV n) /\ n.length <= u.length /\ qm w' k6 ql (rulC (k, [])) /\ qm w' k2 ql (rulC (0, [])) /\ Below w.heap.size w w', ?_, ?_⟩
     · refine callK (zI u [33] w7) ?_
       rintro _ w8 ⟨rfl, hw8⟩
       rw [hw8]; clear hw8
       refine ⟨_, rfl, BCase.of (fun c1 => ?_) (fun c1 => ?_)⟩
       · rw [if_pos c1] at hV
         obtain ⟨w9, hs9, h69, hg9⟩ := h67.put (P := prog) qbr (i := 0) (v := .int .i64 3) (by decide) rfl rfl
         have hl : 1 <= u.length := by have := Lib.hasPrefix_le c1; simpa using this
         refine ⟨rfl, w9, hs9, ⟨by decide, by omega⟩, ?_⟩
         rintro _ rfl
         exact ⟨3, hV, by simp, h69, h27.grown hg9 (qP hne), Below.put hB7 hg9 hk6w⟩
       rw [if_neg (by rw [c1]; decide)] at hV
       refine callK (zI u [42, 46] w7) ?_
       rintro _ w8 ⟨rfl, hw8⟩
       rw [hw8]; clear hw8
       refine ⟨_, rfl, BCase.of (fun c2 => ?_) (fun c2 => ?_)⟩
       · rw [if_pos c2] at hV
         obtain ⟨w9, hs9, h69, hg9⟩ := h67.put (P := prog) qbr (i := 0) (v := .int .i64 2) (by decide) rfl rfl
         have hl : 2 <= u.length := by have := Lib.hasPrefix_le c2; simpa using this
         refine ⟨rfl, w9, hs9, ⟨by decide, by omega⟩, ?_⟩
         rintro _ rfl
         exact ⟨2, hV, by simp, h69, h27.grown hg9 (qP hne), Below.put hB7 hg9 hk6w⟩
       · rw [if_neg (by rw [c2]; decide)] at hV
         exact ⟨1, hV, Nat.le_refl _, h67, h27, hB7⟩
     · intro n
       refine AllJ.of ?_ _
       rintro w8 ⟨k, hV, hnl, h68, h28, hB8⟩
       refine callK (ref03_Parse_ok n (by omega) w8) ?_
       rintro _ w9 ⟨rfl, hb9⟩
       have hB9 := qb hB8 hb9 hB8.size
       rw [qat]
       refine ⟨_, _, rfl, ?_⟩
       have hok := qcr fun x hx => jG (s := n) hx
       refine qs.new (zs := hst0.cells) (cs := ((hostV n).getD hst0).cells) rfl (Hst.len hok) (Hst.one _) w9 fun k10 w10 hk10 h10 hb10 => ?_
       have hB10 := qb hB9 hb10 hB9.size
       have h2A := (h28.below hb9).below hb10
       have h6A := (h68.below hb9).below hb10
       refine worldJ (fun w' => ∃ h : Hst, hostV n = some h /\ jB s = ((k, h.name), true, 0) /\ Below w10.heap.size w10 w') ?_ ?_
       · refine qhz (fun b w' => b = decide (jB s = ((0, []), false, 51)) /\ Below w10.heap.size w10 w' /\ (b = false -> ∃ h : Hst, hostV n = some h /\ jB s = ((k, h.name), true, 0))) ?_ ?_
         · cases hn : hostV n with
           | none =>
             rw [hn] at hV
             exact BCase.yes rfl ⟨by rw [hV]; rfl, Below.refl _ _, fun hx => by cases hx⟩
           | some h =>
             rw [hn] at hV h10 hok
             have hV : jB s = if h.kind = 1 /\ ¬ (k = 3 /\ (qi h).length < 2) then ((k, h.name), true, 0) else ((0, []), false, 51) := hV
             have bad : ¬ (h.kind = 1 /\ ¬ (k = 3 /\ (qi h).length < 2)) -> (true : Bool) = decide (jB s = ((0, []), false, 51)) := fun hx => by rw [hV, if_neg hx]; rfl
             have good : (h.kind = 1 /\ ¬ (k = 3 /\ (qi h).length < 2)) -> (false : Bool) = decide (jB s = ((0, []), false, 51)) /\ (∃ h' : Hst, some h = some h' /\ jB s = ((k, h'.name), true, 0)) := fun hx => by
               rw [hV, if_pos hx]; exact ⟨(decide_eq_false (by intro hx; have := congrArg (fun z => z.2.1) hx; cases this)).symm, h, rfl, rfl⟩
             refine BCase.no rfl ⟨rfl, _, h10.load1 qN rfl rfl, BCase.of (fun c1 => ⟨bad fun hx => ?_, Below.refl _ _, fun hx => by cases hx⟩) (fun c1 => ?_)⟩
             · have c1 : (h.kind != 1) = true := c1
               rw [hx.1] at c1; simp at c1
             have c1 : (h.kind != 1) = false := c1
             have c1 : h.kind = 1 := by simpa using c1
             refine ⟨rfl, _, h6A.load1 qN rfl rfl, BCase.of (fun c2 => ?_) (fun c2 => ?_)⟩
             · have c2 : k = 3 := eq_of_beq c2
               refine ⟨_, qs.load0 h10 (Hst.len hok), ?_⟩
               have hnl : h.name.length <= 80000000 := by have := qah hn; omega
               refine callK (qJ hok hnl w10) ?_
               rintro _ w11 ⟨a, l, c, rfl, ho, -, hb11⟩
               refine ⟨_, _, _, rfl, ?_⟩
               have ho1 := ho.len
               simp only [Option.getD_some] at ho1
               rw [ho1]
               by_cases c3 : (qi h).length < 2
               · rw [decide_eq_true (show (((qi h).length : Nat) : Int) < 2 by omega)]
                 exact ⟨bad fun hx => hx.2 ⟨c2, c3⟩, hb11, fun hx => by cases hx⟩
               · rw [decide_eq_false (show ¬ (((qi h).length : Nat) : Int) < 2 by omega)]
                 have g := good ⟨c1, fun hx => c3 hx.2⟩
                 exact ⟨g.1, hb11, fun _ => g.2⟩
             · have g := good ⟨c1, fun hx => by rw [hx.1] at c2; cases c2⟩
               exact ⟨g.1, Below.refl _ _, fun _ => g.2⟩
         · rintro b w11 ⟨hb, hb11, hg⟩
           refine BCase.of (fun c => ?_) (fun c => ?_)
           · rw [c, eq_comm, dTx] at hb
             exact qdz (0, []) (h2A.below hb11) rfl (qb hB10 hb11 hB10.size) hk2w fun wx hb' => ⟨by rw [hb], hb'⟩
           · obtain ⟨h, e1, e2⟩ := hg c
             exact ⟨h, e1, e2, hb11⟩
       · rintro w11 ⟨h, e1, e2, hb11⟩
         rw [e1] at h10
         refine ⟨rfl, _, (h10.below hb11).load1 un_string rfl rfl, rfl, ?_⟩
         obtain ⟨w12, hs12, h612, hg12⟩ := (h6A.below hb11).put (P := prog) zl (i := 1) (v := .string (mkS h.name)) (show 1 < 2 by decide) rfl rfl
         have h612 : qm w12 k6 ql (rulC (k, h.name)) := h612
         refine ⟨w12, hs12, _, _, zx.load0 h612 rfl, ?_⟩
         exact qdz (k, h.name) ((h2A.below hb11).grown hg12 (qP hne)) rfl (Below.put (qb hB10 hb11 hB10.size) hg12 hk6w) hk2w fun wx hb' => ⟨by rw [e2], hb'⟩
theorem qcn (r : Rul) (hr : r.2.length <= 80000000) (w : World) : Calls prog jq #[rulV r] w (Ret fun v w' => v = .bool (rulR r) /\ Below w.heap.size w w') := by
 obtain ⟨k, n⟩ := r
 apply qbO
 unfold qad
 intro k1 w1 hk1 hw1
 have hB1 := (hw1 ▸ qf w _ : Below w.heap.size w w1)
 have h1 : qm w1 k1 ql (rulC (k, n)) := qm.new hk1 hw1
 simp only at hr
 refine ⟨_, _, zx.load0 h1 rfl, ?_⟩
 refine callK (qcD (k, n) (by simp only; omega) w1) ?_
 rintro _ w2 ⟨rfl, hb2⟩
 have hB2 := qb hB1 hb2 hB1.size
 refine ⟨_, rfl, ?_⟩
 have hm : (markL k).length <= 2 := by unfold markL; split; decide; split; decide; decide
 refine callK (qcH (ruleX (k, n)) (by unfold ruleX; simp; omega) w2) ?_
 rintro _ w3 ⟨rfl, hb3⟩
 have hB3 := qb hB2 hb3 hB2.size
 refine ⟨_, _, _, _, rfl, ?_⟩
 intro k4 w4 hk4 hw4
 have hb4 := (hw4 ▸ qf w3 _ : Below w3.heap.size w3 w4)
 have hB4 := qb hB3 hb4 hB3.size
 have hR : rulR (k, n) = (((jB (ruleX (k, n))).2.2 == 0) && ((jB (ruleX (k, n))).2.1 && qnJ (jB (ruleX (k, n))).1 (k, n))) := rfl
 generalize jB (ruleX (k, n)) = x at *
 obtain ⟨r, b, e⟩ := x
 obtain ⟨w5, hs5, h45, hg5⟩ := zx.store0 (P := prog) (cs := rulC r) rfl (qbI _) (qm.new hk4 hw4 : qm w4 k4 ql (rulC (0, []))) rfl
 have hlt1 := ((h1.below hb2).below hb3).lt
 have h15 := (((h1.below hb2).below hb3).below hb4).grown hg5 (qP (by omega))
 have hB5 := Below.put hB4 hg5 (by have := hB3.size; omega)
 refine ⟨w5, hs5, BCase.of (fun c1 => ?_) (fun c1 => ⟨by rw [hR]; simp only at c1 ⊢; rw [c1]; rfl, hB5⟩)⟩
 refine BCase.of (fun c2 => ?_) (fun c2 => ⟨by rw [hR]; simp only at c1 c2 ⊢; rw [c1, c2]; rfl, hB5⟩)
 refine ⟨_, _, zx.load0 h45 rfl, _, _, zx.load0 h15 rfl, _, qqV r (k, n) w5, ?_, hB5⟩
 rw [hR]; simp only at c1 c2 ⊢; rw [c1, c2]; rfl
end Go.Proofs.YtndbpedpdbjkpaaGreatDoor
namespace Go.Pk
open Go.RowKit (Below)
theorem qgT {h d : Hst} (oh : h.ok) (od : d.ok) (rh : (qi h).length ≠ 0) (rd : (qi d).length ≠ 0) :
   qag h d = true ↔ (qi d).length < (qi h).length /\ (qi d).reverse = (qi h).reverse.take (qi d).length := by
 rw [qbu oh od]
 unfold qcV
 rw [if_neg (fun hx => hx.elim rh rd), Bool.and_eq_true, dTx, beq_iff_eq]
 obtain ⟨⟨hk, hr⟩, hl⟩ := za oh rh
 obtain ⟨⟨dk, dr⟩, dl⟩ := za od rd
 obtain ⟨-, -, h3, -, -, -⟩ := zC oh hk hr
 have key : (qi d).reverse = (qi h).reverse.take (qi d).length /\ (qi d).length < (qi h).length ↔ ∃ A, A ≠ [] /\ qi h = A ++ qi d := by
   constructor
   · rintro ⟨h1, h2⟩
     rw [List.take_reverse] at h1
     have h1 := List.reverse_inj.1 h1
     refine ⟨(qi h).take ((qi h).length - (qi d).length), ?_, ?_⟩
     · intro e
       have := congrArg List.length e
       rw [List.length_take, List.length_nil] at this; omega
     · conv => rhs; rhs; rw [h1]
       rw [List.take_append_drop]
   · rintro ⟨A, hA, e⟩
     have hp := List.length_pos_iff.2 hA
     rw [e]
     refine ⟨?_, by simp; omega⟩
     rw [List.reverse_append, List.take_append_of_le_length (by simp), List.take_of_length_le (by simp)]
 rw [and_comm (a := (qi d).length < _), key, hl, dl]
 constructor
 · rintro ⟨h1, h2⟩
   have hs : h.name = h.name.take (h.name.length - (d.name.length + 1)) ++ 46 :: d.name := by rw [<- h2, List.take_append_drop]
   refine ⟨cutC 46 [] (h.name.take (h.name.length - (d.name.length + 1))), jD 46 _ [], ?_⟩
   conv => lhs; rw [hs]
   exact zw 46 _ _ _
 · rintro ⟨A, hA, e⟩
   have hj := jn 46 h.name []
   have hjd := jn 46 d.name []
   rw [List.nil_append] at hj hjd
   rw [e, qdg 46 A _ hA (jD 46 d.name []), hjd] at hj
   have hp : 0 < (Lib.join A [46]).length := by
     cases A with
     | nil => exact absurd rfl hA
     | cons x A =>
       rw [Lib.join_cons, List.length_append]
       have hx : x ∈ cutC 46 [] h.name := by rw [e]; simp
       have := List.all_eq_true.1 h3 x hx
       unfold labelB at this
       rw [Bool.and_eq_true, Bool.and_eq_true, dTx] at this
       have := this.1.1
       omega
   rw [<- hj]
   refine ⟨by simp; omega, ?_⟩
   rw [List.length_append, List.length_cons, Nat.add_sub_cancel, List.drop_left]
theorem qoM {h d : Hst} (oh : h.ok) (od : d.ok) (rh : (qi h).length ≠ 0) (rd : (qi d).length ≠ 0) : j8 h d = true ↔ qi h = qi d := by
 rw [j7 oh od]
 refine ⟨fun e => by rw [e], fun e => ?_⟩
 obtain ⟨⟨hk, hr⟩, hl⟩ := za oh rh
 obtain ⟨⟨dk, dr⟩, dl⟩ := za od rd
 obtain ⟨h1, -⟩ := zC oh hk hr
 obtain ⟨d1, -⟩ := zC od dk dr
 rw [hl, dl] at e
 have hj := jn 46 h.name []
 have hjd := jn 46 d.name []
 rw [List.nil_append] at hj hjd
 rw [h1, d1, <- hj, <- hjd, e]
end Go.Pk
namespace Go.Pk
open Go.RowKit (Below)
theorem qgG {h : Hst} (oh : h.ok) {r : Rul} (g : qhY r) (hl : (qi h).length ≠ 0) : qag h (rulH r) = true ↔ (revl r).length < (qi h).reverse.length /\ revl r = (qi h).reverse.take (revl r).length := by
 have e : (qi (rulH r)).length = (revl r).length := by rw [g.revl, List.length_reverse]
 rw [qgT oh (jX r) hl g.ne, <- g.revl, e, List.length_reverse]
theorem qlP {h : Hst} (oh : h.ok) {r : Rul} (g : qhY r) (hl : (qi h).length ≠ 0) : j8 h (rulH r) = true ↔ revl r = (qi h).reverse := by
 rw [qoM oh (jX r) hl g.ne, g.revl]
 exact ⟨fun e => by rw [e], fun e => (List.reverse_inj.1 e).symm⟩
theorem qk9 {R : Pth} {r : Rul} : revl r = R.take (revl r).length ↔ ((revl r).length < R.length /\ revl r = R.take (revl r).length) \/ revl r = R := by
 constructor
 · intro h
   by_cases c : (revl r).length < R.length
   · exact .inl ⟨c, h⟩
   · refine .inr ?_
     have := qi8 h
     rw [List.take_of_length_le (by omega)] at h; exact h
 · rintro (h | h)
   · exact h.2
   · rw [h, List.take_length]
end Go.Pk
namespace Go.Proofs.YtndbpedpdbjkpaaGreatDoor
open Go.Pk
open Go.RowKit (Below)
theorem qbS {A : Bl} {a0 : Option Addr} {l0 c0 : Nat} {rs : List Rul} {w : World} (hs : Sl tRul w A a0 l0 c0 rs) (hl : rs.length <= 1000000) (hr : ∀ r ∈ rs, r.2.length <= 80000000) {h : Hst} (oh : h.ok) (hn : h.name.length <= 80000000) :
   Calls prog zX #[.slice a0 l0 c0, h.v] w (Ret fun v w' => v = .int .i64 ((sufV (rs.filter rulR) (qi h).reverse : Nat) : Int) /\ Below w.heap.size w w') := by
 apply qbo
 unfold jM
 intro k3 w3 hk3 hw3
 have hB3 := (hw3 ▸ qf w _ : Below w.heap.size w w3)
 have h3 : qm w3 k3 qc h.cells := qm.new hk3 hw3
 refine ⟨_, qs.load0 h3 (Hst.len oh), ?_⟩
 refine callK (qJ oh hn w3) ?_
 rintro _ w4 ⟨aL, lL, cL, rfl, ho, -, hb4⟩
 have hB4 := qb hB3 hb4 hB3.size
 have hnL := ho.len
 subst hnL
 refine ⟨_, _, _, rfl, BCase.of (fun hc => ⟨?_, hB4⟩) (fun hc => ?_)⟩
 · have : qi h = [] := List.length_eq_zero_iff.1 (by have := eq_of_beq hc; omega)
   rw [this]; rfl
 have hl0 : (qi h).length ≠ 0 := by have := beq_eq_false_iff_ne.1 hc; omega
 have hRne : (qi h).reverse ≠ [] := fun e => hl0 (by rw [List.reverse_eq_nil_iff.1 e]; rfl)
 have h34 := h3.below hb4
 have hn0 := hs.len
 subst hn0
 refine ⟨fun m mo ex i w' => ∃ k : Nat, k <= rs.length /\ i = (k : Int) /\ m = rs.length - k /\ mo = ((docM ((rs.take k).filter rulR) (qi h).reverse : Nat) : Int) /\ ex = ((docE ((rs.take k).filter rulR) (qi h).reverse : Nat) : Int) /\ Below w4.heap.size w4 w', ⟨_, 0, by omega, rfl, rfl, rfl, rfl, Below.refl _ _⟩, ?_⟩
 intro m mo ex i
 refine AllJ.of ?_ _
 rintro w5 ⟨k, hk, rfl, rfl, rfl, rfl, hb5⟩
 have hB5 := qb hB4 hb5 hB4.size
 refine BCase.of (fun hi => ?_) (fun hi => ?_) <;> simp only [dTx, dFx] at hi
 · have hlt : k < rs.length := by omega
   have hs5 := hs.below hB5
   have hlen := hr _ (List.getElem_mem hlt)
   refine ⟨⟨⟨by omega, hi⟩, hs5.isSome hlt⟩, _, _, qdP hs5 hlt, ?_⟩
   have htake : (rs.take (k + 1)).filter rulR = (rs.take k).filter rulR ++ (if rulR rs[k] = true then [rs[k]] else []) := by
     rw [List.take_succ_eq_append_getElem hlt, List.filter_append]
     congr 1
     rw [List.filter_cons, List.filter_nil]
   generalize rs[k] = r at *
   refine zx.new (zs := rulC (0, [])) (cs := rulC r) rfl rfl (qbI r) w5 fun k8 w8 hk8 h8 hb8 => ?_
   have hB8 := qb hB5 hb8 hB5.size
   have hb58 := qb hb5 hb8 hb5.size
   refine ⟨_, _, zx.load0 h8 rfl, ?_⟩
   refine callK (qcn r hlen w8) ?_
   rintro _ w9 ⟨rfl, hb9⟩
   have hb59 := qb hb58 hb9 hb58.size
   have h89 := h8.below hb9
   refine ⟨_, rfl, BCase.of (fun c1 => ?_) (fun c1 => ?_)⟩
   · rw [Bool.not_eq_true'] at c1
     rw [if_neg (by rw [c1]; decide), List.append_nil] at htake
     exact ⟨rs.length - (k + 1), by omega, k + 1, by omega, by rw [wrap_i64 (by omega) (by omega)]; omega, rfl, by rw [htake], by rw [htake], hb59⟩
   rw [Bool.not_eq_false'] at c1
   rw [if_pos c1] at htake
   have g := qkO c1
   have hM : docM ((rs.take (k + 1)).filter rulR) (qi h).reverse = qhd (qi h).reverse (docM ((rs.take k).filter rulR) (qi h).reverse) r := by
     rw [htake]; unfold docM; rw [List.foldl_append]; rfl
   have hE : docE ((rs.take (k + 1)).filter rulR) (qi h).reverse = qmW (qi h).reverse (docE ((rs.take k).filter rulR) (qi h).reverse) r := by
     rw [htake]; unfold docE; rw [List.foldl_append]; rfl
   generalize docM ((rs.take k).filter rulR) (qi h).reverse = mm at *
   generalize docE ((rs.take k).filter rulR) (qi h).reverse = ee at *
   have hu := qgG oh g hl0
   have hq := qlP oh g hl0
   have hp := qk9 (R := (qi h).reverse) (r := r)
   have hrl : (revl r).length = (cutC 46 [] r.2).length := by unfold revl; rw [List.length_reverse]
   have hrl0 := qg6 (r := r)
   refine ⟨rfl, _, h89.load1 un_string rfl rfl, ?_⟩
   refine callK (ja r.2 46 (by omega) w9) ?_
   rintro _ w10 ⟨a10, n10, c10, rfl, ho10, -, hb10⟩
   have hb510 := qb hb59 hb10 hb59.size
   have hn10 := ho10.len
   rw [<- hrl] at hn10
   subst hn10
   have hcl : (revl r).length <= 254 := by rw [hrl]; have := j0 46 r.2 []; have := g.len; omega
   refine ⟨_, _, _, rfl, rfl, _, (h89.below hb10).load1 un_string rfl rfl, ?_⟩
   refine qs.new (zs := hst0.cells) (cs := (rulH r).cells) rfl rfl (Hst.one _) w10 fun k11 w11 hk11 h11 hb11 => ?_
   have hb511 := qb hb510 hb11 hb510.size
   refine ⟨_, qs.load0 (h34.below hb511) (Hst.len oh), _, qs.load0 h11 (Hst.len (jX r)), ?_⟩
   refine callK (jH oh (jX r) hn (show r.2.length <= 80000000 by have := g.len; omega) w11) ?_
   rintro _ w12 ⟨rfl, hb12⟩
   have hb512 := qb hb511 hb12 hb511.size
   have h8A := (((h89.below hb10).below hb11).below hb12)
   have h3A := h34.below hb512
   have h11A := h11.below hb12
   refine ⟨_, rfl, ?_⟩
   have lk := h8A.load1 (P := prog) (i := 0) qN rfl rfl
   generalize hub : qag h (rulH r) = ub at *
   -- a name
   refine ⟨fun n w' => w' = w12 /\ n = (((if r.1 = 1 /\ revl r = (qi h).reverse.take (revl r).length then max mm (revl r).length else mm) : Nat) : Int), ?_, ?_⟩
   · refine qav (w := w12) (decide (r.1 = 1 /\ revl r = (qi h).reverse.take (revl r).length)) ?_ ?_
     · refine ⟨rfl, _, lk, BCase.of (fun c2 => ?_) (fun c2 => ⟨rfl, (decide_eq_false (fun hx => beq_eq_false_iff_ne.1 c2 hx.1)).symm⟩)⟩
       have c2 := eq_of_beq c2
       refine BCase.of (fun c3 => ⟨rfl, (decide_eq_true ⟨c2, hp.2 (.inl (hu.1 c3))⟩).symm⟩) (fun c3 => ?_)
       refine ⟨_, qs.load0 h3A (Hst.len oh), _, qs.load0 h11A (Hst.len (jX r)), _, qdn oh (jX r) w12, rfl, ?_⟩
       rw [Bool.eq_iff_iff, dTx, hq, hp]
       exact ⟨fun e => ⟨c2, .inr e⟩, fun e => e.2.elim (fun e => by rw [hu.2 e] at c3; cases c3) id⟩
     · refine BCase.of (fun c2 => ?_) (fun c2 => ⟨rfl, by rw [if_neg (of_decide_eq_false c2)]⟩)
       refine ⟨_, run_max_int2 _ _ _ _ _ _ _, rfl, ?_⟩
       rw [if_pos (of_decide_eq_true c2)]
       split <;> omega
   intro n5
   refine AllJ.of ?_ _
   rintro w13 ⟨hw13, rfl⟩
   rw [hw13]; clear hw13
   -- all below a name
   refine ⟨fun n w' => w' = w12 /\ n = ((qhd (qi h).reverse mm r : Nat) : Int), ?_, ?_⟩
   · have hst : qhd (qi h).reverse mm r = if r.1 = 2 /\ ub = true then max (if r.1 = 1 /\ revl r = (qi h).reverse.take (revl r).length then max mm (revl r).length else mm) ((revl r).length + 1) else (if r.1 = 1 /\ revl r = (qi h).reverse.take (revl r).length then max mm (revl r).length else mm) := by
       unfold qhd
       by_cases c2 : r.1 = 1
       · have n2 : ¬ (r.1 = 2 /\ ub = true) := fun hx => by rw [c2] at hx; exact absurd hx.1 (by decide)
         rw [if_neg n2]
         by_cases c3 : revl r = (qi h).reverse.take (revl r).length
         · rw [if_pos c3, if_pos c2, if_pos ⟨c2, c3⟩]
         · rw [if_neg c3, if_neg (show ¬ (r.1 = 1 /\ revl r = (qi h).reverse.take (revl r).length) from fun hx => c3 hx.2)]
       · rw [if_neg (show ¬ (r.1 = 1 /\ revl r = (qi h).reverse.take (revl r).length) from fun hx => c2 hx.1)]
         by_cases c3 : r.1 = 2 /\ ub = true
         · have := hu.1 c3.2
           rw [if_pos c3, if_pos this.2, if_neg c2, if_pos ⟨c3.1, this.1⟩]
         · rw [if_neg c3]
           by_cases c5 : revl r = (qi h).reverse.take (revl r).length
           · rw [if_pos c5, if_neg c2, if_neg (fun hx => c3 ⟨hx.1, hu.2 ⟨hx.2, c5⟩⟩)]
           · rw [if_neg c5]
     rw [hst]
     generalize (if r.1 = 1 /\ revl r = (qi h).reverse.take (revl r).length then max mm (revl r).length else mm) = m1
     refine qav (w := w12) (decide (r.1 = 2 /\ ub = true)) ?_ ?_
     · refine ⟨rfl, _, lk, BCase.of (fun c2 => ⟨rfl, ?_⟩) (fun c2 => ⟨rfl, (decide_eq_false (fun hx => beq_eq_false_iff_ne.1 c2 hx.1)).symm⟩)⟩
       rw [Bool.eq_iff_iff, dTx]
       exact ⟨fun e => ⟨eq_of_beq c2, e⟩, fun e => e.2⟩
     · refine BCase.of (fun c2 => ?_) (fun c2 => ⟨rfl, by rw [if_neg (of_decide_eq_false c2)]⟩)
       refine ⟨_, run_max_int2 _ _ _ _ _ _ _, rfl, ?_⟩
       rw [if_pos (of_decide_eq_true c2), wrap_i64 (by omega) (by omega)]
       split <;> omega
   intro n5
   refine AllJ.of ?_ _
   rintro w13 ⟨hw13, rfl⟩
   rw [hw13]; clear hw13
   -- an exception
   refine qav (w := w12) (decide (revl r = (qi h).reverse.take (revl r).length /\ r.1 = 3)) ?_ ?_
   · refine ⟨rfl, _, lk, BCase.of (fun c2 => ?_) (fun c2 => ⟨rfl, (decide_eq_false (fun hx => beq_eq_false_iff_ne.1 c2 hx.2)).symm⟩)⟩
     have c2 := eq_of_beq c2
     refine BCase.of (fun c3 => ⟨rfl, (decide_eq_true ⟨hp.2 (.inl (hu.1 c3)), c2⟩).symm⟩) (fun c3 => ?_)
     refine ⟨_, qs.load0 h3A (Hst.len oh), _, qs.load0 h11A (Hst.len (jX r)), _, qdn oh (jX r) w12, rfl, ?_⟩
     rw [Bool.eq_iff_iff, dTx, hq, hp]
     exact ⟨fun e => ⟨.inr e, c2⟩, fun e => e.1.elim (fun e => by rw [hu.2 e] at c3; cases c3) id⟩
   · have hst : qmW (qi h).reverse ee r = if revl r = (qi h).reverse.take (revl r).length /\ r.1 = 3 then max ee ((revl r).length - 1) else ee := rfl
     refine BCase.of (fun c2 => ?_) (fun c2 => ?_)
     · rw [if_pos (of_decide_eq_true c2)] at hst
       refine ⟨_, run_max_int2 _ _ _ _ _ _ _, rs.length - (k + 1), by omega, k + 1, by omega, by rw [wrap_i64 (by omega) (by omega)]; omega, rfl, by rw [hM], ?_, hb512⟩
       rw [hE, hst, wrap_i64 (by omega) (by omega)]
       split <;> omega
     · rw [if_neg (of_decide_eq_false c2)] at hst
       exact ⟨rs.length - (k + 1), by omega, k + 1, by omega, by rw [wrap_i64 (by omega) (by omega)]; omega, rfl, by rw [hM], by rw [hE, hst], hb512⟩
 · have : k = rs.length := by omega
   subst this
   rw [List.take_length]
   unfold sufV
   rw [if_neg hRne]
   refine BCase.of (fun hc => ⟨?_, hB5⟩) (fun hc => ⟨?_, hB5⟩) <;> simp only [gt_iff_lt, dTx, dFx] at hc
   · rw [if_pos (by omega)]
   · rw [if_neg (by omega)]
theorem qbT {A : Bl} {a0 : Option Addr} {l0 c0 : Nat} {rs : List Rul} {w : World} (hs : Sl tRul w A a0 l0 c0 rs) (hl : rs.length <= 1000000) (hr : ∀ r ∈ rs, r.2.length <= 80000000) {h : Hst} (oh : h.ok) (hn : h.name.length <= 80000000) :
   Calls prog zg #[.slice a0 l0 c0, h.v] w (Ret fun v w' => v = .bool (pubB (rs.filter rulR) h) /\ Below w.heap.size w w') := by
 apply qbm
 unfold jR
 intro k3 w3 hk3 hw3
 have hB3 := (hw3 ▸ qf w _ : Below w.heap.size w w3)
 have h3 : qm w3 k3 qc h.cells := qm.new hk3 hw3
 refine ⟨_, qs.load0 h3 (Hst.len oh), ?_⟩
 refine callK (qJ oh hn w3) ?_
 rintro _ w4 ⟨aL, lL, cL, rfl, ho, -, hb4⟩
 have hB4 := qb hB3 hb4 hB3.size
 refine ⟨_, _, _, rfl, ?_⟩
 have hnL := ho.len
 subst hnL
 unfold pubB
 refine BCase.of (fun hc => ?_) (fun hc => ⟨?_, hB4⟩) <;> simp only [gt_iff_lt, dTx, dFx] at hc
 · refine ⟨_, qs.load0 (h3.below hb4) (Hst.len oh), ?_⟩
   refine callK (qbS (hs.below hB4) hl hr oh hn) ?_
   rintro _ w5 ⟨rfl, hb5⟩
   refine ⟨_, rfl, ?_, qb hB4 hb5 hB4.size⟩
   rw [decide_eq_true (show 0 < (qi h).length by omega), Bool.true_and]
   congr 1
   rw [Bool.eq_iff_iff, beq_iff_eq, beq_iff_eq]; omega
 · rw [decide_eq_false (show ¬ 0 < (qi h).length by omega), Bool.false_and]
end Go.Proofs.YtndbpedpdbjkpaaGreatDoor
namespace Go.Proofs.YtndbpedpdbjkpaaGreatDoor
open Go.Pk
open Go.RowKit (Below)
theorem qpo (h g : Hdr) {x y : Operand} (w : World) : ((do eqGuard .neq qd x y h.v g.v; binOp .neq qd h.v g.v : Sem Value)).run prog w = .ok (.bool (!qpv h g)) w :=
 qpq qjn (qoD h g) w
end Go.Proofs.YtndbpedpdbjkpaaGreatDoor
namespace Go.Proofs.YtndbpedpdbjkpaaGreatDoor
open Go.Pk
open Go.RowKit (Below)
theorem qlx {k : Int} (h0 : 0 <= k) (h1 : k < 7) : qpI[k.toNat]'(by show k.toNat < 7; omega) = qem k := by
 unfold qem; rw [List.getElem?_eq_getElem (by show k.toNat < 7; omega)]; rfl
theorem qlw {k : Int} (h0 : 1 <= k) (h1 : k <= 12) : qqb[(k - 1).toNat]'(by show (k - 1).toNat < 12; omega) = monN k := by
 unfold monN; rw [List.getElem?_eq_getElem (by show (k - 1).toNat < 12; omega)]; rfl
set_option maxHeartbeats 2000000 in
theorem qfB (t : Int) (h0 : -9223372036854775808 <= t) (h1 : t <= 9223372036854775807) (w : World) : Calls prog qbM #[.int .i64 t] w (Ret fun v w' => v = .string (mkS (qb6 t)) /\ Below w.heap.size w w') := by
 apply qeN
 unfold qcI
 obtain ⟨e1, e2⟩ := qe3 (t := t) (b := 86400) (by decide)
 refine ⟨by decide, ?_⟩
 rintro _ rfl
 refine intJ (w := w) (t % 86400) ?_ ?_
 · refine BCase.of (fun h => ?_) (fun h => ?_) <;> simp only [dTx, dFx] at h
   · have hneg : t < 0 := by
       by_cases c : 0 <= t
       · have := (e1 c).2; omega
       · omega
     obtain ⟨e3, e4⟩ := e2 hneg
     rw [e4] at h
     rw [e4, wrap_i64 (by omega) (by omega)]
     exact ⟨rfl, by omega⟩
   · by_cases c : 0 <= t
     · rw [(e1 c).2]; exact ⟨rfl, rfl⟩
     · obtain ⟨e3, e4⟩ := e2 (by omega)
       rw [e4] at h ⊢; exact ⟨rfl, by omega⟩
 refine ⟨by decide, ?_⟩
 rintro _ rfl
 refine intJ (w := w) (t / 86400) ?_ ?_
 · refine BCase.of (fun h => ?_) (fun h => ?_) <;> simp only [dTx, dFx] at h
   · obtain ⟨e3, e4⟩ := e2 h
     refine ⟨by decide, ?_⟩
     rintro _ rfl
     rw [e3, e4, wrap_i64 (n := -(-t / 86400)) (by omega) (by omega)]
     refine BCase.of (fun h2 => ?_) (fun h2 => ?_)
     · rw [bne_iff_ne] at h2
       rw [wrap_i64 (by omega) (by omega)]; exact ⟨rfl, by omega⟩
     · have h2' : -(-t % 86400) = 0 := by simpa using h2
       exact ⟨rfl, by omega⟩
   · rw [(e1 (by omega)).1, wrap_i64 (by omega) (by omega)]; exact ⟨rfl, rfl⟩
 clear e1 e2
 refine callK (qeU _ w (by omega)) ?_
 rintro _ w ⟨rfl, rfl⟩
 by_cases hr : t / 86400 < -134774 \/ 2932896 < t / 86400
 · rw [qcB hr]
   refine ⟨_, _, _, _, rfl, BCase.yes rfl ⟨by rw [qg4 hr], Below.refl _ _⟩⟩
 obtain ⟨y, m, d, hd, he⟩ := qqL (n := t / 86400) (by omega) (by omega)
 rw [qi2 hd he, <- he, qim hd, he]
 refine ⟨y, m, d, true, rfl, BCase.no rfl ?_⟩
 have hdd := hd
 obtain ⟨hy1, hy2, hm1, hm2, hd1, hd2⟩ := hdd
 have hd3 := qeL y m
 generalize hn : t / 86400 = n at *
 generalize hs : t % 86400 = s at *
 have hs0 : 0 <= s /\ s < 86400 := by omega
 have hn0 : -134774 <= n /\ n <= 2932896 := by omega
 clear h0 h1 hn hs he hr
 obtain ⟨e1, e2⟩ := qe3 (t := n) (b := 7) (by decide)
 refine ⟨by decide, ?_⟩
 rintro _ rfl
 refine intJ (w := w) (n % 7) ?_ ?_
 · refine BCase.of (fun h => ?_) (fun h => ?_) <;> simp only [dTx, dFx] at h
   · by_cases c : 0 <= n
     · rw [(e1 c).2] at h; omega
     · rw [(e2 (by omega)).2] at h ⊢
       rw [wrap_i64 (by omega) (by omega)]; exact ⟨rfl, by omega⟩
   · by_cases c : 0 <= n
     · rw [(e1 c).2]; exact ⟨rfl, rfl⟩
     · rw [(e2 (by omega)).2] at h ⊢
       exact ⟨rfl, by omega⟩
 clear e1 e2
 have hk0 : 0 <= n % 7 /\ n % 7 < 7 := by omega
 have hwl := qlZ hk0.1 hk0.2
 have hml := qn6 hm1 hm2
 have lweek : ∀ {k : Nat} {w1 w2 w3 : World}, k = w1.heap.size -> w2 = w1.alloc (.cells #[.string (mkS [84, 104, 117]), .string (mkS [70, 114, 105]), .string (mkS [83, 97, 116]), .string (mkS [83, 117, 110]), .string (mkS [77, 111, 110]), .string (mkS [84, 117, 101]), .string (mkS [87, 101, 100])] qe) ->
     Below w2.heap.size w2 w3 -> (Instr.loadAt qe (.pointer (qn (some ⟨k, 0, none⟩) (n % 7) 1))).run prog w3 = .ok (.string (mkS (qem (n % 7)))) w3 := by
   intro k w1 w2 w3 hk hw hb
   have ho : Ow tS qe w2 NoB (some ⟨k, 0, none⟩) 7 7 qpI := Ow.newF (l := qpI.map fun s => Value.string (mkS s)) (jY _) hk hw (qbD fun _ _ => trivial) (by decide)
   obtain ⟨v, hv, hrep⟩ := (ho.below hb).all.load1 (i := n % 7) un_string rfl rfl (by show _ < 7; omega)
   obtain ⟨rfl, -⟩ := qfw hrep
   rw [qlx hk0.1 hk0.2] at hv; exact hv
 have lmon : ∀ {k : Nat} {w1 w2 : World}, k = w1.heap.size -> w2 = w1.alloc (.cells #[.string (mkS [74, 97, 110]), .string (mkS [70, 101, 98]), .string (mkS [77, 97, 114]), .string (mkS [65, 112, 114]), .string (mkS [77, 97, 121]), .string (mkS [74, 117, 110]), .string (mkS [74, 117, 108]), .string (mkS [65, 117, 103]), .string (mkS [83, 101, 112]), .string (mkS [79, 99, 116]), .string (mkS [78, 111, 118]), .string (mkS [68, 101, 99])] qe) ->
     (Instr.loadAt qe (.pointer (qn (some ⟨k, 0, none⟩) (m - 1) 1))).run prog w2 = .ok (.string (mkS (monN m))) w2 := by
   intro k w1 w2 hk hw
   have ho : Ow tS qe w2 NoB (some ⟨k, 0, none⟩) 12 12 qqb := Ow.newF (l := qqb.map fun s => Value.string (mkS s)) (jY _) hk hw (qbD fun _ _ => trivial) (by decide)
   obtain ⟨v, hv, hrep⟩ := ho.all.load1 (i := m - 1) un_string rfl rfl (by show _ < 12; omega)
   obtain ⟨rfl, -⟩ := qfw hrep
   rw [qlw hm1 hm2] at hv; exact hv
 have hB := zV w
 refine ⟨?_, ?_⟩
 · intro k4 w4 hk4 hw4
   replace hB := qb hB (hw4 ▸ qf _ _) hB.size
   refine ⟨⟨⟨by omega, by omega⟩, rfl⟩, ?_, ?_⟩
   ·
     refine ⟨qem (n % 7), lweek hk4 hw4 (Below.refl _ _), ?_⟩
     refine ⟨fits (by simp only [List.length_append, qv, hwl, hml, List.length_cons, List.length_nil]; omega), ?_⟩
     rintro _ rfl
     refine callK (ref07_two_ok d (by omega) (by omega) _) ?_
     rintro _ w3 ⟨rfl, hb3⟩
     replace hB := qb hB hb3 hB.size
     refine ⟨twoL d, rfl, ?_⟩
     refine ⟨fits (by simp only [List.length_append, qv, hwl, hml, List.length_cons, List.length_nil]; omega), ?_⟩
     rintro _ rfl
     refine ⟨fits (by simp only [List.length_append, qv, hwl, hml, List.length_cons, List.length_nil]; omega), ?_⟩
     rintro _ rfl
     intro k5 w5 hk5 hw5
     replace hB := qb hB (hw5 ▸ qf _ _) hB.size
     rw [wrap_i64 (n := m - 1) (by omega) (by omega)]
     refine ⟨⟨⟨by omega, by omega⟩, rfl⟩, monN m, lmon hk5 hw5, ?_⟩
     refine ⟨fits (by simp only [List.length_append, qv, hwl, hml, List.length_cons, List.length_nil]; omega), ?_⟩
     rintro _ rfl
     refine ⟨fits (by simp only [List.length_append, qv, hwl, hml, List.length_cons, List.length_nil]; omega), ?_⟩
     rintro _ rfl
     refine ⟨by decide, ?_⟩
     rintro _ rfl
     rw [tdiv_pos (by omega), wrap_i64 (n := y / 100) (by omega) (by omega)]
     refine callK (ref07_two_ok (y / 100) (by omega) (by omega) _) ?_
     rintro _ w3 ⟨rfl, hb3⟩
     replace hB := qb hB hb3 hB.size
     refine ⟨twoL (y / 100), rfl, ?_⟩
     refine ⟨fits (by simp only [List.length_append, qv, hwl, hml, List.length_cons, List.length_nil]; omega), ?_⟩
     rintro _ rfl
     refine ⟨by decide, ?_⟩
     rintro _ rfl
     rw [tmod_pos (a := y) (by omega)]
     refine callK (ref07_two_ok (y % 100) (by omega) (by omega) _) ?_
     rintro _ w3 ⟨rfl, hb3⟩
     replace hB := qb hB hb3 hB.size
     refine ⟨twoL (y % 100), rfl, ?_⟩
     refine ⟨fits (by simp only [List.length_append, qv, hwl, hml, List.length_cons, List.length_nil]; omega), ?_⟩
     rintro _ rfl
     refine ⟨fits (by simp only [List.length_append, qv, hwl, hml, List.length_cons, List.length_nil]; omega), ?_⟩
     rintro _ rfl
     refine ⟨by decide, ?_⟩
     rintro _ rfl
     rw [tdiv_pos hs0.1, wrap_i64 (n := s / 3600) (by omega) (by omega)]
     refine callK (ref07_two_ok (s / 3600) (by omega) (by omega) _) ?_
     rintro _ w3 ⟨rfl, hb3⟩
     replace hB := qb hB hb3 hB.size
     refine ⟨twoL (s / 3600), rfl, ?_⟩
     refine ⟨fits (by simp only [List.length_append, qv, hwl, hml, List.length_cons, List.length_nil]; omega), ?_⟩
     rintro _ rfl
     refine ⟨fits (by simp only [List.length_append, qv, hwl, hml, List.length_cons, List.length_nil]; omega), ?_⟩
     rintro _ rfl
     refine ⟨by decide, ?_⟩
     rintro _ rfl
     refine ⟨by decide, ?_⟩
     rintro _ rfl
     rw [tdiv_pos hs0.1, wrap_i64 (n := s / 60) (by omega) (by omega), tmod_pos (a := s / 60) (by omega)]
     refine callK (ref07_two_ok (s / 60 % 60) (by omega) (by omega) _) ?_
     rintro _ w3 ⟨rfl, hb3⟩
     replace hB := qb hB hb3 hB.size
     refine ⟨twoL (s / 60 % 60), rfl, ?_⟩
     refine ⟨fits (by simp only [List.length_append, qv, hwl, hml, List.length_cons, List.length_nil]; omega), ?_⟩
     rintro _ rfl
     refine ⟨fits (by simp only [List.length_append, qv, hwl, hml, List.length_cons, List.length_nil]; omega), ?_⟩
     rintro _ rfl
     refine ⟨by decide, ?_⟩
     rintro _ rfl
     rw [tmod_pos (a := s) hs0.1]
     refine callK (ref07_two_ok (s % 60) (by omega) (by omega) _) ?_
     rintro _ w3 ⟨rfl, hb3⟩
     replace hB := qb hB hb3 hB.size
     refine ⟨twoL (s % 60), rfl, ?_⟩
     refine ⟨fits (by simp only [List.length_append, qv, hwl, hml, List.length_cons, List.length_nil]; omega), ?_⟩
     rintro _ rfl
     refine ⟨fits (by simp only [List.length_append, qv, hwl, hml, List.length_cons, List.length_nil]; omega), ?_⟩
     rintro _ rfl
     refine ⟨?_, hB⟩
     congr 2
     simp [qhf, qcX, List.append_assoc]
   ·
     refine callK (ref07_two_ok d (by omega) (by omega) _) ?_
     rintro _ w3 ⟨rfl, hb3⟩
     replace hB := qb hB hb3 hB.size
     refine ⟨twoL d, rfl, ?_⟩
     refine ⟨qem (n % 7), lweek hk4 hw4 hb3, ?_⟩
     refine ⟨fits (by simp only [List.length_append, qv, hwl, hml, List.length_cons, List.length_nil]; omega), ?_⟩
     rintro _ rfl
     refine ⟨fits (by simp only [List.length_append, qv, hwl, hml, List.length_cons, List.length_nil]; omega), ?_⟩
     rintro _ rfl
     refine ⟨fits (by simp only [List.length_append, qv, hwl, hml, List.length_cons, List.length_nil]; omega), ?_⟩
     rintro _ rfl
     intro k5 w5 hk5 hw5
     replace hB := qb hB (hw5 ▸ qf _ _) hB.size
     rw [wrap_i64 (n := m - 1) (by omega) (by omega)]
     refine ⟨⟨⟨by omega, by omega⟩, rfl⟩, monN m, lmon hk5 hw5, ?_⟩
     refine ⟨fits (by simp only [List.length_append, qv, hwl, hml, List.length_cons, List.length_nil]; omega), ?_⟩
     rintro _ rfl
     refine ⟨fits (by simp only [List.length_append, qv, hwl, hml, List.length_cons, List.length_nil]; omega), ?_⟩
     rintro _ rfl
     refine ⟨by decide, ?_⟩
     rintro _ rfl
     rw [tdiv_pos (by omega), wrap_i64 (n := y / 100) (by omega) (by omega)]
     refine callK (ref07_two_ok (y / 100) (by omega) (by omega) _) ?_
     rintro _ w3 ⟨rfl, hb3⟩
     replace hB := qb hB hb3 hB.size
     refine ⟨twoL (y / 100), rfl, ?_⟩
     refine ⟨fits (by simp only [List.length_append, qv, hwl, hml, List.length_cons, List.length_nil]; omega), ?_⟩
     rintro _ rfl
     refine ⟨by decide, ?_⟩
     rintro _ rfl
     rw [tmod_pos (a := y) (by omega)]
     refine callK (ref07_two_ok (y % 100) (by omega) (by omega) _) ?_
     rintro _ w3 ⟨rfl, hb3⟩
     replace hB := qb hB hb3 hB.size
     refine ⟨twoL (y % 100), rfl, ?_⟩
     refine ⟨fits (by simp only [List.length_append, qv, hwl, hml, List.length_cons, List.length_nil]; omega), ?_⟩
     rintro _ rfl
     refine ⟨fits (by simp only [List.length_append, qv, hwl, hml, List.length_cons, List.length_nil]; omega), ?_⟩
     rintro _ rfl
     refine ⟨by decide, ?_⟩
     rintro _ rfl
     rw [tdiv_pos hs0.1, wrap_i64 (n := s / 3600) (by omega) (by omega)]
     refine callK (ref07_two_ok (s / 3600) (by omega) (by omega) _) ?_
     rintro _ w3 ⟨rfl, hb3⟩
     replace hB := qb hB hb3 hB.size
     refine ⟨twoL (s / 3600), rfl, ?_⟩
     refine ⟨fits (by simp only [List.length_append, qv, hwl, hml, List.length_cons, List.length_nil]; omega), ?_⟩
     rintro _ rfl
     refine ⟨fits (by simp only [List.length_append, qv, hwl, hml, List.length_cons, List.length_nil]; omega), ?_⟩
     rintro _ rfl
     refine ⟨by decide, ?_⟩
     rintro _ rfl
     refine ⟨by decide, ?_⟩
     rintro _ rfl
     rw [tdiv_pos hs0.1, wrap_i64 (n := s / 60) (by omega) (by omega), tmod_pos (a := s / 60) (by omega)]
     refine callK (ref07_two_ok (s / 60 % 60) (by omega) (by omega) _) ?_
     rintro _ w3 ⟨rfl, hb3⟩
     replace hB := qb hB hb3 hB.size
     refine ⟨twoL (s / 60 % 60), rfl, ?_⟩
     refine ⟨fits (by simp only [List.length_append, qv, hwl, hml, List.length_cons, List.length_nil]; omega), ?_⟩
     rintro _ rfl
     refine ⟨fits (by simp only [List.length_append, qv, hwl, hml, List.length_cons, List.length_nil]; omega), ?_⟩
     rintro _ rfl
     refine ⟨by decide, ?_⟩
     rintro _ rfl
     rw [tmod_pos (a := s) hs0.1]
     refine callK (ref07_two_ok (s % 60) (by omega) (by omega) _) ?_
     rintro _ w3 ⟨rfl, hb3⟩
     replace hB := qb hB hb3 hB.size
     refine ⟨twoL (s % 60), rfl, ?_⟩
     refine ⟨fits (by simp only [List.length_append, qv, hwl, hml, List.length_cons, List.length_nil]; omega), ?_⟩
     rintro _ rfl
     refine ⟨fits (by simp only [List.length_append, qv, hwl, hml, List.length_cons, List.length_nil]; omega), ?_⟩
     rintro _ rfl
     refine ⟨?_, hB⟩
     congr 2
     simp [qhf, qcX, List.append_assoc]
 ·
     refine callK (ref07_two_ok d (by omega) (by omega) _) ?_
     rintro _ w3 ⟨rfl, hb3⟩
     replace hB := qb hB hb3 hB.size
     refine ⟨twoL d, rfl, ?_⟩
     intro k4 w4 hk4 hw4
     replace hB := qb hB (hw4 ▸ qf _ _) hB.size
     refine ⟨⟨⟨by omega, by omega⟩, rfl⟩, ?_⟩
     refine ⟨qem (n % 7), lweek hk4 hw4 (Below.refl _ _), ?_⟩
     refine ⟨fits (by simp only [List.length_append, qv, hwl, hml, List.length_cons, List.length_nil]; omega), ?_⟩
     rintro _ rfl
     refine ⟨fits (by simp only [List.length_append, qv, hwl, hml, List.length_cons, List.length_nil]; omega), ?_⟩
     rintro _ rfl
     refine ⟨fits (by simp only [List.length_append, qv, hwl, hml, List.length_cons, List.length_nil]; omega), ?_⟩
     rintro _ rfl
     intro k5 w5 hk5 hw5
     replace hB := qb hB (hw5 ▸ qf _ _) hB.size
     rw [wrap_i64 (n := m - 1) (by omega) (by omega)]
     refine ⟨⟨⟨by omega, by omega⟩, rfl⟩, monN m, lmon hk5 hw5, ?_⟩
     refine ⟨fits (by simp only [List.length_append, qv, hwl, hml, List.length_cons, List.length_nil]; omega), ?_⟩
     rintro _ rfl
     refine ⟨fits (by simp only [List.length_append, qv, hwl, hml, List.length_cons, List.length_nil]; omega), ?_⟩
     rintro _ rfl
     refine ⟨by decide, ?_⟩
     rintro _ rfl
     rw [tdiv_pos (by omega), wrap_i64 (n := y / 100) (by omega) (by omega)]
     refine callK (ref07_two_ok (y / 100) (by omega) (by omega) _) ?_
     rintro _ w3 ⟨rfl, hb3⟩
     replace hB := qb hB hb3 hB.size
     refine ⟨twoL (y / 100), rfl, ?_⟩
     refine ⟨fits (by simp only [List.length_append, qv, hwl, hml, List.length_cons, List.length_nil]; omega), ?_⟩
     rintro _ rfl
     refine ⟨by decide, ?_⟩
     rintro _ rfl
     rw [tmod_pos (a := y) (by omega)]
     refine callK (ref07_two_ok (y % 100) (by omega) (by omega) _) ?_
     rintro _ w3 ⟨rfl, hb3⟩
     replace hB := qb hB hb3 hB.size
     refine ⟨twoL (y % 100), rfl, ?_⟩
     refine ⟨fits (by simp only [List.length_append, qv, hwl, hml, List.length_cons, List.length_nil]; omega), ?_⟩
     rintro _ rfl
     refine ⟨fits (by simp only [List.length_append, qv, hwl, hml, List.length_cons, List.length_nil]; omega), ?_⟩
     rintro _ rfl
     refine ⟨by decide, ?_⟩
     rintro _ rfl
     rw [tdiv_pos hs0.1, wrap_i64 (n := s / 3600) (by omega) (by omega)]
     refine callK (ref07_two_ok (s / 3600) (by omega) (by omega) _) ?_
     rintro _ w3 ⟨rfl, hb3⟩
     replace hB := qb hB hb3 hB.size
     refine ⟨twoL (s / 3600), rfl, ?_⟩
     refine ⟨fits (by simp only [List.length_append, qv, hwl, hml, List.length_cons, List.length_nil]; omega), ?_⟩
     rintro _ rfl
     refine ⟨fits (by simp only [List.length_append, qv, hwl, hml, List.length_cons, List.length_nil]; omega), ?_⟩
     rintro _ rfl
     refine ⟨by decide, ?_⟩
     rintro _ rfl
     refine ⟨by decide, ?_⟩
     rintro _ rfl
     rw [tdiv_pos hs0.1, wrap_i64 (n := s / 60) (by omega) (by omega), tmod_pos (a := s / 60) (by omega)]
     refine callK (ref07_two_ok (s / 60 % 60) (by omega) (by omega) _) ?_
     rintro _ w3 ⟨rfl, hb3⟩
     replace hB := qb hB hb3 hB.size
     refine ⟨twoL (s / 60 % 60), rfl, ?_⟩
     refine ⟨fits (by simp only [List.length_append, qv, hwl, hml, List.length_cons, List.length_nil]; omega), ?_⟩
     rintro _ rfl
     refine ⟨fits (by simp only [List.length_append, qv, hwl, hml, List.length_cons, List.length_nil]; omega), ?_⟩
     rintro _ rfl
     refine ⟨by decide, ?_⟩
     rintro _ rfl
     rw [tmod_pos (a := s) hs0.1]
     refine callK (ref07_two_ok (s % 60) (by omega) (by omega) _) ?_
     rintro _ w3 ⟨rfl, hb3⟩
     replace hB := qb hB hb3 hB.size
     refine ⟨twoL (s % 60), rfl, ?_⟩
     refine ⟨fits (by simp only [List.length_append, qv, hwl, hml, List.length_cons, List.length_nil]; omega), ?_⟩
     rintro _ rfl
     refine ⟨fits (by simp only [List.length_append, qv, hwl, hml, List.length_cons, List.length_nil]; omega), ?_⟩
     rintro _ rfl
     refine ⟨?_, hB⟩
     congr 2
     simp [qhf, qcX, List.append_assoc]
end Go.Proofs.YtndbpedpdbjkpaaGreatDoor
namespace Go.Pk
open Go.RowKit (Below)
def addO (s : List UInt8) (b : Bool) (x : List UInt8) : List UInt8 := if b = true then s ++ ([59, 32] ++ x) else s
theorem qb3 (s : List UInt8) (b : Bool) (x : List UInt8) : (addO s b x).length <= s.length + x.length + 2 := by
 unfold addO; split
 · simp; omega
 · omega
def dot8 (s : List UInt8) : List UInt8 := if s.head? = some 46 \/ s.head? = some 32 \/ s.head? = some 9 then 46 :: s else s
theorem qp9 (sep : List UInt8) (A B : List (List UInt8)) : Lib.joinTail sep (A ++ B) = Lib.joinTail sep A ++ Lib.joinTail sep B := by
 unfold Lib.joinTail; simp
theorem qbb {A : List (List UInt8)} (hA : A ≠ []) (b : Bool) (x : List UInt8) : Lib.join (A ++ opt b x) [59, 32] = addO (Lib.join A [59, 32]) b x := by
 cases A with
 | nil => exact absurd rfl hA
 | cons y A =>
   cases b with
   | false => unfold opt addO; simp
   | true =>
     unfold opt addO
     rw [if_pos rfl, List.cons_append, Lib.join_cons, Lib.join_cons, qp9]
     unfold Lib.joinTail
     simp
noncomputable def w1V (h : Hdr) : List UInt8 := addO (h.name ++ [61] ++ h.value) h.hasE (pE ++ qb6 h.exp)
noncomputable def w2V (h : Hdr) : List UInt8 := addO (w1V h) h.hasA (pA ++ Lib.itoa h.age)
noncomputable def w3V (h : Hdr) (d : List UInt8) : List UInt8 := addO (w2V h) (!(h.domain == [])) (pD ++ d)
noncomputable def w4V (h : Hdr) (d : List UInt8) : List UInt8 := addO (w3V h d) (!(h.path == [])) (pP ++ h.path)
noncomputable def w5V (h : Hdr) (d : List UInt8) : List UInt8 := addO (w4V h d) h.sec pS
noncomputable def w6V (h : Hdr) (d : List UInt8) : List UInt8 := addO (w5V h d) h.http pH
noncomputable def w7V (h : Hdr) (d : List UInt8) : List UInt8 := addO (w6V h d) (decide (0 < h.same) && decide (h.same <= 3)) (pM ++ nmL[h.same.toNat]?.getD [])
theorem qjN (h : Hdr) : jp h = w7V h (dotV h.domain) := by
 have ne : ∀ (A B : List (List UInt8)), A ≠ [] -> A ++ B ≠ [] := fun A B hA e => hA (List.append_eq_nil_iff.1 e).1
 have n0 : ([h.name ++ [61] ++ h.value] : List (List UInt8)) ≠ [] := by simp
 unfold jp wparts w7V w6V w5V w4V w3V w2V w1V
 rw [qbb (ne _ _ (ne _ _ (ne _ _ (ne _ _ (ne _ _ (ne _ _ n0)))))), qbb (ne _ _ (ne _ _ (ne _ _ (ne _ _ (ne _ _ n0))))), qbb (ne _ _ (ne _ _ (ne _ _ (ne _ _ n0)))), qbb (ne _ _ (ne _ _ (ne _ _ n0))), qbb (ne _ _ (ne _ _ n0)), qbb (ne _ _ n0), qbb n0, Lib.join_one]
theorem right_good {h : Hdr} (hr : qaT h = true) : Good h := by
 unfold qaT at hr
 rw [Bool.and_eq_true, dTx, qcP] at hr
 exact parse_good (s := jp h) (Prod.ext hr.2 hr.1)
theorem qn1 {s : List UInt8} (h : Lok s) : dot8 s = dotV s := by
 unfold dot8 dotV
 have e : (zt s = s /\ s.head? ≠ some 46) ↔ ¬ (s.head? = some 46 \/ s.head? = some 32 \/ s.head? = some 9) := by
   rw [qi3]
   constructor
   · rintro ⟨⟨h1, _⟩, h2⟩ hc
     rcases hc with hc | hc
     · exact h2 hc
     · cases s with
       | nil => rcases hc with hc | hc <;> cases hc
       | cons c r =>
         have hb : isBl c = true := by rcases hc with hc | hc <;> rw [Option.some.inj hc] <;> rfl
         unfold Hok at h1
         rw [List.dropWhile_cons, if_pos hb] at h1
         have := (List.dropWhile_sublist isBl (l := r)).length_le
         rw [h1] at this; simp at this; omega
   · intro hc
     refine ⟨⟨?_, h⟩, fun e => hc (.inl e)⟩
     cases s with
     | nil => rfl
     | cons c r =>
       refine hok_cons ?_
       rw [Bool.eq_false_iff]
       intro hb
       unfold isBl at hb
       rw [Bool.or_eq_true, beq_iff_eq, beq_iff_eq] at hb
       rcases hb with rfl | rfl
       · exact hc (.inr (.inl rfl))
       · exact hc (.inr (.inr rfl))
 by_cases c : zt s = s /\ s.head? ≠ some 46
 · rw [if_pos c, if_neg (e.1 c)]
 · rw [if_neg c, if_pos (Decidable.not_not.1 fun hx => c (e.2 hx))]
theorem qdU {h : Hdr} : qaT h = true ↔ qM (w7V h (dot8 h.domain)) = (h, 0) := by
 constructor
 · intro hr
   have g := right_good hr
   rw [qn1 g.de, <- qjN]; exact qlm g
 · intro hp
   exact right_of_good (parse_good hp)
end Go.Pk
namespace Go.Proofs.YtndbpedpdbjkpaaGreatDoor
open Go.Pk
open Go.RowKit (Below)
theorem ref08_decimal_ok (n : Nat) (hn : n <= 9223372036854775807) (w : World) : Calls prog qaj #[.int .i64 (n : Int)] w (Ret fun v w' => v = .string (mkS (decL n)) /\ Below w.heap.size w w') := by
 apply qc4
 unfold qbk
 refine ⟨fun m i s w' => ∃ q : Nat, i = (q : Int) /\ m = q /\ q <= 9223372036854775807 /\ decL q ++ s = decL n /\ Below w.heap.size w w', ⟨_, n, rfl, rfl, hn, List.append_nil _, Below.refl _ _⟩, ?_⟩
 intro m i s
 refine AllJ.of ?_ _
 rintro w1 ⟨q, rfl, rfl, hq, hs, hB1⟩
 have hl := zS hn
 have hsl : s.length <= 21 := by have := congrArg List.length hs; rw [List.length_append] at this; omega
 refine BCase.of (fun h => ?_) (fun h => ?_) <;> simp only [gt_iff_lt, dTx, dFx] at h
 · refine ⟨by decide, ?_⟩
   rintro _ rfl
   have e2 : Int.tmod (m : Int) 10 = ((m % 10 : Nat) : Int) := by rw [tmod_pos (by omega)]; omega
   have e1 : i64.wrap (Int.tdiv (m : Int) 10) = ((m / 10 : Nat) : Int) := by rw [tdiv_pos (by omega), wrap_i64 (by omega) (by omega)]; omega
   rw [e2, e1]
   intro k8 w8 hk8 hw8
   refine ⟨_, zk (d := m % 10) (by omega) rfl hk8 hw8 w8 (Below.refl _ _), fits (by simp; omega), ?_⟩
   rintro _ rfl
   refine ⟨by decide, ?_⟩
   rintro _ rfl
   refine ⟨m / 10, by omega, m / 10, rfl, rfl, by omega, ?_, qb hB1 (hw8 ▸ qf _ _) hB1.size⟩
   rw [<- hs, jC (n := m) (by omega)]; simp
 · intro k8 w8 hk8 hw8
   refine ⟨_, zk (d := m) (by omega) rfl hk8 hw8 w8 (Below.refl _ _), fits (by simp; omega), ?_⟩
   rintro _ rfl
   refine ⟨?_, qb hB1 (hw8 ▸ qf _ _) hB1.size⟩
   rw [<- hs, jA (by omega)]
theorem qfE (h : Hdr) (ho : qda h) (w : World) : Calls prog qbN #[h.v] w (Ret fun v w' => ∃ s, v = .tuple #[.string (mkS s), .bool (qaT h)] /\ Below w.heap.size w w') := by
 refine qeG h.name h.value h.domain h.path h.hasE h.exp h.hasA h.age h.sec h.http h.same ?_
 unfold qcK
 have hl1 := ho.name; have hl2 := ho.value; have hl3 := ho.domain; have hl4 := ho.path
 have hbad : qM (w7V h (dot8 h.domain)) ≠ (h, 0) -> qaT h = false := fun hx => by
   rw [Bool.eq_false_iff]; exact fun hr => hx (qdU.1 hr)
 intro k1 w1 hk1 hw1
 obtain ⟨hh1, hB1⟩ := qeE h w hk1 hw1
 refine ⟨rfl, _, hh1.load1 un_string rfl rfl, fits (by simp; omega), ?_⟩
 rintro _ rfl
 refine ⟨rfl, _, hh1.load1 un_string rfl rfl, fits (by simp; omega), ?_⟩
 rintro _ rfl
 have tl := qgS h.exp
 have il := Lib.itoa_length_le h.age ho.age.1 ho.age.2
 -- Expires
 have b1 : (w1V h).length <= 40100 := by
   have := qb3 (h.name ++ [61] ++ h.value) h.hasE (pE ++ qb6 h.exp)
   unfold w1V
   simp [pE] at this ⊢; omega
 refine ⟨fun s w' => s = w1V h /\ Below w1.heap.size w1 w', ?_, ?_⟩
 · refine ⟨rfl, _, hh1.load1 un_bool rfl rfl, BCase.of (fun c => ?_) (fun c => ⟨by unfold w1V addO; rw [c]; rfl, Below.refl _ _⟩)⟩
   refine ⟨rfl, _, hh1.load1 un_int64 rfl rfl, ?_⟩
   refine callK (qfB h.exp ho.exp.1 ho.exp.2 w1) ?_
   rintro _ w2 ⟨rfl, hb2⟩
   refine ⟨_, rfl, fits (by simp; omega), ?_⟩
   rintro _ rfl
   refine ⟨fits (by simp; omega), ?_⟩
   rintro _ rfl
   exact ⟨by unfold w1V addO; rw [c]; rfl, hb2⟩
 intro s1
 refine AllJ.of ?_ _
 rintro w2 ⟨rfl, hb2⟩
 have hB2 := qb hB1 hb2 hB1.size
 have hh2 := hh1.below hb2
 -- Max-Age
 have b2 : (w2V h).length <= 40200 := by
   have := qb3 (w1V h) h.hasA (pA ++ Lib.itoa h.age)
   unfold w2V
   simp [pA] at this ⊢; omega
 refine ⟨fun s w' => s = w2V h /\ Below w2.heap.size w2 w', ?_, ?_⟩
 · refine ⟨rfl, _, hh2.load1 un_bool rfl rfl, BCase.of (fun c => ?_) (fun c => ⟨by unfold w2V addO; rw [c]; rfl, Below.refl _ _⟩)⟩
   refine ⟨rfl, _, hh2.load1 un_int64 rfl rfl, BCase.of (fun c2 => ?_) (fun c2 => ?_)⟩
   · have c2 : h.age < 0 := of_decide_eq_true c2
     refine ⟨[], ?_, hB2⟩
     have : qaT h = false := by
       rw [Bool.eq_false_iff]
       intro hr
       have := (right_good hr).ag.1
       omega
     rw [this]
   · have c2 : ¬ h.age < 0 := of_decide_eq_false c2
     refine ⟨rfl, _, hh2.load1 un_int64 rfl rfl, ?_⟩
     have e : h.age = ((h.age.toNat : Nat) : Int) := by omega
     have hcall := ref08_decimal_ok h.age.toNat (by have := ho.age.2; omega) w2
     rw [<- e] at hcall
     refine callK hcall ?_
     rintro _ w3 ⟨rfl, hb3⟩
     have ed : decL h.age.toNat = Lib.itoa h.age := by rw [qkN (by omega)]
     rw [ed]
     refine ⟨_, rfl, fits (by simp; omega), ?_⟩
     rintro _ rfl
     refine ⟨fits (by simp; omega), ?_⟩
     rintro _ rfl
     exact ⟨by unfold w2V addO; rw [c]; rfl, hb3⟩
 intro s2
 refine AllJ.of ?_ _
 rintro w3 ⟨rfl, hb3⟩
 have hB3 := qb hB2 hb3 hB2.size
 have hh3 := hh2.below hb3
 -- Domain
 have d8 : (dot8 h.domain).length <= 20001 := by
   unfold dot8
   split
   · simp; omega
   · omega
 have b3 : (w3V h (dot8 h.domain)).length <= 60300 := by
   have := qb3 (w2V h) (!(h.domain == [])) (pD ++ dot8 h.domain)
   unfold w3V
   simp only [pD, List.length_append, List.length_cons, List.length_nil] at this ⊢; omega
 refine strJ (w := w3) (w3V h (dot8 h.domain)) ?_ ?_
 · refine ⟨rfl, _, hh3.load1 un_string rfl rfl, BCase.of (fun c => ⟨fits (by simp; omega), ?_⟩) (fun c => ⟨rfl, ?_⟩)⟩
   · rintro _ rfl
     have hne : h.domain ≠ [] := by simpa using c
     have hl : 0 < h.domain.length := List.length_pos_iff.2 hne
     have hb := zJ (s := h.domain) (k := 0) hl
     rw [show ((0 : Nat) : Int) = 0 from rfl] at hb
     have u46 := qau h.domain[0] 46
     have u32 := qau h.domain[0] 32
     have u9 := qau h.domain[0] 9
     rw [show (((46 : UInt8).toNat : Nat) : Int) = 46 from rfl] at u46
     rw [show (((32 : UInt8).toNat : Nat) : Int) = 32 from rfl] at u32
     rw [show (((9 : UInt8).toNat : Nat) : Int) = 9 from rfl] at u9
     have hh : h.domain.head? = some h.domain[0] := by rw [List.head?_eq_getElem?, List.getElem?_eq_getElem hl]
     have hin : (0 <= (0 : Int) /\ (0 : Int) < ((h.domain.length : Nat) : Int)) := ⟨by decide, by omega⟩
     refine strJ (w := w3) (w2V h ++ [59, 32, 68, 111, 109, 97, 105, 110, 61] ++ (if h.domain.head? = some 46 \/ h.domain.head? = some 32 \/ h.domain.head? = some 9 then [46] else [])) ?_ ?_
     · refine ⟨rfl, _, hh3.load1 un_string rfl rfl, hin, ?_⟩
       rw [hb, u46]
       refine BCase.of (fun c1 => ⟨fits (by simp; omega), ?_⟩) (fun c1 => ?_)
       · rintro _ rfl
         exact ⟨rfl, by rw [if_pos (.inl (by rw [hh, eq_of_beq c1]))]⟩
       refine ⟨rfl, _, hh3.load1 un_string rfl rfl, hin, ?_⟩
       rw [hb, u32]
       refine BCase.of (fun c2 => ⟨fits (by simp; omega), ?_⟩) (fun c2 => ?_)
       · rintro _ rfl
         exact ⟨rfl, by rw [if_pos (.inr (.inl (by rw [hh, eq_of_beq c2])))]⟩
       refine ⟨rfl, _, hh3.load1 un_string rfl rfl, hin, ?_⟩
       rw [hb, u9]
       refine BCase.of (fun c3 => ⟨fits (by simp; omega), ?_⟩) (fun c3 => ⟨rfl, ?_⟩)
       · rintro _ rfl
         exact ⟨rfl, by rw [if_pos (.inr (.inr (by rw [hh, eq_of_beq c3])))]⟩
       · rw [if_neg, List.append_nil]
         rw [hh]
         rintro (hx | hx | hx)
         · rw [Option.some.inj hx] at c1; simp at c1
         · rw [Option.some.inj hx] at c2; simp at c2
         · rw [Option.some.inj hx] at c3; simp at c3
     · refine ⟨rfl, _, hh3.load1 un_string rfl rfl, fits (by simp; split <;> simp <;> omega), ?_⟩
       rintro _ rfl
       refine ⟨rfl, ?_⟩
       unfold w3V addO
       rw [if_pos c]
       unfold dot8
       split <;> simp [pD]
   · unfold w3V addO
     rw [if_neg (by rw [c]; decide)]
 -- Path
 have b4 : (w4V h (dot8 h.domain)).length <= 80400 := by
   have := qb3 (w3V h (dot8 h.domain)) (!(h.path == [])) (pP ++ h.path)
   unfold w4V
   simp only [pP, List.length_append, List.length_cons, List.length_nil] at this ⊢; omega
 refine strJ (w := w3) (w4V h (dot8 h.domain)) ?_ ?_
 · refine ⟨rfl, _, hh3.load1 un_string rfl rfl, BCase.of (fun c => ?_) (fun c => ⟨rfl, by unfold w4V addO; rw [if_neg (by rw [c]; decide)]⟩)⟩
   refine ⟨rfl, _, hh3.load1 un_string rfl rfl, fits (by simp; omega), ?_⟩
   rintro _ rfl
   refine ⟨fits (by simp; omega), ?_⟩
   rintro _ rfl
   exact ⟨rfl, by unfold w4V addO; rw [if_pos c]; rfl⟩
 -- Secure
 have b5 : (w5V h (dot8 h.domain)).length <= 80500 := by
   have := qb3 (w4V h (dot8 h.domain)) h.sec pS
   unfold w5V
   simp only [pS, List.length_cons, List.length_nil] at this ⊢; omega
 refine strJ (w := w3) (w5V h (dot8 h.domain)) ?_ ?_
 · refine ⟨rfl, _, hh3.load1 un_bool rfl rfl, BCase.of (fun c => ⟨fits (by simp; omega), ?_⟩) (fun c => ⟨rfl, by unfold w5V addO; rw [if_neg (by rw [c]; decide)]⟩)⟩
   rintro _ rfl
   exact ⟨rfl, by unfold w5V addO; rw [if_pos c]; rfl⟩
 -- HttpOnly
 have b6 : (w6V h (dot8 h.domain)).length <= 80600 := by
   have := qb3 (w5V h (dot8 h.domain)) h.http pH
   unfold w6V
   simp only [pH, List.length_cons, List.length_nil] at this ⊢; omega
 refine strJ (w := w3) (w6V h (dot8 h.domain)) ?_ ?_
 · refine ⟨rfl, _, hh3.load1 un_bool rfl rfl, BCase.of (fun c => ⟨fits (by simp; omega), ?_⟩) (fun c => ⟨rfl, by unfold w6V addO; rw [if_neg (by rw [c]; decide)]⟩)⟩
   rintro _ rfl
   exact ⟨rfl, by unfold w6V addO; rw [if_pos c]; rfl⟩
 -- SameSite
 have hs7 : w7V h (dot8 h.domain) = if h.same = 1 then w6V h (dot8 h.domain) ++ [59, 32, 83, 97, 109, 101, 83, 105, 116, 101, 61, 78, 111, 110, 101] else if h.same = 2 then w6V h (dot8 h.domain) ++ [59, 32, 83, 97, 109, 101, 83, 105, 116, 101, 61, 76, 97, 120]
     else if h.same = 3 then w6V h (dot8 h.domain) ++ [59, 32, 83, 97, 109, 101, 83, 105, 116, 101, 61, 83, 116, 114, 105, 99, 116] else w6V h (dot8 h.domain) := by
   unfold w7V addO
   by_cases c1 : h.same = 1
   · rw [c1]; rfl
   by_cases c2 : h.same = 2
   · rw [c2]; rfl
   by_cases c3 : h.same = 3
   · rw [c3]; rfl
   rw [if_neg c1, if_neg c2, if_neg c3, if_neg (by simp; omega)]
 refine strJ (w := w3) (if h.same = 1 then w6V h (dot8 h.domain) ++ [59, 32, 83, 97, 109, 101, 83, 105, 116, 101, 61, 78, 111, 110, 101] else w6V h (dot8 h.domain)) ?_ ?_
 · refine ⟨rfl, _, hh3.load1 qN rfl rfl, BCase.of (fun c => ⟨fits (by simp; omega), ?_⟩) (fun c => ⟨rfl, by rw [if_neg (beq_eq_false_iff_ne.1 c)]⟩)⟩
   rintro _ rfl
   exact ⟨rfl, by rw [if_pos (eq_of_beq c)]⟩
 have b7 : (if h.same = 1 then w6V h (dot8 h.domain) ++ [59, 32, 83, 97, 109, 101, 83, 105, 116, 101, 61, 78, 111, 110, 101] else w6V h (dot8 h.domain)).length <= 80700 := by
   split
   · simp; omega
   · omega
 refine strJ (w := w3) (if h.same = 2 then w6V h (dot8 h.domain) ++ [59, 32, 83, 97, 109, 101, 83, 105, 116, 101, 61, 76, 97, 120] else (if h.same = 1 then w6V h (dot8 h.domain) ++ [59, 32, 83, 97, 109, 101, 83, 105, 116, 101, 61, 78, 111, 110, 101] else w6V h (dot8 h.domain))) ?_ ?_
 · refine ⟨rfl, _, hh3.load1 qN rfl rfl, BCase.of (fun c => ⟨fits (by simp only [List.length_cons, List.length_nil]; omega), ?_⟩) (fun c => ⟨rfl, by rw [if_neg (beq_eq_false_iff_ne.1 c)]⟩)⟩
   rintro _ rfl
   have c := eq_of_beq c
   exact ⟨rfl, by rw [if_pos c, if_neg (by omega)]⟩
 have b8 : (if h.same = 2 then w6V h (dot8 h.domain) ++ [59, 32, 83, 97, 109, 101, 83, 105, 116, 101, 61, 76, 97, 120] else (if h.same = 1 then w6V h (dot8 h.domain) ++ [59, 32, 83, 97, 109, 101, 83, 105, 116, 101, 61, 78, 111, 110, 101] else w6V h (dot8 h.domain))).length <= 80700 := by
   split
   · simp; omega
   · exact b7
 have b9 : (w7V h (dot8 h.domain)).length <= 80800 := by
   rw [hs7]
   split
   · simp; omega
   split
   · simp; omega
   split
   · simp; omega
   · omega
 refine strJ (w := w3) (w7V h (dot8 h.domain)) ?_ ?_
 · refine ⟨rfl, _, hh3.load1 qN rfl rfl, BCase.of (fun c => ⟨fits (by simp only [List.length_cons, List.length_nil]; omega), ?_⟩) (fun c => ⟨rfl, ?_⟩)⟩
   · rintro _ rfl
     have c := eq_of_beq c
     refine ⟨rfl, ?_⟩
     have c1 : ¬ h.same = 1 := by omega
     have c2 : ¬ h.same = 2 := by omega
     rw [hs7]
     simp only [if_neg c1, if_neg c2, if_pos c]
   · have c := beq_eq_false_iff_ne.1 c
     rw [hs7]
     by_cases c1 : h.same = 1
     · have c2 : ¬ h.same = 2 := by omega
       simp only [if_pos c1, if_neg c2]
     by_cases c2 : h.same = 2
     · simp only [if_pos c2, if_neg c1]
     · simp only [if_neg c1, if_neg c2, if_neg c]
 -- read again
 refine callK (qeT _ (by omega) w3) ?_
 rintro _ w4 ⟨rfl, hb4⟩
 have hB4 := qb hB3 hb4 hB3.size
 have hh4 := hh3.below hb4
 refine ⟨_, _, _, _, _, _, _, _, _, _, _, _, rfl, ?_⟩
 refine qoB (qM (w7V h (dot8 h.domain))).1 w4 fun k5 w5 hk5 h5 hb5 => ?_
 have hB5 := qb hB4 hb5 hB4.size
 refine BCase.of (fun c => ⟨[], ?_, hB5⟩) (fun c => ?_)
 · have c : (qM (w7V h (dot8 h.domain))).2 ≠ 0 := by simpa using c
   rw [hbad fun hx => c (by rw [hx])]
 have c : (qM (w7V h (dot8 h.domain))).2 = 0 := by simpa using c
 refine ⟨_, _, _, _, _, _, _, _, _, _, _, zo _ h5, _, _, _, _, _, _, _, _, _, _, _, zo _ (hh4.below hb5), _, qpo _ _ _, BCase.of (fun c2 => ⟨[], ?_, hB5⟩) (fun c2 => ⟨w7V h (dot8 h.domain), ?_, hB5⟩)⟩
 · rw [Bool.not_eq_true'] at c2
   rw [hbad fun hx => ?_]
   rw [hx] at c2
   have := (qcP h h).2 rfl
   rw [this] at c2; cases c2
 · rw [Bool.not_eq_false', qcP] at c2
   rw [qdU.2 (Prod.ext c2 c)]
end Go.Proofs.YtndbpedpdbjkpaaGreatDoor
namespace Go.Pk
open Go.RowKit (Below)
theorem qfK {rs : List Rul} {u : Url} (o : u.ok) (h : Hdr) (now : Int) : (takV rs u h now).1.ok := by
 unfold takV
 split
 · rfl
 split
 · rfl
 · exact qjA o _
end Go.Pk
namespace Go.Proofs.YtndbpedpdbjkpaaGreatDoor
open Go.Pk
open Go.RowKit (Below)
theorem zD (s p : List UInt8) (hp : p.length <= 1000) (w : World) : Calls prog qO #[.string (mkS s), .string (mkS p)] w (Ret fun v w' => v = .bool (decide (lowL (s.take p.length) = p)) /\ Below w.heap.size w w') := by
 apply j4
 unfold zL
 refine BCase.of (fun c => ?_) (fun c => ⟨?_, Below.refl _ _⟩)
 · refine ⟨⟨by omega, by simpa using c⟩, ?_⟩
   rintro _ rfl
   rw [Int.toNat_natCast]
   refine callK (ref01_Lower_ok _ (by rw [List.length_take]; omega) w) ?_
   rintro _ w2 ⟨rfl, hb2⟩
   refine ⟨_, rfl, ?_, hb2⟩
   congr 1
   rw [Bool.eq_iff_iff]; simp
 · rw [decide_eq_false]
   intro e
   have := congrArg List.length e
   simp [lowL] at this c; omega
theorem jU (s : List UInt8) (w : World) : Calls prog qT #[.string (mkS s)] w (Ret fun v w' => v = .int .i64 (jF s) /\ Below w.heap.size w w') := by
 apply j6
 unfold zE
 refine callK (zD s pSec (by decide) w) ?_
 rintro _ w1 ⟨rfl, hB1⟩
 refine ⟨_, rfl, BCase.of (fun c => ⟨?_, hB1⟩) (fun c => ?_)⟩
 · have c : lowL (s.take 9) = pSec := of_decide_eq_true c
   unfold jF; rw [if_pos c]
 have c : ¬ lowL (s.take 9) = pSec := of_decide_eq_false c
 refine callK (zD s pHos (by decide) w1) ?_
 rintro _ w2 ⟨rfl, hb2⟩
 have hB2 := qb hB1 hb2 hB1.size
 refine ⟨_, rfl, BCase.of (fun c2 => ⟨?_, hB2⟩) (fun c2 => ⟨?_, hB2⟩)⟩
 · have c2 : lowL (s.take 7) = pHos := of_decide_eq_true c2
   unfold jF; rw [if_neg c, if_pos c2]
 · have c2 : ¬ lowL (s.take 7) = pHos := of_decide_eq_false c2
   unfold jF; rw [if_neg c, if_neg c2]
end Go.Proofs.YtndbpedpdbjkpaaGreatDoor
namespace Go.Pk
open Go.RowKit (Below)
theorem qfs {c c' : Cky} (o : c.ok) (j : Nat) (v : Value) (hh : c'.host = c.host) (hn : c'.name = c.name) (hv : c'.value = c.value) (e : c.tail.set j v = c'.tail) : c.cells.set (20 + j) v = c'.cells := by
 unfold Cky.cells
 rw [show 20 + j = (18 + j) + 1 + 1 by omega, List.set_cons_succ, List.set_cons_succ, List.set_append_right _ _ (by rw [Hst.len o]; omega), Hst.len o, show 18 + j - 18 = j by omega, e, hh, hn, hv]
theorem qn0 {c : Cky} (o : c.ok) (h : Hst) : c.cells.take 2 ++ h.cells ++ c.cells.drop (2 + 18) = ({ c with host := h } : Cky).cells := by
 unfold Cky.cells
 rw [show 2 + 18 = 18 + 1 + 1 from rfl, List.drop_succ_cons, List.drop_succ_cons, List.drop_append_of_le_length (by rw [Hst.len o]; exact Nat.le_refl _), List.drop_of_length_le (by rw [Hst.len o]; exact Nat.le_refl _)]; rfl
structure StC (w0 : World) (tc tu th : TypeId) (k8 k10 k13 k5 k6 : Nat) (u : Url) (h : Hdr) (c : Cky) (w : World) : Prop where
 hc : qm w k13 tc c.cells
 h8 : qm w k8 tc cky0.cells
 hX : qm w k10 tc cky0.cells
 h5 : qm w k5 tu u.cells
 h6 : qm w k6 th h.cells
 hb : Below w0.heap.size w0 w
 n8 : k8 ≠ k13
 nX : k10 ≠ k13
 n5 : k5 ≠ k13
 n6 : k6 ≠ k13
 p8 : w0.heap.size <= k8
 p13 : w0.heap.size <= k13
 ok : c.ok
theorem StC.below {w0 : World} {tc tu th : TypeId} {k8 k10 k13 k5 k6 : Nat} {u : Url} {h : Hdr} {c : Cky} {w w' : World} (S : StC w0 tc tu th k8 k10 k13 k5 k6 u h c w) (hb : Below w.heap.size w w') : StC w0 tc tu th k8 k10 k13 k5 k6 u h c w' :=
 ⟨S.hc.below hb, S.h8.below hb, S.hX.below hb, S.h5.below hb, S.h6.below hb, qb S.hb hb S.hb.size, S.n8, S.nX, S.n5, S.n6, S.p8, S.p13, S.ok⟩
theorem StC.put {P : Program} {x : TypeId} {bytes : Nat} {z : Value} (tf : TF P x 1 bytes z) {w0 : World} {tc tu th : TypeId} {k8 k10 k13 k5 k6 : Nat} {u : Url} {h : Hdr} {c c' : Cky} {w : World} (S : StC w0 tc tu th k8 k10 k13 k5 k6 u h c w)
   {j : Nat} {v : Value} (hj : j < 9) (h1 : v.oneCell' = true) (hv : v.cells = #[v]) (e : c.cells.set (20 + j) v = c'.cells) (o : c'.ok) :
   ∃ wx, (Instr.storeAt x (.pointer (some ⟨k13, 20 + j, none⟩)) v).run P w = .ok () wx /\ StC w0 tc tu th k8 k10 k13 k5 k6 u h c' wx := by
 obtain ⟨wx, hs, ha, hg⟩ := S.hc.put tf (i := 20 + j) (v := v) (by rw [Cky.len S.ok]; omega) h1 hv
 exact ⟨wx, hs, e ▸ ha, S.h8.grown hg (qP S.n8), S.hX.grown hg (qP S.nX), S.h5.grown hg (qP S.n5), S.h6.grown hg (qP S.n6), Below.put S.hb hg S.p13, S.n8, S.nX, S.n5, S.n6, S.p8, S.p13, o⟩
theorem StC.putH {P : Program} {x : TypeId} (wh : Whl P x 18) {w0 : World} {tc tu th : TypeId} {k8 k10 k13 k5 k6 : Nat} {u : Url} {h : Hdr} {c : Cky} {w : World} (S : StC w0 tc tu th k8 k10 k13 k5 k6 u h c w) {d : Hst} (o : d.ok) :
   ∃ wx, (Instr.storeAt x (.pointer (some ⟨k13, 2, none⟩)) d.v).run P w = .ok () wx /\ StC w0 tc tu th k8 k10 k13 k5 k6 u h { c with host := d } wx := by
 obtain ⟨wx, hs, ha, hg⟩ := wh.store (Hst.len o) (Hst.one d) S.hc (i := 2) (by rw [Cky.len S.ok]; decide)
 rw [qn0 S.ok] at ha
 exact ⟨wx, hs, ha, S.h8.grown hg (qP S.n8), S.hX.grown hg (qP S.nX), S.h5.grown hg (qP S.n5), S.h6.grown hg (qP S.n6), Below.put S.hb hg S.p13, S.n8, S.nX, S.n5, S.n6, S.p8, S.p13, o⟩
end Go.Pk

namespace Go.Proofs.YtndbpedpdbjkpaaGreatDoor
open Go.Pk
open Go.RowKit (Below)
theorem qft {A : Bl} {a0 : Option Addr} {l0 c0 : Nat} {rs : List Rul} {w : World} (hs : Sl tRul w A a0 l0 c0 rs) (hl : rs.length <= 1000000) (hr : ∀ r ∈ rs, r.2.length <= 80000000)
   {u : Url} (o : u.ok) (hn : u.host.name.length <= 80000000) (hp : u.path.length <= 1000000000) (h : Hdr) (ho : qda h) (now : Int) :
   Calls prog qbY #[.slice a0 l0 c0, u.v, h.v, .int .i64 now] w (Ret (qc9 (rs.filter rulR) u h now w)) := by
 refine qeD _ _ _ u.v h.name h.value h.domain h.path h.hasE h.exp h.hasA h.age h.sec h.http h.same now ?_
 unfold qcN
 intro k5 w5 hk5 hw5
 have hB5 := (hw5 ▸ qf w _ : Below w.heap.size w w5)
 have h5 : qm w5 k5 qg u.cells := qm.new hk5 hw5
 intro k6 w6 hk6 hw6
 obtain ⟨hh6, hb6⟩ := qeE h w5 hk6 hw6
 have hB6 := qb hB5 hb6 hB5.size
 intro k8 w8 hk8 hw8
 have hb8 := (hw8 ▸ qf w6 _ : Below w6.heap.size w6 w8)
 have hB8 := qb hB6 hb8 hB6.size
 have h8 : qm w8 k8 qa cky0.cells := qm.new hk8 hw8
 have h58 := (h5.below hb6).below hb8
 have h68 := hh6.below hb8
 have hk8w : w.heap.size <= k8 := by have := hB6.size; omega
 clear h5 hh6 hb6 hb8 hk5 hw5 hk6 hw6 hk8 hw8 hB5 hB6
 refine qS.new (zs := cky0.cells) (cs := cky0.cells) rfl rfl (Cky.one _) w8 fun k10 w10 hk10 hX hb10 => ?_
 have h510 := h58.below hb10
 have h610 := h68.below hb10
 have h810 := h8.below hb10
 have hB10 := qb hB8 hb10 hB8.size
 have lt5 := h510.lt
 have lt6 := h610.lt
 have lt8 := h810.lt
 have ltX := hX.lt
 clear h58 h68 h8 hB8 hk10 hb10
 generalize hRS : rs.filter rulR = RS at *
 -- a result
 have fin : ∀ {wx : World} {c : Cky} {e : Int}, c.ok -> takV RS u h now = (c, e) -> qm wx k8 qa cky0.cells -> Below w.heap.size w wx -> ∃ wy, (Instr.storeAt qa (.pointer (some ⟨k8, 0, none⟩)) c.v).run prog wx = .ok () wy /\ ∃ vr : Value, (qC qa (.pointer (some ⟨k8, 0, none⟩))).run prog wy = .ok vr wy /\
     qc9 RS u h now w (.tuple #[vr, .int .i64 e]) wy := fun {wx c e} oc hv h8x hBx =>
   qS.fin (K := fun vr wy => qc9 RS u h now w (.tuple #[vr, .int .i64 e]) wy) (cs := c.cells) (Cky.len oc) (Cky.one c) h8x rfl hBx hk8w fun wy hb => ⟨by rw [hv]; rfl, hb⟩
 have bad : ∀ {wx : World} {e : Int}, takV RS u h now = (cky0, e) -> qm wx k10 qa cky0.cells -> qm wx k8 qa cky0.cells -> Below w.heap.size w wx -> ∃ v : Value, (Instr.loadAt qa (.pointer (some ⟨k10, 0, none⟩))).run prog wx = .ok v wx /\
     ∃ wy, (Instr.storeAt qa (.pointer (some ⟨k8, 0, none⟩)) v).run prog wx = .ok () wy /\ ∃ vr : Value, (qC qa (.pointer (some ⟨k8, 0, none⟩))).run prog wy = .ok vr wy /\ qc9 RS u h now w (.tuple #[vr, .int .i64 e]) wy := fun {wx e} hv hXx h8x hBx =>
   ⟨_, qS.load0 hXx rfl, fin (c := cky0) rfl hv h8x hBx⟩
 have hG : givV u h now = if (!uRight u) = true then 41 else if (!qaT h) = true then 82 else if now < 0 then 122 else if 1099511627776 < now then 122 else 0 := rfl
 have gbad : ∀ {e : Int}, givV u h now = e -> e ≠ 0 -> takV RS u h now = (cky0, e) := fun {e} he hne => by unfold takV; rw [he, if_pos hne]
 refine ⟨_, qas.load0 h510 (Url.len o), ?_⟩
 refine callK (qeY o hn (by omega) w10) ?_
 rintro _ w11 ⟨rfl, hb11⟩
 have hB11 := qb hB10 hb11 hB10.size
 refine ⟨_, rfl, BCase.of (fun c1 => bad (gbad (by rw [hG, if_pos c1]) (by decide)) (hX.below hb11) (h810.below hb11) hB11) (fun c1 => ?_)⟩
 rw [if_neg (by rw [c1]; decide)] at hG
 refine ⟨_, _, _, _, _, _, _, _, _, _, _, zo h (h610.below hb11), ?_⟩
 refine callK (qfE h ho w11) ?_
 rintro _ w12 ⟨s12, rfl, hb12⟩
 have hb1012 := qb hb11 hb12 hb11.size
 have hB12 := qb hB10 hb1012 hB10.size
 refine ⟨_, _, rfl, BCase.of (fun c2 => bad (gbad (by rw [hG, if_pos c2]) (by decide)) (hX.below hb1012) (h810.below hb1012) hB12) (fun c2 => ?_)⟩
 rw [if_neg (by rw [c2]; decide)] at hG
 refine factJ (w := w12) (givV u h now = 0) ?_ ?_
 · refine qav (w := w12) (decide (now < 0) || decide (1099511627776 < now)) ?_ ?_
   · exact BCase.of (fun c3 => ⟨rfl, by rw [c3]; rfl⟩) (fun c3 => ⟨rfl, by rw [c3]; rfl⟩)
   refine BCase.of (fun c3 => bad (gbad ?_ (by decide)) (hX.below hb1012) (h810.below hb1012) hB12) (fun c3 => ⟨rfl, ?_⟩)
   · rw [hG]
     rw [Bool.or_eq_true, dTx, dTx] at c3
     by_cases c4 : now < 0
     · rw [if_pos c4]
     · rw [if_neg c4, if_pos (c3.resolve_left c4)]
   · rw [Bool.or_eq_false_iff, dFx, dFx] at c3
     rw [hG, if_neg c3.1, if_neg c3.2]
 intro hg0
 have hT : takV RS u h now = if errV u h (domV RS u.host h.domain) ≠ 0 then (cky0, errV u h (domV RS u.host h.domain)) else (ckyV u h (domV RS u.host h.domain) now, 0) := by unfold takV; rw [if_neg (by rw [hg0]; decide)]
 clear hG gbad c1 c2
 have h6C := h610.below hb1012
 have h5C := h510.below hb1012
 refine ⟨rfl, _, h6C.load1 un_string rfl rfl, rfl, _, h6C.load1 un_string rfl rfl, rfl, _, qs.load h5C (i := 1) (us := u.host.cells) (Hst.len o) (fun j hj => qdj o hj), rfl, _, h6C.load1 un_string rfl rfl, rfl, _, h6C.load1 un_bool rfl rfl, rfl, _, h6C.load1 un_bool rfl rfl, rfl, _, h6C.load1 qN rfl rfl, _, qls _ _ o _ _ _ _ _ _ _ _ w12, ?_⟩
 have oC : (⟨h.name, h.value, u.host, true, h.path, h.sec, h.http, h.same, 9223372036854775807, now, now, 0⟩ : Cky).ok := o
 refine qS.new (zs := cky0.cells) (cs := (⟨h.name, h.value, u.host, true, h.path, h.sec, h.http, h.same, 9223372036854775807, now, now, 0⟩ : Cky).cells) rfl (Cky.len oC) (Cky.one _) w12 fun k13 w13 hk13 h13 hb13 => ?_
 have sz := hb1012.size
 have hb1013 := qb hb1012 hb13 hb1012.size
 have S0 : StC w qa qg qd k8 k10 k13 k5 k6 u h ⟨h.name, h.value, u.host, true, h.path, h.sec, h.http, h.same, 9223372036854775807, now, now, 0⟩ w13 :=
   ⟨h13, h810.below hb1013, hX.below hb1013, h510.below hb1013, h610.below hb1013, qb hB10 hb1013 hB10.size, by omega, by omega, by omega, by omega, hk8w, by have := hB12.size; omega, oC⟩
 clear h13 h810 hX h510 h610 hB10 hB11 hB12 hb11 hb12 hb1012 hb1013 hk13 h6C h5C hb13 lt5 lt6 lt8 ltX sz
 have ebad : ∀ {wx : World} {c : Cky} {e : Int}, errV u h (domV RS u.host h.domain) = e -> e ≠ 0 -> StC w qa qg qd k8 k10 k13 k5 k6 u h c wx -> ∃ v : Value, (Instr.loadAt qa (.pointer (some ⟨k10, 0, none⟩))).run prog wx = .ok v wx /\
     ∃ wy, (Instr.storeAt qa (.pointer (some ⟨k8, 0, none⟩)) v).run prog wx = .ok () wy /\ ∃ vr : Value, (qC qa (.pointer (some ⟨k8, 0, none⟩))).run prog wy = .ok vr wy /\ qc9 RS u h now w (.tuple #[vr, .int .i64 e]) wy := fun {wx c e} he hne S =>
   bad (by rw [hT, he, if_pos hne]) S.hX S.h8 S.hb
 have lu : ∀ {wx c}, StC w qa qg qd k8 k10 k13 k5 k6 u h c wx -> (Instr.loadAt qc (.pointer (some ⟨k5, 1, none⟩))).run prog wx = .ok u.host.v wx := fun S => qs.load S.h5 (i := 1) (us := u.host.cells) (Hst.len o) (fun j hj => qdj o hj)
 -- the domain
 refine worldJ (fun w' => ∃ d only, domV RS u.host h.domain = (d, only, 0) /\ StC w qa qg qd k8 k10 k13 k5 k6 u h ⟨h.name, h.value, d, only, h.path, h.sec, h.http, h.same, 9223372036854775807, now, now, 0⟩ w') ?_ ?_
 · refine ⟨rfl, _, S0.h6.load1 un_string rfl rfl, BCase.of (fun c1 => ?_) (fun c1 => ?_)⟩
   · have c1 : h.domain ≠ [] := by simpa using c1
     have hV : domV RS u.host h.domain = match hostV h.domain with
         | none => (hst0, false, 101)
         | some d => if (pubB RS d && !j8 d u.host) = true then (d, false, 102) else if (!domB u.host d) = true then (d, false, 103) else (d, pubB RS d, 0) := if_neg c1
     refine ⟨rfl, _, S0.h6.load1 un_string rfl rfl, ?_⟩
     refine callK (ref03_Parse_ok h.domain (by have := ho.domain; omega) w13) ?_
     rintro _ w14 ⟨rfl, hb14⟩
     rw [qat]
     refine ⟨_, _, rfl, ?_⟩
     have hok := qcr fun x hx => jG (s := h.domain) hx
     refine qs.new (zs := hst0.cells) (cs := ((hostV h.domain).getD hst0).cells) rfl (Hst.len hok) (Hst.one _) w14 fun k14 w15 hk14 h14 hb15 => ?_
     have S1 := (S0.below hb14).below hb15
     have err : ∀ {d : Hst} {b : Bool} {e : Int}, domV RS u.host h.domain = (d, b, e) -> e ≠ 0 -> errV u h (domV RS u.host h.domain) = e := fun {d b e} hd hne => by rw [hd]; unfold errV; rw [if_pos hne]
     cases hd : hostV h.domain with
     | none =>
       rw [hd] at hV
       exact BCase.yes rfl (ebad (err hV (by decide)) (by decide) S1)
     | some d =>
       rw [hd] at hV h14 hok
       simp only [Option.getD_some] at h14 hok
       have hV : domV RS u.host h.domain = if (pubB RS d && !j8 d u.host) = true then (d, false, 102) else if (!domB u.host d) = true then (d, false, 103) else (d, pubB RS d, 0) := hV
       have hdn : d.name.length <= 80000000 := by have := qah hd; omega
       refine BCase.no rfl ⟨_, qs.load0 h14 (Hst.len hok), ?_⟩
       refine callK (qbT (hs.below S1.hb) hl hr hok hdn) ?_
       rw [hRS]
       rintro _ w16 ⟨rfl, hb16⟩
       have S2 := S1.below hb16
       have h142 := h14.below hb16
       refine ⟨_, rfl, ?_⟩
       refine factJ (w := w16) ((pubB RS d && !j8 d u.host) = false) ?_ ?_
       · refine qav (w := w16) (pubB RS d && !j8 d u.host) ?_ ?_
         · refine BCase.of (fun c2 => ?_) (fun c2 => ⟨rfl, by rw [c2]; rfl⟩)
           exact ⟨_, qs.load0 h142 (Hst.len hok), rfl, _, lu S2, _, qo3 hok o w16, rfl, by rw [c2]; rfl⟩
         · exact BCase.of (fun c2 => ebad (err (by rw [hV, if_pos c2]) (by decide)) (by decide) S2) (fun c2 => ⟨rfl, c2⟩)
       intro c2
       rw [if_neg (by rw [c2]; decide)] at hV
       refine ⟨rfl, _, lu S2, _, qs.load0 h142 (Hst.len hok), ?_⟩
       refine callK (qbK o hok hn hdn w16) ?_
       rintro _ w17 ⟨rfl, hb17⟩
       have S3 := S2.below hb17
       have h143 := h142.below hb17
       refine ⟨_, rfl, BCase.of (fun c3 => ebad (err (by rw [hV, if_pos c3]) (by decide)) (by decide) S3) (fun c3 => ?_)⟩
       rw [if_neg (by rw [c3]; decide)] at hV
       refine BCase.of (fun c4 => ?_) (fun c4 => ?_)
       · have c4 : pubB RS d = false := by simpa using c4
         obtain ⟨w18, hs18, S4⟩ := S3.putH (P := prog) qs hok
         refine ⟨_, qs.load0 h143 (Hst.len hok), rfl, w18, hs18, rfl, ?_⟩
         obtain ⟨w19, hs19, S5⟩ := S4.put (P := prog) qca (j := 0) (v := .bool false) (by decide) rfl rfl (qfs (c' := ⟨h.name, h.value, d, false, h.path, h.sec, h.http, h.same, 9223372036854775807, now, now, 0⟩) S4.ok 0 _ rfl rfl rfl rfl) hok
         exact ⟨w19, hs19, d, false, by rw [hV, c4], S5⟩
       · have c4 : pubB RS d = true := by simpa using c4
         rw [c4, Bool.true_and, Bool.not_eq_false'] at c2
         have e := (j7 hok o).1 c2
         exact ⟨u.host, true, by rw [hV, c4, e], S3⟩
   · have c1 : h.domain = [] := by simpa using c1
     exact ⟨u.host, true, by unfold domV; rw [if_pos c1], S0⟩
 rintro w14 ⟨d, only, hD, S1⟩
 rw [hD] at hT ebad
 have od : d.ok := S1.ok
 have herr : errV u h (d, only, 0) = if (h.sec && !u.sec) = true then 104 else if (decide (h.same = 1) && !h.sec) = true then 105 else if qen h only = true then 106 else 0 := rfl
 have hck : ckyV u h (d, only, 0) now = ⟨h.name, h.value, d, only, if h.path = [] then defV u.path else h.path, h.sec, h.http, h.same, expV h now, now, now, 0⟩ := rfl
 generalize hP : (if h.path = [] then defV u.path else h.path) = P at *
 -- the path
 refine worldJ (fun w' => StC w qa qg qd k8 k10 k13 k5 k6 u h ⟨h.name, h.value, d, only, P, h.sec, h.http, h.same, 9223372036854775807, now, now, 0⟩ w') ?_ ?_
 · refine ⟨rfl, _, S1.hc.load1 un_string rfl (jo S1.ok 1), BCase.of (fun c1 => ?_) (fun c1 => ?_)⟩
   · have c1 : h.path = [] := eq_of_beq c1
     rw [if_pos c1] at hP
     refine ⟨rfl, _, S1.h5.load1 un_string rfl (qcE o), ?_⟩
     refine callK (qbl u.path (by omega) w14) ?_
     rintro _ w15 ⟨rfl, hw15⟩
     rw [hw15]; clear hw15
     refine ⟨_, rfl, rfl, ?_⟩
     obtain ⟨w16, hs16, S2⟩ := S1.put (P := prog) zl (j := 1) (v := .string (mkS (defV u.path))) (by decide) rfl rfl (qfs (c' := ⟨h.name, h.value, d, only, defV u.path, h.sec, h.http, h.same, 9223372036854775807, now, now, 0⟩) S1.ok 1 _ rfl rfl rfl rfl) od
     rw [hP] at S2 hs16
     rw [hP]
     exact ⟨w16, hs16, S2⟩
   · have c1 : ¬ h.path = [] := beq_eq_false_iff_ne.1 c1
     rw [if_neg c1] at hP
     rw [<- hP]; exact S1
 intro w15 S2
 -- Secure
 refine factJ (w := w15) ((h.sec && !u.sec) = false) ?_ ?_
 · refine qav (w := w15) (h.sec && !u.sec) ?_ ?_
   · exact ⟨rfl, _, S2.h6.load1 un_bool rfl rfl, BCase.of (fun c3 => ⟨rfl, _, S2.h5.load1 un_bool rfl (i := 0) rfl, rfl, by rw [c3]; rfl⟩) (fun c3 => ⟨rfl, by rw [c3]; rfl⟩)⟩
   · exact BCase.of (fun c3 => ebad (by rw [herr, if_pos c3]) (by decide) S2) (fun c3 => ⟨rfl, c3⟩)
 intro c3
 rw [if_neg (by rw [c3]; decide)] at herr
 -- SameSite
 refine factJ (w := w15) ((decide (h.same = 1) && !h.sec) = false) ?_ ?_
 · refine qav (w := w15) (decide (h.same = 1) && !h.sec) ?_ ?_
   · exact ⟨rfl, _, S2.h6.load1 qN rfl rfl, BCase.of (fun c4 => ⟨rfl, _, S2.h6.load1 un_bool rfl rfl, rfl, by rw [decide_eq_true (eq_of_beq c4)]; rfl⟩) (fun c4 => ⟨rfl, by rw [decide_eq_false (beq_eq_false_iff_ne.1 c4)]; rfl⟩)⟩
   · exact BCase.of (fun c4 => ebad (by rw [herr, if_pos c4]) (by decide) S2) (fun c4 => ⟨rfl, c4⟩)
 intro c4
 rw [if_neg (by rw [c4]; decide)] at herr
 -- what the name promises
 refine ⟨rfl, _, S2.h6.load1 un_string rfl rfl, ?_⟩
 refine strJ (w := w15) (qdC h) ?_ ?_
 · unfold qdC
   exact BCase.of (fun c => ⟨rfl, _, S2.h6.load1 un_string rfl rfl, rfl, by rw [if_pos (eq_of_beq c)]⟩) (fun c => ⟨rfl, by rw [if_neg (beq_eq_false_iff_ne.1 c)]⟩)
 refine callK (jU (qdC h) w15) ?_
 rintro _ w16 ⟨rfl, hb16⟩
 have S3 := S2.below hb16
 have hbr : qen h only = if jF (qdC h) = 1 then !h.sec else if jF (qdC h) = 2 then (!h.sec || (!only || !(h.path == [47]))) else false := rfl
 have lsec := S3.h6.load1 (P := prog) (i := 8) un_bool rfl rfl
 refine ⟨_, rfl, ?_⟩
 refine factJ (w := w16) (qen h only = false) ?_ ?_
 · refine qav (w := w16) (qen h only) ?_ ?_
   · have two : ∀ {J : FP [.one (.bool)]}, (jF (qdC h) = 2 -> J (!h.sec || (!only || !(h.path == [47]))) w16) -> (¬ jF (qdC h) = 2 -> J false w16) -> BCase (jF (qdC h) == 2)
         ((true = true) /\ ∃ b134 : Bool, (Instr.loadAt qy (.pointer (some ⟨k6, 8, none⟩))).run prog w16 = .ok (.bool b134) w16 /\ BCase (!b134) (J true w16)
           ((true = true) /\ ∃ b138 : Bool, (Instr.loadAt qy (.pointer (some ⟨k13, 20, none⟩))).run prog w16 = .ok (.bool b138) w16 /\ BCase (!b138) (J true w16)
             ((true = true) /\ ∃ s143 : List UInt8, (Instr.loadAt qe (.pointer (some ⟨k6, 3, none⟩))).run prog w16 = .ok (.string (mkS s143)) w16 /\ J (!(s143 == [47])) w16))) (J false w16) := fun {J} hy hn => by
       refine BCase.of (fun c => ?_) (fun c => hn (beq_eq_false_iff_ne.1 c))
       have hy := hy (eq_of_beq c)
       refine ⟨rfl, _, lsec, BCase.of (fun c2 => by rw [c2] at hy; exact hy) (fun c2 => ?_)⟩
       rw [c2, Bool.false_or] at hy
       refine ⟨rfl, _, S3.hc.load1 un_bool rfl (jo S3.ok 0), BCase.of (fun c3 => by rw [c3] at hy; exact hy) (fun c3 => ?_)⟩
       rw [c3, Bool.false_or] at hy
       exact ⟨rfl, _, S3.h6.load1 un_string rfl rfl, hy⟩
     refine BCase.of (fun c => ?_) (fun c => ?_)
     · have c := eq_of_beq c
       rw [if_pos c] at hbr
       refine ⟨rfl, _, lsec, BCase.of (fun c2 => ⟨rfl, by rw [hbr, c2]⟩) (fun c2 => ?_)⟩
       exact two (J := fun b w' => w' = w16 /\ b = qen h only) (fun hx => by rw [c] at hx; exact absurd hx (by decide)) (fun _ => ⟨rfl, by rw [hbr, c2]⟩)
     · have c := beq_eq_false_iff_ne.1 c
       rw [if_neg c] at hbr
       exact two (J := fun b w' => w' = w16 /\ b = qen h only) (fun hx => ⟨rfl, by rw [hbr, if_pos hx]⟩) (fun hx => ⟨rfl, by rw [hbr, if_neg hx]⟩)
   · exact BCase.of (fun c => ebad (by rw [herr, if_pos c]) (by decide) S3) (fun c => ⟨rfl, c⟩)
 intro c5
 rw [if_neg (by rw [c5]; decide)] at herr
 rw [herr, if_neg (by decide), hck] at hT
 -- when it ends
 refine worldJ (fun w' => ∃ e, e = (if h.hasE = true then (if i64.wrap (now + 34560000) < h.exp then i64.wrap (now + 34560000) else h.exp) else 9223372036854775807) /\ StC w qa qg qd k8 k10 k13 k5 k6 u h ⟨h.name, h.value, d, only, P, h.sec, h.http, h.same, e, now, now, 0⟩ w') ?_ ?_
 · refine ⟨rfl, _, S3.h6.load1 un_bool rfl rfl, BCase.of (fun c => ?_) (fun c => ⟨_, by rw [if_neg (by rw [c]; decide)], S3⟩)⟩
   refine ⟨rfl, _, S3.h6.load1 un_int64 rfl rfl, _, run_min_int2 _ _ _ _ _ _ _, rfl, ?_⟩
   rw [if_pos c]
   generalize (if i64.wrap (now + 34560000) < h.exp then i64.wrap (now + 34560000) else h.exp) = e
   obtain ⟨w17, hs17, S4⟩ := S3.put (P := prog) qew (j := 5) (v := .int .i64 e) (by decide) rfl rfl (qfs (c' := ⟨h.name, h.value, d, only, P, h.sec, h.http, h.same, e, now, now, 0⟩) S3.ok 5 _ rfl rfl rfl rfl) od
   exact ⟨w17, hs17, _, rfl, S4⟩
 rintro w17 ⟨e, he, S4⟩
 have hx : expV h now = if h.hasA = true then i64.wrap (now + h.age) else e := by rw [he]; rfl
 have hok : ∀ x : Int, (⟨h.name, h.value, d, only, P, h.sec, h.http, h.same, x, now, now, 0⟩ : Cky).ok := fun _ => od
 refine ⟨rfl, _, S4.h6.load1 un_bool rfl rfl, BCase.of (fun c => ?_) (fun c => ?_)⟩
 · rw [if_pos c] at hx
   refine ⟨rfl, _, S4.h6.load1 un_int64 rfl rfl, rfl, ?_⟩
   obtain ⟨w18, hs18, S5⟩ := S4.put (P := prog) qew (j := 5) (v := .int .i64 (i64.wrap (now + h.age))) (by decide) rfl rfl (qfs (c' := ⟨h.name, h.value, d, only, P, h.sec, h.http, h.same, i64.wrap (now + h.age), now, now, 0⟩) S4.ok 5 _ rfl rfl rfl rfl) od
   refine ⟨w18, hs18, _, qS.load0 S5.hc (Cky.len S5.ok), ?_⟩
   exact fin (hok _) (by rw [hT, hx]) S5.h8 S5.hb
 · rw [if_neg (by rw [c]; decide)] at hx
   refine ⟨_, qS.load0 S4.hc (Cky.len S4.ok), ?_⟩
   exact fin (hok _) (by rw [hT, hx]) S4.h8 S4.hb
end Go.Proofs.YtndbpedpdbjkpaaGreatDoor
set_option maxRecDepth 100000
namespace Go.Proofs.YtndbpedpdbjkpaaGreatDoor
open Go.Pk
open Go.RowKit (Below)
--  cracknel/cracknellaw10.both
def zU (a0 : Option Addr) (l0 c0 : Nat) (a1 : Option Addr) (l1 c1 : Nat) (w : World) (K : Value -> World -> Prop) : Prop :=
 ∃ I : Nat -> FP [.one (.int .i64)],
 (∃ m, I m (0 : Int) w) /\
 ∀ m n11, AllJ 10 (∀ wl, I m n11 wl ->
 BCase (decide (n11 < ((l0 : Nat) : Int)))
 (((0 <= n11 /\ n11 < ((l0 : Nat) : Int)) /\ Option.isSome a0 = true) /\
 ∃ n14_0 s14_1, Ld ql (qn a0 n11 2) wl (.agg #[.int .i64 n14_0, .string (mkS s14_1)]) /\
 ∀ k6 w6, k6 = wl.heap.size -> w6 = wl.alloc (.cells #[.int .i64 (0 : Int), .string (mkS [])] ql) ->
 ∃ wx, Sv ql (some ⟨k6, 0, none⟩) (.agg #[.int .i64 n14_0, .string (mkS s14_1)]) w6 wx /\
 (true = true) /\
 ∃ s16, Ld qe (some ⟨k6, 1, none⟩) wx (.string (mkS s16)) /\
 BCase (decide (((List.length s16 : Nat) : Int) > (300 : Int)))
 (K (.bool false) wx)
 (∃ m' : Nat, m' < m /\ I m' (i64.wrap (n11 + (1 : Int))) wx))
 (∃ I_1 : Nat -> FP [.one (.int .i64)],
 (∃ m_1, I_1 m_1 (0 : Int) wl) /\
 ∀ m_1 n22, AllJ 9 (∀ wl_1, I_1 m_1 n22 wl_1 ->
 BCase (decide (n22 < ((l1 : Nat) : Int)))
 (((0 <= n22 /\ n22 < ((l1 : Nat) : Int)) /\ Option.isSome a1 = true) /\
 ∃ s25, Ld qe (qn a1 n22 1) wl_1 (.string (mkS s25)) /\
 BCase (decide (((List.length s25 : Nat) : Int) > (2500 : Int)))
 (K (.bool false) wl_1)
 (∃ m'_1 : Nat, m'_1 < m_1 /\ I_1 m'_1 (i64.wrap (n22 + (1 : Int))) wl_1))
 (K (.bool (decide (((l0 : Nat) : Int) <= (30 : Int)))) wl_1))))
theorem qac (a0 : Option Addr) (l0 c0 : Nat) (a1 : Option Addr) (l1 c1 : Nat) {w : World} {K : Value -> World -> Prop} (h : zU a0 l0 c0 a1 l1 c1 w K) : Calls prog zr #[.slice a0 l0 c0, .slice a1 l1 c1] w (Ret K) :=
 qo (c := qr Tryz.f38) (by kernel_rfl) Tryz.func38 (by kernel_rfl) [(6, [(11, .one (.int .i64))]), (29, [(22, .one (.int .i64))])] [.slice a0 l0 c0, .slice a1 l1 c1] (of_decide_eq_true (by kernel_rfl)) _ (by kernel_rfl) h

--  cracknel/cracknellaw10.admitAlive
end Go.Proofs.YtndbpedpdbjkpaaGreatDoor
set_option maxRecDepth 20000
namespace Go.Pk
open Go.RowKit (Below)
def fewB (rs : List Rul) (ts : List (List UInt8)) : Bool := rs.all (fun r => decide (r.2.length <= 300)) && (ts.all (fun t => decide (t.length <= 2500)) && decide (rs.length <= 30))
end Go.Pk
namespace Go.Proofs.YtndbpedpdbjkpaaGreatDoor
open Go.Pk
open Go.RowKit (Below)
theorem qaD {A : Bl} {a0 : Option Addr} {l0 c0 : Nat} {rs : List Rul} {a1 : Option Addr} {l1 c1 : Nat} {ts : List (List UInt8)} {w : World} (hs : Sl tRul w A a0 l0 c0 rs) (ht : Sl tS w A a1 l1 c1 ts) (hl : rs.length <= 9223372036854775807) (hl2 : ts.length <= 9223372036854775807) :
   Calls prog zr #[.slice a0 l0 c0, .slice a1 l1 c1] w (Ret fun v w' => v = .bool (fewB rs ts) /\ Below w.heap.size w w') := by
 apply qac
 unfold zU
 have hn := hs.len
 have hn1 := ht.len
 subst hn hn1
 unfold fewB
 refine ⟨fun m i w' => ∃ k : Nat, k <= rs.length /\ i = (k : Int) /\ m = rs.length - k /\ (rs.take k).all (fun r => decide (r.2.length <= 300)) = true /\ Below w.heap.size w w', ⟨_, 0, by omega, rfl, rfl, rfl, Below.refl _ _⟩, ?_⟩
 intro m i
 refine AllJ.of ?_ _
 rintro w1 ⟨k, hk, rfl, rfl, hno, hB1⟩
 refine BCase.of (fun hi => ?_) (fun hi => ?_) <;> simp only [dTx, dFx] at hi
 · have hlt : k < rs.length := by omega
   have hs1 := hs.below hB1
   refine ⟨⟨⟨by omega, hi⟩, hs1.isSome hlt⟩, _, _, qdP hs1 hlt, ?_⟩
   refine zx.new (zs := rulC (0, [])) (cs := rulC rs[k]) rfl rfl (qbI _) w1 fun k6 w6 hk6 h6 hb6 => ?_
   have hB6 := qb hB1 hb6 hB1.size
   refine ⟨rfl, _, h6.load1 un_string rfl rfl, BCase.of (fun c => ⟨?_, hB6⟩) (fun c => ?_)⟩ <;> simp only [gt_iff_lt, dTx, dFx] at c
   · have : rs.all (fun r => decide (r.2.length <= 300)) = false := by
       rw [Bool.eq_false_iff]
       intro hx
       have := List.all_eq_true.1 hx _ (List.getElem_mem hlt)
       rw [dTx] at this; omega
     rw [this, Bool.false_and]
   · refine ⟨rs.length - (k + 1), by omega, k + 1, by omega, by rw [wrap_i64 (by omega) (by omega)]; omega, rfl, ?_, hB6⟩
     rw [List.take_succ_eq_append_getElem hlt, List.all_append, hno]
     simp; omega
 · have : k = rs.length := by omega
   subst this
   rw [List.take_length] at hno
   rw [hno, Bool.true_and]
   refine ⟨fun m i w' => ∃ k : Nat, k <= ts.length /\ i = (k : Int) /\ m = ts.length - k /\ (ts.take k).all (fun t => decide (t.length <= 2500)) = true /\ w' = w1, ⟨_, 0, by omega, rfl, rfl, rfl, rfl⟩, ?_⟩
   intro m i
   refine AllJ.of ?_ _
   rintro w2 ⟨k, hk, rfl, rfl, hno2, hw2⟩
   rw [hw2]; clear hw2
   have ht1 := ht.below hB1
   refine BCase.of (fun hi => ?_) (fun hi => ?_) <;> simp only [dTx, dFx] at hi
   · have hlt : k < ts.length := by omega
     refine ⟨⟨⟨by omega, hi⟩, ht1.isSome hlt⟩, _, ht1.text un_string hlt, BCase.of (fun c => ⟨?_, hB1⟩) (fun c => ?_)⟩ <;> simp only [gt_iff_lt, dTx, dFx] at c
     · have : ts.all (fun t => decide (t.length <= 2500)) = false := by
         rw [Bool.eq_false_iff]
         intro hx
         have := List.all_eq_true.1 hx _ (List.getElem_mem hlt)
         rw [dTx] at this; omega
       rw [this, Bool.false_and]
     · refine ⟨ts.length - (k + 1), by omega, k + 1, by omega, by rw [wrap_i64 (by omega) (by omega)]; omega, rfl, ?_, rfl⟩
       rw [List.take_succ_eq_append_getElem hlt, List.all_append, hno2]
       simp; omega
   · have : k = ts.length := by omega
     subst this
     rw [List.take_length] at hno2
     rw [hno2, Bool.true_and]
     refine ⟨?_, hB1⟩
     congr 1
     rw [Bool.eq_iff_iff, dTx, dTx]; omega
theorem qdQ {w w' : World} {k : Nat} {ts : List (List UInt8)} (hk : k = w.heap.size) (hw : w' = w.alloc (.cells (ts.map fun s => Value.string (mkS s)).toArray qe)) (hm : ts.length <= maxLen) : Sl tS w' AllB (some ⟨k, 0, none⟩) ts.length ts.length ts :=
 (Ow.newF (T := tS) (A := NoB) (jY _) hk hw (qbD fun _ _ => trivial) hm).all
end Go.Proofs.YtndbpedpdbjkpaaGreatDoor
namespace Go.Pk
open Go.RowKit (Below)
theorem qbF.base {w0 w1 : World} {t te : TypeId} {kt km : Nat} {a : Option Addr} {n c : Nat} {ps : List Pth} {kvs : List (qeH × Int)} {es : List (List Bool)} {rs : List Rul} {w : World} (S : qbF w1 t te kt km a n c ps kvs es rs w) (h : Below w0.heap.size w0 w1) : qbF w0 t te kt km a n c ps kvs es rs w :=
 ⟨S.h1, S.h2, S.h3, S.T, S.t, qb h S.hb h.size, S.ne, fun g hg => ⟨(S.og g hg).1, (S.og g hg).2.1, Nat.le_trans h.size (S.og g hg).2.2⟩, Nat.le_trans h.size S.kt0, Nat.le_trans h.size S.km0⟩
def TabP (w0 : World) (t te : TypeId) (rs : List Rul) (p : Option Addr) (w : World) : Prop := ∃ kt km a n c ps kvs es, p = some ⟨kt, 0, none⟩ /\ qbF w0 t te kt km a n c ps kvs es rs w
theorem TabP.below {w0 : World} {t te : TypeId} {rs : List Rul} {p : Option Addr} {w w' : World} (h : TabP w0 t te rs p w) (hb : Below w.heap.size w w') : TabP w0 t te rs p w' := by
 obtain ⟨kt, km, a, n, c, ps, kvs, es, e, S⟩ := h
 exact ⟨kt, km, a, n, c, ps, kvs, es, e, S.below hb⟩
structure StA (wb : World) (tt te tc : TypeId) (rs : List Rul) (t : Option (Option Addr)) (k : Option Nat) (w : World) : Prop where
 hb : Below wb.heap.size wb w
 ht : ∀ p, t = some p -> TabP wb tt te rs p w
 hk : ∀ x, k = some x -> qm w x tc cky0.cells /\ wb.heap.size <= x
theorem StA.below {wb : World} {tt te tc : TypeId} {rs : List Rul} {t : Option (Option Addr)} {k : Option Nat} {w w' : World} (S : StA wb tt te tc rs t k w) (hb : Below w.heap.size w w') : StA wb tt te tc rs t k w' :=
 ⟨qb S.hb hb S.hb.size, fun p e => (S.ht p e).below hb, fun x e => ⟨(S.hk x e).1.below hb, (S.hk x e).2⟩⟩
end Go.Pk
namespace Go.Proofs.YtndbpedpdbjkpaaGreatDoor
open Go.Pk
open Go.RowKit (Below)
structure AdC (wb : World) (a0 : Option Addr) (l0 c0 : Nat) (rs : List Rul) (k7 k8 : Nat) (u : Url) (h : Hdr) : Prop where
 he : Env wb
 hs : Sl tRul wb AllB a0 l0 c0 rs
 hl : rs.length <= 1000000
 hr : ∀ r ∈ rs, r.2.length <= 1000000
 hU : qm wb k7 qg u.cells
 hH : qm wb k8 qd h.cells
 ou : u.ok
 un : u.host.name.length <= 80000000
 up : u.path.length <= 1000000000
 ho : qda h
section
variable {wb : World} {a0 : Option Addr} {l0 c0 : Nat} {rs : List Rul} {k7 k8 : Nat} {u : Url} {h : Hdr} {t : Option (Option Addr)} {k : Option Nat} {w : World}
theorem ad_u (C : AdC wb a0 l0 c0 rs k7 k8 u h) (S : StA wb qq qt qa (rs.filter rulR) t k w) : (Instr.loadAt qg (.pointer (some ⟨k7, 0, none⟩))).run prog w = .ok u.v w := qas.load0 (C.hU.below S.hb) (Url.len C.ou)
theorem ad_h (C : AdC wb a0 l0 c0 rs k7 k8 u h) (S : StA wb qq qt qa (rs.filter rulR) t k w) : (Instr.loadAt qd (.pointer (some ⟨k8, 0, none⟩))).run prog w = .ok h.v w := zo h (C.hH.below S.hb)
theorem ad_new (C : AdC wb a0 l0 c0 rs k7 k8 u h) (S : StA wb qq qt qa (rs.filter rulR) none k w) {R : Option Addr -> World -> Prop} (H : ∀ p w', StA wb qq qt qa (rs.filter rulR) (some p) k w' -> R p w') :
   Calls prog qp #[.slice a0 l0 c0] w fun e w' => ∃ p : Option Addr, e = .returned (.pointer p) /\ R p w' := by
 refine callK (qbh (C.hs.below S.hb) C.hl C.hr (C.he.step S.hb)) ?_
 rintro _ w' ⟨kt, km, a, n, c, ps, kvs, es, rfl, T⟩
 refine ⟨_, rfl, H _ w' ?_⟩
 have S' := S.below T.hb
 exact ⟨S'.hb, fun p e => by cases e; exact ⟨kt, km, a, n, c, ps, kvs, es, rfl, T.base S.hb⟩, S'.hk⟩
theorem ad_take (C : AdC wb a0 l0 c0 rs k7 k8 u h) {p : Option Addr} (S : StA wb qq qt qa (rs.filter rulR) (some p) k w) {now : Int} {R : Value -> Int -> World -> Prop} (H : ∀ w', StA wb qq qt qa (rs.filter rulR) (some p) k w' -> R (takV (rs.filter rulR) u h now).1.v (takV (rs.filter rulR) u h now).2 w') :
   Calls prog qh #[.pointer p, u.v, h.v, .int .i64 now] w fun e w' => ∃ (v : Value) (n : Int), e = .returned (.tuple #[v, .int .i64 n]) /\ R v n w' := by
 obtain ⟨kt, km, a, n, c, ps, kvs, es, e, T⟩ := S.ht p rfl
 subst e
 refine callK (jv C.he T C.ou (by have := C.un; omega) C.up h C.ho now) ?_
 rintro _ w' ⟨rfl, hb⟩
 exact ⟨_, _, rfl, H w' (S.below hb)⟩
theorem ad_al (S : StA wb qq qt qa rs t none w) {R : Nat -> World -> Prop} (H : ∀ x w', StA wb qq qt qa rs t (some x) w' -> R x w') :
   ∀ (x : Nat) (w' : World), x = w.heap.size -> w' = w.alloc (.cells qj qa) -> R x w' := fun x w' hx hw => by
 have hb := (hw ▸ qf w _ : Below w.heap.size w w')
 have S' := S.below hb
 refine H x w' ⟨S'.hb, S'.ht, fun y e => ?_⟩
 cases e
 exact ⟨qm.new hx hw, by have := S.hb.size; omega⟩
theorem ad_st {x : Nat} (S : StA wb qq qt qa rs t (some x) w) {c : Cky} (o : c.ok) {R : World -> Prop} (H : ∀ wx, Below wb.heap.size wb wx -> qm wx x qa c.cells -> R wx) :
   ∃ wx : World, (Instr.storeAt qa (.pointer (some ⟨x, 0, none⟩)) c.v).run prog w = .ok () wx /\ R wx := by
 obtain ⟨h1, h2⟩ := S.hk x rfl
 obtain ⟨wx, hs, ha, hg⟩ := qS.store0 (Cky.len o) (Cky.one c) h1 rfl
 exact ⟨wx, hs, H wx (Below.put S.hb hg h2) ha⟩
end
end Go.Proofs.YtndbpedpdbjkpaaGreatDoor
namespace Go.Pk
open Go.RowKit (Below)
theorem qcR {rs : List Rul} {ts : List (List UInt8)} (h : fewB rs ts = true) : (∀ r ∈ rs, r.2.length <= 300) /\ (∀ t ∈ ts, t.length <= 2500) /\ rs.length <= 30 := by
 unfold fewB at h
 rw [Bool.and_eq_true, Bool.and_eq_true, List.all_eq_true, List.all_eq_true, dTx] at h
 exact ⟨fun r hr => of_decide_eq_true (h.1 r hr), fun t ht => of_decide_eq_true (h.2.1 t ht), h.2.2⟩
theorem qfO {s : List UInt8} (h : pathB s = true) : s.length <= 2048 := by
 unfold pathB at h
 rw [Bool.and_eq_true, Bool.and_eq_true, dTx, dTx] at h
 exact h.2.1
theorem qdb (r : List UInt8) (b : Bool) : (urlR r b).1.host.name.length <= 253 /\ (urlR r b).1.path.length <= 2048 := by
 unfold urlR
 split
 · exact ⟨by decide, by decide⟩
 · rename_i h hh
   split
   · exact ⟨by decide, by decide⟩
   · split
     · rename_i hp
       refine ⟨?_, qfO hp⟩
       unfold qiq at hh
       split at hh
       · cases hh
       · exact qah hh
     · exact ⟨by decide, by decide⟩
theorem qc6 (s : List UInt8) : (urlV s).1.host.name.length <= 253 /\ (urlV s).1.path.length <= 2048 := by
 unfold urlV
 split
 · exact ⟨by decide, by decide⟩
 · exact qdb _ _
theorem qeO : qda hdr0 := ⟨by decide, by decide, by decide, by decide, by decide, by decide⟩
theorem qb7 {s : List UInt8} (h : (qM s).2 ≠ 0) : (qM s).1 = hdr0 := by
 unfold qM at h ⊢
 split
 · rfl
 split
 · rfl
 split
 · rfl
 · rename_i h1 h2 h3
   rw [if_neg h1, if_neg h2, if_neg h3] at h
   exact absurd rfl h
theorem qdk (s : List UInt8) : qda (qM s).1 := by
 by_cases h : (qM s).2 = 0
 · exact qih (parse_good (s := s) (Prod.ext rfl h))
 · rw [qb7 h]; exact qeO
end Go.Pk
set_option maxRecDepth 100000
namespace Go.Proofs.YtndbpedpdbjkpaaGreatDoor
open Go.Pk
open Go.RowKit (Below)
--  cracknel/cracknellaw10.AdmitTakes
def qek (a0 : Option Addr) (l0 c0 : Nat) (s1_0 : List UInt8) (s1_1 : List UInt8) (n2 : Int) (w : World) (K : Value -> World -> Prop) : Prop :=
 ∀ k4 w4, k4 = w.heap.size -> w4 = w.alloc (.cells #[.string (mkS s1_0), .string (mkS s1_1)] qaI) ->
 Calls prog zT #[] w4 fun e14 w14 => ∃ b14, e14 = .returned (.bool b14) /\
 BCase (!b14)
 (K (.bool false) w14)
 (((0 <= (0 : Int) /\ (0 : Int) < ((2 : Nat) : Int)) /\ true = true) /\
 ∃ s18, Ld qe (qn (some ⟨k4, 0, none⟩) (0 : Int) 1) w14 (.string (mkS s18)) /\
 ((0 <= (1 : Int) /\ (1 : Int) < ((2 : Nat) : Int)) /\ true = true) /\
 ∃ s20, Ld qe (qn (some ⟨k4, 0, none⟩) (1 : Int) 1) w14 (.string (mkS s20)) /\
 ∀ k21 w21, k21 = w14.heap.size -> w21 = w14.alloc (.cells #[.string (mkS s18), .string (mkS s20)] qe) ->
 Calls prog zr #[.slice a0 l0 c0, .slice (some ⟨k21, 0, none⟩) 2 2] w21 fun e22 w22 => ∃ b22, e22 = .returned (.bool b22) /\
 BCase (!b22)
 (K (.bool true) w22)
 (((0 <= (0 : Int) /\ (0 : Int) < ((2 : Nat) : Int)) /\ true = true) /\
 ∃ s26, Ld qe (qn (some ⟨k4, 0, none⟩) (0 : Int) 1) w22 (.string (mkS s26)) /\
 ((0 <= (1 : Int) /\ (1 : Int) < ((2 : Nat) : Int)) /\ true = true) /\
 ∃ s28, Ld qe (qn (some ⟨k4, 0, none⟩) (1 : Int) 1) w22 (.string (mkS s28)) /\
 Calls prog qae #[.string (mkS s26), .string (mkS s28)] w22 fun e29 w29 => ∃ v29_0 s29_1_0 s29_1_1 s29_1_2 s29_1_3 b29_1_4 n29_1_5 b29_1_6 n29_1_7 b29_1_8 b29_1_9 n29_1_10 b29_2, e29 = .returned (.tuple #[v29_0, (hV s29_1_0 s29_1_1 s29_1_2 s29_1_3 b29_1_4 n29_1_5 b29_1_6 n29_1_7 b29_1_8 b29_1_9 n29_1_10), .bool b29_2]) /\
 ∀ k7 w7, k7 = w29.heap.size -> w7 = w29.alloc (.cells z7 qg) ->
 ∀ k8 w8, k8 = w7.heap.size -> w8 = w7.alloc (.cells #[.string (mkS []), .string (mkS []), .string (mkS []), .string (mkS []), .bool false, .int .i64 (0 : Int), .bool false, .int .i64 (0 : Int), .bool false, .bool false, .int .i64 (0 : Int)] qd) ->
 ∃ wx, Sv qg (some ⟨k7, 0, none⟩) v29_0 w8 wx /\
 ∃ wx_1, Sv qd (some ⟨k8, 0, none⟩) (hV s29_1_0 s29_1_1 s29_1_2 s29_1_3 b29_1_4 n29_1_5 b29_1_6 n29_1_7 b29_1_8 b29_1_9 n29_1_10) wx wx_1 /\
 ∃ J : FP [.one (.ptr), .one (.int .i64)],
 ((Calls prog qp #[.slice a0 l0 c0] (World.drew wx_1) fun e35 w35 => ∃ p35, e35 = .returned (.pointer p35) /\
 (∃ v36, Ld qg (some ⟨k7, 0, none⟩) w35 v36 /\
 (∃ s37_0 s37_1 s37_2 s37_3 b37_4 n37_5 b37_6 n37_7 b37_8 b37_9 n37_10, Ld qd (some ⟨k8, 0, none⟩) w35 (hV s37_0 s37_1 s37_2 s37_3 b37_4 n37_5 b37_6 n37_7 b37_8 b37_9 n37_10) /\
 (Calls prog qh #[.pointer p35, v36, (hV s37_0 s37_1 s37_2 s37_3 b37_4 n37_5 b37_6 n37_7 b37_8 b37_9 n37_10), .int .i64 n2] w35 fun e39 w39 => ∃ v39_0 n39_1, e39 = .returned (.tuple #[v39_0, .int .i64 n39_1]) /\
 ∀ k10 w10, k10 = w39.heap.size -> w10 = w39.alloc (.cells qj qa) ->
 ∃ wx_2, Sv qa (some ⟨k10, 0, none⟩) v39_0 w10 wx_2 /\
 J (some ⟨k10, 0, none⟩) n39_1 wx_2) /\
 ∀ k10_1 w10_1, k10_1 = w35.heap.size -> w10_1 = w35.alloc (.cells qj qa) ->
 Calls prog qh #[.pointer p35, v36, (hV s37_0 s37_1 s37_2 s37_3 b37_4 n37_5 b37_6 n37_7 b37_8 b37_9 n37_10), .int .i64 n2] w10_1 fun e39_1 w39_1 => ∃ v39_0_1 n39_1_1, e39_1 = .returned (.tuple #[v39_0_1, .int .i64 n39_1_1]) /\
 ∃ wx_3, Sv qa (some ⟨k10_1, 0, none⟩) v39_0_1 w39_1 wx_3 /\
 J (some ⟨k10_1, 0, none⟩) n39_1_1 wx_3) /\
 ∀ k10_2 w10_2, k10_2 = w35.heap.size -> w10_2 = w35.alloc (.cells qj qa) ->
 ∃ s37_0_1 s37_1_1 s37_2_1 s37_3_1 b37_4_1 n37_5_1 b37_6_1 n37_7_1 b37_8_1 b37_9_1 n37_10_1, Ld qd (some ⟨k8, 0, none⟩) w10_2 (hV s37_0_1 s37_1_1 s37_2_1 s37_3_1 b37_4_1 n37_5_1 b37_6_1 n37_7_1 b37_8_1 b37_9_1 n37_10_1) /\
 Calls prog qh #[.pointer p35, v36, (hV s37_0_1 s37_1_1 s37_2_1 s37_3_1 b37_4_1 n37_5_1 b37_6_1 n37_7_1 b37_8_1 b37_9_1 n37_10_1), .int .i64 n2] w10_2 fun e39_2 w39_2 => ∃ v39_0_2 n39_1_2, e39_2 = .returned (.tuple #[v39_0_2, .int .i64 n39_1_2]) /\
 ∃ wx_4, Sv qa (some ⟨k10_2, 0, none⟩) v39_0_2 w39_2 wx_4 /\
 J (some ⟨k10_2, 0, none⟩) n39_1_2 wx_4) /\
 (∃ s37_0_2 s37_1_2 s37_2_2 s37_3_2 b37_4_2 n37_5_2 b37_6_2 n37_7_2 b37_8_2 b37_9_2 n37_10_2, Ld qd (some ⟨k8, 0, none⟩) w35 (hV s37_0_2 s37_1_2 s37_2_2 s37_3_2 b37_4_2 n37_5_2 b37_6_2 n37_7_2 b37_8_2 b37_9_2 n37_10_2) /\
 (∃ v36_1, Ld qg (some ⟨k7, 0, none⟩) w35 v36_1 /\
 (Calls prog qh #[.pointer p35, v36_1, (hV s37_0_2 s37_1_2 s37_2_2 s37_3_2 b37_4_2 n37_5_2 b37_6_2 n37_7_2 b37_8_2 b37_9_2 n37_10_2), .int .i64 n2] w35 fun e39_3 w39_3 => ∃ v39_0_3 n39_1_3, e39_3 = .returned (.tuple #[v39_0_3, .int .i64 n39_1_3]) /\
 ∀ k10_3 w10_3, k10_3 = w39_3.heap.size -> w10_3 = w39_3.alloc (.cells qj qa) ->
 ∃ wx_5, Sv qa (some ⟨k10_3, 0, none⟩) v39_0_3 w10_3 wx_5 /\
 J (some ⟨k10_3, 0, none⟩) n39_1_3 wx_5) /\
 ∀ k10_4 w10_4, k10_4 = w35.heap.size -> w10_4 = w35.alloc (.cells qj qa) ->
 Calls prog qh #[.pointer p35, v36_1, (hV s37_0_2 s37_1_2 s37_2_2 s37_3_2 b37_4_2 n37_5_2 b37_6_2 n37_7_2 b37_8_2 b37_9_2 n37_10_2), .int .i64 n2] w10_4 fun e39_4 w39_4 => ∃ v39_0_4 n39_1_4, e39_4 = .returned (.tuple #[v39_0_4, .int .i64 n39_1_4]) /\
 ∃ wx_6, Sv qa (some ⟨k10_4, 0, none⟩) v39_0_4 w39_4 wx_6 /\
 J (some ⟨k10_4, 0, none⟩) n39_1_4 wx_6) /\
 ∀ k10_5 w10_5, k10_5 = w35.heap.size -> w10_5 = w35.alloc (.cells qj qa) ->
 ∃ v36_2, Ld qg (some ⟨k7, 0, none⟩) w10_5 v36_2 /\
 Calls prog qh #[.pointer p35, v36_2, (hV s37_0_2 s37_1_2 s37_2_2 s37_3_2 b37_4_2 n37_5_2 b37_6_2 n37_7_2 b37_8_2 b37_9_2 n37_10_2), .int .i64 n2] w10_5 fun e39_5 w39_5 => ∃ v39_0_5 n39_1_5, e39_5 = .returned (.tuple #[v39_0_5, .int .i64 n39_1_5]) /\
 ∃ wx_7, Sv qa (some ⟨k10_5, 0, none⟩) v39_0_5 w39_5 wx_7 /\
 J (some ⟨k10_5, 0, none⟩) n39_1_5 wx_7) /\
 ∀ k10_6 w10_6, k10_6 = w35.heap.size -> w10_6 = w35.alloc (.cells qj qa) ->
 (∃ v36_3, Ld qg (some ⟨k7, 0, none⟩) w10_6 v36_3 /\
 ∃ s37_0_3 s37_1_3 s37_2_3 s37_3_3 b37_4_3 n37_5_3 b37_6_3 n37_7_3 b37_8_3 b37_9_3 n37_10_3, Ld qd (some ⟨k8, 0, none⟩) w10_6 (hV s37_0_3 s37_1_3 s37_2_3 s37_3_3 b37_4_3 n37_5_3 b37_6_3 n37_7_3 b37_8_3 b37_9_3 n37_10_3) /\
 Calls prog qh #[.pointer p35, v36_3, (hV s37_0_3 s37_1_3 s37_2_3 s37_3_3 b37_4_3 n37_5_3 b37_6_3 n37_7_3 b37_8_3 b37_9_3 n37_10_3), .int .i64 n2] w10_6 fun e39_6 w39_6 => ∃ v39_0_6 n39_1_6, e39_6 = .returned (.tuple #[v39_0_6, .int .i64 n39_1_6]) /\
 ∃ wx_8, Sv qa (some ⟨k10_6, 0, none⟩) v39_0_6 w39_6 wx_8 /\
 J (some ⟨k10_6, 0, none⟩) n39_1_6 wx_8) /\
 ∃ s37_0_4 s37_1_4 s37_2_4 s37_3_4 b37_4_4 n37_5_4 b37_6_4 n37_7_4 b37_8_4 b37_9_4 n37_10_4, Ld qd (some ⟨k8, 0, none⟩) w10_6 (hV s37_0_4 s37_1_4 s37_2_4 s37_3_4 b37_4_4 n37_5_4 b37_6_4 n37_7_4 b37_8_4 b37_9_4 n37_10_4) /\
 ∃ v36_4, Ld qg (some ⟨k7, 0, none⟩) w10_6 v36_4 /\
 Calls prog qh #[.pointer p35, v36_4, (hV s37_0_4 s37_1_4 s37_2_4 s37_3_4 b37_4_4 n37_5_4 b37_6_4 n37_7_4 b37_8_4 b37_9_4 n37_10_4), .int .i64 n2] w10_6 fun e39_7 w39_7 => ∃ v39_0_7 n39_1_7, e39_7 = .returned (.tuple #[v39_0_7, .int .i64 n39_1_7]) /\
 ∃ wx_9, Sv qa (some ⟨k10_6, 0, none⟩) v39_0_7 w39_7 wx_9 /\
 J (some ⟨k10_6, 0, none⟩) n39_1_7 wx_9) /\
 (∃ v36_5, Ld qg (some ⟨k7, 0, none⟩) (World.drew wx_1) v36_5 /\
 (Calls prog qp #[.slice a0 l0 c0] (World.drew wx_1) fun e35_1 w35_1 => ∃ p35_1, e35_1 = .returned (.pointer p35_1) /\
 (∃ s37_0_5 s37_1_5 s37_2_5 s37_3_5 b37_4_5 n37_5_5 b37_6_5 n37_7_5 b37_8_5 b37_9_5 n37_10_5, Ld qd (some ⟨k8, 0, none⟩) w35_1 (hV s37_0_5 s37_1_5 s37_2_5 s37_3_5 b37_4_5 n37_5_5 b37_6_5 n37_7_5 b37_8_5 b37_9_5 n37_10_5) /\
 (Calls prog qh #[.pointer p35_1, v36_5, (hV s37_0_5 s37_1_5 s37_2_5 s37_3_5 b37_4_5 n37_5_5 b37_6_5 n37_7_5 b37_8_5 b37_9_5 n37_10_5), .int .i64 n2] w35_1 fun e39_8 w39_8 => ∃ v39_0_8 n39_1_8, e39_8 = .returned (.tuple #[v39_0_8, .int .i64 n39_1_8]) /\
 ∀ k10_7 w10_7, k10_7 = w39_8.heap.size -> w10_7 = w39_8.alloc (.cells qj qa) ->
 ∃ wx_10, Sv qa (some ⟨k10_7, 0, none⟩) v39_0_8 w10_7 wx_10 /\
 J (some ⟨k10_7, 0, none⟩) n39_1_8 wx_10) /\
 ∀ k10_8 w10_8, k10_8 = w35_1.heap.size -> w10_8 = w35_1.alloc (.cells qj qa) ->
 Calls prog qh #[.pointer p35_1, v36_5, (hV s37_0_5 s37_1_5 s37_2_5 s37_3_5 b37_4_5 n37_5_5 b37_6_5 n37_7_5 b37_8_5 b37_9_5 n37_10_5), .int .i64 n2] w10_8 fun e39_9 w39_9 => ∃ v39_0_9 n39_1_9, e39_9 = .returned (.tuple #[v39_0_9, .int .i64 n39_1_9]) /\
 ∃ wx_11, Sv qa (some ⟨k10_8, 0, none⟩) v39_0_9 w39_9 wx_11 /\
 J (some ⟨k10_8, 0, none⟩) n39_1_9 wx_11) /\
 ∀ k10_9 w10_9, k10_9 = w35_1.heap.size -> w10_9 = w35_1.alloc (.cells qj qa) ->
 ∃ s37_0_6 s37_1_6 s37_2_6 s37_3_6 b37_4_6 n37_5_6 b37_6_6 n37_7_6 b37_8_6 b37_9_6 n37_10_6, Ld qd (some ⟨k8, 0, none⟩) w10_9 (hV s37_0_6 s37_1_6 s37_2_6 s37_3_6 b37_4_6 n37_5_6 b37_6_6 n37_7_6 b37_8_6 b37_9_6 n37_10_6) /\
 Calls prog qh #[.pointer p35_1, v36_5, (hV s37_0_6 s37_1_6 s37_2_6 s37_3_6 b37_4_6 n37_5_6 b37_6_6 n37_7_6 b37_8_6 b37_9_6 n37_10_6), .int .i64 n2] w10_9 fun e39_10 w39_10 => ∃ v39_0_10 n39_1_10, e39_10 = .returned (.tuple #[v39_0_10, .int .i64 n39_1_10]) /\
 ∃ wx_12, Sv qa (some ⟨k10_9, 0, none⟩) v39_0_10 w39_10 wx_12 /\
 J (some ⟨k10_9, 0, none⟩) n39_1_10 wx_12) /\
 (∃ s37_0_7 s37_1_7 s37_2_7 s37_3_7 b37_4_7 n37_5_7 b37_6_7 n37_7_7 b37_8_7 b37_9_7 n37_10_7, Ld qd (some ⟨k8, 0, none⟩) (World.drew wx_1) (hV s37_0_7 s37_1_7 s37_2_7 s37_3_7 b37_4_7 n37_5_7 b37_6_7 n37_7_7 b37_8_7 b37_9_7 n37_10_7) /\
 (Calls prog qp #[.slice a0 l0 c0] (World.drew wx_1) fun e35_2 w35_2 => ∃ p35_2, e35_2 = .returned (.pointer p35_2) /\
 (Calls prog qh #[.pointer p35_2, v36_5, (hV s37_0_7 s37_1_7 s37_2_7 s37_3_7 b37_4_7 n37_5_7 b37_6_7 n37_7_7 b37_8_7 b37_9_7 n37_10_7), .int .i64 n2] w35_2 fun e39_11 w39_11 => ∃ v39_0_11 n39_1_11, e39_11 = .returned (.tuple #[v39_0_11, .int .i64 n39_1_11]) /\
 ∀ k10_10 w10_10, k10_10 = w39_11.heap.size -> w10_10 = w39_11.alloc (.cells qj qa) ->
 ∃ wx_13, Sv qa (some ⟨k10_10, 0, none⟩) v39_0_11 w10_10 wx_13 /\
 J (some ⟨k10_10, 0, none⟩) n39_1_11 wx_13) /\
 ∀ k10_11 w10_11, k10_11 = w35_2.heap.size -> w10_11 = w35_2.alloc (.cells qj qa) ->
 Calls prog qh #[.pointer p35_2, v36_5, (hV s37_0_7 s37_1_7 s37_2_7 s37_3_7 b37_4_7 n37_5_7 b37_6_7 n37_7_7 b37_8_7 b37_9_7 n37_10_7), .int .i64 n2] w10_11 fun e39_12 w39_12 => ∃ v39_0_12 n39_1_12, e39_12 = .returned (.tuple #[v39_0_12, .int .i64 n39_1_12]) /\
 ∃ wx_14, Sv qa (some ⟨k10_11, 0, none⟩) v39_0_12 w39_12 wx_14 /\
 J (some ⟨k10_11, 0, none⟩) n39_1_12 wx_14) /\
 ∀ k10_12 w10_12, k10_12 = (World.drew wx_1).heap.size -> w10_12 = (World.drew wx_1).alloc (.cells qj qa) ->
 Calls prog qp #[.slice a0 l0 c0] w10_12 fun e35_3 w35_3 => ∃ p35_3, e35_3 = .returned (.pointer p35_3) /\
 Calls prog qh #[.pointer p35_3, v36_5, (hV s37_0_7 s37_1_7 s37_2_7 s37_3_7 b37_4_7 n37_5_7 b37_6_7 n37_7_7 b37_8_7 b37_9_7 n37_10_7), .int .i64 n2] w35_3 fun e39_13 w39_13 => ∃ v39_0_13 n39_1_13, e39_13 = .returned (.tuple #[v39_0_13, .int .i64 n39_1_13]) /\
 ∃ wx_15, Sv qa (some ⟨k10_12, 0, none⟩) v39_0_13 w39_13 wx_15 /\
 J (some ⟨k10_12, 0, none⟩) n39_1_13 wx_15) /\
 ∀ k10_13 w10_13, k10_13 = (World.drew wx_1).heap.size -> w10_13 = (World.drew wx_1).alloc (.cells qj qa) ->
 (Calls prog qp #[.slice a0 l0 c0] w10_13 fun e35_4 w35_4 => ∃ p35_4, e35_4 = .returned (.pointer p35_4) /\
 ∃ s37_0_8 s37_1_8 s37_2_8 s37_3_8 b37_4_8 n37_5_8 b37_6_8 n37_7_8 b37_8_8 b37_9_8 n37_10_8, Ld qd (some ⟨k8, 0, none⟩) w35_4 (hV s37_0_8 s37_1_8 s37_2_8 s37_3_8 b37_4_8 n37_5_8 b37_6_8 n37_7_8 b37_8_8 b37_9_8 n37_10_8) /\
 Calls prog qh #[.pointer p35_4, v36_5, (hV s37_0_8 s37_1_8 s37_2_8 s37_3_8 b37_4_8 n37_5_8 b37_6_8 n37_7_8 b37_8_8 b37_9_8 n37_10_8), .int .i64 n2] w35_4 fun e39_14 w39_14 => ∃ v39_0_14 n39_1_14, e39_14 = .returned (.tuple #[v39_0_14, .int .i64 n39_1_14]) /\
 ∃ wx_16, Sv qa (some ⟨k10_13, 0, none⟩) v39_0_14 w39_14 wx_16 /\
 J (some ⟨k10_13, 0, none⟩) n39_1_14 wx_16) /\
 ∃ s37_0_9 s37_1_9 s37_2_9 s37_3_9 b37_4_9 n37_5_9 b37_6_9 n37_7_9 b37_8_9 b37_9_9 n37_10_9, Ld qd (some ⟨k8, 0, none⟩) w10_13 (hV s37_0_9 s37_1_9 s37_2_9 s37_3_9 b37_4_9 n37_5_9 b37_6_9 n37_7_9 b37_8_9 b37_9_9 n37_10_9) /\
 Calls prog qp #[.slice a0 l0 c0] w10_13 fun e35_5 w35_5 => ∃ p35_5, e35_5 = .returned (.pointer p35_5) /\
 Calls prog qh #[.pointer p35_5, v36_5, (hV s37_0_9 s37_1_9 s37_2_9 s37_3_9 b37_4_9 n37_5_9 b37_6_9 n37_7_9 b37_8_9 b37_9_9 n37_10_9), .int .i64 n2] w35_5 fun e39_15 w39_15 => ∃ v39_0_15 n39_1_15, e39_15 = .returned (.tuple #[v39_0_15, .int .i64 n39_1_15]) /\
 ∃ wx_17, Sv qa (some ⟨k10_13, 0, none⟩) v39_0_15 w39_15 wx_17 /\
 J (some ⟨k10_13, 0, none⟩) n39_1_15 wx_17) /\
 (∃ s37_0_10 s37_1_10 s37_2_10 s37_3_10 b37_4_10 n37_5_10 b37_6_10 n37_7_10 b37_8_10 b37_9_10 n37_10_10, Ld qd (some ⟨k8, 0, none⟩) (World.drew wx_1) (hV s37_0_10 s37_1_10 s37_2_10 s37_3_10 b37_4_10 n37_5_10 b37_6_10 n37_7_10 b37_8_10 b37_9_10 n37_10_10) /\
 (Calls prog qp #[.slice a0 l0 c0] (World.drew wx_1) fun e35_6 w35_6 => ∃ p35_6, e35_6 = .returned (.pointer p35_6) /\
 (∃ v36_6, Ld qg (some ⟨k7, 0, none⟩) w35_6 v36_6 /\
 (Calls prog qh #[.pointer p35_6, v36_6, (hV s37_0_10 s37_1_10 s37_2_10 s37_3_10 b37_4_10 n37_5_10 b37_6_10 n37_7_10 b37_8_10 b37_9_10 n37_10_10), .int .i64 n2] w35_6 fun e39_16 w39_16 => ∃ v39_0_16 n39_1_16, e39_16 = .returned (.tuple #[v39_0_16, .int .i64 n39_1_16]) /\
 ∀ k10_14 w10_14, k10_14 = w39_16.heap.size -> w10_14 = w39_16.alloc (.cells qj qa) ->
 ∃ wx_18, Sv qa (some ⟨k10_14, 0, none⟩) v39_0_16 w10_14 wx_18 /\
 J (some ⟨k10_14, 0, none⟩) n39_1_16 wx_18) /\
 ∀ k10_15 w10_15, k10_15 = w35_6.heap.size -> w10_15 = w35_6.alloc (.cells qj qa) ->
 Calls prog qh #[.pointer p35_6, v36_6, (hV s37_0_10 s37_1_10 s37_2_10 s37_3_10 b37_4_10 n37_5_10 b37_6_10 n37_7_10 b37_8_10 b37_9_10 n37_10_10), .int .i64 n2] w10_15 fun e39_17 w39_17 => ∃ v39_0_17 n39_1_17, e39_17 = .returned (.tuple #[v39_0_17, .int .i64 n39_1_17]) /\
 ∃ wx_19, Sv qa (some ⟨k10_15, 0, none⟩) v39_0_17 w39_17 wx_19 /\
 J (some ⟨k10_15, 0, none⟩) n39_1_17 wx_19) /\
 ∀ k10_16 w10_16, k10_16 = w35_6.heap.size -> w10_16 = w35_6.alloc (.cells qj qa) ->
 ∃ v36_7, Ld qg (some ⟨k7, 0, none⟩) w10_16 v36_7 /\
 Calls prog qh #[.pointer p35_6, v36_7, (hV s37_0_10 s37_1_10 s37_2_10 s37_3_10 b37_4_10 n37_5_10 b37_6_10 n37_7_10 b37_8_10 b37_9_10 n37_10_10), .int .i64 n2] w10_16 fun e39_18 w39_18 => ∃ v39_0_18 n39_1_18, e39_18 = .returned (.tuple #[v39_0_18, .int .i64 n39_1_18]) /\
 ∃ wx_20, Sv qa (some ⟨k10_16, 0, none⟩) v39_0_18 w39_18 wx_20 /\
 J (some ⟨k10_16, 0, none⟩) n39_1_18 wx_20) /\
 (∃ v36_8, Ld qg (some ⟨k7, 0, none⟩) (World.drew wx_1) v36_8 /\
 (Calls prog qp #[.slice a0 l0 c0] (World.drew wx_1) fun e35_7 w35_7 => ∃ p35_7, e35_7 = .returned (.pointer p35_7) /\
 (Calls prog qh #[.pointer p35_7, v36_8, (hV s37_0_10 s37_1_10 s37_2_10 s37_3_10 b37_4_10 n37_5_10 b37_6_10 n37_7_10 b37_8_10 b37_9_10 n37_10_10), .int .i64 n2] w35_7 fun e39_19 w39_19 => ∃ v39_0_19 n39_1_19, e39_19 = .returned (.tuple #[v39_0_19, .int .i64 n39_1_19]) /\
 ∀ k10_17 w10_17, k10_17 = w39_19.heap.size -> w10_17 = w39_19.alloc (.cells qj qa) ->
 ∃ wx_21, Sv qa (some ⟨k10_17, 0, none⟩) v39_0_19 w10_17 wx_21 /\
 J (some ⟨k10_17, 0, none⟩) n39_1_19 wx_21) /\
 ∀ k10_18 w10_18, k10_18 = w35_7.heap.size -> w10_18 = w35_7.alloc (.cells qj qa) ->
 Calls prog qh #[.pointer p35_7, v36_8, (hV s37_0_10 s37_1_10 s37_2_10 s37_3_10 b37_4_10 n37_5_10 b37_6_10 n37_7_10 b37_8_10 b37_9_10 n37_10_10), .int .i64 n2] w10_18 fun e39_20 w39_20 => ∃ v39_0_20 n39_1_20, e39_20 = .returned (.tuple #[v39_0_20, .int .i64 n39_1_20]) /\
 ∃ wx_22, Sv qa (some ⟨k10_18, 0, none⟩) v39_0_20 w39_20 wx_22 /\
 J (some ⟨k10_18, 0, none⟩) n39_1_20 wx_22) /\
 ∀ k10_19 w10_19, k10_19 = (World.drew wx_1).heap.size -> w10_19 = (World.drew wx_1).alloc (.cells qj qa) ->
 Calls prog qp #[.slice a0 l0 c0] w10_19 fun e35_8 w35_8 => ∃ p35_8, e35_8 = .returned (.pointer p35_8) /\
 Calls prog qh #[.pointer p35_8, v36_8, (hV s37_0_10 s37_1_10 s37_2_10 s37_3_10 b37_4_10 n37_5_10 b37_6_10 n37_7_10 b37_8_10 b37_9_10 n37_10_10), .int .i64 n2] w35_8 fun e39_21 w39_21 => ∃ v39_0_21 n39_1_21, e39_21 = .returned (.tuple #[v39_0_21, .int .i64 n39_1_21]) /\
 ∃ wx_23, Sv qa (some ⟨k10_19, 0, none⟩) v39_0_21 w39_21 wx_23 /\
 J (some ⟨k10_19, 0, none⟩) n39_1_21 wx_23) /\
 ∀ k10_20 w10_20, k10_20 = (World.drew wx_1).heap.size -> w10_20 = (World.drew wx_1).alloc (.cells qj qa) ->
 (Calls prog qp #[.slice a0 l0 c0] w10_20 fun e35_9 w35_9 => ∃ p35_9, e35_9 = .returned (.pointer p35_9) /\
 ∃ v36_9, Ld qg (some ⟨k7, 0, none⟩) w35_9 v36_9 /\
 Calls prog qh #[.pointer p35_9, v36_9, (hV s37_0_10 s37_1_10 s37_2_10 s37_3_10 b37_4_10 n37_5_10 b37_6_10 n37_7_10 b37_8_10 b37_9_10 n37_10_10), .int .i64 n2] w35_9 fun e39_22 w39_22 => ∃ v39_0_22 n39_1_22, e39_22 = .returned (.tuple #[v39_0_22, .int .i64 n39_1_22]) /\
 ∃ wx_24, Sv qa (some ⟨k10_20, 0, none⟩) v39_0_22 w39_22 wx_24 /\
 J (some ⟨k10_20, 0, none⟩) n39_1_22 wx_24) /\
 ∃ v36_10, Ld qg (some ⟨k7, 0, none⟩) w10_20 v36_10 /\
 Calls prog qp #[.slice a0 l0 c0] w10_20 fun e35_10 w35_10 => ∃ p35_10, e35_10 = .returned (.pointer p35_10) /\
 Calls prog qh #[.pointer p35_10, v36_10, (hV s37_0_10 s37_1_10 s37_2_10 s37_3_10 b37_4_10 n37_5_10 b37_6_10 n37_7_10 b37_8_10 b37_9_10 n37_10_10), .int .i64 n2] w35_10 fun e39_23 w39_23 => ∃ v39_0_23 n39_1_23, e39_23 = .returned (.tuple #[v39_0_23, .int .i64 n39_1_23]) /\
 ∃ wx_25, Sv qa (some ⟨k10_20, 0, none⟩) v39_0_23 w39_23 wx_25 /\
 J (some ⟨k10_20, 0, none⟩) n39_1_23 wx_25) /\
 ∀ k10_21 w10_21, k10_21 = (World.drew wx_1).heap.size -> w10_21 = (World.drew wx_1).alloc (.cells qj qa) ->
 (Calls prog qp #[.slice a0 l0 c0] w10_21 fun e35_11 w35_11 => ∃ p35_11, e35_11 = .returned (.pointer p35_11) /\
 (∃ v36_11, Ld qg (some ⟨k7, 0, none⟩) w35_11 v36_11 /\
 ∃ s37_0_11 s37_1_11 s37_2_11 s37_3_11 b37_4_11 n37_5_11 b37_6_11 n37_7_11 b37_8_11 b37_9_11 n37_10_11, Ld qd (some ⟨k8, 0, none⟩) w35_11 (hV s37_0_11 s37_1_11 s37_2_11 s37_3_11 b37_4_11 n37_5_11 b37_6_11 n37_7_11 b37_8_11 b37_9_11 n37_10_11) /\
 Calls prog qh #[.pointer p35_11, v36_11, (hV s37_0_11 s37_1_11 s37_2_11 s37_3_11 b37_4_11 n37_5_11 b37_6_11 n37_7_11 b37_8_11 b37_9_11 n37_10_11), .int .i64 n2] w35_11 fun e39_24 w39_24 => ∃ v39_0_24 n39_1_24, e39_24 = .returned (.tuple #[v39_0_24, .int .i64 n39_1_24]) /\
 ∃ wx_26, Sv qa (some ⟨k10_21, 0, none⟩) v39_0_24 w39_24 wx_26 /\
 J (some ⟨k10_21, 0, none⟩) n39_1_24 wx_26) /\
 ∃ s37_0_12 s37_1_12 s37_2_12 s37_3_12 b37_4_12 n37_5_12 b37_6_12 n37_7_12 b37_8_12 b37_9_12 n37_10_12, Ld qd (some ⟨k8, 0, none⟩) w35_11 (hV s37_0_12 s37_1_12 s37_2_12 s37_3_12 b37_4_12 n37_5_12 b37_6_12 n37_7_12 b37_8_12 b37_9_12 n37_10_12) /\
 ∃ v36_12, Ld qg (some ⟨k7, 0, none⟩) w35_11 v36_12 /\
 Calls prog qh #[.pointer p35_11, v36_12, (hV s37_0_12 s37_1_12 s37_2_12 s37_3_12 b37_4_12 n37_5_12 b37_6_12 n37_7_12 b37_8_12 b37_9_12 n37_10_12), .int .i64 n2] w35_11 fun e39_25 w39_25 => ∃ v39_0_25 n39_1_25, e39_25 = .returned (.tuple #[v39_0_25, .int .i64 n39_1_25]) /\
 ∃ wx_27, Sv qa (some ⟨k10_21, 0, none⟩) v39_0_25 w39_25 wx_27 /\
 J (some ⟨k10_21, 0, none⟩) n39_1_25 wx_27) /\
 (∃ v36_13, Ld qg (some ⟨k7, 0, none⟩) w10_21 v36_13 /\
 (Calls prog qp #[.slice a0 l0 c0] w10_21 fun e35_12 w35_12 => ∃ p35_12, e35_12 = .returned (.pointer p35_12) /\
 ∃ s37_0_13 s37_1_13 s37_2_13 s37_3_13 b37_4_13 n37_5_13 b37_6_13 n37_7_13 b37_8_13 b37_9_13 n37_10_13, Ld qd (some ⟨k8, 0, none⟩) w35_12 (hV s37_0_13 s37_1_13 s37_2_13 s37_3_13 b37_4_13 n37_5_13 b37_6_13 n37_7_13 b37_8_13 b37_9_13 n37_10_13) /\
 Calls prog qh #[.pointer p35_12, v36_13, (hV s37_0_13 s37_1_13 s37_2_13 s37_3_13 b37_4_13 n37_5_13 b37_6_13 n37_7_13 b37_8_13 b37_9_13 n37_10_13), .int .i64 n2] w35_12 fun e39_26 w39_26 => ∃ v39_0_26 n39_1_26, e39_26 = .returned (.tuple #[v39_0_26, .int .i64 n39_1_26]) /\
 ∃ wx_28, Sv qa (some ⟨k10_21, 0, none⟩) v39_0_26 w39_26 wx_28 /\
 J (some ⟨k10_21, 0, none⟩) n39_1_26 wx_28) /\
 ∃ s37_0_14 s37_1_14 s37_2_14 s37_3_14 b37_4_14 n37_5_14 b37_6_14 n37_7_14 b37_8_14 b37_9_14 n37_10_14, Ld qd (some ⟨k8, 0, none⟩) w10_21 (hV s37_0_14 s37_1_14 s37_2_14 s37_3_14 b37_4_14 n37_5_14 b37_6_14 n37_7_14 b37_8_14 b37_9_14 n37_10_14) /\
 Calls prog qp #[.slice a0 l0 c0] w10_21 fun e35_13 w35_13 => ∃ p35_13, e35_13 = .returned (.pointer p35_13) /\
 Calls prog qh #[.pointer p35_13, v36_13, (hV s37_0_14 s37_1_14 s37_2_14 s37_3_14 b37_4_14 n37_5_14 b37_6_14 n37_7_14 b37_8_14 b37_9_14 n37_10_14), .int .i64 n2] w35_13 fun e39_27 w39_27 => ∃ v39_0_27 n39_1_27, e39_27 = .returned (.tuple #[v39_0_27, .int .i64 n39_1_27]) /\
 ∃ wx_29, Sv qa (some ⟨k10_21, 0, none⟩) v39_0_27 w39_27 wx_29 /\
 J (some ⟨k10_21, 0, none⟩) n39_1_27 wx_29) /\
 ∃ s37_0_15 s37_1_15 s37_2_15 s37_3_15 b37_4_15 n37_5_15 b37_6_15 n37_7_15 b37_8_15 b37_9_15 n37_10_15, Ld qd (some ⟨k8, 0, none⟩) w10_21 (hV s37_0_15 s37_1_15 s37_2_15 s37_3_15 b37_4_15 n37_5_15 b37_6_15 n37_7_15 b37_8_15 b37_9_15 n37_10_15) /\
 (Calls prog qp #[.slice a0 l0 c0] w10_21 fun e35_14 w35_14 => ∃ p35_14, e35_14 = .returned (.pointer p35_14) /\
 ∃ v36_14, Ld qg (some ⟨k7, 0, none⟩) w35_14 v36_14 /\
 Calls prog qh #[.pointer p35_14, v36_14, (hV s37_0_15 s37_1_15 s37_2_15 s37_3_15 b37_4_15 n37_5_15 b37_6_15 n37_7_15 b37_8_15 b37_9_15 n37_10_15), .int .i64 n2] w35_14 fun e39_28 w39_28 => ∃ v39_0_28 n39_1_28, e39_28 = .returned (.tuple #[v39_0_28, .int .i64 n39_1_28]) /\
 ∃ wx_30, Sv qa (some ⟨k10_21, 0, none⟩) v39_0_28 w39_28 wx_30 /\
 J (some ⟨k10_21, 0, none⟩) n39_1_28 wx_30) /\
 ∃ v36_15, Ld qg (some ⟨k7, 0, none⟩) w10_21 v36_15 /\
 Calls prog qp #[.slice a0 l0 c0] w10_21 fun e35_15 w35_15 => ∃ p35_15, e35_15 = .returned (.pointer p35_15) /\
 Calls prog qh #[.pointer p35_15, v36_15, (hV s37_0_15 s37_1_15 s37_2_15 s37_3_15 b37_4_15 n37_5_15 b37_6_15 n37_7_15 b37_8_15 b37_9_15 n37_10_15), .int .i64 n2] w35_15 fun e39_29 w39_29 => ∃ v39_0_29 n39_1_29, e39_29 = .returned (.tuple #[v39_0_29, .int .i64 n39_1_29]) /\
 ∃ wx_31, Sv qa (some ⟨k10_21, 0, none⟩) v39_0_29 w39_29 wx_31 /\
 J (some ⟨k10_21, 0, none⟩) n39_1_29 wx_31) /\
 ∀ p10 n11, AllJ 9 (∀ wj, J p10 n11 wj ->
 ∃ v44, Ld qg (some ⟨k7, 0, none⟩) wj v44 /\
 ∃ s45_0 s45_1 s45_2 s45_3 b45_4 n45_5 b45_6 n45_7 b45_8 b45_9 n45_10, Ld qd (some ⟨k8, 0, none⟩) wj (hV s45_0 s45_1 s45_2 s45_3 b45_4 n45_5 b45_6 n45_7 b45_8 b45_9 n45_10) /\
 Calls prog qbY #[.slice a0 l0 c0, v44, (hV s45_0 s45_1 s45_2 s45_3 b45_4 n45_5 b45_6 n45_7 b45_8 b45_9 n45_10), .int .i64 n2] wj fun e47 w47 => ∃ v47_0 n47_1, e47 = .returned (.tuple #[v47_0, .int .i64 n47_1]) /\
 ∀ k12 w12, k12 = w47.heap.size -> w12 = w47.alloc (.cells qj qa) ->
 ∃ wx_32, Sv qa (some ⟨k12, 0, none⟩) v47_0 w12 wx_32 /\
 ∃ v50, Ld qa p10 wx_32 v50 /\
 ∃ v51, Ld qa (some ⟨k12, 0, none⟩) wx_32 v51 /\
 ∃ b52, ((do eqGuard .eql qa (.tmp 50) (.tmp 51) v50 v51; binOp .eql qa v50 v51 : Sem Value)).run prog wx_32 = .ok (.bool b52) wx_32 /\
 BCase b52
 (K (.bool (n11 == n47_1)) wx_32)
 (K (.bool false) wx_32))))
theorem qhk (a0 : Option Addr) (l0 c0 : Nat) (s1_0 : List UInt8) (s1_1 : List UInt8) (n2 : Int) {w : World} {K : Value -> World -> Prop} (h : qek a0 l0 c0 s1_0 s1_1 n2 w K) : Calls prog qep #[.slice a0 l0 c0, .agg #[.string (mkS s1_0), .string (mkS s1_1)], .int .i64 n2] w (Ret K) :=
 qo (c := qr Tryz.f7) (by kernel_rfl) Tryz.func7 (by kernel_rfl) [(20, [(10, .one (.ptr)), (11, .one (.int .i64))])] [.slice a0 l0 c0, .agg #[.string (mkS s1_0), .string (mkS s1_1)], .int .i64 n2] (of_decide_eq_true (by kernel_rfl)) _ (by kernel_rfl) h
end Go.Proofs.YtndbpedpdbjkpaaGreatDoor
set_option maxRecDepth 20000
namespace Go.Proofs.YtndbpedpdbjkpaaGreatDoor
open Go.Pk
open Go.RowKit (Below)
theorem qil {a0 : Option Addr} {l0 c0 : Nat} {rs : List Rul} {w : World} (hs : Sl tRul w AllB a0 l0 c0 rs) (hl : rs.length <= 9223372036854775807) (s t : List UInt8) (now : Int) (he : Env w) :
   Calls prog qep #[.slice a0 l0 c0, .agg #[.string (mkS s), .string (mkS t)], .int .i64 now] w (Ret (Says w)) := by
 apply qhk
 unfold qek
 intro k4 w4 hk4 hw4
 have hB4 := (hw4 ▸ qf w _ : Below w.heap.size w w4)
 have h4 : qm w4 k4 qaI [.string (mkS s), .string (mkS t)] := qm.new hk4 hw4
 refine callK (qb0 w4 (he.step hB4)) ?_
 rintro _ w5 ⟨rfl, hb5⟩
 have hB5 := qb hB4 hb5 hB4.size
 have h5 := h4.below hb5
 refine ⟨_, rfl, BCase.no rfl ?_⟩
 have e0 : qn (some (⟨k4, 0, none⟩ : Addr)) (0 : Int) 1 = some ⟨k4, 0, none⟩ := z8 k4 0 0
 have e1 : qn (some (⟨k4, 0, none⟩ : Addr)) (1 : Int) 1 = some ⟨k4, 1, none⟩ := z8 k4 0 1
 rw [e0, e1]
 refine ⟨⟨by decide, rfl⟩, _, h5.load1 un_string rfl rfl, ⟨by decide, rfl⟩, _, h5.load1 un_string rfl rfl, ?_⟩
 intro k6 w6 hk6 hw6
 have hb6 := (hw6 ▸ qf w5 _ : Below w5.heap.size w5 w6)
 have hB6 := qb hB5 hb6 hB5.size
 have ht6 := qdQ (ts := [s, t]) hk6 hw6 (show 2 <= maxLen by decide)
 refine callK (qaD (hs.below hB6) ht6 hl (show 2 <= 9223372036854775807 by decide)) ?_
 rintro _ w7 ⟨rfl, hb7⟩
 have hB7 := qb hB6 hb7 hB6.size
 have h7 := (h5.below hb6).below hb7
 refine ⟨_, rfl, BCase.of (fun c => ⟨rfl, hB7⟩) (fun c => ?_)⟩
 rw [Bool.not_eq_false'] at c
 obtain ⟨f1, f2, f3⟩ := qcR c
 have fs := f2 s (by simp)
 have ft := f2 t (by simp)
 refine ⟨⟨by decide, rfl⟩, _, h7.load1 un_string rfl rfl, ⟨by decide, rfl⟩, _, h7.load1 un_string rfl rfl, ?_⟩
 refine callK (qaC s t (by omega) (by omega) w7) ?_
 rintro _ w8 ⟨rfl, hb8⟩
 have hB8 := qb hB7 hb8 hB7.size
 refine ⟨_, _, _, _, _, _, _, _, _, _, _, _, _, rfl, ?_⟩
 have ou := urlV_ok s
 obtain ⟨un, up⟩ := qc6 s
 have ho := qdk t
 generalize (urlV s).1 = u at *
 generalize (qM t).1 = h at *
 intro k9 w9 hk9 hw9
 have hb9 := (hw9 ▸ qf w8 _ : Below w8.heap.size w8 w9)
 have h9 : qm w9 k9 qg url0.cells := qm.new hk9 hw9
 intro k10 w10 hk10 hw10
 have hb10 := (hw10 ▸ qf w9 _ : Below w9.heap.size w9 w10)
 have h10 : qm w10 k10 qd hdr0.cells := qm.new hk10 hw10
 have lt9 := h9.lt
 have hb810 := qb hb9 hb10 hb9.size
 have sz9 := hb9.size
 obtain ⟨w11, hs11, h911, hg11⟩ := qas.store0 (P := prog) (cs := u.cells) (Url.len ou) (Url.one u) (h9.below hb10) rfl
 have hb811 : Below w8.heap.size w8 w11 := Below.put hb810 hg11 (by omega)
 refine ⟨w11, hs11, ?_⟩
 obtain ⟨w12, hs12, h1012, hg12⟩ := qbR h (h10.grown hg11 (qP (by omega))) rfl
 have hb812 : Below w8.heap.size w8 w12 := Below.put hb811 hg12 (by omega)
 have h912 := h911.grown hg12 (qP (by omega))
 refine ⟨w12, hs12, ?_⟩
 have hB12 := qb hB8 hb812 hB8.size
 have C : AdC w12 a0 l0 c0 rs k9 k10 u h := ⟨he.step hB12, hs.below hB12, by omega, fun r hr => by have := f1 r hr; omega, h912, h1012, ou, by omega, by omega, ho⟩
 have S : StA w12 qq qt qa (rs.filter rulR) none none (World.drew w12) := ⟨zV w12, (fun p e => by cases e), (fun x e => by cases e)⟩
 have oc := qfK (rs := rs.filter rulR) ou h now
 refine ⟨fun p n w' => ∃ x, p = some ⟨x, 0, none⟩ /\ n = (takV (rs.filter rulR) u h now).2 /\ qm w' x qa (takV (rs.filter rulR) u h now).1.cells /\ Below w12.heap.size w12 w', ?_, ?_⟩
 · clear hs11 hs12 hg11 hg12 h911 h912 h1012 h9 h10 hw9 hw10 hb9 hb10 hb810 hb811 hb812 hs he hB4 hB5 hB6 hB7 hB8 hB12 hb5 hb6 hb7 hb8 h4 h5 h7 ht6 hw4 hw6
   repeat' (first
     | exact ⟨_, rfl, rfl, by assumption, by assumption⟩
     | refine And.intro ?_ ?_
     | (refine ad_al (by assumption) ?_; intro x wx hS)
     | (refine ad_st (by assumption) oc ?_; intro wx hb hc)
     | (refine ad_new C (by assumption) ?_; intro p wp hS)
     | (refine ad_take C (by assumption) ?_; intro wt hS)
     | refine Exists.intro _ (And.intro (ad_u C (by assumption)) ?_)
     | refine ⟨_, _, _, _, _, _, _, _, _, _, _, ad_h C (by assumption), ?_⟩)
 intro p n
 refine AllJ.of ?_ _
 rintro w13 ⟨x, rfl, rfl, hx, hb13⟩
 have hB13 := qb hB12 hb13 hB12.size
 refine ⟨_, qas.load0 (h912.below hb13) (Url.len ou), _, _, _, _, _, _, _, _, _, _, _, zo h (h1012.below hb13), ?_⟩
 refine callK (qft (hs.below hB13) (by omega) (fun r hr => by have := f1 r hr; omega) ou (by omega) (by omega) h ho now) ?_
 rintro _ w14 ⟨rfl, hb14⟩
 have hB14 := qb hB13 hb14 hB13.size
 refine ⟨_, _, rfl, ?_⟩
 refine qS.new (zs := cky0.cells) (cs := (takV (rs.filter rulR) u h now).1.cells) rfl (Cky.len oc) (Cky.one _) w14 fun k15 w15 hk15 h15 hb15 => ?_
 refine ⟨_, qS.load0 ((hx.below hb14).below hb15) (Cky.len oc), _, qS.load0 h15 (Cky.len oc), _, qqt oc oc w15, BCase.yes (qe0 oc) ⟨by rw [beq_self_eq_true], qb hB14 hb15 hB14.size⟩⟩
end Go.Proofs.YtndbpedpdbjkpaaGreatDoor
namespace Go.Pk
open Go.ChangeShapes Go.WideShapes
theorem qbJ {H : Type} {enc : TypeId × Value -> H} {P : Program} {w : World} {fuel : Nat} {t : TypeId} {fs : Array Field} {cs : List Value} {x : DataW H × List MemPlace} (ht : P.underlying t = some (.struct fs))
   (h : DataW.trod enc P w 0 (fun _ => true) true fuel t cs = some x) :
   ∃ n, cs.length = P.cellsOf t /\ ∀ (i : Nat) (u : TypeId) (o k : Nat), (∃ f : Field, fs[i]? = some f /\ f.type = u /\ f.offset = o) -> P.cellsOf u = k -> ∃ y, DataW.trod enc P w 0 (fun _ => true) true n u ((cs.drop o).take k) = some y := by
 obtain ⟨xs, n, _, _, hl, hlen, hf⟩ := DataW.trod_struct ht h
 refine ⟨n, hl, ?_⟩
 rintro i _ _ _ ⟨f, hi, rfl, rfl⟩ rfl
 have hlt : i < xs.length := by rw [hlen]; exact (Array.getElem?_eq_some_iff.1 hi).1
 exact ⟨xs[i], by rw [hf i f hi, List.getElem?_eq_getElem hlt]⟩
theorem qaw {α : Type} (cs : List α) (a b : Nat) : cs.drop a = (cs.drop a).take b ++ cs.drop (a + b) := by
 rw [<- List.drop_drop, List.take_append_drop]
theorem qd1 {α : Type} (cs : List α) (n : Nat) (h : cs.length = n) : cs.drop n = [] := List.drop_of_length_le (by omega)
end Go.Pk
namespace Go.Proofs.YtndbpedpdbjkpaaGreatDoor
open Go.Pk
open Go.ChangeShapes Go.WideShapes
theorem qc0 {H : Type} {enc : TypeId × Value -> H} {w : World} {fuel : Nat} {cs : List Value} {x : DataW H × List MemPlace} (h : DataW.trod enc prog w 0 (fun _ => true) true fuel ql cs = some x) : ∃ r : Rul, cs = rulC r := by
 obtain ⟨n, hl, hf⟩ := qbJ Tryz.underlying59 h
 have hl2 : cs.length = 2 := hl.trans (by kernel_rfl)
 obtain ⟨y0, h0⟩ := hf 0 qx 0 1 ⟨_, rfl, rfl, rfl⟩ (by kernel_rfl)
 obtain ⟨y1, h1⟩ := hf 1 qe 1 1 ⟨_, rfl, rfl, rfl⟩ (by kernel_rfl)
 obtain ⟨k, e0, _⟩ := qaE qN H enc w n _ _ h0
 obtain ⟨s, e1, _⟩ := qaG un_string H enc w n _ _ h1
 refine ⟨(k, s), ?_⟩
 have s0 := qaw cs 0 1
 have s1 := qaw cs 1 1
 rw [e0, List.drop_zero] at s0
 rw [e1, qd1 cs (1 + 1) hl2, List.append_nil] at s1
 rw [s0, s1]; rfl
theorem qc5 {H : Type} {enc : TypeId × Value -> H} {w : World} {n b off : Nat} (m : Nat)
   (hx : ∀ i, i < m -> ∃ cs, (∀ j, j < 2 -> w.cell? ⟨b, off + (i * 2 + j), none⟩ = cs[j]?) /\ ∃ y, DataW.trod enc prog w 0 (fun _ => true) true n ql cs = some y) :
   ∃ rs : List Rul, rs.length = m /\ At tRul w AllB b off rs := by
 induction m with
 | zero => exact ⟨[], rfl, [], RepL.nil _ _ _, fun j hj => by cases hj⟩
 | succ m ih =>
   obtain ⟨rs, hl, l, hr, hc⟩ := ih fun i hi => hx i (by omega)
   obtain ⟨cs, hcell, y, hy⟩ := hx m (by omega)
   obtain ⟨r, rfl⟩ := qc0 hy
   refine ⟨rs ++ [r], by rw [List.length_append, hl]; rfl, l ++ rulC r, hr.append (RepL.one (T := tRul) rfl), fun j hj => ?_⟩
   have hll : l.length = m * 2 := by rw [hr.len, hl]; rfl
   rw [List.length_append, hll, show (rulC r).length = 2 from rfl] at hj
   by_cases hlt : j < l.length
   · rw [List.getElem?_append_left hlt]; exact hc j hlt
   · rw [List.getElem?_append_right (by omega), <- hcell (j - l.length) (by omega), hll, show off + (m * 2 + (j - m * 2)) = off + j by omega]
theorem qcq {H : Type} {enc : TypeId × Value -> H} {w : World} {fuel : Nat} {v : Value} {x : DataW H × List MemPlace} (h : DataW.trod enc prog w 0 (fun _ => true) true fuel jw [v] = some x) :
   ∃ (a : Option Addr) (len cap : Nat) (rs : List Rul), v = .slice a len cap /\ Sl tRul w AllB a len cap rs /\ rs.length <= 9223372036854775807 := by
 rcases Go.Deep.open_slice qaQ h with ⟨e, _⟩ | ⟨a, len, cap, m, n, D, Pl, e, _, hlc, hcm, hm, _, hx⟩
 · obtain rfl : v = _ := by injection e
   exact ⟨none, 0, 0, [], rfl, Sl.nil _ _ _ _ _ (Nat.zero_le _), Nat.zero_le _⟩
 · obtain rfl : v = _ := by injection e
   have hmax : maxLen <= 9223372036854775807 := by unfold maxLen; decide
   rw [if_pos rfl] at hm
   subst hm
   rw [show prog.cellsOf ql = 2 by kernel_rfl] at hx
   by_cases h0 : len = 0
   · subst h0
     exact ⟨_, _, _, [], rfl, ⟨rfl, hlc, hcm, .inl rfl⟩, Nat.zero_le _⟩
   · obtain ⟨b, off, spot⟩ := a
     obtain ⟨c0, hc0, _⟩ := hx 0 (by omega)
     have hb := World.cells?_block hc0 (by decide)
     obtain ⟨_, hl0, hcc⟩ := World.cells?_some hc0
     have h00 := hcc 0 (by decide)
     rw [List.getElem?_eq_getElem (by omega)] at h00
     have hspot : spot = none := by simpa [Addr.add] using World.cell?_spot h00
     subst hspot
     obtain ⟨rs, hrl, hat⟩ := qc5 (b := b) (off := off) len fun i hi => by
       obtain ⟨cs, hcs, hy⟩ := hx i (by omega)
       obtain ⟨_, hl2, hce⟩ := World.cells?_some hcs
       refine ⟨cs, fun j hj => ?_, _, hy⟩
       rw [<- hce j hj, jZ, jZ, Nat.add_assoc]
     exact ⟨_, _, _, rs, rfl, ⟨hrl.symm, hlc, hcm, .inr ⟨b, off, rfl, (by rw [Nat.zero_mul, jZ] at hb; exact hb), trivial, hat⟩⟩, by omega⟩
end Go.Proofs.YtndbpedpdbjkpaaGreatDoor
namespace Go.Pk
open Go.ChangeShapes Go.WideShapes
theorem qfa {H : Type} {enc : TypeId × Value -> H} {P : Program} {w : World} {fuel : Nat} {t e : TypeId} {cs : List Value} {d : DataW H} {ps : List MemPlace} (ht : P.underlying t = some (.array 2 e)) (he : P.underlying e = some .string) (hk : P.cellsOf e = 1) (hc : P.cellsOf t = 2)
   (h : DataW.trod enc P w 0 (fun _ => true) true fuel t cs = some (d, ps)) : ∃ s r : List UInt8, cs = [.string (mkS s), .string (mkS r)] /\ d = .agg [.lit (.string s), .lit (.string r)] := by
 obtain ⟨xs, m, _, hx, hl, hn, hf⟩ := DataW.trod_array ht h
 rw [hc] at hl
 match cs, hl, xs, hn with
 | [c0, c1], _, [x0, x1], _ =>
   have h0 := hf 0 (by decide)
   have h1 := hf 1 (by decide)
   rw [hk] at h0 h1
   obtain ⟨s, e0, f0, _⟩ := DataW.trod_string he (show DataW.trod enc P w 0 (fun _ => true) true m e [c0] = some x0 from h0)
   obtain ⟨r, e1, f1, _⟩ := DataW.trod_string he (show DataW.trod enc P w 0 (fun _ => true) true m e [c1] = some x1 from h1)
   refine ⟨toL s, toL r, ?_, ?_⟩
   · rw [List.cons.inj e0 |>.1, List.cons.inj e1 |>.1]; rfl
   · have := congrArg Prod.fst hx
     rw [f0, f1] at this
     exact this
end Go.Pk
