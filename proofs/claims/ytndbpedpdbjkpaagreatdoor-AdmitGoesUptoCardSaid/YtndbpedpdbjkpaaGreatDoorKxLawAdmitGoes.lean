/- What the law alone leans on: Open, Names, V3, AddrF, AddrG, AddrI, HostC, HostD, V4, MatA, AdmA, V5, AdmD, AdmE, AdmX, OpenA, OpenB, AdmJ, AdmK, AdmL, V5_10, AdmM; what is used. Its conditions: none. -/
import Derived.Test.YtndbpedpdbjkpaaGreatDoorKI
import Derived.ProofKit
import Derived.OpenShut
import Derived.Stop.LaidErr
import Derived.Lib.LaidTab
import Derived.Deep.DeepHandedRow
import Derived.Test.YtndbpedpdbjkpaaGreatDoorRows
import Derived.Lib.ItoaLen
import Derived.Lib.LastIndexByte
import Derived.ChangeArms
import Derived.ChangeSame
import Derived.Deep.Slices
open Go.IntKind (i64)
open Go.Proofs.Tryz (prog)
set_option linter.unusedVariables false
set_option linter.unusedSimpArgs false
namespace Go.Pk
def qhe {α : Type} (P : Program) (T : Ty α) (t : TypeId) : Prop :=
 ∀ (H : Type) (enc : TypeId × Value -> H) (w : World) (fuel : Nat) (cs : List Value) (x : DataW H × List MemPlace), DataW.trod enc P w 0 (fun _ => true) true fuel t cs = some x -> ∃ a, T.rep w AllB cs a
theorem qaE {P : Program} {k : IntKind} {t : TypeId} (ht : P.underlying t = some (.int k)) : qhe P (tInt k fun n => (Lit.int k n).wf = true) t := fun H enc w fuel cs x h => by
 obtain ⟨n, e, _, hw⟩ := DataW.trod_int ht h
 exact ⟨n, e, hw⟩
theorem qaG {P : Program} {t : TypeId} (ht : P.underlying t = some .string) : qhe P (tStr fun s => s.length <= maxLen) t := fun H enc w fuel cs x h => by
 obtain ⟨s, e, _, hs⟩ := DataW.trod_string ht h
 exact ⟨toL s, e, hs⟩
theorem qct {P : Program} {w : World} {r : Reach} {base : Nat} {t : TypeId} {v : Value} {d : TypeDesc} (ht : P.underlying t = some d) (ha : aggD d = true) (h : Value.okWide P w r base t v) : ∃ cs : List Value, v = .agg cs.toArray := by
 unfold Value.okWide at h
 rw [ht] at h
 cases d <;> first | (obtain ⟨cs, rfl, _⟩ := h; exact ⟨cs.toList, by simp⟩) | (cases ha; done)
end Go.Pk
namespace Go.Proofs.YtndbpedpdbjkpaaGreatDoor
open Go.Pk
abbrev qfe : Nat := 10
abbrev qL : Nat := 25
abbrev ze : Nat := 27
abbrev zv : Nat := 28
abbrev zr : Nat := 38
abbrev qfn : Nat := 43
abbrev zM : Nat := 60
abbrev qB : Nat := 61
abbrev qf8 : Nat := 92
abbrev zp : Nat := 108
abbrev zm : Nat := 109
abbrev qu : Nat := 176
abbrev qV : Nat := 177
abbrev qF : Nat := 178
abbrev zq : Nat := 237
abbrev jw : Nat := 70
abbrev qaI : Nat := 71
abbrev qaa : Nat := 80
theorem qaQ : prog.underlying jw = some (.slice ql) := by kernel_rfl
abbrev qoa : Array Value := #[.bool false, .int .i64 (0 : Int), .string (mkS []), .int .u8 (0 : Int), .int .u8 (0 : Int), .int .u8 (0 : Int), .int .u8 (0 : Int), .int .u8 (0 : Int), .int .u8 (0 : Int), .int .u8 (0 : Int), .int .u8 (0 : Int), .int .u8 (0 : Int), .int .u8 (0 : Int), .int .u8 (0 : Int), .int .u8 (0 : Int), .int .u8 (0 : Int), .int .u8 (0 : Int), .int .u8 (0 : Int), .int .u8 (0 : Int), .string (mkS []), .int .i64 (0 : Int)]
theorem qmT : TF prog qaa 21 72 (.agg #[.bool false, .int .i64 (0 : Int), .string (mkS []), .int .u8 (0 : Int), .int .u8 (0 : Int), .int .u8 (0 : Int), .int .u8 (0 : Int), .int .u8 (0 : Int), .int .u8 (0 : Int), .int .u8 (0 : Int), .int .u8 (0 : Int), .int .u8 (0 : Int), .int .u8 (0 : Int), .int .u8 (0 : Int), .int .u8 (0 : Int), .int .u8 (0 : Int), .int .u8 (0 : Int), .int .u8 (0 : Int), .int .u8 (0 : Int), .string (mkS []), .int .i64 (0 : Int)]) := TF.of (by kernel_rfl) (by kernel_rfl) true (by kernel_rfl) (.inl rfl)
end Go.Proofs.YtndbpedpdbjkpaaGreatDoor
set_option maxRecDepth 100000
namespace Go.Proofs.YtndbpedpdbjkpaaGreatDoor
open Go.Pk
open Go.RowKit (Below)
--  cracknel/cracknelref03.Right
def jc (v0 : Value) (w : World) (K : Value -> World -> Prop) : Prop :=
 ∀ k1 w1, k1 = w.heap.size -> w1 = w.alloc (.cells (Value.cells v0) qc) ->
 ∃ v6, Ld qc (some ⟨k1, 0, none⟩) w1 v6 /\
 Calls prog zM #[v6] w1 fun e7 w7 => ∃ s7, e7 = .returned (.string (mkS s7)) /\
 Calls prog jh #[.string (mkS s7)] w7 fun e8 w8 => ∃ v8_0 n8_1, e8 = .returned (.tuple #[v8_0, .int .i64 n8_1]) /\
 ∀ k3 w3, k3 = w8.heap.size -> w3 = w8.alloc (.cells qK qc) ->
 ∃ wx, Sv qc (some ⟨k3, 0, none⟩) v8_0 w3 wx /\
 BCase (n8_1 == (0 : Int))
 (∃ v14, Ld qc (some ⟨k3, 0, none⟩) wx v14 /\
 ∃ v15, Ld qc (some ⟨k1, 0, none⟩) wx v15 /\
 ∃ b16, ((do eqGuard .eql qc (.tmp 14) (.tmp 15) v14 v15; binOp .eql qc v14 v15 : Sem Value)).run prog wx = .ok (.bool b16) wx /\
 K (.bool b16) wx)
 (K (.bool false) wx)
theorem qam (v0 : Value) {w : World} {K : Value -> World -> Prop} (h : jc v0 w K) : Calls prog qL #[v0] w (Ret K) :=
 qo (c := qr Tryz.f25) (by kernel_rfl) Tryz.func25 (by kernel_rfl) [] [v0] (of_decide_eq_true (by kernel_rfl)) _ (by kernel_rfl) h

--  cracknel/cracknelref03.Under
def jd (v0 : Value) (v1 : Value) (w : World) (K : Value -> World -> Prop) : Prop :=
 ∀ k2 w2, k2 = w.heap.size -> w2 = w.alloc (.cells (Value.cells v0) qc) ->
 ∀ k3 w3, k3 = w2.heap.size -> w3 = w2.alloc (.cells (Value.cells v1) qc) ->
 ∃ J : FP [],
 (∃ v6, Ld qc (some ⟨k2, 0, none⟩) w3 v6 /\
 Calls prog qB #[v6] w3 fun e7 w7 => ∃ a7 l7 c7, e7 = .returned (.slice a7 l7 c7) /\
 BCase (((l7 : Nat) : Int) == (0 : Int))
 (K (.bool false) w7)
 (∃ v11, Ld qc (some ⟨k3, 0, none⟩) w7 v11 /\
 Calls prog qB #[v11] w7 fun e12 w12 => ∃ a12 l12 c12, e12 = .returned (.slice a12 l12 c12) /\
 BCase (((l12 : Nat) : Int) == (0 : Int))
 (K (.bool false) w12)
 (J w12))) /\
 AllJ 11 (∀ wj, J wj ->
 (true = true) /\
 ∃ s17, Ld qe (some ⟨k3, 1, none⟩) wj (.string (mkS s17)) /\
 ((((List.length [46] + List.length s17 : Nat) : Int) <= i64.max)) /\
 ∀ s18, s18 = ([46] ++ s17) ->
 (true = true) /\
 ∃ s20, Ld qe (some ⟨k2, 1, none⟩) wj (.string (mkS s20)) /\
 BCase (decide (((List.length s20 : Nat) : Int) > ((List.length s18 : Nat) : Int)))
 ((true = true) /\
 ∃ s27, Ld qe (some ⟨k2, 1, none⟩) wj (.string (mkS s27)) /\
 (true = true) /\
 ∃ s29, Ld qe (some ⟨k2, 1, none⟩) wj (.string (mkS s29)) /\
 ((0 <= (i64.wrap (((List.length s29 : Nat) : Int) - ((List.length s18 : Nat) : Int))) /\ (i64.wrap (((List.length s29 : Nat) : Int) - ((List.length s18 : Nat) : Int))) <= (((List.length s27) : Nat) : Int))) /\
 ∀ s34, s34 = (List.drop (Int.toNat (i64.wrap (((List.length s29 : Nat) : Int) - ((List.length s18 : Nat) : Int)))) s27) ->
 K (.bool (s34 == s18)) wj)
 (K (.bool false) wj))
theorem qal (v0 : Value) (v1 : Value) {w : World} {K : Value -> World -> Prop} (h : jd v0 v1 w K) : Calls prog ze #[v0, v1] w (Ret K) :=
 qo (c := qr Tryz.f27) (by kernel_rfl) Tryz.func27 (by kernel_rfl) [(2, [])] [v0, v1] (of_decide_eq_true (by kernel_rfl)) _ (by kernel_rfl) h

--  cracknel/cracknelref03.Text
def js (v0 : Value) (w : World) (K : Value -> World -> Prop) : Prop :=
 ∀ k1 w1, k1 = w.heap.size -> w1 = w.alloc (.cells (Value.cells v0) qc) ->
 (true = true) /\
 ∃ n4, Ld qx (some ⟨k1, 0, none⟩) w1 (.int .i64 n4) /\
 BCase (n4 == (1 : Int))
 ((true = true) /\
 ∃ s7, Ld qe (some ⟨k1, 1, none⟩) w1 (.string (mkS s7)) /\
 K (.string (mkS s7)) w1)
 ((true = true) /\
 ∃ n9, Ld qx (some ⟨k1, 0, none⟩) w1 (.int .i64 n9) /\
 BCase (n9 == (2 : Int))
 ((true = true) /\
 ∃ v12, Ld qk (some ⟨k1, 2, none⟩) w1 v12 /\
 Calls prog zp #[v12] w1 fun e13 w13 => ∃ s13, e13 = .returned (.string (mkS s13)) /\
 K (.string (mkS s13)) w13)
 ((true = true) /\
 ∃ n15, Ld qx (some ⟨k1, 0, none⟩) w1 (.int .i64 n15) /\
 BCase (n15 == (3 : Int))
 ((true = true) /\
 ∃ v18, Ld qk (some ⟨k1, 2, none⟩) w1 v18 /\
 Calls prog zm #[v18] w1 fun e19 w19 => ∃ s19, e19 = .returned (.string (mkS s19)) /\
 ((((List.length [91] + List.length s19 : Nat) : Int) <= i64.max)) /\
 ∀ s20, s20 = ([91] ++ s19) ->
 ((((List.length s20 + List.length [93] : Nat) : Int) <= i64.max)) /\
 ∀ s21, s21 = (s20 ++ [93]) ->
 K (.string (mkS s21)) w19)
 (K (.string (mkS [])) w1)))
theorem qaN (v0 : Value) {w : World} {K : Value -> World -> Prop} (h : js v0 w K) : Calls prog zM #[v0] w (Ret K) :=
 qo (c := qr Tryz.f60) (by kernel_rfl) Tryz.func60 (by kernel_rfl) [] [v0] (of_decide_eq_true (by kernel_rfl)) _ (by kernel_rfl) h

--  cracknel/cracknelref03.Labels
def zH (v0 : Value) (w : World) (K : Value -> World -> Prop) : Prop :=
 ∀ k1 w1, k1 = w.heap.size -> w1 = w.alloc (.cells (Value.cells v0) qc) ->
 ∃ J : FP [],
 ((true = true) /\
 ∃ n4, Ld qx (some ⟨k1, 0, none⟩) w1 (.int .i64 n4) /\
 BCase (n4 != (1 : Int))
 (K (.slice none 0 0) w1)
 (∃ v7, Ld qc (some ⟨k1, 0, none⟩) w1 v7 /\
 Calls prog qL #[v7] w1 fun e8 w8 => ∃ b8, e8 = .returned (.bool b8) /\
 BCase (!b8)
 (K (.slice none 0 0) w8)
 (J w8))) /\
 AllJ 9 (∀ wj, J wj ->
 (true = true) /\
 ∃ s12, Ld qe (some ⟨k1, 1, none⟩) wj (.string (mkS s12)) /\
 Calls prog zO #[.string (mkS s12), .int .u8 (46 : Int)] wj fun e13 w13 => ∃ a13 l13 c13, e13 = .returned (.slice a13 l13 c13) /\
 K (.slice a13 l13 c13) w13)
theorem j5 (v0 : Value) {w : World} {K : Value -> World -> Prop} (h : zH v0 w K) : Calls prog qB #[v0] w (Ret K) :=
 qo (c := qr Tryz.f61) (by kernel_rfl) Tryz.func61 (by kernel_rfl) [(2, [])] [v0] (of_decide_eq_true (by kernel_rfl)) _ (by kernel_rfl) h

--  cracknel/cracknelref03.Parse
def zZ (v0 : Value) (w : World) (K : Value -> World -> Prop) : Prop :=
 ∀ k1 w1, k1 = w.heap.size -> w1 = w.alloc (.cells (Value.cells v0) qk) ->
 ((0 <= (12 : Int) /\ (12 : Int) < ((16 : Nat) : Int)) /\ true = true) /\
 ∃ n4, (∀ u4, Below w1.heap.size w1 u4 -> Ld qw (qn (some ⟨k1, 0, none⟩) (12 : Int) 1) u4 (.int .u8 n4)) /\
 ∃ s6, (∀ u6, Below w1.heap.size w1 u6 -> Calls prog qu #[.int .i64 (i64.wrap n4)] u6 fun e6 w6 => e6 = .returned (.string (mkS s6)) /\ Below w1.heap.size u6 w6) /\
 ((((List.length s6 + List.length [46] : Nat) : Int) <= i64.max)) /\
 ∀ s7, s7 = (s6 ++ [46]) ->
 ((0 <= (13 : Int) /\ (13 : Int) < ((16 : Nat) : Int)) /\ true = true) /\
 ∃ n9, (∀ u9, Below w1.heap.size w1 u9 -> Ld qw (qn (some ⟨k1, 0, none⟩) (13 : Int) 1) u9 (.int .u8 n9)) /\
 ∃ s11, (∀ u11, Below w1.heap.size w1 u11 -> Calls prog qu #[.int .i64 (i64.wrap n9)] u11 fun e11 w11 => e11 = .returned (.string (mkS s11)) /\ Below w1.heap.size u11 w11) /\
 ((((List.length s7 + List.length s11 : Nat) : Int) <= i64.max)) /\
 ∀ s12, s12 = (s7 ++ s11) ->
 ((((List.length s12 + List.length [46] : Nat) : Int) <= i64.max)) /\
 ∀ s13, s13 = (s12 ++ [46]) ->
 ((0 <= (14 : Int) /\ (14 : Int) < ((16 : Nat) : Int)) /\ true = true) /\
 ∃ n15, (∀ u15, Below w1.heap.size w1 u15 -> Ld qw (qn (some ⟨k1, 0, none⟩) (14 : Int) 1) u15 (.int .u8 n15)) /\
 ∃ s17, (∀ u17, Below w1.heap.size w1 u17 -> Calls prog qu #[.int .i64 (i64.wrap n15)] u17 fun e17 w17 => e17 = .returned (.string (mkS s17)) /\ Below w1.heap.size u17 w17) /\
 ((((List.length s13 + List.length s17 : Nat) : Int) <= i64.max)) /\
 ∀ s18, s18 = (s13 ++ s17) ->
 ((((List.length s18 + List.length [46] : Nat) : Int) <= i64.max)) /\
 ∀ s19, s19 = (s18 ++ [46]) ->
 ((0 <= (15 : Int) /\ (15 : Int) < ((16 : Nat) : Int)) /\ true = true) /\
 ∃ n21, (∀ u21, Below w1.heap.size w1 u21 -> Ld qw (qn (some ⟨k1, 0, none⟩) (15 : Int) 1) u21 (.int .u8 n21)) /\
 ∃ s23, (∀ u23, Below w1.heap.size w1 u23 -> Calls prog qu #[.int .i64 (i64.wrap n21)] u23 fun e23 w23 => e23 = .returned (.string (mkS s23)) /\ Below w1.heap.size u23 w23) /\
 ((((List.length s19 + List.length s23 : Nat) : Int) <= i64.max)) /\
 ∀ s24, s24 = (s19 ++ s23) ->
 ∀ wq, Below w1.heap.size w1 wq ->
 K (.string (mkS s24)) wq
theorem qan (v0 : Value) {w : World} {K : Value -> World -> Prop} (h : zZ v0 w K) : Calls prog zp #[v0] w (Ret K) :=
 qo (c := qr Tryz.f108) (by kernel_rfl) Tryz.func108 (by kernel_rfl) [] [v0] (of_decide_eq_true (by kernel_rfl)) _ (by kernel_rfl) h

--  cracknel/cracknelref02.Text6
def zW (v0 : Value) (w : World) (K : Value -> World -> Prop) : Prop :=
 ∀ k1 w1, k1 = w.heap.size -> w1 = w.alloc (.cells (Value.cells v0) qk) ->
 ∃ I : Nat -> FP [.one (.int .i64)],
 (∃ m, I m (8 : Int) w1) /\
 ∀ m n3, AllJ 40 (∀ wl, I m n3 wl ->
 BCase (decide (n3 >= (2 : Int)))
 (∃ I_1 : Nat -> FP [.one (.int .i64)],
 (∃ m_1, I_1 m_1 (0 : Int) wl) /\
 ∀ m_1 n4, AllJ 35 (∀ wl_1, I_1 m_1 n4 wl_1 ->
 BCase (decide ((i64.wrap (n4 + n3)) <= (8 : Int)))
 (∃ I_2 : Nat -> FP [.one (.bool), .one (.int .i64)],
 (∃ m_2, I_2 m_2 true n4 wl_1) /\
 ∀ m_2 b5 n6, AllJ 14 (∀ wl_2, I_2 m_2 b5 n6 wl_2 ->
 BCase (decide (n6 < (i64.wrap (n4 + n3))))
 (BCase b5
 (∃ v27, Ld qk (some ⟨k1, 0, none⟩) wl_2 v27 /\
 Calls prog qV #[v27, .int .i64 n6] wl_2 fun e29 w29 => ∃ n29, e29 = .returned (.int .i64 n29) /\
 ∃ m'_2 : Nat, m'_2 < m_2 /\ I_2 m'_2 (n29 == (0 : Int)) (i64.wrap (n6 + (1 : Int))) w29)
 (∃ m'_2 : Nat, m'_2 < m_2 /\ I_2 m'_2 false (i64.wrap (n6 + (1 : Int))) wl_2))
 (BCase b5
 (∃ v33, (∀ u33, Below wl_2.heap.size wl_2 u33 -> Ld qk (some ⟨k1, 0, none⟩) u33 v33) /\
 ∃ s35, (∀ u35, Below wl_2.heap.size wl_2 u35 -> Calls prog qF #[v33, .int .i64 (0 : Int), .int .i64 n4] u35 fun e35 w35 => e35 = .returned (.string (mkS s35)) /\ Below wl_2.heap.size u35 w35) /\
 ((((List.length s35 + List.length [58, 58] : Nat) : Int) <= i64.max)) /\
 ∀ s36, s36 = (s35 ++ [58, 58]) ->
 ∃ v37, (∀ u37, Below wl_2.heap.size wl_2 u37 -> Ld qk (some ⟨k1, 0, none⟩) u37 v37) /\
 ∃ s41, (∀ u41, Below wl_2.heap.size wl_2 u41 -> Calls prog qF #[v37, .int .i64 (i64.wrap (n4 + n3)), .int .i64 (8 : Int)] u41 fun e41 w41 => e41 = .returned (.string (mkS s41)) /\ Below wl_2.heap.size u41 w41) /\
 ((((List.length s36 + List.length s41 : Nat) : Int) <= i64.max)) /\
 ∀ s42, s42 = (s36 ++ s41) ->
 ∀ wq, Below wl_2.heap.size wl_2 wq ->
 K (.string (mkS s42)) wq)
 (∃ m'_1 : Nat, m'_1 < m_1 /\ I_1 m'_1 (i64.wrap (n4 + (1 : Int))) wl_2))))
 (∃ m' : Nat, m' < m /\ I m' (i64.wrap (n3 - (1 : Int))) wl_1)))
 (∃ v43, Ld qk (some ⟨k1, 0, none⟩) wl v43 /\
 Calls prog qF #[v43, .int .i64 (0 : Int), .int .i64 (8 : Int)] wl fun e44 w44 => ∃ s44, e44 = .returned (.string (mkS s44)) /\
 K (.string (mkS s44)) w44))
theorem qak (v0 : Value) {w : World} {K : Value -> World -> Prop} (h : zW v0 w K) : Calls prog zm #[v0] w (Ret K) :=
 qo (c := qr Tryz.f109) (by kernel_rfl) Tryz.func109 (by kernel_rfl) [(6, [(3, .one (.int .i64))]), (18, [(4, .one (.int .i64))]), (33, [(5, .one (.bool)), (6, .one (.int .i64))])] [v0] (of_decide_eq_true (by kernel_rfl)) _ (by kernel_rfl) h

--  cracknel/cracknelref02.V6
def zu (n0 : Int) (w : World) (K : Value -> World -> Prop) : Prop :=
 BCase (decide (n0 < (10 : Int)))
 (∀ k8 w8, k8 = w.heap.size -> w8 = w.alloc (.cells #[.int .u8 (IntKind.u8.wrap (i64.wrap ((48 : Int) + n0)))] qw) ->
 ∃ s9, (convert qE qe (.slice (some ⟨k8, 0, none⟩) 1 1)).run prog w8 = .ok (.string (mkS s9)) w8 /\
 K (.string (mkS s9)) w8)
 (((10 : Int) ≠ 0) /\
 ∀ q11, q11 = (i64.wrap (Int.tdiv n0 (10 : Int))) ->
 ((10 : Int) ≠ 0) /\
 ∀ q14, q14 = (Int.tmod n0 (10 : Int)) ->
 (Calls prog qu #[.int .i64 q11] (World.drew w) fun e12 w12 => ∃ s12, e12 = .returned (.string (mkS s12)) /\
 ∀ k17 w17, k17 = w12.heap.size -> w17 = w12.alloc (.cells #[.int .u8 (IntKind.u8.wrap (i64.wrap ((48 : Int) + q14)))] qw) ->
 ∃ s18, (convert qE qe (.slice (some ⟨k17, 0, none⟩) 1 1)).run prog w17 = .ok (.string (mkS s18)) w17 /\
 ((((List.length s12 + List.length s18 : Nat) : Int) <= i64.max)) /\
 ∀ s19, s19 = (s12 ++ s18) ->
 K (.string (mkS s19)) w17) /\
 ∀ k17_1 w17_1, k17_1 = (World.drew w).heap.size -> w17_1 = (World.drew w).alloc (.cells #[.int .u8 (IntKind.u8.wrap (i64.wrap ((48 : Int) + q14)))] qw) ->
 (Calls prog qu #[.int .i64 q11] w17_1 fun e12_1 w12_1 => ∃ s12_1, e12_1 = .returned (.string (mkS s12_1)) /\
 ∃ s18_1, (convert qE qe (.slice (some ⟨k17_1, 0, none⟩) 1 1)).run prog w12_1 = .ok (.string (mkS s18_1)) w12_1 /\
 ((((List.length s12_1 + List.length s18_1 : Nat) : Int) <= i64.max)) /\
 ∀ s19_1, s19_1 = (s12_1 ++ s18_1) ->
 K (.string (mkS s19_1)) w12_1) /\
 ∃ s18_2, (convert qE qe (.slice (some ⟨k17_1, 0, none⟩) 1 1)).run prog w17_1 = .ok (.string (mkS s18_2)) w17_1 /\
 Calls prog qu #[.int .i64 q11] w17_1 fun e12_2 w12_2 => ∃ s12_2, e12_2 = .returned (.string (mkS s12_2)) /\
 ((((List.length s12_2 + List.length s18_2 : Nat) : Int) <= i64.max)) /\
 ∀ s19_2, s19_2 = (s12_2 ++ s18_2) ->
 K (.string (mkS s19_2)) w12_2)
theorem jE (n0 : Int) {w : World} {K : Value -> World -> Prop} (h : zu n0 w K) : Calls prog qu #[.int .i64 n0] w (Ret K) :=
 qo (c := qr Tryz.f176) (by kernel_rfl) Tryz.func176 (by kernel_rfl) [] [.int .i64 n0] (of_decide_eq_true (by kernel_rfl)) _ (by kernel_rfl) h

--  cracknel/cracknelref02.Group
def z6 (v0 : Value) (n1 : Int) (w : World) (K : Value -> World -> Prop) : Prop :=
 ∀ k2 w2, k2 = w.heap.size -> w2 = w.alloc (.cells (Value.cells v0) qk) ->
 ((0 <= (i64.wrap ((2 : Int) * n1)) /\ (i64.wrap ((2 : Int) * n1)) < ((16 : Nat) : Int)) /\ true = true) /\
 ∃ n8, (∀ u8, Below w2.heap.size w2 u8 -> Ld qw (qn (some ⟨k2, 0, none⟩) (i64.wrap ((2 : Int) * n1)) 1) u8 (.int .u8 n8)) /\
 ((0 <= (i64.wrap ((i64.wrap ((2 : Int) * n1)) + (1 : Int))) /\ (i64.wrap ((i64.wrap ((2 : Int) * n1)) + (1 : Int))) < ((16 : Nat) : Int)) /\ true = true) /\
 ∃ n15, (∀ u15, Below w2.heap.size w2 u15 -> Ld qw (qn (some ⟨k2, 0, none⟩) (i64.wrap ((i64.wrap ((2 : Int) * n1)) + (1 : Int))) 1) u15 (.int .u8 n15)) /\
 ∀ wq, Below w2.heap.size w2 wq ->
 K (.int .i64 (i64.wrap ((i64.wrap ((i64.wrap n8) * (256 : Int))) + (i64.wrap n15)))) wq
theorem qar (v0 : Value) (n1 : Int) {w : World} {K : Value -> World -> Prop} (h : z6 v0 n1 w K) : Calls prog qV #[v0, .int .i64 n1] w (Ret K) :=
 qo (c := qr Tryz.f177) (by kernel_rfl) Tryz.func177 (by kernel_rfl) [] [v0, .int .i64 n1] (of_decide_eq_true (by kernel_rfl)) _ (by kernel_rfl) h

--  cracknel/cracknelref02.part
def jr (v0 : Value) (n1 : Int) (n2 : Int) (w : World) (K : Value -> World -> Prop) : Prop :=
 ∀ k3 w3, k3 = w.heap.size -> w3 = w.alloc (.cells (Value.cells v0) qk) ->
 ∃ I : Nat -> FP [.one (.str), .one (.int .i64)],
 (∃ m, I m [] n1 w3) /\
 ∀ m s7 n8, AllJ 16 (∀ wl, I m s7 n8 wl ->
 BCase (decide (n8 < n2))
 (∃ J : FP [.one (.str)],
 (BCase (decide (n8 > n1))
 (((((List.length s7 + List.length [58] : Nat) : Int) <= i64.max)) /\
 ∀ s19, s19 = (s7 ++ [58]) ->
 J s19 wl)
 (J s7 wl)) /\
 ∀ s7_1, AllJ 5 (∀ wj, J s7_1 wj ->
 ∃ v21, Ld qk (some ⟨k3, 0, none⟩) wj v21 /\
 Calls prog qV #[v21, .int .i64 n8] wj fun e23 w23 => ∃ n23, e23 = .returned (.int .i64 n23) /\
 Calls prog zq #[.int .i64 n23] w23 fun e24 w24 => ∃ s24, e24 = .returned (.string (mkS s24)) /\
 ((((List.length s7_1 + List.length s24 : Nat) : Int) <= i64.max)) /\
 ∀ s25, s25 = (s7_1 ++ s24) ->
 ∃ m' : Nat, m' < m /\ I m' s25 (i64.wrap (n8 + (1 : Int))) w24))
 (K (.string (mkS s7)) wl))
theorem qaP (v0 : Value) (n1 : Int) (n2 : Int) {w : World} {K : Value -> World -> Prop} (h : jr v0 n1 n2 w K) : Calls prog qF #[v0, .int .i64 n1, .int .i64 n2] w (Ret K) :=
 qo (c := qr Tryz.f178) (by kernel_rfl) Tryz.func178 (by kernel_rfl) [(8, [(7, .one (.str)), (8, .one (.int .i64))]), (17, [(7, .one (.str))])] [v0, .int .i64 n1, .int .i64 n2] (of_decide_eq_true (by kernel_rfl)) _ (by kernel_rfl) h

--  cracknel/cracknelref02.eight
def jQ (n0 : Int) (w : World) (K : Value -> World -> Prop) : Prop :=
 BCase (decide (n0 < (16 : Int)))
 ((((0 <= (i64.wrap (n0 + (1 : Int))) /\ (i64.wrap (n0 + (1 : Int))) <= (((List.length [48, 49, 50, 51, 52, 53, 54, 55, 56, 57, 97, 98, 99, 100, 101, 102]) : Nat) : Int)) /\ 0 <= n0 /\ n0 <= ((Int.toNat (i64.wrap (n0 + (1 : Int))) : Nat) : Int))) /\
 ∀ s8, s8 = (List.drop (Int.toNat n0) (List.take (Int.toNat (i64.wrap (n0 + (1 : Int)))) [48, 49, 50, 51, 52, 53, 54, 55, 56, 57, 97, 98, 99, 100, 101, 102])) ->
 K (.string (mkS s8)) w)
 (((16 : Int) ≠ 0) /\
 ∀ q10, q10 = (i64.wrap (Int.tdiv n0 (16 : Int))) ->
 ∃ s11, (∀ u11, Below w.heap.size w u11 -> Calls prog zq #[.int .i64 q10] u11 fun e11 w11 => e11 = .returned (.string (mkS s11)) /\ Below w.heap.size u11 w11) /\
 ((16 : Int) ≠ 0) /\
 ∀ q13, q13 = (Int.tmod n0 (16 : Int)) ->
 ((16 : Int) ≠ 0) /\
 ∀ q15, q15 = (Int.tmod n0 (16 : Int)) ->
 (((0 <= (i64.wrap (q15 + (1 : Int))) /\ (i64.wrap (q15 + (1 : Int))) <= (((List.length [48, 49, 50, 51, 52, 53, 54, 55, 56, 57, 97, 98, 99, 100, 101, 102]) : Nat) : Int)) /\ 0 <= q13 /\ q13 <= ((Int.toNat (i64.wrap (q15 + (1 : Int))) : Nat) : Int))) /\
 ∀ s17, s17 = (List.drop (Int.toNat q13) (List.take (Int.toNat (i64.wrap (q15 + (1 : Int)))) [48, 49, 50, 51, 52, 53, 54, 55, 56, 57, 97, 98, 99, 100, 101, 102])) ->
 ((((List.length s11 + List.length s17 : Nat) : Int) <= i64.max)) /\
 ∀ s18, s18 = (s11 ++ s17) ->
 ∀ wq, Below w.heap.size w wq ->
 K (.string (mkS s18)) wq)
theorem qbe (n0 : Int) {w : World} {K : Value -> World -> Prop} (h : jQ n0 w K) : Calls prog zq #[.int .i64 n0] w (Ret K) :=
 qo (c := qr Tryz.f237) (by kernel_rfl) Tryz.func237 (by kernel_rfl) [] [.int .i64 n0] (of_decide_eq_true (by kernel_rfl)) _ (by kernel_rfl) h

--  cracknel/cracknelref02.digit
end Go.Proofs.YtndbpedpdbjkpaaGreatDoor
set_option maxRecDepth 20000
namespace Go.Pk
theorem jA {n : Nat} (h : n < 10) : decL n = [UInt8.ofNat (48 + n)] := Lib.decDigits_one h
theorem jC {n : Nat} (h : ¬ n < 10) : decL n = decL (n / 10) ++ [UInt8.ofNat (48 + n % 10)] := by
 show Lib.decDigits n = _
 rw [Lib.decDigits, dif_neg h]
theorem qfg {a : List UInt8} (h : a.length = 16) : a.drop 12 = [a[12]'(by omega), a[13]'(by omega), a[14]'(by omega), a[15]'(by omega)] := by
 rw [List.drop_eq_getElem_cons (by omega), List.drop_eq_getElem_cons (by omega), List.drop_eq_getElem_cons (by omega), List.drop_eq_getElem_cons (by omega), List.drop_eq_nil_of_le (by omega)]
theorem text4_parts {a : List UInt8} (h : a.length = 16) : text4V a = decL (a[12]'(by omega)).toNat ++ ([46] : List UInt8) ++ decL (a[13]'(by omega)).toNat ++ ([46] : List UInt8) ++ decL (a[14]'(by omega)).toNat ++ ([46] : List UInt8) ++ decL (a[15]'(by omega)).toNat := by
 unfold text4V
 rw [qfg h]
 simp [Lib.join_cons, Lib.joinTail]
end Go.Pk
namespace Go.Proofs.YtndbpedpdbjkpaaGreatDoor
open Go.Pk
open Go.RowKit (Below)
theorem zk {w w8 : World} {k8 : Nat} {d : Nat} (hd : d < 10) {x : Int} (hx : x = (d : Int)) (hk : k8 = w.heap.size) (hw : w8 = w.alloc (.cells #[.int .u8 (IntKind.u8.wrap (i64.wrap ((48 : Int) + x)))] qw)) :
   ∀ u, Below w8.heap.size w8 u -> (convert qE qe (.slice (some ⟨k8, 0, none⟩) 1 1)).run prog u = .ok (.string (mkS [UInt8.ofNat (48 + d)])) u := by
 intro u hu
 have e : IntKind.u8.wrap (i64.wrap ((48 : Int) + x)) = (((UInt8.ofNat (48 + d)).toNat : Nat) : Int) := by
   rw [hx, wrap_i64 (by omega) (by omega), qcc (by omega) (by omega), qkg (by omega)]; omega
 rw [e] at hw
 have ho : Ow tU8 qw w8 NoB (some ⟨k8, 0, none⟩) 1 1 [UInt8.ofNat (48 + d)] := Ow.newF qgA hk hw (RepL.one (qgz rfl)) (show 1 <= maxLen by decide)
 exact qeX zQ un_string un_uint8 (ho.below hu).all
theorem qI : ∀ (n : Nat) (h : n <= 9223372036854775807) (w : World), Calls prog qu #[.int .i64 (n : Int)] w (Ret fun v w' => v = .string (mkS (decL n)) /\ Below w.heap.size w w')
 | n, hn, w => by
   apply jE
   unfold zu
   refine BCase.of (fun h => ?_) (fun h => ?_) <;> simp only [dTx, dFx] at h
   · intro k8 w8 hk8 hw8
     refine ⟨_, zk (d := n) (by omega) rfl hk8 hw8 w8 (Below.refl _ _), ?_⟩
     rw [jA (by omega)]
     exact ⟨rfl, hw8 ▸ qf _ _⟩
   · have hlt : n / 10 < n := by omega
     refine ⟨by decide, ?_⟩
     rintro _ rfl
     refine ⟨by decide, ?_⟩
     rintro _ rfl
     have e1 : i64.wrap (Int.tdiv (n : Int) 10) = ((n / 10 : Nat) : Int) := by rw [tdiv_pos (by omega), wrap_i64 (by omega) (by omega)]; omega
     have e2 : Int.tmod (n : Int) 10 = ((n % 10 : Nat) : Int) := by rw [tmod_pos (by omega)]; omega
     rw [e1, e2, jC (by omega)]
     have hd : Below w.heap.size w (World.drew w) := qcT rfl rfl rfl (Nat.le_refl _) (fun _ _ => rfl)
     have hl := zS (n := n / 10) (by omega)
     refine ⟨?_, ?_⟩
     · refine callK (qI (n / 10) (by omega) (World.drew w)) ?_
       rintro _ w1 ⟨rfl, hb1⟩
       refine ⟨_, rfl, ?_⟩
       intro k8 w8 hk8 hw8
       refine ⟨_, zk (d := n % 10) (by omega) rfl hk8 hw8 w8 (Below.refl _ _), fits (by simp; omega), ?_⟩
       rintro _ rfl
       have hB1 := qb hd hb1 hd.size
       exact ⟨rfl, qb hB1 (hw8 ▸ qf _ _) hB1.size⟩
     · intro k8 w8 hk8 hw8
       have hb8 : Below (World.drew w).heap.size (World.drew w) w8 := hw8 ▸ qf _ _
       have hB8 := qb hd hb8 hd.size
       refine ⟨?_, _, zk (d := n % 10) (by omega) rfl hk8 hw8 w8 (Below.refl _ _), ?_⟩
       · refine callK (qI (n / 10) (by omega) w8) ?_
         rintro _ w1 ⟨rfl, hb1⟩
         refine ⟨_, rfl, _, zk (d := n % 10) (by omega) rfl hk8 hw8 w1 hb1, fits (by simp; omega), ?_⟩
         rintro _ rfl
         exact ⟨rfl, qb hB8 hb1 hB8.size⟩
       · refine callK (qI (n / 10) (by omega) w8) ?_
         rintro _ w1 ⟨rfl, hb1⟩
         refine ⟨_, rfl, fits (by simp; omega), ?_⟩
         rintro _ rfl
         exact ⟨rfl, qb hB8 hb1 hB8.size⟩
 termination_by n => n
theorem qaM (a : List UInt8) (ha : a.length = 16) (w : World) : Calls prog zp #[adV a] w (Ret fun v w' => v = .string (mkS (text4V a)) /\ Below w.heap.size w w') := by
 apply qan
 unfold zZ
 intro k1 w1 hk1 hw1
 have hB1 := (hw1 ▸ qf w _ : Below w.heap.size w w1)
 have h1 : qm w1 k1 qk (adC a) := qm.new hk1 hw1
 have ld : ∀ (i : Nat) (hi : i < a.length) (u : World), Below w1.heap.size w1 u -> (Instr.loadAt qw (.pointer (qn (some ⟨k1, 0, none⟩) (i : Int) 1))).run prog u = .ok (.int .u8 ((a[i].toNat : Nat) : Int)) u := fun i hi u hu => by
   rw [z8, Nat.zero_add]
   exact (h1.below hu).load1 un_uint8 rfl (qcO hi)
 have dc : ∀ (c : UInt8) (u : World), Below w1.heap.size w1 u -> Calls prog qu #[.int .i64 (i64.wrap ((c.toNat : Nat) : Int))] u fun e w' => e = .returned (.string (mkS (decL c.toNat))) /\ Below w1.heap.size u w' := fun c u hu => by
   have := qbc c
   rw [wrap_i64 (by omega) (by omega)]
   exact zj (qI c.toNat (by omega) u) hu
 have l12 := zS (n := a[12].toNat) (by have := qbc a[12]; omega)
 have l13 := zS (n := a[13].toNat) (by have := qbc a[13]; omega)
 have l14 := zS (n := a[14].toNat) (by have := qbc a[14]; omega)
 have l15 := zS (n := a[15].toNat) (by have := qbc a[15]; omega)
 refine ⟨⟨⟨by decide, by decide⟩, rfl⟩, _, ld 12 (by omega), _, dc _, fits (by simp; omega), ?_⟩
 rintro _ rfl
 refine ⟨⟨⟨by decide, by decide⟩, rfl⟩, _, ld 13 (by omega), _, dc _, fits (by simp; omega), ?_⟩
 rintro _ rfl
 refine ⟨fits (by simp; omega), ?_⟩
 rintro _ rfl
 refine ⟨⟨⟨by decide, by decide⟩, rfl⟩, _, ld 14 (by omega), _, dc _, fits (by simp; omega), ?_⟩
 rintro _ rfl
 refine ⟨fits (by simp; omega), ?_⟩
 rintro _ rfl
 refine ⟨⟨⟨by decide, by decide⟩, rfl⟩, _, ld 15 (by omega), _, dc _, fits (by simp; omega), ?_⟩
 rintro _ rfl
 intro wq hwq
 rw [text4_parts ha]
 exact ⟨by simp only [List.append_assoc], qb hB1 hwq hB1.size⟩
end Go.Proofs.YtndbpedpdbjkpaaGreatDoor
namespace Go.Pk
theorem hex16_all : ∀ d : Nat, d < 16 -> (([48, 49, 50, 51, 52, 53, 54, 55, 56, 57, 97, 98, 99, 100, 101, 102] : List UInt8).take (d + 1)).drop d = [hexC d] := by decide
end Go.Pk
namespace Go.Proofs.YtndbpedpdbjkpaaGreatDoor
open Go.Pk
open Go.RowKit (Below)
theorem jP : ∀ (n : Nat) (h : n < 65536) (w : World), Calls prog zq #[.int .i64 (n : Int)] w (Ret fun v w' => v = .string (mkS (hexL n)) /\ Below w.heap.size w w')
 | n, hn, w => by
   apply qbe
   unfold jQ
   refine BCase.of (fun h => ?_) (fun h => ?_) <;> simp only [dTx, dFx] at h
   · have e : i64.wrap ((n : Int) + 1) = ((n + 1 : Nat) : Int) := by rw [wrap_i64 (by omega) (by omega)]; omega
     rw [e]
     refine ⟨⟨⟨by omega, by simp; omega⟩, by omega, by omega⟩, ?_⟩
     rintro _ rfl
     simp only [Int.toNat_natCast]
     rw [hex16_all n (by omega), qdK (by omega)]
     exact ⟨rfl, Below.refl _ _⟩
   · have hlt : n / 16 < n := by omega
     have e1 : i64.wrap (Int.tdiv (n : Int) 16) = ((n / 16 : Nat) : Int) := by rw [tdiv_pos (by omega), wrap_i64 (by omega) (by omega)]; omega
     have e2 : Int.tmod (n : Int) 16 = ((n % 16 : Nat) : Int) := by rw [tmod_pos (by omega)]; omega
     refine ⟨by decide, ?_⟩
     rintro _ rfl
     rw [e1, e2]
     have hl := qcp (n := n / 16) (by omega)
     refine ⟨_, fun u hu => zj (jP (n / 16) (by omega) u) hu, by decide, ?_⟩
     rintro _ rfl
     refine ⟨by decide, ?_⟩
     rintro _ rfl
     have e : i64.wrap (((n % 16 : Nat) : Int) + 1) = ((n % 16 + 1 : Nat) : Int) := by rw [wrap_i64 (by omega) (by omega)]; omega
     rw [e]
     refine ⟨⟨⟨by omega, by simp; omega⟩, by omega, by omega⟩, ?_⟩
     rintro _ rfl
     simp only [Int.toNat_natCast]
     rw [hex16_all (n % 16) (by omega)]
     refine ⟨fits (by simp; omega), ?_⟩
     rintro _ rfl
     intro wq hwq
     rw [hexL_more (n := n) (by omega)]
     exact ⟨rfl, hwq⟩
 termination_by n => n
end Go.Proofs.YtndbpedpdbjkpaaGreatDoor
namespace Go.Pk
theorem qbX (zs : List Bool) (p l : Nat) : allZ zs p (l + 1) = (allZ zs p l && zs.getD (p + l) false) := by
 unfold allZ; rw [List.range_succ, List.all_append]; simp
theorem qh7 (a : List UInt8) {k : Nat} (h : k < 8) : (zsA a).getD k false = (grpA a k == 0) := by
 unfold zsA
 rw [List.getD_eq_getElem?_getD, List.getElem?_map, List.getElem?_eq_getElem (by rw [qdq]; exact h), qhX]; rfl
theorem qbZ (sep : List UInt8) (r : List (List UInt8)) (y : List UInt8) : Lib.joinTail sep (r ++ [y]) = Lib.joinTail sep r ++ (sep ++ y) := by simp [Lib.joinTail]
theorem qfi (l : List Nat) (x : Nat) : wrL (l ++ [x]) = if l = [] then hexL x else wrL l ++ [58] ++ hexL x := by
 unfold wrL
 cases l with
 | nil => simp [Lib.join_one]
 | cons y r =>
   rw [if_neg (by simp), List.map_append, List.map_cons, List.cons_append, List.map_cons, List.map_nil, Lib.join_cons, Lib.join_cons, qbZ]
   simp
end Go.Pk
namespace Go.Proofs.YtndbpedpdbjkpaaGreatDoor
open Go.Pk
open Go.RowKit (Below)
theorem zY (a : List UInt8) (ha : a.length = 16) (k : Nat) (hk : k < 8) (w : World) : Calls prog qV #[adV a, .int .i64 (k : Int)] w (Ret fun v w' => v = .int .i64 ((grpA a k : Nat) : Int) /\ Below w.heap.size w w') := by
 apply qar
 unfold z6
 intro k1 w1 hk1 hw1
 have hB1 := (hw1 ▸ qf w _ : Below w.heap.size w w1)
 have h1 : qm w1 k1 qk (adC a) := qm.new hk1 hw1
 have e1 : i64.wrap (2 * (k : Int)) = ((2 * k : Nat) : Int) := by rw [wrap_i64 (by omega) (by omega)]; omega
 have e2 : i64.wrap (((2 * k : Nat) : Int) + 1) = ((2 * k + 1 : Nat) : Int) := by rw [wrap_i64 (by omega) (by omega)]; omega
 rw [e1, e2, z8, z8, Nat.zero_add, Nat.zero_add]
 refine ⟨⟨⟨by omega, by omega⟩, rfl⟩, _, fun u hu => (h1.below hu).load1 un_uint8 rfl (qcO (a := a) (i := 2 * k) (by omega)), ⟨⟨by omega, by omega⟩, rfl⟩, _, fun u hu => (h1.below hu).load1 un_uint8 rfl (qcO (a := a) (i := 2 * k + 1) (by omega)), fun wq hwq => ⟨?_, qb hB1 hwq hB1.size⟩⟩
 have u1 := qbc (a[2 * k]'(by omega))
 have u2 := qbc (a[2 * k + 1]'(by omega))
 have hval : (a[2 * k]'(by omega)).toNat * 256 + (a[2 * k + 1]'(by omega)).toNat = grpA a k := by
   unfold grpA
   rw [List.getD_eq_getElem?_getD, List.getD_eq_getElem?_getD, List.getElem?_eq_getElem (by omega), List.getElem?_eq_getElem (by omega)]; rfl
 rw [<- hval, wrap_i64 (n := (((a[2 * k]'(by omega)).toNat : Nat) : Int)) (by omega) (by omega), wrap_i64 (n := (((a[2 * k + 1]'(by omega)).toNat : Nat) : Int)) (by omega) (by omega), wrap_i64 (n := _ * _) (by omega) (by omega), wrap_i64 (by omega) (by omega)]
 congr 1
theorem zn (a : List UInt8) (ha : a.length = 16) (p q : Nat) (hpq : p <= q) (hq : q <= 8) (w : World) : Calls prog qF #[adV a, .int .i64 (p : Int), .int .i64 (q : Int)] w
   (Ret fun v w' => v = .string (mkS (wrL (((gL a).drop p).take (q - p)))) /\ Below w.heap.size w w') := by
 apply qaP
 unfold jr
 intro k1 w1 hk1 hw1
 have hB1 := (hw1 ▸ qf w _ : Below w.heap.size w w1)
 have h1 : qm w1 k1 qk (adC a) := qm.new hk1 hw1
 have hgl := qdq a
 have hbx : ∀ j, ∀ x ∈ ((gL a).drop p).take j, x < 65536 := fun j x hx => qeo a x (List.mem_of_mem_drop (List.mem_of_mem_take hx))
 refine ⟨fun m s i w' => ∃ j : Nat, j <= q - p /\ i = ((p + j : Nat) : Int) /\ m = q - p - j /\ s = wrL (((gL a).drop p).take j) /\ Below w1.heap.size w1 w', ⟨_, 0, by omega, rfl, rfl, rfl, Below.refl _ _⟩, ?_⟩
 intro m s i
 refine AllJ.of ?_ _
 rintro w2 ⟨j, hj, rfl, rfl, rfl, hB2⟩
 have hl := qbz (hbx j)
 rw [List.length_take, List.length_drop] at hl
 refine BCase.of (fun h => ?_) (fun h => ?_) <;> simp only [dTx, dFx] at h
 · have hlt : p + j < q := by omega
   refine strJ (B := fun J => BCase _ (_ /\ ∀ s19, s19 = (_ ++ [58]) -> J s19 w2) (J _ w2)) (if j = 0 then [] else wrL (((gL a).drop p).take j) ++ [58]) (BCase.of (fun hx => ⟨fits (by simp; omega), ?_⟩) (fun hx => ⟨rfl, ?_⟩)) ?_
   · rintro _ rfl
     simp only [gt_iff_lt, dTx] at hx
     exact ⟨rfl, by rw [if_neg (by omega)]⟩
   · simp only [gt_iff_lt, dFx] at hx
     have : j = 0 := by omega
     subst this
     rw [if_pos rfl]; rfl
   · refine ⟨_, qR.load0 (h1.below hB2) (by rw [zF, ha]), ?_⟩
     refine callK (zY a ha (p + j) (by omega) w2) ?_
     rintro _ w3 ⟨rfl, hb3⟩
     have hB3 := qb hB2 hb3 hB2.size
     refine ⟨_, rfl, ?_⟩
     refine callK (jP (grpA a (p + j)) (qfr _ _) w3) ?_
     rintro _ w4 ⟨rfl, hb4⟩
     have hB4 := qb hB3 hb4 hB3.size
     have hl4 := qcp (qfr a (p + j))
     refine ⟨_, rfl, fits (by split <;> simp <;> omega), ?_⟩
     rintro _ rfl
     refine ⟨q - p - (j + 1), by omega, j + 1, by omega, by rw [wrap_i64 (by omega) (by omega)]; omega, rfl, ?_, hB4⟩
     have hjd : j < ((gL a).drop p).length := by rw [List.length_drop]; omega
     rw [List.take_succ_eq_append_getElem hjd, qfi, List.getElem_drop, qhX]
     by_cases hj0 : j = 0
     · subst hj0; rfl
     · rw [if_neg hj0, if_neg]
       intro e
       have := congrArg List.length e
       rw [List.length_take] at this; simp at this; omega
 · have : j = q - p := by omega
   subst this
   exact ⟨rfl, qb hB1 hB2 hB1.size⟩
theorem qaK (a : List UInt8) (ha : a.length = 16) (w : World) : Calls prog zm #[adV a] w (Ret fun v w' => v = .string (mkS (qaJ a)) /\ Below w.heap.size w w') := by
 apply qak
 unfold zW
 intro k1 w1 hk1 hw1
 have hB1 := (hw1 ▸ qf w _ : Below w.heap.size w w1)
 have h1 : qm w1 k1 qk (adC a) := qm.new hk1 hw1
 have ha16 : (adC a).length = 16 := by rw [zF, ha]
 have hgl := qdq a
 obtain ⟨z1, z2, z3⟩ := qc3 (qit a)
 have ht : qaJ a = if (zc (zsA a)).2 < 2 then wrL (gL a) else wrL ((gL a).take (zc (zsA a)).1) ++ [58, 58] ++ wrL ((gL a).drop ((zc (zsA a)).1 + (zc (zsA a)).2)) := rfl
 refine ⟨fun m i w' => ∃ L : Nat, 1 <= L /\ L <= 8 /\ i = (L : Int) /\ m = L /\ (∀ L' A, L < L' -> A + L' <= 8 -> allZ (zsA a) A L' = false) /\ Below w1.heap.size w1 w', ⟨_, 8, by omega, by omega, rfl, rfl, fun L' A h1 h2 => by omega, Below.refl _ _⟩, ?_⟩
 intro m i
 refine AllJ.of ?_ _
 rintro w2 ⟨L, hL1, hL8, rfl, hm, hlong, hB2⟩
 obtain rfl : L = m := hm.symm
 refine BCase.of (fun h => ?_) (fun h => ?_) <;> simp only [ge_iff_le, dTx, dFx] at h
 · have hL2 : 2 <= L := by omega
   refine ⟨fun m i w' => ∃ A : Nat, A + L <= 9 /\ i = (A : Int) /\ m = 9 - A /\ (∀ A', A' < A -> allZ (zsA a) A' L = false) /\ Below w1.heap.size w1 w', ⟨_, 0, by omega, rfl, rfl, fun A' h => by omega, hB2⟩, ?_⟩
   intro m i
   refine AllJ.of ?_ _
   rintro w3 ⟨A, hA, rfl, rfl, hearly, hB3⟩
   have eAL : i64.wrap ((A : Int) + (L : Int)) = ((A + L : Nat) : Int) := by rw [wrap_i64 (by omega) (by omega)]; omega
   rw [eAL]
   refine BCase.of (fun h2 => ?_) (fun h2 => ?_) <;> simp only [dTx, dFx] at h2
   · have hAL : A + L <= 8 := by omega
     refine ⟨fun m b i w' => ∃ j : Nat, j <= L /\ i = ((A + j : Nat) : Int) /\ m = L - j /\ b = allZ (zsA a) A j /\ Below w1.heap.size w1 w', ⟨_, 0, by omega, rfl, rfl, rfl, hB3⟩, ?_⟩
     intro m b i
     refine AllJ.of ?_ _
     rintro w4 ⟨j, hj, rfl, rfl, rfl, hB4⟩
     have ew : i64.wrap (((A + j : Nat) : Int) + 1) = ((A + (j + 1) : Nat) : Int) := by rw [wrap_i64 (by omega) (by omega)]; omega
     rw [ew]
     refine BCase.of (fun h3 => ?_) (fun h3 => ?_) <;> simp only [dTx, dFx] at h3
     · have hjL : j < L := by omega
       refine BCase.of (fun h4 => ?_) (fun h4 => ?_)
       · refine ⟨_, qR.load0 (h1.below hB4) ha16, ?_⟩
         refine callK (zY a ha (A + j) (by omega) w4) ?_
         rintro _ w5 ⟨rfl, hb5⟩
         refine ⟨_, rfl, L - (j + 1), by omega, j + 1, by omega, rfl, rfl, ?_, qb hB4 hb5 hB4.size⟩
         rw [qbX, h4, Bool.true_and, qh7 a (by omega), Bool.eq_iff_iff]
         simp
       · exact ⟨L - (j + 1), by omega, j + 1, by omega, rfl, rfl, by rw [qbX, h4, Bool.false_and], hB4⟩
     · have : j = L := by omega
       subst this
       refine BCase.of (fun h4 => ?_) (fun h4 => ?_)
       · have hu := z3 j A hL2 hAL h4
         have hAz : j = (zc (zsA a)).2 /\ A = (zc (zsA a)).1 := by
           rcases hu with hu | ⟨hu1, hu2⟩
           · exfalso
             have := z2 (by omega)
             rw [hlong _ _ hu z1] at this; cases this
           · refine ⟨hu1, ?_⟩
             rcases Nat.lt_or_ge (zc (zsA a)).1 A with hc | hc
             · exfalso
               have := z2 (by omega)
               rw [<- hu1, hearly _ hc] at this; cases this
             · omega
         have l1 := qbz (l := (gL a).take A) fun x hx => qeo a x (List.mem_of_mem_take hx)
         have l2 := qbz (l := (gL a).drop (A + j)) fun x hx => qeo a x (List.mem_of_mem_drop hx)
         rw [List.length_take] at l1
         rw [List.length_drop] at l2
         have hp1 : ∀ u, Below w4.heap.size w4 u -> Calls prog qF #[adV a, .int .i64 (0 : Int), .int .i64 (A : Int)] u fun e w' => e = .returned (.string (mkS (wrL ((gL a).take A)))) /\ Below w4.heap.size u w' := fun u hu => by
           have := zn a ha 0 A (by omega) (by omega) u
           rw [List.drop_zero, Nat.sub_zero] at this
           exact zj this hu
         have hp2 : ∀ u, Below w4.heap.size w4 u -> Calls prog qF #[adV a, .int .i64 ((A + j : Nat) : Int), .int .i64 (8 : Int)] u fun e w' => e = .returned (.string (mkS (wrL ((gL a).drop (A + j))))) /\ Below w4.heap.size u w' := fun u hu => by
           have := zn a ha (A + j) 8 (by omega) (by omega) u
           rw [List.take_of_length_le (by rw [List.length_drop]; omega)] at this
           exact zj this hu
         refine ⟨_, fun u hu => qR.load0 ((h1.below hB4).below hu) ha16, _, hp1, fits (by simp; omega), ?_⟩
         rintro _ rfl
         refine ⟨_, fun u hu => qR.load0 ((h1.below hB4).below hu) ha16, _, hp2, fits (by simp; omega), ?_⟩
         rintro _ rfl
         intro wq hwq
         have hq := qb hB4 hwq hB4.size
         refine ⟨?_, qb hB1 hq hB1.size⟩
         rw [ht, if_neg (by omega), <- hAz.1, <- hAz.2]
       · refine ⟨9 - (A + 1), by omega, A + 1, by omega, by rw [wrap_i64 (by omega) (by omega)]; omega, rfl, fun A' hA' => ?_, hB4⟩
         by_cases e : A' = A
         · subst e; exact h4
         · exact hearly A' (by omega)
   · refine ⟨L - 1, by omega, L - 1, by omega, by omega, by rw [wrap_i64 (by omega) (by omega)]; omega, rfl, fun L' A' hl ha' => ?_, hB3⟩
     by_cases e : L' = L
     · subst e; exact hearly A' (by omega)
     · exact hlong L' A' (by omega) ha'
 · refine ⟨_, qR.load0 (h1.below hB2) ha16, ?_⟩
   have := zn a ha 0 8 (by omega) (by omega) w2
   rw [List.drop_zero, List.take_of_length_le (by omega)] at this
   refine callK this ?_
   rintro _ w5 ⟨rfl, hb5⟩
   have hq := qb hB2 hb5 hB2.size
   refine ⟨_, rfl, ?_, qb hB1 hq hB1.size⟩
   rw [ht, if_pos]
   refine Decidable.byContradiction fun hc => ?_
   have := z2 (by omega)
   rw [hlong _ _ (by omega) z1] at this; cases this
end Go.Proofs.YtndbpedpdbjkpaaGreatDoor
namespace Go.Proofs.YtndbpedpdbjkpaaGreatDoor
open Go.Pk
open Go.RowKit (Below)
theorem qba {h : Hst} (o : h.ok) (w : World) : Calls prog zM #[h.v] w (Ret fun v w' => v = .string (mkS (qax h)) /\ Below w.heap.size w w') := by
 apply qaN
 unfold js
 intro k1 w1 hk1 hw1
 have hB1 := (hw1 ▸ qf w _ : Below w.heap.size w w1)
 have h1 : qm w1 k1 qc h.cells := qm.new hk1 hw1
 refine ⟨rfl, _, h1.load1 qN rfl rfl, ?_⟩
 unfold qax
 refine BCase.of (fun c1 => ?_) (fun c1 => ?_) <;> simp only [beq_iff_eq, beq_eq_false_iff_ne, ne_eq] at c1
 · rw [if_pos c1]
   exact ⟨rfl, _, h1.load1 un_string rfl rfl, rfl, hB1⟩
 rw [if_neg c1]
 refine ⟨rfl, _, h1.load1 qN rfl rfl, ?_⟩
 refine BCase.of (fun c2 => ?_) (fun c2 => ?_) <;> simp only [beq_iff_eq, beq_eq_false_iff_ne, ne_eq] at c2
 · rw [if_pos c2]
   refine ⟨rfl, _, qhV o h1, ?_⟩
   refine callK (qaM h.ad o w1) ?_
   rintro _ w2 ⟨rfl, hb2⟩
   exact ⟨_, rfl, rfl, qb hB1 hb2 hB1.size⟩
 rw [if_neg c2]
 refine ⟨rfl, _, h1.load1 qN rfl rfl, ?_⟩
 refine BCase.of (fun c3 => ?_) (fun c3 => ?_) <;> simp only [beq_iff_eq, beq_eq_false_iff_ne, ne_eq] at c3
 · rw [if_pos c3]
   refine ⟨rfl, _, qhV o h1, ?_⟩
   refine callK (qaK h.ad o w1) ?_
   rintro _ w2 ⟨rfl, hb2⟩
   have h6 := qe8 h.ad
   refine ⟨_, rfl, fits (by simp; omega), ?_⟩
   rintro _ rfl
   refine ⟨fits (by simp; omega), ?_⟩
   rintro _ rfl
   exact ⟨rfl, qb hB1 hb2 hB1.size⟩
 · rw [if_neg c3]
   exact ⟨rfl, hB1⟩
theorem zi {h : Hst} (o : h.ok) (hn : h.name.length <= 80000000) (w : World) : Calls prog qL #[h.v] w (Ret fun v w' => v = .bool (zd h) /\ Below w.heap.size w w') := by
 apply qam
 unfold jc
 have hxl := qgE o
 intro k1 w1 hk1 hw1
 have hB1 := (hw1 ▸ qf w _ : Below w.heap.size w w1)
 have h1 : qm w1 k1 qc h.cells := qm.new hk1 hw1
 refine ⟨_, qs.load0 h1 (Hst.len o), ?_⟩
 refine callK (qba o w1) ?_
 rintro _ w2 ⟨rfl, hb2⟩
 have hB2 := qb hB1 hb2 hB1.size
 refine ⟨_, rfl, ?_⟩
 refine callK (ref03_Parse_ok (qax h) (by omega) w2) ?_
 rintro _ w3 ⟨rfl, hb3⟩
 have hB3 := qb hB2 hb3 hB2.size
 refine ⟨_, _, by rw [qat], ?_⟩
 have hok : ((hostV (qax h)).getD hst0).ok := qcr fun x hx => jG hx
 refine qs.new (zs := hst0.cells) (cs := ((hostV (qax h)).getD hst0).cells) rfl (Hst.len hok) (Hst.one _) w3 fun k4 w4 hk4 h4 hb4 => ?_
 have hB4 := qb hB3 hb4 hB3.size
 have h14 := ((h1.below hb2).below hb3).below hb4
 unfold zd
 cases hv : hostV (qax h) with
 | none => exact BCase.no rfl ⟨rfl, hB4⟩
 | some g =>
   rw [hv] at h4 hok
   exact BCase.yes rfl ⟨_, qs.load0 h4 (Hst.len hok), _, qs.load0 h14 (Hst.len o), _, qdn hok o w4, rfl, hB4⟩
theorem qJ {h : Hst} (o : h.ok) (hn : h.name.length <= 80000000) (w : World) : Calls prog qB #[h.v] w (Ret (qeW h w)) := by
 apply j5
 unfold zH
 intro k1 w1 hk1 hw1
 have hB1 := (hw1 ▸ qf w _ : Below w.heap.size w w1)
 have h1 : qm w1 k1 qc h.cells := qm.new hk1 hw1
 have none_end : ∀ {wx : World}, ¬ (h.kind = 1 /\ zd h = true) -> Below w.heap.size w wx -> qeW h w (.slice none 0 0) wx := fun hc hb => ⟨none, 0, 0, rfl, by unfold qi; rw [if_neg hc]; exact Ow.nil _ _ _ _, qb9.none _, hb⟩
 refine worldJ (fun w' => (h.kind = 1 /\ zd h = true) /\ Below w1.heap.size w1 w') ⟨rfl, _, h1.load1 qN rfl rfl, ?_⟩ ?_
 · refine BCase.of (fun c => none_end (fun hc => ?_) hB1) (fun c => ?_)
   · rw [hc.1] at c; simp at c
   · have hk : h.kind = 1 := by simpa using c
     refine ⟨_, qs.load0 h1 (Hst.len o), ?_⟩
     refine callK (zi o hn w1) ?_
     rintro _ w2 ⟨rfl, hb2⟩
     refine ⟨_, rfl, BCase.of (fun c2 => none_end (fun hc => ?_) (qb hB1 hb2 hB1.size)) (fun c2 => ⟨⟨hk, by simpa using c2⟩, hb2⟩)⟩
     rw [hc.2] at c2; cases c2
 · rintro w2 ⟨hc, hb2⟩
   have hB2 := qb hB1 hb2 hB1.size
   refine ⟨rfl, _, (h1.below hb2).load1 un_string rfl rfl, ?_⟩
   refine callK (ja h.name 46 (by omega) w2) ?_
   rintro _ w3 ⟨a, n, c, rfl, ho, hf, hb3⟩
   exact ⟨_, _, _, rfl, _, _, _, rfl, by unfold qi; rw [if_pos hc]; exact ho, hf.mono hB2.size, qb hB2 hb3 hB2.size⟩
end Go.Proofs.YtndbpedpdbjkpaaGreatDoor
namespace Go.Pk
def qcV (h d : Hst) : Bool := if (qi h).length = 0 \/ (qi d).length = 0 then false else decide (d.name.length + 1 < h.name.length) && (h.name.drop (h.name.length - (d.name.length + 1)) == 46 :: d.name)
theorem zC {d : Hst} (o : d.ok) (hk : d.kind = 1) (hr : zd d = true) : d = ⟨1, d.name, ad0⟩ /\ lowL d.name = d.name /\ (cutC 46 [] d.name).all labelB = true /\ d.name.length <= 253 /\ zy (qid (cutC 46 [] d.name)) = false /\ hostV d.name = some d := by
 have hx : qax d = d.name := by unfold qax; rw [if_pos hk]
 unfold zd at hr
 rw [hx] at hr
 cases hv : hostV d.name with
 | none => rw [hv] at hr; cases hr
 | some g =>
   rw [hv] at hr
   obtain rfl := (j7 (jG hv) o).1 hr
   have hv' := hv
   unfold hostV at hv'
   split at hv'
   · split at hv'
     · have := qgL hv'; omega
     · cases hv'
   split at hv'
   · cases h4 : v4V g.name with
     | none => rw [h4] at hv'; cases hv'
     | some a =>
       rw [h4] at hv'
       have : g.kind = 2 := by rw [<- Option.some.inj hv']
       omega
   rename_i hd
   split at hv'
   · rename_i hc
     have e := Option.some.inj hv'
     have e2 : lowL g.name = g.name := congrArg Hst.name e
     rw [e2] at hc e hd
     exact ⟨e.symm, e2, hc.2, hc.1, by simpa using hd, rfl⟩
   · cases hv'
theorem za {d : Hst} (o : d.ok) (h : (qi d).length ≠ 0) : (d.kind = 1 /\ zd d = true) /\ qi d = cutC 46 [] d.name := by
 unfold qi at h ⊢
 split at h
 · rename_i hc; exact ⟨hc, by rw [if_pos hc]⟩
 · exact absurd rfl h
theorem qdg (c : UInt8) (A B : List (List UInt8)) (hA : A ≠ []) (hB : B ≠ []) : Lib.join (A ++ B) [c] = Lib.join A [c] ++ c :: Lib.join B [c] := by
 cases A with
 | nil => exact absurd rfl hA
 | cons x A =>
   cases B with
   | nil => exact absurd rfl hB
   | cons y B =>
     rw [List.cons_append, Lib.join_cons, Lib.join_cons, Lib.join_cons]
     unfold Lib.joinTail
     simp
theorem qbu {h d : Hst} (oh : h.ok) (od : d.ok) : qag h d = qcV h d := by
 unfold qag qcV
 by_cases hd0 : (qi d).length = 0
 · rw [if_pos (.inl hd0), if_pos (.inr hd0)]
 by_cases hh0 : (qi h).length = 0
 · rw [if_pos (.inr (by omega)), if_pos (.inl hh0)]
 rw [if_neg (show ¬ ((qi h).length = 0 \/ (qi d).length = 0) from fun h => h.elim hh0 hd0)]
 obtain ⟨⟨dk, dr⟩, dl⟩ := za od hd0
 obtain ⟨⟨hk, hr⟩, hl⟩ := za oh hh0
 obtain ⟨d1, -, d3, -, -, -⟩ := zC od dk dr
 obtain ⟨h1, -, h3, -, -, -⟩ := zC oh hk hr
 have hjh := jn 46 h.name []
 have hjd := jn 46 d.name []
 rw [List.nil_append] at hjh hjd
 rw [dl, hl]
 have hne := jD 46 h.name []
 have hpos : 0 < (cutC 46 [] h.name).length := List.length_pos_iff.2 hne
 have dpos : 0 < (cutC 46 [] d.name).length := List.length_pos_iff.2 (jD 46 d.name [])
 have eqn : ∀ x : List UInt8, j8 ⟨1, x, ad0⟩ d = (x == d.name) := fun x => by
   rw [Bool.eq_iff_iff, j7 (show (⟨1, x, ad0⟩ : Hst).ok from rfl) od, beq_iff_eq]
   constructor
   · intro e; exact congrArg Hst.name e
   · intro e; rw [d1]; simp [e]
 rw [eqn, Bool.eq_iff_iff]
 by_cases hlt : (cutC 46 [] h.name).length <= (cutC 46 [] d.name).length
 · rw [if_pos (show (cutC 46 [] d.name).length = 0 \/ (cutC 46 [] h.name).length <= (cutC 46 [] d.name).length from .inr hlt)]
   refine ⟨(fun h => by cases h), fun hx => ?_⟩
   rw [Bool.and_eq_true, dTx, beq_iff_eq] at hx
   exfalso
   have hs : h.name = h.name.take (h.name.length - (d.name.length + 1)) ++ 46 :: d.name := by rw [<- hx.2, List.take_append_drop]
   have hc := congrArg (fun s => (cutC 46 [] s).length) hs
   simp only [zw, List.length_append] at hc
   have : 0 < (cutC 46 [] (h.name.take (h.name.length - (d.name.length + 1)))).length := List.length_pos_iff.2 (jD 46 _ [])
   omega
 · rw [if_neg (show ¬ ((cutC 46 [] d.name).length = 0 \/ (cutC 46 [] h.name).length <= (cutC 46 [] d.name).length) from fun h => h.elim (fun h => by omega) hlt), beq_iff_eq, Bool.and_eq_true, dTx, beq_iff_eq]
   unfold qi0
   constructor
   · intro hj
     have hA : (cutC 46 [] h.name).take ((cutC 46 [] h.name).length - (cutC 46 [] d.name).length) ≠ [] := by
       intro e
       have := congrArg List.length e
       rw [List.length_take, List.length_nil] at this; omega
     have hB : (cutC 46 [] h.name).drop ((cutC 46 [] h.name).length - (cutC 46 [] d.name).length) ≠ [] := by
       intro e
       have := congrArg List.length e
       rw [List.length_drop, List.length_nil] at this; omega
     have ha := qdg 46 _ _ hA hB
     rw [List.take_append_drop, hjh, hj] at ha
     have hp : Lib.join ((cutC 46 [] h.name).take ((cutC 46 [] h.name).length - (cutC 46 [] d.name).length)) [46] ≠ [] := by
       cases hc : (cutC 46 [] h.name).take ((cutC 46 [] h.name).length - (cutC 46 [] d.name).length) with
       | nil => exact absurd hc hA
       | cons x A =>
         rw [Lib.join_cons]
         intro e
         have hx : x ∈ cutC 46 [] h.name := List.mem_of_mem_take (by rw [hc]; exact List.mem_cons_self)
         have := List.all_eq_true.1 h3 x hx
         rw [(List.append_eq_nil_iff.1 e).1] at this
         cases this
     generalize Lib.join ((cutC 46 [] h.name).take ((cutC 46 [] h.name).length - (cutC 46 [] d.name).length)) [46] = p at *
     have hpl : 0 < p.length := List.length_pos_iff.2 hp
     have hlen := congrArg List.length ha
     rw [List.length_append, List.length_cons] at hlen
     refine ⟨by omega, ?_⟩
     rw [show h.name.length - (d.name.length + 1) = p.length by omega, ha]
     simp
   · rintro ⟨hl', hdr⟩
     have hs : h.name = h.name.take (h.name.length - (d.name.length + 1)) ++ 46 :: d.name := by rw [<- hdr, List.take_append_drop]
     have hc : cutC 46 [] h.name = cutC 46 [] (h.name.take (h.name.length - (d.name.length + 1))) ++ cutC 46 [] d.name := by
       conv => lhs; rw [hs]
       exact zw 46 _ _ _
     rw [hc, List.length_append, Nat.add_sub_cancel, List.drop_left]
     exact hjd
end Go.Pk
namespace Go.Proofs.YtndbpedpdbjkpaaGreatDoor
open Go.Pk
open Go.RowKit (Below)
theorem jH {h d : Hst} (oh : h.ok) (od : d.ok) (hn : h.name.length <= 80000000) (dn : d.name.length <= 80000000) (w : World) : Calls prog ze #[h.v, d.v] w (Ret fun v w' => v = .bool (qag h d) /\ Below w.heap.size w w') := by
 rw [qbu oh od]
 apply qal
 unfold jd
 intro k2 w2 hk2 hw2
 have hB2 := (hw2 ▸ qf w _ : Below w.heap.size w w2)
 have h2 : qm w2 k2 qc h.cells := qm.new hk2 hw2
 intro k3 w3 hk3 hw3
 have hb3 := (hw3 ▸ qf w2 _ : Below w2.heap.size w2 w3)
 have hB3 := qb hB2 hb3 hB2.size
 have h3 : qm w3 k3 qc d.cells := qm.new hk3 hw3
 have h23 := h2.below hb3
 have u : qcV h d = if (qi h).length = 0 \/ (qi d).length = 0 then false else decide (d.name.length + 1 < h.name.length) && (h.name.drop (h.name.length - (d.name.length + 1)) == 46 :: d.name) := rfl
 refine worldJ (fun w' => ¬ ((qi h).length = 0 \/ (qi d).length = 0) /\ Below w3.heap.size w3 w') ?_ ?_
 · refine ⟨_, qs.load0 h23 (Hst.len oh), ?_⟩
   refine callK (qJ oh hn w3) ?_
   rintro _ w4 ⟨a, l, c, rfl, ho, -, hb4⟩
   have hB4 := qb hB3 hb4 hB3.size
   refine ⟨_, _, _, rfl, ?_⟩
   rw [ho.len]
   refine BCase.of (fun c1 => ⟨?_, hB4⟩) (fun c1 => ?_)
   · rw [u, if_pos (.inl (by simp at c1; simp [c1]))]
   refine ⟨_, qs.load0 (h3.below hb4) (Hst.len od), ?_⟩
   refine callK (qJ od dn w4) ?_
   rintro _ w5 ⟨a5, l5, c5, rfl, ho5, -, hb5⟩
   have hB5 := qb hB4 hb5 hB4.size
   refine ⟨_, _, _, rfl, ?_⟩
   rw [ho5.len]
   refine BCase.of (fun c2 => ⟨?_, hB5⟩) (fun c2 => ⟨?_, qb hb4 hb5 hb4.size⟩)
   · rw [u, if_pos (.inr (by simp at c2; simp [c2]))]
   · simp at c1 c2
     rintro (hx | hx)
     · exact c1 (List.length_eq_zero_iff.1 hx)
     · exact c2 (List.length_eq_zero_iff.1 hx)
 · rintro w4 ⟨hc, hb4⟩
   have hB4 := qb hB3 hb4 hB3.size
   have l2 := (h23.below hb4).load1 (P := prog) (i := 1) (v := .string (mkS h.name)) un_string rfl rfl
   refine ⟨rfl, _, (h3.below hb4).load1 un_string rfl rfl, fits (by simp; omega), ?_⟩
   rintro _ rfl
   refine ⟨rfl, _, l2, ?_⟩
   rw [u, if_neg hc]
   refine BCase.of (fun c1 => ?_) (fun c1 => ⟨?_, hB4⟩)
   · have hl : d.name.length + 1 < h.name.length := by simp at c1; omega
     have e : i64.wrap (((h.name.length : Nat) : Int) - ((([46] ++ d.name).length : Nat) : Int)) = ((h.name.length - (d.name.length + 1) : Nat) : Int) := by
       rw [wrap_i64 (by simp; omega) (by simp; omega)]; simp; omega
     refine ⟨rfl, _, l2, rfl, _, l2, ?_⟩
     rw [e]
     simp only [Int.toNat_natCast]
     refine ⟨⟨by omega, by omega⟩, ?_⟩
     rintro _ rfl
     rw [decide_eq_true hl, Bool.true_and]
     exact ⟨rfl, hB4⟩
   · have : ¬ d.name.length + 1 < h.name.length := by simp at c1; omega
     rw [decide_eq_false this, Bool.false_and]
end Go.Proofs.YtndbpedpdbjkpaaGreatDoor
set_option maxRecDepth 100000
namespace Go.Proofs.YtndbpedpdbjkpaaGreatDoor
open Go.Pk
open Go.RowKit (Below)
--  cracknel/cracknelref09.Domain
def jO (v0 : Value) (v1 : Value) (w : World) (K : Value -> World -> Prop) : Prop :=
 ∀ k2 w2, k2 = w.heap.size -> w2 = w.alloc (.cells (Value.cells v0) qc) ->
 ∀ k3 w3, k3 = w2.heap.size -> w3 = w2.alloc (.cells (Value.cells v1) qc) ->
 ∃ J : FP [],
 (∃ v5, Ld qc (some ⟨k2, 0, none⟩) w3 v5 /\
 Calls prog qL #[v5] w3 fun e6 w6 => ∃ b6, e6 = .returned (.bool b6) /\
 BCase (!b6)
 (K (.bool false) w6)
 (∃ v9, Ld qc (some ⟨k3, 0, none⟩) w6 v9 /\
 Calls prog qL #[v9] w6 fun e10 w10 => ∃ b10, e10 = .returned (.bool b10) /\
 BCase (!b10)
 (K (.bool false) w10)
 (J w10))) /\
 AllJ 9 (∀ wj, J wj ->
 ∃ v13, Ld qc (some ⟨k2, 0, none⟩) wj v13 /\
 ∃ v14, Ld qc (some ⟨k3, 0, none⟩) wj v14 /\
 ∃ b15, ((do eqGuard .eql qc (.tmp 13) (.tmp 14) v13 v14; binOp .eql qc v13 v14 : Sem Value)).run prog wj = .ok (.bool b15) wj /\
 BCase b15
 (K (.bool true) wj)
 (∃ v17, Ld qc (some ⟨k2, 0, none⟩) wj v17 /\
 ∃ v18, Ld qc (some ⟨k3, 0, none⟩) wj v18 /\
 Calls prog ze #[v17, v18] wj fun e19 w19 => ∃ b19, e19 = .returned (.bool b19) /\
 K (.bool b19) w19))
theorem qbn (v0 : Value) (v1 : Value) {w : World} {K : Value -> World -> Prop} (h : jO v0 v1 w K) : Calls prog zv #[v0, v1] w (Ret K) :=
 qo (c := qr Tryz.f28) (by kernel_rfl) Tryz.func28 (by kernel_rfl) [(2, [])] [v0, v1] (of_decide_eq_true (by kernel_rfl)) _ (by kernel_rfl) h

--  cracknel/suffix.New
def qhK (v0 : Value) (v1 : Value) (n2 : Int) (w : World) (K : Value -> World -> Prop) : Prop :=
 ∀ k3 w3, k3 = w.heap.size -> w3 = w.alloc (.cells (Value.cells v0) qa) ->
 ∀ k4 w4, k4 = w3.heap.size -> w4 = w3.alloc (.cells (Value.cells v1) qaa) ->
 ∃ J : FP [],
 ((true = true) /\
 ∃ b8, Ld qy (some ⟨k3, 20, none⟩) w4 (.bool b8) /\
 BCase b8
 ((true = true) /\
 ∃ v11, Ld qc (some ⟨k3, 2, none⟩) w4 v11 /\
 (true = true) /\
 ∃ v13, Ld qc (some ⟨k4, 1, none⟩) w4 v13 /\
 ∃ b14, ((do eqGuard .neq qc (.tmp 11) (.tmp 13) v11 v13; binOp .neq qc v11 v13 : Sem Value)).run prog w4 = .ok (.bool b14) w4 /\
 BCase b14
 (K (.bool false) w4)
 ((true = true) /\
 ∃ v18, Ld qc (some ⟨k4, 1, none⟩) w4 v18 /\
 (true = true) /\
 ∃ v20, Ld qc (some ⟨k3, 2, none⟩) w4 v20 /\
 Calls prog zv #[v18, v20] w4 fun e21 w21 => ∃ b21, e21 = .returned (.bool b21) /\
 BCase (!b21)
 (K (.bool false) w21)
 (J w21)))
 ((true = true) /\
 ∃ v18_1, Ld qc (some ⟨k4, 1, none⟩) w4 v18_1 /\
 (true = true) /\
 ∃ v20_1, Ld qc (some ⟨k3, 2, none⟩) w4 v20_1 /\
 Calls prog zv #[v18_1, v20_1] w4 fun e21_1 w21_1 => ∃ b21_1, e21_1 = .returned (.bool b21_1) /\
 BCase (!b21_1)
 (K (.bool false) w21_1)
 (J w21_1))) /\
 AllJ 18 (∀ wj, J wj ->
 ∃ J_1 : FP [],
 ((true = true) /\
 ∃ s25, Ld qe (some ⟨k4, 19, none⟩) wj (.string (mkS s25)) /\
 (true = true) /\
 ∃ s27, Ld qe (some ⟨k3, 21, none⟩) wj (.string (mkS s27)) /\
 Calls prog qf8 #[.string (mkS s25), .string (mkS s27)] wj fun e28 w28 => ∃ b28, e28 = .returned (.bool b28) /\
 BCase (!b28)
 (K (.bool false) w28)
 ((true = true) /\
 ∃ b32, Ld qy (some ⟨k3, 22, none⟩) w28 (.bool b32) /\
 BCase b32
 ((true = true) /\
 ∃ b35, Ld qy (some ⟨k4, 0, none⟩) w28 (.bool b35) /\
 BCase (!b35)
 (K (.bool false) w28)
 ((true = true) /\
 ∃ n42, Ld qZ (some ⟨k3, 25, none⟩) w28 (.int .i64 n42) /\
 BCase (decide (n2 >= n42))
 (K (.bool false) w28)
 (J_1 w28)))
 ((true = true) /\
 ∃ n42_1, Ld qZ (some ⟨k3, 25, none⟩) w28 (.int .i64 n42_1) /\
 BCase (decide (n2 >= n42_1))
 (K (.bool false) w28)
 (J_1 w28)))) /\
 AllJ 22 (∀ wj_1, J_1 wj_1 ->
 (true = true) /\
 ∃ n46, Ld qx (some ⟨k4, 20, none⟩) wj_1 (.int .i64 n46) /\
 BCase (n46 == (1 : Int))
 ((true = true) /\
 ∃ n49, Ld qx (some ⟨k3, 24, none⟩) wj_1 (.int .i64 n49) /\
 K (.bool (n49 != (3 : Int))) wj_1)
 ((true = true) /\
 ∃ n52, Ld qx (some ⟨k4, 20, none⟩) wj_1 (.int .i64 n52) /\
 BCase (n52 == (2 : Int))
 ((true = true) /\
 ∃ n55, Ld qx (some ⟨k3, 24, none⟩) wj_1 (.int .i64 n55) /\
 K (.bool (n55 == (1 : Int))) wj_1)
 ((true = true) /\
 ∃ n58, Ld qx (some ⟨k4, 20, none⟩) wj_1 (.int .i64 n58) /\
 K (.bool (n58 == (0 : Int))) wj_1))))
theorem ql9 (v0 : Value) (v1 : Value) (n2 : Int) {w : World} {K : Value -> World -> Prop} (h : qhK v0 v1 n2 w K) : Calls prog qfn #[v0, v1, .int .i64 n2] w (Ret K) :=
 qo (c := qr Tryz.f43) (by kernel_rfl) Tryz.func43 (by kernel_rfl) [(2, []), (10, [])] [v0, v1, .int .i64 n2] (of_decide_eq_true (by kernel_rfl)) _ (by kernel_rfl) h

--  cracknel/cracknelref09.Default
def qi7 (s0 : List UInt8) (s1 : List UInt8) (w : World) (K : Value -> World -> Prop) : Prop :=
 BCase (s0 == s1)
 (K (.bool true) w)
 (∃ J : FP [],
 (BCase (decide (((List.length s0 : Nat) : Int) <= ((List.length s1 : Nat) : Int)))
 (K (.bool false) w)
 (((0 <= ((List.length s1 : Nat) : Int) /\ ((List.length s1 : Nat) : Int) <= (((List.length s0) : Nat) : Int))) /\
 ∀ s17, s17 = (List.take (Int.toNat ((List.length s1 : Nat) : Int)) s0) ->
 BCase (!(s17 == s1))
 (K (.bool false) w)
 (J w))) /\
 AllJ 14 (∀ wj, J wj ->
 ((0 <= ((List.length s1 : Nat) : Int) /\ ((List.length s1 : Nat) : Int) < ((List.length s0 : Nat) : Int))) /\
 BCase ((qA s0 ((List.length s1 : Nat) : Int)) == (47 : Int))
 (K (.bool true) wj)
 (BCase (decide (((List.length s1 : Nat) : Int) > (0 : Int)))
 (((0 <= (i64.wrap (((List.length s1 : Nat) : Int) - (1 : Int))) /\ (i64.wrap (((List.length s1 : Nat) : Int) - (1 : Int))) < ((List.length s1 : Nat) : Int))) /\
 K (.bool ((qA s1 (i64.wrap (((List.length s1 : Nat) : Int) - (1 : Int)))) == (47 : Int))) wj)
 (K (.bool false) wj))))
theorem qmP (s0 : List UInt8) (s1 : List UInt8) {w : World} {K : Value -> World -> Prop} (h : qi7 s0 s1 w K) : Calls prog qf8 #[.string (mkS s0), .string (mkS s1)] w (Ret K) :=
 qo (c := qr Tryz.f92) (by kernel_rfl) Tryz.func92 (by kernel_rfl) [(10, [])] [.string (mkS s0), .string (mkS s1)] (of_decide_eq_true (by kernel_rfl)) _ (by kernel_rfl) h

--  cracknel/rule.kindOf
end Go.Proofs.YtndbpedpdbjkpaaGreatDoor
set_option maxRecDepth 20000
namespace Go.Pk
open Go.RowKit (Below)
theorem qrY {s : List UInt8} : (defV s).head? = some 47 := by
 unfold defV
 split
 · rfl
 · rename_i h
   have h1 : lastK s s.length ≠ 0 := fun hx => h (.inl hx)
   have h2 : s.head? = some 47 := Decidable.not_not.1 fun hx => h (.inr hx)
   cases s with
   | nil => cases h2
   | cons x r =>
     obtain ⟨k, hk⟩ := Nat.exists_eq_succ_of_ne_zero h1
     rw [hk, List.take_succ_cons]; exact h2
def qqX (p o : List UInt8) : Bool := (p == o) || (decide (o.length < p.length) && ((p.take o.length == o) && (decide (p[o.length]? = some 47) || decide (o.getLast? = some 47))))
theorem qi5 {c : Cky} (o : c.ok) {j : Nat} (h : j < 18) : c.cells[2 + j]? = c.host.cells[j]? := by
 unfold Cky.cells
 rw [show 2 + j = j + 1 + 1 by omega, List.getElem?_cons_succ, List.getElem?_cons_succ, List.getElem?_append_left (by rw [Hst.len o]; exact h)]
theorem jo {c : Cky} (o : c.ok) (j : Nat) : c.cells[20 + j]? = c.tail[j]? := by
 unfold Cky.cells
 rw [show 20 + j = (18 + j) + 1 + 1 by omega, List.getElem?_cons_succ, List.getElem?_cons_succ, List.getElem?_append_right (by rw [Hst.len o]; omega), Hst.len o]
 congr 1; omega
structure Req where
 sec : Bool
 host : Hst
 path : List UInt8
 cross : Int
def Req.tail (r : Req) : List Value := [.string (mkS r.path), .int .i64 r.cross]
def Req.cells (r : Req) : List Value := .bool r.sec :: (r.host.cells ++ r.tail)
def Req.v (r : Req) : Value := .agg r.cells.toArray
def Req.ok (r : Req) : Prop := r.host.ok
theorem Req.len {r : Req} (o : r.ok) : r.cells.length = 21 := by unfold Req.cells; rw [List.length_cons, List.length_append, Hst.len o]; rfl
theorem Req.one (r : Req) : One1 r.cells := jf rfl (qpC (Hst.one _) (jf rfl (jf rfl qjT)))
theorem qtq {r : Req} (o : r.ok) {j : Nat} (h : j < 18) : r.cells[1 + j]? = r.host.cells[j]? := by
 unfold Req.cells
 rw [Nat.add_comm, List.getElem?_cons_succ, List.getElem?_append_left (by rw [Hst.len o]; exact h)]
theorem qqD {r : Req} (o : r.ok) (j : Nat) : r.cells[19 + j]? = r.tail[j]? := by
 unfold Req.cells
 rw [show 19 + j = (18 + j) + 1 by omega, List.getElem?_cons_succ, List.getElem?_append_right (by rw [Hst.len o]; omega), Hst.len o]
 congr 1; omega
def qno (same cross : Int) : Bool := if cross = 1 then same != 3 else if cross = 2 then same == 1 else cross == 0
def qm5 (c : Cky) (r : Req) (now : Int) : Bool :=
 !(c.only && !j8 c.host r.host) && (domB r.host c.host && (qqX r.path c.path && (!(c.sec && !r.sec) && (!(decide (now >= c.exp)) && qno c.same r.cross))))
end Go.Pk
namespace Go.Proofs.YtndbpedpdbjkpaaGreatDoor
open Go.Pk
open Go.RowKit (Below)
theorem qbK {h d : Hst} (oh : h.ok) (od : d.ok) (hn : h.name.length <= 80000000) (dn : d.name.length <= 80000000) (w : World) : Calls prog zv #[h.v, d.v] w (Ret fun v w' => v = .bool (domB h d) /\ Below w.heap.size w w') := by
 apply qbn
 unfold jO
 intro k2 w2 hk2 hw2
 have hB2 := (hw2 ▸ qf w _ : Below w.heap.size w w2)
 have h2 : qm w2 k2 qc h.cells := qm.new hk2 hw2
 intro k3 w3 hk3 hw3
 have hb3 := (hw3 ▸ qf w2 _ : Below w2.heap.size w2 w3)
 have hB3 := qb hB2 hb3 hB2.size
 have h3 : qm w3 k3 qc d.cells := qm.new hk3 hw3
 have h23 := h2.below hb3
 unfold domB
 refine worldJ (fun w' => zd h = true /\ zd d = true /\ Below w3.heap.size w3 w') ?_ ?_
 · refine ⟨_, qs.load0 h23 (Hst.len oh), ?_⟩
   refine callK (zi oh hn w3) ?_
   rintro _ w4 ⟨rfl, hb4⟩
   have hB4 := qb hB3 hb4 hB3.size
   refine ⟨_, rfl, BCase.of (fun c => ⟨?_, hB4⟩) (fun c => ?_)⟩
   · rw [Bool.not_eq_true'] at c; rw [c]; rfl
   rw [Bool.not_eq_false'] at c
   refine ⟨_, qs.load0 (h3.below hb4) (Hst.len od), ?_⟩
   refine callK (zi od dn w4) ?_
   rintro _ w5 ⟨rfl, hb5⟩
   refine ⟨_, rfl, BCase.of (fun c2 => ⟨?_, qb hB4 hb5 hB4.size⟩) (fun c2 => ⟨c, ?_, qb hb4 hb5 hb4.size⟩)⟩
   · rw [Bool.not_eq_true'] at c2; rw [c, c2]; rfl
   · rwa [Bool.not_eq_false'] at c2
 · rintro w4 ⟨r1, r2, hb4⟩
   have hB4 := qb hB3 hb4 hB3.size
   rw [r1, r2, Bool.true_and, Bool.true_and]
   refine ⟨_, qs.load0 (h23.below hb4) (Hst.len oh), _, qs.load0 (h3.below hb4) (Hst.len od), _, qdn oh od w4, ?_⟩
   refine BCase.of (fun c1 => ⟨by rw [c1]; rfl, hB4⟩) (fun c1 => ?_)
   refine ⟨_, qs.load0 (h23.below hb4) (Hst.len oh), _, qs.load0 (h3.below hb4) (Hst.len od), ?_⟩
   refine callK (jH oh od hn dn w4) ?_
   rintro _ w5 ⟨rfl, hb5⟩
   exact ⟨_, rfl, by rw [c1]; rfl, qb hB4 hb5 hB4.size⟩
theorem qnE (p o : List UInt8) (hp : p.length <= 9223372036854775800) (ho : o.length <= 9223372036854775800) (w : World) : Calls prog qf8 #[.string (mkS p), .string (mkS o)] w (Ret fun v w' => v = .bool (qqX p o) /\ w' = w) := by
 apply qmP
 unfold qi7
 unfold qqX
 refine BCase.of (fun c => ⟨by rw [c]; rfl, rfl⟩) (fun c => ?_)
 rw [c, Bool.false_or]
 refine factJ (w := w) (o.length < p.length /\ p.take o.length = o) ?_ ?_
 · refine BCase.of (fun h => ⟨?_, rfl⟩) (fun h => ⟨⟨by omega, ?_⟩, ?_⟩) <;> simp only [dTx, dFx] at h
   · rw [decide_eq_false (p := o.length < p.length) (by omega), Bool.false_and]
   · omega
   · rintro _ rfl
     rw [Int.toNat_natCast]
     refine BCase.of (fun h2 => ⟨?_, rfl⟩) (fun h2 => ⟨rfl, by omega, ?_⟩)
     · rw [Bool.not_eq_true'] at h2; rw [h2, Bool.false_and, Bool.and_false]
     · rw [Bool.not_eq_false'] at h2; exact eq_of_beq h2
 · rintro ⟨h1, h2⟩
   rw [decide_eq_true h1, h2, beq_self_eq_true, Bool.true_and, Bool.true_and]
   have hu := qau p[o.length] 47
   rw [show (((47 : UInt8).toNat : Nat) : Int) = 47 from rfl] at hu
   rw [zJ h1, hu, List.getElem?_eq_getElem h1]
   refine ⟨⟨by omega, by omega⟩, BCase.of (fun c1 => ⟨?_, rfl⟩) (fun c1 => ?_)⟩
   · rw [eq_of_beq c1]; rfl
   · rw [decide_eq_false (p := some p[o.length] = some 47) (fun hx => by rw [Option.some.inj hx] at c1; simp at c1), Bool.false_or]
     refine BCase.of (fun c2 => ?_) (fun c2 => ⟨?_, rfl⟩) <;> simp only [gt_iff_lt, dTx, dFx] at c2
     · have hl : o.length - 1 < o.length := by omega
       have ei : i64.wrap (((o.length : Nat) : Int) - 1) = ((o.length - 1 : Nat) : Int) := by rw [wrap_i64 (by omega) (by omega)]; omega
       have hu := qau o[o.length - 1] 47
       rw [show (((47 : UInt8).toNat : Nat) : Int) = 47 from rfl] at hu
       rw [ei, zJ hl, hu, List.getLast?_eq_getElem?, List.getElem?_eq_getElem hl]
       refine ⟨⟨by omega, by omega⟩, ?_, rfl⟩
       congr 1
       rw [Bool.eq_iff_iff]; simp
     · have : o = [] := List.length_eq_zero_iff.1 (by omega)
       subst this; rfl
theorem qnd : Whl prog qaa 21 := ⟨⟨_, _, qmT⟩, by kernel_rfl⟩
theorem qmS {c : Cky} {r : Req} (oc : c.ok) (or : r.ok) (cn : c.host.name.length <= 80000000) (rn : r.host.name.length <= 80000000) (cp : c.path.length <= 9223372036854775800) (rp : r.path.length <= 9223372036854775800) (now : Int) (w : World) :
   Calls prog qfn #[c.v, r.v, .int .i64 now] w (Ret fun v w' => v = .bool (qm5 c r now) /\ Below w.heap.size w w') := by
 apply ql9
 unfold qhK
 intro k3 w3 hk3 hw3
 have hB3 := (hw3 ▸ qf w _ : Below w.heap.size w w3)
 have h3 : qm w3 k3 qa c.cells := qm.new hk3 hw3
 intro k4 w4 hk4 hw4
 have hb4 := (hw4 ▸ qf w3 _ : Below w3.heap.size w3 w4)
 have hB4 := qb hB3 hb4 hB3.size
 have h4 : qm w4 k4 qaa r.cells := qm.new hk4 hw4
 have h34 := h3.below hb4
 have lch : ∀ {wx}, Below w4.heap.size w4 wx -> (Instr.loadAt qc (.pointer (some ⟨k3, 2, none⟩))).run prog wx = .ok c.host.v wx := fun hb => qs.load (h34.below hb) (i := 2) (us := c.host.cells) (Hst.len oc) (fun j hj => qi5 oc hj)
 have lrh : ∀ {wx}, Below w4.heap.size w4 wx -> (Instr.loadAt qc (.pointer (some ⟨k4, 1, none⟩))).run prog wx = .ok r.host.v wx := fun hb => qs.load (h4.below hb) (i := 1) (us := r.host.cells) (Hst.len or) (fun j hj => qtq or hj)
 have b0 := Below.refl w4.heap.size w4
 have dom : ∀ {wx : World} {J : FP []}, Below w4.heap.size w4 wx -> (c.only && !j8 c.host r.host) = false -> (∀ wy, Below w4.heap.size w4 wy -> domB r.host c.host = true -> J wy) ->
     Calls prog zv #[r.host.v, c.host.v] wx fun e21 w21 => ∃ (b21 : Bool), e21 = .returned (.bool b21) /\ BCase (!b21) ((.bool false : Value) = .bool (qm5 c r now) /\ Below w.heap.size w w21) (J w21) := fun {wx J} hbx h0 hJ => by
   refine callK (qbK or oc rn cn wx) ?_
   rintro _ w5 ⟨rfl, hb5⟩
   have hb := qb hbx hb5 hbx.size
   refine ⟨_, rfl, BCase.of (fun h => ⟨?_, qb hB4 hb hB4.size⟩) (fun h => hJ w5 hb ?_)⟩
   · rw [Bool.not_eq_true'] at h; unfold qm5; rw [h, Bool.false_and, Bool.and_false]
   · rwa [Bool.not_eq_false'] at h
 refine worldJ (fun w' => (c.only && !j8 c.host r.host) = false /\ domB r.host c.host = true /\ Below w4.heap.size w4 w') ?_ ?_
 · refine ⟨rfl, _, h34.load1 un_bool rfl (jo oc 0), BCase.of (fun h => ?_) (fun h => ?_)⟩
   · refine ⟨rfl, _, lch b0, rfl, _, lrh b0, _, qo3 oc or w4, BCase.of (fun h2 => ⟨?_, hB4⟩) (fun h2 => ?_)⟩
     · unfold qm5; rw [h, h2]; rfl
     · exact ⟨rfl, _, lrh b0, rfl, _, lch b0, dom b0 (by rw [h, h2]; rfl) fun wy hb hd => ⟨by rw [h, h2]; rfl, hd, hb⟩⟩
   · exact ⟨rfl, _, lrh b0, rfl, _, lch b0, dom b0 (by rw [h]; rfl) fun wy hb hd => ⟨by rw [h]; rfl, hd, hb⟩⟩
 · rintro w5 ⟨e1, e2, hb5⟩
   have hB5 := qb hB4 hb5 hB4.size
   have h35 := h34.below hb5
   have h45 := h4.below hb5
   have hs : qm5 c r now = (qqX r.path c.path && (!(c.sec && !r.sec) && (!(decide (now >= c.exp)) && qno c.same r.cross))) := by unfold qm5; rw [e1, e2]; rfl
   refine worldJ (fun w' => qm5 c r now = qno c.same r.cross /\ w' = w5) ?_ ?_
   · refine ⟨rfl, _, h45.load1 un_string rfl (qqD or 0), rfl, _, h35.load1 un_string rfl (jo oc 1), ?_⟩
     refine callK (qnE r.path c.path rp cp w5) ?_
     rintro _ w6 ⟨rfl, hw6⟩
     rw [hw6]; clear hw6
     refine ⟨_, rfl, BCase.of (fun h => ⟨?_, hB5⟩) (fun h => ?_)⟩
     · rw [Bool.not_eq_true'] at h; rw [hs, h]; rfl
     rw [Bool.not_eq_false'] at h
     rw [hs, h, Bool.true_and]
     refine ⟨rfl, _, h35.load1 un_bool rfl (jo oc 2), BCase.of (fun h2 => ?_) (fun h2 => ?_)⟩
     · refine ⟨rfl, _, h45.load1 un_bool rfl (i := 0) rfl, BCase.of (fun h3 => ⟨?_, hB5⟩) (fun h3 => ?_)⟩
       · rw [h2, h3]; rfl
       · rw [h2, h3]
         refine ⟨rfl, _, h35.load1 un_int64 rfl (jo oc 5), BCase.of (fun h4 => ⟨?_, hB5⟩) (fun h4 => ⟨?_, rfl⟩)⟩
         · rw [h4]; rfl
         · rw [h4]; rfl
     · rw [h2]
       refine ⟨rfl, _, h35.load1 un_int64 rfl (jo oc 5), BCase.of (fun h4 => ⟨?_, hB5⟩) (fun h4 => ⟨?_, rfl⟩)⟩
       · rw [h4]; rfl
       · rw [h4]; rfl
   · rintro w6 ⟨hc, hw6⟩
     rw [hw6, hc]
     unfold qno
     have lc := h45.load1 (P := prog) qN rfl (qqD or 1)
     have ls := h35.load1 (P := prog) qN rfl (jo oc 4)
     refine ⟨rfl, _, lc, BCase.of (fun h => ?_) (fun h => ?_)⟩
     · rw [if_pos (eq_of_beq h)]
       exact ⟨rfl, _, ls, rfl, hB5⟩
     rw [if_neg (beq_eq_false_iff_ne.1 h)]
     refine ⟨rfl, _, lc, BCase.of (fun h => ?_) (fun h => ?_)⟩
     · rw [if_pos (eq_of_beq h)]
       exact ⟨rfl, _, ls, rfl, hB5⟩
     rw [if_neg (beq_eq_false_iff_ne.1 h)]
     exact ⟨rfl, _, lc, rfl, hB5⟩
end Go.Proofs.YtndbpedpdbjkpaaGreatDoor
namespace Go.Pk
open Go.RowKit (Below)
theorem qfK {rs : List Rul} {u : Url} (o : u.ok) (h : Hdr) (now : Int) : (takV rs u h now).1.ok := by
 unfold takV
 split
 · rfl
 split
 · rfl
 · exact qjA o _
theorem qmg {rs : List Rul} {u : Hst} (t : List UInt8) (hu : u.name.length <= 80000000) : (domV rs u t).1.name.length <= 80000000 := by
 unfold domV
 split
 · exact hu
 split
 · decide
 · rename_i d hd
   have := qah hd
   split
   · simp; omega
   split <;> (simp; omega)
end Go.Pk

set_option maxRecDepth 100000
namespace Go.Proofs.YtndbpedpdbjkpaaGreatDoor
open Go.Pk
open Go.RowKit (Below)
--  cracknel/cracknellaw10.both
def zU (a0 : Option Addr) (l0 c0 : Nat) (a1 : Option Addr) (l1 c1 : Nat) (w : World) (K : Value -> World -> Prop) : Prop :=
 ∃ I : Nat -> FP [.one (.int .i64)],
 (∃ m, I m (0 : Int) w) /\
 ∀ m n11, AllJ 10 (∀ wl, I m n11 wl ->
 BCase (decide (n11 < ((l0 : Nat) : Int)))
 (((0 <= n11 /\ n11 < ((l0 : Nat) : Int)) /\ Option.isSome a0 = true) /\
 ∃ n14_0 s14_1, Ld ql (qn a0 n11 2) wl (.agg #[.int .i64 n14_0, .string (mkS s14_1)]) /\
 ∀ k6 w6, k6 = wl.heap.size -> w6 = wl.alloc (.cells #[.int .i64 (0 : Int), .string (mkS [])] ql) ->
 ∃ wx, Sv ql (some ⟨k6, 0, none⟩) (.agg #[.int .i64 n14_0, .string (mkS s14_1)]) w6 wx /\
 (true = true) /\
 ∃ s16, Ld qe (some ⟨k6, 1, none⟩) wx (.string (mkS s16)) /\
 BCase (decide (((List.length s16 : Nat) : Int) > (300 : Int)))
 (K (.bool false) wx)
 (∃ m' : Nat, m' < m /\ I m' (i64.wrap (n11 + (1 : Int))) wx))
 (∃ I_1 : Nat -> FP [.one (.int .i64)],
 (∃ m_1, I_1 m_1 (0 : Int) wl) /\
 ∀ m_1 n22, AllJ 9 (∀ wl_1, I_1 m_1 n22 wl_1 ->
 BCase (decide (n22 < ((l1 : Nat) : Int)))
 (((0 <= n22 /\ n22 < ((l1 : Nat) : Int)) /\ Option.isSome a1 = true) /\
 ∃ s25, Ld qe (qn a1 n22 1) wl_1 (.string (mkS s25)) /\
 BCase (decide (((List.length s25 : Nat) : Int) > (2500 : Int)))
 (K (.bool false) wl_1)
 (∃ m'_1 : Nat, m'_1 < m_1 /\ I_1 m'_1 (i64.wrap (n22 + (1 : Int))) wl_1))
 (K (.bool (decide (((l0 : Nat) : Int) <= (30 : Int)))) wl_1))))
theorem qac (a0 : Option Addr) (l0 c0 : Nat) (a1 : Option Addr) (l1 c1 : Nat) {w : World} {K : Value -> World -> Prop} (h : zU a0 l0 c0 a1 l1 c1 w K) : Calls prog zr #[.slice a0 l0 c0, .slice a1 l1 c1] w (Ret K) :=
 qo (c := qr Tryz.f38) (by kernel_rfl) Tryz.func38 (by kernel_rfl) [(6, [(11, .one (.int .i64))]), (29, [(22, .one (.int .i64))])] [.slice a0 l0 c0, .slice a1 l1 c1] (of_decide_eq_true (by kernel_rfl)) _ (by kernel_rfl) h

--  cracknel/cracknellaw10.admitAlive
end Go.Proofs.YtndbpedpdbjkpaaGreatDoor
set_option maxRecDepth 20000
namespace Go.Pk
open Go.RowKit (Below)
def fewB (rs : List Rul) (ts : List (List UInt8)) : Bool := rs.all (fun r => decide (r.2.length <= 300)) && (ts.all (fun t => decide (t.length <= 2500)) && decide (rs.length <= 30))
end Go.Pk
namespace Go.Proofs.YtndbpedpdbjkpaaGreatDoor
open Go.Pk
open Go.RowKit (Below)
theorem qaD {A : Bl} {a0 : Option Addr} {l0 c0 : Nat} {rs : List Rul} {a1 : Option Addr} {l1 c1 : Nat} {ts : List (List UInt8)} {w : World} (hs : Sl tRul w A a0 l0 c0 rs) (ht : Sl tS w A a1 l1 c1 ts) (hl : rs.length <= 9223372036854775807) (hl2 : ts.length <= 9223372036854775807) :
   Calls prog zr #[.slice a0 l0 c0, .slice a1 l1 c1] w (Ret fun v w' => v = .bool (fewB rs ts) /\ Below w.heap.size w w') := by
 apply qac
 unfold zU
 have hn := hs.len
 have hn1 := ht.len
 subst hn hn1
 unfold fewB
 refine ⟨fun m i w' => ∃ k : Nat, k <= rs.length /\ i = (k : Int) /\ m = rs.length - k /\ (rs.take k).all (fun r => decide (r.2.length <= 300)) = true /\ Below w.heap.size w w', ⟨_, 0, by omega, rfl, rfl, rfl, Below.refl _ _⟩, ?_⟩
 intro m i
 refine AllJ.of ?_ _
 rintro w1 ⟨k, hk, rfl, rfl, hno, hB1⟩
 refine BCase.of (fun hi => ?_) (fun hi => ?_) <;> simp only [dTx, dFx] at hi
 · have hlt : k < rs.length := by omega
   have hs1 := hs.below hB1
   refine ⟨⟨⟨by omega, hi⟩, hs1.isSome hlt⟩, _, _, qdP hs1 hlt, ?_⟩
   refine zx.new (zs := rulC (0, [])) (cs := rulC rs[k]) rfl rfl (qbI _) w1 fun k6 w6 hk6 h6 hb6 => ?_
   have hB6 := qb hB1 hb6 hB1.size
   refine ⟨rfl, _, h6.load1 un_string rfl rfl, BCase.of (fun c => ⟨?_, hB6⟩) (fun c => ?_)⟩ <;> simp only [gt_iff_lt, dTx, dFx] at c
   · have : rs.all (fun r => decide (r.2.length <= 300)) = false := by
       rw [Bool.eq_false_iff]
       intro hx
       have := List.all_eq_true.1 hx _ (List.getElem_mem hlt)
       rw [dTx] at this; omega
     rw [this, Bool.false_and]
   · refine ⟨rs.length - (k + 1), by omega, k + 1, by omega, by rw [wrap_i64 (by omega) (by omega)]; omega, rfl, ?_, hB6⟩
     rw [List.take_succ_eq_append_getElem hlt, List.all_append, hno]
     simp; omega
 · have : k = rs.length := by omega
   subst this
   rw [List.take_length] at hno
   rw [hno, Bool.true_and]
   refine ⟨fun m i w' => ∃ k : Nat, k <= ts.length /\ i = (k : Int) /\ m = ts.length - k /\ (ts.take k).all (fun t => decide (t.length <= 2500)) = true /\ w' = w1, ⟨_, 0, by omega, rfl, rfl, rfl, rfl⟩, ?_⟩
   intro m i
   refine AllJ.of ?_ _
   rintro w2 ⟨k, hk, rfl, rfl, hno2, hw2⟩
   rw [hw2]; clear hw2
   have ht1 := ht.below hB1
   refine BCase.of (fun hi => ?_) (fun hi => ?_) <;> simp only [dTx, dFx] at hi
   · have hlt : k < ts.length := by omega
     refine ⟨⟨⟨by omega, hi⟩, ht1.isSome hlt⟩, _, ht1.text un_string hlt, BCase.of (fun c => ⟨?_, hB1⟩) (fun c => ?_)⟩ <;> simp only [gt_iff_lt, dTx, dFx] at c
     · have : ts.all (fun t => decide (t.length <= 2500)) = false := by
         rw [Bool.eq_false_iff]
         intro hx
         have := List.all_eq_true.1 hx _ (List.getElem_mem hlt)
         rw [dTx] at this; omega
       rw [this, Bool.false_and]
     · refine ⟨ts.length - (k + 1), by omega, k + 1, by omega, by rw [wrap_i64 (by omega) (by omega)]; omega, rfl, ?_, rfl⟩
       rw [List.take_succ_eq_append_getElem hlt, List.all_append, hno2]
       simp; omega
   · have : k = ts.length := by omega
     subst this
     rw [List.take_length] at hno2
     rw [hno2, Bool.true_and]
     refine ⟨?_, hB1⟩
     congr 1
     rw [Bool.eq_iff_iff, dTx, dTx]; omega
theorem qdQ {w w' : World} {k : Nat} {ts : List (List UInt8)} (hk : k = w.heap.size) (hw : w' = w.alloc (.cells (ts.map fun s => Value.string (mkS s)).toArray qe)) (hm : ts.length <= maxLen) : Sl tS w' AllB (some ⟨k, 0, none⟩) ts.length ts.length ts :=
 (Ow.newF (T := tS) (A := NoB) (jY _) hk hw (qbD fun _ _ => trivial) hm).all
end Go.Proofs.YtndbpedpdbjkpaaGreatDoor
namespace Go.Pk
open Go.RowKit (Below)
theorem qbF.base {w0 w1 : World} {t te : TypeId} {kt km : Nat} {a : Option Addr} {n c : Nat} {ps : List Pth} {kvs : List (qeH × Int)} {es : List (List Bool)} {rs : List Rul} {w : World} (S : qbF w1 t te kt km a n c ps kvs es rs w) (h : Below w0.heap.size w0 w1) : qbF w0 t te kt km a n c ps kvs es rs w :=
 ⟨S.h1, S.h2, S.h3, S.T, S.t, qb h S.hb h.size, S.ne, fun g hg => ⟨(S.og g hg).1, (S.og g hg).2.1, Nat.le_trans h.size (S.og g hg).2.2⟩, Nat.le_trans h.size S.kt0, Nat.le_trans h.size S.km0⟩
def TabP (w0 : World) (t te : TypeId) (rs : List Rul) (p : Option Addr) (w : World) : Prop := ∃ kt km a n c ps kvs es, p = some ⟨kt, 0, none⟩ /\ qbF w0 t te kt km a n c ps kvs es rs w
theorem TabP.below {w0 : World} {t te : TypeId} {rs : List Rul} {p : Option Addr} {w w' : World} (h : TabP w0 t te rs p w) (hb : Below w.heap.size w w') : TabP w0 t te rs p w' := by
 obtain ⟨kt, km, a, n, c, ps, kvs, es, e, S⟩ := h
 exact ⟨kt, km, a, n, c, ps, kvs, es, e, S.below hb⟩
structure StA (wb : World) (tt te tc : TypeId) (rs : List Rul) (t : Option (Option Addr)) (k : Option Nat) (w : World) : Prop where
 hb : Below wb.heap.size wb w
 ht : ∀ p, t = some p -> TabP wb tt te rs p w
 hk : ∀ x, k = some x -> qm w x tc cky0.cells /\ wb.heap.size <= x
theorem StA.below {wb : World} {tt te tc : TypeId} {rs : List Rul} {t : Option (Option Addr)} {k : Option Nat} {w w' : World} (S : StA wb tt te tc rs t k w) (hb : Below w.heap.size w w') : StA wb tt te tc rs t k w' :=
 ⟨qb S.hb hb S.hb.size, fun p e => (S.ht p e).below hb, fun x e => ⟨(S.hk x e).1.below hb, (S.hk x e).2⟩⟩
end Go.Pk
namespace Go.Proofs.YtndbpedpdbjkpaaGreatDoor
open Go.Pk
open Go.RowKit (Below)
structure AdC (wb : World) (a0 : Option Addr) (l0 c0 : Nat) (rs : List Rul) (k7 k8 : Nat) (u : Url) (h : Hdr) : Prop where
 he : Env wb
 hs : Sl tRul wb AllB a0 l0 c0 rs
 hl : rs.length <= 1000000
 hr : ∀ r ∈ rs, r.2.length <= 1000000
 hU : qm wb k7 qg u.cells
 hH : qm wb k8 qd h.cells
 ou : u.ok
 un : u.host.name.length <= 80000000
 up : u.path.length <= 1000000000
 ho : qda h
section
variable {wb : World} {a0 : Option Addr} {l0 c0 : Nat} {rs : List Rul} {k7 k8 : Nat} {u : Url} {h : Hdr} {t : Option (Option Addr)} {k : Option Nat} {w : World}
theorem ad_u (C : AdC wb a0 l0 c0 rs k7 k8 u h) (S : StA wb qq qt qa (rs.filter rulR) t k w) : (Instr.loadAt qg (.pointer (some ⟨k7, 0, none⟩))).run prog w = .ok u.v w := qas.load0 (C.hU.below S.hb) (Url.len C.ou)
theorem ad_h (C : AdC wb a0 l0 c0 rs k7 k8 u h) (S : StA wb qq qt qa (rs.filter rulR) t k w) : (Instr.loadAt qd (.pointer (some ⟨k8, 0, none⟩))).run prog w = .ok h.v w := zo h (C.hH.below S.hb)
theorem ad_new (C : AdC wb a0 l0 c0 rs k7 k8 u h) (S : StA wb qq qt qa (rs.filter rulR) none k w) {R : Option Addr -> World -> Prop} (H : ∀ p w', StA wb qq qt qa (rs.filter rulR) (some p) k w' -> R p w') :
   Calls prog qp #[.slice a0 l0 c0] w fun e w' => ∃ p : Option Addr, e = .returned (.pointer p) /\ R p w' := by
 refine callK (qbh (C.hs.below S.hb) C.hl C.hr (C.he.step S.hb)) ?_
 rintro _ w' ⟨kt, km, a, n, c, ps, kvs, es, rfl, T⟩
 refine ⟨_, rfl, H _ w' ?_⟩
 have S' := S.below T.hb
 exact ⟨S'.hb, fun p e => by cases e; exact ⟨kt, km, a, n, c, ps, kvs, es, rfl, T.base S.hb⟩, S'.hk⟩
theorem ad_take (C : AdC wb a0 l0 c0 rs k7 k8 u h) {p : Option Addr} (S : StA wb qq qt qa (rs.filter rulR) (some p) k w) {now : Int} {R : Value -> Int -> World -> Prop} (H : ∀ w', StA wb qq qt qa (rs.filter rulR) (some p) k w' -> R (takV (rs.filter rulR) u h now).1.v (takV (rs.filter rulR) u h now).2 w') :
   Calls prog qh #[.pointer p, u.v, h.v, .int .i64 now] w fun e w' => ∃ (v : Value) (n : Int), e = .returned (.tuple #[v, .int .i64 n]) /\ R v n w' := by
 obtain ⟨kt, km, a, n, c, ps, kvs, es, e, T⟩ := S.ht p rfl
 subst e
 refine callK (jv C.he T C.ou (by have := C.un; omega) C.up h C.ho now) ?_
 rintro _ w' ⟨rfl, hb⟩
 exact ⟨_, _, rfl, H w' (S.below hb)⟩
theorem ad_al (S : StA wb qq qt qa rs t none w) {R : Nat -> World -> Prop} (H : ∀ x w', StA wb qq qt qa rs t (some x) w' -> R x w') :
   ∀ (x : Nat) (w' : World), x = w.heap.size -> w' = w.alloc (.cells qj qa) -> R x w' := fun x w' hx hw => by
 have hb := (hw ▸ qf w _ : Below w.heap.size w w')
 have S' := S.below hb
 refine H x w' ⟨S'.hb, S'.ht, fun y e => ?_⟩
 cases e
 exact ⟨qm.new hx hw, by have := S.hb.size; omega⟩
theorem ad_st {x : Nat} (S : StA wb qq qt qa rs t (some x) w) {c : Cky} (o : c.ok) {R : World -> Prop} (H : ∀ wx, Below wb.heap.size wb wx -> qm wx x qa c.cells -> R wx) :
   ∃ wx : World, (Instr.storeAt qa (.pointer (some ⟨x, 0, none⟩)) c.v).run prog w = .ok () wx /\ R wx := by
 obtain ⟨h1, h2⟩ := S.hk x rfl
 obtain ⟨wx, hs, ha, hg⟩ := qS.store0 (Cky.len o) (Cky.one c) h1 rfl
 exact ⟨wx, hs, H wx (Below.put S.hb hg h2) ha⟩
end
end Go.Proofs.YtndbpedpdbjkpaaGreatDoor
namespace Go.Pk
open Go.RowKit (Below)
theorem qcR {rs : List Rul} {ts : List (List UInt8)} (h : fewB rs ts = true) : (∀ r ∈ rs, r.2.length <= 300) /\ (∀ t ∈ ts, t.length <= 2500) /\ rs.length <= 30 := by
 unfold fewB at h
 rw [Bool.and_eq_true, Bool.and_eq_true, List.all_eq_true, List.all_eq_true, dTx] at h
 exact ⟨fun r hr => of_decide_eq_true (h.1 r hr), fun t ht => of_decide_eq_true (h.2.1 t ht), h.2.2⟩
theorem qfO {s : List UInt8} (h : pathB s = true) : s.length <= 2048 := by
 unfold pathB at h
 rw [Bool.and_eq_true, Bool.and_eq_true, dTx, dTx] at h
 exact h.2.1
theorem qdb (r : List UInt8) (b : Bool) : (urlR r b).1.host.name.length <= 253 /\ (urlR r b).1.path.length <= 2048 := by
 unfold urlR
 split
 · exact ⟨by decide, by decide⟩
 · rename_i h hh
   split
   · exact ⟨by decide, by decide⟩
   · split
     · rename_i hp
       refine ⟨?_, qfO hp⟩
       unfold qiq at hh
       split at hh
       · cases hh
       · exact qah hh
     · exact ⟨by decide, by decide⟩
theorem qc6 (s : List UInt8) : (urlV s).1.host.name.length <= 253 /\ (urlV s).1.path.length <= 2048 := by
 unfold urlV
 split
 · exact ⟨by decide, by decide⟩
 · exact qdb _ _
theorem qeO : qda hdr0 := ⟨by decide, by decide, by decide, by decide, by decide, by decide⟩
theorem qb7 {s : List UInt8} (h : (qM s).2 ≠ 0) : (qM s).1 = hdr0 := by
 unfold qM at h ⊢
 split
 · rfl
 split
 · rfl
 split
 · rfl
 · rename_i h1 h2 h3
   rw [if_neg h1, if_neg h2, if_neg h3] at h
   exact absurd rfl h
theorem qdk (s : List UInt8) : qda (qM s).1 := by
 by_cases h : (qM s).2 = 0
 · exact qih (parse_good (s := s) (Prod.ext rfl h))
 · rw [qb7 h]; exact qeO
end Go.Pk
namespace Go.Pk
open Go.ChangeShapes Go.WideShapes
theorem qbJ {H : Type} {enc : TypeId × Value -> H} {P : Program} {w : World} {fuel : Nat} {t : TypeId} {fs : Array Field} {cs : List Value} {x : DataW H × List MemPlace} (ht : P.underlying t = some (.struct fs))
   (h : DataW.trod enc P w 0 (fun _ => true) true fuel t cs = some x) :
   ∃ n, cs.length = P.cellsOf t /\ ∀ (i : Nat) (u : TypeId) (o k : Nat), (∃ f : Field, fs[i]? = some f /\ f.type = u /\ f.offset = o) -> P.cellsOf u = k -> ∃ y, DataW.trod enc P w 0 (fun _ => true) true n u ((cs.drop o).take k) = some y := by
 obtain ⟨xs, n, _, _, hl, hlen, hf⟩ := DataW.trod_struct ht h
 refine ⟨n, hl, ?_⟩
 rintro i _ _ _ ⟨f, hi, rfl, rfl⟩ rfl
 have hlt : i < xs.length := by rw [hlen]; exact (Array.getElem?_eq_some_iff.1 hi).1
 exact ⟨xs[i], by rw [hf i f hi, List.getElem?_eq_getElem hlt]⟩
theorem qaw {α : Type} (cs : List α) (a b : Nat) : cs.drop a = (cs.drop a).take b ++ cs.drop (a + b) := by
 rw [<- List.drop_drop, List.take_append_drop]
theorem qd1 {α : Type} (cs : List α) (n : Nat) (h : cs.length = n) : cs.drop n = [] := List.drop_of_length_le (by omega)
end Go.Pk
namespace Go.Proofs.YtndbpedpdbjkpaaGreatDoor
open Go.Pk
open Go.ChangeShapes Go.WideShapes
theorem qc0 {H : Type} {enc : TypeId × Value -> H} {w : World} {fuel : Nat} {cs : List Value} {x : DataW H × List MemPlace} (h : DataW.trod enc prog w 0 (fun _ => true) true fuel ql cs = some x) : ∃ r : Rul, cs = rulC r := by
 obtain ⟨n, hl, hf⟩ := qbJ Tryz.underlying59 h
 have hl2 : cs.length = 2 := hl.trans (by kernel_rfl)
 obtain ⟨y0, h0⟩ := hf 0 qx 0 1 ⟨_, rfl, rfl, rfl⟩ (by kernel_rfl)
 obtain ⟨y1, h1⟩ := hf 1 qe 1 1 ⟨_, rfl, rfl, rfl⟩ (by kernel_rfl)
 obtain ⟨k, e0, _⟩ := qaE qN H enc w n _ _ h0
 obtain ⟨s, e1, _⟩ := qaG un_string H enc w n _ _ h1
 refine ⟨(k, s), ?_⟩
 have s0 := qaw cs 0 1
 have s1 := qaw cs 1 1
 rw [e0, List.drop_zero] at s0
 rw [e1, qd1 cs (1 + 1) hl2, List.append_nil] at s1
 rw [s0, s1]; rfl
theorem qc5 {H : Type} {enc : TypeId × Value -> H} {w : World} {n b off : Nat} (m : Nat)
   (hx : ∀ i, i < m -> ∃ cs, (∀ j, j < 2 -> w.cell? ⟨b, off + (i * 2 + j), none⟩ = cs[j]?) /\ ∃ y, DataW.trod enc prog w 0 (fun _ => true) true n ql cs = some y) :
   ∃ rs : List Rul, rs.length = m /\ At tRul w AllB b off rs := by
 induction m with
 | zero => exact ⟨[], rfl, [], RepL.nil _ _ _, fun j hj => by cases hj⟩
 | succ m ih =>
   obtain ⟨rs, hl, l, hr, hc⟩ := ih fun i hi => hx i (by omega)
   obtain ⟨cs, hcell, y, hy⟩ := hx m (by omega)
   obtain ⟨r, rfl⟩ := qc0 hy
   refine ⟨rs ++ [r], by rw [List.length_append, hl]; rfl, l ++ rulC r, hr.append (RepL.one (T := tRul) rfl), fun j hj => ?_⟩
   have hll : l.length = m * 2 := by rw [hr.len, hl]; rfl
   rw [List.length_append, hll, show (rulC r).length = 2 from rfl] at hj
   by_cases hlt : j < l.length
   · rw [List.getElem?_append_left hlt]; exact hc j hlt
   · rw [List.getElem?_append_right (by omega), <- hcell (j - l.length) (by omega), hll, show off + (m * 2 + (j - m * 2)) = off + j by omega]
theorem qcq {H : Type} {enc : TypeId × Value -> H} {w : World} {fuel : Nat} {v : Value} {x : DataW H × List MemPlace} (h : DataW.trod enc prog w 0 (fun _ => true) true fuel jw [v] = some x) :
   ∃ (a : Option Addr) (len cap : Nat) (rs : List Rul), v = .slice a len cap /\ Sl tRul w AllB a len cap rs /\ rs.length <= 9223372036854775807 := by
 rcases Go.Deep.open_slice qaQ h with ⟨e, _⟩ | ⟨a, len, cap, m, n, D, Pl, e, _, hlc, hcm, hm, _, hx⟩
 · obtain rfl : v = _ := by injection e
   exact ⟨none, 0, 0, [], rfl, Sl.nil _ _ _ _ _ (Nat.zero_le _), Nat.zero_le _⟩
 · obtain rfl : v = _ := by injection e
   have hmax : maxLen <= 9223372036854775807 := by unfold maxLen; decide
   rw [if_pos rfl] at hm
   subst hm
   rw [show prog.cellsOf ql = 2 by kernel_rfl] at hx
   by_cases h0 : len = 0
   · subst h0
     exact ⟨_, _, _, [], rfl, ⟨rfl, hlc, hcm, .inl rfl⟩, Nat.zero_le _⟩
   · obtain ⟨b, off, spot⟩ := a
     obtain ⟨c0, hc0, _⟩ := hx 0 (by omega)
     have hb := World.cells?_block hc0 (by decide)
     obtain ⟨_, hl0, hcc⟩ := World.cells?_some hc0
     have h00 := hcc 0 (by decide)
     rw [List.getElem?_eq_getElem (by omega)] at h00
     have hspot : spot = none := by simpa [Addr.add] using World.cell?_spot h00
     subst hspot
     obtain ⟨rs, hrl, hat⟩ := qc5 (b := b) (off := off) len fun i hi => by
       obtain ⟨cs, hcs, hy⟩ := hx i (by omega)
       obtain ⟨_, hl2, hce⟩ := World.cells?_some hcs
       refine ⟨cs, fun j hj => ?_, _, hy⟩
       rw [<- hce j hj, jZ, jZ, Nat.add_assoc]
     exact ⟨_, _, _, rs, rfl, ⟨hrl.symm, hlc, hcm, .inr ⟨b, off, rfl, (by rw [Nat.zero_mul, jZ] at hb; exact hb), trivial, hat⟩⟩, by omega⟩
end Go.Proofs.YtndbpedpdbjkpaaGreatDoor
namespace Go.Pk
open Go.ChangeShapes Go.WideShapes
theorem qfa {H : Type} {enc : TypeId × Value -> H} {P : Program} {w : World} {fuel : Nat} {t e : TypeId} {cs : List Value} {d : DataW H} {ps : List MemPlace} (ht : P.underlying t = some (.array 2 e)) (he : P.underlying e = some .string) (hk : P.cellsOf e = 1) (hc : P.cellsOf t = 2)
   (h : DataW.trod enc P w 0 (fun _ => true) true fuel t cs = some (d, ps)) : ∃ s r : List UInt8, cs = [.string (mkS s), .string (mkS r)] /\ d = .agg [.lit (.string s), .lit (.string r)] := by
 obtain ⟨xs, m, _, hx, hl, hn, hf⟩ := DataW.trod_array ht h
 rw [hc] at hl
 match cs, hl, xs, hn with
 | [c0, c1], _, [x0, x1], _ =>
   have h0 := hf 0 (by decide)
   have h1 := hf 1 (by decide)
   rw [hk] at h0 h1
   obtain ⟨s, e0, f0, _⟩ := DataW.trod_string he (show DataW.trod enc P w 0 (fun _ => true) true m e [c0] = some x0 from h0)
   obtain ⟨r, e1, f1, _⟩ := DataW.trod_string he (show DataW.trod enc P w 0 (fun _ => true) true m e [c1] = some x1 from h1)
   refine ⟨toL s, toL r, ?_, ?_⟩
   · rw [List.cons.inj e0 |>.1, List.cons.inj e1 |>.1]; rfl
   · have := congrArg Prod.fst hx
     rw [f0, f1] at this
     exact this
end Go.Pk
namespace Go.Pk
open Go.RowKit (Below)
theorem qb5 (h : Hst) : j8 h h = true := by
 have ha : ∀ l : List UInt8, adEq l l = true := fun l => by
   induction l with
   | nil => rfl
   | cons a l ih => simp [adEq, ih]
 unfold j8; rw [ha]; simp
theorem qeg (rs : List Rul) (u : Url) (h : Hdr) (now : Int) : ((takV rs u h now).2 ≠ 0 /\ (takV rs u h now).1 = cky0) \/
   ((takV rs u h now).2 = 0 /\ givV u h now = 0 /\ errV u h (domV rs u.host h.domain) = 0 /\ (takV rs u h now).1 = ckyV u h (domV rs u.host h.domain) now) := by
 unfold takV
 split
 · rename_i h1; exact .inl ⟨h1, rfl⟩
 · rename_i h1
   split
   · rename_i h2; exact .inl ⟨h2, rfl⟩
   · rename_i h2; exact .inr ⟨rfl, by simpa using h1, by simpa using h2, rfl⟩
theorem qiC {u : Url} {h : Hdr} {now : Int} (g : givV u h now = 0) : uRight u = true /\ qaT h = true /\ 0 <= now /\ now <= 1099511627776 := by
 unfold givV at g
 split at g
 · cases g
 split at g
 · cases g
 split at g
 · cases g
 split at g
 · cases g
 · rename_i h1 h2 h3 h4
   exact ⟨by simpa using h1, by simpa using h2, by omega, by omega⟩
theorem qdm {u : Url} {h : Hdr} {d : Hst × Bool × Int} (e : errV u h d = 0) : d.2.2 = 0 /\ (h.sec && !u.sec) = false /\ (decide (h.same = 1) && !h.sec) = false /\ qen h d.2.1 = false := by
 unfold errV at e
 split at e
 · exact absurd e (by assumption)
 split at e
 · cases e
 split at e
 · cases e
 split at e
 · cases e
 · rename_i h1 h2 h3 h4
   exact ⟨by simpa using h1, by simpa using h2, by simpa using h3, by simpa using h4⟩
theorem qh1 {u : Url} (h : uRight u = true) : zd u.host = true /\ pathB u.path = true := by
 unfold uRight at h
 simp only [Bool.and_eq_true] at h
 exact ⟨h.1, h.2.2.2⟩
theorem qk1 {rs : List Rul} {u : Hst} {t : List UInt8} (hu : zd u = true) (e : (domV rs u t).2.2 = 0) :
   ((domV rs u t).2.1 = true -> j8 (domV rs u t).1 u = true) /\ (pubB rs (domV rs u t).1 = true -> (domV rs u t).2.1 = true) /\ domB u (domV rs u t).1 = true := by
 unfold domV at e ⊢
 split
 · refine ⟨fun _ => qb5 u, fun _ => rfl, ?_⟩
   unfold domB; rw [hu, qb5]; rfl
 · rename_i ht
   rw [if_neg ht] at e
   cases hd : hostV t with
   | none => rw [hd] at e; cases e
   | some d =>
     rw [hd] at e
     simp only at e ⊢
     split
     · rename_i h1; rw [if_pos h1] at e; cases e
     · rename_i h1
       rw [if_neg h1] at e
       split
       · rename_i h2; rw [if_pos h2] at e; cases e
       · rename_i h2
         refine ⟨fun hp => ?_, fun hp => hp, by simpa using h2⟩
         have hp : pubB rs d = true := hp
         rw [hp, Bool.true_and] at h1
         simpa using h1
theorem qq0 (p : List UInt8) : qqX p p = true := by unfold qqX; rw [beq_self_eq_true, Bool.true_or]
theorem qs7 {u : Url} {h : Hdr} {d : Hst × Bool × Int} {now : Int} (hg : h.path = [] \/ h.path.head? = some 47) : (ckyV u h d now).path.head? = some 47 := by
 show (if h.path = [] then defV u.path else h.path).head? = some 47
 split
 · exact qrY
 · rename_i hn
   exact hg.resolve_left hn
theorem goe_send {rs : List Rul} {u : Url} {h : Hdr} {now n : Int} {p : List UInt8} (g : givV u h now = 0) (e : errV u h (domV rs u.host h.domain) = 0) :
   qm5 (ckyV u h (domV rs u.host h.domain) now) ⟨true, u.host, (ckyV u h (domV rs u.host h.domain) now).path, 0⟩ n = decide (n < (ckyV u h (domV rs u.host h.domain) now).exp) := by
 obtain ⟨hu, _⟩ := qiC g
 obtain ⟨d1, _, d3⟩ := qk1 (t := h.domain) (qh1 hu).1 (qdm e).1
 unfold qm5
 have e1 : ((ckyV u h (domV rs u.host h.domain) now).only && !j8 (ckyV u h (domV rs u.host h.domain) now).host u.host) = false := by
   show ((domV rs u.host h.domain).2.1 && !j8 (domV rs u.host h.domain).1 u.host) = false
   cases ho : (domV rs u.host h.domain).2.1 with
   | false => rfl
   | true => rw [d1 ho]; rfl
 have e2 : domB u.host (ckyV u h (domV rs u.host h.domain) now).host = true := d3
 simp only [e1, e2, qq0]
 have e3 : qno (ckyV u h (domV rs u.host h.domain) now).same 0 = true := by unfold qno; rw [if_neg (by decide), if_neg (by decide)]; rfl
 rw [e3, Bool.and_true, Bool.not_true, Bool.and_false]
 simp only [Bool.not_false, Bool.true_and]
 rw [Bool.eq_iff_iff]; simp
theorem qrZ {h : Hdr} {now : Int} (h0 : 0 <= now) (h1 : now <= 1099511627776) (ha : 0 <= h.age /\ h.age <= 34560000) :
   (expV h now ≠ 9223372036854775807 -> expV h now <= now + 34560000) /\ (h.hasA = true -> expV h now = now + h.age) := by
 have w1 : i64.wrap (now + h.age) = now + h.age := wrap_i64 (by omega) (by omega)
 have w2 : i64.wrap (now + 34560000) = now + 34560000 := wrap_i64 (by omega) (by omega)
 unfold expV
 rw [w1, w2]
 refine ⟨fun hne => ?_, fun hA => by rw [if_pos hA]⟩
 split
 · omega
 split
 · split <;> omega
 · rename_i h1 h2
   rw [if_neg h1, if_neg h2] at hne
   exact absurd rfl hne
end Go.Pk
namespace Go.Pk
theorem qc7 (d : UInt8) : ∀ (r : List (List UInt8)) (x : List UInt8), (∀ c ∈ x, c ≠ d) -> (∀ y ∈ r, ∀ c ∈ y, c ≠ d) -> cutC d [] (Lib.join (x :: r) [d]) = x :: r
 | [], x, hx, _ => by rw [Lib.join_one, qgy d x [] hx]; rfl
 | y :: r, x, hx, hr => by
   have ih := qc7 d r y (hr y List.mem_cons_self) (fun z hz => hr z (List.mem_cons_of_mem _ hz))
   have e : Lib.join (x :: y :: r) [d] = x ++ d :: Lib.join (y :: r) [d] := by
     rw [Lib.join_cons, Lib.join_cons]
     simp [Lib.joinTail]
   rw [e, qjo d x [] _ hx, ih]; rfl
theorem qsy {s : List UInt8} (h : ∀ c ∈ s, lowC c = c) : lowL s = s := by
 induction s with
 | nil => rfl
 | cons c s ih =>
   show lowC c :: lowL s = c :: s
   rw [h c List.mem_cons_self, ih fun x hx => h x (List.mem_cons_of_mem _ hx)]
theorem u8n (c : UInt8) : c.toNat < 256 := by have := c.toNat_lt; omega
theorem qdT : ∀ n, n < 256 -> zy (decL n) = true /\ (decL n).length <= 18 /\ ¬ ((decL n).head? = some 48 /\ 1 < (decL n).length) /\ ipB (decL n) = UInt8.ofNat n /\ decV (decL n) = (n : Int) := by
 intro n hn
 obtain ⟨h1, h2, h3⟩ := qey n
 have hl : (decL n).length <= 21 := zS (by omega)
 refine ⟨?_, ?_, ?_, ?_, h3⟩
 · unfold zy
   rw [Bool.and_eq_true]
   refine ⟨?_, List.all_eq_true.2 h1⟩
   cases hd : decL n with
   | nil => exact absurd hd h2
   | cons a b => rfl
 · by_cases c : n < 10
   · rw [jA c]; simp
   · rw [jC c]
     by_cases c2 : n / 10 < 10
     · rw [jA c2]; simp
     · rw [jC c2, jA (show n / 10 / 10 < 10 by omega)]; simp
 · rintro ⟨g1, g2⟩
   by_cases c : n < 10
   · rw [jA c] at g2; exact absurd g2 (by simp)
   · have nz : ∀ k, k < 10 -> 0 < k -> UInt8.ofNat (48 + k) ≠ 48 := by decide
     rw [jC c] at g1
     by_cases c2 : n / 10 < 10
     · rw [jA c2] at g1
       exact nz (n / 10) c2 (by omega) (Option.some.inj g1)
     · rw [jC c2, jA (show n / 10 / 10 < 10 by omega)] at g1
       exact nz (n / 10 / 10) (by omega) (by omega) (Option.some.inj g1)
 · unfold ipB; rw [show decV (decL n) = (n : Int) from h3]; rfl
theorem qps {c : UInt8} (h : j9 c = true) : c ≠ 46 /\ lowC c = c /\ c ≠ 91 := by
 have hall : ∀ n, n < 256 -> j9 (UInt8.ofNat n) = true -> UInt8.ofNat n ≠ 46 /\ lowC (UInt8.ofNat n) = UInt8.ofNat n /\ UInt8.ofNat n ≠ 91 := by decide +kernel
 have := hall c.toNat (by have := c.toNat_lt; omega)
 rw [UInt8.ofNat_toNat] at this
 exact this h
theorem qgp {a : List UInt8} (h : a.length = 16) : cutC 46 [] (text4V a) = (a.drop 12).map fun c => decL c.toNat := by
 unfold text4V
 rw [qfg h]
 have hd : ∀ c : UInt8, ∀ x ∈ decL c.toNat, x ≠ 46 := fun c x hx => (qps ((qey c.toNat).1 x hx)).1
 exact qc7 46 _ _ (hd _) (by
   intro y hy
   simp only [List.map_cons, List.map_nil, List.mem_cons, List.not_mem_nil, or_false] at hy
   rcases hy with rfl | rfl | rfl <;> exact hd _)
theorem qpz {a : List UInt8} (h : a.length = 16) (hz : a.take 12 = List.replicate 12 0) : v4V (text4V a) = some a := by
 unfold v4V
 rw [qgp h]
 rw [if_pos]
 · congr 1
   rw [List.map_map]
   have e : (ipB ∘ fun c : UInt8 => decL c.toNat) = id := funext fun c => by
     show ipB (decL c.toNat) = c
     rw [(qdT c.toNat (u8n c)).2.2.2.1, UInt8.ofNat_toNat]
   rw [e, List.map_id, <- hz, List.take_append_drop]
 · refine ⟨by rw [List.length_map, List.length_drop, h], fun x hx => ?_⟩
   obtain ⟨c, hc, rfl⟩ := List.mem_map.1 hx
   obtain ⟨f1, f2, f3, f4, f5⟩ := qdT c.toNat (u8n c)
   exact ⟨⟨f1, f2, f3⟩, by rw [f5]; have := u8n c; omega⟩
theorem ql6 {a : List UInt8} (h : a.length = 16) : (∀ c ∈ text4V a, lowC c = c /\ c ≠ 91) := by
 intro c hc
 rw [text4_parts h] at hc
 have hd : ∀ {n : Nat}, c ∈ decL n -> lowC c = c /\ c ≠ 91 := fun hx => (qps ((qey _).1 c hx)).2
 have h46 : c ∈ ([46] : List UInt8) -> lowC c = c /\ c ≠ 91 := fun hx => by rw [List.mem_singleton.1 hx]; decide
 simp only [List.mem_append] at hc
 rcases hc with (((((hc | hc) | hc) | hc) | hc) | hc) | hc
 · exact hd hc
 · exact h46 hc
 · exact hd hc
 · exact h46 hc
 · exact hd hc
 · exact h46 hc
 · exact hd hc
theorem qjI {a : List UInt8} (h : a.length = 16) : zy (qid (cutC 46 [] (text4V a))) = true := by
 rw [qgp h, qfg h]
 exact (qdT _ (u8n _)).1
theorem qr6 {a : List UInt8} (h : a.length = 16) (hz : a.take 12 = List.replicate 12 0) : hostV (text4V a) = some ⟨2, [], a⟩ := by
 have hl := ql6 h
 unfold hostV
 rw [if_neg, qsy fun c hc => (hl c hc).1, if_pos (qjI h), qpz h hz]
 · rfl
 · intro e
   cases ht : text4V a with
   | nil => rw [ht] at e; cases e
   | cons x r =>
     rw [ht] at e
     obtain rfl : x = 91 := Option.some.inj e
     exact (hl 91 (by rw [ht]; exact List.mem_cons_self)).2 rfl
theorem qfc : ∀ d, d < 16 -> qeP (hexC d) = true /\ hexN (hexC d) = d /\ hexC d ≠ 58 := by decide
theorem hexL_facts (n : Nat) : (∀ c ∈ hexL n, qeP c = true /\ c ≠ 58) /\ hexL n ≠ [] /\ grpN (hexL n) = n := by
 induction n using Nat.strongRecOn with
 | _ n ih =>
   by_cases h : n < 16
   · rw [qdK h]
     obtain ⟨h1, h2, h3⟩ := qfc n h
     refine ⟨fun c hc => by rw [List.mem_singleton.1 hc]; exact ⟨h1, h3⟩, by simp, ?_⟩
     show 0 * 16 + hexN (hexC n) = n
     rw [h2]; omega
   · obtain ⟨i1, i2, i3⟩ := ih (n / 16) (by omega)
     obtain ⟨h1, h2, h3⟩ := qfc (n % 16) (by omega)
     rw [hexL_more h]
     refine ⟨fun c hc => ?_, by simp, ?_⟩
     · rcases List.mem_append.1 hc with hc | hc
       · exact i1 c hc
       · rw [List.mem_singleton.1 hc]; exact ⟨h1, h3⟩
     · unfold grpN at i3 ⊢
       rw [List.foldl_append, i3]
       show n / 16 * 16 + hexN (hexC (n % 16)) = n
       rw [h2]; omega
theorem qol {n : Nat} (h : n < 65536) : jL (hexL n) = true := by
 obtain ⟨h1, h2, _⟩ := hexL_facts n
 unfold jL
 have hl := qcp h
 have h0 : 1 <= (hexL n).length := by
   cases hd : hexL n with
   | nil => exact absurd hd h2
   | cons a b => simp
 rw [decide_eq_true h0, decide_eq_true hl, List.all_eq_true.2 fun c hc => (h1 c hc).1]; rfl
theorem qdr {l : List Nat} : rowP (wrL l) = l.map hexL := by
 cases l with
 | nil => rfl
 | cons n l =>
   unfold rowP
   rw [if_neg]
   · unfold wrL
     exact qc7 58 _ _ (fun c hc => ((hexL_facts n).1 c hc).2) (fun y hy c hc => by
       obtain ⟨m, _, rfl⟩ := List.mem_map.1 hy
       exact ((hexL_facts m).1 c hc).2)
   · unfold wrL
     rw [List.map_cons, Lib.join_cons]
     intro e
     exact (hexL_facts n).2.1 (List.append_eq_nil_iff.1 e).1
theorem row_all {l : List Nat} (h : ∀ x ∈ l, x < 65536) : (rowP (wrL l)).all jL = true := by
 rw [qdr]
 exact List.all_eq_true.2 fun y hy => by
   obtain ⟨m, hm, rfl⟩ := List.mem_map.1 hy
   exact qol (h m hm)
theorem qis {l : List Nat} : (rowP (wrL l)).map grpN = l := by
 rw [qdr, List.map_map]
 have e : (grpN ∘ hexL) = id := funext fun n => (hexL_facts n).2.2
 rw [e, List.map_id]
theorem qnP {l : List Nat} (h : ∀ x ∈ l, x < 65536) (hl : l.length = 8) : v6V (wrL l) = some l := by
 have hr : cutC 58 [] (wrL l) = rowP (wrL l) := by
   unfold rowP
   rw [if_neg]
   intro e
   have := qdr (l := l)
   rw [e] at this
   have := congrArg List.length this
   rw [List.length_map, hl] at this
   exact absurd this (by decide)
 have h8 : e8 (wrL l) = true := by
   unfold e8
   rw [hr, row_all h, qdr, List.length_map, hl]; rfl
 rw [qur h8, hr, qis]
theorem qpH (A B : List UInt8) : at2 (A ++ [58, 58] ++ B) A.length := by
 unfold at2
 rw [List.append_assoc]
 refine ⟨by rw [List.getElem?_append_right (Nat.le_refl _), Nat.sub_self]; rfl, ?_⟩
 rw [List.getElem?_append_right (by omega), show A.length + 1 - A.length = 1 by omega]; rfl
theorem qrS {l : List Nat} {p n : Nat} (h : ∀ x ∈ l, x < 65536) (hl : l.length = 8) (hp : p + n <= 8) (hn : 1 <= n) (hz : ∀ j, j < n -> l.getD (p + j) 1 = 0) :
   v6V (wrL (l.take p) ++ [58, 58] ++ wrL (l.drop (p + n))) = some l := by
 have hA := row_all (l := l.take p) fun x hx => h x (List.mem_of_mem_take hx)
 have hB := row_all (l := l.drop (p + n)) fun x hx => h x (List.mem_of_mem_drop hx)
 have t1 : (wrL (l.take p) ++ [58, 58] ++ wrL (l.drop (p + n))).take (wrL (l.take p)).length = wrL (l.take p) := by rw [List.append_assoc, List.take_left']; rfl
 have t2 : (wrL (l.take p) ++ [58, 58] ++ wrL (l.drop (p + n))).drop ((wrL (l.take p)).length + 2) = wrL (l.drop (p + n)) := by
   rw [List.drop_left' (by rw [List.length_append]; rfl)]
 have hat := qpH (wrL (l.take p)) (wrL (l.drop (p + n)))
 rw [qtg hat, t1, t2, if_pos]
 · congr 1
   unfold v6L
   rw [qis, qis, qdr, qdr, List.length_map, List.length_map, List.length_take, List.length_drop, hl]
   have hmid : (l.drop p).take n = List.replicate n 0 := by
     rw [List.eq_replicate_iff]
     refine ⟨by rw [List.length_take, List.length_drop, hl]; omega, fun x hx => ?_⟩
     obtain ⟨j, hj, rfl⟩ := List.mem_iff_getElem.1 hx
     rw [List.length_take, List.length_drop, hl] at hj
     have := hz j (by omega)
     rw [List.getD_eq_getElem?_getD, List.getElem?_eq_getElem (by omega)] at this
     rw [List.getElem_take, List.getElem_drop]
     exact this
   rw [show 8 - min p 8 - (8 - (p + n)) = n by omega, <- hmid]
   conv => rhs; rw [<- List.take_append_drop p l]
   rw [List.append_assoc, <- List.drop_drop, List.take_append_drop]
 · refine ⟨⟨hA, hB⟩, ?_⟩
   rw [qdr, qdr, List.length_map, List.length_map, List.length_take, List.length_drop, hl]; omega
 · intro j hj hc
   have := late hc hj hat
   rw [t1, hA] at this
   cases this
theorem qsE (a : List UInt8) (k : Nat) (h : (zsA a).getD k false = true) : (gL a).getD k 1 = 0 := by
 unfold zsA at h
 rw [List.getD_eq_getElem?_getD, List.getElem?_map] at h
 rw [List.getD_eq_getElem?_getD]
 cases hk : (gL a)[k]? with
 | none => rw [hk] at h; cases h
 | some v => rw [hk] at h; exact eq_of_beq h
theorem qpK (a : List UInt8) : v6V (qaJ a) = some (gL a) := by
 unfold qaJ
 split
 · exact qnP (qeo a) rfl
 · rename_i h
   obtain ⟨h1, h2, _⟩ := qc3 (qit a)
   have h3 := h2 (by omega)
   refine qrS (qeo a) rfl h1 (by omega) fun j hj => qsE a _ ?_
   unfold allZ at h3
   exact List.all_eq_true.1 h3 j (List.mem_range.2 hj)
theorem qp3 {a : List UInt8} (h : a.length = 16) : qdH (gL a) = a := by
 obtain ⟨x0, x1, x2, x3, x4, x5, x6, x7, x8, x9, x10, x11, x12, x13, x14, x15, rfl⟩ := qi4 a h
 have e : ∀ x y : UInt8, [UInt8.ofNat ((x.toNat * 256 + y.toNat) / 256), UInt8.ofNat ((x.toNat * 256 + y.toNat) % 256)] = [x, y] := fun x y => by
   have h1 := u8n x; have h2 := u8n y
   rw [show (x.toNat * 256 + y.toNat) / 256 = x.toNat by omega, show (x.toNat * 256 + y.toNat) % 256 = y.toNat by omega, UInt8.ofNat_toNat, UInt8.ofNat_toNat]
 show [_, _] ++ ([_, _] ++ ([_, _] ++ ([_, _] ++ ([_, _] ++ ([_, _] ++ ([_, _] ++ ([_, _] ++ []))))))) = _
 have f := fun x y => e x y
 exact (by
   rw [show grpA [x0, x1, x2, x3, x4, x5, x6, x7, x8, x9, x10, x11, x12, x13, x14, x15] 0 = x0.toNat * 256 + x1.toNat from rfl, show grpA [x0, x1, x2, x3, x4, x5, x6, x7, x8, x9, x10, x11, x12, x13, x14, x15] 1 = x2.toNat * 256 + x3.toNat from rfl,
     show grpA [x0, x1, x2, x3, x4, x5, x6, x7, x8, x9, x10, x11, x12, x13, x14, x15] 2 = x4.toNat * 256 + x5.toNat from rfl, show grpA [x0, x1, x2, x3, x4, x5, x6, x7, x8, x9, x10, x11, x12, x13, x14, x15] 3 = x6.toNat * 256 + x7.toNat from rfl,
     show grpA [x0, x1, x2, x3, x4, x5, x6, x7, x8, x9, x10, x11, x12, x13, x14, x15] 4 = x8.toNat * 256 + x9.toNat from rfl, show grpA [x0, x1, x2, x3, x4, x5, x6, x7, x8, x9, x10, x11, x12, x13, x14, x15] 5 = x10.toNat * 256 + x11.toNat from rfl,
     show grpA [x0, x1, x2, x3, x4, x5, x6, x7, x8, x9, x10, x11, x12, x13, x14, x15] 6 = x12.toNat * 256 + x13.toNat from rfl, show grpA [x0, x1, x2, x3, x4, x5, x6, x7, x8, x9, x10, x11, x12, x13, x14, x15] 7 = x14.toNat * 256 + x15.toNat from rfl,
     e, e, e, e, e, e, e, e]; rfl)
theorem qsn {a : List UInt8} (h : a.length = 16) : hostV ([91] ++ qaJ a ++ [93]) = some ⟨3, [], a⟩ := by
 have h1 : (([91] : List UInt8) ++ qaJ a ++ [93]).head? = some 91 := rfl
 have h2 : (([91] : List UInt8) ++ qaJ a ++ [93]).getLast? = some 93 := by rw [List.getLast?_append]; rfl
 unfold hostV
 rw [if_pos h1, if_pos h2]
 have e : (([91] ++ qaJ a ++ [93]).drop 1).take (([91] ++ qaJ a ++ [93]).length - 2) = qaJ a := by
   rw [List.append_assoc, List.singleton_append, List.drop_succ_cons, List.drop_zero]
   rw [List.take_left']
   simp
 rw [e]
 unfold v6A
 rw [qpK, Option.map_some, Option.map_some, qp3 h]
theorem qjB {s : List UInt8} {h : Hst} (e : hostV s = some h) : hostV (qax h) = some h := by
 have ho := jG e
 unfold hostV at e
 split at e
 · split at e
   · cases hv : v6A ((s.drop 1).take (s.length - 2)) with
     | none => rw [hv] at e; cases e
     | some a => rw [hv] at e; cases e; exact qsn ho
   · cases e
 rename_i h1
 split at e
 · cases hv : v4V s with
   | none => rw [hv] at e; cases e
   | some a =>
     rw [hv] at e; cases e
     refine qr6 ho ?_
     unfold v4V at hv
     split at hv
     · rw [<- Option.some.inj hv, List.take_left']; rfl
     · cases hv
 rename_i h2
 split at e
 · rename_i h3
   cases e
   show hostV (lowL s) = _
   unfold hostV
   rw [qp5, if_neg (fun hx => h1 ((qrt s).1 hx)), if_neg h2, if_pos ⟨by rw [qlH]; exact h3.1, h3.2⟩]
 · cases e
theorem qio {s : List UInt8} {h : Hst} (e : hostV s = some h) : zd h = true := by
 unfold zd
 rw [qjB e]
 exact qb5 h
theorem qj0 {s : List UInt8} (e : (urlV s).2 = 0) : uRight (urlV s).1 = true := by
 unfold urlV at e ⊢
 cases hx : urlH s with
 | none => rw [hx] at e; cases e
 | some x =>
   obtain ⟨r, b⟩ := x
   rw [hx] at e
   simp only at e ⊢
   unfold urlR at e ⊢
   split
   · rename_i hh; simp only [hh] at e; cases e
   · rename_i g hh
     simp only [hh] at e
     split
     · rename_i hp; simp only [hp] at e; cases e
     · rename_i n hp
       simp only [hp] at e
       split
       · rename_i hq
         unfold uRight
         have hg : zd g = true := by
           unfold qiq at hh
           split at hh
           · cases hh
           · exact qio hh
         have hn : 1 <= n /\ n <= 65535 := by
           unfold qoH at hp
           split at hp
           · rw [<- Option.some.inj hp]; split <;> decide
           · split at hp
             · rename_i hc; rw [<- Option.some.inj hp]; exact hc.2
             · cases hp
         simp only [hg, hq, Bool.true_and, Bool.and_true, Bool.and_eq_true, dTx]
         exact hn
       · rename_i hq; rw [if_neg hq] at e; cases e
end Go.Pk
namespace Go.Pk
open Go.RowKit (Below)
theorem okB2_good {s t : List UInt8} (h : okB2 s t = true) : uRight (urlV s).1 = true /\ Good (qM t).1 := by
 unfold okB2 at h
 rw [Bool.and_eq_true, beq_iff_eq, beq_iff_eq] at h
 exact ⟨qj0 h.1, parse_good (s := t) (Prod.ext rfl h.2)⟩
theorem qlb {rs : List Rul} {u : Url} {h : Hdr} (now : Int) (hu : u.host.name.length <= 80000000) : (takV rs u h now).1.host.name.length <= 80000000 := by
 rcases qeg rs u h now with ⟨_, e⟩ | ⟨_, _, _, e⟩
 · rw [e]; decide
 · rw [e]; exact qmg _ hu
theorem qsP (s : List UInt8) : (defV s).length <= s.length + 1 := by
 unfold defV
 split
 · simp
 · rw [List.length_take]; omega
theorem qse {rs : List Rul} {u : Url} {h : Hdr} (now : Int) (hu : u.path.length <= 100000000) (hh : qda h) : (takV rs u h now).1.path.length <= 1000000000 := by
 rcases qeg rs u h now with ⟨_, e⟩ | ⟨_, _, _, e⟩
 · rw [e]; decide
 · rw [e]
   show (if h.path = [] then defV u.path else h.path).length <= _
   split
   · have := qsP u.path; omega
   · have := hh.path; omega
end Go.Pk
namespace Go.Proofs.YtndbpedpdbjkpaaGreatDoor
open Go.Pk
open Go.RowKit (Below)
section
variable {C : Cky} {x : Nat} {w : World}
theorem qij (oc : C.ok) (h : qm w x qa C.cells) : (Instr.loadAt qe (.pointer (Option.map (fun x : Addr => x.add 21) (some (⟨x, 0, none⟩ : Addr))))).run prog w = .ok (.string (mkS C.path)) w := h.load1 un_string rfl (i := 21) (jo oc 1)
theorem qng (oc : C.ok) (h : qm w x qa C.cells) : (Instr.loadAt qZ (.pointer (Option.map (fun x : Addr => x.add 25) (some (⟨x, 0, none⟩ : Addr))))).run prog w = .ok (.int .i64 C.exp) w := h.load1 un_int64 rfl (i := 25) (jo oc 5)
theorem qlf {u : Url} {k : Nat} (ou : u.ok) (h : qm w k qg u.cells) : (Instr.loadAt qc (.pointer (some ⟨k, 1, none⟩))).run prog w = .ok u.host.v w := qs.load h (i := 1) (us := u.host.cells) (Hst.len ou) (fun j hj => by
 unfold Url.cells
 rw [Nat.add_comm, List.getElem?_cons_succ, List.getElem?_append_left (by rw [Hst.len ou]; exact hj)])
end
structure SafC (wa w12 : World) (a0 : Option Addr) (l0 c0 : Nat) (rs : List Rul) (k7 x : Nat) (u : Url) (C : Cky) (w13 : World) : Prop where
 hs : Sl tRul w13 AllB a0 l0 c0 rs
 hl : rs.length <= 1000000
 hr : ∀ r ∈ rs, r.2.length <= 80000000
 hU : qm w13 k7 qg u.cells
 hC : qm w13 x qa C.cells
 ou : u.ok
 oc : C.ok
 cn : C.host.name.length <= 80000000
end Go.Proofs.YtndbpedpdbjkpaaGreatDoor
set_option maxRecDepth 100000
namespace Go.Proofs.YtndbpedpdbjkpaaGreatDoor
open Go.Pk
open Go.RowKit (Below)
--  cracknel/cracknellaw10.AdmitGoes
def qer (a0 : Option Addr) (l0 c0 : Nat) (s1_0 : List UInt8) (s1_1 : List UInt8) (n2 : Int) (w : World) (K : Value -> World -> Prop) : Prop :=
 ∀ k4 w4, k4 = w.heap.size -> w4 = w.alloc (.cells #[.string (mkS s1_0), .string (mkS s1_1)] qaI) ->
 Calls prog zT #[] w4 fun e13 w13 => ∃ b13, e13 = .returned (.bool b13) /\
 BCase (!b13)
 (K (.bool false) w13)
 (((0 <= (0 : Int) /\ (0 : Int) < ((2 : Nat) : Int)) /\ true = true) /\
 ∃ s17, Ld qe (qn (some ⟨k4, 0, none⟩) (0 : Int) 1) w13 (.string (mkS s17)) /\
 ((0 <= (1 : Int) /\ (1 : Int) < ((2 : Nat) : Int)) /\ true = true) /\
 ∃ s19, Ld qe (qn (some ⟨k4, 0, none⟩) (1 : Int) 1) w13 (.string (mkS s19)) /\
 Calls prog qae #[.string (mkS s17), .string (mkS s19)] w13 fun e20 w20 => ∃ v20_0 s20_1_0 s20_1_1 s20_1_2 s20_1_3 b20_1_4 n20_1_5 b20_1_6 n20_1_7 b20_1_8 b20_1_9 n20_1_10 b20_2, e20 = .returned (.tuple #[v20_0, (hV s20_1_0 s20_1_1 s20_1_2 s20_1_3 b20_1_4 n20_1_5 b20_1_6 n20_1_7 b20_1_8 b20_1_9 n20_1_10), .bool b20_2]) /\
 ∀ k7 w7, k7 = w20.heap.size -> w7 = w20.alloc (.cells z7 qg) ->
 ∀ k8 w8, k8 = w7.heap.size -> w8 = w7.alloc (.cells #[.string (mkS []), .string (mkS []), .string (mkS []), .string (mkS []), .bool false, .int .i64 (0 : Int), .bool false, .int .i64 (0 : Int), .bool false, .bool false, .int .i64 (0 : Int)] qd) ->
 ∃ wx, Sv qg (some ⟨k7, 0, none⟩) v20_0 w8 wx /\
 ∃ wx_1, Sv qd (some ⟨k8, 0, none⟩) (hV s20_1_0 s20_1_1 s20_1_2 s20_1_3 b20_1_4 n20_1_5 b20_1_6 n20_1_7 b20_1_8 b20_1_9 n20_1_10) wx wx_1 /\
 ∃ J : FP [],
 (((0 <= (0 : Int) /\ (0 : Int) < ((2 : Nat) : Int)) /\ true = true) /\
 ∃ s26, Ld qe (qn (some ⟨k4, 0, none⟩) (0 : Int) 1) wx_1 (.string (mkS s26)) /\
 ((0 <= (1 : Int) /\ (1 : Int) < ((2 : Nat) : Int)) /\ true = true) /\
 ∃ s28, Ld qe (qn (some ⟨k4, 0, none⟩) (1 : Int) 1) wx_1 (.string (mkS s28)) /\
 ∀ k29 w29, k29 = wx_1.heap.size -> w29 = wx_1.alloc (.cells #[.string (mkS s26), .string (mkS s28)] qe) ->
 Calls prog zr #[.slice a0 l0 c0, .slice (some ⟨k29, 0, none⟩) 2 2] w29 fun e30 w30 => ∃ b30, e30 = .returned (.bool b30) /\
 BCase (!b30)
 (K (.bool true) w30)
 (BCase (!b20_2)
 (K (.bool true) w30)
 (J w30))) /\
 AllJ 13 (∀ wj, J wj ->
 ∃ J_1 : FP [.one (.ptr), .one (.int .i64)],
 ((Calls prog qp #[.slice a0 l0 c0] (World.drew wj) fun e38 w38 => ∃ p38, e38 = .returned (.pointer p38) /\
 (∃ v39, Ld qg (some ⟨k7, 0, none⟩) w38 v39 /\
 (∃ s40_0 s40_1 s40_2 s40_3 b40_4 n40_5 b40_6 n40_7 b40_8 b40_9 n40_10, Ld qd (some ⟨k8, 0, none⟩) w38 (hV s40_0 s40_1 s40_2 s40_3 b40_4 n40_5 b40_6 n40_7 b40_8 b40_9 n40_10) /\
 (Calls prog qh #[.pointer p38, v39, (hV s40_0 s40_1 s40_2 s40_3 b40_4 n40_5 b40_6 n40_7 b40_8 b40_9 n40_10), .int .i64 n2] w38 fun e42 w42 => ∃ v42_0 n42_1, e42 = .returned (.tuple #[v42_0, .int .i64 n42_1]) /\
 ∀ k10 w10, k10 = w42.heap.size -> w10 = w42.alloc (.cells qj qa) ->
 ∃ wx_2, Sv qa (some ⟨k10, 0, none⟩) v42_0 w10 wx_2 /\
 J_1 (some ⟨k10, 0, none⟩) n42_1 wx_2) /\
 ∀ k10_1 w10_1, k10_1 = w38.heap.size -> w10_1 = w38.alloc (.cells qj qa) ->
 Calls prog qh #[.pointer p38, v39, (hV s40_0 s40_1 s40_2 s40_3 b40_4 n40_5 b40_6 n40_7 b40_8 b40_9 n40_10), .int .i64 n2] w10_1 fun e42_1 w42_1 => ∃ v42_0_1 n42_1_1, e42_1 = .returned (.tuple #[v42_0_1, .int .i64 n42_1_1]) /\
 ∃ wx_3, Sv qa (some ⟨k10_1, 0, none⟩) v42_0_1 w42_1 wx_3 /\
 J_1 (some ⟨k10_1, 0, none⟩) n42_1_1 wx_3) /\
 ∀ k10_2 w10_2, k10_2 = w38.heap.size -> w10_2 = w38.alloc (.cells qj qa) ->
 ∃ s40_0_1 s40_1_1 s40_2_1 s40_3_1 b40_4_1 n40_5_1 b40_6_1 n40_7_1 b40_8_1 b40_9_1 n40_10_1, Ld qd (some ⟨k8, 0, none⟩) w10_2 (hV s40_0_1 s40_1_1 s40_2_1 s40_3_1 b40_4_1 n40_5_1 b40_6_1 n40_7_1 b40_8_1 b40_9_1 n40_10_1) /\
 Calls prog qh #[.pointer p38, v39, (hV s40_0_1 s40_1_1 s40_2_1 s40_3_1 b40_4_1 n40_5_1 b40_6_1 n40_7_1 b40_8_1 b40_9_1 n40_10_1), .int .i64 n2] w10_2 fun e42_2 w42_2 => ∃ v42_0_2 n42_1_2, e42_2 = .returned (.tuple #[v42_0_2, .int .i64 n42_1_2]) /\
 ∃ wx_4, Sv qa (some ⟨k10_2, 0, none⟩) v42_0_2 w42_2 wx_4 /\
 J_1 (some ⟨k10_2, 0, none⟩) n42_1_2 wx_4) /\
 (∃ s40_0_2 s40_1_2 s40_2_2 s40_3_2 b40_4_2 n40_5_2 b40_6_2 n40_7_2 b40_8_2 b40_9_2 n40_10_2, Ld qd (some ⟨k8, 0, none⟩) w38 (hV s40_0_2 s40_1_2 s40_2_2 s40_3_2 b40_4_2 n40_5_2 b40_6_2 n40_7_2 b40_8_2 b40_9_2 n40_10_2) /\
 (∃ v39_1, Ld qg (some ⟨k7, 0, none⟩) w38 v39_1 /\
 (Calls prog qh #[.pointer p38, v39_1, (hV s40_0_2 s40_1_2 s40_2_2 s40_3_2 b40_4_2 n40_5_2 b40_6_2 n40_7_2 b40_8_2 b40_9_2 n40_10_2), .int .i64 n2] w38 fun e42_3 w42_3 => ∃ v42_0_3 n42_1_3, e42_3 = .returned (.tuple #[v42_0_3, .int .i64 n42_1_3]) /\
 ∀ k10_3 w10_3, k10_3 = w42_3.heap.size -> w10_3 = w42_3.alloc (.cells qj qa) ->
 ∃ wx_5, Sv qa (some ⟨k10_3, 0, none⟩) v42_0_3 w10_3 wx_5 /\
 J_1 (some ⟨k10_3, 0, none⟩) n42_1_3 wx_5) /\
 ∀ k10_4 w10_4, k10_4 = w38.heap.size -> w10_4 = w38.alloc (.cells qj qa) ->
 Calls prog qh #[.pointer p38, v39_1, (hV s40_0_2 s40_1_2 s40_2_2 s40_3_2 b40_4_2 n40_5_2 b40_6_2 n40_7_2 b40_8_2 b40_9_2 n40_10_2), .int .i64 n2] w10_4 fun e42_4 w42_4 => ∃ v42_0_4 n42_1_4, e42_4 = .returned (.tuple #[v42_0_4, .int .i64 n42_1_4]) /\
 ∃ wx_6, Sv qa (some ⟨k10_4, 0, none⟩) v42_0_4 w42_4 wx_6 /\
 J_1 (some ⟨k10_4, 0, none⟩) n42_1_4 wx_6) /\
 ∀ k10_5 w10_5, k10_5 = w38.heap.size -> w10_5 = w38.alloc (.cells qj qa) ->
 ∃ v39_2, Ld qg (some ⟨k7, 0, none⟩) w10_5 v39_2 /\
 Calls prog qh #[.pointer p38, v39_2, (hV s40_0_2 s40_1_2 s40_2_2 s40_3_2 b40_4_2 n40_5_2 b40_6_2 n40_7_2 b40_8_2 b40_9_2 n40_10_2), .int .i64 n2] w10_5 fun e42_5 w42_5 => ∃ v42_0_5 n42_1_5, e42_5 = .returned (.tuple #[v42_0_5, .int .i64 n42_1_5]) /\
 ∃ wx_7, Sv qa (some ⟨k10_5, 0, none⟩) v42_0_5 w42_5 wx_7 /\
 J_1 (some ⟨k10_5, 0, none⟩) n42_1_5 wx_7) /\
 ∀ k10_6 w10_6, k10_6 = w38.heap.size -> w10_6 = w38.alloc (.cells qj qa) ->
 (∃ v39_3, Ld qg (some ⟨k7, 0, none⟩) w10_6 v39_3 /\
 ∃ s40_0_3 s40_1_3 s40_2_3 s40_3_3 b40_4_3 n40_5_3 b40_6_3 n40_7_3 b40_8_3 b40_9_3 n40_10_3, Ld qd (some ⟨k8, 0, none⟩) w10_6 (hV s40_0_3 s40_1_3 s40_2_3 s40_3_3 b40_4_3 n40_5_3 b40_6_3 n40_7_3 b40_8_3 b40_9_3 n40_10_3) /\
 Calls prog qh #[.pointer p38, v39_3, (hV s40_0_3 s40_1_3 s40_2_3 s40_3_3 b40_4_3 n40_5_3 b40_6_3 n40_7_3 b40_8_3 b40_9_3 n40_10_3), .int .i64 n2] w10_6 fun e42_6 w42_6 => ∃ v42_0_6 n42_1_6, e42_6 = .returned (.tuple #[v42_0_6, .int .i64 n42_1_6]) /\
 ∃ wx_8, Sv qa (some ⟨k10_6, 0, none⟩) v42_0_6 w42_6 wx_8 /\
 J_1 (some ⟨k10_6, 0, none⟩) n42_1_6 wx_8) /\
 ∃ s40_0_4 s40_1_4 s40_2_4 s40_3_4 b40_4_4 n40_5_4 b40_6_4 n40_7_4 b40_8_4 b40_9_4 n40_10_4, Ld qd (some ⟨k8, 0, none⟩) w10_6 (hV s40_0_4 s40_1_4 s40_2_4 s40_3_4 b40_4_4 n40_5_4 b40_6_4 n40_7_4 b40_8_4 b40_9_4 n40_10_4) /\
 ∃ v39_4, Ld qg (some ⟨k7, 0, none⟩) w10_6 v39_4 /\
 Calls prog qh #[.pointer p38, v39_4, (hV s40_0_4 s40_1_4 s40_2_4 s40_3_4 b40_4_4 n40_5_4 b40_6_4 n40_7_4 b40_8_4 b40_9_4 n40_10_4), .int .i64 n2] w10_6 fun e42_7 w42_7 => ∃ v42_0_7 n42_1_7, e42_7 = .returned (.tuple #[v42_0_7, .int .i64 n42_1_7]) /\
 ∃ wx_9, Sv qa (some ⟨k10_6, 0, none⟩) v42_0_7 w42_7 wx_9 /\
 J_1 (some ⟨k10_6, 0, none⟩) n42_1_7 wx_9) /\
 (∃ v39_5, Ld qg (some ⟨k7, 0, none⟩) (World.drew wj) v39_5 /\
 (Calls prog qp #[.slice a0 l0 c0] (World.drew wj) fun e38_1 w38_1 => ∃ p38_1, e38_1 = .returned (.pointer p38_1) /\
 (∃ s40_0_5 s40_1_5 s40_2_5 s40_3_5 b40_4_5 n40_5_5 b40_6_5 n40_7_5 b40_8_5 b40_9_5 n40_10_5, Ld qd (some ⟨k8, 0, none⟩) w38_1 (hV s40_0_5 s40_1_5 s40_2_5 s40_3_5 b40_4_5 n40_5_5 b40_6_5 n40_7_5 b40_8_5 b40_9_5 n40_10_5) /\
 (Calls prog qh #[.pointer p38_1, v39_5, (hV s40_0_5 s40_1_5 s40_2_5 s40_3_5 b40_4_5 n40_5_5 b40_6_5 n40_7_5 b40_8_5 b40_9_5 n40_10_5), .int .i64 n2] w38_1 fun e42_8 w42_8 => ∃ v42_0_8 n42_1_8, e42_8 = .returned (.tuple #[v42_0_8, .int .i64 n42_1_8]) /\
 ∀ k10_7 w10_7, k10_7 = w42_8.heap.size -> w10_7 = w42_8.alloc (.cells qj qa) ->
 ∃ wx_10, Sv qa (some ⟨k10_7, 0, none⟩) v42_0_8 w10_7 wx_10 /\
 J_1 (some ⟨k10_7, 0, none⟩) n42_1_8 wx_10) /\
 ∀ k10_8 w10_8, k10_8 = w38_1.heap.size -> w10_8 = w38_1.alloc (.cells qj qa) ->
 Calls prog qh #[.pointer p38_1, v39_5, (hV s40_0_5 s40_1_5 s40_2_5 s40_3_5 b40_4_5 n40_5_5 b40_6_5 n40_7_5 b40_8_5 b40_9_5 n40_10_5), .int .i64 n2] w10_8 fun e42_9 w42_9 => ∃ v42_0_9 n42_1_9, e42_9 = .returned (.tuple #[v42_0_9, .int .i64 n42_1_9]) /\
 ∃ wx_11, Sv qa (some ⟨k10_8, 0, none⟩) v42_0_9 w42_9 wx_11 /\
 J_1 (some ⟨k10_8, 0, none⟩) n42_1_9 wx_11) /\
 ∀ k10_9 w10_9, k10_9 = w38_1.heap.size -> w10_9 = w38_1.alloc (.cells qj qa) ->
 ∃ s40_0_6 s40_1_6 s40_2_6 s40_3_6 b40_4_6 n40_5_6 b40_6_6 n40_7_6 b40_8_6 b40_9_6 n40_10_6, Ld qd (some ⟨k8, 0, none⟩) w10_9 (hV s40_0_6 s40_1_6 s40_2_6 s40_3_6 b40_4_6 n40_5_6 b40_6_6 n40_7_6 b40_8_6 b40_9_6 n40_10_6) /\
 Calls prog qh #[.pointer p38_1, v39_5, (hV s40_0_6 s40_1_6 s40_2_6 s40_3_6 b40_4_6 n40_5_6 b40_6_6 n40_7_6 b40_8_6 b40_9_6 n40_10_6), .int .i64 n2] w10_9 fun e42_10 w42_10 => ∃ v42_0_10 n42_1_10, e42_10 = .returned (.tuple #[v42_0_10, .int .i64 n42_1_10]) /\
 ∃ wx_12, Sv qa (some ⟨k10_9, 0, none⟩) v42_0_10 w42_10 wx_12 /\
 J_1 (some ⟨k10_9, 0, none⟩) n42_1_10 wx_12) /\
 (∃ s40_0_7 s40_1_7 s40_2_7 s40_3_7 b40_4_7 n40_5_7 b40_6_7 n40_7_7 b40_8_7 b40_9_7 n40_10_7, Ld qd (some ⟨k8, 0, none⟩) (World.drew wj) (hV s40_0_7 s40_1_7 s40_2_7 s40_3_7 b40_4_7 n40_5_7 b40_6_7 n40_7_7 b40_8_7 b40_9_7 n40_10_7) /\
 (Calls prog qp #[.slice a0 l0 c0] (World.drew wj) fun e38_2 w38_2 => ∃ p38_2, e38_2 = .returned (.pointer p38_2) /\
 (Calls prog qh #[.pointer p38_2, v39_5, (hV s40_0_7 s40_1_7 s40_2_7 s40_3_7 b40_4_7 n40_5_7 b40_6_7 n40_7_7 b40_8_7 b40_9_7 n40_10_7), .int .i64 n2] w38_2 fun e42_11 w42_11 => ∃ v42_0_11 n42_1_11, e42_11 = .returned (.tuple #[v42_0_11, .int .i64 n42_1_11]) /\
 ∀ k10_10 w10_10, k10_10 = w42_11.heap.size -> w10_10 = w42_11.alloc (.cells qj qa) ->
 ∃ wx_13, Sv qa (some ⟨k10_10, 0, none⟩) v42_0_11 w10_10 wx_13 /\
 J_1 (some ⟨k10_10, 0, none⟩) n42_1_11 wx_13) /\
 ∀ k10_11 w10_11, k10_11 = w38_2.heap.size -> w10_11 = w38_2.alloc (.cells qj qa) ->
 Calls prog qh #[.pointer p38_2, v39_5, (hV s40_0_7 s40_1_7 s40_2_7 s40_3_7 b40_4_7 n40_5_7 b40_6_7 n40_7_7 b40_8_7 b40_9_7 n40_10_7), .int .i64 n2] w10_11 fun e42_12 w42_12 => ∃ v42_0_12 n42_1_12, e42_12 = .returned (.tuple #[v42_0_12, .int .i64 n42_1_12]) /\
 ∃ wx_14, Sv qa (some ⟨k10_11, 0, none⟩) v42_0_12 w42_12 wx_14 /\
 J_1 (some ⟨k10_11, 0, none⟩) n42_1_12 wx_14) /\
 ∀ k10_12 w10_12, k10_12 = (World.drew wj).heap.size -> w10_12 = (World.drew wj).alloc (.cells qj qa) ->
 Calls prog qp #[.slice a0 l0 c0] w10_12 fun e38_3 w38_3 => ∃ p38_3, e38_3 = .returned (.pointer p38_3) /\
 Calls prog qh #[.pointer p38_3, v39_5, (hV s40_0_7 s40_1_7 s40_2_7 s40_3_7 b40_4_7 n40_5_7 b40_6_7 n40_7_7 b40_8_7 b40_9_7 n40_10_7), .int .i64 n2] w38_3 fun e42_13 w42_13 => ∃ v42_0_13 n42_1_13, e42_13 = .returned (.tuple #[v42_0_13, .int .i64 n42_1_13]) /\
 ∃ wx_15, Sv qa (some ⟨k10_12, 0, none⟩) v42_0_13 w42_13 wx_15 /\
 J_1 (some ⟨k10_12, 0, none⟩) n42_1_13 wx_15) /\
 ∀ k10_13 w10_13, k10_13 = (World.drew wj).heap.size -> w10_13 = (World.drew wj).alloc (.cells qj qa) ->
 (Calls prog qp #[.slice a0 l0 c0] w10_13 fun e38_4 w38_4 => ∃ p38_4, e38_4 = .returned (.pointer p38_4) /\
 ∃ s40_0_8 s40_1_8 s40_2_8 s40_3_8 b40_4_8 n40_5_8 b40_6_8 n40_7_8 b40_8_8 b40_9_8 n40_10_8, Ld qd (some ⟨k8, 0, none⟩) w38_4 (hV s40_0_8 s40_1_8 s40_2_8 s40_3_8 b40_4_8 n40_5_8 b40_6_8 n40_7_8 b40_8_8 b40_9_8 n40_10_8) /\
 Calls prog qh #[.pointer p38_4, v39_5, (hV s40_0_8 s40_1_8 s40_2_8 s40_3_8 b40_4_8 n40_5_8 b40_6_8 n40_7_8 b40_8_8 b40_9_8 n40_10_8), .int .i64 n2] w38_4 fun e42_14 w42_14 => ∃ v42_0_14 n42_1_14, e42_14 = .returned (.tuple #[v42_0_14, .int .i64 n42_1_14]) /\
 ∃ wx_16, Sv qa (some ⟨k10_13, 0, none⟩) v42_0_14 w42_14 wx_16 /\
 J_1 (some ⟨k10_13, 0, none⟩) n42_1_14 wx_16) /\
 ∃ s40_0_9 s40_1_9 s40_2_9 s40_3_9 b40_4_9 n40_5_9 b40_6_9 n40_7_9 b40_8_9 b40_9_9 n40_10_9, Ld qd (some ⟨k8, 0, none⟩) w10_13 (hV s40_0_9 s40_1_9 s40_2_9 s40_3_9 b40_4_9 n40_5_9 b40_6_9 n40_7_9 b40_8_9 b40_9_9 n40_10_9) /\
 Calls prog qp #[.slice a0 l0 c0] w10_13 fun e38_5 w38_5 => ∃ p38_5, e38_5 = .returned (.pointer p38_5) /\
 Calls prog qh #[.pointer p38_5, v39_5, (hV s40_0_9 s40_1_9 s40_2_9 s40_3_9 b40_4_9 n40_5_9 b40_6_9 n40_7_9 b40_8_9 b40_9_9 n40_10_9), .int .i64 n2] w38_5 fun e42_15 w42_15 => ∃ v42_0_15 n42_1_15, e42_15 = .returned (.tuple #[v42_0_15, .int .i64 n42_1_15]) /\
 ∃ wx_17, Sv qa (some ⟨k10_13, 0, none⟩) v42_0_15 w42_15 wx_17 /\
 J_1 (some ⟨k10_13, 0, none⟩) n42_1_15 wx_17) /\
 (∃ s40_0_10 s40_1_10 s40_2_10 s40_3_10 b40_4_10 n40_5_10 b40_6_10 n40_7_10 b40_8_10 b40_9_10 n40_10_10, Ld qd (some ⟨k8, 0, none⟩) (World.drew wj) (hV s40_0_10 s40_1_10 s40_2_10 s40_3_10 b40_4_10 n40_5_10 b40_6_10 n40_7_10 b40_8_10 b40_9_10 n40_10_10) /\
 (Calls prog qp #[.slice a0 l0 c0] (World.drew wj) fun e38_6 w38_6 => ∃ p38_6, e38_6 = .returned (.pointer p38_6) /\
 (∃ v39_6, Ld qg (some ⟨k7, 0, none⟩) w38_6 v39_6 /\
 (Calls prog qh #[.pointer p38_6, v39_6, (hV s40_0_10 s40_1_10 s40_2_10 s40_3_10 b40_4_10 n40_5_10 b40_6_10 n40_7_10 b40_8_10 b40_9_10 n40_10_10), .int .i64 n2] w38_6 fun e42_16 w42_16 => ∃ v42_0_16 n42_1_16, e42_16 = .returned (.tuple #[v42_0_16, .int .i64 n42_1_16]) /\
 ∀ k10_14 w10_14, k10_14 = w42_16.heap.size -> w10_14 = w42_16.alloc (.cells qj qa) ->
 ∃ wx_18, Sv qa (some ⟨k10_14, 0, none⟩) v42_0_16 w10_14 wx_18 /\
 J_1 (some ⟨k10_14, 0, none⟩) n42_1_16 wx_18) /\
 ∀ k10_15 w10_15, k10_15 = w38_6.heap.size -> w10_15 = w38_6.alloc (.cells qj qa) ->
 Calls prog qh #[.pointer p38_6, v39_6, (hV s40_0_10 s40_1_10 s40_2_10 s40_3_10 b40_4_10 n40_5_10 b40_6_10 n40_7_10 b40_8_10 b40_9_10 n40_10_10), .int .i64 n2] w10_15 fun e42_17 w42_17 => ∃ v42_0_17 n42_1_17, e42_17 = .returned (.tuple #[v42_0_17, .int .i64 n42_1_17]) /\
 ∃ wx_19, Sv qa (some ⟨k10_15, 0, none⟩) v42_0_17 w42_17 wx_19 /\
 J_1 (some ⟨k10_15, 0, none⟩) n42_1_17 wx_19) /\
 ∀ k10_16 w10_16, k10_16 = w38_6.heap.size -> w10_16 = w38_6.alloc (.cells qj qa) ->
 ∃ v39_7, Ld qg (some ⟨k7, 0, none⟩) w10_16 v39_7 /\
 Calls prog qh #[.pointer p38_6, v39_7, (hV s40_0_10 s40_1_10 s40_2_10 s40_3_10 b40_4_10 n40_5_10 b40_6_10 n40_7_10 b40_8_10 b40_9_10 n40_10_10), .int .i64 n2] w10_16 fun e42_18 w42_18 => ∃ v42_0_18 n42_1_18, e42_18 = .returned (.tuple #[v42_0_18, .int .i64 n42_1_18]) /\
 ∃ wx_20, Sv qa (some ⟨k10_16, 0, none⟩) v42_0_18 w42_18 wx_20 /\
 J_1 (some ⟨k10_16, 0, none⟩) n42_1_18 wx_20) /\
 (∃ v39_8, Ld qg (some ⟨k7, 0, none⟩) (World.drew wj) v39_8 /\
 (Calls prog qp #[.slice a0 l0 c0] (World.drew wj) fun e38_7 w38_7 => ∃ p38_7, e38_7 = .returned (.pointer p38_7) /\
 (Calls prog qh #[.pointer p38_7, v39_8, (hV s40_0_10 s40_1_10 s40_2_10 s40_3_10 b40_4_10 n40_5_10 b40_6_10 n40_7_10 b40_8_10 b40_9_10 n40_10_10), .int .i64 n2] w38_7 fun e42_19 w42_19 => ∃ v42_0_19 n42_1_19, e42_19 = .returned (.tuple #[v42_0_19, .int .i64 n42_1_19]) /\
 ∀ k10_17 w10_17, k10_17 = w42_19.heap.size -> w10_17 = w42_19.alloc (.cells qj qa) ->
 ∃ wx_21, Sv qa (some ⟨k10_17, 0, none⟩) v42_0_19 w10_17 wx_21 /\
 J_1 (some ⟨k10_17, 0, none⟩) n42_1_19 wx_21) /\
 ∀ k10_18 w10_18, k10_18 = w38_7.heap.size -> w10_18 = w38_7.alloc (.cells qj qa) ->
 Calls prog qh #[.pointer p38_7, v39_8, (hV s40_0_10 s40_1_10 s40_2_10 s40_3_10 b40_4_10 n40_5_10 b40_6_10 n40_7_10 b40_8_10 b40_9_10 n40_10_10), .int .i64 n2] w10_18 fun e42_20 w42_20 => ∃ v42_0_20 n42_1_20, e42_20 = .returned (.tuple #[v42_0_20, .int .i64 n42_1_20]) /\
 ∃ wx_22, Sv qa (some ⟨k10_18, 0, none⟩) v42_0_20 w42_20 wx_22 /\
 J_1 (some ⟨k10_18, 0, none⟩) n42_1_20 wx_22) /\
 ∀ k10_19 w10_19, k10_19 = (World.drew wj).heap.size -> w10_19 = (World.drew wj).alloc (.cells qj qa) ->
 Calls prog qp #[.slice a0 l0 c0] w10_19 fun e38_8 w38_8 => ∃ p38_8, e38_8 = .returned (.pointer p38_8) /\
 Calls prog qh #[.pointer p38_8, v39_8, (hV s40_0_10 s40_1_10 s40_2_10 s40_3_10 b40_4_10 n40_5_10 b40_6_10 n40_7_10 b40_8_10 b40_9_10 n40_10_10), .int .i64 n2] w38_8 fun e42_21 w42_21 => ∃ v42_0_21 n42_1_21, e42_21 = .returned (.tuple #[v42_0_21, .int .i64 n42_1_21]) /\
 ∃ wx_23, Sv qa (some ⟨k10_19, 0, none⟩) v42_0_21 w42_21 wx_23 /\
 J_1 (some ⟨k10_19, 0, none⟩) n42_1_21 wx_23) /\
 ∀ k10_20 w10_20, k10_20 = (World.drew wj).heap.size -> w10_20 = (World.drew wj).alloc (.cells qj qa) ->
 (Calls prog qp #[.slice a0 l0 c0] w10_20 fun e38_9 w38_9 => ∃ p38_9, e38_9 = .returned (.pointer p38_9) /\
 ∃ v39_9, Ld qg (some ⟨k7, 0, none⟩) w38_9 v39_9 /\
 Calls prog qh #[.pointer p38_9, v39_9, (hV s40_0_10 s40_1_10 s40_2_10 s40_3_10 b40_4_10 n40_5_10 b40_6_10 n40_7_10 b40_8_10 b40_9_10 n40_10_10), .int .i64 n2] w38_9 fun e42_22 w42_22 => ∃ v42_0_22 n42_1_22, e42_22 = .returned (.tuple #[v42_0_22, .int .i64 n42_1_22]) /\
 ∃ wx_24, Sv qa (some ⟨k10_20, 0, none⟩) v42_0_22 w42_22 wx_24 /\
 J_1 (some ⟨k10_20, 0, none⟩) n42_1_22 wx_24) /\
 ∃ v39_10, Ld qg (some ⟨k7, 0, none⟩) w10_20 v39_10 /\
 Calls prog qp #[.slice a0 l0 c0] w10_20 fun e38_10 w38_10 => ∃ p38_10, e38_10 = .returned (.pointer p38_10) /\
 Calls prog qh #[.pointer p38_10, v39_10, (hV s40_0_10 s40_1_10 s40_2_10 s40_3_10 b40_4_10 n40_5_10 b40_6_10 n40_7_10 b40_8_10 b40_9_10 n40_10_10), .int .i64 n2] w38_10 fun e42_23 w42_23 => ∃ v42_0_23 n42_1_23, e42_23 = .returned (.tuple #[v42_0_23, .int .i64 n42_1_23]) /\
 ∃ wx_25, Sv qa (some ⟨k10_20, 0, none⟩) v42_0_23 w42_23 wx_25 /\
 J_1 (some ⟨k10_20, 0, none⟩) n42_1_23 wx_25) /\
 ∀ k10_21 w10_21, k10_21 = (World.drew wj).heap.size -> w10_21 = (World.drew wj).alloc (.cells qj qa) ->
 (Calls prog qp #[.slice a0 l0 c0] w10_21 fun e38_11 w38_11 => ∃ p38_11, e38_11 = .returned (.pointer p38_11) /\
 (∃ v39_11, Ld qg (some ⟨k7, 0, none⟩) w38_11 v39_11 /\
 ∃ s40_0_11 s40_1_11 s40_2_11 s40_3_11 b40_4_11 n40_5_11 b40_6_11 n40_7_11 b40_8_11 b40_9_11 n40_10_11, Ld qd (some ⟨k8, 0, none⟩) w38_11 (hV s40_0_11 s40_1_11 s40_2_11 s40_3_11 b40_4_11 n40_5_11 b40_6_11 n40_7_11 b40_8_11 b40_9_11 n40_10_11) /\
 Calls prog qh #[.pointer p38_11, v39_11, (hV s40_0_11 s40_1_11 s40_2_11 s40_3_11 b40_4_11 n40_5_11 b40_6_11 n40_7_11 b40_8_11 b40_9_11 n40_10_11), .int .i64 n2] w38_11 fun e42_24 w42_24 => ∃ v42_0_24 n42_1_24, e42_24 = .returned (.tuple #[v42_0_24, .int .i64 n42_1_24]) /\
 ∃ wx_26, Sv qa (some ⟨k10_21, 0, none⟩) v42_0_24 w42_24 wx_26 /\
 J_1 (some ⟨k10_21, 0, none⟩) n42_1_24 wx_26) /\
 ∃ s40_0_12 s40_1_12 s40_2_12 s40_3_12 b40_4_12 n40_5_12 b40_6_12 n40_7_12 b40_8_12 b40_9_12 n40_10_12, Ld qd (some ⟨k8, 0, none⟩) w38_11 (hV s40_0_12 s40_1_12 s40_2_12 s40_3_12 b40_4_12 n40_5_12 b40_6_12 n40_7_12 b40_8_12 b40_9_12 n40_10_12) /\
 ∃ v39_12, Ld qg (some ⟨k7, 0, none⟩) w38_11 v39_12 /\
 Calls prog qh #[.pointer p38_11, v39_12, (hV s40_0_12 s40_1_12 s40_2_12 s40_3_12 b40_4_12 n40_5_12 b40_6_12 n40_7_12 b40_8_12 b40_9_12 n40_10_12), .int .i64 n2] w38_11 fun e42_25 w42_25 => ∃ v42_0_25 n42_1_25, e42_25 = .returned (.tuple #[v42_0_25, .int .i64 n42_1_25]) /\
 ∃ wx_27, Sv qa (some ⟨k10_21, 0, none⟩) v42_0_25 w42_25 wx_27 /\
 J_1 (some ⟨k10_21, 0, none⟩) n42_1_25 wx_27) /\
 (∃ v39_13, Ld qg (some ⟨k7, 0, none⟩) w10_21 v39_13 /\
 (Calls prog qp #[.slice a0 l0 c0] w10_21 fun e38_12 w38_12 => ∃ p38_12, e38_12 = .returned (.pointer p38_12) /\
 ∃ s40_0_13 s40_1_13 s40_2_13 s40_3_13 b40_4_13 n40_5_13 b40_6_13 n40_7_13 b40_8_13 b40_9_13 n40_10_13, Ld qd (some ⟨k8, 0, none⟩) w38_12 (hV s40_0_13 s40_1_13 s40_2_13 s40_3_13 b40_4_13 n40_5_13 b40_6_13 n40_7_13 b40_8_13 b40_9_13 n40_10_13) /\
 Calls prog qh #[.pointer p38_12, v39_13, (hV s40_0_13 s40_1_13 s40_2_13 s40_3_13 b40_4_13 n40_5_13 b40_6_13 n40_7_13 b40_8_13 b40_9_13 n40_10_13), .int .i64 n2] w38_12 fun e42_26 w42_26 => ∃ v42_0_26 n42_1_26, e42_26 = .returned (.tuple #[v42_0_26, .int .i64 n42_1_26]) /\
 ∃ wx_28, Sv qa (some ⟨k10_21, 0, none⟩) v42_0_26 w42_26 wx_28 /\
 J_1 (some ⟨k10_21, 0, none⟩) n42_1_26 wx_28) /\
 ∃ s40_0_14 s40_1_14 s40_2_14 s40_3_14 b40_4_14 n40_5_14 b40_6_14 n40_7_14 b40_8_14 b40_9_14 n40_10_14, Ld qd (some ⟨k8, 0, none⟩) w10_21 (hV s40_0_14 s40_1_14 s40_2_14 s40_3_14 b40_4_14 n40_5_14 b40_6_14 n40_7_14 b40_8_14 b40_9_14 n40_10_14) /\
 Calls prog qp #[.slice a0 l0 c0] w10_21 fun e38_13 w38_13 => ∃ p38_13, e38_13 = .returned (.pointer p38_13) /\
 Calls prog qh #[.pointer p38_13, v39_13, (hV s40_0_14 s40_1_14 s40_2_14 s40_3_14 b40_4_14 n40_5_14 b40_6_14 n40_7_14 b40_8_14 b40_9_14 n40_10_14), .int .i64 n2] w38_13 fun e42_27 w42_27 => ∃ v42_0_27 n42_1_27, e42_27 = .returned (.tuple #[v42_0_27, .int .i64 n42_1_27]) /\
 ∃ wx_29, Sv qa (some ⟨k10_21, 0, none⟩) v42_0_27 w42_27 wx_29 /\
 J_1 (some ⟨k10_21, 0, none⟩) n42_1_27 wx_29) /\
 ∃ s40_0_15 s40_1_15 s40_2_15 s40_3_15 b40_4_15 n40_5_15 b40_6_15 n40_7_15 b40_8_15 b40_9_15 n40_10_15, Ld qd (some ⟨k8, 0, none⟩) w10_21 (hV s40_0_15 s40_1_15 s40_2_15 s40_3_15 b40_4_15 n40_5_15 b40_6_15 n40_7_15 b40_8_15 b40_9_15 n40_10_15) /\
 (Calls prog qp #[.slice a0 l0 c0] w10_21 fun e38_14 w38_14 => ∃ p38_14, e38_14 = .returned (.pointer p38_14) /\
 ∃ v39_14, Ld qg (some ⟨k7, 0, none⟩) w38_14 v39_14 /\
 Calls prog qh #[.pointer p38_14, v39_14, (hV s40_0_15 s40_1_15 s40_2_15 s40_3_15 b40_4_15 n40_5_15 b40_6_15 n40_7_15 b40_8_15 b40_9_15 n40_10_15), .int .i64 n2] w38_14 fun e42_28 w42_28 => ∃ v42_0_28 n42_1_28, e42_28 = .returned (.tuple #[v42_0_28, .int .i64 n42_1_28]) /\
 ∃ wx_30, Sv qa (some ⟨k10_21, 0, none⟩) v42_0_28 w42_28 wx_30 /\
 J_1 (some ⟨k10_21, 0, none⟩) n42_1_28 wx_30) /\
 ∃ v39_15, Ld qg (some ⟨k7, 0, none⟩) w10_21 v39_15 /\
 Calls prog qp #[.slice a0 l0 c0] w10_21 fun e38_15 w38_15 => ∃ p38_15, e38_15 = .returned (.pointer p38_15) /\
 Calls prog qh #[.pointer p38_15, v39_15, (hV s40_0_15 s40_1_15 s40_2_15 s40_3_15 b40_4_15 n40_5_15 b40_6_15 n40_7_15 b40_8_15 b40_9_15 n40_10_15), .int .i64 n2] w38_15 fun e42_29 w42_29 => ∃ v42_0_29 n42_1_29, e42_29 = .returned (.tuple #[v42_0_29, .int .i64 n42_1_29]) /\
 ∃ wx_31, Sv qa (some ⟨k10_21, 0, none⟩) v42_0_29 w42_29 wx_31 /\
 J_1 (some ⟨k10_21, 0, none⟩) n42_1_29 wx_31) /\
 ∀ p10 n11, AllJ 9 (∀ wj_1, J_1 p10 n11 wj_1 ->
 BCase (n11 != (0 : Int))
 (K (.bool true) wj_1)
 ((true = true) /\
 ∃ v48, Ld qc (some ⟨k7, 1, none⟩) wj_1 v48 /\
 (Option.isSome p10 = true) /\
 ∃ s50, Ld qe (Option.map (fun x => x.add 21) p10) wj_1 (.string (mkS s50)) /\
 ∃ v51, (Instr.build qaa #[(0, .bool true), (1, v48), (2, .string (mkS s50))]).run prog wj_1 = .ok v51 wj_1 /\
 ∀ k12 w12, k12 = wj_1.heap.size -> w12 = wj_1.alloc (.cells qoa qaa) ->
 ∃ wx_32, Sv qaa (some ⟨k12, 0, none⟩) v51 w12 wx_32 /\
 ∃ J_2 : FP [],
 ((Option.isSome p10 = true) /\
 ∃ n53, Ld qZ (Option.map (fun x => x.add 25) p10) wx_32 (.int .i64 n53) /\
 BCase (n53 != (9223372036854775807 : Int))
 ((Option.isSome p10 = true) /\
 ∃ n57, Ld qZ (Option.map (fun x => x.add 25) p10) wx_32 (.int .i64 n57) /\
 BCase (decide (n57 > (i64.wrap (n2 + (34560000 : Int)))))
 (K (.bool false) wx_32)
 ((Option.isSome p10 = true) /\
 ∃ s64, Ld qe (Option.map (fun x => x.add 21) p10) wx_32 (.string (mkS s64)) /\
 BCase (s64 == [])
 (K (.bool false) wx_32)
 ((Option.isSome p10 = true) /\
 ∃ s69, Ld qe (Option.map (fun x => x.add 21) p10) wx_32 (.string (mkS s69)) /\
 ((0 <= (0 : Int) /\ (0 : Int) < ((List.length s69 : Nat) : Int))) /\
 BCase ((qA s69 (0 : Int)) != (47 : Int))
 (K (.bool false) wx_32)
 (J_2 wx_32))))
 ((Option.isSome p10 = true) /\
 ∃ s64_1, Ld qe (Option.map (fun x => x.add 21) p10) wx_32 (.string (mkS s64_1)) /\
 BCase (s64_1 == [])
 (K (.bool false) wx_32)
 ((Option.isSome p10 = true) /\
 ∃ s69_1, Ld qe (Option.map (fun x => x.add 21) p10) wx_32 (.string (mkS s69_1)) /\
 ((0 <= (0 : Int) /\ (0 : Int) < ((List.length s69_1 : Nat) : Int))) /\
 BCase ((qA s69_1 (0 : Int)) != (47 : Int))
 (K (.bool false) wx_32)
 (J_2 wx_32)))) /\
 AllJ 22 (∀ wj_2, J_2 wj_2 ->
 ∃ v73, (∀ u73, Below wj_2.heap.size wj_2 u73 -> Ld qa p10 u73 v73) /\
 ∃ v74, (∀ u74, Below wj_2.heap.size wj_2 u74 -> Ld qaa (some ⟨k12, 0, none⟩) u74 v74) /\
 ∃ b76, (∀ u76, Below wj_2.heap.size wj_2 u76 -> Calls prog qfn #[v73, v74, .int .i64 n2] u76 fun e76 w76 => e76 = .returned (.bool b76) /\ Below wj_2.heap.size u76 w76) /\
 (Option.isSome p10 = true) /\
 ∃ n79, (∀ u79, Below wj_2.heap.size wj_2 u79 -> Ld qZ (Option.map (fun x => x.add 25) p10) u79 (.int .i64 n79)) /\
 BCase (b76 == (decide (n2 < n79)))
 ((true = true) /\
 ∃ b84, (∀ u84, Below wj_2.heap.size wj_2 u84 -> Ld qy (some ⟨k8, 6, none⟩) u84 (.bool b84)) /\
 BCase (!b84)
 (∀ wq, Below wj_2.heap.size wj_2 wq ->
 K (.bool true) wq)
 ((Option.isSome p10 = true) /\
 ∃ n88, (∀ u88, Below wj_2.heap.size wj_2 u88 -> Ld qZ (Option.map (fun x => x.add 25) p10) u88 (.int .i64 n88)) /\
 (true = true) /\
 ∃ n91, (∀ u91, Below wj_2.heap.size wj_2 u91 -> Ld qZ (some ⟨k8, 7, none⟩) u91 (.int .i64 n91)) /\
 ∀ wq_1, Below wj_2.heap.size wj_2 wq_1 ->
 K (.bool (n88 == (i64.wrap (n2 + n91)))) wq_1))
 (∀ wq_2, Below wj_2.heap.size wj_2 wq_2 ->
 K (.bool false) wq_2))))))
theorem qip (a0 : Option Addr) (l0 c0 : Nat) (s1_0 : List UInt8) (s1_1 : List UInt8) (n2 : Int) {w : World} {K : Value -> World -> Prop} (h : qer a0 l0 c0 s1_0 s1_1 n2 w K) : Calls prog qfe #[.slice a0 l0 c0, .agg #[.string (mkS s1_0), .string (mkS s1_1)], .int .i64 n2] w (Ret K) :=
 qo (c := qr Tryz.f10) (by kernel_rfl) Tryz.func10 (by kernel_rfl) [(12, []), (20, [(10, .one (.ptr)), (11, .one (.int .i64))]), (32, [])] [.slice a0 l0 c0, .agg #[.string (mkS s1_0), .string (mkS s1_1)], .int .i64 n2] (of_decide_eq_true (by kernel_rfl)) _ (by kernel_rfl) h
end Go.Proofs.YtndbpedpdbjkpaaGreatDoor
set_option maxRecDepth 20000
namespace Go.Pk
open Go.RowKit (Below)
structure GoeP (u : Url) (h : Hdr) (now : Int) (C : Cky) : Prop where
 f1 : C.exp ≠ 9223372036854775807 -> C.exp <= i64.wrap (now + 34560000)
 f2 : C.path.head? = some 47
 f3 : qm5 C ⟨true, u.host, C.path, 0⟩ now = decide (now < C.exp)
 f4 : h.hasA = true -> C.exp = i64.wrap (now + h.age)
theorem goeP {rs : List Rul} {u : Url} {h : Hdr} {now : Int} (gd : Good h) (e : (takV rs u h now).2 = 0) : GoeP u h now (takV rs u h now).1 := by
 rcases qeg rs u h now with ⟨h1, _⟩ | ⟨_, g, er, hc⟩
 · exact absurd e h1
 obtain ⟨_, _, n0, n1⟩ := qiC g
 obtain ⟨x1, x2⟩ := qrZ (h := h) n0 n1 ⟨gd.ag.1, gd.ag.2.1⟩
 have w2 : i64.wrap (now + 34560000) = now + 34560000 := wrap_i64 (by omega) (by omega)
 have w3 : i64.wrap (now + h.age) = now + h.age := wrap_i64 (by have := gd.ag.1; omega) (by have := gd.ag.2.1; omega)
 rw [hc]
 refine ⟨fun hne => ?_, qs7 gd.ph, goe_send (p := []) g er, fun hA => ?_⟩
 · rw [w2]; exact x1 hne
 · rw [w3]; exact x2 hA
theorem qrs {s : List UInt8} (h : s.head? = some 47) : s ≠ [] /\ 0 < s.length /\ qA s (0 : Int) = 47 := by
 cases s with
 | nil => cases h
 | cons c r =>
   obtain rfl : c = 47 := Option.some.inj h
   exact ⟨by simp, by simp, rfl⟩
end Go.Pk
namespace Go.Proofs.YtndbpedpdbjkpaaGreatDoor
open Go.Pk
open Go.RowKit (Below)
theorem qsm {g : Hst} (o : g.ok) (p : List UInt8) (w : World) : (Instr.build qaa #[(0, .bool true), (1, g.v), (2, .string (mkS p))]).run prog w = .ok (Req.v ⟨true, g, p, 0⟩) w := by
 obtain ⟨k, n, a⟩ := g
 obtain ⟨x0, x1, x2, x3, x4, x5, x6, x7, x8, x9, x10, x11, x12, x13, x14, x15, rfl⟩ := qi4 a o
 kernel_rfl
set_option maxHeartbeats 4000000 in
theorem qiw {a0 : Option Addr} {l0 c0 : Nat} {rs : List Rul} {w : World} (hs : Sl tRul w AllB a0 l0 c0 rs) (hl : rs.length <= 9223372036854775807) (s t : List UInt8) (hsl : s.length <= 9000000) (htl : t.length <= 9000000) (now : Int) (he : Env w) :
   Calls prog qfe #[.slice a0 l0 c0, .agg #[.string (mkS s), .string (mkS t)], .int .i64 now] w (Ret (Says w)) := by
 apply qip
 unfold qer
 intro k4 w4 hk4 hw4
 have hB4 := (hw4 ▸ qf w _ : Below w.heap.size w w4)
 have h4 : qm w4 k4 qaI [.string (mkS s), .string (mkS t)] := qm.new hk4 hw4
 refine callK (qb0 w4 (he.step hB4)) ?_
 rintro _ w5 ⟨rfl, hb5⟩
 have hB5 := qb hB4 hb5 hB4.size
 have h5 := h4.below hb5
 refine ⟨_, rfl, BCase.no rfl ?_⟩
 have e0 : qn (some (⟨k4, 0, none⟩ : Addr)) (0 : Int) 1 = some ⟨k4, 0, none⟩ := z8 k4 0 0
 have e1 : qn (some (⟨k4, 0, none⟩ : Addr)) (1 : Int) 1 = some ⟨k4, 1, none⟩ := z8 k4 0 1
 rw [e0, e1]
 refine ⟨⟨by decide, rfl⟩, _, h5.load1 un_string rfl rfl, ⟨by decide, rfl⟩, _, h5.load1 un_string rfl rfl, ?_⟩
 refine callK (qaC s t (by omega) (by omega) w5) ?_
 rintro _ w8 ⟨rfl, hb8⟩
 have hB8 := qb hB5 hb8 hB5.size
 have h8 := h5.below hb8
 refine ⟨_, _, _, _, _, _, _, _, _, _, _, _, _, rfl, ?_⟩
 have ou := urlV_ok s
 obtain ⟨un, up⟩ := qc6 s
 have ho := qdk t
 have hgd : okB2 s t = true -> Go.Pk.Good (qM t).1 := fun e => (okB2_good e).2
 generalize (urlV s).1 = u at *
 generalize (qM t).1 = h at *
 intro k9 w9 hk9 hw9
 have hb9 := (hw9 ▸ qf w8 _ : Below w8.heap.size w8 w9)
 have h9 : qm w9 k9 qg url0.cells := qm.new hk9 hw9
 intro k10 w10 hk10 hw10
 have hb10 := (hw10 ▸ qf w9 _ : Below w9.heap.size w9 w10)
 have h10 : qm w10 k10 qd hdr0.cells := qm.new hk10 hw10
 have lt9 := h9.lt
 have hb810 := qb hb9 hb10 hb9.size
 have sz9 := hb9.size
 obtain ⟨w11, hs11, h911, hg11⟩ := qas.store0 (P := prog) (cs := u.cells) (Url.len ou) (Url.one u) (h9.below hb10) rfl
 have hb811 : Below w8.heap.size w8 w11 := Below.put hb810 hg11 (by omega)
 refine ⟨w11, hs11, ?_⟩
 obtain ⟨w12, hs12, h1012, hg12⟩ := qbR h (h10.grown hg11 (qP (by omega))) rfl
 have hb812 : Below w8.heap.size w8 w12 := Below.put hb811 hg12 (by omega)
 have h912 := h911.grown hg12 (qP (by omega))
 refine ⟨w12, hs12, ?_⟩
 have hB12 := qb hB8 hb812 hB8.size
 have h412 := h8.below hb812
 refine ⟨fun w' => (fewB rs [s, t] = true /\ okB2 s t = true) /\ Below w12.heap.size w12 w', ?_, ?_⟩
 · refine ⟨⟨by decide, rfl⟩, _, h412.load1 un_string rfl rfl, ⟨by decide, rfl⟩, _, h412.load1 un_string rfl rfl, ?_⟩
   intro k6 w6 hk6 hw6
   have hb6 := (hw6 ▸ qf w12 _ : Below w12.heap.size w12 w6)
   have hB6 := qb hB12 hb6 hB12.size
   have ht6 := qdQ (ts := [s, t]) hk6 hw6 (show 2 <= maxLen by decide)
   refine callK (qaD (hs.below hB6) ht6 hl (show 2 <= 9223372036854775807 by decide)) ?_
   rintro _ w7 ⟨rfl, hb7⟩
   have hb127 := qb hb6 hb7 hb6.size
   have hB7 := qb hB12 hb127 hB12.size
   refine ⟨_, rfl, BCase.of (fun c => ⟨rfl, hB7⟩) (fun c => BCase.of (fun c2 => ⟨rfl, hB7⟩) (fun c2 => ⟨⟨by simpa using c, by simpa using c2⟩, hb127⟩))⟩
 refine AllJ.of ?_ _
 rintro wj ⟨⟨c, c2⟩, hbj⟩
 have hBj := qb hB12 hbj hB12.size
 obtain ⟨f1, f2, f3⟩ := qcR c
 have C : AdC wj a0 l0 c0 rs k9 k10 u h := ⟨he.step hBj, hs.below hBj, by omega, fun r hr => by have := f1 r hr; omega, h912.below hbj, h1012.below hbj, ou, by omega, by omega, ho⟩
 have S : StA wj qq qt qa (rs.filter rulR) none none (World.drew wj) := ⟨zV wj, (fun p e => by cases e), (fun x e => by cases e)⟩
 have oc := qfK (rs := rs.filter rulR) ou h now
 have cn := qlb (rs := rs.filter rulR) (h := h) now (show u.host.name.length <= 80000000 by omega)
 have sp : (takV (rs.filter rulR) u h now).2 = 0 -> GoeP u h now (takV (rs.filter rulR) u h now).1 := goeP (hgd c2)
 have sl : (takV (rs.filter rulR) u h now).1.path.length <= 1000000000 := qse now (by omega) ho
 refine ⟨fun p n w' => ∃ x, p = some ⟨x, 0, none⟩ /\ n = (takV (rs.filter rulR) u h now).2 /\ qm w' x qa (takV (rs.filter rulR) u h now).1.cells /\ Below wj.heap.size wj w', ?_, ?_⟩
 · clear hs11 hs12 hg11 hg12 h911 h912 h1012 h9 h10 hw9 hw10 hb9 hb10 hb810 hb811 hb812 hs he hB4 hB5 hB8 hB12 hb5 hb8 h4 h5 h8 hw4 hbj hBj h412 sp sl cn
   repeat' (first
     | exact ⟨_, rfl, rfl, by assumption, by assumption⟩
     | refine And.intro ?_ ?_
     | (refine ad_al (by assumption) ?_; intro x wx hS)
     | (refine ad_st (by assumption) oc ?_; intro wx hb hc)
     | (refine ad_new C (by assumption) ?_; intro p wp hS)
     | (refine ad_take C (by assumption) ?_; intro wt hS)
     | refine Exists.intro _ (And.intro (ad_u C (by assumption)) ?_)
     | refine ⟨_, _, _, _, _, _, _, _, _, _, _, ad_h C (by assumption), ?_⟩)
 intro p n
 refine AllJ.of ?_ _
 rintro w13 ⟨x, rfl, rfl, hx, hb13⟩
 have hB13 := qb hBj hb13 hBj.size
 have hH := C.hH.below hb13
 have T : SafC w wj a0 l0 c0 rs k9 x u (takV (rs.filter rulR) u h now).1 w13 := ⟨hs.below hB13, by omega, fun r hr => by have := f1 r hr; omega, (C.hU.below hb13), hx, ou, oc, cn⟩
 clear S hs11 hs12 hg11 hg12 h911 h912 h1012 h9 h10 hw9 hw10 hb9 hb10 hb810 hb811 hb812 hs he hB4 hB5 hB8 hB12 hb5 hb8 h4 h5 h8 hw4 hbj h412 C hBj
 refine BCase.of (fun c3 => ⟨rfl, hB13⟩) (fun c3 => ?_)
 have c3 : (takV (rs.filter rulR) u h now).2 = 0 := by simpa using c3
 have P := sp c3
 clear sp
 generalize (takV (rs.filter rulR) u h now).1 = D at *
 obtain ⟨p1, p2, p3, p4⟩ := P
 obtain ⟨z1, z2, z3⟩ := qrs p2
 have b0 := Below.refl w13.heap.size w13
 refine ⟨rfl, _, qlf ou T.hU, rfl, _, qij oc T.hC, _, qsm ou D.path w13, ?_⟩
 have orq : Req.ok ⟨true, u.host, D.path, 0⟩ := ou
 refine qnd.new (zs := (⟨false, hst0, [], 0⟩ : Req).cells) (cs := (⟨true, u.host, D.path, 0⟩ : Req).cells) rfl (Req.len orq) (Req.one _) w13 fun k15 w15 hk15 h15 hb15 => ?_
 have hB15 := qb hB13 hb15 hB13.size
 have hC := T.hC.below hb15
 refine ⟨fun w' => w' = w15, ?_, ?_⟩
 · have s1 : (D.path == ([] : List UInt8)) = false := beq_eq_false_iff_ne.2 z1
   have s2 : (qA D.path (0 : Int) != (47 : Int)) = false := by rw [z3]; rfl
   have rest : (Option.isSome (some (⟨x, 0, none⟩ : Addr)) = true) /\ ∃ (s64 : List UInt8), (Instr.loadAt qe (.pointer (Option.map (fun x : Addr => x.add 21) (some (⟨x, 0, none⟩ : Addr))))).run prog w15 = .ok (.string (mkS s64)) w15 /\
     BCase (s64 == []) (Says w (.bool false) w15) ((Option.isSome (some (⟨x, 0, none⟩ : Addr)) = true) /\ ∃ (s69 : List UInt8), (Instr.loadAt qe (.pointer (Option.map (fun x : Addr => x.add 21) (some (⟨x, 0, none⟩ : Addr))))).run prog w15 = .ok (.string (mkS s69)) w15 /\
       ((0 <= (0 : Int) /\ (0 : Int) < ((List.length s69 : Nat) : Int))) /\ BCase ((qA s69 (0 : Int)) != (47 : Int)) (Says w (.bool false) w15) (w15 = w15)) :=
     ⟨rfl, _, qij oc hC, BCase.no s1 ⟨rfl, _, qij oc hC, ⟨by decide, by omega⟩, BCase.no s2 rfl⟩⟩
   refine ⟨rfl, _, qng oc hC, BCase.of (fun q => ?_) (fun q => rest)⟩
   have q : D.exp ≠ 9223372036854775807 := by simpa using q
   have := p1 q
   exact ⟨rfl, _, qng oc hC, BCase.no (decide_eq_false (by omega)) rest⟩
 · refine AllJ.of ?_ _
   rintro w16 hw16
   rw [hw16]; clear hw16
   refine ⟨_, fun u1 hu => qS.load0 (hC.below hu) (Cky.len oc), _, fun u1 hu => qnd.load0 (h15.below hu) (Req.len orq), _, fun u1 hu => zj (qmS oc orq cn (show u.host.name.length <= 80000000 by omega) (by omega) (by show D.path.length <= _; omega) now u1) hu, rfl, _, fun u1 hu => qng oc (hC.below hu), ?_⟩
   refine BCase.yes (by rw [p3]; simp) ⟨rfl, h.hasA, fun u1 hu => ((hH.below hb15).below hu).load1 un_bool rfl (i := 6) rfl, BCase.of (fun q => ?_) (fun q => ?_)⟩
   · intro wq hq
     exact ⟨rfl, qb hB15 hq hB15.size⟩
   · have q : h.hasA = true := by simpa using q
     refine ⟨rfl, _, fun u1 hu => qng oc (hC.below hu), rfl, h.age, fun u1 hu => ((hH.below hb15).below hu).load1 un_int64 rfl (i := 7) rfl, fun wq hq => ⟨?_, qb hB15 hq hB15.size⟩⟩
     rw [p4 q, beq_self_eq_true]
end Go.Proofs.YtndbpedpdbjkpaaGreatDoor
