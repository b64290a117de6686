/- What the laws lean on: V3; what is used. Its conditions: none. -/
import Derived.Test.YtndbpedpdbjkpaaGreatDoorKA
open Go.IntKind (i64)
open Go.Proofs.Tryz (prog)
set_option linter.unusedVariables false
set_option maxRecDepth 100000
namespace Go.Proofs.YtndbpedpdbjkpaaGreatDoor
open Go.Pk
open Go.RowKit (Below)
--  cracknel/cracknelref03.Right
abbrev Ld (t : TypeId) (p : Option Addr) (w : World) (v : Value) : Prop := (Instr.loadAt t (.pointer p)).run prog w = .ok v w
abbrev Sv (t : TypeId) (p : Option Addr) (v : Value) (w x : World) : Prop := (Instr.storeAt t (.pointer p) v).run prog w = .ok () x
abbrev hV (a b c d : List UInt8) (e : Bool) (f : Int) (g : Bool) (h : Int) (i j : Bool) (k : Int) : Value := .agg #[.string (mkS a), .string (mkS b), .string (mkS c), .string (mkS d), .bool e, .int .i64 f, .bool g, .int .i64 h, .bool i, .bool j, .int .i64 k]
def qhU (s0 : List UInt8) (w : World) (K : Value -> World -> Prop) : Prop :=
 ∀ k2 w2, k2 = w.heap.size -> w2 = w.alloc (.cells qK qc) ->
 ∃ J : FP [],
 (∃ J_1 : FP [.one (.bool)],
 (BCase (decide (((List.length s0 : Nat) : Int) > (0 : Int)))
 (((0 <= (0 : Int) /\ (0 : Int) < ((List.length s0 : Nat) : Int))) /\
 J_1 ((qA s0 (0 : Int)) == (91 : Int)) w2)
 (J_1 false w2)) /\
 ∀ b19, AllJ 7 (∀ wj, J_1 b19 wj ->
 BCase b19
 (((0 <= (i64.wrap (((List.length s0 : Nat) : Int) - (1 : Int))) /\ (i64.wrap (((List.length s0 : Nat) : Int) - (1 : Int))) < ((List.length s0 : Nat) : Int))) /\
 BCase ((qA s0 (i64.wrap (((List.length s0 : Nat) : Int) - (1 : Int)))) != (93 : Int))
 (∃ wx, Sv qc (some ⟨k2, 0, none⟩) (.agg qK) wj wx /\
 ∃ vr0, (qC qc (.pointer (some ⟨k2, 0, none⟩))).run prog wx = .ok vr0 wx /\
 K (.tuple #[vr0, .int .i64 (31 : Int)]) wx)
 ((((0 <= (i64.wrap (((List.length s0 : Nat) : Int) - (1 : Int))) /\ (i64.wrap (((List.length s0 : Nat) : Int) - (1 : Int))) <= (((List.length s0) : Nat) : Int)) /\ 0 <= (1 : Int) /\ (1 : Int) <= ((Int.toNat (i64.wrap (((List.length s0 : Nat) : Int) - (1 : Int))) : Nat) : Int))) /\
 ∀ s32, s32 = (List.drop (Int.toNat (1 : Int)) (List.take (Int.toNat (i64.wrap (((List.length s0 : Nat) : Int) - (1 : Int)))) s0)) ->
 Calls prog qjM #[.string (mkS s32)] wj fun e33 w33 => ∃ v33_0 b33_1, e33 = .returned (.tuple #[v33_0, .bool b33_1]) /\
 ∀ k4 w4, k4 = w33.heap.size -> w4 = w33.alloc (.cells qY qk) ->
 ∃ wx_1, Sv qk (some ⟨k4, 0, none⟩) v33_0 w4 wx_1 /\
 BCase (!b33_1)
 (∃ wx_2, Sv qc (some ⟨k2, 0, none⟩) (.agg qK) wx_1 wx_2 /\
 ∃ vr0_1, (qC qc (.pointer (some ⟨k2, 0, none⟩))).run prog wx_2 = .ok vr0_1 wx_2 /\
 K (.tuple #[vr0_1, .int .i64 (31 : Int)]) wx_2)
 (∃ v39, Ld qk (some ⟨k4, 0, none⟩) wx_1 v39 /\
 ∃ v40, (Instr.build qc #[(0, .int .i64 (3 : Int)), (2, v39)]).run prog wx_1 = .ok v40 wx_1 /\
 ∃ wx_3, Sv qc (some ⟨k2, 0, none⟩) v40 wx_1 wx_3 /\
 ∃ vr0_2, (qC qc (.pointer (some ⟨k2, 0, none⟩))).run prog wx_3 = .ok vr0_2 wx_3 /\
 K (.tuple #[vr0_2, .int .i64 (0 : Int)]) wx_3)))
 (J wj))) /\
 AllJ 32 (∀ wj_1, J wj_1 ->
 Calls prog jg #[.string (mkS s0)] wj_1 fun e42 w42 => ∃ s42, e42 = .returned (.string (mkS s42)) /\
 Calls prog zO #[.string (mkS s42), .int .u8 (46 : Int)] w42 fun e44 w44 => ∃ a44 l44 c44, e44 = .returned (.slice a44 l44 c44) /\
 ((0 <= (i64.wrap (((l44 : Nat) : Int) - (1 : Int))) /\ (i64.wrap (((l44 : Nat) : Int) - (1 : Int))) < ((l44 : Nat) : Int)) /\ Option.isSome a44 = true) /\
 ∃ s50, Ld qe (qn a44 (i64.wrap (((l44 : Nat) : Int) - (1 : Int))) 1) w44 (.string (mkS s50)) /\
 Calls prog qbw #[.string (mkS s50)] w44 fun e51 w51 => ∃ b51, e51 = .returned (.bool b51) /\
 BCase b51
 (Calls prog qjH #[.string (mkS s0)] w51 fun e54 w54 => ∃ v54_0 b54_1, e54 = .returned (.tuple #[v54_0, .bool b54_1]) /\
 ∀ k8 w8, k8 = w54.heap.size -> w8 = w54.alloc (.cells qY qk) ->
 ∃ wx_4, Sv qk (some ⟨k8, 0, none⟩) v54_0 w8 wx_4 /\
 BCase (!b54_1)
 (∃ wx_5, Sv qc (some ⟨k2, 0, none⟩) (.agg qK) wx_4 wx_5 /\
 ∃ vr0_3, (qC qc (.pointer (some ⟨k2, 0, none⟩))).run prog wx_5 = .ok vr0_3 wx_5 /\
 K (.tuple #[vr0_3, .int .i64 (31 : Int)]) wx_5)
 (∃ v60, Ld qk (some ⟨k8, 0, none⟩) wx_4 v60 /\
 ∃ v61, (Instr.build qc #[(0, .int .i64 (2 : Int)), (2, v60)]).run prog wx_4 = .ok v61 wx_4 /\
 ∃ wx_6, Sv qc (some ⟨k2, 0, none⟩) v61 wx_4 wx_6 /\
 ∃ vr0_4, (qC qc (.pointer (some ⟨k2, 0, none⟩))).run prog wx_6 = .ok vr0_4 wx_6 /\
 K (.tuple #[vr0_4, .int .i64 (0 : Int)]) wx_6))
 (∃ I : Nat -> FP [.one (.int .i64)],
 (∃ m, I m (0 : Int) w51) /\
 ∀ m n64, AllJ 10 (∀ wl, I m n64 wl ->
 BCase (decide (n64 < ((l44 : Nat) : Int)))
 (((0 <= n64 /\ n64 < ((l44 : Nat) : Int)) /\ Option.isSome a44 = true) /\
 ∃ s67, Ld qe (qn a44 n64 1) wl (.string (mkS s67)) /\
 Calls prog qfN #[.string (mkS s67)] wl fun e69 w69 => ∃ b69, e69 = .returned (.bool b69) /\
 BCase (!b69)
 (∃ wx_7, Sv qc (some ⟨k2, 0, none⟩) (.agg qK) w69 wx_7 /\
 ∃ vr0_5, (qC qc (.pointer (some ⟨k2, 0, none⟩))).run prog wx_7 = .ok vr0_5 wx_7 /\
 K (.tuple #[vr0_5, .int .i64 (31 : Int)]) wx_7)
 (∃ m' : Nat, m' < m /\ I m' (i64.wrap (n64 + (1 : Int))) w69))
 (BCase (decide (((List.length s0 : Nat) : Int) > (253 : Int)))
 (∃ wx_8, Sv qc (some ⟨k2, 0, none⟩) (.agg qK) wl wx_8 /\
 ∃ vr0_6, (qC qc (.pointer (some ⟨k2, 0, none⟩))).run prog wx_8 = .ok vr0_6 wx_8 /\
 K (.tuple #[vr0_6, .int .i64 (31 : Int)]) wx_8)
 (∃ wx_9, Sv qc (some ⟨k2, 0, none⟩) (.agg #[.int .i64 (1 : Int), .string (mkS s42), .int .u8 (0 : Int), .int .u8 (0 : Int), .int .u8 (0 : Int), .int .u8 (0 : Int), .int .u8 (0 : Int), .int .u8 (0 : Int), .int .u8 (0 : Int), .int .u8 (0 : Int), .int .u8 (0 : Int), .int .u8 (0 : Int), .int .u8 (0 : Int), .int .u8 (0 : Int), .int .u8 (0 : Int), .int .u8 (0 : Int), .int .u8 (0 : Int), .int .u8 (0 : Int)]) wl wx_9 /\
 ∃ vr0_7, (qC qc (.pointer (some ⟨k2, 0, none⟩))).run prog wx_9 = .ok vr0_7 wx_9 /\
 K (.tuple #[vr0_7, .int .i64 (0 : Int)]) wx_9)))))
theorem qk3 (s0 : List UInt8) {w : World} {K : Value -> World -> Prop} (h : qhU s0 w K) : Calls prog jh #[.string (mkS s0)] w (Ret K) :=
 qo (c := qr Tryz.f62) (by kernel_rfl) Tryz.func62 (by kernel_rfl) [(2, []), (3, [(19, .one (.bool))]), (54, [(64, .one (.int .i64))])] [.string (mkS s0)] (of_decide_eq_true (by kernel_rfl)) _ (by kernel_rfl) h

--  cracknel/host.Parse
def qiD (s0 : List UInt8) (w : World) (K : Value -> World -> Prop) : Prop :=
 ∀ k2 w2, k2 = w.heap.size -> w2 = w.alloc (.cells qK qc) ->
 Calls prog jj #[.string (mkS s0), .string (mkS [91])] w2 fun e15 w15 => ∃ s15_0 b15_1, e15 = .returned (.tuple #[.string (mkS s15_0), .bool b15_1]) /\
 BCase b15_1
 (Calls prog qii #[.string (mkS s15_0), .string (mkS [93])] w15 fun e21 w21 => ∃ s21_0 b21_1, e21 = .returned (.tuple #[.string (mkS s21_0), .bool b21_1]) /\
 Calls prog qk5 #[.string (mkS s21_0)] w21 fun e26 w26 => ∃ v26_0 b26_1, e26 = .returned (.tuple #[v26_0, .bool b26_1]) /\
 ∀ k8 w8, k8 = w26.heap.size -> w8 = w26.alloc (.cells qY qk) ->
 ∃ wx, Sv qk (some ⟨k8, 0, none⟩) v26_0 w8 wx /\
 ∃ v29, Ld qk (some ⟨k8, 0, none⟩) wx v29 /\
 BCase b26_1
 (Calls prog qcm #[.int .i64 (3 : Int), v29, .bool b21_1] wx fun e34 w34 => ∃ v34_0 n34_1, e34 = .returned (.tuple #[v34_0, .int .i64 n34_1]) /\
 ∃ wx_1, Sv qc (some ⟨k2, 0, none⟩) v34_0 w34 wx_1 /\
 ∃ vr0, (qC qc (.pointer (some ⟨k2, 0, none⟩))).run prog wx_1 = .ok vr0 wx_1 /\
 K (.tuple #[vr0, .int .i64 n34_1]) wx_1)
 (Calls prog qcm #[.int .i64 (3 : Int), v29, .bool false] wx fun e34_1 w34_1 => ∃ v34_0_1 n34_1_1, e34_1 = .returned (.tuple #[v34_0_1, .int .i64 n34_1_1]) /\
 ∃ wx_2, Sv qc (some ⟨k2, 0, none⟩) v34_0_1 w34_1 wx_2 /\
 ∃ vr0_1, (qC qc (.pointer (some ⟨k2, 0, none⟩))).run prog wx_2 = .ok vr0_1 wx_2 /\
 K (.tuple #[vr0_1, .int .i64 n34_1_1]) wx_2))
 (Calls prog qab #[.string (mkS s0)] w15 fun e38 w38 => ∃ s38, e38 = .returned (.string (mkS s38)) /\
 Calls prog qay #[.string (mkS s38), .int .u8 (46 : Int)] w38 fun e39 w39 => ∃ a39 l39 c39, e39 = .returned (.slice a39 l39 c39) /\
 ((0 <= (i64.wrap (((l39 : Nat) : Int) - (1 : Int))) /\ (i64.wrap (((l39 : Nat) : Int) - (1 : Int))) < ((l39 : Nat) : Int)) /\ Option.isSome a39 = true) /\
 ∃ s45, Ld qe (qn a39 (i64.wrap (((l39 : Nat) : Int) - (1 : Int))) 1) w39 (.string (mkS s45)) /\
 Calls prog qck #[.string (mkS s45)] w39 fun e46 w46 => ∃ b46, e46 = .returned (.bool b46) /\
 BCase b46
 (Calls prog qkW #[.string (mkS s0)] w46 fun e49 w49 => ∃ v49_0 b49_1, e49 = .returned (.tuple #[v49_0, .bool b49_1]) /\
 ∀ k11 w11, k11 = w49.heap.size -> w11 = w49.alloc (.cells qY qk) ->
 ∃ wx_3, Sv qk (some ⟨k11, 0, none⟩) v49_0 w11 wx_3 /\
 ∃ v52, Ld qk (some ⟨k11, 0, none⟩) wx_3 v52 /\
 Calls prog qcm #[.int .i64 (2 : Int), v52, .bool b49_1] wx_3 fun e54 w54 => ∃ v54_0 n54_1, e54 = .returned (.tuple #[v54_0, .int .i64 n54_1]) /\
 ∃ wx_4, Sv qc (some ⟨k2, 0, none⟩) v54_0 w54 wx_4 /\
 ∃ vr0_2, (qC qc (.pointer (some ⟨k2, 0, none⟩))).run prog wx_4 = .ok vr0_2 wx_4 /\
 K (.tuple #[vr0_2, .int .i64 n54_1]) wx_4)
 (∃ J : FP [],
 (∃ J_1 : FP [.one (.bool)],
 (BCase (decide (((List.length s0 : Nat) : Int) > (253 : Int)))
 (J_1 true w46)
 (Calls prog jk #[.slice a39 l39 c39, .func (.func ju) #[] #[]] w46 fun e62 w62 => ∃ b62, e62 = .returned (.bool b62) /\
 J_1 b62 w62)) /\
 ∀ b63, AllJ 6 (∀ wj, J_1 b63 wj ->
 BCase b63
 (∃ wx_5, Sv qc (some ⟨k2, 0, none⟩) (.agg qK) wj wx_5 /\
 ∃ vr0_3, (qC qc (.pointer (some ⟨k2, 0, none⟩))).run prog wx_5 = .ok vr0_3 wx_5 /\
 K (.tuple #[vr0_3, .int .i64 (31 : Int)]) wx_5)
 (J wj))) /\
 AllJ 9 (∀ wj_1, J wj_1 ->
 Calls prog jJ #[.slice a39 l39 c39, .string (mkS [46])] wj_1 fun e66 w66 => ∃ s66, e66 = .returned (.string (mkS s66)) /\
 ∃ wx_6, Sv qc (some ⟨k2, 0, none⟩) (.agg #[.int .i64 (1 : Int), .string (mkS s66), .int .u8 (0 : Int), .int .u8 (0 : Int), .int .u8 (0 : Int), .int .u8 (0 : Int), .int .u8 (0 : Int), .int .u8 (0 : Int), .int .u8 (0 : Int), .int .u8 (0 : Int), .int .u8 (0 : Int), .int .u8 (0 : Int), .int .u8 (0 : Int), .int .u8 (0 : Int), .int .u8 (0 : Int), .int .u8 (0 : Int), .int .u8 (0 : Int), .int .u8 (0 : Int)]) w66 wx_6 /\
 ∃ vr0_4, (qC qc (.pointer (some ⟨k2, 0, none⟩))).run prog wx_6 = .ok vr0_4 wx_6 /\
 K (.tuple #[vr0_4, .int .i64 (0 : Int)]) wx_6)))
theorem qmp (s0 : List UInt8) {w : World} {K : Value -> World -> Prop} (h : qiD s0 w K) : Calls prog qdl #[.string (mkS s0)] w (Ret K) :=
 qo (c := qr Tryz.f66) (by kernel_rfl) Tryz.func66 (by kernel_rfl) [(28, []), (29, [(63, .one (.bool))])] [.string (mkS s0)] (of_decide_eq_true (by kernel_rfl)) _ (by kernel_rfl) h

--  cracknel/host.Right
def qju (v0 : Value) (w : World) (K : Value -> World -> Prop) : Prop :=
 ∀ k1 w1, k1 = w.heap.size -> w1 = w.alloc (.cells (Value.cells v0) qc) ->
 ∃ v6, Ld qc (some ⟨k1, 0, none⟩) w1 v6 /\
 Calls prog qh4 #[v6] w1 fun e7 w7 => ∃ s7, e7 = .returned (.string (mkS s7)) /\
 Calls prog qdl #[.string (mkS s7)] w7 fun e8 w8 => ∃ v8_0 n8_1, e8 = .returned (.tuple #[v8_0, .int .i64 n8_1]) /\
 ∀ k3 w3, k3 = w8.heap.size -> w3 = w8.alloc (.cells qK qc) ->
 ∃ wx, Sv qc (some ⟨k3, 0, none⟩) v8_0 w3 wx /\
 BCase (n8_1 == (0 : Int))
 (∃ v14, Ld qc (some ⟨k3, 0, none⟩) wx v14 /\
 ∃ v15, Ld qc (some ⟨k1, 0, none⟩) wx v15 /\
 ∃ b16, ((do eqGuard .eql qc (.tmp 14) (.tmp 15) v14 v15; binOp .eql qc v14 v15 : Sem Value)).run prog wx = .ok (.bool b16) wx /\
 K (.bool b16) wx)
 (K (.bool false) wx)
theorem qmn (v0 : Value) {w : World} {K : Value -> World -> Prop} (h : qju v0 w K) : Calls prog qds #[v0] w (Ret K) :=
 qo (c := qr Tryz.f68) (by kernel_rfl) Tryz.func68 (by kernel_rfl) [] [v0] (of_decide_eq_true (by kernel_rfl)) _ (by kernel_rfl) h

--  cracknel/host.Labels
def qhI (v0 : Value) (w : World) (K : Value -> World -> Prop) : Prop :=
 ∀ k1 w1, k1 = w.heap.size -> w1 = w.alloc (.cells (Value.cells v0) qc) ->
 ∃ J : FP [],
 ((true = true) /\
 ∃ n4, Ld qx (some ⟨k1, 0, none⟩) w1 (.int .i64 n4) /\
 BCase (n4 != (1 : Int))
 (K (.slice none 0 0) w1)
 (∃ v7, Ld qc (some ⟨k1, 0, none⟩) w1 v7 /\
 Calls prog qds #[v7] w1 fun e8 w8 => ∃ b8, e8 = .returned (.bool b8) /\
 BCase (!b8)
 (K (.slice none 0 0) w8)
 (J w8))) /\
 AllJ 9 (∀ wj, J wj ->
 (true = true) /\
 ∃ s12, Ld qe (some ⟨k1, 1, none⟩) wj (.string (mkS s12)) /\
 Calls prog qay #[.string (mkS s12), .int .u8 (46 : Int)] wj fun e13 w13 => ∃ a13 l13 c13, e13 = .returned (.slice a13 l13 c13) /\
 K (.slice a13 l13 c13) w13)
theorem ql3 (v0 : Value) {w : World} {K : Value -> World -> Prop} (h : qhI v0 w K) : Calls prog zA #[v0] w (Ret K) :=
 qo (c := qr Tryz.f69) (by kernel_rfl) Tryz.func69 (by kernel_rfl) [(2, [])] [v0] (of_decide_eq_true (by kernel_rfl)) _ (by kernel_rfl) h

--  cracknel/host.Text
def qkh (v0 : Value) (w : World) (K : Value -> World -> Prop) : Prop :=
 ∀ k1 w1, k1 = w.heap.size -> w1 = w.alloc (.cells (Value.cells v0) qc) ->
 (true = true) /\
 ∃ n4, Ld qx (some ⟨k1, 0, none⟩) w1 (.int .i64 n4) /\
 BCase (n4 == (1 : Int))
 ((true = true) /\
 ∃ s8, Ld qe (some ⟨k1, 1, none⟩) w1 (.string (mkS s8)) /\
 K (.string (mkS s8)) w1)
 (BCase (n4 == (2 : Int))
 ((true = true) /\
 ∃ v12, Ld qk (some ⟨k1, 2, none⟩) w1 v12 /\
 Calls prog qf5 #[v12] w1 fun e13 w13 => ∃ s13, e13 = .returned (.string (mkS s13)) /\
 K (.string (mkS s13)) w13)
 (BCase (n4 == (3 : Int))
 ((true = true) /\
 ∃ v17, Ld qk (some ⟨k1, 2, none⟩) w1 v17 /\
 Calls prog qgH #[v17] w1 fun e18 w18 => ∃ s18, e18 = .returned (.string (mkS s18)) /\
 ((((List.length [91] + List.length s18 : Nat) : Int) <= i64.max)) /\
 ∀ s19, s19 = ([91] ++ s18) ->
 ((((List.length s19 + List.length [93] : Nat) : Int) <= i64.max)) /\
 ∀ s20, s20 = (s19 ++ [93]) ->
 K (.string (mkS s20)) w18)
 (K (.string (mkS [])) w1)))
theorem qnC (v0 : Value) {w : World} {K : Value -> World -> Prop} (h : qkh v0 w K) : Calls prog qh4 #[v0] w (Ret K) :=
 qo (c := qr Tryz.f70) (by kernel_rfl) Tryz.func70 (by kernel_rfl) [] [v0] (of_decide_eq_true (by kernel_rfl)) _ (by kernel_rfl) h

--  cracknel/cracknelref02.Text4
def qkV (s0 : List UInt8) (w : World) (K : Value -> World -> Prop) : Prop :=
 ∀ k2 w2, k2 = w.heap.size -> w2 = w.alloc (.cells qY qk) ->
 Calls prog qdL #[.string (mkS s0)] w2 fun e15 w15 => ∃ v15_0 b15_1, e15 = .returned (.tuple #[v15_0, .bool b15_1]) /\
 ∀ k4 w4, k4 = w15.heap.size -> w4 = w15.alloc (.cells qY qk) ->
 ∃ wx, Sv qk (some ⟨k4, 0, none⟩) v15_0 w4 wx /\
 BCase b15_1
 (∃ v19, Ld qk (some ⟨k4, 0, none⟩) wx v19 /\
 ∃ wx_1, Sv qk (some ⟨k2, 0, none⟩) v19 wx wx_1 /\
 ∃ vr0, (qC qk (.pointer (some ⟨k2, 0, none⟩))).run prog wx_1 = .ok vr0 wx_1 /\
 K (.tuple #[vr0, .bool true]) wx_1)
 (∃ I : Nat -> FP [.one (.int .i64)],
 (∃ m, I m (0 : Int) wx) /\
 ∀ m n6, AllJ 57 (∀ wl, I m n6 wl ->
 BCase (decide ((i64.wrap (n6 + (2 : Int))) <= ((List.length s0 : Nat) : Int)))
 (∃ J : FP [],
 (((0 <= n6 /\ n6 < ((List.length s0 : Nat) : Int))) /\
 BCase ((qA s0 n6) != (58 : Int))
 (∃ m' : Nat, m' < m /\ I m' (i64.wrap (n6 + (1 : Int))) wl)
 (((0 <= (i64.wrap (n6 + (1 : Int))) /\ (i64.wrap (n6 + (1 : Int))) < ((List.length s0 : Nat) : Int))) /\
 BCase ((qA s0 (i64.wrap (n6 + (1 : Int)))) != (58 : Int))
 (∃ m' : Nat, m' < m /\ I m' (i64.wrap (n6 + (1 : Int))) wl)
 (J wl))) /\
 AllJ 11 (∀ wj, J wj ->
 ((0 <= n6 /\ n6 <= (((List.length s0) : Nat) : Int))) /\
 ∀ s40, s40 = (List.take (Int.toNat n6) s0) ->
 ((0 <= (i64.wrap (n6 + (2 : Int))) /\ (i64.wrap (n6 + (2 : Int))) <= (((List.length s0) : Nat) : Int))) /\
 ∀ s44, s44 = (List.drop (Int.toNat (i64.wrap (n6 + (2 : Int)))) s0) ->
 ∃ J_1 : FP [.one (.str)],
 (BCase (!(s40 == []))
 (((((List.length s40 + List.length [58] : Nat) : Int) <= i64.max)) /\
 ∀ s48, s48 = (s40 ++ [58]) ->
 J_1 s48 wj)
 (J_1 s40 wj)) /\
 ∀ s7, AllJ 4 (∀ wj_1, J_1 s7 wj_1 ->
 ∃ J_2 : FP [.one (.str)],
 (BCase (!(s44 == []))
 (((((List.length [58] + List.length s44 : Nat) : Int) <= i64.max)) /\
 ∀ s52, s52 = ([58] ++ s44) ->
 J_2 s52 wj_1)
 (J_2 s44 wj_1)) /\
 ∀ s8, AllJ 4 (∀ wj_2, J_2 s8 wj_2 ->
 ∃ I_1 : Nat -> FP [.one (.str), .one (.int .i64)],
 (∃ m_1, I_1 m_1 [48] (0 : Int) wj_2) /\
 ∀ m_1 s9 n10, AllJ 20 (∀ wl_1, I_1 m_1 s9 n10 wl_1 ->
 BCase (decide (n10 < (8 : Int)))
 (((((List.length s7 + List.length s9 : Nat) : Int) <= i64.max)) /\
 ∀ s60, s60 = (s7 ++ s9) ->
 ((((List.length s60 + List.length s8 : Nat) : Int) <= i64.max)) /\
 ∀ s62, s62 = (s60 ++ s8) ->
 Calls prog qdL #[.string (mkS s62)] wl_1 fun e63 w63 => ∃ v63_0 b63_1, e63 = .returned (.tuple #[v63_0, .bool b63_1]) /\
 ∀ k11 w11, k11 = w63.heap.size -> w11 = w63.alloc (.cells qY qk) ->
 ∃ wx_2, Sv qk (some ⟨k11, 0, none⟩) v63_0 w11 wx_2 /\
 BCase b63_1
 (∃ v67, Ld qk (some ⟨k11, 0, none⟩) wx_2 v67 /\
 ∃ wx_3, Sv qk (some ⟨k2, 0, none⟩) v67 wx_2 wx_3 /\
 ∃ vr0_1, (qC qk (.pointer (some ⟨k2, 0, none⟩))).run prog wx_3 = .ok vr0_1 wx_3 /\
 K (.tuple #[vr0_1, .bool true]) wx_3)
 (((((List.length s9 + List.length [58, 48] : Nat) : Int) <= i64.max)) /\
 ∀ s69, s69 = (s9 ++ [58, 48]) ->
 ∃ m'_1 : Nat, m'_1 < m_1 /\ I_1 m'_1 s69 (i64.wrap (n10 + (1 : Int))) wx_2))
 (∃ m' : Nat, m' < m /\ I m' (i64.wrap (n6 + (1 : Int))) wl_1))))))
 (∃ wx_4, Sv qk (some ⟨k2, 0, none⟩) (.agg qY) wl wx_4 /\
 ∃ vr0_2, (qC qk (.pointer (some ⟨k2, 0, none⟩))).run prog wx_4 = .ok vr0_2 wx_4 /\
 K (.tuple #[vr0_2, .bool false]) wx_4)))
theorem qoV (s0 : List UInt8) {w : World} {K : Value -> World -> Prop} (h : qkV s0 w K) : Calls prog qjM #[.string (mkS s0)] w (Ret K) :=
 qo (c := qr Tryz.f111) (by kernel_rfl) Tryz.func111 (by kernel_rfl) [(16, [(6, .one (.int .i64))]), (25, []), (35, [(7, .one (.str))]), (41, [(8, .one (.str))]), (52, [(9, .one (.str)), (10, .one (.int .i64))])] [.string (mkS s0)] (of_decide_eq_true (by kernel_rfl)) _ (by kernel_rfl) h

--  cracknel/cracknelref02.V4
def ql8 (s0 : List UInt8) (w : World) (K : Value -> World -> Prop) : Prop :=
 ∀ k2 w2, k2 = w.heap.size -> w2 = w.alloc (.cells qY qk) ->
 ∀ k4 w4, k4 = w2.heap.size -> w4 = w2.alloc (.cells qY qk) ->
 ∃ wx, Sv qk (some ⟨k4, 0, none⟩) (.agg qY) w4 wx /\
 Calls prog zO #[.string (mkS s0), .int .u8 (46 : Int)] wx fun e11 w11 => ∃ a11 l11 c11, e11 = .returned (.slice a11 l11 c11) /\
 BCase (((l11 : Nat) : Int) != (4 : Int))
 (∃ wx_1, Sv qk (some ⟨k2, 0, none⟩) (.agg qY) w11 wx_1 /\
 ∃ vr0, (qC qk (.pointer (some ⟨k2, 0, none⟩))).run prog wx_1 = .ok vr0 wx_1 /\
 K (.tuple #[vr0, .bool false]) wx_1)
 (∃ I : Nat -> FP [.one (.int .i64)],
 (∃ m, I m (0 : Int) w11) /\
 ∀ m n6, AllJ 27 (∀ wl, I m n6 wl ->
 BCase (decide (n6 < (4 : Int)))
 (((0 <= n6 /\ n6 < ((l11 : Nat) : Int)) /\ Option.isSome a11 = true) /\
 ∃ s24, Ld qe (qn a11 n6 1) wl (.string (mkS s24)) /\
 Calls prog qdd #[.string (mkS s24)] wl fun e25 w25 => ∃ n25_0 b25_1, e25 = .returned (.tuple #[.int .i64 n25_0, .bool b25_1]) /\
 ∃ J : FP [],
 (∃ J_1 : FP [.one (.bool)],
 (BCase (!b25_1)
 (J_1 true w25)
 (J_1 (decide (n25_0 > (255 : Int))) w25)) /\
 ∀ b33, AllJ 5 (∀ wj, J_1 b33 wj ->
 BCase b33
 (∃ wx_2, Sv qk (some ⟨k2, 0, none⟩) (.agg qY) wj wx_2 /\
 ∃ vr0_1, (qC qk (.pointer (some ⟨k2, 0, none⟩))).run prog wx_2 = .ok vr0_1 wx_2 /\
 K (.tuple #[vr0_1, .bool false]) wx_2)
 (J wj))) /\
 AllJ 8 (∀ wj_1, J wj_1 ->
 ((0 <= (i64.wrap ((12 : Int) + n6)) /\ (i64.wrap ((12 : Int) + n6)) < ((16 : Nat) : Int)) /\ true = true) /\
 ∃ wx_3, Sv qw (qn (some ⟨k4, 0, none⟩) (i64.wrap ((12 : Int) + n6)) 1) (.int .u8 (IntKind.u8.wrap n25_0)) wj_1 wx_3 /\
 ∃ m' : Nat, m' < m /\ I m' (i64.wrap (n6 + (1 : Int))) wx_3))
 (∃ v40, Ld qk (some ⟨k4, 0, none⟩) wl v40 /\
 ∃ wx_4, Sv qk (some ⟨k2, 0, none⟩) v40 wl wx_4 /\
 ∃ vr0_2, (qC qk (.pointer (some ⟨k2, 0, none⟩))).run prog wx_4 = .ok vr0_2 wx_4 /\
 K (.tuple #[vr0_2, .bool true]) wx_4)))
theorem qpl (s0 : List UInt8) {w : World} {K : Value -> World -> Prop} (h : ql8 s0 w K) : Calls prog qjH #[.string (mkS s0)] w (Ret K) :=
 qo (c := qr Tryz.f114) (by kernel_rfl) Tryz.func114 (by kernel_rfl) [(18, [(6, .one (.int .i64))]), (29, []), (30, [(33, .one (.bool))])] [.string (mkS s0)] (of_decide_eq_true (by kernel_rfl)) _ (by kernel_rfl) h

--  cracknel/cracknelref03.label
def qhu (s0 : List UInt8) (w : World) (K : Value -> World -> Prop) : Prop :=
 ∃ I : Nat -> FP [.one (.int .i64)],
 (∃ m, I m (0 : Int) w) /\
 ∀ m n3, AllJ 33 (∀ wl, I m n3 wl ->
 BCase (decide (n3 < ((List.length s0 : Nat) : Int)))
 (((0 <= n3 /\ n3 < ((List.length s0 : Nat) : Int))) /\
 BCase (decide ((qA s0 n3) < (97 : Int)))
 (BCase (decide ((qA s0 n3) < (48 : Int)))
 (BCase ((qA s0 n3) != (45 : Int))
 (BCase ((qA s0 n3) != (95 : Int))
 (K (.bool false) wl)
 (∃ m' : Nat, m' < m /\ I m' (i64.wrap (n3 + (1 : Int))) wl))
 (∃ m' : Nat, m' < m /\ I m' (i64.wrap (n3 + (1 : Int))) wl))
 (BCase (decide ((qA s0 n3) > (57 : Int)))
 (BCase ((qA s0 n3) != (45 : Int))
 (BCase ((qA s0 n3) != (95 : Int))
 (K (.bool false) wl)
 (∃ m' : Nat, m' < m /\ I m' (i64.wrap (n3 + (1 : Int))) wl))
 (∃ m' : Nat, m' < m /\ I m' (i64.wrap (n3 + (1 : Int))) wl))
 (∃ m' : Nat, m' < m /\ I m' (i64.wrap (n3 + (1 : Int))) wl)))
 (BCase (decide ((qA s0 n3) > (122 : Int)))
 (BCase (decide ((qA s0 n3) < (48 : Int)))
 (BCase ((qA s0 n3) != (45 : Int))
 (BCase ((qA s0 n3) != (95 : Int))
 (K (.bool false) wl)
 (∃ m' : Nat, m' < m /\ I m' (i64.wrap (n3 + (1 : Int))) wl))
 (∃ m' : Nat, m' < m /\ I m' (i64.wrap (n3 + (1 : Int))) wl))
 (BCase (decide ((qA s0 n3) > (57 : Int)))
 (BCase ((qA s0 n3) != (45 : Int))
 (BCase ((qA s0 n3) != (95 : Int))
 (K (.bool false) wl)
 (∃ m' : Nat, m' < m /\ I m' (i64.wrap (n3 + (1 : Int))) wl))
 (∃ m' : Nat, m' < m /\ I m' (i64.wrap (n3 + (1 : Int))) wl))
 (∃ m' : Nat, m' < m /\ I m' (i64.wrap (n3 + (1 : Int))) wl)))
 (∃ m' : Nat, m' < m /\ I m' (i64.wrap (n3 + (1 : Int))) wl)))
 (BCase (decide (((List.length s0 : Nat) : Int) >= (1 : Int)))
 (K (.bool (decide (((List.length s0 : Nat) : Int) <= (63 : Int)))) wl)
 (K (.bool false) wl)))
theorem qle (s0 : List UInt8) {w : World} {K : Value -> World -> Prop} (h : qhu s0 w K) : Calls prog qfN #[.string (mkS s0)] w (Ret K) :=
 qo (c := qr Tryz.f115) (by kernel_rfl) Tryz.func115 (by kernel_rfl) [(6, [(3, .one (.int .i64))])] [.string (mkS s0)] (of_decide_eq_true (by kernel_rfl)) _ (by kernel_rfl) h

--  cracknel/addr.V6
def qnp (s0 : List UInt8) (w : World) (K : Value -> World -> Prop) : Prop :=
 ∀ k2 w2, k2 = w.heap.size -> w2 = w.alloc (.cells qY qk) ->
 Calls prog qiL #[.string (mkS s0), .string (mkS [58, 58])] w2 fun e15 w15 => ∃ s15_0 s15_1 b15_2, e15 = .returned (.tuple #[.string (mkS s15_0), .string (mkS s15_1), .bool b15_2]) /\
 Calls prog qg8 #[.string (mkS s15_0)] w15 fun e21 w21 => ∃ a21_0 l21_0 c21_0 b21_1, e21 = .returned (.tuple #[.slice a21_0 l21_0 c21_0, .bool b21_1]) /\
 Calls prog qg8 #[.string (mkS s15_1)] w21 fun e26 w26 => ∃ a26_0 l26_0 c26_0 b26_1, e26 = .returned (.tuple #[.slice a26_0 l26_0 c26_0, .bool b26_1]) /\
 ∃ J : FP [],
 (∃ J_1 : FP [.one (.bool)],
 (BCase (!b21_1)
 (J_1 true w26)
 (BCase (!b26_1)
 (J_1 true w26)
 (BCase b15_2
 (BCase (decide ((i64.wrap (((l21_0 : Nat) : Int) + ((l26_0 : Nat) : Int))) >= (8 : Int)))
 (J_1 true w26)
 (BCase (!b15_2)
 (J_1 ((i64.wrap (((l21_0 : Nat) : Int) + ((l26_0 : Nat) : Int))) != (8 : Int)) w26)
 (J_1 false w26)))
 (BCase (!b15_2)
 (J_1 ((i64.wrap (((l21_0 : Nat) : Int) + ((l26_0 : Nat) : Int))) != (8 : Int)) w26)
 (J_1 false w26))))) /\
 ∀ b54, AllJ 20 (∀ wj, J_1 b54 wj ->
 BCase b54
 (∃ wx, Sv qk (some ⟨k2, 0, none⟩) (.agg qY) wj wx /\
 ∃ vr0, (qC qk (.pointer (some ⟨k2, 0, none⟩))).run prog wx = .ok vr0 wx /\
 K (.tuple #[vr0, .bool false]) wx)
 (J wj))) /\
 AllJ 23 (∀ wj_1, J wj_1 ->
 ∀ k12 w12, k12 = wj_1.heap.size -> w12 = wj_1.alloc (.cells #[.int .u16 (0 : Int), .int .u16 (0 : Int), .int .u16 (0 : Int), .int .u16 (0 : Int), .int .u16 (0 : Int), .int .u16 (0 : Int), .int .u16 (0 : Int), .int .u16 (0 : Int)] qG) ->
 (True) /\
 ∃ w58 n58, (Builtin.copy_ #[qao, qao] qx #[.slice (some ⟨k12, 0, none⟩) 8 8, .slice a21_0 l21_0 c21_0]).run prog w12 = .ok (.int .i64 n58) w58 /\
 ((0 <= (i64.wrap ((8 : Int) - ((l26_0 : Nat) : Int))) /\ (i64.wrap ((8 : Int) - ((l26_0 : Nat) : Int))) <= ((8 : Nat) : Int))) /\
 ∃ w64 n64, (Builtin.copy_ #[qao, qao] qx #[.slice (some (if 8 = (Int.toNat (i64.wrap ((8 : Int) - ((l26_0 : Nat) : Int)))) then ⟨k12, 0, none⟩ else Addr.add ⟨k12, 0, none⟩ ((Int.toNat (i64.wrap ((8 : Int) - ((l26_0 : Nat) : Int)))) * 1))) (8 - (Int.toNat (i64.wrap ((8 : Int) - ((l26_0 : Nat) : Int))))) (8 - (Int.toNat (i64.wrap ((8 : Int) - ((l26_0 : Nat) : Int))))), .slice a26_0 l26_0 c26_0]).run prog w58 = .ok (.int .i64 n64) w64 /\
 ∃ n65_0 n65_1 n65_2 n65_3 n65_4 n65_5 n65_6 n65_7, Ld qG (some ⟨k12, 0, none⟩) w64 (.agg #[.int .u16 n65_0, .int .u16 n65_1, .int .u16 n65_2, .int .u16 n65_3, .int .u16 n65_4, .int .u16 n65_5, .int .u16 n65_6, .int .u16 n65_7]) /\
 Calls prog qh6 #[.agg #[.int .u16 n65_0, .int .u16 n65_1, .int .u16 n65_2, .int .u16 n65_3, .int .u16 n65_4, .int .u16 n65_5, .int .u16 n65_6, .int .u16 n65_7]] w64 fun e66 w66 => ∃ v66, e66 = .returned v66 /\
 ∃ wx_1, Sv qk (some ⟨k2, 0, none⟩) v66 w66 wx_1 /\
 ∃ vr0_1, (qC qk (.pointer (some ⟨k2, 0, none⟩))).run prog wx_1 = .ok vr0_1 wx_1 /\
 K (.tuple #[vr0_1, .bool true]) wx_1)
theorem qpF (s0 : List UInt8) {w : World} {K : Value -> World -> Prop} (h : qnp s0 w K) : Calls prog qk5 #[.string (mkS s0)] w (Ret K) :=
 qo (c := qr Tryz.f120) (by kernel_rfl) Tryz.func120 (by kernel_rfl) [(10, []), (11, [(54, .one (.bool))])] [.string (mkS s0)] (of_decide_eq_true (by kernel_rfl)) _ (by kernel_rfl) h

--  cracknel/host.address
def qgu (n0 : Int) (v1 : Value) (b2 : Bool) (w : World) (K : Value -> World -> Prop) : Prop :=
 ∀ k4 w4, k4 = w.heap.size -> w4 = w.alloc (.cells (Value.cells v1) qk) ->
 ∀ k6 w6, k6 = w4.heap.size -> w6 = w4.alloc (.cells qK qc) ->
 BCase (!b2)
 (∃ wx, Sv qc (some ⟨k6, 0, none⟩) (.agg qK) w6 wx /\
 ∃ vr0, (qC qc (.pointer (some ⟨k6, 0, none⟩))).run prog wx = .ok vr0 wx /\
 K (.tuple #[vr0, .int .i64 (31 : Int)]) wx)
 (∃ v12, Ld qk (some ⟨k4, 0, none⟩) w6 v12 /\
 ∃ v13, (Instr.build qc #[(0, .int .i64 n0), (2, v12)]).run prog w6 = .ok v13 w6 /\
 ∃ wx_1, Sv qc (some ⟨k6, 0, none⟩) v13 w6 wx_1 /\
 ∃ vr0_1, (qC qc (.pointer (some ⟨k6, 0, none⟩))).run prog wx_1 = .ok vr0_1 wx_1 /\
 K (.tuple #[vr0_1, .int .i64 (0 : Int)]) wx_1)
theorem qku (n0 : Int) (v1 : Value) (b2 : Bool) {w : World} {K : Value -> World -> Prop} (h : qgu n0 v1 b2 w K) : Calls prog qcm #[.int .i64 n0, v1, .bool b2] w (Ret K) :=
 qo (c := qr Tryz.f121) (by kernel_rfl) Tryz.func121 (by kernel_rfl) [] [.int .i64 n0, v1, .bool b2] (of_decide_eq_true (by kernel_rfl)) _ (by kernel_rfl) h

--  cracknel/addr.V4
def qm8 (s0 : List UInt8) (w : World) (K : Value -> World -> Prop) : Prop :=
 ∀ k2 w2, k2 = w.heap.size -> w2 = w.alloc (.cells qY qk) ->
 Calls prog qay #[.string (mkS s0), .int .u8 (46 : Int)] w2 fun e11 w11 => ∃ a11 l11 c11, e11 = .returned (.slice a11 l11 c11) /\
 BCase (((l11 : Nat) : Int) != (4 : Int))
 (∃ wx, Sv qk (some ⟨k2, 0, none⟩) (.agg qY) w11 wx /\
 ∃ vr0, (qC qk (.pointer (some ⟨k2, 0, none⟩))).run prog wx = .ok vr0 wx /\
 K (.tuple #[vr0, .bool false]) wx)
 (∀ k5 w5, k5 = w11.heap.size -> w5 = w11.alloc (.cells qY qk) ->
 ∃ I : Nat -> FP [.one (.int .i64)],
 (∃ m, I m (0 : Int) w5) /\
 ∀ m n18, AllJ 27 (∀ wl, I m n18 wl ->
 BCase (decide (n18 < ((l11 : Nat) : Int)))
 (((0 <= n18 /\ n18 < ((l11 : Nat) : Int)) /\ Option.isSome a11 = true) /\
 ∃ s22, Ld qe (qn a11 n18 1) wl (.string (mkS s22)) /\
 Calls prog qdh #[.string (mkS s22)] wl fun e25 w25 => ∃ n25_0 b25_1, e25 = .returned (.tuple #[.int .i64 n25_0, .bool b25_1]) /\
 ∃ J : FP [],
 (∃ J_1 : FP [.one (.bool)],
 (BCase (!b25_1)
 (J_1 true w25)
 (J_1 (decide (n25_0 > (255 : Int))) w25)) /\
 ∀ b33, AllJ 5 (∀ wj, J_1 b33 wj ->
 BCase b33
 (∃ wx_1, Sv qk (some ⟨k2, 0, none⟩) (.agg qY) wj wx_1 /\
 ∃ vr0_1, (qC qk (.pointer (some ⟨k2, 0, none⟩))).run prog wx_1 = .ok vr0_1 wx_1 /\
 K (.tuple #[vr0_1, .bool false]) wx_1)
 (J wj))) /\
 AllJ 8 (∀ wj_1, J wj_1 ->
 ((0 <= (i64.wrap ((12 : Int) + n18)) /\ (i64.wrap ((12 : Int) + n18)) < ((16 : Nat) : Int)) /\ true = true) /\
 ∃ wx_2, Sv qw (qn (some ⟨k5, 0, none⟩) (i64.wrap ((12 : Int) + n18)) 1) (.int .u8 (IntKind.u8.wrap n25_0)) wj_1 wx_2 /\
 ∃ m' : Nat, m' < m /\ I m' (i64.wrap (n18 + (1 : Int))) wx_2))
 (∃ v41, Ld qk (some ⟨k5, 0, none⟩) wl v41 /\
 ∃ wx_3, Sv qk (some ⟨k2, 0, none⟩) v41 wl wx_3 /\
 ∃ vr0_2, (qC qk (.pointer (some ⟨k2, 0, none⟩))).run prog wx_3 = .ok vr0_2 wx_3 /\
 K (.tuple #[vr0_2, .bool true]) wx_3)))
theorem qpL (s0 : List UInt8) {w : World} {K : Value -> World -> Prop} (h : qm8 s0 w K) : Calls prog qkW #[.string (mkS s0)] w (Ret K) :=
 qo (c := qr Tryz.f123) (by kernel_rfl) Tryz.func123 (by kernel_rfl) [(18, [(18, .one (.int .i64))]), (31, []), (32, [(33, .one (.bool))])] [.string (mkS s0)] (of_decide_eq_true (by kernel_rfl)) _ (by kernel_rfl) h

--  cracknel/host.Parse$1
def qfX (s0 : List UInt8) (w : World) (K : Value -> World -> Prop) : Prop :=
 Calls prog qga #[.string (mkS s0)] w fun e4 w4 => ∃ b4, e4 = .returned (.bool b4) /\
 K (.bool (!b4)) w4
theorem qj1 (s0 : List UInt8) {w : World} {K : Value -> World -> Prop} (h : qfX s0 w K) : Calls prog ju #[.string (mkS s0)] w (Ret K) :=
 qo (c := qr Tryz.f124) (by kernel_rfl) Tryz.func124 (by kernel_rfl) [] [.string (mkS s0)] (of_decide_eq_true (by kernel_rfl)) _ (by kernel_rfl) h

--  cracknel/host.label
def qjp (s0 : List UInt8) (w : World) (K : Value -> World -> Prop) : Prop :=
 BCase (!(s0 == []))
 (BCase (decide (((List.length s0 : Nat) : Int) <= (63 : Int)))
 (∃ w12 a12 l12 c12, (convert qe qE (.string (mkS s0))).run prog w = .ok (.slice a12 l12 c12) w12 /\
 Calls prog qaV #[.slice a12 l12 c12, .func (.func jT) #[] #[]] w12 fun e13 w13 => ∃ b13, e13 = .returned (.bool b13) /\
 K (.bool (!b13)) w13)
 (K (.bool false) w))
 (K (.bool false) w)
theorem qm4 (s0 : List UInt8) {w : World} {K : Value -> World -> Prop} (h : qjp s0 w K) : Calls prog qga #[.string (mkS s0)] w (Ret K) :=
 qo (c := qr Tryz.f125) (by kernel_rfl) Tryz.func125 (by kernel_rfl) [] [.string (mkS s0)] (of_decide_eq_true (by kernel_rfl)) _ (by kernel_rfl) h

--  cracknel/addr.Text4
def qiF (v0 : Value) (w : World) (K : Value -> World -> Prop) : Prop :=
 ∀ k1 w1, k1 = w.heap.size -> w1 = w.alloc (.cells (Value.cells v0) qk) ->
 ((0 <= (12 : Int) /\ (12 : Int) <= ((16 : Nat) : Int))) /\
 ∃ I : Nat -> FP [.one (.slice), .one (.int .i64)],
 (∃ m, I m none 0 0 (0 : Int) w1) /\
 ∀ m a3 l3 c3 n8, AllJ 11 (∀ wl, I m a3 l3 c3 n8 wl ->
 BCase (decide (n8 < (((16 - (Int.toNat (12 : Int))) : Nat) : Int)))
 (((0 <= n8 /\ n8 < (((16 - (Int.toNat (12 : Int))) : Nat) : Int)) /\ true = true) /\
 ∃ n11, Ld qw (qn (some (if 16 = (Int.toNat (12 : Int)) then ⟨k1, 0, none⟩ else Addr.add ⟨k1, 0, none⟩ ((Int.toNat (12 : Int)) * 1))) n8 1) wl (.int .u8 n11) /\
 Calls prog qeZ #[.int .i64 (i64.wrap n11)] wl fun e15 w15 => ∃ s15, e15 = .returned (.string (mkS s15)) /\
 ∀ k16 w16, k16 = w15.heap.size -> w16 = w15.alloc (.cells #[.string (mkS s15)] qe) ->
 ∃ w17 a17 l17 c17, (Builtin.append_ #[qD, qD] qD #[.slice a3 l3 c3, .slice (some ⟨k16, 0, none⟩) 1 1]).run prog w16 = .ok (.slice a17 l17 c17) w17 /\
 ∃ m' : Nat, m' < m /\ I m' a17 l17 c17 (i64.wrap (n8 + (1 : Int))) w17)
 (Calls prog jJ #[.slice a3 l3 c3, .string (mkS [46])] wl fun e20 w20 => ∃ s20, e20 = .returned (.string (mkS s20)) /\
 K (.string (mkS s20)) w20))
theorem qmz (v0 : Value) {w : World} {K : Value -> World -> Prop} (h : qiF v0 w K) : Calls prog qf5 #[v0] w (Ret K) :=
 qo (c := qr Tryz.f129) (by kernel_rfl) Tryz.func129 (by kernel_rfl) [(8, [(3, .one (.slice)), (8, .one (.int .i64))])] [v0] (of_decide_eq_true (by kernel_rfl)) _ (by kernel_rfl) h

--  cracknel/addr.Text6
def qiO (v0 : Value) (w : World) (K : Value -> World -> Prop) : Prop :=
 ∀ k1 w1, k1 = w.heap.size -> w1 = w.alloc (.cells (Value.cells v0) qk) ->
 ∃ v6, Ld qk (some ⟨k1, 0, none⟩) w1 v6 /\
 Calls prog qfk #[v6] w1 fun e7 w7 => ∃ n7_0 n7_1 n7_2 n7_3 n7_4 n7_5 n7_6 n7_7, e7 = .returned (.agg #[.int .u16 n7_0, .int .u16 n7_1, .int .u16 n7_2, .int .u16 n7_3, .int .u16 n7_4, .int .u16 n7_5, .int .u16 n7_6, .int .u16 n7_7]) /\
 ∀ k3 w3, k3 = w7.heap.size -> w3 = w7.alloc (.cells #[.int .u16 (0 : Int), .int .u16 (0 : Int), .int .u16 (0 : Int), .int .u16 (0 : Int), .int .u16 (0 : Int), .int .u16 (0 : Int), .int .u16 (0 : Int), .int .u16 (0 : Int)] qG) ->
 ∃ wx, Sv qG (some ⟨k3, 0, none⟩) (.agg #[.int .u16 n7_0, .int .u16 n7_1, .int .u16 n7_2, .int .u16 n7_3, .int .u16 n7_4, .int .u16 n7_5, .int .u16 n7_6, .int .u16 n7_7]) w3 wx /\
 ∃ n9_0 n9_1 n9_2 n9_3 n9_4 n9_5 n9_6 n9_7, Ld qG (some ⟨k3, 0, none⟩) wx (.agg #[.int .u16 n9_0, .int .u16 n9_1, .int .u16 n9_2, .int .u16 n9_3, .int .u16 n9_4, .int .u16 n9_5, .int .u16 n9_6, .int .u16 n9_7]) /\
 Calls prog qgs #[.agg #[.int .u16 n9_0, .int .u16 n9_1, .int .u16 n9_2, .int .u16 n9_3, .int .u16 n9_4, .int .u16 n9_5, .int .u16 n9_6, .int .u16 n9_7]] wx fun e10 w10 => ∃ n10_0 n10_1, e10 = .returned (.tuple #[.int .i64 n10_0, .int .i64 n10_1]) /\
 BCase (decide (n10_1 < (2 : Int)))
 ((True) /\
 Calls prog qce #[.slice (some ⟨k3, 0, none⟩) 8 8] w10 fun e16 w16 => ∃ s16, e16 = .returned (.string (mkS s16)) /\
 K (.string (mkS s16)) w16)
 (((0 <= n10_0 /\ n10_0 <= ((8 : Nat) : Int))) /\
 ∃ s19, (∀ u19, Below w10.heap.size w10 u19 -> Calls prog qce #[.slice (some ⟨k3, 0, none⟩) (Int.toNat n10_0) 8] u19 fun e19 w19 => e19 = .returned (.string (mkS s19)) /\ Below w10.heap.size u19 w19) /\
 ((((List.length s19 + List.length [58, 58] : Nat) : Int) <= i64.max)) /\
 ∀ s20, s20 = (s19 ++ [58, 58]) ->
 ((0 <= (i64.wrap (n10_0 + n10_1)) /\ (i64.wrap (n10_0 + n10_1)) <= ((8 : Nat) : Int))) /\
 ∃ s25, (∀ u25, Below w10.heap.size w10 u25 -> Calls prog qce #[.slice (some (if 8 = (Int.toNat (i64.wrap (n10_0 + n10_1))) then ⟨k3, 0, none⟩ else Addr.add ⟨k3, 0, none⟩ ((Int.toNat (i64.wrap (n10_0 + n10_1))) * 1))) (8 - (Int.toNat (i64.wrap (n10_0 + n10_1)))) (8 - (Int.toNat (i64.wrap (n10_0 + n10_1))))] u25 fun e25 w25 => e25 = .returned (.string (mkS s25)) /\ Below w10.heap.size u25 w25) /\
 ((((List.length s20 + List.length s25 : Nat) : Int) <= i64.max)) /\
 ∀ s26, s26 = (s20 ++ s25) ->
 ∀ wq, Below w10.heap.size w10 wq ->
 K (.string (mkS s26)) wq)
theorem qms (v0 : Value) {w : World} {K : Value -> World -> Prop} (h : qiO v0 w K) : Calls prog qgH #[v0] w (Ret K) :=
 qo (c := qr Tryz.f130) (by kernel_rfl) Tryz.func130 (by kernel_rfl) [] [v0] (of_decide_eq_true (by kernel_rfl)) _ (by kernel_rfl) h

--  cracknel/cracknelref02.decimal
def qhN (s0 : List UInt8) (w : World) (K : Value -> World -> Prop) : Prop :=
 ∀ k2 w2, k2 = w.heap.size -> w2 = w.alloc (.cells qY qk) ->
 ∀ k4 w4, k4 = w2.heap.size -> w4 = w2.alloc (.cells qY qk) ->
 ∃ wx, Sv qk (some ⟨k4, 0, none⟩) (.agg qY) w4 wx /\
 Calls prog zO #[.string (mkS s0), .int .u8 (58 : Int)] wx fun e12 w12 => ∃ a12 l12 c12, e12 = .returned (.slice a12 l12 c12) /\
 BCase (((l12 : Nat) : Int) != (8 : Int))
 (∃ wx_1, Sv qk (some ⟨k2, 0, none⟩) (.agg qY) w12 wx_1 /\
 ∃ vr0, (qC qk (.pointer (some ⟨k2, 0, none⟩))).run prog wx_1 = .ok vr0 wx_1 /\
 K (.tuple #[vr0, .bool false]) wx_1)
 (∃ I : Nat -> FP [.one (.int .i64)],
 (∃ m, I m (0 : Int) w12) /\
 ∀ m n6, AllJ 59 (∀ wl, I m n6 wl ->
 BCase (decide (n6 < (8 : Int)))
 (∃ J : FP [],
 (∃ J_1 : FP [.one (.bool)],
 (((0 <= n6 /\ n6 < ((l12 : Nat) : Int)) /\ Option.isSome a12 = true) /\
 ∃ s24, Ld qe (qn a12 n6 1) wl (.string (mkS s24)) /\
 BCase (decide (((List.length s24 : Nat) : Int) < (1 : Int)))
 (J_1 true wl)
 (((0 <= n6 /\ n6 < ((l12 : Nat) : Int)) /\ Option.isSome a12 = true) /\
 ∃ s31, Ld qe (qn a12 n6 1) wl (.string (mkS s31)) /\
 J_1 (decide (((List.length s31 : Nat) : Int) > (4 : Int))) wl)) /\
 ∀ b34, AllJ 13 (∀ wj, J_1 b34 wj ->
 BCase b34
 (∃ wx_2, Sv qk (some ⟨k2, 0, none⟩) (.agg qY) wj wx_2 /\
 ∃ vr0_1, (qC qk (.pointer (some ⟨k2, 0, none⟩))).run prog wx_2 = .ok vr0_1 wx_2 /\
 K (.tuple #[vr0_1, .bool false]) wx_2)
 (J wj))) /\
 AllJ 16 (∀ wj_1, J wj_1 ->
 ∃ I_1 : Nat -> FP [.one (.int .i64), .one (.int .i64)],
 (∃ m_1, I_1 m_1 (0 : Int) (0 : Int) wj_1) /\
 ∀ m_1 n7 n8, AllJ 25 (∀ wl_1, I_1 m_1 n7 n8 wl_1 ->
 ((0 <= n6 /\ n6 < ((l12 : Nat) : Int)) /\ Option.isSome a12 = true) /\
 ∃ s40, Ld qe (qn a12 n6 1) wl_1 (.string (mkS s40)) /\
 BCase (decide (n8 < ((List.length s40 : Nat) : Int)))
 (((0 <= n6 /\ n6 < ((l12 : Nat) : Int)) /\ Option.isSome a12 = true) /\
 ∃ s48, Ld qe (qn a12 n6 1) wl_1 (.string (mkS s48)) /\
 ((0 <= n8 /\ n8 < ((List.length s48 : Nat) : Int))) /\
 Calls prog qfm #[.int .u8 (qA s48 n8)] wl_1 fun e51 w51 => ∃ n51, e51 = .returned (.int .i64 n51) /\
 BCase (decide (n51 < (0 : Int)))
 (∃ wx_3, Sv qk (some ⟨k2, 0, none⟩) (.agg qY) w51 wx_3 /\
 ∃ vr0_2, (qC qk (.pointer (some ⟨k2, 0, none⟩))).run prog wx_3 = .ok vr0_2 wx_3 /\
 K (.tuple #[vr0_2, .bool false]) wx_3)
 (∃ m'_1 : Nat, m'_1 < m_1 /\ I_1 m'_1 (i64.wrap ((i64.wrap (n7 * (16 : Int))) + n51)) (i64.wrap (n8 + (1 : Int))) w51))
 (((256 : Int) ≠ 0) /\
 ∀ q62, q62 = (i64.wrap (Int.tdiv n7 (256 : Int))) ->
 ((0 <= (i64.wrap ((2 : Int) * n6)) /\ (i64.wrap ((2 : Int) * n6)) < ((16 : Nat) : Int)) /\ true = true) /\
 ∃ wx_4, Sv qw (qn (some ⟨k4, 0, none⟩) (i64.wrap ((2 : Int) * n6)) 1) (.int .u8 (IntKind.u8.wrap q62)) wl_1 wx_4 /\
 ((256 : Int) ≠ 0) /\
 ∀ q69, q69 = (Int.tmod n7 (256 : Int)) ->
 ((0 <= (i64.wrap ((i64.wrap ((2 : Int) * n6)) + (1 : Int))) /\ (i64.wrap ((i64.wrap ((2 : Int) * n6)) + (1 : Int))) < ((16 : Nat) : Int)) /\ true = true) /\
 ∃ wx_5, Sv qw (qn (some ⟨k4, 0, none⟩) (i64.wrap ((i64.wrap ((2 : Int) * n6)) + (1 : Int))) 1) (.int .u8 (IntKind.u8.wrap q69)) wx_4 wx_5 /\
 ∃ m' : Nat, m' < m /\ I m' (i64.wrap (n6 + (1 : Int))) wx_5))))
 (∃ v72, Ld qk (some ⟨k4, 0, none⟩) wl v72 /\
 ∃ wx_6, Sv qk (some ⟨k2, 0, none⟩) v72 wl wx_6 /\
 ∃ vr0_3, (qC qk (.pointer (some ⟨k2, 0, none⟩))).run prog wx_6 = .ok vr0_3 wx_6 /\
 K (.tuple #[vr0_3, .bool true]) wx_6)))
theorem qlQ (s0 : List UInt8) {w : World} {K : Value -> World -> Prop} (h : qhN s0 w K) : Calls prog qdL #[.string (mkS s0)] w (Ret K) :=
 qo (c := qr Tryz.f179) (by kernel_rfl) Tryz.func179 (by kernel_rfl) [(18, [(6, .one (.int .i64))]), (29, []), (30, [(34, .one (.bool))]), (41, [(7, .one (.int .i64)), (8, .one (.int .i64))])] [.string (mkS s0)] (of_decide_eq_true (by kernel_rfl)) _ (by kernel_rfl) h

--  cracknel/addr.row
def qlO (s0 : List UInt8) (w : World) (K : Value -> World -> Prop) : Prop :=
 BCase (s0 == [])
 (K (.tuple #[.slice none 0 0, .bool true]) w)
 (Calls prog qay #[.string (mkS s0), .int .u8 (58 : Int)] w fun e12 w12 => ∃ a12 l12 c12, e12 = .returned (.slice a12 l12 c12) /\
 ∃ I : Nat -> FP [.one (.slice), .one (.int .i64)],
 (∃ m, I m none 0 0 (0 : Int) w12) /\
 ∀ m a4 l4 c4 n14, AllJ 20 (∀ wl, I m a4 l4 c4 n14 wl ->
 BCase (decide (n14 < ((l12 : Nat) : Int)))
 (((0 <= n14 /\ n14 < ((l12 : Nat) : Int)) /\ Option.isSome a12 = true) /\
 ∃ s17, Ld qe (qn a12 n14 1) wl (.string (mkS s17)) /\
 Calls prog qgt #[.string (mkS s17)] wl fun e20 w20 => ∃ n20_0 b20_1, e20 = .returned (.tuple #[.int .u16 n20_0, .bool b20_1]) /\
 BCase (!b20_1)
 (K (.tuple #[.slice none 0 0, .bool false]) w20)
 (∀ k27 w27, k27 = w20.heap.size -> w27 = w20.alloc (.cells #[.int .u16 n20_0] qa9) ->
 ∃ w28 a28 l28 c28, (Builtin.append_ #[qao, qao] qao #[.slice a4 l4 c4, .slice (some ⟨k27, 0, none⟩) 1 1]).run prog w27 = .ok (.slice a28 l28 c28) w28 /\
 ∃ m' : Nat, m' < m /\ I m' a28 l28 c28 (i64.wrap (n14 + (1 : Int))) w28))
 (K (.tuple #[.slice a4 l4 c4, .bool true]) wl)))
theorem qpy (s0 : List UInt8) {w : World} {K : Value -> World -> Prop} (h : qlO s0 w K) : Calls prog qg8 #[.string (mkS s0)] w (Ret K) :=
 qo (c := qr Tryz.f183) (by kernel_rfl) Tryz.func183 (by kernel_rfl) [(16, [(4, .one (.slice)), (14, .one (.int .i64))])] [.string (mkS s0)] (of_decide_eq_true (by kernel_rfl)) _ (by kernel_rfl) h

--  cracknel/addr.From
def qj8 (n0_0 : Int) (n0_1 : Int) (n0_2 : Int) (n0_3 : Int) (n0_4 : Int) (n0_5 : Int) (n0_6 : Int) (n0_7 : Int) (w : World) (K : Value -> World -> Prop) : Prop :=
 ∀ k1 w1, k1 = w.heap.size -> w1 = w.alloc (.cells #[.int .u16 n0_0, .int .u16 n0_1, .int .u16 n0_2, .int .u16 n0_3, .int .u16 n0_4, .int .u16 n0_5, .int .u16 n0_6, .int .u16 n0_7] qG) ->
 ∀ k2 w2, k2 = w1.heap.size -> w2 = w1.alloc (.cells qY qk) ->
 ∀ k3 w3, k3 = w2.heap.size -> w3 = w2.alloc (.cells qY qk) ->
 ∃ I : Nat -> FP [.one (.int .i64)],
 (∃ m, I m (0 : Int) w3) /\
 ∀ m n5, AllJ 20 (∀ wl, I m n5 wl ->
 BCase (decide (n5 < (8 : Int)))
 (((0 <= n5 /\ n5 < ((8 : Nat) : Int)) /\ true = true) /\
 ((0 <= n5 /\ n5 < ((8 : Nat) : Int)) /\ true = true) /\
 (∃ n15, Ld qa9 (qn (some ⟨k1, 0, none⟩) n5 1) (World.drew wl) (.int .u16 n15) /\
 (0 <= (8 : Int)) /\
 ((0 <= (i64.wrap ((2 : Int) * n5)) /\ (i64.wrap ((2 : Int) * n5)) < ((16 : Nat) : Int)) /\ true = true) /\
 (∃ n20, Ld qa9 (qn (some ⟨k1, 0, none⟩) n5 1) (World.drew wl) (.int .u16 n20) /\
 ∃ wx, Sv qw (qn (some ⟨k3, 0, none⟩) (i64.wrap ((2 : Int) * n5)) 1) (.int .u8 (IntKind.u8.wrap (Int.fdiv n15 (2 ^ (min (Int.toNat (8 : Int)) (IntKind.bits .u16)))))) (World.drew wl) wx /\
 ((0 <= (i64.wrap ((i64.wrap ((2 : Int) * n5)) + (1 : Int))) /\ (i64.wrap ((i64.wrap ((2 : Int) * n5)) + (1 : Int))) < ((16 : Nat) : Int)) /\ true = true) /\
 ∃ wx_1, Sv qw (qn (some ⟨k3, 0, none⟩) (i64.wrap ((i64.wrap ((2 : Int) * n5)) + (1 : Int))) 1) (.int .u8 (IntKind.u8.wrap n20)) wx wx_1 /\
 ∃ m' : Nat, m' < m /\ I m' (i64.wrap (n5 + (1 : Int))) wx_1) /\
 ∃ wx_2, Sv qw (qn (some ⟨k3, 0, none⟩) (i64.wrap ((2 : Int) * n5)) 1) (.int .u8 (IntKind.u8.wrap (Int.fdiv n15 (2 ^ (min (Int.toNat (8 : Int)) (IntKind.bits .u16)))))) (World.drew wl) wx_2 /\
 ∃ n20_1, Ld qa9 (qn (some ⟨k1, 0, none⟩) n5 1) wx_2 (.int .u16 n20_1) /\
 ((0 <= (i64.wrap ((i64.wrap ((2 : Int) * n5)) + (1 : Int))) /\ (i64.wrap ((i64.wrap ((2 : Int) * n5)) + (1 : Int))) < ((16 : Nat) : Int)) /\ true = true) /\
 ∃ wx_3, Sv qw (qn (some ⟨k3, 0, none⟩) (i64.wrap ((i64.wrap ((2 : Int) * n5)) + (1 : Int))) 1) (.int .u8 (IntKind.u8.wrap n20_1)) wx_2 wx_3 /\
 ∃ m' : Nat, m' < m /\ I m' (i64.wrap (n5 + (1 : Int))) wx_3) /\
 ∃ n20_2, Ld qa9 (qn (some ⟨k1, 0, none⟩) n5 1) (World.drew wl) (.int .u16 n20_2) /\
 ∃ n15_1, Ld qa9 (qn (some ⟨k1, 0, none⟩) n5 1) (World.drew wl) (.int .u16 n15_1) /\
 (0 <= (8 : Int)) /\
 ((0 <= (i64.wrap ((2 : Int) * n5)) /\ (i64.wrap ((2 : Int) * n5)) < ((16 : Nat) : Int)) /\ true = true) /\
 ∃ wx_4, Sv qw (qn (some ⟨k3, 0, none⟩) (i64.wrap ((2 : Int) * n5)) 1) (.int .u8 (IntKind.u8.wrap (Int.fdiv n15_1 (2 ^ (min (Int.toNat (8 : Int)) (IntKind.bits .u16)))))) (World.drew wl) wx_4 /\
 ((0 <= (i64.wrap ((i64.wrap ((2 : Int) * n5)) + (1 : Int))) /\ (i64.wrap ((i64.wrap ((2 : Int) * n5)) + (1 : Int))) < ((16 : Nat) : Int)) /\ true = true) /\
 ∃ wx_5, Sv qw (qn (some ⟨k3, 0, none⟩) (i64.wrap ((i64.wrap ((2 : Int) * n5)) + (1 : Int))) 1) (.int .u8 (IntKind.u8.wrap n20_2)) wx_4 wx_5 /\
 ∃ m' : Nat, m' < m /\ I m' (i64.wrap (n5 + (1 : Int))) wx_5)
 (∃ v25, Ld qk (some ⟨k3, 0, none⟩) wl v25 /\
 ∃ wx_6, Sv qk (some ⟨k2, 0, none⟩) v25 wl wx_6 /\
 ∃ vr0, (qC qk (.pointer (some ⟨k2, 0, none⟩))).run prog wx_6 = .ok vr0 wx_6 /\
 K vr0 wx_6))
theorem qop (n0_0 : Int) (n0_1 : Int) (n0_2 : Int) (n0_3 : Int) (n0_4 : Int) (n0_5 : Int) (n0_6 : Int) (n0_7 : Int) {w : World} {K : Value -> World -> Prop} (h : qj8 n0_0 n0_1 n0_2 n0_3 n0_4 n0_5 n0_6 n0_7 w K) : Calls prog qh6 #[.agg #[.int .u16 n0_0, .int .u16 n0_1, .int .u16 n0_2, .int .u16 n0_3, .int .u16 n0_4, .int .u16 n0_5, .int .u16 n0_6, .int .u16 n0_7]] w (Ret K) :=
 qo (c := qr Tryz.f184) (by kernel_rfl) Tryz.func184 (by kernel_rfl) [(8, [(5, .one (.int .i64))])] [.agg #[.int .u16 n0_0, .int .u16 n0_1, .int .u16 n0_2, .int .u16 n0_3, .int .u16 n0_4, .int .u16 n0_5, .int .u16 n0_6, .int .u16 n0_7]] (of_decide_eq_true (by kernel_rfl)) _ (by kernel_rfl) h

--  cracknel/host.label$1
def qfV (n0 : Int) (w : World) (K : Value -> World -> Prop) : Prop :=
 Calls prog qfJ #[.int .u8 n0] w fun e4 w4 => ∃ b4, e4 = .returned (.bool b4) /\
 K (.bool (!b4)) w4
theorem qjO (n0 : Int) {w : World} {K : Value -> World -> Prop} (h : qfV n0 w K) : Calls prog jT #[.int .u8 n0] w (Ret K) :=
 qo (c := qr Tryz.f188) (by kernel_rfl) Tryz.func188 (by kernel_rfl) [] [.int .u8 n0] (of_decide_eq_true (by kernel_rfl)) _ (by kernel_rfl) h

--  cracknel/host.letter
def qhJ (n0 : Int) (w : World) (K : Value -> World -> Prop) : Prop :=
 BCase (decide (n0 >= (97 : Int)))
 (BCase (decide (n0 <= (122 : Int)))
 (K (.bool true) w)
 (BCase (decide (n0 >= (48 : Int)))
 (BCase (decide (n0 <= (57 : Int)))
 (K (.bool true) w)
 (BCase (n0 == (45 : Int))
 (K (.bool true) w)
 (K (.bool (n0 == (95 : Int))) w)))
 (BCase (n0 == (45 : Int))
 (K (.bool true) w)
 (K (.bool (n0 == (95 : Int))) w))))
 (BCase (decide (n0 >= (48 : Int)))
 (BCase (decide (n0 <= (57 : Int)))
 (K (.bool true) w)
 (BCase (n0 == (45 : Int))
 (K (.bool true) w)
 (K (.bool (n0 == (95 : Int))) w)))
 (BCase (n0 == (45 : Int))
 (K (.bool true) w)
 (K (.bool (n0 == (95 : Int))) w)))
theorem qkR (n0 : Int) {w : World} {K : Value -> World -> Prop} (h : qhJ n0 w K) : Calls prog qfJ #[.int .u8 n0] w (Ret K) :=
 qo (c := qr Tryz.f189) (by kernel_rfl) Tryz.func189 (by kernel_rfl) [] [.int .u8 n0] (of_decide_eq_true (by kernel_rfl)) _ (by kernel_rfl) h

--  cracknel/addr.Groups
def qhS (v0 : Value) (w : World) (K : Value -> World -> Prop) : Prop :=
 ∀ k1 w1, k1 = w.heap.size -> w1 = w.alloc (.cells (Value.cells v0) qk) ->
 ∀ k2 w2, k2 = w1.heap.size -> w2 = w1.alloc (.cells #[.int .u16 (0 : Int), .int .u16 (0 : Int), .int .u16 (0 : Int), .int .u16 (0 : Int), .int .u16 (0 : Int), .int .u16 (0 : Int), .int .u16 (0 : Int), .int .u16 (0 : Int)] qG) ->
 ∀ k3 w3, k3 = w2.heap.size -> w3 = w2.alloc (.cells #[.int .u16 (0 : Int), .int .u16 (0 : Int), .int .u16 (0 : Int), .int .u16 (0 : Int), .int .u16 (0 : Int), .int .u16 (0 : Int), .int .u16 (0 : Int), .int .u16 (0 : Int)] qG) ->
 ∃ I : Nat -> FP [.one (.int .i64)],
 (∃ m, I m (0 : Int) w3) /\
 ∀ m n5, AllJ 19 (∀ wl, I m n5 wl ->
 BCase (decide (n5 < (8 : Int)))
 (((0 <= (i64.wrap ((2 : Int) * n5)) /\ (i64.wrap ((2 : Int) * n5)) < ((16 : Nat) : Int)) /\ true = true) /\
 ∃ n12, (∀ u12, Below wl.heap.size wl u12 -> Ld qw (qn (some ⟨k1, 0, none⟩) (i64.wrap ((2 : Int) * n5)) 1) u12 (.int .u8 n12)) /\
 (0 <= (8 : Int)) /\
 ((0 <= (i64.wrap ((i64.wrap ((2 : Int) * n5)) + (1 : Int))) /\ (i64.wrap ((i64.wrap ((2 : Int) * n5)) + (1 : Int))) < ((16 : Nat) : Int)) /\ true = true) /\
 ∃ n19, (∀ u19, Below wl.heap.size wl u19 -> Ld qw (qn (some ⟨k1, 0, none⟩) (i64.wrap ((i64.wrap ((2 : Int) * n5)) + (1 : Int))) 1) u19 (.int .u8 n19)) /\
 ((0 <= n5 /\ n5 < ((8 : Nat) : Int)) /\ true = true) /\
 ∀ wq, Below wl.heap.size wl wq ->
 ∃ wx, Sv qa9 (qn (some ⟨k3, 0, none⟩) n5 1) (.int .u16 (IntKind.u16.wrap (((BitVec.ofInt (IntKind.bits .u16) (IntKind.u16.wrap ((IntKind.u16.wrap n12) * 2 ^ (min (Int.toNat (8 : Int)) (IntKind.bits .u16))))) ||| (BitVec.ofInt (IntKind.bits .u16) (IntKind.u16.wrap n19))).toNat : Nat))) wq wx /\
 ∃ m' : Nat, m' < m /\ I m' (i64.wrap (n5 + (1 : Int))) wx)
 (∃ n24_0 n24_1 n24_2 n24_3 n24_4 n24_5 n24_6 n24_7, Ld qG (some ⟨k3, 0, none⟩) wl (.agg #[.int .u16 n24_0, .int .u16 n24_1, .int .u16 n24_2, .int .u16 n24_3, .int .u16 n24_4, .int .u16 n24_5, .int .u16 n24_6, .int .u16 n24_7]) /\
 ∃ wx_1, Sv qG (some ⟨k2, 0, none⟩) (.agg #[.int .u16 n24_0, .int .u16 n24_1, .int .u16 n24_2, .int .u16 n24_3, .int .u16 n24_4, .int .u16 n24_5, .int .u16 n24_6, .int .u16 n24_7]) wl wx_1 /\
 ∃ nr0_0 nr0_1 nr0_2 nr0_3 nr0_4 nr0_5 nr0_6 nr0_7, (qC qG (.pointer (some ⟨k2, 0, none⟩))).run prog wx_1 = .ok (.agg #[.int .u16 nr0_0, .int .u16 nr0_1, .int .u16 nr0_2, .int .u16 nr0_3, .int .u16 nr0_4, .int .u16 nr0_5, .int .u16 nr0_6, .int .u16 nr0_7]) wx_1 /\
 K (.agg #[.int .u16 nr0_0, .int .u16 nr0_1, .int .u16 nr0_2, .int .u16 nr0_3, .int .u16 nr0_4, .int .u16 nr0_5, .int .u16 nr0_6, .int .u16 nr0_7]) wx_1))
theorem qli (v0 : Value) {w : World} {K : Value -> World -> Prop} (h : qhS v0 w K) : Calls prog qfk #[v0] w (Ret K) :=
 qo (c := qr Tryz.f193) (by kernel_rfl) Tryz.func193 (by kernel_rfl) [(8, [(5, .one (.int .i64))]), (2000019, [(15, .one (.bool))])] [v0] (of_decide_eq_true (by kernel_rfl)) _ (by kernel_rfl) h

--  cracknel/addr.zeros
def qjs (n0_0 : Int) (n0_1 : Int) (n0_2 : Int) (n0_3 : Int) (n0_4 : Int) (n0_5 : Int) (n0_6 : Int) (n0_7 : Int) (w : World) (K : Value -> World -> Prop) : Prop :=
 ∀ k1 w1, k1 = w.heap.size -> w1 = w.alloc (.cells #[.int .u16 n0_0, .int .u16 n0_1, .int .u16 n0_2, .int .u16 n0_3, .int .u16 n0_4, .int .u16 n0_5, .int .u16 n0_6, .int .u16 n0_7] qG) ->
 ∃ I : Nat -> FP [.one (.int .i64), .one (.int .i64), .one (.int .i64), .one (.int .i64)],
 (∃ m, I m (0 : Int) (0 : Int) (0 : Int) (0 : Int) w1) /\
 ∀ m n4 n5 n6 n8, AllJ 18 (∀ wl, I m n4 n5 n6 n8 wl ->
 BCase (decide (n8 < (8 : Int)))
 (∃ J : FP [.one (.int .i64)],
 (((0 <= n8 /\ n8 < ((8 : Nat) : Int)) /\ true = true) /\
 ∃ n15, Ld qa9 (qn (some ⟨k1, 0, none⟩) n8 1) wl (.int .u16 n15) /\
 BCase (n15 != (0 : Int))
 (J (0 : Int) wl)
 (J (i64.wrap (n6 + (1 : Int))) wl)) /\
 ∀ n6_1, AllJ 4 (∀ wj, J n6_1 wj ->
 BCase (decide (n6_1 > n5))
 (∃ m' : Nat, m' < m /\ I m' (i64.wrap ((i64.wrap (n8 + (1 : Int))) - n6_1)) n6_1 n6_1 (i64.wrap (n8 + (1 : Int))) wj)
 (∃ m' : Nat, m' < m /\ I m' n4 n5 n6_1 (i64.wrap (n8 + (1 : Int))) wj)))
 (K (.tuple #[.int .i64 n4, .int .i64 n5]) wl))
theorem qml (n0_0 : Int) (n0_1 : Int) (n0_2 : Int) (n0_3 : Int) (n0_4 : Int) (n0_5 : Int) (n0_6 : Int) (n0_7 : Int) {w : World} {K : Value -> World -> Prop} (h : qjs n0_0 n0_1 n0_2 n0_3 n0_4 n0_5 n0_6 n0_7 w K) : Calls prog qgs #[.agg #[.int .u16 n0_0, .int .u16 n0_1, .int .u16 n0_2, .int .u16 n0_3, .int .u16 n0_4, .int .u16 n0_5, .int .u16 n0_6, .int .u16 n0_7]] w (Ret K) :=
 qo (c := qr Tryz.f194) (by kernel_rfl) Tryz.func194 (by kernel_rfl) [(8, [(4, .one (.int .i64)), (5, .one (.int .i64)), (6, .one (.int .i64)), (8, .one (.int .i64))]), (21, [(6, .one (.int .i64))])] [.agg #[.int .u16 n0_0, .int .u16 n0_1, .int .u16 n0_2, .int .u16 n0_3, .int .u16 n0_4, .int .u16 n0_5, .int .u16 n0_6, .int .u16 n0_7]] (of_decide_eq_true (by kernel_rfl)) _ (by kernel_rfl) h

--  cracknel/addr.written
def qgR (a0 : Option Addr) (l0 c0 : Nat) (w : World) (K : Value -> World -> Prop) : Prop :=
 ∃ I : Nat -> FP [.one (.slice), .one (.int .i64)],
 (∃ m, I m none 0 0 (0 : Int) w) /\
 ∀ m a3 l3 c3 n8, AllJ 11 (∀ wl, I m a3 l3 c3 n8 wl ->
 BCase (decide (n8 < ((l0 : Nat) : Int)))
 (((0 <= n8 /\ n8 < ((l0 : Nat) : Int)) /\ Option.isSome a0 = true) /\
 ∃ n11, Ld qa9 (qn a0 n8 1) wl (.int .u16 n11) /\
 Calls prog qcd #[.int .u64 (IntKind.u64.wrap n11), .int .i64 (16 : Int)] wl fun e15 w15 => ∃ s15, e15 = .returned (.string (mkS s15)) /\
 ∀ k16 w16, k16 = w15.heap.size -> w16 = w15.alloc (.cells #[.string (mkS s15)] qe) ->
 ∃ w17 a17 l17 c17, (Builtin.append_ #[qD, qD] qD #[.slice a3 l3 c3, .slice (some ⟨k16, 0, none⟩) 1 1]).run prog w16 = .ok (.slice a17 l17 c17) w17 /\
 ∃ m' : Nat, m' < m /\ I m' a17 l17 c17 (i64.wrap (n8 + (1 : Int))) w17)
 (Calls prog jJ #[.slice a3 l3 c3, .string (mkS [58])] wl fun e20 w20 => ∃ s20, e20 = .returned (.string (mkS s20)) /\
 K (.string (mkS s20)) w20))
theorem qkr (a0 : Option Addr) (l0 c0 : Nat) {w : World} {K : Value -> World -> Prop} (h : qgR a0 l0 c0 w K) : Calls prog qce #[.slice a0 l0 c0] w (Ret K) :=
 qo (c := qr Tryz.f195) (by kernel_rfl) Tryz.func195 (by kernel_rfl) [(8, [(3, .one (.slice)), (8, .one (.int .i64))])] [.slice a0 l0 c0] (of_decide_eq_true (by kernel_rfl)) _ (by kernel_rfl) h

--  cracknel/host.Under
def qjd (v0 : Value) (v1 : Value) (w : World) (K : Value -> World -> Prop) : Prop :=
 ∀ k2 w2, k2 = w.heap.size -> w2 = w.alloc (.cells (Value.cells v0) qc) ->
 ∀ k3 w3, k3 = w2.heap.size -> w3 = w2.alloc (.cells (Value.cells v1) qc) ->
 (∃ v9, Ld qc (some ⟨k2, 0, none⟩) (World.drew w3) v9 /\
 (Calls prog zA #[v9] (World.drew w3) fun e10 w10 => ∃ a10 l10 c10, e10 = .returned (.slice a10 l10 c10) /\
 ∃ v11, Ld qc (some ⟨k3, 0, none⟩) w10 v11 /\
 Calls prog zA #[v11] w10 fun e12 w12 => ∃ a12 l12 c12, e12 = .returned (.slice a12 l12 c12) /\
 ∃ J : FP [],
 (BCase (((l12 : Nat) : Int) == (0 : Int))
 (K (.bool false) w12)
 (BCase (decide (((l12 : Nat) : Int) >= ((l10 : Nat) : Int)))
 (K (.bool false) w12)
 (J w12))) /\
 AllJ 11 (∀ wj, J wj ->
 ∃ v24, Ld qc (some ⟨k2, 0, none⟩) wj v24 /\
 Calls prog qcZ #[v24, .int .i64 ((l12 : Nat) : Int)] wj fun e27 w27 => ∃ v27_0 b27_1, e27 = .returned (.tuple #[v27_0, .bool b27_1]) /\
 ∀ k7 w7, k7 = w27.heap.size -> w7 = w27.alloc (.cells qK qc) ->
 ∃ wx, Sv qc (some ⟨k7, 0, none⟩) v27_0 w7 wx /\
 ∃ v30, Ld qc (some ⟨k7, 0, none⟩) wx v30 /\
 ∃ v31, Ld qc (some ⟨k3, 0, none⟩) wx v31 /\
 ∃ b32, ((do eqGuard .eql qc (.tmp 30) (.tmp 31) v30 v31; binOp .eql qc v30 v31 : Sem Value)).run prog wx = .ok (.bool b32) wx /\
 K (.bool b32) wx)) /\
 ∃ v11_1, Ld qc (some ⟨k3, 0, none⟩) (World.drew w3) v11_1 /\
 Calls prog zA #[v9] (World.drew w3) fun e10_1 w10_1 => ∃ a10_1 l10_1 c10_1, e10_1 = .returned (.slice a10_1 l10_1 c10_1) /\
 Calls prog zA #[v11_1] w10_1 fun e12_1 w12_1 => ∃ a12_1 l12_1 c12_1, e12_1 = .returned (.slice a12_1 l12_1 c12_1) /\
 ∃ J_1 : FP [],
 (BCase (((l12_1 : Nat) : Int) == (0 : Int))
 (K (.bool false) w12_1)
 (BCase (decide (((l12_1 : Nat) : Int) >= ((l10_1 : Nat) : Int)))
 (K (.bool false) w12_1)
 (J_1 w12_1))) /\
 AllJ 11 (∀ wj_1, J_1 wj_1 ->
 ∃ v24_1, Ld qc (some ⟨k2, 0, none⟩) wj_1 v24_1 /\
 Calls prog qcZ #[v24_1, .int .i64 ((l12_1 : Nat) : Int)] wj_1 fun e27_1 w27_1 => ∃ v27_0_1 b27_1_1, e27_1 = .returned (.tuple #[v27_0_1, .bool b27_1_1]) /\
 ∀ k7_1 w7_1, k7_1 = w27_1.heap.size -> w7_1 = w27_1.alloc (.cells qK qc) ->
 ∃ wx_1, Sv qc (some ⟨k7_1, 0, none⟩) v27_0_1 w7_1 wx_1 /\
 ∃ v30_1, Ld qc (some ⟨k7_1, 0, none⟩) wx_1 v30_1 /\
 ∃ v31_1, Ld qc (some ⟨k3, 0, none⟩) wx_1 v31_1 /\
 ∃ b32_1, ((do eqGuard .eql qc (.tmp 30) (.tmp 31) v30_1 v31_1; binOp .eql qc v30_1 v31_1 : Sem Value)).run prog wx_1 = .ok (.bool b32_1) wx_1 /\
 K (.bool b32_1) wx_1)) /\
 ∃ v11_2, Ld qc (some ⟨k3, 0, none⟩) (World.drew w3) v11_2 /\
 ∃ v9_1, Ld qc (some ⟨k2, 0, none⟩) (World.drew w3) v9_1 /\
 Calls prog zA #[v9_1] (World.drew w3) fun e10_2 w10_2 => ∃ a10_2 l10_2 c10_2, e10_2 = .returned (.slice a10_2 l10_2 c10_2) /\
 Calls prog zA #[v11_2] w10_2 fun e12_2 w12_2 => ∃ a12_2 l12_2 c12_2, e12_2 = .returned (.slice a12_2 l12_2 c12_2) /\
 ∃ J_2 : FP [],
 (BCase (((l12_2 : Nat) : Int) == (0 : Int))
 (K (.bool false) w12_2)
 (BCase (decide (((l12_2 : Nat) : Int) >= ((l10_2 : Nat) : Int)))
 (K (.bool false) w12_2)
 (J_2 w12_2))) /\
 AllJ 11 (∀ wj_2, J_2 wj_2 ->
 ∃ v24_2, Ld qc (some ⟨k2, 0, none⟩) wj_2 v24_2 /\
 Calls prog qcZ #[v24_2, .int .i64 ((l12_2 : Nat) : Int)] wj_2 fun e27_2 w27_2 => ∃ v27_0_2 b27_1_2, e27_2 = .returned (.tuple #[v27_0_2, .bool b27_1_2]) /\
 ∀ k7_2 w7_2, k7_2 = w27_2.heap.size -> w7_2 = w27_2.alloc (.cells qK qc) ->
 ∃ wx_2, Sv qc (some ⟨k7_2, 0, none⟩) v27_0_2 w7_2 wx_2 /\
 ∃ v30_2, Ld qc (some ⟨k7_2, 0, none⟩) wx_2 v30_2 /\
 ∃ v31_2, Ld qc (some ⟨k3, 0, none⟩) wx_2 v31_2 /\
 ∃ b32_2, ((do eqGuard .eql qc (.tmp 30) (.tmp 31) v30_2 v31_2; binOp .eql qc v30_2 v31_2 : Sem Value)).run prog wx_2 = .ok (.bool b32_2) wx_2 /\
 K (.bool b32_2) wx_2)
theorem qm7 (v0 : Value) (v1 : Value) {w : World} {K : Value -> World -> Prop} (h : qjd v0 v1 w K) : Calls prog qdp #[v0, v1] w (Ret K) :=
 qo (c := qr Tryz.f212) (by kernel_rfl) Tryz.func212 (by kernel_rfl) [(1000003, []), (4, []), (4, []), (4, [])] [v0, v1] (of_decide_eq_true (by kernel_rfl)) _ (by kernel_rfl) h

--  cracknel/cracknelref02.hex
def qht (n0 : Int) (w : World) (K : Value -> World -> Prop) : Prop :=
 ∃ J : FP [],
 (∃ J_1 : FP [.one (.bool)],
 (BCase (decide (n0 >= (48 : Int)))
 (J_1 (decide (n0 <= (57 : Int))) w)
 (J_1 false w)) /\
 ∀ b8, AllJ 5 (∀ wj, J_1 b8 wj ->
 BCase b8
 (K (.int .i64 (i64.wrap ((i64.wrap n0) - (48 : Int)))) wj)
 (J wj))) /\
 AllJ 10 (∀ wj_1, J wj_1 ->
 ∃ J_2 : FP [],
 (∃ J_3 : FP [.one (.bool)],
 (BCase (decide (n0 >= (97 : Int)))
 (J_3 (decide (n0 <= (102 : Int))) wj_1)
 (J_3 false wj_1)) /\
 ∀ b17, AllJ 5 (∀ wj_2, J_3 b17 wj_2 ->
 BCase b17
 (K (.int .i64 (i64.wrap ((i64.wrap n0) - (87 : Int)))) wj_2)
 (J_2 wj_2))) /\
 AllJ 10 (∀ wj_3, J_2 wj_3 ->
 ∃ J_4 : FP [.one (.bool)],
 (BCase (decide (n0 >= (65 : Int)))
 (J_4 (decide (n0 <= (70 : Int))) wj_3)
 (J_4 false wj_3)) /\
 ∀ b26, AllJ 5 (∀ wj_4, J_4 b26 wj_4 ->
 BCase b26
 (K (.int .i64 (i64.wrap ((i64.wrap n0) - (55 : Int)))) wj_4)
 (K (.int .i64 (-1 : Int)) wj_4))))
theorem qlt (n0 : Int) {w : World} {K : Value -> World -> Prop} (h : qht n0 w K) : Calls prog qfm #[.int .u8 n0] w (Ret K) :=
 qo (c := qr Tryz.f238) (by kernel_rfl) Tryz.func238 (by kernel_rfl) [(2, []), (3, [(8, .one (.bool))]), (10, []), (11, [(17, .one (.bool))]), (19, [(26, .one (.bool))])] [.int .u8 n0] (of_decide_eq_true (by kernel_rfl)) _ (by kernel_rfl) h

--  cracknel/addr.group
def qiG (s0 : List UInt8) (w : World) (K : Value -> World -> Prop) : Prop :=
 ∃ J : FP [],
 (BCase (decide (((List.length s0 : Nat) : Int) < (1 : Int)))
 (K (.tuple #[.int .u16 (0 : Int), .bool false]) w)
 (BCase (decide (((List.length s0 : Nat) : Int) > (4 : Int)))
 (K (.tuple #[.int .u16 (0 : Int), .bool false]) w)
 (J w))) /\
 AllJ 10 (∀ wj, J wj ->
 Calls prog qab #[.string (mkS s0)] wj fun e17 w17 => ∃ s17, e17 = .returned (.string (mkS s17)) /\
 ∃ w18 a18 l18 c18, (convert qe qE (.string (mkS s17))).run prog w17 = .ok (.slice a18 l18 c18) w18 /\
 ∃ I : Nat -> FP [.one (.int .u16), .one (.int .i64)],
 (∃ m, I m (0 : Int) (0 : Int) w18) /\
 ∀ m n4 n20, AllJ 17 (∀ wl, I m n4 n20 wl ->
 BCase (decide (n20 < ((l18 : Nat) : Int)))
 (((0 <= n20 /\ n20 < ((l18 : Nat) : Int)) /\ Option.isSome a18 = true) /\
 ∃ n23, Ld qw (qn a18 n20 1) wl (.int .u8 n23) /\
 Calls prog qir #[.string (mkS [48, 49, 50, 51, 52, 53, 54, 55, 56, 57, 97, 98, 99, 100, 101, 102]), .int .u8 n23] wl fun e25 w25 => ∃ n25, e25 = .returned (.int .i64 n25) /\
 BCase (decide (n25 < (0 : Int)))
 (K (.tuple #[.int .u16 (0 : Int), .bool false]) w25)
 ((0 <= (4 : Int)) /\
 ∃ m' : Nat, m' < m /\ I m' (IntKind.u16.wrap (((BitVec.ofInt (IntKind.bits .u16) (IntKind.u16.wrap (n4 * 2 ^ (min (Int.toNat (4 : Int)) (IntKind.bits .u16))))) ||| (BitVec.ofInt (IntKind.bits .u16) (IntKind.u16.wrap n25))).toNat : Nat)) (i64.wrap (n20 + (1 : Int))) w25))
 (K (.tuple #[.int .u16 n4, .bool true]) wl)))
theorem qmY (s0 : List UInt8) {w : World} {K : Value -> World -> Prop} (h : qiG s0 w K) : Calls prog qgt #[.string (mkS s0)] w (Ret K) :=
 qo (c := qr Tryz.f241) (by kernel_rfl) Tryz.func241 (by kernel_rfl) [(2, []), (16, [(4, .one (.int .u16)), (20, .one (.int .i64))])] [.string (mkS s0)] (of_decide_eq_true (by kernel_rfl)) _ (by kernel_rfl) h

--  cracknel/host.Tail
def qke (v0 : Value) (n1 : Int) (w : World) (K : Value -> World -> Prop) : Prop :=
 ∀ k2 w2, k2 = w.heap.size -> w2 = w.alloc (.cells (Value.cells v0) qc) ->
 ∀ k4 w4, k4 = w2.heap.size -> w4 = w2.alloc (.cells qK qc) ->
 ∃ v7, Ld qc (some ⟨k2, 0, none⟩) w4 v7 /\
 Calls prog zA #[v7] w4 fun e8 w8 => ∃ a8 l8 c8, e8 = .returned (.slice a8 l8 c8) /\
 ∃ J : FP [],
 (∃ J_1 : FP [.one (.bool)],
 (BCase (decide (n1 < (1 : Int)))
 (J_1 true w8)
 (J_1 (decide (n1 > ((l8 : Nat) : Int))) w8)) /\
 ∀ b16, AllJ 7 (∀ wj, J_1 b16 wj ->
 BCase b16
 (∃ wx, Sv qc (some ⟨k4, 0, none⟩) (.agg qK) wj wx /\
 ∃ vr0, (qC qc (.pointer (some ⟨k4, 0, none⟩))).run prog wx = .ok vr0 wx /\
 K (.tuple #[vr0, .bool false]) wx)
 (J wj))) /\
 AllJ 10 (∀ wj_1, J wj_1 ->
 ((0 <= (i64.wrap (((l8 : Nat) : Int) - n1)) /\ (i64.wrap (((l8 : Nat) : Int) - n1)) <= ((l8 : Nat) : Int))) /\
 Calls prog jJ #[.slice (qlN a8 c8 (Int.toNat (i64.wrap (((l8 : Nat) : Int) - n1))) 1) (l8 - (Int.toNat (i64.wrap (((l8 : Nat) : Int) - n1)))) (c8 - (Int.toNat (i64.wrap (((l8 : Nat) : Int) - n1)))), .string (mkS [46])] wj_1 fun e24 w24 => ∃ s24, e24 = .returned (.string (mkS s24)) /\
 ∃ wx_1, Sv qc (some ⟨k4, 0, none⟩) (.agg #[.int .i64 (1 : Int), .string (mkS s24), .int .u8 (0 : Int), .int .u8 (0 : Int), .int .u8 (0 : Int), .int .u8 (0 : Int), .int .u8 (0 : Int), .int .u8 (0 : Int), .int .u8 (0 : Int), .int .u8 (0 : Int), .int .u8 (0 : Int), .int .u8 (0 : Int), .int .u8 (0 : Int), .int .u8 (0 : Int), .int .u8 (0 : Int), .int .u8 (0 : Int), .int .u8 (0 : Int), .int .u8 (0 : Int)]) w24 wx_1 /\
 ∃ vr0_1, (qC qc (.pointer (some ⟨k4, 0, none⟩))).run prog wx_1 = .ok vr0_1 wx_1 /\
 K (.tuple #[vr0_1, .bool true]) wx_1)
theorem qn5 (v0 : Value) (n1 : Int) {w : World} {K : Value -> World -> Prop} (h : qke v0 n1 w K) : Calls prog qcZ #[v0, .int .i64 n1] w (Ret K) :=
 qo (c := qr Tryz.f262) (by kernel_rfl) Tryz.func262 (by kernel_rfl) [(4, []), (5, [(16, .one (.bool))])] [v0, .int .i64 n1] (of_decide_eq_true (by kernel_rfl)) _ (by kernel_rfl) h

--  slices.ContainsFunc[[]string,string]
def zN (a0 : Option Addr) (l0 c0 : Nat) (w : World) (K : Value -> World -> Prop) : Prop :=
 Calls prog qaS #[.slice a0 l0 c0, .func (.func ju) #[] #[]] w fun e7 w7 => ∃ n7, e7 = .returned (.int .i64 n7) /\
 K (.bool (decide (n7 >= (0 : Int)))) w7
theorem qap (a0 : Option Addr) (l0 c0 : Nat) {w : World} {K : Value -> World -> Prop} (h : zN a0 l0 c0 w K) : Calls prog jk #[.slice a0 l0 c0, .func (.func ju) #[] #[]] w (Ret K) :=
 qo (c := qr Tryz.f64) (by kernel_rfl) Tryz.func64 (by kernel_rfl) [] [.slice a0 l0 c0, .func (.func ju) #[] #[]] (of_decide_eq_true (by kernel_rfl)) _ (by kernel_rfl) h

--  slices.IndexFunc[[]string,string]
def jb (a0 : Option Addr) (l0 c0 : Nat) (w : World) (K : Value -> World -> Prop) : Prop :=
 ∃ I : Nat -> FP [.one (.int .i64)],
 (∃ m, I m (0 : Int) w) /\
 ∀ m n8, AllJ 12 (∀ wl, I m n8 wl ->
 BCase (decide (n8 < ((l0 : Nat) : Int)))
 (((0 <= n8 /\ n8 < ((l0 : Nat) : Int)) /\ Option.isSome a0 = true) /\
 ∃ s15, Ld qe (qn a0 n8 1) wl (.string (mkS s15)) /\
 Calls prog ju #[.string (mkS s15)] wl fun e16 w16 => ∃ b16, e16 = .returned (.bool b16) /\
 BCase b16
 (K (.int .i64 n8) w16)
 (∃ m' : Nat, m' < m /\ I m' (i64.wrap (n8 + (1 : Int))) w16))
 (K (.int .i64 (-1 : Int)) wl))
theorem qaF (a0 : Option Addr) (l0 c0 : Nat) {w : World} {K : Value -> World -> Prop} (h : jb a0 l0 c0 w K) : Calls prog qaS #[.slice a0 l0 c0, .func (.func ju) #[] #[]] w (Ret K) :=
 qo (c := qr Tryz.f117) (by kernel_rfl) Tryz.func117 (by kernel_rfl) [(6, [(8, .one (.int .i64))])] [.slice a0 l0 c0, .func (.func ju) #[] #[]] (of_decide_eq_true (by kernel_rfl)) _ (by kernel_rfl) h

--  slices.ContainsFunc[[]byte,byte]
def ji (a0 : Option Addr) (l0 c0 : Nat) (w : World) (K : Value -> World -> Prop) : Prop :=
 Calls prog qbC #[.slice a0 l0 c0, .func (.func jT) #[] #[]] w fun e7 w7 => ∃ n7, e7 = .returned (.int .i64 n7) /\
 K (.bool (decide (n7 >= (0 : Int)))) w7
theorem qaO (a0 : Option Addr) (l0 c0 : Nat) {w : World} {K : Value -> World -> Prop} (h : ji a0 l0 c0 w K) : Calls prog qaV #[.slice a0 l0 c0, .func (.func jT) #[] #[]] w (Ret K) :=
 qo (c := qr Tryz.f187) (by kernel_rfl) Tryz.func187 (by kernel_rfl) [] [.slice a0 l0 c0, .func (.func jT) #[] #[]] (of_decide_eq_true (by kernel_rfl)) _ (by kernel_rfl) h

--  slices.IndexFunc[[]byte,byte]
def jt (a0 : Option Addr) (l0 c0 : Nat) (w : World) (K : Value -> World -> Prop) : Prop :=
 ∃ I : Nat -> FP [.one (.int .i64)],
 (∃ m, I m (0 : Int) w) /\
 ∀ m n8, AllJ 12 (∀ wl, I m n8 wl ->
 BCase (decide (n8 < ((l0 : Nat) : Int)))
 (((0 <= n8 /\ n8 < ((l0 : Nat) : Int)) /\ Option.isSome a0 = true) /\
 ∃ n15, Ld qw (qn a0 n8 1) wl (.int .u8 n15) /\
 Calls prog jT #[.int .u8 n15] wl fun e16 w16 => ∃ b16, e16 = .returned (.bool b16) /\
 BCase b16
 (K (.int .i64 n8) w16)
 (∃ m' : Nat, m' < m /\ I m' (i64.wrap (n8 + (1 : Int))) w16))
 (K (.int .i64 (-1 : Int)) wl))
theorem qa0 (a0 : Option Addr) (l0 c0 : Nat) {w : World} {K : Value -> World -> Prop} (h : jt a0 l0 c0 w K) : Calls prog qbC #[.slice a0 l0 c0, .func (.func jT) #[] #[]] w (Ret K) :=
 qo (c := qr Tryz.f243) (by kernel_rfl) Tryz.func243 (by kernel_rfl) [(6, [(8, .one (.int .i64))])] [.slice a0 l0 c0, .func (.func jT) #[] #[]] (of_decide_eq_true (by kernel_rfl)) _ (by kernel_rfl) h

--  strconv.FormatUint
def qdt (n0 : Int) (n1 : Int) (w : World) (K : Value -> World -> Prop) : Prop :=
 Calls prog qbs #[.int .u64 n0, .int .i64 n1] w fun e7 w7 => ∃ s7, e7 = .returned (.string (mkS s7)) /\
 K (.string (mkS s7)) w7
theorem qf1 (n0 : Int) (n1 : Int) {w : World} {K : Value -> World -> Prop} (h : qdt n0 n1 w K) : Calls prog qcd #[.int .u64 n0, .int .i64 n1] w (Ret K) :=
 qo (c := qr Tryz.f247) (by kernel_rfl) Tryz.func247 (by kernel_rfl) [] [.int .u64 n0, .int .i64 n1] (of_decide_eq_true (by kernel_rfl)) _ (by kernel_rfl) h

--  internal/strconv.FormatUint
def qa1 (n0 : Int) (n1 : Int) (w : World) (K : Value -> World -> Prop) : Prop :=
 BCase (n1 == (10 : Int))
 (BCase (decide (n0 < (100 : Int)))
 (Calls prog qe4 #[.int .i64 (i64.wrap n0)] w fun e15 w15 => ∃ s15, e15 = .returned (.string (mkS s15)) /\
 K (.string (mkS s15)) w15)
 (∀ k5 w5, k5 = w.heap.size -> w5 = w.alloc (.cells qnO qns) ->
 Calls prog qdO #[.int .u64 n0] w5 fun e17 w17 => ∃ n17, e17 = .returned (.int .i64 n17) /\
 ((0 <= n17 /\ n17 <= ((24 : Nat) : Int))) /\
 Calls prog qc1 #[.slice (some ⟨k5, 0, none⟩) (Int.toNat n17) 24, .int .u64 n0] w17 fun e21 w21 => e21 = .returned (.tuple #[]) /\
 ((0 <= n17 /\ n17 <= ((24 : Nat) : Int))) /\
 ∃ s24, (convert qE qe (.slice (some ⟨k5, 0, none⟩) (Int.toNat n17) 24)).run prog w21 = .ok (.string (mkS s24)) w21 /\
 K (.string (mkS s24)) w21))
 (Calls prog j3 #[.slice none 0 0, .int .u64 n0, .int .i64 n1, .bool false, .bool false] w fun e28 w28 => ∃ a28_0 l28_0 c28_0 s28_1, e28 = .returned (.tuple #[.slice a28_0 l28_0 c28_0, .string (mkS s28_1)]) /\
 K (.string (mkS s28_1)) w28)
theorem qc2 (n0 : Int) (n1 : Int) {w : World} {K : Value -> World -> Prop} (h : qa1 n0 n1 w K) : Calls prog qbs #[.int .u64 n0, .int .i64 n1] w (Ret K) :=
 qo (c := qr Tryz.f277) (by kernel_rfl) Tryz.func277 (by kernel_rfl) [] [.int .u64 n0, .int .i64 n1] (of_decide_eq_true (by kernel_rfl)) _ (by kernel_rfl) h

--  internal/strconv.formatBits
def qa8 (a0 : Option Addr) (l0 c0 : Nat) (n1 : Int) (n2 : Int) (b3 : Bool) (b4 : Bool) (w : World) (K : Value -> World -> Prop) : Prop :=
 ∃ J : FP [],
 (∃ J_1 : FP [.one (.bool)],
 (BCase (decide (n2 < (2 : Int)))
 (J_1 true w)
 (BCase (n2 == (10 : Int))
 (J_1 true w)
 (J_1 (decide (n2 > (36 : Int))) w))) /\
 ∀ b28, AllJ 9 (∀ wj, J_1 b28 wj ->
 BCase b28
 (False)
 (J wj))) /\
 AllJ 11 (∀ wj_1, J wj_1 ->
 ∀ k12 w12, k12 = wj_1.heap.size -> w12 = wj_1.alloc (.cells qoz qdR) ->
 ∃ J_2 : FP [.one (.int .u64)],
 (BCase b3
 (J_2 (IntKind.u64.wrap (0 - n1)) w12)
 (J_2 n1 w12)) /\
 ∀ n1_1, AllJ 3 (∀ wj_2, J_2 n1_1 wj_2 ->
 ∃ J_3 : FP [.one (.int .i64)],
 (Calls prog qaW #[.int .i64 n2] wj_2 fun e34 w34 => ∃ b34, e34 = .returned (.bool b34) /\
 BCase b34
 (Calls prog qaL #[.int .u64 (IntKind.u64.wrap n2)] w34 fun e37 w37 => ∃ n37, e37 = .returned (.int .i64 n37) /\
 ∃ I : Nat -> FP [.one (.int .u64), .one (.int .i64)],
 (∃ m, I m n1_1 (65 : Int) w37) /\
 ∀ m n1_2 n13, AllJ 14 (∀ wl, I m n1_2 n13 wl ->
 BCase (decide (n1_2 >= (IntKind.u64.wrap n2)))
 (((0 <= (IntKind.u64.wrap (((BitVec.ofInt (IntKind.bits .u64) n1_2) &&& (BitVec.ofInt (IntKind.bits .u64) (IntKind.u64.wrap ((IntKind.u64.wrap n2) - (1 : Int))))).toNat : Nat)) /\ (IntKind.u64.wrap (((BitVec.ofInt (IntKind.bits .u64) n1_2) &&& (BitVec.ofInt (IntKind.bits .u64) (IntKind.u64.wrap ((IntKind.u64.wrap n2) - (1 : Int))))).toNat : Nat)) < ((List.length [48, 49, 50, 51, 52, 53, 54, 55, 56, 57, 97, 98, 99, 100, 101, 102, 103, 104, 105, 106, 107, 108, 109, 110, 111, 112, 113, 114, 115, 116, 117, 118, 119, 120, 121, 122] : Nat) : Int))) /\
 ((0 <= (i64.wrap (n13 - (1 : Int))) /\ (i64.wrap (n13 - (1 : Int))) < ((65 : Nat) : Int)) /\ true = true) /\
 ∃ wx, Sv qw (qn (some ⟨k12, 0, none⟩) (i64.wrap (n13 - (1 : Int))) 1) (.int .u8 (qA [48, 49, 50, 51, 52, 53, 54, 55, 56, 57, 97, 98, 99, 100, 101, 102, 103, 104, 105, 106, 107, 108, 109, 110, 111, 112, 113, 114, 115, 116, 117, 118, 119, 120, 121, 122] (IntKind.u64.wrap (((BitVec.ofInt (IntKind.bits .u64) n1_2) &&& (BitVec.ofInt (IntKind.bits .u64) (IntKind.u64.wrap ((IntKind.u64.wrap n2) - (1 : Int))))).toNat : Nat)))) wl wx /\
 (0 <= (IntKind.u64.wrap n37)) /\
 ∃ m' : Nat, m' < m /\ I m' (Int.fdiv n1_2 (2 ^ (min (Int.toNat (IntKind.u64.wrap n37)) (IntKind.bits .u64)))) (i64.wrap (n13 - (1 : Int))) wx)
 (((0 <= n1_2 /\ n1_2 < ((List.length [48, 49, 50, 51, 52, 53, 54, 55, 56, 57, 97, 98, 99, 100, 101, 102, 103, 104, 105, 106, 107, 108, 109, 110, 111, 112, 113, 114, 115, 116, 117, 118, 119, 120, 121, 122] : Nat) : Int))) /\
 ((0 <= (i64.wrap (n13 - (1 : Int))) /\ (i64.wrap (n13 - (1 : Int))) < ((65 : Nat) : Int)) /\ true = true) /\
 ∃ wx_1, Sv qw (qn (some ⟨k12, 0, none⟩) (i64.wrap (n13 - (1 : Int))) 1) (.int .u8 (qA [48, 49, 50, 51, 52, 53, 54, 55, 56, 57, 97, 98, 99, 100, 101, 102, 103, 104, 105, 106, 107, 108, 109, 110, 111, 112, 113, 114, 115, 116, 117, 118, 119, 120, 121, 122] n1_2)) wl wx_1 /\
 J_3 (i64.wrap (n13 - (1 : Int))) wx_1)))
 (∃ I_1 : Nat -> FP [.one (.int .u64), .one (.int .i64)],
 (∃ m_1, I_1 m_1 n1_1 (65 : Int) w34) /\
 ∀ m_1 n1_3 n13_1, AllJ 18 (∀ wl_1, I_1 m_1 n1_3 n13_1 wl_1 ->
 BCase (decide (n1_3 >= (IntKind.u64.wrap n2)))
 (((IntKind.u64.wrap n2) ≠ 0) /\
 ∀ q73, q73 = (IntKind.u64.wrap (Int.tdiv n1_3 (IntKind.u64.wrap n2))) ->
 ((0 <= (IntKind.u64.wrap (n1_3 - (IntKind.u64.wrap (q73 * (IntKind.u64.wrap n2))))) /\ (IntKind.u64.wrap (n1_3 - (IntKind.u64.wrap (q73 * (IntKind.u64.wrap n2))))) < ((List.length [48, 49, 50, 51, 52, 53, 54, 55, 56, 57, 97, 98, 99, 100, 101, 102, 103, 104, 105, 106, 107, 108, 109, 110, 111, 112, 113, 114, 115, 116, 117, 118, 119, 120, 121, 122] : Nat) : Int))) /\
 ((0 <= (i64.wrap (n13_1 - (1 : Int))) /\ (i64.wrap (n13_1 - (1 : Int))) < ((65 : Nat) : Int)) /\ true = true) /\
 ∃ wx_2, Sv qw (qn (some ⟨k12, 0, none⟩) (i64.wrap (n13_1 - (1 : Int))) 1) (.int .u8 (qA [48, 49, 50, 51, 52, 53, 54, 55, 56, 57, 97, 98, 99, 100, 101, 102, 103, 104, 105, 106, 107, 108, 109, 110, 111, 112, 113, 114, 115, 116, 117, 118, 119, 120, 121, 122] (IntKind.u64.wrap (n1_3 - (IntKind.u64.wrap (q73 * (IntKind.u64.wrap n2))))))) wl_1 wx_2 /\
 ∃ m'_1 : Nat, m'_1 < m_1 /\ I_1 m'_1 q73 (i64.wrap (n13_1 - (1 : Int))) wx_2)
 (((0 <= n1_3 /\ n1_3 < ((List.length [48, 49, 50, 51, 52, 53, 54, 55, 56, 57, 97, 98, 99, 100, 101, 102, 103, 104, 105, 106, 107, 108, 109, 110, 111, 112, 113, 114, 115, 116, 117, 118, 119, 120, 121, 122] : Nat) : Int))) /\
 ((0 <= (i64.wrap (n13_1 - (1 : Int))) /\ (i64.wrap (n13_1 - (1 : Int))) < ((65 : Nat) : Int)) /\ true = true) /\
 ∃ wx_3, Sv qw (qn (some ⟨k12, 0, none⟩) (i64.wrap (n13_1 - (1 : Int))) 1) (.int .u8 (qA [48, 49, 50, 51, 52, 53, 54, 55, 56, 57, 97, 98, 99, 100, 101, 102, 103, 104, 105, 106, 107, 108, 109, 110, 111, 112, 113, 114, 115, 116, 117, 118, 119, 120, 121, 122] n1_3)) wl_1 wx_3 /\
 J_3 (i64.wrap (n13_1 - (1 : Int))) wx_3)))) /\
 ∀ n13_2, AllJ 62 (∀ wj_3, J_3 n13_2 wj_3 ->
 ∃ J_4 : FP [.one (.int .i64)],
 (BCase b3
 (((0 <= (i64.wrap (n13_2 - (1 : Int))) /\ (i64.wrap (n13_2 - (1 : Int))) < ((65 : Nat) : Int)) /\ true = true) /\
 ∃ wx_4, Sv qw (qn (some ⟨k12, 0, none⟩) (i64.wrap (n13_2 - (1 : Int))) 1) (.int .u8 (45 : Int)) wj_3 wx_4 /\
 J_4 (i64.wrap (n13_2 - (1 : Int))) wx_4)
 (J_4 n13_2 wj_3)) /\
 ∀ n13_3, AllJ 5 (∀ wj_4, J_4 n13_3 wj_4 ->
 BCase b4
 (((0 <= n13_3 /\ n13_3 <= ((65 : Nat) : Int))) /\
 ∃ w98 a98 l98 c98, (Builtin.append_ #[qE, qE] qE #[.slice a0 l0 c0, .slice (some (if 65 = (Int.toNat n13_3) then ⟨k12, 0, none⟩ else Addr.add ⟨k12, 0, none⟩ ((Int.toNat n13_3) * 1))) (65 - (Int.toNat n13_3)) (65 - (Int.toNat n13_3))]).run prog wj_4 = .ok (.slice a98 l98 c98) w98 /\
 K (.tuple #[.slice a98 l98 c98, .string (mkS [])]) w98)
 (((0 <= n13_3 /\ n13_3 <= ((65 : Nat) : Int))) /\
 ∃ s101, (convert qE qe (.slice (some (if 65 = (Int.toNat n13_3) then ⟨k12, 0, none⟩ else Addr.add ⟨k12, 0, none⟩ ((Int.toNat n13_3) * 1))) (65 - (Int.toNat n13_3)) (65 - (Int.toNat n13_3)))).run prog wj_4 = .ok (.string (mkS s101)) wj_4 /\
 K (.tuple #[.slice none 0 0, .string (mkS s101)]) wj_4)))))
theorem qc8 (a0 : Option Addr) (l0 c0 : Nat) (n1 : Int) (n2 : Int) (b3 : Bool) (b4 : Bool) {w : World} {K : Value -> World -> Prop} (h : qa8 a0 l0 c0 n1 n2 b3 b4 w K) : Calls prog j3 #[.slice a0 l0 c0, .int .u64 n1, .int .i64 n2, .bool b3, .bool b4] w (Ret K) :=
 qo (c := qr Tryz.f293) (by kernel_rfl) Tryz.func293 (by kernel_rfl) [(2, []), (3, [(28, .one (.bool))]), (12, [(1, .one (.int .u64))]), (18, [(13, .one (.int .i64))]), (30, [(1, .one (.int .u64)), (13, .one (.int .i64))]), (50, [(1, .one (.int .u64)), (13, .one (.int .i64))]), (68, [(13, .one (.int .i64))])] [.slice a0 l0 c0, .int .u64 n1, .int .i64 n2, .bool b3, .bool b4] (of_decide_eq_true (by kernel_rfl)) _ (by kernel_rfl) h

--  internal/strconv.isPowerOfTwo
def qaR (n0 : Int) (w : World) (K : Value -> World -> Prop) : Prop :=
 K (.bool ((i64.wrap (((BitVec.ofInt (IntKind.bits .i64) n0) &&& (BitVec.ofInt (IntKind.bits .i64) (i64.wrap (n0 - (1 : Int))))).toNat : Nat)) == (0 : Int))) w
theorem qcz (n0 : Int) {w : World} {K : Value -> World -> Prop} (h : qaR n0 w K) : Calls prog qaW #[.int .i64 n0] w (Ret K) :=
 qo (c := qr Tryz.f304) (by kernel_rfl) Tryz.func304 (by kernel_rfl) [] [.int .i64 n0] (of_decide_eq_true (by kernel_rfl)) _ (by kernel_rfl) h

--  math/bits.TrailingZeros
def qb8 (n0 : Int) (w : World) (K : Value -> World -> Prop) : Prop :=
 Calls prog qbQ #[.int .u64 n0] w fun e7 w7 => ∃ n7, e7 = .returned (.int .i64 n7) /\
 K (.int .i64 n7) w7
theorem qdW (n0 : Int) {w : World} {K : Value -> World -> Prop} (h : qb8 n0 w K) : Calls prog qaL #[.int .u64 n0] w (Ret K) :=
 qo (c := qr Tryz.f305) (by kernel_rfl) Tryz.func305 (by kernel_rfl) [] [.int .u64 n0] (of_decide_eq_true (by kernel_rfl)) _ (by kernel_rfl) h

--  math/bits.TrailingZeros64
def qbB (n0 : Int) (w : World) (K : Value -> World -> Prop) : Prop :=
 BCase (n0 == (0 : Int))
 (K (.int .i64 (64 : Int)) w)
 ((0 <= (58 : Int)) /\
 ((0 <= (Int.fdiv (IntKind.u64.wrap ((IntKind.u64.wrap (((BitVec.ofInt (IntKind.bits .u64) n0) &&& (BitVec.ofInt (IntKind.bits .u64) (IntKind.u64.wrap (0 - n0)))).toNat : Nat)) * (285870213051353865 : Int))) (2 ^ (min (Int.toNat (58 : Int)) (IntKind.bits .u64)))) /\ (Int.fdiv (IntKind.u64.wrap ((IntKind.u64.wrap (((BitVec.ofInt (IntKind.bits .u64) n0) &&& (BitVec.ofInt (IntKind.bits .u64) (IntKind.u64.wrap (0 - n0)))).toNat : Nat)) * (285870213051353865 : Int))) (2 ^ (min (Int.toNat (58 : Int)) (IntKind.bits .u64)))) < ((64 : Nat) : Int)) /\ true = true) /\
 ∃ n12, Ld qw (qn (some ⟨5, 0, none⟩) (Int.fdiv (IntKind.u64.wrap ((IntKind.u64.wrap (((BitVec.ofInt (IntKind.bits .u64) n0) &&& (BitVec.ofInt (IntKind.bits .u64) (IntKind.u64.wrap (0 - n0)))).toNat : Nat)) * (285870213051353865 : Int))) (2 ^ (min (Int.toNat (58 : Int)) (IntKind.bits .u64)))) 1) w (.int .u8 n12) /\
 K (.int .i64 (i64.wrap n12)) w)
theorem qdB (n0 : Int) {w : World} {K : Value -> World -> Prop} (h : qbB n0 w K) : Calls prog qbQ #[.int .u64 n0] w (Ret K) :=
 qo (c := qr Tryz.f312) (by kernel_rfl) Tryz.func312 (by kernel_rfl) [] [.int .u64 n0] (of_decide_eq_true (by kernel_rfl)) _ (by kernel_rfl) h
end Go.Proofs.YtndbpedpdbjkpaaGreatDoor
