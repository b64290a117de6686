/- What the laws lean on: V3, V1, Env, Split, DateP, DateQ, OctA, Shelf, DateE, DateF, DateJ, DateL, DateN, DateT, HdrA, HdrB, HdrC, AddrA, AddrP, AddrB, AddrC, AddrD; what is used. Its conditions: none. -/
import Derived.Test.YtpafoodmpjlkhaaGreatDoorKB
import Derived.Lib.LaidTab
import Derived.Lib.ItoaMem
import Derived.Lib.SplitLaws
import Derived.Lib.IndexMore
import Init
import Derived.Shelf.Strings.SlTrimAscii
import Derived.Shelf.Strings.Builder1
import Derived.Shelf.Strings.Builder2
import Derived.Shelf.Strings.OnBuilder
import Derived.Shelf.Strings.Trim
import Derived.Shelf.Small.Utf8
import Derived.Shelf.Small.Bits
import Derived.Shelf.Small.Strs
import Derived.Shelf.Small.Wraps
import Derived.Shelf.Strings.BuilderF
import Derived.Shelf.Strings.BuilderK
import Derived.Shelf.Utf8.RuneCount
import Derived.Shelf.Strings.Builder2Cap
import Derived.Shelf.Strconv.Itoa0
import Derived.Shelf.Strconv.Itoa1
import Derived.Shelf.LaysM
import Derived.Shelf.Strconv.Itoa2
import Derived.Shelf.Strconv.Itoa3
import Derived.Shelf.Strings.Search1
import Derived.Shelf.Strings.Search2
import Derived.Shelf.Strings.Search3
import Derived.Shelf.Strings.Cut
import Derived.Shelf.Strings.Count
import Derived.Shelf.Strings.Shaped
import Derived.Shelf.Sort.Plain
import Derived.Shelf.Strings.Prefix
import Derived.Shelf.Strings.Split
import Derived.Shelf.Strings.SplitShaped
import Derived.Shelf.Unicode.Decode
import Derived.Shelf.Strings.Runes
import Derived.Shelf.Strings.RuneCount
import Derived.Shelf.Strings.AsciiSet
import Derived.Shelf.Strings.Explode
import Derived.Shelf.Bits.Mul64
import Derived.Shelf.Unicode.DecodeSlow
import Derived.Shelf.Unicode.DecodeAny
import Derived.Shelf.Unicode.DecodeLast
import Derived.Shelf.Strings.BuilderCap
import Derived.Shelf.Slices.Turned
import Derived.Ground.Names2Prog
import Derived.Shelf.Slices.Clone
import Derived.Shelf.Slices.CompactS
import Derived.Shelf.Slices.Cells
import Derived.Shelf.Slices.In.SortNone
import Derived.Ground.SlgnProg
import Derived.Shelf.SlicesE.Clone
import Derived.Test.YtpafoodmpjlkhaaGreatDoorProg
import Derived.Lib.Atoi
import Derived.Lib.ConvBytes
import Derived.Laws.CopyRow
open Go.IntKind (i64)
open Go.Proofs.Tryz (prog)
set_option linter.unusedVariables false
set_option maxRecDepth 100000
namespace Go.Proofs.YtpafoodmpjlkhaaGreatDoor
open Go.Pk
open Go.RowKit (Below)
--  cracknel/cracknelref03.Right
def tk (s0 : List UInt8) (w : World) (K : Value -> World -> Prop) : Prop :=
 ∀ k2 w2, k2 = w.heap.size -> w2 = w.alloc (.cells aL ae) ->
 Calls prog lI #[.string (mkS s0), .string (mkS [91])] w2 fun e15 w15 => ∃ s15_0 b15_1, e15 = .returned (.tuple #[.string (mkS s15_0), .bool b15_1]) /\
 af b15_1
 (Calls prog rL #[.string (mkS s15_0), .string (mkS [93])] w15 fun e21 w21 => ∃ s21_0 b21_1, e21 = .returned (.tuple #[.string (mkS s21_0), .bool b21_1]) /\
 Calls prog vV #[.string (mkS s21_0)] w21 fun e26 w26 => ∃ v26_0 b26_1, e26 = .returned (.tuple #[v26_0, .bool b26_1]) /\
 ∀ k8 w8, k8 = w26.heap.size -> w8 = w26.alloc (.cells aG ai) ->
 ∃ wx, Sv ai (some ⟨k8, 0, none⟩) v26_0 w8 wx /\
 ∃ v29, Ld ai (some ⟨k8, 0, none⟩) wx v29 /\
 af b26_1
 (Calls prog iq #[.int .i64 (3 : Int), v29, .bool b21_1] wx fun e34 w34 => ∃ v34_0 n34_1, e34 = .returned (.tuple #[v34_0, .int .i64 n34_1]) /\
 ∃ wx_1, Sv ae (some ⟨k2, 0, none⟩) v34_0 w34 wx_1 /\
 ∃ vr0, (bm ae (.pointer (some ⟨k2, 0, none⟩))).run prog wx_1 = .ok vr0 wx_1 /\
 K (.tuple #[vr0, .int .i64 n34_1]) wx_1)
 (Calls prog iq #[.int .i64 (3 : Int), v29, .bool false] wx fun e34_1 w34_1 => ∃ v34_0_1 n34_1_1, e34_1 = .returned (.tuple #[v34_0_1, .int .i64 n34_1_1]) /\
 ∃ wx_2, Sv ae (some ⟨k2, 0, none⟩) v34_0_1 w34_1 wx_2 /\
 ∃ vr0_1, (bm ae (.pointer (some ⟨k2, 0, none⟩))).run prog wx_2 = .ok vr0_1 wx_2 /\
 K (.tuple #[vr0_1, .int .i64 n34_1_1]) wx_2))
 (Calls prog lj #[.string (mkS s0)] w15 fun e38 w38 => ∃ s38, e38 = .returned (.string (mkS s38)) /\
 Calls prog gY #[.string (mkS s38), .int .u8 (46 : Int)] w38 fun e39 w39 => ∃ a39 l39 c39, e39 = .returned (.slice a39 l39 c39) /\
 ((0 <= (i64.wrap (((l39 : Nat) : Int) - (1 : Int))) /\ (i64.wrap (((l39 : Nat) : Int) - (1 : Int))) < ((l39 : Nat) : Int)) /\ Option.isSome a39 = true) /\
 ∃ s45, Ld ar (ao a39 (i64.wrap (((l39 : Nat) : Int) - (1 : Int))) 1) w39 (.string (mkS s45)) /\
 Calls prog ir #[.string (mkS s45)] w39 fun e46 w46 => ∃ b46, e46 = .returned (.bool b46) /\
 af b46
 (Calls prog vU #[.string (mkS s0)] w46 fun e49 w49 => ∃ v49_0 b49_1, e49 = .returned (.tuple #[v49_0, .bool b49_1]) /\
 ∀ k11 w11, k11 = w49.heap.size -> w11 = w49.alloc (.cells aG ai) ->
 ∃ wx_3, Sv ai (some ⟨k11, 0, none⟩) v49_0 w11 wx_3 /\
 ∃ v52, Ld ai (some ⟨k11, 0, none⟩) wx_3 v52 /\
 Calls prog iq #[.int .i64 (2 : Int), v52, .bool b49_1] wx_3 fun e54 w54 => ∃ v54_0 n54_1, e54 = .returned (.tuple #[v54_0, .int .i64 n54_1]) /\
 ∃ wx_4, Sv ae (some ⟨k2, 0, none⟩) v54_0 w54 wx_4 /\
 ∃ vr0_2, (bm ae (.pointer (some ⟨k2, 0, none⟩))).run prog wx_4 = .ok vr0_2 wx_4 /\
 K (.tuple #[vr0_2, .int .i64 n54_1]) wx_4)
 (∃ J : FP [],
 (∃ J_1 : FP [.one (.bool)],
 (af (decide (((List.length s0 : Nat) : Int) > (253 : Int)))
 (J_1 true w46)
 (Calls prog bf #[.slice a39 l39 c39, .func (.func cA) #[] #[]] w46 fun e62 w62 => ∃ b62, e62 = .returned (.bool b62) /\
 J_1 b62 w62)) /\
 ∀ b63, aE 6 (∀ wj, J_1 b63 wj ->
 af b63
 (∃ wx_5, Sv ae (some ⟨k2, 0, none⟩) (.agg aL) wj wx_5 /\
 ∃ vr0_3, (bm ae (.pointer (some ⟨k2, 0, none⟩))).run prog wx_5 = .ok vr0_3 wx_5 /\
 K (.tuple #[vr0_3, .int .i64 (31 : Int)]) wx_5)
 (J wj))) /\
 aE 9 (∀ wj_1, J wj_1 ->
 Calls prog ke #[.slice a39 l39 c39, .string (mkS [46])] wj_1 fun e66 w66 => ∃ s66, e66 = .returned (.string (mkS s66)) /\
 ∃ wx_6, Sv ae (some ⟨k2, 0, none⟩) (.agg #[.int .i64 (1 : Int), .string (mkS s66), .int .u8 (0 : Int), .int .u8 (0 : Int), .int .u8 (0 : Int), .int .u8 (0 : Int), .int .u8 (0 : Int), .int .u8 (0 : Int), .int .u8 (0 : Int), .int .u8 (0 : Int), .int .u8 (0 : Int), .int .u8 (0 : Int), .int .u8 (0 : Int), .int .u8 (0 : Int), .int .u8 (0 : Int), .int .u8 (0 : Int), .int .u8 (0 : Int), .int .u8 (0 : Int)]) w66 wx_6 /\
 ∃ vr0_4, (bm ae (.pointer (some ⟨k2, 0, none⟩))).run prog wx_6 = .ok vr0_4 wx_6 /\
 K (.tuple #[vr0_4, .int .i64 (0 : Int)]) wx_6)))
theorem xT (s0 : List UInt8) {w : World} {K : Value -> World -> Prop} (h : tk s0 w K) : Calls prog kq #[.string (mkS s0)] w (Ret K) :=
 au (c := ay Tryz.f65) (by kernel_rfl) Tryz.func65 (by kernel_rfl) [(28, []), (29, [(63, .one (.bool))])] [.string (mkS s0)] (of_decide_eq_true (by kernel_rfl)) _ (by kernel_rfl) h

--  cracknel/host.Right
def tl (v0 : Value) (w : World) (K : Value -> World -> Prop) : Prop :=
 ∀ k1 w1, k1 = w.heap.size -> w1 = w.alloc (.cells (Value.cells v0) ae) ->
 ∃ v6, Ld ae (some ⟨k1, 0, none⟩) w1 v6 /\
 Calls prog oB #[v6] w1 fun e7 w7 => ∃ s7, e7 = .returned (.string (mkS s7)) /\
 Calls prog kq #[.string (mkS s7)] w7 fun e8 w8 => ∃ v8_0 n8_1, e8 = .returned (.tuple #[v8_0, .int .i64 n8_1]) /\
 ∀ k3 w3, k3 = w8.heap.size -> w3 = w8.alloc (.cells aL ae) ->
 ∃ wx, Sv ae (some ⟨k3, 0, none⟩) v8_0 w3 wx /\
 af (n8_1 == (0 : Int))
 (∃ v14, Ld ae (some ⟨k3, 0, none⟩) wx v14 /\
 ∃ v15, Ld ae (some ⟨k1, 0, none⟩) wx v15 /\
 ∃ b16, ((do eqGuard .eql ae (.tmp 14) (.tmp 15) v14 v15; binOp .eql ae v14 v15 : Sem Value)).run prog wx = .ok (.bool b16) wx /\
 K (.bool b16) wx)
 (K (.bool false) wx)
theorem xU (v0 : Value) {w : World} {K : Value -> World -> Prop} (h : tl v0 w K) : Calls prog pN #[v0] w (Ret K) :=
 au (c := ay Tryz.f67) (by kernel_rfl) Tryz.func67 (by kernel_rfl) [] [v0] (of_decide_eq_true (by kernel_rfl)) _ (by kernel_rfl) h

--  cracknel/host.Labels
def rr (v0 : Value) (w : World) (K : Value -> World -> Prop) : Prop :=
 ∀ k1 w1, k1 = w.heap.size -> w1 = w.alloc (.cells (Value.cells v0) ae) ->
 ∃ J : FP [],
 ((true = true) /\
 ∃ n4, Ld az (some ⟨k1, 0, none⟩) w1 (.int .i64 n4) /\
 af (n4 != (1 : Int))
 (K (.slice none 0 0) w1)
 (∃ v7, Ld ae (some ⟨k1, 0, none⟩) w1 v7 /\
 Calls prog pN #[v7] w1 fun e8 w8 => ∃ b8, e8 = .returned (.bool b8) /\
 af (!b8)
 (K (.slice none 0 0) w8)
 (J w8))) /\
 aE 9 (∀ wj, J wj ->
 (true = true) /\
 ∃ s12, Ld ar (some ⟨k1, 1, none⟩) wj (.string (mkS s12)) /\
 Calls prog gY #[.string (mkS s12), .int .u8 (46 : Int)] wj fun e13 w13 => ∃ a13 l13 c13, e13 = .returned (.slice a13 l13 c13) /\
 K (.slice a13 l13 c13) w13)
theorem wR (v0 : Value) {w : World} {K : Value -> World -> Prop} (h : rr v0 w K) : Calls prog oA #[v0] w (Ret K) :=
 au (c := ay Tryz.f68) (by kernel_rfl) Tryz.func68 (by kernel_rfl) [(2, [])] [v0] (of_decide_eq_true (by kernel_rfl)) _ (by kernel_rfl) h

--  cracknel/host.Text
def uR (v0 : Value) (w : World) (K : Value -> World -> Prop) : Prop :=
 ∀ k1 w1, k1 = w.heap.size -> w1 = w.alloc (.cells (Value.cells v0) ae) ->
 (true = true) /\
 ∃ n4, Ld az (some ⟨k1, 0, none⟩) w1 (.int .i64 n4) /\
 af (n4 == (1 : Int))
 ((true = true) /\
 ∃ s8, Ld ar (some ⟨k1, 1, none⟩) w1 (.string (mkS s8)) /\
 K (.string (mkS s8)) w1)
 (af (n4 == (2 : Int))
 ((true = true) /\
 ∃ v12, Ld ai (some ⟨k1, 2, none⟩) w1 v12 /\
 Calls prog pI #[v12] w1 fun e13 w13 => ∃ s13, e13 = .returned (.string (mkS s13)) /\
 K (.string (mkS s13)) w13)
 (af (n4 == (3 : Int))
 ((true = true) /\
 ∃ v17, Ld ai (some ⟨k1, 2, none⟩) w1 v17 /\
 Calls prog pJ #[v17] w1 fun e18 w18 => ∃ s18, e18 = .returned (.string (mkS s18)) /\
 ((((List.length [91] + List.length s18 : Nat) : Int) <= i64.max)) /\
 ∀ s19, s19 = ([91] ++ s18) ->
 ((((List.length s19 + List.length [93] : Nat) : Int) <= i64.max)) /\
 ∀ s20, s20 = (s19 ++ [93]) ->
 K (.string (mkS s20)) w18)
 (K (.string (mkS [])) w1)))
theorem zX (v0 : Value) {w : World} {K : Value -> World -> Prop} (h : uR v0 w K) : Calls prog oB #[v0] w (Ret K) :=
 au (c := ay Tryz.f69) (by kernel_rfl) Tryz.func69 (by kernel_rfl) [] [v0] (of_decide_eq_true (by kernel_rfl)) _ (by kernel_rfl) h

--  cracknel/cracknelref02.Text4
def yR (s0 : List UInt8) (w : World) (K : Value -> World -> Prop) : Prop :=
 ∀ k2 w2, k2 = w.heap.size -> w2 = w.alloc (.cells aG ai) ->
 Calls prog zj #[.string (mkS s0), .string (mkS [58, 58])] w2 fun e15 w15 => ∃ s15_0 s15_1 b15_2, e15 = .returned (.tuple #[.string (mkS s15_0), .string (mkS s15_1), .bool b15_2]) /\
 Calls prog qJ #[.string (mkS s15_0)] w15 fun e21 w21 => ∃ a21_0 l21_0 c21_0 b21_1, e21 = .returned (.tuple #[.slice a21_0 l21_0 c21_0, .bool b21_1]) /\
 Calls prog qJ #[.string (mkS s15_1)] w21 fun e26 w26 => ∃ a26_0 l26_0 c26_0 b26_1, e26 = .returned (.tuple #[.slice a26_0 l26_0 c26_0, .bool b26_1]) /\
 ∃ J : FP [],
 (∃ J_1 : FP [.one (.bool)],
 (af (!b21_1)
 (J_1 true w26)
 (af (!b26_1)
 (J_1 true w26)
 (af b15_2
 (af (decide ((i64.wrap (((l21_0 : Nat) : Int) + ((l26_0 : Nat) : Int))) >= (8 : Int)))
 (J_1 true w26)
 (af (!b15_2)
 (J_1 ((i64.wrap (((l21_0 : Nat) : Int) + ((l26_0 : Nat) : Int))) != (8 : Int)) w26)
 (J_1 false w26)))
 (af (!b15_2)
 (J_1 ((i64.wrap (((l21_0 : Nat) : Int) + ((l26_0 : Nat) : Int))) != (8 : Int)) w26)
 (J_1 false w26))))) /\
 ∀ b54, aE 20 (∀ wj, J_1 b54 wj ->
 af b54
 (∃ wx, Sv ai (some ⟨k2, 0, none⟩) (.agg aG) wj wx /\
 ∃ vr0, (bm ai (.pointer (some ⟨k2, 0, none⟩))).run prog wx = .ok vr0 wx /\
 K (.tuple #[vr0, .bool false]) wx)
 (J wj))) /\
 aE 23 (∀ wj_1, J wj_1 ->
 ∀ k12 w12, k12 = wj_1.heap.size -> w12 = wj_1.alloc (.cells #[.int .u16 (0 : Int), .int .u16 (0 : Int), .int .u16 (0 : Int), .int .u16 (0 : Int), .int .u16 (0 : Int), .int .u16 (0 : Int), .int .u16 (0 : Int), .int .u16 (0 : Int)] aJ) ->
 (True) /\
 ∃ w58 n58, (Builtin.copy_ #[dG, dG] az #[.slice (some ⟨k12, 0, none⟩) 8 8, .slice a21_0 l21_0 c21_0]).run prog w12 = .ok (.int .i64 n58) w58 /\
 ((0 <= (i64.wrap ((8 : Int) - ((l26_0 : Nat) : Int))) /\ (i64.wrap ((8 : Int) - ((l26_0 : Nat) : Int))) <= ((8 : Nat) : Int))) /\
 ∃ w64 n64, (Builtin.copy_ #[dG, dG] az #[.slice (some (if 8 = (Int.toNat (i64.wrap ((8 : Int) - ((l26_0 : Nat) : Int)))) then ⟨k12, 0, none⟩ else Addr.add ⟨k12, 0, none⟩ ((Int.toNat (i64.wrap ((8 : Int) - ((l26_0 : Nat) : Int)))) * 1))) (8 - (Int.toNat (i64.wrap ((8 : Int) - ((l26_0 : Nat) : Int))))) (8 - (Int.toNat (i64.wrap ((8 : Int) - ((l26_0 : Nat) : Int))))), .slice a26_0 l26_0 c26_0]).run prog w58 = .ok (.int .i64 n64) w64 /\
 ∃ n65_0 n65_1 n65_2 n65_3 n65_4 n65_5 n65_6 n65_7, Ld aJ (some ⟨k12, 0, none⟩) w64 (.agg #[.int .u16 n65_0, .int .u16 n65_1, .int .u16 n65_2, .int .u16 n65_3, .int .u16 n65_4, .int .u16 n65_5, .int .u16 n65_6, .int .u16 n65_7]) /\
 Calls prog rJ #[.agg #[.int .u16 n65_0, .int .u16 n65_1, .int .u16 n65_2, .int .u16 n65_3, .int .u16 n65_4, .int .u16 n65_5, .int .u16 n65_6, .int .u16 n65_7]] w64 fun e66 w66 => ∃ v66, e66 = .returned v66 /\
 ∃ wx_1, Sv ai (some ⟨k2, 0, none⟩) v66 w66 wx_1 /\
 ∃ vr0_1, (bm ai (.pointer (some ⟨k2, 0, none⟩))).run prog wx_1 = .ok vr0_1 wx_1 /\
 K (.tuple #[vr0_1, .bool true]) wx_1)
theorem CD (s0 : List UInt8) {w : World} {K : Value -> World -> Prop} (h : yR s0 w K) : Calls prog vV #[.string (mkS s0)] w (Ret K) :=
 au (c := ay Tryz.f118) (by kernel_rfl) Tryz.func118 (by kernel_rfl) [(10, []), (11, [(54, .one (.bool))])] [.string (mkS s0)] (of_decide_eq_true (by kernel_rfl)) _ (by kernel_rfl) h

--  cracknel/host.address
def qB (n0 : Int) (v1 : Value) (b2 : Bool) (w : World) (K : Value -> World -> Prop) : Prop :=
 ∀ k4 w4, k4 = w.heap.size -> w4 = w.alloc (.cells (Value.cells v1) ai) ->
 ∀ k6 w6, k6 = w4.heap.size -> w6 = w4.alloc (.cells aL ae) ->
 af (!b2)
 (∃ wx, Sv ae (some ⟨k6, 0, none⟩) (.agg aL) w6 wx /\
 ∃ vr0, (bm ae (.pointer (some ⟨k6, 0, none⟩))).run prog wx = .ok vr0 wx /\
 K (.tuple #[vr0, .int .i64 (31 : Int)]) wx)
 (∃ v12, Ld ai (some ⟨k4, 0, none⟩) w6 v12 /\
 ∃ v13, (Instr.build ae #[(0, .int .i64 n0), (2, v12)]).run prog w6 = .ok v13 w6 /\
 ∃ wx_1, Sv ae (some ⟨k6, 0, none⟩) v13 w6 wx_1 /\
 ∃ vr0_1, (bm ae (.pointer (some ⟨k6, 0, none⟩))).run prog wx_1 = .ok vr0_1 wx_1 /\
 K (.tuple #[vr0_1, .int .i64 (0 : Int)]) wx_1)
theorem ve (n0 : Int) (v1 : Value) (b2 : Bool) {w : World} {K : Value -> World -> Prop} (h : qB n0 v1 b2 w K) : Calls prog iq #[.int .i64 n0, v1, .bool b2] w (Ret K) :=
 au (c := ay Tryz.f119) (by kernel_rfl) Tryz.func119 (by kernel_rfl) [] [.int .i64 n0, v1, .bool b2] (of_decide_eq_true (by kernel_rfl)) _ (by kernel_rfl) h

--  cracknel/addr.V4
def yQ (s0 : List UInt8) (w : World) (K : Value -> World -> Prop) : Prop :=
 ∀ k2 w2, k2 = w.heap.size -> w2 = w.alloc (.cells aG ai) ->
 Calls prog gY #[.string (mkS s0), .int .u8 (46 : Int)] w2 fun e11 w11 => ∃ a11 l11 c11, e11 = .returned (.slice a11 l11 c11) /\
 af (((l11 : Nat) : Int) != (4 : Int))
 (∃ wx, Sv ai (some ⟨k2, 0, none⟩) (.agg aG) w11 wx /\
 ∃ vr0, (bm ai (.pointer (some ⟨k2, 0, none⟩))).run prog wx = .ok vr0 wx /\
 K (.tuple #[vr0, .bool false]) wx)
 (∀ k5 w5, k5 = w11.heap.size -> w5 = w11.alloc (.cells aG ai) ->
 ∃ I : Nat -> FP [.one (.int .i64)],
 (∃ m, I m (0 : Int) w5) /\
 ∀ m n18, aE 27 (∀ wl, I m n18 wl ->
 af (decide (n18 < ((l11 : Nat) : Int)))
 (((0 <= n18 /\ n18 < ((l11 : Nat) : Int)) /\ Option.isSome a11 = true) /\
 ∃ s22, Ld ar (ao a11 n18 1) wl (.string (mkS s22)) /\
 Calls prog mZ #[.string (mkS s22)] wl fun e25 w25 => ∃ n25_0 b25_1, e25 = .returned (.tuple #[.int .i64 n25_0, .bool b25_1]) /\
 ∃ J : FP [],
 (∃ J_1 : FP [.one (.bool)],
 (af (!b25_1)
 (J_1 true w25)
 (J_1 (decide (n25_0 > (255 : Int))) w25)) /\
 ∀ b33, aE 5 (∀ wj, J_1 b33 wj ->
 af b33
 (∃ wx_1, Sv ai (some ⟨k2, 0, none⟩) (.agg aG) wj wx_1 /\
 ∃ vr0_1, (bm ai (.pointer (some ⟨k2, 0, none⟩))).run prog wx_1 = .ok vr0_1 wx_1 /\
 K (.tuple #[vr0_1, .bool false]) wx_1)
 (J wj))) /\
 aE 8 (∀ wj_1, J wj_1 ->
 ((0 <= (i64.wrap ((12 : Int) + n18)) /\ (i64.wrap ((12 : Int) + n18)) < ((16 : Nat) : Int)) /\ true = true) /\
 ∃ wx_2, Sv aF (ao (some ⟨k5, 0, none⟩) (i64.wrap ((12 : Int) + n18)) 1) (.int .u8 (IntKind.u8.wrap n25_0)) wj_1 wx_2 /\
 ∃ m' : Nat, m' < m /\ I m' (i64.wrap (n18 + (1 : Int))) wx_2))
 (∃ v41, Ld ai (some ⟨k5, 0, none⟩) wl v41 /\
 ∃ wx_3, Sv ai (some ⟨k2, 0, none⟩) v41 wl wx_3 /\
 ∃ vr0_2, (bm ai (.pointer (some ⟨k2, 0, none⟩))).run prog wx_3 = .ok vr0_2 wx_3 /\
 K (.tuple #[vr0_2, .bool true]) wx_3)))
theorem CC (s0 : List UInt8) {w : World} {K : Value -> World -> Prop} (h : yQ s0 w K) : Calls prog vU #[.string (mkS s0)] w (Ret K) :=
 au (c := ay Tryz.f122) (by kernel_rfl) Tryz.func122 (by kernel_rfl) [(18, [(18, .one (.int .i64))]), (31, []), (32, [(33, .one (.bool))])] [.string (mkS s0)] (of_decide_eq_true (by kernel_rfl)) _ (by kernel_rfl) h

--  cracknel/host.Parse$1
def pd (s0 : List UInt8) (w : World) (K : Value -> World -> Prop) : Prop :=
 Calls prog pO #[.string (mkS s0)] w fun e4 w4 => ∃ b4, e4 = .returned (.bool b4) /\
 K (.bool (!b4)) w4
theorem t8 (s0 : List UInt8) {w : World} {K : Value -> World -> Prop} (h : pd s0 w K) : Calls prog cA #[.string (mkS s0)] w (Ret K) :=
 au (c := ay Tryz.f123) (by kernel_rfl) Tryz.func123 (by kernel_rfl) [] [.string (mkS s0)] (of_decide_eq_true (by kernel_rfl)) _ (by kernel_rfl) h

--  cracknel/host.label
def tp (s0 : List UInt8) (w : World) (K : Value -> World -> Prop) : Prop :=
 af (!(s0 == []))
 (af (decide (((List.length s0 : Nat) : Int) <= (63 : Int)))
 (∃ w12 a12 l12 c12, (convert ar aV (.string (mkS s0))).run prog w = .ok (.slice a12 l12 c12) w12 /\
 Calls prog eZ #[.slice a12 l12 c12, .func (.func cV) #[] #[]] w12 fun e13 w13 => ∃ b13, e13 = .returned (.bool b13) /\
 K (.bool (!b13)) w13)
 (K (.bool false) w))
 (K (.bool false) w)
theorem xV (s0 : List UInt8) {w : World} {K : Value -> World -> Prop} (h : tp s0 w K) : Calls prog pO #[.string (mkS s0)] w (Ret K) :=
 au (c := ay Tryz.f124) (by kernel_rfl) Tryz.func124 (by kernel_rfl) [] [.string (mkS s0)] (of_decide_eq_true (by kernel_rfl)) _ (by kernel_rfl) h

--  cracknel/addr.Text4
def sZ (v0 : Value) (w : World) (K : Value -> World -> Prop) : Prop :=
 ∀ k1 w1, k1 = w.heap.size -> w1 = w.alloc (.cells (Value.cells v0) ai) ->
 ((0 <= (12 : Int) /\ (12 : Int) <= ((16 : Nat) : Int))) /\
 ∃ I : Nat -> FP [.one (.slice), .one (.int .i64)],
 (∃ m, I m none 0 0 (0 : Int) w1) /\
 ∀ m a3 l3 c3 n8, aE 11 (∀ wl, I m a3 l3 c3 n8 wl ->
 af (decide (n8 < (((16 - (Int.toNat (12 : Int))) : Nat) : Int)))
 (((0 <= n8 /\ n8 < (((16 - (Int.toNat (12 : Int))) : Nat) : Int)) /\ true = true) /\
 ∃ n11, Ld aF (ao (some (if 16 = (Int.toNat (12 : Int)) then ⟨k1, 0, none⟩ else Addr.add ⟨k1, 0, none⟩ ((Int.toNat (12 : Int)) * 1))) n8 1) wl (.int .u8 n11) /\
 Calls prog re #[.int .i64 (i64.wrap n11)] wl fun e15 w15 => ∃ s15, e15 = .returned (.string (mkS s15)) /\
 ∀ k16 w16, k16 = w15.heap.size -> w16 = w15.alloc (.cells #[.string (mkS s15)] ar) ->
 ∃ w17 a17 l17 c17, (Builtin.append_ #[aw, aw] aw #[.slice a3 l3 c3, .slice (some ⟨k16, 0, none⟩) 1 1]).run prog w16 = .ok (.slice a17 l17 c17) w17 /\
 ∃ m' : Nat, m' < m /\ I m' a17 l17 c17 (i64.wrap (n8 + (1 : Int))) w17)
 (Calls prog ke #[.slice a3 l3 c3, .string (mkS [46])] wl fun e20 w20 => ∃ s20, e20 = .returned (.string (mkS s20)) /\
 K (.string (mkS s20)) w20))
theorem xO (v0 : Value) {w : World} {K : Value -> World -> Prop} (h : sZ v0 w K) : Calls prog pI #[v0] w (Ret K) :=
 au (c := ay Tryz.f128) (by kernel_rfl) Tryz.func128 (by kernel_rfl) [(8, [(3, .one (.slice)), (8, .one (.int .i64))])] [v0] (of_decide_eq_true (by kernel_rfl)) _ (by kernel_rfl) h

--  cracknel/addr.Text6
def td (v0 : Value) (w : World) (K : Value -> World -> Prop) : Prop :=
 ∀ k1 w1, k1 = w.heap.size -> w1 = w.alloc (.cells (Value.cells v0) ai) ->
 ∃ v6, Ld ai (some ⟨k1, 0, none⟩) w1 v6 /\
 Calls prog ow #[v6] w1 fun e7 w7 => ∃ n7_0 n7_1 n7_2 n7_3 n7_4 n7_5 n7_6 n7_7, e7 = .returned (.agg #[.int .u16 n7_0, .int .u16 n7_1, .int .u16 n7_2, .int .u16 n7_3, .int .u16 n7_4, .int .u16 n7_5, .int .u16 n7_6, .int .u16 n7_7]) /\
 ∀ k3 w3, k3 = w7.heap.size -> w3 = w7.alloc (.cells #[.int .u16 (0 : Int), .int .u16 (0 : Int), .int .u16 (0 : Int), .int .u16 (0 : Int), .int .u16 (0 : Int), .int .u16 (0 : Int), .int .u16 (0 : Int), .int .u16 (0 : Int)] aJ) ->
 ∃ wx, Sv aJ (some ⟨k3, 0, none⟩) (.agg #[.int .u16 n7_0, .int .u16 n7_1, .int .u16 n7_2, .int .u16 n7_3, .int .u16 n7_4, .int .u16 n7_5, .int .u16 n7_6, .int .u16 n7_7]) w3 wx /\
 ∃ n9_0 n9_1 n9_2 n9_3 n9_4 n9_5 n9_6 n9_7, Ld aJ (some ⟨k3, 0, none⟩) wx (.agg #[.int .u16 n9_0, .int .u16 n9_1, .int .u16 n9_2, .int .u16 n9_3, .int .u16 n9_4, .int .u16 n9_5, .int .u16 n9_6, .int .u16 n9_7]) /\
 Calls prog pL #[.agg #[.int .u16 n9_0, .int .u16 n9_1, .int .u16 n9_2, .int .u16 n9_3, .int .u16 n9_4, .int .u16 n9_5, .int .u16 n9_6, .int .u16 n9_7]] wx fun e10 w10 => ∃ n10_0 n10_1, e10 = .returned (.tuple #[.int .i64 n10_0, .int .i64 n10_1]) /\
 af (decide (n10_1 < (2 : Int)))
 ((True) /\
 Calls prog ip #[.slice (some ⟨k3, 0, none⟩) 8 8] w10 fun e16 w16 => ∃ s16, e16 = .returned (.string (mkS s16)) /\
 K (.string (mkS s16)) w16)
 (((0 <= n10_0 /\ n10_0 <= ((8 : Nat) : Int))) /\
 ∃ s19, (∀ u19, Below w10.heap.size w10 u19 -> Calls prog ip #[.slice (some ⟨k3, 0, none⟩) (Int.toNat n10_0) 8] u19 fun e19 w19 => e19 = .returned (.string (mkS s19)) /\ Below w10.heap.size u19 w19) /\
 ((((List.length s19 + List.length [58, 58] : Nat) : Int) <= i64.max)) /\
 ∀ s20, s20 = (s19 ++ [58, 58]) ->
 ((0 <= (i64.wrap (n10_0 + n10_1)) /\ (i64.wrap (n10_0 + n10_1)) <= ((8 : Nat) : Int))) /\
 ∃ s25, (∀ u25, Below w10.heap.size w10 u25 -> Calls prog ip #[.slice (some (if 8 = (Int.toNat (i64.wrap (n10_0 + n10_1))) then ⟨k3, 0, none⟩ else Addr.add ⟨k3, 0, none⟩ ((Int.toNat (i64.wrap (n10_0 + n10_1))) * 1))) (8 - (Int.toNat (i64.wrap (n10_0 + n10_1)))) (8 - (Int.toNat (i64.wrap (n10_0 + n10_1))))] u25 fun e25 w25 => e25 = .returned (.string (mkS s25)) /\ Below w10.heap.size u25 w25) /\
 ((((List.length s20 + List.length s25 : Nat) : Int) <= i64.max)) /\
 ∀ s26, s26 = (s20 ++ s25) ->
 ∀ wq, Below w10.heap.size w10 wq ->
 K (.string (mkS s26)) wq)
theorem xP (v0 : Value) {w : World} {K : Value -> World -> Prop} (h : td v0 w K) : Calls prog pJ #[v0] w (Ret K) :=
 au (c := ay Tryz.f129) (by kernel_rfl) Tryz.func129 (by kernel_rfl) [] [v0] (of_decide_eq_true (by kernel_rfl)) _ (by kernel_rfl) h

--  cracknel/cracknelref02.decimal
def xt (s0 : List UInt8) (w : World) (K : Value -> World -> Prop) : Prop :=
 af (s0 == [])
 (K (.tuple #[.slice none 0 0, .bool true]) w)
 (Calls prog gY #[.string (mkS s0), .int .u8 (58 : Int)] w fun e12 w12 => ∃ a12 l12 c12, e12 = .returned (.slice a12 l12 c12) /\
 ∃ I : Nat -> FP [.one (.slice), .one (.int .i64)],
 (∃ m, I m none 0 0 (0 : Int) w12) /\
 ∀ m a4 l4 c4 n14, aE 20 (∀ wl, I m a4 l4 c4 n14 wl ->
 af (decide (n14 < ((l12 : Nat) : Int)))
 (((0 <= n14 /\ n14 < ((l12 : Nat) : Int)) /\ Option.isSome a12 = true) /\
 ∃ s17, Ld ar (ao a12 n14 1) wl (.string (mkS s17)) /\
 Calls prog pK #[.string (mkS s17)] wl fun e20 w20 => ∃ n20_0 b20_1, e20 = .returned (.tuple #[.int .u16 n20_0, .bool b20_1]) /\
 af (!b20_1)
 (K (.tuple #[.slice none 0 0, .bool false]) w20)
 (∀ k27 w27, k27 = w20.heap.size -> w27 = w20.alloc (.cells #[.int .u16 n20_0] fz) ->
 ∃ w28 a28 l28 c28, (Builtin.append_ #[dG, dG] dG #[.slice a4 l4 c4, .slice (some ⟨k27, 0, none⟩) 1 1]).run prog w27 = .ok (.slice a28 l28 c28) w28 /\
 ∃ m' : Nat, m' < m /\ I m' a28 l28 c28 (i64.wrap (n14 + (1 : Int))) w28))
 (K (.tuple #[.slice a4 l4 c4, .bool true]) wl)))
theorem Bq (s0 : List UInt8) {w : World} {K : Value -> World -> Prop} (h : xt s0 w K) : Calls prog qJ #[.string (mkS s0)] w (Ret K) :=
 au (c := ay Tryz.f172) (by kernel_rfl) Tryz.func172 (by kernel_rfl) [(16, [(4, .one (.slice)), (14, .one (.int .i64))])] [.string (mkS s0)] (of_decide_eq_true (by kernel_rfl)) _ (by kernel_rfl) h

--  cracknel/addr.From
def uM (n0_0 : Int) (n0_1 : Int) (n0_2 : Int) (n0_3 : Int) (n0_4 : Int) (n0_5 : Int) (n0_6 : Int) (n0_7 : Int) (w : World) (K : Value -> World -> Prop) : Prop :=
 ∀ k1 w1, k1 = w.heap.size -> w1 = w.alloc (.cells #[.int .u16 n0_0, .int .u16 n0_1, .int .u16 n0_2, .int .u16 n0_3, .int .u16 n0_4, .int .u16 n0_5, .int .u16 n0_6, .int .u16 n0_7] aJ) ->
 ∀ k2 w2, k2 = w1.heap.size -> w2 = w1.alloc (.cells aG ai) ->
 ∀ k3 w3, k3 = w2.heap.size -> w3 = w2.alloc (.cells aG ai) ->
 ∃ I : Nat -> FP [.one (.int .i64)],
 (∃ m, I m (0 : Int) w3) /\
 ∀ m n5, aE 20 (∀ wl, I m n5 wl ->
 af (decide (n5 < (8 : Int)))
 (((0 <= n5 /\ n5 < ((8 : Nat) : Int)) /\ true = true) /\
 ((0 <= n5 /\ n5 < ((8 : Nat) : Int)) /\ true = true) /\
 (∃ n15, Ld fz (ao (some ⟨k1, 0, none⟩) n5 1) (World.drew wl) (.int .u16 n15) /\
 (0 <= (8 : Int)) /\
 ((0 <= (i64.wrap ((2 : Int) * n5)) /\ (i64.wrap ((2 : Int) * n5)) < ((16 : Nat) : Int)) /\ true = true) /\
 (∃ n20, Ld fz (ao (some ⟨k1, 0, none⟩) n5 1) (World.drew wl) (.int .u16 n20) /\
 ∃ wx, Sv aF (ao (some ⟨k3, 0, none⟩) (i64.wrap ((2 : Int) * n5)) 1) (.int .u8 (IntKind.u8.wrap (Int.fdiv n15 (2 ^ (min (Int.toNat (8 : Int)) (IntKind.bits .u16)))))) (World.drew wl) wx /\
 ((0 <= (i64.wrap ((i64.wrap ((2 : Int) * n5)) + (1 : Int))) /\ (i64.wrap ((i64.wrap ((2 : Int) * n5)) + (1 : Int))) < ((16 : Nat) : Int)) /\ true = true) /\
 ∃ wx_1, Sv aF (ao (some ⟨k3, 0, none⟩) (i64.wrap ((i64.wrap ((2 : Int) * n5)) + (1 : Int))) 1) (.int .u8 (IntKind.u8.wrap n20)) wx wx_1 /\
 ∃ m' : Nat, m' < m /\ I m' (i64.wrap (n5 + (1 : Int))) wx_1) /\
 ∃ wx_2, Sv aF (ao (some ⟨k3, 0, none⟩) (i64.wrap ((2 : Int) * n5)) 1) (.int .u8 (IntKind.u8.wrap (Int.fdiv n15 (2 ^ (min (Int.toNat (8 : Int)) (IntKind.bits .u16)))))) (World.drew wl) wx_2 /\
 ∃ n20_1, Ld fz (ao (some ⟨k1, 0, none⟩) n5 1) wx_2 (.int .u16 n20_1) /\
 ((0 <= (i64.wrap ((i64.wrap ((2 : Int) * n5)) + (1 : Int))) /\ (i64.wrap ((i64.wrap ((2 : Int) * n5)) + (1 : Int))) < ((16 : Nat) : Int)) /\ true = true) /\
 ∃ wx_3, Sv aF (ao (some ⟨k3, 0, none⟩) (i64.wrap ((i64.wrap ((2 : Int) * n5)) + (1 : Int))) 1) (.int .u8 (IntKind.u8.wrap n20_1)) wx_2 wx_3 /\
 ∃ m' : Nat, m' < m /\ I m' (i64.wrap (n5 + (1 : Int))) wx_3) /\
 ∃ n20_2, Ld fz (ao (some ⟨k1, 0, none⟩) n5 1) (World.drew wl) (.int .u16 n20_2) /\
 ∃ n15_1, Ld fz (ao (some ⟨k1, 0, none⟩) n5 1) (World.drew wl) (.int .u16 n15_1) /\
 (0 <= (8 : Int)) /\
 ((0 <= (i64.wrap ((2 : Int) * n5)) /\ (i64.wrap ((2 : Int) * n5)) < ((16 : Nat) : Int)) /\ true = true) /\
 ∃ wx_4, Sv aF (ao (some ⟨k3, 0, none⟩) (i64.wrap ((2 : Int) * n5)) 1) (.int .u8 (IntKind.u8.wrap (Int.fdiv n15_1 (2 ^ (min (Int.toNat (8 : Int)) (IntKind.bits .u16)))))) (World.drew wl) wx_4 /\
 ((0 <= (i64.wrap ((i64.wrap ((2 : Int) * n5)) + (1 : Int))) /\ (i64.wrap ((i64.wrap ((2 : Int) * n5)) + (1 : Int))) < ((16 : Nat) : Int)) /\ true = true) /\
 ∃ wx_5, Sv aF (ao (some ⟨k3, 0, none⟩) (i64.wrap ((i64.wrap ((2 : Int) * n5)) + (1 : Int))) 1) (.int .u8 (IntKind.u8.wrap n20_2)) wx_4 wx_5 /\
 ∃ m' : Nat, m' < m /\ I m' (i64.wrap (n5 + (1 : Int))) wx_5)
 (∃ v25, Ld ai (some ⟨k3, 0, none⟩) wl v25 /\
 ∃ wx_6, Sv ai (some ⟨k2, 0, none⟩) v25 wl wx_6 /\
 ∃ vr0, (bm ai (.pointer (some ⟨k2, 0, none⟩))).run prog wx_6 = .ok vr0 wx_6 /\
 K vr0 wx_6))
theorem zU (n0_0 : Int) (n0_1 : Int) (n0_2 : Int) (n0_3 : Int) (n0_4 : Int) (n0_5 : Int) (n0_6 : Int) (n0_7 : Int) {w : World} {K : Value -> World -> Prop} (h : uM n0_0 n0_1 n0_2 n0_3 n0_4 n0_5 n0_6 n0_7 w K) : Calls prog rJ #[.agg #[.int .u16 n0_0, .int .u16 n0_1, .int .u16 n0_2, .int .u16 n0_3, .int .u16 n0_4, .int .u16 n0_5, .int .u16 n0_6, .int .u16 n0_7]] w (Ret K) :=
 au (c := ay Tryz.f173) (by kernel_rfl) Tryz.func173 (by kernel_rfl) [(8, [(5, .one (.int .i64))])] [.agg #[.int .u16 n0_0, .int .u16 n0_1, .int .u16 n0_2, .int .u16 n0_3, .int .u16 n0_4, .int .u16 n0_5, .int .u16 n0_6, .int .u16 n0_7]] (of_decide_eq_true (by kernel_rfl)) _ (by kernel_rfl) h

--  cracknel/host.label$1
def pe (n0 : Int) (w : World) (K : Value -> World -> Prop) : Prop :=
 Calls prog oC #[.int .u8 n0] w fun e4 w4 => ∃ b4, e4 = .returned (.bool b4) /\
 K (.bool (!b4)) w4
theorem ua (n0 : Int) {w : World} {K : Value -> World -> Prop} (h : pe n0 w K) : Calls prog cV #[.int .u8 n0] w (Ret K) :=
 au (c := ay Tryz.f177) (by kernel_rfl) Tryz.func177 (by kernel_rfl) [] [.int .u8 n0] (of_decide_eq_true (by kernel_rfl)) _ (by kernel_rfl) h

--  cracknel/host.letter
def rt (n0 : Int) (w : World) (K : Value -> World -> Prop) : Prop :=
 af (decide (n0 >= (97 : Int)))
 (af (decide (n0 <= (122 : Int)))
 (K (.bool true) w)
 (af (decide (n0 >= (48 : Int)))
 (af (decide (n0 <= (57 : Int)))
 (K (.bool true) w)
 (af (n0 == (45 : Int))
 (K (.bool true) w)
 (K (.bool (n0 == (95 : Int))) w)))
 (af (n0 == (45 : Int))
 (K (.bool true) w)
 (K (.bool (n0 == (95 : Int))) w))))
 (af (decide (n0 >= (48 : Int)))
 (af (decide (n0 <= (57 : Int)))
 (K (.bool true) w)
 (af (n0 == (45 : Int))
 (K (.bool true) w)
 (K (.bool (n0 == (95 : Int))) w)))
 (af (n0 == (45 : Int))
 (K (.bool true) w)
 (K (.bool (n0 == (95 : Int))) w)))
theorem wS (n0 : Int) {w : World} {K : Value -> World -> Prop} (h : rt n0 w K) : Calls prog oC #[.int .u8 n0] w (Ret K) :=
 au (c := ay Tryz.f178) (by kernel_rfl) Tryz.func178 (by kernel_rfl) [] [.int .u8 n0] (of_decide_eq_true (by kernel_rfl)) _ (by kernel_rfl) h

--  cracknel/addr.Groups
def rp (v0 : Value) (w : World) (K : Value -> World -> Prop) : Prop :=
 ∀ k1 w1, k1 = w.heap.size -> w1 = w.alloc (.cells (Value.cells v0) ai) ->
 ∀ k2 w2, k2 = w1.heap.size -> w2 = w1.alloc (.cells #[.int .u16 (0 : Int), .int .u16 (0 : Int), .int .u16 (0 : Int), .int .u16 (0 : Int), .int .u16 (0 : Int), .int .u16 (0 : Int), .int .u16 (0 : Int), .int .u16 (0 : Int)] aJ) ->
 ∀ k3 w3, k3 = w2.heap.size -> w3 = w2.alloc (.cells #[.int .u16 (0 : Int), .int .u16 (0 : Int), .int .u16 (0 : Int), .int .u16 (0 : Int), .int .u16 (0 : Int), .int .u16 (0 : Int), .int .u16 (0 : Int), .int .u16 (0 : Int)] aJ) ->
 ∃ I : Nat -> FP [.one (.int .i64)],
 (∃ m, I m (0 : Int) w3) /\
 ∀ m n5, aE 19 (∀ wl, I m n5 wl ->
 af (decide (n5 < (8 : Int)))
 (((0 <= (i64.wrap ((2 : Int) * n5)) /\ (i64.wrap ((2 : Int) * n5)) < ((16 : Nat) : Int)) /\ true = true) /\
 ∃ n12, (∀ u12, Below wl.heap.size wl u12 -> Ld aF (ao (some ⟨k1, 0, none⟩) (i64.wrap ((2 : Int) * n5)) 1) u12 (.int .u8 n12)) /\
 (0 <= (8 : Int)) /\
 ((0 <= (i64.wrap ((i64.wrap ((2 : Int) * n5)) + (1 : Int))) /\ (i64.wrap ((i64.wrap ((2 : Int) * n5)) + (1 : Int))) < ((16 : Nat) : Int)) /\ true = true) /\
 ∃ n19, (∀ u19, Below wl.heap.size wl u19 -> Ld aF (ao (some ⟨k1, 0, none⟩) (i64.wrap ((i64.wrap ((2 : Int) * n5)) + (1 : Int))) 1) u19 (.int .u8 n19)) /\
 ((0 <= n5 /\ n5 < ((8 : Nat) : Int)) /\ true = true) /\
 ∀ wq, Below wl.heap.size wl wq ->
 ∃ wx, Sv fz (ao (some ⟨k3, 0, none⟩) n5 1) (.int .u16 (IntKind.u16.wrap (((BitVec.ofInt (IntKind.bits .u16) (IntKind.u16.wrap ((IntKind.u16.wrap n12) * 2 ^ (min (Int.toNat (8 : Int)) (IntKind.bits .u16))))) ||| (BitVec.ofInt (IntKind.bits .u16) (IntKind.u16.wrap n19))).toNat : Nat))) wq wx /\
 ∃ m' : Nat, m' < m /\ I m' (i64.wrap (n5 + (1 : Int))) wx)
 (∃ n24_0 n24_1 n24_2 n24_3 n24_4 n24_5 n24_6 n24_7, Ld aJ (some ⟨k3, 0, none⟩) wl (.agg #[.int .u16 n24_0, .int .u16 n24_1, .int .u16 n24_2, .int .u16 n24_3, .int .u16 n24_4, .int .u16 n24_5, .int .u16 n24_6, .int .u16 n24_7]) /\
 ∃ wx_1, Sv aJ (some ⟨k2, 0, none⟩) (.agg #[.int .u16 n24_0, .int .u16 n24_1, .int .u16 n24_2, .int .u16 n24_3, .int .u16 n24_4, .int .u16 n24_5, .int .u16 n24_6, .int .u16 n24_7]) wl wx_1 /\
 ∃ nr0_0 nr0_1 nr0_2 nr0_3 nr0_4 nr0_5 nr0_6 nr0_7, (bm aJ (.pointer (some ⟨k2, 0, none⟩))).run prog wx_1 = .ok (.agg #[.int .u16 nr0_0, .int .u16 nr0_1, .int .u16 nr0_2, .int .u16 nr0_3, .int .u16 nr0_4, .int .u16 nr0_5, .int .u16 nr0_6, .int .u16 nr0_7]) wx_1 /\
 K (.agg #[.int .u16 nr0_0, .int .u16 nr0_1, .int .u16 nr0_2, .int .u16 nr0_3, .int .u16 nr0_4, .int .u16 nr0_5, .int .u16 nr0_6, .int .u16 nr0_7]) wx_1))
theorem wP (v0 : Value) {w : World} {K : Value -> World -> Prop} (h : rp v0 w K) : Calls prog ow #[v0] w (Ret K) :=
 au (c := ay Tryz.f182) (by kernel_rfl) Tryz.func182 (by kernel_rfl) [(8, [(5, .one (.int .i64))]), (2000019, [(15, .one (.bool))])] [v0] (of_decide_eq_true (by kernel_rfl)) _ (by kernel_rfl) h

--  cracknel/addr.zeros
def th (n0_0 : Int) (n0_1 : Int) (n0_2 : Int) (n0_3 : Int) (n0_4 : Int) (n0_5 : Int) (n0_6 : Int) (n0_7 : Int) (w : World) (K : Value -> World -> Prop) : Prop :=
 ∀ k1 w1, k1 = w.heap.size -> w1 = w.alloc (.cells #[.int .u16 n0_0, .int .u16 n0_1, .int .u16 n0_2, .int .u16 n0_3, .int .u16 n0_4, .int .u16 n0_5, .int .u16 n0_6, .int .u16 n0_7] aJ) ->
 ∃ I : Nat -> FP [.one (.int .i64), .one (.int .i64), .one (.int .i64), .one (.int .i64)],
 (∃ m, I m (0 : Int) (0 : Int) (0 : Int) (0 : Int) w1) /\
 ∀ m n4 n5 n6 n8, aE 18 (∀ wl, I m n4 n5 n6 n8 wl ->
 af (decide (n8 < (8 : Int)))
 (∃ J : FP [.one (.int .i64)],
 (((0 <= n8 /\ n8 < ((8 : Nat) : Int)) /\ true = true) /\
 ∃ n15, Ld fz (ao (some ⟨k1, 0, none⟩) n8 1) wl (.int .u16 n15) /\
 af (n15 != (0 : Int))
 (J (0 : Int) wl)
 (J (i64.wrap (n6 + (1 : Int))) wl)) /\
 ∀ n6_1, aE 4 (∀ wj, J n6_1 wj ->
 af (decide (n6_1 > n5))
 (∃ m' : Nat, m' < m /\ I m' (i64.wrap ((i64.wrap (n8 + (1 : Int))) - n6_1)) n6_1 n6_1 (i64.wrap (n8 + (1 : Int))) wj)
 (∃ m' : Nat, m' < m /\ I m' n4 n5 n6_1 (i64.wrap (n8 + (1 : Int))) wj)))
 (K (.tuple #[.int .i64 n4, .int .i64 n5]) wl))
theorem xR (n0_0 : Int) (n0_1 : Int) (n0_2 : Int) (n0_3 : Int) (n0_4 : Int) (n0_5 : Int) (n0_6 : Int) (n0_7 : Int) {w : World} {K : Value -> World -> Prop} (h : th n0_0 n0_1 n0_2 n0_3 n0_4 n0_5 n0_6 n0_7 w K) : Calls prog pL #[.agg #[.int .u16 n0_0, .int .u16 n0_1, .int .u16 n0_2, .int .u16 n0_3, .int .u16 n0_4, .int .u16 n0_5, .int .u16 n0_6, .int .u16 n0_7]] w (Ret K) :=
 au (c := ay Tryz.f183) (by kernel_rfl) Tryz.func183 (by kernel_rfl) [(8, [(4, .one (.int .i64)), (5, .one (.int .i64)), (6, .one (.int .i64)), (8, .one (.int .i64))]), (21, [(6, .one (.int .i64))])] [.agg #[.int .u16 n0_0, .int .u16 n0_1, .int .u16 n0_2, .int .u16 n0_3, .int .u16 n0_4, .int .u16 n0_5, .int .u16 n0_6, .int .u16 n0_7]] (of_decide_eq_true (by kernel_rfl)) _ (by kernel_rfl) h

--  cracknel/addr.written
def qy (a0 : Option Addr) (l0 c0 : Nat) (w : World) (K : Value -> World -> Prop) : Prop :=
 ∃ I : Nat -> FP [.one (.slice), .one (.int .i64)],
 (∃ m, I m none 0 0 (0 : Int) w) /\
 ∀ m a3 l3 c3 n8, aE 11 (∀ wl, I m a3 l3 c3 n8 wl ->
 af (decide (n8 < ((l0 : Nat) : Int)))
 (((0 <= n8 /\ n8 < ((l0 : Nat) : Int)) /\ Option.isSome a0 = true) /\
 ∃ n11, Ld fz (ao a0 n8 1) wl (.int .u16 n11) /\
 Calls prog ik #[.int .u64 (IntKind.u64.wrap n11), .int .i64 (16 : Int)] wl fun e15 w15 => ∃ s15, e15 = .returned (.string (mkS s15)) /\
 ∀ k16 w16, k16 = w15.heap.size -> w16 = w15.alloc (.cells #[.string (mkS s15)] ar) ->
 ∃ w17 a17 l17 c17, (Builtin.append_ #[aw, aw] aw #[.slice a3 l3 c3, .slice (some ⟨k16, 0, none⟩) 1 1]).run prog w16 = .ok (.slice a17 l17 c17) w17 /\
 ∃ m' : Nat, m' < m /\ I m' a17 l17 c17 (i64.wrap (n8 + (1 : Int))) w17)
 (Calls prog ke #[.slice a3 l3 c3, .string (mkS [58])] wl fun e20 w20 => ∃ s20, e20 = .returned (.string (mkS s20)) /\
 K (.string (mkS s20)) w20))
theorem u5 (a0 : Option Addr) (l0 c0 : Nat) {w : World} {K : Value -> World -> Prop} (h : qy a0 l0 c0 w K) : Calls prog ip #[.slice a0 l0 c0] w (Ret K) :=
 au (c := ay Tryz.f184) (by kernel_rfl) Tryz.func184 (by kernel_rfl) [(8, [(3, .one (.slice)), (8, .one (.int .i64))])] [.slice a0 l0 c0] (of_decide_eq_true (by kernel_rfl)) _ (by kernel_rfl) h

--  cracknel/cracknelref02.hex
def tg (s0 : List UInt8) (w : World) (K : Value -> World -> Prop) : Prop :=
 ∃ J : FP [],
 (af (decide (((List.length s0 : Nat) : Int) < (1 : Int)))
 (K (.tuple #[.int .u16 (0 : Int), .bool false]) w)
 (af (decide (((List.length s0 : Nat) : Int) > (4 : Int)))
 (K (.tuple #[.int .u16 (0 : Int), .bool false]) w)
 (J w))) /\
 aE 10 (∀ wj, J wj ->
 Calls prog lj #[.string (mkS s0)] wj fun e17 w17 => ∃ s17, e17 = .returned (.string (mkS s17)) /\
 ∃ w18 a18 l18 c18, (convert ar aV (.string (mkS s17))).run prog w17 = .ok (.slice a18 l18 c18) w18 /\
 ∃ I : Nat -> FP [.one (.int .u16), .one (.int .i64)],
 (∃ m, I m (0 : Int) (0 : Int) w18) /\
 ∀ m n4 n20, aE 17 (∀ wl, I m n4 n20 wl ->
 af (decide (n20 < ((l18 : Nat) : Int)))
 (((0 <= n20 /\ n20 < ((l18 : Nat) : Int)) /\ Option.isSome a18 = true) /\
 ∃ n23, Ld aF (ao a18 n20 1) wl (.int .u8 n23) /\
 Calls prog rM #[.string (mkS [48, 49, 50, 51, 52, 53, 54, 55, 56, 57, 97, 98, 99, 100, 101, 102]), .int .u8 n23] wl fun e25 w25 => ∃ n25, e25 = .returned (.int .i64 n25) /\
 af (decide (n25 < (0 : Int)))
 (K (.tuple #[.int .u16 (0 : Int), .bool false]) w25)
 ((0 <= (4 : Int)) /\
 ∃ m' : Nat, m' < m /\ I m' (IntKind.u16.wrap (((BitVec.ofInt (IntKind.bits .u16) (IntKind.u16.wrap (n4 * 2 ^ (min (Int.toNat (4 : Int)) (IntKind.bits .u16))))) ||| (BitVec.ofInt (IntKind.bits .u16) (IntKind.u16.wrap n25))).toNat : Nat)) (i64.wrap (n20 + (1 : Int))) w25))
 (K (.tuple #[.int .u16 n4, .bool true]) wl)))
theorem xQ (s0 : List UInt8) {w : World} {K : Value -> World -> Prop} (h : tg s0 w K) : Calls prog pK #[.string (mkS s0)] w (Ret K) :=
 au (c := ay Tryz.f214) (by kernel_rfl) Tryz.func214 (by kernel_rfl) [(2, []), (16, [(4, .one (.int .u16)), (20, .one (.int .i64))])] [.string (mkS s0)] (of_decide_eq_true (by kernel_rfl)) _ (by kernel_rfl) h

--  slices.ContainsFunc[[]string,string]
def bM (a0 : Option Addr) (l0 c0 : Nat) (w : World) (K : Value -> World -> Prop) : Prop :=
 Calls prog bI #[.slice a0 l0 c0, .func (.func cA) #[] #[]] w fun e7 w7 => ∃ n7, e7 = .returned (.int .i64 n7) /\
 K (.bool (decide (n7 >= (0 : Int)))) w7
theorem dM (a0 : Option Addr) (l0 c0 : Nat) {w : World} {K : Value -> World -> Prop} (h : bM a0 l0 c0 w K) : Calls prog bf #[.slice a0 l0 c0, .func (.func cA) #[] #[]] w (Ret K) :=
 au (c := ay Tryz.f63) (by kernel_rfl) Tryz.func63 (by kernel_rfl) [] [.slice a0 l0 c0, .func (.func cA) #[] #[]] (of_decide_eq_true (by kernel_rfl)) _ (by kernel_rfl) h

--  slices.IndexFunc[[]string,string]
def bZ (a0 : Option Addr) (l0 c0 : Nat) (w : World) (K : Value -> World -> Prop) : Prop :=
 ∃ I : Nat -> FP [.one (.int .i64)],
 (∃ m, I m (0 : Int) w) /\
 ∀ m n8, aE 12 (∀ wl, I m n8 wl ->
 af (decide (n8 < ((l0 : Nat) : Int)))
 (((0 <= n8 /\ n8 < ((l0 : Nat) : Int)) /\ Option.isSome a0 = true) /\
 ∃ s15, Ld ar (ao a0 n8 1) wl (.string (mkS s15)) /\
 Calls prog cA #[.string (mkS s15)] wl fun e16 w16 => ∃ b16, e16 = .returned (.bool b16) /\
 af b16
 (K (.int .i64 n8) w16)
 (∃ m' : Nat, m' < m /\ I m' (i64.wrap (n8 + (1 : Int))) w16))
 (K (.int .i64 (-1 : Int)) wl))
theorem d9 (a0 : Option Addr) (l0 c0 : Nat) {w : World} {K : Value -> World -> Prop} (h : bZ a0 l0 c0 w K) : Calls prog bI #[.slice a0 l0 c0, .func (.func cA) #[] #[]] w (Ret K) :=
 au (c := ay Tryz.f115) (by kernel_rfl) Tryz.func115 (by kernel_rfl) [(6, [(8, .one (.int .i64))])] [.slice a0 l0 c0, .func (.func cA) #[] #[]] (of_decide_eq_true (by kernel_rfl)) _ (by kernel_rfl) h

--  slices.ContainsFunc[[]byte,byte]
def ck (a0 : Option Addr) (l0 c0 : Nat) (w : World) (K : Value -> World -> Prop) : Prop :=
 Calls prog gr #[.slice a0 l0 c0, .func (.func cV) #[] #[]] w fun e7 w7 => ∃ n7, e7 = .returned (.int .i64 n7) /\
 K (.bool (decide (n7 >= (0 : Int)))) w7
theorem eG (a0 : Option Addr) (l0 c0 : Nat) {w : World} {K : Value -> World -> Prop} (h : ck a0 l0 c0 w K) : Calls prog eZ #[.slice a0 l0 c0, .func (.func cV) #[] #[]] w (Ret K) :=
 au (c := ay Tryz.f176) (by kernel_rfl) Tryz.func176 (by kernel_rfl) [] [.slice a0 l0 c0, .func (.func cV) #[] #[]] (of_decide_eq_true (by kernel_rfl)) _ (by kernel_rfl) h

--  slices.IndexFunc[[]byte,byte]
def cG (a0 : Option Addr) (l0 c0 : Nat) (w : World) (K : Value -> World -> Prop) : Prop :=
 ∃ I : Nat -> FP [.one (.int .i64)],
 (∃ m, I m (0 : Int) w) /\
 ∀ m n8, aE 12 (∀ wl, I m n8 wl ->
 af (decide (n8 < ((l0 : Nat) : Int)))
 (((0 <= n8 /\ n8 < ((l0 : Nat) : Int)) /\ Option.isSome a0 = true) /\
 ∃ n15, Ld aF (ao a0 n8 1) wl (.int .u8 n15) /\
 Calls prog cV #[.int .u8 n15] wl fun e16 w16 => ∃ b16, e16 = .returned (.bool b16) /\
 af b16
 (K (.int .i64 n8) w16)
 (∃ m' : Nat, m' < m /\ I m' (i64.wrap (n8 + (1 : Int))) w16))
 (K (.int .i64 (-1 : Int)) wl))
theorem fk (a0 : Option Addr) (l0 c0 : Nat) {w : World} {K : Value -> World -> Prop} (h : cG a0 l0 c0 w K) : Calls prog gr #[.slice a0 l0 c0, .func (.func cV) #[] #[]] w (Ret K) :=
 au (c := ay Tryz.f216) (by kernel_rfl) Tryz.func216 (by kernel_rfl) [(6, [(8, .one (.int .i64))])] [.slice a0 l0 c0, .func (.func cV) #[] #[]] (of_decide_eq_true (by kernel_rfl)) _ (by kernel_rfl) h

--  strconv.FormatUint
def kG (n0 : Int) (n1 : Int) (w : World) (K : Value -> World -> Prop) : Prop :=
 Calls prog fY #[.int .u64 n0, .int .i64 n1] w fun e7 w7 => ∃ s7, e7 = .returned (.string (mkS s7)) /\
 K (.string (mkS s7)) w7
theorem pu (n0 : Int) (n1 : Int) {w : World} {K : Value -> World -> Prop} (h : kG n0 n1 w K) : Calls prog ik #[.int .u64 n0, .int .i64 n1] w (Ret K) :=
 au (c := ay Tryz.f220) (by kernel_rfl) Tryz.func220 (by kernel_rfl) [] [.int .u64 n0, .int .i64 n1] (of_decide_eq_true (by kernel_rfl)) _ (by kernel_rfl) h

--  internal/strconv.FormatUint
def fp (n0 : Int) (n1 : Int) (w : World) (K : Value -> World -> Prop) : Prop :=
 af (n1 == (10 : Int))
 (af (decide (n0 < (100 : Int)))
 (Calls prog nI #[.int .i64 (i64.wrap n0)] w fun e15 w15 => ∃ s15, e15 = .returned (.string (mkS s15)) /\
 K (.string (mkS s15)) w15)
 (∀ k5 w5, k5 = w.heap.size -> w5 = w.alloc (.cells yV yT) ->
 Calls prog li #[.int .u64 n0] w5 fun e17 w17 => ∃ n17, e17 = .returned (.int .i64 n17) /\
 ((0 <= n17 /\ n17 <= ((24 : Nat) : Int))) /\
 Calls prog jW #[.slice (some ⟨k5, 0, none⟩) (Int.toNat n17) 24, .int .u64 n0] w17 fun e21 w21 => e21 = .returned (.tuple #[]) /\
 ((0 <= n17 /\ n17 <= ((24 : Nat) : Int))) /\
 ∃ s24, (convert aV ar (.slice (some ⟨k5, 0, none⟩) (Int.toNat n17) 24)).run prog w21 = .ok (.string (mkS s24)) w21 /\
 K (.string (mkS s24)) w21))
 (Calls prog cZ #[.slice none 0 0, .int .u64 n0, .int .i64 n1, .bool false, .bool false] w fun e28 w28 => ∃ a28_0 l28_0 c28_0 s28_1, e28 = .returned (.tuple #[.slice a28_0 l28_0 c28_0, .string (mkS s28_1)]) /\
 K (.string (mkS s28_1)) w28)
theorem j5 (n0 : Int) (n1 : Int) {w : World} {K : Value -> World -> Prop} (h : fp n0 n1 w K) : Calls prog fY #[.int .u64 n0, .int .i64 n1] w (Ret K) :=
 au (c := ay Tryz.f238) (by kernel_rfl) Tryz.func238 (by kernel_rfl) [] [.int .u64 n0, .int .i64 n1] (of_decide_eq_true (by kernel_rfl)) _ (by kernel_rfl) h

--  internal/strconv.formatBits
def fq (a0 : Option Addr) (l0 c0 : Nat) (n1 : Int) (n2 : Int) (b3 : Bool) (b4 : Bool) (w : World) (K : Value -> World -> Prop) : Prop :=
 ∃ J : FP [],
 (∃ J_1 : FP [.one (.bool)],
 (af (decide (n2 < (2 : Int)))
 (J_1 true w)
 (af (n2 == (10 : Int))
 (J_1 true w)
 (J_1 (decide (n2 > (36 : Int))) w))) /\
 ∀ b28, aE 9 (∀ wj, J_1 b28 wj ->
 af b28
 (False)
 (J wj))) /\
 aE 11 (∀ wj_1, J wj_1 ->
 ∀ k12 w12, k12 = wj_1.heap.size -> w12 = wj_1.alloc (.cells yW lg) ->
 ∃ J_2 : FP [.one (.int .u64)],
 (af b3
 (J_2 (IntKind.u64.wrap (0 - n1)) w12)
 (J_2 n1 w12)) /\
 ∀ n1_1, aE 3 (∀ wj_2, J_2 n1_1 wj_2 ->
 ∃ J_3 : FP [.one (.int .i64)],
 (Calls prog eY #[.int .i64 n2] wj_2 fun e34 w34 => ∃ b34, e34 = .returned (.bool b34) /\
 af b34
 (Calls prog eq #[.int .u64 (IntKind.u64.wrap n2)] w34 fun e37 w37 => ∃ n37, e37 = .returned (.int .i64 n37) /\
 ∃ I : Nat -> FP [.one (.int .u64), .one (.int .i64)],
 (∃ m, I m n1_1 (65 : Int) w37) /\
 ∀ m n1_2 n13, aE 14 (∀ wl, I m n1_2 n13 wl ->
 af (decide (n1_2 >= (IntKind.u64.wrap n2)))
 (((0 <= (IntKind.u64.wrap (((BitVec.ofInt (IntKind.bits .u64) n1_2) &&& (BitVec.ofInt (IntKind.bits .u64) (IntKind.u64.wrap ((IntKind.u64.wrap n2) - (1 : Int))))).toNat : Nat)) /\ (IntKind.u64.wrap (((BitVec.ofInt (IntKind.bits .u64) n1_2) &&& (BitVec.ofInt (IntKind.bits .u64) (IntKind.u64.wrap ((IntKind.u64.wrap n2) - (1 : Int))))).toNat : Nat)) < ((List.length [48, 49, 50, 51, 52, 53, 54, 55, 56, 57, 97, 98, 99, 100, 101, 102, 103, 104, 105, 106, 107, 108, 109, 110, 111, 112, 113, 114, 115, 116, 117, 118, 119, 120, 121, 122] : Nat) : Int))) /\
 ((0 <= (i64.wrap (n13 - (1 : Int))) /\ (i64.wrap (n13 - (1 : Int))) < ((65 : Nat) : Int)) /\ true = true) /\
 ∃ wx, Sv aF (ao (some ⟨k12, 0, none⟩) (i64.wrap (n13 - (1 : Int))) 1) (.int .u8 (aP [48, 49, 50, 51, 52, 53, 54, 55, 56, 57, 97, 98, 99, 100, 101, 102, 103, 104, 105, 106, 107, 108, 109, 110, 111, 112, 113, 114, 115, 116, 117, 118, 119, 120, 121, 122] (IntKind.u64.wrap (((BitVec.ofInt (IntKind.bits .u64) n1_2) &&& (BitVec.ofInt (IntKind.bits .u64) (IntKind.u64.wrap ((IntKind.u64.wrap n2) - (1 : Int))))).toNat : Nat)))) wl wx /\
 (0 <= (IntKind.u64.wrap n37)) /\
 ∃ m' : Nat, m' < m /\ I m' (Int.fdiv n1_2 (2 ^ (min (Int.toNat (IntKind.u64.wrap n37)) (IntKind.bits .u64)))) (i64.wrap (n13 - (1 : Int))) wx)
 (((0 <= n1_2 /\ n1_2 < ((List.length [48, 49, 50, 51, 52, 53, 54, 55, 56, 57, 97, 98, 99, 100, 101, 102, 103, 104, 105, 106, 107, 108, 109, 110, 111, 112, 113, 114, 115, 116, 117, 118, 119, 120, 121, 122] : Nat) : Int))) /\
 ((0 <= (i64.wrap (n13 - (1 : Int))) /\ (i64.wrap (n13 - (1 : Int))) < ((65 : Nat) : Int)) /\ true = true) /\
 ∃ wx_1, Sv aF (ao (some ⟨k12, 0, none⟩) (i64.wrap (n13 - (1 : Int))) 1) (.int .u8 (aP [48, 49, 50, 51, 52, 53, 54, 55, 56, 57, 97, 98, 99, 100, 101, 102, 103, 104, 105, 106, 107, 108, 109, 110, 111, 112, 113, 114, 115, 116, 117, 118, 119, 120, 121, 122] n1_2)) wl wx_1 /\
 J_3 (i64.wrap (n13 - (1 : Int))) wx_1)))
 (∃ I_1 : Nat -> FP [.one (.int .u64), .one (.int .i64)],
 (∃ m_1, I_1 m_1 n1_1 (65 : Int) w34) /\
 ∀ m_1 n1_3 n13_1, aE 18 (∀ wl_1, I_1 m_1 n1_3 n13_1 wl_1 ->
 af (decide (n1_3 >= (IntKind.u64.wrap n2)))
 (((IntKind.u64.wrap n2) ≠ 0) /\
 ∀ q73, q73 = (IntKind.u64.wrap (Int.tdiv n1_3 (IntKind.u64.wrap n2))) ->
 ((0 <= (IntKind.u64.wrap (n1_3 - (IntKind.u64.wrap (q73 * (IntKind.u64.wrap n2))))) /\ (IntKind.u64.wrap (n1_3 - (IntKind.u64.wrap (q73 * (IntKind.u64.wrap n2))))) < ((List.length [48, 49, 50, 51, 52, 53, 54, 55, 56, 57, 97, 98, 99, 100, 101, 102, 103, 104, 105, 106, 107, 108, 109, 110, 111, 112, 113, 114, 115, 116, 117, 118, 119, 120, 121, 122] : Nat) : Int))) /\
 ((0 <= (i64.wrap (n13_1 - (1 : Int))) /\ (i64.wrap (n13_1 - (1 : Int))) < ((65 : Nat) : Int)) /\ true = true) /\
 ∃ wx_2, Sv aF (ao (some ⟨k12, 0, none⟩) (i64.wrap (n13_1 - (1 : Int))) 1) (.int .u8 (aP [48, 49, 50, 51, 52, 53, 54, 55, 56, 57, 97, 98, 99, 100, 101, 102, 103, 104, 105, 106, 107, 108, 109, 110, 111, 112, 113, 114, 115, 116, 117, 118, 119, 120, 121, 122] (IntKind.u64.wrap (n1_3 - (IntKind.u64.wrap (q73 * (IntKind.u64.wrap n2))))))) wl_1 wx_2 /\
 ∃ m'_1 : Nat, m'_1 < m_1 /\ I_1 m'_1 q73 (i64.wrap (n13_1 - (1 : Int))) wx_2)
 (((0 <= n1_3 /\ n1_3 < ((List.length [48, 49, 50, 51, 52, 53, 54, 55, 56, 57, 97, 98, 99, 100, 101, 102, 103, 104, 105, 106, 107, 108, 109, 110, 111, 112, 113, 114, 115, 116, 117, 118, 119, 120, 121, 122] : Nat) : Int))) /\
 ((0 <= (i64.wrap (n13_1 - (1 : Int))) /\ (i64.wrap (n13_1 - (1 : Int))) < ((65 : Nat) : Int)) /\ true = true) /\
 ∃ wx_3, Sv aF (ao (some ⟨k12, 0, none⟩) (i64.wrap (n13_1 - (1 : Int))) 1) (.int .u8 (aP [48, 49, 50, 51, 52, 53, 54, 55, 56, 57, 97, 98, 99, 100, 101, 102, 103, 104, 105, 106, 107, 108, 109, 110, 111, 112, 113, 114, 115, 116, 117, 118, 119, 120, 121, 122] n1_3)) wl_1 wx_3 /\
 J_3 (i64.wrap (n13_1 - (1 : Int))) wx_3)))) /\
 ∀ n13_2, aE 62 (∀ wj_3, J_3 n13_2 wj_3 ->
 ∃ J_4 : FP [.one (.int .i64)],
 (af b3
 (((0 <= (i64.wrap (n13_2 - (1 : Int))) /\ (i64.wrap (n13_2 - (1 : Int))) < ((65 : Nat) : Int)) /\ true = true) /\
 ∃ wx_4, Sv aF (ao (some ⟨k12, 0, none⟩) (i64.wrap (n13_2 - (1 : Int))) 1) (.int .u8 (45 : Int)) wj_3 wx_4 /\
 J_4 (i64.wrap (n13_2 - (1 : Int))) wx_4)
 (J_4 n13_2 wj_3)) /\
 ∀ n13_3, aE 5 (∀ wj_4, J_4 n13_3 wj_4 ->
 af b4
 (((0 <= n13_3 /\ n13_3 <= ((65 : Nat) : Int))) /\
 ∃ w98 a98 l98 c98, (Builtin.append_ #[aV, aV] aV #[.slice a0 l0 c0, .slice (some (if 65 = (Int.toNat n13_3) then ⟨k12, 0, none⟩ else Addr.add ⟨k12, 0, none⟩ ((Int.toNat n13_3) * 1))) (65 - (Int.toNat n13_3)) (65 - (Int.toNat n13_3))]).run prog wj_4 = .ok (.slice a98 l98 c98) w98 /\
 K (.tuple #[.slice a98 l98 c98, .string (mkS [])]) w98)
 (((0 <= n13_3 /\ n13_3 <= ((65 : Nat) : Int))) /\
 ∃ s101, (convert aV ar (.slice (some (if 65 = (Int.toNat n13_3) then ⟨k12, 0, none⟩ else Addr.add ⟨k12, 0, none⟩ ((Int.toNat n13_3) * 1))) (65 - (Int.toNat n13_3)) (65 - (Int.toNat n13_3)))).run prog wj_4 = .ok (.string (mkS s101)) wj_4 /\
 K (.tuple #[.slice none 0 0, .string (mkS s101)]) wj_4)))))
theorem j6 (a0 : Option Addr) (l0 c0 : Nat) (n1 : Int) (n2 : Int) (b3 : Bool) (b4 : Bool) {w : World} {K : Value -> World -> Prop} (h : fq a0 l0 c0 n1 n2 b3 b4 w K) : Calls prog cZ #[.slice a0 l0 c0, .int .u64 n1, .int .i64 n2, .bool b3, .bool b4] w (Ret K) :=
 au (c := ay Tryz.f252) (by kernel_rfl) Tryz.func252 (by kernel_rfl) [(2, []), (3, [(28, .one (.bool))]), (12, [(1, .one (.int .u64))]), (18, [(13, .one (.int .i64))]), (30, [(1, .one (.int .u64)), (13, .one (.int .i64))]), (50, [(1, .one (.int .u64)), (13, .one (.int .i64))]), (68, [(13, .one (.int .i64))])] [.slice a0 l0 c0, .int .u64 n1, .int .i64 n2, .bool b3, .bool b4] (of_decide_eq_true (by kernel_rfl)) _ (by kernel_rfl) h

--  internal/strconv.isPowerOfTwo
def eK (n0 : Int) (w : World) (K : Value -> World -> Prop) : Prop :=
 K (.bool ((i64.wrap (((BitVec.ofInt (IntKind.bits .i64) n0) &&& (BitVec.ofInt (IntKind.bits .i64) (i64.wrap (n0 - (1 : Int))))).toNat : Nat)) == (0 : Int))) w
theorem jw (n0 : Int) {w : World} {K : Value -> World -> Prop} (h : eK n0 w K) : Calls prog eY #[.int .i64 n0] w (Ret K) :=
 au (c := ay Tryz.f256) (by kernel_rfl) Tryz.func256 (by kernel_rfl) [] [.int .i64 n0] (of_decide_eq_true (by kernel_rfl)) _ (by kernel_rfl) h

--  math/bits.TrailingZeros
def ig (n0 : Int) (w : World) (K : Value -> World -> Prop) : Prop :=
 Calls prog gC #[.int .u64 n0] w fun e7 w7 => ∃ n7, e7 = .returned (.int .i64 n7) /\
 K (.int .i64 n7) w7
theorem lY (n0 : Int) {w : World} {K : Value -> World -> Prop} (h : ig n0 w K) : Calls prog eq #[.int .u64 n0] w (Ret K) :=
 au (c := ay Tryz.f257) (by kernel_rfl) Tryz.func257 (by kernel_rfl) [] [.int .u64 n0] (of_decide_eq_true (by kernel_rfl)) _ (by kernel_rfl) h

--  math/bits.TrailingZeros64
def gv (n0 : Int) (w : World) (K : Value -> World -> Prop) : Prop :=
 af (n0 == (0 : Int))
 (K (.int .i64 (64 : Int)) w)
 ((0 <= (58 : Int)) /\
 ((0 <= (Int.fdiv (IntKind.u64.wrap ((IntKind.u64.wrap (((BitVec.ofInt (IntKind.bits .u64) n0) &&& (BitVec.ofInt (IntKind.bits .u64) (IntKind.u64.wrap (0 - n0)))).toNat : Nat)) * (285870213051353865 : Int))) (2 ^ (min (Int.toNat (58 : Int)) (IntKind.bits .u64)))) /\ (Int.fdiv (IntKind.u64.wrap ((IntKind.u64.wrap (((BitVec.ofInt (IntKind.bits .u64) n0) &&& (BitVec.ofInt (IntKind.bits .u64) (IntKind.u64.wrap (0 - n0)))).toNat : Nat)) * (285870213051353865 : Int))) (2 ^ (min (Int.toNat (58 : Int)) (IntKind.bits .u64)))) < ((64 : Nat) : Int)) /\ true = true) /\
 ∃ n12, Ld aF (ao (some ⟨5, 0, none⟩) (Int.fdiv (IntKind.u64.wrap ((IntKind.u64.wrap (((BitVec.ofInt (IntKind.bits .u64) n0) &&& (BitVec.ofInt (IntKind.bits .u64) (IntKind.u64.wrap (0 - n0)))).toNat : Nat)) * (285870213051353865 : Int))) (2 ^ (min (Int.toNat (58 : Int)) (IntKind.bits .u64)))) 1) w (.int .u8 n12) /\
 K (.int .i64 (i64.wrap n12)) w)
theorem kL (n0 : Int) {w : World} {K : Value -> World -> Prop} (h : gv n0 w K) : Calls prog gC #[.int .u64 n0] w (Ret K) :=
 au (c := ay Tryz.f259) (by kernel_rfl) Tryz.func259 (by kernel_rfl) [] [.int .u64 n0] (of_decide_eq_true (by kernel_rfl)) _ (by kernel_rfl) h
end Go.Proofs.YtpafoodmpjlkhaaGreatDoor
namespace Go.Proofs.YtpafoodmpjlkhaaGreatDoor
open Go.Pk
open Go.RowKit (Below)
--  cracknel/octet.Digits
def qC (s0 : List UInt8) (w : World) (K : Value -> World -> Prop) : Prop :=
 af (!(s0 == []))
 (((0 <= (10 : Int) /\ (10 : Int) <= (((List.length [48, 49, 50, 51, 52, 53, 54, 55, 56, 57, 65, 66, 67, 68, 69, 70]) : Nat) : Int))) /\
 ∀ s7, s7 = (List.take (Int.toNat (10 : Int)) [48, 49, 50, 51, 52, 53, 54, 55, 56, 57, 65, 66, 67, 68, 69, 70]) ->
 Calls prog xH #[.string (mkS s0), .string (mkS s7)] w fun e8 w8 => ∃ s8, e8 = .returned (.string (mkS s8)) /\
 K (.bool (s8 == [])) w8)
 (K (.bool false) w)
theorem vf (s0 : List UInt8) {w : World} {K : Value -> World -> Prop} (h : qC s0 w K) : Calls prog ir #[.string (mkS s0)] w (Ret K) :=
 au (c := ay Tryz.f56) (by kernel_rfl) Tryz.func56 (by kernel_rfl) [] [.string (mkS s0)] (of_decide_eq_true (by kernel_rfl)) _ (by kernel_rfl) h

--  cracknel/cracknelref01.Split
def ry (s0 : List UInt8) (n1 : Int) (w : World) (K : Value -> World -> Prop) : Prop :=
 ∀ k7 w7, k7 = w.heap.size -> w7 = w.alloc (.cells #[.int .u8 n1] aF) ->
 ∃ s8, (convert aV ar (.slice (some ⟨k7, 0, none⟩) 1 1)).run prog w7 = .ok (.string (mkS s8)) w7 /\
 Calls prog vW #[.string (mkS s0), .string (mkS s8)] w7 fun e9 w9 => ∃ a9 l9 c9, e9 = .returned (.slice a9 l9 c9) /\
 K (.slice a9 l9 c9) w9
theorem wV (s0 : List UInt8) (n1 : Int) {w : World} {K : Value -> World -> Prop} (h : ry s0 n1 w K) : Calls prog gY #[.string (mkS s0), .int .u8 n1] w (Ret K) :=
 au (c := ay Tryz.f120) (by kernel_rfl) Tryz.func120 (by kernel_rfl) [] [.string (mkS s0), .int .u8 n1] (of_decide_eq_true (by kernel_rfl)) _ (by kernel_rfl) h

--  cracknel/octet.Lower
def rx (s0 : List UInt8) (w : World) (K : Value -> World -> Prop) : Prop :=
 ∃ w7 a7 l7 c7, (convert ar aV (.string (mkS s0))).run prog w = .ok (.slice a7 l7 c7) w7 /\
 ∃ I : Nat -> FP [.one (.int .i64)],
 (∃ m, I m (0 : Int) w7) /\
 ∀ m n10, aE 19 (∀ wl, I m n10 wl ->
 af (decide (n10 < ((l7 : Nat) : Int)))
 (((0 <= n10 /\ n10 < ((l7 : Nat) : Int)) /\ Option.isSome a7 = true) /\
 ∃ n14, Ld aF (ao a7 n10 1) wl (.int .u8 n14) /\
 ∃ J : FP [.one (.bool)],
 (af (decide (n14 >= (65 : Int)))
 (J (decide (n14 <= (90 : Int))) wl)
 (J false wl)) /\
 ∀ b20, aE 5 (∀ wj, J b20 wj ->
 af b20
 (((0 <= n10 /\ n10 < ((l7 : Nat) : Int)) /\ Option.isSome a7 = true) /\
 ∃ wx, Sv aF (ao a7 n10 1) (.int .u8 (IntKind.u8.wrap ((IntKind.u8.wrap (n14 - (65 : Int))) + (97 : Int)))) wj wx /\
 ∃ m' : Nat, m' < m /\ I m' (i64.wrap (n10 + (1 : Int))) wx)
 (∃ m' : Nat, m' < m /\ I m' (i64.wrap (n10 + (1 : Int))) wj)))
 (∃ s29, (convert aV ar (.slice a7 l7 c7)).run prog wl = .ok (.string (mkS s29)) wl /\
 K (.string (mkS s29)) wl))
theorem wU (s0 : List UInt8) {w : World} {K : Value -> World -> Prop} (h : rx s0 w K) : Calls prog lj #[.string (mkS s0)] w (Ret K) :=
 au (c := ay Tryz.f121) (by kernel_rfl) Tryz.func121 (by kernel_rfl) [(8, [(10, .one (.int .i64))]), (19, [(20, .one (.bool))])] [.string (mkS s0)] (of_decide_eq_true (by kernel_rfl)) _ (by kernel_rfl) h

--  cracknel/cracknelref01.Number
def qD (s0 : List UInt8) (w : World) (K : Value -> World -> Prop) : Prop :=
 ∃ J : FP [],
 (Calls prog ir #[.string (mkS s0)] w fun e8 w8 => ∃ b8, e8 = .returned (.bool b8) /\
 af (!b8)
 (K (.tuple #[.int .i64 (0 : Int), .bool false]) w8)
 (af (decide (((List.length s0 : Nat) : Int) > (18 : Int)))
 (K (.tuple #[.int .i64 (0 : Int), .bool false]) w8)
 (((0 <= (0 : Int) /\ (0 : Int) < ((List.length s0 : Nat) : Int))) /\
 af ((aP s0 (0 : Int)) == (48 : Int))
 (af (decide (((List.length s0 : Nat) : Int) > (1 : Int)))
 (K (.tuple #[.int .i64 (0 : Int), .bool false]) w8)
 (J w8))
 (J w8)))) /\
 aE 20 (∀ wj, J wj ->
 ∃ w26 a26 l26 c26, (convert ar aV (.string (mkS s0))).run prog wj = .ok (.slice a26 l26 c26) w26 /\
 ∃ I : Nat -> FP [.one (.int .i64), .one (.int .i64)],
 (∃ m, I m (0 : Int) (0 : Int) w26) /\
 ∀ m n4 n28, aE 11 (∀ wl, I m n4 n28 wl ->
 af (decide (n28 < ((l26 : Nat) : Int)))
 (((0 <= n28 /\ n28 < ((l26 : Nat) : Int)) /\ Option.isSome a26 = true) /\
 ∃ n31, Ld aF (ao a26 n28 1) wl (.int .u8 n31) /\
 ∃ m' : Nat, m' < m /\ I m' (i64.wrap ((i64.wrap ((10 : Int) * n4)) + (i64.wrap (IntKind.u8.wrap (n31 - (48 : Int)))))) (i64.wrap (n28 + (1 : Int))) wl)
 (K (.tuple #[.int .i64 n4, .bool true]) wl)))
theorem vg (s0 : List UInt8) {w : World} {K : Value -> World -> Prop} (h : qD s0 w K) : Calls prog mZ #[.string (mkS s0)] w (Ret K) :=
 au (c := ay Tryz.f175) (by kernel_rfl) Tryz.func175 (by kernel_rfl) [(2, []), (16, [(4, .one (.int .i64)), (28, .one (.int .i64))])] [.string (mkS s0)] (of_decide_eq_true (by kernel_rfl)) _ (by kernel_rfl) h
end Go.Proofs.YtpafoodmpjlkhaaGreatDoor
namespace Go.Pk
open Go.RowKit (Below)
theorem FQ {P : Program} {name : String} {k : IntKind} {zs : List Int} {w w' : World} (h : Lib.TabIs P w name k zs) (hb : ∀ b, b < w.heap.size -> w'.heap[b]? = w.heap[b]?) : Lib.TabIs P w' name k zs := by
 unfold Lib.TabIs World.var? at h ⊢
 cases hg : P.globalNamed name with
 | none => rw [hg] at h; cases h
 | some g =>
   rw [hg] at h
   simp only [Option.bind_some] at h ⊢
   have hlt : g < w.heap.size := by
     cases hh : w.heap[g]? with
     | none => rw [hh] at h; cases h
     | some o => exact (Array.getElem?_eq_some_iff.1 hh).1
   rw [hb g hlt]; exact h
end Go.Pk
namespace Go.Proofs.YtpafoodmpjlkhaaGreatDoor
open Go.Pk
open Go.RowKit (Below)
structure Env (w : World) : Prop where
 tab : Lib.TabIs prog w "internal/strconv.uint64pow10" .u64 Lib.pow10Tab
 max : ∃ m : Int, w.cell? ⟨0, 0, none⟩ = some (.int .i64 m)
 tz : w.cell? ⟨5, 15, none⟩ = some (.int .u8 4)
theorem ES {w : World} {b o : Nat} {v : Value} (h : w.cell? ⟨b, o, none⟩ = some v) : b < w.heap.size := by
 cases hh : w.heap[b]? with
 | none => simp [World.cell?, hh] at h
 | some x => exact (Array.getElem?_eq_some_iff.1 hh).1
theorem Env.same {w w' : World} (h : Env w) (hb : ∀ b, b < w.heap.size -> w'.heap[b]? = w.heap[b]?) : Env w' := by
 obtain ⟨m, hm⟩ := h.max
 exact ⟨FQ h.tab hb, ⟨m, by rw [kp (hb _ (ES hm))]; exact hm⟩, by rw [kp (hb _ (ES h.tz))]; exact h.tz⟩
theorem Env.step {w w' : World} (h : Env w) (hb : Below w.heap.size w w') : Env w' := h.same fun b hlt => hb.block b hlt
theorem Env.grown {w0 w w' : World} {row : Option Nat} (h0 : Env w0) (h : Env w) (hg : w.grownBy w' row) (hr : ∀ x, row = some x -> w0.heap.size <= x) (hb : Below w0.heap.size w0 w) : Env w' :=
 h0.step (hb.grown hg hb.size hr)
end Go.Proofs.YtpafoodmpjlkhaaGreatDoor
set_option linter.unusedSimpArgs false
namespace Go.Pk
def aZ (c : UInt8) : List UInt8 -> List UInt8 -> List (List UInt8)
 | cur, [] => [cur]
 | cur, x :: r => if x = c then cur :: aZ c [] r else aZ c (cur ++ [x]) r
theorem ze (c : UInt8) : ∀ (a cur r : List UInt8), (∀ x ∈ a, x ≠ c) -> aZ c cur (a ++ c :: r) = (cur ++ a) :: aZ c [] r
 | [], cur, r, _ => by
   show (if c = c then _ else _) = _
   rw [if_pos rfl, List.append_nil]
 | x :: a, cur, r, ha => by
   show (if x = c then _ else _) = _
   rw [if_neg (ha x List.mem_cons_self)]
   exact (ze c a (cur ++ [x]) r fun y hy => ha y (List.mem_cons_of_mem _ hy)).trans (by simp)
theorem vJ (c : UInt8) : ∀ (a cur : List UInt8), (∀ x ∈ a, x ≠ c) -> aZ c cur a = [cur ++ a]
 | [], cur, _ => by simp [aZ]
 | x :: a, cur, ha => by
   show (if x = c then _ else _) = _
   rw [if_neg (ha x List.mem_cons_self)]
   exact (vJ c a (cur ++ [x]) fun y hy => ha y (List.mem_cons_of_mem _ hy)).trans (by simp)
theorem gy (c : UInt8) : ∀ (s cur : List UInt8), aZ c cur s ≠ []
 | [], cur => by simp [aZ]
 | x :: s, cur => by
   show (if x = c then _ else _) ≠ _
   split
   · simp
   · exact gy c s _
theorem gW (c : UInt8) : ∀ (s cur x : List UInt8), x ∈ aZ c cur s -> x.length <= cur.length + s.length
 | [], cur, x, h => by simp [aZ] at h; subst h; simp
 | y :: r, cur, x, h => by
   unfold aZ at h
   split at h
   · rcases List.mem_cons.1 h with rfl | h
     · simp
     · have := gW c r [] x h; simp at this ⊢; omega
   · have := gW c r _ x h; simp at this ⊢; omega
theorem gi (c : UInt8) : ∀ (s cur : List UInt8), (aZ c cur s).length <= s.length + 1
 | [], cur => by simp [aZ]
 | y :: r, cur => by
   unfold aZ
   split
   · have := gi c r []; simp; omega
   · have := gi c r (cur ++ [y]); simp; omega
theorem bC (c : UInt8) : ∀ (s cur r : List UInt8), aZ c cur (s ++ c :: r) = aZ c cur s ++ aZ c [] r
 | [], cur, r => by
   show (if c = c then _ else _) = _
   rw [if_pos rfl]; rfl
 | x :: s, cur, r => by
   show (if x = c then cur :: aZ c [] (s ++ c :: r) else aZ c (cur ++ [x]) (s ++ c :: r)) = (if x = c then cur :: aZ c [] s else aZ c (cur ++ [x]) s) ++ aZ c [] r
   split
   · rw [bC c s]; rfl
   · rw [bC c s]
theorem D7 (s : List UInt8) (c : UInt8) : (Lib.index s [c] = -1 /\ ∀ x ∈ s, x ≠ c) \/ ∃ i : Nat, Lib.index s [c] = (i : Int) /\ ∃ h : i < s.length, s = s.take i ++ c :: s.drop (i + 1) /\ ∀ x ∈ s.take i, x ≠ c := by
 induction s with
 | nil => exact .inl ⟨rfl, fun x h => by cases h⟩
 | cons b l ih =>
   by_cases h : b = c
   · subst h
     refine .inr ⟨0, by rw [Lib.index]; simp [List.isPrefixOf], by simp, rfl, fun x h => by simp at h⟩
   · have hp : ([c] : List UInt8).isPrefixOf (b :: l) = false := by simp [List.isPrefixOf, Ne.symm h]
     have hix : Lib.index (b :: l) [c] = if Lib.index l [c] == -1 then -1 else Lib.index l [c] + 1 := by rw [Lib.index, hp]; simp
     rcases ih with ⟨h1, h2⟩ | ⟨i, h1, h2, h3, h4⟩
     · refine .inl ⟨by rw [hix, h1]; rfl, fun x hx => ?_⟩
       rcases List.mem_cons.1 hx with rfl | hx
       · exact h
       · exact h2 x hx
     · refine .inr ⟨i + 1, ?_, by simpa using h2, ?_, fun x hx => ?_⟩
       · rw [hix, h1, if_neg (by rw [beq_iff_eq]; omega)]; omega
       · simp only [List.take_succ_cons, List.drop_succ_cons, List.cons_append]
         rw [<- h3]
       · rw [List.take_succ_cons] at hx
         rcases List.mem_cons.1 hx with rfl | hx
         · exact h
         · exact h4 x hx
theorem xf (c : UInt8) : ∀ (n : Nat) (s : List UInt8), s.length <= n -> Lib.splitK [c] 0 (Lib.count s [c]) s = aZ c [] s
 | n, s, hn => by
   rcases D7 s c with ⟨h1, h2⟩ | ⟨i, h1, h2, h3, h4⟩
   · rw [Lib.count_miss h1, vJ c s [] h2]; rfl
   · have hc := Lib.count_hit (s := s) (sub := [c]) (by simp) h1
     cases n with
     | zero => omega
     | succ n =>
       have ih := xf c n (s.drop (i + 1)) (by rw [List.length_drop]; omega)
       rw [hc, Nat.add_comm 1]
       unfold Lib.splitK
       rw [if_neg (by rw [h1, beq_iff_eq]; omega), h1]
       simp only [Int.toNat_natCast, Nat.add_zero, List.length_cons, List.length_nil, Nat.zero_add]
       rw [ih]
       conv => rhs; rw [h3, ze c _ _ _ h4]
       simp
theorem xg (s : List UInt8) (c : UInt8) : (Lib.splitB (mkS [c]) 0 (Lib.countB (mkS s) (mkS [c])) (mkS s)).map Value.string = (aZ c [] s).map fun x => Value.string (mkS x) := by
 have h := Lib.splitB_data (mkS [c]) 0 (Lib.countB (mkS s) (mkS [c])) (mkS s)
 have h2 : Lib.splitK (mkS [c]).data.toList 0 (Lib.countB (mkS s) (mkS [c])) (mkS s).data.toList = aZ c [] s := xf c _ s (Nat.le_refl _)
 rw [h2] at h
 rw [<- h, List.map_map]
 rfl
theorem CG (s : List UInt8) (c : UInt8) : Lib.countB (mkS s) (mkS [c]) + 1 = (aZ c [] s).length := by
 have h := xg s c
 have h2 := congrArg List.length h
 rw [List.length_map, List.length_map, Lib.splitB_all (mkS [c]) (Nat.le_refl 1) 0 _ _ rfl] at h2
 exact h2
end Go.Pk
namespace Go.Pk
def Jl (y : Int) : Bool := (decide (Int.tmod y 4 = 0) && decide (Int.tmod y 100 ≠ 0)) || decide (Int.tmod y 400 = 0)
def JC (y m : Int) : Int := if m = 2 then (if Jl y then 29 else 28) else if m = 4 \/ m = 6 \/ m = 9 \/ m = 11 then 30 else 31
def Fm (y m d : Int) : Prop := 1601 <= y /\ y <= 9999 /\ 1 <= m /\ m <= 12 /\ 1 <= d /\ d <= JC y m
instance (y m d : Int) : Decidable (Fm y m d) := by unfold Fm; infer_instance
end Go.Pk
namespace Go.Pk
def sN (k : Nat) : Nat := if k = 400 then 146097 else 365 * k + k / 4 - k / 100
end Go.Pk
set_option maxRecDepth 20000
namespace Go.Pk
def Am (c : UInt8) : UInt8 := if 65 <= c /\ c <= 90 then c + 32 else c
def fU (s : List UInt8) : List UInt8 := s.map Am
theorem GD : ∀ n, n < 256 -> ((Am (UInt8.ofNat n)).toNat : Int) = if 65 <= (n : Int) /\ (n : Int) <= 90 then (n : Int) + 32 else (n : Int) := by decide +kernel
theorem zH (c : UInt8) : ((Am c).toNat : Int) = if 65 <= (c.toNat : Int) /\ (c.toNat : Int) <= 90 then (c.toNat : Int) + 32 else (c.toNat : Int) := by
 have := GD c.toNat (by have := c.toNat_lt; omega)
 rwa [UInt8.ofNat_toNat] at this
end Go.Pk
namespace Go.Proofs.YtpafoodmpjlkhaaGreatDoor
open Go.Pk
open Go.RowKit (Below)
theorem rj (s : List UInt8) (hs : s.length <= 9223372036854775800) (w : World) : Calls prog lj #[.string (mkS s)] w (Ret fun v w' => v = .string (mkS (fU s)) /\ Below w.heap.size w w') := by
 apply wU
 unfold rx
 obtain ⟨w1, a, n, c, hr, ho, hb, hf⟩ := vj aC cD bF w s (by omega) NoB
 have hn := ho.len
 subst hn
 refine ⟨w1, a, _, c, hr, ?_⟩
 refine ⟨fun m i w' => ∃ k : Nat, k <= s.length /\ i = (k : Int) /\ m = s.length - k /\ Ow tU8 aF w' NoB a s.length c (fU (s.take k) ++ s.drop k) /\ w1.grownBy w' (bE a),
   ⟨_, 0, by omega, rfl, rfl, by simpa [fU] using ho, ⟨rfl, rfl, rfl, Nat.le_refl _, fun _ _ _ => rfl⟩⟩, ?_⟩
 intro m i
 refine aE.of ?_ _
 rintro w' ⟨k, hk, rfl, rfl, ho', hg⟩
 have hll : (fU (s.take k) ++ s.drop k).length = s.length := by simp [fU]; omega
 refine af.of (fun h => ?_) (fun h => ?_) <;> simp at h
 · have hlk : (fU (s.take k)).length = k := by simp [fU]; omega
   have hsl := ho'.all
   obtain ⟨v, hv, hrep⟩ := hsl.load1 (i := (k : Int)) bF rfl rfl (by rw [hll]; simpa using h)
   have := yO hrep
   subst this
   have eg : (fU (s.take k) ++ s.drop k)[(k : Int).toNat]'(by rw [hll]; simpa using h) = s[k] := by
     simp only [Int.toNat_natCast]
     rw [List.getElem_append_right (by rw [hlk]; exact Nat.le_refl _)]
     simp [hlk]
   rw [eg] at hv
   have hin : (0 <= (k : Int) /\ (k : Int) < ((s.length : Nat) : Int)) /\ Option.isSome a = true := ⟨⟨by omega, by omega⟩, hsl.isSome (i := k) (by rw [hll]; exact h)⟩
   have hlt := jP s[k]
   have hlow := zH s[k]
   have e1 : i64.wrap ((k : Int) + 1) = ((k + 1 : Nat) : Int) := by rw [ak (by omega) (by omega)]; omega
   rw [e1]
   have hstep : ∀ x, (fU (s.take k) ++ s.drop k).set k x = fU (s.take k) ++ x :: s.drop (k + 1) := fun x => by
     rw [List.set_append_right _ _ (by rw [hlk]; exact Nat.le_refl _), hlk, Nat.sub_self, List.drop_eq_getElem_cons h]; rfl
   have hnext : fU (s.take (k + 1)) ++ s.drop (k + 1) = fU (s.take k) ++ Am s[k] :: s.drop (k + 1) := by
     unfold fU; rw [List.take_succ_eq_append_getElem h, List.map_append, List.append_assoc]; rfl
   refine ⟨hin, _, hv, fun b w'' => w'' = w' /\ b = decide (65 <= (s[k].toNat : Int) /\ (s[k].toNat : Int) <= 90), ?_, ?_⟩
   · refine af.of (fun h2 => ?_) (fun h2 => ?_) <;> simp only [ge_iff_le, dTx, dFx] at h2
     · exact ⟨rfl, by simp [h2]⟩
     · exact ⟨rfl, by simp [h2]⟩
   · intro b
     refine aE.of ?_ _
     rintro w' ⟨rfl, rfl⟩
     refine af.of (fun h2 => ?_) (fun h2 => ?_) <;> simp only [dTx, dFx] at h2
     · rw [if_pos h2] at hlow
       rw [jL (n := (s[k].toNat : Int) - 65) (by omega) (by omega), jL (by omega) (by omega)]
       obtain ⟨w4, hs4, ho4, hg4⟩ := ho'.store (P := prog) (bytes := 1) (z := .int .u8 0) gu (fun _ _ h => h) (i := (k : Int)) (by rw [hll]; simpa using h) (k := 1) rfl (v := .int .u8 ((s[k].toNat : Int) - 65 + 97)) (x := Am s[k]) (sK (by rw [hlow]; omega))
       simp only [Int.toNat_natCast] at ho4
       rw [hstep, <- hnext] at ho4
       exact ⟨hin, w4, hs4, s.length - (k + 1), by omega, k + 1, by omega, rfl, rfl, ho4, ⟨hg4.os.trans hg.os, hg4.tape.trans hg.tape, hg4.output.trans hg.output, Nat.le_trans hg.size hg4.size, fun q hq hne => (hg4.block q (Nat.lt_of_lt_of_le hq hg.size) hne).trans (hg.block q hq hne)⟩⟩
     · rw [if_neg h2] at hlow
       have hc : Am s[k] = s[k] := FU hlow
       refine ⟨s.length - (k + 1), by omega, k + 1, by omega, rfl, rfl, ?_, hg⟩
       rw [hnext, hc, <- List.drop_eq_getElem_cons h]; exact ho'
 · have : k = s.length := by omega
   subst this
   have e2 : fU (s.take s.length) ++ s.drop s.length = fU s := by simp
   rw [e2] at ho'
   exact ⟨_, oU cD aC bF ho'.all, rfl, hb.grown hg hb.size hf⟩
end Go.Proofs.YtpafoodmpjlkhaaGreatDoor
namespace Go.Proofs
open Go.Shelf
open Go.RowKit in
open Go.RowKit in
open Go.RowKit in
open Go.RowKit in
open Go.RowKit in
open Go.RowKit in
def Tryz.lays156_ren : Go.Shelf.Ren := ⟨fun | 156 => 66 | 165 => 125 | 166 => 126 | 169 => 127 | 240 => 179 | 241 => 180 | 276 => 217 | 277 => 218 | n => n, fun | 31 => 38 | 9 => 9 | 3 => 3 | 4 => 4 | 0 => 0 | 20 => 20 | 72 => 164 | 76 => 168 | 70 => 162 | 37 => 39 | 75 => 167 | 127 => 229 | 164 => 267 | 5 => 5 | 80 => 53 | n => n, fun | n => n⟩
theorem Tryz.lays156 : Go.Proofs.Lays.n156 prog Tryz.lays156_ren := {
 mixed := by kernel_rfl
 f156 := Tryz.func66.trans (congrArg some (by kernel_rfl))
 f165 := Tryz.func125.trans (congrArg some (by kernel_rfl))
 f166 := Tryz.func126.trans (congrArg some (by kernel_rfl))
 f169 := Tryz.func127.trans (congrArg some (by kernel_rfl))
 f240 := Tryz.func179.trans (congrArg some (by kernel_rfl))
 f241 := Tryz.func180.trans (congrArg some (by kernel_rfl))
 f276 := Tryz.func217.trans (congrArg some (by kernel_rfl))
 f277 := Tryz.func218.trans (congrArg some (by kernel_rfl))
 t0 := Tryz.underlying0
 a0 := Tryz.isAgg0
 z0 := Tryz.sizeOf0
 v0 := Tryz.zeroValue0
 t3 := Tryz.underlying3
 a3 := Tryz.isAgg3
 z3 := Tryz.sizeOf3
 v3 := Tryz.zeroValue3
 t4 := Tryz.underlying4
 a4 := Tryz.isAgg4
 z4 := Tryz.sizeOf4
 v4 := Tryz.zeroValue4
 t9 := Tryz.underlying9
 a9 := Tryz.isAgg9
 z9 := Tryz.sizeOf9
 v9 := Tryz.zeroValue9
 t20 := Tryz.underlying20
 a20 := Tryz.isAgg20
 z20 := Tryz.sizeOf20
 v20 := Tryz.zeroValue20
 t31 := Tryz.underlying38
 a31 := Tryz.isAgg38
 z31 := Tryz.sizeOf38
 v31 := Tryz.zeroValue38
 t37 := Tryz.underlying39
 a37 := Tryz.isAgg39
 z37 := Tryz.sizeOf39
 v37 := Tryz.zeroValue39
 t70 := Tryz.underlying162
 a70 := Tryz.isAgg162
 z70 := Tryz.sizeOf162
 v70 := Tryz.zeroValue162
 t72 := Tryz.underlying164
 a72 := Tryz.isAgg164
 z72 := Tryz.sizeOf164
 v72 := Tryz.zeroValue164
 t75 := Tryz.underlying167
 a75 := Tryz.isAgg167
 z75 := Tryz.sizeOf167
 v75 := Tryz.zeroValue167
 t76 := Tryz.underlying168
 a76 := Tryz.isAgg168
 z76 := Tryz.sizeOf168
 v76 := Tryz.zeroValue168
 t127 := Tryz.underlying229
 a127 := Tryz.isAgg229
 z127 := Tryz.sizeOf229
 v127 := Tryz.zeroValue229
 t164 := Tryz.underlying267
 a164 := Tryz.isAgg267
 z164 := Tryz.sizeOf267
 v164 := Tryz.zeroValue267 }
theorem Tryz.Builder_Extra_156 : Builder.Extra prog Tryz.lays156_ren := {
 sizeBuilder := by kernel_rfl
 liesBuilder := by kernel_rfl
 t5 := Tryz.underlying5
 a5 := Tryz.isAgg5
 z5 := Tryz.sizeOf5
 v5 := Tryz.zeroValue5
 infoByte := by kernel_rfl
 cellsByte := by kernel_rfl
 sizeByte := by kernel_rfl
 neB5 := by decide }
open Go.RowKit in
theorem Tryz.strings_Join_none (a : Option Addr) (c : Nat) (sep : ByteArray) (w : World) :
   Calls prog 66 #[.slice a 0 c, .string sep] w fun e w' => e = .returned (.string ⟨#[]⟩) /\ w' = w := Any.strings_Join_none Tryz.lays156 Tryz.Builder_Extra_156 a c sep w
open Go.RowKit in
theorem Tryz.strings_Join (bk o c : Nat) (xs : List ByteArray) (sep : ByteArray) (w : World) (hcells : ∀ (j : Nat) x, xs[j]? = some x -> w.cell? ⟨bk, o + j, none⟩ = some (.string x)) (hbk : bk < w.heap.size) (hN : xs.length <= 140737488355328) (hcap : xs.length <= c) (hlen : (Lib.join (xs.map (·.data.toList)) sep.data.toList).length <= 140737488355328) :
   Calls prog 66 #[.slice (some ⟨bk, o, none⟩) xs.length c, .string sep] w fun e w' => e = .returned (.string ⟨(Lib.join (xs.map (·.data.toList)) sep.data.toList).toArray⟩) /\ Below w.heap.size w w' := Any.strings_Join Tryz.lays156 Tryz.Builder_Extra_156 bk o c xs sep w hcells hbk hN hcap hlen
open Go.RowKit in
open Go.RowKit in
def Tryz.lays160_ren : Go.Shelf.Ren := ⟨fun | 160 => 105 | 232 => 161 | 231 => 160 | 227 => 162 | 234 => 164 | 233 => 163 | 236 => 166 | 235 => 165 | 228 => 207 | 271 => 210 | 151 => 209 | 197 => 208 | 120 => 232 | 152 => 231 | 260 => 230 | 137 => 139 | 119 => 243 | 224 => 244 | 225 => 245 | 217 => 186 | 266 => 221 | n => n, fun | 9 => 9 | 4 => 4 | 3 => 3 | 5 => 5 | 117 => 212 | 116 => 211 | 0 => 0 | 124 => 215 | 21 => 21 | 105 => 259 | 46 => 191 | 119 => 293 | 139 => 296 | 138 => 295 | n => n, fun | 3 => 1 | 4 => 2 | n => n⟩
theorem Tryz.lays160 : Go.Proofs.Lays.n160 prog Tryz.lays160_ren := {
 mixed := by kernel_rfl
 f119 := Tryz.func243.trans (congrArg some (by kernel_rfl))
 f120 := Tryz.func232.trans (congrArg some (by kernel_rfl))
 f137 := Tryz.func139.trans (congrArg some (by kernel_rfl))
 f151 := Tryz.func209.trans (congrArg some (by kernel_rfl))
 f152 := Tryz.func231.trans (congrArg some (by kernel_rfl))
 f160 := Tryz.func105.trans (congrArg some (by kernel_rfl))
 f197 := Tryz.func208.trans (congrArg some (by kernel_rfl))
 f217 := Tryz.func186.trans (congrArg some (by kernel_rfl))
 f224 := Tryz.func244.trans (congrArg some (by kernel_rfl))
 f225 := Tryz.func245.trans (congrArg some (by kernel_rfl))
 f227 := Tryz.func162.trans (congrArg some (by kernel_rfl))
 f228 := Tryz.func207.trans (congrArg some (by kernel_rfl))
 f231 := Tryz.func160.trans (congrArg some (by kernel_rfl))
 f232 := Tryz.func161.trans (congrArg some (by kernel_rfl))
 f233 := Tryz.func163.trans (congrArg some (by kernel_rfl))
 f234 := Tryz.func164.trans (congrArg some (by kernel_rfl))
 f235 := Tryz.func165.trans (congrArg some (by kernel_rfl))
 f236 := Tryz.func166.trans (congrArg some (by kernel_rfl))
 f260 := Tryz.func230.trans (congrArg some (by kernel_rfl))
 f266 := Tryz.func221.trans (congrArg some (by kernel_rfl))
 f271 := Tryz.func210.trans (congrArg some (by kernel_rfl))
 t0 := Tryz.underlying0
 a0 := Tryz.isAgg0
 z0 := Tryz.sizeOf0
 v0 := Tryz.zeroValue0
 t3 := Tryz.underlying3
 a3 := Tryz.isAgg3
 z3 := Tryz.sizeOf3
 v3 := Tryz.zeroValue3
 t4 := Tryz.underlying4
 a4 := Tryz.isAgg4
 z4 := Tryz.sizeOf4
 v4 := Tryz.zeroValue4
 t5 := Tryz.underlying5
 a5 := Tryz.isAgg5
 z5 := Tryz.sizeOf5
 v5 := Tryz.zeroValue5
 t9 := Tryz.underlying9
 a9 := Tryz.isAgg9
 z9 := Tryz.sizeOf9
 v9 := Tryz.zeroValue9
 t21 := Tryz.underlying21
 a21 := Tryz.isAgg21
 z21 := Tryz.sizeOf21
 v21 := Tryz.zeroValue21
 t46 := Tryz.underlying191
 a46 := Tryz.isAgg191
 z46 := Tryz.sizeOf191
 v46 := Tryz.zeroValue191
 t105 := Tryz.underlying259
 a105 := Tryz.isAgg259
 z105 := Tryz.sizeOf259
 v105 := Tryz.zeroValue259
 t116 := Tryz.underlying211
 a116 := Tryz.isAgg211
 z116 := Tryz.sizeOf211
 t117 := Tryz.underlying212
 a117 := Tryz.isAgg212
 z117 := Tryz.sizeOf212
 v117 := Tryz.zeroValue212
 t119 := Tryz.underlying293
 a119 := Tryz.isAgg293
 z119 := Tryz.sizeOf293
 t124 := Tryz.underlying215
 a124 := Tryz.isAgg215
 z124 := Tryz.sizeOf215
 v124 := Tryz.zeroValue215
 t138 := Tryz.underlying295
 a138 := Tryz.isAgg295
 z138 := Tryz.sizeOf295
 v138 := Tryz.zeroValue295
 t139 := Tryz.underlying296
 a139 := Tryz.isAgg296
 z139 := Tryz.sizeOf296
 v139 := Tryz.zeroValue296
 g3 := by kernel_rfl
 g4 := by kernel_rfl }
open Go.RowKit in
def Tryz.lays137_ren : Go.Shelf.Ren := ⟨fun | 137 => 139 | 217 => 186 | 266 => 221 | n => n, fun | 9 => 9 | 5 => 5 | 3 => 3 | n => n, fun | n => n⟩
theorem Tryz.lays137 : Go.Proofs.Lays.n137 prog Tryz.lays137_ren := {
 mixed := by kernel_rfl
 f137 := Tryz.func139.trans (congrArg some (by kernel_rfl))
 f217 := Tryz.func186.trans (congrArg some (by kernel_rfl))
 f266 := Tryz.func221.trans (congrArg some (by kernel_rfl))
 t3 := Tryz.underlying3
 a3 := Tryz.isAgg3
 z3 := Tryz.sizeOf3
 v3 := Tryz.zeroValue3
 t5 := Tryz.underlying5
 a5 := Tryz.isAgg5
 z5 := Tryz.sizeOf5
 v5 := Tryz.zeroValue5
 t9 := Tryz.underlying9
 a9 := Tryz.isAgg9
 z9 := Tryz.sizeOf9
 v9 := Tryz.zeroValue9 }
open Go.RowKit in
theorem Tryz.strings_IndexByte (s : ByteArray) (c : Int) (w : World) :
   Calls prog 139 #[.string s, .int .u8 c] w fun e w' => e = .returned (.int .i64 (Lib.indexByte s.data.toList c.toNat.toUInt8)) /\ w' = w := Any.strings_IndexByte Tryz.lays137 s c w
open Go.RowKit in
def Tryz.lays103_ren : Go.Shelf.Ren := ⟨fun | 103 => 116 | 210 => 169 | 206 => 212 | n => n, fun | 9 => 9 | 4 => 4 | 24 => 159 | 3 => 3 | n => n, fun | n => n⟩
theorem Tryz.lays103 : Go.Proofs.Lays.n103 prog Tryz.lays103_ren := {
 mixed := by kernel_rfl
 f103 := Tryz.func116.trans (congrArg some (by kernel_rfl))
 f206 := Tryz.func212.trans (congrArg some (by kernel_rfl))
 f210 := Tryz.func169.trans (congrArg some (by kernel_rfl))
 t3 := Tryz.underlying3
 a3 := Tryz.isAgg3
 z3 := Tryz.sizeOf3
 v3 := Tryz.zeroValue3
 t4 := Tryz.underlying4
 a4 := Tryz.isAgg4
 z4 := Tryz.sizeOf4
 v4 := Tryz.zeroValue4
 t9 := Tryz.underlying9
 a9 := Tryz.isAgg9
 z9 := Tryz.sizeOf9
 v9 := Tryz.zeroValue9
 t24 := Tryz.underlying159
 a24 := Tryz.isAgg159
 z24 := Tryz.sizeOf159
 v24 := Tryz.zeroValue159 }
open Go.RowKit in
theorem Tryz.strings_CutPrefix (s p : ByteArray) (w : World) :
   Calls prog 116 #[.string s, .string p] w fun e w' => e = .returned (.tuple #[.string ⟨(Lib.trimPrefix s.data.toList p.data.toList).toArray⟩, .bool (Lib.hasPrefix s.data.toList p.data.toList)]) /\ w' = w := Any.strings_CutPrefix Tryz.lays103 s p w
open Go.RowKit in
def Tryz.lays104_ren : Go.Shelf.Ren := ⟨fun | 104 => 117 | 211 => 170 | 207 => 185 | n => n, fun | 9 => 9 | 4 => 4 | 24 => 159 | 3 => 3 | n => n, fun | n => n⟩
theorem Tryz.lays104 : Go.Proofs.Lays.n104 prog Tryz.lays104_ren := {
 mixed := by kernel_rfl
 f104 := Tryz.func117.trans (congrArg some (by kernel_rfl))
 f207 := Tryz.func185.trans (congrArg some (by kernel_rfl))
 f211 := Tryz.func170.trans (congrArg some (by kernel_rfl))
 t3 := Tryz.underlying3
 a3 := Tryz.isAgg3
 z3 := Tryz.sizeOf3
 v3 := Tryz.zeroValue3
 t4 := Tryz.underlying4
 a4 := Tryz.isAgg4
 z4 := Tryz.sizeOf4
 v4 := Tryz.zeroValue4
 t9 := Tryz.underlying9
 a9 := Tryz.isAgg9
 z9 := Tryz.sizeOf9
 v9 := Tryz.zeroValue9
 t24 := Tryz.underlying159
 a24 := Tryz.isAgg159
 z24 := Tryz.sizeOf159
 v24 := Tryz.zeroValue159 }
open Go.RowKit in
theorem Tryz.strings_CutSuffix (s p : ByteArray) (w : World) (hs : s.size <= 9223372036854775807) :
   Calls prog 117 #[.string s, .string p] w fun e w' => e = .returned (.tuple #[.string ⟨(Lib.trimSuffix s.data.toList p.data.toList).toArray⟩, .bool (Lib.hasSuffix s.data.toList p.data.toList)]) /\ w' = w := Any.strings_CutSuffix Tryz.lays104 s p w hs
open Go.RowKit in
open Go.RowKit in
open Go.RowKit in
open Go.RowKit in
open Go.RowKit in
open Go.RowKit in
open Go.RowKit in
open Go.RowKit in
open Go.RowKit in
open Go.RowKit in
open Go.Lib in
open Go.Lib in
open Go.Lib in
open Go.Lib in
open Go.RowKit Go.Sort Go.Lib in
open Go.RowKit Go.Sort Go.Lib in
open Go.RowKit Go.Sort Go.Lib in
open Go.RowKit Go.Sort Go.Lib in
open Go.RowKit Go.Sort Go.Lib in
def Tryz.laysM171_ren : Go.Shelf.Ren := ⟨fun | 171 => 181 | 243 => 219 | 246 => 237 | 283 => 249 | 284 => 250 | 285 => 251 | 286 => 252 | 129 => 201 | 317 => 254 | 318 => 255 | 319 => 256 | 320 => 257 | 337 => 258 | 338 => 259 | n => n, fun | 3 => 3 | 9 => 9 | 2 => 2 | 4 => 4 | 171 => 299 | 0 => 0 | 53 => 246 | 37 => 39 | 5 => 5 | 173 => 301 | 212 => 304 | 51 => 244 | 20 => 20 | 213 => 305 | 46 => 191 | 232 => 306 | 233 => 307 | n => n, fun | 17 => 3 | 18 => 4 | 19 => 5 | n => n⟩
theorem Tryz.laysM171 : Go.Proofs.LaysM.n171 prog Tryz.laysM171_ren := {
 mixed := by kernel_rfl
 f129 := Tryz.func201.trans (congrArg some (by kernel_rfl))
 f171 := Tryz.func181.trans (congrArg some (by kernel_rfl))
 f243 := Tryz.func219.trans (congrArg some (by kernel_rfl))
 f246 := Tryz.func237.trans (congrArg some (by kernel_rfl))
 f283 := Tryz.func249.trans (congrArg some (by kernel_rfl))
 f284 := Tryz.func250.trans (congrArg some (by kernel_rfl))
 f285 := Tryz.func251.trans (congrArg some (by kernel_rfl))
 f286 := Tryz.func252.trans (congrArg some (by kernel_rfl))
 f317 := Tryz.func254.trans (congrArg some (by kernel_rfl))
 f318 := Tryz.func255.trans (congrArg some (by kernel_rfl))
 f319 := Tryz.func256.trans (congrArg some (by kernel_rfl))
 f320 := Tryz.func257.trans (congrArg some (by kernel_rfl))
 f337 := Tryz.func258.trans (congrArg some (by kernel_rfl))
 f338 := Tryz.func259.trans (congrArg some (by kernel_rfl))
 t0 := Tryz.underlying0
 a0 := Tryz.isAgg0
 z0 := Tryz.sizeOf0
 v0 := Tryz.zeroValue0
 t2 := Tryz.underlying2
 a2 := Tryz.isAgg2
 z2 := Tryz.sizeOf2
 v2 := Tryz.zeroValue2
 t3 := Tryz.underlying3
 a3 := Tryz.isAgg3
 z3 := Tryz.sizeOf3
 v3 := Tryz.zeroValue3
 t4 := Tryz.underlying4
 a4 := Tryz.isAgg4
 z4 := Tryz.sizeOf4
 v4 := Tryz.zeroValue4
 t5 := Tryz.underlying5
 a5 := Tryz.isAgg5
 z5 := Tryz.sizeOf5
 v5 := Tryz.zeroValue5
 t9 := Tryz.underlying9
 a9 := Tryz.isAgg9
 z9 := Tryz.sizeOf9
 v9 := Tryz.zeroValue9
 t20 := Tryz.underlying20
 a20 := Tryz.isAgg20
 z20 := Tryz.sizeOf20
 v20 := Tryz.zeroValue20
 t37 := Tryz.underlying39
 a37 := Tryz.isAgg39
 z37 := Tryz.sizeOf39
 v37 := Tryz.zeroValue39
 t46 := Tryz.underlying191
 a46 := Tryz.isAgg191
 z46 := Tryz.sizeOf191
 v46 := Tryz.zeroValue191
 t51 := Tryz.underlying244
 a51 := Tryz.isAgg244
 z51 := Tryz.sizeOf244
 v51 := Tryz.zeroValue244
 t53 := Tryz.underlying246
 a53 := Tryz.isAgg246
 z53 := Tryz.sizeOf246
 v53 := Tryz.zeroValue246
 t171 := Tryz.underlying299
 a171 := Tryz.isAgg299
 z171 := Tryz.sizeOf299
 v171 := Tryz.zeroValue299
 t173 := Tryz.underlying301
 a173 := Tryz.isAgg301
 z173 := Tryz.sizeOf301
 v173 := Tryz.zeroValue301
 t212 := Tryz.underlying304
 a212 := Tryz.isAgg304
 z212 := Tryz.sizeOf304
 v212 := Tryz.zeroValue304
 t213 := Tryz.underlying305
 a213 := Tryz.isAgg305
 z213 := Tryz.sizeOf305
 t232 := Tryz.underlying306
 a232 := Tryz.isAgg306
 z232 := Tryz.sizeOf306
 v232 := Tryz.zeroValue306
 t233 := Tryz.underlying307
 a233 := Tryz.isAgg307
 z233 := Tryz.sizeOf307
 v233 := Tryz.zeroValue307
 g17 := by kernel_rfl
 g18 := by kernel_rfl
 g19 := by kernel_rfl
 i0 := by kernel_rfl
 i2 := by kernel_rfl
 i3 := by kernel_rfl
 i4 := by kernel_rfl
 i5 := by kernel_rfl
 i9 := by kernel_rfl
 i20 := by kernel_rfl
 i37 := by kernel_rfl
 i46 := by kernel_rfl
 i51 := by kernel_rfl
 i53 := by kernel_rfl
 i171 := by kernel_rfl
 i173 := by kernel_rfl
 i212 := by kernel_rfl
 i232 := by kernel_rfl
 i233 := by kernel_rfl
 m17 := by kernel_rfl
 m18 := by kernel_rfl
 m19 := by kernel_rfl }
open Go.RowKit Go.Sort Go.Lib in
theorem Tryz.strconv_Itoa (n : Int) (h0 : -9223372036854775808 <= n) (h1 : n <= 9223372036854775807) (w : World) (htab : Lib.TabIs prog w "internal/strconv.uint64pow10" .u64 Lib.pow10Tab) :
   Calls prog 181 #[.int .i64 n] w fun e w' => e = .returned (.string ⟨(Lib.itoa n).toArray⟩) /\ ∃ k os, w' = grow (w.drewN k) os := Any.strconv_Itoa Tryz.laysM171 n h0 h1 w htab
open Go.RowKit Go.Sort Go.Lib in
open Go.RowKit Go.Lib in
open Go.RowKit Go.Lib in
open Go.RowKit Go.Lib in
open Go.RowKit Go.Lib in
open Go.RowKit Go.Lib in
open Go.RowKit Go.Lib in
open Go.RowKit Go.Lib in
open Go.RowKit Go.Lib in
open Go.RowKit Go.Lib in
def Tryz.lays145_ren : Go.Shelf.Ren := ⟨fun | 145 => 171 | 220 => 213 | 219 => 233 | 217 => 186 | 225 => 245 | 224 => 244 | 267 => 246 | 266 => 221 | 314 => 253 | n => n, fun | 9 => 9 | 4 => 4 | 59 => 218 | 3 => 3 | 5 => 5 | 46 => 191 | 146 => 248 | 51 => 244 | n => n, fun | 1 => 0 | n => n⟩
theorem Tryz.lays145 : Go.Proofs.Lays.n145 prog Tryz.lays145_ren := {
 mixed := by kernel_rfl
 f145 := Tryz.func171.trans (congrArg some (by kernel_rfl))
 f217 := Tryz.func186.trans (congrArg some (by kernel_rfl))
 f219 := Tryz.func233.trans (congrArg some (by kernel_rfl))
 f220 := Tryz.func213.trans (congrArg some (by kernel_rfl))
 f224 := Tryz.func244.trans (congrArg some (by kernel_rfl))
 f225 := Tryz.func245.trans (congrArg some (by kernel_rfl))
 f266 := Tryz.func221.trans (congrArg some (by kernel_rfl))
 f267 := Tryz.func246.trans (congrArg some (by kernel_rfl))
 f314 := Tryz.func253.trans (congrArg some (by kernel_rfl))
 t3 := Tryz.underlying3
 a3 := Tryz.isAgg3
 z3 := Tryz.sizeOf3
 v3 := Tryz.zeroValue3
 t4 := Tryz.underlying4
 a4 := Tryz.isAgg4
 z4 := Tryz.sizeOf4
 v4 := Tryz.zeroValue4
 t5 := Tryz.underlying5
 a5 := Tryz.isAgg5
 z5 := Tryz.sizeOf5
 v5 := Tryz.zeroValue5
 t9 := Tryz.underlying9
 a9 := Tryz.isAgg9
 z9 := Tryz.sizeOf9
 v9 := Tryz.zeroValue9
 t46 := Tryz.underlying191
 a46 := Tryz.isAgg191
 z46 := Tryz.sizeOf191
 v46 := Tryz.zeroValue191
 t51 := Tryz.underlying244
 a51 := Tryz.isAgg244
 z51 := Tryz.sizeOf244
 v51 := Tryz.zeroValue244
 t59 := Tryz.underlying218
 a59 := Tryz.isAgg218
 z59 := Tryz.sizeOf218
 v59 := Tryz.zeroValue218
 t146 := Tryz.underlying248
 a146 := Tryz.isAgg248
 z146 := Tryz.sizeOf248
 v146 := Tryz.zeroValue248
 g1 := by kernel_rfl }
open Go.RowKit Go.Lib in
theorem Tryz.strings_Cut (s sep : ByteArray) (m : Int) (w : World) (hs : s.size < 4294967281) (hm : w.cell? ⟨0, 0, none⟩ = some (.int .i64 m)) :
   Calls prog 171 #[.string s, .string sep] w fun e w' => e = .returned (.tuple #[.string ⟨(Lib.cut s.data.toList sep.data.toList).1.toArray⟩, .string ⟨(Lib.cut s.data.toList sep.data.toList).2.1.toArray⟩, .bool (Lib.cut s.data.toList sep.data.toList).2.2]) /\ ∃ n, w' = w.drewN n := Any.strings_Cut Tryz.lays145 s sep m w hs hm
open Go.RowKit Go.Lib in
open Go.RowKit Go.Lib in
open Go.RowKit Go.Lib in
open Go.RowKit Go.Lib in
open Go.RowKit Go.Lib in
open Go.RowKit Go.Lib in
open Go.RowKit Go.Lib in
def Tryz.lays190_ren : Go.Shelf.Ren := ⟨fun | 190 => 95 | 125 => 150 | 258 => 149 | 128 => 200 | 129 => 201 | 302 => 191 | 303 => 192 | 304 => 193 | 305 => 194 | 306 => 195 | 307 => 196 | 308 => 197 | 309 => 198 | 310 => 199 | 333 => 224 | 329 => 225 | 330 => 226 | 334 => 227 | 335 => 228 | 336 => 229 | 344 => 242 | n => n, fun | 31 => 38 | 9 => 9 | 3 => 3 | 46 => 191 | 0 => 0 | 51 => 244 | 53 => 246 | 4 => 4 | 183 => 238 | 182 => 237 | 131 => 122 | 5 => 5 | 218 => 278 | 222 => 282 | 228 => 291 | 229 => 231 | n => n, fun | n => n⟩
theorem Tryz.lays190 : Go.Proofs.Lays.n190 prog Tryz.lays190_ren := {
 mixed := by kernel_rfl
 f125 := Tryz.func150.trans (congrArg some (by kernel_rfl))
 f128 := Tryz.func200.trans (congrArg some (by kernel_rfl))
 f129 := Tryz.func201.trans (congrArg some (by kernel_rfl))
 f190 := Tryz.func95.trans (congrArg some (by kernel_rfl))
 f258 := Tryz.func149.trans (congrArg some (by kernel_rfl))
 f302 := Tryz.func191.trans (congrArg some (by kernel_rfl))
 f303 := Tryz.func192.trans (congrArg some (by kernel_rfl))
 f304 := Tryz.func193.trans (congrArg some (by kernel_rfl))
 f305 := Tryz.func194.trans (congrArg some (by kernel_rfl))
 f306 := Tryz.func195.trans (congrArg some (by kernel_rfl))
 f307 := Tryz.func196.trans (congrArg some (by kernel_rfl))
 f308 := Tryz.func197.trans (congrArg some (by kernel_rfl))
 f309 := Tryz.func198.trans (congrArg some (by kernel_rfl))
 f310 := Tryz.func199.trans (congrArg some (by kernel_rfl))
 f329 := Tryz.func225.trans (congrArg some (by kernel_rfl))
 f330 := Tryz.func226.trans (congrArg some (by kernel_rfl))
 f333 := Tryz.func224.trans (congrArg some (by kernel_rfl))
 f334 := Tryz.func227.trans (congrArg some (by kernel_rfl))
 f335 := Tryz.func228.trans (congrArg some (by kernel_rfl))
 f336 := Tryz.func229.trans (congrArg some (by kernel_rfl))
 f344 := Tryz.func242.trans (congrArg some (by kernel_rfl))
 t0 := Tryz.underlying0
 a0 := Tryz.isAgg0
 z0 := Tryz.sizeOf0
 v0 := Tryz.zeroValue0
 t3 := Tryz.underlying3
 a3 := Tryz.isAgg3
 z3 := Tryz.sizeOf3
 v3 := Tryz.zeroValue3
 t4 := Tryz.underlying4
 a4 := Tryz.isAgg4
 z4 := Tryz.sizeOf4
 v4 := Tryz.zeroValue4
 t5 := Tryz.underlying5
 a5 := Tryz.isAgg5
 z5 := Tryz.sizeOf5
 v5 := Tryz.zeroValue5
 t9 := Tryz.underlying9
 a9 := Tryz.isAgg9
 z9 := Tryz.sizeOf9
 v9 := Tryz.zeroValue9
 t31 := Tryz.underlying38
 a31 := Tryz.isAgg38
 z31 := Tryz.sizeOf38
 v31 := Tryz.zeroValue38
 t46 := Tryz.underlying191
 a46 := Tryz.isAgg191
 z46 := Tryz.sizeOf191
 v46 := Tryz.zeroValue191
 t51 := Tryz.underlying244
 a51 := Tryz.isAgg244
 z51 := Tryz.sizeOf244
 v51 := Tryz.zeroValue244
 t53 := Tryz.underlying246
 a53 := Tryz.isAgg246
 z53 := Tryz.sizeOf246
 v53 := Tryz.zeroValue246
 t131 := Tryz.underlying122
 a131 := Tryz.isAgg122
 z131 := Tryz.sizeOf122
 v131 := Tryz.zeroValue122
 t182 := Tryz.underlying237
 a182 := Tryz.isAgg237
 z182 := Tryz.sizeOf237
 v182 := Tryz.zeroValue237
 t183 := Tryz.underlying238
 a183 := Tryz.isAgg238
 z183 := Tryz.sizeOf238
 v183 := Tryz.zeroValue238
 t218 := Tryz.underlying278
 a218 := Tryz.isAgg278
 z218 := Tryz.sizeOf278
 v218 := Tryz.zeroValue278
 t222 := Tryz.underlying282
 a222 := Tryz.isAgg282
 z222 := Tryz.sizeOf282
 v222 := Tryz.zeroValue282
 t228 := Tryz.underlying291
 a228 := Tryz.isAgg291
 z228 := Tryz.sizeOf291
 v228 := Tryz.zeroValue291
 t229 := Tryz.underlying231
 a229 := Tryz.isAgg231
 z229 := Tryz.sizeOf231
 v229 := Tryz.zeroValue231 }
open Go.Sort Go.RowKit in
theorem Tryz.slices_Sort_string (blk off cap : Nat) (ss : List (List UInt8)) (w : World) (hH : Holds encStr w blk off ss.toArray) (hblk : blk < w.heap.size) (hsz : ss.length < 4611686018427387904) :
   Calls prog 95 #[.slice (some ⟨blk, off, none⟩) ss.length cap] w fun e w' =>
     e = .returned (.tuple #[]) /\ ∃ n os, w' = grow (putRow encStr (Sort.ahead w n) blk off (ss.mergeSort fun x y => decide (x <= y)).toArray) os := Any.slices_Sort_string Tryz.lays190 blk off cap ss w hH hblk hsz
open Go.RowKit Go.Lib in
open Go.RowKit Go.Lib in
open Go.RowKit Go.Lib in
open Go.RowKit Go.Lib in
open Go.RowKit Go.Lib in
def Tryz.lays146_ren : Go.Shelf.Ren := ⟨fun | 146 => 174 | 221 => 215 | 268 => 234 | 138 => 235 | 143 => 236 | 195 => 247 | 197 => 208 | 218 => 248 | 219 => 233 | 260 => 230 | 217 => 186 | 225 => 245 | 224 => 244 | 267 => 246 | 266 => 221 | 314 => 253 | n => n, fun | 9 => 9 | 31 => 38 | 3 => 3 | 4 => 4 | 0 => 0 | 105 => 259 | 21 => 21 | 5 => 5 | 46 => 191 | 119 => 293 | 139 => 296 | 138 => 295 | 146 => 248 | 51 => 244 | n => n, fun | 1 => 0 | 3 => 1 | 4 => 2 | n => n⟩
theorem Tryz.lays146 : Go.Proofs.Lays.n146 prog Tryz.lays146_ren := {
 mixed := by kernel_rfl
 f138 := Tryz.func235.trans (congrArg some (by kernel_rfl))
 f143 := Tryz.func236.trans (congrArg some (by kernel_rfl))
 f146 := Tryz.func174.trans (congrArg some (by kernel_rfl))
 f195 := Tryz.func247.trans (congrArg some (by kernel_rfl))
 f197 := Tryz.func208.trans (congrArg some (by kernel_rfl))
 f217 := Tryz.func186.trans (congrArg some (by kernel_rfl))
 f218 := Tryz.func248.trans (congrArg some (by kernel_rfl))
 f219 := Tryz.func233.trans (congrArg some (by kernel_rfl))
 f221 := Tryz.func215.trans (congrArg some (by kernel_rfl))
 f224 := Tryz.func244.trans (congrArg some (by kernel_rfl))
 f225 := Tryz.func245.trans (congrArg some (by kernel_rfl))
 f260 := Tryz.func230.trans (congrArg some (by kernel_rfl))
 f266 := Tryz.func221.trans (congrArg some (by kernel_rfl))
 f267 := Tryz.func246.trans (congrArg some (by kernel_rfl))
 f268 := Tryz.func234.trans (congrArg some (by kernel_rfl))
 f314 := Tryz.func253.trans (congrArg some (by kernel_rfl))
 t0 := Tryz.underlying0
 a0 := Tryz.isAgg0
 z0 := Tryz.sizeOf0
 v0 := Tryz.zeroValue0
 t3 := Tryz.underlying3
 a3 := Tryz.isAgg3
 z3 := Tryz.sizeOf3
 v3 := Tryz.zeroValue3
 t4 := Tryz.underlying4
 a4 := Tryz.isAgg4
 z4 := Tryz.sizeOf4
 v4 := Tryz.zeroValue4
 t5 := Tryz.underlying5
 a5 := Tryz.isAgg5
 z5 := Tryz.sizeOf5
 v5 := Tryz.zeroValue5
 t9 := Tryz.underlying9
 a9 := Tryz.isAgg9
 z9 := Tryz.sizeOf9
 v9 := Tryz.zeroValue9
 t21 := Tryz.underlying21
 a21 := Tryz.isAgg21
 z21 := Tryz.sizeOf21
 v21 := Tryz.zeroValue21
 t31 := Tryz.underlying38
 a31 := Tryz.isAgg38
 z31 := Tryz.sizeOf38
 v31 := Tryz.zeroValue38
 t46 := Tryz.underlying191
 a46 := Tryz.isAgg191
 z46 := Tryz.sizeOf191
 v46 := Tryz.zeroValue191
 t51 := Tryz.underlying244
 a51 := Tryz.isAgg244
 z51 := Tryz.sizeOf244
 v51 := Tryz.zeroValue244
 t105 := Tryz.underlying259
 a105 := Tryz.isAgg259
 z105 := Tryz.sizeOf259
 v105 := Tryz.zeroValue259
 t119 := Tryz.underlying293
 a119 := Tryz.isAgg293
 z119 := Tryz.sizeOf293
 t138 := Tryz.underlying295
 a138 := Tryz.isAgg295
 z138 := Tryz.sizeOf295
 v138 := Tryz.zeroValue295
 t139 := Tryz.underlying296
 a139 := Tryz.isAgg296
 z139 := Tryz.sizeOf296
 v139 := Tryz.zeroValue296
 t146 := Tryz.underlying248
 a146 := Tryz.isAgg248
 z146 := Tryz.sizeOf248
 v146 := Tryz.zeroValue248
 g1 := by kernel_rfl
 g3 := by kernel_rfl
 g4 := by kernel_rfl }
open Go.RowKit Go.Lib in
theorem Tryz.strings_Split (s sep : ByteArray) (m : Int) (w : World) (hs : s.size < 4294967281) (hm : w.cell? ⟨0, 0, none⟩ = some (.int .i64 m)) (h1 : 1 <= sep.size) :
   Calls prog 174 #[.string s, .string sep] w fun e w' =>
     e = .returned (.slice (some ⟨w.heap.size, 0, none⟩) (Lib.countB s sep + 1) (Lib.countB s sep + 1)) /\ w' = w.alloc (.cells ((Lib.splitB sep 0 (Lib.countB s sep) s).map Value.string).toArray 9) := Any.strings_Split Tryz.lays146 (by kernel_rfl) s sep m w hs hm h1
open Go.RowKit Go.Lib in
open Go.RowKit Go.Lib in
open Go.RowKit Go.Lib in
open Go.RowKit Go.Lib in
open Go.RowKit Go.Lib in
open Go.RowKit Go.Lib in
open Go.RowKit Go.Lib in
open Go.RowKit Go.Lib in
open Go.RowKit Go.Lib in
open Go.RowKit Go.Lib in
open Go.RowKit Go.Lib in
open Go.RowKit Go.Lib in
open Go.RowKit Go.Lib in
open Go.RowKit Go.Lib in
open Go.RowKit Go.Lib in
open Go.Lib in
open Go.Lib in
open Go.Lib in
open Go.Lib in
open Go.RowKit Go.Lib in
open Go.RowKit Go.Lib in
open Go.RowKit Go.Lib in
def Tryz.lays194_ren : Go.Shelf.Ren := ⟨fun | 194 => 45 | n => n, fun | 31 => 38 | 9 => 9 | 3 => 3 | 4 => 4 | 0 => 0 | n => n, fun | n => n⟩
theorem Tryz.lays194 : Go.Proofs.Lays.n194 prog Tryz.lays194_ren := {
 mixed := by kernel_rfl
 f194 := Tryz.func45.trans (congrArg some (by kernel_rfl))
 t0 := Tryz.underlying0
 a0 := Tryz.isAgg0
 z0 := Tryz.sizeOf0
 v0 := Tryz.zeroValue0
 t3 := Tryz.underlying3
 a3 := Tryz.isAgg3
 z3 := Tryz.sizeOf3
 v3 := Tryz.zeroValue3
 t4 := Tryz.underlying4
 a4 := Tryz.isAgg4
 z4 := Tryz.sizeOf4
 v4 := Tryz.zeroValue4
 t9 := Tryz.underlying9
 a9 := Tryz.isAgg9
 z9 := Tryz.sizeOf9
 v9 := Tryz.zeroValue9
 t31 := Tryz.underlying38
 a31 := Tryz.isAgg38
 z31 := Tryz.sizeOf38
 v31 := Tryz.zeroValue38 }
open Go.RowKit Go.Lib Go.Sort in
open Go.RowKit Go.Lib Go.Sort in
theorem Tryz.slices_Compact_string (blk off cap : Nat) (zs : List (List UInt8)) (w : World) (hH : Holds encStr w blk off zs.toArray) (hsz : zs.length <= 9223372036854775807) (hcap : zs.length <= cap) :
   Calls prog 45 #[.slice (some ⟨blk, off, none⟩) zs.length cap] w fun e w' => e = .returned (.slice (some ⟨blk, off, none⟩) (Lib.compact zs).length cap) /\ ∃ q, w' = putRow encStr (Sort.ahead w q) blk off (Lib.compact zs ++ List.replicate (zs.length - (Lib.compact zs).length) []).toArray := Any.slices_Compact_string Tryz.lays194 blk off cap zs w hH hsz hcap
open Go.RowKit Go.Lib Go.Sort in
theorem Tryz.slices_Compact_string_empty (a : Option Addr) (cap : Nat) (w : World) :
   Calls prog 45 #[.slice a 0 cap] w fun e w' => e = .returned (.slice a 0 cap) /\ w' = w := Any.slices_Compact_string_empty Tryz.lays194 a cap w
open Go.RowKit Go.Lib Go.Sort in
open Go.RowKit Go.Sort in
theorem Tryz.slices_Sort_string_none (p : Option Addr) (cap : Nat) (w : World) :
   Calls prog 95 #[.slice p 0 cap] w fun e w' => e = .returned (.tuple #[]) /\ w' = w := Any.slices_Sort_string_none Tryz.lays190 p cap w
open Go.RowKit Go.Lib in
open Go.RowKit Go.Lib in
open Go.RowKit in
theorem Tryz.strings_Trim_laid (s cutset : ByteArray) (w : World) (hs : s.size <= 9223372036854775807) (hcs : cutset.size < 4294967281) (hascii : ∀ (j : Nat) b, cutset.data.toList[j]? = some b -> b.toNat < 128) :
   Calls prog 105 #[.string s, .string cutset] w fun e w' => e = .returned (.string ⟨(Lib.trimS s.data.toList cutset.data.toList).toArray⟩) /\ Below w.heap.size w w' :=
 Any.strings_Trim_laid Tryz.lays160 (by kernel_rfl) s cutset w hs hcs hascii
end Go.Proofs
namespace Go.Pk
def G5 (n : Int) : Prop := n = 9 \/ (32 <= n /\ n <= 47) \/ (59 <= n /\ n <= 64) \/ (91 <= n /\ n <= 96) \/ (123 <= n /\ n <= 126)
instance (n : Int) : Decidable (G5 n) := by unfold G5; infer_instance
end Go.Pk

namespace Go.Pk
def qe (c : UInt8) : Bool := decide (48 <= c) && decide (c <= 57)
def rI (l : List UInt8) : Int := l.foldl (fun n c => n * 10 + ((c.toNat : Int) - 48)) 0
theorem Ci : ∀ n, n < 256 -> ([48, 49, 50, 51, 52, 53, 54, 55, 56, 57] : List UInt8).contains (UInt8.ofNat n) = qe (UInt8.ofNat n) := by decide +kernel
theorem HC (c : UInt8) : ([48, 49, 50, 51, 52, 53, 54, 55, 56, 57] : List UInt8).contains c = qe c := by
 have := Ci c.toNat (by have := c.toNat_lt; omega)
 rwa [UInt8.ofNat_toNat] at this
theorem sz {c : UInt8} : qe c = true ↔ 48 <= c.toNat /\ c.toNat <= 57 := by
 unfold qe
 rw [Bool.and_eq_true, dTx, dTx, UInt8.le_iff_toNat_le, UInt8.le_iff_toNat_le]
 exact Iff.rfl
end Go.Pk

namespace Go.Pk
open Go.RowKit (Below)
structure Fnd where
 time : Bool
 day : Bool
 month : Bool
 year : Bool
 s0 : Int
 s1 : Int
 s2 : Int
 y : Int
 m : Int
 d : Int
def Fnd.cells (f : Fnd) : List Value := [.bool f.time, .bool f.day, .bool f.month, .bool f.year, .int .i64 f.s0, .int .i64 f.s1, .int .i64 f.s2, .int .i64 f.y, .int .i64 f.m, .int .i64 f.d]
end Go.Pk

namespace Go.Pk
def Jc (y : Int) : Int := if 70 <= y /\ y <= 99 then y + 1900 else if y < 70 then y + 2000 else y
def Ip (f : Fnd) : Prop := Fm (Jc f.y) f.m f.d /\ f.time = true /\ f.year = true /\ f.s0 <= 23 /\ f.s1 <= 59 /\ f.s2 <= 59
instance (f : Fnd) : Decidable (Ip f) := by unfold Ip; infer_instance
theorem nF : ∀ (l : List UInt8) (acc : Int), 0 <= acc -> (∀ c ∈ l, qe c = true) -> 0 <= l.foldl (fun n c => n * 10 + ((c.toNat : Int) - 48)) acc /\ l.foldl (fun n c => n * 10 + ((c.toNat : Int) - 48)) acc < (acc + 1) * 10 ^ l.length
 | [], acc, h, _ => by simp; omega
 | c :: l, acc, h, hd => by
   have hc := sz.1 (hd c List.mem_cons_self)
   obtain ⟨h1, h2⟩ := nF l (acc * 10 + ((c.toNat : Int) - 48)) (by omega) fun x hx => hd x (List.mem_cons_of_mem _ hx)
   rw [List.foldl_cons]
   refine ⟨h1, Int.lt_of_lt_of_le h2 ?_⟩
   rw [List.length_cons, Int.pow_succ, Int.mul_comm (10 ^ l.length) 10, <- Int.mul_assoc]
   exact Int.mul_le_mul_of_nonneg_right (by omega) (Int.pow_nonneg (by decide))
theorem GJ {a b : Nat} (h : a <= b) : (10 : Int) ^ a <= 10 ^ b := by
 have := Nat.pow_le_pow_right (n := 10) (by decide) h
 have e : ∀ k : Nat, ((10 ^ k : Nat) : Int) = 10 ^ k := fun k => by simp
 rw [<- e, <- e]; omega
end Go.Pk
namespace Go.Pk
theorem EV (l : List UInt8) (c : UInt8) : rI (l ++ [c]) = rI l * 10 + ((c.toNat : Int) - 48) := by unfold rI; rw [List.foldl_append]; rfl
end Go.Pk

namespace Go.Pk
open Go.RowKit (Below)
theorem BZ (w : World) (k : Nat) (os : Array Obj) : Below w.heap.size w (Go.Sort.grow (w.drewN k) os) := by
 refine qN rfl rfl rfl (by simp [Go.Sort.grow, World.drewN]) fun j hj => ?_
 show (w.heap ++ os)[j]? = _
 rw [Array.getElem?_append_left hj]
abbrev DF (P : Program) (w : World) : Prop := Lib.TabIs P w "internal/strconv.uint64pow10" .u64 Lib.pow10Tab
end Go.Pk

namespace Go.Pk
open Go.RowKit (Below)
def pc (p : UInt8 -> Bool) (s : List UInt8) : List UInt8 := (s.reverse.dropWhile p).reverse
def yJ (p : UInt8 -> Bool) (s : List UInt8) : List UInt8 := pc p (s.dropWhile p)
theorem r6 (p : UInt8 -> Bool) (x : UInt8) (s : List UInt8) : pc p (x :: s) = if pc p s = [] then (if p x then [] else [x]) else x :: pc p s := by
 unfold pc
 rw [List.reverse_cons]
 have key : ∀ t : List UInt8, List.dropWhile p (t ++ [x]) = if List.dropWhile p t = [] then (if p x then [] else [x]) else List.dropWhile p t ++ [x] := by
   intro t
   induction t with
   | nil => simp [List.dropWhile_cons]
   | cons y t ih =>
     rw [List.cons_append, List.dropWhile_cons, List.dropWhile_cons]
     split
     · exact ih
     · rw [if_neg (by simp)]; rfl
 rw [key]
 by_cases h : List.dropWhile p s.reverse = []
 · have h' : (List.dropWhile p s.reverse).reverse = [] := by rw [h]; rfl
   rw [if_pos h, if_pos h']
   split <;> rfl
 · have h' : ¬ (List.dropWhile p s.reverse).reverse = [] := by simpa using h
   rw [if_neg h, if_neg h']
   simp
theorem yK (p : UInt8 -> Bool) : ∀ s : List UInt8, (pc p s).dropWhile p = yJ p s
 | [] => rfl
 | x :: s => by
   have ih := yK p s
   unfold yJ at ih ⊢
   cases hx : p x with
   | true =>
     have e1 : List.dropWhile p (x :: s) = List.dropWhile p s := by rw [List.dropWhile_cons, if_pos hx]
     rw [e1, <- ih, r6]
     by_cases h : pc p s = []
     · rw [if_pos h, if_pos hx, h]
     · rw [if_neg h, List.dropWhile_cons, if_pos hx]
   | false =>
     have hx' : ¬ p x = true := by rw [hx]; decide
     have e1 : List.dropWhile p (x :: s) = x :: s := by rw [List.dropWhile_cons, if_neg hx']
     rw [e1, r6]
     by_cases h : pc p s = []
     · rw [if_pos h, if_neg hx', List.dropWhile_cons, if_neg hx']
     · rw [if_neg h, List.dropWhile_cons, if_neg hx']
theorem rm (p : UInt8 -> Bool) : ∀ s : List UInt8, pc p s = [] ↔ s.all p = true
 | [] => by simp [pc]
 | x :: s => by
   have ih := rm p s
   rw [r6, List.all_cons, Bool.and_eq_true, <- ih]
   by_cases h : pc p s = []
   · rw [if_pos h]
     cases p x <;> simp [h]
   · rw [if_neg h]; simp [h]
theorem rk (p : UInt8 -> Bool) : ∀ s : List UInt8, yJ p s = [] ↔ s.all p = true
 | [] => by simp [yJ, pc]
 | x :: s => by
   unfold yJ
   rw [List.dropWhile_cons]
   cases hx : p x with
   | true => rw [if_pos rfl, List.all_cons, hx, Bool.true_and]; exact rk p s
   | false => rw [if_neg (by decide), rm]
theorem CL (s cs : List UInt8) : Lib.trimS s cs = yJ (cs.contains ·) s := yK _ s
def bU (s : List UInt8) : Bool := !(s == []) && s.all qe
theorem CM (s : List UInt8) : (Lib.trimS s [48, 49, 50, 51, 52, 53, 54, 55, 56, 57] == []) = s.all qe := by
 rw [CL]
 have e : (fun x => ([48, 49, 50, 51, 52, 53, 54, 55, 56, 57] : List UInt8).contains x) = qe := funext HC
 rw [e, Bool.eq_iff_iff, beq_iff_eq, rk]
def tY (s : List UInt8) : Prop := bU s = true /\ s.length <= 18 /\ ¬ (s.head? = some 48 /\ 1 < s.length)
instance (s : List UInt8) : Decidable (tY s) := by unfold tY; infer_instance
end Go.Pk
namespace Go.Proofs.YtpafoodmpjlkhaaGreatDoor
open Go.Pk
open Go.RowKit (Below)
theorem lS (s : List UInt8) (hs : s.length <= 9223372036854775807) (w : World) : Calls prog ir #[.string (mkS s)] w (Ret fun v w' => v = .bool (bU s) /\ Below w.heap.size w w') := by
 apply vf
 unfold qC
 unfold bU
 refine af.of (fun h => ?_) (fun h => ?_)
 · refine ⟨⟨by decide, by decide⟩, ?_⟩
   rintro _ rfl
   refine (Tryz.strings_Trim_laid (mkS s) (mkS [48, 49, 50, 51, 52, 53, 54, 55, 56, 57]) w hs (by decide) (ascii_of_all (by decide))).mono ?_
   rintro _ w1 ⟨rfl, hb⟩
   refine ⟨_, rfl, ?_, hb⟩
   have e := CM s
   rw [h, Bool.true_and, <- e]; rfl
 · rw [h]; exact ⟨rfl, Below.refl _ _⟩
theorem wJ (s : List UInt8) (hs : s.length <= 9223372036854775000) (w : World) :
   Calls prog mZ #[.string (mkS s)] w (Ret fun v w' => v = (if tY s then .tuple #[.int .i64 (rI s), .bool true] else .tuple #[.int .i64 0, .bool false]) /\ Below w.heap.size w w') := by
 apply vg
 unfold qD
 have bad : ∀ {w' : World}, ¬ tY s -> Below w.heap.size w w' -> (.tuple #[.int .i64 (0 : Int), .bool false] : Value) = (if tY s then .tuple #[.int .i64 (rI s), .bool true] else .tuple #[.int .i64 0, .bool false]) /\ Below w.heap.size w w' := fun hn hb => ⟨by rw [if_neg hn], hb⟩
 refine jK (fun w' => tY s /\ Below w.heap.size w w') ?_ ?_
 · refine ax (lS s (by omega) w) ?_
   rintro _ w1 ⟨rfl, hb⟩
   refine ⟨_, rfl, ?_⟩
   refine af.of (fun h => ?_) (fun h => ?_) <;> simp only [Bool.not_eq_true', Bool.not_eq_false'] at h
   · exact bad (fun hc => by rw [hc.1] at h; cases h) hb
   refine af.of (fun h2 => ?_) (fun h2 => ?_) <;> simp only [gt_iff_lt, dTx, dFx] at h2
   · exact bad (fun hc => by have := hc.2.1; omega) hb
   have hne : s ≠ [] := fun e => by rw [e] at h; cases h
   match s, hne with
   | c :: r, _ =>
     have hx : aP (c :: r) 0 = ((c.toNat : Nat) : Int) := rfl
     rw [hx]
     refine ⟨⟨by decide, by simp only [List.length_cons]; omega⟩, ?_⟩
     refine af.of (fun h3 => ?_) (fun h3 => ?_)
     · have hc : c = 48 := FU (by simpa using h3)
       refine af.of (fun h4 => ?_) (fun h4 => ?_) <;> simp only [gt_iff_lt, dTx, dFx] at h4
       · exact bad (fun hcn => hcn.2.2 ⟨by rw [hc]; rfl, by omega⟩) hb
       · exact ⟨⟨h, by omega, fun hcn => by omega⟩, hb⟩
     · have hc : c ≠ 48 := fun e => by subst e; cases h3
       exact ⟨⟨h, by omega, fun hcn => hc (by simpa using hcn.1)⟩, hb⟩
 · rintro w1 ⟨hn, hb⟩
   rw [if_pos hn]
   obtain ⟨hd, hl, _⟩ := hn
   have hall : ∀ c ∈ s, qe c = true := fun c hc => by
     unfold bU at hd
     rw [Bool.and_eq_true] at hd
     exact List.all_eq_true.1 hd.2 c hc
   obtain ⟨w2, a, n, c, hr, ho, hb2, hf⟩ := vj aC cD bF w1 s (by omega) NoB
   have hnn := ho.len
   subst hnn
   have hb12 := ab hb hb2 hb.size
   refine ⟨w2, a, _, c, hr, ?_⟩
   refine ⟨fun m n i w' => ∃ k : Nat, k <= s.length /\ i = (k : Int) /\ n = rI (s.take k) /\ m = s.length - k /\ w' = w2, ⟨_, 0, by omega, rfl, rfl, rfl, rfl⟩, ?_⟩
   intro m n i
   refine aE.of ?_ _
   rintro w' ⟨k, hk, rfl, rfl, rfl, rfl⟩
   refine af.of (fun h => ?_) (fun h => ?_) <;> simp only [dTx, dFx] at h
   · have hlt : k < s.length := by omega
     have hc := sz.1 (hall s[k] (List.getElem_mem hlt))
     have hbd := nF (s.take k) 0 (by decide) fun c hc => hall c (List.mem_of_mem_take hc)
     have hp : (10 : Int) ^ (s.take k).length <= 10 ^ 17 := GJ (by rw [List.length_take]; omega)
     have e17 : (10 : Int) ^ 17 = 100000000000000000 := by decide
     have hV : (s.take k).foldl (fun n c => n * 10 + ((c.toNat : Int) - 48)) 0 = rI (s.take k) := rfl
     rw [hV] at hbd
     have hbb := hbd.2
     rw [Int.zero_add, Int.one_mul] at hbb
     obtain ⟨v, hv, hrep⟩ := ho.all.load1 (i := (k : Int)) bF rfl rfl (by simpa using hlt)
     have := yO hrep
     subst this
     simp only [Int.toNat_natCast] at hv
     refine ⟨⟨⟨by omega, h⟩, ho.all.isSome hlt⟩, _, hv, s.length - (k + 1), by omega, k + 1, by omega, by rw [ak (by omega) (by omega)]; omega, ?_, rfl, rfl⟩
     rw [List.take_succ_eq_append_getElem hlt, EV, ak (n := 10 * rI (s.take k)) (by omega) (by omega), jL (n := ((s[k].toNat : Nat) : Int) - 48) (by omega) (by omega), ak (n := ((s[k].toNat : Nat) : Int) - 48) (by omega) (by omega), ak (by omega) (by omega)]
     omega
   · have : k = s.length := by omega
     subst this
     rw [List.take_length]; exact ⟨rfl, hb12⟩
theorem kh (s : List UInt8) (c : UInt8) (hs : s.length < 4294967281) (w : World) (he : Env w) :
   Calls prog gY #[.string (mkS s), .int .u8 ((c.toNat : Nat) : Int)] w (Ret fun v w' => ∃ a n cp, v = .slice a n cp /\ Ow tS ar w' NoB a n cp (aZ c [] s) /\ bD w.heap.size a /\ Below w.heap.size w w') := by
 apply wV
 unfold ry
 intro k w1 hk hw
 have hB := (hw ▸ ah w _ : Below w.heap.size w w1)
 have ho : Ow tU8 aF w1 NoB (some ⟨k, 0, none⟩) 1 1 [c] := Ow.newF (l := [_]) rN hk hw (gw.one (sK rfl)) (show 1 <= maxLen by decide)
 refine ⟨_, oU cD aC bF ho.all, ?_⟩
 obtain ⟨m, hm⟩ := (he.step hB).max
 refine (Tryz.strings_Split (mkS s) (mkS [c]) m w1 hs hm (Nat.le_refl 1)).mono ?_
 rintro _ w2 ⟨rfl, hw2⟩
 have hcnt := gi c s []
 rw [xg, CG] at *
 refine ⟨_, _, _, rfl, _, _, _, rfl, Ow.newF (dP _) rfl hw2 (fv fun _ _ => trivial) (by show _ <= 2 ^ 63 - 1; omega), fZ rfl |>.mono hB.size, ab hB (hw2 ▸ ah _ _) hB.size⟩
end Go.Proofs.YtpafoodmpjlkhaaGreatDoor
namespace Go.Proofs.YtpafoodmpjlkhaaGreatDoor
open Go.Pk
open Go.RowKit (Below)
theorem pz (c n : UInt8) : ((((c.toNat : Nat) : Int)) == ((n.toNat : Nat) : Int)) = (c == n) := by
 rw [Bool.eq_iff_iff, beq_iff_eq, beq_iff_eq]
 exact ⟨fun h => FU h, fun h => by rw [h]⟩
end Go.Proofs.YtpafoodmpjlkhaaGreatDoor
namespace Go.Pk
open Go.RowKit (Below)
theorem GK (s : List UInt8) (c : UInt8) : Lib.hasPrefix s [c] = decide (s.head? = some c) /\ Lib.trimPrefix s [c] = if s.head? = some c then s.drop 1 else s := by
 cases s with
 | nil => exact ⟨by simp [Lib.hasPrefix], rfl⟩
 | cons x s =>
   by_cases h : x = c
   · subst h
     have ht : Lib.hasPrefix (x :: s) [x] = true := by simp [Lib.hasPrefix, List.isPrefixOf]
     refine ⟨by rw [ht]; simp, ?_⟩
     unfold Lib.trimPrefix; rw [ht]; simp
   · have hf : Lib.hasPrefix (x :: s) [c] = false := by simp [Lib.hasPrefix, List.isPrefixOf, Ne.symm h]
     refine ⟨by rw [hf]; simp [h], ?_⟩
     unfold Lib.trimPrefix; rw [hf]; simp [h]
theorem am.put {P : Program} {u : TypeId} {bytes : Nat} {z : Value} (tf : TF P u 1 bytes z) {w : World} {k : Nat} {t : TypeId} {vs : List Value} (h : am w k t vs) {i : Nat} {v : Value} (hi : i < vs.length) (h1 : v.oneCell' = true) (hc : v.cells = #[v]) :
   ∃ w', (Instr.storeAt u (.pointer (some ⟨k, i, none⟩)) v).run P w = .ok () w' /\ am w' k t (vs.set i v) /\ w.grownBy w' (some k) := by
 obtain ⟨w', hs, ha, hg⟩ := h.store tf (i := i) (v := v) (by rw [hc]; rfl) (by omega) (by rw [hc]; intro c hcc; simp at hcc; subst hcc; exact h1)
 refine ⟨w', hs, ?_, hg⟩
 rw [hc] at ha
 have : vs.set i v = vs.take i ++ [v] ++ vs.drop (i + 1) := by
   rw [List.set_eq_take_append_cons_drop, if_pos hi]; simp
 rw [this]; exact ha
end Go.Pk
namespace Go.Proofs.YtpafoodmpjlkhaaGreatDoor
open Go.Pk
open Go.RowKit (Below)
theorem EU (s : List UInt8) (c : UInt8) (w : World) : Calls prog lI #[.string (mkS s), .string (mkS [c])] w (Ret fun v w' => v = .tuple #[.string (mkS (if s.head? = some c then s.drop 1 else s)), .bool (decide (s.head? = some c))] /\ w' = w) := by
 refine (Tryz.strings_CutPrefix (mkS s) (mkS [c]) w).mono ?_
 rintro _ _ ⟨rfl, rfl⟩
 refine ⟨_, rfl, ?_, rfl⟩
 have h := GK s c
 have e : (mkS s).data.toList = s := rfl
 have e2 : (mkS [c]).data.toList = [c] := rfl
 rw [e, e2, h.1]
 by_cases hc : s.head? = some c
 · rw [if_pos hc]
   have h2 := h.2
   rw [if_pos hc] at h2
   rw [h2]; rfl
 · rw [if_neg hc]
   have h2 := h.2
   rw [if_neg hc] at h2
   rw [h2]; rfl
end Go.Proofs.YtpafoodmpjlkhaaGreatDoor
namespace Go.Pk
def adC (a : List UInt8) : List Value := a.map fun c => Value.int .u8 ((c.toNat : Nat) : Int)
def adV (a : List UInt8) : Value := .agg (adC a).toArray
def ad0 : List UInt8 := List.replicate 16 0
theorem bu (a : List UInt8) : (adC a).length = a.length := by simp [adC]
theorem bT (a : List UInt8) : BQ (adC a) := IE a
theorem mV (a : List UInt8) (i : Nat) (c : UInt8) : (adC a).set i (.int .u8 ((c.toNat : Nat) : Int)) = adC (a.set i c) := by unfold adC; rw [List.map_set]
theorem pC {a : List UInt8} {i : Nat} (h : i < a.length) : (adC a)[i]? = some (.int .u8 ((a[i].toNat : Nat) : Int)) := by unfold adC; rw [List.getElem?_map, List.getElem?_eq_getElem h]; rfl
def adT : Option (List UInt8) -> Value
 | some a => .tuple #[adV a, .bool true]
 | none => .tuple #[adV ad0, .bool false]
def sy (x : List UInt8) : Prop := tY x /\ rI x <= 255
instance (x : List UInt8) : Decidable (sy x) := by unfold sy; infer_instance
def ipB (x : List UInt8) : UInt8 := UInt8.ofNat (rI x).toNat
def v4V (s : List UInt8) : Option (List UInt8) := if (aZ 46 [] s).length = 4 /\ ∀ x ∈ aZ 46 [] s, sy x then some (List.replicate 12 0 ++ (aZ 46 [] s).map ipB) else none
theorem Fl {x : List UInt8} (h : sy x) : IntKind.u8.wrap (rI x) = (((ipB x).toNat : Nat) : Int) := by
 have hd : 0 <= rI x := by
   have := h.1.1
   unfold bU at this
   rw [Bool.and_eq_true] at this
   exact (nF x 0 (by decide) (fun c hc => List.all_eq_true.1 this.2 c hc)).1
 have h2 := h.2
 rw [jL hd h2]
 unfold ipB
 rw [UInt8.toNat_ofNat']
 omega
def v4S (L : List (List UInt8)) (k : Nat) : List UInt8 := List.replicate 12 0 ++ (L.take k).map ipB ++ List.replicate (4 - k) 0
theorem ur {L : List (List UInt8)} (h : L.length = 4) {k : Nat} (hk : k <= 4) : (v4S L k).length = 16 := by simp [v4S]; omega
theorem CR {L : List (List UInt8)} (h : L.length = 4) {k : Nat} (hk : k < 4) : (v4S L k).set (12 + k) (ipB (L[k]'(by omega))) = v4S L (k + 1) := by
 unfold v4S
 have hl : (List.replicate 12 (0 : UInt8) ++ (L.take k).map ipB).length = 12 + k := by simp; omega
 rw [List.set_append_right _ _ (by omega), hl, Nat.sub_self, List.take_succ_eq_append_getElem (by omega), List.map_append]
 rw [show 4 - k = (4 - (k + 1)) + 1 by omega, List.replicate_succ (n := 4 - (k + 1)), List.set_cons_zero]
 simp
theorem H8 {L : List (List UInt8)} (h : L.length = 4) : v4S L 4 = List.replicate 12 0 ++ L.map ipB := by unfold v4S; rw [List.take_of_length_le (by omega)]; simp
theorem FW {s : List UInt8} (h : ¬ ((aZ 46 [] s).length = 4 /\ ∀ x ∈ aZ 46 [] s, sy x)) : v4V s = none := if_neg h
end Go.Pk
namespace Go.Proofs.YtpafoodmpjlkhaaGreatDoor
open Go.Pk
open Go.RowKit (Below)
theorem aQ : Whl prog ai 16 := ⟨⟨_, _, CJ⟩, by kernel_rfl⟩
theorem DH (s : List UInt8) (hs : s.length < 4294967281) (w : World) (he : Env w) : Calls prog vU #[.string (mkS s)] w (Ret fun v w' => v = adT (v4V s) /\ Below w.heap.size w w') := by
 apply CC
 unfold yQ
 intro k2 w2 hk2 hw2
 have hB2 := (hw2 ▸ ah w _ : Below w.heap.size w w2)
 have h2 : am w2 k2 ai (adC ad0) := am.new hk2 hw2
 refine ax (kh s 46 hs w2 (he.step hB2)) ?_
 rintro _ w3 ⟨a, n, c, rfl, ho, hf, hb3⟩
 have hB3 := ab hB2 hb3 hB2.size
 have h23 := h2.below hb3
 have hn := ho.len
 have hlens : ∀ x ∈ aZ 46 [] s, x.length <= s.length := fun x hx => by simpa using gW 46 s [] x hx
 have none_end : ∀ {wx : World}, v4V s = none -> am wx k2 ai (adC ad0) -> Below w.heap.size w wx -> _ := fun {wx} hv h2x hBx => aQ.fin (K := fun vr wy => (.tuple #[vr, .bool false] : Value) = adT (v4V s) /\ Below w.heap.size w wy) (cs := adC ad0) rfl (bT _) h2x rfl hBx (by omega) fun wy hb => ⟨by rw [hv]; rfl, hb⟩
 refine ⟨_, _, _, rfl, af.of (fun h4 => ?_) (fun h4 => ?_)⟩
 · refine none_end (FW fun hc => ?_) h23 hB3
   rw [bne_iff_ne] at h4; omega
 have hl4 : (aZ 46 [] s).length = 4 := by simp at h4; omega
 intro k5 w5 hk5 hw5
 have hb5 := (hw5 ▸ ah w3 _ : Below w3.heap.size w3 w5)
 have hB5 := ab hB3 hb5 hB3.size
 have h25 := h23.below hb5
 have h55 : am w5 k5 ai (adC ad0) := am.new hk5 hw5
 have ho5 := ho.below hb5
 have hlt2 := h23.lt
 have hog : ∀ g, bE a = some g -> g ≠ k5 := fun g hg e => by have := ho.lt g hg; omega
 have hk5w : w.heap.size <= k5 := by have := hB3.size; omega
 obtain ⟨L, hL⟩ : ∃ L, L = aZ 46 [] s := ⟨_, rfl⟩
 rw [<- hL] at ho5 hl4 hlens hn
 have hv4 : v4V s = if L.length = 4 /\ ∀ x ∈ L, sy x then some (List.replicate 12 0 ++ L.map ipB) else none := by rw [hL]; rfl
 refine ⟨fun m i w' => ∃ k : Nat, k <= 4 /\ i = (k : Int) /\ m = 4 - k /\ (∀ j (hj : j < k) (h : j < L.length), sy L[j]) /\ am w' k5 ai (adC (v4S L k)) /\ am w' k2 ai (adC ad0) /\ Ow tS ar w' NoB a n c L /\ Below w.heap.size w w',
   ⟨_, 0, by omega, rfl, rfl, fun j hj => by omega, h55, h25, ho5, hB5⟩, ?_⟩
 intro m i
 refine aE.of ?_ _
 rintro w6 ⟨k, hk, rfl, rfl, hok, h56, h26, ho6, hB6⟩
 refine af.of (fun h => ?_) (fun h => ?_) <;> simp only [dTx, dFx] at h
 · have hk4 : k < 4 := by omega
   have hkL : k < L.length := by omega
   refine ⟨⟨⟨by omega, h⟩, ho6.all.isSome (by omega)⟩, _, ho6.all.text aC hkL, ?_⟩
   have hlk := hlens L[k] (List.getElem_mem hkL)
   refine ax (wJ L[k] (by omega) w6) ?_
   rintro _ w7 ⟨rfl, hb7⟩
   have hB7 := ab hB6 hb7 hB6.size
   have hnone : ¬ sy L[k] -> v4V s = none := fun hx => by
     rw [hv4, if_neg fun hc => hx (hc.2 _ (List.getElem_mem hkL))]
   refine ⟨if tY L[k] then rI L[k] else 0, if tY L[k] then true else false, by split <;> rfl, ?_⟩
   refine ⟨fun w' => w' = w7 /\ sy L[k], ?_, ?_⟩
   · refine EN (B := fun J => af _ (J true w7) (J _ w7)) (!decide (sy L[k])) (af.of (fun h1 => ⟨rfl, ?_⟩) (fun h1 => ⟨rfl, ?_⟩)) ?_
     · have : ¬ tY L[k] := fun hc => by rw [if_pos hc] at h1; cases h1
       have h2 : ¬ sy L[k] := fun hc => this hc.1
       simp [h2]
     · have hnp : tY L[k] := Decidable.byContradiction fun hc => by rw [if_neg hc] at h1; cases h1
       rw [if_pos hnp, Bool.eq_iff_iff]
       simp [sy, hnp]
     · refine af.of (fun h1 => none_end (hnone (by simpa using h1)) (h26.below hb7) hB7) (fun h1 => ⟨rfl, by simpa using h1⟩)
   · refine aE.of ?_ _
     rintro wj ⟨hwj, hip⟩
     rw [hwj]; clear hwj
     have e12 : i64.wrap (12 + (k : Int)) = ((12 + k : Nat) : Int) := by rw [ak (by omega) (by omega)]; omega
     rw [e12, dH, if_pos hip.1, Fl hip, Nat.zero_add]
     refine ⟨⟨⟨by omega, by omega⟩, rfl⟩, ?_⟩
     have h57 := h56.below hb7
     obtain ⟨w8, hs8, h58, hg8⟩ := h57.put (P := prog) gu (i := 12 + k) (v := .int .u8 (((ipB L[k]).toNat : Nat) : Int)) (by rw [bu, ur hl4 (by omega)]; omega) rfl rfl
     rw [mV, CR hl4 hk4] at h58
     refine ⟨w8, hs8, 4 - (k + 1), by omega, k + 1, by omega, by rw [ak (by omega) (by omega)]; omega, rfl, ?_, h58, (h26.below hb7).grown hg8 (gt (by omega)), (ho6.below hb7).put hog hg8, Below.put hB7 hg8 hk5w⟩
     intro j hj hjl
     by_cases e : j = k
     · subst e; exact hip
     · exact hok j (by omega) hjl
 · have : k = 4 := by omega
   subst this
   have hall : ∀ x ∈ L, sy x := fun x hx => by
     obtain ⟨j, hj, rfl⟩ := List.mem_iff_getElem.1 hx
     exact hok j (by omega) hj
   have hv : v4V s = some (v4S L 4) := by rw [hv4, if_pos ⟨hl4, hall⟩, H8 hl4]
   have hlen : (adC (v4S L 4)).length = 16 := by rw [bu, ur hl4 (by omega)]
   refine ⟨_, aQ.load0 h56 hlen, ?_⟩
   exact aQ.fin (K := fun vr wy => (.tuple #[vr, .bool true] : Value) = adT (v4V s) /\ Below w.heap.size w wy) hlen (bT _) h26 rfl hB6 (by omega) fun wy hb => ⟨by rw [hv]; rfl, hb⟩
end Go.Proofs.YtpafoodmpjlkhaaGreatDoor
namespace Go.Pk
def pY (c : UInt8) : Nat := if 48 <= c.toNat /\ c.toNat <= 57 then c.toNat - 48 else if 97 <= c.toNat /\ c.toNat <= 102 then c.toNat - 87 else if 65 <= c.toNat /\ c.toNat <= 70 then c.toNat - 55 else 16
def lQ (c : UInt8) : Bool := decide (pY c < 16)
def js (s : List UInt8) : Nat := s.foldl (fun n c => n * 16 + pY c) 0
def bK (s : List UInt8) : Bool := decide (1 <= s.length) && decide (s.length <= 4) && s.all lQ
def bG (s : List UInt8) : List (List UInt8) := if s = [] then [] else aZ 58 [] s
def at2 (s : List UInt8) (i : Nat) : Prop := s[i]? = some 58 /\ s[i + 1]? = some 58
def e8 (s : List UInt8) : Bool := decide ((aZ 58 [] s).length = 8) && (aZ 58 [] s).all bK
def v6L (A B : List (List UInt8)) : List Nat := A.map js ++ List.replicate (8 - A.length - B.length) 0 ++ B.map js
def Ak (gap : Bool) (A B : List (List UInt8)) : Bool := A.all bK && B.all bK && (if gap then decide (A.length + B.length < 8) else decide (A.length + B.length = 8))
def v6V (s : List UInt8) : Option (List Nat) :=
 if Ak (Lib.cut s [58, 58]).2.2 (bG (Lib.cut s [58, 58]).1) (bG (Lib.cut s [58, 58]).2.1) = true then some (v6L (bG (Lib.cut s [58, 58]).1) (bG (Lib.cut s [58, 58]).2.1)) else none
theorem IU (s : List UInt8) (i : Nat) : Lib.occAt s [58, 58] i = true ↔ at2 s i := by
 unfold Lib.occAt at2
 have e0 : s[i]? = (s.drop i)[0]? := by rw [List.getElem?_drop]; rfl
 have e1 : s[i + 1]? = (s.drop i)[1]? := by rw [List.getElem?_drop]
 rw [e0, e1]
 generalize s.drop i = d
 match d with
 | [] => simp
 | [a] => simp
 | a :: b :: r =>
   simp only [List.isPrefixOf, Bool.and_true, Bool.and_eq_true, beq_iff_eq, List.getElem?_cons_zero, List.getElem?_cons_succ, Option.some.injEq]
   exact ⟨fun h => ⟨h.1.symm, h.2.symm⟩, fun h => ⟨h.1.symm, h.2.symm⟩⟩
theorem lh (s : List UInt8) : (Lib.cut s [58, 58] = (s, [], false) /\ ∀ i, ¬ at2 s i) \/ ∃ p, Lib.cut s [58, 58] = (s.take p, s.drop (p + 2), true) /\ at2 s p /\ (∀ j, j < p -> ¬ at2 s j) /\ p + 2 <= s.length := by
 rcases Lib.index_spec s [58, 58] with ⟨h1, h2⟩ | ⟨p, h1, h2, h3, h4⟩
 · refine .inl ⟨?_, fun i hi => ?_⟩
   · unfold Lib.cut; rw [if_neg (by omega)]
   · by_cases hl : i <= s.length
     · have := h2 i hl
       rw [(IU s i).2 hi] at this; cases this
     · have := hi.1
       rw [List.getElem?_eq_none (by omega)] at this; cases this
 · refine .inr ⟨p, ?_, (IU s p).1 h3, fun j hj hc => ?_, ?_⟩
   · unfold Lib.cut; rw [if_pos (by omega), h1]; rfl
   · have := h4 j hj
     rw [(IU s j).2 hc] at this; cases this
   · have := ((IU s p).1 h3).2
     have h5 := (List.getElem?_eq_some_iff.1 this).1
     omega
theorem IP {s : List UInt8} {g : List Nat} (h : v6V s = some g) : g.length = 8 := by
 unfold v6V at h
 split at h
 · rename_i hf
   rw [<- Option.some.inj h]
   unfold v6L
   unfold Ak at hf
   rw [Bool.and_eq_true] at hf
   have : (bG (Lib.cut s [58, 58]).1).length + (bG (Lib.cut s [58, 58]).2.1).length <= 8 := by
     have := hf.2
     split at this
     · have := of_decide_eq_true this; omega
     · have := of_decide_eq_true this; omega
   simp; omega
 · cases h
theorem so : ∀ (s : List UInt8) (n : Nat), s.all lQ = true -> s.foldl (fun n c => n * 16 + pY c) n < (n + 1) * 16 ^ s.length
 | [], n, _ => by simp
 | c :: s, n, h => by
   rw [List.all_cons, Bool.and_eq_true] at h
   have hc : pY c < 16 := by simpa [lQ] using h.1
   have := so s (n * 16 + pY c) h.2
   rw [List.foldl_cons, List.length_cons, Nat.pow_succ]
   refine Nat.lt_of_lt_of_le this ?_
   rw [Nat.mul_comm (16 ^ s.length) 16, <- Nat.mul_assoc]
   exact Nat.mul_le_mul_right _ (by omega)
theorem G3 {s : List UInt8} (h : bK s = true) : js s < 65536 := by
 unfold bK at h
 simp only [Bool.and_eq_true, dTx] at h
 have := so s 0 h.2
 have h2 : 16 ^ s.length <= 16 ^ 4 := Nat.pow_le_pow_right (by decide) h.1.2
 unfold js
 have h3 : (16 : Nat) ^ 4 = 65536 := rfl
 omega
end Go.Pk
namespace Go.Pk
def jN (l : List Nat) : List UInt8 := l.flatMap fun n => [UInt8.ofNat (n / 256), UInt8.ofNat (n % 256)]
theorem nK : ∀ l : List Nat, (jN l).length = 2 * l.length
 | [] => rfl
 | n :: l => by
   have := nK l
   unfold jN at this ⊢
   rw [List.flatMap_cons, List.length_append, this]; simp; omega
theorem E8 (a b : List Nat) : jN (a ++ b) = jN a ++ jN b := by unfold jN; rw [List.flatMap_append]
def Cn (gs : List Nat) (k : Nat) : List UInt8 := jN (gs.take k) ++ List.replicate (16 - 2 * k) 0
theorem qO {gs : List Nat} (h : gs.length = 8) {k : Nat} (hk : k <= 8) : (Cn gs k).length = 16 := by
 unfold Cn; rw [List.length_append, nK, List.length_take, List.length_replicate]; omega
theorem zr {gs : List Nat} (h : gs.length = 8) {k : Nat} (hk : k < 8) : ((Cn gs k).set (2 * k) (UInt8.ofNat ((gs[k]'(by omega)) / 256))).set (2 * k + 1) (UInt8.ofNat ((gs[k]'(by omega)) % 256)) = Cn gs (k + 1) := by
 unfold Cn
 have hl : (jN (gs.take k)).length = 2 * k := by rw [nK, List.length_take]; omega
 rw [show 16 - 2 * k = (16 - 2 * (k + 1)) + 1 + 1 by omega, List.replicate_succ (n := 16 - 2 * (k + 1) + 1), List.replicate_succ (n := 16 - 2 * (k + 1))]
 rw [List.set_append_right _ _ (by omega), hl, Nat.sub_self, List.set_cons_zero, List.set_append_right _ _ (by omega), hl, show 2 * k + 1 - 2 * k = 0 + 1 by omega, List.set_cons_succ, List.set_cons_zero,
   List.take_succ_eq_append_getElem (by omega), E8]
 simp [jN]
theorem E7 {gs : List Nat} (h : gs.length = 8) : Cn gs 8 = jN gs := by unfold Cn; rw [List.take_of_length_le (by omega)]; simp
theorem zt (x : List UInt8) {j : Nat} (h : j < x.length) : js (x.take (j + 1)) = js (x.take j) * 16 + pY x[j] := by
 unfold js; rw [List.take_succ_eq_append_getElem h, List.foldl_append]; rfl
theorem rO {x : List UInt8} {j : Nat} (h : ∀ i (hi : i < j) (h : i < x.length), lQ x[i] = true) (hj : j <= 4) : js (x.take j) < 65536 := by
 have ha : (x.take j).all lQ = true := List.all_eq_true.2 fun c hc => by
   obtain ⟨i, hi, rfl⟩ := List.mem_iff_getElem.1 hc
   rw [List.length_take] at hi
   rw [List.getElem_take]
   exact h i (by omega) (by omega)
 have h1 := so (x.take j) 0 ha
 have h2 : 16 ^ (x.take j).length <= 16 ^ 4 := Nat.pow_le_pow_right (by decide) (by rw [List.length_take]; omega)
 have h3 : (16 : Nat) ^ 4 = 65536 := rfl
 unfold js; omega
theorem uK {n : Nat} (h : n < 256) : ((UInt8.ofNat n).toNat : Int) = (n : Int) := by rw [UInt8.toNat_ofNat']; omega
end Go.Pk

namespace Go.Pk
def v6A (s : List UInt8) : Option (List UInt8) := (v6V s).map jN
def Ii (o : Option (List UInt8)) : Prop := ∀ a, o = some a -> a.length = 16
theorem rc (o : Option (List UInt8)) : adT o = .tuple #[adV (o.getD ad0), .bool o.isSome] := by cases o <;> rfl
theorem mL {o : Option (List UInt8)} (h : Ii o) : (adC (o.getD ad0)).length = 16 := by
 rw [bu]
 cases o with
 | none => rfl
 | some a => exact h a rfl
theorem CS (s : List UInt8) : Ii (v6A s) := fun a h => by
 unfold v6A at h
 cases hv : v6V s with
 | none => rw [hv] at h; cases h
 | some g =>
   rw [hv] at h
   rw [<- Option.some.inj h, nK, IP hv]
theorem GP (s : List UInt8) : Ii (v4V s) := fun a h => by
 unfold v4V at h
 split at h
 · rename_i h4
   rw [<- Option.some.inj h]; simp; omega
 · cases h
end Go.Pk

namespace Go.Pk
def H6 : Ty Int := IM .u16 fun _ => True
theorem Gv : BP H6 := fun _ _ _ _ _ _ h => h
def i16 (l : List Int) : List Value := l.map fun n => Value.int .u16 n
theorem HW {w : World} {A : Bl} {n : Int} : H6.rep w A [.int .u16 n] n := ⟨rfl, trivial⟩
theorem FJ : ∀ n, n < 256 -> Lib.indexByte [48, 49, 50, 51, 52, 53, 54, 55, 56, 57, 97, 98, 99, 100, 101, 102] (Am (UInt8.ofNat n)) = if pY (UInt8.ofNat n) < 16 then (pY (UInt8.ofNat n) : Int) else -1 := by decide +kernel
theorem FK (c : UInt8) : Lib.indexByte [48, 49, 50, 51, 52, 53, 54, 55, 56, 57, 97, 98, 99, 100, 101, 102] (Am c) = if pY c < 16 then (pY c : Int) else -1 := by
 have := FJ c.toNat (by have := c.toNat_lt; omega)
 rwa [UInt8.ofNat_toNat] at this
theorem JE {a d : Nat} (ha : a < 4096) (hd : d < 16) : IntKind.u16.wrap (((BitVec.ofInt (IntKind.bits .u16) (IntKind.u16.wrap ((a : Int) * 2 ^ (min (Int.toNat (4 : Int)) (IntKind.bits .u16))))) ||| (BitVec.ofInt (IntKind.bits .u16) (IntKind.u16.wrap (d : Int)))).toNat : Nat) = ((a * 16 + d : Nat) : Int) := by
 have e1 : (2 : Int) ^ (min (Int.toNat (4 : Int)) (IntKind.bits .u16)) = 16 := by decide
 have w16 : ∀ n : Nat, n < 65536 -> IntKind.u16.wrap (n : Int) = (n : Int) := fun n hn => by
   have : IntKind.u16.wrap (n : Int) = (n : Int) % 65536 := rfl
   rw [this]; omega
 have e2 : (a : Int) * 16 = ((a * 16 : Nat) : Int) := by omega
 have b16 : ∀ n : Nat, n < 65536 -> (BitVec.ofInt (IntKind.bits .u16) (n : Int)).toNat = n := fun n hn => by
   show (BitVec.ofInt 16 (n : Int)).toNat = n
   rw [BitVec.toNat_ofInt]
   have : ((n : Int) % ((2 ^ 16 : Nat) : Int)).toNat = n := by
     have h : ((2 ^ 16 : Nat) : Int) = 65536 := by decide
     rw [h]; omega
   exact this
 rw [e1, e2, w16 (a * 16) (by omega), w16 d (by omega), BitVec.toNat_or, b16 (a * 16) (by omega), b16 d (by omega)]
 have h3 : a * 16 ||| d = a * 16 + d := by
   have := Nat.two_pow_add_eq_or_of_lt (i := 4) hd a
   rw [Nat.mul_comm a 16]; exact this.symm
 rw [h3, w16 _ (by omega)]
def yF (s : List UInt8) : List Int := (bG s).map fun x => (js x : Int)
end Go.Pk
namespace Go.Proofs.YtpafoodmpjlkhaaGreatDoor
open Go.Pk
open Go.RowKit (Below)
theorem yZ (s : List UInt8) (hs : s.length <= 9223372036854775800) (w : World) : Calls prog pK #[.string (mkS s)] w
   (Ret fun v w' => v = (if bK s = true then .tuple #[.int .u16 (js s : Int), .bool true] else .tuple #[.int .u16 0, .bool false]) /\ Below w.heap.size w w') := by
 apply xQ
 unfold tg
 have bad : ∀ {wx : World}, bK s = false -> Below w.heap.size w wx -> (.tuple #[.int .u16 (0 : Int), .bool false] : Value) = (if bK s = true then .tuple #[.int .u16 (js s : Int), .bool true] else .tuple #[.int .u16 0, .bool false]) /\ Below w.heap.size w wx := fun hg hb => ⟨by rw [hg]; rfl, hb⟩
 refine tN (w := w) (1 <= s.length /\ s.length <= 4) ?_ (fun hl => ?_)
 · refine af.of (fun h => bad ?_ (Below.refl _ _)) (fun h => af.of (fun h2 => bad ?_ (Below.refl _ _)) (fun h2 => ⟨rfl, ?_⟩))
   · unfold bK; rw [decide_eq_false (by simp only [dTx] at h; omega), Bool.false_and, Bool.false_and]
   · unfold bK; rw [decide_eq_false (p := s.length <= 4) (by simp only [dTx] at h2; omega), Bool.and_false, Bool.false_and]
   · simp only [dFx] at h h2
     exact ⟨by omega, by omega⟩
 refine ax (rj s hs w) ?_
 rintro _ w1 ⟨rfl, hb1⟩
 refine ⟨_, rfl, ?_⟩
 have ll : (fU s).length = s.length := by simp [fU]
 obtain ⟨w2, a, n, c, hr, ho, hb2, hf⟩ := vj (P := prog) aC cD bF w1 (fU s) (by omega) NoB
 have hB2 := ab hb1 hb2 hb1.size
 have hnn := ho.len
 subst hnn
 refine ⟨w2, a, _, c, hr, ?_⟩
 refine ⟨fun m v i w' => ∃ j : Nat, j <= s.length /\ i = (j : Int) /\ m = s.length - j /\ v = ((js (s.take j) : Nat) : Int) /\ (∀ q (hq : q < j) (h : q < s.length), lQ s[q] = true) /\ w' = w2, ⟨_, 0, by omega, rfl, rfl, rfl, fun q hq => by omega, rfl⟩, ?_⟩
 intro m v i
 refine aE.of ?_ _
 rintro w' ⟨j, hj, rfl, rfl, rfl, hx, hw'⟩
 rw [hw']; clear hw'
 rw [ll]
 refine af.of (fun h => ?_) (fun h => ?_) <;> simp only [dTx, dFx] at h
 · have hlt : j < s.length := by omega
   have hgl := rO hx (by omega)
   have hlt' : j < (fU s).length := by omega
   obtain ⟨v, hv, hrep⟩ := ho.all.load1 (i := (j : Int)) bF rfl rfl (by simpa using hlt')
   have := yO hrep
   subst this
   simp only [Int.toNat_natCast] at hv
   have elow : (fU s)[j] = Am s[j] := by simp [fU]
   rw [elow] at hv
   refine ⟨⟨⟨by omega, h⟩, ho.all.isSome hlt'⟩, _, hv, ?_⟩
   refine (Tryz.strings_IndexByte (mkS [48, 49, 50, 51, 52, 53, 54, 55, 56, 57, 97, 98, 99, 100, 101, 102]) _ w2).mono ?_
   rintro _ w3 ⟨rfl, hw3⟩
   rw [hw3]; clear hw3
   have e5 : Lib.indexByte (mkS [48, 49, 50, 51, 52, 53, 54, 55, 56, 57, 97, 98, 99, 100, 101, 102]).data.toList (Int.toNat (((Am s[j]).toNat : Nat) : Int)).toUInt8 = if pY s[j] < 16 then (pY s[j] : Int) else -1 := by
     rw [Int.toNat_natCast, show (Am s[j]).toNat.toUInt8 = Am s[j] from UInt8.ofNat_toNat]
     exact FK s[j]
   rw [e5]
   refine ⟨_, rfl, ?_⟩
   by_cases hh : pY s[j] < 16
   · rw [if_pos hh]
     have hhx : lQ s[j] = true := by simpa [lQ] using hh
     have h4096 : js (s.take j) < 4096 := by
       have ha : (s.take j).all lQ = true := List.all_eq_true.2 fun c hc => by
         obtain ⟨i, hi, rfl⟩ := List.mem_iff_getElem.1 hc
         rw [List.length_take] at hi
         rw [List.getElem_take]
         exact hx i (by omega) (by omega)
       have h1 := so (s.take j) 0 ha
       have h2 : 16 ^ (s.take j).length <= 16 ^ 3 := Nat.pow_le_pow_right (by decide) (by rw [List.length_take]; omega)
       have h3 : (16 : Nat) ^ 3 = 4096 := rfl
       unfold js; omega
     refine af.no (by simp) ⟨by decide, s.length - (j + 1), by omega, j + 1, by omega, by rw [ak (by omega) (by omega)]; omega, rfl, ?_, fun q hq hql => ?_, rfl⟩
     · rw [JE h4096 hh, zt _ hlt]
     · by_cases e : q = j
       · subst e; exact hhx
       · exact hx q (by omega) hql
   · rw [if_neg hh]
     refine af.yes (by decide) (bad ?_ hB2)
     unfold bK
     have : s.all lQ = false := by
       rw [Bool.eq_false_iff]
       intro hc
       have := List.all_eq_true.1 hc _ (List.getElem_mem hlt)
       exact hh (by simpa [lQ] using this)
     rw [this, Bool.and_false]
 · have : j = s.length := by omega
   subst this
   have hg : bK s = true := by
     unfold bK
     rw [decide_eq_true hl.1, decide_eq_true hl.2, Bool.true_and, Bool.true_and]
     exact List.all_eq_true.2 fun c hc => by
       obtain ⟨q, hq, rfl⟩ := List.mem_iff_getElem.1 hc
       exact hx q hq hq
   rw [List.take_length, if_pos hg]
   exact ⟨rfl, hB2⟩
def EA (s : List UInt8) (w : World) (v : Value) (w' : World) : Prop :=
 ∃ (a : Option Addr) (n c : Nat), v = .tuple #[.slice a n c, .bool ((bG s).all bK)] /\ ((bG s).all bK = true -> Ow H6 fz w' NoB a n c (yF s) /\ bD w.heap.size a /\ (yF s = [] -> a = none /\ n = 0 /\ c = 0)) /\ ((bG s).all bK = false -> n = 0) /\ Below w.heap.size w w'
theorem vw (s : List UInt8) (hs : s.length < 4294967281) (w : World) (he : Env w) : Calls prog qJ #[.string (mkS s)] w (Ret (EA s w)) := by
 apply Bq
 unfold xt
 refine af.of (fun h => ?_) (fun h => ?_)
 · have h0 : s = [] := by simpa using h
   subst h0
   exact ⟨none, 0, 0, rfl, fun _ => ⟨Ow.nil _ _ _ _, bD.none _, fun _ => ⟨rfl, rfl, rfl⟩⟩, fun _ => rfl, Below.refl _ _⟩
 have hne : s ≠ [] := by simpa using h
 have hrow : bG s = aZ 58 [] s := by unfold bG; rw [if_neg hne]
 have hI : yF s = (aZ 58 [] s).map fun x => (js x : Int) := by unfold yF; rw [hrow]
 unfold EA
 rw [hrow, hI]
 refine ax (kh s 58 hs w he) ?_
 rintro _ w3 ⟨a, n, c, rfl, ho, hf, hb3⟩
 have hn := ho.len
 have hlens : ∀ x ∈ aZ 58 [] s, x.length <= s.length := fun x hx => by simpa using gW 58 s [] x hx
 have hcn := gi 58 s []
 have hnz := gy 58 s []
 refine ⟨_, _, _, rfl, ?_⟩
 generalize aZ 58 [] s = L at *
 refine ⟨fun m a4 l4 c4 i w' => ∃ k : Nat, k <= L.length /\ i = (k : Int) /\ m = L.length - k /\ (∀ j (hj : j < k) (h : j < L.length), bK L[j] = true) /\ Ow H6 fz w' NoB a4 l4 c4 ((L.take k).map fun x => (js x : Int)) /\ bD w3.heap.size a4 /\ Below w3.heap.size w3 w',
   ⟨_, 0, by omega, rfl, rfl, fun j hj => by omega, Ow.nil _ _ _ _, bD.none _, Below.refl _ _⟩, ?_⟩
 intro m a4 l4 c4 i
 refine aE.of ?_ _
 rintro w6 ⟨k, hk, rfl, rfl, hok, ho4, hf4, hB6⟩
 have ho6 := ho.below hB6
 refine af.of (fun h => ?_) (fun h => ?_) <;> simp only [dTx, dFx] at h
 · have hkL : k < L.length := by omega
   have hlk := hlens L[k] (List.getElem_mem hkL)
   refine ⟨⟨⟨by omega, h⟩, ho6.all.isSome (by omega)⟩, _, ho6.all.text aC hkL, ?_⟩
   refine ax (yZ L[k] (by omega) w6) ?_
   rintro _ w7 ⟨rfl, hb7⟩
   have hB7 := ab hB6 hb7 hB6.size
   by_cases hg : bK L[k] = true
   · rw [if_pos hg]
     refine ⟨_, _, rfl, af.no rfl ?_⟩
     intro k1 w8 hk1 hw8
     have ho47 := ho4.below hb7
     obtain ⟨w9, a9, n9, c9, hr, ho9, hf9, hb9⟩ := xL (ty := dG) (w0 := w3) (cm := 1) (vs := [_]) Gv qx BF (by decide) ho47 hf4 hB7 hk1 hw8 (HW) (by simp; omega)
     refine ⟨w9, a9, n9, c9, hr, L.length - (k + 1), by omega, k + 1, by omega, by rw [ak (by omega) (by omega)]; omega, rfl, fun j hj hjl => ?_, ?_, hf9, hb9⟩
     · by_cases e : j = k
       · subst e; exact hg
       · exact hok j (by omega) hjl
     · rw [List.take_succ_eq_append_getElem hkL, List.map_append]; exact ho9
   · rw [if_neg hg]
     refine ⟨_, _, rfl, af.yes rfl ?_⟩
     have hall : L.all bK = false := by
       rw [Bool.eq_false_iff]
       intro hc
       exact hg (List.all_eq_true.1 hc _ (List.getElem_mem hkL))
     rw [hall]
     exact ⟨none, 0, 0, rfl, (fun h => by cases h), (fun _ => rfl), ab hb3 hB7 hb3.size⟩
 · have : k = L.length := by omega
   subst this
   have hall : L.all bK = true := List.all_eq_true.2 fun x hx => by
     obtain ⟨j, hj, rfl⟩ := List.mem_iff_getElem.1 hx
     exact hok j (by omega) hj
   rw [List.take_length] at ho4
   rw [hall]
   refine ⟨a4, l4, c4, rfl, (fun _ => ⟨ho4, hf4.mono hb3.size, fun h0 => ?_⟩), (fun h => by cases h), ab hb3 hB6 hb3.size⟩
   exact absurd (List.map_eq_nil_iff.1 h0) hnz
end Go.Proofs.YtpafoodmpjlkhaaGreatDoor
