/- What the laws lean on: V1, Arr, H, Env, Split, DateP, DateA, DateB, DateC, DateQ, DateD, OctA; what is used. Its conditions: none. -/
import Derived.Test.YtlfolncaghkmcaaGreatDoorKB
import Derived.Lib.LaidTab
import Derived.Lib.ItoaMem
import Derived.Lib.SplitLaws
import Derived.Lib.IndexMore
import Init
open Go.IntKind (i64)
open Go.Proofs.Tryz (prog)
set_option linter.unusedVariables false
set_option maxRecDepth 100000
namespace Go.Proofs.YtlfolncaghkmcaaGreatDoor
open Go.Pk
open Go.RowKit (Below)
--  cracknel/header.Parse
def qn7 (s0 : List UInt8) (w : World) (K : Value -> World -> Prop) : Prop :=
 ∀ k2 w2, k2 = w.heap.size -> w2 = w.alloc (.cells #[.string (mkS []), .string (mkS []), .string (mkS []), .string (mkS []), .bool false, .int .i64 (0 : Int), .bool false, .int .i64 (0 : Int), .bool false, .bool false, .int .i64 (0 : Int)] qi) ->
 Calls prog qjx #[.string (mkS s0)] w2 fun e15 w15 => ∃ b15, e15 = .returned (.bool b15) /\
 BCase b15
 (∃ wx, Sv qi (some ⟨k2, 0, none⟩) (hV [] [] [] [] false (0 : Int) false (0 : Int) false false (0 : Int)) w15 wx /\
 ∃ sr0_0 sr0_1 sr0_2 sr0_3 br0_4 nr0_5 br0_6 nr0_7 br0_8 br0_9 nr0_10, (qs qi (.pointer (some ⟨k2, 0, none⟩))).run prog wx = .ok (hV sr0_0 sr0_1 sr0_2 sr0_3 br0_4 nr0_5 br0_6 nr0_7 br0_8 br0_9 nr0_10) wx /\
 K (.tuple #[(hV sr0_0 sr0_1 sr0_2 sr0_3 br0_4 nr0_5 br0_6 nr0_7 br0_8 br0_9 nr0_10), .int .i64 (81 : Int)]) wx)
 (Calls prog qe1 #[.string (mkS s0), .int .u8 (59 : Int)] w15 fun e18 w18 => ∃ a18 l18 c18, e18 = .returned (.slice a18 l18 c18) /\
 ∀ k5 w5, k5 = w18.heap.size -> w5 = w18.alloc (.cells #[.string (mkS []), .string (mkS []), .string (mkS []), .string (mkS []), .bool false, .int .i64 (0 : Int), .bool false, .int .i64 (0 : Int), .bool false, .bool false, .int .i64 (0 : Int)] qi) ->
 ((0 <= (0 : Int) /\ (0 : Int) < ((l18 : Nat) : Int)) /\ Option.isSome a18 = true) /\
 ∃ s22, Ld qh (ql a18 (0 : Int) 1) w5 (.string (mkS s22)) /\
 Calls prog qjI #[.string (mkS s22)] w5 fun e23 w23 => ∃ s23_0 s23_1 b23_2, e23 = .returned (.tuple #[.string (mkS s23_0), .string (mkS s23_1), .bool b23_2]) /\
 ∃ J : FP [.one (.str), .one (.str)],
 (BCase (!b23_2)
 (J [] s23_0 w23)
 (J s23_0 s23_1 w23)) /\
 ∀ s6 s7, AllJ 3 (∀ wj, J s6 s7 wj ->
 ((((List.length s6 + List.length s7 : Nat) : Int) <= i64.max)) /\
 ∀ s33, s33 = (s6 ++ s7) ->
 BCase (s33 == [])
 (∃ wx_1, Sv qi (some ⟨k2, 0, none⟩) (hV [] [] [] [] false (0 : Int) false (0 : Int) false false (0 : Int)) wj wx_1 /\
 ∃ sr0_0_1 sr0_1_1 sr0_2_1 sr0_3_1 br0_4_1 nr0_5_1 br0_6_1 nr0_7_1 br0_8_1 br0_9_1 nr0_10_1, (qs qi (.pointer (some ⟨k2, 0, none⟩))).run prog wx_1 = .ok (hV sr0_0_1 sr0_1_1 sr0_2_1 sr0_3_1 br0_4_1 nr0_5_1 br0_6_1 nr0_7_1 br0_8_1 br0_9_1 nr0_10_1) wx_1 /\
 K (.tuple #[(hV sr0_0_1 sr0_1_1 sr0_2_1 sr0_3_1 br0_4_1 nr0_5_1 br0_6_1 nr0_7_1 br0_8_1 br0_9_1 nr0_10_1), .int .i64 (82 : Int)]) wx_1)
 (BCase (decide ((i64.wrap (((List.length s6 : Nat) : Int) + ((List.length s7 : Nat) : Int))) > (4096 : Int)))
 (∃ wx_2, Sv qi (some ⟨k2, 0, none⟩) (hV [] [] [] [] false (0 : Int) false (0 : Int) false false (0 : Int)) wj wx_2 /\
 ∃ sr0_0_2 sr0_1_2 sr0_2_2 sr0_3_2 br0_4_2 nr0_5_2 br0_6_2 nr0_7_2 br0_8_2 br0_9_2 nr0_10_2, (qs qi (.pointer (some ⟨k2, 0, none⟩))).run prog wx_2 = .ok (hV sr0_0_2 sr0_1_2 sr0_2_2 sr0_3_2 br0_4_2 nr0_5_2 br0_6_2 nr0_7_2 br0_8_2 br0_9_2 nr0_10_2) wx_2 /\
 K (.tuple #[(hV sr0_0_2 sr0_1_2 sr0_2_2 sr0_3_2 br0_4_2 nr0_5_2 br0_6_2 nr0_7_2 br0_8_2 br0_9_2 nr0_10_2), .int .i64 (83 : Int)]) wx_2)
 ((true = true) /\
 ∃ wx_3, Sv qh (some ⟨k5, 0, none⟩) (.string (mkS s6)) wj wx_3 /\
 (true = true) /\
 ∃ wx_4, Sv qh (some ⟨k5, 1, none⟩) (.string (mkS s7)) wx_3 wx_4 /\
 ((0 <= (1 : Int) /\ (1 : Int) <= ((l18 : Nat) : Int))) /\
 ∃ I : Nat -> FP [.one (.int .i64)],
 (∃ m, I m (0 : Int) wx_4) /\
 ∀ m n51, AllJ 21 (∀ wl, I m n51 wl ->
 BCase (decide (n51 < (((l18 - (Int.toNat (1 : Int))) : Nat) : Int)))
 (((0 <= n51 /\ n51 < (((l18 - (Int.toNat (1 : Int))) : Nat) : Int)) /\ Option.isSome (qy a18 c18 (Int.toNat (1 : Int)) 1) = true) /\
 ∃ s54, Ld qh (ql (qy a18 c18 (Int.toNat (1 : Int)) 1) n51 1) wl (.string (mkS s54)) /\
 Calls prog qjI #[.string (mkS s54)] wl fun e57 w57 => ∃ s57_0 s57_1 b57_2, e57 = .returned (.tuple #[.string (mkS s57_0), .string (mkS s57_1), .bool b57_2]) /\
 BCase (decide (((List.length s57_1 : Nat) : Int) <= (1024 : Int)))
 (Calls prog qd8 #[.string (mkS s57_0)] w57 fun e65 w65 => ∃ s65, e65 = .returned (.string (mkS s65)) /\
 Calls prog qiB #[.pointer (some ⟨k5, 0, none⟩), .string (mkS s65), .string (mkS s57_1)] w65 fun e67 w67 => e67 = .returned (.tuple #[]) /\
 ∃ m' : Nat, m' < m /\ I m' (i64.wrap (n51 + (1 : Int))) w67)
 (∃ m' : Nat, m' < m /\ I m' (i64.wrap (n51 + (1 : Int))) w57))
 (∃ s69_0 s69_1 s69_2 s69_3 b69_4 n69_5 b69_6 n69_7 b69_8 b69_9 n69_10, Ld qi (some ⟨k5, 0, none⟩) wl (hV s69_0 s69_1 s69_2 s69_3 b69_4 n69_5 b69_6 n69_7 b69_8 b69_9 n69_10) /\
 ∃ wx_5, Sv qi (some ⟨k2, 0, none⟩) (hV s69_0 s69_1 s69_2 s69_3 b69_4 n69_5 b69_6 n69_7 b69_8 b69_9 n69_10) wl wx_5 /\
 ∃ sr0_0_3 sr0_1_3 sr0_2_3 sr0_3_3 br0_4_3 nr0_5_3 br0_6_3 nr0_7_3 br0_8_3 br0_9_3 nr0_10_3, (qs qi (.pointer (some ⟨k2, 0, none⟩))).run prog wx_5 = .ok (hV sr0_0_3 sr0_1_3 sr0_2_3 sr0_3_3 br0_4_3 nr0_5_3 br0_6_3 nr0_7_3 br0_8_3 br0_9_3 nr0_10_3) wx_5 /\
 K (.tuple #[(hV sr0_0_3 sr0_1_3 sr0_2_3 sr0_3_3 br0_4_3 nr0_5_3 br0_6_3 nr0_7_3 br0_8_3 br0_9_3 nr0_10_3), .int .i64 (0 : Int)]) wx_5))))))
theorem qr7 (s0 : List UInt8) {w : World} {K : Value -> World -> Prop} (h : qn7 s0 w K) : Calls prog qjb #[.string (mkS s0)] w (Ret K) :=
 qm (c := qq Tryz.f31) (by kernel_rfl) Tryz.func31 (by kernel_rfl) [(16, [(6, .one (.str)), (7, .one (.str))]), (43, [(51, .one (.int .i64))])] [.string (mkS s0)] (of_decide_eq_true (by kernel_rfl)) _ (by kernel_rfl) h

--  cracknel/octet.Trim
def qqS (s0 : List UInt8) (w : World) (K : Value -> World -> Prop) : Prop :=
 Calls prog qlc #[.string (mkS s0), .string (mkS [32, 9])] w fun e4 w4 => ∃ s4, e4 = .returned (.string (mkS s4)) /\
 K (.string (mkS s4)) w4
theorem quI (s0 : List UInt8) {w : World} {K : Value -> World -> Prop} (h : qqS s0 w K) : Calls prog qih #[.string (mkS s0)] w (Ret K) :=
 qm (c := qq Tryz.f52) (by kernel_rfl) Tryz.func52 (by kernel_rfl) [] [.string (mkS s0)] (of_decide_eq_true (by kernel_rfl)) _ (by kernel_rfl) h

--  cracknel/octet.Split
def qo9 (s0 : List UInt8) (n1 : Int) (w : World) (K : Value -> World -> Prop) : Prop :=
 ∀ k7 w7, k7 = w.heap.size -> w7 = w.alloc (.cells #[.int .u8 n1] qU) ->
 ∃ s8, (convert za qh (.slice (some ⟨k7, 0, none⟩) 1 1)).run prog w7 = .ok (.string (mkS s8)) w7 /\
 Calls prog qsU #[.string (mkS s0), .string (mkS s8)] w7 fun e9 w9 => ∃ a9 l9 c9, e9 = .returned (.slice a9 l9 c9) /\
 K (.slice a9 l9 c9) w9
theorem qtz (s0 : List UInt8) (n1 : Int) {w : World} {K : Value -> World -> Prop} (h : qo9 s0 n1 w K) : Calls prog qe1 #[.string (mkS s0), .int .u8 n1] w (Ret K) :=
 qm (c := qq Tryz.f59) (by kernel_rfl) Tryz.func59 (by kernel_rfl) [] [.string (mkS s0), .int .u8 n1] (of_decide_eq_true (by kernel_rfl)) _ (by kernel_rfl) h

--  cracknel/header.control
def qlI (s0 : List UInt8) (w : World) (K : Value -> World -> Prop) : Prop :=
 ∃ w6 a6 l6 c6, (convert qh za (.string (mkS s0))).run prog w = .ok (.slice a6 l6 c6) w6 /\
 ∃ I : Nat -> FP [.one (.int .i64)],
 (∃ m, I m (0 : Int) w6) /\
 ∀ m n8, AllJ 16 (∀ wl, I m n8 wl ->
 BCase (decide (n8 < ((l6 : Nat) : Int)))
 (((0 <= n8 /\ n8 < ((l6 : Nat) : Int)) /\ Option.isSome a6 = true) /\
 ∃ n11, Ld qU (ql a6 n8 1) wl (.int .u8 n11) /\
 BCase (decide (n11 < (32 : Int)))
 (BCase (n11 != (9 : Int))
 (K (.bool true) wl)
 (BCase (n11 == (127 : Int))
 (K (.bool true) wl)
 (∃ m' : Nat, m' < m /\ I m' (i64.wrap (n8 + (1 : Int))) wl)))
 (BCase (n11 == (127 : Int))
 (K (.bool true) wl)
 (∃ m' : Nat, m' < m /\ I m' (i64.wrap (n8 + (1 : Int))) wl)))
 (K (.bool false) wl))
theorem qqr (s0 : List UInt8) {w : World} {K : Value -> World -> Prop} (h : qlI s0 w K) : Calls prog qjx #[.string (mkS s0)] w (Ret K) :=
 qm (c := qq Tryz.f62) (by kernel_rfl) Tryz.func62 (by kernel_rfl) [(6, [(8, .one (.int .i64))])] [.string (mkS s0)] (of_decide_eq_true (by kernel_rfl)) _ (by kernel_rfl) h

--  cracknel/header.pair
def qo0 (s0 : List UInt8) (w : World) (K : Value -> World -> Prop) : Prop :=
 Calls prog qp6 #[.string (mkS s0), .string (mkS [61])] w fun e10 w10 => ∃ s10_0 s10_1 b10_2, e10 = .returned (.tuple #[.string (mkS s10_0), .string (mkS s10_1), .bool b10_2]) /\
 Calls prog qih #[.string (mkS s10_0)] w10 fun e15 w15 => ∃ s15, e15 = .returned (.string (mkS s15)) /\
 Calls prog qih #[.string (mkS s10_1)] w15 fun e17 w17 => ∃ s17, e17 = .returned (.string (mkS s17)) /\
 K (.tuple #[.string (mkS s15), .string (mkS s17), .bool b10_2]) w17
theorem qtp (s0 : List UInt8) {w : World} {K : Value -> World -> Prop} (h : qo0 s0 w K) : Calls prog qjI #[.string (mkS s0)] w (Ret K) :=
 qm (c := qq Tryz.f63) (by kernel_rfl) Tryz.func63 (by kernel_rfl) [] [.string (mkS s0)] (of_decide_eq_true (by kernel_rfl)) _ (by kernel_rfl) h

--  cracknel/header.attribute
def qkD (p0 : Option Addr) (s1 : List UInt8) (s2 : List UInt8) (w : World) (K : Value -> World -> Prop) : Prop :=
 BCase (s1 == [101, 120, 112, 105, 114, 101, 115])
 (Calls prog ql0 #[.string (mkS s2)] w fun e17 w17 => ∃ n17_0 b17_1, e17 = .returned (.tuple #[.int .i64 n17_0, .bool b17_1]) /\
 BCase b17_1
 ((Option.isSome p0 = true) /\
 (Option.isSome p0 = true) /\
 ∃ wx, Sv qN (Option.map (fun x => x.add 4) p0) (.bool true) w17 wx /\
 (Option.isSome p0 = true) /\
 (Option.isSome p0 = true) /\
 ∃ wx_1, Sv qA (Option.map (fun x => x.add 5) p0) (.int .i64 n17_0) wx wx_1 /\
 K (.tuple #[]) wx_1)
 (K (.tuple #[]) w17))
 (BCase (s1 == [109, 97, 120, 45, 97, 103, 101])
 (Calls prog qnk #[.string (mkS s2)] w fun e32 w32 => ∃ n32_0 b32_1, e32 = .returned (.tuple #[.int .i64 n32_0, .bool b32_1]) /\
 BCase b32_1
 ((Option.isSome p0 = true) /\
 (Option.isSome p0 = true) /\
 ∃ wx_2, Sv qN (Option.map (fun x => x.add 6) p0) (.bool true) w32 wx_2 /\
 (Option.isSome p0 = true) /\
 (Option.isSome p0 = true) /\
 ∃ wx_3, Sv qA (Option.map (fun x => x.add 7) p0) (.int .i64 n32_0) wx_2 wx_3 /\
 K (.tuple #[]) wx_3)
 (K (.tuple #[]) w32))
 (BCase (s1 == [100, 111, 109, 97, 105, 110])
 (Calls prog qoC #[.string (mkS s2), .string (mkS [46])] w fun e47 w47 => ∃ s47, e47 = .returned (.string (mkS s47)) /\
 Calls prog qd8 #[.string (mkS s47)] w47 fun e48 w48 => ∃ s48, e48 = .returned (.string (mkS s48)) /\
 (Option.isSome p0 = true) /\
 (Option.isSome p0 = true) /\
 ∃ wx_4, Sv qh (Option.map (fun x => x.add 2) p0) (.string (mkS s48)) w48 wx_4 /\
 K (.tuple #[]) wx_4)
 (BCase (s1 == [112, 97, 116, 104])
 ((Option.isSome p0 = true) /\
 (Option.isSome p0 = true) /\
 ∃ wx_5, Sv qh (Option.map (fun x => x.add 3) p0) (.string (mkS [])) w wx_5 /\
 Calls prog qgj #[.string (mkS s2), .string (mkS [47])] wx_5 fun e57 w57 => ∃ b57, e57 = .returned (.bool b57) /\
 BCase b57
 ((Option.isSome p0 = true) /\
 (Option.isSome p0 = true) /\
 ∃ wx_6, Sv qh (Option.map (fun x => x.add 3) p0) (.string (mkS s2)) w57 wx_6 /\
 K (.tuple #[]) wx_6)
 (K (.tuple #[]) w57))
 (BCase (s1 == [115, 101, 99, 117, 114, 101])
 ((Option.isSome p0 = true) /\
 (Option.isSome p0 = true) /\
 ∃ wx_7, Sv qN (Option.map (fun x => x.add 8) p0) (.bool true) w wx_7 /\
 K (.tuple #[]) wx_7)
 (BCase (s1 == [104, 116, 116, 112, 111, 110, 108, 121])
 ((Option.isSome p0 = true) /\
 (Option.isSome p0 = true) /\
 ∃ wx_8, Sv qN (Option.map (fun x => x.add 9) p0) (.bool true) w wx_8 /\
 K (.tuple #[]) wx_8)
 (BCase (s1 == [115, 97, 109, 101, 115, 105, 116, 101])
 ((Option.isSome p0 = true) /\
 (Option.isSome p0 = true) /\
 ∃ wx_9, Sv qt (Option.map (fun x => x.add 10) p0) (.int .i64 (0 : Int)) w wx_9 /\
 Calls prog qhT #[] wx_9 fun e77 w77 => ∃ s77_0 s77_1 s77_2 s77_3, e77 = .returned (.agg #[.string (mkS s77_0), .string (mkS s77_1), .string (mkS s77_2), .string (mkS s77_3)]) /\
 ∃ I : Nat -> FP [.one (.int .i64)],
 (∃ m, I m (0 : Int) w77) /\
 ∀ m n78, AllJ 13 (∀ wl, I m n78 wl ->
 BCase (decide (n78 < (4 : Int)))
 (∃ s81, (Instr.index qb9 (.agg #[.string (mkS s77_0), .string (mkS s77_1), .string (mkS s77_2), .string (mkS s77_3)]) (.int .i64 n78)).run prog wl = .ok (.string (mkS s81)) wl /\
 Calls prog qkQ #[.string (mkS s81), .string (mkS s2)] wl fun e84 w84 => ∃ b84, e84 = .returned (.bool b84) /\
 BCase b84
 ((Option.isSome p0 = true) /\
 (Option.isSome p0 = true) /\
 ∃ wx_10, Sv qt (Option.map (fun x => x.add 10) p0) (.int .i64 n78) w84 wx_10 /\
 ∃ m' : Nat, m' < m /\ I m' (i64.wrap (n78 + (1 : Int))) wx_10)
 (∃ m' : Nat, m' < m /\ I m' (i64.wrap (n78 + (1 : Int))) w84))
 (K (.tuple #[]) wl)))
 (K (.tuple #[]) w)))))))
theorem qoG (p0 : Option Addr) (s1 : List UInt8) (s2 : List UInt8) {w : World} {K : Value -> World -> Prop} (h : qkD p0 s1 s2 w K) : Calls prog qiB #[.pointer p0, .string (mkS s1), .string (mkS s2)] w (Ret K) :=
 qm (c := qq Tryz.f64) (by kernel_rfl) Tryz.func64 (by kernel_rfl) [(53, [(78, .one (.int .i64))])] [.pointer p0, .string (mkS s1), .string (mkS s2)] (of_decide_eq_true (by kernel_rfl)) _ (by kernel_rfl) h

--  cracknel/octet.Lower
def qo8 (s0 : List UInt8) (w : World) (K : Value -> World -> Prop) : Prop :=
 ∃ w7 a7 l7 c7, (convert qh za (.string (mkS s0))).run prog w = .ok (.slice a7 l7 c7) w7 /\
 ∃ I : Nat -> FP [.one (.int .i64)],
 (∃ m, I m (0 : Int) w7) /\
 ∀ m n10, AllJ 19 (∀ wl, I m n10 wl ->
 BCase (decide (n10 < ((l7 : Nat) : Int)))
 (((0 <= n10 /\ n10 < ((l7 : Nat) : Int)) /\ Option.isSome a7 = true) /\
 ∃ n14, Ld qU (ql a7 n10 1) wl (.int .u8 n14) /\
 ∃ J : FP [.one (.bool)],
 (BCase (decide (n14 >= (65 : Int)))
 (J (decide (n14 <= (90 : Int))) wl)
 (J false wl)) /\
 ∀ b20, AllJ 5 (∀ wj, J b20 wj ->
 BCase b20
 (((0 <= n10 /\ n10 < ((l7 : Nat) : Int)) /\ Option.isSome a7 = true) /\
 ∃ wx, Sv qU (ql a7 n10 1) (.int .u8 (IntKind.u8.wrap ((IntKind.u8.wrap (n14 - (65 : Int))) + (97 : Int)))) wj wx /\
 ∃ m' : Nat, m' < m /\ I m' (i64.wrap (n10 + (1 : Int))) wx)
 (∃ m' : Nat, m' < m /\ I m' (i64.wrap (n10 + (1 : Int))) wj)))
 (∃ s29, (convert za qh (.slice a7 l7 c7)).run prog wl = .ok (.string (mkS s29)) wl /\
 K (.string (mkS s29)) wl))
theorem qty (s0 : List UInt8) {w : World} {K : Value -> World -> Prop} (h : qo8 s0 w K) : Calls prog qd8 #[.string (mkS s0)] w (Ret K) :=
 qm (c := qq Tryz.f65) (by kernel_rfl) Tryz.func65 (by kernel_rfl) [(8, [(10, .one (.int .i64))]), (19, [(20, .one (.bool))])] [.string (mkS s0)] (of_decide_eq_true (by kernel_rfl)) _ (by kernel_rfl) h

--  cracknel/cracknelref01.Lower
def qpa (s0 : List UInt8) (w : World) (K : Value -> World -> Prop) : Prop :=
 ∃ I : Nat -> FP [.one (.str), .one (.int .i64)],
 (∃ m, I m [] (0 : Int) w) /\
 ∀ m s3 n4, AllJ 23 (∀ wl, I m s3 n4 wl ->
 BCase (decide (n4 < ((List.length s0 : Nat) : Int)))
 (((0 <= n4 /\ n4 < ((List.length s0 : Nat) : Int))) /\
 ∃ J : FP [.one (.int .u8)],
 (BCase (decide ((qH s0 n4) >= (65 : Int)))
 (BCase (decide ((qH s0 n4) <= (90 : Int)))
 (J (IntKind.u8.wrap ((qH s0 n4) + (32 : Int))) wl)
 (J (qH s0 n4) wl))
 (J (qH s0 n4) wl)) /\
 ∀ n5, AllJ 8 (∀ wj, J n5 wj ->
 ∀ k25 w25, k25 = wj.heap.size -> w25 = wj.alloc (.cells #[.int .u8 n5] qU) ->
 ∃ s26, (convert za qh (.slice (some ⟨k25, 0, none⟩) 1 1)).run prog w25 = .ok (.string (mkS s26)) w25 /\
 ((((List.length s3 + List.length s26 : Nat) : Int) <= i64.max)) /\
 ∀ s27, s27 = (s3 ++ s26) ->
 ∃ m' : Nat, m' < m /\ I m' s27 (i64.wrap (n4 + (1 : Int))) w25))
 (K (.string (mkS s3)) wl))
theorem qtA (s0 : List UInt8) {w : World} {K : Value -> World -> Prop} (h : qpa s0 w K) : Calls prog zN #[.string (mkS s0)] w (Ret K) :=
 qm (c := qq Tryz.f83) (by kernel_rfl) Tryz.func83 (by kernel_rfl) [(8, [(3, .one (.str)), (4, .one (.int .i64))]), (19, [(5, .one (.int .u8))])] [.string (mkS s0)] (of_decide_eq_true (by kernel_rfl)) _ (by kernel_rfl) h

--  cracknel/cracknelref01.Number
def qoh (s0 : List UInt8) (w : World) (K : Value -> World -> Prop) : Prop :=
 ∃ J : FP [],
 (Calls prog qbs #[.string (mkS s0)] w fun e7 w7 => ∃ b7, e7 = .returned (.bool b7) /\
 BCase (!b7)
 (K (.tuple #[.int .i64 (0 : Int), .bool false]) w7)
 (BCase (decide (((List.length s0 : Nat) : Int) > (18 : Int)))
 (K (.tuple #[.int .i64 (0 : Int), .bool false]) w7)
 (BCase (decide (((List.length s0 : Nat) : Int) > (1 : Int)))
 (((0 <= (0 : Int) /\ (0 : Int) < ((List.length s0 : Nat) : Int))) /\
 BCase ((qH s0 (0 : Int)) == (48 : Int))
 (K (.tuple #[.int .i64 (0 : Int), .bool false]) w7)
 (J w7))
 (J w7)))) /\
 AllJ 20 (∀ wj, J wj ->
 ∃ I : Nat -> FP [.one (.int .i64), .one (.int .i64)],
 (∃ m, I m (0 : Int) (0 : Int) wj) /\
 ∀ m n4 n5, AllJ 14 (∀ wl, I m n4 n5 wl ->
 BCase (decide (n5 < ((List.length s0 : Nat) : Int)))
 (((0 <= n5 /\ n5 < ((List.length s0 : Nat) : Int))) /\
 ∃ m' : Nat, m' < m /\ I m' (i64.wrap ((i64.wrap ((i64.wrap (n4 * (10 : Int))) + (i64.wrap (qH s0 n5)))) - (48 : Int))) (i64.wrap (n5 + (1 : Int))) wl)
 (K (.tuple #[.int .i64 n4, .bool true]) wl)))
theorem qsh (s0 : List UInt8) {w : World} {K : Value -> World -> Prop} (h : qoh s0 w K) : Calls prog qjd #[.string (mkS s0)] w (Ret K) :=
 qm (c := qq Tryz.f86) (by kernel_rfl) Tryz.func86 (by kernel_rfl) [(2, []), (16, [(4, .one (.int .i64)), (5, .one (.int .i64))])] [.string (mkS s0)] (of_decide_eq_true (by kernel_rfl)) _ (by kernel_rfl) h

--  cracknel/octet.Digits
def qoe (s0 : List UInt8) (w : World) (K : Value -> World -> Prop) : Prop :=
 BCase (!(s0 == []))
 (((0 <= (10 : Int) /\ (10 : Int) <= (((List.length [48, 49, 50, 51, 52, 53, 54, 55, 56, 57, 65, 66, 67, 68, 69, 70]) : Nat) : Int))) /\
 ∀ s7, s7 = (List.take (Int.toNat (10 : Int)) [48, 49, 50, 51, 52, 53, 54, 55, 56, 57, 65, 66, 67, 68, 69, 70]) ->
 Calls prog qlc #[.string (mkS s0), .string (mkS s7)] w fun e8 w8 => ∃ s8, e8 = .returned (.string (mkS s8)) /\
 K (.bool (s8 == [])) w8)
 (K (.bool false) w)
theorem qse (s0 : List UInt8) {w : World} {K : Value -> World -> Prop} (h : qoe s0 w K) : Calls prog qhV #[.string (mkS s0)] w (Ret K) :=
 qm (c := qq Tryz.f113) (by kernel_rfl) Tryz.func113 (by kernel_rfl) [] [.string (mkS s0)] (of_decide_eq_true (by kernel_rfl)) _ (by kernel_rfl) h

--  cracknel/date.Cookie
def qoX (s0 : List UInt8) (w : World) (K : Value -> World -> Prop) : Prop :=
 ∀ k4 w4, k4 = w.heap.size -> w4 = w.alloc (.cells #[.bool false, .bool false, .bool false, .bool false, .int .i64 (0 : Int), .int .i64 (0 : Int), .int .i64 (0 : Int), .int .i64 (0 : Int), .int .i64 (0 : Int), .int .i64 (0 : Int)] qc5) ->
 ∃ I : Nat -> FP [.one (.int .i64), .one (.int .i64)],
 (∃ m, I m (0 : Int) (0 : Int) w4) /\
 ∀ m n5 n6, AllJ 26 (∀ wl, I m n5 n6 wl ->
 BCase (decide (n6 <= ((List.length s0 : Nat) : Int)))
 (∃ J : FP [.one (.bool)],
 (BCase (n6 == ((List.length s0 : Nat) : Int))
 (J true wl)
 (((0 <= n6 /\ n6 < ((List.length s0 : Nat) : Int))) /\
 Calls prog qnj #[.int .u8 (qH s0 n6)] wl fun e23 w23 => ∃ b23, e23 = .returned (.bool b23) /\
 J b23 w23)) /\
 ∀ b24, AllJ 9 (∀ wj, J b24 wj ->
 BCase b24
 (BCase (decide (n6 > n5))
 ((((0 <= n6 /\ n6 <= (((List.length s0) : Nat) : Int)) /\ 0 <= n5 /\ n5 <= ((Int.toNat n6 : Nat) : Int))) /\
 ∀ s31, s31 = (List.drop (Int.toNat n5) (List.take (Int.toNat n6) s0)) ->
 Calls prog qiz #[.pointer (some ⟨k4, 0, none⟩), .string (mkS s31)] wj fun e32 w32 => e32 = .returned (.tuple #[]) /\
 ∃ m' : Nat, m' < m /\ I m' (i64.wrap (n6 + (1 : Int))) (i64.wrap (n6 + (1 : Int))) w32)
 (∃ m' : Nat, m' < m /\ I m' (i64.wrap (n6 + (1 : Int))) (i64.wrap (n6 + (1 : Int))) wj))
 (∃ m' : Nat, m' < m /\ I m' n5 (i64.wrap (n6 + (1 : Int))) wj)))
 (∃ J_1 : FP [],
 (∃ J_2 : FP [.one (.bool)],
 ((true = true) /\
 ∃ n37, Ld qt (some ⟨k4, 7, none⟩) wl (.int .i64 n37) /\
 BCase (decide (n37 >= (70 : Int)))
 ((true = true) /\
 ∃ n41, Ld qt (some ⟨k4, 7, none⟩) wl (.int .i64 n41) /\
 J_2 (decide (n41 <= (99 : Int))) wl)
 (J_2 false wl)) /\
 ∀ b35, AllJ 8 (∀ wj_1, J_2 b35 wj_1 ->
 BCase b35
 ((true = true) /\
 ∃ n45, Ld qt (some ⟨k4, 7, none⟩) wj_1 (.int .i64 n45) /\
 (true = true) /\
 ∃ wx, Sv qt (some ⟨k4, 7, none⟩) (.int .i64 (i64.wrap (n45 + (1900 : Int)))) wj_1 wx /\
 J_1 wx)
 ((true = true) /\
 ∃ n50, Ld qt (some ⟨k4, 7, none⟩) wj_1 (.int .i64 n50) /\
 BCase (decide (n50 < (70 : Int)))
 ((true = true) /\
 ∃ n53, Ld qt (some ⟨k4, 7, none⟩) wj_1 (.int .i64 n53) /\
 (true = true) /\
 ∃ wx_1, Sv qt (some ⟨k4, 7, none⟩) (.int .i64 (i64.wrap (n53 + (2000 : Int)))) wj_1 wx_1 /\
 J_1 wx_1)
 (J_1 wj_1)))) /\
 AllJ 21 (∀ wj_2, J_1 wj_2 ->
 (true = true) /\
 ∃ n58, Ld qt (some ⟨k4, 7, none⟩) wj_2 (.int .i64 n58) /\
 (true = true) /\
 ∃ n60, Ld qt (some ⟨k4, 8, none⟩) wj_2 (.int .i64 n60) /\
 (true = true) /\
 ∃ n62, Ld qt (some ⟨k4, 9, none⟩) wj_2 (.int .i64 n62) /\
 Calls prog qj5 #[.int .i64 n58, .int .i64 n60, .int .i64 n62] wj_2 fun e63 w63 => ∃ n63_0 b63_1, e63 = .returned (.tuple #[.int .i64 n63_0, .bool b63_1]) /\
 ∃ J_3 : FP [],
 (BCase (!b63_1)
 (K (.tuple #[.int .i64 (0 : Int), .bool false]) w63)
 ((true = true) /\
 ∃ b70, Ld qN (some ⟨k4, 0, none⟩) w63 (.bool b70) /\
 BCase (!b70)
 (K (.tuple #[.int .i64 (0 : Int), .bool false]) w63)
 ((true = true) /\
 ∃ b75, Ld qN (some ⟨k4, 3, none⟩) w63 (.bool b75) /\
 BCase (!b75)
 (K (.tuple #[.int .i64 (0 : Int), .bool false]) w63)
 ((true = true) /\
 ((0 <= (0 : Int) /\ (0 : Int) < ((3 : Nat) : Int)) /\ true = true) /\
 ∃ n81, Ld qt (ql (some ⟨k4, 4, none⟩) (0 : Int) 1) w63 (.int .i64 n81) /\
 BCase (decide (n81 > (23 : Int)))
 (K (.tuple #[.int .i64 (0 : Int), .bool false]) w63)
 ((true = true) /\
 ((0 <= (1 : Int) /\ (1 : Int) < ((3 : Nat) : Int)) /\ true = true) /\
 ∃ n87, Ld qt (ql (some ⟨k4, 4, none⟩) (1 : Int) 1) w63 (.int .i64 n87) /\
 BCase (decide (n87 > (59 : Int)))
 (K (.tuple #[.int .i64 (0 : Int), .bool false]) w63)
 ((true = true) /\
 ((0 <= (2 : Int) /\ (2 : Int) < ((3 : Nat) : Int)) /\ true = true) /\
 ∃ n93, Ld qt (ql (some ⟨k4, 4, none⟩) (2 : Int) 1) w63 (.int .i64 n93) /\
 BCase (decide (n93 > (59 : Int)))
 (K (.tuple #[.int .i64 (0 : Int), .bool false]) w63)
 (J_3 w63))))))) /\
 AllJ 32 (∀ wj_3, J_3 wj_3 ->
 (true = true) /\
 ((0 <= (0 : Int) /\ (0 : Int) < ((3 : Nat) : Int)) /\ true = true) /\
 ∃ n100, Ld qt (ql (some ⟨k4, 4, none⟩) (0 : Int) 1) wj_3 (.int .i64 n100) /\
 (true = true) /\
 ((0 <= (1 : Int) /\ (1 : Int) < ((3 : Nat) : Int)) /\ true = true) /\
 ∃ n105, Ld qt (ql (some ⟨k4, 4, none⟩) (1 : Int) 1) wj_3 (.int .i64 n105) /\
 (true = true) /\
 ((0 <= (2 : Int) /\ (2 : Int) < ((3 : Nat) : Int)) /\ true = true) /\
 ∃ n110, Ld qt (ql (some ⟨k4, 4, none⟩) (2 : Int) 1) wj_3 (.int .i64 n110) /\
 K (.tuple #[.int .i64 (i64.wrap ((i64.wrap ((i64.wrap ((i64.wrap (n63_0 * (86400 : Int))) + (i64.wrap (n100 * (3600 : Int))))) + (i64.wrap (n105 * (60 : Int))))) + n110)), .bool true]) wj_3))))
theorem qtm (s0 : List UInt8) {w : World} {K : Value -> World -> Prop} (h : qoX s0 w K) : Calls prog ql0 #[.string (mkS s0)] w (Ret K) :=
 qm (c := qq Tryz.f120) (by kernel_rfl) Tryz.func120 (by kernel_rfl) [(10, [(5, .one (.int .i64)), (6, .one (.int .i64))]), (19, [(24, .one (.bool))]), (31, []), (33, [(35, .one (.bool))]), (44, [])] [.string (mkS s0)] (of_decide_eq_true (by kernel_rfl)) _ (by kernel_rfl) h

--  cracknel/header.age
def qqL (s0 : List UInt8) (w : World) (K : Value -> World -> Prop) : Prop :=
 Calls prog qa6 #[.string (mkS s0), .string (mkS [45])] w fun e10 w10 => ∃ s10_0 b10_1, e10 = .returned (.tuple #[.string (mkS s10_0), .bool b10_1]) /\
 Calls prog qhV #[.string (mkS s10_0)] w10 fun e15 w15 => ∃ b15, e15 = .returned (.bool b15) /\
 BCase (!b15)
 (K (.tuple #[.int .i64 (0 : Int), .bool false]) w15)
 (BCase b10_1
 (K (.tuple #[.int .i64 (0 : Int), .bool true]) w15)
 (Calls prog qkS #[.string (mkS s10_0), .string (mkS [48])] w15 fun e21 w21 => ∃ s21, e21 = .returned (.string (mkS s21)) /\
 Calls prog qjc #[.string (mkS s21)] w21 fun e22 w22 => ∃ n22_0 b22_1, e22 = .returned (.tuple #[.int .i64 n22_0, .bool b22_1]) /\
 BCase (!b22_1)
 (Calls prog qlc #[.string (mkS s10_0), .string (mkS [48])] w22 fun e29 w29 => ∃ s29, e29 = .returned (.string (mkS s29)) /\
 BCase (!(s29 == []))
 (K (.tuple #[.int .i64 (34560000 : Int), .bool true]) w29)
 (BCase (decide (n22_0 > (34560000 : Int)))
 (K (.tuple #[.int .i64 (34560000 : Int), .bool true]) w29)
 (K (.tuple #[.int .i64 n22_0, .bool true]) w29)))
 (BCase (decide (n22_0 > (34560000 : Int)))
 (K (.tuple #[.int .i64 (34560000 : Int), .bool true]) w22)
 (K (.tuple #[.int .i64 n22_0, .bool true]) w22))))
theorem quB (s0 : List UInt8) {w : World} {K : Value -> World -> Prop} (h : qqL s0 w K) : Calls prog qnk #[.string (mkS s0)] w (Ret K) :=
 qm (c := qq Tryz.f121) (by kernel_rfl) Tryz.func121 (by kernel_rfl) [] [.string (mkS s0)] (of_decide_eq_true (by kernel_rfl)) _ (by kernel_rfl) h

--  cracknel/header.names
def qn9  (w : World) (K : Value -> World -> Prop) : Prop :=
 ∀ k0 w0, k0 = w.heap.size -> w0 = w.alloc (.cells #[.string (mkS []), .string (mkS []), .string (mkS []), .string (mkS [])] qb9) ->
 ∃ wx, Sv qb9 (some ⟨k0, 0, none⟩) (.agg #[.string (mkS []), .string (mkS [78, 111, 110, 101]), .string (mkS [76, 97, 120]), .string (mkS [83, 116, 114, 105, 99, 116])]) w0 wx /\
 ∃ sr0_0 sr0_1 sr0_2 sr0_3, (qs qb9 (.pointer (some ⟨k0, 0, none⟩))).run prog wx = .ok (.agg #[.string (mkS sr0_0), .string (mkS sr0_1), .string (mkS sr0_2), .string (mkS sr0_3)]) wx /\
 K (.agg #[.string (mkS sr0_0), .string (mkS sr0_1), .string (mkS sr0_2), .string (mkS sr0_3)]) wx
theorem qr9  {w : World} {K : Value -> World -> Prop} (h : qn9  w K) : Calls prog qhT #[] w (Ret K) :=
 qm (c := qq Tryz.f123) (by kernel_rfl) Tryz.func123 (by kernel_rfl) [] [] (of_decide_eq_true (by kernel_rfl)) _ (by kernel_rfl) h

--  cracknel/octet.Same
def qqR (s0 : List UInt8) (s1 : List UInt8) (w : World) (K : Value -> World -> Prop) : Prop :=
 Calls prog qd8 #[.string (mkS s0)] w fun e6 w6 => ∃ s6, e6 = .returned (.string (mkS s6)) /\
 Calls prog qd8 #[.string (mkS s1)] w6 fun e8 w8 => ∃ s8, e8 = .returned (.string (mkS s8)) /\
 K (.bool (s6 == s8)) w8
theorem quH (s0 : List UInt8) (s1 : List UInt8) {w : World} {K : Value -> World -> Prop} (h : qqR s0 s1 w K) : Calls prog qkQ #[.string (mkS s0), .string (mkS s1)] w (Ret K) :=
 qm (c := qq Tryz.f124) (by kernel_rfl) Tryz.func124 (by kernel_rfl) [] [.string (mkS s0), .string (mkS s1)] (of_decide_eq_true (by kernel_rfl)) _ (by kernel_rfl) h

--  cracknel/header.Right
def qn8 (s0_0 : List UInt8) (s0_1 : List UInt8) (s0_2 : List UInt8) (s0_3 : List UInt8) (b0_4 : Bool) (n0_5 : Int) (b0_6 : Bool) (n0_7 : Int) (b0_8 : Bool) (b0_9 : Bool) (n0_10 : Int) (w : World) (K : Value -> World -> Prop) : Prop :=
 ∀ k1 w1, k1 = w.heap.size -> w1 = w.alloc (.cells #[.string (mkS s0_0), .string (mkS s0_1), .string (mkS s0_2), .string (mkS s0_3), .bool b0_4, .int .i64 n0_5, .bool b0_6, .int .i64 n0_7, .bool b0_8, .bool b0_9, .int .i64 n0_10] qi) ->
 ∃ s6_0 s6_1 s6_2 s6_3 b6_4 n6_5 b6_6 n6_7 b6_8 b6_9 n6_10, Ld qi (some ⟨k1, 0, none⟩) w1 (hV s6_0 s6_1 s6_2 s6_3 b6_4 n6_5 b6_6 n6_7 b6_8 b6_9 n6_10) /\
 Calls prog qjy #[(hV s6_0 s6_1 s6_2 s6_3 b6_4 n6_5 b6_6 n6_7 b6_8 b6_9 n6_10)] w1 fun e7 w7 => ∃ s7, e7 = .returned (.string (mkS s7)) /\
 Calls prog qjb #[.string (mkS s7)] w7 fun e8 w8 => ∃ s8_0_0 s8_0_1 s8_0_2 s8_0_3 b8_0_4 n8_0_5 b8_0_6 n8_0_7 b8_0_8 b8_0_9 n8_0_10 n8_1, e8 = .returned (.tuple #[(hV s8_0_0 s8_0_1 s8_0_2 s8_0_3 b8_0_4 n8_0_5 b8_0_6 n8_0_7 b8_0_8 b8_0_9 n8_0_10), .int .i64 n8_1]) /\
 ∀ k3 w3, k3 = w8.heap.size -> w3 = w8.alloc (.cells #[.string (mkS []), .string (mkS []), .string (mkS []), .string (mkS []), .bool false, .int .i64 (0 : Int), .bool false, .int .i64 (0 : Int), .bool false, .bool false, .int .i64 (0 : Int)] qi) ->
 ∃ wx, Sv qi (some ⟨k3, 0, none⟩) (hV s8_0_0 s8_0_1 s8_0_2 s8_0_3 b8_0_4 n8_0_5 b8_0_6 n8_0_7 b8_0_8 b8_0_9 n8_0_10) w3 wx /\
 BCase (n8_1 == (0 : Int))
 (∃ s14_0 s14_1 s14_2 s14_3 b14_4 n14_5 b14_6 n14_7 b14_8 b14_9 n14_10, Ld qi (some ⟨k3, 0, none⟩) wx (hV s14_0 s14_1 s14_2 s14_3 b14_4 n14_5 b14_6 n14_7 b14_8 b14_9 n14_10) /\
 ∃ s15_0 s15_1 s15_2 s15_3 b15_4 n15_5 b15_6 n15_7 b15_8 b15_9 n15_10, Ld qi (some ⟨k1, 0, none⟩) wx (hV s15_0 s15_1 s15_2 s15_3 b15_4 n15_5 b15_6 n15_7 b15_8 b15_9 n15_10) /\
 ∃ b16, ((do eqGuard .eql qi (.tmp 14) (.tmp 15) (hV s14_0 s14_1 s14_2 s14_3 b14_4 n14_5 b14_6 n14_7 b14_8 b14_9 n14_10) (hV s15_0 s15_1 s15_2 s15_3 b15_4 n15_5 b15_6 n15_7 b15_8 b15_9 n15_10); binOp .eql qi (hV s14_0 s14_1 s14_2 s14_3 b14_4 n14_5 b14_6 n14_7 b14_8 b14_9 n14_10) (hV s15_0 s15_1 s15_2 s15_3 b15_4 n15_5 b15_6 n15_7 b15_8 b15_9 n15_10) : Sem Value)).run prog wx = .ok (.bool b16) wx /\
 K (.bool b16) wx)
 (K (.bool false) wx)
theorem qr8 (s0_0 : List UInt8) (s0_1 : List UInt8) (s0_2 : List UInt8) (s0_3 : List UInt8) (b0_4 : Bool) (n0_5 : Int) (b0_6 : Bool) (n0_7 : Int) (b0_8 : Bool) (b0_9 : Bool) (n0_10 : Int) {w : World} {K : Value -> World -> Prop} (h : qn8 s0_0 s0_1 s0_2 s0_3 b0_4 n0_5 b0_6 n0_7 b0_8 b0_9 n0_10 w K) : Calls prog qk9 #[.agg #[.string (mkS s0_0), .string (mkS s0_1), .string (mkS s0_2), .string (mkS s0_3), .bool b0_4, .int .i64 n0_5, .bool b0_6, .int .i64 n0_7, .bool b0_8, .bool b0_9, .int .i64 n0_10]] w (Ret K) :=
 qm (c := qq Tryz.f125) (by kernel_rfl) Tryz.func125 (by kernel_rfl) [] [.agg #[.string (mkS s0_0), .string (mkS s0_1), .string (mkS s0_2), .string (mkS s0_3), .bool b0_4, .int .i64 n0_5, .bool b0_6, .int .i64 n0_7, .bool b0_8, .bool b0_9, .int .i64 n0_10]] (of_decide_eq_true (by kernel_rfl)) _ (by kernel_rfl) h

--  cracknel/cracknelref01.Split
def qpb (s0 : List UInt8) (n1 : Int) (w : World) (K : Value -> World -> Prop) : Prop :=
 ∀ k8 w8, k8 = w.heap.size -> w8 = w.alloc (.cells #[] qh) ->
 ∃ I : Nat -> FP [.one (.slice), .one (.int .i64), .one (.int .i64)],
 (∃ m, I m (some ⟨k8, 0, none⟩) 0 0 (0 : Int) (0 : Int) w8) /\
 ∀ m a5 l5 c5 n6 n7, AllJ 20 (∀ wl, I m a5 l5 c5 n6 n7 wl ->
 BCase (decide (n7 < ((List.length s0 : Nat) : Int)))
 (((0 <= n7 /\ n7 < ((List.length s0 : Nat) : Int))) /\
 BCase ((qH s0 n7) == n1)
 ((((0 <= n7 /\ n7 <= (((List.length s0) : Nat) : Int)) /\ 0 <= n6 /\ n6 <= ((Int.toNat n7 : Nat) : Int))) /\
 ∀ s24, s24 = (List.drop (Int.toNat n6) (List.take (Int.toNat n7) s0)) ->
 ∀ k25 w25, k25 = wl.heap.size -> w25 = wl.alloc (.cells #[.string (mkS s24)] qh) ->
 ∃ w26 a26 l26 c26, (Builtin.append_ #[qV, qV] qV #[.slice a5 l5 c5, .slice (some ⟨k25, 0, none⟩) 1 1]).run prog w25 = .ok (.slice a26 l26 c26) w26 /\
 ∃ m' : Nat, m' < m /\ I m' a26 l26 c26 (i64.wrap (n7 + (1 : Int))) (i64.wrap (n7 + (1 : Int))) w26)
 (∃ m' : Nat, m' < m /\ I m' a5 l5 c5 n6 (i64.wrap (n7 + (1 : Int))) wl))
 (((0 <= n6 /\ n6 <= (((List.length s0) : Nat) : Int))) /\
 ∀ s32, s32 = (List.drop (Int.toNat n6) s0) ->
 ∀ k33 w33, k33 = wl.heap.size -> w33 = wl.alloc (.cells #[.string (mkS s32)] qh) ->
 ∃ w34 a34 l34 c34, (Builtin.append_ #[qV, qV] qV #[.slice a5 l5 c5, .slice (some ⟨k33, 0, none⟩) 1 1]).run prog w33 = .ok (.slice a34 l34 c34) w34 /\
 K (.slice a34 l34 c34) w34))
theorem qtB (s0 : List UInt8) (n1 : Int) {w : World} {K : Value -> World -> Prop} (h : qpb s0 n1 w K) : Calls prog jM #[.string (mkS s0), .int .u8 n1] w (Ret K) :=
 qm (c := qq Tryz.f139) (by kernel_rfl) Tryz.func139 (by kernel_rfl) [(10, [(5, .one (.slice)), (6, .one (.int .i64)), (7, .one (.int .i64))])] [.string (mkS s0), .int .u8 n1] (of_decide_eq_true (by kernel_rfl)) _ (by kernel_rfl) h

--  cracknel/cracknelref01.Digits
def qog (s0 : List UInt8) (w : World) (K : Value -> World -> Prop) : Prop :=
 ∃ I : Nat -> FP [.one (.int .i64)],
 (∃ m, I m (0 : Int) w) /\
 ∀ m n3, AllJ 17 (∀ wl, I m n3 wl ->
 BCase (decide (n3 < ((List.length s0 : Nat) : Int)))
 (((0 <= n3 /\ n3 < ((List.length s0 : Nat) : Int))) /\
 BCase (decide ((qH s0 n3) < (48 : Int)))
 (K (.bool false) wl)
 (((0 <= n3 /\ n3 < ((List.length s0 : Nat) : Int))) /\
 BCase (decide ((qH s0 n3) > (57 : Int)))
 (K (.bool false) wl)
 (∃ m' : Nat, m' < m /\ I m' (i64.wrap (n3 + (1 : Int))) wl)))
 (K (.bool (decide (((List.length s0 : Nat) : Int) > (0 : Int)))) wl))
theorem qsg (s0 : List UInt8) {w : World} {K : Value -> World -> Prop} (h : qog s0 w K) : Calls prog qbs #[.string (mkS s0)] w (Ret K) :=
 qm (c := qq Tryz.f140) (by kernel_rfl) Tryz.func140 (by kernel_rfl) [(6, [(3, .one (.int .i64))])] [.string (mkS s0)] (of_decide_eq_true (by kernel_rfl)) _ (by kernel_rfl) h

--  cracknel/cracknelref08.Parse
def qof (s0 : List UInt8) (w : World) (K : Value -> World -> Prop) : Prop :=
 ∃ J : FP [],
 (Calls prog qhV #[.string (mkS s0)] w fun e8 w8 => ∃ b8, e8 = .returned (.bool b8) /\
 BCase (!b8)
 (K (.tuple #[.int .i64 (0 : Int), .bool false]) w8)
 (BCase (decide (((List.length s0 : Nat) : Int) > (18 : Int)))
 (K (.tuple #[.int .i64 (0 : Int), .bool false]) w8)
 (((0 <= (0 : Int) /\ (0 : Int) < ((List.length s0 : Nat) : Int))) /\
 BCase ((qH s0 (0 : Int)) == (48 : Int))
 (BCase (decide (((List.length s0 : Nat) : Int) > (1 : Int)))
 (K (.tuple #[.int .i64 (0 : Int), .bool false]) w8)
 (J w8))
 (J w8)))) /\
 AllJ 20 (∀ wj, J wj ->
 ∃ w26 a26 l26 c26, (convert qh za (.string (mkS s0))).run prog wj = .ok (.slice a26 l26 c26) w26 /\
 ∃ I : Nat -> FP [.one (.int .i64), .one (.int .i64)],
 (∃ m, I m (0 : Int) (0 : Int) w26) /\
 ∀ m n4 n28, AllJ 11 (∀ wl, I m n4 n28 wl ->
 BCase (decide (n28 < ((l26 : Nat) : Int)))
 (((0 <= n28 /\ n28 < ((l26 : Nat) : Int)) /\ Option.isSome a26 = true) /\
 ∃ n31, Ld qU (ql a26 n28 1) wl (.int .u8 n31) /\
 ∃ m' : Nat, m' < m /\ I m' (i64.wrap ((i64.wrap ((10 : Int) * n4)) + (i64.wrap (IntKind.u8.wrap (n31 - (48 : Int)))))) (i64.wrap (n28 + (1 : Int))) wl)
 (K (.tuple #[.int .i64 n4, .bool true]) wl)))
theorem qsf (s0 : List UInt8) {w : World} {K : Value -> World -> Prop} (h : qof s0 w K) : Calls prog qjc #[.string (mkS s0)] w (Ret K) :=
 qm (c := qq Tryz.f184) (by kernel_rfl) Tryz.func184 (by kernel_rfl) [(2, []), (16, [(4, .one (.int .i64)), (28, .one (.int .i64))])] [.string (mkS s0)] (of_decide_eq_true (by kernel_rfl)) _ (by kernel_rfl) h

--  cracknel/date.parts
def qqK (n0 : Int) (w : World) (K : Value -> World -> Prop) : Prop :=
 BCase (n0 == (9 : Int))
 (K (.bool true) w)
 (BCase (decide (n0 >= (32 : Int)))
 (BCase (decide (n0 <= (47 : Int)))
 (K (.bool true) w)
 (BCase (decide (n0 >= (59 : Int)))
 (BCase (decide (n0 <= (64 : Int)))
 (K (.bool true) w)
 (BCase (decide (n0 >= (91 : Int)))
 (BCase (decide (n0 <= (96 : Int)))
 (K (.bool true) w)
 (BCase (decide (n0 >= (123 : Int)))
 (K (.bool (decide (n0 <= (126 : Int)))) w)
 (K (.bool false) w)))
 (BCase (decide (n0 >= (123 : Int)))
 (K (.bool (decide (n0 <= (126 : Int)))) w)
 (K (.bool false) w))))
 (BCase (decide (n0 >= (91 : Int)))
 (BCase (decide (n0 <= (96 : Int)))
 (K (.bool true) w)
 (BCase (decide (n0 >= (123 : Int)))
 (K (.bool (decide (n0 <= (126 : Int)))) w)
 (K (.bool false) w)))
 (BCase (decide (n0 >= (123 : Int)))
 (K (.bool (decide (n0 <= (126 : Int)))) w)
 (K (.bool false) w)))))
 (BCase (decide (n0 >= (59 : Int)))
 (BCase (decide (n0 <= (64 : Int)))
 (K (.bool true) w)
 (BCase (decide (n0 >= (91 : Int)))
 (BCase (decide (n0 <= (96 : Int)))
 (K (.bool true) w)
 (BCase (decide (n0 >= (123 : Int)))
 (K (.bool (decide (n0 <= (126 : Int)))) w)
 (K (.bool false) w)))
 (BCase (decide (n0 >= (123 : Int)))
 (K (.bool (decide (n0 <= (126 : Int)))) w)
 (K (.bool false) w))))
 (BCase (decide (n0 >= (91 : Int)))
 (BCase (decide (n0 <= (96 : Int)))
 (K (.bool true) w)
 (BCase (decide (n0 >= (123 : Int)))
 (K (.bool (decide (n0 <= (126 : Int)))) w)
 (K (.bool false) w)))
 (BCase (decide (n0 >= (123 : Int)))
 (K (.bool (decide (n0 <= (126 : Int)))) w)
 (K (.bool false) w)))))
theorem quA (n0 : Int) {w : World} {K : Value -> World -> Prop} (h : qqK n0 w K) : Calls prog qnj #[.int .u8 n0] w (Ret K) :=
 qm (c := qq Tryz.f191) (by kernel_rfl) Tryz.func191 (by kernel_rfl) [] [.int .u8 n0] (of_decide_eq_true (by kernel_rfl)) _ (by kernel_rfl) h

--  (*cracknel/date.found).token
def qkC (p0 : Option Addr) (s1 : List UInt8) (w : World) (K : Value -> World -> Prop) : Prop :=
 ∃ J : FP [],
 (Calls prog qnh #[.string (mkS s1)] w fun e15 w15 => ∃ n15_0_0 n15_0_1 n15_0_2 b15_1, e15 = .returned (.tuple #[.agg #[.int .i64 n15_0_0, .int .i64 n15_0_1, .int .i64 n15_0_2], .bool b15_1]) /\
 ∀ k4 w4, k4 = w15.heap.size -> w4 = w15.alloc (.cells #[.int .i64 (0 : Int), .int .i64 (0 : Int), .int .i64 (0 : Int)] zV) ->
 ∃ wx, Sv zV (some ⟨k4, 0, none⟩) (.agg #[.int .i64 n15_0_0, .int .i64 n15_0_1, .int .i64 n15_0_2]) w4 wx /\
 ∃ J_1 : FP [.one (.bool)],
 (BCase b15_1
 ((Option.isSome p0 = true) /\
 (Option.isSome p0 = true) /\
 ∃ b23, Ld qN (Option.map (fun x => x.add 0) p0) wx (.bool b23) /\
 J_1 (!b23) wx)
 (J_1 false wx)) /\
 ∀ b25, AllJ 7 (∀ wj, J_1 b25 wj ->
 BCase b25
 (∃ n28_0 n28_1 n28_2, Ld zV (some ⟨k4, 0, none⟩) wj (.agg #[.int .i64 n28_0, .int .i64 n28_1, .int .i64 n28_2]) /\
 (Option.isSome p0 = true) /\
 (Option.isSome p0 = true) /\
 ∃ wx_1, Sv zV (Option.map (fun x => x.add 4) p0) (.agg #[.int .i64 n28_0, .int .i64 n28_1, .int .i64 n28_2]) wj wx_1 /\
 (Option.isSome p0 = true) /\
 (Option.isSome p0 = true) /\
 ∃ wx_2, Sv qN (Option.map (fun x => x.add 0) p0) (.bool true) wx_1 wx_2 /\
 K (.tuple #[]) wx_2)
 (J wj))) /\
 AllJ 22 (∀ wj_1, J wj_1 ->
 ∃ J_2 : FP [],
 (Calls prog qiA #[.string (mkS s1), .int .i64 (1 : Int), .int .i64 (2 : Int)] wj_1 fun e35 w35 => ∃ n35_0 s35_1 b35_2, e35 = .returned (.tuple #[.int .i64 n35_0, .string (mkS s35_1), .bool b35_2]) /\
 ∃ J_3 : FP [.one (.bool)],
 (BCase b35_2
 ((Option.isSome p0 = true) /\
 (Option.isSome p0 = true) /\
 ∃ b44, Ld qN (Option.map (fun x => x.add 1) p0) w35 (.bool b44) /\
 J_3 (!b44) w35)
 (J_3 false w35)) /\
 ∀ b46, AllJ 7 (∀ wj_2, J_3 b46 wj_2 ->
 BCase b46
 ((Option.isSome p0 = true) /\
 (Option.isSome p0 = true) /\
 ∃ wx_3, Sv qt (Option.map (fun x => x.add 9) p0) (.int .i64 n35_0) wj_2 wx_3 /\
 (Option.isSome p0 = true) /\
 (Option.isSome p0 = true) /\
 ∃ wx_4, Sv qN (Option.map (fun x => x.add 1) p0) (.bool true) wx_3 wx_4 /\
 K (.tuple #[]) wx_4)
 (J_2 wj_2))) /\
 AllJ 24 (∀ wj_3, J_2 wj_3 ->
 ∃ J_4 : FP [],
 (Calls prog qni #[.string (mkS s1)] wj_3 fun e55 w55 => ∃ n55, e55 = .returned (.int .i64 n55) /\
 ∃ J_5 : FP [.one (.bool)],
 (BCase (decide (n55 > (0 : Int)))
 ((Option.isSome p0 = true) /\
 (Option.isSome p0 = true) /\
 ∃ b62, Ld qN (Option.map (fun x => x.add 2) p0) w55 (.bool b62) /\
 J_5 (!b62) w55)
 (J_5 false w55)) /\
 ∀ b64, AllJ 8 (∀ wj_4, J_5 b64 wj_4 ->
 BCase b64
 ((Option.isSome p0 = true) /\
 (Option.isSome p0 = true) /\
 ∃ wx_5, Sv qt (Option.map (fun x => x.add 8) p0) (.int .i64 n55) wj_4 wx_5 /\
 (Option.isSome p0 = true) /\
 (Option.isSome p0 = true) /\
 ∃ wx_6, Sv qN (Option.map (fun x => x.add 2) p0) (.bool true) wx_5 wx_6 /\
 K (.tuple #[]) wx_6)
 (J_4 wj_4))) /\
 AllJ 19 (∀ wj_5, J_4 wj_5 ->
 Calls prog qiA #[.string (mkS s1), .int .i64 (2 : Int), .int .i64 (4 : Int)] wj_5 fun e74 w74 => ∃ n74_0 s74_1 b74_2, e74 = .returned (.tuple #[.int .i64 n74_0, .string (mkS s74_1), .bool b74_2]) /\
 ∃ J_6 : FP [.one (.bool)],
 (BCase b74_2
 ((Option.isSome p0 = true) /\
 (Option.isSome p0 = true) /\
 ∃ b83, Ld qN (Option.map (fun x => x.add 3) p0) w74 (.bool b83) /\
 J_6 (!b83) w74)
 (J_6 false w74)) /\
 ∀ b85, AllJ 7 (∀ wj_6, J_6 b85 wj_6 ->
 BCase b85
 ((Option.isSome p0 = true) /\
 (Option.isSome p0 = true) /\
 ∃ wx_7, Sv qt (Option.map (fun x => x.add 7) p0) (.int .i64 n74_0) wj_6 wx_7 /\
 (Option.isSome p0 = true) /\
 (Option.isSome p0 = true) /\
 ∃ wx_8, Sv qN (Option.map (fun x => x.add 3) p0) (.bool true) wx_7 wx_8 /\
 K (.tuple #[]) wx_8)
 (K (.tuple #[]) wj_6)))))
theorem qoF (p0 : Option Addr) (s1 : List UInt8) {w : World} {K : Value -> World -> Prop} (h : qkC p0 s1 w K) : Calls prog qiz #[.pointer p0, .string (mkS s1)] w (Ret K) :=
 qm (c := qq Tryz.f192) (by kernel_rfl) Tryz.func192 (by kernel_rfl) [(0, []), (3, [(25, .one (.bool))]), (10, []), (13, [(46, .one (.bool))]), (20, []), (23, [(64, .one (.bool))]), (32, [(85, .one (.bool))])] [.pointer p0, .string (mkS s1)] (of_decide_eq_true (by kernel_rfl)) _ (by kernel_rfl) h

--  cracknel/date.Days
def qrK (n0 : Int) (n1 : Int) (n2 : Int) (w : World) (K : Value -> World -> Prop) : Prop :=
 ∃ J : FP [],
 (BCase (decide (n0 < (1601 : Int)))
 (K (.tuple #[.int .i64 (0 : Int), .bool false]) w)
 (BCase (decide (n0 > (9999 : Int)))
 (K (.tuple #[.int .i64 (0 : Int), .bool false]) w)
 (BCase (decide (n1 < (1 : Int)))
 (K (.tuple #[.int .i64 (0 : Int), .bool false]) w)
 (BCase (decide (n1 > (12 : Int)))
 (K (.tuple #[.int .i64 (0 : Int), .bool false]) w)
 (BCase (decide (n2 < (1 : Int)))
 (K (.tuple #[.int .i64 (0 : Int), .bool false]) w)
 (Calls prog ql1 #[.int .i64 n0, .int .i64 n1] w fun e34 w34 => ∃ n34, e34 = .returned (.int .i64 n34) /\
 BCase (decide (n2 > n34))
 (K (.tuple #[.int .i64 (0 : Int), .bool false]) w34)
 (J w34))))))) /\
 AllJ 27 (∀ wj, J wj ->
 ∃ J_1 : FP [.one (.int .i64), .one (.int .i64)],
 (BCase (decide ((i64.wrap (n1 - (3 : Int))) < (0 : Int)))
 (J_1 (i64.wrap (n0 - (1 : Int))) (i64.wrap ((i64.wrap (n1 - (3 : Int))) + (12 : Int))) wj)
 (J_1 n0 (i64.wrap (n1 - (3 : Int))) wj)) /\
 ∀ n8 n9, AllJ 6 (∀ wj_1, J_1 n8 n9 wj_1 ->
 ((400 : Int) ≠ 0) /\
 ∀ q47, q47 = (Int.tmod n8 (400 : Int)) ->
 ((400 : Int) ≠ 0) /\
 ∀ q49, q49 = (i64.wrap (Int.tdiv n8 (400 : Int))) ->
 ((4 : Int) ≠ 0) /\
 ∀ q55, q55 = (i64.wrap (Int.tdiv q47 (4 : Int))) ->
 ((100 : Int) ≠ 0) /\
 ∀ q58, q58 = (i64.wrap (Int.tdiv q47 (100 : Int))) ->
 ((5 : Int) ≠ 0) /\
 ∀ q63, q63 = (i64.wrap (Int.tdiv (i64.wrap ((i64.wrap ((153 : Int) * n9)) + (2 : Int))) (5 : Int))) ->
 K (.tuple #[.int .i64 (i64.wrap ((i64.wrap ((i64.wrap ((i64.wrap ((i64.wrap ((i64.wrap ((i64.wrap ((i64.wrap (q49 * (146097 : Int))) + (i64.wrap (q47 * (365 : Int))))) + q55)) - q58)) + q63)) + n2)) - (1 : Int))) - (719468 : Int))), .bool true]) wj_1))
theorem qv6 (n0 : Int) (n1 : Int) (n2 : Int) {w : World} {K : Value -> World -> Prop} (h : qrK n0 n1 n2 w K) : Calls prog qj5 #[.int .i64 n0, .int .i64 n1, .int .i64 n2] w (Ret K) :=
 qm (c := qq Tryz.f193) (by kernel_rfl) Tryz.func193 (by kernel_rfl) [(2, []), (12, [(8, .one (.int .i64)), (9, .one (.int .i64))])] [.int .i64 n0, .int .i64 n1, .int .i64 n2] (of_decide_eq_true (by kernel_rfl)) _ (by kernel_rfl) h

--  cracknel/header.written
def qlJ (s0_0 : List UInt8) (s0_1 : List UInt8) (s0_2 : List UInt8) (s0_3 : List UInt8) (b0_4 : Bool) (n0_5 : Int) (b0_6 : Bool) (n0_7 : Int) (b0_8 : Bool) (b0_9 : Bool) (n0_10 : Int) (w : World) (K : Value -> World -> Prop) : Prop :=
 ∀ k1 w1, k1 = w.heap.size -> w1 = w.alloc (.cells #[.string (mkS s0_0), .string (mkS s0_1), .string (mkS s0_2), .string (mkS s0_3), .bool b0_4, .int .i64 n0_5, .bool b0_6, .int .i64 n0_7, .bool b0_8, .bool b0_9, .int .i64 n0_10] qi) ->
 (true = true) /\
 ∃ s6, Ld qh (some ⟨k1, 0, none⟩) w1 (.string (mkS s6)) /\
 ((((List.length s6 + List.length [61] : Nat) : Int) <= i64.max)) /\
 ∀ s7, s7 = (s6 ++ [61]) ->
 (true = true) /\
 ∃ s9, Ld qh (some ⟨k1, 1, none⟩) w1 (.string (mkS s9)) /\
 ((((List.length s7 + List.length s9 : Nat) : Int) <= i64.max)) /\
 ∀ s10, s10 = (s7 ++ s9) ->
 ∀ k11 w11, k11 = w1.heap.size -> w11 = w1.alloc (.cells #[.string (mkS s10)] qh) ->
 ∀ k3 w3, k3 = w11.heap.size -> w3 = w11.alloc (.cells #[.slice none 0 0] qV) ->
 ∃ wx, Sv qV (some ⟨k3, 0, none⟩) (.slice (some ⟨k11, 0, none⟩) 1 1) w3 wx /\
 ∃ J : FP [],
 ((true = true) /\
 (true = true) /\
 (∃ b15, Ld qN (some ⟨k1, 4, none⟩) (World.drew wx) (.bool b15) /\
 ∃ n17, Ld qA (some ⟨k1, 5, none⟩) (World.drew wx) (.int .i64 n17) /\
 Calls prog qj6 #[.int .i64 n17] (World.drew wx) fun e18 w18 => ∃ s18, e18 = .returned (.string (mkS s18)) /\
 ((((List.length [69, 120, 112, 105, 114, 101, 115, 61] + List.length s18 : Nat) : Int) <= i64.max)) /\
 ∀ s19, s19 = ([69, 120, 112, 105, 114, 101, 115, 61] ++ s18) ->
 Calls prog zp #[.bool b15, .string (mkS s19), .pointer (some ⟨k3, 0, none⟩)] w18 fun e20 w20 => e20 = .returned (.tuple #[]) /\
 J w20) /\
 ∃ n17_1, Ld qA (some ⟨k1, 5, none⟩) (World.drew wx) (.int .i64 n17_1) /\
 (∃ b15_1, Ld qN (some ⟨k1, 4, none⟩) (World.drew wx) (.bool b15_1) /\
 Calls prog qj6 #[.int .i64 n17_1] (World.drew wx) fun e18_1 w18_1 => ∃ s18_1, e18_1 = .returned (.string (mkS s18_1)) /\
 ((((List.length [69, 120, 112, 105, 114, 101, 115, 61] + List.length s18_1 : Nat) : Int) <= i64.max)) /\
 ∀ s19_1, s19_1 = ([69, 120, 112, 105, 114, 101, 115, 61] ++ s18_1) ->
 Calls prog zp #[.bool b15_1, .string (mkS s19_1), .pointer (some ⟨k3, 0, none⟩)] w18_1 fun e20_1 w20_1 => e20_1 = .returned (.tuple #[]) /\
 J w20_1) /\
 Calls prog qj6 #[.int .i64 n17_1] (World.drew wx) fun e18_2 w18_2 => ∃ s18_2, e18_2 = .returned (.string (mkS s18_2)) /\
 ((((List.length [69, 120, 112, 105, 114, 101, 115, 61] + List.length s18_2 : Nat) : Int) <= i64.max)) /\
 ∀ s19_2, s19_2 = ([69, 120, 112, 105, 114, 101, 115, 61] ++ s18_2) ->
 ∃ b15_2, Ld qN (some ⟨k1, 4, none⟩) w18_2 (.bool b15_2) /\
 Calls prog zp #[.bool b15_2, .string (mkS s19_2), .pointer (some ⟨k3, 0, none⟩)] w18_2 fun e20_2 w20_2 => e20_2 = .returned (.tuple #[]) /\
 J w20_2) /\
 AllJ 8 (∀ wj, J wj ->
 ∃ J_1 : FP [],
 ((true = true) /\
 (true = true) /\
 (∃ b23, Ld qN (some ⟨k1, 6, none⟩) (World.drew wj) (.bool b23) /\
 ∃ n25, Ld qA (some ⟨k1, 7, none⟩) (World.drew wj) (.int .i64 n25) /\
 Calls prog qem #[.int .i64 n25, .int .i64 (10 : Int)] (World.drew wj) fun e26 w26 => ∃ s26, e26 = .returned (.string (mkS s26)) /\
 ((((List.length [77, 97, 120, 45, 65, 103, 101, 61] + List.length s26 : Nat) : Int) <= i64.max)) /\
 ∀ s27, s27 = ([77, 97, 120, 45, 65, 103, 101, 61] ++ s26) ->
 Calls prog zp #[.bool b23, .string (mkS s27), .pointer (some ⟨k3, 0, none⟩)] w26 fun e28 w28 => e28 = .returned (.tuple #[]) /\
 J_1 w28) /\
 ∃ n25_1, Ld qA (some ⟨k1, 7, none⟩) (World.drew wj) (.int .i64 n25_1) /\
 (∃ b23_1, Ld qN (some ⟨k1, 6, none⟩) (World.drew wj) (.bool b23_1) /\
 Calls prog qem #[.int .i64 n25_1, .int .i64 (10 : Int)] (World.drew wj) fun e26_1 w26_1 => ∃ s26_1, e26_1 = .returned (.string (mkS s26_1)) /\
 ((((List.length [77, 97, 120, 45, 65, 103, 101, 61] + List.length s26_1 : Nat) : Int) <= i64.max)) /\
 ∀ s27_1, s27_1 = ([77, 97, 120, 45, 65, 103, 101, 61] ++ s26_1) ->
 Calls prog zp #[.bool b23_1, .string (mkS s27_1), .pointer (some ⟨k3, 0, none⟩)] w26_1 fun e28_1 w28_1 => e28_1 = .returned (.tuple #[]) /\
 J_1 w28_1) /\
 Calls prog qem #[.int .i64 n25_1, .int .i64 (10 : Int)] (World.drew wj) fun e26_2 w26_2 => ∃ s26_2, e26_2 = .returned (.string (mkS s26_2)) /\
 ((((List.length [77, 97, 120, 45, 65, 103, 101, 61] + List.length s26_2 : Nat) : Int) <= i64.max)) /\
 ∀ s27_2, s27_2 = ([77, 97, 120, 45, 65, 103, 101, 61] ++ s26_2) ->
 ∃ b23_2, Ld qN (some ⟨k1, 6, none⟩) w26_2 (.bool b23_2) /\
 Calls prog zp #[.bool b23_2, .string (mkS s27_2), .pointer (some ⟨k3, 0, none⟩)] w26_2 fun e28_2 w28_2 => e28_2 = .returned (.tuple #[]) /\
 J_1 w28_2) /\
 AllJ 8 (∀ wj_1, J_1 wj_1 ->
 ∃ J_2 : FP [],
 ((true = true) /\
 (true = true) /\
 (∃ s31, Ld qh (some ⟨k1, 2, none⟩) (World.drew wj_1) (.string (mkS s31)) /\
 ∃ s34, Ld qh (some ⟨k1, 2, none⟩) (World.drew wj_1) (.string (mkS s34)) /\
 Calls prog qhc #[.string (mkS s34)] (World.drew wj_1) fun e35 w35 => ∃ s35, e35 = .returned (.string (mkS s35)) /\
 ((((List.length [68, 111, 109, 97, 105, 110, 61] + List.length s35 : Nat) : Int) <= i64.max)) /\
 ∀ s36, s36 = ([68, 111, 109, 97, 105, 110, 61] ++ s35) ->
 Calls prog zp #[.bool (!(s31 == [])), .string (mkS s36), .pointer (some ⟨k3, 0, none⟩)] w35 fun e37 w37 => e37 = .returned (.tuple #[]) /\
 J_2 w37) /\
 ∃ s34_1, Ld qh (some ⟨k1, 2, none⟩) (World.drew wj_1) (.string (mkS s34_1)) /\
 (∃ s31_1, Ld qh (some ⟨k1, 2, none⟩) (World.drew wj_1) (.string (mkS s31_1)) /\
 Calls prog qhc #[.string (mkS s34_1)] (World.drew wj_1) fun e35_1 w35_1 => ∃ s35_1, e35_1 = .returned (.string (mkS s35_1)) /\
 ((((List.length [68, 111, 109, 97, 105, 110, 61] + List.length s35_1 : Nat) : Int) <= i64.max)) /\
 ∀ s36_1, s36_1 = ([68, 111, 109, 97, 105, 110, 61] ++ s35_1) ->
 Calls prog zp #[.bool (!(s31_1 == [])), .string (mkS s36_1), .pointer (some ⟨k3, 0, none⟩)] w35_1 fun e37_1 w37_1 => e37_1 = .returned (.tuple #[]) /\
 J_2 w37_1) /\
 Calls prog qhc #[.string (mkS s34_1)] (World.drew wj_1) fun e35_2 w35_2 => ∃ s35_2, e35_2 = .returned (.string (mkS s35_2)) /\
 ((((List.length [68, 111, 109, 97, 105, 110, 61] + List.length s35_2 : Nat) : Int) <= i64.max)) /\
 ∀ s36_2, s36_2 = ([68, 111, 109, 97, 105, 110, 61] ++ s35_2) ->
 ∃ s31_2, Ld qh (some ⟨k1, 2, none⟩) w35_2 (.string (mkS s31_2)) /\
 Calls prog zp #[.bool (!(s31_2 == [])), .string (mkS s36_2), .pointer (some ⟨k3, 0, none⟩)] w35_2 fun e37_2 w37_2 => e37_2 = .returned (.tuple #[]) /\
 J_2 w37_2) /\
 AllJ 9 (∀ wj_2, J_2 wj_2 ->
 (true = true) /\
 ∃ s40, Ld qh (some ⟨k1, 3, none⟩) wj_2 (.string (mkS s40)) /\
 (true = true) /\
 ∃ s43, Ld qh (some ⟨k1, 3, none⟩) wj_2 (.string (mkS s43)) /\
 ((((List.length [80, 97, 116, 104, 61] + List.length s43 : Nat) : Int) <= i64.max)) /\
 ∀ s44, s44 = ([80, 97, 116, 104, 61] ++ s43) ->
 Calls prog zp #[.bool (!(s40 == [])), .string (mkS s44), .pointer (some ⟨k3, 0, none⟩)] wj_2 fun e45 w45 => e45 = .returned (.tuple #[]) /\
 (true = true) /\
 ∃ b48, Ld qN (some ⟨k1, 8, none⟩) w45 (.bool b48) /\
 Calls prog zp #[.bool b48, .string (mkS [83, 101, 99, 117, 114, 101]), .pointer (some ⟨k3, 0, none⟩)] w45 fun e49 w49 => e49 = .returned (.tuple #[]) /\
 (true = true) /\
 ∃ b52, Ld qN (some ⟨k1, 9, none⟩) w49 (.bool b52) /\
 Calls prog zp #[.bool b52, .string (mkS [72, 116, 116, 112, 79, 110, 108, 121]), .pointer (some ⟨k3, 0, none⟩)] w49 fun e53 w53 => e53 = .returned (.tuple #[]) /\
 ∃ J_3 : FP [.one (.bool)],
 ((true = true) /\
 ∃ n55, Ld qt (some ⟨k1, 10, none⟩) w53 (.int .i64 n55) /\
 BCase (decide (n55 > (0 : Int)))
 ((true = true) /\
 ∃ n59, Ld qt (some ⟨k1, 10, none⟩) w53 (.int .i64 n59) /\
 J_3 (decide (n59 <= (3 : Int))) w53)
 (J_3 false w53)) /\
 ∀ b61, AllJ 7 (∀ wj_3, J_3 b61 wj_3 ->
 BCase b61
 ((true = true) /\
 (Calls prog qhT #[] (World.drew wj_3) fun e63 w63 => ∃ s63_0 s63_1 s63_2 s63_3, e63 = .returned (.agg #[.string (mkS s63_0), .string (mkS s63_1), .string (mkS s63_2), .string (mkS s63_3)]) /\
 ∃ n65, Ld qt (some ⟨k1, 10, none⟩) w63 (.int .i64 n65) /\
 ∃ s66, (Instr.index qb9 (.agg #[.string (mkS s63_0), .string (mkS s63_1), .string (mkS s63_2), .string (mkS s63_3)]) (.int .i64 n65)).run prog w63 = .ok (.string (mkS s66)) w63 /\
 ((((List.length [83, 97, 109, 101, 83, 105, 116, 101, 61] + List.length s66 : Nat) : Int) <= i64.max)) /\
 ∀ s67, s67 = ([83, 97, 109, 101, 83, 105, 116, 101, 61] ++ s66) ->
 Calls prog zp #[.bool true, .string (mkS s67), .pointer (some ⟨k3, 0, none⟩)] w63 fun e68 w68 => e68 = .returned (.tuple #[]) /\
 ∃ a69 l69 c69, Ld qV (some ⟨k3, 0, none⟩) w68 (.slice a69 l69 c69) /\
 Calls prog qct #[.slice a69 l69 c69, .string (mkS [59, 32])] w68 fun e70 w70 => ∃ s70, e70 = .returned (.string (mkS s70)) /\
 K (.string (mkS s70)) w70) /\
 ∃ n65_1, Ld qt (some ⟨k1, 10, none⟩) (World.drew wj_3) (.int .i64 n65_1) /\
 Calls prog qhT #[] (World.drew wj_3) fun e63_1 w63_1 => ∃ s63_0_1 s63_1_1 s63_2_1 s63_3_1, e63_1 = .returned (.agg #[.string (mkS s63_0_1), .string (mkS s63_1_1), .string (mkS s63_2_1), .string (mkS s63_3_1)]) /\
 ∃ s66_1, (Instr.index qb9 (.agg #[.string (mkS s63_0_1), .string (mkS s63_1_1), .string (mkS s63_2_1), .string (mkS s63_3_1)]) (.int .i64 n65_1)).run prog w63_1 = .ok (.string (mkS s66_1)) w63_1 /\
 ((((List.length [83, 97, 109, 101, 83, 105, 116, 101, 61] + List.length s66_1 : Nat) : Int) <= i64.max)) /\
 ∀ s67_1, s67_1 = ([83, 97, 109, 101, 83, 105, 116, 101, 61] ++ s66_1) ->
 Calls prog zp #[.bool true, .string (mkS s67_1), .pointer (some ⟨k3, 0, none⟩)] w63_1 fun e68_1 w68_1 => e68_1 = .returned (.tuple #[]) /\
 ∃ a69_1 l69_1 c69_1, Ld qV (some ⟨k3, 0, none⟩) w68_1 (.slice a69_1 l69_1 c69_1) /\
 Calls prog qct #[.slice a69_1 l69_1 c69_1, .string (mkS [59, 32])] w68_1 fun e70_1 w70_1 => ∃ s70_1, e70_1 = .returned (.string (mkS s70_1)) /\
 K (.string (mkS s70_1)) w70_1)
 (∃ a69_2 l69_2 c69_2, Ld qV (some ⟨k3, 0, none⟩) wj_3 (.slice a69_2 l69_2 c69_2) /\
 Calls prog qct #[.slice a69_2 l69_2 c69_2, .string (mkS [59, 32])] wj_3 fun e70_2 w70_2 => ∃ s70_2, e70_2 = .returned (.string (mkS s70_2)) /\
 K (.string (mkS s70_2)) w70_2)))))
theorem qqs (s0_0 : List UInt8) (s0_1 : List UInt8) (s0_2 : List UInt8) (s0_3 : List UInt8) (b0_4 : Bool) (n0_5 : Int) (b0_6 : Bool) (n0_7 : Int) (b0_8 : Bool) (b0_9 : Bool) (n0_10 : Int) {w : World} {K : Value -> World -> Prop} (h : qlJ s0_0 s0_1 s0_2 s0_3 b0_4 n0_5 b0_6 n0_7 b0_8 b0_9 n0_10 w K) : Calls prog qjy #[.agg #[.string (mkS s0_0), .string (mkS s0_1), .string (mkS s0_2), .string (mkS s0_3), .bool b0_4, .int .i64 n0_5, .bool b0_6, .int .i64 n0_7, .bool b0_8, .bool b0_9, .int .i64 n0_10]] w (Ret K) :=
 qm (c := qq Tryz.f196) (by kernel_rfl) Tryz.func196 (by kernel_rfl) [(6, []), (1000007, []), (8, []), (1000009, []), (10, []), (1000011, []), (19, [(61, .one (.bool))]), (1000022, [])] [.agg #[.string (mkS s0_0), .string (mkS s0_1), .string (mkS s0_2), .string (mkS s0_3), .bool b0_4, .int .i64 n0_5, .bool b0_6, .int .i64 n0_7, .bool b0_8, .bool b0_9, .int .i64 n0_10]] (of_decide_eq_true (by kernel_rfl)) _ (by kernel_rfl) h

--  cracknel/cracknelref08.ahead
def qqI (s0 : List UInt8) (w : World) (K : Value -> World -> Prop) : Prop :=
 ∀ k2 w2, k2 = w.heap.size -> w2 = w.alloc (.cells #[.int .i64 (0 : Int), .int .i64 (0 : Int), .int .i64 (0 : Int)] zV) ->
 ∀ k4 w4, k4 = w2.heap.size -> w4 = w2.alloc (.cells #[.int .i64 (0 : Int), .int .i64 (0 : Int), .int .i64 (0 : Int)] zV) ->
 ∃ I : Nat -> FP [.one (.str), .one (.int .i64)],
 (∃ m, I m s0 (0 : Int) w4) /\
 ∀ m s0_1 n10, AllJ 32 (∀ wl, I m s0_1 n10 wl ->
 BCase (decide (n10 < (3 : Int)))
 (∃ J : FP [.one (.str)],
 (BCase (decide (n10 > (0 : Int)))
 (Calls prog qa6 #[.string (mkS s0_1), .string (mkS [58])] wl fun e17 w17 => ∃ s17_0 b17_1, e17 = .returned (.tuple #[.string (mkS s17_0), .bool b17_1]) /\
 BCase (!b17_1)
 (∃ n22_0 n22_1 n22_2, Ld zV (some ⟨k4, 0, none⟩) w17 (.agg #[.int .i64 n22_0, .int .i64 n22_1, .int .i64 n22_2]) /\
 ∃ wx, Sv zV (some ⟨k2, 0, none⟩) (.agg #[.int .i64 n22_0, .int .i64 n22_1, .int .i64 n22_2]) w17 wx /\
 ∃ nr0_0 nr0_1 nr0_2, (qs zV (.pointer (some ⟨k2, 0, none⟩))).run prog wx = .ok (.agg #[.int .i64 nr0_0, .int .i64 nr0_1, .int .i64 nr0_2]) wx /\
 K (.tuple #[.agg #[.int .i64 nr0_0, .int .i64 nr0_1, .int .i64 nr0_2], .bool false]) wx)
 (J s17_0 w17))
 (J s0_1 wl)) /\
 ∀ s0_2, AllJ 12 (∀ wj, J s0_2 wj ->
 Calls prog qiA #[.string (mkS s0_2), .int .i64 (1 : Int), .int .i64 (2 : Int)] wj fun e25 w25 => ∃ n25_0 s25_1 b25_2, e25 = .returned (.tuple #[.int .i64 n25_0, .string (mkS s25_1), .bool b25_2]) /\
 BCase (!b25_2)
 (∃ n31_0 n31_1 n31_2, Ld zV (some ⟨k4, 0, none⟩) w25 (.agg #[.int .i64 n31_0, .int .i64 n31_1, .int .i64 n31_2]) /\
 ∃ wx_1, Sv zV (some ⟨k2, 0, none⟩) (.agg #[.int .i64 n31_0, .int .i64 n31_1, .int .i64 n31_2]) w25 wx_1 /\
 ∃ nr0_0_1 nr0_1_1 nr0_2_1, (qs zV (.pointer (some ⟨k2, 0, none⟩))).run prog wx_1 = .ok (.agg #[.int .i64 nr0_0_1, .int .i64 nr0_1_1, .int .i64 nr0_2_1]) wx_1 /\
 K (.tuple #[.agg #[.int .i64 nr0_0_1, .int .i64 nr0_1_1, .int .i64 nr0_2_1], .bool false]) wx_1)
 (((0 <= n10 /\ n10 < ((3 : Nat) : Int)) /\ true = true) /\
 ∃ wx_2, Sv qt (ql (some ⟨k4, 0, none⟩) n10 1) (.int .i64 n25_0) w25 wx_2 /\
 ∃ m' : Nat, m' < m /\ I m' s25_1 (i64.wrap (n10 + (1 : Int))) wx_2)))
 (∃ n37_0 n37_1 n37_2, Ld zV (some ⟨k4, 0, none⟩) wl (.agg #[.int .i64 n37_0, .int .i64 n37_1, .int .i64 n37_2]) /\
 ∃ wx_3, Sv zV (some ⟨k2, 0, none⟩) (.agg #[.int .i64 n37_0, .int .i64 n37_1, .int .i64 n37_2]) wl wx_3 /\
 ∃ nr0_0_2 nr0_1_2 nr0_2_2, (qs zV (.pointer (some ⟨k2, 0, none⟩))).run prog wx_3 = .ok (.agg #[.int .i64 nr0_0_2, .int .i64 nr0_1_2, .int .i64 nr0_2_2]) wx_3 /\
 K (.tuple #[.agg #[.int .i64 nr0_0_2, .int .i64 nr0_1_2, .int .i64 nr0_2_2], .bool true]) wx_3))
theorem quy (s0 : List UInt8) {w : World} {K : Value -> World -> Prop} (h : qqI s0 w K) : Calls prog qnh #[.string (mkS s0)] w (Ret K) :=
 qm (c := qq Tryz.f236) (by kernel_rfl) Tryz.func236 (by kernel_rfl) [(8, [(0, .one (.str)), (10, .one (.int .i64))]), (19, [(0, .one (.str))])] [.string (mkS s0)] (of_decide_eq_true (by kernel_rfl)) _ (by kernel_rfl) h

--  cracknel/date.number
def qoZ (s0 : List UInt8) (n1 : Int) (n2 : Int) (w : World) (K : Value -> World -> Prop) : Prop :=
 Calls prog qkS #[.string (mkS s0), .string (mkS [48, 49, 50, 51, 52, 53, 54, 55, 56, 57])] w fun e15 w15 => ∃ s15, e15 = .returned (.string (mkS s15)) /\
 ∃ J : FP [],
 (BCase (decide ((i64.wrap (((List.length s0 : Nat) : Int) - ((List.length s15 : Nat) : Int))) < n1))
 (K (.tuple #[.int .i64 (0 : Int), .string (mkS s0), .bool false]) w15)
 (BCase (decide ((i64.wrap (((List.length s0 : Nat) : Int) - ((List.length s15 : Nat) : Int))) > n2))
 (K (.tuple #[.int .i64 (0 : Int), .string (mkS s0), .bool false]) w15)
 (J w15))) /\
 AllJ 12 (∀ wj, J wj ->
 ((0 <= (i64.wrap (((List.length s0 : Nat) : Int) - ((List.length s15 : Nat) : Int))) /\ (i64.wrap (((List.length s0 : Nat) : Int) - ((List.length s15 : Nat) : Int))) <= (((List.length s0) : Nat) : Int))) /\
 ∀ s30, s30 = (List.take (Int.toNat (i64.wrap (((List.length s0 : Nat) : Int) - ((List.length s15 : Nat) : Int)))) s0) ->
 Calls prog quc #[.string (mkS s30)] wj fun e31 w31 => ∃ n31_0 v31_1, e31 = .returned (.tuple #[.int .i64 n31_0, v31_1]) /\
 ((0 <= (i64.wrap (((List.length s0 : Nat) : Int) - ((List.length s15 : Nat) : Int))) /\ (i64.wrap (((List.length s0 : Nat) : Int) - ((List.length s15 : Nat) : Int))) <= (((List.length s0) : Nat) : Int))) /\
 ∀ s37, s37 = (List.drop (Int.toNat (i64.wrap (((List.length s0 : Nat) : Int) - ((List.length s15 : Nat) : Int)))) s0) ->
 ∀ wq, Below w31.heap.size w31 wq ->
 K (.tuple #[.int .i64 n31_0, .string (mkS s37), .bool true]) wq)
theorem qto (s0 : List UInt8) (n1 : Int) (n2 : Int) {w : World} {K : Value -> World -> Prop} (h : qoZ s0 n1 n2 w K) : Calls prog qiA #[.string (mkS s0), .int .i64 n1, .int .i64 n2] w (Ret K) :=
 qm (c := qq Tryz.f237) (by kernel_rfl) Tryz.func237 (by kernel_rfl) [(4, [])] [.string (mkS s0), .int .i64 n1, .int .i64 n2] (of_decide_eq_true (by kernel_rfl)) _ (by kernel_rfl) h

--  cracknel/date.month
def qqJ (s0 : List UInt8) (w : World) (K : Value -> World -> Prop) : Prop :=
 ∃ I : Nat -> FP [.one (.int .i64)],
 (∃ m, I m (0 : Int) w) /\
 ∀ m n3, AllJ 21 (∀ wl, I m n3 wl ->
 ∃ J : FP [],
 (BCase (decide (n3 < (12 : Int)))
 (BCase (decide (((List.length s0 : Nat) : Int) >= (3 : Int)))
 (J wl)
 (K (.int .i64 (0 : Int)) wl))
 (K (.int .i64 (0 : Int)) wl)) /\
 AllJ 7 (∀ wj, J wj ->
 ((0 <= (3 : Int) /\ (3 : Int) <= (((List.length s0) : Nat) : Int))) /\
 ∀ s14, s14 = (List.take (Int.toNat (3 : Int)) s0) ->
 (((0 <= (i64.wrap ((i64.wrap ((3 : Int) * n3)) + (3 : Int))) /\ (i64.wrap ((i64.wrap ((3 : Int) * n3)) + (3 : Int))) <= (((List.length [74, 97, 110, 70, 101, 98, 77, 97, 114, 65, 112, 114, 77, 97, 121, 74, 117, 110, 74, 117, 108, 65, 117, 103, 83, 101, 112, 79, 99, 116, 78, 111, 118, 68, 101, 99]) : Nat) : Int)) /\ 0 <= (i64.wrap ((3 : Int) * n3)) /\ (i64.wrap ((3 : Int) * n3)) <= ((Int.toNat (i64.wrap ((i64.wrap ((3 : Int) * n3)) + (3 : Int))) : Nat) : Int))) /\
 ∀ s20, s20 = (List.drop (Int.toNat (i64.wrap ((3 : Int) * n3))) (List.take (Int.toNat (i64.wrap ((i64.wrap ((3 : Int) * n3)) + (3 : Int)))) [74, 97, 110, 70, 101, 98, 77, 97, 114, 65, 112, 114, 77, 97, 121, 74, 117, 110, 74, 117, 108, 65, 117, 103, 83, 101, 112, 79, 99, 116, 78, 111, 118, 68, 101, 99])) ->
 ∃ b21, (∀ u21, Below wj.heap.size wj u21 -> Calls prog qkQ #[.string (mkS s14), .string (mkS s20)] u21 fun e21 w21 => e21 = .returned (.bool b21) /\ Below wj.heap.size u21 w21) /\
 ∀ wq, Below wj.heap.size wj wq ->
 BCase b21
 (K (.int .i64 (i64.wrap (n3 + (1 : Int)))) wq)
 (∃ m' : Nat, m' < m /\ I m' (i64.wrap (n3 + (1 : Int))) wq)))
theorem quz (s0 : List UInt8) {w : World} {K : Value -> World -> Prop} (h : qqJ s0 w K) : Calls prog qni #[.string (mkS s0)] w (Ret K) :=
 qm (c := qq Tryz.f238) (by kernel_rfl) Tryz.func238 (by kernel_rfl) [(6, [(3, .one (.int .i64))]), (7, [])] [.string (mkS s0)] (of_decide_eq_true (by kernel_rfl)) _ (by kernel_rfl) h

--  cracknel/date.length
def qoY (n0 : Int) (n1 : Int) (w : World) (K : Value -> World -> Prop) : Prop :=
 ∀ k5 w5, k5 = w.heap.size -> w5 = w.alloc (.cells qxm qlO) ->
 ∃ wx, Sv qlO (some ⟨k5, 0, none⟩) (.agg #[.int .i64 (31 : Int), .int .i64 (28 : Int), .int .i64 (31 : Int), .int .i64 (30 : Int), .int .i64 (31 : Int), .int .i64 (30 : Int), .int .i64 (31 : Int), .int .i64 (31 : Int), .int .i64 (30 : Int), .int .i64 (31 : Int), .int .i64 (30 : Int), .int .i64 (31 : Int)]) w5 wx /\
 ∃ J : FP [],
 (BCase (n1 == (2 : Int))
 (Calls prog qps #[.int .i64 n0] wx fun e11 w11 => ∃ b11, e11 = .returned (.bool b11) /\
 BCase b11
 (K (.int .i64 (29 : Int)) w11)
 (J w11))
 (J wx)) /\
 AllJ 7 (∀ wj, J wj ->
 ((0 <= (i64.wrap (n1 - (1 : Int))) /\ (i64.wrap (n1 - (1 : Int))) < ((12 : Nat) : Int)) /\ true = true) /\
 ∃ n16, Ld qt (ql (some ⟨k5, 0, none⟩) (i64.wrap (n1 - (1 : Int))) 1) wj (.int .i64 n16) /\
 K (.int .i64 n16) wj)
theorem qtn (n0 : Int) (n1 : Int) {w : World} {K : Value -> World -> Prop} (h : qoY n0 n1 w K) : Calls prog ql1 #[.int .i64 n0, .int .i64 n1] w (Ret K) :=
 qm (c := qq Tryz.f239) (by kernel_rfl) Tryz.func239 (by kernel_rfl) [(4, [])] [.int .i64 n0, .int .i64 n1] (of_decide_eq_true (by kernel_rfl)) _ (by kernel_rfl) h

--  cracknel/header.written$1
def qjC (b0 : Bool) (s1 : List UInt8) (p2 : Option Addr) (w : World) (K : Value -> World -> Prop) : Prop :=
 BCase b0
 (∃ a6 l6 c6, Ld qV p2 w (.slice a6 l6 c6) /\
 ∀ k8 w8, k8 = w.heap.size -> w8 = w.alloc (.cells #[.string (mkS s1)] qh) ->
 ∃ w9 a9 l9 c9, (Builtin.append_ #[qV, qV] qV #[.slice a6 l6 c6, .slice (some ⟨k8, 0, none⟩) 1 1]).run prog w8 = .ok (.slice a9 l9 c9) w9 /\
 ∃ wx, Sv qV p2 (.slice a9 l9 c9) w9 wx /\
 K (.tuple #[]) wx)
 (K (.tuple #[]) w)
theorem qnO (b0 : Bool) (s1 : List UInt8) (p2 : Option Addr) {w : World} {K : Value -> World -> Prop} (h : qjC b0 s1 p2 w K) : Calls prog zp #[.bool b0, .string (mkS s1), .pointer p2] w (Ret K) :=
 qm (c := qq Tryz.f240) (by kernel_rfl) Tryz.func240 (by kernel_rfl) [] [.bool b0, .string (mkS s1), .pointer p2] (of_decide_eq_true (by kernel_rfl)) _ (by kernel_rfl) h

--  cracknel/date.Text
def qrL (n0 : Int) (w : World) (K : Value -> World -> Prop) : Prop :=
 ((86400 : Int) ≠ 0) /\
 ∀ q11, q11 = (i64.wrap (Int.tdiv n0 (86400 : Int))) ->
 ((86400 : Int) ≠ 0) /\
 ∀ q13, q13 = (Int.tmod n0 (86400 : Int)) ->
 ∃ J : FP [.one (.int .i64), .one (.int .i64)],
 (BCase (decide (q13 < (0 : Int)))
 (J (i64.wrap (q11 - (1 : Int))) (i64.wrap (q13 + (86400 : Int))) w)
 (J q11 q13 w)) /\
 ∀ n3 n4, AllJ 6 (∀ wj, J n3 n4 wj ->
 Calls prog qng #[.int .i64 n3] wj fun e22 w22 => ∃ n22_0 n22_1 n22_2 b22_3, e22 = .returned (.tuple #[.int .i64 n22_0, .int .i64 n22_1, .int .i64 n22_2, .bool b22_3]) /\
 BCase (!b22_3)
 (K (.string (mkS [])) w22)
 (((7 : Int) ≠ 0) /\
 ∀ q30, q30 = (Int.tmod n3 (7 : Int)) ->
 ((7 : Int) ≠ 0) /\
 ∀ q32, q32 = (Int.tmod (i64.wrap (q30 + (7 : Int))) (7 : Int)) ->
 (((0 <= (i64.wrap ((i64.wrap ((3 : Int) * q32)) + (3 : Int))) /\ (i64.wrap ((i64.wrap ((3 : Int) * q32)) + (3 : Int))) <= (((List.length [84, 104, 117, 70, 114, 105, 83, 97, 116, 83, 117, 110, 77, 111, 110, 84, 117, 101, 87, 101, 100]) : Nat) : Int)) /\ 0 <= (i64.wrap ((3 : Int) * q32)) /\ (i64.wrap ((3 : Int) * q32)) <= ((Int.toNat (i64.wrap ((i64.wrap ((3 : Int) * q32)) + (3 : Int))) : Nat) : Int))) /\
 ∀ s38, s38 = (List.drop (Int.toNat (i64.wrap ((3 : Int) * q32))) (List.take (Int.toNat (i64.wrap ((i64.wrap ((3 : Int) * q32)) + (3 : Int)))) [84, 104, 117, 70, 114, 105, 83, 97, 116, 83, 117, 110, 77, 111, 110, 84, 117, 101, 87, 101, 100])) ->
 ((((List.length s38 + List.length [44, 32] : Nat) : Int) <= i64.max)) /\
 ∀ s39, s39 = (s38 ++ [44, 32]) ->
 ∃ s41, (∀ u41, Below w22.heap.size w22 u41 -> Calls prog qe0 #[.int .i64 n22_2, .int .i64 (2 : Int)] u41 fun e41 w41 => e41 = .returned (.string (mkS s41)) /\ Below w22.heap.size u41 w41) /\
 ((((List.length s39 + List.length s41 : Nat) : Int) <= i64.max)) /\
 ∀ s42, s42 = (s39 ++ s41) ->
 ((((List.length s42 + List.length [32] : Nat) : Int) <= i64.max)) /\
 ∀ s43, s43 = (s42 ++ [32]) ->
 (((0 <= (i64.wrap ((3 : Int) * n22_1)) /\ (i64.wrap ((3 : Int) * n22_1)) <= (((List.length [74, 97, 110, 70, 101, 98, 77, 97, 114, 65, 112, 114, 77, 97, 121, 74, 117, 110, 74, 117, 108, 65, 117, 103, 83, 101, 112, 79, 99, 116, 78, 111, 118, 68, 101, 99]) : Nat) : Int)) /\ 0 <= (i64.wrap ((i64.wrap ((3 : Int) * n22_1)) - (3 : Int))) /\ (i64.wrap ((i64.wrap ((3 : Int) * n22_1)) - (3 : Int))) <= ((Int.toNat (i64.wrap ((3 : Int) * n22_1)) : Nat) : Int))) /\
 ∀ s49, s49 = (List.drop (Int.toNat (i64.wrap ((i64.wrap ((3 : Int) * n22_1)) - (3 : Int)))) (List.take (Int.toNat (i64.wrap ((3 : Int) * n22_1))) [74, 97, 110, 70, 101, 98, 77, 97, 114, 65, 112, 114, 77, 97, 121, 74, 117, 110, 74, 117, 108, 65, 117, 103, 83, 101, 112, 79, 99, 116, 78, 111, 118, 68, 101, 99])) ->
 ((((List.length s43 + List.length s49 : Nat) : Int) <= i64.max)) /\
 ∀ s50, s50 = (s43 ++ s49) ->
 ((((List.length s50 + List.length [32] : Nat) : Int) <= i64.max)) /\
 ∀ s51, s51 = (s50 ++ [32]) ->
 ∃ s53, (∀ u53, Below w22.heap.size w22 u53 -> Calls prog qe0 #[.int .i64 n22_0, .int .i64 (4 : Int)] u53 fun e53 w53 => e53 = .returned (.string (mkS s53)) /\ Below w22.heap.size u53 w53) /\
 ((((List.length s51 + List.length s53 : Nat) : Int) <= i64.max)) /\
 ∀ s54, s54 = (s51 ++ s53) ->
 ((((List.length s54 + List.length [32] : Nat) : Int) <= i64.max)) /\
 ∀ s55, s55 = (s54 ++ [32]) ->
 ((3600 : Int) ≠ 0) /\
 ∀ q57, q57 = (i64.wrap (Int.tdiv n4 (3600 : Int))) ->
 ∃ s58, (∀ u58, Below w22.heap.size w22 u58 -> Calls prog qe0 #[.int .i64 q57, .int .i64 (2 : Int)] u58 fun e58 w58 => e58 = .returned (.string (mkS s58)) /\ Below w22.heap.size u58 w58) /\
 ((((List.length s55 + List.length s58 : Nat) : Int) <= i64.max)) /\
 ∀ s59, s59 = (s55 ++ s58) ->
 ((((List.length s59 + List.length [58] : Nat) : Int) <= i64.max)) /\
 ∀ s60, s60 = (s59 ++ [58]) ->
 ((60 : Int) ≠ 0) /\
 ∀ q62, q62 = (i64.wrap (Int.tdiv n4 (60 : Int))) ->
 ((60 : Int) ≠ 0) /\
 ∀ q63, q63 = (Int.tmod q62 (60 : Int)) ->
 ∃ s64, (∀ u64, Below w22.heap.size w22 u64 -> Calls prog qe0 #[.int .i64 q63, .int .i64 (2 : Int)] u64 fun e64 w64 => e64 = .returned (.string (mkS s64)) /\ Below w22.heap.size u64 w64) /\
 ((((List.length s60 + List.length s64 : Nat) : Int) <= i64.max)) /\
 ∀ s65, s65 = (s60 ++ s64) ->
 ((((List.length s65 + List.length [58] : Nat) : Int) <= i64.max)) /\
 ∀ s66, s66 = (s65 ++ [58]) ->
 ((60 : Int) ≠ 0) /\
 ∀ q68, q68 = (Int.tmod n4 (60 : Int)) ->
 ∃ s69, (∀ u69, Below w22.heap.size w22 u69 -> Calls prog qe0 #[.int .i64 q68, .int .i64 (2 : Int)] u69 fun e69 w69 => e69 = .returned (.string (mkS s69)) /\ Below w22.heap.size u69 w69) /\
 ((((List.length s66 + List.length s69 : Nat) : Int) <= i64.max)) /\
 ∀ s70, s70 = (s66 ++ s69) ->
 ((((List.length s70 + List.length [32, 71, 77, 84] : Nat) : Int) <= i64.max)) /\
 ∀ s71, s71 = (s70 ++ [32, 71, 77, 84]) ->
 ∀ wq, Below w22.heap.size w22 wq ->
 K (.string (mkS s71)) wq))
theorem qv7 (n0 : Int) {w : World} {K : Value -> World -> Prop} (h : qrL n0 w K) : Calls prog qj6 #[.int .i64 n0] w (Ret K) :=
 qm (c := qq Tryz.f241) (by kernel_rfl) Tryz.func241 (by kernel_rfl) [(6, [(3, .one (.int .i64)), (4, .one (.int .i64))])] [.int .i64 n0] (of_decide_eq_true (by kernel_rfl)) _ (by kernel_rfl) h

--  cracknel/header.dotted
def qmK (s0 : List UInt8) (w : World) (K : Value -> World -> Prop) : Prop :=
 Calls prog qih #[.string (mkS s0)] w fun e4 w4 => ∃ s4, e4 = .returned (.string (mkS s4)) /\
 BCase (!(s4 == s0))
 (((((List.length [46] + List.length s0 : Nat) : Int) <= i64.max)) /\
 ∀ s12, s12 = ([46] ++ s0) ->
 K (.string (mkS s12)) w4)
 (Calls prog qgj #[.string (mkS s0), .string (mkS [46])] w4 fun e9 w9 => ∃ b9, e9 = .returned (.bool b9) /\
 BCase b9
 (((((List.length [46] + List.length s0 : Nat) : Int) <= i64.max)) /\
 ∀ s12_1, s12_1 = ([46] ++ s0) ->
 K (.string (mkS s12_1)) w9)
 (K (.string (mkS s0)) w9))
theorem qrf (s0 : List UInt8) {w : World} {K : Value -> World -> Prop} (h : qmK s0 w K) : Calls prog qhc #[.string (mkS s0)] w (Ret K) :=
 qm (c := qq Tryz.f243) (by kernel_rfl) Tryz.func243 (by kernel_rfl) [] [.string (mkS s0)] (of_decide_eq_true (by kernel_rfl)) _ (by kernel_rfl) h

--  cracknel/cracknelref01.blank
def qrM (n0 : Int) (w : World) (K : Value -> World -> Prop) : Prop :=
 ((4 : Int) ≠ 0) /\
 ∀ q4, q4 = (Int.tmod n0 (4 : Int)) ->
 BCase (q4 == (0 : Int))
 (((100 : Int) ≠ 0) /\
 ∀ q8, q8 = (Int.tmod n0 (100 : Int)) ->
 BCase (q8 != (0 : Int))
 (K (.bool true) w)
 (((400 : Int) ≠ 0) /\
 ∀ q13, q13 = (Int.tmod n0 (400 : Int)) ->
 K (.bool (q13 == (0 : Int))) w))
 (((400 : Int) ≠ 0) /\
 ∀ q13_1, q13_1 = (Int.tmod n0 (400 : Int)) ->
 K (.bool (q13_1 == (0 : Int))) w)
theorem qv8 (n0 : Int) {w : World} {K : Value -> World -> Prop} (h : qrM n0 w K) : Calls prog qps #[.int .i64 n0] w (Ret K) :=
 qm (c := qq Tryz.f271) (by kernel_rfl) Tryz.func271 (by kernel_rfl) [] [.int .i64 n0] (of_decide_eq_true (by kernel_rfl)) _ (by kernel_rfl) h

--  cracknel/date.Civil
def qqH (n0 : Int) (w : World) (K : Value -> World -> Prop) : Prop :=
 Calls prog qj5 #[.int .i64 (1601 : Int), .int .i64 (1 : Int), .int .i64 (1 : Int)] w fun e16 w16 => ∃ n16_0 b16_1, e16 = .returned (.tuple #[.int .i64 n16_0, .bool b16_1]) /\
 Calls prog qj5 #[.int .i64 (9999 : Int), .int .i64 (12 : Int), .int .i64 (31 : Int)] w16 fun e20 w20 => ∃ n20_0 b20_1, e20 = .returned (.tuple #[.int .i64 n20_0, .bool b20_1]) /\
 ∃ J : FP [],
 (BCase (decide (n0 < n16_0))
 (K (.tuple #[.int .i64 (0 : Int), .int .i64 (0 : Int), .int .i64 (0 : Int), .bool false]) w20)
 (BCase (decide (n0 > n20_0))
 (K (.tuple #[.int .i64 (0 : Int), .int .i64 (0 : Int), .int .i64 (0 : Int), .bool false]) w20)
 (J w20))) /\
 AllJ 12 (∀ wj, J wj ->
 ((146097 : Int) ≠ 0) /\
 ∀ q34, q34 = (Int.tmod (i64.wrap (n0 + (719468 : Int))) (146097 : Int)) ->
 ((1460 : Int) ≠ 0) /\
 ∀ q37, q37 = (i64.wrap (Int.tdiv q34 (1460 : Int))) ->
 ((36524 : Int) ≠ 0) /\
 ∀ q40, q40 = (i64.wrap (Int.tdiv q34 (36524 : Int))) ->
 ((146096 : Int) ≠ 0) /\
 ∀ q43, q43 = (i64.wrap (Int.tdiv q34 (146096 : Int))) ->
 ((365 : Int) ≠ 0) /\
 ∀ q45, q45 = (i64.wrap (Int.tdiv (i64.wrap ((i64.wrap ((i64.wrap (q34 - q37)) + q40)) - q43)) (365 : Int))) ->
 ((4 : Int) ≠ 0) /\
 ∀ q50, q50 = (i64.wrap (Int.tdiv q45 (4 : Int))) ->
 ((100 : Int) ≠ 0) /\
 ∀ q53, q53 = (i64.wrap (Int.tdiv q45 (100 : Int))) ->
 ((153 : Int) ≠ 0) /\
 ∀ q59, q59 = (i64.wrap (Int.tdiv (i64.wrap ((i64.wrap ((5 : Int) * (i64.wrap (q34 - (i64.wrap ((i64.wrap ((i64.wrap ((365 : Int) * q45)) + q50)) - q53)))))) + (2 : Int))) (153 : Int))) ->
 ((5 : Int) ≠ 0) /\
 ∀ q64, q64 = (i64.wrap (Int.tdiv (i64.wrap ((i64.wrap ((153 : Int) * q59)) + (2 : Int))) (5 : Int))) ->
 ((146097 : Int) ≠ 0) /\
 ∀ q69, q69 = (i64.wrap (Int.tdiv (i64.wrap (n0 + (719468 : Int))) (146097 : Int))) ->
 BCase (decide ((i64.wrap (q59 + (3 : Int))) > (12 : Int)))
 (K (.tuple #[.int .i64 (i64.wrap ((i64.wrap (q45 + (i64.wrap (q69 * (400 : Int))))) + (1 : Int))), .int .i64 (i64.wrap ((i64.wrap (q59 + (3 : Int))) - (12 : Int))), .int .i64 (i64.wrap ((i64.wrap ((i64.wrap (q34 - (i64.wrap ((i64.wrap ((i64.wrap ((365 : Int) * q45)) + q50)) - q53)))) - q64)) + (1 : Int))), .bool true]) wj)
 (K (.tuple #[.int .i64 (i64.wrap (q45 + (i64.wrap (q69 * (400 : Int))))), .int .i64 (i64.wrap (q59 + (3 : Int))), .int .i64 (i64.wrap ((i64.wrap ((i64.wrap (q34 - (i64.wrap ((i64.wrap ((i64.wrap ((365 : Int) * q45)) + q50)) - q53)))) - q64)) + (1 : Int))), .bool true]) wj))
theorem qux (n0 : Int) {w : World} {K : Value -> World -> Prop} (h : qqH n0 w K) : Calls prog qng #[.int .i64 n0] w (Ret K) :=
 qm (c := qq Tryz.f272) (by kernel_rfl) Tryz.func272 (by kernel_rfl) [(6, [])] [.int .i64 n0] (of_decide_eq_true (by kernel_rfl)) _ (by kernel_rfl) h

--  cracknel/date.digits
def qll (n0 : Int) (n1 : Int) (w : World) (K : Value -> World -> Prop) : Prop :=
 Calls prog qlb #[.int .i64 n0] w fun e7 w7 => ∃ s7, e7 = .returned (.string (mkS s7)) /\
 Calls prog qrV #[.string (mkS [48]), .int .i64 (i64.wrap (n1 - ((List.length s7 : Nat) : Int)))] w7 fun e12 w12 => ∃ s12, e12 = .returned (.string (mkS s12)) /\
 ((((List.length s12 + List.length s7 : Nat) : Int) <= i64.max)) /\
 ∀ s14, s14 = (s12 ++ s7) ->
 K (.string (mkS s14)) w12
theorem qnM (n0 : Int) (n1 : Int) {w : World} {K : Value -> World -> Prop} (h : qll n0 n1 w K) : Calls prog qe0 #[.int .i64 n0, .int .i64 n1] w (Ret K) :=
 qm (c := qq Tryz.f273) (by kernel_rfl) Tryz.func273 (by kernel_rfl) [] [.int .i64 n0, .int .i64 n1] (of_decide_eq_true (by kernel_rfl)) _ (by kernel_rfl) h

--  cracknel/cracknelref07.Length
end Go.Proofs.YtlfolncaghkmcaaGreatDoor
set_option linter.unusedSimpArgs false
namespace Go.Pk
open Go.RowKit (Below)
def qk (w : World) (k : Nat) (t : TypeId) (vs : List Value) : Prop := w.heap[k]? = some (.cells vs.toArray t (0, 0))
theorem qk.new {w w' : World} {k : Nat} {t : TypeId} {vs : List Value} (hk : k = w.heap.size) (hw : w' = w.alloc (.cells vs.toArray t)) : qk w' k t vs := by
 subst hk hw; exact heap_alloc_new w _
theorem qk.lt {w : World} {k : Nat} {t : TypeId} {vs : List Value} (h : qk w k t vs) : k < w.heap.size := (Array.getElem?_eq_some_iff.1 (show w.heap[k]? = _ from h)).1
theorem qk.block {w w' : World} {k : Nat} {t : TypeId} {vs : List Value} (h : qk w k t vs) (e : w'.heap[k]? = w.heap[k]?) : qk w' k t vs := e.trans h
theorem qk.below {w w' : World} {k : Nat} {t : TypeId} {vs : List Value} (h : qk w k t vs) (hb : Below w.heap.size w w') : qk w' k t vs := h.block (hb.block k h.lt)
theorem qk.grown {w w' : World} {k : Nat} {t : TypeId} {vs : List Value} {row : Option Nat} (h : qk w k t vs) (hg : w.grownBy w' row) (hne : some k ≠ row) : qk w' k t vs := h.block (hg.block k h.lt hne)
theorem qk.cell {w : World} {k : Nat} {t : TypeId} {vs : List Value} (h : qk w k t vs) (i : Nat) : w.cell? ⟨k, i, none⟩ = vs[i]? := by rw [qlS h]; simp
theorem qk.load1 {P : Program} {u : TypeId} {d : TypeDesc} (hu : P.underlying u = some d) (ha : aggD d = false) {w : World} {k : Nat} {t : TypeId} {vs : List Value} (h : qk w k t vs) {i : Nat} {v : Value} (hv : vs[i]? = some v) :
   (Instr.loadAt u (.pointer (some ⟨k, i, none⟩))).run P w = .ok v w := loadVar_one hu ha (by rw [h.cell]; exact hv)
theorem qk.loadA {P : Program} {u : TypeId} {d : TypeDesc} {ti : TypeInfo} (hu : P.underlying u = some d) (ha : aggD d = true) (hi : P.info? u = some ti) {w : World} {k : Nat} {t : TypeId} {vs us : List Value} (h : qk w k t vs) {i : Nat} (hl : us.length = ti.size)
   (hv : ∀ j, j < us.length -> vs[i + j]? = us[j]?) : (Instr.loadAt u (.pointer (some ⟨k, i, none⟩))).run P w = .ok (.agg us.toArray) w :=
 qs9 hu ha hi hl fun j hj => by rw [h.cell]; exact hv j hj
theorem qk.res {P : Program} {u : TypeId} {p : Addr} {w w' : World} {v : Value} (h : (Instr.loadAt u (.pointer (some p))).run P w = .ok v w') : (qs u (.pointer (some p))).run P w = .ok v w' := h
theorem qk.store {P : Program} {u : TypeId} {bytes n : Nat} {z : Value} (tf : TF P u n bytes z) {w : World} {k : Nat} {t : TypeId} {vs : List Value} (h : qk w k t vs) {i : Nat} {v : Value} (hs : v.cells.size = n) (hfit : i + n <= vs.length) (h1 : ∀ c ∈ v.cells.toList, c.oneCell' = true) :
   ∃ w', (Instr.storeAt u (.pointer (some ⟨k, i, none⟩)) v).run P w = .ok () w' /\ qk w' k t (vs.take i ++ v.cells.toList ++ vs.drop (i + n)) /\ w.grownBy w' (some k) := by
 obtain ⟨ti, hti, hsz, _, _⟩ := tf.info
 refine ⟨_, qjA hti (o := i) h (fun i _ => by simp) (by rw [hs, hsz]) (by rw [hsz]; simpa using hfit) h1, ?_, qe8 w k _⟩
 have := setRow_heap w k vs.toArray (vs.take i ++ v.cells.toList ++ vs.drop (i + n)).toArray t (0, 0) h
 rw [<- hs] at this ⊢
 exact this
end Go.Pk
namespace Go.Pk
open Go.RowKit (Below)
theorem j3 {n : Nat} {w : World} {R : Bool -> World -> Prop} {B : (Bool -> World -> Prop) -> Prop} (f : Bool) (hB : B (fun b w' => w' = w /\ b = f)) (h : R f w) :
   ∃ J : FP [.one (.bool)], B J /\ ∀ b : Bool, AllJ n (∀ wj : World, J b wj -> R b wj) := by
 refine ⟨fun b w' => w' = w /\ b = f, hB, fun b => AllJ.of ?_ _⟩
 rintro wj ⟨rfl, rfl⟩; exact h
theorem intJ {n : Nat} {k : IntKind} {w : World} {R : Int -> World -> Prop} {B : (Int -> World -> Prop) -> Prop} (f : Int) (hB : B (fun b w' => w' = w /\ b = f)) (h : R f w) :
   ∃ J : FP [.one (.int k)], B J /\ ∀ b : Int, AllJ n (∀ wj : World, J b wj -> R b wj) := by
 refine ⟨fun b w' => w' = w /\ b = f, hB, fun b => AllJ.of ?_ _⟩
 rintro wj ⟨rfl, rfl⟩; exact h
theorem strJ {n : Nat} {w : World} {R : List UInt8 -> World -> Prop} {B : (List UInt8 -> World -> Prop) -> Prop} (f : List UInt8) (hB : B (fun b w' => w' = w /\ b = f)) (h : R f w) :
   ∃ J : FP [.one (.str)], B J /\ ∀ b : List UInt8, AllJ n (∀ wj : World, J b wj -> R b wj) := by
 refine ⟨fun b w' => w' = w /\ b = f, hB, fun b => AllJ.of ?_ _⟩
 rintro wj ⟨rfl, rfl⟩; exact h
theorem factJ {n : Nat} {w : World} {R : World -> Prop} {B : (World -> Prop) -> Prop} (Q : Prop) (hB : B (fun w' => w' = w /\ Q)) (h : Q -> R w) :
   ∃ J : FP [], B J /\ AllJ n (∀ wj : World, J wj -> R wj) := by
 refine ⟨fun w' => w' = w /\ Q, hB, AllJ.of ?_ _⟩
 rintro wj ⟨rfl, hq⟩; exact h hq
theorem worldJ {n : Nat} {R : World -> Prop} {B : (World -> Prop) -> Prop} (Q : World -> Prop) (hB : B Q) (h : ∀ w, Q w -> R w) :
   ∃ J : FP [], B J /\ AllJ n (∀ wj : World, J wj -> R wj) := ⟨Q, hB, AllJ.of h _⟩
theorem qgN {n : Nat} {R : Bool -> World -> Prop} {B : (Bool -> World -> Prop) -> Prop} (Q : Bool -> World -> Prop) (hB : B Q) (h : ∀ b w, Q b w -> R b w) :
   ∃ J : FP [.one (.bool)], B J /\ ∀ b : Bool, AllJ n (∀ wj : World, J b wj -> R b wj) := ⟨Q, hB, fun b => AllJ.of (h b) _⟩
theorem andJ {n : Nat} {w : World} {c x : Bool} {R : Bool -> World -> Prop} (h : R (c && x) w) : ∃ J : FP [.one (.bool)], BCase c (J x w) (J false w) /\ ∀ b : Bool, AllJ n (∀ wj : World, J b wj -> R b wj) :=
 j3 (B := fun J => BCase c (J x w) (J false w)) (c && x) (BCase.of (fun h => ⟨rfl, by rw [h]; rfl⟩) (fun h => ⟨rfl, by rw [h]; rfl⟩)) h
theorem orJ {n : Nat} {w : World} {c x : Bool} {R : Bool -> World -> Prop} (h : R (c || x) w) : ∃ J : FP [.one (.bool)], BCase c (J true w) (J x w) /\ ∀ b : Bool, AllJ n (∀ wj : World, J b wj -> R b wj) :=
 j3 (B := fun J => BCase c (J true w) (J x w)) (c || x) (BCase.of (fun h => ⟨rfl, by rw [h]; rfl⟩) (fun h => ⟨rfl, by rw [h]; rfl⟩)) h
theorem qnH {α : Type} {T : Ty α} (hfl : Flat T) {P : Program} {st t ty : TypeId} {bytes : Nat} {z : Value} (hu : P.underlying st = some (.slice t)) (tf : TF P t T.k bytes z) (hb0 : 0 < bytes)
   {w0 w w1 : World} {a : Option Addr} {n c : Nat} {xs : List α} (ho : Ow T t w NoB a n c xs) (hf : zq w0.heap.size a) (hb : Below w0.heap.size w0 w) {k1 : Nat} {vs : List Value} {x : α} (hk : k1 = w.heap.size)
   (hw : w1 = w.alloc (.cells vs.toArray t)) (hx : T.rep w NoB vs x) {cm : Nat} (hbound : (xs.length + 1) * bytes <= 140737488355328) :
   ∃ (w2 : World) (a' : Option Addr) (n' c' : Nat), (Builtin.append_ #[st, st] ty #[.slice a n c, .slice (some ⟨k1, 0, none⟩) 1 cm]).run P w1 = .ok (.slice a' n' c') w2 /\ Ow T t w2 NoB a' n' c' (xs ++ [x]) /\ zq w0.heap.size a' /\ Below w0.heap.size w0 w2 := by
 have hB1 : Below w.heap.size w w1 := hw ▸ qj w _
 have ho3 := ho.below hB1
 have hsrc : Src T w1 NoB (some ⟨k1, 0, none⟩) 1 [x] := Src.new1F hfl hk hw hx
 obtain ⟨w4, a4, n4, c4, hr, ho4, hgr, hfr⟩ := qdb (ty := ty) hu tf hb0 ho3 (fun _ _ h => h) (cm := cm) hsrc (by simpa using hbound)
 have hB := qd hb hB1 hb.size
 exact ⟨w4, a4, n4, c4, hr, ho4, hf.app hB.size hfr, hB.grown hgr hB.size hf⟩
theorem qaF {P : Program} {f : FuncId} {args : Array Value} {w u : World} {v : Value} (h : Calls P f args u (Ret fun v' w' => v' = v /\ Below u.heap.size u w')) (hu : Below w.heap.size w u) :
   Calls P f args u fun e w' => e = .returned v /\ Below w.heap.size u w' := by
 refine h.mono ?_
 rintro _ w' ⟨_, rfl, rfl, hb⟩
 exact ⟨rfl, hb.mono hu.size⟩
theorem fits {a b : Nat} (h : a + b <= 9223372036854775807) : ((a + b : Nat) : Int) <= i64.max := by simp [IntKind.max, IntKind.bits]; omega
theorem qhZ {t b : Int} (hb : 0 < b) : (0 <= t -> Int.tdiv t b = t / b /\ Int.tmod t b = t % b) /\ (t < 0 -> Int.tdiv t b = -((-t) / b) /\ Int.tmod t b = -((-t) % b)) := by
 refine ⟨fun h => ⟨Int.tdiv_eq_ediv_of_nonneg h, Int.tmod_eq_emod_of_nonneg h⟩, fun h => ?_⟩
 obtain ⟨u, rfl⟩ : ∃ u, t = -u := ⟨-t, by omega⟩
 rw [Int.neg_tdiv, Int.neg_tmod, Int.neg_neg, Int.tdiv_eq_ediv_of_nonneg (by omega), Int.tmod_eq_emod_of_nonneg (by omega)]
 exact ⟨rfl, rfl⟩
theorem qeb {α : Type} (p : α -> Bool) : ∀ (s : List α) (k : Nat) (hk : k < s.length), k <= (s.takeWhile p).length -> (p s[k] = true ↔ k < (s.takeWhile p).length)
 | [], k, hk, _ => by cases hk
 | c :: s, 0, hk, _ => by
   rw [List.takeWhile_cons]
   simp only [List.getElem_cons_zero]
   cases h : p c <;> simp
 | c :: s, k + 1, hk, h => by
   rw [List.takeWhile_cons] at h ⊢
   cases hc : p c with
   | false => rw [hc] at h; simp at h
   | true =>
     rw [hc] at h
     simp only [if_true, List.length_cons] at h ⊢
     have := qeb p s k (by simpa using hk) (by omega)
     simp only [List.getElem_cons_succ]
     rw [this]; omega
theorem zd {α : Type} (p : α -> Bool) (s : List α) : (s.takeWhile p).length <= s.length := (List.takeWhile_sublist p).length_le
end Go.Pk
namespace Go.Pk
open Go.RowKit (Below)
theorem qAZ {P : Program} {name : String} {k : IntKind} {zs : List Int} {w w' : World} (h : Lib.TabIs P w name k zs) (hb : ∀ b, b < w.heap.size -> w'.heap[b]? = w.heap[b]?) : Lib.TabIs P w' name k zs := by
 unfold Lib.TabIs World.var? at h ⊢
 cases hg : P.globalNamed name with
 | none => rw [hg] at h; cases h
 | some g =>
   rw [hg] at h
   simp only [Option.bind_some] at h ⊢
   have hlt : g < w.heap.size := by
     cases hh : w.heap[g]? with
     | none => rw [hh] at h; cases h
     | some o => exact (Array.getElem?_eq_some_iff.1 hh).1
   rw [hb g hlt]; exact h
end Go.Pk
namespace Go.Proofs.YtlfolncaghkmcaaGreatDoor
open Go.Pk
open Go.RowKit (Below)
structure Env (w : World) : Prop where
 tab : Lib.TabIs prog w "internal/strconv.uint64pow10" .u64 Lib.pow10Tab
 max : ∃ m : Int, w.cell? ⟨0, 0, none⟩ = some (.int .i64 m)
 tz : w.cell? ⟨7, 15, none⟩ = some (.int .u8 4)
theorem qzN {w : World} {b o : Nat} {v : Value} (h : w.cell? ⟨b, o, none⟩ = some v) : b < w.heap.size := by
 cases hh : w.heap[b]? with
 | none => simp [World.cell?, hh] at h
 | some x => exact (Array.getElem?_eq_some_iff.1 hh).1
theorem Env.same {w w' : World} (h : Env w) (hb : ∀ b, b < w.heap.size -> w'.heap[b]? = w.heap[b]?) : Env w' := by
 obtain ⟨m, hm⟩ := h.max
 exact ⟨qAZ h.tab hb, ⟨m, by rw [qsE (hb _ (qzN hm))]; exact hm⟩, by rw [qsE (hb _ (qzN h.tz))]; exact h.tz⟩
theorem Env.step {w w' : World} (h : Env w) (hb : Below w.heap.size w w') : Env w' := h.same fun b hlt => hb.block b hlt
theorem Env.grown {w0 w w' : World} {row : Option Nat} (h0 : Env w0) (h : Env w) (hg : w.grownBy w' row) (hr : ∀ x, row = some x -> w0.heap.size <= x) (hb : Below w0.heap.size w0 w) : Env w' :=
 h0.step (hb.grown hg hb.size hr)
end Go.Proofs.YtlfolncaghkmcaaGreatDoor
namespace Go.Pk
def cutC (c : UInt8) : List UInt8 -> List UInt8 -> List (List UInt8)
 | cur, [] => [cur]
 | cur, x :: r => if x = c then cur :: cutC c [] r else cutC c (cur ++ [x]) r
theorem qon (c : UInt8) : ∀ (a cur r : List UInt8), (∀ x ∈ a, x ≠ c) -> cutC c cur (a ++ c :: r) = (cur ++ a) :: cutC c [] r
 | [], cur, r, _ => by
   show (if c = c then _ else _) = _
   rw [if_pos rfl, List.append_nil]
 | x :: a, cur, r, ha => by
   show (if x = c then _ else _) = _
   rw [if_neg (ha x List.mem_cons_self)]
   exact (qon c a (cur ++ [x]) r fun y hy => ha y (List.mem_cons_of_mem _ hy)).trans (by simp)
theorem qlo (c : UInt8) : ∀ (a cur : List UInt8), (∀ x ∈ a, x ≠ c) -> cutC c cur a = [cur ++ a]
 | [], cur, _ => by simp [cutC]
 | x :: a, cur, ha => by
   show (if x = c then _ else _) = _
   rw [if_neg (ha x List.mem_cons_self)]
   exact (qlo c a (cur ++ [x]) fun y hy => ha y (List.mem_cons_of_mem _ hy)).trans (by simp)
theorem qCE (c : UInt8) (s cur : List UInt8) (k : Nat) (h : k < s.length) : cutC c cur (s.drop k) = if s[k] = c then cur :: cutC c [] (s.drop (k + 1)) else cutC c (cur ++ [s[k]]) (s.drop (k + 1)) := by
 rw [List.drop_eq_getElem_cons h]; rfl
theorem qcw (c : UInt8) : ∀ (s cur : List UInt8), cutC c cur s ≠ []
 | [], cur => by simp [cutC]
 | x :: s, cur => by
   show (if x = c then _ else _) ≠ _
   split
   · simp
   · exact qcw c s _
theorem qhE (c : UInt8) : ∀ (s cur x : List UInt8), x ∈ cutC c cur s -> x.length <= cur.length + s.length
 | [], cur, x, h => by simp [cutC] at h; subst h; simp
 | y :: r, cur, x, h => by
   unfold cutC at h
   split at h
   · rcases List.mem_cons.1 h with rfl | h
     · simp
     · have := qhE c r [] x h; simp at this ⊢; omega
   · have := qhE c r _ x h; simp at this ⊢; omega
theorem qbH (c : UInt8) : ∀ (s cur : List UInt8), (cutC c cur s).length <= s.length + 1
 | [], cur => by simp [cutC]
 | y :: r, cur => by
   unfold cutC
   split
   · have := qbH c r []; simp; omega
   · have := qbH c r (cur ++ [y]); simp; omega
theorem qvB (c : UInt8) : ∀ (s cur x : List UInt8), x ∈ cutC c cur s -> (∀ y ∈ cur, y ≠ c) -> ∀ y ∈ x, (y ∈ cur \/ y ∈ s) /\ y ≠ c
 | [], cur, x, h, hc, y, hy => by simp [cutC] at h; subst h; exact ⟨.inl hy, hc y hy⟩
 | z :: r, cur, x, h, hc, y, hy => by
   unfold cutC at h
   split at h
   · rcases List.mem_cons.1 h with rfl | h
     · exact ⟨.inl hy, hc y hy⟩
     · have := qvB c r [] x h (fun _ h => by cases h) y hy
       refine ⟨.inr (List.mem_cons_of_mem _ ?_), this.2⟩
       rcases this.1 with h | h
       · cases h
       · exact h
   · rename_i hz
     have := qvB c r (cur ++ [z]) x h (fun y hy => by
       rcases List.mem_append.1 hy with h | h
       · exact hc y h
       · simp at h; subst h; exact hz) y hy
     refine ⟨?_, this.2⟩
     rcases this.1 with h | h
     · rcases List.mem_append.1 h with h | h
       · exact .inl h
       · simp at h; subst h; exact .inr List.mem_cons_self
     · exact .inr (List.mem_cons_of_mem _ h)
theorem qaj (c : UInt8) : ∀ (s cur r : List UInt8), cutC c cur (s ++ c :: r) = cutC c cur s ++ cutC c [] r
 | [], cur, r => by
   show (if c = c then _ else _) = _
   rw [if_pos rfl]; rfl
 | x :: s, cur, r => by
   show (if x = c then cur :: cutC c [] (s ++ c :: r) else cutC c (cur ++ [x]) (s ++ c :: r)) = (if x = c then cur :: cutC c [] s else cutC c (cur ++ [x]) s) ++ cutC c [] r
   split
   · rw [qaj c s]; rfl
   · rw [qaj c s]
theorem qu5 (s : List UInt8) (c : UInt8) : (Lib.index s [c] = -1 /\ ∀ x ∈ s, x ≠ c) \/ ∃ i : Nat, Lib.index s [c] = (i : Int) /\ ∃ h : i < s.length, s = s.take i ++ c :: s.drop (i + 1) /\ ∀ x ∈ s.take i, x ≠ c := by
 induction s with
 | nil => exact .inl ⟨rfl, fun x h => by cases h⟩
 | cons b l ih =>
   by_cases h : b = c
   · subst h
     refine .inr ⟨0, by rw [Lib.index]; simp [List.isPrefixOf], by simp, rfl, fun x h => by simp at h⟩
   · have hp : ([c] : List UInt8).isPrefixOf (b :: l) = false := by simp [List.isPrefixOf, Ne.symm h]
     have hix : Lib.index (b :: l) [c] = if Lib.index l [c] == -1 then -1 else Lib.index l [c] + 1 := by rw [Lib.index, hp]; simp
     rcases ih with ⟨h1, h2⟩ | ⟨i, h1, h2, h3, h4⟩
     · refine .inl ⟨by rw [hix, h1]; rfl, fun x hx => ?_⟩
       rcases List.mem_cons.1 hx with rfl | hx
       · exact h
       · exact h2 x hx
     · refine .inr ⟨i + 1, ?_, by simpa using h2, ?_, fun x hx => ?_⟩
       · rw [hix, h1, if_neg (by rw [beq_iff_eq]; omega)]; omega
       · simp only [List.take_succ_cons, List.drop_succ_cons, List.cons_append]
         rw [<- h3]
       · rw [List.take_succ_cons] at hx
         rcases List.mem_cons.1 hx with rfl | hx
         · exact h
         · exact h4 x hx
theorem qtK (c : UInt8) : ∀ (n : Nat) (s : List UInt8), s.length <= n -> Lib.splitK [c] 0 (Lib.count s [c]) s = cutC c [] s
 | n, s, hn => by
   rcases qu5 s c with ⟨h1, h2⟩ | ⟨i, h1, h2, h3, h4⟩
   · rw [Lib.count_miss h1, qlo c s [] h2]; rfl
   · have hc := Lib.count_hit (s := s) (sub := [c]) (by simp) h1
     cases n with
     | zero => omega
     | succ n =>
       have ih := qtK c n (s.drop (i + 1)) (by rw [List.length_drop]; omega)
       rw [hc, Nat.add_comm 1]
       unfold Lib.splitK
       rw [if_neg (by rw [h1, beq_iff_eq]; omega), h1]
       simp only [Int.toNat_natCast, Nat.add_zero, List.length_cons, List.length_nil, Nat.zero_add]
       rw [ih]
       conv => rhs; rw [h3, qon c _ _ _ h4]
       simp
theorem qtL (s : List UInt8) (c : UInt8) : (Lib.splitB (mkS [c]) 0 (Lib.countB (mkS s) (mkS [c])) (mkS s)).map Value.string = (cutC c [] s).map fun x => Value.string (mkS x) := by
 have h := Lib.splitB_data (mkS [c]) 0 (Lib.countB (mkS s) (mkS [c])) (mkS s)
 have h2 : Lib.splitK (mkS [c]).data.toList 0 (Lib.countB (mkS s) (mkS [c])) (mkS s).data.toList = cutC c [] s := qtK c _ s (Nat.le_refl _)
 rw [h2] at h
 rw [<- h, List.map_map]
 rfl
theorem qx3 (s : List UInt8) (c : UInt8) : Lib.countB (mkS s) (mkS [c]) + 1 = (cutC c [] s).length := by
 have h := qtL s c
 have h2 := congrArg List.length h
 rw [List.length_map, List.length_map, Lib.splitB_all (mkS [c]) (Nat.le_refl 1) 0 _ _ rfl] at h2
 exact h2
theorem qBj (s : List UInt8) (c : UInt8) : Lib.cut s [c] = if c ∈ s then (s.takeWhile (· != c), (s.dropWhile (· != c)).drop 1, true) else (s, [], false) := by
 unfold Lib.cut
 rcases qu5 s c with ⟨h1, h2⟩ | ⟨i, h1, h2, h3, h4⟩
 · rw [h1, if_neg (by omega), if_neg (fun h => h2 c h rfl)]
 · have hmem : c ∈ s := by rw [h3]; simp
   rw [h1, if_pos (by omega), if_pos hmem]
   have ht : s.takeWhile (· != c) = s.take i := by
     conv => lhs; rw [h3]
     rw [List.takeWhile_append_of_pos (by intro a ha; simpa using h4 a ha)]
     simp
   have hd : s.dropWhile (· != c) = c :: s.drop (i + 1) := by
     conv => lhs; rw [h3]
     rw [List.dropWhile_append_of_pos (by intro a ha; simpa using h4 a ha)]
     simp
   rw [ht, hd]; rfl
end Go.Pk
namespace Go.Pk
def qkl (y : Int) : Bool := (decide (Int.tmod y 4 = 0) && decide (Int.tmod y 100 ≠ 0)) || decide (Int.tmod y 400 = 0)
def lenM (y m : Int) : Int := if m = 2 then (if qkl y then 29 else 28) else if m = 4 \/ m = 6 \/ m = 9 \/ m = 11 then 30 else 31
def lenY (y : Int) : Int := if qkl y then 366 else 365
theorem tmod_pos {a b : Int} (h : 0 <= a) : Int.tmod a b = a % b := Int.tmod_eq_emod_of_nonneg h
theorem tdiv_pos {a b : Int} (h : 0 <= a) : Int.tdiv a b = a / b := Int.tdiv_eq_ediv_of_nonneg h
theorem qwK {y : Int} (h : 0 <= y) : qkl y = true ↔ (y % 4 = 0 /\ y % 100 ≠ 0) \/ y % 400 = 0 := by
 unfold qkl
 rw [tmod_pos h, tmod_pos h, tmod_pos h]
 simp
theorem qyJ {y : Int} (h : 1 <= y) : ∃ a b c e : Int, y = 400 * a + 100 * b + 4 * c + e + 1 /\ 0 <= a /\ 0 <= b /\ b <= 3 /\ 0 <= c /\ c <= 24 /\ 0 <= e /\ e <= 3 :=
 ⟨(y - 1) / 400, (y - 1) % 400 / 100, (y - 1) % 100 / 4, (y - 1) % 4, by omega, by omega, by omega, by omega, by omega, by omega, by omega, by omega⟩
theorem qu8 {a b c e : Int} (ha : 0 <= a) (hb : 0 <= b) (hb2 : b <= 3) (hc : 0 <= c) (hc2 : c <= 24) (he : 0 <= e) (he2 : e <= 3) : qkl (400 * a + 100 * b + 4 * c + e + 1) = true ↔ e = 3 /\ (c ≠ 24 \/ b = 3) := by
 rw [qwK (by omega)]
 have h1 : (400 * a + 100 * b + 4 * c + e + 1) % 4 = 0 ↔ e = 3 := by omega
 have h2 : (400 * a + 100 * b + 4 * c + e + 1) % 100 = 0 ↔ e = 3 /\ c = 24 := by omega
 have h3 : (400 * a + 100 * b + 4 * c + e + 1) % 400 = 0 ↔ e = 3 /\ c = 24 /\ b = 3 := by omega
 rw [h1, h3, ne_eq, h2]; omega
def dY (y : Int) : Int := 365 * (y - 1) + (y - 1) / 4 - (y - 1) / 100 + (y - 1) / 400
theorem qop {a b c e : Int} (ha : 0 <= a) (hb : 0 <= b) (hb2 : b <= 3) (hc : 0 <= c) (hc2 : c <= 24) (he : 0 <= e) (he2 : e <= 3) : dY (400 * a + 100 * b + 4 * c + e + 1) = 365 * (400 * a + 100 * b + 4 * c + e) + (97 * a + 24 * b + c) := by
 unfold dY
 have h1 : (400 * a + 100 * b + 4 * c + e + 1 - 1) / 4 = 100 * a + 25 * b + c := by omega
 have h2 : (400 * a + 100 * b + 4 * c + e + 1 - 1) / 100 = 4 * a + b := by omega
 have h3 : (400 * a + 100 * b + 4 * c + e + 1 - 1) / 400 = a := by omega
 rw [h1, h2, h3]; omega
theorem qh3 {y : Int} (h : 1 <= y) : dY (y + 1) = dY y + lenY y := by
 obtain ⟨a, b, c, e, rfl, ha, hb, hb2, hc, hc2, he, he2⟩ := qyJ h
 have hl := qu8 ha hb hb2 hc hc2 he he2
 rw [qop ha hb hb2 hc hc2 he he2]
 unfold lenY
 by_cases h3 : e = 3
 · subst h3
   by_cases h24 : c = 24
   · subst h24
     by_cases h33 : b = 3
     · subst h33
       rw [if_pos (hl.2 ⟨rfl, .inr rfl⟩)]
       rw [show 400 * a + 100 * 3 + 4 * 24 + 3 + 1 + 1 = 400 * (a + 1) + 100 * 0 + 4 * 0 + 0 + 1 by omega, qop (by omega) (by omega) (by omega) (by omega) (by omega) (by omega) (by omega)]; omega
     · rw [if_neg (fun h => by have := hl.1 h; omega)]
       rw [show 400 * a + 100 * b + 4 * 24 + 3 + 1 + 1 = 400 * a + 100 * (b + 1) + 4 * 0 + 0 + 1 by omega, qop (by omega) (by omega) (by omega) (by omega) (by omega) (by omega) (by omega)]; omega
   · rw [if_pos (hl.2 ⟨rfl, .inl h24⟩)]
     rw [show 400 * a + 100 * b + 4 * c + 3 + 1 + 1 = 400 * a + 100 * b + 4 * (c + 1) + 0 + 1 by omega, qop (by omega) (by omega) (by omega) (by omega) (by omega) (by omega) (by omega)]; omega
 · rw [if_neg (fun h => by have := hl.1 h; omega)]
   rw [show 400 * a + 100 * b + 4 * c + e + 1 + 1 = 400 * a + 100 * b + 4 * c + (e + 1) + 1 by omega, qop (by omega) (by omega) (by omega) (by omega) (by omega) (by omega) (by omega)]; omega
def cM (y m : Int) : Int := if m = 1 then 0 else if m = 2 then 31 else (if qkl y then 1 else 0) +
 (if m = 3 then 59 else if m = 4 then 90 else if m = 5 then 120 else if m = 6 then 151 else if m = 7 then 181 else if m = 8 then 212 else if m = 9 then 243 else if m = 10 then 273 else if m = 11 then 304 else if m = 12 then 334 else 365)
theorem months {m : Int} (h1 : 1 <= m) (h2 : m <= 12) : m = 1 \/ m = 2 \/ m = 3 \/ m = 4 \/ m = 5 \/ m = 6 \/ m = 7 \/ m = 8 \/ m = 9 \/ m = 10 \/ m = 11 \/ m = 12 := by omega
theorem qj0 {y m : Int} (h1 : 1 <= m) (h2 : m <= 12) : cM y (m + 1) = cM y m + lenM y m := by
 unfold cM lenM
 rcases months h1 h2 with rfl | rfl | rfl | rfl | rfl | rfl | rfl | rfl | rfl | rfl | rfl | rfl <;> cases qkl y <;> simp
theorem quZ (y : Int) : cM y 13 = lenY y := by unfold cM lenY; cases qkl y <;> simp
theorem qfX (y m : Int) : 28 <= lenM y m /\ lenM y m <= 31 := by unfold lenM; split <;> (try split) <;> omega
theorem qpY {y m : Int} (h1 : 1 <= m) (h2 : m <= 12) : 0 <= cM y m /\ cM y m <= 335 := by
 unfold cM
 rcases months h1 h2 with rfl | rfl | rfl | rfl | rfl | rfl | rfl | rfl | rfl | rfl | rfl | rfl <;> cases qkl y <;> simp
def zz (y m d : Int) : Prop := 1601 <= y /\ y <= 9999 /\ 1 <= m /\ m <= 12 /\ 1 <= d /\ d <= lenM y m
instance (y m d : Int) : Decidable (zz y m d) := by unfold zz; infer_instance
def jZ (y m d : Int) : Int := dY y - 719162 + cM y m + d - 1
theorem qi5 (y : Int) : 365 <= lenY y /\ lenY y <= 366 := by unfold lenY; split <;> omega
theorem qB7 {a : Int} (h : 1 <= a) : ∀ k : Nat, dY a <= dY (a + k)
 | 0 => by simp
 | k + 1 => by
   have h1 := qB7 h k
   have h2 := qh3 (y := a + k) (by omega)
   have h3 := qi5 (a + k)
   rw [show a + ((k + 1 : Nat) : Int) = a + k + 1 by omega]; omega
theorem qlU {a b : Int} (h1 : 1 <= a) (h : a <= b) : dY a <= dY b := by
 have := qB7 h1 (b - a).toNat
 rwa [show a + ((b - a).toNat : Int) = b by omega] at this
theorem qkL {y : Int} (h1 : 1601 <= y) (h2 : y <= 10000) : 584388 <= dY y /\ dY y <= 3652059 := by
 have e1 := qlU (a := 1601) (b := y) (by omega) h1
 have e2 := qlU (a := y) (b := 10000) (by omega) h2
 have e3 : dY 1601 = 584388 := by decide
 have e4 : dY 10000 = 3652059 := by decide
 omega
theorem qB5 {y a : Int} (h : 1 <= a) : ∀ k : Nat, a + k <= 13 -> cM y a <= cM y (a + k)
 | 0, _ => by simp
 | k + 1, hk => by
   have h1 := qB5 (y := y) h k (by omega)
   have h2 := qj0 (y := y) (m := a + k) (by omega) (by omega)
   have h3 := qfX y (a + k)
   rw [show a + ((k + 1 : Nat) : Int) = a + k + 1 by omega]; omega
theorem qvy {y a b : Int} (h1 : 1 <= a) (h : a <= b) (h2 : b <= 13) : cM y a <= cM y b := by
 have := qB5 (y := y) h1 (b - a).toNat (by omega)
 rwa [show a + ((b - a).toNat : Int) = b by omega] at this
theorem march {y m d : Int} (hy : 1 <= y) (h1 : 1 <= m) (h2 : m <= 12) (Y M : Int) (hY : Y = if m - 3 < 0 then y - 1 else y) (hM : M = if m - 3 < 0 then m + 9 else m - 3) :
   Y / 400 * 146097 + Y % 400 * 365 + Y % 400 / 4 - Y % 400 / 100 + (153 * M + 2) / 5 + d - 1 - 719468 = jZ y m d := by
 obtain ⟨a, b, c, e, rfl, ha, hb, hb2, hc, hc2, he, he2⟩ := qyJ (y := y) (by omega)
 have hl := qu8 ha hb hb2 hc hc2 he he2
 unfold jZ
 rw [qop ha hb hb2 hc hc2 he he2]
 by_cases hm : m - 3 < 0
 · rw [if_pos hm] at hY hM
   subst hY
   have e1 : (400 * a + 100 * b + 4 * c + e + 1 - 1) / 400 = a := by omega
   have e2 : (400 * a + 100 * b + 4 * c + e + 1 - 1) % 400 = 100 * b + 4 * c + e := by omega
   have e3 : (100 * b + 4 * c + e) / 4 = 25 * b + c := by omega
   have e4 : (100 * b + 4 * c + e) / 100 = b := by omega
   rw [e1, e2, e3, e4]
   have : m = 1 \/ m = 2 := by omega
   rcases this with rfl | rfl <;> subst hM <;> unfold cM <;> simp <;> omega
 · rw [if_neg hm] at hY hM
   subst hY
   have hc' : cM (400 * a + 100 * b + 4 * c + e + 1) m = (if qkl (400 * a + 100 * b + 4 * c + e + 1) = true then 1 else 0) + 59 + (153 * M + 2) / 5 := by
     have : m = 3 \/ m = 4 \/ m = 5 \/ m = 6 \/ m = 7 \/ m = 8 \/ m = 9 \/ m = 10 \/ m = 11 \/ m = 12 := by omega
     rcases this with rfl | rfl | rfl | rfl | rfl | rfl | rfl | rfl | rfl | rfl <;> subst hM <;> unfold cM <;> simp <;> omega
   rw [hc']
   have key : (400 * a + 100 * b + 4 * c + e + 1) / 400 * 146097 + (400 * a + 100 * b + 4 * c + e + 1) % 400 * 365 + (400 * a + 100 * b + 4 * c + e + 1) % 400 / 4 - (400 * a + 100 * b + 4 * c + e + 1) % 400 / 100 =
       365 * (400 * a + 100 * b + 4 * c + e + 1) + (97 * a + 24 * b + c) + (if qkl (400 * a + 100 * b + 4 * c + e + 1) = true then 1 else 0) := by
     by_cases h3 : e = 3
     · subst h3
       by_cases h24 : c = 24
       · subst h24
         by_cases h33 : b = 3
         · subst h33
           rw [if_pos (hl.2 ⟨rfl, .inr rfl⟩)]
           have e1 : (400 * a + 100 * 3 + 4 * 24 + 3 + 1) / 400 = a + 1 := by omega
           have e2 : (400 * a + 100 * 3 + 4 * 24 + 3 + 1) % 400 = 0 := by omega
           rw [e1, e2]; omega
         · rw [if_neg (fun h => by have := hl.1 h; omega)]
           have e1 : (400 * a + 100 * b + 4 * 24 + 3 + 1) / 400 = a := by omega
           have e2 : (400 * a + 100 * b + 4 * 24 + 3 + 1) % 400 = 100 * (b + 1) := by omega
           have e3 : (100 * (b + 1)) / 4 = 25 * (b + 1) := by omega
           have e4 : (100 * (b + 1)) / 100 = b + 1 := by omega
           rw [e1, e2, e3, e4]; omega
       · rw [if_pos (hl.2 ⟨rfl, .inl h24⟩)]
         have e1 : (400 * a + 100 * b + 4 * c + 3 + 1) / 400 = a := by omega
         have e2 : (400 * a + 100 * b + 4 * c + 3 + 1) % 400 = 100 * b + 4 * (c + 1) := by omega
         have e3 : (100 * b + 4 * (c + 1)) / 4 = 25 * b + c + 1 := by omega
         have e4 : (100 * b + 4 * (c + 1)) / 100 = b := by omega
         rw [e1, e2, e3, e4]; omega
     · rw [if_neg (fun h => by have := hl.1 h; omega)]
       have e1 : (400 * a + 100 * b + 4 * c + e + 1) / 400 = a := by omega
       have e2 : (400 * a + 100 * b + 4 * c + e + 1) % 400 = 100 * b + 4 * c + e + 1 := by omega
       have e3 : (100 * b + 4 * c + e + 1) / 4 = 25 * b + c := by omega
       have e4 : (100 * b + 4 * c + e + 1) / 100 = b := by omega
       rw [e1, e2, e3, e4]; omega
   omega
theorem qym {y m d : Int} (h : zz y m d) : dY y <= jZ y m d + 719162 /\ jZ y m d + 719162 < dY (y + 1) /\ cM y m <= jZ y m d + 719162 - dY y /\ jZ y m d + 719162 - dY y < cM y (m + 1) := by
 obtain ⟨h1, h2, h3, h4, h5, h6⟩ := h
 have e1 := qpY (y := y) h3 (by omega)
 have e2 := qj0 (y := y) h3 h4
 have e3 := qvy (y := y) (a := m + 1) (b := 13) (by omega) (by omega) (by omega)
 have e4 := qh3 (y := y) (by omega)
 have e5 := quZ y
 unfold jZ
 omega
theorem qyn {y m d a b c : Int} (h : zz y m d) (k : zz a b c) (e : jZ y m d = jZ a b c) : y = a /\ m = b /\ d = c := by
 have hy1 := h.1
 have ha1 := k.1
 have h1 := qym h
 have k1 := qym k
 rw [e] at h1
 have hy : y = a := by
   rcases Int.lt_trichotomy y a with c | c | c
   · have := qlU (show 1 <= y + 1 by omega) (show y + 1 <= a by omega); omega
   · exact c
   · have := qlU (show 1 <= a + 1 by omega) (show a + 1 <= y by omega); omega
 subst hy
 obtain ⟨_, _, p1, p2, _, _⟩ := h
 obtain ⟨_, _, q1, q2, _, _⟩ := k
 have hm : m = b := by
   rcases Int.lt_trichotomy m b with c | c | c
   · have := qvy (y := y) (a := m + 1) (b := b) (by omega) (by omega) (by omega); omega
   · exact c
   · have := qvy (y := y) (a := b + 1) (b := m) (by omega) (by omega) (by omega); omega
 subst hm
 refine ⟨rfl, rfl, ?_⟩
 unfold jZ at e; omega
end Go.Pk
set_option maxRecDepth 20000
namespace Go.Proofs.YtlfolncaghkmcaaGreatDoor
open Go.Pk
open Go.RowKit (Below)
theorem qwz (y : Int) (w : World) : Calls prog qps #[.int .i64 y] w (Ret fun v w' => v = .bool (qkl y) /\ w' = w) := by
 apply qv8
 unfold qrM qkl
 refine ⟨by decide, ?_⟩
 rintro _ rfl
 refine BCase.of (fun h => ?_) (fun h => ?_) <;> simp at h
 · refine ⟨by decide, ?_⟩
   rintro _ rfl
   refine BCase.of (fun h2 => ?_) (fun h2 => ?_) <;> simp at h2
   · exact ⟨by simp [h, h2], rfl⟩
   · refine ⟨by decide, ?_⟩
     rintro _ rfl
     refine ⟨?_, rfl⟩
     congr 1
     rw [Bool.eq_iff_iff]; simp [h, h2]
 · refine ⟨by decide, ?_⟩
   rintro _ rfl
   refine ⟨?_, rfl⟩
   congr 1
   rw [Bool.eq_iff_iff]; simp [h]
def qoB (y m d : Int) : Value := .tuple #[.int .i64 (if zz y m d then jZ y m d else 0), .bool (decide (zz y m d))]
end Go.Proofs.YtlfolncaghkmcaaGreatDoor
namespace Go.Proofs.YtlfolncaghkmcaaGreatDoor
open Go.Pk
open Go.RowKit (Below)
def lenTab : List Int := [31, 28, 31, 30, 31, 30, 31, 31, 30, 31, 30, 31]
theorem qC7 : ∀ c ∈ (Value.agg (lenTab.map fun n => Value.int .i64 n).toArray).cells.toList, c.oneCell' = true := by
 intro c hc
 obtain ⟨n, _, rfl⟩ : ∃ n, n ∈ lenTab /\ Value.int .i64 n = c := by simpa [Value.cells] using hc
 rfl
theorem qub (y m : Int) (h1 : 1 <= m) (h2 : m <= 12) (w : World) : Calls prog ql1 #[.int .i64 y, .int .i64 m] w (Ret fun v w' => v = .int .i64 (lenM y m) /\ Below w.heap.size w w') := by
 apply qtn
 unfold qoY
 intro k w1 hk hw1
 have hB1 : Below w.heap.size w w1 := hw1 ▸ qj _ _
 have ha1 : qk w1 k qlO (List.replicate 12 (.int .i64 0)) := qk.new hk hw1
 obtain ⟨w2, hst, ha2, hg⟩ := ha1.store (P := prog) qxc (i := 0) (v := .agg (lenTab.map fun n => Value.int .i64 n).toArray) rfl (by decide) qC7
 refine ⟨w2, hst, ?_⟩
 have hB2 := hB1.grown hg hB1.size (fun x e => by cases e; omega)
 refine ⟨fun w' => w' = w2 /\ (m = 2 -> qkl y = false), ?_, ?_⟩
 · refine BCase.of (fun h => ?_) (fun h => ?_) <;> simp at h
   · refine callK (qwz y _) ?_
     rintro _ w2 ⟨rfl, rfl⟩
     refine ⟨_, rfl, ?_⟩
     refine BCase.of (fun h3 => ?_) (fun h3 => ?_)
     · refine ⟨?_, hB2⟩
       unfold lenM; rw [if_pos h, if_pos h3]
     · exact ⟨rfl, fun _ => h3⟩
   · exact ⟨rfl, fun e => absurd e h⟩
 · refine AllJ.of ?_ _
   rintro w2 ⟨rfl, hlp⟩
   rw [wrap_i64 (by omega) (by omega)]
   refine ⟨⟨⟨by omega, by omega⟩, rfl⟩, ?_⟩
   refine ⟨lenM y m, ?_, rfl, hB2⟩
   rw [qfR, Nat.zero_add, Nat.mul_one]
   refine ha2.load1 qK rfl ?_
   unfold lenM
   rcases months h1 h2 with rfl | rfl | rfl | rfl | rfl | rfl | rfl | rfl | rfl | rfl | rfl | rfl <;> simp [lenTab, Value.cells]
   simp [hlp]
theorem qm9 (y m d : Int) (hd : -9223372036854775808 <= d /\ d <= 9223372036854775807) (w : World) : Calls prog qj5 #[.int .i64 y, .int .i64 m, .int .i64 d] w (Ret fun v w' => v = qoB y m d /\ Below w.heap.size w w') := by
 apply qv6
 unfold qrK
 have bad : ∀ w', Below w.heap.size w w' -> ¬ zz y m d -> (Value.tuple #[.int .i64 0, .bool false] = qoB y m d /\ Below w.heap.size w w') := fun w' hb h => by
   refine ⟨?_, hb⟩
   unfold qoB; rw [if_neg h]; simp [h]
 refine ⟨fun w' => zz y m d /\ Below w.heap.size w w', ?_, ?_⟩
 · refine BCase.of (fun h1 => ?_) (fun h1 => ?_) <;> simp at h1
   · exact bad _ (Below.refl _ _) (by unfold zz; omega)
   refine BCase.of (fun h2 => ?_) (fun h2 => ?_) <;> simp at h2
   · exact bad _ (Below.refl _ _) (by unfold zz; omega)
   refine BCase.of (fun h3 => ?_) (fun h3 => ?_) <;> simp at h3
   · exact bad _ (Below.refl _ _) (by unfold zz; omega)
   refine BCase.of (fun h4 => ?_) (fun h4 => ?_) <;> simp at h4
   · exact bad _ (Below.refl _ _) (by unfold zz; omega)
   refine BCase.of (fun h5 => ?_) (fun h5 => ?_) <;> simp at h5
   · exact bad _ (Below.refl _ _) (by unfold zz; omega)
   refine callK (qub y m h3 h4 w) ?_
   rintro _ w1 ⟨rfl, hb⟩
   refine ⟨_, rfl, ?_⟩
   refine BCase.of (fun h6 => ?_) (fun h6 => ?_) <;> simp at h6
   · exact bad _ hb (by unfold zz; omega)
   · exact ⟨⟨by omega, by omega, by omega, by omega, by omega, by omega⟩, hb⟩
 · refine AllJ.of ?_ _
   rintro w1 ⟨hi, hb⟩
   obtain ⟨h1, h2, h3, h4, h5, h6⟩ := hi
   have hl := qfX y m
   refine ⟨fun Y M w' => w' = w1 /\ Y = (if m - 3 < 0 then y - 1 else y) /\ M = (if m - 3 < 0 then m + 9 else m - 3), ?_, ?_⟩
   · rw [wrap_i64 (n := m - 3) (by omega) (by omega)]
     refine BCase.of (fun h => ?_) (fun h => ?_) <;> simp only [dTx, dFx] at h
     · refine ⟨rfl, ?_, ?_⟩
       · rw [if_pos h, wrap_i64 (by omega) (by omega)]
       · rw [if_pos h, wrap_i64 (by omega) (by omega)]; omega
     · exact ⟨rfl, by rw [if_neg h], by rw [if_neg h]⟩
   · intro Y M
     refine AllJ.of ?_ _
     rintro w1 ⟨rfl, hY, hM⟩
     have hm := march (y := y) (m := m) (d := d) (by omega) h3 h4 Y M hY hM
     have hYr : 1600 <= Y /\ Y <= 9999 := by rw [hY]; split <;> omega
     have hMr : 0 <= M /\ M <= 11 := by rw [hM]; split <;> omega
     clear hY hM
     rw [tmod_pos (by omega), tdiv_pos (by omega)]
     refine ⟨by decide, ?_⟩
     intro of hof
     refine ⟨by decide, ?_⟩
     intro q1 hq1
     rw [tdiv_pos (by omega), tdiv_pos (by omega)]
     refine ⟨by decide, ?_⟩
     intro q2 hq2
     refine ⟨by decide, ?_⟩
     intro q3 hq3
     refine ⟨by decide, ?_⟩
     intro q4 hq4
     rw [wrap_i64 (by omega) (by omega)] at hq1 hq2 hq3
     rw [wrap_i64 (n := 153 * M) (by omega) (by omega), wrap_i64 (n := 153 * M + 2) (by omega) (by omega), tdiv_pos (by omega), wrap_i64 (by omega) (by omega)] at hq4
     rw [wrap_i64 (n := q1 * 146097) (by omega) (by omega), wrap_i64 (n := of * 365) (by omega) (by omega), wrap_i64 (n := q1 * 146097 + of * 365) (by omega) (by omega), wrap_i64 (n := q1 * 146097 + of * 365 + q2) (by omega) (by omega),
       wrap_i64 (n := q1 * 146097 + of * 365 + q2 - q3) (by omega) (by omega), wrap_i64 (n := q1 * 146097 + of * 365 + q2 - q3 + q4) (by omega) (by omega), wrap_i64 (n := q1 * 146097 + of * 365 + q2 - q3 + q4 + d) (by omega) (by omega),
       wrap_i64 (n := q1 * 146097 + of * 365 + q2 - q3 + q4 + d - 1) (by omega) (by omega), wrap_i64 (by omega) (by omega)]
     refine ⟨?_, hb⟩
     have hdt : zz y m d := ⟨h1, h2, h3, h4, h5, h6⟩
     unfold qoB
     rw [if_pos hdt, <- hm, hq1, hq2, hq3, hq4, hof]
     simp [hdt]
end Go.Proofs.YtlfolncaghkmcaaGreatDoor
namespace Go.Pk
open Classical in
noncomputable def civV (n : Int) : Value := if h : ∃ p : Int × Int × Int, zz p.1 p.2.1 p.2.2 /\ jZ p.1 p.2.1 p.2.2 = n then
 .tuple #[.int .i64 (Classical.choose h).1, .int .i64 (Classical.choose h).2.1, .int .i64 (Classical.choose h).2.2, .bool true] else .tuple #[.int .i64 0, .int .i64 0, .int .i64 0, .bool false]
theorem qj1 {y m d : Int} (h : zz y m d) : civV (jZ y m d) = .tuple #[.int .i64 y, .int .i64 m, .int .i64 d, .bool true] := by
 have hex : ∃ p : Int × Int × Int, zz p.1 p.2.1 p.2.2 /\ jZ p.1 p.2.1 p.2.2 = jZ y m d := ⟨(y, m, d), h, rfl⟩
 unfold civV
 rw [dif_pos hex]
 obtain ⟨h1, h2⟩ := Classical.choose_spec hex
 obtain ⟨e1, e2, e3⟩ := qyn h1 h h2
 rw [e1, e2, e3]
theorem qsI {y m d : Int} (h : zz y m d) : -134774 <= jZ y m d /\ jZ y m d <= 2932896 := by
 have h1 := qym h
 have h2 := qkL (y := y) h.1 (by have := h.2.1; omega)
 have h3 := qkL (y := y + 1) (by have := h.1; omega) (by have := h.2.1; omega)
 have h4 := qlU (a := y + 1) (b := 10000) (by have := h.1; omega) (by have := h.2.1; omega)
 omega
theorem qel {n : Int} (h : n < -134774 \/ 2932896 < n) : civV n = .tuple #[.int .i64 0, .int .i64 0, .int .i64 0, .bool false] := by
 unfold civV
 rw [dif_neg]
 rintro ⟨p, h1, h2⟩
 have := qsI h1
 omega
theorem qlf : zz 1601 1 1 /\ jZ 1601 1 1 = -134774 := by decide
theorem qjf : zz 9999 12 31 /\ jZ 9999 12 31 = 2932896 := by decide
end Go.Pk

namespace Go.Pk
def sN (k : Nat) : Nat := if k = 400 then 146097 else 365 * k + k / 4 - k / 100
def gN (n : Nat) : Nat := n - n / 1460 + n / 36524 - n / 146096
theorem qDr {a : Nat} (h : a < 146096) : gN a <= gN (a + 1) := by unfold gN; omega
theorem qAh {a : Nat} : ∀ k : Nat, a + k <= 146096 -> gN a <= gN (a + k)
 | 0, _ => Nat.le_refl _
 | k + 1, h => Nat.le_trans (qAh k (by omega)) (qDr (a := a + k) (by omega))
theorem qDS : ∀ k, k < 400 -> gN (sN k) / 365 = k /\ gN (sN (k + 1) - 1) / 365 = k := by decide +kernel
theorem qDF : ∀ k, k < 400 -> sN (k + 1) = sN k + (if (k + 1) % 4 = 0 /\ ((k + 1) % 100 ≠ 0 \/ k + 1 = 400) then 366 else 365) /\ 0 < sN (k + 1) /\ sN (k + 1) <= 146097 := by decide +kernel
theorem qCf {n : Nat} : ∀ j, j <= 400 -> n < sN j -> ∃ k, k < j /\ sN k <= n /\ n < sN (k + 1)
 | 0, _, h => by simp [sN] at h
 | j + 1, hj, h => by
   by_cases c : n < sN j
   · obtain ⟨k, h1, h2, h3⟩ := qCf j (by omega) c
     exact ⟨k, by omega, h2, h3⟩
   · exact ⟨j, by omega, by omega, h⟩
theorem qDh {n : Nat} (h : n < 146097) : ∃ k, k < 400 /\ gN n / 365 = k /\ sN k <= n /\ n < sN (k + 1) := by
 obtain ⟨k, h1, h2, h3⟩ := qCf (n := n) 400 (Nat.le_refl _) (by simpa [sN] using h)
 obtain ⟨e1, e2⟩ := qDS k h1
 obtain ⟨_, l2, l3⟩ := qDF k h1
 refine ⟨k, h1, ?_, h2, h3⟩
 have m1 := qAh (a := sN k) (n - sN k) (by omega)
 have m2 := qAh (a := n) (sN (k + 1) - 1 - n) (by omega)
 rw [show sN k + (n - sN k) = n by omega] at m1
 rw [show n + (sN (k + 1) - 1 - n) = sN (k + 1) - 1 by omega] at m2
 have d1 := Nat.div_le_div_right (c := 365) m1
 have d2 := Nat.div_le_div_right (c := 365) m2
 omega
def monL (mp : Nat) : Nat := [31, 30, 31, 30, 31, 31, 30, 31, 30, 31, 31, 29][mp]?.getD 0
theorem qBE : ∀ doy, doy < 366 -> (5 * doy + 2) / 153 <= 11 /\ (153 * ((5 * doy + 2) / 153) + 2) / 5 <= doy /\ doy - (153 * ((5 * doy + 2) / 153) + 2) / 5 + 1 <= monL ((5 * doy + 2) / 153) /\
   ((5 * doy + 2) / 153 = 11 -> doy - (153 * ((5 * doy + 2) / 153) + 2) / 5 + 1 = 29 -> doy = 365) := by decide +kernel
theorem qBz {y : Int} {mp : Nat} (h : mp <= 9) : lenM y ((mp : Int) + 3) = monL mp := by
 have : mp = 0 \/ mp = 1 \/ mp = 2 \/ mp = 3 \/ mp = 4 \/ mp = 5 \/ mp = 6 \/ mp = 7 \/ mp = 8 \/ mp = 9 := by omega
 rcases this with rfl | rfl | rfl | rfl | rfl | rfl | rfl | rfl | rfl | rfl <;> simp [lenM, monL]
theorem qzW {y n : Int} (hy : 1 <= y) (h1 : dY y <= n + 719162) (h2 : n + 719162 < dY (y + 1)) (h3 : -134774 <= n) (h4 : n <= 2932896) : 1601 <= y /\ y <= 9999 := by
 have e1 : dY 1601 = 584388 := by decide
 have e2 : dY 10000 = 3652059 := by decide
 constructor
 · apply Int.le_of_not_gt
   intro hc
   have := qlU (a := y + 1) (b := 1601) (by omega) (by omega)
   omega
 · apply Int.le_of_not_gt
   intro hc
   have := qlU (a := 10000) (b := y) (by omega) (by omega)
   omega
theorem qAF {y m d : Int} (hy : 1 <= y) (h1 : 1 <= m) (h2 : m <= 12) (Y M : Int) (hY : Y = if m - 3 < 0 then y - 1 else y) (hM : M = if m - 3 < 0 then m + 9 else m - 3) :
   Y / 400 * 146097 + Y % 400 * 365 + Y % 400 / 4 - Y % 400 / 100 + (153 * M + 2) / 5 + d - 1 - 719468 = jZ y m d := march hy h1 h2 Y M hY hM
theorem qvz {n : Int} (h1 : -134774 <= n) (h2 : n <= 2932896) (of yoe doy mp day era : Int) (hof : of = (n + 719468) % 146097) (hera : era = (n + 719468) / 146097)
   (hy : yoe = (of - of / 1460 + of / 36524 - of / 146096) / 365) (hd : doy = of - (365 * yoe + yoe / 4 - yoe / 100)) (hm : mp = (5 * doy + 2) / 153) (hday : day = doy - (153 * mp + 2) / 5 + 1) :
   0 <= of /\ of <= 146096 /\ 4 <= era /\ era <= 24 /\ 0 <= yoe /\ yoe <= 399 /\ 0 <= doy /\ doy <= 365 /\ 0 <= mp /\ mp <= 11 /\ 1 <= day /\ day <= 31 /\
   zz (if mp + 3 > 12 then yoe + era * 400 + 1 else yoe + era * 400) (if mp + 3 > 12 then mp + 3 - 12 else mp + 3) day /\
   jZ (if mp + 3 > 12 then yoe + era * 400 + 1 else yoe + era * 400) (if mp + 3 > 12 then mp + 3 - 12 else mp + 3) day = n := by
 obtain ⟨N, hN⟩ : ∃ N : Nat, of = (N : Int) := ⟨of.toNat, by omega⟩
 have hN2 : N < 146097 := by omega
 have hera2 : 4 <= era /\ era <= 24 := by omega
 obtain ⟨k, hk, hg, hs1, hs2⟩ := qDh hN2
 have hyk : yoe = (k : Int) := by rw [hy, hN, <- hg]; unfold gN; omega
 clear hg hy
 rw [hyk, hN] at hd
 obtain ⟨hl, _, _⟩ := qDF k hk
 have hsk : sN k = 365 * k + k / 4 - k / 100 := by unfold sN; rw [if_neg (by omega)]
 obtain ⟨D, hD⟩ : ∃ D : Nat, doy = (D : Int) := ⟨doy.toNat, by omega⟩
 have hDN : D = N - sN k := by omega
 have hD2 : D < 366 := by split at hl <;> omega
 obtain ⟨m1, m2, m3, m4⟩ := qBE D hD2
 obtain ⟨M, hM⟩ : ∃ M : Nat, M = (5 * D + 2) / 153 := ⟨_, rfl⟩
 rw [<- hM] at m1 m2 m3 m4
 have hmp : mp = (M : Int) := by omega
 have hdd : day = ((D - (153 * M + 2) / 5 + 1 : Nat) : Int) := by omega
 have hmon : monL M <= 31 := by
   have : M = 0 \/ M = 1 \/ M = 2 \/ M = 3 \/ M = 4 \/ M = 5 \/ M = 6 \/ M = 7 \/ M = 8 \/ M = 9 \/ M = 10 \/ M = 11 := by omega
   rcases this with h | h | h | h | h | h | h | h | h | h | h | h <;> rw [h] <;> decide
 refine ⟨by omega, by omega, by omega, by omega, by omega, by omega, by omega, by omega, by omega, by omega, by omega, by omega, ?_⟩
 -- the date
 obtain ⟨y, m, ey, em, hm1, hm2, hY, hMM⟩ : ∃ y m : Int, y = (if mp + 3 > 12 then yoe + era * 400 + 1 else yoe + era * 400) /\ m = (if mp + 3 > 12 then mp + 3 - 12 else mp + 3) /\ 1 <= m /\ m <= 12 /\
     yoe + era * 400 = (if m - 3 < 0 then y - 1 else y) /\ mp = (if m - 3 < 0 then m + 9 else m - 3) := by
   refine ⟨_, _, rfl, rfl, ?_⟩
   by_cases c : mp + 3 > 12
   · rw [if_pos c, if_pos c, if_pos (by omega), if_pos (by omega)]; omega
   · rw [if_neg c, if_neg c, if_neg (by omega), if_neg (by omega)]; omega
 rw [<- ey, <- em]
 have hy1 : 1 <= y := by rw [ey]; split <;> omega
 have hday31 : 1 <= day := by omega
 have hlen : day <= lenM y m := by
   by_cases c : mp + 3 > 12
   · rw [if_pos c] at ey em
     have : M = 10 \/ M = 11 := by omega
     rcases this with rfl | rfl
     · have : m = 1 := by omega
       subst this
       have e : monL 10 = 31 := by decide
       rw [e] at m3
       unfold lenM; simp; omega
     · have : m = 2 := by omega
       subst this
       have e : monL 11 = 29 := by decide
       rw [e] at m3
       unfold lenM
       rw [if_pos rfl]
       by_cases c29 : D - (153 * 11 + 2) / 5 + 1 = 29
       · have h365 := m4 rfl c29
         have hleap : (k + 1) % 4 = 0 /\ ((k + 1) % 100 ≠ 0 \/ k + 1 = 400) := by
           apply Classical.byContradiction
           intro hc
           rw [if_neg hc] at hl
           omega
         have : qkl y = true := (qwK (by omega)).2 (by omega)
         rw [if_pos this]; omega
       · split <;> omega
   · rw [if_neg c] at ey em
     have : m = (M : Int) + 3 := by omega
     rw [this, qBz (by omega)]; omega
 have hmar := qAF (d := day) hy1 hm1 hm2 _ _ hY hMM
 have hq1 : (yoe + era * 400) / 400 = era := by omega
 have hq2 : (yoe + era * 400) % 400 = yoe := by omega
 rw [hq1, hq2] at hmar
 have hdo : jZ y m day = n := by
   rw [<- hmar, hyk]
   clear hY hMM hmar hq1 hq2
   omega
 refine ⟨?_, hdo⟩
 have c1 := qpY (y := y) hm1 hm2
 have c2 := qj0 (y := y) hm1 hm2
 have c3 := qvy (y := y) (a := m + 1) (b := 13) (by omega) (by omega) (by omega)
 have c4 := qh3 (y := y) (by omega)
 have c5 := quZ y
 have hb := qzW (n := n) hy1 (by unfold jZ at hdo; omega) (by unfold jZ at hdo; omega) h1 h2
 exact ⟨hb.1, hb.2, hm1, hm2, hday31, hlen⟩
end Go.Pk
namespace Go.Proofs.YtlfolncaghkmcaaGreatDoor
open Go.Pk
open Go.RowKit (Below)
theorem qvC (n : Int) (w : World) (hn : -9223372036854775808 <= n /\ n <= 9223372036854775807) : Calls prog qng #[.int .i64 n] w (Ret fun v w' => v = civV n /\ Below w.heap.size w w') := by
 apply qux
 unfold qqH
 refine callK (qm9 _ _ _ (by omega) w) ?_
 rintro _ w1 ⟨rfl, hb1⟩
 refine ⟨_, _, rfl, ?_⟩
 refine callK (qm9 _ _ _ (by omega) w1) ?_
 rintro _ w2 ⟨rfl, hb2⟩
 have hB := qd hb1 hb2 hb1.size
 refine ⟨_, _, rfl, ?_⟩
 rw [if_pos qlf.1, if_pos qjf.1, qlf.2, qjf.2]
 refine ⟨fun w' => w' = w2 /\ -134774 <= n /\ n <= 2932896, ?_, ?_⟩
 · refine BCase.of (fun h => ?_) (fun h => ?_) <;> simp only [dTx, dFx] at h
   · exact ⟨(qel (.inl h)).symm, hB⟩
   · refine BCase.of (fun h2 => ?_) (fun h2 => ?_) <;> simp only [gt_iff_lt, dTx, dFx] at h2
     · exact ⟨(qel (.inr h2)).symm, hB⟩
     · exact ⟨rfl, by omega, by omega⟩
 · refine AllJ.of ?_ _
   rintro w2 ⟨rfl, h1, h2⟩
   rw [wrap_i64 (n := n + 719468) (by omega) (by omega), tmod_pos (by omega)]
   refine ⟨by decide, ?_⟩
   intro of hof
   have hof2 : 0 <= of /\ of <= 146096 := by omega
   refine ⟨by decide, ?_⟩
   rintro q1 hq1
   rw [tdiv_pos hof2.1, wrap_i64 (by omega) (by omega)] at hq1
   refine ⟨by decide, ?_⟩
   rintro q2 hq2
   rw [tdiv_pos hof2.1, wrap_i64 (by omega) (by omega)] at hq2
   refine ⟨by decide, ?_⟩
   rintro q3 hq3
   rw [tdiv_pos hof2.1, wrap_i64 (by omega) (by omega)] at hq3
   refine ⟨by decide, ?_⟩
   rintro yoe hyoe
   rw [wrap_i64 (n := of - q1) (by omega) (by omega), wrap_i64 (n := of - q1 + q2) (by omega) (by omega), wrap_i64 (n := of - q1 + q2 - q3) (by omega) (by omega), tdiv_pos (by omega), wrap_i64 (by omega) (by omega)] at hyoe
   have hyr : 0 <= yoe /\ yoe <= 400 := by omega
   refine ⟨by decide, ?_⟩
   rintro q4 hq4
   rw [tdiv_pos hyr.1, wrap_i64 (by omega) (by omega)] at hq4
   refine ⟨by decide, ?_⟩
   rintro q5 hq5
   rw [tdiv_pos hyr.1, wrap_i64 (by omega) (by omega)] at hq5
   rw [wrap_i64 (n := 365 * yoe) (by omega) (by omega), wrap_i64 (n := 365 * yoe + q4) (by omega) (by omega), wrap_i64 (n := 365 * yoe + q4 - q5) (by omega) (by omega), wrap_i64 (n := of - (365 * yoe + q4 - q5)) (by omega) (by omega)]
   obtain ⟨doy, hdoy⟩ : ∃ doy, doy = of - (365 * yoe + q4 - q5) := ⟨_, rfl⟩
   rw [<- hdoy]
   have hy' : yoe = (of - of / 1460 + of / 36524 - of / 146096) / 365 := by rw [hyoe, hq1, hq2, hq3]
   have hd' : doy = of - (365 * yoe + yoe / 4 - yoe / 100) := by rw [hdoy, hq4, hq5]
   obtain ⟨_, _, _, _, c5, c6, c7, c8, _⟩ := qvz h1 h2 of yoe doy _ _ _ hof rfl hy' hd' rfl rfl
   refine ⟨by decide, ?_⟩
   rintro mp hmp
   rw [wrap_i64 (n := 5 * doy) (by omega) (by omega), wrap_i64 (n := 5 * doy + 2) (by omega) (by omega), tdiv_pos (by omega), wrap_i64 (by omega) (by omega)] at hmp
   refine ⟨by decide, ?_⟩
   rintro q6 hq6
   have hmr : 0 <= mp /\ mp <= 12 := by omega
   rw [wrap_i64 (n := 153 * mp) (by omega) (by omega), wrap_i64 (n := 153 * mp + 2) (by omega) (by omega), tdiv_pos (by omega), wrap_i64 (by omega) (by omega)] at hq6
   refine ⟨by decide, ?_⟩
   rintro era hera
   rw [tdiv_pos (by omega), wrap_i64 (by omega) (by omega)] at hera
   obtain ⟨_, _, c3, c4, _, _, _, _, c9, c10, c11, c12, hdt, hdd⟩ := qvz h1 h2 of yoe doy mp (doy - q6 + 1) era hof hera hy' hd' hmp (by rw [hq6])
   clear hy' hd' hq1 hq2 hq3 hyoe
   rw [wrap_i64 (n := mp + 3) (by omega) (by omega), wrap_i64 (n := doy - q6) (by omega) (by omega), wrap_i64 (n := doy - q6 + 1) (by omega) (by omega), wrap_i64 (n := era * 400) (by omega) (by omega), wrap_i64 (n := yoe + era * 400) (by omega) (by omega)]
   refine BCase.of (fun h => ?_) (fun h => ?_) <;> simp only [gt_iff_lt, dTx, dFx] at h
   · rw [if_pos h, if_pos h] at hdt hdd
     rw [wrap_i64 (by omega) (by omega), wrap_i64 (by omega) (by omega)]
     exact ⟨by rw [<- hdd, qj1 hdt], hB⟩
   · rw [if_neg h, if_neg h] at hdt hdd
     exact ⟨by rw [<- hdd, qj1 hdt], hB⟩
end Go.Proofs.YtlfolncaghkmcaaGreatDoor
namespace Go.Pk
def lowC (c : UInt8) : UInt8 := if 65 <= c /\ c <= 90 then c + 32 else c
def lowL (s : List UInt8) : List UInt8 := s.map lowC
theorem qBC : ∀ n, n < 256 -> ((lowC (UInt8.ofNat n)).toNat : Int) = if 65 <= (n : Int) /\ (n : Int) <= 90 then (n : Int) + 32 else (n : Int) := by decide +kernel
theorem qyB (c : UInt8) : ((lowC c).toNat : Int) = if 65 <= (c.toNat : Int) /\ (c.toNat : Int) <= 90 then (c.toNat : Int) + 32 else (c.toNat : Int) := by
 have := qBC c.toNat (by have := c.toNat_lt; omega)
 rwa [UInt8.ofNat_toNat] at this
end Go.Pk
namespace Go.Proofs.YtlfolncaghkmcaaGreatDoor
open Go.Pk
open Go.RowKit (Below)
theorem octet_Lower_ok (s : List UInt8) (hs : s.length <= 9223372036854775800) (w : World) : Calls prog qd8 #[.string (mkS s)] w (Ret fun v w' => v = .string (mkS (lowL s)) /\ Below w.heap.size w w') := by
 apply qty
 unfold qo8
 obtain ⟨w1, a, n, c, hr, ho, hb, hf⟩ := qol un_string qac un_uint8 w s (by omega) NoB
 have hn := ho.len
 subst hn
 refine ⟨w1, a, _, c, hr, ?_⟩
 refine ⟨fun m i w' => ∃ k : Nat, k <= s.length /\ i = (k : Int) /\ m = s.length - k /\ Ow tU8 qU w' NoB a s.length c (lowL (s.take k) ++ s.drop k) /\ w1.grownBy w' (ownB a),
   ⟨_, 0, by omega, rfl, rfl, by simpa [lowL] using ho, ⟨rfl, rfl, rfl, Nat.le_refl _, fun _ _ _ => rfl⟩⟩, ?_⟩
 intro m i
 refine AllJ.of ?_ _
 rintro w' ⟨k, hk, rfl, rfl, ho', hg⟩
 have hll : (lowL (s.take k) ++ s.drop k).length = s.length := by simp [lowL]; omega
 refine BCase.of (fun h => ?_) (fun h => ?_) <;> simp at h
 · have hlk : (lowL (s.take k)).length = k := by simp [lowL]; omega
   have hsl := ho'.all
   obtain ⟨v, hv, hrep⟩ := hsl.load1 (i := (k : Int)) un_uint8 rfl rfl (by rw [hll]; simpa using h)
   have := qvh hrep
   subst this
   have eg : (lowL (s.take k) ++ s.drop k)[(k : Int).toNat]'(by rw [hll]; simpa using h) = s[k] := by
     simp only [Int.toNat_natCast]
     rw [List.getElem_append_right (by rw [hlk]; exact Nat.le_refl _)]
     simp [hlk]
   rw [eg] at hv
   have hin : (0 <= (k : Int) /\ (k : Int) < ((s.length : Nat) : Int)) /\ Option.isSome a = true := ⟨⟨by omega, by omega⟩, hsl.isSome (i := k) (by rw [hll]; exact h)⟩
   have hlt := qgK s[k]
   have hlow := qyB s[k]
   have e1 : i64.wrap ((k : Int) + 1) = ((k + 1 : Nat) : Int) := by rw [wrap_i64 (by omega) (by omega)]; omega
   rw [e1]
   have hstep : ∀ x, (lowL (s.take k) ++ s.drop k).set k x = lowL (s.take k) ++ x :: s.drop (k + 1) := fun x => by
     rw [List.set_append_right _ _ (by rw [hlk]; exact Nat.le_refl _), hlk, Nat.sub_self, List.drop_eq_getElem_cons h]; rfl
   have hnext : lowL (s.take (k + 1)) ++ s.drop (k + 1) = lowL (s.take k) ++ lowC s[k] :: s.drop (k + 1) := by
     unfold lowL; rw [List.take_succ_eq_append_getElem h, List.map_append, List.append_assoc]; rfl
   refine ⟨hin, _, hv, fun b w'' => w'' = w' /\ b = decide (65 <= (s[k].toNat : Int) /\ (s[k].toNat : Int) <= 90), ?_, ?_⟩
   · refine BCase.of (fun h2 => ?_) (fun h2 => ?_) <;> simp only [ge_iff_le, dTx, dFx] at h2
     · exact ⟨rfl, by simp [h2]⟩
     · exact ⟨rfl, by simp [h2]⟩
   · intro b
     refine AllJ.of ?_ _
     rintro w' ⟨rfl, rfl⟩
     refine BCase.of (fun h2 => ?_) (fun h2 => ?_) <;> simp only [dTx, dFx] at h2
     · rw [if_pos h2] at hlow
       rw [qeZ (n := (s[k].toNat : Int) - 65) (by omega) (by omega), qeZ (by omega) (by omega)]
       obtain ⟨w4, hs4, ho4, hg4⟩ := ho'.store (P := prog) (bytes := 1) (z := .int .u8 0) qkY (fun _ _ h => h) (i := (k : Int)) (by rw [hll]; simpa using h) (k := 1) rfl (v := .int .u8 ((s[k].toNat : Int) - 65 + 97)) (x := lowC s[k]) (qiV (by rw [hlow]; omega))
       simp only [Int.toNat_natCast] at ho4
       rw [hstep, <- hnext] at ho4
       exact ⟨hin, w4, hs4, s.length - (k + 1), by omega, k + 1, by omega, rfl, rfl, ho4, ⟨hg4.os.trans hg.os, hg4.tape.trans hg.tape, hg4.output.trans hg.output, Nat.le_trans hg.size hg4.size, fun q hq hne => (hg4.block q (Nat.lt_of_lt_of_le hq hg.size) hne).trans (hg.block q hq hne)⟩⟩
     · rw [if_neg h2] at hlow
       have hc : lowC s[k] = s[k] := qn0 hlow
       refine ⟨s.length - (k + 1), by omega, k + 1, by omega, rfl, rfl, ?_, hg⟩
       rw [hnext, hc, <- List.drop_eq_getElem_cons h]; exact ho'
 · have : k = s.length := by omega
   subst this
   have e2 : lowL (s.take s.length) ++ s.drop s.length = lowL s := by simp
   rw [e2] at ho'
   exact ⟨_, qi9 qac un_string un_uint8 ho'.all, rfl, hb.grown hg hb.size hf⟩
theorem qqg (s t : List UInt8) (hs : s.length <= 9223372036854775800) (ht : t.length <= 9223372036854775800) (w : World) : Calls prog qkQ #[.string (mkS s), .string (mkS t)] w (Ret fun v w' => v = .bool (lowL s == lowL t) /\ Below w.heap.size w w') := by
 apply quH
 unfold qqR
 refine callK (octet_Lower_ok s hs w) ?_
 rintro _ w1 ⟨rfl, hb1⟩
 refine ⟨_, rfl, ?_⟩
 refine callK (octet_Lower_ok t ht w1) ?_
 rintro _ w2 ⟨rfl, hb2⟩
 exact ⟨_, rfl, rfl, qd hb1 hb2 hb1.size⟩
end Go.Proofs.YtlfolncaghkmcaaGreatDoor
