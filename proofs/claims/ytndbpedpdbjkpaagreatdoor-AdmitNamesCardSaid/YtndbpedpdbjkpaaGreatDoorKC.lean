/- What the laws lean on: V1, Arr, H, Env; what is used. Its conditions: none. -/
import Derived.Test.YtndbpedpdbjkpaaGreatDoorKB
import Derived.Lib.LaidTab
import Derived.Lib.ItoaMem
open Go.IntKind (i64)
open Go.Proofs.Tryz (prog)
set_option linter.unusedVariables false
set_option maxRecDepth 100000
namespace Go.Proofs.YtndbpedpdbjkpaaGreatDoor
open Go.Pk
open Go.RowKit (Below)
--  cracknel/octet.Digits
def qgb (s0 : List UInt8) (w : World) (K : Value -> World -> Prop) : Prop :=
 BCase (!(s0 == []))
 (((0 <= (10 : Int) /\ (10 : Int) <= (((List.length [48, 49, 50, 51, 52, 53, 54, 55, 56, 57, 65, 66, 67, 68, 69, 70]) : Nat) : Int))) /\
 ∀ s7, s7 = (List.take (Int.toNat (10 : Int)) [48, 49, 50, 51, 52, 53, 54, 55, 56, 57, 65, 66, 67, 68, 69, 70]) ->
 Calls prog qeJ #[.string (mkS s0), .string (mkS s7)] w fun e8 w8 => ∃ s8, e8 = .returned (.string (mkS s8)) /\
 K (.bool (s8 == [])) w8)
 (K (.bool false) w)
theorem qkp (s0 : List UInt8) {w : World} {K : Value -> World -> Prop} (h : qgb s0 w K) : Calls prog qck #[.string (mkS s0)] w (Ret K) :=
 qo (c := qr Tryz.f56) (by kernel_rfl) Tryz.func56 (by kernel_rfl) [] [.string (mkS s0)] (of_decide_eq_true (by kernel_rfl)) _ (by kernel_rfl) h

--  cracknel/cracknelref08.Parse
def qhs (s0 : List UInt8) (w : World) (K : Value -> World -> Prop) : Prop :=
 ∀ k2 w2, k2 = w.heap.size -> w2 = w.alloc (.cells #[.string (mkS []), .string (mkS []), .string (mkS []), .string (mkS []), .bool false, .int .i64 (0 : Int), .bool false, .int .i64 (0 : Int), .bool false, .bool false, .int .i64 (0 : Int)] qd) ->
 ∃ I : Nat -> FP [.one (.int .i64)],
 (∃ m, I m (0 : Int) w2) /\
 ∀ m n4, AllJ 30 (∀ wl, I m n4 wl ->
 BCase (decide (n4 < ((List.length s0 : Nat) : Int)))
 (∃ J : FP [.one (.bool)],
 (((0 <= n4 /\ n4 < ((List.length s0 : Nat) : Int))) /\
 BCase (decide ((qA s0 n4) <= (8 : Int)))
 (J true wl)
 (((0 <= n4 /\ n4 < ((List.length s0 : Nat) : Int))) /\
 BCase (decide ((qA s0 n4) >= (10 : Int)))
 (((0 <= n4 /\ n4 < ((List.length s0 : Nat) : Int))) /\
 BCase (decide ((qA s0 n4) <= (31 : Int)))
 (J true wl)
 (((0 <= n4 /\ n4 < ((List.length s0 : Nat) : Int))) /\
 J ((qA s0 n4) == (127 : Int)) wl))
 (((0 <= n4 /\ n4 < ((List.length s0 : Nat) : Int))) /\
 J ((qA s0 n4) == (127 : Int)) wl))) /\
 ∀ b42, AllJ 21 (∀ wj, J b42 wj ->
 BCase b42
 (∃ wx, Sv qd (some ⟨k2, 0, none⟩) (hV [] [] [] [] false (0 : Int) false (0 : Int) false false (0 : Int)) wj wx /\
 ∃ sr0_0 sr0_1 sr0_2 sr0_3 br0_4 nr0_5 br0_6 nr0_7 br0_8 br0_9 nr0_10, (qC qd (.pointer (some ⟨k2, 0, none⟩))).run prog wx = .ok (hV sr0_0 sr0_1 sr0_2 sr0_3 br0_4 nr0_5 br0_6 nr0_7 br0_8 br0_9 nr0_10) wx /\
 K (.tuple #[(hV sr0_0 sr0_1 sr0_2 sr0_3 br0_4 nr0_5 br0_6 nr0_7 br0_8 br0_9 nr0_10), .int .i64 (81 : Int)]) wx)
 (∃ m' : Nat, m' < m /\ I m' (i64.wrap (n4 + (1 : Int))) wj)))
 (Calls prog zO #[.string (mkS s0), .int .u8 (59 : Int)] wl fun e45 w45 => ∃ a45 l45 c45, e45 = .returned (.slice a45 l45 c45) /\
 ∃ J_1 : FP [.one (.ptr)],
 (((0 <= (0 : Int) /\ (0 : Int) < ((l45 : Nat) : Int)) /\ Option.isSome a45 = true) /\
 ((0 <= (0 : Int) /\ (0 : Int) < ((l45 : Nat) : Int)) /\ Option.isSome a45 = true) /\
 (∃ s48, Ld qe (qn a45 (0 : Int) 1) (World.drew w45) (.string (mkS s48)) /\
 (Calls prog zB #[.string (mkS s48)] (World.drew w45) fun e49 w49 => ∃ s49, e49 = .returned (.string (mkS s49)) /\
 (∃ s52, Ld qe (qn a45 (0 : Int) 1) w49 (.string (mkS s52)) /\
 (Calls prog zb #[.string (mkS s52)] w49 fun e53 w53 => ∃ s53, e53 = .returned (.string (mkS s53)) /\
 ∀ k6 w6, k6 = w53.heap.size -> w6 = w53.alloc (.cells #[.string (mkS []), .string (mkS []), .string (mkS []), .string (mkS []), .bool false, .int .i64 (0 : Int), .bool false, .int .i64 (0 : Int), .bool false, .bool false, .int .i64 (0 : Int)] qd) ->
 ∃ wx_1, Sv qd (some ⟨k6, 0, none⟩) (hV s49 s53 [] [] false (0 : Int) false (0 : Int) false false (0 : Int)) w6 wx_1 /\
 J_1 (some ⟨k6, 0, none⟩) wx_1) /\
 ∀ k6_1 w6_1, k6_1 = w49.heap.size -> w6_1 = w49.alloc (.cells #[.string (mkS []), .string (mkS []), .string (mkS []), .string (mkS []), .bool false, .int .i64 (0 : Int), .bool false, .int .i64 (0 : Int), .bool false, .bool false, .int .i64 (0 : Int)] qd) ->
 Calls prog zb #[.string (mkS s52)] w6_1 fun e53_1 w53_1 => ∃ s53_1, e53_1 = .returned (.string (mkS s53_1)) /\
 ∃ wx_2, Sv qd (some ⟨k6_1, 0, none⟩) (hV s49 s53_1 [] [] false (0 : Int) false (0 : Int) false false (0 : Int)) w53_1 wx_2 /\
 J_1 (some ⟨k6_1, 0, none⟩) wx_2) /\
 ∀ k6_2 w6_2, k6_2 = w49.heap.size -> w6_2 = w49.alloc (.cells #[.string (mkS []), .string (mkS []), .string (mkS []), .string (mkS []), .bool false, .int .i64 (0 : Int), .bool false, .int .i64 (0 : Int), .bool false, .bool false, .int .i64 (0 : Int)] qd) ->
 ∃ s52_1, Ld qe (qn a45 (0 : Int) 1) w6_2 (.string (mkS s52_1)) /\
 Calls prog zb #[.string (mkS s52_1)] w6_2 fun e53_2 w53_2 => ∃ s53_2, e53_2 = .returned (.string (mkS s53_2)) /\
 ∃ wx_3, Sv qd (some ⟨k6_2, 0, none⟩) (hV s49 s53_2 [] [] false (0 : Int) false (0 : Int) false false (0 : Int)) w53_2 wx_3 /\
 J_1 (some ⟨k6_2, 0, none⟩) wx_3) /\
 (∃ s52_2, Ld qe (qn a45 (0 : Int) 1) (World.drew w45) (.string (mkS s52_2)) /\
 (Calls prog zB #[.string (mkS s48)] (World.drew w45) fun e49_1 w49_1 => ∃ s49_1, e49_1 = .returned (.string (mkS s49_1)) /\
 (Calls prog zb #[.string (mkS s52_2)] w49_1 fun e53_3 w53_3 => ∃ s53_3, e53_3 = .returned (.string (mkS s53_3)) /\
 ∀ k6_3 w6_3, k6_3 = w53_3.heap.size -> w6_3 = w53_3.alloc (.cells #[.string (mkS []), .string (mkS []), .string (mkS []), .string (mkS []), .bool false, .int .i64 (0 : Int), .bool false, .int .i64 (0 : Int), .bool false, .bool false, .int .i64 (0 : Int)] qd) ->
 ∃ wx_4, Sv qd (some ⟨k6_3, 0, none⟩) (hV s49_1 s53_3 [] [] false (0 : Int) false (0 : Int) false false (0 : Int)) w6_3 wx_4 /\
 J_1 (some ⟨k6_3, 0, none⟩) wx_4) /\
 ∀ k6_4 w6_4, k6_4 = w49_1.heap.size -> w6_4 = w49_1.alloc (.cells #[.string (mkS []), .string (mkS []), .string (mkS []), .string (mkS []), .bool false, .int .i64 (0 : Int), .bool false, .int .i64 (0 : Int), .bool false, .bool false, .int .i64 (0 : Int)] qd) ->
 Calls prog zb #[.string (mkS s52_2)] w6_4 fun e53_4 w53_4 => ∃ s53_4, e53_4 = .returned (.string (mkS s53_4)) /\
 ∃ wx_5, Sv qd (some ⟨k6_4, 0, none⟩) (hV s49_1 s53_4 [] [] false (0 : Int) false (0 : Int) false false (0 : Int)) w53_4 wx_5 /\
 J_1 (some ⟨k6_4, 0, none⟩) wx_5) /\
 ∀ k6_5 w6_5, k6_5 = (World.drew w45).heap.size -> w6_5 = (World.drew w45).alloc (.cells #[.string (mkS []), .string (mkS []), .string (mkS []), .string (mkS []), .bool false, .int .i64 (0 : Int), .bool false, .int .i64 (0 : Int), .bool false, .bool false, .int .i64 (0 : Int)] qd) ->
 Calls prog zB #[.string (mkS s48)] w6_5 fun e49_2 w49_2 => ∃ s49_2, e49_2 = .returned (.string (mkS s49_2)) /\
 Calls prog zb #[.string (mkS s52_2)] w49_2 fun e53_5 w53_5 => ∃ s53_5, e53_5 = .returned (.string (mkS s53_5)) /\
 ∃ wx_6, Sv qd (some ⟨k6_5, 0, none⟩) (hV s49_2 s53_5 [] [] false (0 : Int) false (0 : Int) false false (0 : Int)) w53_5 wx_6 /\
 J_1 (some ⟨k6_5, 0, none⟩) wx_6) /\
 ∀ k6_6 w6_6, k6_6 = (World.drew w45).heap.size -> w6_6 = (World.drew w45).alloc (.cells #[.string (mkS []), .string (mkS []), .string (mkS []), .string (mkS []), .bool false, .int .i64 (0 : Int), .bool false, .int .i64 (0 : Int), .bool false, .bool false, .int .i64 (0 : Int)] qd) ->
 (Calls prog zB #[.string (mkS s48)] w6_6 fun e49_3 w49_3 => ∃ s49_3, e49_3 = .returned (.string (mkS s49_3)) /\
 ∃ s52_3, Ld qe (qn a45 (0 : Int) 1) w49_3 (.string (mkS s52_3)) /\
 Calls prog zb #[.string (mkS s52_3)] w49_3 fun e53_6 w53_6 => ∃ s53_6, e53_6 = .returned (.string (mkS s53_6)) /\
 ∃ wx_7, Sv qd (some ⟨k6_6, 0, none⟩) (hV s49_3 s53_6 [] [] false (0 : Int) false (0 : Int) false false (0 : Int)) w53_6 wx_7 /\
 J_1 (some ⟨k6_6, 0, none⟩) wx_7) /\
 ∃ s52_4, Ld qe (qn a45 (0 : Int) 1) w6_6 (.string (mkS s52_4)) /\
 Calls prog zB #[.string (mkS s48)] w6_6 fun e49_4 w49_4 => ∃ s49_4, e49_4 = .returned (.string (mkS s49_4)) /\
 Calls prog zb #[.string (mkS s52_4)] w49_4 fun e53_7 w53_7 => ∃ s53_7, e53_7 = .returned (.string (mkS s53_7)) /\
 ∃ wx_8, Sv qd (some ⟨k6_6, 0, none⟩) (hV s49_4 s53_7 [] [] false (0 : Int) false (0 : Int) false false (0 : Int)) w53_7 wx_8 /\
 J_1 (some ⟨k6_6, 0, none⟩) wx_8) /\
 (∃ s52_5, Ld qe (qn a45 (0 : Int) 1) (World.drew w45) (.string (mkS s52_5)) /\
 (∃ s48_1, Ld qe (qn a45 (0 : Int) 1) (World.drew w45) (.string (mkS s48_1)) /\
 (Calls prog zB #[.string (mkS s48_1)] (World.drew w45) fun e49_5 w49_5 => ∃ s49_5, e49_5 = .returned (.string (mkS s49_5)) /\
 (Calls prog zb #[.string (mkS s52_5)] w49_5 fun e53_8 w53_8 => ∃ s53_8, e53_8 = .returned (.string (mkS s53_8)) /\
 ∀ k6_7 w6_7, k6_7 = w53_8.heap.size -> w6_7 = w53_8.alloc (.cells #[.string (mkS []), .string (mkS []), .string (mkS []), .string (mkS []), .bool false, .int .i64 (0 : Int), .bool false, .int .i64 (0 : Int), .bool false, .bool false, .int .i64 (0 : Int)] qd) ->
 ∃ wx_9, Sv qd (some ⟨k6_7, 0, none⟩) (hV s49_5 s53_8 [] [] false (0 : Int) false (0 : Int) false false (0 : Int)) w6_7 wx_9 /\
 J_1 (some ⟨k6_7, 0, none⟩) wx_9) /\
 ∀ k6_8 w6_8, k6_8 = w49_5.heap.size -> w6_8 = w49_5.alloc (.cells #[.string (mkS []), .string (mkS []), .string (mkS []), .string (mkS []), .bool false, .int .i64 (0 : Int), .bool false, .int .i64 (0 : Int), .bool false, .bool false, .int .i64 (0 : Int)] qd) ->
 Calls prog zb #[.string (mkS s52_5)] w6_8 fun e53_9 w53_9 => ∃ s53_9, e53_9 = .returned (.string (mkS s53_9)) /\
 ∃ wx_10, Sv qd (some ⟨k6_8, 0, none⟩) (hV s49_5 s53_9 [] [] false (0 : Int) false (0 : Int) false false (0 : Int)) w53_9 wx_10 /\
 J_1 (some ⟨k6_8, 0, none⟩) wx_10) /\
 ∀ k6_9 w6_9, k6_9 = (World.drew w45).heap.size -> w6_9 = (World.drew w45).alloc (.cells #[.string (mkS []), .string (mkS []), .string (mkS []), .string (mkS []), .bool false, .int .i64 (0 : Int), .bool false, .int .i64 (0 : Int), .bool false, .bool false, .int .i64 (0 : Int)] qd) ->
 Calls prog zB #[.string (mkS s48_1)] w6_9 fun e49_6 w49_6 => ∃ s49_6, e49_6 = .returned (.string (mkS s49_6)) /\
 Calls prog zb #[.string (mkS s52_5)] w49_6 fun e53_10 w53_10 => ∃ s53_10, e53_10 = .returned (.string (mkS s53_10)) /\
 ∃ wx_11, Sv qd (some ⟨k6_9, 0, none⟩) (hV s49_6 s53_10 [] [] false (0 : Int) false (0 : Int) false false (0 : Int)) w53_10 wx_11 /\
 J_1 (some ⟨k6_9, 0, none⟩) wx_11) /\
 ∀ k6_10 w6_10, k6_10 = (World.drew w45).heap.size -> w6_10 = (World.drew w45).alloc (.cells #[.string (mkS []), .string (mkS []), .string (mkS []), .string (mkS []), .bool false, .int .i64 (0 : Int), .bool false, .int .i64 (0 : Int), .bool false, .bool false, .int .i64 (0 : Int)] qd) ->
 ∃ s48_2, Ld qe (qn a45 (0 : Int) 1) w6_10 (.string (mkS s48_2)) /\
 Calls prog zB #[.string (mkS s48_2)] w6_10 fun e49_7 w49_7 => ∃ s49_7, e49_7 = .returned (.string (mkS s49_7)) /\
 Calls prog zb #[.string (mkS s52_5)] w49_7 fun e53_11 w53_11 => ∃ s53_11, e53_11 = .returned (.string (mkS s53_11)) /\
 ∃ wx_12, Sv qd (some ⟨k6_10, 0, none⟩) (hV s49_7 s53_11 [] [] false (0 : Int) false (0 : Int) false false (0 : Int)) w53_11 wx_12 /\
 J_1 (some ⟨k6_10, 0, none⟩) wx_12) /\
 ∀ k6_11 w6_11, k6_11 = (World.drew w45).heap.size -> w6_11 = (World.drew w45).alloc (.cells #[.string (mkS []), .string (mkS []), .string (mkS []), .string (mkS []), .bool false, .int .i64 (0 : Int), .bool false, .int .i64 (0 : Int), .bool false, .bool false, .int .i64 (0 : Int)] qd) ->
 (∃ s48_3, Ld qe (qn a45 (0 : Int) 1) w6_11 (.string (mkS s48_3)) /\
 (Calls prog zB #[.string (mkS s48_3)] w6_11 fun e49_8 w49_8 => ∃ s49_8, e49_8 = .returned (.string (mkS s49_8)) /\
 ∃ s52_6, Ld qe (qn a45 (0 : Int) 1) w49_8 (.string (mkS s52_6)) /\
 Calls prog zb #[.string (mkS s52_6)] w49_8 fun e53_12 w53_12 => ∃ s53_12, e53_12 = .returned (.string (mkS s53_12)) /\
 ∃ wx_13, Sv qd (some ⟨k6_11, 0, none⟩) (hV s49_8 s53_12 [] [] false (0 : Int) false (0 : Int) false false (0 : Int)) w53_12 wx_13 /\
 J_1 (some ⟨k6_11, 0, none⟩) wx_13) /\
 ∃ s52_7, Ld qe (qn a45 (0 : Int) 1) w6_11 (.string (mkS s52_7)) /\
 Calls prog zB #[.string (mkS s48_3)] w6_11 fun e49_9 w49_9 => ∃ s49_9, e49_9 = .returned (.string (mkS s49_9)) /\
 Calls prog zb #[.string (mkS s52_7)] w49_9 fun e53_13 w53_13 => ∃ s53_13, e53_13 = .returned (.string (mkS s53_13)) /\
 ∃ wx_14, Sv qd (some ⟨k6_11, 0, none⟩) (hV s49_9 s53_13 [] [] false (0 : Int) false (0 : Int) false false (0 : Int)) w53_13 wx_14 /\
 J_1 (some ⟨k6_11, 0, none⟩) wx_14) /\
 ∃ s52_8, Ld qe (qn a45 (0 : Int) 1) w6_11 (.string (mkS s52_8)) /\
 ∃ s48_4, Ld qe (qn a45 (0 : Int) 1) w6_11 (.string (mkS s48_4)) /\
 Calls prog zB #[.string (mkS s48_4)] w6_11 fun e49_10 w49_10 => ∃ s49_10, e49_10 = .returned (.string (mkS s49_10)) /\
 Calls prog zb #[.string (mkS s52_8)] w49_10 fun e53_14 w53_14 => ∃ s53_14, e53_14 = .returned (.string (mkS s53_14)) /\
 ∃ wx_15, Sv qd (some ⟨k6_11, 0, none⟩) (hV s49_10 s53_14 [] [] false (0 : Int) false (0 : Int) false false (0 : Int)) w53_14 wx_15 /\
 J_1 (some ⟨k6_11, 0, none⟩) wx_15) /\
 ∀ p6, AllJ 9 (∀ wj_1, J_1 p6 wj_1 ->
 ∃ J_2 : FP [],
 (((0 <= (0 : Int) /\ (0 : Int) < ((l45 : Nat) : Int)) /\ Option.isSome a45 = true) /\
 ∃ s57, (∀ u57, Below wj_1.heap.size wj_1 u57 -> Ld qe (qn a45 (0 : Int) 1) u57 (.string (mkS s57))) /\
 ∃ n58, (∀ u58, Below wj_1.heap.size wj_1 u58 -> Calls prog qd7 #[.string (mkS s57)] u58 fun e58 w58 => e58 = .returned (.int .i64 n58) /\ Below wj_1.heap.size u58 w58) /\
 ((0 <= (0 : Int) /\ (0 : Int) < ((l45 : Nat) : Int)) /\ Option.isSome a45 = true) /\
 ∃ s61, (∀ u61, Below wj_1.heap.size wj_1 u61 -> Ld qe (qn a45 (0 : Int) 1) u61 (.string (mkS s61))) /\
 ∀ wq, Below wj_1.heap.size wj_1 wq ->
 BCase (n58 == ((List.length s61 : Nat) : Int))
 ((Option.isSome p6 = true) /\
 ∃ wx_16, Sv qe (Option.map (fun x => x.add 0) p6) (.string (mkS [])) wq wx_16 /\
 ((0 <= (0 : Int) /\ (0 : Int) < ((l45 : Nat) : Int)) /\ Option.isSome a45 = true) /\
 ∃ s67, Ld qe (qn a45 (0 : Int) 1) wx_16 (.string (mkS s67)) /\
 Calls prog qa6 #[.string (mkS s67)] wx_16 fun e68 w68 => ∃ s68, e68 = .returned (.string (mkS s68)) /\
 (Option.isSome p6 = true) /\
 ∃ wx_17, Sv qe (Option.map (fun x => x.add 1) p6) (.string (mkS s68)) w68 wx_17 /\
 J_2 wx_17)
 (J_2 wq)) /\
 AllJ 15 (∀ wj_2, J_2 wj_2 ->
 ∃ J_3 : FP [],
 (∃ J_4 : FP [.one (.bool)],
 ((Option.isSome p6 = true) /\
 ∃ s71, Ld qe (Option.map (fun x => x.add 0) p6) wj_2 (.string (mkS s71)) /\
 BCase (s71 == [])
 ((Option.isSome p6 = true) /\
 ∃ s75, Ld qe (Option.map (fun x => x.add 1) p6) wj_2 (.string (mkS s75)) /\
 J_4 (s75 == []) wj_2)
 (J_4 false wj_2)) /\
 ∀ b77, AllJ 7 (∀ wj_3, J_4 b77 wj_3 ->
 BCase b77
 (∃ wx_18, Sv qd (some ⟨k2, 0, none⟩) (hV [] [] [] [] false (0 : Int) false (0 : Int) false false (0 : Int)) wj_3 wx_18 /\
 ∃ sr0_0_1 sr0_1_1 sr0_2_1 sr0_3_1 br0_4_1 nr0_5_1 br0_6_1 nr0_7_1 br0_8_1 br0_9_1 nr0_10_1, (qC qd (.pointer (some ⟨k2, 0, none⟩))).run prog wx_18 = .ok (hV sr0_0_1 sr0_1_1 sr0_2_1 sr0_3_1 br0_4_1 nr0_5_1 br0_6_1 nr0_7_1 br0_8_1 br0_9_1 nr0_10_1) wx_18 /\
 K (.tuple #[(hV sr0_0_1 sr0_1_1 sr0_2_1 sr0_3_1 br0_4_1 nr0_5_1 br0_6_1 nr0_7_1 br0_8_1 br0_9_1 nr0_10_1), .int .i64 (82 : Int)]) wx_18)
 (J_3 wj_3))) /\
 AllJ 10 (∀ wj_4, J_3 wj_4 ->
 (Option.isSome p6 = true) /\
 ∃ s80, Ld qe (Option.map (fun x => x.add 0) p6) wj_4 (.string (mkS s80)) /\
 (Option.isSome p6 = true) /\
 ∃ s83, Ld qe (Option.map (fun x => x.add 1) p6) wj_4 (.string (mkS s83)) /\
 BCase (decide ((i64.wrap (((List.length s80 : Nat) : Int) + ((List.length s83 : Nat) : Int))) > (4096 : Int)))
 (∃ wx_19, Sv qd (some ⟨k2, 0, none⟩) (hV [] [] [] [] false (0 : Int) false (0 : Int) false false (0 : Int)) wj_4 wx_19 /\
 ∃ sr0_0_2 sr0_1_2 sr0_2_2 sr0_3_2 br0_4_2 nr0_5_2 br0_6_2 nr0_7_2 br0_8_2 br0_9_2 nr0_10_2, (qC qd (.pointer (some ⟨k2, 0, none⟩))).run prog wx_19 = .ok (hV sr0_0_2 sr0_1_2 sr0_2_2 sr0_3_2 br0_4_2 nr0_5_2 br0_6_2 nr0_7_2 br0_8_2 br0_9_2 nr0_10_2) wx_19 /\
 K (.tuple #[(hV sr0_0_2 sr0_1_2 sr0_2_2 sr0_3_2 br0_4_2 nr0_5_2 br0_6_2 nr0_7_2 br0_8_2 br0_9_2 nr0_10_2), .int .i64 (83 : Int)]) wx_19)
 (∃ I_1 : Nat -> FP [.one (.int .i64)],
 (∃ m_1, I_1 m_1 (1 : Int) wj_4) /\
 ∀ m_1 n7, AllJ 96 (∀ wl_1, I_1 m_1 n7 wl_1 ->
 BCase (decide (n7 < ((l45 : Nat) : Int)))
 (((0 <= n7 /\ n7 < ((l45 : Nat) : Int)) /\ Option.isSome a45 = true) /\
 ∃ s97, Ld qe (qn a45 n7 1) wl_1 (.string (mkS s97)) /\
 Calls prog zB #[.string (mkS s97)] wl_1 fun e98 w98 => ∃ s98, e98 = .returned (.string (mkS s98)) /\
 Calls prog jg #[.string (mkS s98)] w98 fun e99 w99 => ∃ s99, e99 = .returned (.string (mkS s99)) /\
 ((0 <= n7 /\ n7 < ((l45 : Nat) : Int)) /\ Option.isSome a45 = true) /\
 ∃ s103, Ld qe (qn a45 n7 1) w99 (.string (mkS s103)) /\
 Calls prog zb #[.string (mkS s103)] w99 fun e104 w104 => ∃ s104, e104 = .returned (.string (mkS s104)) /\
 Calls prog jg #[.string (mkS s104)] w104 fun e106 w106 => ∃ s106, e106 = .returned (.string (mkS s106)) /\
 BCase (decide (((List.length s104 : Nat) : Int) > (1024 : Int)))
 (∃ m'_1 : Nat, m'_1 < m_1 /\ I_1 m'_1 (i64.wrap (n7 + (1 : Int))) w106)
 (∃ J_5 : FP [],
 (BCase (s99 == [101, 120, 112, 105, 114, 101, 115])
 (Calls prog qeC #[.string (mkS s104)] w106 fun e114 w114 => ∃ n114_0 b114_1, e114 = .returned (.tuple #[.int .i64 n114_0, .bool b114_1]) /\
 BCase b114_1
 ((Option.isSome p6 = true) /\
 ∃ wx_20, Sv qy (Option.map (fun x => x.add 4) p6) (.bool true) w114 wx_20 /\
 (Option.isSome p6 = true) /\
 ∃ wx_21, Sv qZ (Option.map (fun x => x.add 5) p6) (.int .i64 n114_0) wx_20 wx_21 /\
 J_5 wx_21)
 (J_5 w114))
 (J_5 w106)) /\
 AllJ 13 (∀ wj_5, J_5 wj_5 ->
 ∃ J_6 : FP [],
 (BCase (s99 == [109, 97, 120, 45, 97, 103, 101])
 (Calls prog qhZ #[.string (mkS s104)] wj_5 fun e125 w125 => ∃ n125_0 b125_1, e125 = .returned (.tuple #[.int .i64 n125_0, .bool b125_1]) /\
 BCase b125_1
 ((Option.isSome p6 = true) /\
 ∃ wx_22, Sv qy (Option.map (fun x => x.add 6) p6) (.bool true) w125 wx_22 /\
 (Option.isSome p6 = true) /\
 ∃ wx_23, Sv qZ (Option.map (fun x => x.add 7) p6) (.int .i64 n125_0) wx_22 wx_23 /\
 J_6 wx_23)
 (J_6 w125))
 (J_6 wj_5)) /\
 AllJ 13 (∀ wj_6, J_6 wj_6 ->
 ∃ J_7 : FP [],
 (BCase (s99 == [100, 111, 109, 97, 105, 110])
 ((Option.isSome p6 = true) /\
 ∃ wx_24, Sv qe (Option.map (fun x => x.add 2) p6) (.string (mkS s106)) wj_6 wx_24 /\
 ∃ J_8 : FP [.one (.bool)],
 (BCase (decide (((List.length s106 : Nat) : Int) > (0 : Int)))
 (((0 <= (0 : Int) /\ (0 : Int) < ((List.length s106 : Nat) : Int))) /\
 J_8 ((qA s106 (0 : Int)) == (46 : Int)) wx_24)
 (J_8 false wx_24)) /\
 ∀ b143, AllJ 7 (∀ wj_7, J_8 b143 wj_7 ->
 BCase b143
 (((0 <= (1 : Int) /\ (1 : Int) <= (((List.length s106) : Nat) : Int))) /\
 ∀ s145, s145 = (List.drop (Int.toNat (1 : Int)) s106) ->
 (Option.isSome p6 = true) /\
 ∃ wx_25, Sv qe (Option.map (fun x => x.add 2) p6) (.string (mkS s145)) wj_7 wx_25 /\
 J_7 wx_25)
 (J_7 wj_7)))
 (J_7 wj_6)) /\
 AllJ 15 (∀ wj_8, J_7 wj_8 ->
 ∃ J_9 : FP [],
 (BCase (s99 == [112, 97, 116, 104])
 ((Option.isSome p6 = true) /\
 ∃ wx_26, Sv qe (Option.map (fun x => x.add 3) p6) (.string (mkS s104)) wj_8 wx_26 /\
 ∃ J_10 : FP [.one (.bool)],
 (BCase (!(s104 == []))
 (((0 <= (0 : Int) /\ (0 : Int) < ((List.length s104 : Nat) : Int))) /\
 J_10 ((qA s104 (0 : Int)) != (47 : Int)) wx_26)
 (J_10 false wx_26)) /\
 ∀ b157, AllJ 6 (∀ wj_9, J_10 b157 wj_9 ->
 BCase b157
 ((Option.isSome p6 = true) /\
 ∃ wx_27, Sv qe (Option.map (fun x => x.add 3) p6) (.string (mkS [])) wj_9 wx_27 /\
 J_9 wx_27)
 (J_9 wj_9)))
 (J_9 wj_8)) /\
 AllJ 12 (∀ wj_10, J_9 wj_10 ->
 ∃ J_11 : FP [],
 (BCase (s99 == [115, 101, 99, 117, 114, 101])
 ((Option.isSome p6 = true) /\
 ∃ wx_28, Sv qy (Option.map (fun x => x.add 8) p6) (.bool true) wj_10 wx_28 /\
 J_11 wx_28)
 (J_11 wj_10)) /\
 AllJ 3 (∀ wj_11, J_11 wj_11 ->
 ∃ J_12 : FP [],
 (BCase (s99 == [104, 116, 116, 112, 111, 110, 108, 121])
 ((Option.isSome p6 = true) /\
 ∃ wx_29, Sv qy (Option.map (fun x => x.add 9) p6) (.bool true) wj_11 wx_29 /\
 J_12 wx_29)
 (J_12 wj_11)) /\
 AllJ 3 (∀ wj_12, J_12 wj_12 ->
 BCase (s99 == [115, 97, 109, 101, 115, 105, 116, 101])
 ((Option.isSome p6 = true) /\
 ∃ wx_30, Sv qx (Option.map (fun x => x.add 10) p6) (.int .i64 (0 : Int)) wj_12 wx_30 /\
 ∃ J_13 : FP [],
 (BCase (s106 == [110, 111, 110, 101])
 ((Option.isSome p6 = true) /\
 ∃ wx_31, Sv qx (Option.map (fun x => x.add 10) p6) (.int .i64 (1 : Int)) wx_30 wx_31 /\
 J_13 wx_31)
 (J_13 wx_30)) /\
 AllJ 3 (∀ wj_13, J_13 wj_13 ->
 ∃ J_14 : FP [],
 (BCase (s106 == [108, 97, 120])
 ((Option.isSome p6 = true) /\
 ∃ wx_32, Sv qx (Option.map (fun x => x.add 10) p6) (.int .i64 (2 : Int)) wj_13 wx_32 /\
 J_14 wx_32)
 (J_14 wj_13)) /\
 AllJ 3 (∀ wj_14, J_14 wj_14 ->
 BCase (s106 == [115, 116, 114, 105, 99, 116])
 ((Option.isSome p6 = true) /\
 ∃ wx_33, Sv qx (Option.map (fun x => x.add 10) p6) (.int .i64 (3 : Int)) wj_14 wx_33 /\
 ∃ m'_1 : Nat, m'_1 < m_1 /\ I_1 m'_1 (i64.wrap (n7 + (1 : Int))) wx_33)
 (∃ m'_1 : Nat, m'_1 < m_1 /\ I_1 m'_1 (i64.wrap (n7 + (1 : Int))) wj_14))))
 (∃ m'_1 : Nat, m'_1 < m_1 /\ I_1 m'_1 (i64.wrap (n7 + (1 : Int))) wj_12)))))))))
 (∃ s177_0 s177_1 s177_2 s177_3 b177_4 n177_5 b177_6 n177_7 b177_8 b177_9 n177_10, Ld qd p6 wl_1 (hV s177_0 s177_1 s177_2 s177_3 b177_4 n177_5 b177_6 n177_7 b177_8 b177_9 n177_10) /\
 ∃ wx_34, Sv qd (some ⟨k2, 0, none⟩) (hV s177_0 s177_1 s177_2 s177_3 b177_4 n177_5 b177_6 n177_7 b177_8 b177_9 n177_10) wl_1 wx_34 /\
 ∃ sr0_0_3 sr0_1_3 sr0_2_3 sr0_3_3 br0_4_3 nr0_5_3 br0_6_3 nr0_7_3 br0_8_3 br0_9_3 nr0_10_3, (qC qd (.pointer (some ⟨k2, 0, none⟩))).run prog wx_34 = .ok (hV sr0_0_3 sr0_1_3 sr0_2_3 sr0_3_3 br0_4_3 nr0_5_3 br0_6_3 nr0_7_3 br0_8_3 br0_9_3 nr0_10_3) wx_34 /\
 K (.tuple #[(hV sr0_0_3 sr0_1_3 sr0_2_3 sr0_3_3 br0_4_3 nr0_5_3 br0_6_3 nr0_7_3 br0_8_3 br0_9_3 nr0_10_3), .int .i64 (0 : Int)]) wx_34))))))))
theorem qlU (s0 : List UInt8) {w : World} {K : Value -> World -> Prop} (h : qhs s0 w K) : Calls prog qcy #[.string (mkS s0)] w (Ret K) :=
 qo (c := qr Tryz.f81) (by kernel_rfl) Tryz.func81 (by kernel_rfl) [(6, [(4, .one (.int .i64))]), (15, [(42, .one (.bool))]), (25, [(6, .one (.ptr))]), (27, []), (35, []), (36, [(77, .one (.bool))]), (55, [(7, .one (.int .i64))]), (76, []), (90, []), (104, []), (110, [(143, .one (.bool))]), (116, []), (122, [(157, .one (.bool))]), (128, []), (134, []), (145, []), (151, [])] [.string (mkS s0)] (of_decide_eq_true (by kernel_rfl)) _ (by kernel_rfl) h

--  cracknel/cracknelref08.Text
def qhC (s0 : List UInt8) (w : World) (K : Value -> World -> Prop) : Prop :=
 ∃ w7 a7 l7 c7, (convert qe qE (.string (mkS s0))).run prog w = .ok (.slice a7 l7 c7) w7 /\
 ∃ I : Nat -> FP [.one (.int .i64)],
 (∃ m, I m (0 : Int) w7) /\
 ∀ m n10, AllJ 19 (∀ wl, I m n10 wl ->
 BCase (decide (n10 < ((l7 : Nat) : Int)))
 (((0 <= n10 /\ n10 < ((l7 : Nat) : Int)) /\ Option.isSome a7 = true) /\
 ∃ n14, Ld qw (qn a7 n10 1) wl (.int .u8 n14) /\
 ∃ J : FP [.one (.bool)],
 (BCase (decide (n14 >= (65 : Int)))
 (J (decide (n14 <= (90 : Int))) wl)
 (J false wl)) /\
 ∀ b20, AllJ 5 (∀ wj, J b20 wj ->
 BCase b20
 (((0 <= n10 /\ n10 < ((l7 : Nat) : Int)) /\ Option.isSome a7 = true) /\
 ∃ wx, Sv qw (qn a7 n10 1) (.int .u8 (IntKind.u8.wrap ((IntKind.u8.wrap (n14 - (65 : Int))) + (97 : Int)))) wj wx /\
 ∃ m' : Nat, m' < m /\ I m' (i64.wrap (n10 + (1 : Int))) wx)
 (∃ m' : Nat, m' < m /\ I m' (i64.wrap (n10 + (1 : Int))) wj)))
 (∃ s29, (convert qE qe (.slice a7 l7 c7)).run prog wl = .ok (.string (mkS s29)) wl /\
 K (.string (mkS s29)) wl))
theorem qlq (s0 : List UInt8) {w : World} {K : Value -> World -> Prop} (h : qhC s0 w K) : Calls prog qab #[.string (mkS s0)] w (Ret K) :=
 qo (c := qr Tryz.f89) (by kernel_rfl) Tryz.func89 (by kernel_rfl) [(8, [(10, .one (.int .i64))]), (19, [(20, .one (.bool))])] [.string (mkS s0)] (of_decide_eq_true (by kernel_rfl)) _ (by kernel_rfl) h

--  cracknel/cracknelref01.Split
def qhE (s0 : List UInt8) (n1 : Int) (w : World) (K : Value -> World -> Prop) : Prop :=
 ∀ k8 w8, k8 = w.heap.size -> w8 = w.alloc (.cells #[] qe) ->
 ∃ I : Nat -> FP [.one (.slice), .one (.int .i64), .one (.int .i64)],
 (∃ m, I m (some ⟨k8, 0, none⟩) 0 0 (0 : Int) (0 : Int) w8) /\
 ∀ m a5 l5 c5 n6 n7, AllJ 20 (∀ wl, I m a5 l5 c5 n6 n7 wl ->
 BCase (decide (n7 < ((List.length s0 : Nat) : Int)))
 (((0 <= n7 /\ n7 < ((List.length s0 : Nat) : Int))) /\
 BCase ((qA s0 n7) == n1)
 ((((0 <= n7 /\ n7 <= (((List.length s0) : Nat) : Int)) /\ 0 <= n6 /\ n6 <= ((Int.toNat n7 : Nat) : Int))) /\
 ∀ s24, s24 = (List.drop (Int.toNat n6) (List.take (Int.toNat n7) s0)) ->
 ∀ k25 w25, k25 = wl.heap.size -> w25 = wl.alloc (.cells #[.string (mkS s24)] qe) ->
 ∃ w26 a26 l26 c26, (Builtin.append_ #[qD, qD] qD #[.slice a5 l5 c5, .slice (some ⟨k25, 0, none⟩) 1 1]).run prog w25 = .ok (.slice a26 l26 c26) w26 /\
 ∃ m' : Nat, m' < m /\ I m' a26 l26 c26 (i64.wrap (n7 + (1 : Int))) (i64.wrap (n7 + (1 : Int))) w26)
 (∃ m' : Nat, m' < m /\ I m' a5 l5 c5 n6 (i64.wrap (n7 + (1 : Int))) wl))
 (((0 <= n6 /\ n6 <= (((List.length s0) : Nat) : Int))) /\
 ∀ s32, s32 = (List.drop (Int.toNat n6) s0) ->
 ∀ k33 w33, k33 = wl.heap.size -> w33 = wl.alloc (.cells #[.string (mkS s32)] qe) ->
 ∃ w34 a34 l34 c34, (Builtin.append_ #[qD, qD] qD #[.slice a5 l5 c5, .slice (some ⟨k33, 0, none⟩) 1 1]).run prog w33 = .ok (.slice a34 l34 c34) w34 /\
 K (.slice a34 l34 c34) w34))
theorem qkT (s0 : List UInt8) (n1 : Int) {w : World} {K : Value -> World -> Prop} (h : qhE s0 n1 w K) : Calls prog zO #[.string (mkS s0), .int .u8 n1] w (Ret K) :=
 qo (c := qr Tryz.f110) (by kernel_rfl) Tryz.func110 (by kernel_rfl) [(10, [(5, .one (.slice)), (6, .one (.int .i64)), (7, .one (.int .i64))])] [.string (mkS s0), .int .u8 n1] (of_decide_eq_true (by kernel_rfl)) _ (by kernel_rfl) h

--  cracknel/cracknelref01.Lower
def qhD (s0 : List UInt8) (w : World) (K : Value -> World -> Prop) : Prop :=
 ∃ I : Nat -> FP [.one (.str), .one (.int .i64)],
 (∃ m, I m [] (0 : Int) w) /\
 ∀ m s3 n4, AllJ 23 (∀ wl, I m s3 n4 wl ->
 BCase (decide (n4 < ((List.length s0 : Nat) : Int)))
 (((0 <= n4 /\ n4 < ((List.length s0 : Nat) : Int))) /\
 ∃ J : FP [.one (.int .u8)],
 (BCase (decide ((qA s0 n4) >= (65 : Int)))
 (BCase (decide ((qA s0 n4) <= (90 : Int)))
 (J (IntKind.u8.wrap ((qA s0 n4) + (32 : Int))) wl)
 (J (qA s0 n4) wl))
 (J (qA s0 n4) wl)) /\
 ∀ n5, AllJ 8 (∀ wj, J n5 wj ->
 ∀ k25 w25, k25 = wj.heap.size -> w25 = wj.alloc (.cells #[.int .u8 n5] qw) ->
 ∃ s26, (convert qE qe (.slice (some ⟨k25, 0, none⟩) 1 1)).run prog w25 = .ok (.string (mkS s26)) w25 /\
 ((((List.length s3 + List.length s26 : Nat) : Int) <= i64.max)) /\
 ∀ s27, s27 = (s3 ++ s26) ->
 ∃ m' : Nat, m' < m /\ I m' s27 (i64.wrap (n4 + (1 : Int))) w25))
 (K (.string (mkS s3)) wl))
theorem qlL (s0 : List UInt8) {w : World} {K : Value -> World -> Prop} (h : qhD s0 w K) : Calls prog jg #[.string (mkS s0)] w (Ret K) :=
 qo (c := qr Tryz.f112) (by kernel_rfl) Tryz.func112 (by kernel_rfl) [(8, [(3, .one (.str)), (4, .one (.int .i64))]), (19, [(5, .one (.int .u8))])] [.string (mkS s0)] (of_decide_eq_true (by kernel_rfl)) _ (by kernel_rfl) h

--  cracknel/cracknelref01.Digits
def qgv (s0 : List UInt8) (w : World) (K : Value -> World -> Prop) : Prop :=
 ∃ I : Nat -> FP [.one (.int .i64)],
 (∃ m, I m (0 : Int) w) /\
 ∀ m n3, AllJ 17 (∀ wl, I m n3 wl ->
 BCase (decide (n3 < ((List.length s0 : Nat) : Int)))
 (((0 <= n3 /\ n3 < ((List.length s0 : Nat) : Int))) /\
 BCase (decide ((qA s0 n3) < (48 : Int)))
 (K (.bool false) wl)
 (((0 <= n3 /\ n3 < ((List.length s0 : Nat) : Int))) /\
 BCase (decide ((qA s0 n3) > (57 : Int)))
 (K (.bool false) wl)
 (∃ m' : Nat, m' < m /\ I m' (i64.wrap (n3 + (1 : Int))) wl)))
 (K (.bool (decide (((List.length s0 : Nat) : Int) > (0 : Int)))) wl))
theorem qkv (s0 : List UInt8) {w : World} {K : Value -> World -> Prop} (h : qgv s0 w K) : Calls prog qbw #[.string (mkS s0)] w (Ret K) :=
 qo (c := qr Tryz.f113) (by kernel_rfl) Tryz.func113 (by kernel_rfl) [(6, [(3, .one (.int .i64))])] [.string (mkS s0)] (of_decide_eq_true (by kernel_rfl)) _ (by kernel_rfl) h

--  cracknel/octet.Split
def qhO (s0 : List UInt8) (n1 : Int) (w : World) (K : Value -> World -> Prop) : Prop :=
 ∀ k7 w7, k7 = w.heap.size -> w7 = w.alloc (.cells #[.int .u8 n1] qw) ->
 ∃ s8, (convert qE qe (.slice (some ⟨k7, 0, none⟩) 1 1)).run prog w7 = .ok (.string (mkS s8)) w7 /\
 Calls prog qmf #[.string (mkS s0), .string (mkS s8)] w7 fun e9 w9 => ∃ a9 l9 c9, e9 = .returned (.slice a9 l9 c9) /\
 K (.slice a9 l9 c9) w9
theorem qlo (s0 : List UInt8) (n1 : Int) {w : World} {K : Value -> World -> Prop} (h : qhO s0 n1 w K) : Calls prog qay #[.string (mkS s0), .int .u8 n1] w (Ret K) :=
 qo (c := qr Tryz.f122) (by kernel_rfl) Tryz.func122 (by kernel_rfl) [] [.string (mkS s0), .int .u8 n1] (of_decide_eq_true (by kernel_rfl)) _ (by kernel_rfl) h

--  cracknel/octet.Trim
def qiX (s0 : List UInt8) (w : World) (K : Value -> World -> Prop) : Prop :=
 Calls prog qeJ #[.string (mkS s0), .string (mkS [32, 9])] w fun e4 w4 => ∃ s4, e4 = .returned (.string (mkS s4)) /\
 K (.string (mkS s4)) w4
theorem qmm (s0 : List UInt8) {w : World} {K : Value -> World -> Prop} (h : qiX s0 w K) : Calls prog qcs #[.string (mkS s0)] w (Ret K) :=
 qo (c := qr Tryz.f135) (by kernel_rfl) Tryz.func135 (by kernel_rfl) [] [.string (mkS s0)] (of_decide_eq_true (by kernel_rfl)) _ (by kernel_rfl) h

--  cracknel/cracknelref01.Number
def qf4 (s0 : List UInt8) (w : World) (K : Value -> World -> Prop) : Prop :=
 ∃ J : FP [],
 (Calls prog qbw #[.string (mkS s0)] w fun e7 w7 => ∃ b7, e7 = .returned (.bool b7) /\
 BCase (!b7)
 (K (.tuple #[.int .i64 (0 : Int), .bool false]) w7)
 (BCase (decide (((List.length s0 : Nat) : Int) > (18 : Int)))
 (K (.tuple #[.int .i64 (0 : Int), .bool false]) w7)
 (BCase (decide (((List.length s0 : Nat) : Int) > (1 : Int)))
 (((0 <= (0 : Int) /\ (0 : Int) < ((List.length s0 : Nat) : Int))) /\
 BCase ((qA s0 (0 : Int)) == (48 : Int))
 (K (.tuple #[.int .i64 (0 : Int), .bool false]) w7)
 (J w7))
 (J w7)))) /\
 AllJ 20 (∀ wj, J wj ->
 ∃ I : Nat -> FP [.one (.int .i64), .one (.int .i64)],
 (∃ m, I m (0 : Int) (0 : Int) wj) /\
 ∀ m n4 n5, AllJ 14 (∀ wl, I m n4 n5 wl ->
 BCase (decide (n5 < ((List.length s0 : Nat) : Int)))
 (((0 <= n5 /\ n5 < ((List.length s0 : Nat) : Int))) /\
 ∃ m' : Nat, m' < m /\ I m' (i64.wrap ((i64.wrap ((i64.wrap (n4 * (10 : Int))) + (i64.wrap (qA s0 n5)))) - (48 : Int))) (i64.wrap (n5 + (1 : Int))) wl)
 (K (.tuple #[.int .i64 n4, .bool true]) wl)))
theorem qkB (s0 : List UInt8) {w : World} {K : Value -> World -> Prop} (h : qf4 s0 w K) : Calls prog qdd #[.string (mkS s0)] w (Ret K) :=
 qo (c := qr Tryz.f141) (by kernel_rfl) Tryz.func141 (by kernel_rfl) [(2, []), (16, [(4, .one (.int .i64)), (5, .one (.int .i64))])] [.string (mkS s0)] (of_decide_eq_true (by kernel_rfl)) _ (by kernel_rfl) h

--  cracknel/cracknelref08.ahead
def qhQ (s0 : List UInt8) (w : World) (K : Value -> World -> Prop) : Prop :=
 Calls prog qd7 #[.string (mkS s0)] w fun e5 w5 => ∃ n5, e5 = .returned (.int .i64 n5) /\
 ((0 <= n5 /\ n5 <= (((List.length s0) : Nat) : Int))) /\
 ∀ s6, s6 = (List.take (Int.toNat n5) s0) ->
 Calls prog qa6 #[.string (mkS s6)] w5 fun e7 w7 => ∃ s7, e7 = .returned (.string (mkS s7)) /\
 K (.string (mkS s7)) w7
theorem qkU (s0 : List UInt8) {w : World} {K : Value -> World -> Prop} (h : qhQ s0 w K) : Calls prog zB #[.string (mkS s0)] w (Ret K) :=
 qo (c := qr Tryz.f143) (by kernel_rfl) Tryz.func143 (by kernel_rfl) [] [.string (mkS s0)] (of_decide_eq_true (by kernel_rfl)) _ (by kernel_rfl) h

--  cracknel/cracknelref08.after
def qhA (s0 : List UInt8) (w : World) (K : Value -> World -> Prop) : Prop :=
 Calls prog qd7 #[.string (mkS s0)] w fun e5 w5 => ∃ n5, e5 = .returned (.int .i64 n5) /\
 BCase (n5 == ((List.length s0 : Nat) : Int))
 (K (.string (mkS [])) w5)
 (((0 <= (i64.wrap (n5 + (1 : Int))) /\ (i64.wrap (n5 + (1 : Int))) <= (((List.length s0) : Nat) : Int))) /\
 ∀ s13, s13 = (List.drop (Int.toNat (i64.wrap (n5 + (1 : Int)))) s0) ->
 Calls prog qa6 #[.string (mkS s13)] w5 fun e14 w14 => ∃ s14, e14 = .returned (.string (mkS s14)) /\
 K (.string (mkS s14)) w14)
theorem qlY (s0 : List UInt8) {w : World} {K : Value -> World -> Prop} (h : qhA s0 w K) : Calls prog zb #[.string (mkS s0)] w (Ret K) :=
 qo (c := qr Tryz.f144) (by kernel_rfl) Tryz.func144 (by kernel_rfl) [] [.string (mkS s0)] (of_decide_eq_true (by kernel_rfl)) _ (by kernel_rfl) h

--  cracknel/cracknelref08.cut
def qj4 (s0 : List UInt8) (w : World) (K : Value -> World -> Prop) : Prop :=
 ∃ I : Nat -> FP [.one (.int .i64)],
 (∃ m, I m (0 : Int) w) /\
 ∀ m n3, AllJ 12 (∀ wl, I m n3 wl ->
 BCase (decide (n3 < ((List.length s0 : Nat) : Int)))
 (((0 <= n3 /\ n3 < ((List.length s0 : Nat) : Int))) /\
 BCase ((qA s0 n3) == (61 : Int))
 (K (.int .i64 n3) wl)
 (∃ m' : Nat, m' < m /\ I m' (i64.wrap (n3 + (1 : Int))) wl))
 (K (.int .i64 ((List.length s0 : Nat) : Int)) wl))
theorem qn3 (s0 : List UInt8) {w : World} {K : Value -> World -> Prop} (h : qj4 s0 w K) : Calls prog qd7 #[.string (mkS s0)] w (Ret K) :=
 qo (c := qr Tryz.f145) (by kernel_rfl) Tryz.func145 (by kernel_rfl) [(6, [(3, .one (.int .i64))])] [.string (mkS s0)] (of_decide_eq_true (by kernel_rfl)) _ (by kernel_rfl) h

--  cracknel/cracknelref01.Trim
def qiR (s0 : List UInt8) (w : World) (K : Value -> World -> Prop) : Prop :=
 ∃ I : Nat -> FP [.one (.str)],
 (∃ m, I m s0 w) /\
 ∀ m s0_1, AllJ 10 (∀ wl, I m s0_1 wl ->
 BCase (decide (((List.length s0_1 : Nat) : Int) > (0 : Int)))
 (((0 <= (0 : Int) /\ (0 : Int) < ((List.length s0_1 : Nat) : Int))) /\
 Calls prog qb2 #[.int .u8 (qA s0_1 (0 : Int))] wl fun e9 w9 => ∃ b9, e9 = .returned (.bool b9) /\
 BCase b9
 (((0 <= (1 : Int) /\ (1 : Int) <= (((List.length s0_1) : Nat) : Int))) /\
 ∀ s12, s12 = (List.drop (Int.toNat (1 : Int)) s0_1) ->
 ∃ m' : Nat, m' < m /\ I m' s12 w9)
 (∃ I_1 : Nat -> FP [.one (.str)],
 (∃ m_1, I_1 m_1 s0_1 w9) /\
 ∀ m_1 s0_2, AllJ 16 (∀ wl_1, I_1 m_1 s0_2 wl_1 ->
 ∃ J : FP [],
 (BCase (decide (((List.length s0_2 : Nat) : Int) > (0 : Int)))
 (((0 <= (i64.wrap (((List.length s0_2 : Nat) : Int) - (1 : Int))) /\ (i64.wrap (((List.length s0_2 : Nat) : Int) - (1 : Int))) < ((List.length s0_2 : Nat) : Int))) /\
 Calls prog qb2 #[.int .u8 (qA s0_2 (i64.wrap (((List.length s0_2 : Nat) : Int) - (1 : Int))))] wl_1 fun e22 w22 => ∃ b22, e22 = .returned (.bool b22) /\
 BCase b22
 (J w22)
 (K (.string (mkS s0_2)) w22))
 (K (.string (mkS s0_2)) wl_1)) /\
 AllJ 11 (∀ wj, J wj ->
 ((0 <= (i64.wrap (((List.length s0_2 : Nat) : Int) - (1 : Int))) /\ (i64.wrap (((List.length s0_2 : Nat) : Int) - (1 : Int))) <= (((List.length s0_2) : Nat) : Int))) /\
 ∀ s28, s28 = (List.take (Int.toNat (i64.wrap (((List.length s0_2 : Nat) : Int) - (1 : Int)))) s0_2) ->
 ∃ m'_1 : Nat, m'_1 < m_1 /\ I_1 m'_1 s28 wj))))
 (∃ I_2 : Nat -> FP [.one (.str)],
 (∃ m_2, I_2 m_2 s0_1 wl) /\
 ∀ m_2 s0_3, AllJ 16 (∀ wl_2, I_2 m_2 s0_3 wl_2 ->
 ∃ J_1 : FP [],
 (BCase (decide (((List.length s0_3 : Nat) : Int) > (0 : Int)))
 (((0 <= (i64.wrap (((List.length s0_3 : Nat) : Int) - (1 : Int))) /\ (i64.wrap (((List.length s0_3 : Nat) : Int) - (1 : Int))) < ((List.length s0_3 : Nat) : Int))) /\
 Calls prog qb2 #[.int .u8 (qA s0_3 (i64.wrap (((List.length s0_3 : Nat) : Int) - (1 : Int))))] wl_2 fun e22_1 w22_1 => ∃ b22_1, e22_1 = .returned (.bool b22_1) /\
 BCase b22_1
 (J_1 w22_1)
 (K (.string (mkS s0_3)) w22_1))
 (K (.string (mkS s0_3)) wl_2)) /\
 AllJ 11 (∀ wj_1, J_1 wj_1 ->
 ((0 <= (i64.wrap (((List.length s0_3 : Nat) : Int) - (1 : Int))) /\ (i64.wrap (((List.length s0_3 : Nat) : Int) - (1 : Int))) <= (((List.length s0_3) : Nat) : Int))) /\
 ∀ s28_1, s28_1 = (List.take (Int.toNat (i64.wrap (((List.length s0_3 : Nat) : Int) - (1 : Int)))) s0_3) ->
 ∃ m'_2 : Nat, m'_2 < m_2 /\ I_2 m'_2 s28_1 wj_1))))
theorem qmj (s0 : List UInt8) {w : World} {K : Value -> World -> Prop} (h : qiR s0 w K) : Calls prog qa6 #[.string (mkS s0)] w (Ret K) :=
 qo (c := qr Tryz.f146) (by kernel_rfl) Tryz.func146 (by kernel_rfl) [(4, [(0, .one (.str))]), (15, [(0, .one (.str))]), (16, []), (15, [(0, .one (.str))]), (16, [])] [.string (mkS s0)] (of_decide_eq_true (by kernel_rfl)) _ (by kernel_rfl) h

--  cracknel/cracknelref07.Cookie
def qf7 (s0 : List UInt8) (w : World) (K : Value -> World -> Prop) : Prop :=
 ∀ k17 w17, k17 = w.heap.size -> w17 = w.alloc (.cells #[.string (mkS [])] qe) ->
 ∃ I : Nat -> FP [.one (.slice), .one (.int .i64)],
 (∃ m, I m (some ⟨k17, 0, none⟩) 1 1 (0 : Int) w17) /\
 ∀ m a4 l4 c4 n5, AllJ 26 (∀ wl, I m a4 l4 c4 n5 wl ->
 BCase (decide (n5 < ((List.length s0 : Nat) : Int)))
 (((0 <= n5 /\ n5 < ((List.length s0 : Nat) : Int))) /\
 Calls prog qfp #[.int .u8 (qA s0 n5)] wl fun e27 w27 => ∃ b27, e27 = .returned (.bool b27) /\
 BCase b27
 (∀ k29 w29, k29 = w27.heap.size -> w29 = w27.alloc (.cells #[.string (mkS [])] qe) ->
 ∃ w30 a30 l30 c30, (Builtin.append_ #[qD, qD] qD #[.slice a4 l4 c4, .slice (some ⟨k29, 0, none⟩) 1 1]).run prog w29 = .ok (.slice a30 l30 c30) w30 /\
 ∃ m' : Nat, m' < m /\ I m' a30 l30 c30 (i64.wrap (n5 + (1 : Int))) w30)
 (((0 <= (i64.wrap (((l4 : Nat) : Int) - (1 : Int))) /\ (i64.wrap (((l4 : Nat) : Int) - (1 : Int))) < ((l4 : Nat) : Int)) /\ Option.isSome a4 = true) /\
 (((0 <= (i64.wrap (n5 + (1 : Int))) /\ (i64.wrap (n5 + (1 : Int))) <= (((List.length s0) : Nat) : Int)) /\ 0 <= n5 /\ n5 <= ((Int.toNat (i64.wrap (n5 + (1 : Int))) : Nat) : Int))) /\
 ∀ s41, s41 = (List.drop (Int.toNat n5) (List.take (Int.toNat (i64.wrap (n5 + (1 : Int)))) s0)) ->
 ∃ s36, Ld qe (qn a4 (i64.wrap (((l4 : Nat) : Int) - (1 : Int))) 1) (World.drew w27) (.string (mkS s36)) /\
 ((((List.length s36 + List.length s41 : Nat) : Int) <= i64.max)) /\
 ∀ s42, s42 = (s36 ++ s41) ->
 ((0 <= (i64.wrap (((l4 : Nat) : Int) - (1 : Int))) /\ (i64.wrap (((l4 : Nat) : Int) - (1 : Int))) < ((l4 : Nat) : Int)) /\ Option.isSome a4 = true) /\
 ∃ wx, Sv qe (qn a4 (i64.wrap (((l4 : Nat) : Int) - (1 : Int))) 1) (.string (mkS s42)) (World.drew w27) wx /\
 ∃ m' : Nat, m' < m /\ I m' a4 l4 c4 (i64.wrap (n5 + (1 : Int))) wx))
 (∀ k44 w44, k44 = wl.heap.size -> w44 = wl.alloc (.cells #[] qx) ->
 ∃ I_1 : Nat -> FP [.one (.slice), .one (.int .i64), .one (.int .i64), .one (.int .i64), .one (.int .i64)],
 (∃ m_1, I_1 m_1 (some ⟨k44, 0, none⟩) 0 0 (-1 : Int) (-1 : Int) (-1 : Int) (0 : Int) w44) /\
 ∀ m_1 a6 l6 c6 n7 n8 n9 n47, AllJ 59 (∀ wl_1, I_1 m_1 a6 l6 c6 n7 n8 n9 n47 wl_1 ->
 BCase (decide (n47 < ((l4 : Nat) : Int)))
 (((0 <= n47 /\ n47 < ((l4 : Nat) : Int)) /\ Option.isSome a4 = true) /\
 ∃ s50, Ld qe (qn a4 n47 1) wl_1 (.string (mkS s50)) /\
 Calls prog qdc #[.string (mkS s50)] wl_1 fun e52 w52 => ∃ n52, e52 = .returned (.int .i64 n52) /\
 Calls prog qgf #[.string (mkS s50)] w52 fun e55 w55 => ∃ a55_0 l55_0 c55_0 b55_1, e55 = .returned (.tuple #[.slice a55_0 l55_0 c55_0, .bool b55_1]) /\
 ∃ J : FP [.one (.bool)],
 (BCase b55_1
 (J (((l6 : Nat) : Int) == (0 : Int)) w55)
 (J false w55)) /\
 ∀ b63, AllJ 5 (∀ wj, J b63 wj ->
 BCase b63
 (∃ m'_1 : Nat, m'_1 < m_1 /\ I_1 m'_1 a55_0 l55_0 c55_0 n7 n8 n9 (i64.wrap (n47 + (1 : Int))) wj)
 (∃ J_1 : FP [.one (.bool)],
 (BCase (decide (n9 < (0 : Int)))
 (BCase (decide (n52 >= (1 : Int)))
 (J_1 (decide (n52 <= (2 : Int))) wj)
 (J_1 false wj))
 (J_1 false wj)) /\
 ∀ b74, AllJ 9 (∀ wj_1, J_1 b74 wj_1 ->
 BCase b74
 (((0 <= n52 /\ n52 <= (((List.length s50) : Nat) : Int))) /\
 ∀ s77, s77 = (List.take (Int.toNat n52) s50) ->
 Calls prog qcU #[.string (mkS s77)] wj_1 fun e78 w78 => ∃ n78, e78 = .returned (.int .i64 n78) /\
 ∃ m'_1 : Nat, m'_1 < m_1 /\ I_1 m'_1 a6 l6 c6 n7 n8 n78 (i64.wrap (n47 + (1 : Int))) w78)
 (∃ J_2 : FP [.one (.bool)],
 (BCase (decide (n8 < (0 : Int)))
 (Calls prog qdI #[.string (mkS s50)] wj_1 fun e83 w83 => ∃ n83, e83 = .returned (.int .i64 n83) /\
 J_2 (decide (n83 > (0 : Int))) w83)
 (J_2 false wj_1)) /\
 ∀ b85, AllJ 6 (∀ wj_2, J_2 b85 wj_2 ->
 BCase b85
 (Calls prog qdI #[.string (mkS s50)] wj_2 fun e87 w87 => ∃ n87, e87 = .returned (.int .i64 n87) /\
 ∃ m'_1 : Nat, m'_1 < m_1 /\ I_1 m'_1 a6 l6 c6 n7 n87 n9 (i64.wrap (n47 + (1 : Int))) w87)
 (∃ J_3 : FP [.one (.bool)],
 (BCase (decide (n7 < (0 : Int)))
 (BCase (decide (n52 >= (2 : Int)))
 (J_3 (decide (n52 <= (4 : Int))) wj_2)
 (J_3 false wj_2))
 (J_3 false wj_2)) /\
 ∀ b97, AllJ 9 (∀ wj_3, J_3 b97 wj_3 ->
 BCase b97
 (((0 <= n52 /\ n52 <= (((List.length s50) : Nat) : Int))) /\
 ∀ s100, s100 = (List.take (Int.toNat n52) s50) ->
 Calls prog qcU #[.string (mkS s100)] wj_3 fun e101 w101 => ∃ n101, e101 = .returned (.int .i64 n101) /\
 ∃ m'_1 : Nat, m'_1 < m_1 /\ I_1 m'_1 a6 l6 c6 n101 n8 n9 (i64.wrap (n47 + (1 : Int))) w101)
 (∃ m'_1 : Nat, m'_1 < m_1 /\ I_1 m'_1 a6 l6 c6 n7 n8 n9 (i64.wrap (n47 + (1 : Int))) wj_3)))))))))
 (∃ J_4 : FP [.one (.int .i64)],
 (∃ J_5 : FP [.one (.bool)],
 (BCase (decide (n7 >= (70 : Int)))
 (J_5 (decide (n7 <= (99 : Int))) wl_1)
 (J_5 false wl_1)) /\
 ∀ b108, AllJ 5 (∀ wj_4, J_5 b108 wj_4 ->
 BCase b108
 (J_4 (i64.wrap (n7 + (1900 : Int))) wj_4)
 (BCase (decide (n7 >= (0 : Int)))
 (BCase (decide (n7 <= (69 : Int)))
 (J_4 (i64.wrap (n7 + (2000 : Int))) wj_4)
 (J_4 n7 wj_4))
 (J_4 n7 wj_4)))) /\
 ∀ n7_1, AllJ 16 (∀ wj_5, J_4 n7_1 wj_5 ->
 ∃ J_6 : FP [],
 (BCase (((l6 : Nat) : Int) == (0 : Int))
 (K (.tuple #[.int .i64 (0 : Int), .bool false]) wj_5)
 (Calls prog qg5 #[.int .i64 n7_1, .int .i64 n8, .int .i64 n9] wj_5 fun e126 w126 => ∃ b126, e126 = .returned (.bool b126) /\
 BCase (!b126)
 (K (.tuple #[.int .i64 (0 : Int), .bool false]) w126)
 (((0 <= (0 : Int) /\ (0 : Int) < ((l6 : Nat) : Int)) /\ Option.isSome a6 = true) /\
 ∃ n132, Ld qx (qn a6 (0 : Int) 1) w126 (.int .i64 n132) /\
 BCase (decide (n132 > (23 : Int)))
 (K (.tuple #[.int .i64 (0 : Int), .bool false]) w126)
 (((0 <= (1 : Int) /\ (1 : Int) < ((l6 : Nat) : Int)) /\ Option.isSome a6 = true) /\
 ∃ n138, Ld qx (qn a6 (1 : Int) 1) w126 (.int .i64 n138) /\
 BCase (decide (n138 > (59 : Int)))
 (K (.tuple #[.int .i64 (0 : Int), .bool false]) w126)
 (((0 <= (2 : Int) /\ (2 : Int) < ((l6 : Nat) : Int)) /\ Option.isSome a6 = true) /\
 ∃ n144, Ld qx (qn a6 (2 : Int) 1) w126 (.int .i64 n144) /\
 BCase (decide (n144 > (59 : Int)))
 (K (.tuple #[.int .i64 (0 : Int), .bool false]) w126)
 (J_6 w126)))))) /\
 AllJ 30 (∀ wj_6, J_6 wj_6 ->
 Calls prog qbL #[.int .i64 n7_1, .int .i64 n8, .int .i64 n9] wj_6 fun e151 w151 => ∃ n151_0 b151_1, e151 = .returned (.tuple #[.int .i64 n151_0, .bool b151_1]) /\
 ((0 <= (0 : Int) /\ (0 : Int) < ((l6 : Nat) : Int)) /\ Option.isSome a6 = true) /\
 ∃ n158, (∀ u158, Below w151.heap.size w151 u158 -> Ld qx (qn a6 (0 : Int) 1) u158 (.int .i64 n158)) /\
 ((0 <= (1 : Int) /\ (1 : Int) < ((l6 : Nat) : Int)) /\ Option.isSome a6 = true) /\
 ∃ n162, (∀ u162, Below w151.heap.size w151 u162 -> Ld qx (qn a6 (1 : Int) 1) u162 (.int .i64 n162)) /\
 ((0 <= (2 : Int) /\ (2 : Int) < ((l6 : Nat) : Int)) /\ Option.isSome a6 = true) /\
 ∃ n167, (∀ u167, Below w151.heap.size w151 u167 -> Ld qx (qn a6 (2 : Int) 1) u167 (.int .i64 n167)) /\
 ∀ wq, Below w151.heap.size w151 wq ->
 K (.tuple #[.int .i64 (i64.wrap ((i64.wrap (n151_0 * (86400 : Int))) + (i64.wrap ((i64.wrap ((i64.wrap (n158 * (3600 : Int))) + (i64.wrap (n162 * (60 : Int))))) + n167)))), .bool true]) wq))))))
theorem qks (s0 : List UInt8) {w : World} {K : Value -> World -> Prop} (h : qf7 s0 w K) : Calls prog qeC #[.string (mkS s0)] w (Ret K) :=
 qo (c := qr Tryz.f147) (by kernel_rfl) Tryz.func147 (by kernel_rfl) [(8, [(4, .one (.slice)), (5, .one (.int .i64))]), (31, [(6, .one (.slice)), (7, .one (.int .i64)), (8, .one (.int .i64)), (9, .one (.int .i64)), (47, .one (.int .i64))]), (46, [(63, .one (.bool))]), (50, [(74, .one (.bool))]), (54, [(85, .one (.bool))]), (58, [(97, .one (.bool))]), (64, [(7, .one (.int .i64))]), (65, [(108, .one (.bool))]), (74, [])] [.string (mkS s0)] (of_decide_eq_true (by kernel_rfl)) _ (by kernel_rfl) h

--  cracknel/cracknelref08.age
def qkk (s0 : List UInt8) (w : World) (K : Value -> World -> Prop) : Prop :=
 ∃ J : FP [],
 (∃ J_1 : FP [.one (.bool)],
 (BCase (decide (((List.length s0 : Nat) : Int) > (0 : Int)))
 (((0 <= (0 : Int) /\ (0 : Int) < ((List.length s0 : Nat) : Int))) /\
 J_1 ((qA s0 (0 : Int)) == (45 : Int)) w)
 (J_1 false w)) /\
 ∀ b13, AllJ 7 (∀ wj, J_1 b13 wj ->
 BCase b13
 (((0 <= (1 : Int) /\ (1 : Int) <= (((List.length s0) : Nat) : Int))) /\
 ∀ s15, s15 = (List.drop (Int.toNat (1 : Int)) s0) ->
 Calls prog qbw #[.string (mkS s15)] wj fun e16 w16 => ∃ b16, e16 = .returned (.bool b16) /\
 K (.tuple #[.int .i64 (0 : Int), .bool b16]) w16)
 (J wj))) /\
 AllJ 13 (∀ wj_1, J wj_1 ->
 Calls prog qbw #[.string (mkS s0)] wj_1 fun e18 w18 => ∃ b18, e18 = .returned (.bool b18) /\
 BCase (!b18)
 (K (.tuple #[.int .i64 (0 : Int), .bool false]) w18)
 (∃ I : Nat -> FP [.one (.int .i64), .one (.int .i64)],
 (∃ m, I m (0 : Int) (0 : Int) w18) /\
 ∀ m n4 n5, AllJ 16 (∀ wl, I m n4 n5 wl ->
 BCase (decide (n5 < ((List.length s0 : Nat) : Int)))
 (((0 <= n5 /\ n5 < ((List.length s0 : Nat) : Int))) /\
 BCase (decide ((i64.wrap ((i64.wrap ((i64.wrap (n4 * (10 : Int))) + (i64.wrap (qA s0 n5)))) - (48 : Int))) > (34560000 : Int)))
 (∃ m' : Nat, m' < m /\ I m' (34560000 : Int) (i64.wrap (n5 + (1 : Int))) wl)
 (∃ m' : Nat, m' < m /\ I m' (i64.wrap ((i64.wrap ((i64.wrap (n4 * (10 : Int))) + (i64.wrap (qA s0 n5)))) - (48 : Int))) (i64.wrap (n5 + (1 : Int))) wl))
 (K (.tuple #[.int .i64 n4, .bool true]) wl))))
theorem qnN (s0 : List UInt8) {w : World} {K : Value -> World -> Prop} (h : qkk s0 w K) : Calls prog qhZ #[.string (mkS s0)] w (Ret K) :=
 qo (c := qr Tryz.f148) (by kernel_rfl) Tryz.func148 (by kernel_rfl) [(2, []), (3, [(13, .one (.bool))]), (24, [(4, .one (.int .i64)), (5, .one (.int .i64))])] [.string (mkS s0)] (of_decide_eq_true (by kernel_rfl)) _ (by kernel_rfl) h

--  cracknel/header.Right
def qgd (s0_0 : List UInt8) (s0_1 : List UInt8) (s0_2 : List UInt8) (s0_3 : List UInt8) (b0_4 : Bool) (n0_5 : Int) (b0_6 : Bool) (n0_7 : Int) (b0_8 : Bool) (b0_9 : Bool) (n0_10 : Int) (w : World) (K : Value -> World -> Prop) : Prop :=
 ∀ k1 w1, k1 = w.heap.size -> w1 = w.alloc (.cells #[.string (mkS s0_0), .string (mkS s0_1), .string (mkS s0_2), .string (mkS s0_3), .bool b0_4, .int .i64 n0_5, .bool b0_6, .int .i64 n0_7, .bool b0_8, .bool b0_9, .int .i64 n0_10] qd) ->
 ∃ s6_0 s6_1 s6_2 s6_3 b6_4 n6_5 b6_6 n6_7 b6_8 b6_9 n6_10, Ld qd (some ⟨k1, 0, none⟩) w1 (hV s6_0 s6_1 s6_2 s6_3 b6_4 n6_5 b6_6 n6_7 b6_8 b6_9 n6_10) /\
 Calls prog qdw #[(hV s6_0 s6_1 s6_2 s6_3 b6_4 n6_5 b6_6 n6_7 b6_8 b6_9 n6_10)] w1 fun e7 w7 => ∃ s7, e7 = .returned (.string (mkS s7)) /\
 Calls prog qeM #[.string (mkS s7)] w7 fun e8 w8 => ∃ s8_0_0 s8_0_1 s8_0_2 s8_0_3 b8_0_4 n8_0_5 b8_0_6 n8_0_7 b8_0_8 b8_0_9 n8_0_10 n8_1, e8 = .returned (.tuple #[(hV s8_0_0 s8_0_1 s8_0_2 s8_0_3 b8_0_4 n8_0_5 b8_0_6 n8_0_7 b8_0_8 b8_0_9 n8_0_10), .int .i64 n8_1]) /\
 ∀ k3 w3, k3 = w8.heap.size -> w3 = w8.alloc (.cells #[.string (mkS []), .string (mkS []), .string (mkS []), .string (mkS []), .bool false, .int .i64 (0 : Int), .bool false, .int .i64 (0 : Int), .bool false, .bool false, .int .i64 (0 : Int)] qd) ->
 ∃ wx, Sv qd (some ⟨k3, 0, none⟩) (hV s8_0_0 s8_0_1 s8_0_2 s8_0_3 b8_0_4 n8_0_5 b8_0_6 n8_0_7 b8_0_8 b8_0_9 n8_0_10) w3 wx /\
 BCase (n8_1 == (0 : Int))
 (∃ s14_0 s14_1 s14_2 s14_3 b14_4 n14_5 b14_6 n14_7 b14_8 b14_9 n14_10, Ld qd (some ⟨k3, 0, none⟩) wx (hV s14_0 s14_1 s14_2 s14_3 b14_4 n14_5 b14_6 n14_7 b14_8 b14_9 n14_10) /\
 ∃ s15_0 s15_1 s15_2 s15_3 b15_4 n15_5 b15_6 n15_7 b15_8 b15_9 n15_10, Ld qd (some ⟨k1, 0, none⟩) wx (hV s15_0 s15_1 s15_2 s15_3 b15_4 n15_5 b15_6 n15_7 b15_8 b15_9 n15_10) /\
 ∃ b16, ((do eqGuard .eql qd (.tmp 14) (.tmp 15) (hV s14_0 s14_1 s14_2 s14_3 b14_4 n14_5 b14_6 n14_7 b14_8 b14_9 n14_10) (hV s15_0 s15_1 s15_2 s15_3 b15_4 n15_5 b15_6 n15_7 b15_8 b15_9 n15_10); binOp .eql qd (hV s14_0 s14_1 s14_2 s14_3 b14_4 n14_5 b14_6 n14_7 b14_8 b14_9 n14_10) (hV s15_0 s15_1 s15_2 s15_3 b15_4 n15_5 b15_6 n15_7 b15_8 b15_9 n15_10) : Sem Value)).run prog wx = .ok (.bool b16) wx /\
 K (.bool b16) wx)
 (K (.bool false) wx)
theorem qkm (s0_0 : List UInt8) (s0_1 : List UInt8) (s0_2 : List UInt8) (s0_3 : List UInt8) (b0_4 : Bool) (n0_5 : Int) (b0_6 : Bool) (n0_7 : Int) (b0_8 : Bool) (b0_9 : Bool) (n0_10 : Int) {w : World} {K : Value -> World -> Prop} (h : qgd s0_0 s0_1 s0_2 s0_3 b0_4 n0_5 b0_6 n0_7 b0_8 b0_9 n0_10 w K) : Calls prog qeF #[.agg #[.string (mkS s0_0), .string (mkS s0_1), .string (mkS s0_2), .string (mkS s0_3), .bool b0_4, .int .i64 n0_5, .bool b0_6, .int .i64 n0_7, .bool b0_8, .bool b0_9, .int .i64 n0_10]] w (Ret K) :=
 qo (c := qr Tryz.f150) (by kernel_rfl) Tryz.func150 (by kernel_rfl) [] [.agg #[.string (mkS s0_0), .string (mkS s0_1), .string (mkS s0_2), .string (mkS s0_3), .bool b0_4, .int .i64 n0_5, .bool b0_6, .int .i64 n0_7, .bool b0_8, .bool b0_9, .int .i64 n0_10]] (of_decide_eq_true (by kernel_rfl)) _ (by kernel_rfl) h

--  cracknel/cracknelref07.Text
def qf2 (s0 : List UInt8) (w : World) (K : Value -> World -> Prop) : Prop :=
 ∃ J : FP [],
 (Calls prog qck #[.string (mkS s0)] w fun e8 w8 => ∃ b8, e8 = .returned (.bool b8) /\
 BCase (!b8)
 (K (.tuple #[.int .i64 (0 : Int), .bool false]) w8)
 (BCase (decide (((List.length s0 : Nat) : Int) > (18 : Int)))
 (K (.tuple #[.int .i64 (0 : Int), .bool false]) w8)
 (((0 <= (0 : Int) /\ (0 : Int) < ((List.length s0 : Nat) : Int))) /\
 BCase ((qA s0 (0 : Int)) == (48 : Int))
 (BCase (decide (((List.length s0 : Nat) : Int) > (1 : Int)))
 (K (.tuple #[.int .i64 (0 : Int), .bool false]) w8)
 (J w8))
 (J w8)))) /\
 AllJ 20 (∀ wj, J wj ->
 ∃ w26 a26 l26 c26, (convert qe qE (.string (mkS s0))).run prog wj = .ok (.slice a26 l26 c26) w26 /\
 ∃ I : Nat -> FP [.one (.int .i64), .one (.int .i64)],
 (∃ m, I m (0 : Int) (0 : Int) w26) /\
 ∀ m n4 n28, AllJ 11 (∀ wl, I m n4 n28 wl ->
 BCase (decide (n28 < ((l26 : Nat) : Int)))
 (((0 <= n28 /\ n28 < ((l26 : Nat) : Int)) /\ Option.isSome a26 = true) /\
 ∃ n31, Ld qw (qn a26 n28 1) wl (.int .u8 n31) /\
 ∃ m' : Nat, m' < m /\ I m' (i64.wrap ((i64.wrap ((10 : Int) * n4)) + (i64.wrap (IntKind.u8.wrap (n31 - (48 : Int)))))) (i64.wrap (n28 + (1 : Int))) wl)
 (K (.tuple #[.int .i64 n4, .bool true]) wl)))
theorem qky (s0 : List UInt8) {w : World} {K : Value -> World -> Prop} (h : qf2 s0 w K) : Calls prog qdh #[.string (mkS s0)] w (Ret K) :=
 qo (c := qr Tryz.f186) (by kernel_rfl) Tryz.func186 (by kernel_rfl) [(2, []), (16, [(4, .one (.int .i64)), (28, .one (.int .i64))])] [.string (mkS s0)] (of_decide_eq_true (by kernel_rfl)) _ (by kernel_rfl) h

--  cracknel/cracknelref01.blank
def qhW (n0 : Int) (w : World) (K : Value -> World -> Prop) : Prop :=
 BCase (n0 == (32 : Int))
 (K (.bool true) w)
 (K (.bool (n0 == (9 : Int))) w)
theorem qkP (n0 : Int) {w : World} {K : Value -> World -> Prop} (h : qhW n0 w K) : Calls prog qb2 #[.int .u8 n0] w (Ret K) :=
 qo (c := qr Tryz.f200) (by kernel_rfl) Tryz.func200 (by kernel_rfl) [] [.int .u8 n0] (of_decide_eq_true (by kernel_rfl)) _ (by kernel_rfl) h

--  cracknel/cracknelref07.parts
def qhG (n0 : Int) (w : World) (K : Value -> World -> Prop) : Prop :=
 BCase (n0 == (9 : Int))
 (K (.bool true) w)
 (BCase (decide (n0 >= (32 : Int)))
 (BCase (decide (n0 <= (47 : Int)))
 (K (.bool true) w)
 (BCase (decide (n0 >= (59 : Int)))
 (BCase (decide (n0 <= (64 : Int)))
 (K (.bool true) w)
 (BCase (decide (n0 >= (91 : Int)))
 (BCase (decide (n0 <= (96 : Int)))
 (K (.bool true) w)
 (BCase (decide (n0 >= (123 : Int)))
 (K (.bool (decide (n0 <= (126 : Int)))) w)
 (K (.bool false) w)))
 (BCase (decide (n0 >= (123 : Int)))
 (K (.bool (decide (n0 <= (126 : Int)))) w)
 (K (.bool false) w))))
 (BCase (decide (n0 >= (91 : Int)))
 (BCase (decide (n0 <= (96 : Int)))
 (K (.bool true) w)
 (BCase (decide (n0 >= (123 : Int)))
 (K (.bool (decide (n0 <= (126 : Int)))) w)
 (K (.bool false) w)))
 (BCase (decide (n0 >= (123 : Int)))
 (K (.bool (decide (n0 <= (126 : Int)))) w)
 (K (.bool false) w)))))
 (BCase (decide (n0 >= (59 : Int)))
 (BCase (decide (n0 <= (64 : Int)))
 (K (.bool true) w)
 (BCase (decide (n0 >= (91 : Int)))
 (BCase (decide (n0 <= (96 : Int)))
 (K (.bool true) w)
 (BCase (decide (n0 >= (123 : Int)))
 (K (.bool (decide (n0 <= (126 : Int)))) w)
 (K (.bool false) w)))
 (BCase (decide (n0 >= (123 : Int)))
 (K (.bool (decide (n0 <= (126 : Int)))) w)
 (K (.bool false) w))))
 (BCase (decide (n0 >= (91 : Int)))
 (BCase (decide (n0 <= (96 : Int)))
 (K (.bool true) w)
 (BCase (decide (n0 >= (123 : Int)))
 (K (.bool (decide (n0 <= (126 : Int)))) w)
 (K (.bool false) w)))
 (BCase (decide (n0 >= (123 : Int)))
 (K (.bool (decide (n0 <= (126 : Int)))) w)
 (K (.bool false) w)))))
theorem qld (n0 : Int) {w : World} {K : Value -> World -> Prop} (h : qhG n0 w K) : Calls prog qfp #[.int .u8 n0] w (Ret K) :=
 qo (c := qr Tryz.f201) (by kernel_rfl) Tryz.func201 (by kernel_rfl) [] [.int .u8 n0] (of_decide_eq_true (by kernel_rfl)) _ (by kernel_rfl) h

--  cracknel/cracknelref07.digits
def qgk (s0 : List UInt8) (w : World) (K : Value -> World -> Prop) : Prop :=
 ∃ I : Nat -> FP [.one (.int .i64)],
 (∃ m, I m (0 : Int) w) /\
 ∀ m n3, AllJ 18 (∀ wl, I m n3 wl ->
 BCase (decide (n3 < ((List.length s0 : Nat) : Int)))
 (((0 <= n3 /\ n3 < ((List.length s0 : Nat) : Int))) /\
 BCase (decide ((qA s0 n3) >= (48 : Int)))
 (((0 <= n3 /\ n3 < ((List.length s0 : Nat) : Int))) /\
 BCase (decide ((qA s0 n3) <= (57 : Int)))
 (∃ m' : Nat, m' < m /\ I m' (i64.wrap (n3 + (1 : Int))) wl)
 (K (.int .i64 n3) wl))
 (K (.int .i64 n3) wl))
 (K (.int .i64 n3) wl))
theorem qkE (s0 : List UInt8) {w : World} {K : Value -> World -> Prop} (h : qgk s0 w K) : Calls prog qdc #[.string (mkS s0)] w (Ret K) :=
 qo (c := qr Tryz.f202) (by kernel_rfl) Tryz.func202 (by kernel_rfl) [(6, [(3, .one (.int .i64))])] [.string (mkS s0)] (of_decide_eq_true (by kernel_rfl)) _ (by kernel_rfl) h

--  cracknel/cracknelref07.time
def qiE (s0 : List UInt8) (w : World) (K : Value -> World -> Prop) : Prop :=
 ∀ k7 w7, k7 = w.heap.size -> w7 = w.alloc (.cells #[] qx) ->
 ∃ I : Nat -> FP [.one (.str), .one (.slice), .one (.int .i64)],
 (∃ m, I m s0 (some ⟨k7, 0, none⟩) 0 0 (0 : Int) w7) /\
 ∀ m s0_1 a4 l4 c4 n5, AllJ 36 (∀ wl, I m s0_1 a4 l4 c4 n5 wl ->
 BCase (decide (n5 < (3 : Int)))
 (Calls prog qdc #[.string (mkS s0_1)] wl fun e13 w13 => ∃ n13, e13 = .returned (.int .i64 n13) /\
 ∃ J : FP [],
 (BCase (decide (n13 < (1 : Int)))
 (K (.tuple #[.slice none 0 0, .bool false]) w13)
 (BCase (decide (n13 > (2 : Int)))
 (K (.tuple #[.slice none 0 0, .bool false]) w13)
 (J w13))) /\
 AllJ 8 (∀ wj, J wj ->
 ((0 <= n13 /\ n13 <= (((List.length s0_1) : Nat) : Int))) /\
 ∀ s23, s23 = (List.take (Int.toNat n13) s0_1) ->
 Calls prog qcU #[.string (mkS s23)] wj fun e24 w24 => ∃ n24, e24 = .returned (.int .i64 n24) /\
 ∀ k25 w25, k25 = w24.heap.size -> w25 = w24.alloc (.cells #[.int .i64 n24] qx) ->
 ∃ w26 a26 l26 c26, (Builtin.append_ #[qjt, qjt] qjt #[.slice a4 l4 c4, .slice (some ⟨k25, 0, none⟩) 1 1]).run prog w25 = .ok (.slice a26 l26 c26) w26 /\
 ((0 <= n13 /\ n13 <= (((List.length s0_1) : Nat) : Int))) /\
 ∀ s29, s29 = (List.drop (Int.toNat n13) s0_1) ->
 BCase (decide (n5 < (2 : Int)))
 (BCase (s29 == [])
 (K (.tuple #[.slice none 0 0, .bool false]) w26)
 (((0 <= (0 : Int) /\ (0 : Int) < ((List.length s29 : Nat) : Int))) /\
 BCase ((qA s29 (0 : Int)) != (58 : Int))
 (K (.tuple #[.slice none 0 0, .bool false]) w26)
 (((0 <= (1 : Int) /\ (1 : Int) <= (((List.length s29) : Nat) : Int))) /\
 ∀ s40, s40 = (List.drop (Int.toNat (1 : Int)) s29) ->
 ∃ m' : Nat, m' < m /\ I m' s40 a26 l26 c26 (i64.wrap (n5 + (1 : Int))) w26)))
 (∃ m' : Nat, m' < m /\ I m' s29 a26 l26 c26 (i64.wrap (n5 + (1 : Int))) w26)))
 (K (.tuple #[.slice a4 l4 c4, .bool true]) wl))
theorem qmC (s0 : List UInt8) {w : World} {K : Value -> World -> Prop} (h : qiE s0 w K) : Calls prog qgf #[.string (mkS s0)] w (Ret K) :=
 qo (c := qr Tryz.f203) (by kernel_rfl) Tryz.func203 (by kernel_rfl) [(8, [(0, .one (.str)), (4, .one (.slice)), (5, .one (.int .i64))]), (19, [])] [.string (mkS s0)] (of_decide_eq_true (by kernel_rfl)) _ (by kernel_rfl) h

--  cracknel/cracknelref07.value
def qhH (s0 : List UInt8) (w : World) (K : Value -> World -> Prop) : Prop :=
 ∃ I : Nat -> FP [.one (.int .i64), .one (.int .i64)],
 (∃ m, I m (0 : Int) (0 : Int) w) /\
 ∀ m n3 n4, AllJ 14 (∀ wl, I m n3 n4 wl ->
 BCase (decide (n4 < ((List.length s0 : Nat) : Int)))
 (((0 <= n4 /\ n4 < ((List.length s0 : Nat) : Int))) /\
 ∃ m' : Nat, m' < m /\ I m' (i64.wrap ((i64.wrap ((i64.wrap (n3 * (10 : Int))) + (i64.wrap (qA s0 n4)))) - (48 : Int))) (i64.wrap (n4 + (1 : Int))) wl)
 (K (.int .i64 n3) wl))
theorem qll (s0 : List UInt8) {w : World} {K : Value -> World -> Prop} (h : qhH s0 w K) : Calls prog qcU #[.string (mkS s0)] w (Ret K) :=
 qo (c := qr Tryz.f204) (by kernel_rfl) Tryz.func204 (by kernel_rfl) [(8, [(3, .one (.int .i64)), (4, .one (.int .i64))])] [.string (mkS s0)] (of_decide_eq_true (by kernel_rfl)) _ (by kernel_rfl) h

--  cracknel/cracknelref07.month
def qhT (s0 : List UInt8) (w : World) (K : Value -> World -> Prop) : Prop :=
 ∀ k5 w5, k5 = w.heap.size -> w5 = w.alloc (.cells #[.string (mkS [106, 97, 110]), .string (mkS [102, 101, 98]), .string (mkS [109, 97, 114]), .string (mkS [97, 112, 114]), .string (mkS [109, 97, 121]), .string (mkS [106, 117, 110]), .string (mkS [106, 117, 108]), .string (mkS [97, 117, 103]), .string (mkS [115, 101, 112]), .string (mkS [111, 99, 116]), .string (mkS [110, 111, 118]), .string (mkS [100, 101, 99])] qe) ->
 ∃ I : Nat -> FP [.one (.int .i64)],
 (∃ m, I m (0 : Int) w5) /\
 ∀ m n4, AllJ 20 (∀ wl, I m n4 wl ->
 BCase (decide (n4 < (12 : Int)))
 (BCase (decide (((List.length s0 : Nat) : Int) >= (3 : Int)))
 (((0 <= (3 : Int) /\ (3 : Int) <= (((List.length s0) : Nat) : Int))) /\
 ∀ s15, s15 = (List.take (Int.toNat (3 : Int)) s0) ->
 ∃ s16, (∀ u16, Below wl.heap.size wl u16 -> Calls prog jg #[.string (mkS s15)] u16 fun e16 w16 => e16 = .returned (.string (mkS s16)) /\ Below wl.heap.size u16 w16) /\
 ((0 <= n4 /\ n4 < ((12 : Nat) : Int)) /\ true = true) /\
 ∃ s20, (∀ u20, Below wl.heap.size wl u20 -> Ld qe (qn (some ⟨k5, 0, none⟩) n4 1) u20 (.string (mkS s20))) /\
 ∀ wq, Below wl.heap.size wl wq ->
 BCase (s16 == s20)
 (K (.int .i64 (i64.wrap (n4 + (1 : Int)))) wq)
 (∃ m' : Nat, m' < m /\ I m' (i64.wrap (n4 + (1 : Int))) wq))
 (∀ wq_1, Below wl.heap.size wl wq_1 ->
 ∃ m' : Nat, m' < m /\ I m' (i64.wrap (n4 + (1 : Int))) wq_1))
 (K (.int .i64 (0 : Int)) wl))
theorem qlC (s0 : List UInt8) {w : World} {K : Value -> World -> Prop} (h : qhT s0 w K) : Calls prog qdI #[.string (mkS s0)] w (Ret K) :=
 qo (c := qr Tryz.f205) (by kernel_rfl) Tryz.func205 (by kernel_rfl) [(8, [(4, .one (.int .i64))])] [.string (mkS s0)] (of_decide_eq_true (by kernel_rfl)) _ (by kernel_rfl) h

--  cracknel/cracknelref07.Is
def ql0 (n0 : Int) (n1 : Int) (n2 : Int) (w : World) (K : Value -> World -> Prop) : Prop :=
 BCase (decide (n0 >= (1601 : Int)))
 (BCase (decide (n0 <= (9999 : Int)))
 (BCase (decide (n1 >= (1 : Int)))
 (BCase (decide (n1 <= (12 : Int)))
 (BCase (decide (n2 >= (1 : Int)))
 (Calls prog qaf #[.int .i64 n0, .int .i64 n1] w fun e29 w29 => ∃ n29, e29 = .returned (.int .i64 n29) /\
 K (.bool (decide (n2 <= n29))) w29)
 (K (.bool false) w))
 (K (.bool false) w))
 (K (.bool false) w))
 (K (.bool false) w))
 (K (.bool false) w)
theorem qpe (n0 : Int) (n1 : Int) (n2 : Int) {w : World} {K : Value -> World -> Prop} (h : ql0 n0 n1 n2 w K) : Calls prog qg5 #[.int .i64 n0, .int .i64 n1, .int .i64 n2] w (Ret K) :=
 qo (c := qr Tryz.f206) (by kernel_rfl) Tryz.func206 (by kernel_rfl) [] [.int .i64 n0, .int .i64 n1, .int .i64 n2] (of_decide_eq_true (by kernel_rfl)) _ (by kernel_rfl) h

--  cracknel/cracknelref07.Days
def qiY (n0 : Int) (n1 : Int) (n2 : Int) (w : World) (K : Value -> World -> Prop) : Prop :=
 Calls prog qg5 #[.int .i64 n0, .int .i64 n1, .int .i64 n2] w fun e15 w15 => ∃ b15, e15 = .returned (.bool b15) /\
 BCase (!b15)
 (K (.tuple #[.int .i64 (0 : Int), .bool false]) w15)
 (∃ I : Nat -> FP [.one (.int .i64), .one (.int .i64)],
 (∃ m, I m (i64.wrap (n2 - (1 : Int))) (1 : Int) w15) /\
 ∀ m n8 n9, AllJ 10 (∀ wl, I m n8 n9 wl ->
 BCase (decide (n9 < n1))
 (Calls prog qaf #[.int .i64 n0, .int .i64 n9] wl fun e27 w27 => ∃ n27, e27 = .returned (.int .i64 n27) /\
 ∃ m' : Nat, m' < m /\ I m' (i64.wrap (n8 + n27)) (i64.wrap (n9 + (1 : Int))) w27)
 (∃ I_1 : Nat -> FP [.one (.int .i64), .one (.int .i64)],
 (∃ m_1, I_1 m_1 n8 (1970 : Int) wl) /\
 ∀ m_1 n8_1 n10, AllJ 9 (∀ wl_1, I_1 m_1 n8_1 n10 wl_1 ->
 BCase (decide (n10 < n0))
 (Calls prog qa5 #[.int .i64 n10] wl_1 fun e36 w36 => ∃ n36, e36 = .returned (.int .i64 n36) /\
 ∃ m'_1 : Nat, m'_1 < m_1 /\ I_1 m'_1 (i64.wrap (n8_1 + n36)) (i64.wrap (n10 + (1 : Int))) w36)
 (∃ I_2 : Nat -> FP [.one (.int .i64), .one (.int .i64)],
 (∃ m_2, I_2 m_2 n8_1 n0 wl_1) /\
 ∀ m_2 n8_2 n11, AllJ 8 (∀ wl_2, I_2 m_2 n8_2 n11 wl_2 ->
 BCase (decide (n11 < (1970 : Int)))
 (Calls prog qa5 #[.int .i64 n11] wl_2 fun e45 w45 => ∃ n45, e45 = .returned (.int .i64 n45) /\
 ∃ m'_2 : Nat, m'_2 < m_2 /\ I_2 m'_2 (i64.wrap (n8_2 - n45)) (i64.wrap (n11 + (1 : Int))) w45)
 (K (.tuple #[.int .i64 n8_2, .bool true]) wl_2)))))))
theorem qmO (n0 : Int) (n1 : Int) (n2 : Int) {w : World} {K : Value -> World -> Prop} (h : qiY n0 n1 n2 w K) : Calls prog qbL #[.int .i64 n0, .int .i64 n1, .int .i64 n2] w (Ret K) :=
 qo (c := qr Tryz.f207) (by kernel_rfl) Tryz.func207 (by kernel_rfl) [(16, [(8, .one (.int .i64)), (9, .one (.int .i64))]), (31, [(8, .one (.int .i64)), (10, .one (.int .i64))]), (46, [(8, .one (.int .i64)), (11, .one (.int .i64))])] [.int .i64 n0, .int .i64 n1, .int .i64 n2] (of_decide_eq_true (by kernel_rfl)) _ (by kernel_rfl) h

--  cracknel/header.Parse
def qgV (s0 : List UInt8) (w : World) (K : Value -> World -> Prop) : Prop :=
 ∀ k2 w2, k2 = w.heap.size -> w2 = w.alloc (.cells #[.string (mkS []), .string (mkS []), .string (mkS []), .string (mkS []), .bool false, .int .i64 (0 : Int), .bool false, .int .i64 (0 : Int), .bool false, .bool false, .int .i64 (0 : Int)] qd) ->
 Calls prog qdv #[.string (mkS s0)] w2 fun e15 w15 => ∃ b15, e15 = .returned (.bool b15) /\
 BCase b15
 (∃ wx, Sv qd (some ⟨k2, 0, none⟩) (hV [] [] [] [] false (0 : Int) false (0 : Int) false false (0 : Int)) w15 wx /\
 ∃ sr0_0 sr0_1 sr0_2 sr0_3 br0_4 nr0_5 br0_6 nr0_7 br0_8 br0_9 nr0_10, (qC qd (.pointer (some ⟨k2, 0, none⟩))).run prog wx = .ok (hV sr0_0 sr0_1 sr0_2 sr0_3 br0_4 nr0_5 br0_6 nr0_7 br0_8 br0_9 nr0_10) wx /\
 K (.tuple #[(hV sr0_0 sr0_1 sr0_2 sr0_3 br0_4 nr0_5 br0_6 nr0_7 br0_8 br0_9 nr0_10), .int .i64 (81 : Int)]) wx)
 (Calls prog qay #[.string (mkS s0), .int .u8 (59 : Int)] w15 fun e18 w18 => ∃ a18 l18 c18, e18 = .returned (.slice a18 l18 c18) /\
 ∀ k5 w5, k5 = w18.heap.size -> w5 = w18.alloc (.cells #[.string (mkS []), .string (mkS []), .string (mkS []), .string (mkS []), .bool false, .int .i64 (0 : Int), .bool false, .int .i64 (0 : Int), .bool false, .bool false, .int .i64 (0 : Int)] qd) ->
 ((0 <= (0 : Int) /\ (0 : Int) < ((l18 : Nat) : Int)) /\ Option.isSome a18 = true) /\
 ∃ s22, Ld qe (qn a18 (0 : Int) 1) w5 (.string (mkS s22)) /\
 Calls prog qdJ #[.string (mkS s22)] w5 fun e23 w23 => ∃ s23_0 s23_1 b23_2, e23 = .returned (.tuple #[.string (mkS s23_0), .string (mkS s23_1), .bool b23_2]) /\
 ∃ J : FP [.one (.str), .one (.str)],
 (BCase (!b23_2)
 (J [] s23_0 w23)
 (J s23_0 s23_1 w23)) /\
 ∀ s6 s7, AllJ 3 (∀ wj, J s6 s7 wj ->
 ((((List.length s6 + List.length s7 : Nat) : Int) <= i64.max)) /\
 ∀ s33, s33 = (s6 ++ s7) ->
 BCase (s33 == [])
 (∃ wx_1, Sv qd (some ⟨k2, 0, none⟩) (hV [] [] [] [] false (0 : Int) false (0 : Int) false false (0 : Int)) wj wx_1 /\
 ∃ sr0_0_1 sr0_1_1 sr0_2_1 sr0_3_1 br0_4_1 nr0_5_1 br0_6_1 nr0_7_1 br0_8_1 br0_9_1 nr0_10_1, (qC qd (.pointer (some ⟨k2, 0, none⟩))).run prog wx_1 = .ok (hV sr0_0_1 sr0_1_1 sr0_2_1 sr0_3_1 br0_4_1 nr0_5_1 br0_6_1 nr0_7_1 br0_8_1 br0_9_1 nr0_10_1) wx_1 /\
 K (.tuple #[(hV sr0_0_1 sr0_1_1 sr0_2_1 sr0_3_1 br0_4_1 nr0_5_1 br0_6_1 nr0_7_1 br0_8_1 br0_9_1 nr0_10_1), .int .i64 (82 : Int)]) wx_1)
 (BCase (decide ((i64.wrap (((List.length s6 : Nat) : Int) + ((List.length s7 : Nat) : Int))) > (4096 : Int)))
 (∃ wx_2, Sv qd (some ⟨k2, 0, none⟩) (hV [] [] [] [] false (0 : Int) false (0 : Int) false false (0 : Int)) wj wx_2 /\
 ∃ sr0_0_2 sr0_1_2 sr0_2_2 sr0_3_2 br0_4_2 nr0_5_2 br0_6_2 nr0_7_2 br0_8_2 br0_9_2 nr0_10_2, (qC qd (.pointer (some ⟨k2, 0, none⟩))).run prog wx_2 = .ok (hV sr0_0_2 sr0_1_2 sr0_2_2 sr0_3_2 br0_4_2 nr0_5_2 br0_6_2 nr0_7_2 br0_8_2 br0_9_2 nr0_10_2) wx_2 /\
 K (.tuple #[(hV sr0_0_2 sr0_1_2 sr0_2_2 sr0_3_2 br0_4_2 nr0_5_2 br0_6_2 nr0_7_2 br0_8_2 br0_9_2 nr0_10_2), .int .i64 (83 : Int)]) wx_2)
 ((true = true) /\
 ∃ wx_3, Sv qe (some ⟨k5, 0, none⟩) (.string (mkS s6)) wj wx_3 /\
 (true = true) /\
 ∃ wx_4, Sv qe (some ⟨k5, 1, none⟩) (.string (mkS s7)) wx_3 wx_4 /\
 ((0 <= (1 : Int) /\ (1 : Int) <= ((l18 : Nat) : Int))) /\
 ∃ I : Nat -> FP [.one (.int .i64)],
 (∃ m, I m (0 : Int) wx_4) /\
 ∀ m n51, AllJ 21 (∀ wl, I m n51 wl ->
 BCase (decide (n51 < (((l18 - (Int.toNat (1 : Int))) : Nat) : Int)))
 (((0 <= n51 /\ n51 < (((l18 - (Int.toNat (1 : Int))) : Nat) : Int)) /\ Option.isSome (qlN a18 c18 (Int.toNat (1 : Int)) 1) = true) /\
 ∃ s54, Ld qe (qn (qlN a18 c18 (Int.toNat (1 : Int)) 1) n51 1) wl (.string (mkS s54)) /\
 Calls prog qdJ #[.string (mkS s54)] wl fun e57 w57 => ∃ s57_0 s57_1 b57_2, e57 = .returned (.tuple #[.string (mkS s57_0), .string (mkS s57_1), .bool b57_2]) /\
 BCase (decide (((List.length s57_1 : Nat) : Int) <= (1024 : Int)))
 (Calls prog qab #[.string (mkS s57_0)] w57 fun e65 w65 => ∃ s65, e65 = .returned (.string (mkS s65)) /\
 Calls prog qcQ #[.pointer (some ⟨k5, 0, none⟩), .string (mkS s65), .string (mkS s57_1)] w65 fun e67 w67 => e67 = .returned (.tuple #[]) /\
 ∃ m' : Nat, m' < m /\ I m' (i64.wrap (n51 + (1 : Int))) w67)
 (∃ m' : Nat, m' < m /\ I m' (i64.wrap (n51 + (1 : Int))) w57))
 (∃ s69_0 s69_1 s69_2 s69_3 b69_4 n69_5 b69_6 n69_7 b69_8 b69_9 n69_10, Ld qd (some ⟨k5, 0, none⟩) wl (hV s69_0 s69_1 s69_2 s69_3 b69_4 n69_5 b69_6 n69_7 b69_8 b69_9 n69_10) /\
 ∃ wx_5, Sv qd (some ⟨k2, 0, none⟩) (hV s69_0 s69_1 s69_2 s69_3 b69_4 n69_5 b69_6 n69_7 b69_8 b69_9 n69_10) wl wx_5 /\
 ∃ sr0_0_3 sr0_1_3 sr0_2_3 sr0_3_3 br0_4_3 nr0_5_3 br0_6_3 nr0_7_3 br0_8_3 br0_9_3 nr0_10_3, (qC qd (.pointer (some ⟨k2, 0, none⟩))).run prog wx_5 = .ok (hV sr0_0_3 sr0_1_3 sr0_2_3 sr0_3_3 br0_4_3 nr0_5_3 br0_6_3 nr0_7_3 br0_8_3 br0_9_3 nr0_10_3) wx_5 /\
 K (.tuple #[(hV sr0_0_3 sr0_1_3 sr0_2_3 sr0_3_3 br0_4_3 nr0_5_3 br0_6_3 nr0_7_3 br0_8_3 br0_9_3 nr0_10_3), .int .i64 (0 : Int)]) wx_5))))))
theorem qkG (s0 : List UInt8) {w : World} {K : Value -> World -> Prop} (h : qgV s0 w K) : Calls prog qeM #[.string (mkS s0)] w (Ret K) :=
 qo (c := qr Tryz.f209) (by kernel_rfl) Tryz.func209 (by kernel_rfl) [(16, [(6, .one (.str)), (7, .one (.str))]), (43, [(51, .one (.int .i64))])] [.string (mkS s0)] (of_decide_eq_true (by kernel_rfl)) _ (by kernel_rfl) h

--  cracknel/header.written
def qe9 (s0_0 : List UInt8) (s0_1 : List UInt8) (s0_2 : List UInt8) (s0_3 : List UInt8) (b0_4 : Bool) (n0_5 : Int) (b0_6 : Bool) (n0_7 : Int) (b0_8 : Bool) (b0_9 : Bool) (n0_10 : Int) (w : World) (K : Value -> World -> Prop) : Prop :=
 ∀ k1 w1, k1 = w.heap.size -> w1 = w.alloc (.cells #[.string (mkS s0_0), .string (mkS s0_1), .string (mkS s0_2), .string (mkS s0_3), .bool b0_4, .int .i64 n0_5, .bool b0_6, .int .i64 n0_7, .bool b0_8, .bool b0_9, .int .i64 n0_10] qd) ->
 (true = true) /\
 ∃ s6, Ld qe (some ⟨k1, 0, none⟩) w1 (.string (mkS s6)) /\
 ((((List.length s6 + List.length [61] : Nat) : Int) <= i64.max)) /\
 ∀ s7, s7 = (s6 ++ [61]) ->
 (true = true) /\
 ∃ s9, Ld qe (some ⟨k1, 1, none⟩) w1 (.string (mkS s9)) /\
 ((((List.length s7 + List.length s9 : Nat) : Int) <= i64.max)) /\
 ∀ s10, s10 = (s7 ++ s9) ->
 ∀ k11 w11, k11 = w1.heap.size -> w11 = w1.alloc (.cells #[.string (mkS s10)] qe) ->
 ∀ k3 w3, k3 = w11.heap.size -> w3 = w11.alloc (.cells #[.slice none 0 0] qD) ->
 ∃ wx, Sv qD (some ⟨k3, 0, none⟩) (.slice (some ⟨k11, 0, none⟩) 1 1) w3 wx /\
 ∃ J : FP [],
 ((true = true) /\
 (true = true) /\
 (∃ b15, Ld qy (some ⟨k1, 4, none⟩) (World.drew wx) (.bool b15) /\
 ∃ n17, Ld qZ (some ⟨k1, 5, none⟩) (World.drew wx) (.int .i64 n17) /\
 Calls prog qec #[.int .i64 n17] (World.drew wx) fun e18 w18 => ∃ s18, e18 = .returned (.string (mkS s18)) /\
 ((((List.length [69, 120, 112, 105, 114, 101, 115, 61] + List.length s18 : Nat) : Int) <= i64.max)) /\
 ∀ s19, s19 = ([69, 120, 112, 105, 114, 101, 115, 61] ++ s18) ->
 Calls prog qH #[.bool b15, .string (mkS s19), .pointer (some ⟨k3, 0, none⟩)] w18 fun e20 w20 => e20 = .returned (.tuple #[]) /\
 J w20) /\
 ∃ n17_1, Ld qZ (some ⟨k1, 5, none⟩) (World.drew wx) (.int .i64 n17_1) /\
 (∃ b15_1, Ld qy (some ⟨k1, 4, none⟩) (World.drew wx) (.bool b15_1) /\
 Calls prog qec #[.int .i64 n17_1] (World.drew wx) fun e18_1 w18_1 => ∃ s18_1, e18_1 = .returned (.string (mkS s18_1)) /\
 ((((List.length [69, 120, 112, 105, 114, 101, 115, 61] + List.length s18_1 : Nat) : Int) <= i64.max)) /\
 ∀ s19_1, s19_1 = ([69, 120, 112, 105, 114, 101, 115, 61] ++ s18_1) ->
 Calls prog qH #[.bool b15_1, .string (mkS s19_1), .pointer (some ⟨k3, 0, none⟩)] w18_1 fun e20_1 w20_1 => e20_1 = .returned (.tuple #[]) /\
 J w20_1) /\
 Calls prog qec #[.int .i64 n17_1] (World.drew wx) fun e18_2 w18_2 => ∃ s18_2, e18_2 = .returned (.string (mkS s18_2)) /\
 ((((List.length [69, 120, 112, 105, 114, 101, 115, 61] + List.length s18_2 : Nat) : Int) <= i64.max)) /\
 ∀ s19_2, s19_2 = ([69, 120, 112, 105, 114, 101, 115, 61] ++ s18_2) ->
 ∃ b15_2, Ld qy (some ⟨k1, 4, none⟩) w18_2 (.bool b15_2) /\
 Calls prog qH #[.bool b15_2, .string (mkS s19_2), .pointer (some ⟨k3, 0, none⟩)] w18_2 fun e20_2 w20_2 => e20_2 = .returned (.tuple #[]) /\
 J w20_2) /\
 AllJ 8 (∀ wj, J wj ->
 ∃ J_1 : FP [],
 ((true = true) /\
 (true = true) /\
 (∃ b23, Ld qy (some ⟨k1, 6, none⟩) (World.drew wj) (.bool b23) /\
 ∃ n25, Ld qZ (some ⟨k1, 7, none⟩) (World.drew wj) (.int .i64 n25) /\
 Calls prog qaq #[.int .i64 n25, .int .i64 (10 : Int)] (World.drew wj) fun e26 w26 => ∃ s26, e26 = .returned (.string (mkS s26)) /\
 ((((List.length [77, 97, 120, 45, 65, 103, 101, 61] + List.length s26 : Nat) : Int) <= i64.max)) /\
 ∀ s27, s27 = ([77, 97, 120, 45, 65, 103, 101, 61] ++ s26) ->
 Calls prog qH #[.bool b23, .string (mkS s27), .pointer (some ⟨k3, 0, none⟩)] w26 fun e28 w28 => e28 = .returned (.tuple #[]) /\
 J_1 w28) /\
 ∃ n25_1, Ld qZ (some ⟨k1, 7, none⟩) (World.drew wj) (.int .i64 n25_1) /\
 (∃ b23_1, Ld qy (some ⟨k1, 6, none⟩) (World.drew wj) (.bool b23_1) /\
 Calls prog qaq #[.int .i64 n25_1, .int .i64 (10 : Int)] (World.drew wj) fun e26_1 w26_1 => ∃ s26_1, e26_1 = .returned (.string (mkS s26_1)) /\
 ((((List.length [77, 97, 120, 45, 65, 103, 101, 61] + List.length s26_1 : Nat) : Int) <= i64.max)) /\
 ∀ s27_1, s27_1 = ([77, 97, 120, 45, 65, 103, 101, 61] ++ s26_1) ->
 Calls prog qH #[.bool b23_1, .string (mkS s27_1), .pointer (some ⟨k3, 0, none⟩)] w26_1 fun e28_1 w28_1 => e28_1 = .returned (.tuple #[]) /\
 J_1 w28_1) /\
 Calls prog qaq #[.int .i64 n25_1, .int .i64 (10 : Int)] (World.drew wj) fun e26_2 w26_2 => ∃ s26_2, e26_2 = .returned (.string (mkS s26_2)) /\
 ((((List.length [77, 97, 120, 45, 65, 103, 101, 61] + List.length s26_2 : Nat) : Int) <= i64.max)) /\
 ∀ s27_2, s27_2 = ([77, 97, 120, 45, 65, 103, 101, 61] ++ s26_2) ->
 ∃ b23_2, Ld qy (some ⟨k1, 6, none⟩) w26_2 (.bool b23_2) /\
 Calls prog qH #[.bool b23_2, .string (mkS s27_2), .pointer (some ⟨k3, 0, none⟩)] w26_2 fun e28_2 w28_2 => e28_2 = .returned (.tuple #[]) /\
 J_1 w28_2) /\
 AllJ 8 (∀ wj_1, J_1 wj_1 ->
 ∃ J_2 : FP [],
 ((true = true) /\
 (true = true) /\
 (∃ s31, Ld qe (some ⟨k1, 2, none⟩) (World.drew wj_1) (.string (mkS s31)) /\
 ∃ s34, Ld qe (some ⟨k1, 2, none⟩) (World.drew wj_1) (.string (mkS s34)) /\
 Calls prog qbU #[.string (mkS s34)] (World.drew wj_1) fun e35 w35 => ∃ s35, e35 = .returned (.string (mkS s35)) /\
 ((((List.length [68, 111, 109, 97, 105, 110, 61] + List.length s35 : Nat) : Int) <= i64.max)) /\
 ∀ s36, s36 = ([68, 111, 109, 97, 105, 110, 61] ++ s35) ->
 Calls prog qH #[.bool (!(s31 == [])), .string (mkS s36), .pointer (some ⟨k3, 0, none⟩)] w35 fun e37 w37 => e37 = .returned (.tuple #[]) /\
 J_2 w37) /\
 ∃ s34_1, Ld qe (some ⟨k1, 2, none⟩) (World.drew wj_1) (.string (mkS s34_1)) /\
 (∃ s31_1, Ld qe (some ⟨k1, 2, none⟩) (World.drew wj_1) (.string (mkS s31_1)) /\
 Calls prog qbU #[.string (mkS s34_1)] (World.drew wj_1) fun e35_1 w35_1 => ∃ s35_1, e35_1 = .returned (.string (mkS s35_1)) /\
 ((((List.length [68, 111, 109, 97, 105, 110, 61] + List.length s35_1 : Nat) : Int) <= i64.max)) /\
 ∀ s36_1, s36_1 = ([68, 111, 109, 97, 105, 110, 61] ++ s35_1) ->
 Calls prog qH #[.bool (!(s31_1 == [])), .string (mkS s36_1), .pointer (some ⟨k3, 0, none⟩)] w35_1 fun e37_1 w37_1 => e37_1 = .returned (.tuple #[]) /\
 J_2 w37_1) /\
 Calls prog qbU #[.string (mkS s34_1)] (World.drew wj_1) fun e35_2 w35_2 => ∃ s35_2, e35_2 = .returned (.string (mkS s35_2)) /\
 ((((List.length [68, 111, 109, 97, 105, 110, 61] + List.length s35_2 : Nat) : Int) <= i64.max)) /\
 ∀ s36_2, s36_2 = ([68, 111, 109, 97, 105, 110, 61] ++ s35_2) ->
 ∃ s31_2, Ld qe (some ⟨k1, 2, none⟩) w35_2 (.string (mkS s31_2)) /\
 Calls prog qH #[.bool (!(s31_2 == [])), .string (mkS s36_2), .pointer (some ⟨k3, 0, none⟩)] w35_2 fun e37_2 w37_2 => e37_2 = .returned (.tuple #[]) /\
 J_2 w37_2) /\
 AllJ 9 (∀ wj_2, J_2 wj_2 ->
 (true = true) /\
 ∃ s40, Ld qe (some ⟨k1, 3, none⟩) wj_2 (.string (mkS s40)) /\
 (true = true) /\
 ∃ s43, Ld qe (some ⟨k1, 3, none⟩) wj_2 (.string (mkS s43)) /\
 ((((List.length [80, 97, 116, 104, 61] + List.length s43 : Nat) : Int) <= i64.max)) /\
 ∀ s44, s44 = ([80, 97, 116, 104, 61] ++ s43) ->
 Calls prog qH #[.bool (!(s40 == [])), .string (mkS s44), .pointer (some ⟨k3, 0, none⟩)] wj_2 fun e45 w45 => e45 = .returned (.tuple #[]) /\
 (true = true) /\
 ∃ b48, Ld qy (some ⟨k1, 8, none⟩) w45 (.bool b48) /\
 Calls prog qH #[.bool b48, .string (mkS [83, 101, 99, 117, 114, 101]), .pointer (some ⟨k3, 0, none⟩)] w45 fun e49 w49 => e49 = .returned (.tuple #[]) /\
 (true = true) /\
 ∃ b52, Ld qy (some ⟨k1, 9, none⟩) w49 (.bool b52) /\
 Calls prog qH #[.bool b52, .string (mkS [72, 116, 116, 112, 79, 110, 108, 121]), .pointer (some ⟨k3, 0, none⟩)] w49 fun e53 w53 => e53 = .returned (.tuple #[]) /\
 ∃ J_3 : FP [.one (.bool)],
 ((true = true) /\
 ∃ n55, Ld qx (some ⟨k1, 10, none⟩) w53 (.int .i64 n55) /\
 BCase (decide (n55 > (0 : Int)))
 ((true = true) /\
 ∃ n59, Ld qx (some ⟨k1, 10, none⟩) w53 (.int .i64 n59) /\
 J_3 (decide (n59 <= (3 : Int))) w53)
 (J_3 false w53)) /\
 ∀ b61, AllJ 7 (∀ wj_3, J_3 b61 wj_3 ->
 BCase b61
 ((true = true) /\
 (Calls prog qci #[] (World.drew wj_3) fun e63 w63 => ∃ s63_0 s63_1 s63_2 s63_3, e63 = .returned (.agg #[.string (mkS s63_0), .string (mkS s63_1), .string (mkS s63_2), .string (mkS s63_3)]) /\
 ∃ n65, Ld qx (some ⟨k1, 10, none⟩) w63 (.int .i64 n65) /\
 ∃ s66, (Instr.index je (.agg #[.string (mkS s63_0), .string (mkS s63_1), .string (mkS s63_2), .string (mkS s63_3)]) (.int .i64 n65)).run prog w63 = .ok (.string (mkS s66)) w63 /\
 ((((List.length [83, 97, 109, 101, 83, 105, 116, 101, 61] + List.length s66 : Nat) : Int) <= i64.max)) /\
 ∀ s67, s67 = ([83, 97, 109, 101, 83, 105, 116, 101, 61] ++ s66) ->
 Calls prog qH #[.bool true, .string (mkS s67), .pointer (some ⟨k3, 0, none⟩)] w63 fun e68 w68 => e68 = .returned (.tuple #[]) /\
 ∃ a69 l69 c69, Ld qD (some ⟨k3, 0, none⟩) w68 (.slice a69 l69 c69) /\
 Calls prog jJ #[.slice a69 l69 c69, .string (mkS [59, 32])] w68 fun e70 w70 => ∃ s70, e70 = .returned (.string (mkS s70)) /\
 K (.string (mkS s70)) w70) /\
 ∃ n65_1, Ld qx (some ⟨k1, 10, none⟩) (World.drew wj_3) (.int .i64 n65_1) /\
 Calls prog qci #[] (World.drew wj_3) fun e63_1 w63_1 => ∃ s63_0_1 s63_1_1 s63_2_1 s63_3_1, e63_1 = .returned (.agg #[.string (mkS s63_0_1), .string (mkS s63_1_1), .string (mkS s63_2_1), .string (mkS s63_3_1)]) /\
 ∃ s66_1, (Instr.index je (.agg #[.string (mkS s63_0_1), .string (mkS s63_1_1), .string (mkS s63_2_1), .string (mkS s63_3_1)]) (.int .i64 n65_1)).run prog w63_1 = .ok (.string (mkS s66_1)) w63_1 /\
 ((((List.length [83, 97, 109, 101, 83, 105, 116, 101, 61] + List.length s66_1 : Nat) : Int) <= i64.max)) /\
 ∀ s67_1, s67_1 = ([83, 97, 109, 101, 83, 105, 116, 101, 61] ++ s66_1) ->
 Calls prog qH #[.bool true, .string (mkS s67_1), .pointer (some ⟨k3, 0, none⟩)] w63_1 fun e68_1 w68_1 => e68_1 = .returned (.tuple #[]) /\
 ∃ a69_1 l69_1 c69_1, Ld qD (some ⟨k3, 0, none⟩) w68_1 (.slice a69_1 l69_1 c69_1) /\
 Calls prog jJ #[.slice a69_1 l69_1 c69_1, .string (mkS [59, 32])] w68_1 fun e70_1 w70_1 => ∃ s70_1, e70_1 = .returned (.string (mkS s70_1)) /\
 K (.string (mkS s70_1)) w70_1)
 (∃ a69_2 l69_2 c69_2, Ld qD (some ⟨k3, 0, none⟩) wj_3 (.slice a69_2 l69_2 c69_2) /\
 Calls prog jJ #[.slice a69_2 l69_2 c69_2, .string (mkS [59, 32])] wj_3 fun e70_2 w70_2 => ∃ s70_2, e70_2 = .returned (.string (mkS s70_2)) /\
 K (.string (mkS s70_2)) w70_2)))))
theorem qiK (s0_0 : List UInt8) (s0_1 : List UInt8) (s0_2 : List UInt8) (s0_3 : List UInt8) (b0_4 : Bool) (n0_5 : Int) (b0_6 : Bool) (n0_7 : Int) (b0_8 : Bool) (b0_9 : Bool) (n0_10 : Int) {w : World} {K : Value -> World -> Prop} (h : qe9 s0_0 s0_1 s0_2 s0_3 b0_4 n0_5 b0_6 n0_7 b0_8 b0_9 n0_10 w K) : Calls prog qdw #[.agg #[.string (mkS s0_0), .string (mkS s0_1), .string (mkS s0_2), .string (mkS s0_3), .bool b0_4, .int .i64 n0_5, .bool b0_6, .int .i64 n0_7, .bool b0_8, .bool b0_9, .int .i64 n0_10]] w (Ret K) :=
 qo (c := qr Tryz.f210) (by kernel_rfl) Tryz.func210 (by kernel_rfl) [(6, []), (1000007, []), (8, []), (1000009, []), (10, []), (1000011, []), (19, [(61, .one (.bool))]), (1000022, [])] [.agg #[.string (mkS s0_0), .string (mkS s0_1), .string (mkS s0_2), .string (mkS s0_3), .bool b0_4, .int .i64 n0_5, .bool b0_6, .int .i64 n0_7, .bool b0_8, .bool b0_9, .int .i64 n0_10]] (of_decide_eq_true (by kernel_rfl)) _ (by kernel_rfl) h

--  cracknel/cracknelref07.Civil
def qgl (n0 : Int) (n1 : Int) (w : World) (K : Value -> World -> Prop) : Prop :=
 ∃ J : FP [.one (.bool)],
 (BCase (n1 == (4 : Int))
 (J true w)
 (BCase (n1 == (6 : Int))
 (J true w)
 (BCase (n1 == (9 : Int))
 (J true w)
 (J (n1 == (11 : Int)) w)))) /\
 ∀ b6, AllJ 4 (∀ wj, J b6 wj ->
 BCase b6
 (K (.int .i64 (30 : Int)) wj)
 (BCase (n1 == (2 : Int))
 (Calls prog qeB #[.int .i64 n0] wj fun e14 w14 => ∃ b14, e14 = .returned (.bool b14) /\
 BCase b14
 (K (.int .i64 (29 : Int)) w14)
 (K (.int .i64 (28 : Int)) w14))
 (K (.int .i64 (31 : Int)) wj)))
theorem qkq (n0 : Int) (n1 : Int) {w : World} {K : Value -> World -> Prop} (h : qgl n0 n1 w K) : Calls prog qaf #[.int .i64 n0, .int .i64 n1] w (Ret K) :=
 qo (c := qr Tryz.f252) (by kernel_rfl) Tryz.func252 (by kernel_rfl) [(6, [(6, .one (.bool))])] [.int .i64 n0, .int .i64 n1] (of_decide_eq_true (by kernel_rfl)) _ (by kernel_rfl) h

--  cracknel/cracknelref07.year
def qiM (n0 : Int) (w : World) (K : Value -> World -> Prop) : Prop :=
 Calls prog qeB #[.int .i64 n0] w fun e4 w4 => ∃ b4, e4 = .returned (.bool b4) /\
 BCase b4
 (K (.int .i64 (366 : Int)) w4)
 (K (.int .i64 (365 : Int)) w4)
theorem qm3 (n0 : Int) {w : World} {K : Value -> World -> Prop} (h : qiM n0 w K) : Calls prog qa5 #[.int .i64 n0] w (Ret K) :=
 qo (c := qr Tryz.f253) (by kernel_rfl) Tryz.func253 (by kernel_rfl) [] [.int .i64 n0] (of_decide_eq_true (by kernel_rfl)) _ (by kernel_rfl) h

--  cracknel/header.control
def qff (s0 : List UInt8) (w : World) (K : Value -> World -> Prop) : Prop :=
 ∃ w6 a6 l6 c6, (convert qe qE (.string (mkS s0))).run prog w = .ok (.slice a6 l6 c6) w6 /\
 ∃ I : Nat -> FP [.one (.int .i64)],
 (∃ m, I m (0 : Int) w6) /\
 ∀ m n8, AllJ 16 (∀ wl, I m n8 wl ->
 BCase (decide (n8 < ((l6 : Nat) : Int)))
 (((0 <= n8 /\ n8 < ((l6 : Nat) : Int)) /\ Option.isSome a6 = true) /\
 ∃ n11, Ld qw (qn a6 n8 1) wl (.int .u8 n11) /\
 BCase (decide (n11 < (32 : Int)))
 (BCase (n11 != (9 : Int))
 (K (.bool true) wl)
 (BCase (n11 == (127 : Int))
 (K (.bool true) wl)
 (∃ m' : Nat, m' < m /\ I m' (i64.wrap (n8 + (1 : Int))) wl)))
 (BCase (n11 == (127 : Int))
 (K (.bool true) wl)
 (∃ m' : Nat, m' < m /\ I m' (i64.wrap (n8 + (1 : Int))) wl)))
 (K (.bool false) wl))
theorem qjw (s0 : List UInt8) {w : World} {K : Value -> World -> Prop} (h : qff s0 w K) : Calls prog qdv #[.string (mkS s0)] w (Ret K) :=
 qo (c := qr Tryz.f254) (by kernel_rfl) Tryz.func254 (by kernel_rfl) [(6, [(8, .one (.int .i64))])] [.string (mkS s0)] (of_decide_eq_true (by kernel_rfl)) _ (by kernel_rfl) h

--  cracknel/header.pair
def qhq (s0 : List UInt8) (w : World) (K : Value -> World -> Prop) : Prop :=
 Calls prog qiL #[.string (mkS s0), .string (mkS [61])] w fun e10 w10 => ∃ s10_0 s10_1 b10_2, e10 = .returned (.tuple #[.string (mkS s10_0), .string (mkS s10_1), .bool b10_2]) /\
 Calls prog qcs #[.string (mkS s10_0)] w10 fun e15 w15 => ∃ s15, e15 = .returned (.string (mkS s15)) /\
 Calls prog qcs #[.string (mkS s10_1)] w15 fun e17 w17 => ∃ s17, e17 = .returned (.string (mkS s17)) /\
 K (.tuple #[.string (mkS s15), .string (mkS s17), .bool b10_2]) w17
theorem qk2 (s0 : List UInt8) {w : World} {K : Value -> World -> Prop} (h : qhq s0 w K) : Calls prog qdJ #[.string (mkS s0)] w (Ret K) :=
 qo (c := qr Tryz.f255) (by kernel_rfl) Tryz.func255 (by kernel_rfl) [] [.string (mkS s0)] (of_decide_eq_true (by kernel_rfl)) _ (by kernel_rfl) h

--  cracknel/header.attribute
def qdY (p0 : Option Addr) (s1 : List UInt8) (s2 : List UInt8) (w : World) (K : Value -> World -> Prop) : Prop :=
 BCase (s1 == [101, 120, 112, 105, 114, 101, 115])
 (Calls prog qfy #[.string (mkS s2)] w fun e17 w17 => ∃ n17_0 b17_1, e17 = .returned (.tuple #[.int .i64 n17_0, .bool b17_1]) /\
 BCase b17_1
 ((Option.isSome p0 = true) /\
 (Option.isSome p0 = true) /\
 ∃ wx, Sv qy (Option.map (fun x => x.add 4) p0) (.bool true) w17 wx /\
 (Option.isSome p0 = true) /\
 (Option.isSome p0 = true) /\
 ∃ wx_1, Sv qZ (Option.map (fun x => x.add 5) p0) (.int .i64 n17_0) wx wx_1 /\
 K (.tuple #[]) wx_1)
 (K (.tuple #[]) w17))
 (BCase (s1 == [109, 97, 120, 45, 97, 103, 101])
 (Calls prog qgh #[.string (mkS s2)] w fun e32 w32 => ∃ n32_0 b32_1, e32 = .returned (.tuple #[.int .i64 n32_0, .bool b32_1]) /\
 BCase b32_1
 ((Option.isSome p0 = true) /\
 (Option.isSome p0 = true) /\
 ∃ wx_2, Sv qy (Option.map (fun x => x.add 6) p0) (.bool true) w32 wx_2 /\
 (Option.isSome p0 = true) /\
 (Option.isSome p0 = true) /\
 ∃ wx_3, Sv qZ (Option.map (fun x => x.add 7) p0) (.int .i64 n32_0) wx_2 wx_3 /\
 K (.tuple #[]) wx_3)
 (K (.tuple #[]) w32))
 (BCase (s1 == [100, 111, 109, 97, 105, 110])
 (Calls prog qhc #[.string (mkS s2), .string (mkS [46])] w fun e47 w47 => ∃ s47, e47 = .returned (.string (mkS s47)) /\
 Calls prog qab #[.string (mkS s47)] w47 fun e48 w48 => ∃ s48, e48 = .returned (.string (mkS s48)) /\
 (Option.isSome p0 = true) /\
 (Option.isSome p0 = true) /\
 ∃ wx_4, Sv qe (Option.map (fun x => x.add 2) p0) (.string (mkS s48)) w48 wx_4 /\
 K (.tuple #[]) wx_4)
 (BCase (s1 == [112, 97, 116, 104])
 ((Option.isSome p0 = true) /\
 (Option.isSome p0 = true) /\
 ∃ wx_5, Sv qe (Option.map (fun x => x.add 3) p0) (.string (mkS [])) w wx_5 /\
 Calls prog qbg #[.string (mkS s2), .string (mkS [47])] wx_5 fun e57 w57 => ∃ b57, e57 = .returned (.bool b57) /\
 BCase b57
 ((Option.isSome p0 = true) /\
 (Option.isSome p0 = true) /\
 ∃ wx_6, Sv qe (Option.map (fun x => x.add 3) p0) (.string (mkS s2)) w57 wx_6 /\
 K (.tuple #[]) wx_6)
 (K (.tuple #[]) w57))
 (BCase (s1 == [115, 101, 99, 117, 114, 101])
 ((Option.isSome p0 = true) /\
 (Option.isSome p0 = true) /\
 ∃ wx_7, Sv qy (Option.map (fun x => x.add 8) p0) (.bool true) w wx_7 /\
 K (.tuple #[]) wx_7)
 (BCase (s1 == [104, 116, 116, 112, 111, 110, 108, 121])
 ((Option.isSome p0 = true) /\
 (Option.isSome p0 = true) /\
 ∃ wx_8, Sv qy (Option.map (fun x => x.add 9) p0) (.bool true) w wx_8 /\
 K (.tuple #[]) wx_8)
 (BCase (s1 == [115, 97, 109, 101, 115, 105, 116, 101])
 ((Option.isSome p0 = true) /\
 (Option.isSome p0 = true) /\
 ∃ wx_9, Sv qx (Option.map (fun x => x.add 10) p0) (.int .i64 (0 : Int)) w wx_9 /\
 Calls prog qci #[] wx_9 fun e77 w77 => ∃ s77_0 s77_1 s77_2 s77_3, e77 = .returned (.agg #[.string (mkS s77_0), .string (mkS s77_1), .string (mkS s77_2), .string (mkS s77_3)]) /\
 ∃ I : Nat -> FP [.one (.int .i64)],
 (∃ m, I m (0 : Int) w77) /\
 ∀ m n78, AllJ 13 (∀ wl, I m n78 wl ->
 BCase (decide (n78 < (4 : Int)))
 (∃ s81, (Instr.index je (.agg #[.string (mkS s77_0), .string (mkS s77_1), .string (mkS s77_2), .string (mkS s77_3)]) (.int .i64 n78)).run prog wl = .ok (.string (mkS s81)) wl /\
 Calls prog qez #[.string (mkS s81), .string (mkS s2)] wl fun e84 w84 => ∃ b84, e84 = .returned (.bool b84) /\
 BCase b84
 ((Option.isSome p0 = true) /\
 (Option.isSome p0 = true) /\
 ∃ wx_10, Sv qx (Option.map (fun x => x.add 10) p0) (.int .i64 n78) w84 wx_10 /\
 ∃ m' : Nat, m' < m /\ I m' (i64.wrap (n78 + (1 : Int))) wx_10)
 (∃ m' : Nat, m' < m /\ I m' (i64.wrap (n78 + (1 : Int))) w84))
 (K (.tuple #[]) wl)))
 (K (.tuple #[]) w)))))))
theorem qhg (p0 : Option Addr) (s1 : List UInt8) (s2 : List UInt8) {w : World} {K : Value -> World -> Prop} (h : qdY p0 s1 s2 w K) : Calls prog qcQ #[.pointer p0, .string (mkS s1), .string (mkS s2)] w (Ret K) :=
 qo (c := qr Tryz.f256) (by kernel_rfl) Tryz.func256 (by kernel_rfl) [(53, [(78, .one (.int .i64))])] [.pointer p0, .string (mkS s1), .string (mkS s2)] (of_decide_eq_true (by kernel_rfl)) _ (by kernel_rfl) h

--  cracknel/header.written$1
def qdE (b0 : Bool) (s1 : List UInt8) (p2 : Option Addr) (w : World) (K : Value -> World -> Prop) : Prop :=
 BCase b0
 (∃ a6 l6 c6, Ld qD p2 w (.slice a6 l6 c6) /\
 ∀ k8 w8, k8 = w.heap.size -> w8 = w.alloc (.cells #[.string (mkS s1)] qe) ->
 ∃ w9 a9 l9 c9, (Builtin.append_ #[qD, qD] qD #[.slice a6 l6 c6, .slice (some ⟨k8, 0, none⟩) 1 1]).run prog w8 = .ok (.slice a9 l9 c9) w9 /\
 ∃ wx, Sv qD p2 (.slice a9 l9 c9) w9 wx /\
 K (.tuple #[]) wx)
 (K (.tuple #[]) w)
theorem qgF (b0 : Bool) (s1 : List UInt8) (p2 : Option Addr) {w : World} {K : Value -> World -> Prop} (h : qdE b0 s1 p2 w K) : Calls prog qH #[.bool b0, .string (mkS s1), .pointer p2] w (Ret K) :=
 qo (c := qr Tryz.f257) (by kernel_rfl) Tryz.func257 (by kernel_rfl) [] [.bool b0, .string (mkS s1), .pointer p2] (of_decide_eq_true (by kernel_rfl)) _ (by kernel_rfl) h

--  cracknel/date.Text
def qj3 (n0 : Int) (w : World) (K : Value -> World -> Prop) : Prop :=
 ((86400 : Int) ≠ 0) /\
 ∀ q11, q11 = (i64.wrap (Int.tdiv n0 (86400 : Int))) ->
 ((86400 : Int) ≠ 0) /\
 ∀ q13, q13 = (Int.tmod n0 (86400 : Int)) ->
 ∃ J : FP [.one (.int .i64), .one (.int .i64)],
 (BCase (decide (q13 < (0 : Int)))
 (J (i64.wrap (q11 - (1 : Int))) (i64.wrap (q13 + (86400 : Int))) w)
 (J q11 q13 w)) /\
 ∀ n3 n4, AllJ 6 (∀ wj, J n3 n4 wj ->
 Calls prog qgO #[.int .i64 n3] wj fun e22 w22 => ∃ n22_0 n22_1 n22_2 b22_3, e22 = .returned (.tuple #[.int .i64 n22_0, .int .i64 n22_1, .int .i64 n22_2, .bool b22_3]) /\
 BCase (!b22_3)
 (K (.string (mkS [])) w22)
 (((7 : Int) ≠ 0) /\
 ∀ q30, q30 = (Int.tmod n3 (7 : Int)) ->
 ((7 : Int) ≠ 0) /\
 ∀ q32, q32 = (Int.tmod (i64.wrap (q30 + (7 : Int))) (7 : Int)) ->
 (((0 <= (i64.wrap ((i64.wrap ((3 : Int) * q32)) + (3 : Int))) /\ (i64.wrap ((i64.wrap ((3 : Int) * q32)) + (3 : Int))) <= (((List.length [84, 104, 117, 70, 114, 105, 83, 97, 116, 83, 117, 110, 77, 111, 110, 84, 117, 101, 87, 101, 100]) : Nat) : Int)) /\ 0 <= (i64.wrap ((3 : Int) * q32)) /\ (i64.wrap ((3 : Int) * q32)) <= ((Int.toNat (i64.wrap ((i64.wrap ((3 : Int) * q32)) + (3 : Int))) : Nat) : Int))) /\
 ∀ s38, s38 = (List.drop (Int.toNat (i64.wrap ((3 : Int) * q32))) (List.take (Int.toNat (i64.wrap ((i64.wrap ((3 : Int) * q32)) + (3 : Int)))) [84, 104, 117, 70, 114, 105, 83, 97, 116, 83, 117, 110, 77, 111, 110, 84, 117, 101, 87, 101, 100])) ->
 ((((List.length s38 + List.length [44, 32] : Nat) : Int) <= i64.max)) /\
 ∀ s39, s39 = (s38 ++ [44, 32]) ->
 ∃ s41, (∀ u41, Below w22.heap.size w22 u41 -> Calls prog qaA #[.int .i64 n22_2, .int .i64 (2 : Int)] u41 fun e41 w41 => e41 = .returned (.string (mkS s41)) /\ Below w22.heap.size u41 w41) /\
 ((((List.length s39 + List.length s41 : Nat) : Int) <= i64.max)) /\
 ∀ s42, s42 = (s39 ++ s41) ->
 ((((List.length s42 + List.length [32] : Nat) : Int) <= i64.max)) /\
 ∀ s43, s43 = (s42 ++ [32]) ->
 (((0 <= (i64.wrap ((3 : Int) * n22_1)) /\ (i64.wrap ((3 : Int) * n22_1)) <= (((List.length [74, 97, 110, 70, 101, 98, 77, 97, 114, 65, 112, 114, 77, 97, 121, 74, 117, 110, 74, 117, 108, 65, 117, 103, 83, 101, 112, 79, 99, 116, 78, 111, 118, 68, 101, 99]) : Nat) : Int)) /\ 0 <= (i64.wrap ((i64.wrap ((3 : Int) * n22_1)) - (3 : Int))) /\ (i64.wrap ((i64.wrap ((3 : Int) * n22_1)) - (3 : Int))) <= ((Int.toNat (i64.wrap ((3 : Int) * n22_1)) : Nat) : Int))) /\
 ∀ s49, s49 = (List.drop (Int.toNat (i64.wrap ((i64.wrap ((3 : Int) * n22_1)) - (3 : Int)))) (List.take (Int.toNat (i64.wrap ((3 : Int) * n22_1))) [74, 97, 110, 70, 101, 98, 77, 97, 114, 65, 112, 114, 77, 97, 121, 74, 117, 110, 74, 117, 108, 65, 117, 103, 83, 101, 112, 79, 99, 116, 78, 111, 118, 68, 101, 99])) ->
 ((((List.length s43 + List.length s49 : Nat) : Int) <= i64.max)) /\
 ∀ s50, s50 = (s43 ++ s49) ->
 ((((List.length s50 + List.length [32] : Nat) : Int) <= i64.max)) /\
 ∀ s51, s51 = (s50 ++ [32]) ->
 ∃ s53, (∀ u53, Below w22.heap.size w22 u53 -> Calls prog qaA #[.int .i64 n22_0, .int .i64 (4 : Int)] u53 fun e53 w53 => e53 = .returned (.string (mkS s53)) /\ Below w22.heap.size u53 w53) /\
 ((((List.length s51 + List.length s53 : Nat) : Int) <= i64.max)) /\
 ∀ s54, s54 = (s51 ++ s53) ->
 ((((List.length s54 + List.length [32] : Nat) : Int) <= i64.max)) /\
 ∀ s55, s55 = (s54 ++ [32]) ->
 ((3600 : Int) ≠ 0) /\
 ∀ q57, q57 = (i64.wrap (Int.tdiv n4 (3600 : Int))) ->
 ∃ s58, (∀ u58, Below w22.heap.size w22 u58 -> Calls prog qaA #[.int .i64 q57, .int .i64 (2 : Int)] u58 fun e58 w58 => e58 = .returned (.string (mkS s58)) /\ Below w22.heap.size u58 w58) /\
 ((((List.length s55 + List.length s58 : Nat) : Int) <= i64.max)) /\
 ∀ s59, s59 = (s55 ++ s58) ->
 ((((List.length s59 + List.length [58] : Nat) : Int) <= i64.max)) /\
 ∀ s60, s60 = (s59 ++ [58]) ->
 ((60 : Int) ≠ 0) /\
 ∀ q62, q62 = (i64.wrap (Int.tdiv n4 (60 : Int))) ->
 ((60 : Int) ≠ 0) /\
 ∀ q63, q63 = (Int.tmod q62 (60 : Int)) ->
 ∃ s64, (∀ u64, Below w22.heap.size w22 u64 -> Calls prog qaA #[.int .i64 q63, .int .i64 (2 : Int)] u64 fun e64 w64 => e64 = .returned (.string (mkS s64)) /\ Below w22.heap.size u64 w64) /\
 ((((List.length s60 + List.length s64 : Nat) : Int) <= i64.max)) /\
 ∀ s65, s65 = (s60 ++ s64) ->
 ((((List.length s65 + List.length [58] : Nat) : Int) <= i64.max)) /\
 ∀ s66, s66 = (s65 ++ [58]) ->
 ((60 : Int) ≠ 0) /\
 ∀ q68, q68 = (Int.tmod n4 (60 : Int)) ->
 ∃ s69, (∀ u69, Below w22.heap.size w22 u69 -> Calls prog qaA #[.int .i64 q68, .int .i64 (2 : Int)] u69 fun e69 w69 => e69 = .returned (.string (mkS s69)) /\ Below w22.heap.size u69 w69) /\
 ((((List.length s66 + List.length s69 : Nat) : Int) <= i64.max)) /\
 ∀ s70, s70 = (s66 ++ s69) ->
 ((((List.length s70 + List.length [32, 71, 77, 84] : Nat) : Int) <= i64.max)) /\
 ∀ s71, s71 = (s70 ++ [32, 71, 77, 84]) ->
 ∀ wq, Below w22.heap.size w22 wq ->
 K (.string (mkS s71)) wq))
theorem qnS (n0 : Int) {w : World} {K : Value -> World -> Prop} (h : qj3 n0 w K) : Calls prog qec #[.int .i64 n0] w (Ret K) :=
 qo (c := qr Tryz.f258) (by kernel_rfl) Tryz.func258 (by kernel_rfl) [(6, [(3, .one (.int .i64)), (4, .one (.int .i64))])] [.int .i64 n0] (of_decide_eq_true (by kernel_rfl)) _ (by kernel_rfl) h

--  cracknel/header.dotted
def qfY (s0 : List UInt8) (w : World) (K : Value -> World -> Prop) : Prop :=
 Calls prog qcs #[.string (mkS s0)] w fun e4 w4 => ∃ s4, e4 = .returned (.string (mkS s4)) /\
 BCase (!(s4 == s0))
 (((((List.length [46] + List.length s0 : Nat) : Int) <= i64.max)) /\
 ∀ s12, s12 = ([46] ++ s0) ->
 K (.string (mkS s12)) w4)
 (Calls prog qbg #[.string (mkS s0), .string (mkS [46])] w4 fun e9 w9 => ∃ b9, e9 = .returned (.bool b9) /\
 BCase b9
 (((((List.length [46] + List.length s0 : Nat) : Int) <= i64.max)) /\
 ∀ s12_1, s12_1 = ([46] ++ s0) ->
 K (.string (mkS s12_1)) w9)
 (K (.string (mkS s0)) w9))
theorem qjJ (s0 : List UInt8) {w : World} {K : Value -> World -> Prop} (h : qfY s0 w K) : Calls prog qbU #[.string (mkS s0)] w (Ret K) :=
 qo (c := qr Tryz.f260) (by kernel_rfl) Tryz.func260 (by kernel_rfl) [] [.string (mkS s0)] (of_decide_eq_true (by kernel_rfl)) _ (by kernel_rfl) h

--  cracknel/header.names
def qgN  (w : World) (K : Value -> World -> Prop) : Prop :=
 ∀ k0 w0, k0 = w.heap.size -> w0 = w.alloc (.cells #[.string (mkS []), .string (mkS []), .string (mkS []), .string (mkS [])] je) ->
 ∃ wx, Sv je (some ⟨k0, 0, none⟩) (.agg #[.string (mkS []), .string (mkS [78, 111, 110, 101]), .string (mkS [76, 97, 120]), .string (mkS [83, 116, 114, 105, 99, 116])]) w0 wx /\
 ∃ sr0_0 sr0_1 sr0_2 sr0_3, (qC je (.pointer (some ⟨k0, 0, none⟩))).run prog wx = .ok (.agg #[.string (mkS sr0_0), .string (mkS sr0_1), .string (mkS sr0_2), .string (mkS sr0_3)]) wx /\
 K (.agg #[.string (mkS sr0_0), .string (mkS sr0_1), .string (mkS sr0_2), .string (mkS sr0_3)]) wx
theorem qkn  {w : World} {K : Value -> World -> Prop} (h : qgN  w K) : Calls prog qci #[] w (Ret K) :=
 qo (c := qr Tryz.f261) (by kernel_rfl) Tryz.func261 (by kernel_rfl) [] [] (of_decide_eq_true (by kernel_rfl)) _ (by kernel_rfl) h

--  cracknel/cracknelref07.leap
def qiI (n0 : Int) (w : World) (K : Value -> World -> Prop) : Prop :=
 ((400 : Int) ≠ 0) /\
 ∀ q4, q4 = (Int.tmod n0 (400 : Int)) ->
 BCase (q4 == (0 : Int))
 (K (.bool true) w)
 (((4 : Int) ≠ 0) /\
 ∀ q7, q7 = (Int.tmod n0 (4 : Int)) ->
 BCase (q7 == (0 : Int))
 (((100 : Int) ≠ 0) /\
 ∀ q11, q11 = (Int.tmod n0 (100 : Int)) ->
 K (.bool (q11 != (0 : Int))) w)
 (K (.bool false) w))
theorem qmQ (n0 : Int) {w : World} {K : Value -> World -> Prop} (h : qiI n0 w K) : Calls prog qeB #[.int .i64 n0] w (Ret K) :=
 qo (c := qr Tryz.f279) (by kernel_rfl) Tryz.func279 (by kernel_rfl) [] [.int .i64 n0] (of_decide_eq_true (by kernel_rfl)) _ (by kernel_rfl) h

--  cracknel/date.Cookie
def qhL (s0 : List UInt8) (w : World) (K : Value -> World -> Prop) : Prop :=
 ∀ k4 w4, k4 = w.heap.size -> w4 = w.alloc (.cells #[.bool false, .bool false, .bool false, .bool false, .int .i64 (0 : Int), .int .i64 (0 : Int), .int .i64 (0 : Int), .int .i64 (0 : Int), .int .i64 (0 : Int), .int .i64 (0 : Int)] jx) ->
 ∃ I : Nat -> FP [.one (.int .i64), .one (.int .i64)],
 (∃ m, I m (0 : Int) (0 : Int) w4) /\
 ∀ m n5 n6, AllJ 26 (∀ wl, I m n5 n6 wl ->
 BCase (decide (n6 <= ((List.length s0 : Nat) : Int)))
 (∃ J : FP [.one (.bool)],
 (BCase (n6 == ((List.length s0 : Nat) : Int))
 (J true wl)
 (((0 <= n6 /\ n6 < ((List.length s0 : Nat) : Int))) /\
 Calls prog qgP #[.int .u8 (qA s0 n6)] wl fun e23 w23 => ∃ b23, e23 = .returned (.bool b23) /\
 J b23 w23)) /\
 ∀ b24, AllJ 9 (∀ wj, J b24 wj ->
 BCase b24
 (BCase (decide (n6 > n5))
 ((((0 <= n6 /\ n6 <= (((List.length s0) : Nat) : Int)) /\ 0 <= n5 /\ n5 <= ((Int.toNat n6 : Nat) : Int))) /\
 ∀ s31, s31 = (List.drop (Int.toNat n5) (List.take (Int.toNat n6) s0)) ->
 Calls prog qcA #[.pointer (some ⟨k4, 0, none⟩), .string (mkS s31)] wj fun e32 w32 => e32 = .returned (.tuple #[]) /\
 ∃ m' : Nat, m' < m /\ I m' (i64.wrap (n6 + (1 : Int))) (i64.wrap (n6 + (1 : Int))) w32)
 (∃ m' : Nat, m' < m /\ I m' (i64.wrap (n6 + (1 : Int))) (i64.wrap (n6 + (1 : Int))) wj))
 (∃ m' : Nat, m' < m /\ I m' n5 (i64.wrap (n6 + (1 : Int))) wj)))
 (∃ J_1 : FP [],
 (∃ J_2 : FP [.one (.bool)],
 ((true = true) /\
 ∃ n37, Ld qx (some ⟨k4, 7, none⟩) wl (.int .i64 n37) /\
 BCase (decide (n37 >= (70 : Int)))
 ((true = true) /\
 ∃ n41, Ld qx (some ⟨k4, 7, none⟩) wl (.int .i64 n41) /\
 J_2 (decide (n41 <= (99 : Int))) wl)
 (J_2 false wl)) /\
 ∀ b35, AllJ 8 (∀ wj_1, J_2 b35 wj_1 ->
 BCase b35
 ((true = true) /\
 ∃ n45, Ld qx (some ⟨k4, 7, none⟩) wj_1 (.int .i64 n45) /\
 (true = true) /\
 ∃ wx, Sv qx (some ⟨k4, 7, none⟩) (.int .i64 (i64.wrap (n45 + (1900 : Int)))) wj_1 wx /\
 J_1 wx)
 ((true = true) /\
 ∃ n50, Ld qx (some ⟨k4, 7, none⟩) wj_1 (.int .i64 n50) /\
 BCase (decide (n50 < (70 : Int)))
 ((true = true) /\
 ∃ n53, Ld qx (some ⟨k4, 7, none⟩) wj_1 (.int .i64 n53) /\
 (true = true) /\
 ∃ wx_1, Sv qx (some ⟨k4, 7, none⟩) (.int .i64 (i64.wrap (n53 + (2000 : Int)))) wj_1 wx_1 /\
 J_1 wx_1)
 (J_1 wj_1)))) /\
 AllJ 21 (∀ wj_2, J_1 wj_2 ->
 (true = true) /\
 ∃ n58, Ld qx (some ⟨k4, 7, none⟩) wj_2 (.int .i64 n58) /\
 (true = true) /\
 ∃ n60, Ld qx (some ⟨k4, 8, none⟩) wj_2 (.int .i64 n60) /\
 (true = true) /\
 ∃ n62, Ld qx (some ⟨k4, 9, none⟩) wj_2 (.int .i64 n62) /\
 Calls prog qea #[.int .i64 n58, .int .i64 n60, .int .i64 n62] wj_2 fun e63 w63 => ∃ n63_0 b63_1, e63 = .returned (.tuple #[.int .i64 n63_0, .bool b63_1]) /\
 ∃ J_3 : FP [],
 (BCase (!b63_1)
 (K (.tuple #[.int .i64 (0 : Int), .bool false]) w63)
 ((true = true) /\
 ∃ b70, Ld qy (some ⟨k4, 0, none⟩) w63 (.bool b70) /\
 BCase (!b70)
 (K (.tuple #[.int .i64 (0 : Int), .bool false]) w63)
 ((true = true) /\
 ∃ b75, Ld qy (some ⟨k4, 3, none⟩) w63 (.bool b75) /\
 BCase (!b75)
 (K (.tuple #[.int .i64 (0 : Int), .bool false]) w63)
 ((true = true) /\
 ((0 <= (0 : Int) /\ (0 : Int) < ((3 : Nat) : Int)) /\ true = true) /\
 ∃ n81, Ld qx (qn (some ⟨k4, 4, none⟩) (0 : Int) 1) w63 (.int .i64 n81) /\
 BCase (decide (n81 > (23 : Int)))
 (K (.tuple #[.int .i64 (0 : Int), .bool false]) w63)
 ((true = true) /\
 ((0 <= (1 : Int) /\ (1 : Int) < ((3 : Nat) : Int)) /\ true = true) /\
 ∃ n87, Ld qx (qn (some ⟨k4, 4, none⟩) (1 : Int) 1) w63 (.int .i64 n87) /\
 BCase (decide (n87 > (59 : Int)))
 (K (.tuple #[.int .i64 (0 : Int), .bool false]) w63)
 ((true = true) /\
 ((0 <= (2 : Int) /\ (2 : Int) < ((3 : Nat) : Int)) /\ true = true) /\
 ∃ n93, Ld qx (qn (some ⟨k4, 4, none⟩) (2 : Int) 1) w63 (.int .i64 n93) /\
 BCase (decide (n93 > (59 : Int)))
 (K (.tuple #[.int .i64 (0 : Int), .bool false]) w63)
 (J_3 w63))))))) /\
 AllJ 32 (∀ wj_3, J_3 wj_3 ->
 (true = true) /\
 ((0 <= (0 : Int) /\ (0 : Int) < ((3 : Nat) : Int)) /\ true = true) /\
 ∃ n100, Ld qx (qn (some ⟨k4, 4, none⟩) (0 : Int) 1) wj_3 (.int .i64 n100) /\
 (true = true) /\
 ((0 <= (1 : Int) /\ (1 : Int) < ((3 : Nat) : Int)) /\ true = true) /\
 ∃ n105, Ld qx (qn (some ⟨k4, 4, none⟩) (1 : Int) 1) wj_3 (.int .i64 n105) /\
 (true = true) /\
 ((0 <= (2 : Int) /\ (2 : Int) < ((3 : Nat) : Int)) /\ true = true) /\
 ∃ n110, Ld qx (qn (some ⟨k4, 4, none⟩) (2 : Int) 1) wj_3 (.int .i64 n110) /\
 K (.tuple #[.int .i64 (i64.wrap ((i64.wrap ((i64.wrap ((i64.wrap (n63_0 * (86400 : Int))) + (i64.wrap (n100 * (3600 : Int))))) + (i64.wrap (n105 * (60 : Int))))) + n110)), .bool true]) wj_3))))
theorem qlT (s0 : List UInt8) {w : World} {K : Value -> World -> Prop} (h : qhL s0 w K) : Calls prog qfy #[.string (mkS s0)] w (Ret K) :=
 qo (c := qr Tryz.f280) (by kernel_rfl) Tryz.func280 (by kernel_rfl) [(10, [(5, .one (.int .i64)), (6, .one (.int .i64))]), (19, [(24, .one (.bool))]), (31, []), (33, [(35, .one (.bool))]), (44, [])] [.string (mkS s0)] (of_decide_eq_true (by kernel_rfl)) _ (by kernel_rfl) h

--  cracknel/header.age
def qiQ (s0 : List UInt8) (w : World) (K : Value -> World -> Prop) : Prop :=
 Calls prog jj #[.string (mkS s0), .string (mkS [45])] w fun e10 w10 => ∃ s10_0 b10_1, e10 = .returned (.tuple #[.string (mkS s10_0), .bool b10_1]) /\
 Calls prog qck #[.string (mkS s10_0)] w10 fun e15 w15 => ∃ b15, e15 = .returned (.bool b15) /\
 BCase (!b15)
 (K (.tuple #[.int .i64 (0 : Int), .bool false]) w15)
 (BCase b10_1
 (K (.tuple #[.int .i64 (0 : Int), .bool true]) w15)
 (Calls prog qeq #[.string (mkS s10_0), .string (mkS [48])] w15 fun e21 w21 => ∃ s21, e21 = .returned (.string (mkS s21)) /\
 Calls prog qdh #[.string (mkS s21)] w21 fun e22 w22 => ∃ n22_0 b22_1, e22 = .returned (.tuple #[.int .i64 n22_0, .bool b22_1]) /\
 BCase (!b22_1)
 (Calls prog qeJ #[.string (mkS s10_0), .string (mkS [48])] w22 fun e29 w29 => ∃ s29, e29 = .returned (.string (mkS s29)) /\
 BCase (!(s29 == []))
 (K (.tuple #[.int .i64 (34560000 : Int), .bool true]) w29)
 (BCase (decide (n22_0 > (34560000 : Int)))
 (K (.tuple #[.int .i64 (34560000 : Int), .bool true]) w29)
 (K (.tuple #[.int .i64 n22_0, .bool true]) w29)))
 (BCase (decide (n22_0 > (34560000 : Int)))
 (K (.tuple #[.int .i64 (34560000 : Int), .bool true]) w22)
 (K (.tuple #[.int .i64 n22_0, .bool true]) w22))))
theorem qmN (s0 : List UInt8) {w : World} {K : Value -> World -> Prop} (h : qiQ s0 w K) : Calls prog qgh #[.string (mkS s0)] w (Ret K) :=
 qo (c := qr Tryz.f281) (by kernel_rfl) Tryz.func281 (by kernel_rfl) [] [.string (mkS s0)] (of_decide_eq_true (by kernel_rfl)) _ (by kernel_rfl) h

--  cracknel/octet.Same
def qiu (s0 : List UInt8) (s1 : List UInt8) (w : World) (K : Value -> World -> Prop) : Prop :=
 Calls prog qab #[.string (mkS s0)] w fun e6 w6 => ∃ s6, e6 = .returned (.string (mkS s6)) /\
 Calls prog qab #[.string (mkS s1)] w6 fun e8 w8 => ∃ s8, e8 = .returned (.string (mkS s8)) /\
 K (.bool (s6 == s8)) w8
theorem qmB (s0 : List UInt8) (s1 : List UInt8) {w : World} {K : Value -> World -> Prop} (h : qiu s0 s1 w K) : Calls prog qez #[.string (mkS s0), .string (mkS s1)] w (Ret K) :=
 qo (c := qr Tryz.f283) (by kernel_rfl) Tryz.func283 (by kernel_rfl) [] [.string (mkS s0), .string (mkS s1)] (of_decide_eq_true (by kernel_rfl)) _ (by kernel_rfl) h

--  cracknel/date.Civil
def qiS (n0 : Int) (w : World) (K : Value -> World -> Prop) : Prop :=
 Calls prog qea #[.int .i64 (1601 : Int), .int .i64 (1 : Int), .int .i64 (1 : Int)] w fun e16 w16 => ∃ n16_0 b16_1, e16 = .returned (.tuple #[.int .i64 n16_0, .bool b16_1]) /\
 Calls prog qea #[.int .i64 (9999 : Int), .int .i64 (12 : Int), .int .i64 (31 : Int)] w16 fun e20 w20 => ∃ n20_0 b20_1, e20 = .returned (.tuple #[.int .i64 n20_0, .bool b20_1]) /\
 ∃ J : FP [],
 (BCase (decide (n0 < n16_0))
 (K (.tuple #[.int .i64 (0 : Int), .int .i64 (0 : Int), .int .i64 (0 : Int), .bool false]) w20)
 (BCase (decide (n0 > n20_0))
 (K (.tuple #[.int .i64 (0 : Int), .int .i64 (0 : Int), .int .i64 (0 : Int), .bool false]) w20)
 (J w20))) /\
 AllJ 12 (∀ wj, J wj ->
 ((146097 : Int) ≠ 0) /\
 ∀ q34, q34 = (Int.tmod (i64.wrap (n0 + (719468 : Int))) (146097 : Int)) ->
 ((1460 : Int) ≠ 0) /\
 ∀ q37, q37 = (i64.wrap (Int.tdiv q34 (1460 : Int))) ->
 ((36524 : Int) ≠ 0) /\
 ∀ q40, q40 = (i64.wrap (Int.tdiv q34 (36524 : Int))) ->
 ((146096 : Int) ≠ 0) /\
 ∀ q43, q43 = (i64.wrap (Int.tdiv q34 (146096 : Int))) ->
 ((365 : Int) ≠ 0) /\
 ∀ q45, q45 = (i64.wrap (Int.tdiv (i64.wrap ((i64.wrap ((i64.wrap (q34 - q37)) + q40)) - q43)) (365 : Int))) ->
 ((4 : Int) ≠ 0) /\
 ∀ q50, q50 = (i64.wrap (Int.tdiv q45 (4 : Int))) ->
 ((100 : Int) ≠ 0) /\
 ∀ q53, q53 = (i64.wrap (Int.tdiv q45 (100 : Int))) ->
 ((153 : Int) ≠ 0) /\
 ∀ q59, q59 = (i64.wrap (Int.tdiv (i64.wrap ((i64.wrap ((5 : Int) * (i64.wrap (q34 - (i64.wrap ((i64.wrap ((i64.wrap ((365 : Int) * q45)) + q50)) - q53)))))) + (2 : Int))) (153 : Int))) ->
 ((5 : Int) ≠ 0) /\
 ∀ q64, q64 = (i64.wrap (Int.tdiv (i64.wrap ((i64.wrap ((153 : Int) * q59)) + (2 : Int))) (5 : Int))) ->
 ((146097 : Int) ≠ 0) /\
 ∀ q69, q69 = (i64.wrap (Int.tdiv (i64.wrap (n0 + (719468 : Int))) (146097 : Int))) ->
 BCase (decide ((i64.wrap (q59 + (3 : Int))) > (12 : Int)))
 (K (.tuple #[.int .i64 (i64.wrap ((i64.wrap (q45 + (i64.wrap (q69 * (400 : Int))))) + (1 : Int))), .int .i64 (i64.wrap ((i64.wrap (q59 + (3 : Int))) - (12 : Int))), .int .i64 (i64.wrap ((i64.wrap ((i64.wrap (q34 - (i64.wrap ((i64.wrap ((i64.wrap ((365 : Int) * q45)) + q50)) - q53)))) - q64)) + (1 : Int))), .bool true]) wj)
 (K (.tuple #[.int .i64 (i64.wrap (q45 + (i64.wrap (q69 * (400 : Int))))), .int .i64 (i64.wrap (q59 + (3 : Int))), .int .i64 (i64.wrap ((i64.wrap ((i64.wrap (q34 - (i64.wrap ((i64.wrap ((i64.wrap ((365 : Int) * q45)) + q50)) - q53)))) - q64)) + (1 : Int))), .bool true]) wj))
theorem qm6 (n0 : Int) {w : World} {K : Value -> World -> Prop} (h : qiS n0 w K) : Calls prog qgO #[.int .i64 n0] w (Ret K) :=
 qo (c := qr Tryz.f284) (by kernel_rfl) Tryz.func284 (by kernel_rfl) [(6, [])] [.int .i64 n0] (of_decide_eq_true (by kernel_rfl)) _ (by kernel_rfl) h

--  cracknel/date.digits
def qeV (n0 : Int) (n1 : Int) (w : World) (K : Value -> World -> Prop) : Prop :=
 Calls prog qeZ #[.int .i64 n0] w fun e7 w7 => ∃ s7, e7 = .returned (.string (mkS s7)) /\
 Calls prog qkz #[.string (mkS [48]), .int .i64 (i64.wrap (n1 - ((List.length s7 : Nat) : Int)))] w7 fun e12 w12 => ∃ s12, e12 = .returned (.string (mkS s12)) /\
 ((((List.length s12 + List.length s7 : Nat) : Int) <= i64.max)) /\
 ∀ s14, s14 = (s12 ++ s7) ->
 K (.string (mkS s14)) w12
theorem qgJ (n0 : Int) (n1 : Int) {w : World} {K : Value -> World -> Prop} (h : qeV n0 n1 w K) : Calls prog qaA #[.int .i64 n0, .int .i64 n1] w (Ret K) :=
 qo (c := qr Tryz.f285) (by kernel_rfl) Tryz.func285 (by kernel_rfl) [] [.int .i64 n0, .int .i64 n1] (of_decide_eq_true (by kernel_rfl)) _ (by kernel_rfl) h

--  cracknel/date.parts
def qjr (n0 : Int) (w : World) (K : Value -> World -> Prop) : Prop :=
 BCase (n0 == (9 : Int))
 (K (.bool true) w)
 (BCase (decide (n0 >= (32 : Int)))
 (BCase (decide (n0 <= (47 : Int)))
 (K (.bool true) w)
 (BCase (decide (n0 >= (59 : Int)))
 (BCase (decide (n0 <= (64 : Int)))
 (K (.bool true) w)
 (BCase (decide (n0 >= (91 : Int)))
 (BCase (decide (n0 <= (96 : Int)))
 (K (.bool true) w)
 (BCase (decide (n0 >= (123 : Int)))
 (K (.bool (decide (n0 <= (126 : Int)))) w)
 (K (.bool false) w)))
 (BCase (decide (n0 >= (123 : Int)))
 (K (.bool (decide (n0 <= (126 : Int)))) w)
 (K (.bool false) w))))
 (BCase (decide (n0 >= (91 : Int)))
 (BCase (decide (n0 <= (96 : Int)))
 (K (.bool true) w)
 (BCase (decide (n0 >= (123 : Int)))
 (K (.bool (decide (n0 <= (126 : Int)))) w)
 (K (.bool false) w)))
 (BCase (decide (n0 >= (123 : Int)))
 (K (.bool (decide (n0 <= (126 : Int)))) w)
 (K (.bool false) w)))))
 (BCase (decide (n0 >= (59 : Int)))
 (BCase (decide (n0 <= (64 : Int)))
 (K (.bool true) w)
 (BCase (decide (n0 >= (91 : Int)))
 (BCase (decide (n0 <= (96 : Int)))
 (K (.bool true) w)
 (BCase (decide (n0 >= (123 : Int)))
 (K (.bool (decide (n0 <= (126 : Int)))) w)
 (K (.bool false) w)))
 (BCase (decide (n0 >= (123 : Int)))
 (K (.bool (decide (n0 <= (126 : Int)))) w)
 (K (.bool false) w))))
 (BCase (decide (n0 >= (91 : Int)))
 (BCase (decide (n0 <= (96 : Int)))
 (K (.bool true) w)
 (BCase (decide (n0 >= (123 : Int)))
 (K (.bool (decide (n0 <= (126 : Int)))) w)
 (K (.bool false) w)))
 (BCase (decide (n0 >= (123 : Int)))
 (K (.bool (decide (n0 <= (126 : Int)))) w)
 (K (.bool false) w)))))
theorem qmk (n0 : Int) {w : World} {K : Value -> World -> Prop} (h : qjr n0 w K) : Calls prog qgP #[.int .u8 n0] w (Ret K) :=
 qo (c := qr Tryz.f295) (by kernel_rfl) Tryz.func295 (by kernel_rfl) [] [.int .u8 n0] (of_decide_eq_true (by kernel_rfl)) _ (by kernel_rfl) h

--  (*cracknel/date.found).token
def qdX (p0 : Option Addr) (s1 : List UInt8) (w : World) (K : Value -> World -> Prop) : Prop :=
 ∃ J : FP [],
 (Calls prog qgI #[.string (mkS s1)] w fun e15 w15 => ∃ n15_0_0 n15_0_1 n15_0_2 b15_1, e15 = .returned (.tuple #[.agg #[.int .i64 n15_0_0, .int .i64 n15_0_1, .int .i64 n15_0_2], .bool b15_1]) /\
 ∀ k4 w4, k4 = w15.heap.size -> w4 = w15.alloc (.cells #[.int .i64 (0 : Int), .int .i64 (0 : Int), .int .i64 (0 : Int)] qQ) ->
 ∃ wx, Sv qQ (some ⟨k4, 0, none⟩) (.agg #[.int .i64 n15_0_0, .int .i64 n15_0_1, .int .i64 n15_0_2]) w4 wx /\
 ∃ J_1 : FP [.one (.bool)],
 (BCase b15_1
 ((Option.isSome p0 = true) /\
 (Option.isSome p0 = true) /\
 ∃ b23, Ld qy (Option.map (fun x => x.add 0) p0) wx (.bool b23) /\
 J_1 (!b23) wx)
 (J_1 false wx)) /\
 ∀ b25, AllJ 7 (∀ wj, J_1 b25 wj ->
 BCase b25
 (∃ n28_0 n28_1 n28_2, Ld qQ (some ⟨k4, 0, none⟩) wj (.agg #[.int .i64 n28_0, .int .i64 n28_1, .int .i64 n28_2]) /\
 (Option.isSome p0 = true) /\
 (Option.isSome p0 = true) /\
 ∃ wx_1, Sv qQ (Option.map (fun x => x.add 4) p0) (.agg #[.int .i64 n28_0, .int .i64 n28_1, .int .i64 n28_2]) wj wx_1 /\
 (Option.isSome p0 = true) /\
 (Option.isSome p0 = true) /\
 ∃ wx_2, Sv qy (Option.map (fun x => x.add 0) p0) (.bool true) wx_1 wx_2 /\
 K (.tuple #[]) wx_2)
 (J wj))) /\
 AllJ 22 (∀ wj_1, J wj_1 ->
 ∃ J_2 : FP [],
 (Calls prog qcx #[.string (mkS s1), .int .i64 (1 : Int), .int .i64 (2 : Int)] wj_1 fun e35 w35 => ∃ n35_0 s35_1 b35_2, e35 = .returned (.tuple #[.int .i64 n35_0, .string (mkS s35_1), .bool b35_2]) /\
 ∃ J_3 : FP [.one (.bool)],
 (BCase b35_2
 ((Option.isSome p0 = true) /\
 (Option.isSome p0 = true) /\
 ∃ b44, Ld qy (Option.map (fun x => x.add 1) p0) w35 (.bool b44) /\
 J_3 (!b44) w35)
 (J_3 false w35)) /\
 ∀ b46, AllJ 7 (∀ wj_2, J_3 b46 wj_2 ->
 BCase b46
 ((Option.isSome p0 = true) /\
 (Option.isSome p0 = true) /\
 ∃ wx_3, Sv qx (Option.map (fun x => x.add 9) p0) (.int .i64 n35_0) wj_2 wx_3 /\
 (Option.isSome p0 = true) /\
 (Option.isSome p0 = true) /\
 ∃ wx_4, Sv qy (Option.map (fun x => x.add 1) p0) (.bool true) wx_3 wx_4 /\
 K (.tuple #[]) wx_4)
 (J_2 wj_2))) /\
 AllJ 24 (∀ wj_3, J_2 wj_3 ->
 ∃ J_4 : FP [],
 (Calls prog qgo #[.string (mkS s1)] wj_3 fun e55 w55 => ∃ n55, e55 = .returned (.int .i64 n55) /\
 ∃ J_5 : FP [.one (.bool)],
 (BCase (decide (n55 > (0 : Int)))
 ((Option.isSome p0 = true) /\
 (Option.isSome p0 = true) /\
 ∃ b62, Ld qy (Option.map (fun x => x.add 2) p0) w55 (.bool b62) /\
 J_5 (!b62) w55)
 (J_5 false w55)) /\
 ∀ b64, AllJ 8 (∀ wj_4, J_5 b64 wj_4 ->
 BCase b64
 ((Option.isSome p0 = true) /\
 (Option.isSome p0 = true) /\
 ∃ wx_5, Sv qx (Option.map (fun x => x.add 8) p0) (.int .i64 n55) wj_4 wx_5 /\
 (Option.isSome p0 = true) /\
 (Option.isSome p0 = true) /\
 ∃ wx_6, Sv qy (Option.map (fun x => x.add 2) p0) (.bool true) wx_5 wx_6 /\
 K (.tuple #[]) wx_6)
 (J_4 wj_4))) /\
 AllJ 19 (∀ wj_5, J_4 wj_5 ->
 Calls prog qcx #[.string (mkS s1), .int .i64 (2 : Int), .int .i64 (4 : Int)] wj_5 fun e74 w74 => ∃ n74_0 s74_1 b74_2, e74 = .returned (.tuple #[.int .i64 n74_0, .string (mkS s74_1), .bool b74_2]) /\
 ∃ J_6 : FP [.one (.bool)],
 (BCase b74_2
 ((Option.isSome p0 = true) /\
 (Option.isSome p0 = true) /\
 ∃ b83, Ld qy (Option.map (fun x => x.add 3) p0) w74 (.bool b83) /\
 J_6 (!b83) w74)
 (J_6 false w74)) /\
 ∀ b85, AllJ 7 (∀ wj_6, J_6 b85 wj_6 ->
 BCase b85
 ((Option.isSome p0 = true) /\
 (Option.isSome p0 = true) /\
 ∃ wx_7, Sv qx (Option.map (fun x => x.add 7) p0) (.int .i64 n74_0) wj_6 wx_7 /\
 (Option.isSome p0 = true) /\
 (Option.isSome p0 = true) /\
 ∃ wx_8, Sv qy (Option.map (fun x => x.add 3) p0) (.bool true) wx_7 wx_8 /\
 K (.tuple #[]) wx_8)
 (K (.tuple #[]) wj_6)))))
theorem qhb (p0 : Option Addr) (s1 : List UInt8) {w : World} {K : Value -> World -> Prop} (h : qdX p0 s1 w K) : Calls prog qcA #[.pointer p0, .string (mkS s1)] w (Ret K) :=
 qo (c := qr Tryz.f296) (by kernel_rfl) Tryz.func296 (by kernel_rfl) [(0, []), (3, [(25, .one (.bool))]), (10, []), (13, [(46, .one (.bool))]), (20, []), (23, [(64, .one (.bool))]), (32, [(85, .one (.bool))])] [.pointer p0, .string (mkS s1)] (of_decide_eq_true (by kernel_rfl)) _ (by kernel_rfl) h

--  cracknel/date.Days
def qki (n0 : Int) (n1 : Int) (n2 : Int) (w : World) (K : Value -> World -> Prop) : Prop :=
 ∃ J : FP [],
 (BCase (decide (n0 < (1601 : Int)))
 (K (.tuple #[.int .i64 (0 : Int), .bool false]) w)
 (BCase (decide (n0 > (9999 : Int)))
 (K (.tuple #[.int .i64 (0 : Int), .bool false]) w)
 (BCase (decide (n1 < (1 : Int)))
 (K (.tuple #[.int .i64 (0 : Int), .bool false]) w)
 (BCase (decide (n1 > (12 : Int)))
 (K (.tuple #[.int .i64 (0 : Int), .bool false]) w)
 (BCase (decide (n2 < (1 : Int)))
 (K (.tuple #[.int .i64 (0 : Int), .bool false]) w)
 (Calls prog qfu #[.int .i64 n0, .int .i64 n1] w fun e34 w34 => ∃ n34, e34 = .returned (.int .i64 n34) /\
 BCase (decide (n2 > n34))
 (K (.tuple #[.int .i64 (0 : Int), .bool false]) w34)
 (J w34))))))) /\
 AllJ 27 (∀ wj, J wj ->
 ∃ J_1 : FP [.one (.int .i64), .one (.int .i64)],
 (BCase (decide ((i64.wrap (n1 - (3 : Int))) < (0 : Int)))
 (J_1 (i64.wrap (n0 - (1 : Int))) (i64.wrap ((i64.wrap (n1 - (3 : Int))) + (12 : Int))) wj)
 (J_1 n0 (i64.wrap (n1 - (3 : Int))) wj)) /\
 ∀ n8 n9, AllJ 6 (∀ wj_1, J_1 n8 n9 wj_1 ->
 ((400 : Int) ≠ 0) /\
 ∀ q47, q47 = (Int.tmod n8 (400 : Int)) ->
 ((400 : Int) ≠ 0) /\
 ∀ q49, q49 = (i64.wrap (Int.tdiv n8 (400 : Int))) ->
 ((4 : Int) ≠ 0) /\
 ∀ q55, q55 = (i64.wrap (Int.tdiv q47 (4 : Int))) ->
 ((100 : Int) ≠ 0) /\
 ∀ q58, q58 = (i64.wrap (Int.tdiv q47 (100 : Int))) ->
 ((5 : Int) ≠ 0) /\
 ∀ q63, q63 = (i64.wrap (Int.tdiv (i64.wrap ((i64.wrap ((153 : Int) * n9)) + (2 : Int))) (5 : Int))) ->
 K (.tuple #[.int .i64 (i64.wrap ((i64.wrap ((i64.wrap ((i64.wrap ((i64.wrap ((i64.wrap ((i64.wrap ((i64.wrap (q49 * (146097 : Int))) + (i64.wrap (q47 * (365 : Int))))) + q55)) - q58)) + q63)) + n2)) - (1 : Int))) - (719468 : Int))), .bool true]) wj_1))
theorem qoy (n0 : Int) (n1 : Int) (n2 : Int) {w : World} {K : Value -> World -> Prop} (h : qki n0 n1 n2 w K) : Calls prog qea #[.int .i64 n0, .int .i64 n1, .int .i64 n2] w (Ret K) :=
 qo (c := qr Tryz.f297) (by kernel_rfl) Tryz.func297 (by kernel_rfl) [(2, []), (12, [(8, .one (.int .i64)), (9, .one (.int .i64))])] [.int .i64 n0, .int .i64 n1, .int .i64 n2] (of_decide_eq_true (by kernel_rfl)) _ (by kernel_rfl) h

--  cracknel/date.clock
def qi6 (s0 : List UInt8) (w : World) (K : Value -> World -> Prop) : Prop :=
 ∀ k2 w2, k2 = w.heap.size -> w2 = w.alloc (.cells #[.int .i64 (0 : Int), .int .i64 (0 : Int), .int .i64 (0 : Int)] qQ) ->
 ∀ k4 w4, k4 = w2.heap.size -> w4 = w2.alloc (.cells #[.int .i64 (0 : Int), .int .i64 (0 : Int), .int .i64 (0 : Int)] qQ) ->
 ∃ I : Nat -> FP [.one (.str), .one (.int .i64)],
 (∃ m, I m s0 (0 : Int) w4) /\
 ∀ m s0_1 n10, AllJ 32 (∀ wl, I m s0_1 n10 wl ->
 BCase (decide (n10 < (3 : Int)))
 (∃ J : FP [.one (.str)],
 (BCase (decide (n10 > (0 : Int)))
 (Calls prog jj #[.string (mkS s0_1), .string (mkS [58])] wl fun e17 w17 => ∃ s17_0 b17_1, e17 = .returned (.tuple #[.string (mkS s17_0), .bool b17_1]) /\
 BCase (!b17_1)
 (∃ n22_0 n22_1 n22_2, Ld qQ (some ⟨k4, 0, none⟩) w17 (.agg #[.int .i64 n22_0, .int .i64 n22_1, .int .i64 n22_2]) /\
 ∃ wx, Sv qQ (some ⟨k2, 0, none⟩) (.agg #[.int .i64 n22_0, .int .i64 n22_1, .int .i64 n22_2]) w17 wx /\
 ∃ nr0_0 nr0_1 nr0_2, (qC qQ (.pointer (some ⟨k2, 0, none⟩))).run prog wx = .ok (.agg #[.int .i64 nr0_0, .int .i64 nr0_1, .int .i64 nr0_2]) wx /\
 K (.tuple #[.agg #[.int .i64 nr0_0, .int .i64 nr0_1, .int .i64 nr0_2], .bool false]) wx)
 (J s17_0 w17))
 (J s0_1 wl)) /\
 ∀ s0_2, AllJ 12 (∀ wj, J s0_2 wj ->
 Calls prog qcx #[.string (mkS s0_2), .int .i64 (1 : Int), .int .i64 (2 : Int)] wj fun e25 w25 => ∃ n25_0 s25_1 b25_2, e25 = .returned (.tuple #[.int .i64 n25_0, .string (mkS s25_1), .bool b25_2]) /\
 BCase (!b25_2)
 (∃ n31_0 n31_1 n31_2, Ld qQ (some ⟨k4, 0, none⟩) w25 (.agg #[.int .i64 n31_0, .int .i64 n31_1, .int .i64 n31_2]) /\
 ∃ wx_1, Sv qQ (some ⟨k2, 0, none⟩) (.agg #[.int .i64 n31_0, .int .i64 n31_1, .int .i64 n31_2]) w25 wx_1 /\
 ∃ nr0_0_1 nr0_1_1 nr0_2_1, (qC qQ (.pointer (some ⟨k2, 0, none⟩))).run prog wx_1 = .ok (.agg #[.int .i64 nr0_0_1, .int .i64 nr0_1_1, .int .i64 nr0_2_1]) wx_1 /\
 K (.tuple #[.agg #[.int .i64 nr0_0_1, .int .i64 nr0_1_1, .int .i64 nr0_2_1], .bool false]) wx_1)
 (((0 <= n10 /\ n10 < ((3 : Nat) : Int)) /\ true = true) /\
 ∃ wx_2, Sv qx (qn (some ⟨k4, 0, none⟩) n10 1) (.int .i64 n25_0) w25 wx_2 /\
 ∃ m' : Nat, m' < m /\ I m' s25_1 (i64.wrap (n10 + (1 : Int))) wx_2)))
 (∃ n37_0 n37_1 n37_2, Ld qQ (some ⟨k4, 0, none⟩) wl (.agg #[.int .i64 n37_0, .int .i64 n37_1, .int .i64 n37_2]) /\
 ∃ wx_3, Sv qQ (some ⟨k2, 0, none⟩) (.agg #[.int .i64 n37_0, .int .i64 n37_1, .int .i64 n37_2]) wl wx_3 /\
 ∃ nr0_0_2 nr0_1_2 nr0_2_2, (qC qQ (.pointer (some ⟨k2, 0, none⟩))).run prog wx_3 = .ok (.agg #[.int .i64 nr0_0_2, .int .i64 nr0_1_2, .int .i64 nr0_2_2]) wx_3 /\
 K (.tuple #[.agg #[.int .i64 nr0_0_2, .int .i64 nr0_1_2, .int .i64 nr0_2_2], .bool true]) wx_3))
theorem qmr (s0 : List UInt8) {w : World} {K : Value -> World -> Prop} (h : qi6 s0 w K) : Calls prog qgI #[.string (mkS s0)] w (Ret K) :=
 qo (c := qr Tryz.f306) (by kernel_rfl) Tryz.func306 (by kernel_rfl) [(8, [(0, .one (.str)), (10, .one (.int .i64))]), (19, [(0, .one (.str))])] [.string (mkS s0)] (of_decide_eq_true (by kernel_rfl)) _ (by kernel_rfl) h

--  cracknel/date.number
def qhv (s0 : List UInt8) (n1 : Int) (n2 : Int) (w : World) (K : Value -> World -> Prop) : Prop :=
 Calls prog qeq #[.string (mkS s0), .string (mkS [48, 49, 50, 51, 52, 53, 54, 55, 56, 57])] w fun e15 w15 => ∃ s15, e15 = .returned (.string (mkS s15)) /\
 ∃ J : FP [],
 (BCase (decide ((i64.wrap (((List.length s0 : Nat) : Int) - ((List.length s15 : Nat) : Int))) < n1))
 (K (.tuple #[.int .i64 (0 : Int), .string (mkS s0), .bool false]) w15)
 (BCase (decide ((i64.wrap (((List.length s0 : Nat) : Int) - ((List.length s15 : Nat) : Int))) > n2))
 (K (.tuple #[.int .i64 (0 : Int), .string (mkS s0), .bool false]) w15)
 (J w15))) /\
 AllJ 12 (∀ wj, J wj ->
 ((0 <= (i64.wrap (((List.length s0 : Nat) : Int) - ((List.length s15 : Nat) : Int))) /\ (i64.wrap (((List.length s0 : Nat) : Int) - ((List.length s15 : Nat) : Int))) <= (((List.length s0) : Nat) : Int))) /\
 ∀ s30, s30 = (List.take (Int.toNat (i64.wrap (((List.length s0 : Nat) : Int) - ((List.length s15 : Nat) : Int)))) s0) ->
 Calls prog qmG #[.string (mkS s30)] wj fun e31 w31 => ∃ n31_0 v31_1, e31 = .returned (.tuple #[.int .i64 n31_0, v31_1]) /\
 ((0 <= (i64.wrap (((List.length s0 : Nat) : Int) - ((List.length s15 : Nat) : Int))) /\ (i64.wrap (((List.length s0 : Nat) : Int) - ((List.length s15 : Nat) : Int))) <= (((List.length s0) : Nat) : Int))) /\
 ∀ s37, s37 = (List.drop (Int.toNat (i64.wrap (((List.length s0 : Nat) : Int) - ((List.length s15 : Nat) : Int)))) s0) ->
 ∀ wq, Below w31.heap.size w31 wq ->
 K (.tuple #[.int .i64 n31_0, .string (mkS s37), .bool true]) wq)
theorem qkX (s0 : List UInt8) (n1 : Int) (n2 : Int) {w : World} {K : Value -> World -> Prop} (h : qhv s0 n1 n2 w K) : Calls prog qcx #[.string (mkS s0), .int .i64 n1, .int .i64 n2] w (Ret K) :=
 qo (c := qr Tryz.f307) (by kernel_rfl) Tryz.func307 (by kernel_rfl) [(4, [])] [.string (mkS s0), .int .i64 n1, .int .i64 n2] (of_decide_eq_true (by kernel_rfl)) _ (by kernel_rfl) h

--  cracknel/date.month
def qix (s0 : List UInt8) (w : World) (K : Value -> World -> Prop) : Prop :=
 ∃ I : Nat -> FP [.one (.int .i64)],
 (∃ m, I m (0 : Int) w) /\
 ∀ m n3, AllJ 21 (∀ wl, I m n3 wl ->
 ∃ J : FP [],
 (BCase (decide (n3 < (12 : Int)))
 (BCase (decide (((List.length s0 : Nat) : Int) >= (3 : Int)))
 (J wl)
 (K (.int .i64 (0 : Int)) wl))
 (K (.int .i64 (0 : Int)) wl)) /\
 AllJ 7 (∀ wj, J wj ->
 ((0 <= (3 : Int) /\ (3 : Int) <= (((List.length s0) : Nat) : Int))) /\
 ∀ s14, s14 = (List.take (Int.toNat (3 : Int)) s0) ->
 (((0 <= (i64.wrap ((i64.wrap ((3 : Int) * n3)) + (3 : Int))) /\ (i64.wrap ((i64.wrap ((3 : Int) * n3)) + (3 : Int))) <= (((List.length [74, 97, 110, 70, 101, 98, 77, 97, 114, 65, 112, 114, 77, 97, 121, 74, 117, 110, 74, 117, 108, 65, 117, 103, 83, 101, 112, 79, 99, 116, 78, 111, 118, 68, 101, 99]) : Nat) : Int)) /\ 0 <= (i64.wrap ((3 : Int) * n3)) /\ (i64.wrap ((3 : Int) * n3)) <= ((Int.toNat (i64.wrap ((i64.wrap ((3 : Int) * n3)) + (3 : Int))) : Nat) : Int))) /\
 ∀ s20, s20 = (List.drop (Int.toNat (i64.wrap ((3 : Int) * n3))) (List.take (Int.toNat (i64.wrap ((i64.wrap ((3 : Int) * n3)) + (3 : Int)))) [74, 97, 110, 70, 101, 98, 77, 97, 114, 65, 112, 114, 77, 97, 121, 74, 117, 110, 74, 117, 108, 65, 117, 103, 83, 101, 112, 79, 99, 116, 78, 111, 118, 68, 101, 99])) ->
 ∃ b21, (∀ u21, Below wj.heap.size wj u21 -> Calls prog qez #[.string (mkS s14), .string (mkS s20)] u21 fun e21 w21 => e21 = .returned (.bool b21) /\ Below wj.heap.size u21 w21) /\
 ∀ wq, Below wj.heap.size wj wq ->
 BCase b21
 (K (.int .i64 (i64.wrap (n3 + (1 : Int)))) wq)
 (∃ m' : Nat, m' < m /\ I m' (i64.wrap (n3 + (1 : Int))) wq)))
theorem qm0 (s0 : List UInt8) {w : World} {K : Value -> World -> Prop} (h : qix s0 w K) : Calls prog qgo #[.string (mkS s0)] w (Ret K) :=
 qo (c := qr Tryz.f308) (by kernel_rfl) Tryz.func308 (by kernel_rfl) [(6, [(3, .one (.int .i64))]), (7, [])] [.string (mkS s0)] (of_decide_eq_true (by kernel_rfl)) _ (by kernel_rfl) h

--  cracknel/date.length
def qhy (n0 : Int) (n1 : Int) (w : World) (K : Value -> World -> Prop) : Prop :=
 ∀ k5 w5, k5 = w.heap.size -> w5 = w.alloc (.cells qpA qfF) ->
 ∃ wx, Sv qfF (some ⟨k5, 0, none⟩) (.agg #[.int .i64 (31 : Int), .int .i64 (28 : Int), .int .i64 (31 : Int), .int .i64 (30 : Int), .int .i64 (31 : Int), .int .i64 (30 : Int), .int .i64 (31 : Int), .int .i64 (31 : Int), .int .i64 (30 : Int), .int .i64 (31 : Int), .int .i64 (30 : Int), .int .i64 (31 : Int)]) w5 wx /\
 ∃ J : FP [],
 (BCase (n1 == (2 : Int))
 (Calls prog qik #[.int .i64 n0] wx fun e11 w11 => ∃ b11, e11 = .returned (.bool b11) /\
 BCase b11
 (K (.int .i64 (29 : Int)) w11)
 (J w11))
 (J wx)) /\
 AllJ 7 (∀ wj, J wj ->
 ((0 <= (i64.wrap (n1 - (1 : Int))) /\ (i64.wrap (n1 - (1 : Int))) < ((12 : Nat) : Int)) /\ true = true) /\
 ∃ n16, Ld qx (qn (some ⟨k5, 0, none⟩) (i64.wrap (n1 - (1 : Int))) 1) wj (.int .i64 n16) /\
 K (.int .i64 n16) wj)
theorem qk0 (n0 : Int) (n1 : Int) {w : World} {K : Value -> World -> Prop} (h : qhy n0 n1 w K) : Calls prog qfu #[.int .i64 n0, .int .i64 n1] w (Ret K) :=
 qo (c := qr Tryz.f309) (by kernel_rfl) Tryz.func309 (by kernel_rfl) [(4, [])] [.int .i64 n0, .int .i64 n1] (of_decide_eq_true (by kernel_rfl)) _ (by kernel_rfl) h

--  cracknel/date.leap
def qj9 (n0 : Int) (w : World) (K : Value -> World -> Prop) : Prop :=
 ((4 : Int) ≠ 0) /\
 ∀ q4, q4 = (Int.tmod n0 (4 : Int)) ->
 BCase (q4 == (0 : Int))
 (((100 : Int) ≠ 0) /\
 ∀ q8, q8 = (Int.tmod n0 (100 : Int)) ->
 BCase (q8 != (0 : Int))
 (K (.bool true) w)
 (((400 : Int) ≠ 0) /\
 ∀ q13, q13 = (Int.tmod n0 (400 : Int)) ->
 K (.bool (q13 == (0 : Int))) w))
 (((400 : Int) ≠ 0) /\
 ∀ q13_1, q13_1 = (Int.tmod n0 (400 : Int)) ->
 K (.bool (q13_1 == (0 : Int))) w)
theorem qos (n0 : Int) {w : World} {K : Value -> World -> Prop} (h : qj9 n0 w K) : Calls prog qik #[.int .i64 n0] w (Ret K) :=
 qo (c := qr Tryz.f314) (by kernel_rfl) Tryz.func314 (by kernel_rfl) [] [.int .i64 n0] (of_decide_eq_true (by kernel_rfl)) _ (by kernel_rfl) h
end Go.Proofs.YtndbpedpdbjkpaaGreatDoor
set_option linter.unusedSimpArgs false
namespace Go.Pk
open Go.RowKit (Below)
def qm (w : World) (k : Nat) (t : TypeId) (vs : List Value) : Prop := w.heap[k]? = some (.cells vs.toArray t (0, 0))
theorem qm.new {w w' : World} {k : Nat} {t : TypeId} {vs : List Value} (hk : k = w.heap.size) (hw : w' = w.alloc (.cells vs.toArray t)) : qm w' k t vs := by
 subst hk hw; exact heap_alloc_new w _
theorem qm.lt {w : World} {k : Nat} {t : TypeId} {vs : List Value} (h : qm w k t vs) : k < w.heap.size := (Array.getElem?_eq_some_iff.1 (show w.heap[k]? = _ from h)).1
theorem qm.block {w w' : World} {k : Nat} {t : TypeId} {vs : List Value} (h : qm w k t vs) (e : w'.heap[k]? = w.heap[k]?) : qm w' k t vs := e.trans h
theorem qm.below {w w' : World} {k : Nat} {t : TypeId} {vs : List Value} (h : qm w k t vs) (hb : Below w.heap.size w w') : qm w' k t vs := h.block (hb.block k h.lt)
theorem qm.grown {w w' : World} {k : Nat} {t : TypeId} {vs : List Value} {row : Option Nat} (h : qm w k t vs) (hg : w.grownBy w' row) (hne : some k ≠ row) : qm w' k t vs := h.block (hg.block k h.lt hne)
theorem qm.cell {w : World} {k : Nat} {t : TypeId} {vs : List Value} (h : qm w k t vs) (i : Nat) : w.cell? ⟨k, i, none⟩ = vs[i]? := by rw [qkH h]; simp
theorem qm.load1 {P : Program} {u : TypeId} {d : TypeDesc} (hu : P.underlying u = some d) (ha : aggD d = false) {w : World} {k : Nat} {t : TypeId} {vs : List Value} (h : qm w k t vs) {i : Nat} {v : Value} (hv : vs[i]? = some v) :
   (Instr.loadAt u (.pointer (some ⟨k, i, none⟩))).run P w = .ok v w := loadVar_one hu ha (by rw [h.cell]; exact hv)
theorem qm.loadA {P : Program} {u : TypeId} {d : TypeDesc} {ti : TypeInfo} (hu : P.underlying u = some d) (ha : aggD d = true) (hi : P.info? u = some ti) {w : World} {k : Nat} {t : TypeId} {vs us : List Value} (h : qm w k t vs) {i : Nat} (hl : us.length = ti.size)
   (hv : ∀ j, j < us.length -> vs[i + j]? = us[j]?) : (Instr.loadAt u (.pointer (some ⟨k, i, none⟩))).run P w = .ok (.agg us.toArray) w :=
 qma hu ha hi hl fun j hj => by rw [h.cell]; exact hv j hj
theorem qm.res {P : Program} {u : TypeId} {p : Addr} {w w' : World} {v : Value} (h : (Instr.loadAt u (.pointer (some p))).run P w = .ok v w') : (qC u (.pointer (some p))).run P w = .ok v w' := h
theorem qm.store {P : Program} {u : TypeId} {bytes n : Nat} {z : Value} (tf : TF P u n bytes z) {w : World} {k : Nat} {t : TypeId} {vs : List Value} (h : qm w k t vs) {i : Nat} {v : Value} (hs : v.cells.size = n) (hfit : i + n <= vs.length) (h1 : ∀ c ∈ v.cells.toList, c.oneCell' = true) :
   ∃ w', (Instr.storeAt u (.pointer (some ⟨k, i, none⟩)) v).run P w = .ok () w' /\ qm w' k t (vs.take i ++ v.cells.toList ++ vs.drop (i + n)) /\ w.grownBy w' (some k) := by
 obtain ⟨ti, hti, hsz, _, _⟩ := tf.info
 refine ⟨_, qdy hti (o := i) h (fun i _ => by simp) (by rw [hs, hsz]) (by rw [hsz]; simpa using hfit) h1, ?_, qa4 w k _⟩
 have := setRow_heap w k vs.toArray (vs.take i ++ v.cells.toList ++ vs.drop (i + n)).toArray t (0, 0) h
 rw [<- hs] at this ⊢
 exact this
end Go.Pk
namespace Go.Pk
open Go.RowKit (Below)
theorem qav {n : Nat} {w : World} {R : Bool -> World -> Prop} {B : (Bool -> World -> Prop) -> Prop} (f : Bool) (hB : B (fun b w' => w' = w /\ b = f)) (h : R f w) :
   ∃ J : FP [.one (.bool)], B J /\ ∀ b : Bool, AllJ n (∀ wj : World, J b wj -> R b wj) := by
 refine ⟨fun b w' => w' = w /\ b = f, hB, fun b => AllJ.of ?_ _⟩
 rintro wj ⟨rfl, rfl⟩; exact h
theorem intJ {n : Nat} {k : IntKind} {w : World} {R : Int -> World -> Prop} {B : (Int -> World -> Prop) -> Prop} (f : Int) (hB : B (fun b w' => w' = w /\ b = f)) (h : R f w) :
   ∃ J : FP [.one (.int k)], B J /\ ∀ b : Int, AllJ n (∀ wj : World, J b wj -> R b wj) := by
 refine ⟨fun b w' => w' = w /\ b = f, hB, fun b => AllJ.of ?_ _⟩
 rintro wj ⟨rfl, rfl⟩; exact h
theorem strJ {n : Nat} {w : World} {R : List UInt8 -> World -> Prop} {B : (List UInt8 -> World -> Prop) -> Prop} (f : List UInt8) (hB : B (fun b w' => w' = w /\ b = f)) (h : R f w) :
   ∃ J : FP [.one (.str)], B J /\ ∀ b : List UInt8, AllJ n (∀ wj : World, J b wj -> R b wj) := by
 refine ⟨fun b w' => w' = w /\ b = f, hB, fun b => AllJ.of ?_ _⟩
 rintro wj ⟨rfl, rfl⟩; exact h
theorem factJ {n : Nat} {w : World} {R : World -> Prop} {B : (World -> Prop) -> Prop} (Q : Prop) (hB : B (fun w' => w' = w /\ Q)) (h : Q -> R w) :
   ∃ J : FP [], B J /\ AllJ n (∀ wj : World, J wj -> R wj) := by
 refine ⟨fun w' => w' = w /\ Q, hB, AllJ.of ?_ _⟩
 rintro wj ⟨rfl, hq⟩; exact h hq
theorem worldJ {n : Nat} {R : World -> Prop} {B : (World -> Prop) -> Prop} (Q : World -> Prop) (hB : B Q) (h : ∀ w, Q w -> R w) :
   ∃ J : FP [], B J /\ AllJ n (∀ wj : World, J wj -> R wj) := ⟨Q, hB, AllJ.of h _⟩
theorem qhz {n : Nat} {R : Bool -> World -> Prop} {B : (Bool -> World -> Prop) -> Prop} (Q : Bool -> World -> Prop) (hB : B Q) (h : ∀ b w, Q b w -> R b w) :
   ∃ J : FP [.one (.bool)], B J /\ ∀ b : Bool, AllJ n (∀ wj : World, J b wj -> R b wj) := ⟨Q, hB, fun b => AllJ.of (h b) _⟩
theorem andJ {n : Nat} {w : World} {c x : Bool} {R : Bool -> World -> Prop} (h : R (c && x) w) : ∃ J : FP [.one (.bool)], BCase c (J x w) (J false w) /\ ∀ b : Bool, AllJ n (∀ wj : World, J b wj -> R b wj) :=
 qav (B := fun J => BCase c (J x w) (J false w)) (c && x) (BCase.of (fun h => ⟨rfl, by rw [h]; rfl⟩) (fun h => ⟨rfl, by rw [h]; rfl⟩)) h
theorem orJ {n : Nat} {w : World} {c x : Bool} {R : Bool -> World -> Prop} (h : R (c || x) w) : ∃ J : FP [.one (.bool)], BCase c (J true w) (J x w) /\ ∀ b : Bool, AllJ n (∀ wj : World, J b wj -> R b wj) :=
 qav (B := fun J => BCase c (J true w) (J x w)) (c || x) (BCase.of (fun h => ⟨rfl, by rw [h]; rfl⟩) (fun h => ⟨rfl, by rw [h]; rfl⟩)) h
theorem quB {n : Nat} {w : World} {c d x : Bool} {R : Bool -> World -> Prop} (h : R (c && (d && x)) w) : ∃ J : FP [.one (.bool)], BCase c (BCase d (J x w) (J false w)) (J false w) /\ ∀ b : Bool, AllJ n (∀ wj : World, J b wj -> R b wj) :=
 qav (B := fun J => BCase c (BCase d (J x w) (J false w)) (J false w)) (c && (d && x)) (BCase.of (fun h => BCase.of (fun h2 => ⟨rfl, by rw [h, h2]; rfl⟩) (fun h2 => ⟨rfl, by rw [h, h2]; rfl⟩)) (fun h => ⟨rfl, by rw [h]; rfl⟩)) h
theorem qp8 {α : Type} {T : Ty α} (hfl : Flat T) {P : Program} {st t ty : TypeId} {bytes : Nat} {z : Value} (hu : P.underlying st = some (.slice t)) (tf : TF P t T.k bytes z) (hb0 : 0 < bytes)
   {w0 w w1 : World} {a : Option Addr} {n c : Nat} {xs : List α} (ho : Ow T t w NoB a n c xs) (hf : qb9 w0.heap.size a) (hb : Below w0.heap.size w0 w) {k1 : Nat} {vs : List Value} {x : α} (hk : k1 = w.heap.size)
   (hw : w1 = w.alloc (.cells vs.toArray t)) (hx : T.rep w NoB vs x) {cm : Nat} (hbound : (xs.length + 1) * bytes <= 140737488355328) :
   ∃ (w2 : World) (a' : Option Addr) (n' c' : Nat), (Builtin.append_ #[st, st] ty #[.slice a n c, .slice (some ⟨k1, 0, none⟩) 1 cm]).run P w1 = .ok (.slice a' n' c') w2 /\ Ow T t w2 NoB a' n' c' (xs ++ [x]) /\ qb9 w0.heap.size a' /\ Below w0.heap.size w0 w2 := by
 have hB1 : Below w.heap.size w w1 := hw ▸ qf w _
 have ho3 := ho.below hB1
 have hsrc : Src T w1 NoB (some ⟨k1, 0, none⟩) 1 [x] := Src.new1F hfl hk hw hx
 obtain ⟨w4, a4, n4, c4, hr, ho4, hgr, hfr⟩ := qjR (ty := ty) hu tf hb0 ho3 (fun _ _ h => h) (cm := cm) hsrc (by simpa using hbound)
 have hB := qb hb hB1 hb.size
 exact ⟨w4, a4, n4, c4, hr, ho4, hf.app hB.size hfr, hB.grown hgr hB.size hf⟩
theorem zj {P : Program} {f : FuncId} {args : Array Value} {w u : World} {v : Value} (h : Calls P f args u (Ret fun v' w' => v' = v /\ Below u.heap.size u w')) (hu : Below w.heap.size w u) :
   Calls P f args u fun e w' => e = .returned v /\ Below w.heap.size u w' := by
 refine h.mono ?_
 rintro _ w' ⟨_, rfl, rfl, hb⟩
 exact ⟨rfl, hb.mono hu.size⟩
theorem fits {a b : Nat} (h : a + b <= 9223372036854775807) : ((a + b : Nat) : Int) <= i64.max := by simp [IntKind.max, IntKind.bits]; omega
theorem qe3 {t b : Int} (hb : 0 < b) : (0 <= t -> Int.tdiv t b = t / b /\ Int.tmod t b = t % b) /\ (t < 0 -> Int.tdiv t b = -((-t) / b) /\ Int.tmod t b = -((-t) % b)) := by
 refine ⟨fun h => ⟨Int.tdiv_eq_ediv_of_nonneg h, Int.tmod_eq_emod_of_nonneg h⟩, fun h => ?_⟩
 obtain ⟨u, rfl⟩ : ∃ u, t = -u := ⟨-t, by omega⟩
 rw [Int.neg_tdiv, Int.neg_tmod, Int.neg_neg, Int.tdiv_eq_ediv_of_nonneg (by omega), Int.tmod_eq_emod_of_nonneg (by omega)]
 exact ⟨rfl, rfl⟩
theorem qes {α : Type} (p : α -> Bool) : ∀ (s : List α) (k : Nat) (hk : k < s.length), k <= (s.takeWhile p).length -> (p s[k] = true ↔ k < (s.takeWhile p).length)
 | [], k, hk, _ => by cases hk
 | c :: s, 0, hk, _ => by
   rw [List.takeWhile_cons]
   simp only [List.getElem_cons_zero]
   cases h : p c <;> simp
 | c :: s, k + 1, hk, h => by
   rw [List.takeWhile_cons] at h ⊢
   cases hc : p c with
   | false => rw [hc] at h; simp at h
   | true =>
     rw [hc] at h
     simp only [if_true, List.length_cons] at h ⊢
     have := qes p s k (by simpa using hk) (by omega)
     simp only [List.getElem_cons_succ]
     rw [this]; omega
theorem jz {α : Type} (p : α -> Bool) (s : List α) : (s.takeWhile p).length <= s.length := (List.takeWhile_sublist p).length_le
end Go.Pk
namespace Go.Pk
open Go.RowKit (Below)
theorem qsk {P : Program} {name : String} {k : IntKind} {zs : List Int} {w w' : World} (h : Lib.TabIs P w name k zs) (hb : ∀ b, b < w.heap.size -> w'.heap[b]? = w.heap[b]?) : Lib.TabIs P w' name k zs := by
 unfold Lib.TabIs World.var? at h ⊢
 cases hg : P.globalNamed name with
 | none => rw [hg] at h; cases h
 | some g =>
   rw [hg] at h
   simp only [Option.bind_some] at h ⊢
   have hlt : g < w.heap.size := by
     cases hh : w.heap[g]? with
     | none => rw [hh] at h; cases h
     | some o => exact (Array.getElem?_eq_some_iff.1 hh).1
   rw [hb g hlt]; exact h
end Go.Pk
namespace Go.Proofs.YtndbpedpdbjkpaaGreatDoor
open Go.Pk
open Go.RowKit (Below)
structure Env (w : World) : Prop where
 tab : Lib.TabIs prog w "internal/strconv.uint64pow10" .u64 Lib.pow10Tab
 max : ∃ m : Int, w.cell? ⟨0, 0, none⟩ = some (.int .i64 m)
 tz : w.cell? ⟨5, 15, none⟩ = some (.int .u8 4)
theorem qsJ {w : World} {b o : Nat} {v : Value} (h : w.cell? ⟨b, o, none⟩ = some v) : b < w.heap.size := by
 cases hh : w.heap[b]? with
 | none => simp [World.cell?, hh] at h
 | some x => exact (Array.getElem?_eq_some_iff.1 hh).1
theorem Env.same {w w' : World} (h : Env w) (hb : ∀ b, b < w.heap.size -> w'.heap[b]? = w.heap[b]?) : Env w' := by
 obtain ⟨m, hm⟩ := h.max
 exact ⟨qsk h.tab hb, ⟨m, by rw [qlj (hb _ (qsJ hm))]; exact hm⟩, by rw [qlj (hb _ (qsJ h.tz))]; exact h.tz⟩
theorem Env.step {w w' : World} (h : Env w) (hb : Below w.heap.size w w') : Env w' := h.same fun b hlt => hb.block b hlt
theorem Env.grown {w0 w w' : World} {row : Option Nat} (h0 : Env w0) (h : Env w) (hg : w.grownBy w' row) (hr : ∀ x, row = some x -> w0.heap.size <= x) (hb : Below w0.heap.size w0 w) : Env w' :=
 h0.step (hb.grown hg hb.size hr)
end Go.Proofs.YtndbpedpdbjkpaaGreatDoor
