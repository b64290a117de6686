/- What the functions' bodies ask, by their names. Its conditions: none. -/
import Derived.Test.YtmlcilfcaogdcaaDoorNames
set_option linter.unusedVariables false
set_option maxRecDepth 100000
namespace Go.Proofs.YtmlcilfcaogdcaaDoor
open Go.Pk
open Go.RowKit (Below)
--  cracknel/cracknellaw07.DateDays
def vc_law07_DateDays (n0_0 : Int) (n0_1 : Int) (n0_2 : Int) (n1 : Int) (w : World) (K : Value → World → Prop) : Prop :=
  ∀ (k2 : Nat) (w2 : World), k2 = w.heap.size → w2 = w.alloc (.cells #[.int .i64 n0_0, .int .i64 n0_1, .int .i64 n0_2] T_arr3_int) →
  Calls Tryd.prog f_law07_dateAlive #[] w2 fun e17 w17 => ∃ (b17 : Bool), e17 = .returned (.bool b17) ∧
  BCase (!b17)
  (K (.bool false) w17)
  (((0 ≤ (0 : Int) ∧ (0 : Int) < ((3 : Nat) : Int)) ∧ true = true) ∧
  ∃ (n21 : Int), (Instr.loadAt T_int (.pointer (elemAddr (some ⟨k2, 0, none⟩) (0 : Int) 1))).run Tryd.prog w17 = .ok (.int .i64 n21) w17 ∧
  ((0 ≤ (1 : Int) ∧ (1 : Int) < ((3 : Nat) : Int)) ∧ true = true) ∧
  ∃ (n23 : Int), (Instr.loadAt T_int (.pointer (elemAddr (some ⟨k2, 0, none⟩) (1 : Int) 1))).run Tryd.prog w17 = .ok (.int .i64 n23) w17 ∧
  ((0 ≤ (2 : Int) ∧ (2 : Int) < ((3 : Nat) : Int)) ∧ true = true) ∧
  ∃ (n25 : Int), (Instr.loadAt T_int (.pointer (elemAddr (some ⟨k2, 0, none⟩) (2 : Int) 1))).run Tryd.prog w17 = .ok (.int .i64 n25) w17 ∧
  Calls Tryd.prog f_date_Days #[.int .i64 n21, .int .i64 n23, .int .i64 n25] w17 fun e26 w26 => ∃ (n26_0 : Int) (b26_1 : Bool), e26 = .returned (.tuple #[.int .i64 n26_0, .bool b26_1]) ∧
  ((0 ≤ (0 : Int) ∧ (0 : Int) < ((3 : Nat) : Int)) ∧ true = true) ∧
  ∃ (n31 : Int), (Instr.loadAt T_int (.pointer (elemAddr (some ⟨k2, 0, none⟩) (0 : Int) 1))).run Tryd.prog w26 = .ok (.int .i64 n31) w26 ∧
  ((0 ≤ (1 : Int) ∧ (1 : Int) < ((3 : Nat) : Int)) ∧ true = true) ∧
  ∃ (n33 : Int), (Instr.loadAt T_int (.pointer (elemAddr (some ⟨k2, 0, none⟩) (1 : Int) 1))).run Tryd.prog w26 = .ok (.int .i64 n33) w26 ∧
  ((0 ≤ (2 : Int) ∧ (2 : Int) < ((3 : Nat) : Int)) ∧ true = true) ∧
  ∃ (n35 : Int), (Instr.loadAt T_int (.pointer (elemAddr (some ⟨k2, 0, none⟩) (2 : Int) 1))).run Tryd.prog w26 = .ok (.int .i64 n35) w26 ∧
  Calls Tryd.prog f_ref07_Days #[.int .i64 n31, .int .i64 n33, .int .i64 n35] w26 fun e36 w36 => ∃ (n36_0 : Int) (b36_1 : Bool), e36 = .returned (.tuple #[.int .i64 n36_0, .bool b36_1]) ∧
  Calls Tryd.prog f_date_Civil #[.int .i64 n1] w36 fun e41 w41 => ∃ (n41_0 : Int) (n41_1 : Int) (n41_2 : Int) (b41_3 : Bool), e41 = .returned (.tuple #[.int .i64 n41_0, .int .i64 n41_1, .int .i64 n41_2, .bool b41_3]) ∧
  Calls Tryd.prog f_ref07_Civil #[.int .i64 n1] w41 fun e48 w48 => ∃ (n48_0 : Int) (n48_1 : Int) (n48_2 : Int) (b48_3 : Bool), e48 = .returned (.tuple #[.int .i64 n48_0, .int .i64 n48_1, .int .i64 n48_2, .bool b48_3]) ∧
  BCase (n26_0 == n36_0)
  (BCase (b26_1 == b36_1)
  (BCase (n41_0 == n48_0)
  (BCase (n41_1 == n48_1)
  (BCase (n41_2 == n48_2)
  (K (.bool (b41_3 == b48_3)) w48)
  (K (.bool false) w48))
  (K (.bool false) w48))
  (K (.bool false) w48))
  (K (.bool false) w48))
  (K (.bool false) w48))
theorem run_law07_DateDays (n0_0 : Int) (n0_1 : Int) (n0_2 : Int) (n1 : Int) {w : World} {K : Value → World → Prop} (h : vc_law07_DateDays n0_0 n0_1 n0_2 n1 w K) : Calls Tryd.prog f_law07_DateDays #[.agg #[.int .i64 n0_0, .int .i64 n0_1, .int .i64 n0_2], .int .i64 n1] w (Ret K) :=
  calls_E (c := bodyOf Tryd.f3) (by kernel_rfl) Tryd.func3 (by kernel_rfl) [] [.agg #[.int .i64 n0_0, .int .i64 n0_1, .int .i64 n0_2], .int .i64 n1] (of_decide_eq_true (by kernel_rfl)) (vc_law07_DateDays n0_0 n0_1 n0_2 n1 w K) (by kernel_rfl) h

--  cracknel/cracknellaw07.DateCookies
def vc_law07_DateCookies (s0 : List UInt8) (w : World) (K : Value → World → Prop) : Prop :=
  Calls Tryd.prog f_law07_dateAlive #[] w fun e7 w7 => ∃ (b7 : Bool), e7 = .returned (.bool b7) ∧
  BCase (!b7)
  (K (.bool false) w7)
  (BCase (decide (((List.length s0 : Nat) : Int) > (500 : Int)))
  (K (.bool true) w7)
  (Calls Tryd.prog f_date_Cookie #[.string (mkS s0)] w7 fun e14 w14 => ∃ (n14_0 : Int) (b14_1 : Bool), e14 = .returned (.tuple #[.int .i64 n14_0, .bool b14_1]) ∧
  Calls Tryd.prog f_ref07_Cookie #[.string (mkS s0)] w14 fun e19 w19 => ∃ (n19_0 : Int) (b19_1 : Bool), e19 = .returned (.tuple #[.int .i64 n19_0, .bool b19_1]) ∧
  BCase (n14_0 == n19_0)
  (K (.bool (b14_1 == b19_1)) w19)
  (K (.bool false) w19)))
theorem run_law07_DateCookies (s0 : List UInt8) {w : World} {K : Value → World → Prop} (h : vc_law07_DateCookies s0 w K) : Calls Tryd.prog f_law07_DateCookies #[.string (mkS s0)] w (Ret K) :=
  calls_E (c := bodyOf Tryd.f4) (by kernel_rfl) Tryd.func4 (by kernel_rfl) [] [.string (mkS s0)] (of_decide_eq_true (by kernel_rfl)) (vc_law07_DateCookies s0 w K) (by kernel_rfl) h

--  cracknel/cracknellaw07.DateTells
def vc_law07_DateTells (n0 : Int) (w : World) (K : Value → World → Prop) : Prop :=
  Calls Tryd.prog f_law07_dateAlive #[] w fun e3 w3 => ∃ (b3 : Bool), e3 = .returned (.bool b3) ∧
  BCase (!b3)
  (K (.bool false) w3)
  (Calls Tryd.prog f_date_Text #[.int .i64 n0] w3 fun e6 w6 => ∃ (s6 : List UInt8), e6 = .returned (.string (mkS s6)) ∧
  Calls Tryd.prog f_ref07_Text #[.int .i64 n0] w6 fun e8 w8 => ∃ (s8 : List UInt8), e8 = .returned (.string (mkS s8)) ∧
  K (.bool (s6 == s8)) w8)
theorem run_law07_DateTells (n0 : Int) {w : World} {K : Value → World → Prop} (h : vc_law07_DateTells n0 w K) : Calls Tryd.prog f_law07_DateTells #[.int .i64 n0] w (Ret K) :=
  calls_E (c := bodyOf Tryd.f5) (by kernel_rfl) Tryd.func5 (by kernel_rfl) [] [.int .i64 n0] (of_decide_eq_true (by kernel_rfl)) (vc_law07_DateTells n0 w K) (by kernel_rfl) h

--  cracknel/cracknellaw07.DateBack
def vc_law07_DateBack (n0 : Int) (w : World) (K : Value → World → Prop) : Prop :=
  Calls Tryd.prog f_law07_dateAlive #[] w fun e12 w12 => ∃ (b12 : Bool), e12 = .returned (.bool b12) ∧
  BCase (!b12)
  (K (.bool false) w12)
  (Calls Tryd.prog f_date_Text #[.int .i64 n0] w12 fun e15 w15 => ∃ (s15 : List UInt8), e15 = .returned (.string (mkS s15)) ∧
  ((86400 : Int) ≠ 0) ∧
  ∀ (q18 : Int), q18 = (IntKind.i64.wrap (Int.tdiv n0 (86400 : Int))) →
  Calls Tryd.prog f_date_Civil #[.int .i64 q18] w15 fun e19 w19 => ∃ (n19_0 : Int) (n19_1 : Int) (n19_2 : Int) (b19_3 : Bool), e19 = .returned (.tuple #[.int .i64 n19_0, .int .i64 n19_1, .int .i64 n19_2, .bool b19_3]) ∧
  ∃ J : FP [],
  (BCase b19_3
  (Calls Tryd.prog f_date_Days #[.int .i64 n19_0, .int .i64 n19_1, .int .i64 n19_2] w19 fun e29 w29 => ∃ (n29_0 : Int) (b29_1 : Bool), e29 = .returned (.tuple #[.int .i64 n29_0, .bool b29_1]) ∧
  BCase (!b29_1)
  (K (.bool false) w29)
  (((86400 : Int) ≠ 0) ∧
  ∀ (q37 : Int), q37 = (IntKind.i64.wrap (Int.tdiv n0 (86400 : Int))) →
  BCase (n29_0 != q37)
  (K (.bool false) w29)
  (J w29)))
  (J w19)) ∧
  AllJ 19 (∀ (wj : World), J wj →
  BCase (s15 == [])
  (BCase (!b19_3)
  (K (.bool true) wj)
  (((86400 : Int) ≠ 0) ∧
  ∀ (q46 : Int), q46 = (Int.tmod n0 (86400 : Int)) →
  K (.bool (decide (q46 < (0 : Int)))) wj))
  (Calls Tryd.prog f_date_Cookie #[.string (mkS s15)] wj fun e51 w51 => ∃ (n51_0 : Int) (b51_1 : Bool), e51 = .returned (.tuple #[.int .i64 n51_0, .bool b51_1]) ∧
  BCase b51_1
  (BCase (n51_0 == n0)
  (K (.bool (((List.length s15 : Nat) : Int) == (29 : Int))) w51)
  (K (.bool false) w51))
  (K (.bool false) w51))))
theorem run_law07_DateBack (n0 : Int) {w : World} {K : Value → World → Prop} (h : vc_law07_DateBack n0 w K) : Calls Tryd.prog f_law07_DateBack #[.int .i64 n0] w (Ret K) :=
  calls_E (c := bodyOf Tryd.f6) (by kernel_rfl) Tryd.func6 (by kernel_rfl) [(14, [])] [.int .i64 n0] (of_decide_eq_true (by kernel_rfl)) (vc_law07_DateBack n0 w K) (by kernel_rfl) h

--  cracknel/cracknellaw07.DateNext
def vc_law07_DateNext (n0 : Int) (w : World) (K : Value → World → Prop) : Prop :=
  Calls Tryd.prog f_law07_dateAlive #[] w fun e14 w14 => ∃ (b14 : Bool), e14 = .returned (.bool b14) ∧
  BCase (!b14)
  (K (.bool false) w14)
  (Calls Tryd.prog f_date_Civil #[.int .i64 n0] w14 fun e18 w18 => ∃ (n18_0 : Int) (n18_1 : Int) (n18_2 : Int) (b18_3 : Bool), e18 = .returned (.tuple #[.int .i64 n18_0, .int .i64 n18_1, .int .i64 n18_2, .bool b18_3]) ∧
  ∃ J : FP [],
  (BCase (!b18_3)
  (K (.bool true) w18)
  (BCase (n0 == (9223372036854775807 : Int))
  (K (.bool true) w18)
  (J w18))) ∧
  AllJ 7 (∀ (wj : World), J wj →
  Calls Tryd.prog f_date_Civil #[.int .i64 (IntKind.i64.wrap (n0 + (1 : Int)))] wj fun e32 w32 => ∃ (n32_0 : Int) (n32_1 : Int) (n32_2 : Int) (b32_3 : Bool), e32 = .returned (.tuple #[.int .i64 n32_0, .int .i64 n32_1, .int .i64 n32_2, .bool b32_3]) ∧
  BCase (!b32_3)
  (BCase (n18_0 == (9999 : Int))
  (BCase (n18_1 == (12 : Int))
  (K (.bool (n18_2 == (31 : Int))) w32)
  (K (.bool false) w32))
  (K (.bool false) w32))
  (∃ J_1 : FP [.one (.bool)],
  (BCase (n32_0 == n18_0)
  (BCase (n32_1 == n18_1)
  (J_1 (n32_2 == (IntKind.i64.wrap (n18_2 + (1 : Int)))) w32)
  (J_1 false w32))
  (J_1 false w32)) ∧
  ∀ (b11 : Bool), AllJ 14 (∀ (wj_1 : World), J_1 b11 wj_1 →
  ∃ J_2 : FP [.one (.bool)],
  (BCase (n32_0 == n18_0)
  (BCase (n32_1 == (IntKind.i64.wrap (n18_1 + (1 : Int))))
  (BCase (n32_2 == (1 : Int))
  (J_2 (decide (n18_2 ≥ (28 : Int))) wj_1)
  (J_2 false wj_1))
  (J_2 false wj_1))
  (J_2 false wj_1)) ∧
  ∀ (b12 : Bool), AllJ 17 (∀ (wj_2 : World), J_2 b12 wj_2 →
  ∃ J_3 : FP [.one (.bool)],
  (BCase (n32_0 == (IntKind.i64.wrap (n18_0 + (1 : Int))))
  (BCase (n32_1 == (1 : Int))
  (BCase (n32_2 == (1 : Int))
  (BCase (n18_1 == (12 : Int))
  (J_3 (n18_2 == (31 : Int)) wj_2)
  (J_3 false wj_2))
  (J_3 false wj_2))
  (J_3 false wj_2))
  (J_3 false wj_2)) ∧
  ∀ (b13 : Bool), AllJ 20 (∀ (wj_3 : World), J_3 b13 wj_3 →
  BCase b11
  (K (.bool true) wj_3)
  (BCase b12
  (K (.bool true) wj_3)
  (K (.bool b13) wj_3))))))))
theorem run_law07_DateNext (n0 : Int) {w : World} {K : Value → World → Prop} (h : vc_law07_DateNext n0 w K) : Calls Tryd.prog f_law07_DateNext #[.int .i64 n0] w (Ret K) :=
  calls_E (c := bodyOf Tryd.f7) (by kernel_rfl) Tryd.func7 (by kernel_rfl) [(12, []), (30, [(11, .one (.bool))]), (32, [(12, .one (.bool))]), (34, [(13, .one (.bool))])] [.int .i64 n0] (of_decide_eq_true (by kernel_rfl)) (vc_law07_DateNext n0 w K) (by kernel_rfl) h

--  cracknel/cracknellaw07.DateParts
def vc_law07_DateParts (n0 : Int) (n1 : Int) (w : World) (K : Value → World → Prop) : Prop :=
  Calls Tryd.prog f_law07_dateAlive #[] w fun e13 w13 => ∃ (b13 : Bool), e13 = .returned (.bool b13) ∧
  BCase (!b13)
  (K (.bool false) w13)
  (Calls Tryd.prog f_date_Text #[.int .i64 n0] w13 fun e16 w16 => ∃ (s16 : List UInt8), e16 = .returned (.string (mkS s16)) ∧
  BCase (s16 == [])
  (K (.bool true) w16)
  (((12 : Int) ≠ 0) ∧
  ∀ (q21 : Int), q21 = (Int.tmod (IntKind.i64.wrap n1) (12 : Int)) →
  ((0 ≤ q21 ∧ q21 < ((List.length [9, 32, 44, 47, 59, 64, 91, 95, 96, 123, 126, 45] : Nat) : Int))) ∧
  ((0 ≤ (5 : Int) ∧ (5 : Int) ≤ (((List.length s16) : Nat) : Int))) ∧
  ∀ (s24 : List UInt8), s24 = (List.drop (Int.toNat (5 : Int)) s16) →
  ∃ (w25 : World) (a25 : Option Addr) (l25 c25 : Nat), (convert T_string T_sl_uint8 (.string (mkS s24))).run Tryd.prog w16 = .ok (.slice a25 l25 c25) w25 ∧
  ∃ I : Nat → FP [.one (.int .i64)],
  (∃ m : Nat, I m (0 : Int) w25) ∧
  ∀ (m : Nat) (n28 : Int), AllJ 13 (∀ (wl : World), I m n28 wl →
  BCase (decide (n28 < ((l25 : Nat) : Int)))
  (((0 ≤ n28 ∧ n28 < ((l25 : Nat) : Int)) ∧ Option.isSome a25 = true) ∧
  ∃ (n34 : Int), (Instr.loadAt T_uint8 (.pointer (elemAddr a25 n28 1))).run Tryd.prog wl = .ok (.int .u8 n34) wl ∧
  BCase (n34 == (32 : Int))
  (((0 ≤ n28 ∧ n28 < ((l25 : Nat) : Int)) ∧ Option.isSome a25 = true) ∧
  ∃ (wx : World), (Instr.storeAt T_uint8 (.pointer (elemAddr a25 n28 1)) (.int .u8 (byteAt [9, 32, 44, 47, 59, 64, 91, 95, 96, 123, 126, 45] q21))).run Tryd.prog wl = .ok () wx ∧
  ∃ m' : Nat, m' < m ∧ I m' (IntKind.i64.wrap (n28 + (1 : Int))) wx)
  (∃ m' : Nat, m' < m ∧ I m' (IntKind.i64.wrap (n28 + (1 : Int))) wl))
  (∃ (s43 : List UInt8), (convert T_sl_uint8 T_string (.slice a25 l25 c25)).run Tryd.prog wl = .ok (.string (mkS s43)) wl ∧
  Calls Tryd.prog f_date_Cookie #[.string (mkS s43)] wl fun e44 w44 => ∃ (n44_0 : Int) (b44_1 : Bool), e44 = .returned (.tuple #[.int .i64 n44_0, .bool b44_1]) ∧
  ∀ (k50 : Nat) (w50 : World), k50 = w44.heap.size → w50 = w44.alloc (.cells #[.int .u8 (byteAt [9, 32, 44, 47, 59, 64, 91, 95, 96, 123, 126, 45] q21), .int .u8 (byteAt [9, 32, 44, 47, 59, 64, 91, 95, 96, 123, 126, 45] q21)] T_uint8) →
  ∃ (s51 : List UInt8), (convert T_sl_uint8 T_string (.slice (some ⟨k50, 0, none⟩) 2 2)).run Tryd.prog w50 = .ok (.string (mkS s51)) w50 ∧
  ((((List.length [120] + List.length s51 : Nat) : Int) ≤ IntKind.i64.max)) ∧
  ∀ (s52 : List UInt8), s52 = ([120] ++ s51) →
  ∃ (s54 : List UInt8), (convert T_sl_uint8 T_string (.slice a25 l25 c25)).run Tryd.prog w50 = .ok (.string (mkS s54)) w50 ∧
  ((((List.length s52 + List.length s54 : Nat) : Int) ≤ IntKind.i64.max)) ∧
  ∀ (s55 : List UInt8), s55 = (s52 ++ s54) →
  ∀ (k57 : Nat) (w57 : World), k57 = w50.heap.size → w57 = w50.alloc (.cells #[.int .u8 (byteAt [9, 32, 44, 47, 59, 64, 91, 95, 96, 123, 126, 45] q21)] T_uint8) →
  ∃ (s58 : List UInt8), (convert T_sl_uint8 T_string (.slice (some ⟨k57, 0, none⟩) 1 1)).run Tryd.prog w57 = .ok (.string (mkS s58)) w57 ∧
  ((((List.length s55 + List.length s58 : Nat) : Int) ≤ IntKind.i64.max)) ∧
  ∀ (s59 : List UInt8), s59 = (s55 ++ s58) →
  ((((List.length s59 + List.length [121] : Nat) : Int) ≤ IntKind.i64.max)) ∧
  ∀ (s60 : List UInt8), s60 = (s59 ++ [121]) →
  Calls Tryd.prog f_date_Cookie #[.string (mkS s60)] w57 fun e61 w61 => ∃ (n61_0 : Int) (b61_1 : Bool), e61 = .returned (.tuple #[.int .i64 n61_0, .bool b61_1]) ∧
  BCase b44_1
  (BCase b61_1
  (BCase (n44_0 == n0)
  (K (.bool (n61_0 == n0)) w61)
  (K (.bool false) w61))
  (K (.bool false) w61))
  (K (.bool false) w61)))))
theorem run_law07_DateParts (n0 : Int) (n1 : Int) {w : World} {K : Value → World → Prop} (h : vc_law07_DateParts n0 n1 w K) : Calls Tryd.prog f_law07_DateParts #[.int .i64 n0, .int .u8 n1] w (Ret K) :=
  calls_E (c := bodyOf Tryd.f8) (by kernel_rfl) Tryd.func8 (by kernel_rfl) [(28, [(28, .one (.int .i64))])] [.int .i64 n0, .int .u8 n1] (of_decide_eq_true (by kernel_rfl)) (vc_law07_DateParts n0 n1 w K) (by kernel_rfl) h

--  cracknel/cracknellaw07.dateAlive
def vc_law07_dateAlive  (w : World) (K : Value → World → Prop) : Prop :=
  Calls Tryd.prog f_date_Cookie #[.string (mkS [49, 45, 102, 101, 98, 45, 55, 48, 32, 48, 58, 48, 58, 57])] w fun e4 w4 => ∃ (n4_0 : Int) (b4_1 : Bool), e4 = .returned (.tuple #[.int .i64 n4_0, .bool b4_1]) ∧
  BCase b4_1
  (BCase (n4_0 == (2678409 : Int))
  (Calls Tryd.prog f_date_Text #[.int .i64 (0 : Int)] w4 fun e13 w13 => ∃ (s13 : List UInt8), e13 = .returned (.string (mkS s13)) ∧
  K (.bool (s13 == [84, 104, 117, 44, 32, 48, 49, 32, 74, 97, 110, 32, 49, 57, 55, 48, 32, 48, 48, 58, 48, 48, 58, 48, 48, 32, 71, 77, 84])) w13)
  (K (.bool false) w4))
  (K (.bool false) w4)
theorem run_law07_dateAlive  {w : World} {K : Value → World → Prop} (h : vc_law07_dateAlive  w K) : Calls Tryd.prog f_law07_dateAlive #[] w (Ret K) :=
  calls_E (c := bodyOf Tryd.f9) (by kernel_rfl) Tryd.func9 (by kernel_rfl) [] [] (of_decide_eq_true (by kernel_rfl)) (vc_law07_dateAlive  w K) (by kernel_rfl) h

--  cracknel/date.Days
def vc_date_Days (n0 : Int) (n1 : Int) (n2 : Int) (w : World) (K : Value → World → Prop) : Prop :=
  ∃ J : FP [],
  (BCase (decide (n0 < (1601 : Int)))
  (K (.tuple #[.int .i64 (0 : Int), .bool false]) w)
  (BCase (decide (n0 > (9999 : Int)))
  (K (.tuple #[.int .i64 (0 : Int), .bool false]) w)
  (BCase (decide (n1 < (1 : Int)))
  (K (.tuple #[.int .i64 (0 : Int), .bool false]) w)
  (BCase (decide (n1 > (12 : Int)))
  (K (.tuple #[.int .i64 (0 : Int), .bool false]) w)
  (BCase (decide (n2 < (1 : Int)))
  (K (.tuple #[.int .i64 (0 : Int), .bool false]) w)
  (Calls Tryd.prog f_date_length #[.int .i64 n0, .int .i64 n1] w fun e34 w34 => ∃ (n34 : Int), e34 = .returned (.int .i64 n34) ∧
  BCase (decide (n2 > n34))
  (K (.tuple #[.int .i64 (0 : Int), .bool false]) w34)
  (J w34))))))) ∧
  AllJ 27 (∀ (wj : World), J wj →
  ∃ J_1 : FP [.one (.int .i64), .one (.int .i64)],
  (BCase (decide ((IntKind.i64.wrap (n1 - (3 : Int))) < (0 : Int)))
  (J_1 (IntKind.i64.wrap (n0 - (1 : Int))) (IntKind.i64.wrap ((IntKind.i64.wrap (n1 - (3 : Int))) + (12 : Int))) wj)
  (J_1 n0 (IntKind.i64.wrap (n1 - (3 : Int))) wj)) ∧
  ∀ (n8 : Int) (n9 : Int), AllJ 6 (∀ (wj_1 : World), J_1 n8 n9 wj_1 →
  ((400 : Int) ≠ 0) ∧
  ∀ (q47 : Int), q47 = (Int.tmod n8 (400 : Int)) →
  ((400 : Int) ≠ 0) ∧
  ∀ (q49 : Int), q49 = (IntKind.i64.wrap (Int.tdiv n8 (400 : Int))) →
  ((4 : Int) ≠ 0) ∧
  ∀ (q55 : Int), q55 = (IntKind.i64.wrap (Int.tdiv q47 (4 : Int))) →
  ((100 : Int) ≠ 0) ∧
  ∀ (q58 : Int), q58 = (IntKind.i64.wrap (Int.tdiv q47 (100 : Int))) →
  ((5 : Int) ≠ 0) ∧
  ∀ (q63 : Int), q63 = (IntKind.i64.wrap (Int.tdiv (IntKind.i64.wrap ((IntKind.i64.wrap ((153 : Int) * n9)) + (2 : Int))) (5 : Int))) →
  K (.tuple #[.int .i64 (IntKind.i64.wrap ((IntKind.i64.wrap ((IntKind.i64.wrap ((IntKind.i64.wrap ((IntKind.i64.wrap ((IntKind.i64.wrap ((IntKind.i64.wrap ((IntKind.i64.wrap (q49 * (146097 : Int))) + (IntKind.i64.wrap (q47 * (365 : Int))))) + q55)) - q58)) + q63)) + n2)) - (1 : Int))) - (719468 : Int))), .bool true]) wj_1))
theorem run_date_Days (n0 : Int) (n1 : Int) (n2 : Int) {w : World} {K : Value → World → Prop} (h : vc_date_Days n0 n1 n2 w K) : Calls Tryd.prog f_date_Days #[.int .i64 n0, .int .i64 n1, .int .i64 n2] w (Ret K) :=
  calls_E (c := bodyOf Tryd.f10) (by kernel_rfl) Tryd.func10 (by kernel_rfl) [(2, []), (12, [(8, .one (.int .i64)), (9, .one (.int .i64))])] [.int .i64 n0, .int .i64 n1, .int .i64 n2] (of_decide_eq_true (by kernel_rfl)) (vc_date_Days n0 n1 n2 w K) (by kernel_rfl) h

--  cracknel/cracknelref07.Days
def vc_ref07_Days (n0 : Int) (n1 : Int) (n2 : Int) (w : World) (K : Value → World → Prop) : Prop :=
  Calls Tryd.prog f_ref07_Is #[.int .i64 n0, .int .i64 n1, .int .i64 n2] w fun e15 w15 => ∃ (b15 : Bool), e15 = .returned (.bool b15) ∧
  BCase (!b15)
  (K (.tuple #[.int .i64 (0 : Int), .bool false]) w15)
  (∃ I : Nat → FP [.one (.int .i64), .one (.int .i64)],
  (∃ m : Nat, I m (IntKind.i64.wrap (n2 - (1 : Int))) (1 : Int) w15) ∧
  ∀ (m : Nat) (n8 : Int) (n9 : Int), AllJ 10 (∀ (wl : World), I m n8 n9 wl →
  BCase (decide (n9 < n1))
  (Calls Tryd.prog f_ref07_Length #[.int .i64 n0, .int .i64 n9] wl fun e27 w27 => ∃ (n27 : Int), e27 = .returned (.int .i64 n27) ∧
  ∃ m' : Nat, m' < m ∧ I m' (IntKind.i64.wrap (n8 + n27)) (IntKind.i64.wrap (n9 + (1 : Int))) w27)
  (∃ I_1 : Nat → FP [.one (.int .i64), .one (.int .i64)],
  (∃ m_1 : Nat, I_1 m_1 n8 (1970 : Int) wl) ∧
  ∀ (m_1 : Nat) (n8_1 : Int) (n10 : Int), AllJ 9 (∀ (wl_1 : World), I_1 m_1 n8_1 n10 wl_1 →
  BCase (decide (n10 < n0))
  (Calls Tryd.prog f_ref07_year #[.int .i64 n10] wl_1 fun e36 w36 => ∃ (n36 : Int), e36 = .returned (.int .i64 n36) ∧
  ∃ m'_1 : Nat, m'_1 < m_1 ∧ I_1 m'_1 (IntKind.i64.wrap (n8_1 + n36)) (IntKind.i64.wrap (n10 + (1 : Int))) w36)
  (∃ I_2 : Nat → FP [.one (.int .i64), .one (.int .i64)],
  (∃ m_2 : Nat, I_2 m_2 n8_1 n0 wl_1) ∧
  ∀ (m_2 : Nat) (n8_2 : Int) (n11 : Int), AllJ 8 (∀ (wl_2 : World), I_2 m_2 n8_2 n11 wl_2 →
  BCase (decide (n11 < (1970 : Int)))
  (Calls Tryd.prog f_ref07_year #[.int .i64 n11] wl_2 fun e45 w45 => ∃ (n45 : Int), e45 = .returned (.int .i64 n45) ∧
  ∃ m'_2 : Nat, m'_2 < m_2 ∧ I_2 m'_2 (IntKind.i64.wrap (n8_2 - n45)) (IntKind.i64.wrap (n11 + (1 : Int))) w45)
  (K (.tuple #[.int .i64 n8_2, .bool true]) wl_2)))))))
theorem run_ref07_Days (n0 : Int) (n1 : Int) (n2 : Int) {w : World} {K : Value → World → Prop} (h : vc_ref07_Days n0 n1 n2 w K) : Calls Tryd.prog f_ref07_Days #[.int .i64 n0, .int .i64 n1, .int .i64 n2] w (Ret K) :=
  calls_E (c := bodyOf Tryd.f11) (by kernel_rfl) Tryd.func11 (by kernel_rfl) [(16, [(8, .one (.int .i64)), (9, .one (.int .i64))]), (31, [(8, .one (.int .i64)), (10, .one (.int .i64))]), (46, [(8, .one (.int .i64)), (11, .one (.int .i64))])] [.int .i64 n0, .int .i64 n1, .int .i64 n2] (of_decide_eq_true (by kernel_rfl)) (vc_ref07_Days n0 n1 n2 w K) (by kernel_rfl) h

--  cracknel/date.Civil
def vc_date_Civil (n0 : Int) (w : World) (K : Value → World → Prop) : Prop :=
  Calls Tryd.prog f_date_Days #[.int .i64 (1601 : Int), .int .i64 (1 : Int), .int .i64 (1 : Int)] w fun e16 w16 => ∃ (n16_0 : Int) (b16_1 : Bool), e16 = .returned (.tuple #[.int .i64 n16_0, .bool b16_1]) ∧
  Calls Tryd.prog f_date_Days #[.int .i64 (9999 : Int), .int .i64 (12 : Int), .int .i64 (31 : Int)] w16 fun e20 w20 => ∃ (n20_0 : Int) (b20_1 : Bool), e20 = .returned (.tuple #[.int .i64 n20_0, .bool b20_1]) ∧
  ∃ J : FP [],
  (BCase (decide (n0 < n16_0))
  (K (.tuple #[.int .i64 (0 : Int), .int .i64 (0 : Int), .int .i64 (0 : Int), .bool false]) w20)
  (BCase (decide (n0 > n20_0))
  (K (.tuple #[.int .i64 (0 : Int), .int .i64 (0 : Int), .int .i64 (0 : Int), .bool false]) w20)
  (J w20))) ∧
  AllJ 12 (∀ (wj : World), J wj →
  ((146097 : Int) ≠ 0) ∧
  ∀ (q34 : Int), q34 = (Int.tmod (IntKind.i64.wrap (n0 + (719468 : Int))) (146097 : Int)) →
  ((1460 : Int) ≠ 0) ∧
  ∀ (q37 : Int), q37 = (IntKind.i64.wrap (Int.tdiv q34 (1460 : Int))) →
  ((36524 : Int) ≠ 0) ∧
  ∀ (q40 : Int), q40 = (IntKind.i64.wrap (Int.tdiv q34 (36524 : Int))) →
  ((146096 : Int) ≠ 0) ∧
  ∀ (q43 : Int), q43 = (IntKind.i64.wrap (Int.tdiv q34 (146096 : Int))) →
  ((365 : Int) ≠ 0) ∧
  ∀ (q45 : Int), q45 = (IntKind.i64.wrap (Int.tdiv (IntKind.i64.wrap ((IntKind.i64.wrap ((IntKind.i64.wrap (q34 - q37)) + q40)) - q43)) (365 : Int))) →
  ((4 : Int) ≠ 0) ∧
  ∀ (q50 : Int), q50 = (IntKind.i64.wrap (Int.tdiv q45 (4 : Int))) →
  ((100 : Int) ≠ 0) ∧
  ∀ (q53 : Int), q53 = (IntKind.i64.wrap (Int.tdiv q45 (100 : Int))) →
  ((153 : Int) ≠ 0) ∧
  ∀ (q59 : Int), q59 = (IntKind.i64.wrap (Int.tdiv (IntKind.i64.wrap ((IntKind.i64.wrap ((5 : Int) * (IntKind.i64.wrap (q34 - (IntKind.i64.wrap ((IntKind.i64.wrap ((IntKind.i64.wrap ((365 : Int) * q45)) + q50)) - q53)))))) + (2 : Int))) (153 : Int))) →
  ((5 : Int) ≠ 0) ∧
  ∀ (q64 : Int), q64 = (IntKind.i64.wrap (Int.tdiv (IntKind.i64.wrap ((IntKind.i64.wrap ((153 : Int) * q59)) + (2 : Int))) (5 : Int))) →
  ((146097 : Int) ≠ 0) ∧
  ∀ (q69 : Int), q69 = (IntKind.i64.wrap (Int.tdiv (IntKind.i64.wrap (n0 + (719468 : Int))) (146097 : Int))) →
  BCase (decide ((IntKind.i64.wrap (q59 + (3 : Int))) > (12 : Int)))
  (K (.tuple #[.int .i64 (IntKind.i64.wrap ((IntKind.i64.wrap (q45 + (IntKind.i64.wrap (q69 * (400 : Int))))) + (1 : Int))), .int .i64 (IntKind.i64.wrap ((IntKind.i64.wrap (q59 + (3 : Int))) - (12 : Int))), .int .i64 (IntKind.i64.wrap ((IntKind.i64.wrap ((IntKind.i64.wrap (q34 - (IntKind.i64.wrap ((IntKind.i64.wrap ((IntKind.i64.wrap ((365 : Int) * q45)) + q50)) - q53)))) - q64)) + (1 : Int))), .bool true]) wj)
  (K (.tuple #[.int .i64 (IntKind.i64.wrap (q45 + (IntKind.i64.wrap (q69 * (400 : Int))))), .int .i64 (IntKind.i64.wrap (q59 + (3 : Int))), .int .i64 (IntKind.i64.wrap ((IntKind.i64.wrap ((IntKind.i64.wrap (q34 - (IntKind.i64.wrap ((IntKind.i64.wrap ((IntKind.i64.wrap ((365 : Int) * q45)) + q50)) - q53)))) - q64)) + (1 : Int))), .bool true]) wj))
theorem run_date_Civil (n0 : Int) {w : World} {K : Value → World → Prop} (h : vc_date_Civil n0 w K) : Calls Tryd.prog f_date_Civil #[.int .i64 n0] w (Ret K) :=
  calls_E (c := bodyOf Tryd.f12) (by kernel_rfl) Tryd.func12 (by kernel_rfl) [(6, [])] [.int .i64 n0] (of_decide_eq_true (by kernel_rfl)) (vc_date_Civil n0 w K) (by kernel_rfl) h

--  cracknel/cracknelref07.Civil
def vc_ref07_Civil (n0 : Int) (w : World) (K : Value → World → Prop) : Prop :=
  Calls Tryd.prog f_ref07_Days #[.int .i64 (1601 : Int), .int .i64 (1 : Int), .int .i64 (1 : Int)] w fun e14 w14 => ∃ (n14_0 : Int) (b14_1 : Bool), e14 = .returned (.tuple #[.int .i64 n14_0, .bool b14_1]) ∧
  Calls Tryd.prog f_ref07_Days #[.int .i64 (9999 : Int), .int .i64 (12 : Int), .int .i64 (31 : Int)] w14 fun e18 w18 => ∃ (n18_0 : Int) (b18_1 : Bool), e18 = .returned (.tuple #[.int .i64 n18_0, .bool b18_1]) ∧
  ∃ J : FP [],
  (BCase (decide (n0 < n14_0))
  (K (.tuple #[.int .i64 (0 : Int), .int .i64 (0 : Int), .int .i64 (0 : Int), .bool false]) w18)
  (BCase (decide (n0 > n18_0))
  (K (.tuple #[.int .i64 (0 : Int), .int .i64 (0 : Int), .int .i64 (0 : Int), .bool false]) w18)
  (J w18))) ∧
  AllJ 12 (∀ (wj : World), J wj →
  ∃ I : Nat → FP [.one (.int .i64), .one (.int .i64)],
  (∃ m : Nat, I m (1601 : Int) (IntKind.i64.wrap (n0 - n14_0)) wj) ∧
  ∀ (m : Nat) (n10 : Int) (n11 : Int), AllJ 10 (∀ (wl : World), I m n10 n11 wl →
  Calls Tryd.prog f_ref07_year #[.int .i64 n10] wl fun e34 w34 => ∃ (n34 : Int), e34 = .returned (.int .i64 n34) ∧
  BCase (decide (n11 ≥ n34))
  (Calls Tryd.prog f_ref07_year #[.int .i64 n10] w34 fun e38 w38 => ∃ (n38 : Int), e38 = .returned (.int .i64 n38) ∧
  ∃ m' : Nat, m' < m ∧ I m' (IntKind.i64.wrap (n10 + (1 : Int))) (IntKind.i64.wrap (n11 - n38)) w38)
  (∃ I_1 : Nat → FP [.one (.int .i64), .one (.int .i64)],
  (∃ m_1 : Nat, I_1 m_1 n11 (1 : Int) w34) ∧
  ∀ (m_1 : Nat) (n11_1 : Int) (n12 : Int), AllJ 12 (∀ (wl_1 : World), I_1 m_1 n11_1 n12 wl_1 →
  Calls Tryd.prog f_ref07_Length #[.int .i64 n10, .int .i64 n12] wl_1 fun e45 w45 => ∃ (n45 : Int), e45 = .returned (.int .i64 n45) ∧
  BCase (decide (n11_1 ≥ n45))
  (Calls Tryd.prog f_ref07_Length #[.int .i64 n10, .int .i64 n12] w45 fun e50 w50 => ∃ (n50 : Int), e50 = .returned (.int .i64 n50) ∧
  ∃ m'_1 : Nat, m'_1 < m_1 ∧ I_1 m'_1 (IntKind.i64.wrap (n11_1 - n50)) (IntKind.i64.wrap (n12 + (1 : Int))) w50)
  (K (.tuple #[.int .i64 n10, .int .i64 n12, .int .i64 (IntKind.i64.wrap (n11_1 + (1 : Int))), .bool true]) w45)))))
theorem run_ref07_Civil (n0 : Int) {w : World} {K : Value → World → Prop} (h : vc_ref07_Civil n0 w K) : Calls Tryd.prog f_ref07_Civil #[.int .i64 n0] w (Ret K) :=
  calls_E (c := bodyOf Tryd.f13) (by kernel_rfl) Tryd.func13 (by kernel_rfl) [(6, []), (20, [(10, .one (.int .i64)), (11, .one (.int .i64))]), (35, [(11, .one (.int .i64)), (12, .one (.int .i64))])] [.int .i64 n0] (of_decide_eq_true (by kernel_rfl)) (vc_ref07_Civil n0 w K) (by kernel_rfl) h

--  cracknel/date.Cookie
def vc_date_Cookie (s0 : List UInt8) (w : World) (K : Value → World → Prop) : Prop :=
  ∀ (k4 : Nat) (w4 : World), k4 = w.heap.size → w4 = w.alloc (.cells #[.bool false, .bool false, .bool false, .bool false, .int .i64 (0 : Int), .int .i64 (0 : Int), .int .i64 (0 : Int), .int .i64 (0 : Int), .int .i64 (0 : Int), .int .i64 (0 : Int)] T_date_found) →
  ∃ I : Nat → FP [.one (.int .i64), .one (.int .i64)],
  (∃ m : Nat, I m (0 : Int) (0 : Int) w4) ∧
  ∀ (m : Nat) (n5 : Int) (n6 : Int), AllJ 26 (∀ (wl : World), I m n5 n6 wl →
  BCase (decide (n6 ≤ ((List.length s0 : Nat) : Int)))
  (∃ J : FP [.one (.bool)],
  (BCase (n6 == ((List.length s0 : Nat) : Int))
  (J true wl)
  (((0 ≤ n6 ∧ n6 < ((List.length s0 : Nat) : Int))) ∧
  Calls Tryd.prog f_date_parts #[.int .u8 (byteAt s0 n6)] wl fun e23 w23 => ∃ (b23 : Bool), e23 = .returned (.bool b23) ∧
  J b23 w23)) ∧
  ∀ (b24 : Bool), AllJ 9 (∀ (wj : World), J b24 wj →
  BCase b24
  (BCase (decide (n6 > n5))
  ((((0 ≤ n6 ∧ n6 ≤ (((List.length s0) : Nat) : Int)) ∧ 0 ≤ n5 ∧ n5 ≤ ((Int.toNat n6 : Nat) : Int))) ∧
  ∀ (s31 : List UInt8), s31 = (List.drop (Int.toNat n5) (List.take (Int.toNat n6) s0)) →
  Calls Tryd.prog f_date_found_token #[.pointer (some ⟨k4, 0, none⟩), .string (mkS s31)] wj fun e32 w32 => e32 = .returned (.tuple #[]) ∧
  ∃ m' : Nat, m' < m ∧ I m' (IntKind.i64.wrap (n6 + (1 : Int))) (IntKind.i64.wrap (n6 + (1 : Int))) w32)
  (∃ m' : Nat, m' < m ∧ I m' (IntKind.i64.wrap (n6 + (1 : Int))) (IntKind.i64.wrap (n6 + (1 : Int))) wj))
  (∃ m' : Nat, m' < m ∧ I m' n5 (IntKind.i64.wrap (n6 + (1 : Int))) wj)))
  (∃ J_1 : FP [],
  (∃ J_2 : FP [.one (.bool)],
  ((true = true) ∧
  ∃ (n37 : Int), (Instr.loadAt T_int (.pointer (some ⟨k4, 7, none⟩))).run Tryd.prog wl = .ok (.int .i64 n37) wl ∧
  BCase (decide (n37 ≥ (70 : Int)))
  ((true = true) ∧
  ∃ (n41 : Int), (Instr.loadAt T_int (.pointer (some ⟨k4, 7, none⟩))).run Tryd.prog wl = .ok (.int .i64 n41) wl ∧
  J_2 (decide (n41 ≤ (99 : Int))) wl)
  (J_2 false wl)) ∧
  ∀ (b35 : Bool), AllJ 8 (∀ (wj_1 : World), J_2 b35 wj_1 →
  BCase b35
  ((true = true) ∧
  ∃ (n45 : Int), (Instr.loadAt T_int (.pointer (some ⟨k4, 7, none⟩))).run Tryd.prog wj_1 = .ok (.int .i64 n45) wj_1 ∧
  (true = true) ∧
  ∃ (wx : World), (Instr.storeAt T_int (.pointer (some ⟨k4, 7, none⟩)) (.int .i64 (IntKind.i64.wrap (n45 + (1900 : Int))))).run Tryd.prog wj_1 = .ok () wx ∧
  J_1 wx)
  ((true = true) ∧
  ∃ (n50 : Int), (Instr.loadAt T_int (.pointer (some ⟨k4, 7, none⟩))).run Tryd.prog wj_1 = .ok (.int .i64 n50) wj_1 ∧
  BCase (decide (n50 < (70 : Int)))
  ((true = true) ∧
  ∃ (n53 : Int), (Instr.loadAt T_int (.pointer (some ⟨k4, 7, none⟩))).run Tryd.prog wj_1 = .ok (.int .i64 n53) wj_1 ∧
  (true = true) ∧
  ∃ (wx_1 : World), (Instr.storeAt T_int (.pointer (some ⟨k4, 7, none⟩)) (.int .i64 (IntKind.i64.wrap (n53 + (2000 : Int))))).run Tryd.prog wj_1 = .ok () wx_1 ∧
  J_1 wx_1)
  (J_1 wj_1)))) ∧
  AllJ 21 (∀ (wj_2 : World), J_1 wj_2 →
  (true = true) ∧
  ∃ (n58 : Int), (Instr.loadAt T_int (.pointer (some ⟨k4, 7, none⟩))).run Tryd.prog wj_2 = .ok (.int .i64 n58) wj_2 ∧
  (true = true) ∧
  ∃ (n60 : Int), (Instr.loadAt T_int (.pointer (some ⟨k4, 8, none⟩))).run Tryd.prog wj_2 = .ok (.int .i64 n60) wj_2 ∧
  (true = true) ∧
  ∃ (n62 : Int), (Instr.loadAt T_int (.pointer (some ⟨k4, 9, none⟩))).run Tryd.prog wj_2 = .ok (.int .i64 n62) wj_2 ∧
  Calls Tryd.prog f_date_Days #[.int .i64 n58, .int .i64 n60, .int .i64 n62] wj_2 fun e63 w63 => ∃ (n63_0 : Int) (b63_1 : Bool), e63 = .returned (.tuple #[.int .i64 n63_0, .bool b63_1]) ∧
  ∃ J_3 : FP [],
  (BCase (!b63_1)
  (K (.tuple #[.int .i64 (0 : Int), .bool false]) w63)
  ((true = true) ∧
  ∃ (b70 : Bool), (Instr.loadAt T_bool (.pointer (some ⟨k4, 0, none⟩))).run Tryd.prog w63 = .ok (.bool b70) w63 ∧
  BCase (!b70)
  (K (.tuple #[.int .i64 (0 : Int), .bool false]) w63)
  ((true = true) ∧
  ∃ (b75 : Bool), (Instr.loadAt T_bool (.pointer (some ⟨k4, 3, none⟩))).run Tryd.prog w63 = .ok (.bool b75) w63 ∧
  BCase (!b75)
  (K (.tuple #[.int .i64 (0 : Int), .bool false]) w63)
  ((true = true) ∧
  ((0 ≤ (0 : Int) ∧ (0 : Int) < ((3 : Nat) : Int)) ∧ true = true) ∧
  ∃ (n81 : Int), (Instr.loadAt T_int (.pointer (elemAddr (some ⟨k4, 4, none⟩) (0 : Int) 1))).run Tryd.prog w63 = .ok (.int .i64 n81) w63 ∧
  BCase (decide (n81 > (23 : Int)))
  (K (.tuple #[.int .i64 (0 : Int), .bool false]) w63)
  ((true = true) ∧
  ((0 ≤ (1 : Int) ∧ (1 : Int) < ((3 : Nat) : Int)) ∧ true = true) ∧
  ∃ (n87 : Int), (Instr.loadAt T_int (.pointer (elemAddr (some ⟨k4, 4, none⟩) (1 : Int) 1))).run Tryd.prog w63 = .ok (.int .i64 n87) w63 ∧
  BCase (decide (n87 > (59 : Int)))
  (K (.tuple #[.int .i64 (0 : Int), .bool false]) w63)
  ((true = true) ∧
  ((0 ≤ (2 : Int) ∧ (2 : Int) < ((3 : Nat) : Int)) ∧ true = true) ∧
  ∃ (n93 : Int), (Instr.loadAt T_int (.pointer (elemAddr (some ⟨k4, 4, none⟩) (2 : Int) 1))).run Tryd.prog w63 = .ok (.int .i64 n93) w63 ∧
  BCase (decide (n93 > (59 : Int)))
  (K (.tuple #[.int .i64 (0 : Int), .bool false]) w63)
  (J_3 w63))))))) ∧
  AllJ 32 (∀ (wj_3 : World), J_3 wj_3 →
  (true = true) ∧
  ((0 ≤ (0 : Int) ∧ (0 : Int) < ((3 : Nat) : Int)) ∧ true = true) ∧
  ∃ (n100 : Int), (Instr.loadAt T_int (.pointer (elemAddr (some ⟨k4, 4, none⟩) (0 : Int) 1))).run Tryd.prog wj_3 = .ok (.int .i64 n100) wj_3 ∧
  (true = true) ∧
  ((0 ≤ (1 : Int) ∧ (1 : Int) < ((3 : Nat) : Int)) ∧ true = true) ∧
  ∃ (n105 : Int), (Instr.loadAt T_int (.pointer (elemAddr (some ⟨k4, 4, none⟩) (1 : Int) 1))).run Tryd.prog wj_3 = .ok (.int .i64 n105) wj_3 ∧
  (true = true) ∧
  ((0 ≤ (2 : Int) ∧ (2 : Int) < ((3 : Nat) : Int)) ∧ true = true) ∧
  ∃ (n110 : Int), (Instr.loadAt T_int (.pointer (elemAddr (some ⟨k4, 4, none⟩) (2 : Int) 1))).run Tryd.prog wj_3 = .ok (.int .i64 n110) wj_3 ∧
  K (.tuple #[.int .i64 (IntKind.i64.wrap ((IntKind.i64.wrap ((IntKind.i64.wrap ((IntKind.i64.wrap (n63_0 * (86400 : Int))) + (IntKind.i64.wrap (n100 * (3600 : Int))))) + (IntKind.i64.wrap (n105 * (60 : Int))))) + n110)), .bool true]) wj_3))))
theorem run_date_Cookie (s0 : List UInt8) {w : World} {K : Value → World → Prop} (h : vc_date_Cookie s0 w K) : Calls Tryd.prog f_date_Cookie #[.string (mkS s0)] w (Ret K) :=
  calls_E (c := bodyOf Tryd.f14) (by kernel_rfl) Tryd.func14 (by kernel_rfl) [(10, [(5, .one (.int .i64)), (6, .one (.int .i64))]), (19, [(24, .one (.bool))]), (31, []), (33, [(35, .one (.bool))]), (44, [])] [.string (mkS s0)] (of_decide_eq_true (by kernel_rfl)) (vc_date_Cookie s0 w K) (by kernel_rfl) h

--  cracknel/cracknelref07.Cookie
def vc_ref07_Cookie (s0 : List UInt8) (w : World) (K : Value → World → Prop) : Prop :=
  ∀ (k17 : Nat) (w17 : World), k17 = w.heap.size → w17 = w.alloc (.cells #[.string (mkS [])] T_string) →
  ∃ I : Nat → FP [.one (.slice), .one (.int .i64)],
  (∃ m : Nat, I m (some ⟨k17, 0, none⟩) 1 1 (0 : Int) w17) ∧
  ∀ (m : Nat) (a4 : Option Addr) (l4 c4 : Nat) (n5 : Int), AllJ 26 (∀ (wl : World), I m a4 l4 c4 n5 wl →
  BCase (decide (n5 < ((List.length s0 : Nat) : Int)))
  (((0 ≤ n5 ∧ n5 < ((List.length s0 : Nat) : Int))) ∧
  Calls Tryd.prog f_ref07_parts #[.int .u8 (byteAt s0 n5)] wl fun e27 w27 => ∃ (b27 : Bool), e27 = .returned (.bool b27) ∧
  BCase b27
  (∀ (k29 : Nat) (w29 : World), k29 = w27.heap.size → w29 = w27.alloc (.cells #[.string (mkS [])] T_string) →
  ∃ (w30 : World) (a30 : Option Addr) (l30 c30 : Nat), (Builtin.append_ #[T_sl_string, T_sl_string] T_sl_string #[.slice a4 l4 c4, .slice (some ⟨k29, 0, none⟩) 1 1]).run Tryd.prog w29 = .ok (.slice a30 l30 c30) w30 ∧
  ∃ m' : Nat, m' < m ∧ I m' a30 l30 c30 (IntKind.i64.wrap (n5 + (1 : Int))) w30)
  (((0 ≤ (IntKind.i64.wrap (((l4 : Nat) : Int) - (1 : Int))) ∧ (IntKind.i64.wrap (((l4 : Nat) : Int) - (1 : Int))) < ((l4 : Nat) : Int)) ∧ Option.isSome a4 = true) ∧
  (((0 ≤ (IntKind.i64.wrap (n5 + (1 : Int))) ∧ (IntKind.i64.wrap (n5 + (1 : Int))) ≤ (((List.length s0) : Nat) : Int)) ∧ 0 ≤ n5 ∧ n5 ≤ ((Int.toNat (IntKind.i64.wrap (n5 + (1 : Int))) : Nat) : Int))) ∧
  ∀ (s41 : List UInt8), s41 = (List.drop (Int.toNat n5) (List.take (Int.toNat (IntKind.i64.wrap (n5 + (1 : Int)))) s0)) →
  ∃ (s36 : List UInt8), (Instr.loadAt T_string (.pointer (elemAddr a4 (IntKind.i64.wrap (((l4 : Nat) : Int) - (1 : Int))) 1))).run Tryd.prog (World.drew w27) = .ok (.string (mkS s36)) (World.drew w27) ∧
  ((((List.length s36 + List.length s41 : Nat) : Int) ≤ IntKind.i64.max)) ∧
  ∀ (s42 : List UInt8), s42 = (s36 ++ s41) →
  ((0 ≤ (IntKind.i64.wrap (((l4 : Nat) : Int) - (1 : Int))) ∧ (IntKind.i64.wrap (((l4 : Nat) : Int) - (1 : Int))) < ((l4 : Nat) : Int)) ∧ Option.isSome a4 = true) ∧
  ∃ (wx : World), (Instr.storeAt T_string (.pointer (elemAddr a4 (IntKind.i64.wrap (((l4 : Nat) : Int) - (1 : Int))) 1)) (.string (mkS s42))).run Tryd.prog (World.drew w27) = .ok () wx ∧
  ∃ m' : Nat, m' < m ∧ I m' a4 l4 c4 (IntKind.i64.wrap (n5 + (1 : Int))) wx))
  (∀ (k44 : Nat) (w44 : World), k44 = wl.heap.size → w44 = wl.alloc (.cells #[] T_int) →
  ∃ I_1 : Nat → FP [.one (.slice), .one (.int .i64), .one (.int .i64), .one (.int .i64), .one (.int .i64)],
  (∃ m_1 : Nat, I_1 m_1 (some ⟨k44, 0, none⟩) 0 0 (-1 : Int) (-1 : Int) (-1 : Int) (0 : Int) w44) ∧
  ∀ (m_1 : Nat) (a6 : Option Addr) (l6 c6 : Nat) (n7 : Int) (n8 : Int) (n9 : Int) (n47 : Int), AllJ 59 (∀ (wl_1 : World), I_1 m_1 a6 l6 c6 n7 n8 n9 n47 wl_1 →
  BCase (decide (n47 < ((l4 : Nat) : Int)))
  (((0 ≤ n47 ∧ n47 < ((l4 : Nat) : Int)) ∧ Option.isSome a4 = true) ∧
  ∃ (s50 : List UInt8), (Instr.loadAt T_string (.pointer (elemAddr a4 n47 1))).run Tryd.prog wl_1 = .ok (.string (mkS s50)) wl_1 ∧
  Calls Tryd.prog f_ref07_digits #[.string (mkS s50)] wl_1 fun e52 w52 => ∃ (n52 : Int), e52 = .returned (.int .i64 n52) ∧
  Calls Tryd.prog f_ref07_time #[.string (mkS s50)] w52 fun e55 w55 => ∃ (a55_0 : Option Addr) (l55_0 c55_0 : Nat) (b55_1 : Bool), e55 = .returned (.tuple #[.slice a55_0 l55_0 c55_0, .bool b55_1]) ∧
  ∃ J : FP [.one (.bool)],
  (BCase b55_1
  (J (((l6 : Nat) : Int) == (0 : Int)) w55)
  (J false w55)) ∧
  ∀ (b63 : Bool), AllJ 5 (∀ (wj : World), J b63 wj →
  BCase b63
  (∃ m'_1 : Nat, m'_1 < m_1 ∧ I_1 m'_1 a55_0 l55_0 c55_0 n7 n8 n9 (IntKind.i64.wrap (n47 + (1 : Int))) wj)
  (∃ J_1 : FP [.one (.bool)],
  (BCase (decide (n9 < (0 : Int)))
  (BCase (decide (n52 ≥ (1 : Int)))
  (J_1 (decide (n52 ≤ (2 : Int))) wj)
  (J_1 false wj))
  (J_1 false wj)) ∧
  ∀ (b74 : Bool), AllJ 9 (∀ (wj_1 : World), J_1 b74 wj_1 →
  BCase b74
  (((0 ≤ n52 ∧ n52 ≤ (((List.length s50) : Nat) : Int))) ∧
  ∀ (s77 : List UInt8), s77 = (List.take (Int.toNat n52) s50) →
  Calls Tryd.prog f_ref07_value #[.string (mkS s77)] wj_1 fun e78 w78 => ∃ (n78 : Int), e78 = .returned (.int .i64 n78) ∧
  ∃ m'_1 : Nat, m'_1 < m_1 ∧ I_1 m'_1 a6 l6 c6 n7 n8 n78 (IntKind.i64.wrap (n47 + (1 : Int))) w78)
  (∃ J_2 : FP [.one (.bool)],
  (BCase (decide (n8 < (0 : Int)))
  (Calls Tryd.prog f_ref07_month #[.string (mkS s50)] wj_1 fun e83 w83 => ∃ (n83 : Int), e83 = .returned (.int .i64 n83) ∧
  J_2 (decide (n83 > (0 : Int))) w83)
  (J_2 false wj_1)) ∧
  ∀ (b85 : Bool), AllJ 6 (∀ (wj_2 : World), J_2 b85 wj_2 →
  BCase b85
  (Calls Tryd.prog f_ref07_month #[.string (mkS s50)] wj_2 fun e87 w87 => ∃ (n87 : Int), e87 = .returned (.int .i64 n87) ∧
  ∃ m'_1 : Nat, m'_1 < m_1 ∧ I_1 m'_1 a6 l6 c6 n7 n87 n9 (IntKind.i64.wrap (n47 + (1 : Int))) w87)
  (∃ J_3 : FP [.one (.bool)],
  (BCase (decide (n7 < (0 : Int)))
  (BCase (decide (n52 ≥ (2 : Int)))
  (J_3 (decide (n52 ≤ (4 : Int))) wj_2)
  (J_3 false wj_2))
  (J_3 false wj_2)) ∧
  ∀ (b97 : Bool), AllJ 9 (∀ (wj_3 : World), J_3 b97 wj_3 →
  BCase b97
  (((0 ≤ n52 ∧ n52 ≤ (((List.length s50) : Nat) : Int))) ∧
  ∀ (s100 : List UInt8), s100 = (List.take (Int.toNat n52) s50) →
  Calls Tryd.prog f_ref07_value #[.string (mkS s100)] wj_3 fun e101 w101 => ∃ (n101 : Int), e101 = .returned (.int .i64 n101) ∧
  ∃ m'_1 : Nat, m'_1 < m_1 ∧ I_1 m'_1 a6 l6 c6 n101 n8 n9 (IntKind.i64.wrap (n47 + (1 : Int))) w101)
  (∃ m'_1 : Nat, m'_1 < m_1 ∧ I_1 m'_1 a6 l6 c6 n7 n8 n9 (IntKind.i64.wrap (n47 + (1 : Int))) wj_3)))))))))
  (∃ J_4 : FP [.one (.int .i64)],
  (∃ J_5 : FP [.one (.bool)],
  (BCase (decide (n7 ≥ (70 : Int)))
  (J_5 (decide (n7 ≤ (99 : Int))) wl_1)
  (J_5 false wl_1)) ∧
  ∀ (b108 : Bool), AllJ 5 (∀ (wj_4 : World), J_5 b108 wj_4 →
  BCase b108
  (J_4 (IntKind.i64.wrap (n7 + (1900 : Int))) wj_4)
  (BCase (decide (n7 ≥ (0 : Int)))
  (BCase (decide (n7 ≤ (69 : Int)))
  (J_4 (IntKind.i64.wrap (n7 + (2000 : Int))) wj_4)
  (J_4 n7 wj_4))
  (J_4 n7 wj_4)))) ∧
  ∀ (n7_1 : Int), AllJ 16 (∀ (wj_5 : World), J_4 n7_1 wj_5 →
  ∃ J_6 : FP [],
  (BCase (((l6 : Nat) : Int) == (0 : Int))
  (K (.tuple #[.int .i64 (0 : Int), .bool false]) wj_5)
  (Calls Tryd.prog f_ref07_Is #[.int .i64 n7_1, .int .i64 n8, .int .i64 n9] wj_5 fun e126 w126 => ∃ (b126 : Bool), e126 = .returned (.bool b126) ∧
  BCase (!b126)
  (K (.tuple #[.int .i64 (0 : Int), .bool false]) w126)
  (((0 ≤ (0 : Int) ∧ (0 : Int) < ((l6 : Nat) : Int)) ∧ Option.isSome a6 = true) ∧
  ∃ (n132 : Int), (Instr.loadAt T_int (.pointer (elemAddr a6 (0 : Int) 1))).run Tryd.prog w126 = .ok (.int .i64 n132) w126 ∧
  BCase (decide (n132 > (23 : Int)))
  (K (.tuple #[.int .i64 (0 : Int), .bool false]) w126)
  (((0 ≤ (1 : Int) ∧ (1 : Int) < ((l6 : Nat) : Int)) ∧ Option.isSome a6 = true) ∧
  ∃ (n138 : Int), (Instr.loadAt T_int (.pointer (elemAddr a6 (1 : Int) 1))).run Tryd.prog w126 = .ok (.int .i64 n138) w126 ∧
  BCase (decide (n138 > (59 : Int)))
  (K (.tuple #[.int .i64 (0 : Int), .bool false]) w126)
  (((0 ≤ (2 : Int) ∧ (2 : Int) < ((l6 : Nat) : Int)) ∧ Option.isSome a6 = true) ∧
  ∃ (n144 : Int), (Instr.loadAt T_int (.pointer (elemAddr a6 (2 : Int) 1))).run Tryd.prog w126 = .ok (.int .i64 n144) w126 ∧
  BCase (decide (n144 > (59 : Int)))
  (K (.tuple #[.int .i64 (0 : Int), .bool false]) w126)
  (J_6 w126)))))) ∧
  AllJ 30 (∀ (wj_6 : World), J_6 wj_6 →
  Calls Tryd.prog f_ref07_Days #[.int .i64 n7_1, .int .i64 n8, .int .i64 n9] wj_6 fun e151 w151 => ∃ (n151_0 : Int) (b151_1 : Bool), e151 = .returned (.tuple #[.int .i64 n151_0, .bool b151_1]) ∧
  ((0 ≤ (0 : Int) ∧ (0 : Int) < ((l6 : Nat) : Int)) ∧ Option.isSome a6 = true) ∧
  ∃ (n158 : Int), (∀ u158 : World, Below w151.heap.size w151 u158 → (Instr.loadAt T_int (.pointer (elemAddr a6 (0 : Int) 1))).run Tryd.prog u158 = .ok (.int .i64 n158) u158) ∧
  ((0 ≤ (1 : Int) ∧ (1 : Int) < ((l6 : Nat) : Int)) ∧ Option.isSome a6 = true) ∧
  ∃ (n162 : Int), (∀ u162 : World, Below w151.heap.size w151 u162 → (Instr.loadAt T_int (.pointer (elemAddr a6 (1 : Int) 1))).run Tryd.prog u162 = .ok (.int .i64 n162) u162) ∧
  ((0 ≤ (2 : Int) ∧ (2 : Int) < ((l6 : Nat) : Int)) ∧ Option.isSome a6 = true) ∧
  ∃ (n167 : Int), (∀ u167 : World, Below w151.heap.size w151 u167 → (Instr.loadAt T_int (.pointer (elemAddr a6 (2 : Int) 1))).run Tryd.prog u167 = .ok (.int .i64 n167) u167) ∧
  ∀ wq : World, Below w151.heap.size w151 wq →
  K (.tuple #[.int .i64 (IntKind.i64.wrap ((IntKind.i64.wrap (n151_0 * (86400 : Int))) + (IntKind.i64.wrap ((IntKind.i64.wrap ((IntKind.i64.wrap (n158 * (3600 : Int))) + (IntKind.i64.wrap (n162 * (60 : Int))))) + n167)))), .bool true]) wq))))))
theorem run_ref07_Cookie (s0 : List UInt8) {w : World} {K : Value → World → Prop} (h : vc_ref07_Cookie s0 w K) : Calls Tryd.prog f_ref07_Cookie #[.string (mkS s0)] w (Ret K) :=
  calls_E (c := bodyOf Tryd.f15) (by kernel_rfl) Tryd.func15 (by kernel_rfl) [(8, [(4, .one (.slice)), (5, .one (.int .i64))]), (31, [(6, .one (.slice)), (7, .one (.int .i64)), (8, .one (.int .i64)), (9, .one (.int .i64)), (47, .one (.int .i64))]), (46, [(63, .one (.bool))]), (50, [(74, .one (.bool))]), (54, [(85, .one (.bool))]), (58, [(97, .one (.bool))]), (64, [(7, .one (.int .i64))]), (65, [(108, .one (.bool))]), (74, [])] [.string (mkS s0)] (of_decide_eq_true (by kernel_rfl)) (vc_ref07_Cookie s0 w K) (by kernel_rfl) h

--  cracknel/date.Text
def vc_date_Text (n0 : Int) (w : World) (K : Value → World → Prop) : Prop :=
  ((86400 : Int) ≠ 0) ∧
  ∀ (q11 : Int), q11 = (IntKind.i64.wrap (Int.tdiv n0 (86400 : Int))) →
  ((86400 : Int) ≠ 0) ∧
  ∀ (q13 : Int), q13 = (Int.tmod n0 (86400 : Int)) →
  ∃ J : FP [.one (.int .i64), .one (.int .i64)],
  (BCase (decide (q13 < (0 : Int)))
  (J (IntKind.i64.wrap (q11 - (1 : Int))) (IntKind.i64.wrap (q13 + (86400 : Int))) w)
  (J q11 q13 w)) ∧
  ∀ (n3 : Int) (n4 : Int), AllJ 6 (∀ (wj : World), J n3 n4 wj →
  Calls Tryd.prog f_date_Civil #[.int .i64 n3] wj fun e22 w22 => ∃ (n22_0 : Int) (n22_1 : Int) (n22_2 : Int) (b22_3 : Bool), e22 = .returned (.tuple #[.int .i64 n22_0, .int .i64 n22_1, .int .i64 n22_2, .bool b22_3]) ∧
  BCase (!b22_3)
  (K (.string (mkS [])) w22)
  (((7 : Int) ≠ 0) ∧
  ∀ (q30 : Int), q30 = (Int.tmod n3 (7 : Int)) →
  ((7 : Int) ≠ 0) ∧
  ∀ (q32 : Int), q32 = (Int.tmod (IntKind.i64.wrap (q30 + (7 : Int))) (7 : Int)) →
  (((0 ≤ (IntKind.i64.wrap ((IntKind.i64.wrap ((3 : Int) * q32)) + (3 : Int))) ∧ (IntKind.i64.wrap ((IntKind.i64.wrap ((3 : Int) * q32)) + (3 : Int))) ≤ (((List.length [84, 104, 117, 70, 114, 105, 83, 97, 116, 83, 117, 110, 77, 111, 110, 84, 117, 101, 87, 101, 100]) : Nat) : Int)) ∧ 0 ≤ (IntKind.i64.wrap ((3 : Int) * q32)) ∧ (IntKind.i64.wrap ((3 : Int) * q32)) ≤ ((Int.toNat (IntKind.i64.wrap ((IntKind.i64.wrap ((3 : Int) * q32)) + (3 : Int))) : Nat) : Int))) ∧
  ∀ (s38 : List UInt8), s38 = (List.drop (Int.toNat (IntKind.i64.wrap ((3 : Int) * q32))) (List.take (Int.toNat (IntKind.i64.wrap ((IntKind.i64.wrap ((3 : Int) * q32)) + (3 : Int)))) [84, 104, 117, 70, 114, 105, 83, 97, 116, 83, 117, 110, 77, 111, 110, 84, 117, 101, 87, 101, 100])) →
  ((((List.length s38 + List.length [44, 32] : Nat) : Int) ≤ IntKind.i64.max)) ∧
  ∀ (s39 : List UInt8), s39 = (s38 ++ [44, 32]) →
  ∃ (s41 : List UInt8), (∀ u41 : World, Below w22.heap.size w22 u41 → Calls Tryd.prog f_date_digits #[.int .i64 n22_2, .int .i64 (2 : Int)] u41 fun e41 w41 => e41 = .returned (.string (mkS s41)) ∧ Below w22.heap.size u41 w41) ∧
  ((((List.length s39 + List.length s41 : Nat) : Int) ≤ IntKind.i64.max)) ∧
  ∀ (s42 : List UInt8), s42 = (s39 ++ s41) →
  ((((List.length s42 + List.length [32] : Nat) : Int) ≤ IntKind.i64.max)) ∧
  ∀ (s43 : List UInt8), s43 = (s42 ++ [32]) →
  (((0 ≤ (IntKind.i64.wrap ((3 : Int) * n22_1)) ∧ (IntKind.i64.wrap ((3 : Int) * n22_1)) ≤ (((List.length [74, 97, 110, 70, 101, 98, 77, 97, 114, 65, 112, 114, 77, 97, 121, 74, 117, 110, 74, 117, 108, 65, 117, 103, 83, 101, 112, 79, 99, 116, 78, 111, 118, 68, 101, 99]) : Nat) : Int)) ∧ 0 ≤ (IntKind.i64.wrap ((IntKind.i64.wrap ((3 : Int) * n22_1)) - (3 : Int))) ∧ (IntKind.i64.wrap ((IntKind.i64.wrap ((3 : Int) * n22_1)) - (3 : Int))) ≤ ((Int.toNat (IntKind.i64.wrap ((3 : Int) * n22_1)) : Nat) : Int))) ∧
  ∀ (s49 : List UInt8), s49 = (List.drop (Int.toNat (IntKind.i64.wrap ((IntKind.i64.wrap ((3 : Int) * n22_1)) - (3 : Int)))) (List.take (Int.toNat (IntKind.i64.wrap ((3 : Int) * n22_1))) [74, 97, 110, 70, 101, 98, 77, 97, 114, 65, 112, 114, 77, 97, 121, 74, 117, 110, 74, 117, 108, 65, 117, 103, 83, 101, 112, 79, 99, 116, 78, 111, 118, 68, 101, 99])) →
  ((((List.length s43 + List.length s49 : Nat) : Int) ≤ IntKind.i64.max)) ∧
  ∀ (s50 : List UInt8), s50 = (s43 ++ s49) →
  ((((List.length s50 + List.length [32] : Nat) : Int) ≤ IntKind.i64.max)) ∧
  ∀ (s51 : List UInt8), s51 = (s50 ++ [32]) →
  ∃ (s53 : List UInt8), (∀ u53 : World, Below w22.heap.size w22 u53 → Calls Tryd.prog f_date_digits #[.int .i64 n22_0, .int .i64 (4 : Int)] u53 fun e53 w53 => e53 = .returned (.string (mkS s53)) ∧ Below w22.heap.size u53 w53) ∧
  ((((List.length s51 + List.length s53 : Nat) : Int) ≤ IntKind.i64.max)) ∧
  ∀ (s54 : List UInt8), s54 = (s51 ++ s53) →
  ((((List.length s54 + List.length [32] : Nat) : Int) ≤ IntKind.i64.max)) ∧
  ∀ (s55 : List UInt8), s55 = (s54 ++ [32]) →
  ((3600 : Int) ≠ 0) ∧
  ∀ (q57 : Int), q57 = (IntKind.i64.wrap (Int.tdiv n4 (3600 : Int))) →
  ∃ (s58 : List UInt8), (∀ u58 : World, Below w22.heap.size w22 u58 → Calls Tryd.prog f_date_digits #[.int .i64 q57, .int .i64 (2 : Int)] u58 fun e58 w58 => e58 = .returned (.string (mkS s58)) ∧ Below w22.heap.size u58 w58) ∧
  ((((List.length s55 + List.length s58 : Nat) : Int) ≤ IntKind.i64.max)) ∧
  ∀ (s59 : List UInt8), s59 = (s55 ++ s58) →
  ((((List.length s59 + List.length [58] : Nat) : Int) ≤ IntKind.i64.max)) ∧
  ∀ (s60 : List UInt8), s60 = (s59 ++ [58]) →
  ((60 : Int) ≠ 0) ∧
  ∀ (q62 : Int), q62 = (IntKind.i64.wrap (Int.tdiv n4 (60 : Int))) →
  ((60 : Int) ≠ 0) ∧
  ∀ (q63 : Int), q63 = (Int.tmod q62 (60 : Int)) →
  ∃ (s64 : List UInt8), (∀ u64 : World, Below w22.heap.size w22 u64 → Calls Tryd.prog f_date_digits #[.int .i64 q63, .int .i64 (2 : Int)] u64 fun e64 w64 => e64 = .returned (.string (mkS s64)) ∧ Below w22.heap.size u64 w64) ∧
  ((((List.length s60 + List.length s64 : Nat) : Int) ≤ IntKind.i64.max)) ∧
  ∀ (s65 : List UInt8), s65 = (s60 ++ s64) →
  ((((List.length s65 + List.length [58] : Nat) : Int) ≤ IntKind.i64.max)) ∧
  ∀ (s66 : List UInt8), s66 = (s65 ++ [58]) →
  ((60 : Int) ≠ 0) ∧
  ∀ (q68 : Int), q68 = (Int.tmod n4 (60 : Int)) →
  ∃ (s69 : List UInt8), (∀ u69 : World, Below w22.heap.size w22 u69 → Calls Tryd.prog f_date_digits #[.int .i64 q68, .int .i64 (2 : Int)] u69 fun e69 w69 => e69 = .returned (.string (mkS s69)) ∧ Below w22.heap.size u69 w69) ∧
  ((((List.length s66 + List.length s69 : Nat) : Int) ≤ IntKind.i64.max)) ∧
  ∀ (s70 : List UInt8), s70 = (s66 ++ s69) →
  ((((List.length s70 + List.length [32, 71, 77, 84] : Nat) : Int) ≤ IntKind.i64.max)) ∧
  ∀ (s71 : List UInt8), s71 = (s70 ++ [32, 71, 77, 84]) →
  ∀ wq : World, Below w22.heap.size w22 wq →
  K (.string (mkS s71)) wq))
theorem run_date_Text (n0 : Int) {w : World} {K : Value → World → Prop} (h : vc_date_Text n0 w K) : Calls Tryd.prog f_date_Text #[.int .i64 n0] w (Ret K) :=
  calls_E (c := bodyOf Tryd.f16) (by kernel_rfl) Tryd.func16 (by kernel_rfl) [(6, [(3, .one (.int .i64)), (4, .one (.int .i64))])] [.int .i64 n0] (of_decide_eq_true (by kernel_rfl)) (vc_date_Text n0 w K) (by kernel_rfl) h

--  cracknel/cracknelref07.Text
def vc_ref07_Text (n0 : Int) (w : World) (K : Value → World → Prop) : Prop :=
  ((86400 : Int) ≠ 0) ∧
  ∀ (q13 : Int), q13 = (Int.tmod n0 (86400 : Int)) →
  ∃ J : FP [.one (.int .i64)],
  (BCase (decide (q13 < (0 : Int)))
  (J (IntKind.i64.wrap (q13 + (86400 : Int))) w)
  (J q13 w)) ∧
  ∀ (n3 : Int), AllJ 4 (∀ (wj : World), J n3 wj →
  ((86400 : Int) ≠ 0) ∧
  ∀ (q19 : Int), q19 = (IntKind.i64.wrap (Int.tdiv n0 (86400 : Int))) →
  ∃ J_1 : FP [.one (.int .i64)],
  (BCase (decide (n0 < (0 : Int)))
  (((86400 : Int) ≠ 0) ∧
  ∀ (q24 : Int), q24 = (Int.tmod n0 (86400 : Int)) →
  BCase (q24 != (0 : Int))
  (J_1 (IntKind.i64.wrap (q19 - (1 : Int))) wj)
  (J_1 q19 wj))
  (J_1 q19 wj)) ∧
  ∀ (n4 : Int), AllJ 9 (∀ (wj_1 : World), J_1 n4 wj_1 →
  Calls Tryd.prog f_ref07_Civil #[.int .i64 n4] wj_1 fun e31 w31 => ∃ (n31_0 : Int) (n31_1 : Int) (n31_2 : Int) (b31_3 : Bool), e31 = .returned (.tuple #[.int .i64 n31_0, .int .i64 n31_1, .int .i64 n31_2, .bool b31_3]) ∧
  BCase (!b31_3)
  (K (.string (mkS [])) w31)
  (((7 : Int) ≠ 0) ∧
  ∀ (q39 : Int), q39 = (Int.tmod n4 (7 : Int)) →
  ∃ J_2 : FP [.one (.int .i64)],
  (BCase (decide (q39 < (0 : Int)))
  (J_2 (IntKind.i64.wrap (q39 + (7 : Int))) w31)
  (J_2 q39 w31)) ∧
  ∀ (n9 : Int), AllJ 4 (∀ (wj_2 : World), J_2 n9 wj_2 →
  (∀ (k45 : Nat) (w45 : World), k45 = (World.drew wj_2).heap.size → w45 = (World.drew wj_2).alloc (.cells #[.string (mkS [84, 104, 117]), .string (mkS [70, 114, 105]), .string (mkS [83, 97, 116]), .string (mkS [83, 117, 110]), .string (mkS [77, 111, 110]), .string (mkS [84, 117, 101]), .string (mkS [87, 101, 100])] T_string) →
  ((0 ≤ n9 ∧ n9 < ((7 : Nat) : Int)) ∧ true = true) ∧
  (∃ (s48 : List UInt8), (Instr.loadAt T_string (.pointer (elemAddr (some ⟨k45, 0, none⟩) n9 1))).run Tryd.prog w45 = .ok (.string (mkS s48)) w45 ∧
  ((((List.length s48 + List.length [44, 32] : Nat) : Int) ≤ IntKind.i64.max)) ∧
  ∀ (s49 : List UInt8), s49 = (s48 ++ [44, 32]) →
  Calls Tryd.prog f_ref07_two #[.int .i64 n31_2] w45 fun e51 w51 => ∃ (s51 : List UInt8), e51 = .returned (.string (mkS s51)) ∧
  ((((List.length s49 + List.length s51 : Nat) : Int) ≤ IntKind.i64.max)) ∧
  ∀ (s52 : List UInt8), s52 = (s49 ++ s51) →
  ((((List.length s52 + List.length [32] : Nat) : Int) ≤ IntKind.i64.max)) ∧
  ∀ (s53 : List UInt8), s53 = (s52 ++ [32]) →
  ∀ (k55 : Nat) (w55 : World), k55 = w51.heap.size → w55 = w51.alloc (.cells #[.string (mkS [74, 97, 110]), .string (mkS [70, 101, 98]), .string (mkS [77, 97, 114]), .string (mkS [65, 112, 114]), .string (mkS [77, 97, 121]), .string (mkS [74, 117, 110]), .string (mkS [74, 117, 108]), .string (mkS [65, 117, 103]), .string (mkS [83, 101, 112]), .string (mkS [79, 99, 116]), .string (mkS [78, 111, 118]), .string (mkS [68, 101, 99])] T_string) →
  ((0 ≤ (IntKind.i64.wrap (n31_1 - (1 : Int))) ∧ (IntKind.i64.wrap (n31_1 - (1 : Int))) < ((12 : Nat) : Int)) ∧ true = true) ∧
  ∃ (s59 : List UInt8), (Instr.loadAt T_string (.pointer (elemAddr (some ⟨k55, 0, none⟩) (IntKind.i64.wrap (n31_1 - (1 : Int))) 1))).run Tryd.prog w55 = .ok (.string (mkS s59)) w55 ∧
  ((((List.length s53 + List.length s59 : Nat) : Int) ≤ IntKind.i64.max)) ∧
  ∀ (s60 : List UInt8), s60 = (s53 ++ s59) →
  ((((List.length s60 + List.length [32] : Nat) : Int) ≤ IntKind.i64.max)) ∧
  ∀ (s62 : List UInt8), s62 = (s60 ++ [32]) →
  ((100 : Int) ≠ 0) ∧
  ∀ (q64 : Int), q64 = (IntKind.i64.wrap (Int.tdiv n31_0 (100 : Int))) →
  Calls Tryd.prog f_ref07_two #[.int .i64 q64] w55 fun e65 w65 => ∃ (s65 : List UInt8), e65 = .returned (.string (mkS s65)) ∧
  ((((List.length s62 + List.length s65 : Nat) : Int) ≤ IntKind.i64.max)) ∧
  ∀ (s66 : List UInt8), s66 = (s62 ++ s65) →
  ((100 : Int) ≠ 0) ∧
  ∀ (q68 : Int), q68 = (Int.tmod n31_0 (100 : Int)) →
  Calls Tryd.prog f_ref07_two #[.int .i64 q68] w65 fun e69 w69 => ∃ (s69 : List UInt8), e69 = .returned (.string (mkS s69)) ∧
  ((((List.length s66 + List.length s69 : Nat) : Int) ≤ IntKind.i64.max)) ∧
  ∀ (s70 : List UInt8), s70 = (s66 ++ s69) →
  ((((List.length s70 + List.length [32] : Nat) : Int) ≤ IntKind.i64.max)) ∧
  ∀ (s71 : List UInt8), s71 = (s70 ++ [32]) →
  ((3600 : Int) ≠ 0) ∧
  ∀ (q73 : Int), q73 = (IntKind.i64.wrap (Int.tdiv n3 (3600 : Int))) →
  Calls Tryd.prog f_ref07_two #[.int .i64 q73] w69 fun e74 w74 => ∃ (s74 : List UInt8), e74 = .returned (.string (mkS s74)) ∧
  ((((List.length s71 + List.length s74 : Nat) : Int) ≤ IntKind.i64.max)) ∧
  ∀ (s75 : List UInt8), s75 = (s71 ++ s74) →
  ((((List.length s75 + List.length [58] : Nat) : Int) ≤ IntKind.i64.max)) ∧
  ∀ (s76 : List UInt8), s76 = (s75 ++ [58]) →
  ((60 : Int) ≠ 0) ∧
  ∀ (q78 : Int), q78 = (IntKind.i64.wrap (Int.tdiv n3 (60 : Int))) →
  ((60 : Int) ≠ 0) ∧
  ∀ (q79 : Int), q79 = (Int.tmod q78 (60 : Int)) →
  Calls Tryd.prog f_ref07_two #[.int .i64 q79] w74 fun e80 w80 => ∃ (s80 : List UInt8), e80 = .returned (.string (mkS s80)) ∧
  ((((List.length s76 + List.length s80 : Nat) : Int) ≤ IntKind.i64.max)) ∧
  ∀ (s81 : List UInt8), s81 = (s76 ++ s80) →
  ((((List.length s81 + List.length [58] : Nat) : Int) ≤ IntKind.i64.max)) ∧
  ∀ (s82 : List UInt8), s82 = (s81 ++ [58]) →
  ((60 : Int) ≠ 0) ∧
  ∀ (q84 : Int), q84 = (Int.tmod n3 (60 : Int)) →
  Calls Tryd.prog f_ref07_two #[.int .i64 q84] w80 fun e85 w85 => ∃ (s85 : List UInt8), e85 = .returned (.string (mkS s85)) ∧
  ((((List.length s82 + List.length s85 : Nat) : Int) ≤ IntKind.i64.max)) ∧
  ∀ (s86 : List UInt8), s86 = (s82 ++ s85) →
  ((((List.length s86 + List.length [32, 71, 77, 84] : Nat) : Int) ≤ IntKind.i64.max)) ∧
  ∀ (s87 : List UInt8), s87 = (s86 ++ [32, 71, 77, 84]) →
  K (.string (mkS s87)) w85) ∧
  Calls Tryd.prog f_ref07_two #[.int .i64 n31_2] w45 fun e51_1 w51_1 => ∃ (s51_1 : List UInt8), e51_1 = .returned (.string (mkS s51_1)) ∧
  ∃ (s48_1 : List UInt8), (Instr.loadAt T_string (.pointer (elemAddr (some ⟨k45, 0, none⟩) n9 1))).run Tryd.prog w51_1 = .ok (.string (mkS s48_1)) w51_1 ∧
  ((((List.length s48_1 + List.length [44, 32] : Nat) : Int) ≤ IntKind.i64.max)) ∧
  ∀ (s49_1 : List UInt8), s49_1 = (s48_1 ++ [44, 32]) →
  ((((List.length s49_1 + List.length s51_1 : Nat) : Int) ≤ IntKind.i64.max)) ∧
  ∀ (s52_1 : List UInt8), s52_1 = (s49_1 ++ s51_1) →
  ((((List.length s52_1 + List.length [32] : Nat) : Int) ≤ IntKind.i64.max)) ∧
  ∀ (s53_1 : List UInt8), s53_1 = (s52_1 ++ [32]) →
  ∀ (k55_1 : Nat) (w55_1 : World), k55_1 = w51_1.heap.size → w55_1 = w51_1.alloc (.cells #[.string (mkS [74, 97, 110]), .string (mkS [70, 101, 98]), .string (mkS [77, 97, 114]), .string (mkS [65, 112, 114]), .string (mkS [77, 97, 121]), .string (mkS [74, 117, 110]), .string (mkS [74, 117, 108]), .string (mkS [65, 117, 103]), .string (mkS [83, 101, 112]), .string (mkS [79, 99, 116]), .string (mkS [78, 111, 118]), .string (mkS [68, 101, 99])] T_string) →
  ((0 ≤ (IntKind.i64.wrap (n31_1 - (1 : Int))) ∧ (IntKind.i64.wrap (n31_1 - (1 : Int))) < ((12 : Nat) : Int)) ∧ true = true) ∧
  ∃ (s59_1 : List UInt8), (Instr.loadAt T_string (.pointer (elemAddr (some ⟨k55_1, 0, none⟩) (IntKind.i64.wrap (n31_1 - (1 : Int))) 1))).run Tryd.prog w55_1 = .ok (.string (mkS s59_1)) w55_1 ∧
  ((((List.length s53_1 + List.length s59_1 : Nat) : Int) ≤ IntKind.i64.max)) ∧
  ∀ (s60_1 : List UInt8), s60_1 = (s53_1 ++ s59_1) →
  ((((List.length s60_1 + List.length [32] : Nat) : Int) ≤ IntKind.i64.max)) ∧
  ∀ (s62_1 : List UInt8), s62_1 = (s60_1 ++ [32]) →
  ((100 : Int) ≠ 0) ∧
  ∀ (q64_1 : Int), q64_1 = (IntKind.i64.wrap (Int.tdiv n31_0 (100 : Int))) →
  Calls Tryd.prog f_ref07_two #[.int .i64 q64_1] w55_1 fun e65_1 w65_1 => ∃ (s65_1 : List UInt8), e65_1 = .returned (.string (mkS s65_1)) ∧
  ((((List.length s62_1 + List.length s65_1 : Nat) : Int) ≤ IntKind.i64.max)) ∧
  ∀ (s66_1 : List UInt8), s66_1 = (s62_1 ++ s65_1) →
  ((100 : Int) ≠ 0) ∧
  ∀ (q68_1 : Int), q68_1 = (Int.tmod n31_0 (100 : Int)) →
  Calls Tryd.prog f_ref07_two #[.int .i64 q68_1] w65_1 fun e69_1 w69_1 => ∃ (s69_1 : List UInt8), e69_1 = .returned (.string (mkS s69_1)) ∧
  ((((List.length s66_1 + List.length s69_1 : Nat) : Int) ≤ IntKind.i64.max)) ∧
  ∀ (s70_1 : List UInt8), s70_1 = (s66_1 ++ s69_1) →
  ((((List.length s70_1 + List.length [32] : Nat) : Int) ≤ IntKind.i64.max)) ∧
  ∀ (s71_1 : List UInt8), s71_1 = (s70_1 ++ [32]) →
  ((3600 : Int) ≠ 0) ∧
  ∀ (q73_1 : Int), q73_1 = (IntKind.i64.wrap (Int.tdiv n3 (3600 : Int))) →
  Calls Tryd.prog f_ref07_two #[.int .i64 q73_1] w69_1 fun e74_1 w74_1 => ∃ (s74_1 : List UInt8), e74_1 = .returned (.string (mkS s74_1)) ∧
  ((((List.length s71_1 + List.length s74_1 : Nat) : Int) ≤ IntKind.i64.max)) ∧
  ∀ (s75_1 : List UInt8), s75_1 = (s71_1 ++ s74_1) →
  ((((List.length s75_1 + List.length [58] : Nat) : Int) ≤ IntKind.i64.max)) ∧
  ∀ (s76_1 : List UInt8), s76_1 = (s75_1 ++ [58]) →
  ((60 : Int) ≠ 0) ∧
  ∀ (q78_1 : Int), q78_1 = (IntKind.i64.wrap (Int.tdiv n3 (60 : Int))) →
  ((60 : Int) ≠ 0) ∧
  ∀ (q79_1 : Int), q79_1 = (Int.tmod q78_1 (60 : Int)) →
  Calls Tryd.prog f_ref07_two #[.int .i64 q79_1] w74_1 fun e80_1 w80_1 => ∃ (s80_1 : List UInt8), e80_1 = .returned (.string (mkS s80_1)) ∧
  ((((List.length s76_1 + List.length s80_1 : Nat) : Int) ≤ IntKind.i64.max)) ∧
  ∀ (s81_1 : List UInt8), s81_1 = (s76_1 ++ s80_1) →
  ((((List.length s81_1 + List.length [58] : Nat) : Int) ≤ IntKind.i64.max)) ∧
  ∀ (s82_1 : List UInt8), s82_1 = (s81_1 ++ [58]) →
  ((60 : Int) ≠ 0) ∧
  ∀ (q84_1 : Int), q84_1 = (Int.tmod n3 (60 : Int)) →
  Calls Tryd.prog f_ref07_two #[.int .i64 q84_1] w80_1 fun e85_1 w85_1 => ∃ (s85_1 : List UInt8), e85_1 = .returned (.string (mkS s85_1)) ∧
  ((((List.length s82_1 + List.length s85_1 : Nat) : Int) ≤ IntKind.i64.max)) ∧
  ∀ (s86_1 : List UInt8), s86_1 = (s82_1 ++ s85_1) →
  ((((List.length s86_1 + List.length [32, 71, 77, 84] : Nat) : Int) ≤ IntKind.i64.max)) ∧
  ∀ (s87_1 : List UInt8), s87_1 = (s86_1 ++ [32, 71, 77, 84]) →
  K (.string (mkS s87_1)) w85_1) ∧
  Calls Tryd.prog f_ref07_two #[.int .i64 n31_2] (World.drew wj_2) fun e51_2 w51_2 => ∃ (s51_2 : List UInt8), e51_2 = .returned (.string (mkS s51_2)) ∧
  ∀ (k45_1 : Nat) (w45_1 : World), k45_1 = w51_2.heap.size → w45_1 = w51_2.alloc (.cells #[.string (mkS [84, 104, 117]), .string (mkS [70, 114, 105]), .string (mkS [83, 97, 116]), .string (mkS [83, 117, 110]), .string (mkS [77, 111, 110]), .string (mkS [84, 117, 101]), .string (mkS [87, 101, 100])] T_string) →
  ((0 ≤ n9 ∧ n9 < ((7 : Nat) : Int)) ∧ true = true) ∧
  ∃ (s48_2 : List UInt8), (Instr.loadAt T_string (.pointer (elemAddr (some ⟨k45_1, 0, none⟩) n9 1))).run Tryd.prog w45_1 = .ok (.string (mkS s48_2)) w45_1 ∧
  ((((List.length s48_2 + List.length [44, 32] : Nat) : Int) ≤ IntKind.i64.max)) ∧
  ∀ (s49_2 : List UInt8), s49_2 = (s48_2 ++ [44, 32]) →
  ((((List.length s49_2 + List.length s51_2 : Nat) : Int) ≤ IntKind.i64.max)) ∧
  ∀ (s52_2 : List UInt8), s52_2 = (s49_2 ++ s51_2) →
  ((((List.length s52_2 + List.length [32] : Nat) : Int) ≤ IntKind.i64.max)) ∧
  ∀ (s53_2 : List UInt8), s53_2 = (s52_2 ++ [32]) →
  ∀ (k55_2 : Nat) (w55_2 : World), k55_2 = w45_1.heap.size → w55_2 = w45_1.alloc (.cells #[.string (mkS [74, 97, 110]), .string (mkS [70, 101, 98]), .string (mkS [77, 97, 114]), .string (mkS [65, 112, 114]), .string (mkS [77, 97, 121]), .string (mkS [74, 117, 110]), .string (mkS [74, 117, 108]), .string (mkS [65, 117, 103]), .string (mkS [83, 101, 112]), .string (mkS [79, 99, 116]), .string (mkS [78, 111, 118]), .string (mkS [68, 101, 99])] T_string) →
  ((0 ≤ (IntKind.i64.wrap (n31_1 - (1 : Int))) ∧ (IntKind.i64.wrap (n31_1 - (1 : Int))) < ((12 : Nat) : Int)) ∧ true = true) ∧
  ∃ (s59_2 : List UInt8), (Instr.loadAt T_string (.pointer (elemAddr (some ⟨k55_2, 0, none⟩) (IntKind.i64.wrap (n31_1 - (1 : Int))) 1))).run Tryd.prog w55_2 = .ok (.string (mkS s59_2)) w55_2 ∧
  ((((List.length s53_2 + List.length s59_2 : Nat) : Int) ≤ IntKind.i64.max)) ∧
  ∀ (s60_2 : List UInt8), s60_2 = (s53_2 ++ s59_2) →
  ((((List.length s60_2 + List.length [32] : Nat) : Int) ≤ IntKind.i64.max)) ∧
  ∀ (s62_2 : List UInt8), s62_2 = (s60_2 ++ [32]) →
  ((100 : Int) ≠ 0) ∧
  ∀ (q64_2 : Int), q64_2 = (IntKind.i64.wrap (Int.tdiv n31_0 (100 : Int))) →
  Calls Tryd.prog f_ref07_two #[.int .i64 q64_2] w55_2 fun e65_2 w65_2 => ∃ (s65_2 : List UInt8), e65_2 = .returned (.string (mkS s65_2)) ∧
  ((((List.length s62_2 + List.length s65_2 : Nat) : Int) ≤ IntKind.i64.max)) ∧
  ∀ (s66_2 : List UInt8), s66_2 = (s62_2 ++ s65_2) →
  ((100 : Int) ≠ 0) ∧
  ∀ (q68_2 : Int), q68_2 = (Int.tmod n31_0 (100 : Int)) →
  Calls Tryd.prog f_ref07_two #[.int .i64 q68_2] w65_2 fun e69_2 w69_2 => ∃ (s69_2 : List UInt8), e69_2 = .returned (.string (mkS s69_2)) ∧
  ((((List.length s66_2 + List.length s69_2 : Nat) : Int) ≤ IntKind.i64.max)) ∧
  ∀ (s70_2 : List UInt8), s70_2 = (s66_2 ++ s69_2) →
  ((((List.length s70_2 + List.length [32] : Nat) : Int) ≤ IntKind.i64.max)) ∧
  ∀ (s71_2 : List UInt8), s71_2 = (s70_2 ++ [32]) →
  ((3600 : Int) ≠ 0) ∧
  ∀ (q73_2 : Int), q73_2 = (IntKind.i64.wrap (Int.tdiv n3 (3600 : Int))) →
  Calls Tryd.prog f_ref07_two #[.int .i64 q73_2] w69_2 fun e74_2 w74_2 => ∃ (s74_2 : List UInt8), e74_2 = .returned (.string (mkS s74_2)) ∧
  ((((List.length s71_2 + List.length s74_2 : Nat) : Int) ≤ IntKind.i64.max)) ∧
  ∀ (s75_2 : List UInt8), s75_2 = (s71_2 ++ s74_2) →
  ((((List.length s75_2 + List.length [58] : Nat) : Int) ≤ IntKind.i64.max)) ∧
  ∀ (s76_2 : List UInt8), s76_2 = (s75_2 ++ [58]) →
  ((60 : Int) ≠ 0) ∧
  ∀ (q78_2 : Int), q78_2 = (IntKind.i64.wrap (Int.tdiv n3 (60 : Int))) →
  ((60 : Int) ≠ 0) ∧
  ∀ (q79_2 : Int), q79_2 = (Int.tmod q78_2 (60 : Int)) →
  Calls Tryd.prog f_ref07_two #[.int .i64 q79_2] w74_2 fun e80_2 w80_2 => ∃ (s80_2 : List UInt8), e80_2 = .returned (.string (mkS s80_2)) ∧
  ((((List.length s76_2 + List.length s80_2 : Nat) : Int) ≤ IntKind.i64.max)) ∧
  ∀ (s81_2 : List UInt8), s81_2 = (s76_2 ++ s80_2) →
  ((((List.length s81_2 + List.length [58] : Nat) : Int) ≤ IntKind.i64.max)) ∧
  ∀ (s82_2 : List UInt8), s82_2 = (s81_2 ++ [58]) →
  ((60 : Int) ≠ 0) ∧
  ∀ (q84_2 : Int), q84_2 = (Int.tmod n3 (60 : Int)) →
  Calls Tryd.prog f_ref07_two #[.int .i64 q84_2] w80_2 fun e85_2 w85_2 => ∃ (s85_2 : List UInt8), e85_2 = .returned (.string (mkS s85_2)) ∧
  ((((List.length s82_2 + List.length s85_2 : Nat) : Int) ≤ IntKind.i64.max)) ∧
  ∀ (s86_2 : List UInt8), s86_2 = (s82_2 ++ s85_2) →
  ((((List.length s86_2 + List.length [32, 71, 77, 84] : Nat) : Int) ≤ IntKind.i64.max)) ∧
  ∀ (s87_2 : List UInt8), s87_2 = (s86_2 ++ [32, 71, 77, 84]) →
  K (.string (mkS s87_2)) w85_2))))
theorem run_ref07_Text (n0 : Int) {w : World} {K : Value → World → Prop} (h : vc_ref07_Text n0 w K) : Calls Tryd.prog f_ref07_Text #[.int .i64 n0] w (Ret K) :=
  calls_E (c := bodyOf Tryd.f17) (by kernel_rfl) Tryd.func17 (by kernel_rfl) [(4, [(3, .one (.int .i64))]), (12, [(4, .one (.int .i64))]), (30, [(9, .one (.int .i64))])] [.int .i64 n0] (of_decide_eq_true (by kernel_rfl)) (vc_ref07_Text n0 w K) (by kernel_rfl) h

--  cracknel/date.length
def vc_date_length (n0 : Int) (n1 : Int) (w : World) (K : Value → World → Prop) : Prop :=
  ∀ (k5 : Nat) (w5 : World), k5 = w.heap.size → w5 = w.alloc (.cells #[.int .i64 (0 : Int), .int .i64 (0 : Int), .int .i64 (0 : Int), .int .i64 (0 : Int), .int .i64 (0 : Int), .int .i64 (0 : Int), .int .i64 (0 : Int), .int .i64 (0 : Int), .int .i64 (0 : Int), .int .i64 (0 : Int), .int .i64 (0 : Int), .int .i64 (0 : Int)] T_arr12_int) →
  ∃ (wx : World), (Instr.storeAt T_arr12_int (.pointer (some ⟨k5, 0, none⟩)) (.agg #[.int .i64 (31 : Int), .int .i64 (28 : Int), .int .i64 (31 : Int), .int .i64 (30 : Int), .int .i64 (31 : Int), .int .i64 (30 : Int), .int .i64 (31 : Int), .int .i64 (31 : Int), .int .i64 (30 : Int), .int .i64 (31 : Int), .int .i64 (30 : Int), .int .i64 (31 : Int)])).run Tryd.prog w5 = .ok () wx ∧
  ∃ J : FP [],
  (BCase (n1 == (2 : Int))
  (Calls Tryd.prog f_date_leap #[.int .i64 n0] wx fun e11 w11 => ∃ (b11 : Bool), e11 = .returned (.bool b11) ∧
  BCase b11
  (K (.int .i64 (29 : Int)) w11)
  (J w11))
  (J wx)) ∧
  AllJ 7 (∀ (wj : World), J wj →
  ((0 ≤ (IntKind.i64.wrap (n1 - (1 : Int))) ∧ (IntKind.i64.wrap (n1 - (1 : Int))) < ((12 : Nat) : Int)) ∧ true = true) ∧
  ∃ (n16 : Int), (Instr.loadAt T_int (.pointer (elemAddr (some ⟨k5, 0, none⟩) (IntKind.i64.wrap (n1 - (1 : Int))) 1))).run Tryd.prog wj = .ok (.int .i64 n16) wj ∧
  K (.int .i64 n16) wj)
theorem run_date_length (n0 : Int) (n1 : Int) {w : World} {K : Value → World → Prop} (h : vc_date_length n0 n1 w K) : Calls Tryd.prog f_date_length #[.int .i64 n0, .int .i64 n1] w (Ret K) :=
  calls_E (c := bodyOf Tryd.f18) (by kernel_rfl) Tryd.func18 (by kernel_rfl) [(4, [])] [.int .i64 n0, .int .i64 n1] (of_decide_eq_true (by kernel_rfl)) (vc_date_length n0 n1 w K) (by kernel_rfl) h

--  cracknel/cracknelref07.Is
def vc_ref07_Is (n0 : Int) (n1 : Int) (n2 : Int) (w : World) (K : Value → World → Prop) : Prop :=
  BCase (decide (n0 ≥ (1601 : Int)))
  (BCase (decide (n0 ≤ (9999 : Int)))
  (BCase (decide (n1 ≥ (1 : Int)))
  (BCase (decide (n1 ≤ (12 : Int)))
  (BCase (decide (n2 ≥ (1 : Int)))
  (Calls Tryd.prog f_ref07_Length #[.int .i64 n0, .int .i64 n1] w fun e29 w29 => ∃ (n29 : Int), e29 = .returned (.int .i64 n29) ∧
  K (.bool (decide (n2 ≤ n29))) w29)
  (K (.bool false) w))
  (K (.bool false) w))
  (K (.bool false) w))
  (K (.bool false) w))
  (K (.bool false) w)
theorem run_ref07_Is (n0 : Int) (n1 : Int) (n2 : Int) {w : World} {K : Value → World → Prop} (h : vc_ref07_Is n0 n1 n2 w K) : Calls Tryd.prog f_ref07_Is #[.int .i64 n0, .int .i64 n1, .int .i64 n2] w (Ret K) :=
  calls_E (c := bodyOf Tryd.f19) (by kernel_rfl) Tryd.func19 (by kernel_rfl) [] [.int .i64 n0, .int .i64 n1, .int .i64 n2] (of_decide_eq_true (by kernel_rfl)) (vc_ref07_Is n0 n1 n2 w K) (by kernel_rfl) h

--  cracknel/cracknelref07.Length
def vc_ref07_Length (n0 : Int) (n1 : Int) (w : World) (K : Value → World → Prop) : Prop :=
  ∃ J : FP [.one (.bool)],
  (BCase (n1 == (4 : Int))
  (J true w)
  (BCase (n1 == (6 : Int))
  (J true w)
  (BCase (n1 == (9 : Int))
  (J true w)
  (J (n1 == (11 : Int)) w)))) ∧
  ∀ (b6 : Bool), AllJ 4 (∀ (wj : World), J b6 wj →
  BCase b6
  (K (.int .i64 (30 : Int)) wj)
  (BCase (n1 == (2 : Int))
  (Calls Tryd.prog f_ref07_leap #[.int .i64 n0] wj fun e14 w14 => ∃ (b14 : Bool), e14 = .returned (.bool b14) ∧
  BCase b14
  (K (.int .i64 (29 : Int)) w14)
  (K (.int .i64 (28 : Int)) w14))
  (K (.int .i64 (31 : Int)) wj)))
theorem run_ref07_Length (n0 : Int) (n1 : Int) {w : World} {K : Value → World → Prop} (h : vc_ref07_Length n0 n1 w K) : Calls Tryd.prog f_ref07_Length #[.int .i64 n0, .int .i64 n1] w (Ret K) :=
  calls_E (c := bodyOf Tryd.f20) (by kernel_rfl) Tryd.func20 (by kernel_rfl) [(6, [(6, .one (.bool))])] [.int .i64 n0, .int .i64 n1] (of_decide_eq_true (by kernel_rfl)) (vc_ref07_Length n0 n1 w K) (by kernel_rfl) h

--  cracknel/cracknelref07.year
def vc_ref07_year (n0 : Int) (w : World) (K : Value → World → Prop) : Prop :=
  Calls Tryd.prog f_ref07_leap #[.int .i64 n0] w fun e4 w4 => ∃ (b4 : Bool), e4 = .returned (.bool b4) ∧
  BCase b4
  (K (.int .i64 (366 : Int)) w4)
  (K (.int .i64 (365 : Int)) w4)
theorem run_ref07_year (n0 : Int) {w : World} {K : Value → World → Prop} (h : vc_ref07_year n0 w K) : Calls Tryd.prog f_ref07_year #[.int .i64 n0] w (Ret K) :=
  calls_E (c := bodyOf Tryd.f21) (by kernel_rfl) Tryd.func21 (by kernel_rfl) [] [.int .i64 n0] (of_decide_eq_true (by kernel_rfl)) (vc_ref07_year n0 w K) (by kernel_rfl) h

--  cracknel/date.parts
def vc_date_parts (n0 : Int) (w : World) (K : Value → World → Prop) : Prop :=
  BCase (n0 == (9 : Int))
  (K (.bool true) w)
  (BCase (decide (n0 ≥ (32 : Int)))
  (BCase (decide (n0 ≤ (47 : Int)))
  (K (.bool true) w)
  (BCase (decide (n0 ≥ (59 : Int)))
  (BCase (decide (n0 ≤ (64 : Int)))
  (K (.bool true) w)
  (BCase (decide (n0 ≥ (91 : Int)))
  (BCase (decide (n0 ≤ (96 : Int)))
  (K (.bool true) w)
  (BCase (decide (n0 ≥ (123 : Int)))
  (K (.bool (decide (n0 ≤ (126 : Int)))) w)
  (K (.bool false) w)))
  (BCase (decide (n0 ≥ (123 : Int)))
  (K (.bool (decide (n0 ≤ (126 : Int)))) w)
  (K (.bool false) w))))
  (BCase (decide (n0 ≥ (91 : Int)))
  (BCase (decide (n0 ≤ (96 : Int)))
  (K (.bool true) w)
  (BCase (decide (n0 ≥ (123 : Int)))
  (K (.bool (decide (n0 ≤ (126 : Int)))) w)
  (K (.bool false) w)))
  (BCase (decide (n0 ≥ (123 : Int)))
  (K (.bool (decide (n0 ≤ (126 : Int)))) w)
  (K (.bool false) w)))))
  (BCase (decide (n0 ≥ (59 : Int)))
  (BCase (decide (n0 ≤ (64 : Int)))
  (K (.bool true) w)
  (BCase (decide (n0 ≥ (91 : Int)))
  (BCase (decide (n0 ≤ (96 : Int)))
  (K (.bool true) w)
  (BCase (decide (n0 ≥ (123 : Int)))
  (K (.bool (decide (n0 ≤ (126 : Int)))) w)
  (K (.bool false) w)))
  (BCase (decide (n0 ≥ (123 : Int)))
  (K (.bool (decide (n0 ≤ (126 : Int)))) w)
  (K (.bool false) w))))
  (BCase (decide (n0 ≥ (91 : Int)))
  (BCase (decide (n0 ≤ (96 : Int)))
  (K (.bool true) w)
  (BCase (decide (n0 ≥ (123 : Int)))
  (K (.bool (decide (n0 ≤ (126 : Int)))) w)
  (K (.bool false) w)))
  (BCase (decide (n0 ≥ (123 : Int)))
  (K (.bool (decide (n0 ≤ (126 : Int)))) w)
  (K (.bool false) w)))))
theorem run_date_parts (n0 : Int) {w : World} {K : Value → World → Prop} (h : vc_date_parts n0 w K) : Calls Tryd.prog f_date_parts #[.int .u8 n0] w (Ret K) :=
  calls_E (c := bodyOf Tryd.f22) (by kernel_rfl) Tryd.func22 (by kernel_rfl) [] [.int .u8 n0] (of_decide_eq_true (by kernel_rfl)) (vc_date_parts n0 w K) (by kernel_rfl) h

--  (*cracknel/date.found).token
def vc_date_found_token (p0 : Option Addr) (s1 : List UInt8) (w : World) (K : Value → World → Prop) : Prop :=
  ∃ J : FP [],
  (Calls Tryd.prog f_date_clock #[.string (mkS s1)] w fun e15 w15 => ∃ (n15_0_0 : Int) (n15_0_1 : Int) (n15_0_2 : Int) (b15_1 : Bool), e15 = .returned (.tuple #[.agg #[.int .i64 n15_0_0, .int .i64 n15_0_1, .int .i64 n15_0_2], .bool b15_1]) ∧
  ∀ (k4 : Nat) (w4 : World), k4 = w15.heap.size → w4 = w15.alloc (.cells #[.int .i64 (0 : Int), .int .i64 (0 : Int), .int .i64 (0 : Int)] T_arr3_int) →
  ∃ (wx : World), (Instr.storeAt T_arr3_int (.pointer (some ⟨k4, 0, none⟩)) (.agg #[.int .i64 n15_0_0, .int .i64 n15_0_1, .int .i64 n15_0_2])).run Tryd.prog w4 = .ok () wx ∧
  ∃ J_1 : FP [.one (.bool)],
  (BCase b15_1
  ((Option.isSome p0 = true) ∧
  (Option.isSome p0 = true) ∧
  ∃ (b23 : Bool), (Instr.loadAt T_bool (.pointer (Option.map (fun x => x.add 0) p0))).run Tryd.prog wx = .ok (.bool b23) wx ∧
  J_1 (!b23) wx)
  (J_1 false wx)) ∧
  ∀ (b25 : Bool), AllJ 7 (∀ (wj : World), J_1 b25 wj →
  BCase b25
  (∃ (n28_0 : Int) (n28_1 : Int) (n28_2 : Int), (Instr.loadAt T_arr3_int (.pointer (some ⟨k4, 0, none⟩))).run Tryd.prog wj = .ok (.agg #[.int .i64 n28_0, .int .i64 n28_1, .int .i64 n28_2]) wj ∧
  (Option.isSome p0 = true) ∧
  (Option.isSome p0 = true) ∧
  ∃ (wx_1 : World), (Instr.storeAt T_arr3_int (.pointer (Option.map (fun x => x.add 4) p0)) (.agg #[.int .i64 n28_0, .int .i64 n28_1, .int .i64 n28_2])).run Tryd.prog wj = .ok () wx_1 ∧
  (Option.isSome p0 = true) ∧
  (Option.isSome p0 = true) ∧
  ∃ (wx_2 : World), (Instr.storeAt T_bool (.pointer (Option.map (fun x => x.add 0) p0)) (.bool true)).run Tryd.prog wx_1 = .ok () wx_2 ∧
  K (.tuple #[]) wx_2)
  (J wj))) ∧
  AllJ 22 (∀ (wj_1 : World), J wj_1 →
  ∃ J_2 : FP [],
  (Calls Tryd.prog f_date_number #[.string (mkS s1), .int .i64 (1 : Int), .int .i64 (2 : Int)] wj_1 fun e35 w35 => ∃ (n35_0 : Int) (s35_1 : List UInt8) (b35_2 : Bool), e35 = .returned (.tuple #[.int .i64 n35_0, .string (mkS s35_1), .bool b35_2]) ∧
  ∃ J_3 : FP [.one (.bool)],
  (BCase b35_2
  ((Option.isSome p0 = true) ∧
  (Option.isSome p0 = true) ∧
  ∃ (b44 : Bool), (Instr.loadAt T_bool (.pointer (Option.map (fun x => x.add 1) p0))).run Tryd.prog w35 = .ok (.bool b44) w35 ∧
  J_3 (!b44) w35)
  (J_3 false w35)) ∧
  ∀ (b46 : Bool), AllJ 7 (∀ (wj_2 : World), J_3 b46 wj_2 →
  BCase b46
  ((Option.isSome p0 = true) ∧
  (Option.isSome p0 = true) ∧
  ∃ (wx_3 : World), (Instr.storeAt T_int (.pointer (Option.map (fun x => x.add 9) p0)) (.int .i64 n35_0)).run Tryd.prog wj_2 = .ok () wx_3 ∧
  (Option.isSome p0 = true) ∧
  (Option.isSome p0 = true) ∧
  ∃ (wx_4 : World), (Instr.storeAt T_bool (.pointer (Option.map (fun x => x.add 1) p0)) (.bool true)).run Tryd.prog wx_3 = .ok () wx_4 ∧
  K (.tuple #[]) wx_4)
  (J_2 wj_2))) ∧
  AllJ 24 (∀ (wj_3 : World), J_2 wj_3 →
  ∃ J_4 : FP [],
  (Calls Tryd.prog f_date_month #[.string (mkS s1)] wj_3 fun e55 w55 => ∃ (n55 : Int), e55 = .returned (.int .i64 n55) ∧
  ∃ J_5 : FP [.one (.bool)],
  (BCase (decide (n55 > (0 : Int)))
  ((Option.isSome p0 = true) ∧
  (Option.isSome p0 = true) ∧
  ∃ (b62 : Bool), (Instr.loadAt T_bool (.pointer (Option.map (fun x => x.add 2) p0))).run Tryd.prog w55 = .ok (.bool b62) w55 ∧
  J_5 (!b62) w55)
  (J_5 false w55)) ∧
  ∀ (b64 : Bool), AllJ 8 (∀ (wj_4 : World), J_5 b64 wj_4 →
  BCase b64
  ((Option.isSome p0 = true) ∧
  (Option.isSome p0 = true) ∧
  ∃ (wx_5 : World), (Instr.storeAt T_int (.pointer (Option.map (fun x => x.add 8) p0)) (.int .i64 n55)).run Tryd.prog wj_4 = .ok () wx_5 ∧
  (Option.isSome p0 = true) ∧
  (Option.isSome p0 = true) ∧
  ∃ (wx_6 : World), (Instr.storeAt T_bool (.pointer (Option.map (fun x => x.add 2) p0)) (.bool true)).run Tryd.prog wx_5 = .ok () wx_6 ∧
  K (.tuple #[]) wx_6)
  (J_4 wj_4))) ∧
  AllJ 19 (∀ (wj_5 : World), J_4 wj_5 →
  Calls Tryd.prog f_date_number #[.string (mkS s1), .int .i64 (2 : Int), .int .i64 (4 : Int)] wj_5 fun e74 w74 => ∃ (n74_0 : Int) (s74_1 : List UInt8) (b74_2 : Bool), e74 = .returned (.tuple #[.int .i64 n74_0, .string (mkS s74_1), .bool b74_2]) ∧
  ∃ J_6 : FP [.one (.bool)],
  (BCase b74_2
  ((Option.isSome p0 = true) ∧
  (Option.isSome p0 = true) ∧
  ∃ (b83 : Bool), (Instr.loadAt T_bool (.pointer (Option.map (fun x => x.add 3) p0))).run Tryd.prog w74 = .ok (.bool b83) w74 ∧
  J_6 (!b83) w74)
  (J_6 false w74)) ∧
  ∀ (b85 : Bool), AllJ 7 (∀ (wj_6 : World), J_6 b85 wj_6 →
  BCase b85
  ((Option.isSome p0 = true) ∧
  (Option.isSome p0 = true) ∧
  ∃ (wx_7 : World), (Instr.storeAt T_int (.pointer (Option.map (fun x => x.add 7) p0)) (.int .i64 n74_0)).run Tryd.prog wj_6 = .ok () wx_7 ∧
  (Option.isSome p0 = true) ∧
  (Option.isSome p0 = true) ∧
  ∃ (wx_8 : World), (Instr.storeAt T_bool (.pointer (Option.map (fun x => x.add 3) p0)) (.bool true)).run Tryd.prog wx_7 = .ok () wx_8 ∧
  K (.tuple #[]) wx_8)
  (K (.tuple #[]) wj_6)))))
theorem run_date_found_token (p0 : Option Addr) (s1 : List UInt8) {w : World} {K : Value → World → Prop} (h : vc_date_found_token p0 s1 w K) : Calls Tryd.prog f_date_found_token #[.pointer p0, .string (mkS s1)] w (Ret K) :=
  calls_E (c := bodyOf Tryd.f23) (by kernel_rfl) Tryd.func23 (by kernel_rfl) [(0, []), (3, [(25, .one (.bool))]), (10, []), (13, [(46, .one (.bool))]), (20, []), (23, [(64, .one (.bool))]), (32, [(85, .one (.bool))])] [.pointer p0, .string (mkS s1)] (of_decide_eq_true (by kernel_rfl)) (vc_date_found_token p0 s1 w K) (by kernel_rfl) h

--  cracknel/cracknelref07.parts
def vc_ref07_parts (n0 : Int) (w : World) (K : Value → World → Prop) : Prop :=
  BCase (n0 == (9 : Int))
  (K (.bool true) w)
  (BCase (decide (n0 ≥ (32 : Int)))
  (BCase (decide (n0 ≤ (47 : Int)))
  (K (.bool true) w)
  (BCase (decide (n0 ≥ (59 : Int)))
  (BCase (decide (n0 ≤ (64 : Int)))
  (K (.bool true) w)
  (BCase (decide (n0 ≥ (91 : Int)))
  (BCase (decide (n0 ≤ (96 : Int)))
  (K (.bool true) w)
  (BCase (decide (n0 ≥ (123 : Int)))
  (K (.bool (decide (n0 ≤ (126 : Int)))) w)
  (K (.bool false) w)))
  (BCase (decide (n0 ≥ (123 : Int)))
  (K (.bool (decide (n0 ≤ (126 : Int)))) w)
  (K (.bool false) w))))
  (BCase (decide (n0 ≥ (91 : Int)))
  (BCase (decide (n0 ≤ (96 : Int)))
  (K (.bool true) w)
  (BCase (decide (n0 ≥ (123 : Int)))
  (K (.bool (decide (n0 ≤ (126 : Int)))) w)
  (K (.bool false) w)))
  (BCase (decide (n0 ≥ (123 : Int)))
  (K (.bool (decide (n0 ≤ (126 : Int)))) w)
  (K (.bool false) w)))))
  (BCase (decide (n0 ≥ (59 : Int)))
  (BCase (decide (n0 ≤ (64 : Int)))
  (K (.bool true) w)
  (BCase (decide (n0 ≥ (91 : Int)))
  (BCase (decide (n0 ≤ (96 : Int)))
  (K (.bool true) w)
  (BCase (decide (n0 ≥ (123 : Int)))
  (K (.bool (decide (n0 ≤ (126 : Int)))) w)
  (K (.bool false) w)))
  (BCase (decide (n0 ≥ (123 : Int)))
  (K (.bool (decide (n0 ≤ (126 : Int)))) w)
  (K (.bool false) w))))
  (BCase (decide (n0 ≥ (91 : Int)))
  (BCase (decide (n0 ≤ (96 : Int)))
  (K (.bool true) w)
  (BCase (decide (n0 ≥ (123 : Int)))
  (K (.bool (decide (n0 ≤ (126 : Int)))) w)
  (K (.bool false) w)))
  (BCase (decide (n0 ≥ (123 : Int)))
  (K (.bool (decide (n0 ≤ (126 : Int)))) w)
  (K (.bool false) w)))))
theorem run_ref07_parts (n0 : Int) {w : World} {K : Value → World → Prop} (h : vc_ref07_parts n0 w K) : Calls Tryd.prog f_ref07_parts #[.int .u8 n0] w (Ret K) :=
  calls_E (c := bodyOf Tryd.f24) (by kernel_rfl) Tryd.func24 (by kernel_rfl) [] [.int .u8 n0] (of_decide_eq_true (by kernel_rfl)) (vc_ref07_parts n0 w K) (by kernel_rfl) h

--  cracknel/cracknelref07.digits
def vc_ref07_digits (s0 : List UInt8) (w : World) (K : Value → World → Prop) : Prop :=
  ∃ I : Nat → FP [.one (.int .i64)],
  (∃ m : Nat, I m (0 : Int) w) ∧
  ∀ (m : Nat) (n3 : Int), AllJ 18 (∀ (wl : World), I m n3 wl →
  BCase (decide (n3 < ((List.length s0 : Nat) : Int)))
  (((0 ≤ n3 ∧ n3 < ((List.length s0 : Nat) : Int))) ∧
  BCase (decide ((byteAt s0 n3) ≥ (48 : Int)))
  (((0 ≤ n3 ∧ n3 < ((List.length s0 : Nat) : Int))) ∧
  BCase (decide ((byteAt s0 n3) ≤ (57 : Int)))
  (∃ m' : Nat, m' < m ∧ I m' (IntKind.i64.wrap (n3 + (1 : Int))) wl)
  (K (.int .i64 n3) wl))
  (K (.int .i64 n3) wl))
  (K (.int .i64 n3) wl))
theorem run_ref07_digits (s0 : List UInt8) {w : World} {K : Value → World → Prop} (h : vc_ref07_digits s0 w K) : Calls Tryd.prog f_ref07_digits #[.string (mkS s0)] w (Ret K) :=
  calls_E (c := bodyOf Tryd.f25) (by kernel_rfl) Tryd.func25 (by kernel_rfl) [(6, [(3, .one (.int .i64))])] [.string (mkS s0)] (of_decide_eq_true (by kernel_rfl)) (vc_ref07_digits s0 w K) (by kernel_rfl) h

--  cracknel/cracknelref07.time
def vc_ref07_time (s0 : List UInt8) (w : World) (K : Value → World → Prop) : Prop :=
  ∀ (k7 : Nat) (w7 : World), k7 = w.heap.size → w7 = w.alloc (.cells #[] T_int) →
  ∃ I : Nat → FP [.one (.str), .one (.slice), .one (.int .i64)],
  (∃ m : Nat, I m s0 (some ⟨k7, 0, none⟩) 0 0 (0 : Int) w7) ∧
  ∀ (m : Nat) (s0_1 : List UInt8) (a4 : Option Addr) (l4 c4 : Nat) (n5 : Int), AllJ 36 (∀ (wl : World), I m s0_1 a4 l4 c4 n5 wl →
  BCase (decide (n5 < (3 : Int)))
  (Calls Tryd.prog f_ref07_digits #[.string (mkS s0_1)] wl fun e13 w13 => ∃ (n13 : Int), e13 = .returned (.int .i64 n13) ∧
  ∃ J : FP [],
  (BCase (decide (n13 < (1 : Int)))
  (K (.tuple #[.slice none 0 0, .bool false]) w13)
  (BCase (decide (n13 > (2 : Int)))
  (K (.tuple #[.slice none 0 0, .bool false]) w13)
  (J w13))) ∧
  AllJ 8 (∀ (wj : World), J wj →
  ((0 ≤ n13 ∧ n13 ≤ (((List.length s0_1) : Nat) : Int))) ∧
  ∀ (s23 : List UInt8), s23 = (List.take (Int.toNat n13) s0_1) →
  Calls Tryd.prog f_ref07_value #[.string (mkS s23)] wj fun e24 w24 => ∃ (n24 : Int), e24 = .returned (.int .i64 n24) ∧
  ∀ (k25 : Nat) (w25 : World), k25 = w24.heap.size → w25 = w24.alloc (.cells #[.int .i64 n24] T_int) →
  ∃ (w26 : World) (a26 : Option Addr) (l26 c26 : Nat), (Builtin.append_ #[T_sl_int, T_sl_int] T_sl_int #[.slice a4 l4 c4, .slice (some ⟨k25, 0, none⟩) 1 1]).run Tryd.prog w25 = .ok (.slice a26 l26 c26) w26 ∧
  ((0 ≤ n13 ∧ n13 ≤ (((List.length s0_1) : Nat) : Int))) ∧
  ∀ (s29 : List UInt8), s29 = (List.drop (Int.toNat n13) s0_1) →
  BCase (decide (n5 < (2 : Int)))
  (BCase (s29 == [])
  (K (.tuple #[.slice none 0 0, .bool false]) w26)
  (((0 ≤ (0 : Int) ∧ (0 : Int) < ((List.length s29 : Nat) : Int))) ∧
  BCase ((byteAt s29 (0 : Int)) != (58 : Int))
  (K (.tuple #[.slice none 0 0, .bool false]) w26)
  (((0 ≤ (1 : Int) ∧ (1 : Int) ≤ (((List.length s29) : Nat) : Int))) ∧
  ∀ (s40 : List UInt8), s40 = (List.drop (Int.toNat (1 : Int)) s29) →
  ∃ m' : Nat, m' < m ∧ I m' s40 a26 l26 c26 (IntKind.i64.wrap (n5 + (1 : Int))) w26)))
  (∃ m' : Nat, m' < m ∧ I m' s29 a26 l26 c26 (IntKind.i64.wrap (n5 + (1 : Int))) w26)))
  (K (.tuple #[.slice a4 l4 c4, .bool true]) wl))
theorem run_ref07_time (s0 : List UInt8) {w : World} {K : Value → World → Prop} (h : vc_ref07_time s0 w K) : Calls Tryd.prog f_ref07_time #[.string (mkS s0)] w (Ret K) :=
  calls_E (c := bodyOf Tryd.f26) (by kernel_rfl) Tryd.func26 (by kernel_rfl) [(8, [(0, .one (.str)), (4, .one (.slice)), (5, .one (.int .i64))]), (19, [])] [.string (mkS s0)] (of_decide_eq_true (by kernel_rfl)) (vc_ref07_time s0 w K) (by kernel_rfl) h

--  cracknel/cracknelref07.value
def vc_ref07_value (s0 : List UInt8) (w : World) (K : Value → World → Prop) : Prop :=
  ∃ I : Nat → FP [.one (.int .i64), .one (.int .i64)],
  (∃ m : Nat, I m (0 : Int) (0 : Int) w) ∧
  ∀ (m : Nat) (n3 : Int) (n4 : Int), AllJ 14 (∀ (wl : World), I m n3 n4 wl →
  BCase (decide (n4 < ((List.length s0 : Nat) : Int)))
  (((0 ≤ n4 ∧ n4 < ((List.length s0 : Nat) : Int))) ∧
  ∃ m' : Nat, m' < m ∧ I m' (IntKind.i64.wrap ((IntKind.i64.wrap ((IntKind.i64.wrap (n3 * (10 : Int))) + (IntKind.i64.wrap (byteAt s0 n4)))) - (48 : Int))) (IntKind.i64.wrap (n4 + (1 : Int))) wl)
  (K (.int .i64 n3) wl))
theorem run_ref07_value (s0 : List UInt8) {w : World} {K : Value → World → Prop} (h : vc_ref07_value s0 w K) : Calls Tryd.prog f_ref07_value #[.string (mkS s0)] w (Ret K) :=
  calls_E (c := bodyOf Tryd.f27) (by kernel_rfl) Tryd.func27 (by kernel_rfl) [(8, [(3, .one (.int .i64)), (4, .one (.int .i64))])] [.string (mkS s0)] (of_decide_eq_true (by kernel_rfl)) (vc_ref07_value s0 w K) (by kernel_rfl) h

--  cracknel/cracknelref07.month
def vc_ref07_month (s0 : List UInt8) (w : World) (K : Value → World → Prop) : Prop :=
  ∀ (k5 : Nat) (w5 : World), k5 = w.heap.size → w5 = w.alloc (.cells #[.string (mkS [106, 97, 110]), .string (mkS [102, 101, 98]), .string (mkS [109, 97, 114]), .string (mkS [97, 112, 114]), .string (mkS [109, 97, 121]), .string (mkS [106, 117, 110]), .string (mkS [106, 117, 108]), .string (mkS [97, 117, 103]), .string (mkS [115, 101, 112]), .string (mkS [111, 99, 116]), .string (mkS [110, 111, 118]), .string (mkS [100, 101, 99])] T_string) →
  ∃ I : Nat → FP [.one (.int .i64)],
  (∃ m : Nat, I m (0 : Int) w5) ∧
  ∀ (m : Nat) (n4 : Int), AllJ 20 (∀ (wl : World), I m n4 wl →
  BCase (decide (n4 < (12 : Int)))
  (BCase (decide (((List.length s0 : Nat) : Int) ≥ (3 : Int)))
  (((0 ≤ (3 : Int) ∧ (3 : Int) ≤ (((List.length s0) : Nat) : Int))) ∧
  ∀ (s15 : List UInt8), s15 = (List.take (Int.toNat (3 : Int)) s0) →
  ∃ (s16 : List UInt8), (∀ u16 : World, Below wl.heap.size wl u16 → Calls Tryd.prog f_ref01_Lower #[.string (mkS s15)] u16 fun e16 w16 => e16 = .returned (.string (mkS s16)) ∧ Below wl.heap.size u16 w16) ∧
  ((0 ≤ n4 ∧ n4 < ((12 : Nat) : Int)) ∧ true = true) ∧
  ∃ (s20 : List UInt8), (∀ u20 : World, Below wl.heap.size wl u20 → (Instr.loadAt T_string (.pointer (elemAddr (some ⟨k5, 0, none⟩) n4 1))).run Tryd.prog u20 = .ok (.string (mkS s20)) u20) ∧
  ∀ wq : World, Below wl.heap.size wl wq →
  BCase (s16 == s20)
  (K (.int .i64 (IntKind.i64.wrap (n4 + (1 : Int)))) wq)
  (∃ m' : Nat, m' < m ∧ I m' (IntKind.i64.wrap (n4 + (1 : Int))) wq))
  (∀ wq_1 : World, Below wl.heap.size wl wq_1 →
  ∃ m' : Nat, m' < m ∧ I m' (IntKind.i64.wrap (n4 + (1 : Int))) wq_1))
  (K (.int .i64 (0 : Int)) wl))
theorem run_ref07_month (s0 : List UInt8) {w : World} {K : Value → World → Prop} (h : vc_ref07_month s0 w K) : Calls Tryd.prog f_ref07_month #[.string (mkS s0)] w (Ret K) :=
  calls_E (c := bodyOf Tryd.f28) (by kernel_rfl) Tryd.func28 (by kernel_rfl) [(8, [(4, .one (.int .i64))])] [.string (mkS s0)] (of_decide_eq_true (by kernel_rfl)) (vc_ref07_month s0 w K) (by kernel_rfl) h

--  cracknel/date.digits
def vc_date_digits (n0 : Int) (n1 : Int) (w : World) (K : Value → World → Prop) : Prop :=
  Calls Tryd.prog f_strconv_Itoa #[.int .i64 n0] w fun e7 w7 => ∃ (s7 : List UInt8), e7 = .returned (.string (mkS s7)) ∧
  Calls Tryd.prog f_strings_Repeat #[.string (mkS [48]), .int .i64 (IntKind.i64.wrap (n1 - ((List.length s7 : Nat) : Int)))] w7 fun e12 w12 => ∃ (s12 : List UInt8), e12 = .returned (.string (mkS s12)) ∧
  ((((List.length s12 + List.length s7 : Nat) : Int) ≤ IntKind.i64.max)) ∧
  ∀ (s14 : List UInt8), s14 = (s12 ++ s7) →
  K (.string (mkS s14)) w12
theorem run_date_digits (n0 : Int) (n1 : Int) {w : World} {K : Value → World → Prop} (h : vc_date_digits n0 n1 w K) : Calls Tryd.prog f_date_digits #[.int .i64 n0, .int .i64 n1] w (Ret K) :=
  calls_E (c := bodyOf Tryd.f29) (by kernel_rfl) Tryd.func29 (by kernel_rfl) [] [.int .i64 n0, .int .i64 n1] (of_decide_eq_true (by kernel_rfl)) (vc_date_digits n0 n1 w K) (by kernel_rfl) h

--  cracknel/cracknelref07.two
def vc_ref07_two (n0 : Int) (w : World) (K : Value → World → Prop) : Prop :=
  ((10 : Int) ≠ 0) ∧
  ∀ (q4 : Int), q4 = (IntKind.i64.wrap (Int.tdiv n0 (10 : Int))) →
  ((10 : Int) ≠ 0) ∧
  ∀ (q5 : Int), q5 = (Int.tmod q4 (10 : Int)) →
  ((10 : Int) ≠ 0) ∧
  ∀ (q9 : Int), q9 = (Int.tmod n0 (10 : Int)) →
  ∀ (k12 : Nat) (w12 : World), k12 = w.heap.size → w12 = w.alloc (.cells #[.int .u8 (IntKind.u8.wrap (IntKind.i64.wrap ((48 : Int) + q5))), .int .u8 (IntKind.u8.wrap (IntKind.i64.wrap ((48 : Int) + q9)))] T_uint8) →
  ∃ (s13 : List UInt8), (convert T_sl_uint8 T_string (.slice (some ⟨k12, 0, none⟩) 2 2)).run Tryd.prog w12 = .ok (.string (mkS s13)) w12 ∧
  K (.string (mkS s13)) w12
theorem run_ref07_two (n0 : Int) {w : World} {K : Value → World → Prop} (h : vc_ref07_two n0 w K) : Calls Tryd.prog f_ref07_two #[.int .i64 n0] w (Ret K) :=
  calls_E (c := bodyOf Tryd.f30) (by kernel_rfl) Tryd.func30 (by kernel_rfl) [] [.int .i64 n0] (of_decide_eq_true (by kernel_rfl)) (vc_ref07_two n0 w K) (by kernel_rfl) h

--  cracknel/date.leap
def vc_date_leap (n0 : Int) (w : World) (K : Value → World → Prop) : Prop :=
  ((4 : Int) ≠ 0) ∧
  ∀ (q4 : Int), q4 = (Int.tmod n0 (4 : Int)) →
  BCase (q4 == (0 : Int))
  (((100 : Int) ≠ 0) ∧
  ∀ (q8 : Int), q8 = (Int.tmod n0 (100 : Int)) →
  BCase (q8 != (0 : Int))
  (K (.bool true) w)
  (((400 : Int) ≠ 0) ∧
  ∀ (q13 : Int), q13 = (Int.tmod n0 (400 : Int)) →
  K (.bool (q13 == (0 : Int))) w))
  (((400 : Int) ≠ 0) ∧
  ∀ (q13_1 : Int), q13_1 = (Int.tmod n0 (400 : Int)) →
  K (.bool (q13_1 == (0 : Int))) w)
theorem run_date_leap (n0 : Int) {w : World} {K : Value → World → Prop} (h : vc_date_leap n0 w K) : Calls Tryd.prog f_date_leap #[.int .i64 n0] w (Ret K) :=
  calls_E (c := bodyOf Tryd.f31) (by kernel_rfl) Tryd.func31 (by kernel_rfl) [] [.int .i64 n0] (of_decide_eq_true (by kernel_rfl)) (vc_date_leap n0 w K) (by kernel_rfl) h

--  cracknel/cracknelref07.leap
def vc_ref07_leap (n0 : Int) (w : World) (K : Value → World → Prop) : Prop :=
  ((400 : Int) ≠ 0) ∧
  ∀ (q4 : Int), q4 = (Int.tmod n0 (400 : Int)) →
  BCase (q4 == (0 : Int))
  (K (.bool true) w)
  (((4 : Int) ≠ 0) ∧
  ∀ (q7 : Int), q7 = (Int.tmod n0 (4 : Int)) →
  BCase (q7 == (0 : Int))
  (((100 : Int) ≠ 0) ∧
  ∀ (q11 : Int), q11 = (Int.tmod n0 (100 : Int)) →
  K (.bool (q11 != (0 : Int))) w)
  (K (.bool false) w))
theorem run_ref07_leap (n0 : Int) {w : World} {K : Value → World → Prop} (h : vc_ref07_leap n0 w K) : Calls Tryd.prog f_ref07_leap #[.int .i64 n0] w (Ret K) :=
  calls_E (c := bodyOf Tryd.f32) (by kernel_rfl) Tryd.func32 (by kernel_rfl) [] [.int .i64 n0] (of_decide_eq_true (by kernel_rfl)) (vc_ref07_leap n0 w K) (by kernel_rfl) h

--  cracknel/date.clock
def vc_date_clock (s0 : List UInt8) (w : World) (K : Value → World → Prop) : Prop :=
  ∀ (k2 : Nat) (w2 : World), k2 = w.heap.size → w2 = w.alloc (.cells #[.int .i64 (0 : Int), .int .i64 (0 : Int), .int .i64 (0 : Int)] T_arr3_int) →
  ∀ (k4 : Nat) (w4 : World), k4 = w2.heap.size → w4 = w2.alloc (.cells #[.int .i64 (0 : Int), .int .i64 (0 : Int), .int .i64 (0 : Int)] T_arr3_int) →
  ∃ I : Nat → FP [.one (.str), .one (.int .i64)],
  (∃ m : Nat, I m s0 (0 : Int) w4) ∧
  ∀ (m : Nat) (s0_1 : List UInt8) (n10 : Int), AllJ 32 (∀ (wl : World), I m s0_1 n10 wl →
  BCase (decide (n10 < (3 : Int)))
  (∃ J : FP [.one (.str)],
  (BCase (decide (n10 > (0 : Int)))
  (Calls Tryd.prog f_strings_CutPrefix #[.string (mkS s0_1), .string (mkS [58])] wl fun e17 w17 => ∃ (s17_0 : List UInt8) (b17_1 : Bool), e17 = .returned (.tuple #[.string (mkS s17_0), .bool b17_1]) ∧
  BCase (!b17_1)
  (∃ (n22_0 : Int) (n22_1 : Int) (n22_2 : Int), (Instr.loadAt T_arr3_int (.pointer (some ⟨k4, 0, none⟩))).run Tryd.prog w17 = .ok (.agg #[.int .i64 n22_0, .int .i64 n22_1, .int .i64 n22_2]) w17 ∧
  ∃ (wx : World), (Instr.storeAt T_arr3_int (.pointer (some ⟨k2, 0, none⟩)) (.agg #[.int .i64 n22_0, .int .i64 n22_1, .int .i64 n22_2])).run Tryd.prog w17 = .ok () wx ∧
  ∃ (nr0_0 : Int) (nr0_1 : Int) (nr0_2 : Int), (resAt T_arr3_int (.pointer (some ⟨k2, 0, none⟩))).run Tryd.prog wx = .ok (.agg #[.int .i64 nr0_0, .int .i64 nr0_1, .int .i64 nr0_2]) wx ∧
  K (.tuple #[.agg #[.int .i64 nr0_0, .int .i64 nr0_1, .int .i64 nr0_2], .bool false]) wx)
  (J s17_0 w17))
  (J s0_1 wl)) ∧
  ∀ (s0_2 : List UInt8), AllJ 12 (∀ (wj : World), J s0_2 wj →
  Calls Tryd.prog f_date_number #[.string (mkS s0_2), .int .i64 (1 : Int), .int .i64 (2 : Int)] wj fun e25 w25 => ∃ (n25_0 : Int) (s25_1 : List UInt8) (b25_2 : Bool), e25 = .returned (.tuple #[.int .i64 n25_0, .string (mkS s25_1), .bool b25_2]) ∧
  BCase (!b25_2)
  (∃ (n31_0 : Int) (n31_1 : Int) (n31_2 : Int), (Instr.loadAt T_arr3_int (.pointer (some ⟨k4, 0, none⟩))).run Tryd.prog w25 = .ok (.agg #[.int .i64 n31_0, .int .i64 n31_1, .int .i64 n31_2]) w25 ∧
  ∃ (wx_1 : World), (Instr.storeAt T_arr3_int (.pointer (some ⟨k2, 0, none⟩)) (.agg #[.int .i64 n31_0, .int .i64 n31_1, .int .i64 n31_2])).run Tryd.prog w25 = .ok () wx_1 ∧
  ∃ (nr0_0_1 : Int) (nr0_1_1 : Int) (nr0_2_1 : Int), (resAt T_arr3_int (.pointer (some ⟨k2, 0, none⟩))).run Tryd.prog wx_1 = .ok (.agg #[.int .i64 nr0_0_1, .int .i64 nr0_1_1, .int .i64 nr0_2_1]) wx_1 ∧
  K (.tuple #[.agg #[.int .i64 nr0_0_1, .int .i64 nr0_1_1, .int .i64 nr0_2_1], .bool false]) wx_1)
  (((0 ≤ n10 ∧ n10 < ((3 : Nat) : Int)) ∧ true = true) ∧
  ∃ (wx_2 : World), (Instr.storeAt T_int (.pointer (elemAddr (some ⟨k4, 0, none⟩) n10 1)) (.int .i64 n25_0)).run Tryd.prog w25 = .ok () wx_2 ∧
  ∃ m' : Nat, m' < m ∧ I m' s25_1 (IntKind.i64.wrap (n10 + (1 : Int))) wx_2)))
  (∃ (n37_0 : Int) (n37_1 : Int) (n37_2 : Int), (Instr.loadAt T_arr3_int (.pointer (some ⟨k4, 0, none⟩))).run Tryd.prog wl = .ok (.agg #[.int .i64 n37_0, .int .i64 n37_1, .int .i64 n37_2]) wl ∧
  ∃ (wx_3 : World), (Instr.storeAt T_arr3_int (.pointer (some ⟨k2, 0, none⟩)) (.agg #[.int .i64 n37_0, .int .i64 n37_1, .int .i64 n37_2])).run Tryd.prog wl = .ok () wx_3 ∧
  ∃ (nr0_0_2 : Int) (nr0_1_2 : Int) (nr0_2_2 : Int), (resAt T_arr3_int (.pointer (some ⟨k2, 0, none⟩))).run Tryd.prog wx_3 = .ok (.agg #[.int .i64 nr0_0_2, .int .i64 nr0_1_2, .int .i64 nr0_2_2]) wx_3 ∧
  K (.tuple #[.agg #[.int .i64 nr0_0_2, .int .i64 nr0_1_2, .int .i64 nr0_2_2], .bool true]) wx_3))
theorem run_date_clock (s0 : List UInt8) {w : World} {K : Value → World → Prop} (h : vc_date_clock s0 w K) : Calls Tryd.prog f_date_clock #[.string (mkS s0)] w (Ret K) :=
  calls_E (c := bodyOf Tryd.f33) (by kernel_rfl) Tryd.func33 (by kernel_rfl) [(8, [(0, .one (.str)), (10, .one (.int .i64))]), (19, [(0, .one (.str))])] [.string (mkS s0)] (of_decide_eq_true (by kernel_rfl)) (vc_date_clock s0 w K) (by kernel_rfl) h

--  cracknel/date.number
def vc_date_number (s0 : List UInt8) (n1 : Int) (n2 : Int) (w : World) (K : Value → World → Prop) : Prop :=
  Calls Tryd.prog f_strings_TrimLeft #[.string (mkS s0), .string (mkS [48, 49, 50, 51, 52, 53, 54, 55, 56, 57])] w fun e15 w15 => ∃ (s15 : List UInt8), e15 = .returned (.string (mkS s15)) ∧
  ∃ J : FP [],
  (BCase (decide ((IntKind.i64.wrap (((List.length s0 : Nat) : Int) - ((List.length s15 : Nat) : Int))) < n1))
  (K (.tuple #[.int .i64 (0 : Int), .string (mkS s0), .bool false]) w15)
  (BCase (decide ((IntKind.i64.wrap (((List.length s0 : Nat) : Int) - ((List.length s15 : Nat) : Int))) > n2))
  (K (.tuple #[.int .i64 (0 : Int), .string (mkS s0), .bool false]) w15)
  (J w15))) ∧
  AllJ 12 (∀ (wj : World), J wj →
  ((0 ≤ (IntKind.i64.wrap (((List.length s0 : Nat) : Int) - ((List.length s15 : Nat) : Int))) ∧ (IntKind.i64.wrap (((List.length s0 : Nat) : Int) - ((List.length s15 : Nat) : Int))) ≤ (((List.length s0) : Nat) : Int))) ∧
  ∀ (s30 : List UInt8), s30 = (List.take (Int.toNat (IntKind.i64.wrap (((List.length s0 : Nat) : Int) - ((List.length s15 : Nat) : Int)))) s0) →
  Calls Tryd.prog f_strconv_Atoi #[.string (mkS s30)] wj fun e31 w31 => ∃ (n31_0 : Int) (v31_1 : Value), e31 = .returned (.tuple #[.int .i64 n31_0, v31_1]) ∧
  ((0 ≤ (IntKind.i64.wrap (((List.length s0 : Nat) : Int) - ((List.length s15 : Nat) : Int))) ∧ (IntKind.i64.wrap (((List.length s0 : Nat) : Int) - ((List.length s15 : Nat) : Int))) ≤ (((List.length s0) : Nat) : Int))) ∧
  ∀ (s37 : List UInt8), s37 = (List.drop (Int.toNat (IntKind.i64.wrap (((List.length s0 : Nat) : Int) - ((List.length s15 : Nat) : Int)))) s0) →
  ∀ wq : World, Below w31.heap.size w31 wq →
  K (.tuple #[.int .i64 n31_0, .string (mkS s37), .bool true]) wq)
theorem run_date_number (s0 : List UInt8) (n1 : Int) (n2 : Int) {w : World} {K : Value → World → Prop} (h : vc_date_number s0 n1 n2 w K) : Calls Tryd.prog f_date_number #[.string (mkS s0), .int .i64 n1, .int .i64 n2] w (Ret K) :=
  calls_E (c := bodyOf Tryd.f34) (by kernel_rfl) Tryd.func34 (by kernel_rfl) [(4, [])] [.string (mkS s0), .int .i64 n1, .int .i64 n2] (of_decide_eq_true (by kernel_rfl)) (vc_date_number s0 n1 n2 w K) (by kernel_rfl) h

--  cracknel/date.month
def vc_date_month (s0 : List UInt8) (w : World) (K : Value → World → Prop) : Prop :=
  ∃ I : Nat → FP [.one (.int .i64)],
  (∃ m : Nat, I m (0 : Int) w) ∧
  ∀ (m : Nat) (n3 : Int), AllJ 21 (∀ (wl : World), I m n3 wl →
  ∃ J : FP [],
  (BCase (decide (n3 < (12 : Int)))
  (BCase (decide (((List.length s0 : Nat) : Int) ≥ (3 : Int)))
  (J wl)
  (K (.int .i64 (0 : Int)) wl))
  (K (.int .i64 (0 : Int)) wl)) ∧
  AllJ 7 (∀ (wj : World), J wj →
  ((0 ≤ (3 : Int) ∧ (3 : Int) ≤ (((List.length s0) : Nat) : Int))) ∧
  ∀ (s14 : List UInt8), s14 = (List.take (Int.toNat (3 : Int)) s0) →
  (((0 ≤ (IntKind.i64.wrap ((IntKind.i64.wrap ((3 : Int) * n3)) + (3 : Int))) ∧ (IntKind.i64.wrap ((IntKind.i64.wrap ((3 : Int) * n3)) + (3 : Int))) ≤ (((List.length [74, 97, 110, 70, 101, 98, 77, 97, 114, 65, 112, 114, 77, 97, 121, 74, 117, 110, 74, 117, 108, 65, 117, 103, 83, 101, 112, 79, 99, 116, 78, 111, 118, 68, 101, 99]) : Nat) : Int)) ∧ 0 ≤ (IntKind.i64.wrap ((3 : Int) * n3)) ∧ (IntKind.i64.wrap ((3 : Int) * n3)) ≤ ((Int.toNat (IntKind.i64.wrap ((IntKind.i64.wrap ((3 : Int) * n3)) + (3 : Int))) : Nat) : Int))) ∧
  ∀ (s20 : List UInt8), s20 = (List.drop (Int.toNat (IntKind.i64.wrap ((3 : Int) * n3))) (List.take (Int.toNat (IntKind.i64.wrap ((IntKind.i64.wrap ((3 : Int) * n3)) + (3 : Int)))) [74, 97, 110, 70, 101, 98, 77, 97, 114, 65, 112, 114, 77, 97, 121, 74, 117, 110, 74, 117, 108, 65, 117, 103, 83, 101, 112, 79, 99, 116, 78, 111, 118, 68, 101, 99])) →
  ∃ (b21 : Bool), (∀ u21 : World, Below wj.heap.size wj u21 → Calls Tryd.prog f_octet_Same #[.string (mkS s14), .string (mkS s20)] u21 fun e21 w21 => e21 = .returned (.bool b21) ∧ Below wj.heap.size u21 w21) ∧
  ∀ wq : World, Below wj.heap.size wj wq →
  BCase b21
  (K (.int .i64 (IntKind.i64.wrap (n3 + (1 : Int)))) wq)
  (∃ m' : Nat, m' < m ∧ I m' (IntKind.i64.wrap (n3 + (1 : Int))) wq)))
theorem run_date_month (s0 : List UInt8) {w : World} {K : Value → World → Prop} (h : vc_date_month s0 w K) : Calls Tryd.prog f_date_month #[.string (mkS s0)] w (Ret K) :=
  calls_E (c := bodyOf Tryd.f35) (by kernel_rfl) Tryd.func35 (by kernel_rfl) [(6, [(3, .one (.int .i64))]), (7, [])] [.string (mkS s0)] (of_decide_eq_true (by kernel_rfl)) (vc_date_month s0 w K) (by kernel_rfl) h

--  cracknel/cracknelref01.Lower
def vc_ref01_Lower (s0 : List UInt8) (w : World) (K : Value → World → Prop) : Prop :=
  ∃ I : Nat → FP [.one (.str), .one (.int .i64)],
  (∃ m : Nat, I m [] (0 : Int) w) ∧
  ∀ (m : Nat) (s3 : List UInt8) (n4 : Int), AllJ 23 (∀ (wl : World), I m s3 n4 wl →
  BCase (decide (n4 < ((List.length s0 : Nat) : Int)))
  (((0 ≤ n4 ∧ n4 < ((List.length s0 : Nat) : Int))) ∧
  ∃ J : FP [.one (.int .u8)],
  (BCase (decide ((byteAt s0 n4) ≥ (65 : Int)))
  (BCase (decide ((byteAt s0 n4) ≤ (90 : Int)))
  (J (IntKind.u8.wrap ((byteAt s0 n4) + (32 : Int))) wl)
  (J (byteAt s0 n4) wl))
  (J (byteAt s0 n4) wl)) ∧
  ∀ (n5 : Int), AllJ 8 (∀ (wj : World), J n5 wj →
  ∀ (k25 : Nat) (w25 : World), k25 = wj.heap.size → w25 = wj.alloc (.cells #[.int .u8 n5] T_uint8) →
  ∃ (s26 : List UInt8), (convert T_sl_uint8 T_string (.slice (some ⟨k25, 0, none⟩) 1 1)).run Tryd.prog w25 = .ok (.string (mkS s26)) w25 ∧
  ((((List.length s3 + List.length s26 : Nat) : Int) ≤ IntKind.i64.max)) ∧
  ∀ (s27 : List UInt8), s27 = (s3 ++ s26) →
  ∃ m' : Nat, m' < m ∧ I m' s27 (IntKind.i64.wrap (n4 + (1 : Int))) w25))
  (K (.string (mkS s3)) wl))
theorem run_ref01_Lower (s0 : List UInt8) {w : World} {K : Value → World → Prop} (h : vc_ref01_Lower s0 w K) : Calls Tryd.prog f_ref01_Lower #[.string (mkS s0)] w (Ret K) :=
  calls_E (c := bodyOf Tryd.f36) (by kernel_rfl) Tryd.func36 (by kernel_rfl) [(8, [(3, .one (.str)), (4, .one (.int .i64))]), (19, [(5, .one (.int .u8))])] [.string (mkS s0)] (of_decide_eq_true (by kernel_rfl)) (vc_ref01_Lower s0 w K) (by kernel_rfl) h

--  cracknel/octet.Same
def vc_octet_Same (s0 : List UInt8) (s1 : List UInt8) (w : World) (K : Value → World → Prop) : Prop :=
  Calls Tryd.prog f_octet_Lower #[.string (mkS s0)] w fun e6 w6 => ∃ (s6 : List UInt8), e6 = .returned (.string (mkS s6)) ∧
  Calls Tryd.prog f_octet_Lower #[.string (mkS s1)] w6 fun e8 w8 => ∃ (s8 : List UInt8), e8 = .returned (.string (mkS s8)) ∧
  K (.bool (s6 == s8)) w8
theorem run_octet_Same (s0 : List UInt8) (s1 : List UInt8) {w : World} {K : Value → World → Prop} (h : vc_octet_Same s0 s1 w K) : Calls Tryd.prog f_octet_Same #[.string (mkS s0), .string (mkS s1)] w (Ret K) :=
  calls_E (c := bodyOf Tryd.f42) (by kernel_rfl) Tryd.func42 (by kernel_rfl) [] [.string (mkS s0), .string (mkS s1)] (of_decide_eq_true (by kernel_rfl)) (vc_octet_Same s0 s1 w K) (by kernel_rfl) h

--  cracknel/octet.Lower
def vc_octet_Lower (s0 : List UInt8) (w : World) (K : Value → World → Prop) : Prop :=
  ∃ (w7 : World) (a7 : Option Addr) (l7 c7 : Nat), (convert T_string T_sl_uint8 (.string (mkS s0))).run Tryd.prog w = .ok (.slice a7 l7 c7) w7 ∧
  ∃ I : Nat → FP [.one (.int .i64)],
  (∃ m : Nat, I m (0 : Int) w7) ∧
  ∀ (m : Nat) (n10 : Int), AllJ 19 (∀ (wl : World), I m n10 wl →
  BCase (decide (n10 < ((l7 : Nat) : Int)))
  (((0 ≤ n10 ∧ n10 < ((l7 : Nat) : Int)) ∧ Option.isSome a7 = true) ∧
  ∃ (n14 : Int), (Instr.loadAt T_uint8 (.pointer (elemAddr a7 n10 1))).run Tryd.prog wl = .ok (.int .u8 n14) wl ∧
  ∃ J : FP [.one (.bool)],
  (BCase (decide (n14 ≥ (65 : Int)))
  (J (decide (n14 ≤ (90 : Int))) wl)
  (J false wl)) ∧
  ∀ (b20 : Bool), AllJ 5 (∀ (wj : World), J b20 wj →
  BCase b20
  (((0 ≤ n10 ∧ n10 < ((l7 : Nat) : Int)) ∧ Option.isSome a7 = true) ∧
  ∃ (wx : World), (Instr.storeAt T_uint8 (.pointer (elemAddr a7 n10 1)) (.int .u8 (IntKind.u8.wrap ((IntKind.u8.wrap (n14 - (65 : Int))) + (97 : Int))))).run Tryd.prog wj = .ok () wx ∧
  ∃ m' : Nat, m' < m ∧ I m' (IntKind.i64.wrap (n10 + (1 : Int))) wx)
  (∃ m' : Nat, m' < m ∧ I m' (IntKind.i64.wrap (n10 + (1 : Int))) wj)))
  (∃ (s29 : List UInt8), (convert T_sl_uint8 T_string (.slice a7 l7 c7)).run Tryd.prog wl = .ok (.string (mkS s29)) wl ∧
  K (.string (mkS s29)) wl))
theorem run_octet_Lower (s0 : List UInt8) {w : World} {K : Value → World → Prop} (h : vc_octet_Lower s0 w K) : Calls Tryd.prog f_octet_Lower #[.string (mkS s0)] w (Ret K) :=
  calls_E (c := bodyOf Tryd.f57) (by kernel_rfl) Tryd.func57 (by kernel_rfl) [(8, [(10, .one (.int .i64))]), (19, [(20, .one (.bool))])] [.string (mkS s0)] (of_decide_eq_true (by kernel_rfl)) (vc_octet_Lower s0 w K) (by kernel_rfl) h

end Go.Proofs.YtmlcilfcaogdcaaDoor
