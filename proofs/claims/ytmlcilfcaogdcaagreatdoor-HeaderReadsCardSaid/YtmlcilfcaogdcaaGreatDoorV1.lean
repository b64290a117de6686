/- What the functions' bodies ask, by their names. Its conditions: none. -/
import Derived.Test.YtmlcilfcaogdcaaGreatDoorNames
set_option linter.unusedVariables false
set_option maxRecDepth 100000
namespace Go.Proofs.YtmlcilfcaogdcaaGreatDoor
open Go.Pk
open Go.RowKit (Below)
--  cracknel/cracknellaw08.HeaderNames
def vc_law08_HeaderNames  (w : World) (K : Value → World → Prop) : Prop :=
  Calls Tryz.prog f_header_Parse #[.string (mkS [97, 61, 98, 10])] w fun e12 w12 => ∃ (s12_0_0 : List UInt8) (s12_0_1 : List UInt8) (s12_0_2 : List UInt8) (s12_0_3 : List UInt8) (b12_0_4 : Bool) (n12_0_5 : Int) (b12_0_6 : Bool) (n12_0_7 : Int) (b12_0_8 : Bool) (b12_0_9 : Bool) (n12_0_10 : Int) (n12_1 : Int), e12 = .returned (.tuple #[.agg #[.string (mkS s12_0_0), .string (mkS s12_0_1), .string (mkS s12_0_2), .string (mkS s12_0_3), .bool b12_0_4, .int .i64 n12_0_5, .bool b12_0_6, .int .i64 n12_0_7, .bool b12_0_8, .bool b12_0_9, .int .i64 n12_0_10], .int .i64 n12_1]) ∧
  ∀ (k1 : Nat) (w1 : World), k1 = w12.heap.size → w1 = w12.alloc (.cells #[.string (mkS []), .string (mkS []), .string (mkS []), .string (mkS []), .bool false, .int .i64 (0 : Int), .bool false, .int .i64 (0 : Int), .bool false, .bool false, .int .i64 (0 : Int)] T_api_Header) →
  ∃ (wx : World), (Instr.storeAt T_api_Header (.pointer (some ⟨k1, 0, none⟩)) (.agg #[.string (mkS s12_0_0), .string (mkS s12_0_1), .string (mkS s12_0_2), .string (mkS s12_0_3), .bool b12_0_4, .int .i64 n12_0_5, .bool b12_0_6, .int .i64 n12_0_7, .bool b12_0_8, .bool b12_0_9, .int .i64 n12_0_10])).run Tryz.prog w1 = .ok () wx ∧
  Calls Tryz.prog f_header_Parse #[.string (mkS [32, 61, 32, 59, 32, 80, 97, 116, 104, 61, 47])] wx fun e16 w16 => ∃ (s16_0_0 : List UInt8) (s16_0_1 : List UInt8) (s16_0_2 : List UInt8) (s16_0_3 : List UInt8) (b16_0_4 : Bool) (n16_0_5 : Int) (b16_0_6 : Bool) (n16_0_7 : Int) (b16_0_8 : Bool) (b16_0_9 : Bool) (n16_0_10 : Int) (n16_1 : Int), e16 = .returned (.tuple #[.agg #[.string (mkS s16_0_0), .string (mkS s16_0_1), .string (mkS s16_0_2), .string (mkS s16_0_3), .bool b16_0_4, .int .i64 n16_0_5, .bool b16_0_6, .int .i64 n16_0_7, .bool b16_0_8, .bool b16_0_9, .int .i64 n16_0_10], .int .i64 n16_1]) ∧
  ∀ (k3 : Nat) (w3 : World), k3 = w16.heap.size → w3 = w16.alloc (.cells #[.string (mkS []), .string (mkS []), .string (mkS []), .string (mkS []), .bool false, .int .i64 (0 : Int), .bool false, .int .i64 (0 : Int), .bool false, .bool false, .int .i64 (0 : Int)] T_api_Header) →
  ∃ (wx_1 : World), (Instr.storeAt T_api_Header (.pointer (some ⟨k3, 0, none⟩)) (.agg #[.string (mkS s16_0_0), .string (mkS s16_0_1), .string (mkS s16_0_2), .string (mkS s16_0_3), .bool b16_0_4, .int .i64 n16_0_5, .bool b16_0_6, .int .i64 n16_0_7, .bool b16_0_8, .bool b16_0_9, .int .i64 n16_0_10])).run Tryz.prog w3 = .ok () wx_1 ∧
  ∃ (w19 : World) (a19 : Option Addr) (l19 c19 : Nat), (Instr.makeSlice T_sl_uint8 (.int .i64 (4096 : Int)) (.int .i64 (4096 : Int))).run Tryz.prog wx_1 = .ok (.slice a19 l19 c19) w19 ∧
  ∃ I : Nat → FP [.one (.int .i64)],
  (∃ m : Nat, I m (0 : Int) w19) ∧
  ∀ (m : Nat) (n22 : Int), AllJ 7 (∀ (wl : World), I m n22 wl →
  BCase (decide (n22 < ((l19 : Nat) : Int)))
  (((0 ≤ n22 ∧ n22 < ((l19 : Nat) : Int)) ∧ Option.isSome a19 = true) ∧
  ∃ (wx_2 : World), (Instr.storeAt T_uint8 (.pointer (elemAddr a19 n22 1)) (.int .u8 (120 : Int))).run Tryz.prog wl = .ok () wx_2 ∧
  ∃ m' : Nat, m' < m ∧ I m' (IntKind.i64.wrap (n22 + (1 : Int))) wx_2)
  (∃ (s31 : List UInt8), (convert T_sl_uint8 T_string (.slice a19 l19 c19)).run Tryz.prog wl = .ok (.string (mkS s31)) wl ∧
  ((((List.length [97, 61] + List.length s31 : Nat) : Int) ≤ IntKind.i64.max)) ∧
  ∀ (s32 : List UInt8), s32 = ([97, 61] ++ s31) →
  Calls Tryz.prog f_header_Parse #[.string (mkS s32)] wl fun e33 w33 => ∃ (s33_0_0 : List UInt8) (s33_0_1 : List UInt8) (s33_0_2 : List UInt8) (s33_0_3 : List UInt8) (b33_0_4 : Bool) (n33_0_5 : Int) (b33_0_6 : Bool) (n33_0_7 : Int) (b33_0_8 : Bool) (b33_0_9 : Bool) (n33_0_10 : Int) (n33_1 : Int), e33 = .returned (.tuple #[.agg #[.string (mkS s33_0_0), .string (mkS s33_0_1), .string (mkS s33_0_2), .string (mkS s33_0_3), .bool b33_0_4, .int .i64 n33_0_5, .bool b33_0_6, .int .i64 n33_0_7, .bool b33_0_8, .bool b33_0_9, .int .i64 n33_0_10], .int .i64 n33_1]) ∧
  ∀ (k7 : Nat) (w7 : World), k7 = w33.heap.size → w7 = w33.alloc (.cells #[.string (mkS []), .string (mkS []), .string (mkS []), .string (mkS []), .bool false, .int .i64 (0 : Int), .bool false, .int .i64 (0 : Int), .bool false, .bool false, .int .i64 (0 : Int)] T_api_Header) →
  ∃ (wx_3 : World), (Instr.storeAt T_api_Header (.pointer (some ⟨k7, 0, none⟩)) (.agg #[.string (mkS s33_0_0), .string (mkS s33_0_1), .string (mkS s33_0_2), .string (mkS s33_0_3), .bool b33_0_4, .int .i64 n33_0_5, .bool b33_0_6, .int .i64 n33_0_7, .bool b33_0_8, .bool b33_0_9, .int .i64 n33_0_10])).run Tryz.prog w7 = .ok () wx_3 ∧
  ∃ (s38 : List UInt8), (convert T_sl_uint8 T_string (.slice a19 l19 c19)).run Tryz.prog wx_3 = .ok (.string (mkS s38)) wx_3 ∧
  ((((List.length [61] + List.length s38 : Nat) : Int) ≤ IntKind.i64.max)) ∧
  ∀ (s39 : List UInt8), s39 = ([61] ++ s38) →
  Calls Tryz.prog f_header_Parse #[.string (mkS s39)] wx_3 fun e40 w40 => ∃ (s40_0_0 : List UInt8) (s40_0_1 : List UInt8) (s40_0_2 : List UInt8) (s40_0_3 : List UInt8) (b40_0_4 : Bool) (n40_0_5 : Int) (b40_0_6 : Bool) (n40_0_7 : Int) (b40_0_8 : Bool) (b40_0_9 : Bool) (n40_0_10 : Int) (n40_1 : Int), e40 = .returned (.tuple #[.agg #[.string (mkS s40_0_0), .string (mkS s40_0_1), .string (mkS s40_0_2), .string (mkS s40_0_3), .bool b40_0_4, .int .i64 n40_0_5, .bool b40_0_6, .int .i64 n40_0_7, .bool b40_0_8, .bool b40_0_9, .int .i64 n40_0_10], .int .i64 n40_1]) ∧
  ∀ (k9 : Nat) (w9 : World), k9 = w40.heap.size → w9 = w40.alloc (.cells #[.string (mkS []), .string (mkS []), .string (mkS []), .string (mkS []), .bool false, .int .i64 (0 : Int), .bool false, .int .i64 (0 : Int), .bool false, .bool false, .int .i64 (0 : Int)] T_api_Header) →
  ∃ (wx_4 : World), (Instr.storeAt T_api_Header (.pointer (some ⟨k9, 0, none⟩)) (.agg #[.string (mkS s40_0_0), .string (mkS s40_0_1), .string (mkS s40_0_2), .string (mkS s40_0_3), .bool b40_0_4, .int .i64 n40_0_5, .bool b40_0_6, .int .i64 n40_0_7, .bool b40_0_8, .bool b40_0_9, .int .i64 n40_0_10])).run Tryz.prog w9 = .ok () wx_4 ∧
  Calls Tryz.prog f_law08_headerAlive #[] wx_4 fun e43 w43 => ∃ (b43 : Bool), e43 = .returned (.bool b43) ∧
  BCase (cond (cond (cond (cond (cond (cond (cond (cond (cond (cond b43 true false) true false) true false) true false) true false) true false) true false) true false) true false) true false)
  (BCase (n12_1 == (81 : Int))
  (BCase (n16_1 == (82 : Int))
  (BCase (n33_1 == (83 : Int))
  (BCase (n40_1 == (0 : Int))
  ((true = true) ∧
  ∃ (s82 : List UInt8), (Instr.loadAt T_string (.pointer (some ⟨k9, 1, none⟩))).run Tryz.prog w43 = .ok (.string (mkS s82)) w43 ∧
  ∃ (s84 : List UInt8), (convert T_sl_uint8 T_string (.slice a19 l19 c19)).run Tryz.prog w43 = .ok (.string (mkS s84)) w43 ∧
  K (.bool (s82 == s84)) w43)
  (K (.bool false) w43))
  (K (.bool false) w43))
  (K (.bool false) w43))
  (K (.bool false) w43))
  (K (.bool false) w43)))
theorem run_law08_HeaderNames  {w : World} {K : Value → World → Prop} (h : vc_law08_HeaderNames  w K) : Calls Tryz.prog f_law08_HeaderNames #[] w (Ret K) :=
  calls_E (c := bodyOf Tryz.f3) (by kernel_rfl) Tryz.func3 (by kernel_rfl) [(12, [(22, .one (.int .i64))])] [] (of_decide_eq_true (by kernel_rfl)) (vc_law08_HeaderNames  w K) (by kernel_rfl) h

--  cracknel/cracknellaw08.HeaderReads
def vc_law08_HeaderReads (s0 : List UInt8) (w : World) (K : Value → World → Prop) : Prop :=
  Calls Tryz.prog f_law08_headerAlive #[] w fun e7 w7 => ∃ (b7 : Bool), e7 = .returned (.bool b7) ∧
  BCase (!b7)
  (K (.bool false) w7)
  (BCase (decide (((List.length s0 : Nat) : Int) > (6000 : Int)))
  (K (.bool true) w7)
  (Calls Tryz.prog f_header_Parse #[.string (mkS s0)] w7 fun e14 w14 => ∃ (s14_0_0 : List UInt8) (s14_0_1 : List UInt8) (s14_0_2 : List UInt8) (s14_0_3 : List UInt8) (b14_0_4 : Bool) (n14_0_5 : Int) (b14_0_6 : Bool) (n14_0_7 : Int) (b14_0_8 : Bool) (b14_0_9 : Bool) (n14_0_10 : Int) (n14_1 : Int), e14 = .returned (.tuple #[.agg #[.string (mkS s14_0_0), .string (mkS s14_0_1), .string (mkS s14_0_2), .string (mkS s14_0_3), .bool b14_0_4, .int .i64 n14_0_5, .bool b14_0_6, .int .i64 n14_0_7, .bool b14_0_8, .bool b14_0_9, .int .i64 n14_0_10], .int .i64 n14_1]) ∧
  ∀ (k3 : Nat) (w3 : World), k3 = w14.heap.size → w3 = w14.alloc (.cells #[.string (mkS []), .string (mkS []), .string (mkS []), .string (mkS []), .bool false, .int .i64 (0 : Int), .bool false, .int .i64 (0 : Int), .bool false, .bool false, .int .i64 (0 : Int)] T_api_Header) →
  ∃ (wx : World), (Instr.storeAt T_api_Header (.pointer (some ⟨k3, 0, none⟩)) (.agg #[.string (mkS s14_0_0), .string (mkS s14_0_1), .string (mkS s14_0_2), .string (mkS s14_0_3), .bool b14_0_4, .int .i64 n14_0_5, .bool b14_0_6, .int .i64 n14_0_7, .bool b14_0_8, .bool b14_0_9, .int .i64 n14_0_10])).run Tryz.prog w3 = .ok () wx ∧
  Calls Tryz.prog f_ref08_Parse #[.string (mkS s0)] wx fun e19 w19 => ∃ (s19_0_0 : List UInt8) (s19_0_1 : List UInt8) (s19_0_2 : List UInt8) (s19_0_3 : List UInt8) (b19_0_4 : Bool) (n19_0_5 : Int) (b19_0_6 : Bool) (n19_0_7 : Int) (b19_0_8 : Bool) (b19_0_9 : Bool) (n19_0_10 : Int) (n19_1 : Int), e19 = .returned (.tuple #[.agg #[.string (mkS s19_0_0), .string (mkS s19_0_1), .string (mkS s19_0_2), .string (mkS s19_0_3), .bool b19_0_4, .int .i64 n19_0_5, .bool b19_0_6, .int .i64 n19_0_7, .bool b19_0_8, .bool b19_0_9, .int .i64 n19_0_10], .int .i64 n19_1]) ∧
  ∀ (k5 : Nat) (w5 : World), k5 = w19.heap.size → w5 = w19.alloc (.cells #[.string (mkS []), .string (mkS []), .string (mkS []), .string (mkS []), .bool false, .int .i64 (0 : Int), .bool false, .int .i64 (0 : Int), .bool false, .bool false, .int .i64 (0 : Int)] T_api_Header) →
  ∃ (wx_1 : World), (Instr.storeAt T_api_Header (.pointer (some ⟨k5, 0, none⟩)) (.agg #[.string (mkS s19_0_0), .string (mkS s19_0_1), .string (mkS s19_0_2), .string (mkS s19_0_3), .bool b19_0_4, .int .i64 n19_0_5, .bool b19_0_6, .int .i64 n19_0_7, .bool b19_0_8, .bool b19_0_9, .int .i64 n19_0_10])).run Tryz.prog w5 = .ok () wx_1 ∧
  ∃ (s22_0 : List UInt8) (s22_1 : List UInt8) (s22_2 : List UInt8) (s22_3 : List UInt8) (b22_4 : Bool) (n22_5 : Int) (b22_6 : Bool) (n22_7 : Int) (b22_8 : Bool) (b22_9 : Bool) (n22_10 : Int), (Instr.loadAt T_api_Header (.pointer (some ⟨k3, 0, none⟩))).run Tryz.prog wx_1 = .ok (.agg #[.string (mkS s22_0), .string (mkS s22_1), .string (mkS s22_2), .string (mkS s22_3), .bool b22_4, .int .i64 n22_5, .bool b22_6, .int .i64 n22_7, .bool b22_8, .bool b22_9, .int .i64 n22_10]) wx_1 ∧
  ∃ (s23_0 : List UInt8) (s23_1 : List UInt8) (s23_2 : List UInt8) (s23_3 : List UInt8) (b23_4 : Bool) (n23_5 : Int) (b23_6 : Bool) (n23_7 : Int) (b23_8 : Bool) (b23_9 : Bool) (n23_10 : Int), (Instr.loadAt T_api_Header (.pointer (some ⟨k5, 0, none⟩))).run Tryz.prog wx_1 = .ok (.agg #[.string (mkS s23_0), .string (mkS s23_1), .string (mkS s23_2), .string (mkS s23_3), .bool b23_4, .int .i64 n23_5, .bool b23_6, .int .i64 n23_7, .bool b23_8, .bool b23_9, .int .i64 n23_10]) wx_1 ∧
  ∃ (b24 : Bool), ((do eqGuard .eql T_api_Header (.tmp 22) (.tmp 23) (.agg #[.string (mkS s22_0), .string (mkS s22_1), .string (mkS s22_2), .string (mkS s22_3), .bool b22_4, .int .i64 n22_5, .bool b22_6, .int .i64 n22_7, .bool b22_8, .bool b22_9, .int .i64 n22_10]) (.agg #[.string (mkS s23_0), .string (mkS s23_1), .string (mkS s23_2), .string (mkS s23_3), .bool b23_4, .int .i64 n23_5, .bool b23_6, .int .i64 n23_7, .bool b23_8, .bool b23_9, .int .i64 n23_10]); binOp .eql T_api_Header (.agg #[.string (mkS s22_0), .string (mkS s22_1), .string (mkS s22_2), .string (mkS s22_3), .bool b22_4, .int .i64 n22_5, .bool b22_6, .int .i64 n22_7, .bool b22_8, .bool b22_9, .int .i64 n22_10]) (.agg #[.string (mkS s23_0), .string (mkS s23_1), .string (mkS s23_2), .string (mkS s23_3), .bool b23_4, .int .i64 n23_5, .bool b23_6, .int .i64 n23_7, .bool b23_8, .bool b23_9, .int .i64 n23_10]) : Sem Value)).run Tryz.prog wx_1 = .ok (.bool b24) wx_1 ∧
  BCase b24
  (K (.bool (n14_1 == n19_1)) wx_1)
  (K (.bool false) wx_1)))
theorem run_law08_HeaderReads (s0 : List UInt8) {w : World} {K : Value → World → Prop} (h : vc_law08_HeaderReads s0 w K) : Calls Tryz.prog f_law08_HeaderReads #[.string (mkS s0)] w (Ret K) :=
  calls_E (c := bodyOf Tryz.f4) (by kernel_rfl) Tryz.func4 (by kernel_rfl) [] [.string (mkS s0)] (of_decide_eq_true (by kernel_rfl)) (vc_law08_HeaderReads s0 w K) (by kernel_rfl) h

--  cracknel/cracknellaw08.HeaderBack
def vc_law08_HeaderBack (s0 : List UInt8) (w : World) (K : Value → World → Prop) : Prop :=
  Calls Tryz.prog f_law08_headerAlive #[] w fun e8 w8 => ∃ (b8 : Bool), e8 = .returned (.bool b8) ∧
  BCase (!b8)
  (K (.bool false) w8)
  (BCase (decide (((List.length s0 : Nat) : Int) > (6000 : Int)))
  (K (.bool true) w8)
  (Calls Tryz.prog f_header_Parse #[.string (mkS s0)] w8 fun e15 w15 => ∃ (s15_0_0 : List UInt8) (s15_0_1 : List UInt8) (s15_0_2 : List UInt8) (s15_0_3 : List UInt8) (b15_0_4 : Bool) (n15_0_5 : Int) (b15_0_6 : Bool) (n15_0_7 : Int) (b15_0_8 : Bool) (b15_0_9 : Bool) (n15_0_10 : Int) (n15_1 : Int), e15 = .returned (.tuple #[.agg #[.string (mkS s15_0_0), .string (mkS s15_0_1), .string (mkS s15_0_2), .string (mkS s15_0_3), .bool b15_0_4, .int .i64 n15_0_5, .bool b15_0_6, .int .i64 n15_0_7, .bool b15_0_8, .bool b15_0_9, .int .i64 n15_0_10], .int .i64 n15_1]) ∧
  ∀ (k3 : Nat) (w3 : World), k3 = w15.heap.size → w3 = w15.alloc (.cells #[.string (mkS []), .string (mkS []), .string (mkS []), .string (mkS []), .bool false, .int .i64 (0 : Int), .bool false, .int .i64 (0 : Int), .bool false, .bool false, .int .i64 (0 : Int)] T_api_Header) →
  ∃ (wx : World), (Instr.storeAt T_api_Header (.pointer (some ⟨k3, 0, none⟩)) (.agg #[.string (mkS s15_0_0), .string (mkS s15_0_1), .string (mkS s15_0_2), .string (mkS s15_0_3), .bool b15_0_4, .int .i64 n15_0_5, .bool b15_0_6, .int .i64 n15_0_7, .bool b15_0_8, .bool b15_0_9, .int .i64 n15_0_10])).run Tryz.prog w3 = .ok () wx ∧
  BCase (n15_1 != (0 : Int))
  (∃ (s20_0 : List UInt8) (s20_1 : List UInt8) (s20_2 : List UInt8) (s20_3 : List UInt8) (b20_4 : Bool) (n20_5 : Int) (b20_6 : Bool) (n20_7 : Int) (b20_8 : Bool) (b20_9 : Bool) (n20_10 : Int), (Instr.loadAt T_api_Header (.pointer (some ⟨k3, 0, none⟩))).run Tryz.prog wx = .ok (.agg #[.string (mkS s20_0), .string (mkS s20_1), .string (mkS s20_2), .string (mkS s20_3), .bool b20_4, .int .i64 n20_5, .bool b20_6, .int .i64 n20_7, .bool b20_8, .bool b20_9, .int .i64 n20_10]) wx ∧
  ∃ (b22 : Bool), ((do eqGuard .eql T_api_Header (.tmp 20) (.tmp 21) (.agg #[.string (mkS s20_0), .string (mkS s20_1), .string (mkS s20_2), .string (mkS s20_3), .bool b20_4, .int .i64 n20_5, .bool b20_6, .int .i64 n20_7, .bool b20_8, .bool b20_9, .int .i64 n20_10]) (.agg #[.string (mkS []), .string (mkS []), .string (mkS []), .string (mkS []), .bool false, .int .i64 (0 : Int), .bool false, .int .i64 (0 : Int), .bool false, .bool false, .int .i64 (0 : Int)]); binOp .eql T_api_Header (.agg #[.string (mkS s20_0), .string (mkS s20_1), .string (mkS s20_2), .string (mkS s20_3), .bool b20_4, .int .i64 n20_5, .bool b20_6, .int .i64 n20_7, .bool b20_8, .bool b20_9, .int .i64 n20_10]) (.agg #[.string (mkS []), .string (mkS []), .string (mkS []), .string (mkS []), .bool false, .int .i64 (0 : Int), .bool false, .int .i64 (0 : Int), .bool false, .bool false, .int .i64 (0 : Int)]) : Sem Value)).run Tryz.prog wx = .ok (.bool b22) wx ∧
  K (.bool b22) wx)
  (∃ (s23_0 : List UInt8) (s23_1 : List UInt8) (s23_2 : List UInt8) (s23_3 : List UInt8) (b23_4 : Bool) (n23_5 : Int) (b23_6 : Bool) (n23_7 : Int) (b23_8 : Bool) (b23_9 : Bool) (n23_10 : Int), (Instr.loadAt T_api_Header (.pointer (some ⟨k3, 0, none⟩))).run Tryz.prog wx = .ok (.agg #[.string (mkS s23_0), .string (mkS s23_1), .string (mkS s23_2), .string (mkS s23_3), .bool b23_4, .int .i64 n23_5, .bool b23_6, .int .i64 n23_7, .bool b23_8, .bool b23_9, .int .i64 n23_10]) wx ∧
  Calls Tryz.prog f_header_Text #[.agg #[.string (mkS s23_0), .string (mkS s23_1), .string (mkS s23_2), .string (mkS s23_3), .bool b23_4, .int .i64 n23_5, .bool b23_6, .int .i64 n23_7, .bool b23_8, .bool b23_9, .int .i64 n23_10]] wx fun e24 w24 => ∃ (s24 : List UInt8), e24 = .returned (.string (mkS s24)) ∧
  Calls Tryz.prog f_header_Parse #[.string (mkS s24)] w24 fun e27 w27 => ∃ (s27_0_0 : List UInt8) (s27_0_1 : List UInt8) (s27_0_2 : List UInt8) (s27_0_3 : List UInt8) (b27_0_4 : Bool) (n27_0_5 : Int) (b27_0_6 : Bool) (n27_0_7 : Int) (b27_0_8 : Bool) (b27_0_9 : Bool) (n27_0_10 : Int) (n27_1 : Int), e27 = .returned (.tuple #[.agg #[.string (mkS s27_0_0), .string (mkS s27_0_1), .string (mkS s27_0_2), .string (mkS s27_0_3), .bool b27_0_4, .int .i64 n27_0_5, .bool b27_0_6, .int .i64 n27_0_7, .bool b27_0_8, .bool b27_0_9, .int .i64 n27_0_10], .int .i64 n27_1]) ∧
  ∀ (k6 : Nat) (w6 : World), k6 = w27.heap.size → w6 = w27.alloc (.cells #[.string (mkS []), .string (mkS []), .string (mkS []), .string (mkS []), .bool false, .int .i64 (0 : Int), .bool false, .int .i64 (0 : Int), .bool false, .bool false, .int .i64 (0 : Int)] T_api_Header) →
  ∃ (wx_1 : World), (Instr.storeAt T_api_Header (.pointer (some ⟨k6, 0, none⟩)) (.agg #[.string (mkS s27_0_0), .string (mkS s27_0_1), .string (mkS s27_0_2), .string (mkS s27_0_3), .bool b27_0_4, .int .i64 n27_0_5, .bool b27_0_6, .int .i64 n27_0_7, .bool b27_0_8, .bool b27_0_9, .int .i64 n27_0_10])).run Tryz.prog w6 = .ok () wx_1 ∧
  ∃ (s30_0 : List UInt8) (s30_1 : List UInt8) (s30_2 : List UInt8) (s30_3 : List UInt8) (b30_4 : Bool) (n30_5 : Int) (b30_6 : Bool) (n30_7 : Int) (b30_8 : Bool) (b30_9 : Bool) (n30_10 : Int), (Instr.loadAt T_api_Header (.pointer (some ⟨k3, 0, none⟩))).run Tryz.prog wx_1 = .ok (.agg #[.string (mkS s30_0), .string (mkS s30_1), .string (mkS s30_2), .string (mkS s30_3), .bool b30_4, .int .i64 n30_5, .bool b30_6, .int .i64 n30_7, .bool b30_8, .bool b30_9, .int .i64 n30_10]) wx_1 ∧
  Calls Tryz.prog f_header_Right #[.agg #[.string (mkS s30_0), .string (mkS s30_1), .string (mkS s30_2), .string (mkS s30_3), .bool b30_4, .int .i64 n30_5, .bool b30_6, .int .i64 n30_7, .bool b30_8, .bool b30_9, .int .i64 n30_10]] wx_1 fun e31 w31 => ∃ (b31 : Bool), e31 = .returned (.bool b31) ∧
  BCase b31
  (BCase (n27_1 == (0 : Int))
  (∃ (s37_0 : List UInt8) (s37_1 : List UInt8) (s37_2 : List UInt8) (s37_3 : List UInt8) (b37_4 : Bool) (n37_5 : Int) (b37_6 : Bool) (n37_7 : Int) (b37_8 : Bool) (b37_9 : Bool) (n37_10 : Int), (Instr.loadAt T_api_Header (.pointer (some ⟨k6, 0, none⟩))).run Tryz.prog w31 = .ok (.agg #[.string (mkS s37_0), .string (mkS s37_1), .string (mkS s37_2), .string (mkS s37_3), .bool b37_4, .int .i64 n37_5, .bool b37_6, .int .i64 n37_7, .bool b37_8, .bool b37_9, .int .i64 n37_10]) w31 ∧
  ∃ (s38_0 : List UInt8) (s38_1 : List UInt8) (s38_2 : List UInt8) (s38_3 : List UInt8) (b38_4 : Bool) (n38_5 : Int) (b38_6 : Bool) (n38_7 : Int) (b38_8 : Bool) (b38_9 : Bool) (n38_10 : Int), (Instr.loadAt T_api_Header (.pointer (some ⟨k3, 0, none⟩))).run Tryz.prog w31 = .ok (.agg #[.string (mkS s38_0), .string (mkS s38_1), .string (mkS s38_2), .string (mkS s38_3), .bool b38_4, .int .i64 n38_5, .bool b38_6, .int .i64 n38_7, .bool b38_8, .bool b38_9, .int .i64 n38_10]) w31 ∧
  ∃ (b39 : Bool), ((do eqGuard .eql T_api_Header (.tmp 37) (.tmp 38) (.agg #[.string (mkS s37_0), .string (mkS s37_1), .string (mkS s37_2), .string (mkS s37_3), .bool b37_4, .int .i64 n37_5, .bool b37_6, .int .i64 n37_7, .bool b37_8, .bool b37_9, .int .i64 n37_10]) (.agg #[.string (mkS s38_0), .string (mkS s38_1), .string (mkS s38_2), .string (mkS s38_3), .bool b38_4, .int .i64 n38_5, .bool b38_6, .int .i64 n38_7, .bool b38_8, .bool b38_9, .int .i64 n38_10]); binOp .eql T_api_Header (.agg #[.string (mkS s37_0), .string (mkS s37_1), .string (mkS s37_2), .string (mkS s37_3), .bool b37_4, .int .i64 n37_5, .bool b37_6, .int .i64 n37_7, .bool b37_8, .bool b37_9, .int .i64 n37_10]) (.agg #[.string (mkS s38_0), .string (mkS s38_1), .string (mkS s38_2), .string (mkS s38_3), .bool b38_4, .int .i64 n38_5, .bool b38_6, .int .i64 n38_7, .bool b38_8, .bool b38_9, .int .i64 n38_10]) : Sem Value)).run Tryz.prog w31 = .ok (.bool b39) w31 ∧
  BCase b39
  (∃ (s42_0 : List UInt8) (s42_1 : List UInt8) (s42_2 : List UInt8) (s42_3 : List UInt8) (b42_4 : Bool) (n42_5 : Int) (b42_6 : Bool) (n42_7 : Int) (b42_8 : Bool) (b42_9 : Bool) (n42_10 : Int), (Instr.loadAt T_api_Header (.pointer (some ⟨k6, 0, none⟩))).run Tryz.prog w31 = .ok (.agg #[.string (mkS s42_0), .string (mkS s42_1), .string (mkS s42_2), .string (mkS s42_3), .bool b42_4, .int .i64 n42_5, .bool b42_6, .int .i64 n42_7, .bool b42_8, .bool b42_9, .int .i64 n42_10]) w31 ∧
  Calls Tryz.prog f_header_Text #[.agg #[.string (mkS s42_0), .string (mkS s42_1), .string (mkS s42_2), .string (mkS s42_3), .bool b42_4, .int .i64 n42_5, .bool b42_6, .int .i64 n42_7, .bool b42_8, .bool b42_9, .int .i64 n42_10]] w31 fun e43 w43 => ∃ (s43 : List UInt8), e43 = .returned (.string (mkS s43)) ∧
  K (.bool (s43 == s24)) w43)
  (K (.bool false) w31))
  (K (.bool false) w31))
  (K (.bool false) w31))))
theorem run_law08_HeaderBack (s0 : List UInt8) {w : World} {K : Value → World → Prop} (h : vc_law08_HeaderBack s0 w K) : Calls Tryz.prog f_law08_HeaderBack #[.string (mkS s0)] w (Ret K) :=
  calls_E (c := bodyOf Tryz.f5) (by kernel_rfl) Tryz.func5 (by kernel_rfl) [] [.string (mkS s0)] (of_decide_eq_true (by kernel_rfl)) (vc_law08_HeaderBack s0 w K) (by kernel_rfl) h

--  cracknel/cracknellaw08.HeaderLast
def vc_law08_HeaderLast (s0 : List UInt8) (n1 : Int) (w : World) (K : Value → World → Prop) : Prop :=
  Calls Tryz.prog f_law08_headerAlive #[] w fun e17 w17 => ∃ (b17 : Bool), e17 = .returned (.bool b17) ∧
  BCase (!b17)
  (K (.bool false) w17)
  (Calls Tryz.prog f_header_Parse #[.string (mkS s0)] w17 fun e21 w21 => ∃ (s21_0_0 : List UInt8) (s21_0_1 : List UInt8) (s21_0_2 : List UInt8) (s21_0_3 : List UInt8) (b21_0_4 : Bool) (n21_0_5 : Int) (b21_0_6 : Bool) (n21_0_7 : Int) (b21_0_8 : Bool) (b21_0_9 : Bool) (n21_0_10 : Int) (n21_1 : Int), e21 = .returned (.tuple #[.agg #[.string (mkS s21_0_0), .string (mkS s21_0_1), .string (mkS s21_0_2), .string (mkS s21_0_3), .bool b21_0_4, .int .i64 n21_0_5, .bool b21_0_6, .int .i64 n21_0_7, .bool b21_0_8, .bool b21_0_9, .int .i64 n21_0_10], .int .i64 n21_1]) ∧
  ∀ (k5 : Nat) (w5 : World), k5 = w21.heap.size → w5 = w21.alloc (.cells #[.string (mkS []), .string (mkS []), .string (mkS []), .string (mkS []), .bool false, .int .i64 (0 : Int), .bool false, .int .i64 (0 : Int), .bool false, .bool false, .int .i64 (0 : Int)] T_api_Header) →
  ∃ (wx : World), (Instr.storeAt T_api_Header (.pointer (some ⟨k5, 0, none⟩)) (.agg #[.string (mkS s21_0_0), .string (mkS s21_0_1), .string (mkS s21_0_2), .string (mkS s21_0_3), .bool b21_0_4, .int .i64 n21_0_5, .bool b21_0_6, .int .i64 n21_0_7, .bool b21_0_8, .bool b21_0_9, .int .i64 n21_0_10])).run Tryz.prog w5 = .ok () wx ∧
  ∃ J : FP [],
  (BCase (decide (((List.length s0 : Nat) : Int) > (4000 : Int)))
  (K (.bool true) wx)
  (BCase (n21_1 != (0 : Int))
  (K (.bool true) wx)
  (J wx))) ∧
  AllJ 8 (∀ (wj : World), J wj →
  ∃ I : Nat → FP [.one (.str), .one (.int .i64)],
  (∃ m : Nat, I m [] (IntKind.i64.wrap n1) wj) ∧
  ∀ (m : Nat) (s7 : List UInt8) (n8 : Int), AllJ 16 (∀ (wl : World), I m s7 n8 wl →
  ∃ J_1 : FP [],
  (BCase (decide (n8 > (0 : Int)))
  (J_1 wl)
  (BCase (s7 == [])
  (J_1 wl)
  (((((List.length s0 + List.length [59, 32, 109, 97, 120, 45, 97, 103, 101, 32, 61, 32] : Nat) : Int) ≤ IntKind.i64.max)) ∧
  ∀ (s51 : List UInt8), s51 = (s0 ++ [59, 32, 109, 97, 120, 45, 97, 103, 101, 32, 61, 32]) →
  ((((List.length s51 + List.length s7 : Nat) : Int) ≤ IntKind.i64.max)) ∧
  ∀ (s53 : List UInt8), s53 = (s51 ++ s7) →
  ((((List.length s53 + List.length [32] : Nat) : Int) ≤ IntKind.i64.max)) ∧
  ∀ (s54 : List UInt8), s54 = (s53 ++ [32]) →
  Calls Tryz.prog f_header_Parse #[.string (mkS s54)] wl fun e55 w55 => ∃ (s55_0_0 : List UInt8) (s55_0_1 : List UInt8) (s55_0_2 : List UInt8) (s55_0_3 : List UInt8) (b55_0_4 : Bool) (n55_0_5 : Int) (b55_0_6 : Bool) (n55_0_7 : Int) (b55_0_8 : Bool) (b55_0_9 : Bool) (n55_0_10 : Int) (n55_1 : Int), e55 = .returned (.tuple #[.agg #[.string (mkS s55_0_0), .string (mkS s55_0_1), .string (mkS s55_0_2), .string (mkS s55_0_3), .bool b55_0_4, .int .i64 n55_0_5, .bool b55_0_6, .int .i64 n55_0_7, .bool b55_0_8, .bool b55_0_9, .int .i64 n55_0_10], .int .i64 n55_1]) ∧
  ∀ (k9 : Nat) (w9 : World), k9 = w55.heap.size → w9 = w55.alloc (.cells #[.string (mkS []), .string (mkS []), .string (mkS []), .string (mkS []), .bool false, .int .i64 (0 : Int), .bool false, .int .i64 (0 : Int), .bool false, .bool false, .int .i64 (0 : Int)] T_api_Header) →
  ∃ (wx_1 : World), (Instr.storeAt T_api_Header (.pointer (some ⟨k9, 0, none⟩)) (.agg #[.string (mkS s55_0_0), .string (mkS s55_0_1), .string (mkS s55_0_2), .string (mkS s55_0_3), .bool b55_0_4, .int .i64 n55_0_5, .bool b55_0_6, .int .i64 n55_0_7, .bool b55_0_8, .bool b55_0_9, .int .i64 n55_0_10])).run Tryz.prog w9 = .ok () wx_1 ∧
  ((((List.length s0 + List.length [59, 32, 77, 97, 120, 45, 65, 103, 101, 115, 61, 49, 59, 32, 80, 97, 116, 104, 50, 61, 47, 59, 32, 61, 120, 59, 59] : Nat) : Int) ≤ IntKind.i64.max)) ∧
  ∀ (s60 : List UInt8), s60 = (s0 ++ [59, 32, 77, 97, 120, 45, 65, 103, 101, 115, 61, 49, 59, 32, 80, 97, 116, 104, 50, 61, 47, 59, 32, 61, 120, 59, 59]) →
  Calls Tryz.prog f_header_Parse #[.string (mkS s60)] wx_1 fun e61 w61 => ∃ (s61_0_0 : List UInt8) (s61_0_1 : List UInt8) (s61_0_2 : List UInt8) (s61_0_3 : List UInt8) (b61_0_4 : Bool) (n61_0_5 : Int) (b61_0_6 : Bool) (n61_0_7 : Int) (b61_0_8 : Bool) (b61_0_9 : Bool) (n61_0_10 : Int) (n61_1 : Int), e61 = .returned (.tuple #[.agg #[.string (mkS s61_0_0), .string (mkS s61_0_1), .string (mkS s61_0_2), .string (mkS s61_0_3), .bool b61_0_4, .int .i64 n61_0_5, .bool b61_0_6, .int .i64 n61_0_7, .bool b61_0_8, .bool b61_0_9, .int .i64 n61_0_10], .int .i64 n61_1]) ∧
  ∀ (k11 : Nat) (w11 : World), k11 = w61.heap.size → w11 = w61.alloc (.cells #[.string (mkS []), .string (mkS []), .string (mkS []), .string (mkS []), .bool false, .int .i64 (0 : Int), .bool false, .int .i64 (0 : Int), .bool false, .bool false, .int .i64 (0 : Int)] T_api_Header) →
  ∃ (wx_2 : World), (Instr.storeAt T_api_Header (.pointer (some ⟨k11, 0, none⟩)) (.agg #[.string (mkS s61_0_0), .string (mkS s61_0_1), .string (mkS s61_0_2), .string (mkS s61_0_3), .bool b61_0_4, .int .i64 n61_0_5, .bool b61_0_6, .int .i64 n61_0_7, .bool b61_0_8, .bool b61_0_9, .int .i64 n61_0_10])).run Tryz.prog w11 = .ok () wx_2 ∧
  ((((List.length s0 + List.length [59, 83, 65, 77, 69, 83, 73, 84, 69, 61, 115, 116, 114, 105, 99, 116, 59, 115, 101, 99, 117, 114, 101, 61, 110, 111] : Nat) : Int) ≤ IntKind.i64.max)) ∧
  ∀ (s66 : List UInt8), s66 = (s0 ++ [59, 83, 65, 77, 69, 83, 73, 84, 69, 61, 115, 116, 114, 105, 99, 116, 59, 115, 101, 99, 117, 114, 101, 61, 110, 111]) →
  Calls Tryz.prog f_header_Parse #[.string (mkS s66)] wx_2 fun e67 w67 => ∃ (s67_0_0 : List UInt8) (s67_0_1 : List UInt8) (s67_0_2 : List UInt8) (s67_0_3 : List UInt8) (b67_0_4 : Bool) (n67_0_5 : Int) (b67_0_6 : Bool) (n67_0_7 : Int) (b67_0_8 : Bool) (b67_0_9 : Bool) (n67_0_10 : Int) (n67_1 : Int), e67 = .returned (.tuple #[.agg #[.string (mkS s67_0_0), .string (mkS s67_0_1), .string (mkS s67_0_2), .string (mkS s67_0_3), .bool b67_0_4, .int .i64 n67_0_5, .bool b67_0_6, .int .i64 n67_0_7, .bool b67_0_8, .bool b67_0_9, .int .i64 n67_0_10], .int .i64 n67_1]) ∧
  ∀ (k13 : Nat) (w13 : World), k13 = w67.heap.size → w13 = w67.alloc (.cells #[.string (mkS []), .string (mkS []), .string (mkS []), .string (mkS []), .bool false, .int .i64 (0 : Int), .bool false, .int .i64 (0 : Int), .bool false, .bool false, .int .i64 (0 : Int)] T_api_Header) →
  ∃ (wx_3 : World), (Instr.storeAt T_api_Header (.pointer (some ⟨k13, 0, none⟩)) (.agg #[.string (mkS s67_0_0), .string (mkS s67_0_1), .string (mkS s67_0_2), .string (mkS s67_0_3), .bool b67_0_4, .int .i64 n67_0_5, .bool b67_0_6, .int .i64 n67_0_7, .bool b67_0_8, .bool b67_0_9, .int .i64 n67_0_10])).run Tryz.prog w13 = .ok () wx_3 ∧
  ∃ (s70_0 : List UInt8) (s70_1 : List UInt8) (s70_2 : List UInt8) (s70_3 : List UInt8) (b70_4 : Bool) (n70_5 : Int) (b70_6 : Bool) (n70_7 : Int) (b70_8 : Bool) (b70_9 : Bool) (n70_10 : Int), (Instr.loadAt T_api_Header (.pointer (some ⟨k5, 0, none⟩))).run Tryz.prog wx_3 = .ok (.agg #[.string (mkS s70_0), .string (mkS s70_1), .string (mkS s70_2), .string (mkS s70_3), .bool b70_4, .int .i64 n70_5, .bool b70_6, .int .i64 n70_7, .bool b70_8, .bool b70_9, .int .i64 n70_10]) wx_3 ∧
  ∀ (k15 : Nat) (w15 : World), k15 = wx_3.heap.size → w15 = wx_3.alloc (.cells #[.string (mkS []), .string (mkS []), .string (mkS []), .string (mkS []), .bool false, .int .i64 (0 : Int), .bool false, .int .i64 (0 : Int), .bool false, .bool false, .int .i64 (0 : Int)] T_api_Header) →
  ∃ (wx_4 : World), (Instr.storeAt T_api_Header (.pointer (some ⟨k15, 0, none⟩)) (.agg #[.string (mkS s70_0), .string (mkS s70_1), .string (mkS s70_2), .string (mkS s70_3), .bool b70_4, .int .i64 n70_5, .bool b70_6, .int .i64 n70_7, .bool b70_8, .bool b70_9, .int .i64 n70_10])).run Tryz.prog w15 = .ok () wx_4 ∧
  (true = true) ∧
  ∃ (wx_5 : World), (Instr.storeAt T_bool (.pointer (some ⟨k15, 6, none⟩)) (.bool true)).run Tryz.prog wx_4 = .ok () wx_5 ∧
  (true = true) ∧
  ∃ (wx_6 : World), (Instr.storeAt T_int64 (.pointer (some ⟨k15, 7, none⟩)) (.int .i64 (IntKind.i64.wrap n1))).run Tryz.prog wx_5 = .ok () wx_6 ∧
  ∃ (s75_0 : List UInt8) (s75_1 : List UInt8) (s75_2 : List UInt8) (s75_3 : List UInt8) (b75_4 : Bool) (n75_5 : Int) (b75_6 : Bool) (n75_7 : Int) (b75_8 : Bool) (b75_9 : Bool) (n75_10 : Int), (Instr.loadAt T_api_Header (.pointer (some ⟨k5, 0, none⟩))).run Tryz.prog wx_6 = .ok (.agg #[.string (mkS s75_0), .string (mkS s75_1), .string (mkS s75_2), .string (mkS s75_3), .bool b75_4, .int .i64 n75_5, .bool b75_6, .int .i64 n75_7, .bool b75_8, .bool b75_9, .int .i64 n75_10]) wx_6 ∧
  ∀ (k16 : Nat) (w16 : World), k16 = wx_6.heap.size → w16 = wx_6.alloc (.cells #[.string (mkS []), .string (mkS []), .string (mkS []), .string (mkS []), .bool false, .int .i64 (0 : Int), .bool false, .int .i64 (0 : Int), .bool false, .bool false, .int .i64 (0 : Int)] T_api_Header) →
  ∃ (wx_7 : World), (Instr.storeAt T_api_Header (.pointer (some ⟨k16, 0, none⟩)) (.agg #[.string (mkS s75_0), .string (mkS s75_1), .string (mkS s75_2), .string (mkS s75_3), .bool b75_4, .int .i64 n75_5, .bool b75_6, .int .i64 n75_7, .bool b75_8, .bool b75_9, .int .i64 n75_10])).run Tryz.prog w16 = .ok () wx_7 ∧
  (true = true) ∧
  ∃ (wx_8 : World), (Instr.storeAt T_int (.pointer (some ⟨k16, 10, none⟩)) (.int .i64 (3 : Int))).run Tryz.prog wx_7 = .ok () wx_8 ∧
  (true = true) ∧
  ∃ (wx_9 : World), (Instr.storeAt T_bool (.pointer (some ⟨k16, 8, none⟩)) (.bool true)).run Tryz.prog wx_8 = .ok () wx_9 ∧
  BCase (n55_1 == (0 : Int))
  (∃ (s81_0 : List UInt8) (s81_1 : List UInt8) (s81_2 : List UInt8) (s81_3 : List UInt8) (b81_4 : Bool) (n81_5 : Int) (b81_6 : Bool) (n81_7 : Int) (b81_8 : Bool) (b81_9 : Bool) (n81_10 : Int), (Instr.loadAt T_api_Header (.pointer (some ⟨k9, 0, none⟩))).run Tryz.prog wx_9 = .ok (.agg #[.string (mkS s81_0), .string (mkS s81_1), .string (mkS s81_2), .string (mkS s81_3), .bool b81_4, .int .i64 n81_5, .bool b81_6, .int .i64 n81_7, .bool b81_8, .bool b81_9, .int .i64 n81_10]) wx_9 ∧
  ∃ (s82_0 : List UInt8) (s82_1 : List UInt8) (s82_2 : List UInt8) (s82_3 : List UInt8) (b82_4 : Bool) (n82_5 : Int) (b82_6 : Bool) (n82_7 : Int) (b82_8 : Bool) (b82_9 : Bool) (n82_10 : Int), (Instr.loadAt T_api_Header (.pointer (some ⟨k15, 0, none⟩))).run Tryz.prog wx_9 = .ok (.agg #[.string (mkS s82_0), .string (mkS s82_1), .string (mkS s82_2), .string (mkS s82_3), .bool b82_4, .int .i64 n82_5, .bool b82_6, .int .i64 n82_7, .bool b82_8, .bool b82_9, .int .i64 n82_10]) wx_9 ∧
  ∃ (b83 : Bool), ((do eqGuard .eql T_api_Header (.tmp 81) (.tmp 82) (.agg #[.string (mkS s81_0), .string (mkS s81_1), .string (mkS s81_2), .string (mkS s81_3), .bool b81_4, .int .i64 n81_5, .bool b81_6, .int .i64 n81_7, .bool b81_8, .bool b81_9, .int .i64 n81_10]) (.agg #[.string (mkS s82_0), .string (mkS s82_1), .string (mkS s82_2), .string (mkS s82_3), .bool b82_4, .int .i64 n82_5, .bool b82_6, .int .i64 n82_7, .bool b82_8, .bool b82_9, .int .i64 n82_10]); binOp .eql T_api_Header (.agg #[.string (mkS s81_0), .string (mkS s81_1), .string (mkS s81_2), .string (mkS s81_3), .bool b81_4, .int .i64 n81_5, .bool b81_6, .int .i64 n81_7, .bool b81_8, .bool b81_9, .int .i64 n81_10]) (.agg #[.string (mkS s82_0), .string (mkS s82_1), .string (mkS s82_2), .string (mkS s82_3), .bool b82_4, .int .i64 n82_5, .bool b82_6, .int .i64 n82_7, .bool b82_8, .bool b82_9, .int .i64 n82_10]) : Sem Value)).run Tryz.prog wx_9 = .ok (.bool b83) wx_9 ∧
  BCase b83
  (BCase (n61_1 == (0 : Int))
  (∃ (s90_0 : List UInt8) (s90_1 : List UInt8) (s90_2 : List UInt8) (s90_3 : List UInt8) (b90_4 : Bool) (n90_5 : Int) (b90_6 : Bool) (n90_7 : Int) (b90_8 : Bool) (b90_9 : Bool) (n90_10 : Int), (Instr.loadAt T_api_Header (.pointer (some ⟨k11, 0, none⟩))).run Tryz.prog wx_9 = .ok (.agg #[.string (mkS s90_0), .string (mkS s90_1), .string (mkS s90_2), .string (mkS s90_3), .bool b90_4, .int .i64 n90_5, .bool b90_6, .int .i64 n90_7, .bool b90_8, .bool b90_9, .int .i64 n90_10]) wx_9 ∧
  ∃ (s91_0 : List UInt8) (s91_1 : List UInt8) (s91_2 : List UInt8) (s91_3 : List UInt8) (b91_4 : Bool) (n91_5 : Int) (b91_6 : Bool) (n91_7 : Int) (b91_8 : Bool) (b91_9 : Bool) (n91_10 : Int), (Instr.loadAt T_api_Header (.pointer (some ⟨k5, 0, none⟩))).run Tryz.prog wx_9 = .ok (.agg #[.string (mkS s91_0), .string (mkS s91_1), .string (mkS s91_2), .string (mkS s91_3), .bool b91_4, .int .i64 n91_5, .bool b91_6, .int .i64 n91_7, .bool b91_8, .bool b91_9, .int .i64 n91_10]) wx_9 ∧
  ∃ (b92 : Bool), ((do eqGuard .eql T_api_Header (.tmp 90) (.tmp 91) (.agg #[.string (mkS s90_0), .string (mkS s90_1), .string (mkS s90_2), .string (mkS s90_3), .bool b90_4, .int .i64 n90_5, .bool b90_6, .int .i64 n90_7, .bool b90_8, .bool b90_9, .int .i64 n90_10]) (.agg #[.string (mkS s91_0), .string (mkS s91_1), .string (mkS s91_2), .string (mkS s91_3), .bool b91_4, .int .i64 n91_5, .bool b91_6, .int .i64 n91_7, .bool b91_8, .bool b91_9, .int .i64 n91_10]); binOp .eql T_api_Header (.agg #[.string (mkS s90_0), .string (mkS s90_1), .string (mkS s90_2), .string (mkS s90_3), .bool b90_4, .int .i64 n90_5, .bool b90_6, .int .i64 n90_7, .bool b90_8, .bool b90_9, .int .i64 n90_10]) (.agg #[.string (mkS s91_0), .string (mkS s91_1), .string (mkS s91_2), .string (mkS s91_3), .bool b91_4, .int .i64 n91_5, .bool b91_6, .int .i64 n91_7, .bool b91_8, .bool b91_9, .int .i64 n91_10]) : Sem Value)).run Tryz.prog wx_9 = .ok (.bool b92) wx_9 ∧
  BCase b92
  (BCase (n67_1 == (0 : Int))
  (∃ (s99_0 : List UInt8) (s99_1 : List UInt8) (s99_2 : List UInt8) (s99_3 : List UInt8) (b99_4 : Bool) (n99_5 : Int) (b99_6 : Bool) (n99_7 : Int) (b99_8 : Bool) (b99_9 : Bool) (n99_10 : Int), (Instr.loadAt T_api_Header (.pointer (some ⟨k13, 0, none⟩))).run Tryz.prog wx_9 = .ok (.agg #[.string (mkS s99_0), .string (mkS s99_1), .string (mkS s99_2), .string (mkS s99_3), .bool b99_4, .int .i64 n99_5, .bool b99_6, .int .i64 n99_7, .bool b99_8, .bool b99_9, .int .i64 n99_10]) wx_9 ∧
  ∃ (s100_0 : List UInt8) (s100_1 : List UInt8) (s100_2 : List UInt8) (s100_3 : List UInt8) (b100_4 : Bool) (n100_5 : Int) (b100_6 : Bool) (n100_7 : Int) (b100_8 : Bool) (b100_9 : Bool) (n100_10 : Int), (Instr.loadAt T_api_Header (.pointer (some ⟨k16, 0, none⟩))).run Tryz.prog wx_9 = .ok (.agg #[.string (mkS s100_0), .string (mkS s100_1), .string (mkS s100_2), .string (mkS s100_3), .bool b100_4, .int .i64 n100_5, .bool b100_6, .int .i64 n100_7, .bool b100_8, .bool b100_9, .int .i64 n100_10]) wx_9 ∧
  ∃ (b101 : Bool), ((do eqGuard .eql T_api_Header (.tmp 99) (.tmp 100) (.agg #[.string (mkS s99_0), .string (mkS s99_1), .string (mkS s99_2), .string (mkS s99_3), .bool b99_4, .int .i64 n99_5, .bool b99_6, .int .i64 n99_7, .bool b99_8, .bool b99_9, .int .i64 n99_10]) (.agg #[.string (mkS s100_0), .string (mkS s100_1), .string (mkS s100_2), .string (mkS s100_3), .bool b100_4, .int .i64 n100_5, .bool b100_6, .int .i64 n100_7, .bool b100_8, .bool b100_9, .int .i64 n100_10]); binOp .eql T_api_Header (.agg #[.string (mkS s99_0), .string (mkS s99_1), .string (mkS s99_2), .string (mkS s99_3), .bool b99_4, .int .i64 n99_5, .bool b99_6, .int .i64 n99_7, .bool b99_8, .bool b99_9, .int .i64 n99_10]) (.agg #[.string (mkS s100_0), .string (mkS s100_1), .string (mkS s100_2), .string (mkS s100_3), .bool b100_4, .int .i64 n100_5, .bool b100_6, .int .i64 n100_7, .bool b100_8, .bool b100_9, .int .i64 n100_10]) : Sem Value)).run Tryz.prog wx_9 = .ok (.bool b101) wx_9 ∧
  K (.bool b101) wx_9)
  (K (.bool false) wx_9))
  (K (.bool false) wx_9))
  (K (.bool false) wx_9))
  (K (.bool false) wx_9))
  (K (.bool false) wx_9)))) ∧
  AllJ 6 (∀ (wj_1 : World), J_1 wj_1 →
  ((10 : Int) ≠ 0) ∧
  ∀ (q42 : Int), q42 = (Int.tmod n8 (10 : Int)) →
  ∀ (k45 : Nat) (w45 : World), k45 = wj_1.heap.size → w45 = wj_1.alloc (.cells #[.int .u8 (IntKind.u8.wrap (IntKind.i64.wrap ((48 : Int) + q42)))] T_uint8) →
  ∃ (s46 : List UInt8), (convert T_sl_uint8 T_string (.slice (some ⟨k45, 0, none⟩) 1 1)).run Tryz.prog w45 = .ok (.string (mkS s46)) w45 ∧
  ((((List.length s46 + List.length s7 : Nat) : Int) ≤ IntKind.i64.max)) ∧
  ∀ (s48 : List UInt8), s48 = (s46 ++ s7) →
  ((10 : Int) ≠ 0) ∧
  ∀ (q40 : Int), q40 = (IntKind.i64.wrap (Int.tdiv n8 (10 : Int))) →
  ∃ m' : Nat, m' < m ∧ I m' s48 q40 w45))))
theorem run_law08_HeaderLast (s0 : List UInt8) (n1 : Int) {w : World} {K : Value → World → Prop} (h : vc_law08_HeaderLast s0 n1 w K) : Calls Tryz.prog f_law08_HeaderLast #[.string (mkS s0), .int .u16 n1] w (Ret K) :=
  calls_E (c := bodyOf Tryz.f6) (by kernel_rfl) Tryz.func6 (by kernel_rfl) [(12, []), (26, [(7, .one (.str)), (8, .one (.int .i64))]), (27, [])] [.string (mkS s0), .int .u16 n1] (of_decide_eq_true (by kernel_rfl)) (vc_law08_HeaderLast s0 n1 w K) (by kernel_rfl) h

--  cracknel/cracknellaw08.HeaderKeeps
def vc_law08_HeaderKeeps (s0 : List UInt8) (w : World) (K : Value → World → Prop) : Prop :=
  Calls Tryz.prog f_law08_headerAlive #[] w fun e8 w8 => ∃ (b8 : Bool), e8 = .returned (.bool b8) ∧
  BCase (!b8)
  (K (.bool false) w8)
  (BCase (decide (((List.length s0 : Nat) : Int) > (6000 : Int)))
  (K (.bool true) w8)
  (Calls Tryz.prog f_header_Parse #[.string (mkS s0)] w8 fun e15 w15 => ∃ (s15_0_0 : List UInt8) (s15_0_1 : List UInt8) (s15_0_2 : List UInt8) (s15_0_3 : List UInt8) (b15_0_4 : Bool) (n15_0_5 : Int) (b15_0_6 : Bool) (n15_0_7 : Int) (b15_0_8 : Bool) (b15_0_9 : Bool) (n15_0_10 : Int) (n15_1 : Int), e15 = .returned (.tuple #[.agg #[.string (mkS s15_0_0), .string (mkS s15_0_1), .string (mkS s15_0_2), .string (mkS s15_0_3), .bool b15_0_4, .int .i64 n15_0_5, .bool b15_0_6, .int .i64 n15_0_7, .bool b15_0_8, .bool b15_0_9, .int .i64 n15_0_10], .int .i64 n15_1]) ∧
  ∀ (k3 : Nat) (w3 : World), k3 = w15.heap.size → w3 = w15.alloc (.cells #[.string (mkS []), .string (mkS []), .string (mkS []), .string (mkS []), .bool false, .int .i64 (0 : Int), .bool false, .int .i64 (0 : Int), .bool false, .bool false, .int .i64 (0 : Int)] T_api_Header) →
  ∃ (wx : World), (Instr.storeAt T_api_Header (.pointer (some ⟨k3, 0, none⟩)) (.agg #[.string (mkS s15_0_0), .string (mkS s15_0_1), .string (mkS s15_0_2), .string (mkS s15_0_3), .bool b15_0_4, .int .i64 n15_0_5, .bool b15_0_6, .int .i64 n15_0_7, .bool b15_0_8, .bool b15_0_9, .int .i64 n15_0_10])).run Tryz.prog w3 = .ok () wx ∧
  BCase (n15_1 != (0 : Int))
  (K (.bool true) wx)
  ((true = true) ∧
  ∃ (s21 : List UInt8), (Instr.loadAt T_string (.pointer (some ⟨k3, 0, none⟩))).run Tryz.prog wx = .ok (.string (mkS s21)) wx ∧
  (true = true) ∧
  ∃ (s23 : List UInt8), (Instr.loadAt T_string (.pointer (some ⟨k3, 1, none⟩))).run Tryz.prog wx = .ok (.string (mkS s23)) wx ∧
  (true = true) ∧
  ∃ (s25 : List UInt8), (Instr.loadAt T_string (.pointer (some ⟨k3, 2, none⟩))).run Tryz.prog wx = .ok (.string (mkS s25)) wx ∧
  (true = true) ∧
  ∃ (s27 : List UInt8), (Instr.loadAt T_string (.pointer (some ⟨k3, 3, none⟩))).run Tryz.prog wx = .ok (.string (mkS s27)) wx ∧
  ∃ I : Nat → FP [.one (.int .i64)],
  (∃ m : Nat, I m (0 : Int) wx) ∧
  ∀ (m : Nat) (n29 : Int), AllJ 34 (∀ (wl : World), I m n29 wl →
  BCase (decide (n29 < (4 : Int)))
  (∃ (s31 : List UInt8), (Instr.index T_arr4_string (.agg #[.string (mkS s21), .string (mkS s23), .string (mkS s25), .string (mkS s27)]) (.int .i64 n29)).run Tryz.prog wl = .ok (.string (mkS s31)) wl ∧
  ∃ I_1 : Nat → FP [.one (.int .i64)],
  (∃ m_1 : Nat, I_1 m_1 (0 : Int) wl) ∧
  ∀ (m_1 : Nat) (n7 : Int), AllJ 29 (∀ (wl_1 : World), I_1 m_1 n7 wl_1 →
  BCase (decide (n7 < ((List.length s31 : Nat) : Int)))
  (((0 ≤ n7 ∧ n7 < ((List.length s31 : Nat) : Int))) ∧
  BCase ((byteAt s31 n7) == (59 : Int))
  (K (.bool false) wl_1)
  (((0 ≤ n7 ∧ n7 < ((List.length s31 : Nat) : Int))) ∧
  BCase (decide ((byteAt s31 n7) < (32 : Int)))
  (((0 ≤ n7 ∧ n7 < ((List.length s31 : Nat) : Int))) ∧
  BCase ((byteAt s31 n7) != (9 : Int))
  (K (.bool false) wl_1)
  (((0 ≤ n7 ∧ n7 < ((List.length s31 : Nat) : Int))) ∧
  BCase ((byteAt s31 n7) == (127 : Int))
  (K (.bool false) wl_1)
  (∃ m'_1 : Nat, m'_1 < m_1 ∧ I_1 m'_1 (IntKind.i64.wrap (n7 + (1 : Int))) wl_1)))
  (((0 ≤ n7 ∧ n7 < ((List.length s31 : Nat) : Int))) ∧
  BCase ((byteAt s31 n7) == (127 : Int))
  (K (.bool false) wl_1)
  (∃ m'_1 : Nat, m'_1 < m_1 ∧ I_1 m'_1 (IntKind.i64.wrap (n7 + (1 : Int))) wl_1))))
  (∃ m' : Nat, m' < m ∧ I m' (IntKind.i64.wrap (n29 + (1 : Int))) wl_1)))
  ((true = true) ∧
  ∃ (s62 : List UInt8), (Instr.loadAt T_string (.pointer (some ⟨k3, 0, none⟩))).run Tryz.prog wl = .ok (.string (mkS s62)) wl ∧
  (true = true) ∧
  ∃ (s65 : List UInt8), (Instr.loadAt T_string (.pointer (some ⟨k3, 1, none⟩))).run Tryz.prog wl = .ok (.string (mkS s65)) wl ∧
  BCase (decide ((IntKind.i64.wrap (((List.length s62 : Nat) : Int) + ((List.length s65 : Nat) : Int))) ≤ (4096 : Int)))
  ((true = true) ∧
  ∃ (s71 : List UInt8), (Instr.loadAt T_string (.pointer (some ⟨k3, 0, none⟩))).run Tryz.prog wl = .ok (.string (mkS s71)) wl ∧
  (true = true) ∧
  ∃ (s74 : List UInt8), (Instr.loadAt T_string (.pointer (some ⟨k3, 1, none⟩))).run Tryz.prog wl = .ok (.string (mkS s74)) wl ∧
  BCase (decide ((IntKind.i64.wrap (((List.length s71 : Nat) : Int) + ((List.length s74 : Nat) : Int))) > (0 : Int)))
  ((true = true) ∧
  ∃ (n81 : Int), (Instr.loadAt T_int64 (.pointer (some ⟨k3, 7, none⟩))).run Tryz.prog wl = .ok (.int .i64 n81) wl ∧
  BCase (decide (n81 ≥ (0 : Int)))
  ((true = true) ∧
  ∃ (n86 : Int), (Instr.loadAt T_int64 (.pointer (some ⟨k3, 7, none⟩))).run Tryz.prog wl = .ok (.int .i64 n86) wl ∧
  BCase (decide (n86 ≤ (34560000 : Int)))
  ((true = true) ∧
  ∃ (s91 : List UInt8), (Instr.loadAt T_string (.pointer (some ⟨k3, 2, none⟩))).run Tryz.prog wl = .ok (.string (mkS s91)) wl ∧
  BCase (decide (((List.length s91 : Nat) : Int) ≤ (1024 : Int)))
  ((true = true) ∧
  ∃ (s97 : List UInt8), (Instr.loadAt T_string (.pointer (some ⟨k3, 3, none⟩))).run Tryz.prog wl = .ok (.string (mkS s97)) wl ∧
  BCase (decide (((List.length s97 : Nat) : Int) ≤ (1024 : Int)))
  ((true = true) ∧
  ∃ (s103 : List UInt8), (Instr.loadAt T_string (.pointer (some ⟨k3, 3, none⟩))).run Tryz.prog wl = .ok (.string (mkS s103)) wl ∧
  BCase (s103 == [])
  ((true = true) ∧
  ∃ (n114 : Int), (Instr.loadAt T_int (.pointer (some ⟨k3, 10, none⟩))).run Tryz.prog wl = .ok (.int .i64 n114) wl ∧
  BCase (decide (n114 ≥ (0 : Int)))
  ((true = true) ∧
  ∃ (n119 : Int), (Instr.loadAt T_int (.pointer (some ⟨k3, 10, none⟩))).run Tryz.prog wl = .ok (.int .i64 n119) wl ∧
  K (.bool (decide (n119 ≤ (3 : Int)))) wl)
  (K (.bool false) wl))
  ((true = true) ∧
  ∃ (s107 : List UInt8), (Instr.loadAt T_string (.pointer (some ⟨k3, 3, none⟩))).run Tryz.prog wl = .ok (.string (mkS s107)) wl ∧
  ((0 ≤ (0 : Int) ∧ (0 : Int) < ((List.length s107 : Nat) : Int))) ∧
  BCase ((byteAt s107 (0 : Int)) == (47 : Int))
  ((true = true) ∧
  ∃ (n114_1 : Int), (Instr.loadAt T_int (.pointer (some ⟨k3, 10, none⟩))).run Tryz.prog wl = .ok (.int .i64 n114_1) wl ∧
  BCase (decide (n114_1 ≥ (0 : Int)))
  ((true = true) ∧
  ∃ (n119_1 : Int), (Instr.loadAt T_int (.pointer (some ⟨k3, 10, none⟩))).run Tryz.prog wl = .ok (.int .i64 n119_1) wl ∧
  K (.bool (decide (n119_1 ≤ (3 : Int)))) wl)
  (K (.bool false) wl))
  (K (.bool false) wl)))
  (K (.bool false) wl))
  (K (.bool false) wl))
  (K (.bool false) wl))
  (K (.bool false) wl))
  (K (.bool false) wl))
  (K (.bool false) wl))))))
theorem run_law08_HeaderKeeps (s0 : List UInt8) {w : World} {K : Value → World → Prop} (h : vc_law08_HeaderKeeps s0 w K) : Calls Tryz.prog f_law08_HeaderKeeps #[.string (mkS s0)] w (Ret K) :=
  calls_E (c := bodyOf Tryz.f7) (by kernel_rfl) Tryz.func7 (by kernel_rfl) [(32, [(29, .one (.int .i64))]), (46, [(7, .one (.int .i64))])] [.string (mkS s0)] (of_decide_eq_true (by kernel_rfl)) (vc_law08_HeaderKeeps s0 w K) (by kernel_rfl) h

--  cracknel/header.Parse
def vc_header_Parse (s0 : List UInt8) (w : World) (K : Value → World → Prop) : Prop :=
  ∀ (k2 : Nat) (w2 : World), k2 = w.heap.size → w2 = w.alloc (.cells #[.string (mkS []), .string (mkS []), .string (mkS []), .string (mkS []), .bool false, .int .i64 (0 : Int), .bool false, .int .i64 (0 : Int), .bool false, .bool false, .int .i64 (0 : Int)] T_api_Header) →
  Calls Tryz.prog f_header_control #[.string (mkS s0)] w2 fun e15 w15 => ∃ (b15 : Bool), e15 = .returned (.bool b15) ∧
  BCase b15
  (∃ (wx : World), (Instr.storeAt T_api_Header (.pointer (some ⟨k2, 0, none⟩)) (.agg #[.string (mkS []), .string (mkS []), .string (mkS []), .string (mkS []), .bool false, .int .i64 (0 : Int), .bool false, .int .i64 (0 : Int), .bool false, .bool false, .int .i64 (0 : Int)])).run Tryz.prog w15 = .ok () wx ∧
  ∃ (sr0_0 : List UInt8) (sr0_1 : List UInt8) (sr0_2 : List UInt8) (sr0_3 : List UInt8) (br0_4 : Bool) (nr0_5 : Int) (br0_6 : Bool) (nr0_7 : Int) (br0_8 : Bool) (br0_9 : Bool) (nr0_10 : Int), (resAt T_api_Header (.pointer (some ⟨k2, 0, none⟩))).run Tryz.prog wx = .ok (.agg #[.string (mkS sr0_0), .string (mkS sr0_1), .string (mkS sr0_2), .string (mkS sr0_3), .bool br0_4, .int .i64 nr0_5, .bool br0_6, .int .i64 nr0_7, .bool br0_8, .bool br0_9, .int .i64 nr0_10]) wx ∧
  K (.tuple #[.agg #[.string (mkS sr0_0), .string (mkS sr0_1), .string (mkS sr0_2), .string (mkS sr0_3), .bool br0_4, .int .i64 nr0_5, .bool br0_6, .int .i64 nr0_7, .bool br0_8, .bool br0_9, .int .i64 nr0_10], .int .i64 (81 : Int)]) wx)
  (Calls Tryz.prog f_octet_Split #[.string (mkS s0), .int .u8 (59 : Int)] w15 fun e18 w18 => ∃ (a18 : Option Addr) (l18 c18 : Nat), e18 = .returned (.slice a18 l18 c18) ∧
  ∀ (k5 : Nat) (w5 : World), k5 = w18.heap.size → w5 = w18.alloc (.cells #[.string (mkS []), .string (mkS []), .string (mkS []), .string (mkS []), .bool false, .int .i64 (0 : Int), .bool false, .int .i64 (0 : Int), .bool false, .bool false, .int .i64 (0 : Int)] T_api_Header) →
  ((0 ≤ (0 : Int) ∧ (0 : Int) < ((l18 : Nat) : Int)) ∧ Option.isSome a18 = true) ∧
  ∃ (s22 : List UInt8), (Instr.loadAt T_string (.pointer (elemAddr a18 (0 : Int) 1))).run Tryz.prog w5 = .ok (.string (mkS s22)) w5 ∧
  Calls Tryz.prog f_header_pair #[.string (mkS s22)] w5 fun e23 w23 => ∃ (s23_0 : List UInt8) (s23_1 : List UInt8) (b23_2 : Bool), e23 = .returned (.tuple #[.string (mkS s23_0), .string (mkS s23_1), .bool b23_2]) ∧
  ∃ J : FP [.one (.str), .one (.str)],
  (BCase (!b23_2)
  (J [] s23_0 w23)
  (J s23_0 s23_1 w23)) ∧
  ∀ (s6 : List UInt8) (s7 : List UInt8), AllJ 3 (∀ (wj : World), J s6 s7 wj →
  ((((List.length s6 + List.length s7 : Nat) : Int) ≤ IntKind.i64.max)) ∧
  ∀ (s33 : List UInt8), s33 = (s6 ++ s7) →
  BCase (s33 == [])
  (∃ (wx_1 : World), (Instr.storeAt T_api_Header (.pointer (some ⟨k2, 0, none⟩)) (.agg #[.string (mkS []), .string (mkS []), .string (mkS []), .string (mkS []), .bool false, .int .i64 (0 : Int), .bool false, .int .i64 (0 : Int), .bool false, .bool false, .int .i64 (0 : Int)])).run Tryz.prog wj = .ok () wx_1 ∧
  ∃ (sr0_0_1 : List UInt8) (sr0_1_1 : List UInt8) (sr0_2_1 : List UInt8) (sr0_3_1 : List UInt8) (br0_4_1 : Bool) (nr0_5_1 : Int) (br0_6_1 : Bool) (nr0_7_1 : Int) (br0_8_1 : Bool) (br0_9_1 : Bool) (nr0_10_1 : Int), (resAt T_api_Header (.pointer (some ⟨k2, 0, none⟩))).run Tryz.prog wx_1 = .ok (.agg #[.string (mkS sr0_0_1), .string (mkS sr0_1_1), .string (mkS sr0_2_1), .string (mkS sr0_3_1), .bool br0_4_1, .int .i64 nr0_5_1, .bool br0_6_1, .int .i64 nr0_7_1, .bool br0_8_1, .bool br0_9_1, .int .i64 nr0_10_1]) wx_1 ∧
  K (.tuple #[.agg #[.string (mkS sr0_0_1), .string (mkS sr0_1_1), .string (mkS sr0_2_1), .string (mkS sr0_3_1), .bool br0_4_1, .int .i64 nr0_5_1, .bool br0_6_1, .int .i64 nr0_7_1, .bool br0_8_1, .bool br0_9_1, .int .i64 nr0_10_1], .int .i64 (82 : Int)]) wx_1)
  (BCase (decide ((IntKind.i64.wrap (((List.length s6 : Nat) : Int) + ((List.length s7 : Nat) : Int))) > (4096 : Int)))
  (∃ (wx_2 : World), (Instr.storeAt T_api_Header (.pointer (some ⟨k2, 0, none⟩)) (.agg #[.string (mkS []), .string (mkS []), .string (mkS []), .string (mkS []), .bool false, .int .i64 (0 : Int), .bool false, .int .i64 (0 : Int), .bool false, .bool false, .int .i64 (0 : Int)])).run Tryz.prog wj = .ok () wx_2 ∧
  ∃ (sr0_0_2 : List UInt8) (sr0_1_2 : List UInt8) (sr0_2_2 : List UInt8) (sr0_3_2 : List UInt8) (br0_4_2 : Bool) (nr0_5_2 : Int) (br0_6_2 : Bool) (nr0_7_2 : Int) (br0_8_2 : Bool) (br0_9_2 : Bool) (nr0_10_2 : Int), (resAt T_api_Header (.pointer (some ⟨k2, 0, none⟩))).run Tryz.prog wx_2 = .ok (.agg #[.string (mkS sr0_0_2), .string (mkS sr0_1_2), .string (mkS sr0_2_2), .string (mkS sr0_3_2), .bool br0_4_2, .int .i64 nr0_5_2, .bool br0_6_2, .int .i64 nr0_7_2, .bool br0_8_2, .bool br0_9_2, .int .i64 nr0_10_2]) wx_2 ∧
  K (.tuple #[.agg #[.string (mkS sr0_0_2), .string (mkS sr0_1_2), .string (mkS sr0_2_2), .string (mkS sr0_3_2), .bool br0_4_2, .int .i64 nr0_5_2, .bool br0_6_2, .int .i64 nr0_7_2, .bool br0_8_2, .bool br0_9_2, .int .i64 nr0_10_2], .int .i64 (83 : Int)]) wx_2)
  ((true = true) ∧
  ∃ (wx_3 : World), (Instr.storeAt T_string (.pointer (some ⟨k5, 0, none⟩)) (.string (mkS s6))).run Tryz.prog wj = .ok () wx_3 ∧
  (true = true) ∧
  ∃ (wx_4 : World), (Instr.storeAt T_string (.pointer (some ⟨k5, 1, none⟩)) (.string (mkS s7))).run Tryz.prog wx_3 = .ok () wx_4 ∧
  ((0 ≤ (1 : Int) ∧ (1 : Int) ≤ ((l18 : Nat) : Int))) ∧
  ∃ I : Nat → FP [.one (.int .i64)],
  (∃ m : Nat, I m (0 : Int) wx_4) ∧
  ∀ (m : Nat) (n51 : Int), AllJ 21 (∀ (wl : World), I m n51 wl →
  BCase (decide (n51 < (((l18 - (Int.toNat (1 : Int))) : Nat) : Int)))
  (((0 ≤ n51 ∧ n51 < (((l18 - (Int.toNat (1 : Int))) : Nat) : Int)) ∧ Option.isSome (subAddr a18 c18 (Int.toNat (1 : Int)) 1) = true) ∧
  ∃ (s54 : List UInt8), (Instr.loadAt T_string (.pointer (elemAddr (subAddr a18 c18 (Int.toNat (1 : Int)) 1) n51 1))).run Tryz.prog wl = .ok (.string (mkS s54)) wl ∧
  Calls Tryz.prog f_header_pair #[.string (mkS s54)] wl fun e57 w57 => ∃ (s57_0 : List UInt8) (s57_1 : List UInt8) (b57_2 : Bool), e57 = .returned (.tuple #[.string (mkS s57_0), .string (mkS s57_1), .bool b57_2]) ∧
  BCase (decide (((List.length s57_1 : Nat) : Int) ≤ (1024 : Int)))
  (Calls Tryz.prog f_octet_Lower #[.string (mkS s57_0)] w57 fun e65 w65 => ∃ (s65 : List UInt8), e65 = .returned (.string (mkS s65)) ∧
  Calls Tryz.prog f_header_attribute #[.pointer (some ⟨k5, 0, none⟩), .string (mkS s65), .string (mkS s57_1)] w65 fun e67 w67 => e67 = .returned (.tuple #[]) ∧
  ∃ m' : Nat, m' < m ∧ I m' (IntKind.i64.wrap (n51 + (1 : Int))) w67)
  (∃ m' : Nat, m' < m ∧ I m' (IntKind.i64.wrap (n51 + (1 : Int))) w57))
  (∃ (s69_0 : List UInt8) (s69_1 : List UInt8) (s69_2 : List UInt8) (s69_3 : List UInt8) (b69_4 : Bool) (n69_5 : Int) (b69_6 : Bool) (n69_7 : Int) (b69_8 : Bool) (b69_9 : Bool) (n69_10 : Int), (Instr.loadAt T_api_Header (.pointer (some ⟨k5, 0, none⟩))).run Tryz.prog wl = .ok (.agg #[.string (mkS s69_0), .string (mkS s69_1), .string (mkS s69_2), .string (mkS s69_3), .bool b69_4, .int .i64 n69_5, .bool b69_6, .int .i64 n69_7, .bool b69_8, .bool b69_9, .int .i64 n69_10]) wl ∧
  ∃ (wx_5 : World), (Instr.storeAt T_api_Header (.pointer (some ⟨k2, 0, none⟩)) (.agg #[.string (mkS s69_0), .string (mkS s69_1), .string (mkS s69_2), .string (mkS s69_3), .bool b69_4, .int .i64 n69_5, .bool b69_6, .int .i64 n69_7, .bool b69_8, .bool b69_9, .int .i64 n69_10])).run Tryz.prog wl = .ok () wx_5 ∧
  ∃ (sr0_0_3 : List UInt8) (sr0_1_3 : List UInt8) (sr0_2_3 : List UInt8) (sr0_3_3 : List UInt8) (br0_4_3 : Bool) (nr0_5_3 : Int) (br0_6_3 : Bool) (nr0_7_3 : Int) (br0_8_3 : Bool) (br0_9_3 : Bool) (nr0_10_3 : Int), (resAt T_api_Header (.pointer (some ⟨k2, 0, none⟩))).run Tryz.prog wx_5 = .ok (.agg #[.string (mkS sr0_0_3), .string (mkS sr0_1_3), .string (mkS sr0_2_3), .string (mkS sr0_3_3), .bool br0_4_3, .int .i64 nr0_5_3, .bool br0_6_3, .int .i64 nr0_7_3, .bool br0_8_3, .bool br0_9_3, .int .i64 nr0_10_3]) wx_5 ∧
  K (.tuple #[.agg #[.string (mkS sr0_0_3), .string (mkS sr0_1_3), .string (mkS sr0_2_3), .string (mkS sr0_3_3), .bool br0_4_3, .int .i64 nr0_5_3, .bool br0_6_3, .int .i64 nr0_7_3, .bool br0_8_3, .bool br0_9_3, .int .i64 nr0_10_3], .int .i64 (0 : Int)]) wx_5))))))
theorem run_header_Parse (s0 : List UInt8) {w : World} {K : Value → World → Prop} (h : vc_header_Parse s0 w K) : Calls Tryz.prog f_header_Parse #[.string (mkS s0)] w (Ret K) :=
  calls_E (c := bodyOf Tryz.f8) (by kernel_rfl) Tryz.func8 (by kernel_rfl) [(16, [(6, .one (.str)), (7, .one (.str))]), (43, [(51, .one (.int .i64))])] [.string (mkS s0)] (of_decide_eq_true (by kernel_rfl)) (vc_header_Parse s0 w K) (by kernel_rfl) h

--  cracknel/cracknellaw08.headerAlive
def vc_law08_headerAlive  (w : World) (K : Value → World → Prop) : Prop :=
  Calls Tryz.prog f_header_Parse #[.string (mkS [97, 61, 98, 59, 32, 112, 97, 116, 104, 61, 47, 120, 59, 32, 77, 65, 88, 45, 65, 71, 69, 61, 53, 59, 32, 83, 101, 99, 117, 114, 101])] w fun e4 w4 => ∃ (s4_0_0 : List UInt8) (s4_0_1 : List UInt8) (s4_0_2 : List UInt8) (s4_0_3 : List UInt8) (b4_0_4 : Bool) (n4_0_5 : Int) (b4_0_6 : Bool) (n4_0_7 : Int) (b4_0_8 : Bool) (b4_0_9 : Bool) (n4_0_10 : Int) (n4_1 : Int), e4 = .returned (.tuple #[.agg #[.string (mkS s4_0_0), .string (mkS s4_0_1), .string (mkS s4_0_2), .string (mkS s4_0_3), .bool b4_0_4, .int .i64 n4_0_5, .bool b4_0_6, .int .i64 n4_0_7, .bool b4_0_8, .bool b4_0_9, .int .i64 n4_0_10], .int .i64 n4_1]) ∧
  ∀ (k1 : Nat) (w1 : World), k1 = w4.heap.size → w1 = w4.alloc (.cells #[.string (mkS []), .string (mkS []), .string (mkS []), .string (mkS []), .bool false, .int .i64 (0 : Int), .bool false, .int .i64 (0 : Int), .bool false, .bool false, .int .i64 (0 : Int)] T_api_Header) →
  ∃ (wx : World), (Instr.storeAt T_api_Header (.pointer (some ⟨k1, 0, none⟩)) (.agg #[.string (mkS s4_0_0), .string (mkS s4_0_1), .string (mkS s4_0_2), .string (mkS s4_0_3), .bool b4_0_4, .int .i64 n4_0_5, .bool b4_0_6, .int .i64 n4_0_7, .bool b4_0_8, .bool b4_0_9, .int .i64 n4_0_10])).run Tryz.prog w1 = .ok () wx ∧
  BCase (n4_1 == (0 : Int))
  (∃ (s10_0 : List UInt8) (s10_1 : List UInt8) (s10_2 : List UInt8) (s10_3 : List UInt8) (b10_4 : Bool) (n10_5 : Int) (b10_6 : Bool) (n10_7 : Int) (b10_8 : Bool) (b10_9 : Bool) (n10_10 : Int), (Instr.loadAt T_api_Header (.pointer (some ⟨k1, 0, none⟩))).run Tryz.prog wx = .ok (.agg #[.string (mkS s10_0), .string (mkS s10_1), .string (mkS s10_2), .string (mkS s10_3), .bool b10_4, .int .i64 n10_5, .bool b10_6, .int .i64 n10_7, .bool b10_8, .bool b10_9, .int .i64 n10_10]) wx ∧
  ∃ (b12 : Bool), ((do eqGuard .eql T_api_Header (.tmp 10) (.tmp 11) (.agg #[.string (mkS s10_0), .string (mkS s10_1), .string (mkS s10_2), .string (mkS s10_3), .bool b10_4, .int .i64 n10_5, .bool b10_6, .int .i64 n10_7, .bool b10_8, .bool b10_9, .int .i64 n10_10]) (.agg #[.string (mkS [97]), .string (mkS [98]), .string (mkS []), .string (mkS [47, 120]), .bool false, .int .i64 (0 : Int), .bool true, .int .i64 (5 : Int), .bool true, .bool false, .int .i64 (0 : Int)]); binOp .eql T_api_Header (.agg #[.string (mkS s10_0), .string (mkS s10_1), .string (mkS s10_2), .string (mkS s10_3), .bool b10_4, .int .i64 n10_5, .bool b10_6, .int .i64 n10_7, .bool b10_8, .bool b10_9, .int .i64 n10_10]) (.agg #[.string (mkS [97]), .string (mkS [98]), .string (mkS []), .string (mkS [47, 120]), .bool false, .int .i64 (0 : Int), .bool true, .int .i64 (5 : Int), .bool true, .bool false, .int .i64 (0 : Int)]) : Sem Value)).run Tryz.prog wx = .ok (.bool b12) wx ∧
  BCase b12
  (∃ (s15_0 : List UInt8) (s15_1 : List UInt8) (s15_2 : List UInt8) (s15_3 : List UInt8) (b15_4 : Bool) (n15_5 : Int) (b15_6 : Bool) (n15_7 : Int) (b15_8 : Bool) (b15_9 : Bool) (n15_10 : Int), (Instr.loadAt T_api_Header (.pointer (some ⟨k1, 0, none⟩))).run Tryz.prog wx = .ok (.agg #[.string (mkS s15_0), .string (mkS s15_1), .string (mkS s15_2), .string (mkS s15_3), .bool b15_4, .int .i64 n15_5, .bool b15_6, .int .i64 n15_7, .bool b15_8, .bool b15_9, .int .i64 n15_10]) wx ∧
  Calls Tryz.prog f_header_Text #[.agg #[.string (mkS s15_0), .string (mkS s15_1), .string (mkS s15_2), .string (mkS s15_3), .bool b15_4, .int .i64 n15_5, .bool b15_6, .int .i64 n15_7, .bool b15_8, .bool b15_9, .int .i64 n15_10]] wx fun e16 w16 => ∃ (s16 : List UInt8), e16 = .returned (.string (mkS s16)) ∧
  K (.bool (s16 == [97, 61, 98, 59, 32, 77, 97, 120, 45, 65, 103, 101, 61, 53, 59, 32, 80, 97, 116, 104, 61, 47, 120, 59, 32, 83, 101, 99, 117, 114, 101])) w16)
  (K (.bool false) wx))
  (K (.bool false) wx)
theorem run_law08_headerAlive  {w : World} {K : Value → World → Prop} (h : vc_law08_headerAlive  w K) : Calls Tryz.prog f_law08_headerAlive #[] w (Ret K) :=
  calls_E (c := bodyOf Tryz.f9) (by kernel_rfl) Tryz.func9 (by kernel_rfl) [] [] (of_decide_eq_true (by kernel_rfl)) (vc_law08_headerAlive  w K) (by kernel_rfl) h

--  cracknel/cracknelref08.Parse
def vc_ref08_Parse (s0 : List UInt8) (w : World) (K : Value → World → Prop) : Prop :=
  ∀ (k2 : Nat) (w2 : World), k2 = w.heap.size → w2 = w.alloc (.cells #[.string (mkS []), .string (mkS []), .string (mkS []), .string (mkS []), .bool false, .int .i64 (0 : Int), .bool false, .int .i64 (0 : Int), .bool false, .bool false, .int .i64 (0 : Int)] T_api_Header) →
  ∃ I : Nat → FP [.one (.int .i64)],
  (∃ m : Nat, I m (0 : Int) w2) ∧
  ∀ (m : Nat) (n4 : Int), AllJ 30 (∀ (wl : World), I m n4 wl →
  BCase (decide (n4 < ((List.length s0 : Nat) : Int)))
  (∃ J : FP [.one (.bool)],
  (((0 ≤ n4 ∧ n4 < ((List.length s0 : Nat) : Int))) ∧
  BCase (decide ((byteAt s0 n4) ≤ (8 : Int)))
  (J true wl)
  (((0 ≤ n4 ∧ n4 < ((List.length s0 : Nat) : Int))) ∧
  BCase (decide ((byteAt s0 n4) ≥ (10 : Int)))
  (((0 ≤ n4 ∧ n4 < ((List.length s0 : Nat) : Int))) ∧
  BCase (decide ((byteAt s0 n4) ≤ (31 : Int)))
  (J true wl)
  (((0 ≤ n4 ∧ n4 < ((List.length s0 : Nat) : Int))) ∧
  J ((byteAt s0 n4) == (127 : Int)) wl))
  (((0 ≤ n4 ∧ n4 < ((List.length s0 : Nat) : Int))) ∧
  J ((byteAt s0 n4) == (127 : Int)) wl))) ∧
  ∀ (b42 : Bool), AllJ 21 (∀ (wj : World), J b42 wj →
  BCase b42
  (∃ (wx : World), (Instr.storeAt T_api_Header (.pointer (some ⟨k2, 0, none⟩)) (.agg #[.string (mkS []), .string (mkS []), .string (mkS []), .string (mkS []), .bool false, .int .i64 (0 : Int), .bool false, .int .i64 (0 : Int), .bool false, .bool false, .int .i64 (0 : Int)])).run Tryz.prog wj = .ok () wx ∧
  ∃ (sr0_0 : List UInt8) (sr0_1 : List UInt8) (sr0_2 : List UInt8) (sr0_3 : List UInt8) (br0_4 : Bool) (nr0_5 : Int) (br0_6 : Bool) (nr0_7 : Int) (br0_8 : Bool) (br0_9 : Bool) (nr0_10 : Int), (resAt T_api_Header (.pointer (some ⟨k2, 0, none⟩))).run Tryz.prog wx = .ok (.agg #[.string (mkS sr0_0), .string (mkS sr0_1), .string (mkS sr0_2), .string (mkS sr0_3), .bool br0_4, .int .i64 nr0_5, .bool br0_6, .int .i64 nr0_7, .bool br0_8, .bool br0_9, .int .i64 nr0_10]) wx ∧
  K (.tuple #[.agg #[.string (mkS sr0_0), .string (mkS sr0_1), .string (mkS sr0_2), .string (mkS sr0_3), .bool br0_4, .int .i64 nr0_5, .bool br0_6, .int .i64 nr0_7, .bool br0_8, .bool br0_9, .int .i64 nr0_10], .int .i64 (81 : Int)]) wx)
  (∃ m' : Nat, m' < m ∧ I m' (IntKind.i64.wrap (n4 + (1 : Int))) wj)))
  (Calls Tryz.prog f_ref01_Split #[.string (mkS s0), .int .u8 (59 : Int)] wl fun e45 w45 => ∃ (a45 : Option Addr) (l45 c45 : Nat), e45 = .returned (.slice a45 l45 c45) ∧
  ∃ J_1 : FP [.one (.ptr)],
  (((0 ≤ (0 : Int) ∧ (0 : Int) < ((l45 : Nat) : Int)) ∧ Option.isSome a45 = true) ∧
  ((0 ≤ (0 : Int) ∧ (0 : Int) < ((l45 : Nat) : Int)) ∧ Option.isSome a45 = true) ∧
  (∃ (s48 : List UInt8), (Instr.loadAt T_string (.pointer (elemAddr a45 (0 : Int) 1))).run Tryz.prog (World.drew w45) = .ok (.string (mkS s48)) (World.drew w45) ∧
  (Calls Tryz.prog f_ref08_ahead #[.string (mkS s48)] (World.drew w45) fun e49 w49 => ∃ (s49 : List UInt8), e49 = .returned (.string (mkS s49)) ∧
  (∃ (s52 : List UInt8), (Instr.loadAt T_string (.pointer (elemAddr a45 (0 : Int) 1))).run Tryz.prog w49 = .ok (.string (mkS s52)) w49 ∧
  (Calls Tryz.prog f_ref08_after #[.string (mkS s52)] w49 fun e53 w53 => ∃ (s53 : List UInt8), e53 = .returned (.string (mkS s53)) ∧
  ∀ (k6 : Nat) (w6 : World), k6 = w53.heap.size → w6 = w53.alloc (.cells #[.string (mkS []), .string (mkS []), .string (mkS []), .string (mkS []), .bool false, .int .i64 (0 : Int), .bool false, .int .i64 (0 : Int), .bool false, .bool false, .int .i64 (0 : Int)] T_api_Header) →
  ∃ (wx_1 : World), (Instr.storeAt T_api_Header (.pointer (some ⟨k6, 0, none⟩)) (.agg #[.string (mkS s49), .string (mkS s53), .string (mkS []), .string (mkS []), .bool false, .int .i64 (0 : Int), .bool false, .int .i64 (0 : Int), .bool false, .bool false, .int .i64 (0 : Int)])).run Tryz.prog w6 = .ok () wx_1 ∧
  J_1 (some ⟨k6, 0, none⟩) wx_1) ∧
  ∀ (k6_1 : Nat) (w6_1 : World), k6_1 = w49.heap.size → w6_1 = w49.alloc (.cells #[.string (mkS []), .string (mkS []), .string (mkS []), .string (mkS []), .bool false, .int .i64 (0 : Int), .bool false, .int .i64 (0 : Int), .bool false, .bool false, .int .i64 (0 : Int)] T_api_Header) →
  Calls Tryz.prog f_ref08_after #[.string (mkS s52)] w6_1 fun e53_1 w53_1 => ∃ (s53_1 : List UInt8), e53_1 = .returned (.string (mkS s53_1)) ∧
  ∃ (wx_2 : World), (Instr.storeAt T_api_Header (.pointer (some ⟨k6_1, 0, none⟩)) (.agg #[.string (mkS s49), .string (mkS s53_1), .string (mkS []), .string (mkS []), .bool false, .int .i64 (0 : Int), .bool false, .int .i64 (0 : Int), .bool false, .bool false, .int .i64 (0 : Int)])).run Tryz.prog w53_1 = .ok () wx_2 ∧
  J_1 (some ⟨k6_1, 0, none⟩) wx_2) ∧
  ∀ (k6_2 : Nat) (w6_2 : World), k6_2 = w49.heap.size → w6_2 = w49.alloc (.cells #[.string (mkS []), .string (mkS []), .string (mkS []), .string (mkS []), .bool false, .int .i64 (0 : Int), .bool false, .int .i64 (0 : Int), .bool false, .bool false, .int .i64 (0 : Int)] T_api_Header) →
  ∃ (s52_1 : List UInt8), (Instr.loadAt T_string (.pointer (elemAddr a45 (0 : Int) 1))).run Tryz.prog w6_2 = .ok (.string (mkS s52_1)) w6_2 ∧
  Calls Tryz.prog f_ref08_after #[.string (mkS s52_1)] w6_2 fun e53_2 w53_2 => ∃ (s53_2 : List UInt8), e53_2 = .returned (.string (mkS s53_2)) ∧
  ∃ (wx_3 : World), (Instr.storeAt T_api_Header (.pointer (some ⟨k6_2, 0, none⟩)) (.agg #[.string (mkS s49), .string (mkS s53_2), .string (mkS []), .string (mkS []), .bool false, .int .i64 (0 : Int), .bool false, .int .i64 (0 : Int), .bool false, .bool false, .int .i64 (0 : Int)])).run Tryz.prog w53_2 = .ok () wx_3 ∧
  J_1 (some ⟨k6_2, 0, none⟩) wx_3) ∧
  (∃ (s52_2 : List UInt8), (Instr.loadAt T_string (.pointer (elemAddr a45 (0 : Int) 1))).run Tryz.prog (World.drew w45) = .ok (.string (mkS s52_2)) (World.drew w45) ∧
  (Calls Tryz.prog f_ref08_ahead #[.string (mkS s48)] (World.drew w45) fun e49_1 w49_1 => ∃ (s49_1 : List UInt8), e49_1 = .returned (.string (mkS s49_1)) ∧
  (Calls Tryz.prog f_ref08_after #[.string (mkS s52_2)] w49_1 fun e53_3 w53_3 => ∃ (s53_3 : List UInt8), e53_3 = .returned (.string (mkS s53_3)) ∧
  ∀ (k6_3 : Nat) (w6_3 : World), k6_3 = w53_3.heap.size → w6_3 = w53_3.alloc (.cells #[.string (mkS []), .string (mkS []), .string (mkS []), .string (mkS []), .bool false, .int .i64 (0 : Int), .bool false, .int .i64 (0 : Int), .bool false, .bool false, .int .i64 (0 : Int)] T_api_Header) →
  ∃ (wx_4 : World), (Instr.storeAt T_api_Header (.pointer (some ⟨k6_3, 0, none⟩)) (.agg #[.string (mkS s49_1), .string (mkS s53_3), .string (mkS []), .string (mkS []), .bool false, .int .i64 (0 : Int), .bool false, .int .i64 (0 : Int), .bool false, .bool false, .int .i64 (0 : Int)])).run Tryz.prog w6_3 = .ok () wx_4 ∧
  J_1 (some ⟨k6_3, 0, none⟩) wx_4) ∧
  ∀ (k6_4 : Nat) (w6_4 : World), k6_4 = w49_1.heap.size → w6_4 = w49_1.alloc (.cells #[.string (mkS []), .string (mkS []), .string (mkS []), .string (mkS []), .bool false, .int .i64 (0 : Int), .bool false, .int .i64 (0 : Int), .bool false, .bool false, .int .i64 (0 : Int)] T_api_Header) →
  Calls Tryz.prog f_ref08_after #[.string (mkS s52_2)] w6_4 fun e53_4 w53_4 => ∃ (s53_4 : List UInt8), e53_4 = .returned (.string (mkS s53_4)) ∧
  ∃ (wx_5 : World), (Instr.storeAt T_api_Header (.pointer (some ⟨k6_4, 0, none⟩)) (.agg #[.string (mkS s49_1), .string (mkS s53_4), .string (mkS []), .string (mkS []), .bool false, .int .i64 (0 : Int), .bool false, .int .i64 (0 : Int), .bool false, .bool false, .int .i64 (0 : Int)])).run Tryz.prog w53_4 = .ok () wx_5 ∧
  J_1 (some ⟨k6_4, 0, none⟩) wx_5) ∧
  ∀ (k6_5 : Nat) (w6_5 : World), k6_5 = (World.drew w45).heap.size → w6_5 = (World.drew w45).alloc (.cells #[.string (mkS []), .string (mkS []), .string (mkS []), .string (mkS []), .bool false, .int .i64 (0 : Int), .bool false, .int .i64 (0 : Int), .bool false, .bool false, .int .i64 (0 : Int)] T_api_Header) →
  Calls Tryz.prog f_ref08_ahead #[.string (mkS s48)] w6_5 fun e49_2 w49_2 => ∃ (s49_2 : List UInt8), e49_2 = .returned (.string (mkS s49_2)) ∧
  Calls Tryz.prog f_ref08_after #[.string (mkS s52_2)] w49_2 fun e53_5 w53_5 => ∃ (s53_5 : List UInt8), e53_5 = .returned (.string (mkS s53_5)) ∧
  ∃ (wx_6 : World), (Instr.storeAt T_api_Header (.pointer (some ⟨k6_5, 0, none⟩)) (.agg #[.string (mkS s49_2), .string (mkS s53_5), .string (mkS []), .string (mkS []), .bool false, .int .i64 (0 : Int), .bool false, .int .i64 (0 : Int), .bool false, .bool false, .int .i64 (0 : Int)])).run Tryz.prog w53_5 = .ok () wx_6 ∧
  J_1 (some ⟨k6_5, 0, none⟩) wx_6) ∧
  ∀ (k6_6 : Nat) (w6_6 : World), k6_6 = (World.drew w45).heap.size → w6_6 = (World.drew w45).alloc (.cells #[.string (mkS []), .string (mkS []), .string (mkS []), .string (mkS []), .bool false, .int .i64 (0 : Int), .bool false, .int .i64 (0 : Int), .bool false, .bool false, .int .i64 (0 : Int)] T_api_Header) →
  (Calls Tryz.prog f_ref08_ahead #[.string (mkS s48)] w6_6 fun e49_3 w49_3 => ∃ (s49_3 : List UInt8), e49_3 = .returned (.string (mkS s49_3)) ∧
  ∃ (s52_3 : List UInt8), (Instr.loadAt T_string (.pointer (elemAddr a45 (0 : Int) 1))).run Tryz.prog w49_3 = .ok (.string (mkS s52_3)) w49_3 ∧
  Calls Tryz.prog f_ref08_after #[.string (mkS s52_3)] w49_3 fun e53_6 w53_6 => ∃ (s53_6 : List UInt8), e53_6 = .returned (.string (mkS s53_6)) ∧
  ∃ (wx_7 : World), (Instr.storeAt T_api_Header (.pointer (some ⟨k6_6, 0, none⟩)) (.agg #[.string (mkS s49_3), .string (mkS s53_6), .string (mkS []), .string (mkS []), .bool false, .int .i64 (0 : Int), .bool false, .int .i64 (0 : Int), .bool false, .bool false, .int .i64 (0 : Int)])).run Tryz.prog w53_6 = .ok () wx_7 ∧
  J_1 (some ⟨k6_6, 0, none⟩) wx_7) ∧
  ∃ (s52_4 : List UInt8), (Instr.loadAt T_string (.pointer (elemAddr a45 (0 : Int) 1))).run Tryz.prog w6_6 = .ok (.string (mkS s52_4)) w6_6 ∧
  Calls Tryz.prog f_ref08_ahead #[.string (mkS s48)] w6_6 fun e49_4 w49_4 => ∃ (s49_4 : List UInt8), e49_4 = .returned (.string (mkS s49_4)) ∧
  Calls Tryz.prog f_ref08_after #[.string (mkS s52_4)] w49_4 fun e53_7 w53_7 => ∃ (s53_7 : List UInt8), e53_7 = .returned (.string (mkS s53_7)) ∧
  ∃ (wx_8 : World), (Instr.storeAt T_api_Header (.pointer (some ⟨k6_6, 0, none⟩)) (.agg #[.string (mkS s49_4), .string (mkS s53_7), .string (mkS []), .string (mkS []), .bool false, .int .i64 (0 : Int), .bool false, .int .i64 (0 : Int), .bool false, .bool false, .int .i64 (0 : Int)])).run Tryz.prog w53_7 = .ok () wx_8 ∧
  J_1 (some ⟨k6_6, 0, none⟩) wx_8) ∧
  (∃ (s52_5 : List UInt8), (Instr.loadAt T_string (.pointer (elemAddr a45 (0 : Int) 1))).run Tryz.prog (World.drew w45) = .ok (.string (mkS s52_5)) (World.drew w45) ∧
  (∃ (s48_1 : List UInt8), (Instr.loadAt T_string (.pointer (elemAddr a45 (0 : Int) 1))).run Tryz.prog (World.drew w45) = .ok (.string (mkS s48_1)) (World.drew w45) ∧
  (Calls Tryz.prog f_ref08_ahead #[.string (mkS s48_1)] (World.drew w45) fun e49_5 w49_5 => ∃ (s49_5 : List UInt8), e49_5 = .returned (.string (mkS s49_5)) ∧
  (Calls Tryz.prog f_ref08_after #[.string (mkS s52_5)] w49_5 fun e53_8 w53_8 => ∃ (s53_8 : List UInt8), e53_8 = .returned (.string (mkS s53_8)) ∧
  ∀ (k6_7 : Nat) (w6_7 : World), k6_7 = w53_8.heap.size → w6_7 = w53_8.alloc (.cells #[.string (mkS []), .string (mkS []), .string (mkS []), .string (mkS []), .bool false, .int .i64 (0 : Int), .bool false, .int .i64 (0 : Int), .bool false, .bool false, .int .i64 (0 : Int)] T_api_Header) →
  ∃ (wx_9 : World), (Instr.storeAt T_api_Header (.pointer (some ⟨k6_7, 0, none⟩)) (.agg #[.string (mkS s49_5), .string (mkS s53_8), .string (mkS []), .string (mkS []), .bool false, .int .i64 (0 : Int), .bool false, .int .i64 (0 : Int), .bool false, .bool false, .int .i64 (0 : Int)])).run Tryz.prog w6_7 = .ok () wx_9 ∧
  J_1 (some ⟨k6_7, 0, none⟩) wx_9) ∧
  ∀ (k6_8 : Nat) (w6_8 : World), k6_8 = w49_5.heap.size → w6_8 = w49_5.alloc (.cells #[.string (mkS []), .string (mkS []), .string (mkS []), .string (mkS []), .bool false, .int .i64 (0 : Int), .bool false, .int .i64 (0 : Int), .bool false, .bool false, .int .i64 (0 : Int)] T_api_Header) →
  Calls Tryz.prog f_ref08_after #[.string (mkS s52_5)] w6_8 fun e53_9 w53_9 => ∃ (s53_9 : List UInt8), e53_9 = .returned (.string (mkS s53_9)) ∧
  ∃ (wx_10 : World), (Instr.storeAt T_api_Header (.pointer (some ⟨k6_8, 0, none⟩)) (.agg #[.string (mkS s49_5), .string (mkS s53_9), .string (mkS []), .string (mkS []), .bool false, .int .i64 (0 : Int), .bool false, .int .i64 (0 : Int), .bool false, .bool false, .int .i64 (0 : Int)])).run Tryz.prog w53_9 = .ok () wx_10 ∧
  J_1 (some ⟨k6_8, 0, none⟩) wx_10) ∧
  ∀ (k6_9 : Nat) (w6_9 : World), k6_9 = (World.drew w45).heap.size → w6_9 = (World.drew w45).alloc (.cells #[.string (mkS []), .string (mkS []), .string (mkS []), .string (mkS []), .bool false, .int .i64 (0 : Int), .bool false, .int .i64 (0 : Int), .bool false, .bool false, .int .i64 (0 : Int)] T_api_Header) →
  Calls Tryz.prog f_ref08_ahead #[.string (mkS s48_1)] w6_9 fun e49_6 w49_6 => ∃ (s49_6 : List UInt8), e49_6 = .returned (.string (mkS s49_6)) ∧
  Calls Tryz.prog f_ref08_after #[.string (mkS s52_5)] w49_6 fun e53_10 w53_10 => ∃ (s53_10 : List UInt8), e53_10 = .returned (.string (mkS s53_10)) ∧
  ∃ (wx_11 : World), (Instr.storeAt T_api_Header (.pointer (some ⟨k6_9, 0, none⟩)) (.agg #[.string (mkS s49_6), .string (mkS s53_10), .string (mkS []), .string (mkS []), .bool false, .int .i64 (0 : Int), .bool false, .int .i64 (0 : Int), .bool false, .bool false, .int .i64 (0 : Int)])).run Tryz.prog w53_10 = .ok () wx_11 ∧
  J_1 (some ⟨k6_9, 0, none⟩) wx_11) ∧
  ∀ (k6_10 : Nat) (w6_10 : World), k6_10 = (World.drew w45).heap.size → w6_10 = (World.drew w45).alloc (.cells #[.string (mkS []), .string (mkS []), .string (mkS []), .string (mkS []), .bool false, .int .i64 (0 : Int), .bool false, .int .i64 (0 : Int), .bool false, .bool false, .int .i64 (0 : Int)] T_api_Header) →
  ∃ (s48_2 : List UInt8), (Instr.loadAt T_string (.pointer (elemAddr a45 (0 : Int) 1))).run Tryz.prog w6_10 = .ok (.string (mkS s48_2)) w6_10 ∧
  Calls Tryz.prog f_ref08_ahead #[.string (mkS s48_2)] w6_10 fun e49_7 w49_7 => ∃ (s49_7 : List UInt8), e49_7 = .returned (.string (mkS s49_7)) ∧
  Calls Tryz.prog f_ref08_after #[.string (mkS s52_5)] w49_7 fun e53_11 w53_11 => ∃ (s53_11 : List UInt8), e53_11 = .returned (.string (mkS s53_11)) ∧
  ∃ (wx_12 : World), (Instr.storeAt T_api_Header (.pointer (some ⟨k6_10, 0, none⟩)) (.agg #[.string (mkS s49_7), .string (mkS s53_11), .string (mkS []), .string (mkS []), .bool false, .int .i64 (0 : Int), .bool false, .int .i64 (0 : Int), .bool false, .bool false, .int .i64 (0 : Int)])).run Tryz.prog w53_11 = .ok () wx_12 ∧
  J_1 (some ⟨k6_10, 0, none⟩) wx_12) ∧
  ∀ (k6_11 : Nat) (w6_11 : World), k6_11 = (World.drew w45).heap.size → w6_11 = (World.drew w45).alloc (.cells #[.string (mkS []), .string (mkS []), .string (mkS []), .string (mkS []), .bool false, .int .i64 (0 : Int), .bool false, .int .i64 (0 : Int), .bool false, .bool false, .int .i64 (0 : Int)] T_api_Header) →
  (∃ (s48_3 : List UInt8), (Instr.loadAt T_string (.pointer (elemAddr a45 (0 : Int) 1))).run Tryz.prog w6_11 = .ok (.string (mkS s48_3)) w6_11 ∧
  (Calls Tryz.prog f_ref08_ahead #[.string (mkS s48_3)] w6_11 fun e49_8 w49_8 => ∃ (s49_8 : List UInt8), e49_8 = .returned (.string (mkS s49_8)) ∧
  ∃ (s52_6 : List UInt8), (Instr.loadAt T_string (.pointer (elemAddr a45 (0 : Int) 1))).run Tryz.prog w49_8 = .ok (.string (mkS s52_6)) w49_8 ∧
  Calls Tryz.prog f_ref08_after #[.string (mkS s52_6)] w49_8 fun e53_12 w53_12 => ∃ (s53_12 : List UInt8), e53_12 = .returned (.string (mkS s53_12)) ∧
  ∃ (wx_13 : World), (Instr.storeAt T_api_Header (.pointer (some ⟨k6_11, 0, none⟩)) (.agg #[.string (mkS s49_8), .string (mkS s53_12), .string (mkS []), .string (mkS []), .bool false, .int .i64 (0 : Int), .bool false, .int .i64 (0 : Int), .bool false, .bool false, .int .i64 (0 : Int)])).run Tryz.prog w53_12 = .ok () wx_13 ∧
  J_1 (some ⟨k6_11, 0, none⟩) wx_13) ∧
  ∃ (s52_7 : List UInt8), (Instr.loadAt T_string (.pointer (elemAddr a45 (0 : Int) 1))).run Tryz.prog w6_11 = .ok (.string (mkS s52_7)) w6_11 ∧
  Calls Tryz.prog f_ref08_ahead #[.string (mkS s48_3)] w6_11 fun e49_9 w49_9 => ∃ (s49_9 : List UInt8), e49_9 = .returned (.string (mkS s49_9)) ∧
  Calls Tryz.prog f_ref08_after #[.string (mkS s52_7)] w49_9 fun e53_13 w53_13 => ∃ (s53_13 : List UInt8), e53_13 = .returned (.string (mkS s53_13)) ∧
  ∃ (wx_14 : World), (Instr.storeAt T_api_Header (.pointer (some ⟨k6_11, 0, none⟩)) (.agg #[.string (mkS s49_9), .string (mkS s53_13), .string (mkS []), .string (mkS []), .bool false, .int .i64 (0 : Int), .bool false, .int .i64 (0 : Int), .bool false, .bool false, .int .i64 (0 : Int)])).run Tryz.prog w53_13 = .ok () wx_14 ∧
  J_1 (some ⟨k6_11, 0, none⟩) wx_14) ∧
  ∃ (s52_8 : List UInt8), (Instr.loadAt T_string (.pointer (elemAddr a45 (0 : Int) 1))).run Tryz.prog w6_11 = .ok (.string (mkS s52_8)) w6_11 ∧
  ∃ (s48_4 : List UInt8), (Instr.loadAt T_string (.pointer (elemAddr a45 (0 : Int) 1))).run Tryz.prog w6_11 = .ok (.string (mkS s48_4)) w6_11 ∧
  Calls Tryz.prog f_ref08_ahead #[.string (mkS s48_4)] w6_11 fun e49_10 w49_10 => ∃ (s49_10 : List UInt8), e49_10 = .returned (.string (mkS s49_10)) ∧
  Calls Tryz.prog f_ref08_after #[.string (mkS s52_8)] w49_10 fun e53_14 w53_14 => ∃ (s53_14 : List UInt8), e53_14 = .returned (.string (mkS s53_14)) ∧
  ∃ (wx_15 : World), (Instr.storeAt T_api_Header (.pointer (some ⟨k6_11, 0, none⟩)) (.agg #[.string (mkS s49_10), .string (mkS s53_14), .string (mkS []), .string (mkS []), .bool false, .int .i64 (0 : Int), .bool false, .int .i64 (0 : Int), .bool false, .bool false, .int .i64 (0 : Int)])).run Tryz.prog w53_14 = .ok () wx_15 ∧
  J_1 (some ⟨k6_11, 0, none⟩) wx_15) ∧
  ∀ (p6 : Option Addr), AllJ 9 (∀ (wj_1 : World), J_1 p6 wj_1 →
  ∃ J_2 : FP [],
  (((0 ≤ (0 : Int) ∧ (0 : Int) < ((l45 : Nat) : Int)) ∧ Option.isSome a45 = true) ∧
  ∃ (s57 : List UInt8), (∀ u57 : World, Below wj_1.heap.size wj_1 u57 → (Instr.loadAt T_string (.pointer (elemAddr a45 (0 : Int) 1))).run Tryz.prog u57 = .ok (.string (mkS s57)) u57) ∧
  ∃ (n58 : Int), (∀ u58 : World, Below wj_1.heap.size wj_1 u58 → Calls Tryz.prog f_ref08_cut #[.string (mkS s57)] u58 fun e58 w58 => e58 = .returned (.int .i64 n58) ∧ Below wj_1.heap.size u58 w58) ∧
  ((0 ≤ (0 : Int) ∧ (0 : Int) < ((l45 : Nat) : Int)) ∧ Option.isSome a45 = true) ∧
  ∃ (s61 : List UInt8), (∀ u61 : World, Below wj_1.heap.size wj_1 u61 → (Instr.loadAt T_string (.pointer (elemAddr a45 (0 : Int) 1))).run Tryz.prog u61 = .ok (.string (mkS s61)) u61) ∧
  ∀ wq : World, Below wj_1.heap.size wj_1 wq →
  BCase (n58 == ((List.length s61 : Nat) : Int))
  ((Option.isSome p6 = true) ∧
  ∃ (wx_16 : World), (Instr.storeAt T_string (.pointer (Option.map (fun x => x.add 0) p6)) (.string (mkS []))).run Tryz.prog wq = .ok () wx_16 ∧
  ((0 ≤ (0 : Int) ∧ (0 : Int) < ((l45 : Nat) : Int)) ∧ Option.isSome a45 = true) ∧
  ∃ (s67 : List UInt8), (Instr.loadAt T_string (.pointer (elemAddr a45 (0 : Int) 1))).run Tryz.prog wx_16 = .ok (.string (mkS s67)) wx_16 ∧
  Calls Tryz.prog f_ref01_Trim #[.string (mkS s67)] wx_16 fun e68 w68 => ∃ (s68 : List UInt8), e68 = .returned (.string (mkS s68)) ∧
  (Option.isSome p6 = true) ∧
  ∃ (wx_17 : World), (Instr.storeAt T_string (.pointer (Option.map (fun x => x.add 1) p6)) (.string (mkS s68))).run Tryz.prog w68 = .ok () wx_17 ∧
  J_2 wx_17)
  (J_2 wq)) ∧
  AllJ 15 (∀ (wj_2 : World), J_2 wj_2 →
  ∃ J_3 : FP [],
  (∃ J_4 : FP [.one (.bool)],
  ((Option.isSome p6 = true) ∧
  ∃ (s71 : List UInt8), (Instr.loadAt T_string (.pointer (Option.map (fun x => x.add 0) p6))).run Tryz.prog wj_2 = .ok (.string (mkS s71)) wj_2 ∧
  BCase (s71 == [])
  ((Option.isSome p6 = true) ∧
  ∃ (s75 : List UInt8), (Instr.loadAt T_string (.pointer (Option.map (fun x => x.add 1) p6))).run Tryz.prog wj_2 = .ok (.string (mkS s75)) wj_2 ∧
  J_4 (s75 == []) wj_2)
  (J_4 false wj_2)) ∧
  ∀ (b77 : Bool), AllJ 7 (∀ (wj_3 : World), J_4 b77 wj_3 →
  BCase b77
  (∃ (wx_18 : World), (Instr.storeAt T_api_Header (.pointer (some ⟨k2, 0, none⟩)) (.agg #[.string (mkS []), .string (mkS []), .string (mkS []), .string (mkS []), .bool false, .int .i64 (0 : Int), .bool false, .int .i64 (0 : Int), .bool false, .bool false, .int .i64 (0 : Int)])).run Tryz.prog wj_3 = .ok () wx_18 ∧
  ∃ (sr0_0_1 : List UInt8) (sr0_1_1 : List UInt8) (sr0_2_1 : List UInt8) (sr0_3_1 : List UInt8) (br0_4_1 : Bool) (nr0_5_1 : Int) (br0_6_1 : Bool) (nr0_7_1 : Int) (br0_8_1 : Bool) (br0_9_1 : Bool) (nr0_10_1 : Int), (resAt T_api_Header (.pointer (some ⟨k2, 0, none⟩))).run Tryz.prog wx_18 = .ok (.agg #[.string (mkS sr0_0_1), .string (mkS sr0_1_1), .string (mkS sr0_2_1), .string (mkS sr0_3_1), .bool br0_4_1, .int .i64 nr0_5_1, .bool br0_6_1, .int .i64 nr0_7_1, .bool br0_8_1, .bool br0_9_1, .int .i64 nr0_10_1]) wx_18 ∧
  K (.tuple #[.agg #[.string (mkS sr0_0_1), .string (mkS sr0_1_1), .string (mkS sr0_2_1), .string (mkS sr0_3_1), .bool br0_4_1, .int .i64 nr0_5_1, .bool br0_6_1, .int .i64 nr0_7_1, .bool br0_8_1, .bool br0_9_1, .int .i64 nr0_10_1], .int .i64 (82 : Int)]) wx_18)
  (J_3 wj_3))) ∧
  AllJ 10 (∀ (wj_4 : World), J_3 wj_4 →
  (Option.isSome p6 = true) ∧
  ∃ (s80 : List UInt8), (Instr.loadAt T_string (.pointer (Option.map (fun x => x.add 0) p6))).run Tryz.prog wj_4 = .ok (.string (mkS s80)) wj_4 ∧
  (Option.isSome p6 = true) ∧
  ∃ (s83 : List UInt8), (Instr.loadAt T_string (.pointer (Option.map (fun x => x.add 1) p6))).run Tryz.prog wj_4 = .ok (.string (mkS s83)) wj_4 ∧
  BCase (decide ((IntKind.i64.wrap (((List.length s80 : Nat) : Int) + ((List.length s83 : Nat) : Int))) > (4096 : Int)))
  (∃ (wx_19 : World), (Instr.storeAt T_api_Header (.pointer (some ⟨k2, 0, none⟩)) (.agg #[.string (mkS []), .string (mkS []), .string (mkS []), .string (mkS []), .bool false, .int .i64 (0 : Int), .bool false, .int .i64 (0 : Int), .bool false, .bool false, .int .i64 (0 : Int)])).run Tryz.prog wj_4 = .ok () wx_19 ∧
  ∃ (sr0_0_2 : List UInt8) (sr0_1_2 : List UInt8) (sr0_2_2 : List UInt8) (sr0_3_2 : List UInt8) (br0_4_2 : Bool) (nr0_5_2 : Int) (br0_6_2 : Bool) (nr0_7_2 : Int) (br0_8_2 : Bool) (br0_9_2 : Bool) (nr0_10_2 : Int), (resAt T_api_Header (.pointer (some ⟨k2, 0, none⟩))).run Tryz.prog wx_19 = .ok (.agg #[.string (mkS sr0_0_2), .string (mkS sr0_1_2), .string (mkS sr0_2_2), .string (mkS sr0_3_2), .bool br0_4_2, .int .i64 nr0_5_2, .bool br0_6_2, .int .i64 nr0_7_2, .bool br0_8_2, .bool br0_9_2, .int .i64 nr0_10_2]) wx_19 ∧
  K (.tuple #[.agg #[.string (mkS sr0_0_2), .string (mkS sr0_1_2), .string (mkS sr0_2_2), .string (mkS sr0_3_2), .bool br0_4_2, .int .i64 nr0_5_2, .bool br0_6_2, .int .i64 nr0_7_2, .bool br0_8_2, .bool br0_9_2, .int .i64 nr0_10_2], .int .i64 (83 : Int)]) wx_19)
  (∃ I_1 : Nat → FP [.one (.int .i64)],
  (∃ m_1 : Nat, I_1 m_1 (1 : Int) wj_4) ∧
  ∀ (m_1 : Nat) (n7 : Int), AllJ 96 (∀ (wl_1 : World), I_1 m_1 n7 wl_1 →
  BCase (decide (n7 < ((l45 : Nat) : Int)))
  (((0 ≤ n7 ∧ n7 < ((l45 : Nat) : Int)) ∧ Option.isSome a45 = true) ∧
  ∃ (s97 : List UInt8), (Instr.loadAt T_string (.pointer (elemAddr a45 n7 1))).run Tryz.prog wl_1 = .ok (.string (mkS s97)) wl_1 ∧
  Calls Tryz.prog f_ref08_ahead #[.string (mkS s97)] wl_1 fun e98 w98 => ∃ (s98 : List UInt8), e98 = .returned (.string (mkS s98)) ∧
  Calls Tryz.prog f_ref01_Lower #[.string (mkS s98)] w98 fun e99 w99 => ∃ (s99 : List UInt8), e99 = .returned (.string (mkS s99)) ∧
  ((0 ≤ n7 ∧ n7 < ((l45 : Nat) : Int)) ∧ Option.isSome a45 = true) ∧
  ∃ (s103 : List UInt8), (Instr.loadAt T_string (.pointer (elemAddr a45 n7 1))).run Tryz.prog w99 = .ok (.string (mkS s103)) w99 ∧
  Calls Tryz.prog f_ref08_after #[.string (mkS s103)] w99 fun e104 w104 => ∃ (s104 : List UInt8), e104 = .returned (.string (mkS s104)) ∧
  Calls Tryz.prog f_ref01_Lower #[.string (mkS s104)] w104 fun e106 w106 => ∃ (s106 : List UInt8), e106 = .returned (.string (mkS s106)) ∧
  BCase (decide (((List.length s104 : Nat) : Int) > (1024 : Int)))
  (∃ m'_1 : Nat, m'_1 < m_1 ∧ I_1 m'_1 (IntKind.i64.wrap (n7 + (1 : Int))) w106)
  (∃ J_5 : FP [],
  (BCase (s99 == [101, 120, 112, 105, 114, 101, 115])
  (Calls Tryz.prog f_ref07_Cookie #[.string (mkS s104)] w106 fun e114 w114 => ∃ (n114_0 : Int) (b114_1 : Bool), e114 = .returned (.tuple #[.int .i64 n114_0, .bool b114_1]) ∧
  BCase b114_1
  ((Option.isSome p6 = true) ∧
  ∃ (wx_20 : World), (Instr.storeAt T_bool (.pointer (Option.map (fun x => x.add 4) p6)) (.bool true)).run Tryz.prog w114 = .ok () wx_20 ∧
  (Option.isSome p6 = true) ∧
  ∃ (wx_21 : World), (Instr.storeAt T_int64 (.pointer (Option.map (fun x => x.add 5) p6)) (.int .i64 n114_0)).run Tryz.prog wx_20 = .ok () wx_21 ∧
  J_5 wx_21)
  (J_5 w114))
  (J_5 w106)) ∧
  AllJ 13 (∀ (wj_5 : World), J_5 wj_5 →
  ∃ J_6 : FP [],
  (BCase (s99 == [109, 97, 120, 45, 97, 103, 101])
  (Calls Tryz.prog f_ref08_age #[.string (mkS s104)] wj_5 fun e125 w125 => ∃ (n125_0 : Int) (b125_1 : Bool), e125 = .returned (.tuple #[.int .i64 n125_0, .bool b125_1]) ∧
  BCase b125_1
  ((Option.isSome p6 = true) ∧
  ∃ (wx_22 : World), (Instr.storeAt T_bool (.pointer (Option.map (fun x => x.add 6) p6)) (.bool true)).run Tryz.prog w125 = .ok () wx_22 ∧
  (Option.isSome p6 = true) ∧
  ∃ (wx_23 : World), (Instr.storeAt T_int64 (.pointer (Option.map (fun x => x.add 7) p6)) (.int .i64 n125_0)).run Tryz.prog wx_22 = .ok () wx_23 ∧
  J_6 wx_23)
  (J_6 w125))
  (J_6 wj_5)) ∧
  AllJ 13 (∀ (wj_6 : World), J_6 wj_6 →
  ∃ J_7 : FP [],
  (BCase (s99 == [100, 111, 109, 97, 105, 110])
  ((Option.isSome p6 = true) ∧
  ∃ (wx_24 : World), (Instr.storeAt T_string (.pointer (Option.map (fun x => x.add 2) p6)) (.string (mkS s106))).run Tryz.prog wj_6 = .ok () wx_24 ∧
  ∃ J_8 : FP [.one (.bool)],
  (BCase (decide (((List.length s106 : Nat) : Int) > (0 : Int)))
  (((0 ≤ (0 : Int) ∧ (0 : Int) < ((List.length s106 : Nat) : Int))) ∧
  J_8 ((byteAt s106 (0 : Int)) == (46 : Int)) wx_24)
  (J_8 false wx_24)) ∧
  ∀ (b143 : Bool), AllJ 7 (∀ (wj_7 : World), J_8 b143 wj_7 →
  BCase b143
  (((0 ≤ (1 : Int) ∧ (1 : Int) ≤ (((List.length s106) : Nat) : Int))) ∧
  ∀ (s145 : List UInt8), s145 = (List.drop (Int.toNat (1 : Int)) s106) →
  (Option.isSome p6 = true) ∧
  ∃ (wx_25 : World), (Instr.storeAt T_string (.pointer (Option.map (fun x => x.add 2) p6)) (.string (mkS s145))).run Tryz.prog wj_7 = .ok () wx_25 ∧
  J_7 wx_25)
  (J_7 wj_7)))
  (J_7 wj_6)) ∧
  AllJ 15 (∀ (wj_8 : World), J_7 wj_8 →
  ∃ J_9 : FP [],
  (BCase (s99 == [112, 97, 116, 104])
  ((Option.isSome p6 = true) ∧
  ∃ (wx_26 : World), (Instr.storeAt T_string (.pointer (Option.map (fun x => x.add 3) p6)) (.string (mkS s104))).run Tryz.prog wj_8 = .ok () wx_26 ∧
  ∃ J_10 : FP [.one (.bool)],
  (BCase (!(s104 == []))
  (((0 ≤ (0 : Int) ∧ (0 : Int) < ((List.length s104 : Nat) : Int))) ∧
  J_10 ((byteAt s104 (0 : Int)) != (47 : Int)) wx_26)
  (J_10 false wx_26)) ∧
  ∀ (b157 : Bool), AllJ 6 (∀ (wj_9 : World), J_10 b157 wj_9 →
  BCase b157
  ((Option.isSome p6 = true) ∧
  ∃ (wx_27 : World), (Instr.storeAt T_string (.pointer (Option.map (fun x => x.add 3) p6)) (.string (mkS []))).run Tryz.prog wj_9 = .ok () wx_27 ∧
  J_9 wx_27)
  (J_9 wj_9)))
  (J_9 wj_8)) ∧
  AllJ 12 (∀ (wj_10 : World), J_9 wj_10 →
  ∃ J_11 : FP [],
  (BCase (s99 == [115, 101, 99, 117, 114, 101])
  ((Option.isSome p6 = true) ∧
  ∃ (wx_28 : World), (Instr.storeAt T_bool (.pointer (Option.map (fun x => x.add 8) p6)) (.bool true)).run Tryz.prog wj_10 = .ok () wx_28 ∧
  J_11 wx_28)
  (J_11 wj_10)) ∧
  AllJ 3 (∀ (wj_11 : World), J_11 wj_11 →
  ∃ J_12 : FP [],
  (BCase (s99 == [104, 116, 116, 112, 111, 110, 108, 121])
  ((Option.isSome p6 = true) ∧
  ∃ (wx_29 : World), (Instr.storeAt T_bool (.pointer (Option.map (fun x => x.add 9) p6)) (.bool true)).run Tryz.prog wj_11 = .ok () wx_29 ∧
  J_12 wx_29)
  (J_12 wj_11)) ∧
  AllJ 3 (∀ (wj_12 : World), J_12 wj_12 →
  BCase (s99 == [115, 97, 109, 101, 115, 105, 116, 101])
  ((Option.isSome p6 = true) ∧
  ∃ (wx_30 : World), (Instr.storeAt T_int (.pointer (Option.map (fun x => x.add 10) p6)) (.int .i64 (0 : Int))).run Tryz.prog wj_12 = .ok () wx_30 ∧
  ∃ J_13 : FP [],
  (BCase (s106 == [110, 111, 110, 101])
  ((Option.isSome p6 = true) ∧
  ∃ (wx_31 : World), (Instr.storeAt T_int (.pointer (Option.map (fun x => x.add 10) p6)) (.int .i64 (1 : Int))).run Tryz.prog wx_30 = .ok () wx_31 ∧
  J_13 wx_31)
  (J_13 wx_30)) ∧
  AllJ 3 (∀ (wj_13 : World), J_13 wj_13 →
  ∃ J_14 : FP [],
  (BCase (s106 == [108, 97, 120])
  ((Option.isSome p6 = true) ∧
  ∃ (wx_32 : World), (Instr.storeAt T_int (.pointer (Option.map (fun x => x.add 10) p6)) (.int .i64 (2 : Int))).run Tryz.prog wj_13 = .ok () wx_32 ∧
  J_14 wx_32)
  (J_14 wj_13)) ∧
  AllJ 3 (∀ (wj_14 : World), J_14 wj_14 →
  BCase (s106 == [115, 116, 114, 105, 99, 116])
  ((Option.isSome p6 = true) ∧
  ∃ (wx_33 : World), (Instr.storeAt T_int (.pointer (Option.map (fun x => x.add 10) p6)) (.int .i64 (3 : Int))).run Tryz.prog wj_14 = .ok () wx_33 ∧
  ∃ m'_1 : Nat, m'_1 < m_1 ∧ I_1 m'_1 (IntKind.i64.wrap (n7 + (1 : Int))) wx_33)
  (∃ m'_1 : Nat, m'_1 < m_1 ∧ I_1 m'_1 (IntKind.i64.wrap (n7 + (1 : Int))) wj_14))))
  (∃ m'_1 : Nat, m'_1 < m_1 ∧ I_1 m'_1 (IntKind.i64.wrap (n7 + (1 : Int))) wj_12)))))))))
  (∃ (s177_0 : List UInt8) (s177_1 : List UInt8) (s177_2 : List UInt8) (s177_3 : List UInt8) (b177_4 : Bool) (n177_5 : Int) (b177_6 : Bool) (n177_7 : Int) (b177_8 : Bool) (b177_9 : Bool) (n177_10 : Int), (Instr.loadAt T_api_Header (.pointer p6)).run Tryz.prog wl_1 = .ok (.agg #[.string (mkS s177_0), .string (mkS s177_1), .string (mkS s177_2), .string (mkS s177_3), .bool b177_4, .int .i64 n177_5, .bool b177_6, .int .i64 n177_7, .bool b177_8, .bool b177_9, .int .i64 n177_10]) wl_1 ∧
  ∃ (wx_34 : World), (Instr.storeAt T_api_Header (.pointer (some ⟨k2, 0, none⟩)) (.agg #[.string (mkS s177_0), .string (mkS s177_1), .string (mkS s177_2), .string (mkS s177_3), .bool b177_4, .int .i64 n177_5, .bool b177_6, .int .i64 n177_7, .bool b177_8, .bool b177_9, .int .i64 n177_10])).run Tryz.prog wl_1 = .ok () wx_34 ∧
  ∃ (sr0_0_3 : List UInt8) (sr0_1_3 : List UInt8) (sr0_2_3 : List UInt8) (sr0_3_3 : List UInt8) (br0_4_3 : Bool) (nr0_5_3 : Int) (br0_6_3 : Bool) (nr0_7_3 : Int) (br0_8_3 : Bool) (br0_9_3 : Bool) (nr0_10_3 : Int), (resAt T_api_Header (.pointer (some ⟨k2, 0, none⟩))).run Tryz.prog wx_34 = .ok (.agg #[.string (mkS sr0_0_3), .string (mkS sr0_1_3), .string (mkS sr0_2_3), .string (mkS sr0_3_3), .bool br0_4_3, .int .i64 nr0_5_3, .bool br0_6_3, .int .i64 nr0_7_3, .bool br0_8_3, .bool br0_9_3, .int .i64 nr0_10_3]) wx_34 ∧
  K (.tuple #[.agg #[.string (mkS sr0_0_3), .string (mkS sr0_1_3), .string (mkS sr0_2_3), .string (mkS sr0_3_3), .bool br0_4_3, .int .i64 nr0_5_3, .bool br0_6_3, .int .i64 nr0_7_3, .bool br0_8_3, .bool br0_9_3, .int .i64 nr0_10_3], .int .i64 (0 : Int)]) wx_34))))))))
theorem run_ref08_Parse (s0 : List UInt8) {w : World} {K : Value → World → Prop} (h : vc_ref08_Parse s0 w K) : Calls Tryz.prog f_ref08_Parse #[.string (mkS s0)] w (Ret K) :=
  calls_E (c := bodyOf Tryz.f10) (by kernel_rfl) Tryz.func10 (by kernel_rfl) [(6, [(4, .one (.int .i64))]), (15, [(42, .one (.bool))]), (25, [(6, .one (.ptr))]), (27, []), (35, []), (36, [(77, .one (.bool))]), (55, [(7, .one (.int .i64))]), (76, []), (90, []), (104, []), (110, [(143, .one (.bool))]), (116, []), (122, [(157, .one (.bool))]), (128, []), (134, []), (145, []), (151, [])] [.string (mkS s0)] (of_decide_eq_true (by kernel_rfl)) (vc_ref08_Parse s0 w K) (by kernel_rfl) h

--  cracknel/header.Text
def vc_header_Text (s0_0 : List UInt8) (s0_1 : List UInt8) (s0_2 : List UInt8) (s0_3 : List UInt8) (b0_4 : Bool) (n0_5 : Int) (b0_6 : Bool) (n0_7 : Int) (b0_8 : Bool) (b0_9 : Bool) (n0_10 : Int) (w : World) (K : Value → World → Prop) : Prop :=
  ∀ (k1 : Nat) (w1 : World), k1 = w.heap.size → w1 = w.alloc (.cells #[.string (mkS s0_0), .string (mkS s0_1), .string (mkS s0_2), .string (mkS s0_3), .bool b0_4, .int .i64 n0_5, .bool b0_6, .int .i64 n0_7, .bool b0_8, .bool b0_9, .int .i64 n0_10] T_api_Header) →
  ∃ (s3_0 : List UInt8) (s3_1 : List UInt8) (s3_2 : List UInt8) (s3_3 : List UInt8) (b3_4 : Bool) (n3_5 : Int) (b3_6 : Bool) (n3_7 : Int) (b3_8 : Bool) (b3_9 : Bool) (n3_10 : Int), (Instr.loadAt T_api_Header (.pointer (some ⟨k1, 0, none⟩))).run Tryz.prog w1 = .ok (.agg #[.string (mkS s3_0), .string (mkS s3_1), .string (mkS s3_2), .string (mkS s3_3), .bool b3_4, .int .i64 n3_5, .bool b3_6, .int .i64 n3_7, .bool b3_8, .bool b3_9, .int .i64 n3_10]) w1 ∧
  Calls Tryz.prog f_header_Right #[.agg #[.string (mkS s3_0), .string (mkS s3_1), .string (mkS s3_2), .string (mkS s3_3), .bool b3_4, .int .i64 n3_5, .bool b3_6, .int .i64 n3_7, .bool b3_8, .bool b3_9, .int .i64 n3_10]] w1 fun e4 w4 => ∃ (b4 : Bool), e4 = .returned (.bool b4) ∧
  BCase (!b4)
  (K (.string (mkS [])) w4)
  (∃ (s6_0 : List UInt8) (s6_1 : List UInt8) (s6_2 : List UInt8) (s6_3 : List UInt8) (b6_4 : Bool) (n6_5 : Int) (b6_6 : Bool) (n6_7 : Int) (b6_8 : Bool) (b6_9 : Bool) (n6_10 : Int), (Instr.loadAt T_api_Header (.pointer (some ⟨k1, 0, none⟩))).run Tryz.prog w4 = .ok (.agg #[.string (mkS s6_0), .string (mkS s6_1), .string (mkS s6_2), .string (mkS s6_3), .bool b6_4, .int .i64 n6_5, .bool b6_6, .int .i64 n6_7, .bool b6_8, .bool b6_9, .int .i64 n6_10]) w4 ∧
  Calls Tryz.prog f_header_written #[.agg #[.string (mkS s6_0), .string (mkS s6_1), .string (mkS s6_2), .string (mkS s6_3), .bool b6_4, .int .i64 n6_5, .bool b6_6, .int .i64 n6_7, .bool b6_8, .bool b6_9, .int .i64 n6_10]] w4 fun e7 w7 => ∃ (s7 : List UInt8), e7 = .returned (.string (mkS s7)) ∧
  K (.string (mkS s7)) w7)
theorem run_header_Text (s0_0 : List UInt8) (s0_1 : List UInt8) (s0_2 : List UInt8) (s0_3 : List UInt8) (b0_4 : Bool) (n0_5 : Int) (b0_6 : Bool) (n0_7 : Int) (b0_8 : Bool) (b0_9 : Bool) (n0_10 : Int) {w : World} {K : Value → World → Prop} (h : vc_header_Text s0_0 s0_1 s0_2 s0_3 b0_4 n0_5 b0_6 n0_7 b0_8 b0_9 n0_10 w K) : Calls Tryz.prog f_header_Text #[.agg #[.string (mkS s0_0), .string (mkS s0_1), .string (mkS s0_2), .string (mkS s0_3), .bool b0_4, .int .i64 n0_5, .bool b0_6, .int .i64 n0_7, .bool b0_8, .bool b0_9, .int .i64 n0_10]] w (Ret K) :=
  calls_E (c := bodyOf Tryz.f11) (by kernel_rfl) Tryz.func11 (by kernel_rfl) [] [.agg #[.string (mkS s0_0), .string (mkS s0_1), .string (mkS s0_2), .string (mkS s0_3), .bool b0_4, .int .i64 n0_5, .bool b0_6, .int .i64 n0_7, .bool b0_8, .bool b0_9, .int .i64 n0_10]] (of_decide_eq_true (by kernel_rfl)) (vc_header_Text s0_0 s0_1 s0_2 s0_3 b0_4 n0_5 b0_6 n0_7 b0_8 b0_9 n0_10 w K) (by kernel_rfl) h

--  cracknel/header.Right
def vc_header_Right (s0_0 : List UInt8) (s0_1 : List UInt8) (s0_2 : List UInt8) (s0_3 : List UInt8) (b0_4 : Bool) (n0_5 : Int) (b0_6 : Bool) (n0_7 : Int) (b0_8 : Bool) (b0_9 : Bool) (n0_10 : Int) (w : World) (K : Value → World → Prop) : Prop :=
  ∀ (k1 : Nat) (w1 : World), k1 = w.heap.size → w1 = w.alloc (.cells #[.string (mkS s0_0), .string (mkS s0_1), .string (mkS s0_2), .string (mkS s0_3), .bool b0_4, .int .i64 n0_5, .bool b0_6, .int .i64 n0_7, .bool b0_8, .bool b0_9, .int .i64 n0_10] T_api_Header) →
  ∃ (s6_0 : List UInt8) (s6_1 : List UInt8) (s6_2 : List UInt8) (s6_3 : List UInt8) (b6_4 : Bool) (n6_5 : Int) (b6_6 : Bool) (n6_7 : Int) (b6_8 : Bool) (b6_9 : Bool) (n6_10 : Int), (Instr.loadAt T_api_Header (.pointer (some ⟨k1, 0, none⟩))).run Tryz.prog w1 = .ok (.agg #[.string (mkS s6_0), .string (mkS s6_1), .string (mkS s6_2), .string (mkS s6_3), .bool b6_4, .int .i64 n6_5, .bool b6_6, .int .i64 n6_7, .bool b6_8, .bool b6_9, .int .i64 n6_10]) w1 ∧
  Calls Tryz.prog f_header_written #[.agg #[.string (mkS s6_0), .string (mkS s6_1), .string (mkS s6_2), .string (mkS s6_3), .bool b6_4, .int .i64 n6_5, .bool b6_6, .int .i64 n6_7, .bool b6_8, .bool b6_9, .int .i64 n6_10]] w1 fun e7 w7 => ∃ (s7 : List UInt8), e7 = .returned (.string (mkS s7)) ∧
  Calls Tryz.prog f_header_Parse #[.string (mkS s7)] w7 fun e8 w8 => ∃ (s8_0_0 : List UInt8) (s8_0_1 : List UInt8) (s8_0_2 : List UInt8) (s8_0_3 : List UInt8) (b8_0_4 : Bool) (n8_0_5 : Int) (b8_0_6 : Bool) (n8_0_7 : Int) (b8_0_8 : Bool) (b8_0_9 : Bool) (n8_0_10 : Int) (n8_1 : Int), e8 = .returned (.tuple #[.agg #[.string (mkS s8_0_0), .string (mkS s8_0_1), .string (mkS s8_0_2), .string (mkS s8_0_3), .bool b8_0_4, .int .i64 n8_0_5, .bool b8_0_6, .int .i64 n8_0_7, .bool b8_0_8, .bool b8_0_9, .int .i64 n8_0_10], .int .i64 n8_1]) ∧
  ∀ (k3 : Nat) (w3 : World), k3 = w8.heap.size → w3 = w8.alloc (.cells #[.string (mkS []), .string (mkS []), .string (mkS []), .string (mkS []), .bool false, .int .i64 (0 : Int), .bool false, .int .i64 (0 : Int), .bool false, .bool false, .int .i64 (0 : Int)] T_api_Header) →
  ∃ (wx : World), (Instr.storeAt T_api_Header (.pointer (some ⟨k3, 0, none⟩)) (.agg #[.string (mkS s8_0_0), .string (mkS s8_0_1), .string (mkS s8_0_2), .string (mkS s8_0_3), .bool b8_0_4, .int .i64 n8_0_5, .bool b8_0_6, .int .i64 n8_0_7, .bool b8_0_8, .bool b8_0_9, .int .i64 n8_0_10])).run Tryz.prog w3 = .ok () wx ∧
  BCase (n8_1 == (0 : Int))
  (∃ (s14_0 : List UInt8) (s14_1 : List UInt8) (s14_2 : List UInt8) (s14_3 : List UInt8) (b14_4 : Bool) (n14_5 : Int) (b14_6 : Bool) (n14_7 : Int) (b14_8 : Bool) (b14_9 : Bool) (n14_10 : Int), (Instr.loadAt T_api_Header (.pointer (some ⟨k3, 0, none⟩))).run Tryz.prog wx = .ok (.agg #[.string (mkS s14_0), .string (mkS s14_1), .string (mkS s14_2), .string (mkS s14_3), .bool b14_4, .int .i64 n14_5, .bool b14_6, .int .i64 n14_7, .bool b14_8, .bool b14_9, .int .i64 n14_10]) wx ∧
  ∃ (s15_0 : List UInt8) (s15_1 : List UInt8) (s15_2 : List UInt8) (s15_3 : List UInt8) (b15_4 : Bool) (n15_5 : Int) (b15_6 : Bool) (n15_7 : Int) (b15_8 : Bool) (b15_9 : Bool) (n15_10 : Int), (Instr.loadAt T_api_Header (.pointer (some ⟨k1, 0, none⟩))).run Tryz.prog wx = .ok (.agg #[.string (mkS s15_0), .string (mkS s15_1), .string (mkS s15_2), .string (mkS s15_3), .bool b15_4, .int .i64 n15_5, .bool b15_6, .int .i64 n15_7, .bool b15_8, .bool b15_9, .int .i64 n15_10]) wx ∧
  ∃ (b16 : Bool), ((do eqGuard .eql T_api_Header (.tmp 14) (.tmp 15) (.agg #[.string (mkS s14_0), .string (mkS s14_1), .string (mkS s14_2), .string (mkS s14_3), .bool b14_4, .int .i64 n14_5, .bool b14_6, .int .i64 n14_7, .bool b14_8, .bool b14_9, .int .i64 n14_10]) (.agg #[.string (mkS s15_0), .string (mkS s15_1), .string (mkS s15_2), .string (mkS s15_3), .bool b15_4, .int .i64 n15_5, .bool b15_6, .int .i64 n15_7, .bool b15_8, .bool b15_9, .int .i64 n15_10]); binOp .eql T_api_Header (.agg #[.string (mkS s14_0), .string (mkS s14_1), .string (mkS s14_2), .string (mkS s14_3), .bool b14_4, .int .i64 n14_5, .bool b14_6, .int .i64 n14_7, .bool b14_8, .bool b14_9, .int .i64 n14_10]) (.agg #[.string (mkS s15_0), .string (mkS s15_1), .string (mkS s15_2), .string (mkS s15_3), .bool b15_4, .int .i64 n15_5, .bool b15_6, .int .i64 n15_7, .bool b15_8, .bool b15_9, .int .i64 n15_10]) : Sem Value)).run Tryz.prog wx = .ok (.bool b16) wx ∧
  K (.bool b16) wx)
  (K (.bool false) wx)
theorem run_header_Right (s0_0 : List UInt8) (s0_1 : List UInt8) (s0_2 : List UInt8) (s0_3 : List UInt8) (b0_4 : Bool) (n0_5 : Int) (b0_6 : Bool) (n0_7 : Int) (b0_8 : Bool) (b0_9 : Bool) (n0_10 : Int) {w : World} {K : Value → World → Prop} (h : vc_header_Right s0_0 s0_1 s0_2 s0_3 b0_4 n0_5 b0_6 n0_7 b0_8 b0_9 n0_10 w K) : Calls Tryz.prog f_header_Right #[.agg #[.string (mkS s0_0), .string (mkS s0_1), .string (mkS s0_2), .string (mkS s0_3), .bool b0_4, .int .i64 n0_5, .bool b0_6, .int .i64 n0_7, .bool b0_8, .bool b0_9, .int .i64 n0_10]] w (Ret K) :=
  calls_E (c := bodyOf Tryz.f12) (by kernel_rfl) Tryz.func12 (by kernel_rfl) [] [.agg #[.string (mkS s0_0), .string (mkS s0_1), .string (mkS s0_2), .string (mkS s0_3), .bool b0_4, .int .i64 n0_5, .bool b0_6, .int .i64 n0_7, .bool b0_8, .bool b0_9, .int .i64 n0_10]] (of_decide_eq_true (by kernel_rfl)) (vc_header_Right s0_0 s0_1 s0_2 s0_3 b0_4 n0_5 b0_6 n0_7 b0_8 b0_9 n0_10 w K) (by kernel_rfl) h

--  cracknel/header.control
def vc_header_control (s0 : List UInt8) (w : World) (K : Value → World → Prop) : Prop :=
  ∃ (w6 : World) (a6 : Option Addr) (l6 c6 : Nat), (convert T_string T_sl_uint8 (.string (mkS s0))).run Tryz.prog w = .ok (.slice a6 l6 c6) w6 ∧
  ∃ I : Nat → FP [.one (.int .i64)],
  (∃ m : Nat, I m (0 : Int) w6) ∧
  ∀ (m : Nat) (n8 : Int), AllJ 16 (∀ (wl : World), I m n8 wl →
  BCase (decide (n8 < ((l6 : Nat) : Int)))
  (((0 ≤ n8 ∧ n8 < ((l6 : Nat) : Int)) ∧ Option.isSome a6 = true) ∧
  ∃ (n11 : Int), (Instr.loadAt T_uint8 (.pointer (elemAddr a6 n8 1))).run Tryz.prog wl = .ok (.int .u8 n11) wl ∧
  BCase (decide (n11 < (32 : Int)))
  (BCase (n11 != (9 : Int))
  (K (.bool true) wl)
  (BCase (n11 == (127 : Int))
  (K (.bool true) wl)
  (∃ m' : Nat, m' < m ∧ I m' (IntKind.i64.wrap (n8 + (1 : Int))) wl)))
  (BCase (n11 == (127 : Int))
  (K (.bool true) wl)
  (∃ m' : Nat, m' < m ∧ I m' (IntKind.i64.wrap (n8 + (1 : Int))) wl)))
  (K (.bool false) wl))
theorem run_header_control (s0 : List UInt8) {w : World} {K : Value → World → Prop} (h : vc_header_control s0 w K) : Calls Tryz.prog f_header_control #[.string (mkS s0)] w (Ret K) :=
  calls_E (c := bodyOf Tryz.f13) (by kernel_rfl) Tryz.func13 (by kernel_rfl) [(6, [(8, .one (.int .i64))])] [.string (mkS s0)] (of_decide_eq_true (by kernel_rfl)) (vc_header_control s0 w K) (by kernel_rfl) h

--  cracknel/octet.Split
def vc_octet_Split (s0 : List UInt8) (n1 : Int) (w : World) (K : Value → World → Prop) : Prop :=
  ∀ (k7 : Nat) (w7 : World), k7 = w.heap.size → w7 = w.alloc (.cells #[.int .u8 n1] T_uint8) →
  ∃ (s8 : List UInt8), (convert T_sl_uint8 T_string (.slice (some ⟨k7, 0, none⟩) 1 1)).run Tryz.prog w7 = .ok (.string (mkS s8)) w7 ∧
  Calls Tryz.prog f_strings_Split #[.string (mkS s0), .string (mkS s8)] w7 fun e9 w9 => ∃ (a9 : Option Addr) (l9 c9 : Nat), e9 = .returned (.slice a9 l9 c9) ∧
  K (.slice a9 l9 c9) w9
theorem run_octet_Split (s0 : List UInt8) (n1 : Int) {w : World} {K : Value → World → Prop} (h : vc_octet_Split s0 n1 w K) : Calls Tryz.prog f_octet_Split #[.string (mkS s0), .int .u8 n1] w (Ret K) :=
  calls_E (c := bodyOf Tryz.f14) (by kernel_rfl) Tryz.func14 (by kernel_rfl) [] [.string (mkS s0), .int .u8 n1] (of_decide_eq_true (by kernel_rfl)) (vc_octet_Split s0 n1 w K) (by kernel_rfl) h

--  cracknel/header.pair
def vc_header_pair (s0 : List UInt8) (w : World) (K : Value → World → Prop) : Prop :=
  Calls Tryz.prog f_strings_Cut #[.string (mkS s0), .string (mkS [61])] w fun e10 w10 => ∃ (s10_0 : List UInt8) (s10_1 : List UInt8) (b10_2 : Bool), e10 = .returned (.tuple #[.string (mkS s10_0), .string (mkS s10_1), .bool b10_2]) ∧
  Calls Tryz.prog f_octet_Trim #[.string (mkS s10_0)] w10 fun e15 w15 => ∃ (s15 : List UInt8), e15 = .returned (.string (mkS s15)) ∧
  Calls Tryz.prog f_octet_Trim #[.string (mkS s10_1)] w15 fun e17 w17 => ∃ (s17 : List UInt8), e17 = .returned (.string (mkS s17)) ∧
  K (.tuple #[.string (mkS s15), .string (mkS s17), .bool b10_2]) w17
theorem run_header_pair (s0 : List UInt8) {w : World} {K : Value → World → Prop} (h : vc_header_pair s0 w K) : Calls Tryz.prog f_header_pair #[.string (mkS s0)] w (Ret K) :=
  calls_E (c := bodyOf Tryz.f15) (by kernel_rfl) Tryz.func15 (by kernel_rfl) [] [.string (mkS s0)] (of_decide_eq_true (by kernel_rfl)) (vc_header_pair s0 w K) (by kernel_rfl) h

--  cracknel/header.attribute
def vc_header_attribute (p0 : Option Addr) (s1 : List UInt8) (s2 : List UInt8) (w : World) (K : Value → World → Prop) : Prop :=
  BCase (s1 == [101, 120, 112, 105, 114, 101, 115])
  (Calls Tryz.prog f_date_Cookie #[.string (mkS s2)] w fun e17 w17 => ∃ (n17_0 : Int) (b17_1 : Bool), e17 = .returned (.tuple #[.int .i64 n17_0, .bool b17_1]) ∧
  BCase b17_1
  ((Option.isSome p0 = true) ∧
  (Option.isSome p0 = true) ∧
  ∃ (wx : World), (Instr.storeAt T_bool (.pointer (Option.map (fun x => x.add 4) p0)) (.bool true)).run Tryz.prog w17 = .ok () wx ∧
  (Option.isSome p0 = true) ∧
  (Option.isSome p0 = true) ∧
  ∃ (wx_1 : World), (Instr.storeAt T_int64 (.pointer (Option.map (fun x => x.add 5) p0)) (.int .i64 n17_0)).run Tryz.prog wx = .ok () wx_1 ∧
  K (.tuple #[]) wx_1)
  (K (.tuple #[]) w17))
  (BCase (s1 == [109, 97, 120, 45, 97, 103, 101])
  (Calls Tryz.prog f_header_age #[.string (mkS s2)] w fun e32 w32 => ∃ (n32_0 : Int) (b32_1 : Bool), e32 = .returned (.tuple #[.int .i64 n32_0, .bool b32_1]) ∧
  BCase b32_1
  ((Option.isSome p0 = true) ∧
  (Option.isSome p0 = true) ∧
  ∃ (wx_2 : World), (Instr.storeAt T_bool (.pointer (Option.map (fun x => x.add 6) p0)) (.bool true)).run Tryz.prog w32 = .ok () wx_2 ∧
  (Option.isSome p0 = true) ∧
  (Option.isSome p0 = true) ∧
  ∃ (wx_3 : World), (Instr.storeAt T_int64 (.pointer (Option.map (fun x => x.add 7) p0)) (.int .i64 n32_0)).run Tryz.prog wx_2 = .ok () wx_3 ∧
  K (.tuple #[]) wx_3)
  (K (.tuple #[]) w32))
  (BCase (s1 == [100, 111, 109, 97, 105, 110])
  (Calls Tryz.prog f_strings_TrimPrefix #[.string (mkS s2), .string (mkS [46])] w fun e47 w47 => ∃ (s47 : List UInt8), e47 = .returned (.string (mkS s47)) ∧
  Calls Tryz.prog f_octet_Lower #[.string (mkS s47)] w47 fun e48 w48 => ∃ (s48 : List UInt8), e48 = .returned (.string (mkS s48)) ∧
  (Option.isSome p0 = true) ∧
  (Option.isSome p0 = true) ∧
  ∃ (wx_4 : World), (Instr.storeAt T_string (.pointer (Option.map (fun x => x.add 2) p0)) (.string (mkS s48))).run Tryz.prog w48 = .ok () wx_4 ∧
  K (.tuple #[]) wx_4)
  (BCase (s1 == [112, 97, 116, 104])
  ((Option.isSome p0 = true) ∧
  (Option.isSome p0 = true) ∧
  ∃ (wx_5 : World), (Instr.storeAt T_string (.pointer (Option.map (fun x => x.add 3) p0)) (.string (mkS []))).run Tryz.prog w = .ok () wx_5 ∧
  Calls Tryz.prog f_strings_HasPrefix #[.string (mkS s2), .string (mkS [47])] wx_5 fun e57 w57 => ∃ (b57 : Bool), e57 = .returned (.bool b57) ∧
  BCase b57
  ((Option.isSome p0 = true) ∧
  (Option.isSome p0 = true) ∧
  ∃ (wx_6 : World), (Instr.storeAt T_string (.pointer (Option.map (fun x => x.add 3) p0)) (.string (mkS s2))).run Tryz.prog w57 = .ok () wx_6 ∧
  K (.tuple #[]) wx_6)
  (K (.tuple #[]) w57))
  (BCase (s1 == [115, 101, 99, 117, 114, 101])
  ((Option.isSome p0 = true) ∧
  (Option.isSome p0 = true) ∧
  ∃ (wx_7 : World), (Instr.storeAt T_bool (.pointer (Option.map (fun x => x.add 8) p0)) (.bool true)).run Tryz.prog w = .ok () wx_7 ∧
  K (.tuple #[]) wx_7)
  (BCase (s1 == [104, 116, 116, 112, 111, 110, 108, 121])
  ((Option.isSome p0 = true) ∧
  (Option.isSome p0 = true) ∧
  ∃ (wx_8 : World), (Instr.storeAt T_bool (.pointer (Option.map (fun x => x.add 9) p0)) (.bool true)).run Tryz.prog w = .ok () wx_8 ∧
  K (.tuple #[]) wx_8)
  (BCase (s1 == [115, 97, 109, 101, 115, 105, 116, 101])
  ((Option.isSome p0 = true) ∧
  (Option.isSome p0 = true) ∧
  ∃ (wx_9 : World), (Instr.storeAt T_int (.pointer (Option.map (fun x => x.add 10) p0)) (.int .i64 (0 : Int))).run Tryz.prog w = .ok () wx_9 ∧
  Calls Tryz.prog f_header_names #[] wx_9 fun e77 w77 => ∃ (s77_0 : List UInt8) (s77_1 : List UInt8) (s77_2 : List UInt8) (s77_3 : List UInt8), e77 = .returned (.agg #[.string (mkS s77_0), .string (mkS s77_1), .string (mkS s77_2), .string (mkS s77_3)]) ∧
  ∃ I : Nat → FP [.one (.int .i64)],
  (∃ m : Nat, I m (0 : Int) w77) ∧
  ∀ (m : Nat) (n78 : Int), AllJ 13 (∀ (wl : World), I m n78 wl →
  BCase (decide (n78 < (4 : Int)))
  (∃ (s81 : List UInt8), (Instr.index T_arr4_string (.agg #[.string (mkS s77_0), .string (mkS s77_1), .string (mkS s77_2), .string (mkS s77_3)]) (.int .i64 n78)).run Tryz.prog wl = .ok (.string (mkS s81)) wl ∧
  Calls Tryz.prog f_octet_Same #[.string (mkS s81), .string (mkS s2)] wl fun e84 w84 => ∃ (b84 : Bool), e84 = .returned (.bool b84) ∧
  BCase b84
  ((Option.isSome p0 = true) ∧
  (Option.isSome p0 = true) ∧
  ∃ (wx_10 : World), (Instr.storeAt T_int (.pointer (Option.map (fun x => x.add 10) p0)) (.int .i64 n78)).run Tryz.prog w84 = .ok () wx_10 ∧
  ∃ m' : Nat, m' < m ∧ I m' (IntKind.i64.wrap (n78 + (1 : Int))) wx_10)
  (∃ m' : Nat, m' < m ∧ I m' (IntKind.i64.wrap (n78 + (1 : Int))) w84))
  (K (.tuple #[]) wl)))
  (K (.tuple #[]) w)))))))
theorem run_header_attribute (p0 : Option Addr) (s1 : List UInt8) (s2 : List UInt8) {w : World} {K : Value → World → Prop} (h : vc_header_attribute p0 s1 s2 w K) : Calls Tryz.prog f_header_attribute #[.pointer p0, .string (mkS s1), .string (mkS s2)] w (Ret K) :=
  calls_E (c := bodyOf Tryz.f16) (by kernel_rfl) Tryz.func16 (by kernel_rfl) [(53, [(78, .one (.int .i64))])] [.pointer p0, .string (mkS s1), .string (mkS s2)] (of_decide_eq_true (by kernel_rfl)) (vc_header_attribute p0 s1 s2 w K) (by kernel_rfl) h

--  cracknel/octet.Lower
def vc_octet_Lower (s0 : List UInt8) (w : World) (K : Value → World → Prop) : Prop :=
  ∃ (w7 : World) (a7 : Option Addr) (l7 c7 : Nat), (convert T_string T_sl_uint8 (.string (mkS s0))).run Tryz.prog w = .ok (.slice a7 l7 c7) w7 ∧
  ∃ I : Nat → FP [.one (.int .i64)],
  (∃ m : Nat, I m (0 : Int) w7) ∧
  ∀ (m : Nat) (n10 : Int), AllJ 19 (∀ (wl : World), I m n10 wl →
  BCase (decide (n10 < ((l7 : Nat) : Int)))
  (((0 ≤ n10 ∧ n10 < ((l7 : Nat) : Int)) ∧ Option.isSome a7 = true) ∧
  ∃ (n14 : Int), (Instr.loadAt T_uint8 (.pointer (elemAddr a7 n10 1))).run Tryz.prog wl = .ok (.int .u8 n14) wl ∧
  ∃ J : FP [.one (.bool)],
  (BCase (decide (n14 ≥ (65 : Int)))
  (J (decide (n14 ≤ (90 : Int))) wl)
  (J false wl)) ∧
  ∀ (b20 : Bool), AllJ 5 (∀ (wj : World), J b20 wj →
  BCase b20
  (((0 ≤ n10 ∧ n10 < ((l7 : Nat) : Int)) ∧ Option.isSome a7 = true) ∧
  ∃ (wx : World), (Instr.storeAt T_uint8 (.pointer (elemAddr a7 n10 1)) (.int .u8 (IntKind.u8.wrap ((IntKind.u8.wrap (n14 - (65 : Int))) + (97 : Int))))).run Tryz.prog wj = .ok () wx ∧
  ∃ m' : Nat, m' < m ∧ I m' (IntKind.i64.wrap (n10 + (1 : Int))) wx)
  (∃ m' : Nat, m' < m ∧ I m' (IntKind.i64.wrap (n10 + (1 : Int))) wj)))
  (∃ (s29 : List UInt8), (convert T_sl_uint8 T_string (.slice a7 l7 c7)).run Tryz.prog wl = .ok (.string (mkS s29)) wl ∧
  K (.string (mkS s29)) wl))
theorem run_octet_Lower (s0 : List UInt8) {w : World} {K : Value → World → Prop} (h : vc_octet_Lower s0 w K) : Calls Tryz.prog f_octet_Lower #[.string (mkS s0)] w (Ret K) :=
  calls_E (c := bodyOf Tryz.f17) (by kernel_rfl) Tryz.func17 (by kernel_rfl) [(8, [(10, .one (.int .i64))]), (19, [(20, .one (.bool))])] [.string (mkS s0)] (of_decide_eq_true (by kernel_rfl)) (vc_octet_Lower s0 w K) (by kernel_rfl) h

--  cracknel/cracknelref01.Split
def vc_ref01_Split (s0 : List UInt8) (n1 : Int) (w : World) (K : Value → World → Prop) : Prop :=
  ∀ (k8 : Nat) (w8 : World), k8 = w.heap.size → w8 = w.alloc (.cells #[] T_string) →
  ∃ I : Nat → FP [.one (.slice), .one (.int .i64), .one (.int .i64)],
  (∃ m : Nat, I m (some ⟨k8, 0, none⟩) 0 0 (0 : Int) (0 : Int) w8) ∧
  ∀ (m : Nat) (a5 : Option Addr) (l5 c5 : Nat) (n6 : Int) (n7 : Int), AllJ 20 (∀ (wl : World), I m a5 l5 c5 n6 n7 wl →
  BCase (decide (n7 < ((List.length s0 : Nat) : Int)))
  (((0 ≤ n7 ∧ n7 < ((List.length s0 : Nat) : Int))) ∧
  BCase ((byteAt s0 n7) == n1)
  ((((0 ≤ n7 ∧ n7 ≤ (((List.length s0) : Nat) : Int)) ∧ 0 ≤ n6 ∧ n6 ≤ ((Int.toNat n7 : Nat) : Int))) ∧
  ∀ (s24 : List UInt8), s24 = (List.drop (Int.toNat n6) (List.take (Int.toNat n7) s0)) →
  ∀ (k25 : Nat) (w25 : World), k25 = wl.heap.size → w25 = wl.alloc (.cells #[.string (mkS s24)] T_string) →
  ∃ (w26 : World) (a26 : Option Addr) (l26 c26 : Nat), (Builtin.append_ #[T_sl_string, T_sl_string] T_sl_string #[.slice a5 l5 c5, .slice (some ⟨k25, 0, none⟩) 1 1]).run Tryz.prog w25 = .ok (.slice a26 l26 c26) w26 ∧
  ∃ m' : Nat, m' < m ∧ I m' a26 l26 c26 (IntKind.i64.wrap (n7 + (1 : Int))) (IntKind.i64.wrap (n7 + (1 : Int))) w26)
  (∃ m' : Nat, m' < m ∧ I m' a5 l5 c5 n6 (IntKind.i64.wrap (n7 + (1 : Int))) wl))
  (((0 ≤ n6 ∧ n6 ≤ (((List.length s0) : Nat) : Int))) ∧
  ∀ (s32 : List UInt8), s32 = (List.drop (Int.toNat n6) s0) →
  ∀ (k33 : Nat) (w33 : World), k33 = wl.heap.size → w33 = wl.alloc (.cells #[.string (mkS s32)] T_string) →
  ∃ (w34 : World) (a34 : Option Addr) (l34 c34 : Nat), (Builtin.append_ #[T_sl_string, T_sl_string] T_sl_string #[.slice a5 l5 c5, .slice (some ⟨k33, 0, none⟩) 1 1]).run Tryz.prog w33 = .ok (.slice a34 l34 c34) w34 ∧
  K (.slice a34 l34 c34) w34))
theorem run_ref01_Split (s0 : List UInt8) (n1 : Int) {w : World} {K : Value → World → Prop} (h : vc_ref01_Split s0 n1 w K) : Calls Tryz.prog f_ref01_Split #[.string (mkS s0), .int .u8 n1] w (Ret K) :=
  calls_E (c := bodyOf Tryz.f18) (by kernel_rfl) Tryz.func18 (by kernel_rfl) [(10, [(5, .one (.slice)), (6, .one (.int .i64)), (7, .one (.int .i64))])] [.string (mkS s0), .int .u8 n1] (of_decide_eq_true (by kernel_rfl)) (vc_ref01_Split s0 n1 w K) (by kernel_rfl) h

--  cracknel/cracknelref08.ahead
def vc_ref08_ahead (s0 : List UInt8) (w : World) (K : Value → World → Prop) : Prop :=
  Calls Tryz.prog f_ref08_cut #[.string (mkS s0)] w fun e5 w5 => ∃ (n5 : Int), e5 = .returned (.int .i64 n5) ∧
  ((0 ≤ n5 ∧ n5 ≤ (((List.length s0) : Nat) : Int))) ∧
  ∀ (s6 : List UInt8), s6 = (List.take (Int.toNat n5) s0) →
  Calls Tryz.prog f_ref01_Trim #[.string (mkS s6)] w5 fun e7 w7 => ∃ (s7 : List UInt8), e7 = .returned (.string (mkS s7)) ∧
  K (.string (mkS s7)) w7
theorem run_ref08_ahead (s0 : List UInt8) {w : World} {K : Value → World → Prop} (h : vc_ref08_ahead s0 w K) : Calls Tryz.prog f_ref08_ahead #[.string (mkS s0)] w (Ret K) :=
  calls_E (c := bodyOf Tryz.f19) (by kernel_rfl) Tryz.func19 (by kernel_rfl) [] [.string (mkS s0)] (of_decide_eq_true (by kernel_rfl)) (vc_ref08_ahead s0 w K) (by kernel_rfl) h

--  cracknel/cracknelref08.after
def vc_ref08_after (s0 : List UInt8) (w : World) (K : Value → World → Prop) : Prop :=
  Calls Tryz.prog f_ref08_cut #[.string (mkS s0)] w fun e5 w5 => ∃ (n5 : Int), e5 = .returned (.int .i64 n5) ∧
  BCase (n5 == ((List.length s0 : Nat) : Int))
  (K (.string (mkS [])) w5)
  (((0 ≤ (IntKind.i64.wrap (n5 + (1 : Int))) ∧ (IntKind.i64.wrap (n5 + (1 : Int))) ≤ (((List.length s0) : Nat) : Int))) ∧
  ∀ (s13 : List UInt8), s13 = (List.drop (Int.toNat (IntKind.i64.wrap (n5 + (1 : Int)))) s0) →
  Calls Tryz.prog f_ref01_Trim #[.string (mkS s13)] w5 fun e14 w14 => ∃ (s14 : List UInt8), e14 = .returned (.string (mkS s14)) ∧
  K (.string (mkS s14)) w14)
theorem run_ref08_after (s0 : List UInt8) {w : World} {K : Value → World → Prop} (h : vc_ref08_after s0 w K) : Calls Tryz.prog f_ref08_after #[.string (mkS s0)] w (Ret K) :=
  calls_E (c := bodyOf Tryz.f20) (by kernel_rfl) Tryz.func20 (by kernel_rfl) [] [.string (mkS s0)] (of_decide_eq_true (by kernel_rfl)) (vc_ref08_after s0 w K) (by kernel_rfl) h

--  cracknel/cracknelref08.cut
def vc_ref08_cut (s0 : List UInt8) (w : World) (K : Value → World → Prop) : Prop :=
  ∃ I : Nat → FP [.one (.int .i64)],
  (∃ m : Nat, I m (0 : Int) w) ∧
  ∀ (m : Nat) (n3 : Int), AllJ 12 (∀ (wl : World), I m n3 wl →
  BCase (decide (n3 < ((List.length s0 : Nat) : Int)))
  (((0 ≤ n3 ∧ n3 < ((List.length s0 : Nat) : Int))) ∧
  BCase ((byteAt s0 n3) == (61 : Int))
  (K (.int .i64 n3) wl)
  (∃ m' : Nat, m' < m ∧ I m' (IntKind.i64.wrap (n3 + (1 : Int))) wl))
  (K (.int .i64 ((List.length s0 : Nat) : Int)) wl))
theorem run_ref08_cut (s0 : List UInt8) {w : World} {K : Value → World → Prop} (h : vc_ref08_cut s0 w K) : Calls Tryz.prog f_ref08_cut #[.string (mkS s0)] w (Ret K) :=
  calls_E (c := bodyOf Tryz.f21) (by kernel_rfl) Tryz.func21 (by kernel_rfl) [(6, [(3, .one (.int .i64))])] [.string (mkS s0)] (of_decide_eq_true (by kernel_rfl)) (vc_ref08_cut s0 w K) (by kernel_rfl) h

--  cracknel/cracknelref01.Trim
def vc_ref01_Trim (s0 : List UInt8) (w : World) (K : Value → World → Prop) : Prop :=
  ∃ I : Nat → FP [.one (.str)],
  (∃ m : Nat, I m s0 w) ∧
  ∀ (m : Nat) (s0_1 : List UInt8), AllJ 10 (∀ (wl : World), I m s0_1 wl →
  BCase (decide (((List.length s0_1 : Nat) : Int) > (0 : Int)))
  (((0 ≤ (0 : Int) ∧ (0 : Int) < ((List.length s0_1 : Nat) : Int))) ∧
  Calls Tryz.prog f_ref01_blank #[.int .u8 (byteAt s0_1 (0 : Int))] wl fun e9 w9 => ∃ (b9 : Bool), e9 = .returned (.bool b9) ∧
  BCase b9
  (((0 ≤ (1 : Int) ∧ (1 : Int) ≤ (((List.length s0_1) : Nat) : Int))) ∧
  ∀ (s12 : List UInt8), s12 = (List.drop (Int.toNat (1 : Int)) s0_1) →
  ∃ m' : Nat, m' < m ∧ I m' s12 w9)
  (∃ I_1 : Nat → FP [.one (.str)],
  (∃ m_1 : Nat, I_1 m_1 s0_1 w9) ∧
  ∀ (m_1 : Nat) (s0_2 : List UInt8), AllJ 16 (∀ (wl_1 : World), I_1 m_1 s0_2 wl_1 →
  ∃ J : FP [],
  (BCase (decide (((List.length s0_2 : Nat) : Int) > (0 : Int)))
  (((0 ≤ (IntKind.i64.wrap (((List.length s0_2 : Nat) : Int) - (1 : Int))) ∧ (IntKind.i64.wrap (((List.length s0_2 : Nat) : Int) - (1 : Int))) < ((List.length s0_2 : Nat) : Int))) ∧
  Calls Tryz.prog f_ref01_blank #[.int .u8 (byteAt s0_2 (IntKind.i64.wrap (((List.length s0_2 : Nat) : Int) - (1 : Int))))] wl_1 fun e22 w22 => ∃ (b22 : Bool), e22 = .returned (.bool b22) ∧
  BCase b22
  (J w22)
  (K (.string (mkS s0_2)) w22))
  (K (.string (mkS s0_2)) wl_1)) ∧
  AllJ 11 (∀ (wj : World), J wj →
  ((0 ≤ (IntKind.i64.wrap (((List.length s0_2 : Nat) : Int) - (1 : Int))) ∧ (IntKind.i64.wrap (((List.length s0_2 : Nat) : Int) - (1 : Int))) ≤ (((List.length s0_2) : Nat) : Int))) ∧
  ∀ (s28 : List UInt8), s28 = (List.take (Int.toNat (IntKind.i64.wrap (((List.length s0_2 : Nat) : Int) - (1 : Int)))) s0_2) →
  ∃ m'_1 : Nat, m'_1 < m_1 ∧ I_1 m'_1 s28 wj))))
  (∃ I_2 : Nat → FP [.one (.str)],
  (∃ m_2 : Nat, I_2 m_2 s0_1 wl) ∧
  ∀ (m_2 : Nat) (s0_3 : List UInt8), AllJ 16 (∀ (wl_2 : World), I_2 m_2 s0_3 wl_2 →
  ∃ J_1 : FP [],
  (BCase (decide (((List.length s0_3 : Nat) : Int) > (0 : Int)))
  (((0 ≤ (IntKind.i64.wrap (((List.length s0_3 : Nat) : Int) - (1 : Int))) ∧ (IntKind.i64.wrap (((List.length s0_3 : Nat) : Int) - (1 : Int))) < ((List.length s0_3 : Nat) : Int))) ∧
  Calls Tryz.prog f_ref01_blank #[.int .u8 (byteAt s0_3 (IntKind.i64.wrap (((List.length s0_3 : Nat) : Int) - (1 : Int))))] wl_2 fun e22_1 w22_1 => ∃ (b22_1 : Bool), e22_1 = .returned (.bool b22_1) ∧
  BCase b22_1
  (J_1 w22_1)
  (K (.string (mkS s0_3)) w22_1))
  (K (.string (mkS s0_3)) wl_2)) ∧
  AllJ 11 (∀ (wj_1 : World), J_1 wj_1 →
  ((0 ≤ (IntKind.i64.wrap (((List.length s0_3 : Nat) : Int) - (1 : Int))) ∧ (IntKind.i64.wrap (((List.length s0_3 : Nat) : Int) - (1 : Int))) ≤ (((List.length s0_3) : Nat) : Int))) ∧
  ∀ (s28_1 : List UInt8), s28_1 = (List.take (Int.toNat (IntKind.i64.wrap (((List.length s0_3 : Nat) : Int) - (1 : Int)))) s0_3) →
  ∃ m'_2 : Nat, m'_2 < m_2 ∧ I_2 m'_2 s28_1 wj_1))))
theorem run_ref01_Trim (s0 : List UInt8) {w : World} {K : Value → World → Prop} (h : vc_ref01_Trim s0 w K) : Calls Tryz.prog f_ref01_Trim #[.string (mkS s0)] w (Ret K) :=
  calls_E (c := bodyOf Tryz.f22) (by kernel_rfl) Tryz.func22 (by kernel_rfl) [(4, [(0, .one (.str))]), (15, [(0, .one (.str))]), (16, []), (15, [(0, .one (.str))]), (16, [])] [.string (mkS s0)] (of_decide_eq_true (by kernel_rfl)) (vc_ref01_Trim s0 w K) (by kernel_rfl) h

--  cracknel/cracknelref01.Lower
def vc_ref01_Lower (s0 : List UInt8) (w : World) (K : Value → World → Prop) : Prop :=
  ∃ I : Nat → FP [.one (.str), .one (.int .i64)],
  (∃ m : Nat, I m [] (0 : Int) w) ∧
  ∀ (m : Nat) (s3 : List UInt8) (n4 : Int), AllJ 23 (∀ (wl : World), I m s3 n4 wl →
  BCase (decide (n4 < ((List.length s0 : Nat) : Int)))
  (((0 ≤ n4 ∧ n4 < ((List.length s0 : Nat) : Int))) ∧
  ∃ J : FP [.one (.int .u8)],
  (BCase (decide ((byteAt s0 n4) ≥ (65 : Int)))
  (BCase (decide ((byteAt s0 n4) ≤ (90 : Int)))
  (J (IntKind.u8.wrap ((byteAt s0 n4) + (32 : Int))) wl)
  (J (byteAt s0 n4) wl))
  (J (byteAt s0 n4) wl)) ∧
  ∀ (n5 : Int), AllJ 8 (∀ (wj : World), J n5 wj →
  ∀ (k25 : Nat) (w25 : World), k25 = wj.heap.size → w25 = wj.alloc (.cells #[.int .u8 n5] T_uint8) →
  ∃ (s26 : List UInt8), (convert T_sl_uint8 T_string (.slice (some ⟨k25, 0, none⟩) 1 1)).run Tryz.prog w25 = .ok (.string (mkS s26)) w25 ∧
  ((((List.length s3 + List.length s26 : Nat) : Int) ≤ IntKind.i64.max)) ∧
  ∀ (s27 : List UInt8), s27 = (s3 ++ s26) →
  ∃ m' : Nat, m' < m ∧ I m' s27 (IntKind.i64.wrap (n4 + (1 : Int))) w25))
  (K (.string (mkS s3)) wl))
theorem run_ref01_Lower (s0 : List UInt8) {w : World} {K : Value → World → Prop} (h : vc_ref01_Lower s0 w K) : Calls Tryz.prog f_ref01_Lower #[.string (mkS s0)] w (Ret K) :=
  calls_E (c := bodyOf Tryz.f23) (by kernel_rfl) Tryz.func23 (by kernel_rfl) [(8, [(3, .one (.str)), (4, .one (.int .i64))]), (19, [(5, .one (.int .u8))])] [.string (mkS s0)] (of_decide_eq_true (by kernel_rfl)) (vc_ref01_Lower s0 w K) (by kernel_rfl) h

--  cracknel/cracknelref07.Cookie
def vc_ref07_Cookie (s0 : List UInt8) (w : World) (K : Value → World → Prop) : Prop :=
  ∀ (k17 : Nat) (w17 : World), k17 = w.heap.size → w17 = w.alloc (.cells #[.string (mkS [])] T_string) →
  ∃ I : Nat → FP [.one (.slice), .one (.int .i64)],
  (∃ m : Nat, I m (some ⟨k17, 0, none⟩) 1 1 (0 : Int) w17) ∧
  ∀ (m : Nat) (a4 : Option Addr) (l4 c4 : Nat) (n5 : Int), AllJ 26 (∀ (wl : World), I m a4 l4 c4 n5 wl →
  BCase (decide (n5 < ((List.length s0 : Nat) : Int)))
  (((0 ≤ n5 ∧ n5 < ((List.length s0 : Nat) : Int))) ∧
  Calls Tryz.prog f_ref07_parts #[.int .u8 (byteAt s0 n5)] wl fun e27 w27 => ∃ (b27 : Bool), e27 = .returned (.bool b27) ∧
  BCase b27
  (∀ (k29 : Nat) (w29 : World), k29 = w27.heap.size → w29 = w27.alloc (.cells #[.string (mkS [])] T_string) →
  ∃ (w30 : World) (a30 : Option Addr) (l30 c30 : Nat), (Builtin.append_ #[T_sl_string, T_sl_string] T_sl_string #[.slice a4 l4 c4, .slice (some ⟨k29, 0, none⟩) 1 1]).run Tryz.prog w29 = .ok (.slice a30 l30 c30) w30 ∧
  ∃ m' : Nat, m' < m ∧ I m' a30 l30 c30 (IntKind.i64.wrap (n5 + (1 : Int))) w30)
  (((0 ≤ (IntKind.i64.wrap (((l4 : Nat) : Int) - (1 : Int))) ∧ (IntKind.i64.wrap (((l4 : Nat) : Int) - (1 : Int))) < ((l4 : Nat) : Int)) ∧ Option.isSome a4 = true) ∧
  (((0 ≤ (IntKind.i64.wrap (n5 + (1 : Int))) ∧ (IntKind.i64.wrap (n5 + (1 : Int))) ≤ (((List.length s0) : Nat) : Int)) ∧ 0 ≤ n5 ∧ n5 ≤ ((Int.toNat (IntKind.i64.wrap (n5 + (1 : Int))) : Nat) : Int))) ∧
  ∀ (s41 : List UInt8), s41 = (List.drop (Int.toNat n5) (List.take (Int.toNat (IntKind.i64.wrap (n5 + (1 : Int)))) s0)) →
  ∃ (s36 : List UInt8), (Instr.loadAt T_string (.pointer (elemAddr a4 (IntKind.i64.wrap (((l4 : Nat) : Int) - (1 : Int))) 1))).run Tryz.prog (World.drew w27) = .ok (.string (mkS s36)) (World.drew w27) ∧
  ((((List.length s36 + List.length s41 : Nat) : Int) ≤ IntKind.i64.max)) ∧
  ∀ (s42 : List UInt8), s42 = (s36 ++ s41) →
  ((0 ≤ (IntKind.i64.wrap (((l4 : Nat) : Int) - (1 : Int))) ∧ (IntKind.i64.wrap (((l4 : Nat) : Int) - (1 : Int))) < ((l4 : Nat) : Int)) ∧ Option.isSome a4 = true) ∧
  ∃ (wx : World), (Instr.storeAt T_string (.pointer (elemAddr a4 (IntKind.i64.wrap (((l4 : Nat) : Int) - (1 : Int))) 1)) (.string (mkS s42))).run Tryz.prog (World.drew w27) = .ok () wx ∧
  ∃ m' : Nat, m' < m ∧ I m' a4 l4 c4 (IntKind.i64.wrap (n5 + (1 : Int))) wx))
  (∀ (k44 : Nat) (w44 : World), k44 = wl.heap.size → w44 = wl.alloc (.cells #[] T_int) →
  ∃ I_1 : Nat → FP [.one (.slice), .one (.int .i64), .one (.int .i64), .one (.int .i64), .one (.int .i64)],
  (∃ m_1 : Nat, I_1 m_1 (some ⟨k44, 0, none⟩) 0 0 (-1 : Int) (-1 : Int) (-1 : Int) (0 : Int) w44) ∧
  ∀ (m_1 : Nat) (a6 : Option Addr) (l6 c6 : Nat) (n7 : Int) (n8 : Int) (n9 : Int) (n47 : Int), AllJ 59 (∀ (wl_1 : World), I_1 m_1 a6 l6 c6 n7 n8 n9 n47 wl_1 →
  BCase (decide (n47 < ((l4 : Nat) : Int)))
  (((0 ≤ n47 ∧ n47 < ((l4 : Nat) : Int)) ∧ Option.isSome a4 = true) ∧
  ∃ (s50 : List UInt8), (Instr.loadAt T_string (.pointer (elemAddr a4 n47 1))).run Tryz.prog wl_1 = .ok (.string (mkS s50)) wl_1 ∧
  Calls Tryz.prog f_ref07_digits #[.string (mkS s50)] wl_1 fun e52 w52 => ∃ (n52 : Int), e52 = .returned (.int .i64 n52) ∧
  Calls Tryz.prog f_ref07_time #[.string (mkS s50)] w52 fun e55 w55 => ∃ (a55_0 : Option Addr) (l55_0 c55_0 : Nat) (b55_1 : Bool), e55 = .returned (.tuple #[.slice a55_0 l55_0 c55_0, .bool b55_1]) ∧
  ∃ J : FP [.one (.bool)],
  (BCase b55_1
  (J (((l6 : Nat) : Int) == (0 : Int)) w55)
  (J false w55)) ∧
  ∀ (b63 : Bool), AllJ 5 (∀ (wj : World), J b63 wj →
  BCase b63
  (∃ m'_1 : Nat, m'_1 < m_1 ∧ I_1 m'_1 a55_0 l55_0 c55_0 n7 n8 n9 (IntKind.i64.wrap (n47 + (1 : Int))) wj)
  (∃ J_1 : FP [.one (.bool)],
  (BCase (decide (n9 < (0 : Int)))
  (BCase (decide (n52 ≥ (1 : Int)))
  (J_1 (decide (n52 ≤ (2 : Int))) wj)
  (J_1 false wj))
  (J_1 false wj)) ∧
  ∀ (b74 : Bool), AllJ 9 (∀ (wj_1 : World), J_1 b74 wj_1 →
  BCase b74
  (((0 ≤ n52 ∧ n52 ≤ (((List.length s50) : Nat) : Int))) ∧
  ∀ (s77 : List UInt8), s77 = (List.take (Int.toNat n52) s50) →
  Calls Tryz.prog f_ref07_value #[.string (mkS s77)] wj_1 fun e78 w78 => ∃ (n78 : Int), e78 = .returned (.int .i64 n78) ∧
  ∃ m'_1 : Nat, m'_1 < m_1 ∧ I_1 m'_1 a6 l6 c6 n7 n8 n78 (IntKind.i64.wrap (n47 + (1 : Int))) w78)
  (∃ J_2 : FP [.one (.bool)],
  (BCase (decide (n8 < (0 : Int)))
  (Calls Tryz.prog f_ref07_month #[.string (mkS s50)] wj_1 fun e83 w83 => ∃ (n83 : Int), e83 = .returned (.int .i64 n83) ∧
  J_2 (decide (n83 > (0 : Int))) w83)
  (J_2 false wj_1)) ∧
  ∀ (b85 : Bool), AllJ 6 (∀ (wj_2 : World), J_2 b85 wj_2 →
  BCase b85
  (Calls Tryz.prog f_ref07_month #[.string (mkS s50)] wj_2 fun e87 w87 => ∃ (n87 : Int), e87 = .returned (.int .i64 n87) ∧
  ∃ m'_1 : Nat, m'_1 < m_1 ∧ I_1 m'_1 a6 l6 c6 n7 n87 n9 (IntKind.i64.wrap (n47 + (1 : Int))) w87)
  (∃ J_3 : FP [.one (.bool)],
  (BCase (decide (n7 < (0 : Int)))
  (BCase (decide (n52 ≥ (2 : Int)))
  (J_3 (decide (n52 ≤ (4 : Int))) wj_2)
  (J_3 false wj_2))
  (J_3 false wj_2)) ∧
  ∀ (b97 : Bool), AllJ 9 (∀ (wj_3 : World), J_3 b97 wj_3 →
  BCase b97
  (((0 ≤ n52 ∧ n52 ≤ (((List.length s50) : Nat) : Int))) ∧
  ∀ (s100 : List UInt8), s100 = (List.take (Int.toNat n52) s50) →
  Calls Tryz.prog f_ref07_value #[.string (mkS s100)] wj_3 fun e101 w101 => ∃ (n101 : Int), e101 = .returned (.int .i64 n101) ∧
  ∃ m'_1 : Nat, m'_1 < m_1 ∧ I_1 m'_1 a6 l6 c6 n101 n8 n9 (IntKind.i64.wrap (n47 + (1 : Int))) w101)
  (∃ m'_1 : Nat, m'_1 < m_1 ∧ I_1 m'_1 a6 l6 c6 n7 n8 n9 (IntKind.i64.wrap (n47 + (1 : Int))) wj_3)))))))))
  (∃ J_4 : FP [.one (.int .i64)],
  (∃ J_5 : FP [.one (.bool)],
  (BCase (decide (n7 ≥ (70 : Int)))
  (J_5 (decide (n7 ≤ (99 : Int))) wl_1)
  (J_5 false wl_1)) ∧
  ∀ (b108 : Bool), AllJ 5 (∀ (wj_4 : World), J_5 b108 wj_4 →
  BCase b108
  (J_4 (IntKind.i64.wrap (n7 + (1900 : Int))) wj_4)
  (BCase (decide (n7 ≥ (0 : Int)))
  (BCase (decide (n7 ≤ (69 : Int)))
  (J_4 (IntKind.i64.wrap (n7 + (2000 : Int))) wj_4)
  (J_4 n7 wj_4))
  (J_4 n7 wj_4)))) ∧
  ∀ (n7_1 : Int), AllJ 16 (∀ (wj_5 : World), J_4 n7_1 wj_5 →
  ∃ J_6 : FP [],
  (BCase (((l6 : Nat) : Int) == (0 : Int))
  (K (.tuple #[.int .i64 (0 : Int), .bool false]) wj_5)
  (Calls Tryz.prog f_ref07_Is #[.int .i64 n7_1, .int .i64 n8, .int .i64 n9] wj_5 fun e126 w126 => ∃ (b126 : Bool), e126 = .returned (.bool b126) ∧
  BCase (!b126)
  (K (.tuple #[.int .i64 (0 : Int), .bool false]) w126)
  (((0 ≤ (0 : Int) ∧ (0 : Int) < ((l6 : Nat) : Int)) ∧ Option.isSome a6 = true) ∧
  ∃ (n132 : Int), (Instr.loadAt T_int (.pointer (elemAddr a6 (0 : Int) 1))).run Tryz.prog w126 = .ok (.int .i64 n132) w126 ∧
  BCase (decide (n132 > (23 : Int)))
  (K (.tuple #[.int .i64 (0 : Int), .bool false]) w126)
  (((0 ≤ (1 : Int) ∧ (1 : Int) < ((l6 : Nat) : Int)) ∧ Option.isSome a6 = true) ∧
  ∃ (n138 : Int), (Instr.loadAt T_int (.pointer (elemAddr a6 (1 : Int) 1))).run Tryz.prog w126 = .ok (.int .i64 n138) w126 ∧
  BCase (decide (n138 > (59 : Int)))
  (K (.tuple #[.int .i64 (0 : Int), .bool false]) w126)
  (((0 ≤ (2 : Int) ∧ (2 : Int) < ((l6 : Nat) : Int)) ∧ Option.isSome a6 = true) ∧
  ∃ (n144 : Int), (Instr.loadAt T_int (.pointer (elemAddr a6 (2 : Int) 1))).run Tryz.prog w126 = .ok (.int .i64 n144) w126 ∧
  BCase (decide (n144 > (59 : Int)))
  (K (.tuple #[.int .i64 (0 : Int), .bool false]) w126)
  (J_6 w126)))))) ∧
  AllJ 30 (∀ (wj_6 : World), J_6 wj_6 →
  Calls Tryz.prog f_ref07_Days #[.int .i64 n7_1, .int .i64 n8, .int .i64 n9] wj_6 fun e151 w151 => ∃ (n151_0 : Int) (b151_1 : Bool), e151 = .returned (.tuple #[.int .i64 n151_0, .bool b151_1]) ∧
  ((0 ≤ (0 : Int) ∧ (0 : Int) < ((l6 : Nat) : Int)) ∧ Option.isSome a6 = true) ∧
  ∃ (n158 : Int), (∀ u158 : World, Below w151.heap.size w151 u158 → (Instr.loadAt T_int (.pointer (elemAddr a6 (0 : Int) 1))).run Tryz.prog u158 = .ok (.int .i64 n158) u158) ∧
  ((0 ≤ (1 : Int) ∧ (1 : Int) < ((l6 : Nat) : Int)) ∧ Option.isSome a6 = true) ∧
  ∃ (n162 : Int), (∀ u162 : World, Below w151.heap.size w151 u162 → (Instr.loadAt T_int (.pointer (elemAddr a6 (1 : Int) 1))).run Tryz.prog u162 = .ok (.int .i64 n162) u162) ∧
  ((0 ≤ (2 : Int) ∧ (2 : Int) < ((l6 : Nat) : Int)) ∧ Option.isSome a6 = true) ∧
  ∃ (n167 : Int), (∀ u167 : World, Below w151.heap.size w151 u167 → (Instr.loadAt T_int (.pointer (elemAddr a6 (2 : Int) 1))).run Tryz.prog u167 = .ok (.int .i64 n167) u167) ∧
  ∀ wq : World, Below w151.heap.size w151 wq →
  K (.tuple #[.int .i64 (IntKind.i64.wrap ((IntKind.i64.wrap (n151_0 * (86400 : Int))) + (IntKind.i64.wrap ((IntKind.i64.wrap ((IntKind.i64.wrap (n158 * (3600 : Int))) + (IntKind.i64.wrap (n162 * (60 : Int))))) + n167)))), .bool true]) wq))))))
theorem run_ref07_Cookie (s0 : List UInt8) {w : World} {K : Value → World → Prop} (h : vc_ref07_Cookie s0 w K) : Calls Tryz.prog f_ref07_Cookie #[.string (mkS s0)] w (Ret K) :=
  calls_E (c := bodyOf Tryz.f24) (by kernel_rfl) Tryz.func24 (by kernel_rfl) [(8, [(4, .one (.slice)), (5, .one (.int .i64))]), (31, [(6, .one (.slice)), (7, .one (.int .i64)), (8, .one (.int .i64)), (9, .one (.int .i64)), (47, .one (.int .i64))]), (46, [(63, .one (.bool))]), (50, [(74, .one (.bool))]), (54, [(85, .one (.bool))]), (58, [(97, .one (.bool))]), (64, [(7, .one (.int .i64))]), (65, [(108, .one (.bool))]), (74, [])] [.string (mkS s0)] (of_decide_eq_true (by kernel_rfl)) (vc_ref07_Cookie s0 w K) (by kernel_rfl) h

--  cracknel/cracknelref08.age
def vc_ref08_age (s0 : List UInt8) (w : World) (K : Value → World → Prop) : Prop :=
  ∃ J : FP [],
  (∃ J_1 : FP [.one (.bool)],
  (BCase (decide (((List.length s0 : Nat) : Int) > (0 : Int)))
  (((0 ≤ (0 : Int) ∧ (0 : Int) < ((List.length s0 : Nat) : Int))) ∧
  J_1 ((byteAt s0 (0 : Int)) == (45 : Int)) w)
  (J_1 false w)) ∧
  ∀ (b13 : Bool), AllJ 7 (∀ (wj : World), J_1 b13 wj →
  BCase b13
  (((0 ≤ (1 : Int) ∧ (1 : Int) ≤ (((List.length s0) : Nat) : Int))) ∧
  ∀ (s15 : List UInt8), s15 = (List.drop (Int.toNat (1 : Int)) s0) →
  Calls Tryz.prog f_ref01_Digits #[.string (mkS s15)] wj fun e16 w16 => ∃ (b16 : Bool), e16 = .returned (.bool b16) ∧
  K (.tuple #[.int .i64 (0 : Int), .bool b16]) w16)
  (J wj))) ∧
  AllJ 13 (∀ (wj_1 : World), J wj_1 →
  Calls Tryz.prog f_ref01_Digits #[.string (mkS s0)] wj_1 fun e18 w18 => ∃ (b18 : Bool), e18 = .returned (.bool b18) ∧
  BCase (!b18)
  (K (.tuple #[.int .i64 (0 : Int), .bool false]) w18)
  (∃ I : Nat → FP [.one (.int .i64), .one (.int .i64)],
  (∃ m : Nat, I m (0 : Int) (0 : Int) w18) ∧
  ∀ (m : Nat) (n4 : Int) (n5 : Int), AllJ 16 (∀ (wl : World), I m n4 n5 wl →
  BCase (decide (n5 < ((List.length s0 : Nat) : Int)))
  (((0 ≤ n5 ∧ n5 < ((List.length s0 : Nat) : Int))) ∧
  BCase (decide ((IntKind.i64.wrap ((IntKind.i64.wrap ((IntKind.i64.wrap (n4 * (10 : Int))) + (IntKind.i64.wrap (byteAt s0 n5)))) - (48 : Int))) > (34560000 : Int)))
  (∃ m' : Nat, m' < m ∧ I m' (34560000 : Int) (IntKind.i64.wrap (n5 + (1 : Int))) wl)
  (∃ m' : Nat, m' < m ∧ I m' (IntKind.i64.wrap ((IntKind.i64.wrap ((IntKind.i64.wrap (n4 * (10 : Int))) + (IntKind.i64.wrap (byteAt s0 n5)))) - (48 : Int))) (IntKind.i64.wrap (n5 + (1 : Int))) wl))
  (K (.tuple #[.int .i64 n4, .bool true]) wl))))
theorem run_ref08_age (s0 : List UInt8) {w : World} {K : Value → World → Prop} (h : vc_ref08_age s0 w K) : Calls Tryz.prog f_ref08_age #[.string (mkS s0)] w (Ret K) :=
  calls_E (c := bodyOf Tryz.f25) (by kernel_rfl) Tryz.func25 (by kernel_rfl) [(2, []), (3, [(13, .one (.bool))]), (24, [(4, .one (.int .i64)), (5, .one (.int .i64))])] [.string (mkS s0)] (of_decide_eq_true (by kernel_rfl)) (vc_ref08_age s0 w K) (by kernel_rfl) h

--  cracknel/header.written
def vc_header_written (s0_0 : List UInt8) (s0_1 : List UInt8) (s0_2 : List UInt8) (s0_3 : List UInt8) (b0_4 : Bool) (n0_5 : Int) (b0_6 : Bool) (n0_7 : Int) (b0_8 : Bool) (b0_9 : Bool) (n0_10 : Int) (w : World) (K : Value → World → Prop) : Prop :=
  ∀ (k1 : Nat) (w1 : World), k1 = w.heap.size → w1 = w.alloc (.cells #[.string (mkS s0_0), .string (mkS s0_1), .string (mkS s0_2), .string (mkS s0_3), .bool b0_4, .int .i64 n0_5, .bool b0_6, .int .i64 n0_7, .bool b0_8, .bool b0_9, .int .i64 n0_10] T_api_Header) →
  (true = true) ∧
  ∃ (s6 : List UInt8), (Instr.loadAt T_string (.pointer (some ⟨k1, 0, none⟩))).run Tryz.prog w1 = .ok (.string (mkS s6)) w1 ∧
  ((((List.length s6 + List.length [61] : Nat) : Int) ≤ IntKind.i64.max)) ∧
  ∀ (s7 : List UInt8), s7 = (s6 ++ [61]) →
  (true = true) ∧
  ∃ (s9 : List UInt8), (Instr.loadAt T_string (.pointer (some ⟨k1, 1, none⟩))).run Tryz.prog w1 = .ok (.string (mkS s9)) w1 ∧
  ((((List.length s7 + List.length s9 : Nat) : Int) ≤ IntKind.i64.max)) ∧
  ∀ (s10 : List UInt8), s10 = (s7 ++ s9) →
  ∀ (k11 : Nat) (w11 : World), k11 = w1.heap.size → w11 = w1.alloc (.cells #[.string (mkS s10)] T_string) →
  ∀ (k3 : Nat) (w3 : World), k3 = w11.heap.size → w3 = w11.alloc (.cells #[.slice none 0 0] T_sl_string) →
  ∃ (wx : World), (Instr.storeAt T_sl_string (.pointer (some ⟨k3, 0, none⟩)) (.slice (some ⟨k11, 0, none⟩) 1 1)).run Tryz.prog w3 = .ok () wx ∧
  ∃ J : FP [],
  ((true = true) ∧
  (true = true) ∧
  (∃ (b15 : Bool), (Instr.loadAt T_bool (.pointer (some ⟨k1, 4, none⟩))).run Tryz.prog (World.drew wx) = .ok (.bool b15) (World.drew wx) ∧
  ∃ (n17 : Int), (Instr.loadAt T_int64 (.pointer (some ⟨k1, 5, none⟩))).run Tryz.prog (World.drew wx) = .ok (.int .i64 n17) (World.drew wx) ∧
  Calls Tryz.prog f_date_Text #[.int .i64 n17] (World.drew wx) fun e18 w18 => ∃ (s18 : List UInt8), e18 = .returned (.string (mkS s18)) ∧
  ((((List.length [69, 120, 112, 105, 114, 101, 115, 61] + List.length s18 : Nat) : Int) ≤ IntKind.i64.max)) ∧
  ∀ (s19 : List UInt8), s19 = ([69, 120, 112, 105, 114, 101, 115, 61] ++ s18) →
  Calls Tryz.prog f_header_written_c1 #[.bool b15, .string (mkS s19), .pointer (some ⟨k3, 0, none⟩)] w18 fun e20 w20 => e20 = .returned (.tuple #[]) ∧
  J w20) ∧
  ∃ (n17_1 : Int), (Instr.loadAt T_int64 (.pointer (some ⟨k1, 5, none⟩))).run Tryz.prog (World.drew wx) = .ok (.int .i64 n17_1) (World.drew wx) ∧
  (∃ (b15_1 : Bool), (Instr.loadAt T_bool (.pointer (some ⟨k1, 4, none⟩))).run Tryz.prog (World.drew wx) = .ok (.bool b15_1) (World.drew wx) ∧
  Calls Tryz.prog f_date_Text #[.int .i64 n17_1] (World.drew wx) fun e18_1 w18_1 => ∃ (s18_1 : List UInt8), e18_1 = .returned (.string (mkS s18_1)) ∧
  ((((List.length [69, 120, 112, 105, 114, 101, 115, 61] + List.length s18_1 : Nat) : Int) ≤ IntKind.i64.max)) ∧
  ∀ (s19_1 : List UInt8), s19_1 = ([69, 120, 112, 105, 114, 101, 115, 61] ++ s18_1) →
  Calls Tryz.prog f_header_written_c1 #[.bool b15_1, .string (mkS s19_1), .pointer (some ⟨k3, 0, none⟩)] w18_1 fun e20_1 w20_1 => e20_1 = .returned (.tuple #[]) ∧
  J w20_1) ∧
  Calls Tryz.prog f_date_Text #[.int .i64 n17_1] (World.drew wx) fun e18_2 w18_2 => ∃ (s18_2 : List UInt8), e18_2 = .returned (.string (mkS s18_2)) ∧
  ((((List.length [69, 120, 112, 105, 114, 101, 115, 61] + List.length s18_2 : Nat) : Int) ≤ IntKind.i64.max)) ∧
  ∀ (s19_2 : List UInt8), s19_2 = ([69, 120, 112, 105, 114, 101, 115, 61] ++ s18_2) →
  ∃ (b15_2 : Bool), (Instr.loadAt T_bool (.pointer (some ⟨k1, 4, none⟩))).run Tryz.prog w18_2 = .ok (.bool b15_2) w18_2 ∧
  Calls Tryz.prog f_header_written_c1 #[.bool b15_2, .string (mkS s19_2), .pointer (some ⟨k3, 0, none⟩)] w18_2 fun e20_2 w20_2 => e20_2 = .returned (.tuple #[]) ∧
  J w20_2) ∧
  AllJ 8 (∀ (wj : World), J wj →
  ∃ J_1 : FP [],
  ((true = true) ∧
  (true = true) ∧
  (∃ (b23 : Bool), (Instr.loadAt T_bool (.pointer (some ⟨k1, 6, none⟩))).run Tryz.prog (World.drew wj) = .ok (.bool b23) (World.drew wj) ∧
  ∃ (n25 : Int), (Instr.loadAt T_int64 (.pointer (some ⟨k1, 7, none⟩))).run Tryz.prog (World.drew wj) = .ok (.int .i64 n25) (World.drew wj) ∧
  Calls Tryz.prog f_strconv_FormatInt #[.int .i64 n25, .int .i64 (10 : Int)] (World.drew wj) fun e26 w26 => ∃ (s26 : List UInt8), e26 = .returned (.string (mkS s26)) ∧
  ((((List.length [77, 97, 120, 45, 65, 103, 101, 61] + List.length s26 : Nat) : Int) ≤ IntKind.i64.max)) ∧
  ∀ (s27 : List UInt8), s27 = ([77, 97, 120, 45, 65, 103, 101, 61] ++ s26) →
  Calls Tryz.prog f_header_written_c1 #[.bool b23, .string (mkS s27), .pointer (some ⟨k3, 0, none⟩)] w26 fun e28 w28 => e28 = .returned (.tuple #[]) ∧
  J_1 w28) ∧
  ∃ (n25_1 : Int), (Instr.loadAt T_int64 (.pointer (some ⟨k1, 7, none⟩))).run Tryz.prog (World.drew wj) = .ok (.int .i64 n25_1) (World.drew wj) ∧
  (∃ (b23_1 : Bool), (Instr.loadAt T_bool (.pointer (some ⟨k1, 6, none⟩))).run Tryz.prog (World.drew wj) = .ok (.bool b23_1) (World.drew wj) ∧
  Calls Tryz.prog f_strconv_FormatInt #[.int .i64 n25_1, .int .i64 (10 : Int)] (World.drew wj) fun e26_1 w26_1 => ∃ (s26_1 : List UInt8), e26_1 = .returned (.string (mkS s26_1)) ∧
  ((((List.length [77, 97, 120, 45, 65, 103, 101, 61] + List.length s26_1 : Nat) : Int) ≤ IntKind.i64.max)) ∧
  ∀ (s27_1 : List UInt8), s27_1 = ([77, 97, 120, 45, 65, 103, 101, 61] ++ s26_1) →
  Calls Tryz.prog f_header_written_c1 #[.bool b23_1, .string (mkS s27_1), .pointer (some ⟨k3, 0, none⟩)] w26_1 fun e28_1 w28_1 => e28_1 = .returned (.tuple #[]) ∧
  J_1 w28_1) ∧
  Calls Tryz.prog f_strconv_FormatInt #[.int .i64 n25_1, .int .i64 (10 : Int)] (World.drew wj) fun e26_2 w26_2 => ∃ (s26_2 : List UInt8), e26_2 = .returned (.string (mkS s26_2)) ∧
  ((((List.length [77, 97, 120, 45, 65, 103, 101, 61] + List.length s26_2 : Nat) : Int) ≤ IntKind.i64.max)) ∧
  ∀ (s27_2 : List UInt8), s27_2 = ([77, 97, 120, 45, 65, 103, 101, 61] ++ s26_2) →
  ∃ (b23_2 : Bool), (Instr.loadAt T_bool (.pointer (some ⟨k1, 6, none⟩))).run Tryz.prog w26_2 = .ok (.bool b23_2) w26_2 ∧
  Calls Tryz.prog f_header_written_c1 #[.bool b23_2, .string (mkS s27_2), .pointer (some ⟨k3, 0, none⟩)] w26_2 fun e28_2 w28_2 => e28_2 = .returned (.tuple #[]) ∧
  J_1 w28_2) ∧
  AllJ 8 (∀ (wj_1 : World), J_1 wj_1 →
  ∃ J_2 : FP [],
  ((true = true) ∧
  (true = true) ∧
  (∃ (s31 : List UInt8), (Instr.loadAt T_string (.pointer (some ⟨k1, 2, none⟩))).run Tryz.prog (World.drew wj_1) = .ok (.string (mkS s31)) (World.drew wj_1) ∧
  ∃ (s34 : List UInt8), (Instr.loadAt T_string (.pointer (some ⟨k1, 2, none⟩))).run Tryz.prog (World.drew wj_1) = .ok (.string (mkS s34)) (World.drew wj_1) ∧
  Calls Tryz.prog f_header_dotted #[.string (mkS s34)] (World.drew wj_1) fun e35 w35 => ∃ (s35 : List UInt8), e35 = .returned (.string (mkS s35)) ∧
  ((((List.length [68, 111, 109, 97, 105, 110, 61] + List.length s35 : Nat) : Int) ≤ IntKind.i64.max)) ∧
  ∀ (s36 : List UInt8), s36 = ([68, 111, 109, 97, 105, 110, 61] ++ s35) →
  Calls Tryz.prog f_header_written_c1 #[.bool (!(s31 == [])), .string (mkS s36), .pointer (some ⟨k3, 0, none⟩)] w35 fun e37 w37 => e37 = .returned (.tuple #[]) ∧
  J_2 w37) ∧
  ∃ (s34_1 : List UInt8), (Instr.loadAt T_string (.pointer (some ⟨k1, 2, none⟩))).run Tryz.prog (World.drew wj_1) = .ok (.string (mkS s34_1)) (World.drew wj_1) ∧
  (∃ (s31_1 : List UInt8), (Instr.loadAt T_string (.pointer (some ⟨k1, 2, none⟩))).run Tryz.prog (World.drew wj_1) = .ok (.string (mkS s31_1)) (World.drew wj_1) ∧
  Calls Tryz.prog f_header_dotted #[.string (mkS s34_1)] (World.drew wj_1) fun e35_1 w35_1 => ∃ (s35_1 : List UInt8), e35_1 = .returned (.string (mkS s35_1)) ∧
  ((((List.length [68, 111, 109, 97, 105, 110, 61] + List.length s35_1 : Nat) : Int) ≤ IntKind.i64.max)) ∧
  ∀ (s36_1 : List UInt8), s36_1 = ([68, 111, 109, 97, 105, 110, 61] ++ s35_1) →
  Calls Tryz.prog f_header_written_c1 #[.bool (!(s31_1 == [])), .string (mkS s36_1), .pointer (some ⟨k3, 0, none⟩)] w35_1 fun e37_1 w37_1 => e37_1 = .returned (.tuple #[]) ∧
  J_2 w37_1) ∧
  Calls Tryz.prog f_header_dotted #[.string (mkS s34_1)] (World.drew wj_1) fun e35_2 w35_2 => ∃ (s35_2 : List UInt8), e35_2 = .returned (.string (mkS s35_2)) ∧
  ((((List.length [68, 111, 109, 97, 105, 110, 61] + List.length s35_2 : Nat) : Int) ≤ IntKind.i64.max)) ∧
  ∀ (s36_2 : List UInt8), s36_2 = ([68, 111, 109, 97, 105, 110, 61] ++ s35_2) →
  ∃ (s31_2 : List UInt8), (Instr.loadAt T_string (.pointer (some ⟨k1, 2, none⟩))).run Tryz.prog w35_2 = .ok (.string (mkS s31_2)) w35_2 ∧
  Calls Tryz.prog f_header_written_c1 #[.bool (!(s31_2 == [])), .string (mkS s36_2), .pointer (some ⟨k3, 0, none⟩)] w35_2 fun e37_2 w37_2 => e37_2 = .returned (.tuple #[]) ∧
  J_2 w37_2) ∧
  AllJ 9 (∀ (wj_2 : World), J_2 wj_2 →
  (true = true) ∧
  ∃ (s40 : List UInt8), (Instr.loadAt T_string (.pointer (some ⟨k1, 3, none⟩))).run Tryz.prog wj_2 = .ok (.string (mkS s40)) wj_2 ∧
  (true = true) ∧
  ∃ (s43 : List UInt8), (Instr.loadAt T_string (.pointer (some ⟨k1, 3, none⟩))).run Tryz.prog wj_2 = .ok (.string (mkS s43)) wj_2 ∧
  ((((List.length [80, 97, 116, 104, 61] + List.length s43 : Nat) : Int) ≤ IntKind.i64.max)) ∧
  ∀ (s44 : List UInt8), s44 = ([80, 97, 116, 104, 61] ++ s43) →
  Calls Tryz.prog f_header_written_c1 #[.bool (!(s40 == [])), .string (mkS s44), .pointer (some ⟨k3, 0, none⟩)] wj_2 fun e45 w45 => e45 = .returned (.tuple #[]) ∧
  (true = true) ∧
  ∃ (b48 : Bool), (Instr.loadAt T_bool (.pointer (some ⟨k1, 8, none⟩))).run Tryz.prog w45 = .ok (.bool b48) w45 ∧
  Calls Tryz.prog f_header_written_c1 #[.bool b48, .string (mkS [83, 101, 99, 117, 114, 101]), .pointer (some ⟨k3, 0, none⟩)] w45 fun e49 w49 => e49 = .returned (.tuple #[]) ∧
  (true = true) ∧
  ∃ (b52 : Bool), (Instr.loadAt T_bool (.pointer (some ⟨k1, 9, none⟩))).run Tryz.prog w49 = .ok (.bool b52) w49 ∧
  Calls Tryz.prog f_header_written_c1 #[.bool b52, .string (mkS [72, 116, 116, 112, 79, 110, 108, 121]), .pointer (some ⟨k3, 0, none⟩)] w49 fun e53 w53 => e53 = .returned (.tuple #[]) ∧
  ∃ J_3 : FP [.one (.bool)],
  ((true = true) ∧
  ∃ (n55 : Int), (Instr.loadAt T_int (.pointer (some ⟨k1, 10, none⟩))).run Tryz.prog w53 = .ok (.int .i64 n55) w53 ∧
  BCase (decide (n55 > (0 : Int)))
  ((true = true) ∧
  ∃ (n59 : Int), (Instr.loadAt T_int (.pointer (some ⟨k1, 10, none⟩))).run Tryz.prog w53 = .ok (.int .i64 n59) w53 ∧
  J_3 (decide (n59 ≤ (3 : Int))) w53)
  (J_3 false w53)) ∧
  ∀ (b61 : Bool), AllJ 7 (∀ (wj_3 : World), J_3 b61 wj_3 →
  BCase b61
  ((true = true) ∧
  (Calls Tryz.prog f_header_names #[] (World.drew wj_3) fun e63 w63 => ∃ (s63_0 : List UInt8) (s63_1 : List UInt8) (s63_2 : List UInt8) (s63_3 : List UInt8), e63 = .returned (.agg #[.string (mkS s63_0), .string (mkS s63_1), .string (mkS s63_2), .string (mkS s63_3)]) ∧
  ∃ (n65 : Int), (Instr.loadAt T_int (.pointer (some ⟨k1, 10, none⟩))).run Tryz.prog w63 = .ok (.int .i64 n65) w63 ∧
  ∃ (s66 : List UInt8), (Instr.index T_arr4_string (.agg #[.string (mkS s63_0), .string (mkS s63_1), .string (mkS s63_2), .string (mkS s63_3)]) (.int .i64 n65)).run Tryz.prog w63 = .ok (.string (mkS s66)) w63 ∧
  ((((List.length [83, 97, 109, 101, 83, 105, 116, 101, 61] + List.length s66 : Nat) : Int) ≤ IntKind.i64.max)) ∧
  ∀ (s67 : List UInt8), s67 = ([83, 97, 109, 101, 83, 105, 116, 101, 61] ++ s66) →
  Calls Tryz.prog f_header_written_c1 #[.bool true, .string (mkS s67), .pointer (some ⟨k3, 0, none⟩)] w63 fun e68 w68 => e68 = .returned (.tuple #[]) ∧
  ∃ (a69 : Option Addr) (l69 c69 : Nat), (Instr.loadAt T_sl_string (.pointer (some ⟨k3, 0, none⟩))).run Tryz.prog w68 = .ok (.slice a69 l69 c69) w68 ∧
  Calls Tryz.prog f_strings_Join #[.slice a69 l69 c69, .string (mkS [59, 32])] w68 fun e70 w70 => ∃ (s70 : List UInt8), e70 = .returned (.string (mkS s70)) ∧
  K (.string (mkS s70)) w70) ∧
  ∃ (n65_1 : Int), (Instr.loadAt T_int (.pointer (some ⟨k1, 10, none⟩))).run Tryz.prog (World.drew wj_3) = .ok (.int .i64 n65_1) (World.drew wj_3) ∧
  Calls Tryz.prog f_header_names #[] (World.drew wj_3) fun e63_1 w63_1 => ∃ (s63_0_1 : List UInt8) (s63_1_1 : List UInt8) (s63_2_1 : List UInt8) (s63_3_1 : List UInt8), e63_1 = .returned (.agg #[.string (mkS s63_0_1), .string (mkS s63_1_1), .string (mkS s63_2_1), .string (mkS s63_3_1)]) ∧
  ∃ (s66_1 : List UInt8), (Instr.index T_arr4_string (.agg #[.string (mkS s63_0_1), .string (mkS s63_1_1), .string (mkS s63_2_1), .string (mkS s63_3_1)]) (.int .i64 n65_1)).run Tryz.prog w63_1 = .ok (.string (mkS s66_1)) w63_1 ∧
  ((((List.length [83, 97, 109, 101, 83, 105, 116, 101, 61] + List.length s66_1 : Nat) : Int) ≤ IntKind.i64.max)) ∧
  ∀ (s67_1 : List UInt8), s67_1 = ([83, 97, 109, 101, 83, 105, 116, 101, 61] ++ s66_1) →
  Calls Tryz.prog f_header_written_c1 #[.bool true, .string (mkS s67_1), .pointer (some ⟨k3, 0, none⟩)] w63_1 fun e68_1 w68_1 => e68_1 = .returned (.tuple #[]) ∧
  ∃ (a69_1 : Option Addr) (l69_1 c69_1 : Nat), (Instr.loadAt T_sl_string (.pointer (some ⟨k3, 0, none⟩))).run Tryz.prog w68_1 = .ok (.slice a69_1 l69_1 c69_1) w68_1 ∧
  Calls Tryz.prog f_strings_Join #[.slice a69_1 l69_1 c69_1, .string (mkS [59, 32])] w68_1 fun e70_1 w70_1 => ∃ (s70_1 : List UInt8), e70_1 = .returned (.string (mkS s70_1)) ∧
  K (.string (mkS s70_1)) w70_1)
  (∃ (a69_2 : Option Addr) (l69_2 c69_2 : Nat), (Instr.loadAt T_sl_string (.pointer (some ⟨k3, 0, none⟩))).run Tryz.prog wj_3 = .ok (.slice a69_2 l69_2 c69_2) wj_3 ∧
  Calls Tryz.prog f_strings_Join #[.slice a69_2 l69_2 c69_2, .string (mkS [59, 32])] wj_3 fun e70_2 w70_2 => ∃ (s70_2 : List UInt8), e70_2 = .returned (.string (mkS s70_2)) ∧
  K (.string (mkS s70_2)) w70_2)))))
theorem run_header_written (s0_0 : List UInt8) (s0_1 : List UInt8) (s0_2 : List UInt8) (s0_3 : List UInt8) (b0_4 : Bool) (n0_5 : Int) (b0_6 : Bool) (n0_7 : Int) (b0_8 : Bool) (b0_9 : Bool) (n0_10 : Int) {w : World} {K : Value → World → Prop} (h : vc_header_written s0_0 s0_1 s0_2 s0_3 b0_4 n0_5 b0_6 n0_7 b0_8 b0_9 n0_10 w K) : Calls Tryz.prog f_header_written #[.agg #[.string (mkS s0_0), .string (mkS s0_1), .string (mkS s0_2), .string (mkS s0_3), .bool b0_4, .int .i64 n0_5, .bool b0_6, .int .i64 n0_7, .bool b0_8, .bool b0_9, .int .i64 n0_10]] w (Ret K) :=
  calls_E (c := bodyOf Tryz.f26) (by kernel_rfl) Tryz.func26 (by kernel_rfl) [(6, []), (1000007, []), (8, []), (1000009, []), (10, []), (1000011, []), (19, [(61, .one (.bool))]), (1000022, [])] [.agg #[.string (mkS s0_0), .string (mkS s0_1), .string (mkS s0_2), .string (mkS s0_3), .bool b0_4, .int .i64 n0_5, .bool b0_6, .int .i64 n0_7, .bool b0_8, .bool b0_9, .int .i64 n0_10]] (of_decide_eq_true (by kernel_rfl)) (vc_header_written s0_0 s0_1 s0_2 s0_3 b0_4 n0_5 b0_6 n0_7 b0_8 b0_9 n0_10 w K) (by kernel_rfl) h

--  cracknel/octet.Trim
def vc_octet_Trim (s0 : List UInt8) (w : World) (K : Value → World → Prop) : Prop :=
  Calls Tryz.prog f_strings_Trim #[.string (mkS s0), .string (mkS [32, 9])] w fun e4 w4 => ∃ (s4 : List UInt8), e4 = .returned (.string (mkS s4)) ∧
  K (.string (mkS s4)) w4
theorem run_octet_Trim (s0 : List UInt8) {w : World} {K : Value → World → Prop} (h : vc_octet_Trim s0 w K) : Calls Tryz.prog f_octet_Trim #[.string (mkS s0)] w (Ret K) :=
  calls_E (c := bodyOf Tryz.f29) (by kernel_rfl) Tryz.func29 (by kernel_rfl) [] [.string (mkS s0)] (of_decide_eq_true (by kernel_rfl)) (vc_octet_Trim s0 w K) (by kernel_rfl) h

--  cracknel/date.Cookie
def vc_date_Cookie (s0 : List UInt8) (w : World) (K : Value → World → Prop) : Prop :=
  ∀ (k4 : Nat) (w4 : World), k4 = w.heap.size → w4 = w.alloc (.cells #[.bool false, .bool false, .bool false, .bool false, .int .i64 (0 : Int), .int .i64 (0 : Int), .int .i64 (0 : Int), .int .i64 (0 : Int), .int .i64 (0 : Int), .int .i64 (0 : Int)] T_date_found) →
  ∃ I : Nat → FP [.one (.int .i64), .one (.int .i64)],
  (∃ m : Nat, I m (0 : Int) (0 : Int) w4) ∧
  ∀ (m : Nat) (n5 : Int) (n6 : Int), AllJ 26 (∀ (wl : World), I m n5 n6 wl →
  BCase (decide (n6 ≤ ((List.length s0 : Nat) : Int)))
  (∃ J : FP [.one (.bool)],
  (BCase (n6 == ((List.length s0 : Nat) : Int))
  (J true wl)
  (((0 ≤ n6 ∧ n6 < ((List.length s0 : Nat) : Int))) ∧
  Calls Tryz.prog f_date_parts #[.int .u8 (byteAt s0 n6)] wl fun e23 w23 => ∃ (b23 : Bool), e23 = .returned (.bool b23) ∧
  J b23 w23)) ∧
  ∀ (b24 : Bool), AllJ 9 (∀ (wj : World), J b24 wj →
  BCase b24
  (BCase (decide (n6 > n5))
  ((((0 ≤ n6 ∧ n6 ≤ (((List.length s0) : Nat) : Int)) ∧ 0 ≤ n5 ∧ n5 ≤ ((Int.toNat n6 : Nat) : Int))) ∧
  ∀ (s31 : List UInt8), s31 = (List.drop (Int.toNat n5) (List.take (Int.toNat n6) s0)) →
  Calls Tryz.prog f_date_found_token #[.pointer (some ⟨k4, 0, none⟩), .string (mkS s31)] wj fun e32 w32 => e32 = .returned (.tuple #[]) ∧
  ∃ m' : Nat, m' < m ∧ I m' (IntKind.i64.wrap (n6 + (1 : Int))) (IntKind.i64.wrap (n6 + (1 : Int))) w32)
  (∃ m' : Nat, m' < m ∧ I m' (IntKind.i64.wrap (n6 + (1 : Int))) (IntKind.i64.wrap (n6 + (1 : Int))) wj))
  (∃ m' : Nat, m' < m ∧ I m' n5 (IntKind.i64.wrap (n6 + (1 : Int))) wj)))
  (∃ J_1 : FP [],
  (∃ J_2 : FP [.one (.bool)],
  ((true = true) ∧
  ∃ (n37 : Int), (Instr.loadAt T_int (.pointer (some ⟨k4, 7, none⟩))).run Tryz.prog wl = .ok (.int .i64 n37) wl ∧
  BCase (decide (n37 ≥ (70 : Int)))
  ((true = true) ∧
  ∃ (n41 : Int), (Instr.loadAt T_int (.pointer (some ⟨k4, 7, none⟩))).run Tryz.prog wl = .ok (.int .i64 n41) wl ∧
  J_2 (decide (n41 ≤ (99 : Int))) wl)
  (J_2 false wl)) ∧
  ∀ (b35 : Bool), AllJ 8 (∀ (wj_1 : World), J_2 b35 wj_1 →
  BCase b35
  ((true = true) ∧
  ∃ (n45 : Int), (Instr.loadAt T_int (.pointer (some ⟨k4, 7, none⟩))).run Tryz.prog wj_1 = .ok (.int .i64 n45) wj_1 ∧
  (true = true) ∧
  ∃ (wx : World), (Instr.storeAt T_int (.pointer (some ⟨k4, 7, none⟩)) (.int .i64 (IntKind.i64.wrap (n45 + (1900 : Int))))).run Tryz.prog wj_1 = .ok () wx ∧
  J_1 wx)
  ((true = true) ∧
  ∃ (n50 : Int), (Instr.loadAt T_int (.pointer (some ⟨k4, 7, none⟩))).run Tryz.prog wj_1 = .ok (.int .i64 n50) wj_1 ∧
  BCase (decide (n50 < (70 : Int)))
  ((true = true) ∧
  ∃ (n53 : Int), (Instr.loadAt T_int (.pointer (some ⟨k4, 7, none⟩))).run Tryz.prog wj_1 = .ok (.int .i64 n53) wj_1 ∧
  (true = true) ∧
  ∃ (wx_1 : World), (Instr.storeAt T_int (.pointer (some ⟨k4, 7, none⟩)) (.int .i64 (IntKind.i64.wrap (n53 + (2000 : Int))))).run Tryz.prog wj_1 = .ok () wx_1 ∧
  J_1 wx_1)
  (J_1 wj_1)))) ∧
  AllJ 21 (∀ (wj_2 : World), J_1 wj_2 →
  (true = true) ∧
  ∃ (n58 : Int), (Instr.loadAt T_int (.pointer (some ⟨k4, 7, none⟩))).run Tryz.prog wj_2 = .ok (.int .i64 n58) wj_2 ∧
  (true = true) ∧
  ∃ (n60 : Int), (Instr.loadAt T_int (.pointer (some ⟨k4, 8, none⟩))).run Tryz.prog wj_2 = .ok (.int .i64 n60) wj_2 ∧
  (true = true) ∧
  ∃ (n62 : Int), (Instr.loadAt T_int (.pointer (some ⟨k4, 9, none⟩))).run Tryz.prog wj_2 = .ok (.int .i64 n62) wj_2 ∧
  Calls Tryz.prog f_date_Days #[.int .i64 n58, .int .i64 n60, .int .i64 n62] wj_2 fun e63 w63 => ∃ (n63_0 : Int) (b63_1 : Bool), e63 = .returned (.tuple #[.int .i64 n63_0, .bool b63_1]) ∧
  ∃ J_3 : FP [],
  (BCase (!b63_1)
  (K (.tuple #[.int .i64 (0 : Int), .bool false]) w63)
  ((true = true) ∧
  ∃ (b70 : Bool), (Instr.loadAt T_bool (.pointer (some ⟨k4, 0, none⟩))).run Tryz.prog w63 = .ok (.bool b70) w63 ∧
  BCase (!b70)
  (K (.tuple #[.int .i64 (0 : Int), .bool false]) w63)
  ((true = true) ∧
  ∃ (b75 : Bool), (Instr.loadAt T_bool (.pointer (some ⟨k4, 3, none⟩))).run Tryz.prog w63 = .ok (.bool b75) w63 ∧
  BCase (!b75)
  (K (.tuple #[.int .i64 (0 : Int), .bool false]) w63)
  ((true = true) ∧
  ((0 ≤ (0 : Int) ∧ (0 : Int) < ((3 : Nat) : Int)) ∧ true = true) ∧
  ∃ (n81 : Int), (Instr.loadAt T_int (.pointer (elemAddr (some ⟨k4, 4, none⟩) (0 : Int) 1))).run Tryz.prog w63 = .ok (.int .i64 n81) w63 ∧
  BCase (decide (n81 > (23 : Int)))
  (K (.tuple #[.int .i64 (0 : Int), .bool false]) w63)
  ((true = true) ∧
  ((0 ≤ (1 : Int) ∧ (1 : Int) < ((3 : Nat) : Int)) ∧ true = true) ∧
  ∃ (n87 : Int), (Instr.loadAt T_int (.pointer (elemAddr (some ⟨k4, 4, none⟩) (1 : Int) 1))).run Tryz.prog w63 = .ok (.int .i64 n87) w63 ∧
  BCase (decide (n87 > (59 : Int)))
  (K (.tuple #[.int .i64 (0 : Int), .bool false]) w63)
  ((true = true) ∧
  ((0 ≤ (2 : Int) ∧ (2 : Int) < ((3 : Nat) : Int)) ∧ true = true) ∧
  ∃ (n93 : Int), (Instr.loadAt T_int (.pointer (elemAddr (some ⟨k4, 4, none⟩) (2 : Int) 1))).run Tryz.prog w63 = .ok (.int .i64 n93) w63 ∧
  BCase (decide (n93 > (59 : Int)))
  (K (.tuple #[.int .i64 (0 : Int), .bool false]) w63)
  (J_3 w63))))))) ∧
  AllJ 32 (∀ (wj_3 : World), J_3 wj_3 →
  (true = true) ∧
  ((0 ≤ (0 : Int) ∧ (0 : Int) < ((3 : Nat) : Int)) ∧ true = true) ∧
  ∃ (n100 : Int), (Instr.loadAt T_int (.pointer (elemAddr (some ⟨k4, 4, none⟩) (0 : Int) 1))).run Tryz.prog wj_3 = .ok (.int .i64 n100) wj_3 ∧
  (true = true) ∧
  ((0 ≤ (1 : Int) ∧ (1 : Int) < ((3 : Nat) : Int)) ∧ true = true) ∧
  ∃ (n105 : Int), (Instr.loadAt T_int (.pointer (elemAddr (some ⟨k4, 4, none⟩) (1 : Int) 1))).run Tryz.prog wj_3 = .ok (.int .i64 n105) wj_3 ∧
  (true = true) ∧
  ((0 ≤ (2 : Int) ∧ (2 : Int) < ((3 : Nat) : Int)) ∧ true = true) ∧
  ∃ (n110 : Int), (Instr.loadAt T_int (.pointer (elemAddr (some ⟨k4, 4, none⟩) (2 : Int) 1))).run Tryz.prog wj_3 = .ok (.int .i64 n110) wj_3 ∧
  K (.tuple #[.int .i64 (IntKind.i64.wrap ((IntKind.i64.wrap ((IntKind.i64.wrap ((IntKind.i64.wrap (n63_0 * (86400 : Int))) + (IntKind.i64.wrap (n100 * (3600 : Int))))) + (IntKind.i64.wrap (n105 * (60 : Int))))) + n110)), .bool true]) wj_3))))
theorem run_date_Cookie (s0 : List UInt8) {w : World} {K : Value → World → Prop} (h : vc_date_Cookie s0 w K) : Calls Tryz.prog f_date_Cookie #[.string (mkS s0)] w (Ret K) :=
  calls_E (c := bodyOf Tryz.f30) (by kernel_rfl) Tryz.func30 (by kernel_rfl) [(10, [(5, .one (.int .i64)), (6, .one (.int .i64))]), (19, [(24, .one (.bool))]), (31, []), (33, [(35, .one (.bool))]), (44, [])] [.string (mkS s0)] (of_decide_eq_true (by kernel_rfl)) (vc_date_Cookie s0 w K) (by kernel_rfl) h

--  cracknel/header.age
def vc_header_age (s0 : List UInt8) (w : World) (K : Value → World → Prop) : Prop :=
  Calls Tryz.prog f_strings_CutPrefix #[.string (mkS s0), .string (mkS [45])] w fun e10 w10 => ∃ (s10_0 : List UInt8) (b10_1 : Bool), e10 = .returned (.tuple #[.string (mkS s10_0), .bool b10_1]) ∧
  Calls Tryz.prog f_octet_Digits #[.string (mkS s10_0)] w10 fun e15 w15 => ∃ (b15 : Bool), e15 = .returned (.bool b15) ∧
  BCase (!b15)
  (K (.tuple #[.int .i64 (0 : Int), .bool false]) w15)
  (BCase b10_1
  (K (.tuple #[.int .i64 (0 : Int), .bool true]) w15)
  (Calls Tryz.prog f_strings_TrimLeft #[.string (mkS s10_0), .string (mkS [48])] w15 fun e21 w21 => ∃ (s21 : List UInt8), e21 = .returned (.string (mkS s21)) ∧
  Calls Tryz.prog f_octet_Number #[.string (mkS s21)] w21 fun e22 w22 => ∃ (n22_0 : Int) (b22_1 : Bool), e22 = .returned (.tuple #[.int .i64 n22_0, .bool b22_1]) ∧
  BCase (!b22_1)
  (Calls Tryz.prog f_strings_Trim #[.string (mkS s10_0), .string (mkS [48])] w22 fun e29 w29 => ∃ (s29 : List UInt8), e29 = .returned (.string (mkS s29)) ∧
  BCase (!(s29 == []))
  (K (.tuple #[.int .i64 (34560000 : Int), .bool true]) w29)
  (BCase (decide (n22_0 > (34560000 : Int)))
  (K (.tuple #[.int .i64 (34560000 : Int), .bool true]) w29)
  (K (.tuple #[.int .i64 n22_0, .bool true]) w29)))
  (BCase (decide (n22_0 > (34560000 : Int)))
  (K (.tuple #[.int .i64 (34560000 : Int), .bool true]) w22)
  (K (.tuple #[.int .i64 n22_0, .bool true]) w22))))
theorem run_header_age (s0 : List UInt8) {w : World} {K : Value → World → Prop} (h : vc_header_age s0 w K) : Calls Tryz.prog f_header_age #[.string (mkS s0)] w (Ret K) :=
  calls_E (c := bodyOf Tryz.f31) (by kernel_rfl) Tryz.func31 (by kernel_rfl) [] [.string (mkS s0)] (of_decide_eq_true (by kernel_rfl)) (vc_header_age s0 w K) (by kernel_rfl) h

--  cracknel/header.names
def vc_header_names  (w : World) (K : Value → World → Prop) : Prop :=
  ∀ (k0 : Nat) (w0 : World), k0 = w.heap.size → w0 = w.alloc (.cells #[.string (mkS []), .string (mkS []), .string (mkS []), .string (mkS [])] T_arr4_string) →
  ∃ (wx : World), (Instr.storeAt T_arr4_string (.pointer (some ⟨k0, 0, none⟩)) (.agg #[.string (mkS []), .string (mkS [78, 111, 110, 101]), .string (mkS [76, 97, 120]), .string (mkS [83, 116, 114, 105, 99, 116])])).run Tryz.prog w0 = .ok () wx ∧
  ∃ (sr0_0 : List UInt8) (sr0_1 : List UInt8) (sr0_2 : List UInt8) (sr0_3 : List UInt8), (resAt T_arr4_string (.pointer (some ⟨k0, 0, none⟩))).run Tryz.prog wx = .ok (.agg #[.string (mkS sr0_0), .string (mkS sr0_1), .string (mkS sr0_2), .string (mkS sr0_3)]) wx ∧
  K (.agg #[.string (mkS sr0_0), .string (mkS sr0_1), .string (mkS sr0_2), .string (mkS sr0_3)]) wx
theorem run_header_names  {w : World} {K : Value → World → Prop} (h : vc_header_names  w K) : Calls Tryz.prog f_header_names #[] w (Ret K) :=
  calls_E (c := bodyOf Tryz.f34) (by kernel_rfl) Tryz.func34 (by kernel_rfl) [] [] (of_decide_eq_true (by kernel_rfl)) (vc_header_names  w K) (by kernel_rfl) h

--  cracknel/octet.Same
def vc_octet_Same (s0 : List UInt8) (s1 : List UInt8) (w : World) (K : Value → World → Prop) : Prop :=
  Calls Tryz.prog f_octet_Lower #[.string (mkS s0)] w fun e6 w6 => ∃ (s6 : List UInt8), e6 = .returned (.string (mkS s6)) ∧
  Calls Tryz.prog f_octet_Lower #[.string (mkS s1)] w6 fun e8 w8 => ∃ (s8 : List UInt8), e8 = .returned (.string (mkS s8)) ∧
  K (.bool (s6 == s8)) w8
theorem run_octet_Same (s0 : List UInt8) (s1 : List UInt8) {w : World} {K : Value → World → Prop} (h : vc_octet_Same s0 s1 w K) : Calls Tryz.prog f_octet_Same #[.string (mkS s0), .string (mkS s1)] w (Ret K) :=
  calls_E (c := bodyOf Tryz.f35) (by kernel_rfl) Tryz.func35 (by kernel_rfl) [] [.string (mkS s0), .string (mkS s1)] (of_decide_eq_true (by kernel_rfl)) (vc_octet_Same s0 s1 w K) (by kernel_rfl) h

--  cracknel/cracknelref01.blank
def vc_ref01_blank (n0 : Int) (w : World) (K : Value → World → Prop) : Prop :=
  BCase (n0 == (32 : Int))
  (K (.bool true) w)
  (K (.bool (n0 == (9 : Int))) w)
theorem run_ref01_blank (n0 : Int) {w : World} {K : Value → World → Prop} (h : vc_ref01_blank n0 w K) : Calls Tryz.prog f_ref01_blank #[.int .u8 n0] w (Ret K) :=
  calls_E (c := bodyOf Tryz.f36) (by kernel_rfl) Tryz.func36 (by kernel_rfl) [] [.int .u8 n0] (of_decide_eq_true (by kernel_rfl)) (vc_ref01_blank n0 w K) (by kernel_rfl) h

--  cracknel/cracknelref07.parts
def vc_ref07_parts (n0 : Int) (w : World) (K : Value → World → Prop) : Prop :=
  BCase (n0 == (9 : Int))
  (K (.bool true) w)
  (BCase (decide (n0 ≥ (32 : Int)))
  (BCase (decide (n0 ≤ (47 : Int)))
  (K (.bool true) w)
  (BCase (decide (n0 ≥ (59 : Int)))
  (BCase (decide (n0 ≤ (64 : Int)))
  (K (.bool true) w)
  (BCase (decide (n0 ≥ (91 : Int)))
  (BCase (decide (n0 ≤ (96 : Int)))
  (K (.bool true) w)
  (BCase (decide (n0 ≥ (123 : Int)))
  (K (.bool (decide (n0 ≤ (126 : Int)))) w)
  (K (.bool false) w)))
  (BCase (decide (n0 ≥ (123 : Int)))
  (K (.bool (decide (n0 ≤ (126 : Int)))) w)
  (K (.bool false) w))))
  (BCase (decide (n0 ≥ (91 : Int)))
  (BCase (decide (n0 ≤ (96 : Int)))
  (K (.bool true) w)
  (BCase (decide (n0 ≥ (123 : Int)))
  (K (.bool (decide (n0 ≤ (126 : Int)))) w)
  (K (.bool false) w)))
  (BCase (decide (n0 ≥ (123 : Int)))
  (K (.bool (decide (n0 ≤ (126 : Int)))) w)
  (K (.bool false) w)))))
  (BCase (decide (n0 ≥ (59 : Int)))
  (BCase (decide (n0 ≤ (64 : Int)))
  (K (.bool true) w)
  (BCase (decide (n0 ≥ (91 : Int)))
  (BCase (decide (n0 ≤ (96 : Int)))
  (K (.bool true) w)
  (BCase (decide (n0 ≥ (123 : Int)))
  (K (.bool (decide (n0 ≤ (126 : Int)))) w)
  (K (.bool false) w)))
  (BCase (decide (n0 ≥ (123 : Int)))
  (K (.bool (decide (n0 ≤ (126 : Int)))) w)
  (K (.bool false) w))))
  (BCase (decide (n0 ≥ (91 : Int)))
  (BCase (decide (n0 ≤ (96 : Int)))
  (K (.bool true) w)
  (BCase (decide (n0 ≥ (123 : Int)))
  (K (.bool (decide (n0 ≤ (126 : Int)))) w)
  (K (.bool false) w)))
  (BCase (decide (n0 ≥ (123 : Int)))
  (K (.bool (decide (n0 ≤ (126 : Int)))) w)
  (K (.bool false) w)))))
theorem run_ref07_parts (n0 : Int) {w : World} {K : Value → World → Prop} (h : vc_ref07_parts n0 w K) : Calls Tryz.prog f_ref07_parts #[.int .u8 n0] w (Ret K) :=
  calls_E (c := bodyOf Tryz.f37) (by kernel_rfl) Tryz.func37 (by kernel_rfl) [] [.int .u8 n0] (of_decide_eq_true (by kernel_rfl)) (vc_ref07_parts n0 w K) (by kernel_rfl) h

--  cracknel/cracknelref07.digits
def vc_ref07_digits (s0 : List UInt8) (w : World) (K : Value → World → Prop) : Prop :=
  ∃ I : Nat → FP [.one (.int .i64)],
  (∃ m : Nat, I m (0 : Int) w) ∧
  ∀ (m : Nat) (n3 : Int), AllJ 18 (∀ (wl : World), I m n3 wl →
  BCase (decide (n3 < ((List.length s0 : Nat) : Int)))
  (((0 ≤ n3 ∧ n3 < ((List.length s0 : Nat) : Int))) ∧
  BCase (decide ((byteAt s0 n3) ≥ (48 : Int)))
  (((0 ≤ n3 ∧ n3 < ((List.length s0 : Nat) : Int))) ∧
  BCase (decide ((byteAt s0 n3) ≤ (57 : Int)))
  (∃ m' : Nat, m' < m ∧ I m' (IntKind.i64.wrap (n3 + (1 : Int))) wl)
  (K (.int .i64 n3) wl))
  (K (.int .i64 n3) wl))
  (K (.int .i64 n3) wl))
theorem run_ref07_digits (s0 : List UInt8) {w : World} {K : Value → World → Prop} (h : vc_ref07_digits s0 w K) : Calls Tryz.prog f_ref07_digits #[.string (mkS s0)] w (Ret K) :=
  calls_E (c := bodyOf Tryz.f38) (by kernel_rfl) Tryz.func38 (by kernel_rfl) [(6, [(3, .one (.int .i64))])] [.string (mkS s0)] (of_decide_eq_true (by kernel_rfl)) (vc_ref07_digits s0 w K) (by kernel_rfl) h

--  cracknel/cracknelref07.time
def vc_ref07_time (s0 : List UInt8) (w : World) (K : Value → World → Prop) : Prop :=
  ∀ (k7 : Nat) (w7 : World), k7 = w.heap.size → w7 = w.alloc (.cells #[] T_int) →
  ∃ I : Nat → FP [.one (.str), .one (.slice), .one (.int .i64)],
  (∃ m : Nat, I m s0 (some ⟨k7, 0, none⟩) 0 0 (0 : Int) w7) ∧
  ∀ (m : Nat) (s0_1 : List UInt8) (a4 : Option Addr) (l4 c4 : Nat) (n5 : Int), AllJ 36 (∀ (wl : World), I m s0_1 a4 l4 c4 n5 wl →
  BCase (decide (n5 < (3 : Int)))
  (Calls Tryz.prog f_ref07_digits #[.string (mkS s0_1)] wl fun e13 w13 => ∃ (n13 : Int), e13 = .returned (.int .i64 n13) ∧
  ∃ J : FP [],
  (BCase (decide (n13 < (1 : Int)))
  (K (.tuple #[.slice none 0 0, .bool false]) w13)
  (BCase (decide (n13 > (2 : Int)))
  (K (.tuple #[.slice none 0 0, .bool false]) w13)
  (J w13))) ∧
  AllJ 8 (∀ (wj : World), J wj →
  ((0 ≤ n13 ∧ n13 ≤ (((List.length s0_1) : Nat) : Int))) ∧
  ∀ (s23 : List UInt8), s23 = (List.take (Int.toNat n13) s0_1) →
  Calls Tryz.prog f_ref07_value #[.string (mkS s23)] wj fun e24 w24 => ∃ (n24 : Int), e24 = .returned (.int .i64 n24) ∧
  ∀ (k25 : Nat) (w25 : World), k25 = w24.heap.size → w25 = w24.alloc (.cells #[.int .i64 n24] T_int) →
  ∃ (w26 : World) (a26 : Option Addr) (l26 c26 : Nat), (Builtin.append_ #[T_sl_int, T_sl_int] T_sl_int #[.slice a4 l4 c4, .slice (some ⟨k25, 0, none⟩) 1 1]).run Tryz.prog w25 = .ok (.slice a26 l26 c26) w26 ∧
  ((0 ≤ n13 ∧ n13 ≤ (((List.length s0_1) : Nat) : Int))) ∧
  ∀ (s29 : List UInt8), s29 = (List.drop (Int.toNat n13) s0_1) →
  BCase (decide (n5 < (2 : Int)))
  (BCase (s29 == [])
  (K (.tuple #[.slice none 0 0, .bool false]) w26)
  (((0 ≤ (0 : Int) ∧ (0 : Int) < ((List.length s29 : Nat) : Int))) ∧
  BCase ((byteAt s29 (0 : Int)) != (58 : Int))
  (K (.tuple #[.slice none 0 0, .bool false]) w26)
  (((0 ≤ (1 : Int) ∧ (1 : Int) ≤ (((List.length s29) : Nat) : Int))) ∧
  ∀ (s40 : List UInt8), s40 = (List.drop (Int.toNat (1 : Int)) s29) →
  ∃ m' : Nat, m' < m ∧ I m' s40 a26 l26 c26 (IntKind.i64.wrap (n5 + (1 : Int))) w26)))
  (∃ m' : Nat, m' < m ∧ I m' s29 a26 l26 c26 (IntKind.i64.wrap (n5 + (1 : Int))) w26)))
  (K (.tuple #[.slice a4 l4 c4, .bool true]) wl))
theorem run_ref07_time (s0 : List UInt8) {w : World} {K : Value → World → Prop} (h : vc_ref07_time s0 w K) : Calls Tryz.prog f_ref07_time #[.string (mkS s0)] w (Ret K) :=
  calls_E (c := bodyOf Tryz.f39) (by kernel_rfl) Tryz.func39 (by kernel_rfl) [(8, [(0, .one (.str)), (4, .one (.slice)), (5, .one (.int .i64))]), (19, [])] [.string (mkS s0)] (of_decide_eq_true (by kernel_rfl)) (vc_ref07_time s0 w K) (by kernel_rfl) h

--  cracknel/cracknelref07.value
def vc_ref07_value (s0 : List UInt8) (w : World) (K : Value → World → Prop) : Prop :=
  ∃ I : Nat → FP [.one (.int .i64), .one (.int .i64)],
  (∃ m : Nat, I m (0 : Int) (0 : Int) w) ∧
  ∀ (m : Nat) (n3 : Int) (n4 : Int), AllJ 14 (∀ (wl : World), I m n3 n4 wl →
  BCase (decide (n4 < ((List.length s0 : Nat) : Int)))
  (((0 ≤ n4 ∧ n4 < ((List.length s0 : Nat) : Int))) ∧
  ∃ m' : Nat, m' < m ∧ I m' (IntKind.i64.wrap ((IntKind.i64.wrap ((IntKind.i64.wrap (n3 * (10 : Int))) + (IntKind.i64.wrap (byteAt s0 n4)))) - (48 : Int))) (IntKind.i64.wrap (n4 + (1 : Int))) wl)
  (K (.int .i64 n3) wl))
theorem run_ref07_value (s0 : List UInt8) {w : World} {K : Value → World → Prop} (h : vc_ref07_value s0 w K) : Calls Tryz.prog f_ref07_value #[.string (mkS s0)] w (Ret K) :=
  calls_E (c := bodyOf Tryz.f40) (by kernel_rfl) Tryz.func40 (by kernel_rfl) [(8, [(3, .one (.int .i64)), (4, .one (.int .i64))])] [.string (mkS s0)] (of_decide_eq_true (by kernel_rfl)) (vc_ref07_value s0 w K) (by kernel_rfl) h

--  cracknel/cracknelref07.month
def vc_ref07_month (s0 : List UInt8) (w : World) (K : Value → World → Prop) : Prop :=
  ∀ (k5 : Nat) (w5 : World), k5 = w.heap.size → w5 = w.alloc (.cells #[.string (mkS [106, 97, 110]), .string (mkS [102, 101, 98]), .string (mkS [109, 97, 114]), .string (mkS [97, 112, 114]), .string (mkS [109, 97, 121]), .string (mkS [106, 117, 110]), .string (mkS [106, 117, 108]), .string (mkS [97, 117, 103]), .string (mkS [115, 101, 112]), .string (mkS [111, 99, 116]), .string (mkS [110, 111, 118]), .string (mkS [100, 101, 99])] T_string) →
  ∃ I : Nat → FP [.one (.int .i64)],
  (∃ m : Nat, I m (0 : Int) w5) ∧
  ∀ (m : Nat) (n4 : Int), AllJ 20 (∀ (wl : World), I m n4 wl →
  BCase (decide (n4 < (12 : Int)))
  (BCase (decide (((List.length s0 : Nat) : Int) ≥ (3 : Int)))
  (((0 ≤ (3 : Int) ∧ (3 : Int) ≤ (((List.length s0) : Nat) : Int))) ∧
  ∀ (s15 : List UInt8), s15 = (List.take (Int.toNat (3 : Int)) s0) →
  ∃ (s16 : List UInt8), (∀ u16 : World, Below wl.heap.size wl u16 → Calls Tryz.prog f_ref01_Lower #[.string (mkS s15)] u16 fun e16 w16 => e16 = .returned (.string (mkS s16)) ∧ Below wl.heap.size u16 w16) ∧
  ((0 ≤ n4 ∧ n4 < ((12 : Nat) : Int)) ∧ true = true) ∧
  ∃ (s20 : List UInt8), (∀ u20 : World, Below wl.heap.size wl u20 → (Instr.loadAt T_string (.pointer (elemAddr (some ⟨k5, 0, none⟩) n4 1))).run Tryz.prog u20 = .ok (.string (mkS s20)) u20) ∧
  ∀ wq : World, Below wl.heap.size wl wq →
  BCase (s16 == s20)
  (K (.int .i64 (IntKind.i64.wrap (n4 + (1 : Int)))) wq)
  (∃ m' : Nat, m' < m ∧ I m' (IntKind.i64.wrap (n4 + (1 : Int))) wq))
  (∀ wq_1 : World, Below wl.heap.size wl wq_1 →
  ∃ m' : Nat, m' < m ∧ I m' (IntKind.i64.wrap (n4 + (1 : Int))) wq_1))
  (K (.int .i64 (0 : Int)) wl))
theorem run_ref07_month (s0 : List UInt8) {w : World} {K : Value → World → Prop} (h : vc_ref07_month s0 w K) : Calls Tryz.prog f_ref07_month #[.string (mkS s0)] w (Ret K) :=
  calls_E (c := bodyOf Tryz.f41) (by kernel_rfl) Tryz.func41 (by kernel_rfl) [(8, [(4, .one (.int .i64))])] [.string (mkS s0)] (of_decide_eq_true (by kernel_rfl)) (vc_ref07_month s0 w K) (by kernel_rfl) h

--  cracknel/cracknelref07.Is
def vc_ref07_Is (n0 : Int) (n1 : Int) (n2 : Int) (w : World) (K : Value → World → Prop) : Prop :=
  BCase (decide (n0 ≥ (1601 : Int)))
  (BCase (decide (n0 ≤ (9999 : Int)))
  (BCase (decide (n1 ≥ (1 : Int)))
  (BCase (decide (n1 ≤ (12 : Int)))
  (BCase (decide (n2 ≥ (1 : Int)))
  (Calls Tryz.prog f_ref07_Length #[.int .i64 n0, .int .i64 n1] w fun e29 w29 => ∃ (n29 : Int), e29 = .returned (.int .i64 n29) ∧
  K (.bool (decide (n2 ≤ n29))) w29)
  (K (.bool false) w))
  (K (.bool false) w))
  (K (.bool false) w))
  (K (.bool false) w))
  (K (.bool false) w)
theorem run_ref07_Is (n0 : Int) (n1 : Int) (n2 : Int) {w : World} {K : Value → World → Prop} (h : vc_ref07_Is n0 n1 n2 w K) : Calls Tryz.prog f_ref07_Is #[.int .i64 n0, .int .i64 n1, .int .i64 n2] w (Ret K) :=
  calls_E (c := bodyOf Tryz.f42) (by kernel_rfl) Tryz.func42 (by kernel_rfl) [] [.int .i64 n0, .int .i64 n1, .int .i64 n2] (of_decide_eq_true (by kernel_rfl)) (vc_ref07_Is n0 n1 n2 w K) (by kernel_rfl) h

--  cracknel/cracknelref07.Days
def vc_ref07_Days (n0 : Int) (n1 : Int) (n2 : Int) (w : World) (K : Value → World → Prop) : Prop :=
  Calls Tryz.prog f_ref07_Is #[.int .i64 n0, .int .i64 n1, .int .i64 n2] w fun e15 w15 => ∃ (b15 : Bool), e15 = .returned (.bool b15) ∧
  BCase (!b15)
  (K (.tuple #[.int .i64 (0 : Int), .bool false]) w15)
  (∃ I : Nat → FP [.one (.int .i64), .one (.int .i64)],
  (∃ m : Nat, I m (IntKind.i64.wrap (n2 - (1 : Int))) (1 : Int) w15) ∧
  ∀ (m : Nat) (n8 : Int) (n9 : Int), AllJ 10 (∀ (wl : World), I m n8 n9 wl →
  BCase (decide (n9 < n1))
  (Calls Tryz.prog f_ref07_Length #[.int .i64 n0, .int .i64 n9] wl fun e27 w27 => ∃ (n27 : Int), e27 = .returned (.int .i64 n27) ∧
  ∃ m' : Nat, m' < m ∧ I m' (IntKind.i64.wrap (n8 + n27)) (IntKind.i64.wrap (n9 + (1 : Int))) w27)
  (∃ I_1 : Nat → FP [.one (.int .i64), .one (.int .i64)],
  (∃ m_1 : Nat, I_1 m_1 n8 (1970 : Int) wl) ∧
  ∀ (m_1 : Nat) (n8_1 : Int) (n10 : Int), AllJ 9 (∀ (wl_1 : World), I_1 m_1 n8_1 n10 wl_1 →
  BCase (decide (n10 < n0))
  (Calls Tryz.prog f_ref07_year #[.int .i64 n10] wl_1 fun e36 w36 => ∃ (n36 : Int), e36 = .returned (.int .i64 n36) ∧
  ∃ m'_1 : Nat, m'_1 < m_1 ∧ I_1 m'_1 (IntKind.i64.wrap (n8_1 + n36)) (IntKind.i64.wrap (n10 + (1 : Int))) w36)
  (∃ I_2 : Nat → FP [.one (.int .i64), .one (.int .i64)],
  (∃ m_2 : Nat, I_2 m_2 n8_1 n0 wl_1) ∧
  ∀ (m_2 : Nat) (n8_2 : Int) (n11 : Int), AllJ 8 (∀ (wl_2 : World), I_2 m_2 n8_2 n11 wl_2 →
  BCase (decide (n11 < (1970 : Int)))
  (Calls Tryz.prog f_ref07_year #[.int .i64 n11] wl_2 fun e45 w45 => ∃ (n45 : Int), e45 = .returned (.int .i64 n45) ∧
  ∃ m'_2 : Nat, m'_2 < m_2 ∧ I_2 m'_2 (IntKind.i64.wrap (n8_2 - n45)) (IntKind.i64.wrap (n11 + (1 : Int))) w45)
  (K (.tuple #[.int .i64 n8_2, .bool true]) wl_2)))))))
theorem run_ref07_Days (n0 : Int) (n1 : Int) (n2 : Int) {w : World} {K : Value → World → Prop} (h : vc_ref07_Days n0 n1 n2 w K) : Calls Tryz.prog f_ref07_Days #[.int .i64 n0, .int .i64 n1, .int .i64 n2] w (Ret K) :=
  calls_E (c := bodyOf Tryz.f43) (by kernel_rfl) Tryz.func43 (by kernel_rfl) [(16, [(8, .one (.int .i64)), (9, .one (.int .i64))]), (31, [(8, .one (.int .i64)), (10, .one (.int .i64))]), (46, [(8, .one (.int .i64)), (11, .one (.int .i64))])] [.int .i64 n0, .int .i64 n1, .int .i64 n2] (of_decide_eq_true (by kernel_rfl)) (vc_ref07_Days n0 n1 n2 w K) (by kernel_rfl) h

--  cracknel/cracknelref01.Digits
def vc_ref01_Digits (s0 : List UInt8) (w : World) (K : Value → World → Prop) : Prop :=
  ∃ I : Nat → FP [.one (.int .i64)],
  (∃ m : Nat, I m (0 : Int) w) ∧
  ∀ (m : Nat) (n3 : Int), AllJ 17 (∀ (wl : World), I m n3 wl →
  BCase (decide (n3 < ((List.length s0 : Nat) : Int)))
  (((0 ≤ n3 ∧ n3 < ((List.length s0 : Nat) : Int))) ∧
  BCase (decide ((byteAt s0 n3) < (48 : Int)))
  (K (.bool false) wl)
  (((0 ≤ n3 ∧ n3 < ((List.length s0 : Nat) : Int))) ∧
  BCase (decide ((byteAt s0 n3) > (57 : Int)))
  (K (.bool false) wl)
  (∃ m' : Nat, m' < m ∧ I m' (IntKind.i64.wrap (n3 + (1 : Int))) wl)))
  (K (.bool (decide (((List.length s0 : Nat) : Int) > (0 : Int)))) wl))
theorem run_ref01_Digits (s0 : List UInt8) {w : World} {K : Value → World → Prop} (h : vc_ref01_Digits s0 w K) : Calls Tryz.prog f_ref01_Digits #[.string (mkS s0)] w (Ret K) :=
  calls_E (c := bodyOf Tryz.f44) (by kernel_rfl) Tryz.func44 (by kernel_rfl) [(6, [(3, .one (.int .i64))])] [.string (mkS s0)] (of_decide_eq_true (by kernel_rfl)) (vc_ref01_Digits s0 w K) (by kernel_rfl) h

--  cracknel/header.written$1
def vc_header_written_c1 (b0 : Bool) (s1 : List UInt8) (p2 : Option Addr) (w : World) (K : Value → World → Prop) : Prop :=
  BCase b0
  (∃ (a6 : Option Addr) (l6 c6 : Nat), (Instr.loadAt T_sl_string (.pointer p2)).run Tryz.prog w = .ok (.slice a6 l6 c6) w ∧
  ∀ (k8 : Nat) (w8 : World), k8 = w.heap.size → w8 = w.alloc (.cells #[.string (mkS s1)] T_string) →
  ∃ (w9 : World) (a9 : Option Addr) (l9 c9 : Nat), (Builtin.append_ #[T_sl_string, T_sl_string] T_sl_string #[.slice a6 l6 c6, .slice (some ⟨k8, 0, none⟩) 1 1]).run Tryz.prog w8 = .ok (.slice a9 l9 c9) w9 ∧
  ∃ (wx : World), (Instr.storeAt T_sl_string (.pointer p2) (.slice a9 l9 c9)).run Tryz.prog w9 = .ok () wx ∧
  K (.tuple #[]) wx)
  (K (.tuple #[]) w)
theorem run_header_written_c1 (b0 : Bool) (s1 : List UInt8) (p2 : Option Addr) {w : World} {K : Value → World → Prop} (h : vc_header_written_c1 b0 s1 p2 w K) : Calls Tryz.prog f_header_written_c1 #[.bool b0, .string (mkS s1), .pointer p2] w (Ret K) :=
  calls_E (c := bodyOf Tryz.f45) (by kernel_rfl) Tryz.func45 (by kernel_rfl) [] [.bool b0, .string (mkS s1), .pointer p2] (of_decide_eq_true (by kernel_rfl)) (vc_header_written_c1 b0 s1 p2 w K) (by kernel_rfl) h

--  cracknel/date.Text
def vc_date_Text (n0 : Int) (w : World) (K : Value → World → Prop) : Prop :=
  ((86400 : Int) ≠ 0) ∧
  ∀ (q11 : Int), q11 = (IntKind.i64.wrap (Int.tdiv n0 (86400 : Int))) →
  ((86400 : Int) ≠ 0) ∧
  ∀ (q13 : Int), q13 = (Int.tmod n0 (86400 : Int)) →
  ∃ J : FP [.one (.int .i64), .one (.int .i64)],
  (BCase (decide (q13 < (0 : Int)))
  (J (IntKind.i64.wrap (q11 - (1 : Int))) (IntKind.i64.wrap (q13 + (86400 : Int))) w)
  (J q11 q13 w)) ∧
  ∀ (n3 : Int) (n4 : Int), AllJ 6 (∀ (wj : World), J n3 n4 wj →
  Calls Tryz.prog f_date_Civil #[.int .i64 n3] wj fun e22 w22 => ∃ (n22_0 : Int) (n22_1 : Int) (n22_2 : Int) (b22_3 : Bool), e22 = .returned (.tuple #[.int .i64 n22_0, .int .i64 n22_1, .int .i64 n22_2, .bool b22_3]) ∧
  BCase (!b22_3)
  (K (.string (mkS [])) w22)
  (((7 : Int) ≠ 0) ∧
  ∀ (q30 : Int), q30 = (Int.tmod n3 (7 : Int)) →
  ((7 : Int) ≠ 0) ∧
  ∀ (q32 : Int), q32 = (Int.tmod (IntKind.i64.wrap (q30 + (7 : Int))) (7 : Int)) →
  (((0 ≤ (IntKind.i64.wrap ((IntKind.i64.wrap ((3 : Int) * q32)) + (3 : Int))) ∧ (IntKind.i64.wrap ((IntKind.i64.wrap ((3 : Int) * q32)) + (3 : Int))) ≤ (((List.length [84, 104, 117, 70, 114, 105, 83, 97, 116, 83, 117, 110, 77, 111, 110, 84, 117, 101, 87, 101, 100]) : Nat) : Int)) ∧ 0 ≤ (IntKind.i64.wrap ((3 : Int) * q32)) ∧ (IntKind.i64.wrap ((3 : Int) * q32)) ≤ ((Int.toNat (IntKind.i64.wrap ((IntKind.i64.wrap ((3 : Int) * q32)) + (3 : Int))) : Nat) : Int))) ∧
  ∀ (s38 : List UInt8), s38 = (List.drop (Int.toNat (IntKind.i64.wrap ((3 : Int) * q32))) (List.take (Int.toNat (IntKind.i64.wrap ((IntKind.i64.wrap ((3 : Int) * q32)) + (3 : Int)))) [84, 104, 117, 70, 114, 105, 83, 97, 116, 83, 117, 110, 77, 111, 110, 84, 117, 101, 87, 101, 100])) →
  ((((List.length s38 + List.length [44, 32] : Nat) : Int) ≤ IntKind.i64.max)) ∧
  ∀ (s39 : List UInt8), s39 = (s38 ++ [44, 32]) →
  ∃ (s41 : List UInt8), (∀ u41 : World, Below w22.heap.size w22 u41 → Calls Tryz.prog f_date_digits #[.int .i64 n22_2, .int .i64 (2 : Int)] u41 fun e41 w41 => e41 = .returned (.string (mkS s41)) ∧ Below w22.heap.size u41 w41) ∧
  ((((List.length s39 + List.length s41 : Nat) : Int) ≤ IntKind.i64.max)) ∧
  ∀ (s42 : List UInt8), s42 = (s39 ++ s41) →
  ((((List.length s42 + List.length [32] : Nat) : Int) ≤ IntKind.i64.max)) ∧
  ∀ (s43 : List UInt8), s43 = (s42 ++ [32]) →
  (((0 ≤ (IntKind.i64.wrap ((3 : Int) * n22_1)) ∧ (IntKind.i64.wrap ((3 : Int) * n22_1)) ≤ (((List.length [74, 97, 110, 70, 101, 98, 77, 97, 114, 65, 112, 114, 77, 97, 121, 74, 117, 110, 74, 117, 108, 65, 117, 103, 83, 101, 112, 79, 99, 116, 78, 111, 118, 68, 101, 99]) : Nat) : Int)) ∧ 0 ≤ (IntKind.i64.wrap ((IntKind.i64.wrap ((3 : Int) * n22_1)) - (3 : Int))) ∧ (IntKind.i64.wrap ((IntKind.i64.wrap ((3 : Int) * n22_1)) - (3 : Int))) ≤ ((Int.toNat (IntKind.i64.wrap ((3 : Int) * n22_1)) : Nat) : Int))) ∧
  ∀ (s49 : List UInt8), s49 = (List.drop (Int.toNat (IntKind.i64.wrap ((IntKind.i64.wrap ((3 : Int) * n22_1)) - (3 : Int)))) (List.take (Int.toNat (IntKind.i64.wrap ((3 : Int) * n22_1))) [74, 97, 110, 70, 101, 98, 77, 97, 114, 65, 112, 114, 77, 97, 121, 74, 117, 110, 74, 117, 108, 65, 117, 103, 83, 101, 112, 79, 99, 116, 78, 111, 118, 68, 101, 99])) →
  ((((List.length s43 + List.length s49 : Nat) : Int) ≤ IntKind.i64.max)) ∧
  ∀ (s50 : List UInt8), s50 = (s43 ++ s49) →
  ((((List.length s50 + List.length [32] : Nat) : Int) ≤ IntKind.i64.max)) ∧
  ∀ (s51 : List UInt8), s51 = (s50 ++ [32]) →
  ∃ (s53 : List UInt8), (∀ u53 : World, Below w22.heap.size w22 u53 → Calls Tryz.prog f_date_digits #[.int .i64 n22_0, .int .i64 (4 : Int)] u53 fun e53 w53 => e53 = .returned (.string (mkS s53)) ∧ Below w22.heap.size u53 w53) ∧
  ((((List.length s51 + List.length s53 : Nat) : Int) ≤ IntKind.i64.max)) ∧
  ∀ (s54 : List UInt8), s54 = (s51 ++ s53) →
  ((((List.length s54 + List.length [32] : Nat) : Int) ≤ IntKind.i64.max)) ∧
  ∀ (s55 : List UInt8), s55 = (s54 ++ [32]) →
  ((3600 : Int) ≠ 0) ∧
  ∀ (q57 : Int), q57 = (IntKind.i64.wrap (Int.tdiv n4 (3600 : Int))) →
  ∃ (s58 : List UInt8), (∀ u58 : World, Below w22.heap.size w22 u58 → Calls Tryz.prog f_date_digits #[.int .i64 q57, .int .i64 (2 : Int)] u58 fun e58 w58 => e58 = .returned (.string (mkS s58)) ∧ Below w22.heap.size u58 w58) ∧
  ((((List.length s55 + List.length s58 : Nat) : Int) ≤ IntKind.i64.max)) ∧
  ∀ (s59 : List UInt8), s59 = (s55 ++ s58) →
  ((((List.length s59 + List.length [58] : Nat) : Int) ≤ IntKind.i64.max)) ∧
  ∀ (s60 : List UInt8), s60 = (s59 ++ [58]) →
  ((60 : Int) ≠ 0) ∧
  ∀ (q62 : Int), q62 = (IntKind.i64.wrap (Int.tdiv n4 (60 : Int))) →
  ((60 : Int) ≠ 0) ∧
  ∀ (q63 : Int), q63 = (Int.tmod q62 (60 : Int)) →
  ∃ (s64 : List UInt8), (∀ u64 : World, Below w22.heap.size w22 u64 → Calls Tryz.prog f_date_digits #[.int .i64 q63, .int .i64 (2 : Int)] u64 fun e64 w64 => e64 = .returned (.string (mkS s64)) ∧ Below w22.heap.size u64 w64) ∧
  ((((List.length s60 + List.length s64 : Nat) : Int) ≤ IntKind.i64.max)) ∧
  ∀ (s65 : List UInt8), s65 = (s60 ++ s64) →
  ((((List.length s65 + List.length [58] : Nat) : Int) ≤ IntKind.i64.max)) ∧
  ∀ (s66 : List UInt8), s66 = (s65 ++ [58]) →
  ((60 : Int) ≠ 0) ∧
  ∀ (q68 : Int), q68 = (Int.tmod n4 (60 : Int)) →
  ∃ (s69 : List UInt8), (∀ u69 : World, Below w22.heap.size w22 u69 → Calls Tryz.prog f_date_digits #[.int .i64 q68, .int .i64 (2 : Int)] u69 fun e69 w69 => e69 = .returned (.string (mkS s69)) ∧ Below w22.heap.size u69 w69) ∧
  ((((List.length s66 + List.length s69 : Nat) : Int) ≤ IntKind.i64.max)) ∧
  ∀ (s70 : List UInt8), s70 = (s66 ++ s69) →
  ((((List.length s70 + List.length [32, 71, 77, 84] : Nat) : Int) ≤ IntKind.i64.max)) ∧
  ∀ (s71 : List UInt8), s71 = (s70 ++ [32, 71, 77, 84]) →
  ∀ wq : World, Below w22.heap.size w22 wq →
  K (.string (mkS s71)) wq))
theorem run_date_Text (n0 : Int) {w : World} {K : Value → World → Prop} (h : vc_date_Text n0 w K) : Calls Tryz.prog f_date_Text #[.int .i64 n0] w (Ret K) :=
  calls_E (c := bodyOf Tryz.f46) (by kernel_rfl) Tryz.func46 (by kernel_rfl) [(6, [(3, .one (.int .i64)), (4, .one (.int .i64))])] [.int .i64 n0] (of_decide_eq_true (by kernel_rfl)) (vc_date_Text n0 w K) (by kernel_rfl) h

--  cracknel/header.dotted
def vc_header_dotted (s0 : List UInt8) (w : World) (K : Value → World → Prop) : Prop :=
  Calls Tryz.prog f_octet_Trim #[.string (mkS s0)] w fun e4 w4 => ∃ (s4 : List UInt8), e4 = .returned (.string (mkS s4)) ∧
  BCase (!(s4 == s0))
  (((((List.length [46] + List.length s0 : Nat) : Int) ≤ IntKind.i64.max)) ∧
  ∀ (s12 : List UInt8), s12 = ([46] ++ s0) →
  K (.string (mkS s12)) w4)
  (Calls Tryz.prog f_strings_HasPrefix #[.string (mkS s0), .string (mkS [46])] w4 fun e9 w9 => ∃ (b9 : Bool), e9 = .returned (.bool b9) ∧
  BCase b9
  (((((List.length [46] + List.length s0 : Nat) : Int) ≤ IntKind.i64.max)) ∧
  ∀ (s12_1 : List UInt8), s12_1 = ([46] ++ s0) →
  K (.string (mkS s12_1)) w9)
  (K (.string (mkS s0)) w9))
theorem run_header_dotted (s0 : List UInt8) {w : World} {K : Value → World → Prop} (h : vc_header_dotted s0 w K) : Calls Tryz.prog f_header_dotted #[.string (mkS s0)] w (Ret K) :=
  calls_E (c := bodyOf Tryz.f48) (by kernel_rfl) Tryz.func48 (by kernel_rfl) [] [.string (mkS s0)] (of_decide_eq_true (by kernel_rfl)) (vc_header_dotted s0 w K) (by kernel_rfl) h

--  cracknel/date.parts
def vc_date_parts (n0 : Int) (w : World) (K : Value → World → Prop) : Prop :=
  BCase (n0 == (9 : Int))
  (K (.bool true) w)
  (BCase (decide (n0 ≥ (32 : Int)))
  (BCase (decide (n0 ≤ (47 : Int)))
  (K (.bool true) w)
  (BCase (decide (n0 ≥ (59 : Int)))
  (BCase (decide (n0 ≤ (64 : Int)))
  (K (.bool true) w)
  (BCase (decide (n0 ≥ (91 : Int)))
  (BCase (decide (n0 ≤ (96 : Int)))
  (K (.bool true) w)
  (BCase (decide (n0 ≥ (123 : Int)))
  (K (.bool (decide (n0 ≤ (126 : Int)))) w)
  (K (.bool false) w)))
  (BCase (decide (n0 ≥ (123 : Int)))
  (K (.bool (decide (n0 ≤ (126 : Int)))) w)
  (K (.bool false) w))))
  (BCase (decide (n0 ≥ (91 : Int)))
  (BCase (decide (n0 ≤ (96 : Int)))
  (K (.bool true) w)
  (BCase (decide (n0 ≥ (123 : Int)))
  (K (.bool (decide (n0 ≤ (126 : Int)))) w)
  (K (.bool false) w)))
  (BCase (decide (n0 ≥ (123 : Int)))
  (K (.bool (decide (n0 ≤ (126 : Int)))) w)
  (K (.bool false) w)))))
  (BCase (decide (n0 ≥ (59 : Int)))
  (BCase (decide (n0 ≤ (64 : Int)))
  (K (.bool true) w)
  (BCase (decide (n0 ≥ (91 : Int)))
  (BCase (decide (n0 ≤ (96 : Int)))
  (K (.bool true) w)
  (BCase (decide (n0 ≥ (123 : Int)))
  (K (.bool (decide (n0 ≤ (126 : Int)))) w)
  (K (.bool false) w)))
  (BCase (decide (n0 ≥ (123 : Int)))
  (K (.bool (decide (n0 ≤ (126 : Int)))) w)
  (K (.bool false) w))))
  (BCase (decide (n0 ≥ (91 : Int)))
  (BCase (decide (n0 ≤ (96 : Int)))
  (K (.bool true) w)
  (BCase (decide (n0 ≥ (123 : Int)))
  (K (.bool (decide (n0 ≤ (126 : Int)))) w)
  (K (.bool false) w)))
  (BCase (decide (n0 ≥ (123 : Int)))
  (K (.bool (decide (n0 ≤ (126 : Int)))) w)
  (K (.bool false) w)))))
theorem run_date_parts (n0 : Int) {w : World} {K : Value → World → Prop} (h : vc_date_parts n0 w K) : Calls Tryz.prog f_date_parts #[.int .u8 n0] w (Ret K) :=
  calls_E (c := bodyOf Tryz.f53) (by kernel_rfl) Tryz.func53 (by kernel_rfl) [] [.int .u8 n0] (of_decide_eq_true (by kernel_rfl)) (vc_date_parts n0 w K) (by kernel_rfl) h

--  (*cracknel/date.found).token
def vc_date_found_token (p0 : Option Addr) (s1 : List UInt8) (w : World) (K : Value → World → Prop) : Prop :=
  ∃ J : FP [],
  (Calls Tryz.prog f_date_clock #[.string (mkS s1)] w fun e15 w15 => ∃ (n15_0_0 : Int) (n15_0_1 : Int) (n15_0_2 : Int) (b15_1 : Bool), e15 = .returned (.tuple #[.agg #[.int .i64 n15_0_0, .int .i64 n15_0_1, .int .i64 n15_0_2], .bool b15_1]) ∧
  ∀ (k4 : Nat) (w4 : World), k4 = w15.heap.size → w4 = w15.alloc (.cells #[.int .i64 (0 : Int), .int .i64 (0 : Int), .int .i64 (0 : Int)] T_arr3_int) →
  ∃ (wx : World), (Instr.storeAt T_arr3_int (.pointer (some ⟨k4, 0, none⟩)) (.agg #[.int .i64 n15_0_0, .int .i64 n15_0_1, .int .i64 n15_0_2])).run Tryz.prog w4 = .ok () wx ∧
  ∃ J_1 : FP [.one (.bool)],
  (BCase b15_1
  ((Option.isSome p0 = true) ∧
  (Option.isSome p0 = true) ∧
  ∃ (b23 : Bool), (Instr.loadAt T_bool (.pointer (Option.map (fun x => x.add 0) p0))).run Tryz.prog wx = .ok (.bool b23) wx ∧
  J_1 (!b23) wx)
  (J_1 false wx)) ∧
  ∀ (b25 : Bool), AllJ 7 (∀ (wj : World), J_1 b25 wj →
  BCase b25
  (∃ (n28_0 : Int) (n28_1 : Int) (n28_2 : Int), (Instr.loadAt T_arr3_int (.pointer (some ⟨k4, 0, none⟩))).run Tryz.prog wj = .ok (.agg #[.int .i64 n28_0, .int .i64 n28_1, .int .i64 n28_2]) wj ∧
  (Option.isSome p0 = true) ∧
  (Option.isSome p0 = true) ∧
  ∃ (wx_1 : World), (Instr.storeAt T_arr3_int (.pointer (Option.map (fun x => x.add 4) p0)) (.agg #[.int .i64 n28_0, .int .i64 n28_1, .int .i64 n28_2])).run Tryz.prog wj = .ok () wx_1 ∧
  (Option.isSome p0 = true) ∧
  (Option.isSome p0 = true) ∧
  ∃ (wx_2 : World), (Instr.storeAt T_bool (.pointer (Option.map (fun x => x.add 0) p0)) (.bool true)).run Tryz.prog wx_1 = .ok () wx_2 ∧
  K (.tuple #[]) wx_2)
  (J wj))) ∧
  AllJ 22 (∀ (wj_1 : World), J wj_1 →
  ∃ J_2 : FP [],
  (Calls Tryz.prog f_date_number #[.string (mkS s1), .int .i64 (1 : Int), .int .i64 (2 : Int)] wj_1 fun e35 w35 => ∃ (n35_0 : Int) (s35_1 : List UInt8) (b35_2 : Bool), e35 = .returned (.tuple #[.int .i64 n35_0, .string (mkS s35_1), .bool b35_2]) ∧
  ∃ J_3 : FP [.one (.bool)],
  (BCase b35_2
  ((Option.isSome p0 = true) ∧
  (Option.isSome p0 = true) ∧
  ∃ (b44 : Bool), (Instr.loadAt T_bool (.pointer (Option.map (fun x => x.add 1) p0))).run Tryz.prog w35 = .ok (.bool b44) w35 ∧
  J_3 (!b44) w35)
  (J_3 false w35)) ∧
  ∀ (b46 : Bool), AllJ 7 (∀ (wj_2 : World), J_3 b46 wj_2 →
  BCase b46
  ((Option.isSome p0 = true) ∧
  (Option.isSome p0 = true) ∧
  ∃ (wx_3 : World), (Instr.storeAt T_int (.pointer (Option.map (fun x => x.add 9) p0)) (.int .i64 n35_0)).run Tryz.prog wj_2 = .ok () wx_3 ∧
  (Option.isSome p0 = true) ∧
  (Option.isSome p0 = true) ∧
  ∃ (wx_4 : World), (Instr.storeAt T_bool (.pointer (Option.map (fun x => x.add 1) p0)) (.bool true)).run Tryz.prog wx_3 = .ok () wx_4 ∧
  K (.tuple #[]) wx_4)
  (J_2 wj_2))) ∧
  AllJ 24 (∀ (wj_3 : World), J_2 wj_3 →
  ∃ J_4 : FP [],
  (Calls Tryz.prog f_date_month #[.string (mkS s1)] wj_3 fun e55 w55 => ∃ (n55 : Int), e55 = .returned (.int .i64 n55) ∧
  ∃ J_5 : FP [.one (.bool)],
  (BCase (decide (n55 > (0 : Int)))
  ((Option.isSome p0 = true) ∧
  (Option.isSome p0 = true) ∧
  ∃ (b62 : Bool), (Instr.loadAt T_bool (.pointer (Option.map (fun x => x.add 2) p0))).run Tryz.prog w55 = .ok (.bool b62) w55 ∧
  J_5 (!b62) w55)
  (J_5 false w55)) ∧
  ∀ (b64 : Bool), AllJ 8 (∀ (wj_4 : World), J_5 b64 wj_4 →
  BCase b64
  ((Option.isSome p0 = true) ∧
  (Option.isSome p0 = true) ∧
  ∃ (wx_5 : World), (Instr.storeAt T_int (.pointer (Option.map (fun x => x.add 8) p0)) (.int .i64 n55)).run Tryz.prog wj_4 = .ok () wx_5 ∧
  (Option.isSome p0 = true) ∧
  (Option.isSome p0 = true) ∧
  ∃ (wx_6 : World), (Instr.storeAt T_bool (.pointer (Option.map (fun x => x.add 2) p0)) (.bool true)).run Tryz.prog wx_5 = .ok () wx_6 ∧
  K (.tuple #[]) wx_6)
  (J_4 wj_4))) ∧
  AllJ 19 (∀ (wj_5 : World), J_4 wj_5 →
  Calls Tryz.prog f_date_number #[.string (mkS s1), .int .i64 (2 : Int), .int .i64 (4 : Int)] wj_5 fun e74 w74 => ∃ (n74_0 : Int) (s74_1 : List UInt8) (b74_2 : Bool), e74 = .returned (.tuple #[.int .i64 n74_0, .string (mkS s74_1), .bool b74_2]) ∧
  ∃ J_6 : FP [.one (.bool)],
  (BCase b74_2
  ((Option.isSome p0 = true) ∧
  (Option.isSome p0 = true) ∧
  ∃ (b83 : Bool), (Instr.loadAt T_bool (.pointer (Option.map (fun x => x.add 3) p0))).run Tryz.prog w74 = .ok (.bool b83) w74 ∧
  J_6 (!b83) w74)
  (J_6 false w74)) ∧
  ∀ (b85 : Bool), AllJ 7 (∀ (wj_6 : World), J_6 b85 wj_6 →
  BCase b85
  ((Option.isSome p0 = true) ∧
  (Option.isSome p0 = true) ∧
  ∃ (wx_7 : World), (Instr.storeAt T_int (.pointer (Option.map (fun x => x.add 7) p0)) (.int .i64 n74_0)).run Tryz.prog wj_6 = .ok () wx_7 ∧
  (Option.isSome p0 = true) ∧
  (Option.isSome p0 = true) ∧
  ∃ (wx_8 : World), (Instr.storeAt T_bool (.pointer (Option.map (fun x => x.add 3) p0)) (.bool true)).run Tryz.prog wx_7 = .ok () wx_8 ∧
  K (.tuple #[]) wx_8)
  (K (.tuple #[]) wj_6)))))
theorem run_date_found_token (p0 : Option Addr) (s1 : List UInt8) {w : World} {K : Value → World → Prop} (h : vc_date_found_token p0 s1 w K) : Calls Tryz.prog f_date_found_token #[.pointer p0, .string (mkS s1)] w (Ret K) :=
  calls_E (c := bodyOf Tryz.f54) (by kernel_rfl) Tryz.func54 (by kernel_rfl) [(0, []), (3, [(25, .one (.bool))]), (10, []), (13, [(46, .one (.bool))]), (20, []), (23, [(64, .one (.bool))]), (32, [(85, .one (.bool))])] [.pointer p0, .string (mkS s1)] (of_decide_eq_true (by kernel_rfl)) (vc_date_found_token p0 s1 w K) (by kernel_rfl) h

--  cracknel/date.Days
def vc_date_Days (n0 : Int) (n1 : Int) (n2 : Int) (w : World) (K : Value → World → Prop) : Prop :=
  ∃ J : FP [],
  (BCase (decide (n0 < (1601 : Int)))
  (K (.tuple #[.int .i64 (0 : Int), .bool false]) w)
  (BCase (decide (n0 > (9999 : Int)))
  (K (.tuple #[.int .i64 (0 : Int), .bool false]) w)
  (BCase (decide (n1 < (1 : Int)))
  (K (.tuple #[.int .i64 (0 : Int), .bool false]) w)
  (BCase (decide (n1 > (12 : Int)))
  (K (.tuple #[.int .i64 (0 : Int), .bool false]) w)
  (BCase (decide (n2 < (1 : Int)))
  (K (.tuple #[.int .i64 (0 : Int), .bool false]) w)
  (Calls Tryz.prog f_date_length #[.int .i64 n0, .int .i64 n1] w fun e34 w34 => ∃ (n34 : Int), e34 = .returned (.int .i64 n34) ∧
  BCase (decide (n2 > n34))
  (K (.tuple #[.int .i64 (0 : Int), .bool false]) w34)
  (J w34))))))) ∧
  AllJ 27 (∀ (wj : World), J wj →
  ∃ J_1 : FP [.one (.int .i64), .one (.int .i64)],
  (BCase (decide ((IntKind.i64.wrap (n1 - (3 : Int))) < (0 : Int)))
  (J_1 (IntKind.i64.wrap (n0 - (1 : Int))) (IntKind.i64.wrap ((IntKind.i64.wrap (n1 - (3 : Int))) + (12 : Int))) wj)
  (J_1 n0 (IntKind.i64.wrap (n1 - (3 : Int))) wj)) ∧
  ∀ (n8 : Int) (n9 : Int), AllJ 6 (∀ (wj_1 : World), J_1 n8 n9 wj_1 →
  ((400 : Int) ≠ 0) ∧
  ∀ (q47 : Int), q47 = (Int.tmod n8 (400 : Int)) →
  ((400 : Int) ≠ 0) ∧
  ∀ (q49 : Int), q49 = (IntKind.i64.wrap (Int.tdiv n8 (400 : Int))) →
  ((4 : Int) ≠ 0) ∧
  ∀ (q55 : Int), q55 = (IntKind.i64.wrap (Int.tdiv q47 (4 : Int))) →
  ((100 : Int) ≠ 0) ∧
  ∀ (q58 : Int), q58 = (IntKind.i64.wrap (Int.tdiv q47 (100 : Int))) →
  ((5 : Int) ≠ 0) ∧
  ∀ (q63 : Int), q63 = (IntKind.i64.wrap (Int.tdiv (IntKind.i64.wrap ((IntKind.i64.wrap ((153 : Int) * n9)) + (2 : Int))) (5 : Int))) →
  K (.tuple #[.int .i64 (IntKind.i64.wrap ((IntKind.i64.wrap ((IntKind.i64.wrap ((IntKind.i64.wrap ((IntKind.i64.wrap ((IntKind.i64.wrap ((IntKind.i64.wrap ((IntKind.i64.wrap (q49 * (146097 : Int))) + (IntKind.i64.wrap (q47 * (365 : Int))))) + q55)) - q58)) + q63)) + n2)) - (1 : Int))) - (719468 : Int))), .bool true]) wj_1))
theorem run_date_Days (n0 : Int) (n1 : Int) (n2 : Int) {w : World} {K : Value → World → Prop} (h : vc_date_Days n0 n1 n2 w K) : Calls Tryz.prog f_date_Days #[.int .i64 n0, .int .i64 n1, .int .i64 n2] w (Ret K) :=
  calls_E (c := bodyOf Tryz.f55) (by kernel_rfl) Tryz.func55 (by kernel_rfl) [(2, []), (12, [(8, .one (.int .i64)), (9, .one (.int .i64))])] [.int .i64 n0, .int .i64 n1, .int .i64 n2] (of_decide_eq_true (by kernel_rfl)) (vc_date_Days n0 n1 n2 w K) (by kernel_rfl) h

--  cracknel/octet.Digits
def vc_octet_Digits (s0 : List UInt8) (w : World) (K : Value → World → Prop) : Prop :=
  BCase (!(s0 == []))
  (((0 ≤ (10 : Int) ∧ (10 : Int) ≤ (((List.length [48, 49, 50, 51, 52, 53, 54, 55, 56, 57, 65, 66, 67, 68, 69, 70]) : Nat) : Int))) ∧
  ∀ (s7 : List UInt8), s7 = (List.take (Int.toNat (10 : Int)) [48, 49, 50, 51, 52, 53, 54, 55, 56, 57, 65, 66, 67, 68, 69, 70]) →
  Calls Tryz.prog f_strings_Trim #[.string (mkS s0), .string (mkS s7)] w fun e8 w8 => ∃ (s8 : List UInt8), e8 = .returned (.string (mkS s8)) ∧
  K (.bool (s8 == [])) w8)
  (K (.bool false) w)
theorem run_octet_Digits (s0 : List UInt8) {w : World} {K : Value → World → Prop} (h : vc_octet_Digits s0 w K) : Calls Tryz.prog f_octet_Digits #[.string (mkS s0)] w (Ret K) :=
  calls_E (c := bodyOf Tryz.f57) (by kernel_rfl) Tryz.func57 (by kernel_rfl) [] [.string (mkS s0)] (of_decide_eq_true (by kernel_rfl)) (vc_octet_Digits s0 w K) (by kernel_rfl) h

--  cracknel/octet.Number
def vc_octet_Number (s0 : List UInt8) (w : World) (K : Value → World → Prop) : Prop :=
  ∃ J : FP [],
  (Calls Tryz.prog f_octet_Digits #[.string (mkS s0)] w fun e8 w8 => ∃ (b8 : Bool), e8 = .returned (.bool b8) ∧
  BCase (!b8)
  (K (.tuple #[.int .i64 (0 : Int), .bool false]) w8)
  (BCase (decide (((List.length s0 : Nat) : Int) > (18 : Int)))
  (K (.tuple #[.int .i64 (0 : Int), .bool false]) w8)
  (((0 ≤ (0 : Int) ∧ (0 : Int) < ((List.length s0 : Nat) : Int))) ∧
  BCase ((byteAt s0 (0 : Int)) == (48 : Int))
  (BCase (decide (((List.length s0 : Nat) : Int) > (1 : Int)))
  (K (.tuple #[.int .i64 (0 : Int), .bool false]) w8)
  (J w8))
  (J w8)))) ∧
  AllJ 20 (∀ (wj : World), J wj →
  ∃ (w26 : World) (a26 : Option Addr) (l26 c26 : Nat), (convert T_string T_sl_uint8 (.string (mkS s0))).run Tryz.prog wj = .ok (.slice a26 l26 c26) w26 ∧
  ∃ I : Nat → FP [.one (.int .i64), .one (.int .i64)],
  (∃ m : Nat, I m (0 : Int) (0 : Int) w26) ∧
  ∀ (m : Nat) (n4 : Int) (n28 : Int), AllJ 11 (∀ (wl : World), I m n4 n28 wl →
  BCase (decide (n28 < ((l26 : Nat) : Int)))
  (((0 ≤ n28 ∧ n28 < ((l26 : Nat) : Int)) ∧ Option.isSome a26 = true) ∧
  ∃ (n31 : Int), (Instr.loadAt T_uint8 (.pointer (elemAddr a26 n28 1))).run Tryz.prog wl = .ok (.int .u8 n31) wl ∧
  ∃ m' : Nat, m' < m ∧ I m' (IntKind.i64.wrap ((IntKind.i64.wrap ((10 : Int) * n4)) + (IntKind.i64.wrap (IntKind.u8.wrap (n31 - (48 : Int)))))) (IntKind.i64.wrap (n28 + (1 : Int))) wl)
  (K (.tuple #[.int .i64 n4, .bool true]) wl)))
theorem run_octet_Number (s0 : List UInt8) {w : World} {K : Value → World → Prop} (h : vc_octet_Number s0 w K) : Calls Tryz.prog f_octet_Number #[.string (mkS s0)] w (Ret K) :=
  calls_E (c := bodyOf Tryz.f58) (by kernel_rfl) Tryz.func58 (by kernel_rfl) [(2, []), (16, [(4, .one (.int .i64)), (28, .one (.int .i64))])] [.string (mkS s0)] (of_decide_eq_true (by kernel_rfl)) (vc_octet_Number s0 w K) (by kernel_rfl) h

--  cracknel/cracknelref07.Length
def vc_ref07_Length (n0 : Int) (n1 : Int) (w : World) (K : Value → World → Prop) : Prop :=
  ∃ J : FP [.one (.bool)],
  (BCase (n1 == (4 : Int))
  (J true w)
  (BCase (n1 == (6 : Int))
  (J true w)
  (BCase (n1 == (9 : Int))
  (J true w)
  (J (n1 == (11 : Int)) w)))) ∧
  ∀ (b6 : Bool), AllJ 4 (∀ (wj : World), J b6 wj →
  BCase b6
  (K (.int .i64 (30 : Int)) wj)
  (BCase (n1 == (2 : Int))
  (Calls Tryz.prog f_ref07_leap #[.int .i64 n0] wj fun e14 w14 => ∃ (b14 : Bool), e14 = .returned (.bool b14) ∧
  BCase b14
  (K (.int .i64 (29 : Int)) w14)
  (K (.int .i64 (28 : Int)) w14))
  (K (.int .i64 (31 : Int)) wj)))
theorem run_ref07_Length (n0 : Int) (n1 : Int) {w : World} {K : Value → World → Prop} (h : vc_ref07_Length n0 n1 w K) : Calls Tryz.prog f_ref07_Length #[.int .i64 n0, .int .i64 n1] w (Ret K) :=
  calls_E (c := bodyOf Tryz.f62) (by kernel_rfl) Tryz.func62 (by kernel_rfl) [(6, [(6, .one (.bool))])] [.int .i64 n0, .int .i64 n1] (of_decide_eq_true (by kernel_rfl)) (vc_ref07_Length n0 n1 w K) (by kernel_rfl) h

--  cracknel/cracknelref07.year
def vc_ref07_year (n0 : Int) (w : World) (K : Value → World → Prop) : Prop :=
  Calls Tryz.prog f_ref07_leap #[.int .i64 n0] w fun e4 w4 => ∃ (b4 : Bool), e4 = .returned (.bool b4) ∧
  BCase b4
  (K (.int .i64 (366 : Int)) w4)
  (K (.int .i64 (365 : Int)) w4)
theorem run_ref07_year (n0 : Int) {w : World} {K : Value → World → Prop} (h : vc_ref07_year n0 w K) : Calls Tryz.prog f_ref07_year #[.int .i64 n0] w (Ret K) :=
  calls_E (c := bodyOf Tryz.f63) (by kernel_rfl) Tryz.func63 (by kernel_rfl) [] [.int .i64 n0] (of_decide_eq_true (by kernel_rfl)) (vc_ref07_year n0 w K) (by kernel_rfl) h

--  cracknel/date.Civil
def vc_date_Civil (n0 : Int) (w : World) (K : Value → World → Prop) : Prop :=
  Calls Tryz.prog f_date_Days #[.int .i64 (1601 : Int), .int .i64 (1 : Int), .int .i64 (1 : Int)] w fun e16 w16 => ∃ (n16_0 : Int) (b16_1 : Bool), e16 = .returned (.tuple #[.int .i64 n16_0, .bool b16_1]) ∧
  Calls Tryz.prog f_date_Days #[.int .i64 (9999 : Int), .int .i64 (12 : Int), .int .i64 (31 : Int)] w16 fun e20 w20 => ∃ (n20_0 : Int) (b20_1 : Bool), e20 = .returned (.tuple #[.int .i64 n20_0, .bool b20_1]) ∧
  ∃ J : FP [],
  (BCase (decide (n0 < n16_0))
  (K (.tuple #[.int .i64 (0 : Int), .int .i64 (0 : Int), .int .i64 (0 : Int), .bool false]) w20)
  (BCase (decide (n0 > n20_0))
  (K (.tuple #[.int .i64 (0 : Int), .int .i64 (0 : Int), .int .i64 (0 : Int), .bool false]) w20)
  (J w20))) ∧
  AllJ 12 (∀ (wj : World), J wj →
  ((146097 : Int) ≠ 0) ∧
  ∀ (q34 : Int), q34 = (Int.tmod (IntKind.i64.wrap (n0 + (719468 : Int))) (146097 : Int)) →
  ((1460 : Int) ≠ 0) ∧
  ∀ (q37 : Int), q37 = (IntKind.i64.wrap (Int.tdiv q34 (1460 : Int))) →
  ((36524 : Int) ≠ 0) ∧
  ∀ (q40 : Int), q40 = (IntKind.i64.wrap (Int.tdiv q34 (36524 : Int))) →
  ((146096 : Int) ≠ 0) ∧
  ∀ (q43 : Int), q43 = (IntKind.i64.wrap (Int.tdiv q34 (146096 : Int))) →
  ((365 : Int) ≠ 0) ∧
  ∀ (q45 : Int), q45 = (IntKind.i64.wrap (Int.tdiv (IntKind.i64.wrap ((IntKind.i64.wrap ((IntKind.i64.wrap (q34 - q37)) + q40)) - q43)) (365 : Int))) →
  ((4 : Int) ≠ 0) ∧
  ∀ (q50 : Int), q50 = (IntKind.i64.wrap (Int.tdiv q45 (4 : Int))) →
  ((100 : Int) ≠ 0) ∧
  ∀ (q53 : Int), q53 = (IntKind.i64.wrap (Int.tdiv q45 (100 : Int))) →
  ((153 : Int) ≠ 0) ∧
  ∀ (q59 : Int), q59 = (IntKind.i64.wrap (Int.tdiv (IntKind.i64.wrap ((IntKind.i64.wrap ((5 : Int) * (IntKind.i64.wrap (q34 - (IntKind.i64.wrap ((IntKind.i64.wrap ((IntKind.i64.wrap ((365 : Int) * q45)) + q50)) - q53)))))) + (2 : Int))) (153 : Int))) →
  ((5 : Int) ≠ 0) ∧
  ∀ (q64 : Int), q64 = (IntKind.i64.wrap (Int.tdiv (IntKind.i64.wrap ((IntKind.i64.wrap ((153 : Int) * q59)) + (2 : Int))) (5 : Int))) →
  ((146097 : Int) ≠ 0) ∧
  ∀ (q69 : Int), q69 = (IntKind.i64.wrap (Int.tdiv (IntKind.i64.wrap (n0 + (719468 : Int))) (146097 : Int))) →
  BCase (decide ((IntKind.i64.wrap (q59 + (3 : Int))) > (12 : Int)))
  (K (.tuple #[.int .i64 (IntKind.i64.wrap ((IntKind.i64.wrap (q45 + (IntKind.i64.wrap (q69 * (400 : Int))))) + (1 : Int))), .int .i64 (IntKind.i64.wrap ((IntKind.i64.wrap (q59 + (3 : Int))) - (12 : Int))), .int .i64 (IntKind.i64.wrap ((IntKind.i64.wrap ((IntKind.i64.wrap (q34 - (IntKind.i64.wrap ((IntKind.i64.wrap ((IntKind.i64.wrap ((365 : Int) * q45)) + q50)) - q53)))) - q64)) + (1 : Int))), .bool true]) wj)
  (K (.tuple #[.int .i64 (IntKind.i64.wrap (q45 + (IntKind.i64.wrap (q69 * (400 : Int))))), .int .i64 (IntKind.i64.wrap (q59 + (3 : Int))), .int .i64 (IntKind.i64.wrap ((IntKind.i64.wrap ((IntKind.i64.wrap (q34 - (IntKind.i64.wrap ((IntKind.i64.wrap ((IntKind.i64.wrap ((365 : Int) * q45)) + q50)) - q53)))) - q64)) + (1 : Int))), .bool true]) wj))
theorem run_date_Civil (n0 : Int) {w : World} {K : Value → World → Prop} (h : vc_date_Civil n0 w K) : Calls Tryz.prog f_date_Civil #[.int .i64 n0] w (Ret K) :=
  calls_E (c := bodyOf Tryz.f64) (by kernel_rfl) Tryz.func64 (by kernel_rfl) [(6, [])] [.int .i64 n0] (of_decide_eq_true (by kernel_rfl)) (vc_date_Civil n0 w K) (by kernel_rfl) h

--  cracknel/date.digits
def vc_date_digits (n0 : Int) (n1 : Int) (w : World) (K : Value → World → Prop) : Prop :=
  Calls Tryz.prog f_strconv_Itoa #[.int .i64 n0] w fun e7 w7 => ∃ (s7 : List UInt8), e7 = .returned (.string (mkS s7)) ∧
  Calls Tryz.prog f_strings_Repeat #[.string (mkS [48]), .int .i64 (IntKind.i64.wrap (n1 - ((List.length s7 : Nat) : Int)))] w7 fun e12 w12 => ∃ (s12 : List UInt8), e12 = .returned (.string (mkS s12)) ∧
  ((((List.length s12 + List.length s7 : Nat) : Int) ≤ IntKind.i64.max)) ∧
  ∀ (s14 : List UInt8), s14 = (s12 ++ s7) →
  K (.string (mkS s14)) w12
theorem run_date_digits (n0 : Int) (n1 : Int) {w : World} {K : Value → World → Prop} (h : vc_date_digits n0 n1 w K) : Calls Tryz.prog f_date_digits #[.int .i64 n0, .int .i64 n1] w (Ret K) :=
  calls_E (c := bodyOf Tryz.f65) (by kernel_rfl) Tryz.func65 (by kernel_rfl) [] [.int .i64 n0, .int .i64 n1] (of_decide_eq_true (by kernel_rfl)) (vc_date_digits n0 n1 w K) (by kernel_rfl) h

--  cracknel/date.clock
def vc_date_clock (s0 : List UInt8) (w : World) (K : Value → World → Prop) : Prop :=
  ∀ (k2 : Nat) (w2 : World), k2 = w.heap.size → w2 = w.alloc (.cells #[.int .i64 (0 : Int), .int .i64 (0 : Int), .int .i64 (0 : Int)] T_arr3_int) →
  ∀ (k4 : Nat) (w4 : World), k4 = w2.heap.size → w4 = w2.alloc (.cells #[.int .i64 (0 : Int), .int .i64 (0 : Int), .int .i64 (0 : Int)] T_arr3_int) →
  ∃ I : Nat → FP [.one (.str), .one (.int .i64)],
  (∃ m : Nat, I m s0 (0 : Int) w4) ∧
  ∀ (m : Nat) (s0_1 : List UInt8) (n10 : Int), AllJ 32 (∀ (wl : World), I m s0_1 n10 wl →
  BCase (decide (n10 < (3 : Int)))
  (∃ J : FP [.one (.str)],
  (BCase (decide (n10 > (0 : Int)))
  (Calls Tryz.prog f_strings_CutPrefix #[.string (mkS s0_1), .string (mkS [58])] wl fun e17 w17 => ∃ (s17_0 : List UInt8) (b17_1 : Bool), e17 = .returned (.tuple #[.string (mkS s17_0), .bool b17_1]) ∧
  BCase (!b17_1)
  (∃ (n22_0 : Int) (n22_1 : Int) (n22_2 : Int), (Instr.loadAt T_arr3_int (.pointer (some ⟨k4, 0, none⟩))).run Tryz.prog w17 = .ok (.agg #[.int .i64 n22_0, .int .i64 n22_1, .int .i64 n22_2]) w17 ∧
  ∃ (wx : World), (Instr.storeAt T_arr3_int (.pointer (some ⟨k2, 0, none⟩)) (.agg #[.int .i64 n22_0, .int .i64 n22_1, .int .i64 n22_2])).run Tryz.prog w17 = .ok () wx ∧
  ∃ (nr0_0 : Int) (nr0_1 : Int) (nr0_2 : Int), (resAt T_arr3_int (.pointer (some ⟨k2, 0, none⟩))).run Tryz.prog wx = .ok (.agg #[.int .i64 nr0_0, .int .i64 nr0_1, .int .i64 nr0_2]) wx ∧
  K (.tuple #[.agg #[.int .i64 nr0_0, .int .i64 nr0_1, .int .i64 nr0_2], .bool false]) wx)
  (J s17_0 w17))
  (J s0_1 wl)) ∧
  ∀ (s0_2 : List UInt8), AllJ 12 (∀ (wj : World), J s0_2 wj →
  Calls Tryz.prog f_date_number #[.string (mkS s0_2), .int .i64 (1 : Int), .int .i64 (2 : Int)] wj fun e25 w25 => ∃ (n25_0 : Int) (s25_1 : List UInt8) (b25_2 : Bool), e25 = .returned (.tuple #[.int .i64 n25_0, .string (mkS s25_1), .bool b25_2]) ∧
  BCase (!b25_2)
  (∃ (n31_0 : Int) (n31_1 : Int) (n31_2 : Int), (Instr.loadAt T_arr3_int (.pointer (some ⟨k4, 0, none⟩))).run Tryz.prog w25 = .ok (.agg #[.int .i64 n31_0, .int .i64 n31_1, .int .i64 n31_2]) w25 ∧
  ∃ (wx_1 : World), (Instr.storeAt T_arr3_int (.pointer (some ⟨k2, 0, none⟩)) (.agg #[.int .i64 n31_0, .int .i64 n31_1, .int .i64 n31_2])).run Tryz.prog w25 = .ok () wx_1 ∧
  ∃ (nr0_0_1 : Int) (nr0_1_1 : Int) (nr0_2_1 : Int), (resAt T_arr3_int (.pointer (some ⟨k2, 0, none⟩))).run Tryz.prog wx_1 = .ok (.agg #[.int .i64 nr0_0_1, .int .i64 nr0_1_1, .int .i64 nr0_2_1]) wx_1 ∧
  K (.tuple #[.agg #[.int .i64 nr0_0_1, .int .i64 nr0_1_1, .int .i64 nr0_2_1], .bool false]) wx_1)
  (((0 ≤ n10 ∧ n10 < ((3 : Nat) : Int)) ∧ true = true) ∧
  ∃ (wx_2 : World), (Instr.storeAt T_int (.pointer (elemAddr (some ⟨k4, 0, none⟩) n10 1)) (.int .i64 n25_0)).run Tryz.prog w25 = .ok () wx_2 ∧
  ∃ m' : Nat, m' < m ∧ I m' s25_1 (IntKind.i64.wrap (n10 + (1 : Int))) wx_2)))
  (∃ (n37_0 : Int) (n37_1 : Int) (n37_2 : Int), (Instr.loadAt T_arr3_int (.pointer (some ⟨k4, 0, none⟩))).run Tryz.prog wl = .ok (.agg #[.int .i64 n37_0, .int .i64 n37_1, .int .i64 n37_2]) wl ∧
  ∃ (wx_3 : World), (Instr.storeAt T_arr3_int (.pointer (some ⟨k2, 0, none⟩)) (.agg #[.int .i64 n37_0, .int .i64 n37_1, .int .i64 n37_2])).run Tryz.prog wl = .ok () wx_3 ∧
  ∃ (nr0_0_2 : Int) (nr0_1_2 : Int) (nr0_2_2 : Int), (resAt T_arr3_int (.pointer (some ⟨k2, 0, none⟩))).run Tryz.prog wx_3 = .ok (.agg #[.int .i64 nr0_0_2, .int .i64 nr0_1_2, .int .i64 nr0_2_2]) wx_3 ∧
  K (.tuple #[.agg #[.int .i64 nr0_0_2, .int .i64 nr0_1_2, .int .i64 nr0_2_2], .bool true]) wx_3))
theorem run_date_clock (s0 : List UInt8) {w : World} {K : Value → World → Prop} (h : vc_date_clock s0 w K) : Calls Tryz.prog f_date_clock #[.string (mkS s0)] w (Ret K) :=
  calls_E (c := bodyOf Tryz.f81) (by kernel_rfl) Tryz.func81 (by kernel_rfl) [(8, [(0, .one (.str)), (10, .one (.int .i64))]), (19, [(0, .one (.str))])] [.string (mkS s0)] (of_decide_eq_true (by kernel_rfl)) (vc_date_clock s0 w K) (by kernel_rfl) h

--  cracknel/date.number
def vc_date_number (s0 : List UInt8) (n1 : Int) (n2 : Int) (w : World) (K : Value → World → Prop) : Prop :=
  Calls Tryz.prog f_strings_TrimLeft #[.string (mkS s0), .string (mkS [48, 49, 50, 51, 52, 53, 54, 55, 56, 57])] w fun e15 w15 => ∃ (s15 : List UInt8), e15 = .returned (.string (mkS s15)) ∧
  ∃ J : FP [],
  (BCase (decide ((IntKind.i64.wrap (((List.length s0 : Nat) : Int) - ((List.length s15 : Nat) : Int))) < n1))
  (K (.tuple #[.int .i64 (0 : Int), .string (mkS s0), .bool false]) w15)
  (BCase (decide ((IntKind.i64.wrap (((List.length s0 : Nat) : Int) - ((List.length s15 : Nat) : Int))) > n2))
  (K (.tuple #[.int .i64 (0 : Int), .string (mkS s0), .bool false]) w15)
  (J w15))) ∧
  AllJ 12 (∀ (wj : World), J wj →
  ((0 ≤ (IntKind.i64.wrap (((List.length s0 : Nat) : Int) - ((List.length s15 : Nat) : Int))) ∧ (IntKind.i64.wrap (((List.length s0 : Nat) : Int) - ((List.length s15 : Nat) : Int))) ≤ (((List.length s0) : Nat) : Int))) ∧
  ∀ (s30 : List UInt8), s30 = (List.take (Int.toNat (IntKind.i64.wrap (((List.length s0 : Nat) : Int) - ((List.length s15 : Nat) : Int)))) s0) →
  Calls Tryz.prog f_strconv_Atoi #[.string (mkS s30)] wj fun e31 w31 => ∃ (n31_0 : Int) (v31_1 : Value), e31 = .returned (.tuple #[.int .i64 n31_0, v31_1]) ∧
  ((0 ≤ (IntKind.i64.wrap (((List.length s0 : Nat) : Int) - ((List.length s15 : Nat) : Int))) ∧ (IntKind.i64.wrap (((List.length s0 : Nat) : Int) - ((List.length s15 : Nat) : Int))) ≤ (((List.length s0) : Nat) : Int))) ∧
  ∀ (s37 : List UInt8), s37 = (List.drop (Int.toNat (IntKind.i64.wrap (((List.length s0 : Nat) : Int) - ((List.length s15 : Nat) : Int)))) s0) →
  ∀ wq : World, Below w31.heap.size w31 wq →
  K (.tuple #[.int .i64 n31_0, .string (mkS s37), .bool true]) wq)
theorem run_date_number (s0 : List UInt8) (n1 : Int) (n2 : Int) {w : World} {K : Value → World → Prop} (h : vc_date_number s0 n1 n2 w K) : Calls Tryz.prog f_date_number #[.string (mkS s0), .int .i64 n1, .int .i64 n2] w (Ret K) :=
  calls_E (c := bodyOf Tryz.f82) (by kernel_rfl) Tryz.func82 (by kernel_rfl) [(4, [])] [.string (mkS s0), .int .i64 n1, .int .i64 n2] (of_decide_eq_true (by kernel_rfl)) (vc_date_number s0 n1 n2 w K) (by kernel_rfl) h

--  cracknel/date.month
def vc_date_month (s0 : List UInt8) (w : World) (K : Value → World → Prop) : Prop :=
  ∃ I : Nat → FP [.one (.int .i64)],
  (∃ m : Nat, I m (0 : Int) w) ∧
  ∀ (m : Nat) (n3 : Int), AllJ 21 (∀ (wl : World), I m n3 wl →
  ∃ J : FP [],
  (BCase (decide (n3 < (12 : Int)))
  (BCase (decide (((List.length s0 : Nat) : Int) ≥ (3 : Int)))
  (J wl)
  (K (.int .i64 (0 : Int)) wl))
  (K (.int .i64 (0 : Int)) wl)) ∧
  AllJ 7 (∀ (wj : World), J wj →
  ((0 ≤ (3 : Int) ∧ (3 : Int) ≤ (((List.length s0) : Nat) : Int))) ∧
  ∀ (s14 : List UInt8), s14 = (List.take (Int.toNat (3 : Int)) s0) →
  (((0 ≤ (IntKind.i64.wrap ((IntKind.i64.wrap ((3 : Int) * n3)) + (3 : Int))) ∧ (IntKind.i64.wrap ((IntKind.i64.wrap ((3 : Int) * n3)) + (3 : Int))) ≤ (((List.length [74, 97, 110, 70, 101, 98, 77, 97, 114, 65, 112, 114, 77, 97, 121, 74, 117, 110, 74, 117, 108, 65, 117, 103, 83, 101, 112, 79, 99, 116, 78, 111, 118, 68, 101, 99]) : Nat) : Int)) ∧ 0 ≤ (IntKind.i64.wrap ((3 : Int) * n3)) ∧ (IntKind.i64.wrap ((3 : Int) * n3)) ≤ ((Int.toNat (IntKind.i64.wrap ((IntKind.i64.wrap ((3 : Int) * n3)) + (3 : Int))) : Nat) : Int))) ∧
  ∀ (s20 : List UInt8), s20 = (List.drop (Int.toNat (IntKind.i64.wrap ((3 : Int) * n3))) (List.take (Int.toNat (IntKind.i64.wrap ((IntKind.i64.wrap ((3 : Int) * n3)) + (3 : Int)))) [74, 97, 110, 70, 101, 98, 77, 97, 114, 65, 112, 114, 77, 97, 121, 74, 117, 110, 74, 117, 108, 65, 117, 103, 83, 101, 112, 79, 99, 116, 78, 111, 118, 68, 101, 99])) →
  ∃ (b21 : Bool), (∀ u21 : World, Below wj.heap.size wj u21 → Calls Tryz.prog f_octet_Same #[.string (mkS s14), .string (mkS s20)] u21 fun e21 w21 => e21 = .returned (.bool b21) ∧ Below wj.heap.size u21 w21) ∧
  ∀ wq : World, Below wj.heap.size wj wq →
  BCase b21
  (K (.int .i64 (IntKind.i64.wrap (n3 + (1 : Int)))) wq)
  (∃ m' : Nat, m' < m ∧ I m' (IntKind.i64.wrap (n3 + (1 : Int))) wq)))
theorem run_date_month (s0 : List UInt8) {w : World} {K : Value → World → Prop} (h : vc_date_month s0 w K) : Calls Tryz.prog f_date_month #[.string (mkS s0)] w (Ret K) :=
  calls_E (c := bodyOf Tryz.f83) (by kernel_rfl) Tryz.func83 (by kernel_rfl) [(6, [(3, .one (.int .i64))]), (7, [])] [.string (mkS s0)] (of_decide_eq_true (by kernel_rfl)) (vc_date_month s0 w K) (by kernel_rfl) h

--  cracknel/date.length
def vc_date_length (n0 : Int) (n1 : Int) (w : World) (K : Value → World → Prop) : Prop :=
  ∀ (k5 : Nat) (w5 : World), k5 = w.heap.size → w5 = w.alloc (.cells #[.int .i64 (0 : Int), .int .i64 (0 : Int), .int .i64 (0 : Int), .int .i64 (0 : Int), .int .i64 (0 : Int), .int .i64 (0 : Int), .int .i64 (0 : Int), .int .i64 (0 : Int), .int .i64 (0 : Int), .int .i64 (0 : Int), .int .i64 (0 : Int), .int .i64 (0 : Int)] T_arr12_int) →
  ∃ (wx : World), (Instr.storeAt T_arr12_int (.pointer (some ⟨k5, 0, none⟩)) (.agg #[.int .i64 (31 : Int), .int .i64 (28 : Int), .int .i64 (31 : Int), .int .i64 (30 : Int), .int .i64 (31 : Int), .int .i64 (30 : Int), .int .i64 (31 : Int), .int .i64 (31 : Int), .int .i64 (30 : Int), .int .i64 (31 : Int), .int .i64 (30 : Int), .int .i64 (31 : Int)])).run Tryz.prog w5 = .ok () wx ∧
  ∃ J : FP [],
  (BCase (n1 == (2 : Int))
  (Calls Tryz.prog f_date_leap #[.int .i64 n0] wx fun e11 w11 => ∃ (b11 : Bool), e11 = .returned (.bool b11) ∧
  BCase b11
  (K (.int .i64 (29 : Int)) w11)
  (J w11))
  (J wx)) ∧
  AllJ 7 (∀ (wj : World), J wj →
  ((0 ≤ (IntKind.i64.wrap (n1 - (1 : Int))) ∧ (IntKind.i64.wrap (n1 - (1 : Int))) < ((12 : Nat) : Int)) ∧ true = true) ∧
  ∃ (n16 : Int), (Instr.loadAt T_int (.pointer (elemAddr (some ⟨k5, 0, none⟩) (IntKind.i64.wrap (n1 - (1 : Int))) 1))).run Tryz.prog wj = .ok (.int .i64 n16) wj ∧
  K (.int .i64 n16) wj)
theorem run_date_length (n0 : Int) (n1 : Int) {w : World} {K : Value → World → Prop} (h : vc_date_length n0 n1 w K) : Calls Tryz.prog f_date_length #[.int .i64 n0, .int .i64 n1] w (Ret K) :=
  calls_E (c := bodyOf Tryz.f84) (by kernel_rfl) Tryz.func84 (by kernel_rfl) [(4, [])] [.int .i64 n0, .int .i64 n1] (of_decide_eq_true (by kernel_rfl)) (vc_date_length n0 n1 w K) (by kernel_rfl) h

--  cracknel/cracknelref07.leap
def vc_ref07_leap (n0 : Int) (w : World) (K : Value → World → Prop) : Prop :=
  ((400 : Int) ≠ 0) ∧
  ∀ (q4 : Int), q4 = (Int.tmod n0 (400 : Int)) →
  BCase (q4 == (0 : Int))
  (K (.bool true) w)
  (((4 : Int) ≠ 0) ∧
  ∀ (q7 : Int), q7 = (Int.tmod n0 (4 : Int)) →
  BCase (q7 == (0 : Int))
  (((100 : Int) ≠ 0) ∧
  ∀ (q11 : Int), q11 = (Int.tmod n0 (100 : Int)) →
  K (.bool (q11 != (0 : Int))) w)
  (K (.bool false) w))
theorem run_ref07_leap (n0 : Int) {w : World} {K : Value → World → Prop} (h : vc_ref07_leap n0 w K) : Calls Tryz.prog f_ref07_leap #[.int .i64 n0] w (Ret K) :=
  calls_E (c := bodyOf Tryz.f86) (by kernel_rfl) Tryz.func86 (by kernel_rfl) [] [.int .i64 n0] (of_decide_eq_true (by kernel_rfl)) (vc_ref07_leap n0 w K) (by kernel_rfl) h

--  cracknel/date.leap
def vc_date_leap (n0 : Int) (w : World) (K : Value → World → Prop) : Prop :=
  ((4 : Int) ≠ 0) ∧
  ∀ (q4 : Int), q4 = (Int.tmod n0 (4 : Int)) →
  BCase (q4 == (0 : Int))
  (((100 : Int) ≠ 0) ∧
  ∀ (q8 : Int), q8 = (Int.tmod n0 (100 : Int)) →
  BCase (q8 != (0 : Int))
  (K (.bool true) w)
  (((400 : Int) ≠ 0) ∧
  ∀ (q13 : Int), q13 = (Int.tmod n0 (400 : Int)) →
  K (.bool (q13 == (0 : Int))) w))
  (((400 : Int) ≠ 0) ∧
  ∀ (q13_1 : Int), q13_1 = (Int.tmod n0 (400 : Int)) →
  K (.bool (q13_1 == (0 : Int))) w)
theorem run_date_leap (n0 : Int) {w : World} {K : Value → World → Prop} (h : vc_date_leap n0 w K) : Calls Tryz.prog f_date_leap #[.int .i64 n0] w (Ret K) :=
  calls_E (c := bodyOf Tryz.f106) (by kernel_rfl) Tryz.func106 (by kernel_rfl) [] [.int .i64 n0] (of_decide_eq_true (by kernel_rfl)) (vc_date_leap n0 w K) (by kernel_rfl) h

end Go.Proofs.YtmlcilfcaogdcaaGreatDoor
