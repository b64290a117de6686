/- What the functions' bodies ask, by their names. Its conditions: none. -/
import Derived.Test.YtdamklkdjknnpaaNames
set_option linter.unusedVariables false
namespace Go.Proofs.Ytdamklkdjknnpaa
open Go.Pk
open Go.RowKit (Below)
--  cracknel/cracknellaw14.SymbolTells
def vc_law14_SymbolTells (a0 : Option Addr) (l0 c0 : Nat) (s1 : List UInt8) (n2 : Int) (w : World) (K : Value → World → Prop) : Prop :=
  Calls Try.prog f_law14_symbolAlive #[] w fun e8 w8 => ∃ (b8 : Bool), e8 = .returned (.bool b8) ∧
  BCase (!b8)
  (K (.bool false) w8)
  (∃ J : FP [],
  (Calls Try.prog f_law14_great #[.slice a0 l0 c0] w8 fun e11 w11 => ∃ (b11 : Bool), e11 = .returned (.bool b11) ∧
  BCase b11
  (K (.bool true) w11)
  (BCase (decide (((List.length s1 : Nat) : Int) > (200 : Int)))
  (K (.bool true) w11)
  (J w11))) ∧
  AllJ 8 (∀ (wj : World), J wj →
  Calls Try.prog f_symbol_New #[.slice a0 l0 c0] wj fun e18 w18 => ∃ (p18 : Option Addr), e18 = .returned (.pointer p18) ∧
  Calls Try.prog f_symbol_Alphabet_Len #[.pointer p18] w18 fun e20 w20 => ∃ (n20 : Int), e20 = .returned (.int .i64 n20) ∧
  Calls Try.prog f_ref14_Texts #[.slice a0 l0 c0] w20 fun e22 w22 => ∃ (a22 : Option Addr) (l22 c22 : Nat), e22 = .returned (.slice a22 l22 c22) ∧
  BCase (n20 == (IntKind.i64.wrap (((l22 : Nat) : Int) + (1 : Int))))
  (Calls Try.prog f_symbol_Alphabet_Of #[.pointer p18, .string (mkS s1)] w22 fun e29 w29 => ∃ (n29 : Int), e29 = .returned (.int .i64 n29) ∧
  Calls Try.prog f_ref14_Of #[.slice a0 l0 c0, .string (mkS s1)] w29 fun e32 w32 => ∃ (n32 : Int), e32 = .returned (.int .i64 n32) ∧
  BCase (n29 == n32)
  (Calls Try.prog f_symbol_Alphabet_Text #[.pointer p18, .int .i64 n2] w32 fun e38 w38 => ∃ (s38 : List UInt8), e38 = .returned (.string (mkS s38)) ∧
  Calls Try.prog f_ref14_Text #[.slice a0 l0 c0, .int .i64 n2] w38 fun e41 w41 => ∃ (s41 : List UInt8), e41 = .returned (.string (mkS s41)) ∧
  BCase (s38 == s41)
  (Calls Try.prog f_symbol_Alphabet_Fresh #[.pointer p18] w41 fun e46 w46 => ∃ (s46 : List UInt8), e46 = .returned (.string (mkS s46)) ∧
  Calls Try.prog f_ref14_Fresh #[.slice a0 l0 c0] w46 fun e48 w48 => ∃ (s48 : List UInt8), e48 = .returned (.string (mkS s48)) ∧
  K (.bool (s46 == s48)) w48)
  (K (.bool false) w41))
  (K (.bool false) w32))
  (K (.bool false) w22)))
theorem run_law14_SymbolTells (a0 : Option Addr) (l0 c0 : Nat) (s1 : List UInt8) (n2 : Int) {w : World} {K : Value → World → Prop} (h : vc_law14_SymbolTells a0 l0 c0 s1 n2 w K) : Calls Try.prog f_law14_SymbolTells #[.slice a0 l0 c0, .string (mkS s1), .int .i64 n2] w (Ret K) :=
  calls_E (c := bodyOf Try.f3) (by kernel_rfl) Try.func3 (by kernel_rfl) [(10, [])] [.slice a0 l0 c0, .string (mkS s1), .int .i64 n2] (of_decide_eq_true (by kernel_rfl)) (vc_law14_SymbolTells a0 l0 c0 s1 n2 w K) (by kernel_rfl) h

--  cracknel/cracknellaw14.SymbolBack
def vc_law14_SymbolBack (a0 : Option Addr) (l0 c0 : Nat) (s1 : List UInt8) (w : World) (K : Value → World → Prop) : Prop :=
  Calls Try.prog f_law14_symbolAlive #[] w fun e12 w12 => ∃ (b12 : Bool), e12 = .returned (.bool b12) ∧
  BCase (!b12)
  (K (.bool false) w12)
  (∃ J : FP [],
  (Calls Try.prog f_law14_great #[.slice a0 l0 c0] w12 fun e15 w15 => ∃ (b15 : Bool), e15 = .returned (.bool b15) ∧
  BCase b15
  (K (.bool true) w15)
  (BCase (decide (((List.length s1 : Nat) : Int) > (200 : Int)))
  (K (.bool true) w15)
  (J w15))) ∧
  AllJ 8 (∀ (wj : World), J wj →
  ∀ (k21 : Nat) (w21 : World), k21 = wj.heap.size → w21 = wj.alloc (.cells #[] T_string) →
  ∃ I : Nat → FP [.one (.slice), .one (.int .i64)],
  (∃ m : Nat, I m (some ⟨k21, 0, none⟩) 0 0 (IntKind.i64.wrap (((l0 : Nat) : Int) - (1 : Int))) w21) ∧
  ∀ (m : Nat) (a5 : Option Addr) (l5 c5 : Nat) (n6 : Int), AllJ 15 (∀ (wl : World), I m a5 l5 c5 n6 wl →
  BCase (decide (n6 ≥ (0 : Int)))
  (((0 ≤ n6 ∧ n6 < ((l0 : Nat) : Int)) ∧ Option.isSome a0 = true) ∧
  ((0 ≤ n6 ∧ n6 < ((l0 : Nat) : Int)) ∧ Option.isSome a0 = true) ∧
  (∃ (s33 : List UInt8), (Instr.loadAt T_string (.pointer (elemAddr a0 n6 1))).run Try.prog (World.drew wl) = .ok (.string (mkS s33)) (World.drew wl) ∧
  ∃ (s37 : List UInt8), (Instr.loadAt T_string (.pointer (elemAddr a0 n6 1))).run Try.prog (World.drew wl) = .ok (.string (mkS s37)) (World.drew wl) ∧
  ∀ (k38 : Nat) (w38 : World), k38 = (World.drew wl).heap.size → w38 = (World.drew wl).alloc (.cells #[.string (mkS s33), .string (mkS s37)] T_string) →
  ∃ (w39 : World) (a39 : Option Addr) (l39 c39 : Nat), (Builtin.append_ #[T_sl_string, T_sl_string] T_sl_string #[.slice a5 l5 c5, .slice (some ⟨k38, 0, none⟩) 2 2]).run Try.prog w38 = .ok (.slice a39 l39 c39) w39 ∧
  ∃ m' : Nat, m' < m ∧ I m' a39 l39 c39 (IntKind.i64.wrap (n6 - (1 : Int))) w39) ∧
  ∃ (s37_1 : List UInt8), (Instr.loadAt T_string (.pointer (elemAddr a0 n6 1))).run Try.prog (World.drew wl) = .ok (.string (mkS s37_1)) (World.drew wl) ∧
  ∃ (s33_1 : List UInt8), (Instr.loadAt T_string (.pointer (elemAddr a0 n6 1))).run Try.prog (World.drew wl) = .ok (.string (mkS s33_1)) (World.drew wl) ∧
  ∀ (k38_1 : Nat) (w38_1 : World), k38_1 = (World.drew wl).heap.size → w38_1 = (World.drew wl).alloc (.cells #[.string (mkS s33_1), .string (mkS s37_1)] T_string) →
  ∃ (w39_1 : World) (a39_1 : Option Addr) (l39_1 c39_1 : Nat), (Builtin.append_ #[T_sl_string, T_sl_string] T_sl_string #[.slice a5 l5 c5, .slice (some ⟨k38_1, 0, none⟩) 2 2]).run Try.prog w38_1 = .ok (.slice a39_1 l39_1 c39_1) w39_1 ∧
  ∃ m' : Nat, m' < m ∧ I m' a39_1 l39_1 c39_1 (IntKind.i64.wrap (n6 - (1 : Int))) w39_1)
  (Calls Try.prog f_symbol_New #[.slice a0 l0 c0] wl fun e41 w41 => ∃ (p41 : Option Addr), e41 = .returned (.pointer p41) ∧
  Calls Try.prog f_symbol_New #[.slice a5 l5 c5] w41 fun e43 w43 => ∃ (p43 : Option Addr), e43 = .returned (.pointer p43) ∧
  ∃ I_1 : Nat → FP [.one (.bool), .one (.int .i64)],
  (∃ m_1 : Nat, I_1 m_1 false (0 : Int) w43) ∧
  ∀ (m_1 : Nat) (b9 : Bool) (n46 : Int), AllJ 43 (∀ (wl_1 : World), I_1 m_1 b9 n46 wl_1 →
  BCase (decide (n46 < ((l0 : Nat) : Int)))
  (((0 ≤ n46 ∧ n46 < ((l0 : Nat) : Int)) ∧ Option.isSome a0 = true) ∧
  ∃ (s49 : List UInt8), (Instr.loadAt T_string (.pointer (elemAddr a0 n46 1))).run Try.prog wl_1 = .ok (.string (mkS s49)) wl_1 ∧
  ∃ J_1 : FP [.one (.bool)],
  (BCase b9
  (J_1 true wl_1)
  (J_1 (s49 == s1) wl_1)) ∧
  ∀ (b9_1 : Bool), AllJ 6 (∀ (wj_1 : World), J_1 b9_1 wj_1 →
  Calls Try.prog f_symbol_Alphabet_Of #[.pointer p41, .string (mkS s49)] wj_1 fun e59 w59 => ∃ (n59 : Int), e59 = .returned (.int .i64 n59) ∧
  Calls Try.prog f_symbol_Alphabet_Text #[.pointer p41, .int .i64 n59] w59 fun e60 w60 => ∃ (s60 : List UInt8), e60 = .returned (.string (mkS s60)) ∧
  BCase (!(s60 == s49))
  (K (.bool false) w60)
  (Calls Try.prog f_symbol_Alphabet_Of #[.pointer p41, .string (mkS s49)] w60 fun e66 w66 => ∃ (n66 : Int), e66 = .returned (.int .i64 n66) ∧
  Calls Try.prog f_symbol_Alphabet_Of #[.pointer p43, .string (mkS s49)] w66 fun e69 w69 => ∃ (n69 : Int), e69 = .returned (.int .i64 n69) ∧
  BCase (n66 != n69)
  (K (.bool false) w69)
  (Calls Try.prog f_symbol_Alphabet_Of #[.pointer p41, .string (mkS s49)] w69 fun e75 w75 => ∃ (n75 : Int), e75 = .returned (.int .i64 n75) ∧
  Calls Try.prog f_symbol_Alphabet_Len #[.pointer p41] w75 fun e77 w77 => ∃ (n77 : Int), e77 = .returned (.int .i64 n77) ∧
  BCase (decide (n75 ≥ (IntKind.i64.wrap (n77 - (1 : Int)))))
  (K (.bool false) w77)
  (Calls Try.prog f_symbol_Alphabet_Fresh #[.pointer p41] w77 fun e83 w83 => ∃ (s83 : List UInt8), e83 = .returned (.string (mkS s83)) ∧
  BCase (s83 == s49)
  (K (.bool false) w83)
  (∃ m'_1 : Nat, m'_1 < m_1 ∧ I_1 m'_1 b9_1 (IntKind.i64.wrap (n46 + (1 : Int))) w83))))))
  (Calls Try.prog f_symbol_Alphabet_Of #[.pointer p41, .string (mkS s1)] wl_1 fun e91 w91 => ∃ (n91 : Int), e91 = .returned (.int .i64 n91) ∧
  Calls Try.prog f_symbol_Alphabet_Len #[.pointer p41] w91 fun e93 w93 => ∃ (n93 : Int), e93 = .returned (.int .i64 n93) ∧
  BCase (b9 == (decide (n91 < (IntKind.i64.wrap (n93 - (1 : Int))))))
  (Calls Try.prog f_symbol_Alphabet_Len #[.pointer p41] w93 fun e99 w99 => ∃ (n99 : Int), e99 = .returned (.int .i64 n99) ∧
  Calls Try.prog f_symbol_Alphabet_Len #[.pointer p43] w99 fun e101 w101 => ∃ (n101 : Int), e101 = .returned (.int .i64 n101) ∧
  BCase (n99 == n101)
  (Calls Try.prog f_symbol_Alphabet_Fresh #[.pointer p41] w101 fun e107 w107 => ∃ (s107 : List UInt8), e107 = .returned (.string (mkS s107)) ∧
  Calls Try.prog f_symbol_Alphabet_Of #[.pointer p41, .string (mkS s107)] w107 fun e108 w108 => ∃ (n108 : Int), e108 = .returned (.int .i64 n108) ∧
  Calls Try.prog f_symbol_Alphabet_Len #[.pointer p41] w108 fun e110 w110 => ∃ (n110 : Int), e110 = .returned (.int .i64 n110) ∧
  BCase (n108 == (IntKind.i64.wrap (n110 - (1 : Int))))
  (Calls Try.prog f_symbol_Alphabet_Text #[.pointer p41, .int .i64 (-1 : Int)] w110 fun e116 w116 => ∃ (s116 : List UInt8), e116 = .returned (.string (mkS s116)) ∧
  BCase (s116 == [])
  (Calls Try.prog f_symbol_Alphabet_Len #[.pointer p41] w116 fun e122 w122 => ∃ (n122 : Int), e122 = .returned (.int .i64 n122) ∧
  Calls Try.prog f_symbol_Alphabet_Text #[.pointer p41, .int .i64 n122] w122 fun e123 w123 => ∃ (s123 : List UInt8), e123 = .returned (.string (mkS s123)) ∧
  K (.bool (s123 == [])) w123)
  (K (.bool false) w116))
  (K (.bool false) w110))
  (K (.bool false) w101))
  (K (.bool false) w93)))))))
theorem run_law14_SymbolBack (a0 : Option Addr) (l0 c0 : Nat) (s1 : List UInt8) {w : World} {K : Value → World → Prop} (h : vc_law14_SymbolBack a0 l0 c0 s1 w K) : Calls Try.prog f_law14_SymbolBack #[.slice a0 l0 c0, .string (mkS s1)] w (Ret K) :=
  calls_E (c := bodyOf Try.f4) (by kernel_rfl) Try.func4 (by kernel_rfl) [(10, []), (24, [(5, .one (.slice)), (6, .one (.int .i64))]), (43, [(9, .one (.bool)), (46, .one (.int .i64))]), (54, [(9, .one (.bool))])] [.slice a0 l0 c0, .string (mkS s1)] (of_decide_eq_true (by kernel_rfl)) (vc_law14_SymbolBack a0 l0 c0 s1 w K) (by kernel_rfl) h

--  cracknel/cracknellaw14.SymbolBytes
def vc_law14_SymbolBytes (s0 : List UInt8) (a1 : Option Addr) (l1 c1 : Nat) (w : World) (K : Value → World → Prop) : Prop :=
  Calls Try.prog f_law14_symbolAlive #[] w fun e13 w13 => ∃ (b13 : Bool), e13 = .returned (.bool b13) ∧
  BCase (!b13)
  (K (.bool false) w13)
  (∃ J : FP [],
  (BCase (decide (((List.length s0 : Nat) : Int) > (500 : Int)))
  (K (.bool true) w13)
  (BCase (decide (((l1 : Nat) : Int) > (500 : Int)))
  (K (.bool true) w13)
  (J w13))) ∧
  AllJ 9 (∀ (wj : World), J wj →
  Calls Try.prog f_symbol_Bytes #[.string (mkS s0)] wj fun e25 w25 => ∃ (a25_0 : Option Addr) (l25_0 c25_0 : Nat) (b25_1 : Bool), e25 = .returned (.tuple #[.slice a25_0 l25_0 c25_0, .bool b25_1]) ∧
  Calls Try.prog f_ref14_Bytes #[.string (mkS s0)] w25 fun e30 w30 => ∃ (a30_0 : Option Addr) (l30_0 c30_0 : Nat) (b30_1 : Bool), e30 = .returned (.tuple #[.slice a30_0 l30_0 c30_0, .bool b30_1]) ∧
  Calls Try.prog f_symbol_FromBytes #[.slice a1 l1 c1] w30 fun e35 w35 => ∃ (s35_0 : List UInt8) (b35_1 : Bool), e35 = .returned (.tuple #[.string (mkS s35_0), .bool b35_1]) ∧
  Calls Try.prog f_ref14_FromBytes #[.slice a1 l1 c1] w35 fun e40 w40 => ∃ (s40_0 : List UInt8) (b40_1 : Bool), e40 = .returned (.tuple #[.string (mkS s40_0), .bool b40_1]) ∧
  Calls Try.prog f_ref14_Same #[.slice a25_0 l25_0 c25_0, .slice a30_0 l30_0 c30_0] w40 fun e45 w45 => ∃ (b45 : Bool), e45 = .returned (.bool b45) ∧
  BCase b45
  (BCase (b25_1 == b30_1)
  (BCase (s35_0 == s40_0)
  (K (.bool (cond (b35_1 == b40_1) true false)) w45)
  (K (.bool false) w45))
  (K (.bool false) w45))
  (K (.bool false) w45)))
theorem run_law14_SymbolBytes (s0 : List UInt8) (a1 : Option Addr) (l1 c1 : Nat) {w : World} {K : Value → World → Prop} (h : vc_law14_SymbolBytes s0 a1 l1 c1 w K) : Calls Try.prog f_law14_SymbolBytes #[.string (mkS s0), .slice a1 l1 c1] w (Ret K) :=
  calls_E (c := bodyOf Try.f5) (by kernel_rfl) Try.func5 (by kernel_rfl) [(10, [])] [.string (mkS s0), .slice a1 l1 c1] (of_decide_eq_true (by kernel_rfl)) (vc_law14_SymbolBytes s0 a1 l1 c1 w K) (by kernel_rfl) h

--  cracknel/cracknellaw14.SymbolWords
def vc_law14_SymbolWords (s0 : List UInt8) (a1 : Option Addr) (l1 c1 : Nat) (w : World) (K : Value → World → Prop) : Prop :=
  Calls Try.prog f_law14_symbolAlive #[] w fun e13 w13 => ∃ (b13 : Bool), e13 = .returned (.bool b13) ∧
  BCase (!b13)
  (K (.bool false) w13)
  (∃ J : FP [],
  (BCase (decide (((List.length s0 : Nat) : Int) > (500 : Int)))
  (K (.bool true) w13)
  (BCase (decide (((l1 : Nat) : Int) > (500 : Int)))
  (K (.bool true) w13)
  (J w13))) ∧
  AllJ 9 (∀ (wj : World), J wj →
  ∃ J_1 : FP [],
  (Calls Try.prog f_symbol_Bytes #[.string (mkS s0)] wj fun e25 w25 => ∃ (a25_0 : Option Addr) (l25_0 c25_0 : Nat) (b25_1 : Bool), e25 = .returned (.tuple #[.slice a25_0 l25_0 c25_0, .bool b25_1]) ∧
  BCase b25_1
  (Calls Try.prog f_symbol_FromBytes #[.slice a25_0 l25_0 c25_0] w25 fun e31 w31 => ∃ (s31_0 : List UInt8) (b31_1 : Bool), e31 = .returned (.tuple #[.string (mkS s31_0), .bool b31_1]) ∧
  BCase (!b31_1)
  (K (.bool false) w31)
  (BCase (!(s31_0 == s0))
  (K (.bool false) w31)
  (BCase (((l25_0 : Nat) : Int) != ((List.length s0 : Nat) : Int))
  (K (.bool false) w31)
  (J_1 w31))))
  (J_1 w25)) ∧
  AllJ 30 (∀ (wj_1 : World), J_1 wj_1 →
  Calls Try.prog f_symbol_FromBytes #[.slice a1 l1 c1] wj_1 fun e50 w50 => ∃ (s50_0 : List UInt8) (b50_1 : Bool), e50 = .returned (.tuple #[.string (mkS s50_0), .bool b50_1]) ∧
  BCase (!b50_1)
  (K (.bool (s50_0 == [])) w50)
  (Calls Try.prog f_symbol_Bytes #[.string (mkS s50_0)] w50 fun e59 w59 => ∃ (a59_0 : Option Addr) (l59_0 c59_0 : Nat) (b59_1 : Bool), e59 = .returned (.tuple #[.slice a59_0 l59_0 c59_0, .bool b59_1]) ∧
  BCase b59_1
  (Calls Try.prog f_ref14_Same #[.slice a59_0 l59_0 c59_0, .slice a1 l1 c1] w59 fun e66 w66 => ∃ (b66 : Bool), e66 = .returned (.bool b66) ∧
  K (.bool b66) w66)
  (K (.bool false) w59)))))
theorem run_law14_SymbolWords (s0 : List UInt8) (a1 : Option Addr) (l1 c1 : Nat) {w : World} {K : Value → World → Prop} (h : vc_law14_SymbolWords s0 a1 l1 c1 w K) : Calls Try.prog f_law14_SymbolWords #[.string (mkS s0), .slice a1 l1 c1] w (Ret K) :=
  calls_E (c := bodyOf Try.f6) (by kernel_rfl) Try.func6 (by kernel_rfl) [(10, []), (18, [])] [.string (mkS s0), .slice a1 l1 c1] (of_decide_eq_true (by kernel_rfl)) (vc_law14_SymbolWords s0 a1 l1 c1 w K) (by kernel_rfl) h

--  cracknel/cracknellaw14.symbolAlive
def vc_law14_symbolAlive  (w : World) (K : Value → World → Prop) : Prop :=
  ∀ (k4 : Nat) (w4 : World), k4 = w.heap.size → w4 = w.alloc (.cells #[.string (mkS [98]), .string (mkS [97]), .string (mkS [98])] T_string) →
  Calls Try.prog f_symbol_New #[.slice (some ⟨k4, 0, none⟩) 3 3] w4 fun e5 w5 => ∃ (p5 : Option Addr), e5 = .returned (.pointer p5) ∧
  Calls Try.prog f_symbol_Bytes #[.string (mkS [47])] w5 fun e7 w7 => ∃ (a7_0 : Option Addr) (l7_0 c7_0 : Nat) (b7_1 : Bool), e7 = .returned (.tuple #[.slice a7_0 l7_0 c7_0, .bool b7_1]) ∧
  BCase (!Option.isNone p5)
  (Calls Try.prog f_symbol_Alphabet_Of #[.pointer p5, .string (mkS [97])] w7 fun e14 w14 => ∃ (n14 : Int), e14 = .returned (.int .i64 n14) ∧
  BCase (n14 == (0 : Int))
  (Calls Try.prog f_symbol_Alphabet_Of #[.pointer p5, .string (mkS [98])] w14 fun e19 w19 => ∃ (n19 : Int), e19 = .returned (.int .i64 n19) ∧
  BCase (n19 == (1 : Int))
  (Calls Try.prog f_symbol_Alphabet_Of #[.pointer p5, .string (mkS [120])] w19 fun e24 w24 => ∃ (n24 : Int), e24 = .returned (.int .i64 n24) ∧
  BCase (n24 == (2 : Int))
  (Calls Try.prog f_symbol_Alphabet_Len #[.pointer p5] w24 fun e29 w29 => ∃ (n29 : Int), e29 = .returned (.int .i64 n29) ∧
  BCase (n29 == (3 : Int))
  (Calls Try.prog f_symbol_Alphabet_Fresh #[.pointer p5] w29 fun e34 w34 => ∃ (s34 : List UInt8), e34 = .returned (.string (mkS s34)) ∧
  BCase (s34 == [99])
  (BCase b7_1
  (BCase (((l7_0 : Nat) : Int) == (1 : Int))
  (((0 ≤ (0 : Int) ∧ (0 : Int) < ((l7_0 : Nat) : Int)) ∧ Option.isSome a7_0 = true) ∧
  ∃ (n48 : Int), (Instr.loadAt T_int (.pointer (elemAddr a7_0 (0 : Int) 1))).run Try.prog w34 = .ok (.int .i64 n48) w34 ∧
  K (.bool (n48 == (13 : Int))) w34)
  (K (.bool false) w34))
  (K (.bool false) w34))
  (K (.bool false) w34))
  (K (.bool false) w29))
  (K (.bool false) w24))
  (K (.bool false) w19))
  (K (.bool false) w14))
  (K (.bool false) w7)
theorem run_law14_symbolAlive  {w : World} {K : Value → World → Prop} (h : vc_law14_symbolAlive  w K) : Calls Try.prog f_law14_symbolAlive #[] w (Ret K) :=
  calls_E (c := bodyOf Try.f7) (by kernel_rfl) Try.func7 (by kernel_rfl) [] [] (of_decide_eq_true (by kernel_rfl)) (vc_law14_symbolAlive  w K) (by kernel_rfl) h

--  cracknel/cracknellaw14.great
def vc_law14_great (a0 : Option Addr) (l0 c0 : Nat) (w : World) (K : Value → World → Prop) : Prop :=
  ∃ I : Nat → FP [.one (.int .i64)],
  (∃ m : Nat, I m (0 : Int) w) ∧
  ∀ (m : Nat) (n7 : Int), AllJ 9 (∀ (wl : World), I m n7 wl →
  BCase (decide (n7 < ((l0 : Nat) : Int)))
  (((0 ≤ n7 ∧ n7 < ((l0 : Nat) : Int)) ∧ Option.isSome a0 = true) ∧
  ∃ (s10 : List UInt8), (Instr.loadAt T_string (.pointer (elemAddr a0 n7 1))).run Try.prog wl = .ok (.string (mkS s10)) wl ∧
  BCase (decide (((List.length s10 : Nat) : Int) > (100 : Int)))
  (K (.bool true) wl)
  (∃ m' : Nat, m' < m ∧ I m' (IntKind.i64.wrap (n7 + (1 : Int))) wl))
  (K (.bool (decide (((l0 : Nat) : Int) > (60 : Int)))) wl))
theorem run_law14_great (a0 : Option Addr) (l0 c0 : Nat) {w : World} {K : Value → World → Prop} (h : vc_law14_great a0 l0 c0 w K) : Calls Try.prog f_law14_great #[.slice a0 l0 c0] w (Ret K) :=
  calls_E (c := bodyOf Try.f8) (by kernel_rfl) Try.func8 (by kernel_rfl) [(6, [(7, .one (.int .i64))])] [.slice a0 l0 c0] (of_decide_eq_true (by kernel_rfl)) (vc_law14_great a0 l0 c0 w K) (by kernel_rfl) h

--  cracknel/symbol.New
def vc_symbol_New (a0 : Option Addr) (l0 c0 : Nat) (w : World) (K : Value → World → Prop) : Prop :=
  Calls Try.prog f_slices_Values_string_string #[.slice a0 l0 c0] w fun e7 w7 => ∃ (v7 : Value), e7 = .returned v7 ∧
  Calls Try.prog f_slices_Sorted_string #[v7] w7 fun e8 w8 => ∃ (a8 : Option Addr) (l8 c8 : Nat), e8 = .returned (.slice a8 l8 c8) ∧
  Calls Try.prog f_slices_Compact_string_string #[.slice a8 l8 c8] w8 fun e9 w9 => ∃ (a9 : Option Addr) (l9 c9 : Nat), e9 = .returned (.slice a9 l9 c9) ∧
  ∀ (k10 : Nat) (w10 : World), k10 = w9.heap.size → w10 = w9.alloc (.map #[] 0) →
  ∀ (k12 : Nat) (w12 : World), k12 = w10.heap.size → w12 = w10.alloc (.cells #[.slice a9 l9 c9, .map (some k10)] T_symbol_Alphabet) →
  (true = true) ∧
  (true = true) ∧
  ∃ (a16 : Option Addr) (l16 c16 : Nat), (Instr.loadAt T_sl_string (.pointer (some ⟨k12, 0, none⟩))).run Try.prog w12 = .ok (.slice a16 l16 c16) w12 ∧
  ∃ I : Nat → FP [.one (.int .i64)],
  (∃ m : Nat, I m (0 : Int) w12) ∧
  ∀ (m : Nat) (n18 : Int), AllJ 13 (∀ (wl : World), I m n18 wl →
  BCase (decide (n18 < ((l16 : Nat) : Int)))
  (((0 ≤ n18 ∧ n18 < ((l16 : Nat) : Int)) ∧ Option.isSome a16 = true) ∧
  ∃ (s22 : List UInt8), (Instr.loadAt T_string (.pointer (elemAddr a16 n18 1))).run Try.prog wl = .ok (.string (mkS s22)) wl ∧
  (true = true) ∧
  (true = true) ∧
  ∃ (m26 : Option Nat), (Instr.loadAt T_map_string_int (.pointer (some ⟨k12, 1, none⟩))).run Try.prog wl = .ok (.map m26) wl ∧
  ∃ (wx : World), (Instr.mapUpdate T_map_string_int (.map m26) (.string (mkS s22)) (.int .i64 n18)).run Try.prog wl = .ok () wx ∧
  ∃ m' : Nat, m' < m ∧ I m' (IntKind.i64.wrap (n18 + (1 : Int))) wx)
  (K (.pointer (some ⟨k12, 0, none⟩)) wl))
theorem run_symbol_New (a0 : Option Addr) (l0 c0 : Nat) {w : World} {K : Value → World → Prop} (h : vc_symbol_New a0 l0 c0 w K) : Calls Try.prog f_symbol_New #[.slice a0 l0 c0] w (Ret K) :=
  calls_E (c := bodyOf Try.f9) (by kernel_rfl) Try.func9 (by kernel_rfl) [(8, [(18, .one (.int .i64))])] [.slice a0 l0 c0] (of_decide_eq_true (by kernel_rfl)) (vc_symbol_New a0 l0 c0 w K) (by kernel_rfl) h

--  (*cracknel/symbol.Alphabet).Len
def vc_symbol_Alphabet_Len (p0 : Option Addr) (w : World) (K : Value → World → Prop) : Prop :=
  (Option.isSome p0 = true) ∧
  (Option.isSome p0 = true) ∧
  ∃ (a6 : Option Addr) (l6 c6 : Nat), (Instr.loadAt T_sl_string (.pointer (Option.map (fun x => x.add 0) p0))).run Try.prog w = .ok (.slice a6 l6 c6) w ∧
  K (.int .i64 (IntKind.i64.wrap (((l6 : Nat) : Int) + (1 : Int)))) w
theorem run_symbol_Alphabet_Len (p0 : Option Addr) {w : World} {K : Value → World → Prop} (h : vc_symbol_Alphabet_Len p0 w K) : Calls Try.prog f_symbol_Alphabet_Len #[.pointer p0] w (Ret K) :=
  calls_E (c := bodyOf Try.f10) (by kernel_rfl) Try.func10 (by kernel_rfl) [] [.pointer p0] (of_decide_eq_true (by kernel_rfl)) (vc_symbol_Alphabet_Len p0 w K) (by kernel_rfl) h

--  cracknel/cracknelref14.Texts
def vc_ref14_Texts (a0 : Option Addr) (l0 c0 : Nat) (w : World) (K : Value → World → Prop) : Prop :=
  ∀ (k6 : Nat) (w6 : World), k6 = w.heap.size → w6 = w.alloc (.cells #[] T_string) →
  ∃ I : Nat → FP [.one (.slice), .one (.int .i64)],
  (∃ m : Nat, I m (some ⟨k6, 0, none⟩) 0 0 (0 : Int) w6) ∧
  ∀ (m : Nat) (a3 : Option Addr) (l3 c3 : Nat) (n9 : Int), AllJ 13 (∀ (wl : World), I m a3 l3 c3 n9 wl →
  BCase (decide (n9 < ((l0 : Nat) : Int)))
  (((0 ≤ n9 ∧ n9 < ((l0 : Nat) : Int)) ∧ Option.isSome a0 = true) ∧
  ∃ (s12 : List UInt8), (Instr.loadAt T_string (.pointer (elemAddr a0 n9 1))).run Try.prog wl = .ok (.string (mkS s12)) wl ∧
  Calls Try.prog f_ref14_has #[.slice a3 l3 c3, .string (mkS s12)] wl fun e15 w15 => ∃ (b15 : Bool), e15 = .returned (.bool b15) ∧
  BCase (!b15)
  (∀ (k19 : Nat) (w19 : World), k19 = w15.heap.size → w19 = w15.alloc (.cells #[.string (mkS s12)] T_string) →
  ∃ (w20 : World) (a20 : Option Addr) (l20 c20 : Nat), (Builtin.append_ #[T_sl_string, T_sl_string] T_sl_string #[.slice a3 l3 c3, .slice (some ⟨k19, 0, none⟩) 1 1]).run Try.prog w19 = .ok (.slice a20 l20 c20) w20 ∧
  ∃ m' : Nat, m' < m ∧ I m' a20 l20 c20 (IntKind.i64.wrap (n9 + (1 : Int))) w20)
  (∃ m' : Nat, m' < m ∧ I m' a3 l3 c3 (IntKind.i64.wrap (n9 + (1 : Int))) w15))
  (K (.slice a3 l3 c3) wl))
theorem run_ref14_Texts (a0 : Option Addr) (l0 c0 : Nat) {w : World} {K : Value → World → Prop} (h : vc_ref14_Texts a0 l0 c0 w K) : Calls Try.prog f_ref14_Texts #[.slice a0 l0 c0] w (Ret K) :=
  calls_E (c := bodyOf Try.f11) (by kernel_rfl) Try.func11 (by kernel_rfl) [(8, [(3, .one (.slice)), (9, .one (.int .i64))])] [.slice a0 l0 c0] (of_decide_eq_true (by kernel_rfl)) (vc_ref14_Texts a0 l0 c0 w K) (by kernel_rfl) h

--  (*cracknel/symbol.Alphabet).Of
def vc_symbol_Alphabet_Of (p0 : Option Addr) (s1 : List UInt8) (w : World) (K : Value → World → Prop) : Prop :=
  (Option.isSome p0 = true) ∧
  (Option.isSome p0 = true) ∧
  ∃ (m11 : Option Nat), (Instr.loadAt T_map_string_int (.pointer (Option.map (fun x => x.add 1) p0))).run Try.prog w = .ok (.map m11) w ∧
  ∃ (n13_0 : Int) (b13_1 : Bool), (Instr.lookup T_map_string_int (.map m11) (.string (mkS s1)) true).run Try.prog w = .ok (.tuple #[.int .i64 n13_0, .bool b13_1]) w ∧
  BCase b13_1
  (K (.int .i64 n13_0) w)
  ((Option.isSome p0 = true) ∧
  (Option.isSome p0 = true) ∧
  ∃ (a21 : Option Addr) (l21 c21 : Nat), (Instr.loadAt T_sl_string (.pointer (Option.map (fun x => x.add 0) p0))).run Try.prog w = .ok (.slice a21 l21 c21) w ∧
  K (.int .i64 ((l21 : Nat) : Int)) w)
theorem run_symbol_Alphabet_Of (p0 : Option Addr) (s1 : List UInt8) {w : World} {K : Value → World → Prop} (h : vc_symbol_Alphabet_Of p0 s1 w K) : Calls Try.prog f_symbol_Alphabet_Of #[.pointer p0, .string (mkS s1)] w (Ret K) :=
  calls_E (c := bodyOf Try.f12) (by kernel_rfl) Try.func12 (by kernel_rfl) [] [.pointer p0, .string (mkS s1)] (of_decide_eq_true (by kernel_rfl)) (vc_symbol_Alphabet_Of p0 s1 w K) (by kernel_rfl) h

--  cracknel/cracknelref14.Of
def vc_ref14_Of (a0 : Option Addr) (l0 c0 : Nat) (s1 : List UInt8) (w : World) (K : Value → World → Prop) : Prop :=
  Calls Try.prog f_ref14_Texts #[.slice a0 l0 c0] w fun e10 w10 => ∃ (a10 : Option Addr) (l10 c10 : Nat), e10 = .returned (.slice a10 l10 c10) ∧
  Calls Try.prog f_ref14_has #[.slice a10 l10 c10, .string (mkS s1)] w10 fun e13 w13 => ∃ (b13 : Bool), e13 = .returned (.bool b13) ∧
  BCase (!b13)
  (K (.int .i64 ((l10 : Nat) : Int)) w13)
  (∃ I : Nat → FP [.one (.int .i64), .one (.int .i64)],
  (∃ m : Nat, I m (0 : Int) (0 : Int) w13) ∧
  ∀ (m : Nat) (n6 : Int) (n19 : Int), AllJ 10 (∀ (wl : World), I m n6 n19 wl →
  BCase (decide (n19 < ((l10 : Nat) : Int)))
  (((0 ≤ n19 ∧ n19 < ((l10 : Nat) : Int)) ∧ Option.isSome a10 = true) ∧
  ∃ (s22 : List UInt8), (Instr.loadAt T_string (.pointer (elemAddr a10 n19 1))).run Try.prog wl = .ok (.string (mkS s22)) wl ∧
  Calls Try.prog f_ref14_less #[.string (mkS s22), .string (mkS s1)] wl fun e25 w25 => ∃ (b25 : Bool), e25 = .returned (.bool b25) ∧
  BCase b25
  (∃ m' : Nat, m' < m ∧ I m' (IntKind.i64.wrap (n6 + (1 : Int))) (IntKind.i64.wrap (n19 + (1 : Int))) w25)
  (∃ m' : Nat, m' < m ∧ I m' n6 (IntKind.i64.wrap (n19 + (1 : Int))) w25))
  (K (.int .i64 n6) wl)))
theorem run_ref14_Of (a0 : Option Addr) (l0 c0 : Nat) (s1 : List UInt8) {w : World} {K : Value → World → Prop} (h : vc_ref14_Of a0 l0 c0 s1 w K) : Calls Try.prog f_ref14_Of #[.slice a0 l0 c0, .string (mkS s1)] w (Ret K) :=
  calls_E (c := bodyOf Try.f13) (by kernel_rfl) Try.func13 (by kernel_rfl) [(18, [(6, .one (.int .i64)), (19, .one (.int .i64))])] [.slice a0 l0 c0, .string (mkS s1)] (of_decide_eq_true (by kernel_rfl)) (vc_ref14_Of a0 l0 c0 s1 w K) (by kernel_rfl) h

--  (*cracknel/symbol.Alphabet).Text
def vc_symbol_Alphabet_Text (p0 : Option Addr) (n1 : Int) (w : World) (K : Value → World → Prop) : Prop :=
  ∃ J : FP [],
  (∃ J_1 : FP [.one (.bool)],
  (BCase (decide (n1 < (0 : Int)))
  (J_1 true w)
  ((Option.isSome p0 = true) ∧
  (Option.isSome p0 = true) ∧
  ∃ (a13 : Option Addr) (l13 c13 : Nat), (Instr.loadAt T_sl_string (.pointer (Option.map (fun x => x.add 0) p0))).run Try.prog w = .ok (.slice a13 l13 c13) w ∧
  J_1 (decide (n1 > ((l13 : Nat) : Int))) w)) ∧
  ∀ (b5 : Bool), AllJ 11 (∀ (wj : World), J_1 b5 wj →
  BCase b5
  (K (.string (mkS [])) wj)
  ((Option.isSome p0 = true) ∧
  (Option.isSome p0 = true) ∧
  ∃ (a22 : Option Addr) (l22 c22 : Nat), (Instr.loadAt T_sl_string (.pointer (Option.map (fun x => x.add 0) p0))).run Try.prog wj = .ok (.slice a22 l22 c22) wj ∧
  BCase (n1 == ((l22 : Nat) : Int))
  (Calls Try.prog f_symbol_Alphabet_Fresh #[.pointer p0] wj fun e26 w26 => ∃ (s26 : List UInt8), e26 = .returned (.string (mkS s26)) ∧
  K (.string (mkS s26)) w26)
  (J wj)))) ∧
  AllJ 23 (∀ (wj_1 : World), J wj_1 →
  (Option.isSome p0 = true) ∧
  (Option.isSome p0 = true) ∧
  ∃ (a30 : Option Addr) (l30 c30 : Nat), (Instr.loadAt T_sl_string (.pointer (Option.map (fun x => x.add 0) p0))).run Try.prog wj_1 = .ok (.slice a30 l30 c30) wj_1 ∧
  ((0 ≤ n1 ∧ n1 < ((l30 : Nat) : Int)) ∧ Option.isSome a30 = true) ∧
  ∃ (s33 : List UInt8), (Instr.loadAt T_string (.pointer (elemAddr a30 n1 1))).run Try.prog wj_1 = .ok (.string (mkS s33)) wj_1 ∧
  K (.string (mkS s33)) wj_1)
theorem run_symbol_Alphabet_Text (p0 : Option Addr) (n1 : Int) {w : World} {K : Value → World → Prop} (h : vc_symbol_Alphabet_Text p0 n1 w K) : Calls Try.prog f_symbol_Alphabet_Text #[.pointer p0, .int .i64 n1] w (Ret K) :=
  calls_E (c := bodyOf Try.f14) (by kernel_rfl) Try.func14 (by kernel_rfl) [(2, []), (4, [(5, .one (.bool))])] [.pointer p0, .int .i64 n1] (of_decide_eq_true (by kernel_rfl)) (vc_symbol_Alphabet_Text p0 n1 w K) (by kernel_rfl) h

--  cracknel/cracknelref14.Text
def vc_ref14_Text (a0 : Option Addr) (l0 c0 : Nat) (n1 : Int) (w : World) (K : Value → World → Prop) : Prop :=
  Calls Try.prog f_ref14_Texts #[.slice a0 l0 c0] w fun e9 w9 => ∃ (a9 : Option Addr) (l9 c9 : Nat), e9 = .returned (.slice a9 l9 c9) ∧
  BCase (n1 == ((l9 : Nat) : Int))
  (Calls Try.prog f_ref14_Fresh #[.slice a0 l0 c0] w9 fun e15 w15 => ∃ (s15 : List UInt8), e15 = .returned (.string (mkS s15)) ∧
  K (.string (mkS s15)) w15)
  (∃ I : Nat → FP [.one (.int .i64)],
  (∃ m : Nat, I m (0 : Int) w9) ∧
  ∀ (m : Nat) (n18 : Int), AllJ 12 (∀ (wl : World), I m n18 wl →
  BCase (decide (n18 < ((l9 : Nat) : Int)))
  (((0 ≤ n18 ∧ n18 < ((l9 : Nat) : Int)) ∧ Option.isSome a9 = true) ∧
  ∃ (s21 : List UInt8), (Instr.loadAt T_string (.pointer (elemAddr a9 n18 1))).run Try.prog wl = .ok (.string (mkS s21)) wl ∧
  Calls Try.prog f_ref14_Of #[.slice a0 l0 c0, .string (mkS s21)] wl fun e24 w24 => ∃ (n24 : Int), e24 = .returned (.int .i64 n24) ∧
  BCase (n24 == n1)
  (K (.string (mkS s21)) w24)
  (∃ m' : Nat, m' < m ∧ I m' (IntKind.i64.wrap (n18 + (1 : Int))) w24))
  (K (.string (mkS [])) wl)))
theorem run_ref14_Text (a0 : Option Addr) (l0 c0 : Nat) (n1 : Int) {w : World} {K : Value → World → Prop} (h : vc_ref14_Text a0 l0 c0 n1 w K) : Calls Try.prog f_ref14_Text #[.slice a0 l0 c0, .int .i64 n1] w (Ret K) :=
  calls_E (c := bodyOf Try.f15) (by kernel_rfl) Try.func15 (by kernel_rfl) [(16, [(18, .one (.int .i64))])] [.slice a0 l0 c0, .int .i64 n1] (of_decide_eq_true (by kernel_rfl)) (vc_ref14_Text a0 l0 c0 n1 w K) (by kernel_rfl) h

--  (*cracknel/symbol.Alphabet).Fresh
def vc_symbol_Alphabet_Fresh (p0 : Option Addr) (w : World) (K : Value → World → Prop) : Prop :=
  ∃ I : Nat → FP [.one (.int .i64)],
  (∃ m : Nat, I m (1 : Int) w) ∧
  ∀ (m : Nat) (n3 : Int), AllJ 19 (∀ (wl : World), I m n3 wl →
  (Option.isSome p0 = true) ∧
  (Option.isSome p0 = true) ∧
  ∃ (m12 : Option Nat), (∀ u12 : World, Below wl.heap.size wl u12 → (Instr.loadAt T_map_string_int (.pointer (Option.map (fun x => x.add 1) p0))).run Try.prog u12 = .ok (.map m12) u12) ∧
  ∃ (s14 : List UInt8), (∀ u14 : World, Below wl.heap.size wl u14 → Calls Try.prog f_symbol_name #[.int .i64 n3] u14 fun e14 w14 => e14 = .returned (.string (mkS s14)) ∧ Below wl.heap.size u14 w14) ∧
  ∃ (n15_0 : Int) (b15_1 : Bool), (∀ u15 : World, Below wl.heap.size wl u15 → (Instr.lookup T_map_string_int (.map m12) (.string (mkS s14)) true).run Try.prog u15 = .ok (.tuple #[.int .i64 n15_0, .bool b15_1]) u15) ∧
  ∀ wq : World, Below wl.heap.size wl wq →
  BCase (!b15_1)
  (Calls Try.prog f_symbol_name #[.int .i64 n3] wq fun e21 w21 => ∃ (s21 : List UInt8), e21 = .returned (.string (mkS s21)) ∧
  K (.string (mkS s21)) w21)
  (∃ m' : Nat, m' < m ∧ I m' (IntKind.i64.wrap (n3 + (1 : Int))) wq))
theorem run_symbol_Alphabet_Fresh (p0 : Option Addr) {w : World} {K : Value → World → Prop} (h : vc_symbol_Alphabet_Fresh p0 w K) : Calls Try.prog f_symbol_Alphabet_Fresh #[.pointer p0] w (Ret K) :=
  calls_E (c := bodyOf Try.f16) (by kernel_rfl) Try.func16 (by kernel_rfl) [(5, [(3, .one (.int .i64))])] [.pointer p0] (of_decide_eq_true (by kernel_rfl)) (vc_symbol_Alphabet_Fresh p0 w K) (by kernel_rfl) h

--  cracknel/cracknelref14.Fresh
def vc_ref14_Fresh (a0 : Option Addr) (l0 c0 : Nat) (w : World) (K : Value → World → Prop) : Prop :=
  ∃ I : Nat → FP [.one (.str), .one (.int .i64)],
  (∃ m : Nat, I m [97] (0 : Int) w) ∧
  ∀ (m : Nat) (s3 : List UInt8) (n4 : Int), AllJ 13 (∀ (wl : World), I m s3 n4 wl →
  ∃ J : FP [],
  (BCase (decide (n4 ≤ ((l0 : Nat) : Int)))
  (Calls Try.prog f_ref14_has #[.slice a0 l0 c0, .string (mkS s3)] wl fun e12 w12 => ∃ (b12 : Bool), e12 = .returned (.bool b12) ∧
  BCase b12
  (J w12)
  (K (.string (mkS s3)) w12))
  (K (.string (mkS s3)) wl)) ∧
  AllJ 9 (∀ (wj : World), J wj →
  Calls Try.prog f_ref14_next #[.string (mkS s3)] wj fun e17 w17 => ∃ (s17 : List UInt8), e17 = .returned (.string (mkS s17)) ∧
  ∃ m' : Nat, m' < m ∧ I m' s17 (IntKind.i64.wrap (n4 + (1 : Int))) w17))
theorem run_ref14_Fresh (a0 : Option Addr) (l0 c0 : Nat) {w : World} {K : Value → World → Prop} (h : vc_ref14_Fresh a0 l0 c0 w K) : Calls Try.prog f_ref14_Fresh #[.slice a0 l0 c0] w (Ret K) :=
  calls_E (c := bodyOf Try.f17) (by kernel_rfl) Try.func17 (by kernel_rfl) [(8, [(3, .one (.str)), (4, .one (.int .i64))]), (9, [])] [.slice a0 l0 c0] (of_decide_eq_true (by kernel_rfl)) (vc_ref14_Fresh a0 l0 c0 w K) (by kernel_rfl) h

--  cracknel/symbol.Bytes
def vc_symbol_Bytes (s0 : List UInt8) (w : World) (K : Value → World → Prop) : Prop :=
  Calls Try.prog f_symbol_bytes #[] w fun e9 w9 => ∃ (s9 : List UInt8), e9 = .returned (.string (mkS s9)) ∧
  ∃ (w11 : World) (a11 : Option Addr) (l11 c11 : Nat), (convert T_string T_sl_uint8 (.string (mkS s0))).run Try.prog w9 = .ok (.slice a11 l11 c11) w11 ∧
  ∃ I : Nat → FP [.one (.slice), .one (.int .i64)],
  (∃ m : Nat, I m none 0 0 (0 : Int) w11) ∧
  ∀ (m : Nat) (a5 : Option Addr) (l5 c5 : Nat) (n13 : Int), AllJ 17 (∀ (wl : World), I m a5 l5 c5 n13 wl →
  BCase (decide (n13 < ((l11 : Nat) : Int)))
  (((0 ≤ n13 ∧ n13 < ((l11 : Nat) : Int)) ∧ Option.isSome a11 = true) ∧
  ∃ (n16 : Int), (Instr.loadAt T_uint8 (.pointer (elemAddr a11 n13 1))).run Try.prog wl = .ok (.int .u8 n16) wl ∧
  Calls Try.prog f_strings_IndexByte #[.string (mkS s9), .int .u8 n16] wl fun e19 w19 => ∃ (n19 : Int), e19 = .returned (.int .i64 n19) ∧
  BCase (decide (n19 < (0 : Int)))
  (K (.tuple #[.slice none 0 0, .bool false]) w19)
  (∀ (k24 : Nat) (w24 : World), k24 = w19.heap.size → w24 = w19.alloc (.cells #[.int .i64 n19] T_int) →
  ∃ (w25 : World) (a25 : Option Addr) (l25 c25 : Nat), (Builtin.append_ #[T_sl_int, T_sl_int] T_sl_int #[.slice a5 l5 c5, .slice (some ⟨k24, 0, none⟩) 1 1]).run Try.prog w24 = .ok (.slice a25 l25 c25) w25 ∧
  ∃ m' : Nat, m' < m ∧ I m' a25 l25 c25 (IntKind.i64.wrap (n13 + (1 : Int))) w25))
  (K (.tuple #[.slice a5 l5 c5, .bool true]) wl))
theorem run_symbol_Bytes (s0 : List UInt8) {w : World} {K : Value → World → Prop} (h : vc_symbol_Bytes s0 w K) : Calls Try.prog f_symbol_Bytes #[.string (mkS s0)] w (Ret K) :=
  calls_E (c := bodyOf Try.f18) (by kernel_rfl) Try.func18 (by kernel_rfl) [(10, [(5, .one (.slice)), (13, .one (.int .i64))])] [.string (mkS s0)] (of_decide_eq_true (by kernel_rfl)) (vc_symbol_Bytes s0 w K) (by kernel_rfl) h

--  cracknel/cracknelref14.Bytes
def vc_ref14_Bytes (s0 : List UInt8) (w : World) (K : Value → World → Prop) : Prop :=
  ∀ (k7 : Nat) (w7 : World), k7 = w.heap.size → w7 = w.alloc (.cells #[] T_int) →
  ∃ I : Nat → FP [.one (.slice), .one (.int .i64)],
  (∃ m : Nat, I m (some ⟨k7, 0, none⟩) 0 0 (0 : Int) w7) ∧
  ∀ (m : Nat) (a4 : Option Addr) (l4 c4 : Nat) (n5 : Int), AllJ 19 (∀ (wl : World), I m a4 l4 c4 n5 wl →
  BCase (decide (n5 < ((List.length s0 : Nat) : Int)))
  (((0 ≤ n5 ∧ n5 < ((List.length s0 : Nat) : Int))) ∧
  Calls Try.prog f_ref14_Byte #[.int .u8 (byteAt s0 n5)] wl fun e17 w17 => ∃ (n17 : Int), e17 = .returned (.int .i64 n17) ∧
  BCase (decide (n17 < (0 : Int)))
  (K (.tuple #[.slice none 0 0, .bool false]) w17)
  (∀ (k22 : Nat) (w22 : World), k22 = w17.heap.size → w22 = w17.alloc (.cells #[.int .i64 n17] T_int) →
  ∃ (w23 : World) (a23 : Option Addr) (l23 c23 : Nat), (Builtin.append_ #[T_sl_int, T_sl_int] T_sl_int #[.slice a4 l4 c4, .slice (some ⟨k22, 0, none⟩) 1 1]).run Try.prog w22 = .ok (.slice a23 l23 c23) w23 ∧
  ∃ m' : Nat, m' < m ∧ I m' a23 l23 c23 (IntKind.i64.wrap (n5 + (1 : Int))) w23))
  (K (.tuple #[.slice a4 l4 c4, .bool true]) wl))
theorem run_ref14_Bytes (s0 : List UInt8) {w : World} {K : Value → World → Prop} (h : vc_ref14_Bytes s0 w K) : Calls Try.prog f_ref14_Bytes #[.string (mkS s0)] w (Ret K) :=
  calls_E (c := bodyOf Try.f19) (by kernel_rfl) Try.func19 (by kernel_rfl) [(8, [(4, .one (.slice)), (5, .one (.int .i64))])] [.string (mkS s0)] (of_decide_eq_true (by kernel_rfl)) (vc_ref14_Bytes s0 w K) (by kernel_rfl) h

--  cracknel/symbol.FromBytes
def vc_symbol_FromBytes (a0 : Option Addr) (l0 c0 : Nat) (w : World) (K : Value → World → Prop) : Prop :=
  Calls Try.prog f_symbol_bytes #[] w fun e8 w8 => ∃ (s8 : List UInt8), e8 = .returned (.string (mkS s8)) ∧
  ∃ I : Nat → FP [.one (.slice), .one (.int .i64)],
  (∃ m : Nat, I m none 0 0 (0 : Int) w8) ∧
  ∀ (m : Nat) (a5 : Option Addr) (l5 c5 : Nat) (n11 : Int), AllJ 21 (∀ (wl : World), I m a5 l5 c5 n11 wl →
  BCase (decide (n11 < ((l0 : Nat) : Int)))
  (((0 ≤ n11 ∧ n11 < ((l0 : Nat) : Int)) ∧ Option.isSome a0 = true) ∧
  ∃ (n14 : Int), (Instr.loadAt T_int (.pointer (elemAddr a0 n11 1))).run Try.prog wl = .ok (.int .i64 n14) wl ∧
  ∃ J : FP [],
  (BCase (decide (n14 < (0 : Int)))
  (K (.tuple #[.string (mkS []), .bool false]) wl)
  (BCase (decide (n14 ≥ ((List.length s8 : Nat) : Int)))
  (K (.tuple #[.string (mkS []), .bool false]) wl)
  (J wl))) ∧
  AllJ 10 (∀ (wj : World), J wj →
  ((0 ≤ n14 ∧ n14 < ((List.length s8 : Nat) : Int))) ∧
  ∀ (k27 : Nat) (w27 : World), k27 = wj.heap.size → w27 = wj.alloc (.cells #[.int .u8 (byteAt s8 n14)] T_uint8) →
  ∃ (w28 : World) (a28 : Option Addr) (l28 c28 : Nat), (Builtin.append_ #[T_sl_uint8, T_sl_uint8] T_sl_uint8 #[.slice a5 l5 c5, .slice (some ⟨k27, 0, none⟩) 1 1]).run Try.prog w27 = .ok (.slice a28 l28 c28) w28 ∧
  ∃ m' : Nat, m' < m ∧ I m' a28 l28 c28 (IntKind.i64.wrap (n11 + (1 : Int))) w28))
  (∃ (s31 : List UInt8), (convert T_sl_uint8 T_string (.slice a5 l5 c5)).run Try.prog wl = .ok (.string (mkS s31)) wl ∧
  K (.tuple #[.string (mkS s31), .bool true]) wl))
theorem run_symbol_FromBytes (a0 : Option Addr) (l0 c0 : Nat) {w : World} {K : Value → World → Prop} (h : vc_symbol_FromBytes a0 l0 c0 w K) : Calls Try.prog f_symbol_FromBytes #[.slice a0 l0 c0] w (Ret K) :=
  calls_E (c := bodyOf Try.f20) (by kernel_rfl) Try.func20 (by kernel_rfl) [(10, [(5, .one (.slice)), (11, .one (.int .i64))]), (21, [])] [.slice a0 l0 c0] (of_decide_eq_true (by kernel_rfl)) (vc_symbol_FromBytes a0 l0 c0 w K) (by kernel_rfl) h

--  cracknel/cracknelref14.FromBytes
def vc_ref14_FromBytes (a0 : Option Addr) (l0 c0 : Nat) (w : World) (K : Value → World → Prop) : Prop :=
  ∀ (k8 : Nat) (w8 : World), k8 = w.heap.size → w8 = w.alloc (.cells #[] T_uint8) →
  ∃ I : Nat → FP [.one (.slice), .one (.int .i64)],
  (∃ m : Nat, I m (some ⟨k8, 0, none⟩) 0 0 (0 : Int) w8) ∧
  ∀ (m : Nat) (a4 : Option Addr) (l4 c4 : Nat) (n11 : Int), AllJ 22 (∀ (wl : World), I m a4 l4 c4 n11 wl →
  BCase (decide (n11 < ((l0 : Nat) : Int)))
  (((0 ≤ n11 ∧ n11 < ((l0 : Nat) : Int)) ∧ Option.isSome a0 = true) ∧
  ∃ (n14 : Int), (Instr.loadAt T_int (.pointer (elemAddr a0 n11 1))).run Try.prog wl = .ok (.int .i64 n14) wl ∧
  ∃ I_1 : Nat → FP [.one (.slice), .one (.int .u8)],
  (∃ m_1 : Nat, I_1 m_1 a4 l4 c4 (33 : Int) wl) ∧
  ∀ (m_1 : Nat) (a4_1 : Option Addr) (l4_1 c4_1 : Nat) (n7 : Int), AllJ 16 (∀ (wl_1 : World), I_1 m_1 a4_1 l4_1 c4_1 n7 wl_1 →
  BCase (decide (n7 < (127 : Int)))
  (∃ J : FP [.one (.bool)],
  (Calls Try.prog f_ref14_Byte #[.int .u8 n7] wl_1 fun e20 w20 => ∃ (n20 : Int), e20 = .returned (.int .i64 n20) ∧
  BCase (n20 == n14)
  (J (decide (n14 ≥ (0 : Int))) w20)
  (J false w20)) ∧
  ∀ (b26 : Bool), AllJ 7 (∀ (wj : World), J b26 wj →
  BCase b26
  (∀ (k29 : Nat) (w29 : World), k29 = wj.heap.size → w29 = wj.alloc (.cells #[.int .u8 n7] T_uint8) →
  ∃ (w30 : World) (a30 : Option Addr) (l30 c30 : Nat), (Builtin.append_ #[T_sl_uint8, T_sl_uint8] T_sl_uint8 #[.slice a4_1 l4_1 c4_1, .slice (some ⟨k29, 0, none⟩) 1 1]).run Try.prog w29 = .ok (.slice a30 l30 c30) w30 ∧
  ∃ m'_1 : Nat, m'_1 < m_1 ∧ I_1 m'_1 a30 l30 c30 (IntKind.u8.wrap (n7 + (1 : Int))) w30)
  (∃ m'_1 : Nat, m'_1 < m_1 ∧ I_1 m'_1 a4_1 l4_1 c4_1 (IntKind.u8.wrap (n7 + (1 : Int))) wj)))
  (∃ m' : Nat, m' < m ∧ I m' a4_1 l4_1 c4_1 (IntKind.i64.wrap (n11 + (1 : Int))) wl_1)))
  (BCase (((l4 : Nat) : Int) != ((l0 : Nat) : Int))
  (K (.tuple #[.string (mkS []), .bool false]) wl)
  (∃ (s38 : List UInt8), (convert T_sl_uint8 T_string (.slice a4 l4 c4)).run Try.prog wl = .ok (.string (mkS s38)) wl ∧
  K (.tuple #[.string (mkS s38), .bool true]) wl)))
theorem run_ref14_FromBytes (a0 : Option Addr) (l0 c0 : Nat) {w : World} {K : Value → World → Prop} (h : vc_ref14_FromBytes a0 l0 c0 w K) : Calls Try.prog f_ref14_FromBytes #[.slice a0 l0 c0] w (Ret K) :=
  calls_E (c := bodyOf Try.f21) (by kernel_rfl) Try.func21 (by kernel_rfl) [(8, [(4, .one (.slice)), (11, .one (.int .i64))]), (22, [(4, .one (.slice)), (7, .one (.int .u8))]), (31, [(26, .one (.bool))])] [.slice a0 l0 c0] (of_decide_eq_true (by kernel_rfl)) (vc_ref14_FromBytes a0 l0 c0 w K) (by kernel_rfl) h

--  cracknel/cracknelref14.Same
def vc_ref14_Same (a0 : Option Addr) (l0 c0 : Nat) (a1 : Option Addr) (l1 c1 : Nat) (w : World) (K : Value → World → Prop) : Prop :=
  BCase (((l0 : Nat) : Int) != ((l1 : Nat) : Int))
  (K (.bool false) w)
  (∃ I : Nat → FP [.one (.int .i64)],
  (∃ m : Nat, I m (0 : Int) w) ∧
  ∀ (m : Nat) (n13 : Int), AllJ 14 (∀ (wl : World), I m n13 wl →
  BCase (decide (n13 < ((l0 : Nat) : Int)))
  (((0 ≤ n13 ∧ n13 < ((l0 : Nat) : Int)) ∧ Option.isSome a0 = true) ∧
  ∃ (n19 : Int), (∀ u19 : World, Below wl.heap.size wl u19 → (Instr.loadAt T_int (.pointer (elemAddr a0 n13 1))).run Try.prog u19 = .ok (.int .i64 n19) u19) ∧
  ((0 ≤ n13 ∧ n13 < ((l1 : Nat) : Int)) ∧ Option.isSome a1 = true) ∧
  ∃ (n23 : Int), (∀ u23 : World, Below wl.heap.size wl u23 → (Instr.loadAt T_int (.pointer (elemAddr a1 n13 1))).run Try.prog u23 = .ok (.int .i64 n23) u23) ∧
  ∀ wq : World, Below wl.heap.size wl wq →
  BCase (n19 != n23)
  (K (.bool false) wq)
  (∃ m' : Nat, m' < m ∧ I m' (IntKind.i64.wrap (n13 + (1 : Int))) wq))
  (K (.bool true) wl)))
theorem run_ref14_Same (a0 : Option Addr) (l0 c0 : Nat) (a1 : Option Addr) (l1 c1 : Nat) {w : World} {K : Value → World → Prop} (h : vc_ref14_Same a0 l0 c0 a1 l1 c1 w K) : Calls Try.prog f_ref14_Same #[.slice a0 l0 c0, .slice a1 l1 c1] w (Ret K) :=
  calls_E (c := bodyOf Try.f22) (by kernel_rfl) Try.func22 (by kernel_rfl) [(14, [(13, .one (.int .i64))])] [.slice a0 l0 c0, .slice a1 l1 c1] (of_decide_eq_true (by kernel_rfl)) (vc_ref14_Same a0 l0 c0 a1 l1 c1 w K) (by kernel_rfl) h

--  slices.Sorted[string]
def vc_slices_Sorted_string (v0 : Value) (w : World) (K : Value → World → Prop) : Prop :=
  Calls Try.prog f_slices_Collect_string #[v0] w fun e5 w5 => ∃ (a5 : Option Addr) (l5 c5 : Nat), e5 = .returned (.slice a5 l5 c5) ∧
  Calls Try.prog f_slices_Sort_string_string #[.slice a5 l5 c5] w5 fun e7 w7 => e7 = .returned (.tuple #[]) ∧
  K (.slice a5 l5 c5) w7
theorem run_slices_Sorted_string (v0 : Value) {w : World} {K : Value → World → Prop} (h : vc_slices_Sorted_string v0 w K) : Calls Try.prog f_slices_Sorted_string #[v0] w (Ret K) :=
  calls_E (c := bodyOf Try.f24) (by kernel_rfl) Try.func24 (by kernel_rfl) [] [v0] (of_decide_eq_true (by kernel_rfl)) (vc_slices_Sorted_string v0 w K) (by kernel_rfl) h

--  slices.Values[[]string,string]
def vc_slices_Values_string_string (a0 : Option Addr) (l0 c0 : Nat) (w : World) (K : Value → World → Prop) : Prop :=
  ∀ (k1 : Nat) (w1 : World), k1 = w.heap.size → w1 = w.alloc (.cells #[.slice a0 l0 c0] T_sl_string) →
  K (.func (.func f_slices_Values_string_string_c1) #[] #[.pointer (some ⟨k1, 0, none⟩)]) w1
theorem run_slices_Values_string_string (a0 : Option Addr) (l0 c0 : Nat) {w : World} {K : Value → World → Prop} (h : vc_slices_Values_string_string a0 l0 c0 w K) : Calls Try.prog f_slices_Values_string_string #[.slice a0 l0 c0] w (Ret K) :=
  calls_E (c := bodyOf Try.f25) (by kernel_rfl) Try.func25 (by kernel_rfl) [] [.slice a0 l0 c0] (of_decide_eq_true (by kernel_rfl)) (vc_slices_Values_string_string a0 l0 c0 w K) (by kernel_rfl) h

--  cracknel/cracknelref14.has
def vc_ref14_has (a0 : Option Addr) (l0 c0 : Nat) (s1 : List UInt8) (w : World) (K : Value → World → Prop) : Prop :=
  ∃ I : Nat → FP [.one (.int .i64)],
  (∃ m : Nat, I m (0 : Int) w) ∧
  ∀ (m : Nat) (n9 : Int), AllJ 9 (∀ (wl : World), I m n9 wl →
  BCase (decide (n9 < ((l0 : Nat) : Int)))
  (((0 ≤ n9 ∧ n9 < ((l0 : Nat) : Int)) ∧ Option.isSome a0 = true) ∧
  ∃ (s12 : List UInt8), (Instr.loadAt T_string (.pointer (elemAddr a0 n9 1))).run Try.prog wl = .ok (.string (mkS s12)) wl ∧
  BCase (s12 == s1)
  (K (.bool true) wl)
  (∃ m' : Nat, m' < m ∧ I m' (IntKind.i64.wrap (n9 + (1 : Int))) wl))
  (K (.bool false) wl))
theorem run_ref14_has (a0 : Option Addr) (l0 c0 : Nat) (s1 : List UInt8) {w : World} {K : Value → World → Prop} (h : vc_ref14_has a0 l0 c0 s1 w K) : Calls Try.prog f_ref14_has #[.slice a0 l0 c0, .string (mkS s1)] w (Ret K) :=
  calls_E (c := bodyOf Try.f26) (by kernel_rfl) Try.func26 (by kernel_rfl) [(6, [(9, .one (.int .i64))])] [.slice a0 l0 c0, .string (mkS s1)] (of_decide_eq_true (by kernel_rfl)) (vc_ref14_has a0 l0 c0 s1 w K) (by kernel_rfl) h

--  cracknel/cracknelref14.less
def vc_ref14_less (s0 : List UInt8) (s1 : List UInt8) (w : World) (K : Value → World → Prop) : Prop :=
  ∃ I : Nat → FP [.one (.int .i64)],
  (∃ m : Nat, I m (0 : Int) w) ∧
  ∀ (m : Nat) (n5 : Int), AllJ 27 (∀ (wl : World), I m n5 wl →
  ∃ J : FP [],
  (BCase (decide (n5 < ((List.length s0 : Nat) : Int)))
  (BCase (decide (n5 < ((List.length s1 : Nat) : Int)))
  (J wl)
  (K (.bool (decide (((List.length s0 : Nat) : Int) < ((List.length s1 : Nat) : Int)))) wl))
  (K (.bool (decide (((List.length s0 : Nat) : Int) < ((List.length s1 : Nat) : Int)))) wl)) ∧
  AllJ 10 (∀ (wj : World), J wj →
  ((0 ≤ n5 ∧ n5 < ((List.length s0 : Nat) : Int))) ∧
  ((0 ≤ n5 ∧ n5 < ((List.length s1 : Nat) : Int))) ∧
  ∀ wq : World, Below wj.heap.size wj wq →
  BCase ((byteAt s0 n5) != (byteAt s1 n5))
  (((0 ≤ n5 ∧ n5 < ((List.length s0 : Nat) : Int))) ∧
  ((0 ≤ n5 ∧ n5 < ((List.length s1 : Nat) : Int))) ∧
  ∀ wq_1 : World, Below wq.heap.size wq wq_1 →
  K (.bool (decide ((byteAt s0 n5) < (byteAt s1 n5)))) wq_1)
  (∃ m' : Nat, m' < m ∧ I m' (IntKind.i64.wrap (n5 + (1 : Int))) wq)))
theorem run_ref14_less (s0 : List UInt8) (s1 : List UInt8) {w : World} {K : Value → World → Prop} (h : vc_ref14_less s0 s1 w K) : Calls Try.prog f_ref14_less #[.string (mkS s0), .string (mkS s1)] w (Ret K) :=
  calls_E (c := bodyOf Try.f27) (by kernel_rfl) Try.func27 (by kernel_rfl) [(6, [(5, .one (.int .i64))]), (7, [])] [.string (mkS s0), .string (mkS s1)] (of_decide_eq_true (by kernel_rfl)) (vc_ref14_less s0 s1 w K) (by kernel_rfl) h

--  cracknel/symbol.name
def vc_symbol_name (n0 : Int) (w : World) (K : Value → World → Prop) : Prop :=
  ∃ I : Nat → FP [.one (.int .i64), .one (.slice)],
  (∃ m : Nat, I m n0 none 0 0 w) ∧
  ∀ (m : Nat) (n0_1 : Int) (a3 : Option Addr) (l3 c3 : Nat), AllJ 12 (∀ (wl : World), I m n0_1 a3 l3 c3 wl →
  BCase (decide (n0_1 > (0 : Int)))
  (((38 : Int) ≠ 0) ∧
  ((0 ≤ (Int.tmod (IntKind.i64.wrap (n0_1 - (1 : Int))) (38 : Int)) ∧ (Int.tmod (IntKind.i64.wrap (n0_1 - (1 : Int))) (38 : Int)) < ((List.length [97, 98, 99, 100, 101, 102, 103, 104, 105, 106, 107, 108, 109, 110, 111, 112, 113, 114, 115, 116, 117, 118, 119, 120, 121, 122, 48, 49, 50, 51, 52, 53, 54, 55, 56, 57, 45, 95] : Nat) : Int))) ∧
  ∀ (k14 : Nat) (w14 : World), k14 = wl.heap.size → w14 = wl.alloc (.cells #[.int .u8 (byteAt [97, 98, 99, 100, 101, 102, 103, 104, 105, 106, 107, 108, 109, 110, 111, 112, 113, 114, 115, 116, 117, 118, 119, 120, 121, 122, 48, 49, 50, 51, 52, 53, 54, 55, 56, 57, 45, 95] (Int.tmod (IntKind.i64.wrap (n0_1 - (1 : Int))) (38 : Int)))] T_uint8) →
  ∃ (w15 : World) (a15 : Option Addr) (l15 c15 : Nat), (Builtin.append_ #[T_sl_uint8, T_sl_uint8] T_sl_uint8 #[.slice a3 l3 c3, .slice (some ⟨k14, 0, none⟩) 1 1]).run Try.prog w14 = .ok (.slice a15 l15 c15) w15 ∧
  ((38 : Int) ≠ 0) ∧
  ∃ m' : Nat, m' < m ∧ I m' (IntKind.i64.wrap (Int.tdiv (IntKind.i64.wrap (n0_1 - (1 : Int))) (38 : Int))) a15 l15 c15 w15)
  (Calls Try.prog f_slices_Reverse_byte_byte #[.slice a3 l3 c3] wl fun e17 w17 => e17 = .returned (.tuple #[]) ∧
  ∃ (s19 : List UInt8), (convert T_sl_uint8 T_string (.slice a3 l3 c3)).run Try.prog w17 = .ok (.string (mkS s19)) w17 ∧
  K (.string (mkS s19)) w17))
theorem run_symbol_name (n0 : Int) {w : World} {K : Value → World → Prop} (h : vc_symbol_name n0 w K) : Calls Try.prog f_symbol_name #[.int .i64 n0] w (Ret K) :=
  calls_E (c := bodyOf Try.f28) (by kernel_rfl) Try.func28 (by kernel_rfl) [(6, [(0, .one (.int .i64)), (3, .one (.slice))])] [.int .i64 n0] (of_decide_eq_true (by kernel_rfl)) (vc_symbol_name n0 w K) (by kernel_rfl) h

--  cracknel/cracknelref14.next
def vc_ref14_next (s0 : List UInt8) (w : World) (K : Value → World → Prop) : Prop :=
  ∃ (w6 : World) (a6 : Option Addr) (l6 c6 : Nat), (convert T_string T_sl_uint8 (.string (mkS s0))).run Try.prog w = .ok (.slice a6 l6 c6) w6 ∧
  ∃ I : Nat → FP [.one (.int .i64)],
  (∃ m : Nat, I m (IntKind.i64.wrap (((l6 : Nat) : Int) - (1 : Int))) w6) ∧
  ∀ (m : Nat) (n4 : Int), AllJ 24 (∀ (wl : World), I m n4 wl →
  BCase (decide (n4 ≥ (0 : Int)))
  (((0 ≤ n4 ∧ n4 < ((l6 : Nat) : Int)) ∧ Option.isSome a6 = true) ∧
  ∃ (n17 : Int), (Instr.loadAt T_uint8 (.pointer (elemAddr a6 n4 1))).run Try.prog wl = .ok (.int .u8 n17) wl ∧
  Calls Try.prog f_ref14_after #[.int .u8 n17] wl fun e18 w18 => ∃ (n18 : Int), e18 = .returned (.int .u8 n18) ∧
  BCase (decide (n18 > (0 : Int)))
  (((0 ≤ n4 ∧ n4 < ((l6 : Nat) : Int)) ∧ Option.isSome a6 = true) ∧
  ∃ (n25 : Int), (Instr.loadAt T_uint8 (.pointer (elemAddr a6 n4 1))).run Try.prog w18 = .ok (.int .u8 n25) w18 ∧
  Calls Try.prog f_ref14_after #[.int .u8 n25] w18 fun e26 w26 => ∃ (n26 : Int), e26 = .returned (.int .u8 n26) ∧
  ((0 ≤ n4 ∧ n4 < ((l6 : Nat) : Int)) ∧ Option.isSome a6 = true) ∧
  ∃ (wx : World), (Instr.storeAt T_uint8 (.pointer (elemAddr a6 n4 1)) (.int .u8 n26)).run Try.prog w26 = .ok () wx ∧
  ∃ (s29 : List UInt8), (convert T_sl_uint8 T_string (.slice a6 l6 c6)).run Try.prog wx = .ok (.string (mkS s29)) wx ∧
  K (.string (mkS s29)) wx)
  (((0 ≤ n4 ∧ n4 < ((l6 : Nat) : Int)) ∧ Option.isSome a6 = true) ∧
  ∃ (wx_1 : World), (Instr.storeAt T_uint8 (.pointer (elemAddr a6 n4 1)) (.int .u8 (97 : Int))).run Try.prog w18 = .ok () wx_1 ∧
  ∃ m' : Nat, m' < m ∧ I m' (IntKind.i64.wrap (n4 - (1 : Int))) wx_1))
  (∃ (s34 : List UInt8), (convert T_sl_uint8 T_string (.slice a6 l6 c6)).run Try.prog wl = .ok (.string (mkS s34)) wl ∧
  ((((List.length s34 + List.length [97] : Nat) : Int) ≤ IntKind.i64.max)) ∧
  K (.string (mkS (s34 ++ [97]))) wl))
theorem run_ref14_next (s0 : List UInt8) {w : World} {K : Value → World → Prop} (h : vc_ref14_next s0 w K) : Calls Try.prog f_ref14_next #[.string (mkS s0)] w (Ret K) :=
  calls_E (c := bodyOf Try.f29) (by kernel_rfl) Try.func29 (by kernel_rfl) [(8, [(4, .one (.int .i64))])] [.string (mkS s0)] (of_decide_eq_true (by kernel_rfl)) (vc_ref14_next s0 w K) (by kernel_rfl) h

--  cracknel/symbol.bytes
def vc_symbol_bytes  (w : World) (K : Value → World → Prop) : Prop :=
  ∃ I : Nat → FP [.one (.slice), .one (.int .u8)],
  (∃ m : Nat, I m none 0 0 (33 : Int) w) ∧
  ∀ (m : Nat) (a1 : Option Addr) (l1 c1 : Nat) (n2 : Int), AllJ 14 (∀ (wl : World), I m a1 l1 c1 n2 wl →
  BCase (decide (n2 ≤ (126 : Int)))
  (∃ J : FP [.one (.bool)],
  (BCase (n2 != (63 : Int))
  (J (n2 != (35 : Int)) wl)
  (J false wl)) ∧
  ∀ (b12 : Bool), AllJ 5 (∀ (wj : World), J b12 wj →
  BCase b12
  (∀ (k15 : Nat) (w15 : World), k15 = wj.heap.size → w15 = wj.alloc (.cells #[.int .u8 n2] T_uint8) →
  ∃ (w16 : World) (a16 : Option Addr) (l16 c16 : Nat), (Builtin.append_ #[T_sl_uint8, T_sl_uint8] T_sl_uint8 #[.slice a1 l1 c1, .slice (some ⟨k15, 0, none⟩) 1 1]).run Try.prog w15 = .ok (.slice a16 l16 c16) w16 ∧
  ∃ m' : Nat, m' < m ∧ I m' a16 l16 c16 (IntKind.u8.wrap (n2 + (1 : Int))) w16)
  (∃ m' : Nat, m' < m ∧ I m' a1 l1 c1 (IntKind.u8.wrap (n2 + (1 : Int))) wj)))
  (∃ (s18 : List UInt8), (convert T_sl_uint8 T_string (.slice a1 l1 c1)).run Try.prog wl = .ok (.string (mkS s18)) wl ∧
  K (.string (mkS s18)) wl))
theorem run_symbol_bytes  {w : World} {K : Value → World → Prop} (h : vc_symbol_bytes  w K) : Calls Try.prog f_symbol_bytes #[] w (Ret K) :=
  calls_E (c := bodyOf Try.f30) (by kernel_rfl) Try.func30 (by kernel_rfl) [(8, [(1, .one (.slice)), (2, .one (.int .u8))]), (17, [(12, .one (.bool))])] [] (of_decide_eq_true (by kernel_rfl)) (vc_symbol_bytes  w K) (by kernel_rfl) h

--  strings.IndexByte
def vc_strings_IndexByte (s0 : List UInt8) (n1 : Int) (w : World) (K : Value → World → Prop) : Prop :=
  Calls Try.prog f_internal_stringslite_IndexByte #[.string (mkS s0), .int .u8 n1] w fun e7 w7 => ∃ (n7 : Int), e7 = .returned (.int .i64 n7) ∧
  K (.int .i64 n7) w7
theorem run_strings_IndexByte (s0 : List UInt8) (n1 : Int) {w : World} {K : Value → World → Prop} (h : vc_strings_IndexByte s0 n1 w K) : Calls Try.prog f_strings_IndexByte #[.string (mkS s0), .int .u8 n1] w (Ret K) :=
  calls_E (c := bodyOf Try.f31) (by kernel_rfl) Try.func31 (by kernel_rfl) [] [.string (mkS s0), .int .u8 n1] (of_decide_eq_true (by kernel_rfl)) (vc_strings_IndexByte s0 n1 w K) (by kernel_rfl) h

--  cracknel/cracknelref14.Byte
def vc_ref14_Byte (n0 : Int) (w : World) (K : Value → World → Prop) : Prop :=
  ∃ I : Nat → FP [.one (.int .i64), .one (.int .u8)],
  (∃ m : Nat, I m (0 : Int) (33 : Int) w) ∧
  ∀ (m : Nat) (n3 : Int) (n4 : Int), AllJ 17 (∀ (wl : World), I m n3 n4 wl →
  BCase (decide (n4 < (127 : Int)))
  (∃ J : FP [],
  (BCase (n4 == (63 : Int))
  (∃ m' : Nat, m' < m ∧ I m' n3 (IntKind.u8.wrap (n4 + (1 : Int))) wl)
  (BCase (n4 == (35 : Int))
  (∃ m' : Nat, m' < m ∧ I m' n3 (IntKind.u8.wrap (n4 + (1 : Int))) wl)
  (J wl))) ∧
  AllJ 6 (∀ (wj : World), J wj →
  BCase (n4 == n0)
  (K (.int .i64 n3) wj)
  (∃ m' : Nat, m' < m ∧ I m' (IntKind.i64.wrap (n3 + (1 : Int))) (IntKind.u8.wrap (n4 + (1 : Int))) wj)))
  (K (.int .i64 (-1 : Int)) wl))
theorem run_ref14_Byte (n0 : Int) {w : World} {K : Value → World → Prop} (h : vc_ref14_Byte n0 w K) : Calls Try.prog f_ref14_Byte #[.int .u8 n0] w (Ret K) :=
  calls_E (c := bodyOf Try.f32) (by kernel_rfl) Try.func32 (by kernel_rfl) [(8, [(3, .one (.int .i64)), (4, .one (.int .u8))]), (17, [])] [.int .u8 n0] (of_decide_eq_true (by kernel_rfl)) (vc_ref14_Byte n0 w K) (by kernel_rfl) h

--  slices.Collect[string]
def vc_slices_Collect_string (v0 : Value) (w : World) (K : Value → World → Prop) : Prop :=
  Calls Try.prog f_slices_AppendSeq_string_string #[.slice none 0 0, v0] w fun e4 w4 => ∃ (a4 : Option Addr) (l4 c4 : Nat), e4 = .returned (.slice a4 l4 c4) ∧
  K (.slice a4 l4 c4) w4
theorem run_slices_Collect_string (v0 : Value) {w : World} {K : Value → World → Prop} (h : vc_slices_Collect_string v0 w K) : Calls Try.prog f_slices_Collect_string #[v0] w (Ret K) :=
  calls_E (c := bodyOf Try.f33) (by kernel_rfl) Try.func33 (by kernel_rfl) [] [v0] (of_decide_eq_true (by kernel_rfl)) (vc_slices_Collect_string v0 w K) (by kernel_rfl) h

--  slices.Sort[[]string,string]
def vc_slices_Sort_string_string (a0 : Option Addr) (l0 c0 : Nat) (w : World) (K : Value → World → Prop) : Prop :=
  Calls Try.prog f_math_bits_Len #[.int .u64 (IntKind.u64.wrap ((l0 : Nat) : Int))] w fun e9 w9 => ∃ (n9 : Int), e9 = .returned (.int .i64 n9) ∧
  Calls Try.prog f_slices_pdqsortOrdered_string #[.slice a0 l0 c0, .int .i64 (0 : Int), .int .i64 ((l0 : Nat) : Int), .int .i64 n9] w9 fun e10 w10 => e10 = .returned (.tuple #[]) ∧
  K (.tuple #[]) w10
theorem run_slices_Sort_string_string (a0 : Option Addr) (l0 c0 : Nat) {w : World} {K : Value → World → Prop} (h : vc_slices_Sort_string_string a0 l0 c0 w K) : Calls Try.prog f_slices_Sort_string_string #[.slice a0 l0 c0] w (Ret K) :=
  calls_E (c := bodyOf Try.f34) (by kernel_rfl) Try.func34 (by kernel_rfl) [] [.slice a0 l0 c0] (of_decide_eq_true (by kernel_rfl)) (vc_slices_Sort_string_string a0 l0 c0 w K) (by kernel_rfl) h

--  slices.Reverse[[]byte,byte]
def vc_slices_Reverse_byte_byte (a0 : Option Addr) (l0 c0 : Nat) (w : World) (K : Value → World → Prop) : Prop :=
  ∃ I : Nat → FP [.one (.int .i64), .one (.int .i64)],
  (∃ m : Nat, I m (0 : Int) (IntKind.i64.wrap (((l0 : Nat) : Int) - (1 : Int))) w) ∧
  ∀ (m : Nat) (n2 : Int) (n3 : Int), AllJ 21 (∀ (wl : World), I m n2 n3 wl →
  BCase (decide (n2 < n3))
  (((0 ≤ n3 ∧ n3 < ((l0 : Nat) : Int)) ∧ Option.isSome a0 = true) ∧
  ((0 ≤ n2 ∧ n2 < ((l0 : Nat) : Int)) ∧ Option.isSome a0 = true) ∧
  (∃ (n21 : Int), (Instr.loadAt T_uint8 (.pointer (elemAddr a0 n3 1))).run Try.prog (World.drew wl) = .ok (.int .u8 n21) (World.drew wl) ∧
  ∃ (n25 : Int), (Instr.loadAt T_uint8 (.pointer (elemAddr a0 n2 1))).run Try.prog (World.drew wl) = .ok (.int .u8 n25) (World.drew wl) ∧
  ((0 ≤ n2 ∧ n2 < ((l0 : Nat) : Int)) ∧ Option.isSome a0 = true) ∧
  ∃ (wx : World), (Instr.storeAt T_uint8 (.pointer (elemAddr a0 n2 1)) (.int .u8 n21)).run Try.prog (World.drew wl) = .ok () wx ∧
  ((0 ≤ n3 ∧ n3 < ((l0 : Nat) : Int)) ∧ Option.isSome a0 = true) ∧
  ∃ (wx_1 : World), (Instr.storeAt T_uint8 (.pointer (elemAddr a0 n3 1)) (.int .u8 n25)).run Try.prog wx = .ok () wx_1 ∧
  ∃ m' : Nat, m' < m ∧ I m' (IntKind.i64.wrap (n2 + (1 : Int))) (IntKind.i64.wrap (n3 - (1 : Int))) wx_1) ∧
  ∃ (n25_1 : Int), (Instr.loadAt T_uint8 (.pointer (elemAddr a0 n2 1))).run Try.prog (World.drew wl) = .ok (.int .u8 n25_1) (World.drew wl) ∧
  ∃ (n21_1 : Int), (Instr.loadAt T_uint8 (.pointer (elemAddr a0 n3 1))).run Try.prog (World.drew wl) = .ok (.int .u8 n21_1) (World.drew wl) ∧
  ((0 ≤ n2 ∧ n2 < ((l0 : Nat) : Int)) ∧ Option.isSome a0 = true) ∧
  ∃ (wx_2 : World), (Instr.storeAt T_uint8 (.pointer (elemAddr a0 n2 1)) (.int .u8 n21_1)).run Try.prog (World.drew wl) = .ok () wx_2 ∧
  ((0 ≤ n3 ∧ n3 < ((l0 : Nat) : Int)) ∧ Option.isSome a0 = true) ∧
  ∃ (wx_3 : World), (Instr.storeAt T_uint8 (.pointer (elemAddr a0 n3 1)) (.int .u8 n25_1)).run Try.prog wx_2 = .ok () wx_3 ∧
  ∃ m' : Nat, m' < m ∧ I m' (IntKind.i64.wrap (n2 + (1 : Int))) (IntKind.i64.wrap (n3 - (1 : Int))) wx_3)
  (K (.tuple #[]) wl))
theorem run_slices_Reverse_byte_byte (a0 : Option Addr) (l0 c0 : Nat) {w : World} {K : Value → World → Prop} (h : vc_slices_Reverse_byte_byte a0 l0 c0 w K) : Calls Try.prog f_slices_Reverse_byte_byte #[.slice a0 l0 c0] w (Ret K) :=
  calls_E (c := bodyOf Try.f36) (by kernel_rfl) Try.func36 (by kernel_rfl) [(3, [(2, .one (.int .i64)), (3, .one (.int .i64))])] [.slice a0 l0 c0] (of_decide_eq_true (by kernel_rfl)) (vc_slices_Reverse_byte_byte a0 l0 c0 w K) (by kernel_rfl) h

--  cracknel/cracknelref14.after
def vc_ref14_after (n0 : Int) (w : World) (K : Value → World → Prop) : Prop :=
  BCase (n0 == (122 : Int))
  (K (.int .u8 (48 : Int)) w)
  (BCase (n0 == (57 : Int))
  (K (.int .u8 (45 : Int)) w)
  (BCase (n0 == (45 : Int))
  (K (.int .u8 (95 : Int)) w)
  (BCase (n0 == (95 : Int))
  (K (.int .u8 (0 : Int)) w)
  (K (.int .u8 (IntKind.u8.wrap (n0 + (1 : Int)))) w))))
theorem run_ref14_after (n0 : Int) {w : World} {K : Value → World → Prop} (h : vc_ref14_after n0 w K) : Calls Try.prog f_ref14_after #[.int .u8 n0] w (Ret K) :=
  calls_E (c := bodyOf Try.f37) (by kernel_rfl) Try.func37 (by kernel_rfl) [] [.int .u8 n0] (of_decide_eq_true (by kernel_rfl)) (vc_ref14_after n0 w K) (by kernel_rfl) h

end Go.Proofs.Ytdamklkdjknnpaa
