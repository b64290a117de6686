/- The numbers of this translation's functions and types by their names; facts of the types. Its conditions: none. -/
import Derived.Test.YtdamklkdjknnpaaRows
import Derived.Test.YtdamklkdjknnpaaR
namespace Go.Proofs.Ytdamklkdjknnpaa
open Go.Pk
abbrev f_main_main : Nat := 0
abbrev f_gosem_cut : Nat := 1
abbrev f_gosem_cut_init : Nat := 2
abbrev f_law14_SymbolTells : Nat := 3
abbrev f_law14_SymbolBack : Nat := 4
abbrev f_law14_SymbolBytes : Nat := 5
abbrev f_law14_SymbolWords : Nat := 6
abbrev f_law14_symbolAlive : Nat := 7
abbrev f_law14_great : Nat := 8
abbrev f_symbol_New : Nat := 9
abbrev f_symbol_Alphabet_Len : Nat := 10
abbrev f_ref14_Texts : Nat := 11
abbrev f_symbol_Alphabet_Of : Nat := 12
abbrev f_ref14_Of : Nat := 13
abbrev f_symbol_Alphabet_Text : Nat := 14
abbrev f_ref14_Text : Nat := 15
abbrev f_symbol_Alphabet_Fresh : Nat := 16
abbrev f_ref14_Fresh : Nat := 17
abbrev f_symbol_Bytes : Nat := 18
abbrev f_ref14_Bytes : Nat := 19
abbrev f_symbol_FromBytes : Nat := 20
abbrev f_ref14_FromBytes : Nat := 21
abbrev f_ref14_Same : Nat := 22
abbrev f_slices_Compact_string_string : Nat := 23
abbrev f_slices_Sorted_string : Nat := 24
abbrev f_slices_Values_string_string : Nat := 25
abbrev f_ref14_has : Nat := 26
abbrev f_ref14_less : Nat := 27
abbrev f_symbol_name : Nat := 28
abbrev f_ref14_next : Nat := 29
abbrev f_symbol_bytes : Nat := 30
abbrev f_strings_IndexByte : Nat := 31
abbrev f_ref14_Byte : Nat := 32
abbrev f_slices_Collect_string : Nat := 33
abbrev f_slices_Sort_string_string : Nat := 34
abbrev f_slices_Values_string_string_c1 : Nat := 35
abbrev f_slices_Reverse_byte_byte : Nat := 36
abbrev f_ref14_after : Nat := 37
abbrev f_internal_stringslite_IndexByte : Nat := 38
abbrev f_slices_AppendSeq_string_string : Nat := 39
abbrev f_slices_pdqsortOrdered_string : Nat := 40
abbrev f_math_bits_Len : Nat := 41
abbrev f_internal_bytealg_IndexByteString : Nat := 42
abbrev f_slices_insertionSortOrdered_string : Nat := 43
abbrev f_slices_heapSortOrdered_string : Nat := 44
abbrev f_slices_breakPatternsOrdered_string : Nat := 45
abbrev f_slices_choosePivotOrdered_string : Nat := 46
abbrev f_slices_reverseRangeOrdered_string : Nat := 47
abbrev f_slices_partialInsertionSortOrdered_string : Nat := 48
abbrev f_cmp_Less_string : Nat := 49
abbrev f_slices_partitionEqualOrdered_string : Nat := 50
abbrev f_slices_partitionOrdered_string : Nat := 51
abbrev f_math_bits_Len32 : Nat := 52
abbrev f_math_bits_Len64 : Nat := 53
abbrev f_slices_siftDownOrdered_string : Nat := 54
abbrev f_slices_nextPowerOfTwo : Nat := 55
abbrev f_slices_xorshift_Next : Nat := 56
abbrev f_slices_medianAdjacentOrdered_string : Nat := 57
abbrev f_slices_medianOrdered_string : Nat := 58
abbrev f_cmp_isNaN_string : Nat := 59
abbrev f_slices_order2Ordered_string : Nat := 60
abbrev f_runtime_boundsError_Error : Nat := 61
abbrev f_runtime_boundsError_RuntimeError : Nat := 62
abbrev f_runtime_errorString_Error : Nat := 63
abbrev f_runtime_errorString_RuntimeError : Nat := 64
abbrev f_runtime_plainError_Error : Nat := 65
abbrev f_runtime_plainError_RuntimeError : Nat := 66
abbrev f_runtime_errorAddressString_Error : Nat := 67
abbrev f_runtime_errorAddressString_RuntimeError : Nat := 68
abbrev f_runtime_TypeAssertionError_Error : Nat := 69
abbrev f_runtime_TypeAssertionError_RuntimeError : Nat := 70
abbrev f_runtime_PanicNilError_Error : Nat := 71
abbrev f_runtime_PanicNilError_RuntimeError : Nat := 72
abbrev f_internal_abi_Type_Align : Nat := 73
abbrev f_internal_runtime_maps_unhashableTypeError_Error : Nat := 74
abbrev f_internal_runtime_maps_unhashableTypeError_RuntimeError : Nat := 75
abbrev f_internal_abi_Kind_String : Nat := 76
abbrev T_unit : Nat := 0
abbrev T_func : Nat := 1
abbrev T_int64 : Nat := 2
abbrev T_int : Nat := 3
abbrev T_bool : Nat := 4
abbrev T_uint8 : Nat := 5
abbrev T_abi_BoundsErrorCode : Nat := 6
abbrev T_struct_x_int64_y_int_signed_bool_code_abi_BoundsErrorCode : Nat := 7
abbrev T_runtime_boundsError : Nat := 8
abbrev T_string : Nat := 9
abbrev T_runtime_errorString : Nat := 10
abbrev T_runtime_plainError : Nat := 11
abbrev T_uintptr : Nat := 12
abbrev T_struct_msg_string_addr_uintptr : Nat := 13
abbrev T_runtime_errorAddressString : Nat := 14
abbrev T_p_runtime_TypeAssertionError : Nat := 15
abbrev T_p_runtime_PanicNilError : Nat := 16
abbrev T_p_abi_Type : Nat := 17
abbrev T_struct_typ_p_abi_Type : Nat := 18
abbrev T_maps_unhashableTypeError : Nat := 19
abbrev T_interface : Nat := 20
abbrev T_int32 : Nat := 21
abbrev T_sl_string : Nat := 22
abbrev T_func_bool : Nat := 23
abbrev T_func_sl_string_bool : Nat := 24
abbrev T_p_symbol_Alphabet : Nat := 25
abbrev T_func_string_p_symbol_Alphabet : Nat := 26
abbrev T_func_int : Nat := 27
abbrev T_func_sl_string_sl_string : Nat := 28
abbrev T_func_string_int : Nat := 29
abbrev T_func_sl_string_string_int : Nat := 30
abbrev T_func_int_string : Nat := 31
abbrev T_func_sl_string_int_string : Nat := 32
abbrev T_func_string : Nat := 33
abbrev T_func_sl_string_string : Nat := 34
abbrev T_func_sl_string_string_int_bool : Nat := 35
abbrev T_func_sl_string_string_bool : Nat := 36
abbrev T_sl_int : Nat := 37
abbrev T_sl_int_bool : Nat := 38
abbrev T_func_string_sl_int_bool : Nat := 39
abbrev T_string_bool : Nat := 40
abbrev T_func_int_string_bool : Nat := 41
abbrev T_func_sl_int_string_bool : Nat := 42
abbrev T_func_sl_int_sl_int_bool : Nat := 43
abbrev T_func_string_sl_int_bool_2 : Nat := 44
abbrev T_func_iter_Seq_string_sl_string : Nat := 45
abbrev T_func_func_string_bool : Nat := 46
abbrev T_iter_Seq_string : Nat := 47
abbrev T_func_sl_string_iter_Seq_string : Nat := 48
abbrev T_map_string_int : Nat := 49
abbrev T_struct_texts_sl_string_places_map_string_int : Nat := 50
abbrev T_symbol_Alphabet : Nat := 51
abbrev T_int_bool : Nat := 52
abbrev T_func_string_string_bool : Nat := 53
abbrev T_func_string_string : Nat := 54
abbrev T_sl_uint8 : Nat := 55
abbrev T_func_string_uint8_int : Nat := 56
abbrev T_func_uint8_int : Nat := 57
abbrev T_func_sl_string : Nat := 58
abbrev T_func_string_bool : Nat := 59
abbrev T_func_sl_uint8 : Nat := 60
abbrev T_func_uint8_uint8 : Nat := 61
abbrev T_func_sl_string_iter_Seq_string_sl_string : Nat := 62
abbrev T_func_sl_string_int_int_int : Nat := 63
abbrev T_func_uint_int : Nat := 64
abbrev T_uint : Nat := 65
abbrev T_func_sl_string_int_int : Nat := 66
abbrev T_slices_sortedHint : Nat := 67
abbrev T_int_slices_sortedHint : Nat := 68
abbrev T_func_sl_string_int_int_int_slices_sortedHint : Nat := 69
abbrev T_func_sl_string_int_int_bool : Nat := 70
abbrev T_func_sl_string_int_int_int_int : Nat := 71
abbrev T_func_sl_string_int_int_int_int_bool : Nat := 72
abbrev T_func_uint32_int : Nat := 73
abbrev T_uint32 : Nat := 74
abbrev T_func_uint64_int : Nat := 75
abbrev T_uint64 : Nat := 76
abbrev T_slices_xorshift : Nat := 77
abbrev T_func_int_uint : Nat := 78
abbrev T_func_uint64 : Nat := 79
abbrev T_func_sl_string_int_p_int_int : Nat := 80
abbrev T_p_int : Nat := 81
abbrev T_func_sl_string_int_int_int_p_int_int : Nat := 82
abbrev T_p_slices_xorshift : Nat := 83
abbrev T_int_int : Nat := 84
abbrev T_func_sl_string_int_int_p_int_int_int : Nat := 85
abbrev T_struct_interface_p_abi_Type_concrete_p_abi_Type_asserted_p_a : Nat := 86
abbrev T_runtime_TypeAssertionError : Nat := 87
abbrev T_arr0_p_runtime_PanicNilError : Nat := 88
abbrev T_struct_arr0_p_runtime_PanicNilError : Nat := 89
abbrev T_runtime_PanicNilError : Nat := 90
abbrev T_abi_TFlag : Nat := 91
abbrev T_abi_Kind : Nat := 92
abbrev T_func_unsafe_Pointer_unsafe_Pointer_bool : Nat := 93
abbrev T_p_uint8 : Nat := 94
abbrev T_abi_NameOff : Nat := 95
abbrev T_abi_TypeOff : Nat := 96
abbrev T_struct_Size_uintptr_PtrBytes_uintptr_Hash_uint32_TFlag_abi_T : Nat := 97
abbrev T_abi_Type : Nat := 98
abbrev T_unsafe_Pointer : Nat := 99
theorem un_int64 : Try.prog.underlying T_int64 = some (.int .i64) := by kernel_rfl
theorem tf_int64 : TF Try.prog T_int64 1 8 (.int .i64 (0 : Int)) := TF.of (by kernel_rfl) (by kernel_rfl) false (by kernel_rfl) (.inr rfl)
theorem un_int : Try.prog.underlying T_int = some (.int .i64) := by kernel_rfl
theorem tf_int : TF Try.prog T_int 1 8 (.int .i64 (0 : Int)) := TF.of (by kernel_rfl) (by kernel_rfl) false (by kernel_rfl) (.inr rfl)
theorem un_bool : Try.prog.underlying T_bool = some (.bool) := by kernel_rfl
theorem tf_bool : TF Try.prog T_bool 1 1 (.bool false) := TF.of (by kernel_rfl) (by kernel_rfl) false (by kernel_rfl) (.inr rfl)
theorem un_uint8 : Try.prog.underlying T_uint8 = some (.int .u8) := by kernel_rfl
theorem tf_uint8 : TF Try.prog T_uint8 1 1 (.int .u8 (0 : Int)) := TF.of (by kernel_rfl) (by kernel_rfl) false (by kernel_rfl) (.inr rfl)
theorem un_abi_BoundsErrorCode : Try.prog.underlying T_abi_BoundsErrorCode = some (.int .u8) := by kernel_rfl
theorem tf_abi_BoundsErrorCode : TF Try.prog T_abi_BoundsErrorCode 1 1 (.int .u8 (0 : Int)) := TF.of (by kernel_rfl) (by kernel_rfl) false (by kernel_rfl) (.inr rfl)
theorem tf_struct_x_int64_y_int_signed_bool_code_abi_BoundsErrorCode : TF Try.prog T_struct_x_int64_y_int_signed_bool_code_abi_BoundsErrorCode 4 24 (.agg #[.int .i64 (0 : Int), .int .i64 (0 : Int), .bool false, .int .u8 (0 : Int)]) := TF.of (by kernel_rfl) (by kernel_rfl) true (by kernel_rfl) (.inl rfl)
theorem tf_runtime_boundsError : TF Try.prog T_runtime_boundsError 4 24 (.agg #[.int .i64 (0 : Int), .int .i64 (0 : Int), .bool false, .int .u8 (0 : Int)]) := TF.of (by kernel_rfl) (by kernel_rfl) true (by kernel_rfl) (.inl rfl)
theorem un_string : Try.prog.underlying T_string = some (.string) := by kernel_rfl
theorem tf_string : TF Try.prog T_string 1 16 (.string (mkS [])) := TF.of (by kernel_rfl) (by kernel_rfl) false (by kernel_rfl) (.inr rfl)
theorem un_runtime_errorString : Try.prog.underlying T_runtime_errorString = some (.string) := by kernel_rfl
theorem tf_runtime_errorString : TF Try.prog T_runtime_errorString 1 16 (.string (mkS [])) := TF.of (by kernel_rfl) (by kernel_rfl) false (by kernel_rfl) (.inr rfl)
theorem un_runtime_plainError : Try.prog.underlying T_runtime_plainError = some (.string) := by kernel_rfl
theorem tf_runtime_plainError : TF Try.prog T_runtime_plainError 1 16 (.string (mkS [])) := TF.of (by kernel_rfl) (by kernel_rfl) false (by kernel_rfl) (.inr rfl)
theorem un_uintptr : Try.prog.underlying T_uintptr = some (.int .u64) := by kernel_rfl
theorem tf_uintptr : TF Try.prog T_uintptr 1 8 (.int .u64 (0 : Int)) := TF.of (by kernel_rfl) (by kernel_rfl) false (by kernel_rfl) (.inr rfl)
theorem tf_struct_msg_string_addr_uintptr : TF Try.prog T_struct_msg_string_addr_uintptr 2 24 (.agg #[.string (mkS []), .int .u64 (0 : Int)]) := TF.of (by kernel_rfl) (by kernel_rfl) true (by kernel_rfl) (.inl rfl)
theorem tf_runtime_errorAddressString : TF Try.prog T_runtime_errorAddressString 2 24 (.agg #[.string (mkS []), .int .u64 (0 : Int)]) := TF.of (by kernel_rfl) (by kernel_rfl) true (by kernel_rfl) (.inl rfl)
theorem un_p_runtime_TypeAssertionError : Try.prog.underlying T_p_runtime_TypeAssertionError = some (.pointer T_runtime_TypeAssertionError) := by kernel_rfl
theorem tf_p_runtime_TypeAssertionError : TF Try.prog T_p_runtime_TypeAssertionError 1 8 (.pointer none) := TF.of (by kernel_rfl) (by kernel_rfl) false (by kernel_rfl) (.inr rfl)
theorem un_p_runtime_PanicNilError : Try.prog.underlying T_p_runtime_PanicNilError = some (.pointer T_runtime_PanicNilError) := by kernel_rfl
theorem tf_p_runtime_PanicNilError : TF Try.prog T_p_runtime_PanicNilError 1 8 (.pointer none) := TF.of (by kernel_rfl) (by kernel_rfl) false (by kernel_rfl) (.inr rfl)
theorem un_p_abi_Type : Try.prog.underlying T_p_abi_Type = some (.pointer T_abi_Type) := by kernel_rfl
theorem tf_p_abi_Type : TF Try.prog T_p_abi_Type 1 8 (.pointer none) := TF.of (by kernel_rfl) (by kernel_rfl) false (by kernel_rfl) (.inr rfl)
theorem tf_struct_typ_p_abi_Type : TF Try.prog T_struct_typ_p_abi_Type 1 8 (.agg #[.pointer none]) := TF.of (by kernel_rfl) (by kernel_rfl) true (by kernel_rfl) (.inl rfl)
theorem tf_maps_unhashableTypeError : TF Try.prog T_maps_unhashableTypeError 1 8 (.agg #[.pointer none]) := TF.of (by kernel_rfl) (by kernel_rfl) true (by kernel_rfl) (.inl rfl)
theorem tf_interface : TF Try.prog T_interface 1 16 .nilIface := TF.of (by kernel_rfl) (by kernel_rfl) false (by kernel_rfl) (.inr rfl)
theorem un_int32 : Try.prog.underlying T_int32 = some (.int .i32) := by kernel_rfl
theorem tf_int32 : TF Try.prog T_int32 1 4 (.int .i32 (0 : Int)) := TF.of (by kernel_rfl) (by kernel_rfl) false (by kernel_rfl) (.inr rfl)
theorem un_sl_string : Try.prog.underlying T_sl_string = some (.slice T_string) := by kernel_rfl
theorem tf_sl_string : TF Try.prog T_sl_string 1 24 (.slice none 0 0) := TF.of (by kernel_rfl) (by kernel_rfl) false (by kernel_rfl) (.inr rfl)
theorem un_p_symbol_Alphabet : Try.prog.underlying T_p_symbol_Alphabet = some (.pointer T_symbol_Alphabet) := by kernel_rfl
theorem tf_p_symbol_Alphabet : TF Try.prog T_p_symbol_Alphabet 1 8 (.pointer none) := TF.of (by kernel_rfl) (by kernel_rfl) false (by kernel_rfl) (.inr rfl)
theorem un_sl_int : Try.prog.underlying T_sl_int = some (.slice T_int) := by kernel_rfl
theorem tf_sl_int : TF Try.prog T_sl_int 1 24 (.slice none 0 0) := TF.of (by kernel_rfl) (by kernel_rfl) false (by kernel_rfl) (.inr rfl)
theorem un_map_string_int : Try.prog.underlying T_map_string_int = some (.map T_string T_int) := by kernel_rfl
theorem tf_map_string_int : TF Try.prog T_map_string_int 1 8 (.map none) := TF.of (by kernel_rfl) (by kernel_rfl) false (by kernel_rfl) (.inr rfl)
theorem tf_struct_texts_sl_string_places_map_string_int : TF Try.prog T_struct_texts_sl_string_places_map_string_int 2 32 (.agg #[.slice none 0 0, .map none]) := TF.of (by kernel_rfl) (by kernel_rfl) true (by kernel_rfl) (.inl rfl)
theorem tf_symbol_Alphabet : TF Try.prog T_symbol_Alphabet 2 32 (.agg #[.slice none 0 0, .map none]) := TF.of (by kernel_rfl) (by kernel_rfl) true (by kernel_rfl) (.inl rfl)
theorem un_sl_uint8 : Try.prog.underlying T_sl_uint8 = some (.slice T_uint8) := by kernel_rfl
theorem tf_sl_uint8 : TF Try.prog T_sl_uint8 1 24 (.slice none 0 0) := TF.of (by kernel_rfl) (by kernel_rfl) false (by kernel_rfl) (.inr rfl)
theorem un_uint : Try.prog.underlying T_uint = some (.int .u64) := by kernel_rfl
theorem tf_uint : TF Try.prog T_uint 1 8 (.int .u64 (0 : Int)) := TF.of (by kernel_rfl) (by kernel_rfl) false (by kernel_rfl) (.inr rfl)
theorem un_slices_sortedHint : Try.prog.underlying T_slices_sortedHint = some (.int .i64) := by kernel_rfl
theorem tf_slices_sortedHint : TF Try.prog T_slices_sortedHint 1 8 (.int .i64 (0 : Int)) := TF.of (by kernel_rfl) (by kernel_rfl) false (by kernel_rfl) (.inr rfl)
theorem un_uint32 : Try.prog.underlying T_uint32 = some (.int .u32) := by kernel_rfl
theorem tf_uint32 : TF Try.prog T_uint32 1 4 (.int .u32 (0 : Int)) := TF.of (by kernel_rfl) (by kernel_rfl) false (by kernel_rfl) (.inr rfl)
theorem un_uint64 : Try.prog.underlying T_uint64 = some (.int .u64) := by kernel_rfl
theorem tf_uint64 : TF Try.prog T_uint64 1 8 (.int .u64 (0 : Int)) := TF.of (by kernel_rfl) (by kernel_rfl) false (by kernel_rfl) (.inr rfl)
theorem un_slices_xorshift : Try.prog.underlying T_slices_xorshift = some (.int .u64) := by kernel_rfl
theorem tf_slices_xorshift : TF Try.prog T_slices_xorshift 1 8 (.int .u64 (0 : Int)) := TF.of (by kernel_rfl) (by kernel_rfl) false (by kernel_rfl) (.inr rfl)
theorem un_p_int : Try.prog.underlying T_p_int = some (.pointer T_int) := by kernel_rfl
theorem tf_p_int : TF Try.prog T_p_int 1 8 (.pointer none) := TF.of (by kernel_rfl) (by kernel_rfl) false (by kernel_rfl) (.inr rfl)
theorem un_p_slices_xorshift : Try.prog.underlying T_p_slices_xorshift = some (.pointer T_slices_xorshift) := by kernel_rfl
theorem tf_p_slices_xorshift : TF Try.prog T_p_slices_xorshift 1 8 (.pointer none) := TF.of (by kernel_rfl) (by kernel_rfl) false (by kernel_rfl) (.inr rfl)
theorem tf_struct_interface_p_abi_Type_concrete_p_abi_Type_asserted_p_a : TF Try.prog T_struct_interface_p_abi_Type_concrete_p_abi_Type_asserted_p_a 4 40 (.agg #[.pointer none, .pointer none, .pointer none, .string (mkS [])]) := TF.of (by kernel_rfl) (by kernel_rfl) true (by kernel_rfl) (.inl rfl)
theorem tf_runtime_TypeAssertionError : TF Try.prog T_runtime_TypeAssertionError 4 40 (.agg #[.pointer none, .pointer none, .pointer none, .string (mkS [])]) := TF.of (by kernel_rfl) (by kernel_rfl) true (by kernel_rfl) (.inl rfl)
theorem un_arr0_p_runtime_PanicNilError : Try.prog.underlying T_arr0_p_runtime_PanicNilError = some (.array 0 T_p_runtime_PanicNilError) := by kernel_rfl
theorem un_abi_TFlag : Try.prog.underlying T_abi_TFlag = some (.int .u8) := by kernel_rfl
theorem tf_abi_TFlag : TF Try.prog T_abi_TFlag 1 1 (.int .u8 (0 : Int)) := TF.of (by kernel_rfl) (by kernel_rfl) false (by kernel_rfl) (.inr rfl)
theorem un_abi_Kind : Try.prog.underlying T_abi_Kind = some (.int .u8) := by kernel_rfl
theorem tf_abi_Kind : TF Try.prog T_abi_Kind 1 1 (.int .u8 (0 : Int)) := TF.of (by kernel_rfl) (by kernel_rfl) false (by kernel_rfl) (.inr rfl)
theorem un_p_uint8 : Try.prog.underlying T_p_uint8 = some (.pointer T_uint8) := by kernel_rfl
theorem tf_p_uint8 : TF Try.prog T_p_uint8 1 8 (.pointer none) := TF.of (by kernel_rfl) (by kernel_rfl) false (by kernel_rfl) (.inr rfl)
theorem un_abi_NameOff : Try.prog.underlying T_abi_NameOff = some (.int .i32) := by kernel_rfl
theorem tf_abi_NameOff : TF Try.prog T_abi_NameOff 1 4 (.int .i32 (0 : Int)) := TF.of (by kernel_rfl) (by kernel_rfl) false (by kernel_rfl) (.inr rfl)
theorem un_abi_TypeOff : Try.prog.underlying T_abi_TypeOff = some (.int .i32) := by kernel_rfl
theorem tf_abi_TypeOff : TF Try.prog T_abi_TypeOff 1 4 (.int .i32 (0 : Int)) := TF.of (by kernel_rfl) (by kernel_rfl) false (by kernel_rfl) (.inr rfl)
theorem tf_struct_Size_uintptr_PtrBytes_uintptr_Hash_uint32_TFlag_abi_T : TF Try.prog T_struct_Size_uintptr_PtrBytes_uintptr_Hash_uint32_TFlag_abi_T 11 48 (.agg #[.int .u64 (0 : Int), .int .u64 (0 : Int), .int .u32 (0 : Int), .int .u8 (0 : Int), .int .u8 (0 : Int), .int .u8 (0 : Int), .int .u8 (0 : Int), .nilFunc, .pointer none, .int .i32 (0 : Int), .int .i32 (0 : Int)]) := TF.of (by kernel_rfl) (by kernel_rfl) true (by kernel_rfl) (.inl rfl)
theorem tf_abi_Type : TF Try.prog T_abi_Type 11 48 (.agg #[.int .u64 (0 : Int), .int .u64 (0 : Int), .int .u32 (0 : Int), .int .u8 (0 : Int), .int .u8 (0 : Int), .int .u8 (0 : Int), .int .u8 (0 : Int), .nilFunc, .pointer none, .int .i32 (0 : Int), .int .i32 (0 : Int)]) := TF.of (by kernel_rfl) (by kernel_rfl) true (by kernel_rfl) (.inl rfl)
end Go.Proofs.Ytdamklkdjknnpaa
